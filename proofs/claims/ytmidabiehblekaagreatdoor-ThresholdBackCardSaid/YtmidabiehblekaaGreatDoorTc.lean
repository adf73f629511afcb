/- What functions of the program and of the document answer, and the plain laws behind it; each under the conditions that its own theorem names. -/
import Derived.Shelf.Strconv.AtoiAll
import Derived.Test.YtmidabiehblekaaGreatDoorAl3
import Derived.Test.YtmidabiehblekaaGreatDoorTa
import Derived.Test.YtmidabiehblekaaGreatDoorTb
import Derived.Lib.AtoiAll
import Derived.Lib.AtoiAllCases
import Derived.Test.YtmidabiehblekaaGreatDoorAl4
import Derived.Lib.LaidU8T
import Derived.Lib.ItoaNum
set_option linter.unusedVariables false
namespace Go.AL
open Go Go.Proofs Go.RowKit Go.Shelf
theorem zS {P : Program} (t : TypeId) {d : TypeDesc} [tu : TyU P t d] (w : World) : (isAgg t).run P w = .ok (z7 d) w := xg tu
theorem zU {P : Program} (t : TypeId) {s b : Nat} {z : Value} [ti : TyI P t s b z] (w : World) : (Go.sizeOf t).run P w = .ok s w := zO ti
theorem zW {P : Program} (t : TypeId) {s b : Nat} {z : Value} [ti : TyI P t s b z] (w : World) : (zeroValue t).run P w = .ok z w := zR ti
def zd0 : Ren := ⟨fun | 129 => 265 | 171 => 171 | 172 => 263 | 205 => 289 | 243 => 249 | 244 => 291 | 245 => 195 | 246 => 124 | 247 => 194 | 279 => 258 | 280 => 259 | 281 => 260 | 282 => 261 | 283 => 200 | 284 => 201 | 285 => 202 | 286 => 203 | 287 => 257 | 316 => 288 | 317 => 264 | 318 => 266 | 319 => 267 | 320 => 268 | 321 => 286 | 322 => 287 | 337 => 292 | 338 => 293 | x => x, fun | 0 => 0 | 2 => 2 | 3 => 3 | 4 => 4 | 5 => 5 | 9 => 9 | 20 => 20 | 21 => 21 | 37 => 82 | 46 => 148 | 51 => 168 | 53 => 201 | 75 => 128 | 143 => 307 | 145 => 309 | 167 => 269 | 168 => 270 | 210 => 296 | 76 => 156 | 85 => 129 | 127 => 240 | 171 => 227 | 173 => 230 | 175 => 234 | 212 => 276 | 213 => 277 | 232 => 175 | 233 => 311 | 80 => 64 | x => x, fun | 15 => 3 | 16 => 4 | 17 => 2 | 18 => 6 | 19 => 7 | x => x⟩
set_option maxRecDepth 100000 in
theorem vS : LaysC.n172 Tryz.prog zd0 where
  mixed := by kernel_rfl
  f129 := by kernel_rfl
  f171 := by kernel_rfl
  f172 := by kernel_rfl
  f205 := by kernel_rfl
  f243 := by kernel_rfl
  f244 := by kernel_rfl
  f245 := by kernel_rfl
  f246 := by kernel_rfl
  f247 := by kernel_rfl
  f279 := by kernel_rfl
  f280 := by kernel_rfl
  f281 := by kernel_rfl
  f282 := by kernel_rfl
  f283 := by kernel_rfl
  f284 := by kernel_rfl
  f285 := by kernel_rfl
  f286 := by kernel_rfl
  f287 := by kernel_rfl
  f316 := by kernel_rfl
  f317 := by kernel_rfl
  f318 := by kernel_rfl
  f319 := by kernel_rfl
  f320 := by kernel_rfl
  f321 := by kernel_rfl
  f322 := by kernel_rfl
  f337 := by kernel_rfl
  f338 := by kernel_rfl
  t0 := Tryz.underlying0
  a0 := fun w => zS (P := Tryz.prog) (d := (TypeDesc.tuple #[])) 0 w
  z0 := fun w => zU (P := Tryz.prog) 0 w
  v0 := fun w => zW (P := Tryz.prog) 0 w
  t2 := Tryz.underlying2
  a2 := fun w => zS (P := Tryz.prog) (d := (TypeDesc.int IntKind.i64)) 2 w
  z2 := fun w => zU (P := Tryz.prog) 2 w
  v2 := fun w => zW (P := Tryz.prog) 2 w
  t3 := Tryz.underlying3
  a3 := fun w => zS (P := Tryz.prog) (d := (TypeDesc.int IntKind.i64)) 3 w
  z3 := fun w => zU (P := Tryz.prog) 3 w
  v3 := fun w => zW (P := Tryz.prog) 3 w
  t4 := Tryz.underlying4
  a4 := fun w => zS (P := Tryz.prog) (d := TypeDesc.bool) 4 w
  z4 := fun w => zU (P := Tryz.prog) 4 w
  v4 := fun w => zW (P := Tryz.prog) 4 w
  t5 := Tryz.underlying5
  a5 := fun w => zS (P := Tryz.prog) (d := (TypeDesc.int IntKind.u8)) 5 w
  z5 := fun w => zU (P := Tryz.prog) 5 w
  v5 := fun w => zW (P := Tryz.prog) 5 w
  t9 := Tryz.underlying9
  a9 := fun w => zS (P := Tryz.prog) (d := TypeDesc.string) 9 w
  z9 := fun w => zU (P := Tryz.prog) 9 w
  v9 := fun w => zW (P := Tryz.prog) 9 w
  t20 := Tryz.underlying20
  a20 := fun w => zS (P := Tryz.prog) (d := (TypeDesc.interface #[])) 20 w
  z20 := fun w => zU (P := Tryz.prog) 20 w
  v20 := fun w => zW (P := Tryz.prog) 20 w
  t21 := Tryz.underlying21
  a21 := fun w => zS (P := Tryz.prog) (d := (TypeDesc.int IntKind.i32)) 21 w
  z21 := fun w => zU (P := Tryz.prog) 21 w
  v21 := fun w => zW (P := Tryz.prog) 21 w
  t37 := Tryz.underlying82
  a37 := fun w => zS (P := Tryz.prog) (d := (TypeDesc.slice 5)) 82 w
  z37 := fun w => zU (P := Tryz.prog) 82 w
  v37 := fun w => zW (P := Tryz.prog) 82 w
  t46 := Tryz.underlying148
  a46 := fun w => zS (P := Tryz.prog) (d := (TypeDesc.int IntKind.u64)) 148 w
  z46 := fun w => zU (P := Tryz.prog) 148 w
  v46 := fun w => zW (P := Tryz.prog) 148 w
  t51 := Tryz.underlying168
  a51 := fun w => zS (P := Tryz.prog) (d := (TypeDesc.int IntKind.u32)) 168 w
  z51 := fun w => zU (P := Tryz.prog) 168 w
  v51 := fun w => zW (P := Tryz.prog) 168 w
  t53 := Tryz.underlying201
  a53 := fun w => zS (P := Tryz.prog) (d := (TypeDesc.int IntKind.u64)) 201 w
  z53 := fun w => zU (P := Tryz.prog) 201 w
  v53 := fun w => zW (P := Tryz.prog) 201 w
  t75 := Tryz.underlying128
  a75 := fun w => zS (P := Tryz.prog) (d := (TypeDesc.interface #[("Error", 64)])) 128 w
  z75 := fun w => zU (P := Tryz.prog) 128 w
  v75 := fun w => zW (P := Tryz.prog) 128 w
  t76 := Tryz.underlying156
  a76 := fun w => zS (P := Tryz.prog) (d := (TypeDesc.tuple #[3, 128])) 156 w
  z76 := fun w => zU (P := Tryz.prog) 156 w
  v76 := fun w => zW (P := Tryz.prog) 156 w
  t85 := Tryz.underlying129
  a85 := fun w => zS (P := Tryz.prog) (d := (TypeDesc.tuple #[2, 128])) 129 w
  z85 := fun w => zU (P := Tryz.prog) 129 w
  v85 := fun w => zW (P := Tryz.prog) 129 w
  t127 := Tryz.underlying240
  a127 := fun w => zS (P := Tryz.prog) (d := (TypeDesc.pointer 5)) 240 w
  z127 := fun w => zU (P := Tryz.prog) 240 w
  v127 := fun w => zW (P := Tryz.prog) 240 w
  t143 := Tryz.underlying307
  a143 := fun w => zS (P := Tryz.prog) (d := (TypeDesc.pointer 309)) 307 w
  z143 := fun w => zU (P := Tryz.prog) 307 w
  v143 := fun w => zW (P := Tryz.prog) 307 w
  t145 := Tryz.underlying309
  a145 := fun w => zS (P := Tryz.prog) (d := (TypeDesc.struct #[{ name := "s", type := 9, offset := 0, embedded := false, tag := "", pkgPath := "errors", byteOffset := 0 }])) 309 w
  z145 := fun w => zU (P := Tryz.prog) 309 w
  v145 := fun w => zW (P := Tryz.prog) 309 w
  t167 := Tryz.underlying269
  a167 := fun w => zS (P := Tryz.prog) (d := (TypeDesc.int IntKind.i64)) 269 w
  z167 := fun w => zU (P := Tryz.prog) 269 w
  v167 := fun w => zW (P := Tryz.prog) 269 w
  t168 := Tryz.underlying270
  a168 := fun w => zS (P := Tryz.prog) (d := (TypeDesc.pointer 296)) 270 w
  z168 := fun w => zU (P := Tryz.prog) 270 w
  v168 := fun w => zW (P := Tryz.prog) 270 w
  t171 := Tryz.underlying227
  a171 := fun w => zS (P := Tryz.prog) (d := (TypeDesc.array 24 5)) 227 w
  z171 := fun w => zU (P := Tryz.prog) 227 w
  v171 := fun w => zW (P := Tryz.prog) 227 w
  t173 := Tryz.underlying230
  a173 := fun w => zS (P := Tryz.prog) (d := (TypeDesc.tuple #[82, 9])) 230 w
  z173 := fun w => zU (P := Tryz.prog) 230 w
  v173 := fun w => zW (P := Tryz.prog) 230 w
  t175 := Tryz.underlying234
  a175 := fun w => zS (P := Tryz.prog) (d := (TypeDesc.tuple #[201, 128])) 234 w
  z175 := fun w => zU (P := Tryz.prog) 234 w
  v175 := fun w => zW (P := Tryz.prog) 234 w
  t210 := Tryz.underlying296
  a210 := fun w => zS (P := Tryz.prog) (d := (TypeDesc.struct #[{ name := "Func", type := 9, offset := 0, embedded := false, tag := "", pkgPath := "", byteOffset := 0 }, { name := "Num", type := 9, offset := 1, embedded := false, tag := "", pkgPath := "", byteOffset := 16 }, { name := "Err", type := 128, offset := 2, embedded := false, tag := "", pkgPath := "", byteOffset := 32 }])) 296 w
  z210 := fun w => zU (P := Tryz.prog) 296 w
  v210 := fun w => zW (P := Tryz.prog) 296 w
  t212 := Tryz.underlying276
  a212 := fun w => zS (P := Tryz.prog) (d := (TypeDesc.array 20 201)) 276 w
  z212 := fun w => zU (P := Tryz.prog) 276 w
  v212 := fun w => zW (P := Tryz.prog) 276 w
  t213 := Tryz.underlying277
  a213 := fun w => zS (P := Tryz.prog) (d := (TypeDesc.array 65 5)) 277 w
  z213 := fun w => zU (P := Tryz.prog) 277 w
  t232 := Tryz.underlying175
  a232 := fun w => zS (P := Tryz.prog) (d := (TypeDesc.array 32 5)) 175 w
  z232 := fun w => zU (P := Tryz.prog) 175 w
  v232 := fun w => zW (P := Tryz.prog) 175 w
  t233 := Tryz.underlying311
  a233 := fun w => zS (P := Tryz.prog) (d := (TypeDesc.array 64 5)) 311 w
  z233 := fun w => zU (P := Tryz.prog) 311 w
  v233 := fun w => zW (P := Tryz.prog) 311 w
  g15 := by kernel_rfl
  g16 := by kernel_rfl
  g17 := by kernel_rfl
  g18 := by kernel_rfl
  g19 := by kernel_rfl
  t80 := Tryz.underlying64
  a80 := fun w => zS (P := Tryz.prog) (d := (TypeDesc.func #[] #[9] false)) 64 w
  z80 := fun w => zU (P := Tryz.prog) 64 w
  v80 := fun w => zW (P := Tryz.prog) 64 w
  i0 := by kernel_rfl
  i2 := by kernel_rfl
  i3 := by kernel_rfl
  i4 := by kernel_rfl
  i5 := by kernel_rfl
  i9 := by kernel_rfl
  i20 := by kernel_rfl
  i21 := by kernel_rfl
  i37 := by kernel_rfl
  i46 := by kernel_rfl
  i51 := by kernel_rfl
  i53 := by kernel_rfl
  i75 := by kernel_rfl
  i76 := by kernel_rfl
  i80 := by kernel_rfl
  i85 := by kernel_rfl
  i127 := by kernel_rfl
  i143 := by kernel_rfl
  i145 := by kernel_rfl
  i167 := by kernel_rfl
  i168 := by kernel_rfl
  i171 := by kernel_rfl
  i173 := by kernel_rfl
  i175 := by kernel_rfl
  i210 := by kernel_rfl
  i212 := by kernel_rfl
  i232 := by kernel_rfl
  i233 := by kernel_rfl
  m15 := by kernel_rfl
  m16 := by kernel_rfl
  m17 := by kernel_rfl
  m18 := by kernel_rfl
  m19 := by kernel_rfl
  c0 := by kernel_rfl
  c2 := by kernel_rfl
  c3 := by kernel_rfl
  c4 := by kernel_rfl
  c5 := by kernel_rfl
  c9 := by kernel_rfl
  c20 := by kernel_rfl
  c21 := by kernel_rfl
  c37 := by kernel_rfl
  c46 := by kernel_rfl
  c51 := by kernel_rfl
  c53 := by kernel_rfl
  c75 := by kernel_rfl
  c76 := by kernel_rfl
  c80 := by kernel_rfl
  c85 := by kernel_rfl
  c127 := by kernel_rfl
  c143 := by kernel_rfl
  c145 := by kernel_rfl
  c167 := by kernel_rfl
  c168 := by kernel_rfl
  c171 := by kernel_rfl
  c173 := by kernel_rfl
  c175 := by kernel_rfl
  c210 := by kernel_rfl
  c212 := by kernel_rfl
  c213 := by kernel_rfl
  c232 := by kernel_rfl
  c233 := by kernel_rfl
end Go.AL
set_option linter.unusedVariables false
namespace Go.AL
open Go
structure Vr where
  p : ByteArray
  mj : Int
  mn : Int
  fm : Int
  sz : Int
def Vr.toT (v : Vr) : T := .agg [.str v.p, .int .i64 v.mj, .int .i64 v.mn, .int .i64 v.fm, .int .i64 v.sz]
def Vr.zero : Vr := ⟨⟨#[]⟩, 0, 0, 0, 0⟩
def zgt (p : ByteArray) : Bool := decide (p.size = 4) && p.data.toList.all (fun b => decide (65 ≤ b.toNat ∧ b.toNat ≤ 90))
def Vr.valid (v : Vr) : Bool := decide (1 ≤ v.fm ∧ v.fm ≤ 3) && zgt v.p && decide (0 ≤ v.mj ∧ v.mj ≤ 15 ∧ 0 ≤ v.mn ∧ v.mn ≤ 15 ∧ 0 ≤ v.sz ∧ v.sz ≤ 16777215)
def zf8 (k : Int) : List UInt8 := if k = 1 then [74, 83, 79, 78] else if k = 2 then [67, 66, 79, 82] else if k = 3 then [77, 71, 80, 75] else []
def Vr.txt (v : Vr) : List UInt8 := v.p.data.toList ++ yh 1 v.mj.toNat ++ yh 1 v.mn.toNat ++ zf8 v.fm ++ yh 6 v.sz.toNat ++ [95]
end Go.AL
namespace Go.AL
end Go.AL
namespace Go.AL
def Vr.text (v : Vr) : ByteArray := if v.valid then ofL v.txt else ⟨#[]⟩
end Go.AL
namespace Go.AL
end Go.AL
set_option linter.unusedVariables false
namespace Go.AL
open Go
end Go.AL
set_option linter.unusedVariables false
namespace Go.AL
open Go Go.RowKit
def zgr (s t : ByteArray) : Bool := decide (t.size ≤ s.size) && decide (s.extract 0 t.size = t)
def Rs.skip (r : Rs) (t : ByteArray) : Bool × Rs := if zgr r.s t && !r.bad then (true, ⟨r.s.extract t.size r.s.size, false⟩) else (false, r)
def Rs.expect (r : Rs) (t : ByteArray) : Rs := if (r.skip t).1 = true then (r.skip t).2 else ⟨r.s, true⟩
end Go.AL
set_option linter.unusedVariables false
namespace Go.AL
open Go Go.RowKit Go.Lib
end Go.AL
set_option linter.unusedVariables false
namespace Go.AL
open Go Go.RowKit
end Go.AL
set_option linter.unusedVariables false
namespace Go.AL
open Go Go.RowKit
end Go.AL
set_option linter.unusedVariables false
namespace Go.AL
open Go Go.Proofs Go.RowKit
structure EOk (oS oR : Obj) : Prop where
  s : xq oS = true
  r : xq oR = true
theorem zbh {ob : Obj} {h : Heap} {m : zu} {w : World} {S : StL} {b : Nat} {id : Id} (he : xq ob = true) (hs : Sim h m (StL.get S) w) (hS : StL.get S id = some (.dat (.fix b ob))) : ∃ ev, w.cell? ⟨b, 0, none⟩ = some ev ∧ (ev = .nilIface ∨ ∃ te pe, ev = .iface te pe) := by
  obtain ⟨t, u, h1⟩ := kN he (zc2 hs hS)
  exact ⟨_, h1, .inr ⟨t, u, rfl⟩⟩
theorem Spec.of_belowS {P : Program} {f : FuncId} {args : List AV} {r : AV} {S : StL} (H : ∀ h m (vs : Array Value) w, Sim h m (StL.get S) w → vs.size = args.length → RepAs h m (fun j => vs[j]?) 0 args → Calls P f vs w fun e w' => ∃ v, e = .returned v ∧ (∀ h' m', RepA h' m' v r) ∧ Below w.heap.size w w') : Spec P f args S r S where
  run h m vs w hs hv hr := (H h m vs w hs hv hr).mono fun e w' ⟨v, he, hv', hb⟩ => by
    have := j7 hs hb
    exact ⟨v, h, m, he, hv' h m, this.1, this.2⟩
def eT (ok : Bool) : T := if ok then .nili else .iface
def zbY (l : List UInt8) : Int × Bool :=
  match Lib.atoiAll l with
  | .ok v => (v, true)
  | .range => (Lib.atoiSat l, false)
  | _ => (0, false)
theorem qh {oS oR : Obj} (G : EOk oS oR) (s : ByteArray) (hs : s.size ≤ 281474976710656) : Spec Tryz.prog 263 [.t (.str s)] [(.par 103, .dat (.fix 3 oS)), (.par 104, .dat (.fix 4 oR))] (.tup [.t (.int .i64 (zbY s.data.toList).1), .t (eT (zbY s.data.toList).2)]) [(.par 103, .dat (.fix 3 oS)), (.par 104, .dat (.fix 4 oR))] :=
  Spec.of_belowS fun h m vs w hS hv hr => by
    obtain rfl := zdb hv hr (u := .string s) fun v hv => by simpa [RepT] using hv
    obtain ⟨ev, e1, e2⟩ := zbh G.s hS (id := .par 103) rfl
    obtain ⟨ev', e1', e2'⟩ := zbh G.r hS (id := .par 104) rfl
    unfold zbY
    cases hA : Lib.atoiAll s.data.toList with
    | ok v =>
      refine (Any.strconv_Atoi_ok vS s (by omega) v hA w).mono fun e w' ⟨he, hw⟩ => ⟨_, he, fun h' m' => by simp [RepA, RepAs, RepT, eT], ?_⟩
      rcases hw with rfl | ⟨t, rfl⟩
      · exact Below.refl _ _
      · exact Lib.bytesWorld_below _ _ _
    | range => exact (Any.strconv_Atoi_range vS s hs hA ev' w e1' e2').mono fun e w' ⟨N, he, _, _, hb⟩ => ⟨_, he, fun h' m' => by simp [RepA, RepAs, RepT, eT], hb⟩
    | _ => exact (Any.strconv_Atoi_syntax vS s hs hA ev w e1 e2).mono fun e w' ⟨N, he, _, _, hb⟩ => ⟨_, he, fun h' m' => by simp [RepA, RepAs, RepT, eT], hb⟩
end Go.AL
set_option linter.unusedVariables false
namespace Go.AL
open Go Go.Proofs Go.RowKit
def zfB (c : Int) : Int := IntKind.u8.wrap ((BitVec.ofInt IntKind.u8.bits c ||| BitVec.ofInt IntKind.u8.bits 32).toNat : Int)
set_option maxHeartbeats 1000000 in
theorem zbK (c : Int) : Spec Tryz.prog 286 [.t (.int .u8 c)] [] (.t (.int .u8 (zfB c))) [] := by
  refine zc (env0 := [(0, _)]) (st0 := []) Tryz.func286 rfl rfl rfl rfl ?_
  repeat' (first | refine wC ?_ | refine wK ?_ | fail)
  exact zq (zi rfl rfl rfl) (by simp)
instance : CmpT Tryz.prog 269 := .of (by kernel_rfl)
end Go.AL
set_option linter.unusedVariables false
namespace Go.AL
open Go Go.Proofs Go.RowKit
theorem zgi {vs : Array Value} {a b : Value} (hn : vs.size = 2) (h0 : vs[0]? = some a) (h1 : vs[1]? = some b) : vs = #[a, b] := by
  apply Array.ext_getElem?
  intro i
  match i with
  | 0 => simpa using h0
  | 1 => simpa using h1
  | i + 2 => simp [hn]
theorem zdk (s : ByteArray) : Spec Tryz.prog 305 [.t (.str s), .t (.str ⟨#[47]⟩)] [] (.t (.int .i64 (Lib.indexByte s.data.toList 47))) [] :=
  Spec.of_belowS fun h m vs w hS hv hr => by
    simp only [RepAs, RepA, RepT, and_true] at hr
    obtain ⟨⟨u0, h0, rfl⟩, u1, h1, rfl⟩ := hr
    obtain rfl := zgi hv h0 h1
    exact (Any.stringslite_Index_one zde s 47 w).mono fun e w' ⟨he, hw⟩ => ⟨_, he, fun h' m' => by simp [RepA, RepT], by rw [hw]; exact Below.refl _ _⟩
def zfG (s : ByteArray) (i : Int) : List AV := if 0 ≤ i then [.t (.str (s.extract 0 i.toNat)), .t (.str (s.extract (i + 1).toNat s.size)), .t (.bool true)] else [.t (.str s), .t (.str eS), .t (.bool false)]
set_option maxHeartbeats 4000000 in
theorem zdz (s : ByteArray) (i : Int) (hi : Lib.indexByte s.data.toList 47 = i) (h0 : -1 ≤ i) (h1 : i < s.size) (hs : s.size ≤ 1000) : Spec Tryz.prog 290 [.t (.str s), .t (.str ⟨#[47]⟩)] [] (.tup (zfG s i)) [] := by
  have hI := zdk s
  rw [hi] at hI
  clear hi
  have z1 : (⟨#[47]⟩ : ByteArray).size = 1 := rfl
  unfold zfG
  by_cases h : 0 ≤ i
  · have w1 : IntKind.i64.wrap (i + 1) = i + 1 := zx (by omega) (by omega)
    rw [if_pos h, ← w1]
    refine zc (env0 := [(0, _), (1, _)]) (st0 := []) Tryz.func290 rfl rfl rfl rfl ?_
    repeat' (first | refine wC ?_ | (exfalso; omega) | refine wK ?_ | ((with_reducible refine v7 ?_); first | refine vx rfl rfl rfl ⟨_, rfl⟩ rfl rfl rfl ?_ ?_ ?_ ?_ | refine vx rfl rfl ⟨_, rfl⟩ rfl rfl rfl rfl ?_ ?_ ?_ ?_) | ((with_reducible refine zo ?_); refine zg rfl rfl hI rfl rfl (ArgsLE.refl _) rfl rfl rfl rfl rfl ?_) | refine zh rfl (fun hc => ?_) (fun hc => ?_))
    all_goals try (rw [show IntKind.i64.wrap (i + (((⟨#[47]⟩ : ByteArray).size : Nat) : Int)) = i + 1 from w1]; omega)
    all_goals try omega
    all_goals exact zq (xQ rfl (AVLE.refl _) (AVLE.refl _) (AVLE.refl _)) (by simp)
  · rw [if_neg h]
    refine zc (env0 := [(0, _), (1, _)]) (st0 := []) Tryz.func290 rfl rfl rfl rfl ?_
    repeat' (first | refine wC ?_ | (exfalso; omega) | refine wK ?_ | ((with_reducible refine zo ?_); refine zg rfl rfl hI rfl rfl (ArgsLE.refl _) rfl rfl rfl rfl rfl ?_) | refine zh rfl (fun hc => ?_) (fun hc => ?_))
    all_goals exact zq (xQ rfl (AVLE.refl _) (AVLE.refl _) (AVLE.refl _)) (by simp)
set_option maxHeartbeats 1000000 in
theorem zej (s : ByteArray) (i : Int) (hi : Lib.indexByte s.data.toList 47 = i) (h0 : -1 ≤ i) (h1 : i < s.size) (hs : s.size ≤ 1000) : Spec Tryz.prog 262 [.t (.str s), .t (.str ⟨#[47]⟩)] [] (.tup (zfG s i)) [] := by
  have hC := zdz s i hi h0 h1 hs
  clear hi h0 h1
  unfold zfG at hC ⊢
  by_cases h : 0 ≤ i
  · rw [if_pos h] at hC ⊢
    refine zc (env0 := [(0, _), (1, _)]) (st0 := []) Tryz.func262 rfl rfl rfl rfl ?_
    repeat' (first | refine wC ?_ | refine wK ?_ | ((with_reducible refine zo ?_); refine zg rfl rfl hC rfl rfl (ArgsLE.refl _) rfl rfl rfl rfl rfl ?_))
    all_goals exact zq (xQ rfl (AVLE.refl _) (AVLE.refl _) (AVLE.refl _)) (by simp)
  · rw [if_neg h] at hC ⊢
    refine zc (env0 := [(0, _), (1, _)]) (st0 := []) Tryz.func262 rfl rfl rfl rfl ?_
    repeat' (first | refine wC ?_ | refine wK ?_ | ((with_reducible refine zo ?_); refine zg rfl rfl hC rfl rfl (ArgsLE.refl _) rfl rfl rfl rfl rfl ?_))
    all_goals exact zq (xQ rfl (AVLE.refl _) (AVLE.refl _) (AVLE.refl _)) (by simp)
theorem zfd : ∀ f ∈ vn, (yy f).size ≤ 10 ∧ -1 ≤ Lib.indexByte (yy f).data.toList 47 ∧ Lib.indexByte (yy f).data.toList 47 < (yy f).size ∧ (if 0 ≤ Lib.indexByte (yy f).data.toList 47 then zbY ((yy f).extract 0 (Lib.indexByte (yy f).data.toList 47).toNat).data.toList = (f.n, true) ∧ zbY ((yy f).extract (Lib.indexByte (yy f).data.toList 47 + 1).toNat (yy f).size).data.toList = (f.d, true) else f.d = 1 ∧ zbY (yy f).data.toList = (f.n, true)) := by decide +kernel
set_option maxHeartbeats 4000000 in
theorem vJ {oS oR : Obj} (G : EOk oS oR) (f : Fr) (h : f ∈ vn) : Spec Tryz.prog 197 [.t (.str (yy f))] [(.par 103, .dat (.fix 3 oS)), (.par 104, .dat (.fix 4 oR))] (.t f.toT) [(.par 103, .dat (.fix 3 oS)), (.par 104, .dat (.fix 4 oR))] := by
  obtain ⟨z, i0, i1, hA⟩ := zfd f h
  clear h
  unfold Fr.toT
  generalize yy f = s at *
  obtain ⟨n, d⟩ := f
  simp only at hA
  obtain ⟨i, hi⟩ : ∃ i, i = Lib.indexByte s.data.toList 47 := ⟨_, rfl⟩
  rw [← hi] at i0 i1 hA
  have hC := zej s i hi.symm i0 i1 (by omega)
  unfold zfG at hC
  by_cases hp : 0 ≤ i
  · rw [if_pos hp] at hC hA
    have hA1 := qh G (s.extract 0 i.toNat) (by rw [ByteArray.size_extract]; omega)
    have hA2 := qh G (s.extract (i + 1).toNat s.size) (by rw [ByteArray.size_extract]; omega)
    rw [hA.1] at hA1
    rw [hA.2] at hA2
    generalize s.extract 0 i.toNat = s1 at *
    generalize s.extract (i + 1).toNat s.size = s2 at *
    refine zc (env0 := [(0, _)]) (st0 := [(_, some _), (_, some _)]) Tryz.func197 rfl rfl rfl rfl ?_
    repeat' (first | refine wC ?_ | refine wK ?_ | ((with_reducible refine zo ?_); first | refine zg rfl rfl hC rfl rfl (ArgsLE.refl _) rfl rfl rfl rfl rfl ?_ | refine zr (r' := (.tup [.t (.int .i64 n), .t .nili])) [] rfl rfl hA1 (ArgsLE.refl _) rfl ⟨rfl, rfl, trivial⟩ rfl rfl rfl rfl rfl rfl rfl rfl rfl rfl ?_ | refine zr (r' := (.tup [.t (.int .i64 d), .t .nili])) [] rfl rfl hA2 (ArgsLE.refl _) rfl ⟨rfl, rfl, trivial⟩ rfl rfl rfl rfl rfl rfl rfl rfl rfl rfl ?_))
    refine zq ?_ (zf ⟨rfl, rfl, trivial⟩); refine zF rfl rfl rfl inferInstance rfl inferInstance rfl ?_; exact TLe.av wT
  · rw [if_neg hp] at hC hA
    obtain ⟨rfl, hA⟩ := hA
    have hA1 := qh G s (by omega)
    rw [hA] at hA1
    refine zc (env0 := [(0, _)]) (st0 := [(_, some _), (_, some _)]) Tryz.func197 rfl rfl rfl rfl ?_
    repeat' (first | refine wC ?_ | refine wK ?_ | ((with_reducible refine zo ?_); first | refine zg rfl rfl hC rfl rfl (ArgsLE.refl _) rfl rfl rfl rfl rfl ?_ | refine zr (r' := (.tup [.t (.int .i64 n), .t .nili])) [] rfl rfl hA1 (ArgsLE.refl _) rfl ⟨rfl, rfl, trivial⟩ rfl rfl rfl rfl rfl rfl rfl rfl rfl rfl ?_))
    refine zq ?_ (zf ⟨rfl, rfl, trivial⟩); refine zF rfl rfl rfl inferInstance rfl inferInstance rfl ?_; exact TLe.av wT
end Go.AL
set_option linter.unusedVariables false
namespace Go.AL
open Go Go.Proofs Go.RowKit
theorem zex {l : List Fr} (h : ∀ f ∈ l, f ∈ vn) {j : Nat} (hj : j < l.length) : l.getD (j : Int).toNat default ∈ vn := h _ (by rw [Int.toNat_natCast, List.getD_eq_getElem?_getD, List.getElem?_eq_getElem hj]; exact List.getElem_mem _)
theorem kj {α : Type} [Inhabited α] {l : List α} {j : Nat} (hj : j < l.length) : l.take (j + 1) = l.take j ++ [l.getD (j : Int).toNat default] := by
  rw [List.take_add_one, List.getElem?_eq_getElem hj, Option.toList_some, Int.toNat_natCast, List.getD_eq_getElem?_getD, List.getElem?_eq_getElem hj]; rfl
set_option maxHeartbeats 4000000 in
theorem qG {oP : Obj} (hP : z6 .u64 Lib.pow10Tab oP) (l : List Fr) (h : ∀ f ∈ l, f ∈ vn) (hl : l.length ≤ 1000) : Spec Tryz.prog 69 [.t (frs l)] [(.par 102, .dat (.fix 2 oP))] (.t (zl l).toT) [(.par 102, .dat (.fix 2 oP))] := by
  have hT := zb8 (l.map yy) (by simp; omega)
  have e : Nd.ofTexts (l.map yy) = zl l := by unfold Nd.ofTexts zl; rw [List.map_map]; rfl
  rw [e] at hT
  have hF := (zl l).toT_full
  rw [hF] at hT ⊢
  generalize (zl l).kind = yk at *
  generalize (zl l).bool = yb at *
  generalize (zl l).num = yn at *
  generalize (zl l).text = yt at *
  generalize (zl l).names = ym at *
  generalize (zl l).items = yi at *
  clear e hF
  unfold frs
  refine zc (env0 := [(0, _)]) (st0 := [(_, some _)]) Tryz.func69 rfl rfl rfl rfl ?_
  repeat' (first | refine wC ?_ | refine wK ?_ | fail)
  refine zd (yw 3 (.loc 100) 9 1 rfl rfl rfl) ?_
  refine zd (za [2, 3, 6, 7, 8] [.loc 2, .loc 100, .par 102] rfl rfl) ?_
  refine zp (fun q env st => ∃ (j : Nat), j ≤ l.length ∧ q = l.length - j ∧ env = EnvL.get [(2, .ref (.loc 2) 0 0 0), (3, .row (.loc 100)), (6, .t (.sl 2 (l.map Fr.toT))), (7, .t (.int .i64 (l.length : Int))), (8, .t (.int .i64 (j : Int)))] ∧
      st = StO.get [(.loc 2, some (.var 30 [.t (.int .i64 0), .t (.bool false), .t (.int .i64 0), .t (.str ⟨#[]⟩), .t .nilsl, .t .nilsl])), (.loc 100, some (.slt 9 1 (((l.take j).map yy).map .str))), (.par 102, some (.dat (.fix 2 oP)))])
    ?_ (n := l.length) ⟨0, by omega, rfl, rfl, rfl⟩
  rintro q env st ⟨j, hj, rfl, rfl, rfl⟩
  have wj : IntKind.i64.wrap ((j : Int) + 1) = ((j + 1 : Nat) : Int) := by rw [zx (by omega) (by omega)]; omega
  by_cases hlt : j < l.length
  · have hcl := zbP hP (l.getD (j : Int).toNat default) (zex h hlt)
    have ht := congrArg (List.map yy) (kj hlt)
    rw [List.map_append, List.map_singleton] at ht
    generalize hW : yy (l.getD (j : Int).toNat default) = W at *
    unfold Fr.toT at hcl
    repeat' (first | refine wC ?_ | (exfalso; omega) | refine wK ?_ | ((with_reducible refine ze ?_); refine zb rfl rfl rfl rfl rfl rfl ?_ ?_ ?_) | ((with_reducible refine yo ?_); refine zL rfl rfl rfl rfl rfl rfl rfl rfl rfl rfl ?_ ?_ ?_) | ((with_reducible refine zo ?_); refine zr (r' := (.t (.str W))) [] rfl rfl hcl (ArgsLE.refl _) rfl ⟨rfl, trivial⟩ rfl rfl rfl rfl rfl rfl rfl rfl rfl rfl ?_) | refine zh rfl (fun hc => ?_) (fun hc => ?_))
    all_goals try (simp only [List.length_map, List.length_cons, List.length_nil, List.length_take]; omega)
    all_goals try omega
    all_goals try rfl
    refine zN (n' := l.length - (j + 1)) (by omega) ((za [2, 3, 6, 7, 8] [.loc 2, .loc 16, .par 102] rfl rfl).trans (zv (.loc 16) (.loc 100) rfl rfl rfl rfl)) ⟨j + 1, by omega, rfl, by rw [wj]; rfl, by rw [ht, List.map_append, List.map_singleton]; rfl⟩
  · obtain rfl : j = l.length := by omega
    rw [List.take_length]
    refine zd (zy (id := .loc 100) rfl rfl rfl) ?_
    repeat' (first | refine wC ?_ | (exfalso; omega) | refine wK ?_ | ((with_reducible refine zo ?_); refine zg rfl rfl hT rfl rfl (ArgsLE.refl _) rfl rfl rfl rfl rfl ?_) | refine zh rfl (fun hc => ?_) (fun hc => ?_))
    refine zq ?_ (zf ⟨rfl, trivial⟩); refine zF rfl rfl rfl inferInstance rfl inferInstance rfl ?_; exact TLe.av wT
theorem va (l : List Fr) (h : l.length ≤ 1000000000) : (zl l).Ok := by
  refine .mk (by simp) (by rw [List.length_map]; omega) fun x hx => ?_
  obtain ⟨f, _, rfl⟩ := List.mem_map.1 hx
  exact .mk (by simp) (by simp) (by simp)
theorem zak {t : Th} (h : t.Nice) : (y5 t).Ok := by
  obtain ⟨n, w⟩ := t
  obtain ⟨h6, hw⟩ := h
  simp only at h6 hw
  rcases hw with ⟨h1, h2, rfl⟩ | ⟨rfl, ⟨l, rfl⟩ | ⟨l, m, rfl⟩⟩
  · rw [show y5 ⟨n, []⟩ = .mk 3 false 0 (ofL (yh 1 n.toNat)) [] [] from if_pos (.inl (by show n ≠ 0; omega))]
    exact .mk (by simp) (by simp) (by simp)
  · rw [show y5 ⟨0, [l]⟩ = zl l from if_neg (by simp)]
    have := (h6 l (by simp)).2.1
    exact va l (by omega)
  · rw [show y5 ⟨0, [l, m]⟩ = .mk 4 false 0 eS [] [zl l, zl m] from if_neg (by simp)]
    have h1 := (h6 l (by simp)).2.1
    have h2 := (h6 m (by simp)).2.1
    refine .mk (by simp) (by simp) fun x hx => ?_
    simp only [List.mem_cons, List.not_mem_nil, or_false] at hx
    rcases hx with rfl | rfl
    · exact va l (by omega)
    · exact va m (by omega)
theorem zbw (n : Int) (h : n ≠ 0) (w : List (List Fr)) : y5 ⟨n, w⟩ = .mk 3 false 0 (ofL (yh 1 n.toNat)) [] [] := if_pos (.inl h)
set_option maxHeartbeats 4000000 in
theorem wm {oP oD : Obj} (hP : z6 .u64 Lib.pow10Tab oP) (G : z6 .u8 deB oD) (t : Th) (ht : t.Nice) : Spec Tryz.prog 29 [.t t.toT] [(.par 102, .dat (.fix 2 oP)), (.par 105, .dat (.fix 7 oD))] (.t (y5 t).toT) [(.par 102, .dat (.fix 2 oP)), (.par 105, .dat (.fix 7 oD))] := by
  have hOk := zak ht
  obtain ⟨n, w⟩ := t
  obtain ⟨h6, hw⟩ := ht
  simp only at h6 hw
  rcases hw with ⟨h1, h2, rfl⟩ | ⟨rfl, ⟨l, rfl⟩ | ⟨l, m, rfl⟩⟩
  · rw [zbw n (by omega)]
    have hF := qN G n.toNat 0 (by omega) (by simp; omega) (.inl rfl)
    rw [show ((n.toNat : Nat) : Int) = n by omega] at hF
    have hT := jH (ofL (yh (0 + 1) n.toNat))
    rw [show (0 + 1 : Nat) = 1 from rfl] at hF hT
    generalize ofL (yh 1 n.toNat) = s at *
    have hF2 := (Nd.mk 3 false 0 s [] []).toT_full
    rw [hF2] at hT ⊢
    simp only [Nd.kind, Nd.bool, Nd.num, Nd.text, Nd.names, Nd.items] at hT ⊢
    unfold Th.toT
    refine zc (env0 := [(0, _)]) (st0 := [(_, some _), (_, some _)]) Tryz.func29 rfl rfl rfl rfl ?_
    repeat' (first | refine wC ?_ | refine wK ?_ | ((with_reducible refine zo ?_); first | refine zr (r' := (.t (.str s))) [] rfl rfl hF (ArgsLE.refl _) rfl ⟨rfl, trivial⟩ rfl rfl rfl rfl rfl rfl rfl rfl rfl rfl ?_ | refine zg rfl rfl hT rfl rfl (ArgsLE.refl _) rfl rfl rfl rfl rfl ?_) | refine xj rfl (fun hc => ?_) (fun hc => ?_))
    all_goals try (exfalso; simp at *; done)
    all_goals (refine zq ?_ (zf ⟨rfl, rfl, trivial⟩); refine zF rfl rfl rfl inferInstance rfl inferInstance rfl ?_; exact TLe.av wT)
  · have hl := h6 l (List.mem_singleton.2 rfl)
    rw [show y5 ⟨0, [l]⟩ = zl l from if_neg (by simp)]
    have hX := qG hP l hl.2.2 (by omega)
    rw [(zl l).toT_full] at hX ⊢
    generalize (zl l).kind = yk at *
    generalize (zl l).bool = yb at *
    generalize (zl l).num = yn at *
    generalize (zl l).text = yt at *
    generalize (zl l).names = ym at *
    generalize (zl l).items = yi at *
    unfold Th.toT
    refine zc (env0 := [(0, _)]) (st0 := [(_, some _), (_, some _)]) Tryz.func29 rfl rfl rfl rfl ?_
    repeat' (first | refine wC ?_ | refine wK ?_ | ((with_reducible refine ze ?_); refine zb rfl rfl rfl rfl rfl rfl ?_ ?_ ?_) | ((with_reducible refine zo ?_); refine zr (r' := (.t (.agg [.int .i64 yk, .bool yb, .int .i64 yn, .str yt, .sl 1 (ym.map .str), .sl 6 (yi.map Nd.toT)]))) [] rfl rfl hX (ArgsLE.refl _) rfl ⟨rfl, trivial⟩ rfl rfl rfl rfl rfl rfl rfl rfl rfl rfl ?_))
    all_goals try (exfalso; simp at *; done)
    all_goals try (simp; done)
    all_goals (refine zq ?_ (zf ⟨rfl, rfl, trivial⟩); refine zF rfl rfl rfl inferInstance rfl inferInstance rfl ?_; exact TLe.av wT)
  · obtain ⟨w, hw⟩ : ∃ w, w = [l, m] := ⟨_, rfl⟩
    have hwl : w.length = 2 := by rw [hw]; rfl
    have eN : y5 ⟨0, [l, m]⟩ = .mk 4 false 0 eS [] (w.map zl) := by rw [hw]; exact if_neg (by simp)
    have hO : (Nd.mk 4 false 0 eS [] (w.map zl)).Ok := by rw [← eN]; exact hOk
    rw [eN]
    clear eN hOk
    rw [← hw] at h6 ⊢
    clear hw
    have hL := zcI (w.map zl) hO
    clear hO
    rw [(Nd.mk 4 false 0 eS [] (w.map zl)).toT_full] at hL ⊢
    simp only [Nd.kind, Nd.bool, Nd.num, Nd.text, Nd.names, Nd.items] at hL ⊢
    unfold Th.toT
    refine zc (env0 := [(0, _)]) (st0 := [(_, some _), (_, some _)]) Tryz.func29 rfl rfl rfl rfl ?_
    repeat' (first | refine wC ?_ | (exfalso; simp only [List.length_map] at *; omega) | refine wK ?_ | refine zh rfl (fun hc => ?_) (fun hc => ?_))
    refine zd (yw 3 (.loc 100) 30 6 rfl rfl rfl) ?_
    refine zd (za [2, 3, 31, 32, 33] [.loc 2, .loc 100, .par 102, .par 105] rfl rfl) ?_
    refine zp (fun q env st => ∃ (j : Nat), j ≤ w.length ∧ q = w.length - j ∧ env = EnvL.get [(2, .ref (.loc 2) 0 0 0), (3, .row (.loc 100)), (31, .t (.sl 1 (w.map frs))), (32, .t (.int .i64 (w.length : Int))), (33, .t (.int .i64 (j : Int)))] ∧
        st = StO.get [(.loc 2, some (.var 30 [.t (.int .i64 0), .t (.bool false), .t (.int .i64 0), .t (.str ⟨#[]⟩), .t .nilsl, .t .nilsl])), (.loc 100, some (.slt 30 6 (((w.take j).map zl).map Nd.toT))), (.par 102, some (.dat (.fix 2 oP))), (.par 105, some (.dat (.fix 7 oD)))])
      ?_ (n := w.length) ⟨0, by omega, rfl, rfl, rfl⟩
    rintro q env st ⟨j, hj, rfl, rfl, rfl⟩
    have wj : IntKind.i64.wrap ((j : Int) + 1) = ((j + 1 : Nat) : Int) := by rw [zx (by omega) (by omega)]; omega
    by_cases hlt : j < w.length
    · have hm6 := h6 (w.getD (j : Int).toNat default) (by rw [Int.toNat_natCast, List.getD_eq_getElem?_getD, List.getElem?_eq_getElem hlt]; exact List.getElem_mem _)
      have hcl := qG hP (w.getD (j : Int).toNat default) hm6.2.2 (by omega)
      have ht := congrArg (List.map zl) (kj hlt)
      rw [List.map_append, List.map_singleton] at ht
      generalize hW : zl (w.getD (j : Int).toNat default) = W at *
      have hWT := W.toT_full
      rw [hWT] at hcl
      repeat' (first | refine wC ?_ | (exfalso; omega) | refine wK ?_ | ((with_reducible refine ze ?_); refine zb rfl rfl rfl rfl rfl rfl ?_ ?_ ?_) | ((with_reducible refine yo ?_); refine zL rfl rfl rfl rfl rfl rfl rfl rfl rfl rfl ?_ ?_ ?_) | ((with_reducible refine zo ?_); refine zr (r' := (.t (.agg [.int .i64 W.kind, .bool W.bool, .int .i64 W.num, .str W.text, .sl 1 (W.names.map .str), .sl 6 (W.items.map Nd.toT)]))) [] rfl rfl hcl (ArgsLE.refl _) rfl ⟨rfl, trivial⟩ rfl rfl rfl rfl rfl rfl rfl rfl rfl rfl ?_) | refine zh rfl (fun hc => ?_) (fun hc => ?_))
      all_goals try (simp only [List.length_map, List.length_cons, List.length_nil, List.length_take]; omega)
      all_goals try omega
      all_goals try rfl
      refine zN (n' := w.length - (j + 1)) (by omega) ((za [2, 3, 31, 32, 33] [.loc 2, .loc 41, .par 102, .par 105] rfl rfl).trans (zv (.loc 41) (.loc 100) rfl rfl rfl rfl)) ⟨j + 1, by omega, rfl, by rw [wj]; rfl, by rw [ht, List.map_append, List.map_singleton, hWT]; rfl⟩
    · obtain rfl : j = w.length := by omega
      rw [List.take_length]
      refine zd (zy (id := .loc 100) rfl rfl rfl) ?_
      repeat' (first | refine wC ?_ | (exfalso; omega) | refine wK ?_ | ((with_reducible refine zo ?_); refine zg rfl rfl hL rfl rfl (ArgsLE.refl _) rfl rfl rfl rfl rfl ?_) | refine zh rfl (fun hc => ?_) (fun hc => ?_))
      refine zq ?_ (zf ⟨rfl, rfl, trivial⟩); refine zF rfl rfl rfl inferInstance rfl inferInstance rfl ?_; exact TLe.av wT
end Go.AL
set_option linter.unusedVariables false
namespace Go.AL
open Go Go.Proofs Go.RowKit
set_option maxHeartbeats 8000000 in
theorem qS (b : UInt8) (h : 49 ≤ b.toNat ∧ b.toNat ≤ 56) (bits : Int) (hb : bits = 64) (mx : Int) (hm : IntKind.u64.wrap (IntKind.u64.wrap (1 * 2 ^ min bits.toNat IntKind.u64.bits) - 1) = mx) (hmx : mx = 18446744073709551615) :
    Spec Tryz.prog 257 [.t (.str ⟨#[b]⟩), .t (.int .i64 16), .t (.int .i64 bits)] [] (.tup [.t (.int .u64 ((b.toNat : Int) - 48)), .t .nili]) [] := by
  have hw : IntKind.u64.wrap bits = bits := v6 (by omega) (by omega)
  obtain ⟨s, hs⟩ : ∃ s : ByteArray, s = ⟨#[b]⟩ := ⟨_, rfl⟩
  have h0 : s ≠ ⟨#[]⟩ := by rw [hs]; intro e; exact absurd (congrArg ByteArray.size e) (by show ¬ (1 : Nat) = 0; omega)
  have hz : s.size = 1 := by rw [hs]; rfl
  obtain ⟨L, hL⟩ : ∃ L, L = s.data.toList := ⟨_, rfl⟩
  have hLl : L.length = 1 := by rw [hL, hs]; rfl
  have hg : (L.getD (0 : Int).toNat default).toNat = b.toNat := by rw [hL, hs]; rfl
  have hB : xe s = L.map u8T := by rw [hL]; rfl
  rw [← hs]
  clear hs
  refine zc (env0 := [(0, _), (1, _), (2, _)]) (st0 := []) Tryz.func257 rfl rfl rfl rfl ?_
  repeat' (first | refine wC ?_ | (exfalso; omega) | exact absurd ‹_› h0 | refine wK ?_ | ((with_reducible refine xu ?_); refine zes rfl rfl rfl rfl rfl rfl ?_ ?_) | ((with_reducible refine qi ?_); refine zb3 rfl rfl rfl rfl rfl rfl ?_ ?_) | refine zh rfl (fun hc => ?_) (fun hc => ?_) | refine zG rfl (fun hc => ?_) (fun hc => ?_))
  all_goals try omega
  rw [hB, ← hL, hw, hm]
  refine zd (za [1, 8, 9, 10, 11, 12, 13, 99, 100, 101] [.loc 99] rfl rfl) ?_
  refine zp (fun p env st => ∃ (j : Nat) (n : Int), j ≤ 1 ∧ p = 1 - j ∧ (j = 0 ∧ n = 0 ∨ j = 1 ∧ n = (b.toNat : Int) - 48) ∧
      env = EnvL.get [(1, .t (.int .i64 16)), (8, .t (.bool false)), (9, .t (.str s)), (10, .t (.int .u64 1152921504606846976)), (11, .t (.int .u64 mx)), (12, .t (.bool false)), (13, .t (.int .u64 n)), (99, .row (.loc 99)), (100, .t (.int .i64 (L.length : Int))), (101, .t (.int .i64 (j : Int)))] ∧ st = StO.get [(.loc 99, some (.slt 5 1 (L.map u8T)))])
    ?_ (n := 1) ⟨0, 0, by omega, rfl, .inl ⟨rfl, rfl⟩, rfl, rfl⟩
  rintro p env st ⟨j, n, hj, rfl, hn, rfl, rfl⟩
  rcases hn with ⟨rfl, rfl⟩ | ⟨rfl, rfl⟩
  · have hlow := zbK ((L.getD ((0 : Nat) : Int).toNat default).toNat : Int)
    have hCC : ((L.getD ((0 : Nat) : Int).toNat default).toNat : Int) = (b.toNat : Int) := by exact congrArg _ hg
    obtain ⟨b2, hb2⟩ : ∃ b2, b2 = L.getD ((0 : Nat) : Int).toNat default := ⟨_, rfl⟩
    have w16 : IntKind.u8.wrap 16 = 16 := by decide
    have wj : IntKind.i64.wrap (((0 : Nat) : Int) + 1) = ((0 + 1 : Nat) : Int) := by decide
    have e1 : IntKind.u8.wrap (((L.getD ((0 : Nat) : Int).toNat default).toNat : Int) - 48) = (b.toNat : Int) - 48 := by rw [hCC, zfL (by omega) (by omega)]
    have eN : IntKind.u64.wrap (IntKind.u64.wrap (0 * IntKind.u64.wrap 16) + IntKind.u64.wrap (IntKind.u8.wrap (((L.getD ((0 : Nat) : Int).toNat default).toNat : Int) - 48))) = (b.toNat : Int) - 48 := by
      rw [show IntKind.u64.wrap (0 * IntKind.u64.wrap 16) = 0 by decide, e1, v6 (n := (b.toNat : Int) - 48) (by omega) (by omega), v6 (by omega) (by omega)]; omega
    have e0 : IntKind.u64.wrap (0 * IntKind.u64.wrap 16) = 0 := by decide
    repeat' (first | refine wC ?_ | (exfalso; omega) | refine wK ?_ | ((with_reducible refine jU ?_); refine jL rfl rfl rfl rfl rfl rfl rfl rfl ?_ ?_) | ((with_reducible refine ze ?_); refine zE rfl rfl rfl rfl rfl rfl rfl ?_ ?_ ?_) | refine zh rfl (fun hc => ?_) (fun hc => ?_) | refine zG rfl (fun hc => ?_) (fun hc => ?_))
    all_goals try omega
    all_goals try (simp only [List.length_map, Int.toNat_natCast]; omega)
    all_goals exact zN (n' := 0) (by omega) (za [1, 8, 9, 10, 11, 12, 13, 99, 100, 101] [.loc 99] rfl rfl) ⟨1, (b.toNat : Int) - 48, by omega, rfl, .inr ⟨rfl, rfl⟩, by rw [eN, wj]; rfl, rfl⟩
  · repeat' (first | refine wC ?_ | (exfalso; omega) | refine wK ?_ | refine zh rfl (fun hc => ?_) (fun hc => ?_))
    all_goals try omega
    all_goals exact zq (xU rfl (AVLE.refl _) (AVLE.refl _)) (by simp)
set_option maxHeartbeats 8000000 in
theorem ji (b : UInt8) (h : 49 ≤ b.toNat ∧ b.toNat ≤ 56) : Spec Tryz.prog 194 [.t (.str ⟨#[b]⟩), .t (.int .i64 16), .t (.int .i64 64)] [] (.tup [.t (.int .i64 ((b.toNat : Int) - 48)), .t .nili]) [] := by
  have hU := qS b h 64 rfl 18446744073709551615 (by decide) rfl
  have hb0 : bAt ⟨#[b]⟩ 0 = (b.toNat : Int) := rfl
  have hw : IntKind.i64.wrap ((b.toNat : Int) - 48) = (b.toNat : Int) - 48 := zx (by omega) (by omega)
  obtain ⟨s, hs⟩ : ∃ s : ByteArray, s = ⟨#[b]⟩ := ⟨_, rfl⟩
  have h0 : s ≠ ⟨#[]⟩ := by rw [hs]; intro e; exact absurd (congrArg ByteArray.size e) (by show ¬ (1 : Nat) = 0; omega)
  have hz : s.size = 1 := by rw [hs]; rfl
  rw [← hs] at hU hb0 ⊢
  clear hs
  refine zc (env0 := [(0, _), (1, _), (2, _)]) (st0 := []) Tryz.func194 rfl rfl rfl rfl ?_
  repeat' (first | refine wC ?_ | (exfalso; omega) | exact absurd ‹_› h0 | refine wK ?_ | ((with_reducible refine kP ?_); refine y6 rfl rfl rfl rfl rfl rfl ?_ ?_ ?_) | ((with_reducible refine zo ?_); refine zg rfl rfl hU rfl rfl (ArgsLE.refl _) rfl rfl rfl rfl rfl ?_) | ((with_reducible refine xu ?_); refine qI rfl rfl rfl rfl rfl rfl ?_) | ((with_reducible refine qd ?_); refine zf0 rfl rfl rfl rfl rfl ?_) | refine zh rfl (fun hc => ?_) (fun hc => ?_))
  all_goals try omega
  all_goals try (exfalso; simp at *; done)
  · exfalso
    have e63 : IntKind.u64.wrap (1 * 2 ^ min (IntKind.u64.wrap (IntKind.i64.wrap (64 - 1))).toNat IntKind.u64.bits) = 9223372036854775808 := by decide
    rw [e63] at hc; omega
  · exact zq (xU rfl (AVLE.of_eq (congrArg (fun x => AV.t (T.int .i64 x)) hw)) (AVLE.refl _)) (by simp)
set_option maxHeartbeats 2000000 in
theorem zaQ (b : UInt8) (h : 49 ≤ b.toNat ∧ b.toNat ≤ 56) : Spec Tryz.prog 117 [.t (.str ⟨#[b]⟩), .t (.int .i64 16), .t (.int .i64 64)] [] (.tup [.t (.int .i64 ((b.toNat : Int) - 48)), .t .nili]) [] := by
  have hU := ji b h
  generalize (b.toNat : Int) - 48 = v at *
  refine zc (env0 := [(0, _), (1, _), (2, _)]) (st0 := []) Tryz.func117 rfl rfl rfl rfl ?_
  repeat' (first | refine wC ?_ | refine wK ?_ | ((with_reducible refine zo ?_); refine zg rfl rfl hU rfl rfl (ArgsLE.refl _) rfl rfl rfl rfl rfl ?_) | ((with_reducible refine xu ?_); refine qI rfl rfl rfl rfl rfl rfl ?_))
  all_goals try (exfalso; simp at *; done)
  all_goals exact zq (xU rfl (AVLE.refl _) (AVLE.refl _)) (by simp)
theorem j6 (l : List Fr) : (zl l).readTexts = (l.map yy, true) := by
  unfold Nd.readTexts
  have h : Nd.allText (zl l).items = true := List.all_eq_true.2 fun x hx => by
    obtain ⟨f, _, rfl⟩ := List.mem_map.1 hx
    rfl
  rw [if_pos ⟨rfl, h⟩]
  show ((l.map fun f => Nd.mk 3 false 0 (yy f) [] []).map Nd.text, true) = _
  rw [List.map_map]; rfl
theorem zb4 (w : List (List Fr)) (h : w ≠ []) : (Nd.mk 4 false 0 eS [] (w.map zl)).readTexts = ([], false) := by
  unfold Nd.readTexts
  cases w with
  | nil => exact absurd rfl h
  | cons l w => exact if_neg fun e => absurd e.2 (by simp [Nd.allText, Nd.items, zl, Nd.kind])
set_option maxHeartbeats 4000000 in
theorem xl {oS oR : Obj} (G : EOk oS oR) (l : List Fr) (h : ∀ f ∈ l, f ∈ vn) (hl : l.length ≤ 1000) : Spec Tryz.prog 118 [.t (zl l).toT] [(.par 103, .dat (.fix 3 oS)), (.par 104, .dat (.fix 4 oR))] (.tup [.t (frs l), .t (.bool true)]) [(.par 103, .dat (.fix 3 oS)), (.par 104, .dat (.fix 4 oR))] := by
  have hR := wh (zl l) (by show (l.map _).length ≤ _; rw [List.length_map]; omega)
  rw [j6] at hR
  rw [(zl l).toT_full] at hR ⊢
  generalize (zl l).kind = yk at *
  generalize (zl l).bool = yb at *
  generalize (zl l).num = yn at *
  generalize (zl l).text = yt at *
  generalize (zl l).names = ym at *
  generalize (zl l).items = yi at *
  simp only at hR
  unfold frs
  refine zc (env0 := [(0, _)]) (st0 := [(_, some _), (_, some _)]) Tryz.func118 rfl rfl rfl rfl ?_
  repeat' (first | refine wC ?_ | refine wK ?_ | ((with_reducible refine zo ?_); refine zg rfl rfl hR rfl rfl (ArgsLE.refl _) rfl rfl rfl rfl rfl ?_))
  refine zd (yw 6 (.loc 100) 90 2 rfl rfl rfl) ?_
  refine zd (za [2, 3, 5, 6, 14, 15, 16] [.loc 100, .par 103, .par 104] rfl rfl) ?_
  refine zp (fun q env st => ∃ (j : Nat), j ≤ l.length ∧ q = l.length - j ∧ env = EnvL.get [(2, .t .nilsl), (3, .t (.bool false)), (5, .t (.bool true)), (6, .row (.loc 100)), (14, .t (.sl 1 ((l.map yy).map .str))), (15, .t (.int .i64 (l.length : Int))), (16, .t (.int .i64 (j : Int)))] ∧
      st = StO.get [(.loc 100, some (.slt 90 2 ((l.take j).map Fr.toT))), (.par 103, some (.dat (.fix 3 oS))), (.par 104, some (.dat (.fix 4 oR)))])
    ?_ (n := l.length) ⟨0, by omega, rfl, by first | rfl | (simp only [List.length_map]; rfl), rfl⟩
  rintro q env st ⟨j, hj, rfl, rfl, rfl⟩
  have wj : IntKind.i64.wrap ((j : Int) + 1) = ((j + 1 : Nat) : Int) := by rw [zx (by omega) (by omega)]; omega
  by_cases hlt : j < l.length
  · have hcl := vJ G (l.getD (j : Int).toNat default) (zex h hlt)
    have ht := congrArg (List.map Fr.toT) (kj hlt)
    rw [List.map_append, List.map_singleton] at ht
    have hW : (l.map yy).getD (j : Int).toNat default = yy (l.getD (j : Int).toNat default) := by
      rw [Int.toNat_natCast, List.getD_eq_getElem?_getD, List.getD_eq_getElem?_getD, List.getElem?_map, List.getElem?_eq_getElem hlt]; rfl
    rw [← hW] at hcl
    unfold Fr.toT at hcl
    repeat' (first | refine wC ?_ | (exfalso; omega) | refine wK ?_ | ((with_reducible refine ze ?_); refine zb rfl rfl rfl rfl rfl rfl ?_ ?_ ?_) | ((with_reducible refine yo ?_); refine zL rfl rfl rfl rfl rfl rfl rfl rfl rfl rfl ?_ ?_ ?_) | ((with_reducible refine zo ?_); refine zr (r' := (.t (.agg [.int .i64 (l.getD (j : Int).toNat default).n, .int .i64 (l.getD (j : Int).toNat default).d]))) [] rfl rfl hcl (ArgsLE.refl _) rfl ⟨rfl, rfl, trivial⟩ rfl rfl rfl rfl rfl rfl rfl rfl rfl rfl ?_) | refine zh rfl (fun hc => ?_) (fun hc => ?_))
    all_goals try (simp only [List.length_map, List.length_cons, List.length_nil, List.length_take]; omega)
    all_goals try omega
    all_goals try rfl
    refine zN (n' := l.length - (j + 1)) (by omega) ((za [2, 3, 5, 6, 14, 15, 16] [.loc 24, .par 103, .par 104] rfl rfl).trans (zv (.loc 24) (.loc 100) rfl rfl rfl rfl)) ⟨j + 1, by omega, rfl, by rw [wj]; rfl, by rw [ht]; rfl⟩
  · obtain rfl : j = l.length := by omega
    rw [List.take_length]
    refine zd (zy (id := .loc 100) rfl rfl rfl) ?_
    repeat' (first | refine wC ?_ | (exfalso; omega) | refine wK ?_ | refine zh rfl (fun hc => ?_) (fun hc => ?_))
    exact zq (wO rfl rfl rfl wT wT) (zf ⟨rfl, rfl, trivial⟩)
end Go.AL
set_option linter.unusedVariables false
namespace Go.AL
open Go Go.Proofs Go.RowKit
theorem zgc : Tryz.prog.stoodInHeld 90 = false := by kernel_rfl
theorem zf6 : Tryz.prog.eqGuardType Tryz.prog.depth 90 = false := by kernel_rfl
theorem zgn : zf2 Tryz.prog 90 = true := by unfold zf2; rw [zgc, zf6]; rfl
theorem zeq (a b a' b' : Int) : zch Tryz.prog [{ name := "Num", type := 3, offset := 0, embedded := false, tag := "", pkgPath := "", byteOffset := 0 }, { name := "Den", type := 3, offset := 1, embedded := false, tag := "", pkgPath := "", byteOffset := 8 }] 0 [.int .i64 a, .int .i64 b] [.int .i64 a', .int .i64 b'] :=
  ⟨by decide, rfl, Tryz.underlying3, Tryz.underlying3, by decide, rfl, Tryz.underlying3, Tryz.underlying3, trivial⟩
theorem zeH (x y : Fr) : zca [.int .i64 x.n, .int .i64 x.d] [.int .i64 y.n, .int .i64 y.d] = decide (x = y) := by
  obtain ⟨a, b⟩ := x
  obtain ⟨c, d⟩ := y
  simp only [zca, tEq, Bool.and_true, Fr.mk.injEq, Bool.decide_and]
  rfl
theorem kr {α : Type} [Inhabited α] {l : List α} {j : Nat} (h : j < l.length) : l.drop j = l.getD (j : Int).toNat default :: l.drop (j + 1) := by
  rw [yq l j h]; rfl
set_option maxHeartbeats 8000000 in
theorem qq (a b : Th) (hal : a.w.length ≤ 1000000) (ha : ∀ l ∈ a.w, l.length ≤ 1000000) : Spec Tryz.prog 30 [.t a.toT, .t b.toT] [] (.t (.bool (decide (a.n = b.n) && decide (a.w = b.w)))) [] := by
  obtain ⟨an, aw⟩ := a
  obtain ⟨bn, bw⟩ := b
  simp only at hal ha ⊢
  obtain ⟨R, hR⟩ : ∃ R, R = (decide (an = bn) && decide (aw = bw)) := ⟨_, rfl⟩
  rw [← hR]
  unfold Th.toT
  by_cases hn : an = bn
  · rw [decide_eq_true hn, Bool.true_and] at hR
    by_cases hl : aw.length = bw.length
    · refine zc (env0 := [(0, _), (1, _)]) (st0 := []) Tryz.func30 rfl rfl rfl rfl ?_
      repeat' (first | refine wC ?_ | (exfalso; simp only [List.length_map] at *; omega) | refine wK ?_ | refine ye rfl (fun hc => ?_) (fun hc => ?_) | refine xj rfl (fun hc => ?_) (fun hc => ?_))
      refine zd (za [2, 3, 4, 24, 25, 26] [.loc 2, .loc 3] rfl rfl) ?_
      refine zp (fun q env st => ∃ (j : Nat), j ≤ aw.length ∧ q = aw.length - j ∧ (R = true ↔ aw.drop j = bw.drop j) ∧ env = EnvL.get [(2, .ref (.loc 2) 0 0 0), (3, .ref (.loc 3) 0 0 0), (4, .t (.bool false)), (24, .t (.sl 1 (aw.map frs))), (25, .t (.int .i64 (aw.length : Int))), (26, .t (.int .i64 (j : Int)))] ∧
          st = StO.get [(.loc 2, some (.var 44 [.t (.int .i64 an), .t (.sl 1 (aw.map frs))])), (.loc 3, some (.var 44 [.t (.int .i64 bn), .t (.sl 1 (bw.map frs))]))])
        ?_ (n := aw.length) ⟨0, by omega, rfl, by rw [hR, decide_eq_true_iff]; rfl, rfl, rfl⟩
      rintro q env st ⟨j, hj, rfl, hG, rfl, rfl⟩
      have wj : IntKind.i64.wrap ((j : Int) + 1) = ((j + 1 : Nat) : Int) := by rw [zx (by omega) (by omega)]; omega
      by_cases hlt : j < aw.length
      · rw [kr hlt, kr (l := bw) (by omega), List.cons.injEq] at hG
        have hxl : (aw.getD (j : Int).toNat default).length ≤ 1000000 := ha _ (by rw [Int.toNat_natCast, List.getD_eq_getElem?_getD, List.getElem?_eq_getElem hlt]; exact List.getElem_mem _)
        by_cases hxy : (aw.getD (j : Int).toNat default).length = (bw.getD (j : Int).toNat default).length
        · repeat' (first | refine wC ?_ | (exfalso; omega) | refine wK ?_ | ((with_reducible refine ze ?_); refine zb rfl rfl rfl rfl rfl rfl ?_ ?_ ?_) | refine zh rfl (fun hc => ?_) (fun hc => ?_) | refine ye rfl (fun hc => ?_) (fun hc => ?_))
          all_goals try omega
          refine zd (za [2, 3, 4, 24, 25, 26, 5, 6, 40, 41, 42] [.loc 2, .loc 3] rfl rfl) ?_
          refine zp (fun q env st => ∃ (i : Nat), i ≤ (aw.getD (j : Int).toNat default).length ∧ q = (aw.getD (j : Int).toNat default).length - i ∧ (R = true ↔ (aw.getD (j : Int).toNat default).drop i = (bw.getD (j : Int).toNat default).drop i ∧ aw.drop (j + 1) = bw.drop (j + 1)) ∧ env = EnvL.get [(2, .ref (.loc 2) 0 0 0), (3, .ref (.loc 3) 0 0 0), (4, .t (.bool false)), (24, .t (.sl 1 (aw.map frs))), (25, .t (.int .i64 (aw.length : Int))), (26, .t (.int .i64 (j : Int))), (5, .t (.int .i64 (j : Int))), (6, .t (.sl 2 ((aw.getD (j : Int).toNat default).map Fr.toT))), (40, .t (.sl 2 ((aw.getD (j : Int).toNat default).map Fr.toT))), (41, .t (.int .i64 ((aw.getD (j : Int).toNat default).length : Int))), (42, .t (.int .i64 (i : Int)))] ∧
              st = StO.get [(.loc 2, some (.var 44 [.t (.int .i64 an), .t (.sl 1 (aw.map frs))])), (.loc 3, some (.var 44 [.t (.int .i64 bn), .t (.sl 1 (bw.map frs))]))])
            ?_ (n := (aw.getD (j : Int).toNat default).length) ⟨0, by omega, rfl, hG, rfl, rfl⟩
          rintro q env st ⟨i, hi, rfl, hH, rfl, rfl⟩
          have wi : IntKind.i64.wrap ((i : Int) + 1) = ((i + 1 : Nat) : Int) := by rw [zx (by omega) (by omega)]; omega
          by_cases hil : i < (aw.getD (j : Int).toNat default).length
          · rw [kr hil, kr (l := (bw.getD (j : Int).toNat default)) (by omega), List.cons.injEq] at hH
            have hq := zeH ((bw.getD (j : Int).toNat default).getD (i : Int).toNat default) ((aw.getD (j : Int).toNat default).getD (i : Int).toNat default)
            by_cases hfg : ((bw.getD (j : Int).toNat default).getD (i : Int).toNat default) = ((aw.getD (j : Int).toNat default).getD (i : Int).toNat default)
            · rw [decide_eq_true hfg] at hq
              repeat' (first | refine wC ?_ | (exfalso; omega) | refine zbA (zeq _ _ _ _) zgn hq rfl rfl rfl rfl rfl rfl ?_ | refine wK ?_ | ((with_reducible refine ze ?_); refine zb rfl rfl rfl rfl rfl rfl ?_ ?_ ?_) | refine zh rfl (fun hc => ?_) (fun hc => ?_))
              all_goals try (simp only [List.length_map]; omega)
              all_goals try omega
              all_goals try rfl
              all_goals exact zN (n' := (aw.getD (j : Int).toNat default).length - (i + 1)) (by omega) (za [2, 3, 4, 24, 25, 26, 5, 6, 40, 41, 42] [.loc 2, .loc 3] rfl rfl) ⟨i + 1, by omega, rfl, by rw [hH, and_assoc]; exact ⟨fun h => h.2, fun h => ⟨hfg.symm, h⟩⟩, by rw [wi]; rfl, rfl⟩
            · rw [decide_eq_false hfg] at hq
              have hRf : R = false := by
                cases hRR : R with
                | false => rfl
                | true => exact absurd (hH.1 hRR).1.1.symm hfg
              repeat' (first | refine wC ?_ | (exfalso; omega) | refine zbA (zeq _ _ _ _) zgn hq rfl rfl rfl rfl rfl rfl ?_ | refine wK ?_ | ((with_reducible refine ze ?_); refine zb rfl rfl rfl rfl rfl rfl ?_ ?_ ?_) | refine zh rfl (fun hc => ?_) (fun hc => ?_))
              all_goals try (simp only [List.length_map]; omega)
              all_goals try omega
              all_goals try rfl
              all_goals exact zq (zi rfl rfl (congrArg T.bool hRf.symm)) (by simp)
          · obtain rfl : i = (aw.getD (j : Int).toNat default).length := by omega
            rw [List.drop_length, hxy, List.drop_length] at hH
            repeat' (first | refine wC ?_ | (exfalso; omega) | refine wK ?_ | refine zh rfl (fun hc => ?_) (fun hc => ?_))
            all_goals try omega
            all_goals exact zN (n' := aw.length - (j + 1)) (by omega) (za [2, 3, 4, 24, 25, 26] [.loc 2, .loc 3] rfl rfl) ⟨j + 1, by omega, rfl, by rw [hH]; exact ⟨fun h => h.2, fun h => ⟨rfl, h⟩⟩, by rw [wj]; rfl, rfl⟩
        · have : R = false := by
            cases hRR : R with
            | false => rfl
            | true => exact absurd (congrArg List.length (hG.1 hRR).1) hxy
          repeat' (first | refine wC ?_ | (exfalso; omega) | refine wK ?_ | ((with_reducible refine ze ?_); refine zb rfl rfl rfl rfl rfl rfl ?_ ?_ ?_) | refine zh rfl (fun hc => ?_) (fun hc => ?_) | refine ye rfl (fun hc => ?_) (fun hc => ?_))
          all_goals try omega
          all_goals exact zq (zi rfl rfl (congrArg T.bool this.symm)) (by simp)
      · obtain rfl : j = aw.length := by omega
        rw [List.drop_length, hl, List.drop_length] at hG
        have hRt : R = true := hG.2 rfl
        repeat' (first | refine wC ?_ | (exfalso; simp only [List.length_map] at *; omega) | refine wK ?_ | refine zh rfl (fun hc => ?_) (fun hc => ?_))
        all_goals exact zq (zi rfl rfl (congrArg T.bool hRt.symm)) (by simp)
    · have : R = false := by rw [hR]; exact decide_eq_false fun e => hl (by rw [e])
      refine zc (env0 := [(0, _), (1, _)]) (st0 := []) Tryz.func30 rfl rfl rfl rfl ?_
      repeat' (first | refine wC ?_ | (exfalso; simp only [List.length_map] at *; omega) | refine wK ?_ | refine ye rfl (fun hc => ?_) (fun hc => ?_) | refine xj rfl (fun hc => ?_) (fun hc => ?_))
      all_goals first | (exfalso; simp only at hc; omega) | exact zq (zi rfl rfl (congrArg T.bool this.symm)) (by simp)
  · have : R = false := by rw [hR, decide_eq_false hn]; rfl
    refine zc (env0 := [(0, _), (1, _)]) (st0 := []) Tryz.func30 rfl rfl rfl rfl ?_
    repeat' (first | refine wC ?_ | exact absurd ‹an = bn› hn | refine wK ?_ | refine xj rfl (fun hc => ?_) (fun hc => ?_))
    all_goals first | exact absurd ‹an = bn› hn | exact zq (zi rfl rfl (congrArg T.bool this.symm)) (by simp)
end Go.AL
set_option linter.unusedVariables false
namespace Go.AL
open Go Go.Proofs Go.RowKit
theorem zee : ∀ k : Fin 8, 49 ≤ (zb5 ((k.val + 1) / 16 ^ 0 % 16)).toNat ∧ (zb5 ((k.val + 1) / 16 ^ 0 % 16)).toNat ≤ 56 ∧ ((zb5 ((k.val + 1) / 16 ^ 0 % 16)).toNat : Int) - 48 = (k.val : Int) + 1 := by decide
theorem zdK (n : Nat) : ofL (yh 1 n) = ⟨#[zb5 (n / 16 ^ 0 % 16)]⟩ := rfl
set_option maxHeartbeats 4000000 in
theorem qO {oS oR : Obj} (G : EOk oS oR) (w : List (List Fr)) (h : w ≠ []) (hl : w.length ≤ 1000) : Spec Tryz.prog 118 [.t (Nd.mk 4 false 0 eS [] (w.map zl)).toT] [(.par 103, .dat (.fix 3 oS)), (.par 104, .dat (.fix 4 oR))] (.tup [.t .nilsl, .t (.bool false)]) [(.par 103, .dat (.fix 3 oS)), (.par 104, .dat (.fix 4 oR))] := by
  have hR := wh (Nd.mk 4 false 0 eS [] (w.map zl)) (by show (w.map _).length ≤ _; rw [List.length_map]; omega)
  rw [zb4 w h] at hR
  rw [(Nd.mk 4 false 0 eS [] (w.map zl)).toT_full] at hR ⊢
  simp only [List.map_nil] at hR
  refine zc (env0 := [(0, _)]) (st0 := [(_, some _), (_, some _)]) Tryz.func118 rfl rfl rfl rfl ?_
  repeat' (first | refine wC ?_ | refine wK ?_ | ((with_reducible refine zo ?_); refine zg rfl rfl hR rfl rfl (ArgsLE.refl _) rfl rfl rfl rfl rfl ?_))
  refine zd (za [2, 3, 5, 6, 14, 15, 16] [.par 103, .par 104] rfl rfl) ?_
  refine zp (fun q env st => q = 0 ∧ env = EnvL.get [(2, .t .nilsl), (3, .t (.bool false)), (5, .t (.bool false)), (6, .t .nilsl), (14, .t (.sl 1 [])), (15, .t (.int .i64 0)), (16, .t (.int .i64 0))] ∧
      st = StO.get [(.par 103, some (.dat (.fix 3 oS))), (.par 104, some (.dat (.fix 4 oR)))])
    ?_ (n := 0) ⟨rfl, rfl, rfl⟩
  rintro q env st ⟨rfl, rfl, rfl⟩
  repeat' (first | refine wC ?_ | refine wK ?_ | fail)
  all_goals first | (exfalso; omega) | exact zq (xU rfl (AVLE.refl _) (AVLE.refl _)) (zf ⟨rfl, rfl, trivial⟩)
set_option maxHeartbeats 8000000 in
theorem jS {oS oR : Obj} (G : EOk oS oR) (t : Th) (ht : t.Nice) : Spec Tryz.prog 64 [.t (y5 t).toT] [(.par 103, .dat (.fix 3 oS)), (.par 104, .dat (.fix 4 oR))] (.tup [.t t.toT, .t (.bool true)]) [(.par 103, .dat (.fix 3 oS)), (.par 104, .dat (.fix 4 oR))] := by
  obtain ⟨n, w⟩ := t
  obtain ⟨h6, hw⟩ := ht
  simp only at h6 hw
  rcases hw with ⟨h1, h2, rfl⟩ | ⟨rfl, ⟨l, rfl⟩ | ⟨l, m, rfl⟩⟩
  · have hk := zee ⟨n.toNat - 1, by omega⟩
    simp only [show n.toNat - 1 + 1 = n.toNat by omega] at hk
    rw [zbw n (by omega), zdK]
    have hP := zaQ (zb5 (n.toNat / 16 ^ 0 % 16)) ⟨hk.1, hk.2.1⟩
    rw [hk.2.2, show ((n.toNat - 1 : Nat) : Int) + 1 = n by omega] at hP
    clear hk
    generalize (⟨#[zb5 (n.toNat / 16 ^ 0 % 16)]⟩ : ByteArray) = s at *
    have wn : IntKind.i64.wrap n = n := zx (by omega) (by omega)
    rw [(Nd.mk 3 false 0 s [] []).toT_full]
    simp only [Nd.kind, Nd.bool, Nd.num, Nd.text, Nd.names, Nd.items]
    unfold Th.toT
    refine zc (env0 := [(0, _)]) (st0 := [(_, some _), (_, some _)]) Tryz.func64 rfl rfl rfl rfl ?_
    repeat' (first | refine wC ?_ | refine wK ?_ | ((with_reducible refine zo ?_); refine zg rfl rfl hP rfl rfl (ArgsLE.refl _) rfl rfl rfl rfl rfl ?_) | ((with_reducible refine xu ?_); refine zao rfl rfl rfl rfl rfl rfl ?_))
    all_goals try (exfalso; simp at *; done)
    all_goals (refine zq ?_ (zf ⟨rfl, rfl, trivial⟩); refine yD rfl rfl rfl inferInstance rfl inferInstance rfl ?_ ?_; exact TLe.av wT; exact AVLE.refl _)
  · have hl := h6 l (List.mem_singleton.2 rfl)
    rw [show y5 ⟨0, [l]⟩ = zl l from if_neg (by simp)]
    have hX := xl G l hl.2.2 (by omega)
    have hK : (zl l).kind = 4 := rfl
    rw [(zl l).toT_full] at hX ⊢
    generalize (zl l).kind = yk at *
    generalize (zl l).bool = yb at *
    generalize (zl l).num = yn at *
    generalize (zl l).text = yt at *
    generalize (zl l).names = ym at *
    generalize (zl l).items = yi at *
    subst hK
    unfold Th.toT
    refine zc (env0 := [(0, _)]) (st0 := [(_, some _), (_, some _)]) Tryz.func64 rfl rfl rfl rfl ?_
    repeat' (first | refine wC ?_ | refine zV rfl rfl rfl rfl rfl rfl ?_ | refine wK ?_ | ((with_reducible refine zo ?_); refine zr (r' := (.tup [.t (frs l), .t (.bool true)])) [] rfl rfl hX (ArgsLE.refl _) rfl ⟨rfl, rfl, trivial⟩ rfl rfl rfl rfl rfl rfl rfl rfl rfl rfl ?_))
    all_goals try (exfalso; simp at *; done)
    all_goals try rfl
    all_goals (refine zq ?_ (zf ⟨rfl, rfl, trivial⟩); refine yD rfl rfl rfl inferInstance rfl inferInstance rfl ?_ ?_; exact TLe.av wT; exact AVLE.refl _)
  · obtain ⟨w, hw⟩ : ∃ w, w = [l, m] := ⟨_, rfl⟩
    have hwl : w.length = 2 := by rw [hw]; rfl
    rw [show y5 ⟨0, [l, m]⟩ = .mk 4 false 0 eS [] (w.map zl) from by rw [hw]; exact if_neg (by simp)]
    rw [← hw] at h6 ⊢
    have hX := qO G w (by rw [hw]; simp) (by omega)
    clear hw
    rw [(Nd.mk 4 false 0 eS [] (w.map zl)).toT_full] at hX ⊢
    simp only [Nd.kind, Nd.bool, Nd.num, Nd.text, Nd.names, Nd.items] at hX ⊢
    unfold Th.toT
    refine zc (env0 := [(0, _)]) (st0 := [(_, some _), (_, some _)]) Tryz.func64 rfl rfl rfl rfl ?_
    repeat' (first | refine wC ?_ | refine wK ?_ | ((with_reducible refine zo ?_); refine zr (r' := (.tup [.t .nilsl, .t (.bool false)])) [] rfl rfl hX (ArgsLE.refl _) rfl ⟨rfl, rfl, trivial⟩ rfl rfl rfl rfl rfl rfl rfl rfl rfl rfl ?_))
    refine zd (xa (r := .loc 8) 1 (.loc 100) 88 1 rfl rfl rfl rfl rfl) ?_
    refine zd (za [1, 2, 3, 8, 36, 37, 38] [.loc 1, .loc 2, .loc 8, .loc 100, .par 103, .par 104] rfl rfl) ?_
    refine zp (fun q env st => ∃ (j : Nat), j ≤ w.length ∧ q = w.length - j ∧ env = EnvL.get [(1, .ref (.loc 1) 0 0 0), (2, .ref (.loc 2) 0 0 0), (3, .t (.bool false)), (8, .ref (.loc 8) 0 0 0), (36, .t (.sl 6 ((w.map zl).map Nd.toT))), (37, .t (.int .i64 (w.length : Int))), (38, .t (.int .i64 (j : Int)))] ∧
        st = StO.get [(.loc 1, some (.var 30 [.t (.int .i64 4), .t (.bool false), .t (.int .i64 0), .t (.str eS), .t (.sl 1 ([].map .str)), .t (.sl 6 ((w.map zl).map Nd.toT))])), (.loc 2, some (.var 44 [.t (.int .i64 0), .t .nilsl])), (.loc 8, some (.var 44 [.t (.int .i64 0), .row (.loc 100)])), (.loc 100, some (.slt 88 1 ((w.take j).map frs))), (.par 103, some (.dat (.fix 3 oS))), (.par 104, some (.dat (.fix 4 oR)))])
      ?_ (n := w.length) ⟨0, by omega, rfl, by first | rfl | (simp only [List.length_map]; rfl), rfl⟩
    rintro q env st ⟨j, hj, rfl, rfl, rfl⟩
    have wj : IntKind.i64.wrap ((j : Int) + 1) = ((j + 1 : Nat) : Int) := by rw [zx (by omega) (by omega)]; omega
    by_cases hlt : j < w.length
    · have hm6 := h6 (w.getD (j : Int).toNat default) (by rw [Int.toNat_natCast, List.getD_eq_getElem?_getD, List.getElem?_eq_getElem hlt]; exact List.getElem_mem _)
      have hcl := xl G (w.getD (j : Int).toNat default) hm6.2.2 (by omega)
      have mA : (w.map zl).getD (j : Int).toNat default = zl (w.getD (j : Int).toNat default) := by
        rw [Int.toNat_natCast, List.getD_eq_getElem?_getD, List.getD_eq_getElem?_getD, List.getElem?_map, List.getElem?_eq_getElem hlt]; rfl
      rw [← mA] at hcl
      have ht := congrArg (List.map frs) (kj hlt)
      rw [List.map_append, List.map_singleton] at ht
      have eX := ((w.map zl).getD (j : Int).toNat default).toT_full
      rw [eX] at hcl
      repeat' (first | refine wC ?_ | (exfalso; omega) | refine z8 rfl rfl eX rfl rfl rfl rfl rfl rfl ?_ | refine wK ?_ | ((with_reducible refine ze ?_); refine zb rfl rfl rfl rfl rfl rfl ?_ ?_ ?_) | ((with_reducible refine yo ?_); refine zL rfl rfl rfl rfl rfl rfl rfl rfl rfl rfl ?_ ?_ ?_) | ((with_reducible refine zo ?_); refine zr (r' := (.tup [.t (frs (w.getD (j : Int).toNat default)), .t (.bool true)])) [] rfl rfl hcl (ArgsLE.refl _) rfl ⟨rfl, rfl, trivial⟩ rfl rfl rfl rfl rfl rfl rfl rfl rfl rfl ?_) | refine zh rfl (fun hc => ?_) (fun hc => ?_))
      all_goals try (simp only [List.length_map, List.length_cons, List.length_nil, List.length_take]; omega)
      all_goals try omega
      all_goals try rfl
      refine zN (n' := w.length - (j + 1)) (by omega) ((za [1, 2, 3, 8, 36, 37, 38] [.loc 1, .loc 2, .loc 8, .loc 54, .par 103, .par 104] rfl rfl).trans (zv (.loc 54) (.loc 100) rfl rfl rfl rfl)) ⟨j + 1, by omega, rfl, by rw [wj]; rfl, by rw [ht]; rfl⟩
    · obtain rfl : j = w.length := by omega
      rw [List.take_length]
      refine zd (zy (id := .loc 100) rfl rfl rfl) ?_
      repeat' (first | refine wC ?_ | (exfalso; omega) | refine wK ?_ | refine zh rfl (fun hc => ?_) (fun hc => ?_))
      all_goals try (exfalso; omega)
      all_goals (refine zq ?_ (zf ⟨rfl, rfl, trivial⟩); refine yD rfl rfl rfl inferInstance rfl inferInstance rfl ?_ ?_; exact TLe.av wT; exact AVLE.refl _)
end Go.AL
set_option linter.unusedVariables false
namespace Go.AL
open Go Go.Proofs Go.RowKit
end Go.AL
set_option linter.unusedVariables false
namespace Go.AL
open Go Go.Proofs Go.RowKit Go.Lib Go.Shelf
theorem jx : ∀ l : List ByteArray, T.noU8L (l.map .str) = true
  | [] => rfl
  | x :: xs => by simp [T.noU8L, T.noU8, jx xs]
mutual
theorem Nd.noU8 : ∀ x : Nd, x.toT.noU8 = true
  | .mk k b n t ns is => by simp [Nd.toT, T.noU8, T.noU8L, jx, Nd.noU8s is]
theorem Nd.noU8s : ∀ l : List Nd, T.noU8L (Nd.toTs l) = true
  | [] => rfl
  | x :: xs => by simp [Nd.toTs, T.noU8L, Nd.noU8 x, Nd.noU8s xs]
end
end Go.AL
set_option linter.unusedVariables false
namespace Go.AL
open Go Go.Proofs Go.RowKit
end Go.AL
set_option linter.unusedVariables false
namespace Go.AL
open Go Go.Proofs Go.RowKit
def Rs.row (ty : TypeId) (r : Rs) : Row := .var ty [.t (.str r.s), .t (.bool r.bad)]
end Go.AL
set_option linter.unusedVariables false
namespace Go.AL
open Go Go.Proofs Go.RowKit
end Go.AL
set_option linter.unusedVariables false
namespace Go.AL
open Go Go.Proofs Go.RowKit
end Go.AL
set_option linter.unusedVariables false
namespace Go.AL
open Go Go.Proofs Go.RowKit
end Go.AL
set_option linter.unusedVariables false
namespace Go.AL
open Go Go.Proofs Go.RowKit
end Go.AL
set_option linter.unusedVariables false
namespace Go.AL
open Go Go.Proofs Go.RowKit
set_option maxHeartbeats 8000000 in
theorem zbG (x : Nd) (hx : x.Ok) : ∀ y : Nd, Spec Tryz.prog 22 [.t x.toT, .t y.toT] [] (.t (.bool (x.same y))) [] := by
  induction hx with
  | @mk k b n t ns is h1 h2 h3 ih =>
  intro y
  cases y with
  | mk k' b' n' t' ns' is' =>
  generalize hres : (Nd.mk k b n t ns is).same (Nd.mk k' b' n' t' ns' is') = res
  rw [Nd.same] at hres
  rw [Nd.toT_eq, Nd.toT_eq]
  by_cases hA : k = k' ∧ b = b' ∧ n = n' ∧ t = t' ∧ ns.length = ns'.length ∧ is.length = is'.length
  · obtain ⟨rfl, rfl, rfl, rfl, hn, hi⟩ := hA
    simp only [decide_true, Bool.true_and] at hres
    refine zc (env0 := [(0, _), (1, _)]) (st0 := []) Tryz.func22 rfl rfl rfl rfl ?_
    repeat' (first | refine wC ?_ | refine wK ?_ | refine ye rfl (fun hc => ?_) (fun hc => ?_) | refine xj rfl (fun hc => ?_) (fun hc => ?_))
    all_goals try (exact absurd rfl hc)
    all_goals try (exact absurd (congrArg (fun n : Nat => (n : Int)) hn) hc)
    all_goals try (exact absurd (congrArg (fun n : Nat => (n : Int)) hi) hc)
    refine zd (za [2, 3, 54, 55, 56] [.loc 2, .loc 3] rfl rfl) ?_
    refine zp (fun m env st => ∃ (j : Nat), j ≤ ns.length ∧ m = ns.length - j ∧ res = (decide (ns.drop j = ns'.drop j) && Nd.sames is is') ∧
        env = EnvL.get [(2, .ref (.loc 2) 0 0 0), (3, .ref (.loc 3) 0 0 0), (54, .t (.sl 1 (ns.map .str))), (55, .t (.int .i64 ns.length)), (56, .t (.int .i64 (j : Int)))] ∧
        st = StO.get [(.loc 2, some (.var 30 [.t (.int .i64 k), .t (.bool b), .t (.int .i64 n), .t (.str t), .t (.sl 1 (ns.map .str)), .t (.sl 6 (is.map Nd.toT))])), (.loc 3, some (.var 30 [.t (.int .i64 k), .t (.bool b), .t (.int .i64 n), .t (.str t), .t (.sl 1 (ns'.map .str)), .t (.sl 6 (is'.map Nd.toT))]))])
      ?_ (n := ns.length) ⟨0, by omega, by omega, hres.symm, rfl, rfl⟩
    rintro m env st ⟨j, hj, rfl, hr, rfl, rfl⟩
    by_cases hlt : j < ns.length
    · have e1 := yq ns j hlt
      have e2 := yq ns' j (by omega)
      rw [e1, e2] at hr
      repeat' (first | refine wC ?_ | refine wK ?_ | ((with_reducible refine ze ?_); refine zb rfl rfl rfl rfl rfl rfl ?_ ?_ ?_) | refine zh rfl (fun hc => ?_) (fun hc => ?_) | refine ye rfl (fun hc => ?_) (fun hc => ?_))
      all_goals try omega
      all_goals try (exfalso; omega)
      · have hc' : ns'.getD j default = ns.getD j default := hc
        refine zN (n' := ns.length - (j + 1)) (by omega) (za [2, 3, 54, 55, 56] [.loc 2, .loc 3] rfl rfl) ⟨j + 1, by omega, rfl, ?_, ?_, rfl⟩
        · rw [hr, hc']; simp
        · rw [zx (by omega) (by omega)]; rfl
      · have hc' : ¬ ns'.getD j default = ns.getD j default := hc
        have hf : res = false := by
          rw [hr]
          simp only [List.cons.injEq, decide_eq_false (fun h : ns.getD j default = ns'.getD j default ∧ _ => hc' h.1.symm), Bool.false_and]
        rw [hf]
        exact zq (zi rfl rfl rfl) (by simp)
    · have hje : j = ns.length := by omega
      subst hje
      replace hr : res = Nd.sames is is' := by rw [hr, List.drop_length, hn, List.drop_length]; simp
      repeat' (first | refine wC ?_ | refine wK ?_ | ((with_reducible refine ze ?_); refine zb rfl rfl rfl rfl rfl rfl ?_ ?_ ?_) | refine zh rfl (fun hc => ?_) (fun hc => ?_) | refine ye rfl (fun hc => ?_) (fun hc => ?_))
      all_goals try (exfalso; omega)
      refine zd (za [2, 3, 70, 71, 72] [.loc 2, .loc 3] rfl rfl) ?_
      refine zp (fun m env st => ∃ (j : Nat), j ≤ is.length ∧ m = is.length - j ∧ res = Nd.sames (is.drop j) (is'.drop j) ∧
          env = EnvL.get [(2, .ref (.loc 2) 0 0 0), (3, .ref (.loc 3) 0 0 0), (70, .t (.sl 6 (is.map Nd.toT))), (71, .t (.int .i64 is.length)), (72, .t (.int .i64 (j : Int)))] ∧
          st = StO.get [(.loc 2, some (.var 30 [.t (.int .i64 k), .t (.bool b), .t (.int .i64 n), .t (.str t), .t (.sl 1 (ns.map .str)), .t (.sl 6 (is.map Nd.toT))])), (.loc 3, some (.var 30 [.t (.int .i64 k), .t (.bool b), .t (.int .i64 n), .t (.str t), .t (.sl 1 (ns'.map .str)), .t (.sl 6 (is'.map Nd.toT))]))])
        ?_ (n := is.length) ⟨0, by omega, by omega, hr, rfl, rfl⟩
      clear hr hres
      rintro m env st ⟨j, hj, rfl, hr, rfl, rfl⟩
      by_cases hlt : j < is.length
      · have e1 := yq is j hlt
        have e2 := yq is' j (by omega)
        rw [e1, e2, Nd.sames] at hr
        have hm : is.getD (j : Int).toNat default ∈ is := by
          show is.getD j default ∈ is
          rw [List.getD_eq_getElem?_getD, List.getElem?_eq_getElem hlt]; exact List.getElem_mem _
        have hS : Spec Tryz.prog 22 [.t (is.getD (j : Int).toNat default).toT, .t (is'.getD (j : Int).toNat default).toT] [] (.t (.bool ((is.getD j default).same (is'.getD j default)))) [] := ih _ hm _
        generalize (is.getD j default).same (is'.getD j default) = v at hS hr
        have eX := (is.getD (j : Int).toNat default).toT_full
        have eY := (is'.getD (j : Int).toNat default).toT_full
        rw [eX, eY] at hS
        cases v with
        | false =>
          rw [Bool.false_and] at hr
          subst hr
          repeat' (first | refine wC ?_ | refine z8 rfl rfl eX rfl rfl rfl rfl rfl rfl ?_ | refine z8 rfl rfl eY rfl rfl rfl rfl rfl rfl ?_ | refine wK ?_ | ((with_reducible refine ze ?_); refine zb rfl rfl rfl rfl rfl rfl ?_ ?_ ?_) | ((with_reducible refine zo ?_); refine zg rfl rfl hS rfl rfl (ArgsLE.refl _) rfl rfl rfl rfl rfl ?_) | refine zh rfl (fun hc => ?_) (fun hc => ?_))
          all_goals try omega
          all_goals try (exfalso; omega)
          exact zq (zi rfl rfl rfl) (by simp)
        | true =>
          rw [Bool.true_and] at hr
          repeat' (first | refine wC ?_ | refine z8 rfl rfl eX rfl rfl rfl rfl rfl rfl ?_ | refine z8 rfl rfl eY rfl rfl rfl rfl rfl rfl ?_ | refine wK ?_ | ((with_reducible refine ze ?_); refine zb rfl rfl rfl rfl rfl rfl ?_ ?_ ?_) | ((with_reducible refine zo ?_); refine zg rfl rfl hS rfl rfl (ArgsLE.refl _) rfl rfl rfl rfl rfl ?_) | refine zh rfl (fun hc => ?_) (fun hc => ?_))
          all_goals try omega
          all_goals try (exfalso; omega)
          refine zN (n' := is.length - (j + 1)) (by omega) (za [2, 3, 70, 71, 72] [.loc 2, .loc 3] rfl rfl) ⟨j + 1, by omega, rfl, hr, ?_, rfl⟩
          rw [zx (by omega) (by omega)]; rfl
      · have hje : j = is.length := by omega
        subst hje
        replace hr : res = true := by rw [hr, List.drop_length, hi, List.drop_length]; rfl
        subst hr
        repeat' (first | refine wC ?_ | refine wK ?_ | ((with_reducible refine ze ?_); refine zb rfl rfl rfl rfl rfl rfl ?_ ?_ ?_) | refine zh rfl (fun hc => ?_) (fun hc => ?_))
        all_goals try (exfalso; omega)
        exact zq (zi rfl rfl rfl) (by simp)
  · have hf : res = false := by
      cases res with
      | false => rfl
      | true =>
        simp only [Bool.and_eq_true, decide_eq_true_eq] at hres
        obtain ⟨⟨⟨⟨⟨a1, a2⟩, a3⟩, a4⟩, a5⟩, a6⟩ := hres
        have a6 := (Nd.sames_iff is is').1 a6
        exact absurd ⟨a1, a2, a3, a4, by rw [a5], by rw [a6]⟩ hA
    subst hf
    refine zc (env0 := [(0, _), (1, _)]) (st0 := []) Tryz.func22 rfl rfl rfl rfl ?_
    repeat' (first | refine wC ?_ | refine wK ?_ | refine ye rfl (fun hc => ?_) (fun hc => ?_) | refine xj rfl (fun hc => ?_) (fun hc => ?_))
    · exact absurd ⟨‹k = k'›, ‹b = b'›, ‹n = n'›, ‹t = t'›, by omega, by omega⟩ hA
    all_goals exact zq (zi rfl rfl rfl) (by simp)
end Go.AL
set_option linter.unusedVariables false
namespace Go.AL
open Go Go.Proofs Go.RowKit
def zd6 (t : Th) : Int := if 0 < t.n then 8 else yF t.w 0
structure Th.Good (t : Th) : Prop where
  nice : t.Nice
  ok : xk t (zd6 t) = true
theorem Th.Nice.sm {t : Th} (h : t.Nice) : t.Sm := ⟨by
  rcases h.way with ⟨_, _, e⟩ | ⟨_, ⟨l, e⟩ | ⟨l, m, e⟩⟩ <;> rw [e] <;> simp, fun l hl => by have := (h.six l hl).2.1; omega⟩
theorem q9 (d : Dc) (n : Nat) (h1 : 1 ≤ n) (h8 : n ≤ 8) : (yS d n).1.Good := by
  have hN := zbO d n h1 h8
  have hV := zaN d n h1 h8
  refine ⟨hN, ?_⟩
  obtain ⟨v1, v2, v3, v4, v5⟩ := hV
  have hF := zcP d n h8
  generalize (yS d n).1 = t at *
  unfold zd6
  rcases v5 with ⟨a, b⟩ | ⟨a, b, c⟩
  · rw [if_pos (by omega)]
    unfold xk
    rw [if_pos a, decide_eq_true (by omega), b]; rfl
  · rw [if_neg (by omega)]
    have hk := qu t.w 0 (by omega)
    have h0 : 0 ≤ yF t.w 0 := hk.1.2 ⟨fun l hl => ⟨(hN.six l hl).1, fun f hf => hF.wt l hl f hf⟩, by omega⟩
    rw [hk.2 h0, show 0 + zQ t.w = n by omega]
    exact v1
set_option maxHeartbeats 8000000 in
theorem vv {oP oS oR oD : Obj} (hP : z6 .u64 Lib.pow10Tab oP) (E : EOk oS oR) (G : z6 .u8 deB oD) (t : Th) (ht : t.Good) : Spec Tryz.prog 28 [.t (y5 t).toT] [(.par 102, .dat (.fix 2 oP)), (.par 103, .dat (.fix 3 oS)), (.par 104, .dat (.fix 4 oR)), (.par 105, .dat (.fix 7 oD))] (.tup [.t t.toT, .t (.int .i64 0)]) [(.par 102, .dat (.fix 2 oP)), (.par 103, .dat (.fix 3 oS)), (.par 104, .dat (.fix 4 oR)), (.par 105, .dat (.fix 7 oD))] := by
  have hN := wm hP G t ht.nice
  have hp := jS E t ht.nice
  have hk := qy t ht.nice.sm
  have hv := wB t (zd6 t) ht.nice.sm
  rw [ht.ok] at hv
  have hS := zdw (y5 t) (zak ht.nice) (y5 t)
  rw [Nd.same_refl] at hS
  have hT := (y5 t).toT_full
  rw [hT] at hN hp hS ⊢
  generalize (y5 t).kind = yk at *
  generalize (y5 t).bool = yb at *
  generalize (y5 t).num = yn at *
  generalize (y5 t).text = yt at *
  generalize (y5 t).names = ym at *
  generalize (y5 t).items = yi at *
  clear ht hT
  unfold zd6 at hv
  obtain ⟨n, w⟩ := t
  unfold Th.toT at *
  simp only at hk hv hp hN ⊢
  generalize yF w 0 = K at *
  by_cases hn : 0 < n
  · rw [if_pos hn] at hv
    refine zc (env0 := [(0, _)]) (st0 := [(_, some _), (_, some _), (_, some _), (_, some _)]) Tryz.func28 rfl rfl rfl rfl ?_
    repeat' (first | refine wC ?_ | (exfalso; omega) | refine wK ?_ | ((with_reducible refine zo ?_); first | refine zr (r' := (.tup [.t (.agg [.int .i64 n, .sl 1 (w.map frs)]), .t (.bool true)])) [] rfl rfl hp (ArgsLE.refl _) rfl ⟨rfl, rfl, trivial⟩ rfl rfl rfl rfl rfl rfl rfl rfl rfl rfl ?_ | refine zg rfl rfl hk rfl rfl (ArgsLE.refl _) rfl rfl rfl rfl rfl ?_ | refine zg rfl rfl hv rfl rfl (ArgsLE.refl _) rfl rfl rfl rfl rfl ?_ | refine zr (r' := (.t (.agg [.int .i64 yk, .bool yb, .int .i64 yn, .str yt, .sl 1 (ym.map .str), .sl 6 (yi.map Nd.toT)]))) [] rfl rfl hN (ArgsLE.refl _) rfl ⟨rfl, rfl, trivial⟩ rfl rfl rfl rfl rfl rfl rfl rfl rfl rfl ?_ | refine zg rfl rfl hS rfl rfl (ArgsLE.refl _) rfl rfl rfl rfl rfl ?_) | refine zh rfl (fun hc => ?_) (fun hc => ?_))
    all_goals (refine zq ?_ (zf ⟨rfl, rfl, rfl, rfl, trivial⟩); refine yD rfl rfl rfl inferInstance rfl inferInstance rfl ?_ ?_; exact TLe.av wT; exact AVLE.refl _)
  · rw [if_neg hn] at hv
    refine zc (env0 := [(0, _)]) (st0 := [(_, some _), (_, some _), (_, some _), (_, some _)]) Tryz.func28 rfl rfl rfl rfl ?_
    repeat' (first | refine wC ?_ | (exfalso; omega) | refine wK ?_ | ((with_reducible refine zo ?_); first | refine zr (r' := (.tup [.t (.agg [.int .i64 n, .sl 1 (w.map frs)]), .t (.bool true)])) [] rfl rfl hp (ArgsLE.refl _) rfl ⟨rfl, rfl, trivial⟩ rfl rfl rfl rfl rfl rfl rfl rfl rfl rfl ?_ | refine zg rfl rfl hk rfl rfl (ArgsLE.refl _) rfl rfl rfl rfl rfl ?_ | refine zg rfl rfl hv rfl rfl (ArgsLE.refl _) rfl rfl rfl rfl rfl ?_ | refine zr (r' := (.t (.agg [.int .i64 yk, .bool yb, .int .i64 yn, .str yt, .sl 1 (ym.map .str), .sl 6 (yi.map Nd.toT)]))) [] rfl rfl hN (ArgsLE.refl _) rfl ⟨rfl, rfl, trivial⟩ rfl rfl rfl rfl rfl rfl rfl rfl rfl rfl ?_ | refine zg rfl rfl hS rfl rfl (ArgsLE.refl _) rfl rfl rfl rfl rfl ?_) | refine zh rfl (fun hc => ?_) (fun hc => ?_))
    all_goals (refine zq ?_ (zf ⟨rfl, rfl, rfl, rfl, trivial⟩); refine yD rfl rfl rfl inferInstance rfl inferInstance rfl ?_ ?_; exact TLe.av wT; exact AVLE.refl _)
end Go.AL
set_option linter.unusedVariables false
namespace Go.AL
open Go Go.Proofs Go.RowKit
theorem vd {t : Th} (h : t.Nice) : t.w.length ≤ 1000000 ∧ ∀ l ∈ t.w, l.length ≤ 1000000 := ⟨by
  rcases h.way with ⟨_, _, e⟩ | ⟨_, ⟨l, e⟩ | ⟨l, m, e⟩⟩ <;> rw [e] <;> simp, fun l hl => by have := (h.six l hl).2.1; omega⟩
set_option maxHeartbeats 16000000 in
theorem wQ {oP oS oR oD : Obj} (hP : z6 .u64 Lib.pow10Tab oP) (E : EOk oS oR) (G : z6 .u8 deB oD) (t : List Int) : Spec Tryz.prog 5 [.t (.sl 1 (t.map (T.int .i64)))] [(.par 102, .dat (.fix 2 oP)), (.par 103, .dat (.fix 3 oS)), (.par 104, .dat (.fix 4 oR)), (.par 105, .dat (.fix 7 oD))] (.t (.bool true)) [(.par 102, .dat (.fix 2 oP)), (.par 103, .dat (.fix 3 oS)), (.par 104, .dat (.fix 4 oR)), (.par 105, .dat (.fix 7 oD))] := by
  have hA := zcz
  have hLt := zcp t
  by_cases hg1 : (t.length : Int) ≤ 500
  · rw [decide_eq_true hg1] at hLt
    have hR := zcL t
    have hN := yL (Dc.mk t 0) 8 (by omega) (by show t.length ≤ 1000; omega)
    have hNl := (Dc.mk t 0).next_lt 8 (by omega)
    have hNd : ((Dc.mk t 0).next 8).2.l.length ≤ 1000 := by rw [Dc.next_l]; show t.length ≤ 1000; omega
    generalize (Dc.mk t 0).next 8 = q at hN hNl hNd
    obtain ⟨v1, d1⟩ := q
    simp only at hN hNl hNd
    obtain ⟨n, hn⟩ : ∃ n : Nat, (IntKind.i64.wrap (1 + v1)) = (n : Int) := ⟨(1 + v1).toNat, by rw [zx (by omega) (by omega)]; omega⟩
    have hn1 : 1 ≤ n ∧ n ≤ 8 := by have := zx (n := 1 + v1) (by omega) (by omega); omega
    have hK := q6 d1 n (by omega) hNd
    have gA := q9 d1 n (by omega) (by omega)
    have hKd : (yS d1 n).2.l.length ≤ 1000 := by rw [ze2]; exact hNd
    generalize yS d1 n = q at hK gA hKd
    obtain ⟨a, d2⟩ := q
    simp only at hK gA hKd
    have hM := yL d2 8 (by omega) hKd
    have hMl := d2.next_lt 8 (by omega)
    have hMd : (d2.next 8).2.l.length ≤ 1000 := by rw [Dc.next_l]; exact hKd
    generalize d2.next 8 = q at hM hMl hMd
    obtain ⟨v2, d3⟩ := q
    simp only at hM hMl hMd
    obtain ⟨m, hm⟩ : ∃ m : Nat, (IntKind.i64.wrap (1 + v2)) = (m : Int) := ⟨(1 + v2).toNat, by rw [zx (by omega) (by omega)]; omega⟩
    have hm1 : 1 ≤ m ∧ m ≤ 8 := by have := zx (n := 1 + v2) (by omega) (by omega); omega
    have hJ := q6 d3 m (by omega) hMd
    have gB := q9 d3 m (by omega) (by omega)
    generalize yS d3 m = q at hJ gB
    obtain ⟨b, d4⟩ := q
    simp only at hJ gB
    rw [← hn] at hK
    rw [← hm] at hJ
    have hNA := wm hP G a gA.nice
    have hNB := wm hP G b gB.nice
    have hPA := vv hP E G a gA
    have hPB := vv hP E G b gB
    have sAA := qq a a (vd gA.nice).1 (vd gA.nice).2
    have sBB := qq b b (vd gB.nice).1 (vd gB.nice).2
    have sAB := qq a b (vd gA.nice).1 (vd gA.nice).2
    have sNN := zbG (y5 a) (zak gA.nice) (y5 b)
    have eS : (y5 a).same (y5 b) = (decide (a.n = b.n) && decide (a.w = b.w)) := by
      rw [← Bool.decide_and]
      by_cases h : a.n = b.n ∧ a.w = b.w
      · have : a = b := by cases a; cases b; simp only at h; rw [h.1, h.2]
        rw [decide_eq_true h, this, Nd.same_refl]
      · rw [decide_eq_false h]
        cases e : (y5 a).same (y5 b) with
        | false => rfl
        | true =>
          have := (Nd.same_iff _ _).1 e
          have h2 : a = b := by rw [← zdr gA.nice, this, zdr gB.nice]
          exact absurd ⟨by rw [h2], by rw [h2]⟩ h
    rw [eS] at sNN
    rw [decide_eq_true rfl, decide_eq_true rfl] at sAA sBB
    generalize (decide (a.n = b.n) && decide (a.w = b.w)) = bb at sNN sAB
    clear eS gA gB
    have tA := (y5 a).toT_full
    have tB := (y5 b).toT_full
    rw [tA] at hNA hPA sNN
    rw [tB] at hNB hPB sNN
    generalize (y5 a).kind = ak at *
    generalize (y5 a).bool = ab at *
    generalize (y5 a).num = an at *
    generalize (y5 a).text = at_ at *
    generalize (y5 a).names = am at *
    generalize (y5 a).items = ai at *
    generalize (y5 b).kind = bk at *
    generalize (y5 b).bool = bo at *
    generalize (y5 b).num = bn at *
    generalize (y5 b).text = bt at *
    generalize (y5 b).names = bm at *
    generalize (y5 b).items = bi at *
    clear tA tB
    unfold Th.toT at *
    generalize a.n = a1 at *
    generalize a.w = a2 at *
    generalize b.n = b1 at *
    generalize b.w = b2 at *
    unfold Dc.row at hR hN hM hK hJ
    simp only at hR hN hM hK hJ sAA sBB
    refine zc (env0 := [(0, _)]) (st0 := [(_, some _), (_, some _), (_, some _), (_, some _)]) Tryz.func5 rfl rfl rfl rfl ?_
    repeat' (first | refine wC ?_ | refine wK ?_ | ((with_reducible refine zo ?_); first | refine zg rfl rfl hLt rfl rfl (ArgsLE.refl _) rfl rfl rfl rfl rfl ?_ | refine zg rfl rfl hA rfl rfl (ArgsLE.refl _) rfl rfl rfl rfl rfl ?_ | refine zr (r' := .ref (.loc 905) 0 0 0) [(.res 0, .loc 905)] rfl rfl hR (ArgsLE.refl _) rfl trivial rfl rfl rfl rfl rfl rfl rfl rfl rfl rfl ?_ | refine zr (r' := .t (.int .i64 v1)) [(.par 0, .loc 905)] rfl rfl hN (ArgsLE.refl _) rfl ⟨rfl, trivial⟩ rfl rfl rfl rfl rfl rfl rfl rfl rfl rfl ?_ | refine zr (r' := .t (.int .i64 v2)) [(.par 0, .loc 905)] rfl rfl hM (ArgsLE.refl _) rfl ⟨rfl, trivial⟩ rfl rfl rfl rfl rfl rfl rfl rfl rfl rfl ?_ | refine zr (r' := .t (.agg [.int .i64 a1, .sl 1 (a2.map frs)])) [(.par 0, .loc 905)] rfl rfl hK (ArgsLE.refl _) rfl ⟨rfl, trivial⟩ rfl rfl rfl rfl rfl rfl rfl rfl rfl rfl ?_ | refine zr (r' := .t (.agg [.int .i64 b1, .sl 1 (b2.map frs)])) [(.par 0, .loc 905)] rfl rfl hJ (ArgsLE.refl _) rfl ⟨rfl, trivial⟩ rfl rfl rfl rfl rfl rfl rfl rfl rfl rfl ?_ | refine zr (r' := (.t (.agg [.int .i64 ak, .bool ab, .int .i64 an, .str at_, .sl 1 (am.map .str), .sl 6 (ai.map Nd.toT)]))) [] rfl rfl hNA (ArgsLE.refl _) rfl ⟨rfl, rfl, trivial⟩ rfl rfl rfl rfl rfl rfl rfl rfl rfl rfl ?_ | refine zr (r' := (.t (.agg [.int .i64 bk, .bool bo, .int .i64 bn, .str bt, .sl 1 (bm.map .str), .sl 6 (bi.map Nd.toT)]))) [] rfl rfl hNB (ArgsLE.refl _) rfl ⟨rfl, rfl, trivial⟩ rfl rfl rfl rfl rfl rfl rfl rfl rfl rfl ?_ | refine zr (r' := (.tup [.t (.agg [.int .i64 a1, .sl 1 (a2.map frs)]), .t (.int .i64 0)])) [] rfl rfl hPA (ArgsLE.refl _) rfl ⟨rfl, rfl, rfl, rfl, trivial⟩ rfl rfl rfl rfl rfl rfl rfl rfl rfl rfl ?_ | refine zr (r' := (.tup [.t (.agg [.int .i64 b1, .sl 1 (b2.map frs)]), .t (.int .i64 0)])) [] rfl rfl hPB (ArgsLE.refl _) rfl ⟨rfl, rfl, rfl, rfl, trivial⟩ rfl rfl rfl rfl rfl rfl rfl rfl rfl rfl ?_ | refine zg rfl rfl sAA rfl rfl (ArgsLE.refl _) rfl rfl rfl rfl rfl ?_ | refine zg rfl rfl sBB rfl rfl (ArgsLE.refl _) rfl rfl rfl rfl rfl ?_ | refine zg rfl rfl sAB rfl rfl (ArgsLE.refl _) rfl rfl rfl rfl rfl ?_ | refine zg rfl rfl sNN rfl rfl (ArgsLE.refl _) rfl rfl rfl rfl rfl ?_) | refine zG rfl (fun hc => ?_) (fun hc => ?_))
    all_goals first | exact absurd rfl ‹¬ bb = bb› | exact zq (zi rfl rfl rfl) (zf ⟨rfl, rfl, rfl, rfl, trivial⟩)
  · rw [decide_eq_false hg1] at hLt
    refine zc (env0 := [(0, _)]) (st0 := [(_, some _), (_, some _), (_, some _), (_, some _)]) Tryz.func5 rfl rfl rfl rfl ?_
    repeat' (first | refine wC ?_ | refine wK ?_ | ((with_reducible refine zo ?_); first | refine zg rfl rfl hLt rfl rfl (ArgsLE.refl _) rfl rfl rfl rfl rfl ?_ | refine zg rfl rfl hA rfl rfl (ArgsLE.refl _) rfl rfl rfl rfl rfl ?_))
    all_goals exact zq (zi rfl rfl rfl) (zf ⟨rfl, rfl, rfl, rfl, trivial⟩)
end Go.AL
set_option linter.unusedVariables false
namespace Go.AL
open Go Go.Proofs Go.RowKit
mutual
theorem Nd.noG : ∀ x : Nd, x.toT.noG = true
  | .mk k b n t ns is => by simp [Nd.toT, T.noG, T.noGL, zbC, Nd.noGs is]
theorem Nd.noGs : ∀ l : List Nd, T.noGL (Nd.toTs l) = true
  | [] => rfl
  | x :: xs => by simp [Nd.toTs, T.noGL, Nd.noG x, Nd.noGs xs]
end
def zgh : List Int := [1, 10, 100, 1000, 10000, 100000, 1000000, 10000000, 100000000, 1000000000, 10000000000, 100000000000, 1000000000000, 10000000000000, 100000000000000, 1000000000000000, 10000000000000000, 100000000000000000, 1000000000000000000, 10000000000000000000]
theorem ze9 : zgh = Lib.pow10Tab := by decide
theorem zfE {oP : Obj} (h : z6 .u64 zgh oP) : z6 .u64 Lib.pow10Tab oP := by rw [← ze9]; exact h
end Go.AL
