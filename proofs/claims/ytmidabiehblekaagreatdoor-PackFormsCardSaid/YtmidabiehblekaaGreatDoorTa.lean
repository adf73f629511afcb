/- What functions of the program and of the document answer, and the plain laws behind it; each under the conditions that its own theorem names. -/
import Derived.Test.YtmidabiehblekaaGreatDoorProg
import Derived.Test.YtmidabiehblekaaGreatDoorAl3
import Derived.Shelf.Unicode.ValidAny
set_option linter.unusedVariables false
namespace Go.AL
open Go Go.Proofs
instance : TyU Tryz.prog 0 (TypeDesc.tuple #[]) := ⟨Tryz.underlying0⟩
instance : TyI Tryz.prog 0 1 0 (Value.tuple [].toArray) := ⟨by kernel_rfl⟩
instance : TyU Tryz.prog 2 (TypeDesc.int IntKind.i64) := ⟨Tryz.underlying2⟩
instance : TyI Tryz.prog 2 1 8 (Value.int IntKind.i64 (0)) := ⟨by kernel_rfl⟩
instance : TyU Tryz.prog 3 (TypeDesc.int IntKind.i64) := ⟨Tryz.underlying3⟩
instance : TyI Tryz.prog 3 1 8 (Value.int IntKind.i64 (0)) := ⟨by kernel_rfl⟩
instance : TyU Tryz.prog 4 TypeDesc.bool := ⟨Tryz.underlying4⟩
instance : TyI Tryz.prog 4 1 1 (Value.bool false) := ⟨by kernel_rfl⟩
instance : TyU Tryz.prog 5 (TypeDesc.int IntKind.u8) := ⟨Tryz.underlying5⟩
instance : TyI Tryz.prog 5 1 1 (Value.int IntKind.u8 (0)) := ⟨by kernel_rfl⟩
instance : TyU Tryz.prog 9 TypeDesc.string := ⟨Tryz.underlying9⟩
instance : TyI Tryz.prog 9 1 16 (Value.string ⟨#[]⟩) := ⟨by kernel_rfl⟩
instance : TyU Tryz.prog 12 (TypeDesc.int IntKind.u64) := ⟨Tryz.underlying12⟩
instance : TyI Tryz.prog 12 1 8 (Value.int IntKind.u64 (0)) := ⟨by kernel_rfl⟩
instance : TyU Tryz.prog 20 (TypeDesc.interface #[]) := ⟨Tryz.underlying20⟩
instance : TyI Tryz.prog 20 1 16 (Value.nilIface) := ⟨by kernel_rfl⟩
instance : TyU Tryz.prog 21 (TypeDesc.int IntKind.i32) := ⟨Tryz.underlying21⟩
instance : TyI Tryz.prog 21 1 4 (Value.int IntKind.i32 (0)) := ⟨by kernel_rfl⟩
instance : TyU Tryz.prog 22 (TypeDesc.slice 3) := ⟨Tryz.underlying22⟩
instance : TyI Tryz.prog 22 1 24 (Value.slice none 0 0) := ⟨by kernel_rfl⟩
instance : TyU Tryz.prog 27 (TypeDesc.slice 9) := ⟨Tryz.underlying27⟩
instance : TyI Tryz.prog 27 1 24 (Value.slice none 0 0) := ⟨by kernel_rfl⟩
instance : TyU Tryz.prog 28 (TypeDesc.slice 30) := ⟨Tryz.underlying28⟩
instance : TyI Tryz.prog 28 1 24 (Value.slice none 0 0) := ⟨by kernel_rfl⟩
instance : TyU Tryz.prog 30 (TypeDesc.struct #[{ name := "Kind", type := 3, offset := 0, embedded := false, tag := "", pkgPath := "", byteOffset := 0 }, { name := "Bool", type := 4, offset := 1, embedded := false, tag := "", pkgPath := "", byteOffset := 8 }, { name := "Number", type := 3, offset := 2, embedded := false, tag := "", pkgPath := "", byteOffset := 16 }, { name := "Text", type := 9, offset := 3, embedded := false, tag := "", pkgPath := "", byteOffset := 24 }, { name := "Names", type := 27, offset := 4, embedded := false, tag := "", pkgPath := "", byteOffset := 40 }, { name := "Items", type := 28, offset := 5, embedded := false, tag := "", pkgPath := "", byteOffset := 64 }]) := ⟨Tryz.underlying30⟩
instance : TyI Tryz.prog 30 6 88 (Value.agg [Value.int IntKind.i64 (0), Value.bool false, Value.int IntKind.i64 (0), Value.string ⟨#[]⟩, Value.slice none 0 0, Value.slice none 0 0].toArray) := ⟨by kernel_rfl⟩
instance : TyU Tryz.prog 64 (TypeDesc.func #[] #[9] false) := ⟨Tryz.underlying64⟩
instance : TyI Tryz.prog 64 1 8 (Value.nilFunc) := ⟨by kernel_rfl⟩
instance : TyU Tryz.prog 72 (TypeDesc.func #[30] #[9, 32] false) := ⟨Tryz.underlying72⟩
instance : TyI Tryz.prog 72 1 8 (Value.nilFunc) := ⟨by kernel_rfl⟩
instance : TyU Tryz.prog 74 (TypeDesc.struct #[{ name := "l", type := 22, offset := 0, embedded := false, tag := "", pkgPath := "keyevent/keyeventkit", byteOffset := 0 }, { name := "at", type := 3, offset := 1, embedded := false, tag := "", pkgPath := "keyevent/keyeventkit", byteOffset := 24 }]) := ⟨Tryz.underlying74⟩
instance : TyI Tryz.prog 74 2 32 (Value.agg [Value.slice none 0 0, Value.int IntKind.i64 (0)].toArray) := ⟨by kernel_rfl⟩
instance : TyU Tryz.prog 75 (TypeDesc.func #[9] #[30, 32] false) := ⟨Tryz.underlying75⟩
instance : TyI Tryz.prog 75 1 8 (Value.nilFunc) := ⟨by kernel_rfl⟩
instance : TyU Tryz.prog 77 (TypeDesc.struct #[{ name := "encode", type := 72, offset := 0, embedded := false, tag := "", pkgPath := "keyevent/pack", byteOffset := 0 }, { name := "decode", type := 75, offset := 1, embedded := false, tag := "", pkgPath := "keyevent/pack", byteOffset := 8 }]) := ⟨Tryz.underlying77⟩
instance : TyI Tryz.prog 77 2 16 (Value.agg [Value.nilFunc, Value.nilFunc].toArray) := ⟨by kernel_rfl⟩
instance : TyU Tryz.prog 79 (TypeDesc.map 3 77) := ⟨Tryz.underlying79⟩
instance : TyU Tryz.prog 82 (TypeDesc.slice 5) := ⟨Tryz.underlying82⟩
instance : TyI Tryz.prog 82 1 24 (Value.slice none 0 0) := ⟨by kernel_rfl⟩
instance : TyU Tryz.prog 122 (TypeDesc.map 9 4) := ⟨Tryz.underlying122⟩
instance : TyU Tryz.prog 128 (TypeDesc.interface #[("Error", 64)]) := ⟨Tryz.underlying128⟩
instance : TyI Tryz.prog 128 1 16 (Value.nilIface) := ⟨by kernel_rfl⟩
instance : TyU Tryz.prog 129 (TypeDesc.tuple #[2, 128]) := ⟨Tryz.underlying129⟩
instance : TyI Tryz.prog 129 1 0 (Value.tuple [Value.int IntKind.i64 (0), Value.nilIface].toArray) := ⟨by kernel_rfl⟩
instance : TyU Tryz.prog 148 (TypeDesc.int IntKind.u64) := ⟨Tryz.underlying148⟩
instance : TyI Tryz.prog 148 1 8 (Value.int IntKind.u64 (0)) := ⟨by kernel_rfl⟩
instance : TyU Tryz.prog 156 (TypeDesc.tuple #[3, 128]) := ⟨Tryz.underlying156⟩
instance : TyI Tryz.prog 156 1 0 (Value.tuple [Value.int IntKind.i64 (0), Value.nilIface].toArray) := ⟨by kernel_rfl⟩
instance : TyU Tryz.prog 168 (TypeDesc.int IntKind.u32) := ⟨Tryz.underlying168⟩
instance : TyI Tryz.prog 168 1 4 (Value.int IntKind.u32 (0)) := ⟨by kernel_rfl⟩
instance : TyU Tryz.prog 175 (TypeDesc.array 32 5) := ⟨Tryz.underlying175⟩
instance : TyI Tryz.prog 175 32 32 (Value.agg [Value.int IntKind.u8 (0), Value.int IntKind.u8 (0), Value.int IntKind.u8 (0), Value.int IntKind.u8 (0), Value.int IntKind.u8 (0), Value.int IntKind.u8 (0), Value.int IntKind.u8 (0), Value.int IntKind.u8 (0), Value.int IntKind.u8 (0), Value.int IntKind.u8 (0), Value.int IntKind.u8 (0), Value.int IntKind.u8 (0), Value.int IntKind.u8 (0), Value.int IntKind.u8 (0), Value.int IntKind.u8 (0), Value.int IntKind.u8 (0), Value.int IntKind.u8 (0), Value.int IntKind.u8 (0), Value.int IntKind.u8 (0), Value.int IntKind.u8 (0), Value.int IntKind.u8 (0), Value.int IntKind.u8 (0), Value.int IntKind.u8 (0), Value.int IntKind.u8 (0), Value.int IntKind.u8 (0), Value.int IntKind.u8 (0), Value.int IntKind.u8 (0), Value.int IntKind.u8 (0), Value.int IntKind.u8 (0), Value.int IntKind.u8 (0), Value.int IntKind.u8 (0), Value.int IntKind.u8 (0)].toArray) := ⟨by kernel_rfl⟩
instance : TyU Tryz.prog 188 (TypeDesc.struct #[{ name := "Rest", type := 9, offset := 0, embedded := false, tag := "", pkgPath := "", byteOffset := 0 }, { name := "Bad", type := 4, offset := 1, embedded := false, tag := "", pkgPath := "", byteOffset := 16 }]) := ⟨Tryz.underlying188⟩
instance : TyI Tryz.prog 188 2 24 (Value.agg [Value.string ⟨#[]⟩, Value.bool false].toArray) := ⟨by kernel_rfl⟩
instance : TyU Tryz.prog 190 (TypeDesc.struct #[{ name := "Reader", type := 188, offset := 0, embedded := true, tag := "", pkgPath := "", byteOffset := 0 }]) := ⟨Tryz.underlying190⟩
instance : TyI Tryz.prog 190 2 24 (Value.agg [Value.string ⟨#[]⟩, Value.bool false].toArray) := ⟨by kernel_rfl⟩
instance : TyU Tryz.prog 195 (TypeDesc.struct #[{ name := "Reader", type := 188, offset := 0, embedded := true, tag := "", pkgPath := "", byteOffset := 0 }]) := ⟨Tryz.underlying195⟩
instance : TyI Tryz.prog 195 2 24 (Value.agg [Value.string ⟨#[]⟩, Value.bool false].toArray) := ⟨by kernel_rfl⟩
instance : TyU Tryz.prog 197 (TypeDesc.struct #[{ name := "Reader", type := 188, offset := 0, embedded := true, tag := "", pkgPath := "", byteOffset := 0 }]) := ⟨Tryz.underlying197⟩
instance : TyI Tryz.prog 197 2 24 (Value.agg [Value.string ⟨#[]⟩, Value.bool false].toArray) := ⟨by kernel_rfl⟩
instance : TyU Tryz.prog 201 (TypeDesc.int IntKind.u64) := ⟨Tryz.underlying201⟩
instance : TyI Tryz.prog 201 1 8 (Value.int IntKind.u64 (0)) := ⟨by kernel_rfl⟩
instance : TyU Tryz.prog 227 (TypeDesc.array 24 5) := ⟨Tryz.underlying227⟩
instance : TyI Tryz.prog 227 24 24 (Value.agg [Value.int IntKind.u8 (0), Value.int IntKind.u8 (0), Value.int IntKind.u8 (0), Value.int IntKind.u8 (0), Value.int IntKind.u8 (0), Value.int IntKind.u8 (0), Value.int IntKind.u8 (0), Value.int IntKind.u8 (0), Value.int IntKind.u8 (0), Value.int IntKind.u8 (0), Value.int IntKind.u8 (0), Value.int IntKind.u8 (0), Value.int IntKind.u8 (0), Value.int IntKind.u8 (0), Value.int IntKind.u8 (0), Value.int IntKind.u8 (0), Value.int IntKind.u8 (0), Value.int IntKind.u8 (0), Value.int IntKind.u8 (0), Value.int IntKind.u8 (0), Value.int IntKind.u8 (0), Value.int IntKind.u8 (0), Value.int IntKind.u8 (0), Value.int IntKind.u8 (0)].toArray) := ⟨by kernel_rfl⟩
instance : TyU Tryz.prog 230 (TypeDesc.tuple #[82, 9]) := ⟨Tryz.underlying230⟩
instance : TyI Tryz.prog 230 1 0 (Value.tuple [Value.slice none 0 0, Value.string ⟨#[]⟩].toArray) := ⟨by kernel_rfl⟩
instance : TyU Tryz.prog 234 (TypeDesc.tuple #[201, 128]) := ⟨Tryz.underlying234⟩
instance : TyI Tryz.prog 234 1 0 (Value.tuple [Value.int IntKind.u64 (0), Value.nilIface].toArray) := ⟨by kernel_rfl⟩
instance : TyU Tryz.prog 240 (TypeDesc.pointer 5) := ⟨Tryz.underlying240⟩
instance : TyI Tryz.prog 240 1 8 (Value.pointer none) := ⟨by kernel_rfl⟩
instance : TyU Tryz.prog 262 (TypeDesc.array 256 5) := ⟨Tryz.underlying262⟩
instance : TyI Tryz.prog 262 256 256 (Value.agg (List.replicate 256 (Value.int IntKind.u8 0)).toArray) := ⟨by kernel_rfl⟩
instance : TyU Tryz.prog 264 (TypeDesc.struct #[{ name := "lo", type := 5, offset := 0, embedded := false, tag := "", pkgPath := "unicode/utf8", byteOffset := 0 }, { name := "hi", type := 5, offset := 1, embedded := false, tag := "", pkgPath := "unicode/utf8", byteOffset := 1 }]) := ⟨Tryz.underlying264⟩
instance : TyI Tryz.prog 264 2 2 (Value.agg [Value.int IntKind.u8 (0), Value.int IntKind.u8 (0)].toArray) := ⟨by kernel_rfl⟩
instance : TyU Tryz.prog 265 (TypeDesc.array 16 264) := ⟨Tryz.underlying265⟩
instance : TyI Tryz.prog 265 32 32 (Value.agg [Value.int IntKind.u8 (0), Value.int IntKind.u8 (0), Value.int IntKind.u8 (0), Value.int IntKind.u8 (0), Value.int IntKind.u8 (0), Value.int IntKind.u8 (0), Value.int IntKind.u8 (0), Value.int IntKind.u8 (0), Value.int IntKind.u8 (0), Value.int IntKind.u8 (0), Value.int IntKind.u8 (0), Value.int IntKind.u8 (0), Value.int IntKind.u8 (0), Value.int IntKind.u8 (0), Value.int IntKind.u8 (0), Value.int IntKind.u8 (0), Value.int IntKind.u8 (0), Value.int IntKind.u8 (0), Value.int IntKind.u8 (0), Value.int IntKind.u8 (0), Value.int IntKind.u8 (0), Value.int IntKind.u8 (0), Value.int IntKind.u8 (0), Value.int IntKind.u8 (0), Value.int IntKind.u8 (0), Value.int IntKind.u8 (0), Value.int IntKind.u8 (0), Value.int IntKind.u8 (0), Value.int IntKind.u8 (0), Value.int IntKind.u8 (0), Value.int IntKind.u8 (0), Value.int IntKind.u8 (0)].toArray) := ⟨by kernel_rfl⟩
instance : TyU Tryz.prog 269 (TypeDesc.int IntKind.i64) := ⟨Tryz.underlying269⟩
instance : TyI Tryz.prog 269 1 8 (Value.int IntKind.i64 (0)) := ⟨by kernel_rfl⟩
instance : TyU Tryz.prog 270 (TypeDesc.pointer 296) := ⟨Tryz.underlying270⟩
instance : TyI Tryz.prog 270 1 8 (Value.pointer none) := ⟨by kernel_rfl⟩
instance : TyU Tryz.prog 276 (TypeDesc.array 20 201) := ⟨Tryz.underlying276⟩
instance : TyI Tryz.prog 276 20 160 (Value.agg [Value.int IntKind.u64 (0), Value.int IntKind.u64 (0), Value.int IntKind.u64 (0), Value.int IntKind.u64 (0), Value.int IntKind.u64 (0), Value.int IntKind.u64 (0), Value.int IntKind.u64 (0), Value.int IntKind.u64 (0), Value.int IntKind.u64 (0), Value.int IntKind.u64 (0), Value.int IntKind.u64 (0), Value.int IntKind.u64 (0), Value.int IntKind.u64 (0), Value.int IntKind.u64 (0), Value.int IntKind.u64 (0), Value.int IntKind.u64 (0), Value.int IntKind.u64 (0), Value.int IntKind.u64 (0), Value.int IntKind.u64 (0), Value.int IntKind.u64 (0)].toArray) := ⟨by kernel_rfl⟩
instance : TyU Tryz.prog 277 (TypeDesc.array 65 5) := ⟨Tryz.underlying277⟩
instance : TyI Tryz.prog 277 65 65 (Value.agg [Value.int IntKind.u8 (0), Value.int IntKind.u8 (0), Value.int IntKind.u8 (0), Value.int IntKind.u8 (0), Value.int IntKind.u8 (0), Value.int IntKind.u8 (0), Value.int IntKind.u8 (0), Value.int IntKind.u8 (0), Value.int IntKind.u8 (0), Value.int IntKind.u8 (0), Value.int IntKind.u8 (0), Value.int IntKind.u8 (0), Value.int IntKind.u8 (0), Value.int IntKind.u8 (0), Value.int IntKind.u8 (0), Value.int IntKind.u8 (0), Value.int IntKind.u8 (0), Value.int IntKind.u8 (0), Value.int IntKind.u8 (0), Value.int IntKind.u8 (0), Value.int IntKind.u8 (0), Value.int IntKind.u8 (0), Value.int IntKind.u8 (0), Value.int IntKind.u8 (0), Value.int IntKind.u8 (0), Value.int IntKind.u8 (0), Value.int IntKind.u8 (0), Value.int IntKind.u8 (0), Value.int IntKind.u8 (0), Value.int IntKind.u8 (0), Value.int IntKind.u8 (0), Value.int IntKind.u8 (0), Value.int IntKind.u8 (0), Value.int IntKind.u8 (0), Value.int IntKind.u8 (0), Value.int IntKind.u8 (0), Value.int IntKind.u8 (0), Value.int IntKind.u8 (0), Value.int IntKind.u8 (0), Value.int IntKind.u8 (0), Value.int IntKind.u8 (0), Value.int IntKind.u8 (0), Value.int IntKind.u8 (0), Value.int IntKind.u8 (0), Value.int IntKind.u8 (0), Value.int IntKind.u8 (0), Value.int IntKind.u8 (0), Value.int IntKind.u8 (0), Value.int IntKind.u8 (0), Value.int IntKind.u8 (0), Value.int IntKind.u8 (0), Value.int IntKind.u8 (0), Value.int IntKind.u8 (0), Value.int IntKind.u8 (0), Value.int IntKind.u8 (0), Value.int IntKind.u8 (0), Value.int IntKind.u8 (0), Value.int IntKind.u8 (0), Value.int IntKind.u8 (0), Value.int IntKind.u8 (0), Value.int IntKind.u8 (0), Value.int IntKind.u8 (0), Value.int IntKind.u8 (0), Value.int IntKind.u8 (0), Value.int IntKind.u8 (0)].toArray) := ⟨by kernel_rfl⟩
instance : TyU Tryz.prog 286 (TypeDesc.map 5 5) := ⟨Tryz.underlying286⟩
instance : TyU Tryz.prog 291 (TypeDesc.int IntKind.i8) := ⟨Tryz.underlying291⟩
instance : TyU Tryz.prog 296 (TypeDesc.struct #[{ name := "Func", type := 9, offset := 0, embedded := false, tag := "", pkgPath := "", byteOffset := 0 }, { name := "Num", type := 9, offset := 1, embedded := false, tag := "", pkgPath := "", byteOffset := 16 }, { name := "Err", type := 128, offset := 2, embedded := false, tag := "", pkgPath := "", byteOffset := 32 }]) := ⟨Tryz.underlying296⟩
instance : TyI Tryz.prog 296 3 48 (Value.agg [Value.string ⟨#[]⟩, Value.string ⟨#[]⟩, Value.nilIface].toArray) := ⟨by kernel_rfl⟩
instance : TyU Tryz.prog 307 (TypeDesc.pointer 309) := ⟨Tryz.underlying307⟩
instance : TyI Tryz.prog 307 1 8 (Value.pointer none) := ⟨by kernel_rfl⟩
instance : TyU Tryz.prog 309 (TypeDesc.struct #[{ name := "s", type := 9, offset := 0, embedded := false, tag := "", pkgPath := "errors", byteOffset := 0 }]) := ⟨Tryz.underlying309⟩
instance : TyI Tryz.prog 309 1 16 (Value.agg [Value.string ⟨#[]⟩].toArray) := ⟨by kernel_rfl⟩
instance : TyU Tryz.prog 311 (TypeDesc.array 64 5) := ⟨Tryz.underlying311⟩
instance : TyI Tryz.prog 311 64 64 (Value.agg (List.replicate 64 (Value.int IntKind.u8 0)).toArray) := ⟨by kernel_rfl⟩
instance : FnB Tryz.prog 12 := ⟨⟨Tryz.f12, Tryz.func12, by kernel_rfl, by kernel_rfl⟩⟩
instance : FnB Tryz.prog 13 := ⟨⟨Tryz.f13, Tryz.func13, by kernel_rfl, by kernel_rfl⟩⟩
instance : FnB Tryz.prog 14 := ⟨⟨Tryz.f14, Tryz.func14, by kernel_rfl, by kernel_rfl⟩⟩
instance : FnB Tryz.prog 15 := ⟨⟨Tryz.f15, Tryz.func15, by kernel_rfl, by kernel_rfl⟩⟩
instance : FnB Tryz.prog 16 := ⟨⟨Tryz.f16, Tryz.func16, by kernel_rfl, by kernel_rfl⟩⟩
instance : FnB Tryz.prog 17 := ⟨⟨Tryz.f17, Tryz.func17, by kernel_rfl, by kernel_rfl⟩⟩
instance : FnB Tryz.prog 18 := ⟨⟨Tryz.f18, Tryz.func18, by kernel_rfl, by kernel_rfl⟩⟩
instance : FnB Tryz.prog 19 := ⟨⟨Tryz.f19, Tryz.func19, by kernel_rfl, by kernel_rfl⟩⟩
instance : FnB Tryz.prog 20 := ⟨⟨Tryz.f20, Tryz.func20, by kernel_rfl, by kernel_rfl⟩⟩
instance : FnB Tryz.prog 21 := ⟨⟨Tryz.f21, Tryz.func21, by kernel_rfl, by kernel_rfl⟩⟩
instance : FnB Tryz.prog 22 := ⟨⟨Tryz.f22, Tryz.func22, by kernel_rfl, by kernel_rfl⟩⟩
instance : FnB Tryz.prog 23 := ⟨⟨Tryz.f23, Tryz.func23, by kernel_rfl, by kernel_rfl⟩⟩
instance : FnB Tryz.prog 24 := ⟨⟨Tryz.f24, Tryz.func24, by kernel_rfl, by kernel_rfl⟩⟩
instance : FnB Tryz.prog 27 := ⟨⟨Tryz.f27, Tryz.func27, by kernel_rfl, by kernel_rfl⟩⟩
instance : FnB Tryz.prog 32 := ⟨⟨Tryz.f32, Tryz.func32, by kernel_rfl, by kernel_rfl⟩⟩
instance : FnB Tryz.prog 40 := ⟨⟨Tryz.f40, Tryz.func40, by kernel_rfl, by kernel_rfl⟩⟩
instance : FnB Tryz.prog 44 := ⟨⟨Tryz.f44, Tryz.func44, by kernel_rfl, by kernel_rfl⟩⟩
instance : FnB Tryz.prog 50 := ⟨⟨Tryz.f50, Tryz.func50, by kernel_rfl, by kernel_rfl⟩⟩
instance : FnB Tryz.prog 51 := ⟨⟨Tryz.f51, Tryz.func51, by kernel_rfl, by kernel_rfl⟩⟩
instance : FnB Tryz.prog 52 := ⟨⟨Tryz.f52, Tryz.func52, by kernel_rfl, by kernel_rfl⟩⟩
instance : FnB Tryz.prog 53 := ⟨⟨Tryz.f53, Tryz.func53, by kernel_rfl, by kernel_rfl⟩⟩
instance : FnB Tryz.prog 54 := ⟨⟨Tryz.f54, Tryz.func54, by kernel_rfl, by kernel_rfl⟩⟩
instance : FnB Tryz.prog 55 := ⟨⟨Tryz.f55, Tryz.func55, by kernel_rfl, by kernel_rfl⟩⟩
instance : FnB Tryz.prog 56 := ⟨⟨Tryz.f56, Tryz.func56, by kernel_rfl, by kernel_rfl⟩⟩
instance : FnB Tryz.prog 57 := ⟨⟨Tryz.f57, Tryz.func57, by kernel_rfl, by kernel_rfl⟩⟩
instance : FnB Tryz.prog 58 := ⟨⟨Tryz.f58, Tryz.func58, by kernel_rfl, by kernel_rfl⟩⟩
instance : FnB Tryz.prog 59 := ⟨⟨Tryz.f59, Tryz.func59, by kernel_rfl, by kernel_rfl⟩⟩
instance : FnB Tryz.prog 72 := ⟨⟨Tryz.f72, Tryz.func72, by kernel_rfl, by kernel_rfl⟩⟩
instance : FnB Tryz.prog 99 := ⟨⟨Tryz.f99, Tryz.func99, by kernel_rfl, by kernel_rfl⟩⟩
instance : FnB Tryz.prog 100 := ⟨⟨Tryz.f100, Tryz.func100, by kernel_rfl, by kernel_rfl⟩⟩
instance : FnB Tryz.prog 101 := ⟨⟨Tryz.f101, Tryz.func101, by kernel_rfl, by kernel_rfl⟩⟩
instance : FnB Tryz.prog 102 := ⟨⟨Tryz.f102, Tryz.func102, by kernel_rfl, by kernel_rfl⟩⟩
instance : FnB Tryz.prog 103 := ⟨⟨Tryz.f103, Tryz.func103, by kernel_rfl, by kernel_rfl⟩⟩
instance : FnB Tryz.prog 104 := ⟨⟨Tryz.f104, Tryz.func104, by kernel_rfl, by kernel_rfl⟩⟩
instance : FnB Tryz.prog 105 := ⟨⟨Tryz.f105, Tryz.func105, by kernel_rfl, by kernel_rfl⟩⟩
instance : FnB Tryz.prog 106 := ⟨⟨Tryz.f106, Tryz.func106, by kernel_rfl, by kernel_rfl⟩⟩
instance : FnB Tryz.prog 107 := ⟨⟨Tryz.f107, Tryz.func107, by kernel_rfl, by kernel_rfl⟩⟩
instance : FnB Tryz.prog 108 := ⟨⟨Tryz.f108, Tryz.func108, by kernel_rfl, by kernel_rfl⟩⟩
instance : FnB Tryz.prog 109 := ⟨⟨Tryz.f109, Tryz.func109, by kernel_rfl, by kernel_rfl⟩⟩
instance : FnB Tryz.prog 110 := ⟨⟨Tryz.f110, Tryz.func110, by kernel_rfl, by kernel_rfl⟩⟩
instance : FnB Tryz.prog 111 := ⟨⟨Tryz.f111, Tryz.func111, by kernel_rfl, by kernel_rfl⟩⟩
instance : FnB Tryz.prog 112 := ⟨⟨Tryz.f112, Tryz.func112, by kernel_rfl, by kernel_rfl⟩⟩
instance : FnB Tryz.prog 130 := ⟨⟨Tryz.f130, Tryz.func130, by kernel_rfl, by kernel_rfl⟩⟩
instance : FnB Tryz.prog 141 := ⟨⟨Tryz.f141, Tryz.func141, by kernel_rfl, by kernel_rfl⟩⟩
instance : FnB Tryz.prog 160 := ⟨⟨Tryz.f160, Tryz.func160, by kernel_rfl, by kernel_rfl⟩⟩
instance : FnB Tryz.prog 161 := ⟨⟨Tryz.f161, Tryz.func161, by kernel_rfl, by kernel_rfl⟩⟩
instance : FnB Tryz.prog 162 := ⟨⟨Tryz.f162, Tryz.func162, by kernel_rfl, by kernel_rfl⟩⟩
instance : FnB Tryz.prog 163 := ⟨⟨Tryz.f163, Tryz.func163, by kernel_rfl, by kernel_rfl⟩⟩
instance : FnB Tryz.prog 164 := ⟨⟨Tryz.f164, Tryz.func164, by kernel_rfl, by kernel_rfl⟩⟩
instance : FnB Tryz.prog 165 := ⟨⟨Tryz.f165, Tryz.func165, by kernel_rfl, by kernel_rfl⟩⟩
instance : FnB Tryz.prog 166 := ⟨⟨Tryz.f166, Tryz.func166, by kernel_rfl, by kernel_rfl⟩⟩
instance : FnB Tryz.prog 167 := ⟨⟨Tryz.f167, Tryz.func167, by kernel_rfl, by kernel_rfl⟩⟩
instance : FnB Tryz.prog 168 := ⟨⟨Tryz.f168, Tryz.func168, by kernel_rfl, by kernel_rfl⟩⟩
instance : FnB Tryz.prog 169 := ⟨⟨Tryz.f169, Tryz.func169, by kernel_rfl, by kernel_rfl⟩⟩
instance : FnB Tryz.prog 170 := ⟨⟨Tryz.f170, Tryz.func170, by kernel_rfl, by kernel_rfl⟩⟩
instance : FnB Tryz.prog 171 := ⟨⟨Tryz.f171, Tryz.func171, by kernel_rfl, by kernel_rfl⟩⟩
instance : FnB Tryz.prog 172 := ⟨⟨Tryz.f172, Tryz.func172, by kernel_rfl, by kernel_rfl⟩⟩
instance : FnB Tryz.prog 173 := ⟨⟨Tryz.f173, Tryz.func173, by kernel_rfl, by kernel_rfl⟩⟩
instance : FnB Tryz.prog 174 := ⟨⟨Tryz.f174, Tryz.func174, by kernel_rfl, by kernel_rfl⟩⟩
instance : FnB Tryz.prog 175 := ⟨⟨Tryz.f175, Tryz.func175, by kernel_rfl, by kernel_rfl⟩⟩
instance : FnB Tryz.prog 176 := ⟨⟨Tryz.f176, Tryz.func176, by kernel_rfl, by kernel_rfl⟩⟩
instance : FnB Tryz.prog 177 := ⟨⟨Tryz.f177, Tryz.func177, by kernel_rfl, by kernel_rfl⟩⟩
instance : FnB Tryz.prog 178 := ⟨⟨Tryz.f178, Tryz.func178, by kernel_rfl, by kernel_rfl⟩⟩
instance : FnB Tryz.prog 179 := ⟨⟨Tryz.f179, Tryz.func179, by kernel_rfl, by kernel_rfl⟩⟩
instance : FnB Tryz.prog 180 := ⟨⟨Tryz.f180, Tryz.func180, by kernel_rfl, by kernel_rfl⟩⟩
instance : FnB Tryz.prog 181 := ⟨⟨Tryz.f181, Tryz.func181, by kernel_rfl, by kernel_rfl⟩⟩
instance : FnB Tryz.prog 182 := ⟨⟨Tryz.f182, Tryz.func182, by kernel_rfl, by kernel_rfl⟩⟩
instance : FnB Tryz.prog 183 := ⟨⟨Tryz.f183, Tryz.func183, by kernel_rfl, by kernel_rfl⟩⟩
instance : FnB Tryz.prog 184 := ⟨⟨Tryz.f184, Tryz.func184, by kernel_rfl, by kernel_rfl⟩⟩
instance : FnB Tryz.prog 185 := ⟨⟨Tryz.f185, Tryz.func185, by kernel_rfl, by kernel_rfl⟩⟩
instance : FnB Tryz.prog 186 := ⟨⟨Tryz.f186, Tryz.func186, by kernel_rfl, by kernel_rfl⟩⟩
instance : FnB Tryz.prog 187 := ⟨⟨Tryz.f187, Tryz.func187, by kernel_rfl, by kernel_rfl⟩⟩
instance : FnB Tryz.prog 188 := ⟨⟨Tryz.f188, Tryz.func188, by kernel_rfl, by kernel_rfl⟩⟩
instance : FnB Tryz.prog 195 := ⟨⟨Tryz.f195, Tryz.func195, by kernel_rfl, by kernel_rfl⟩⟩
instance : FnB Tryz.prog 200 := ⟨⟨Tryz.f200, Tryz.func200, by kernel_rfl, by kernel_rfl⟩⟩
instance : FnB Tryz.prog 201 := ⟨⟨Tryz.f201, Tryz.func201, by kernel_rfl, by kernel_rfl⟩⟩
instance : FnB Tryz.prog 202 := ⟨⟨Tryz.f202, Tryz.func202, by kernel_rfl, by kernel_rfl⟩⟩
instance : FnB Tryz.prog 205 := ⟨⟨Tryz.f205, Tryz.func205, by kernel_rfl, by kernel_rfl⟩⟩
instance : FnB Tryz.prog 206 := ⟨⟨Tryz.f206, Tryz.func206, by kernel_rfl, by kernel_rfl⟩⟩
instance : FnB Tryz.prog 207 := ⟨⟨Tryz.f207, Tryz.func207, by kernel_rfl, by kernel_rfl⟩⟩
instance : FnB Tryz.prog 208 := ⟨⟨Tryz.f208, Tryz.func208, by kernel_rfl, by kernel_rfl⟩⟩
instance : FnB Tryz.prog 209 := ⟨⟨Tryz.f209, Tryz.func209, by kernel_rfl, by kernel_rfl⟩⟩
instance : FnB Tryz.prog 212 := ⟨⟨Tryz.f212, Tryz.func212, by kernel_rfl, by kernel_rfl⟩⟩
instance : FnB Tryz.prog 215 := ⟨⟨Tryz.f215, Tryz.func215, by kernel_rfl, by kernel_rfl⟩⟩
instance : FnB Tryz.prog 229 := ⟨⟨Tryz.f229, Tryz.func229, by kernel_rfl, by kernel_rfl⟩⟩
instance : FnB Tryz.prog 230 := ⟨⟨Tryz.f230, Tryz.func230, by kernel_rfl, by kernel_rfl⟩⟩
instance : FnB Tryz.prog 231 := ⟨⟨Tryz.f231, Tryz.func231, by kernel_rfl, by kernel_rfl⟩⟩
instance : FnB Tryz.prog 232 := ⟨⟨Tryz.f232, Tryz.func232, by kernel_rfl, by kernel_rfl⟩⟩
instance : FnB Tryz.prog 233 := ⟨⟨Tryz.f233, Tryz.func233, by kernel_rfl, by kernel_rfl⟩⟩
instance : FnB Tryz.prog 234 := ⟨⟨Tryz.f234, Tryz.func234, by kernel_rfl, by kernel_rfl⟩⟩
instance : FnB Tryz.prog 235 := ⟨⟨Tryz.f235, Tryz.func235, by kernel_rfl, by kernel_rfl⟩⟩
instance : FnB Tryz.prog 236 := ⟨⟨Tryz.f236, Tryz.func236, by kernel_rfl, by kernel_rfl⟩⟩
instance : FnB Tryz.prog 237 := ⟨⟨Tryz.f237, Tryz.func237, by kernel_rfl, by kernel_rfl⟩⟩
instance : FnB Tryz.prog 238 := ⟨⟨Tryz.f238, Tryz.func238, by kernel_rfl, by kernel_rfl⟩⟩
instance : FnB Tryz.prog 239 := ⟨⟨Tryz.f239, Tryz.func239, by kernel_rfl, by kernel_rfl⟩⟩
instance : FnB Tryz.prog 240 := ⟨⟨Tryz.f240, Tryz.func240, by kernel_rfl, by kernel_rfl⟩⟩
instance : FnB Tryz.prog 241 := ⟨⟨Tryz.f241, Tryz.func241, by kernel_rfl, by kernel_rfl⟩⟩
instance : FnB Tryz.prog 242 := ⟨⟨Tryz.f242, Tryz.func242, by kernel_rfl, by kernel_rfl⟩⟩
instance : FnB Tryz.prog 243 := ⟨⟨Tryz.f243, Tryz.func243, by kernel_rfl, by kernel_rfl⟩⟩
instance : FnB Tryz.prog 244 := ⟨⟨Tryz.f244, Tryz.func244, by kernel_rfl, by kernel_rfl⟩⟩
instance : FnB Tryz.prog 245 := ⟨⟨Tryz.f245, Tryz.func245, by kernel_rfl, by kernel_rfl⟩⟩
instance : FnB Tryz.prog 246 := ⟨⟨Tryz.f246, Tryz.func246, by kernel_rfl, by kernel_rfl⟩⟩
instance : FnB Tryz.prog 247 := ⟨⟨Tryz.f247, Tryz.func247, by kernel_rfl, by kernel_rfl⟩⟩
instance : FnB Tryz.prog 248 := ⟨⟨Tryz.f248, Tryz.func248, by kernel_rfl, by kernel_rfl⟩⟩
instance : FnB Tryz.prog 250 := ⟨⟨Tryz.f250, Tryz.func250, by kernel_rfl, by kernel_rfl⟩⟩
instance : FnB Tryz.prog 251 := ⟨⟨Tryz.f251, Tryz.func251, by kernel_rfl, by kernel_rfl⟩⟩
instance : FnB Tryz.prog 257 := ⟨⟨Tryz.f257, Tryz.func257, by kernel_rfl, by kernel_rfl⟩⟩
instance : FnB Tryz.prog 263 := ⟨⟨Tryz.f263, Tryz.func263, by kernel_rfl, by kernel_rfl⟩⟩
instance : FnB Tryz.prog 269 := ⟨⟨Tryz.f269, Tryz.func269, by kernel_rfl, by kernel_rfl⟩⟩
instance : FnB Tryz.prog 275 := ⟨⟨Tryz.f275, Tryz.func275, by kernel_rfl, by kernel_rfl⟩⟩
instance : FnB Tryz.prog 276 := ⟨⟨Tryz.f276, Tryz.func276, by kernel_rfl, by kernel_rfl⟩⟩
instance : FnB Tryz.prog 277 := ⟨⟨Tryz.f277, Tryz.func277, by kernel_rfl, by kernel_rfl⟩⟩
instance : FnB Tryz.prog 278 := ⟨⟨Tryz.f278, Tryz.func278, by kernel_rfl, by kernel_rfl⟩⟩
instance : FnB Tryz.prog 279 := ⟨⟨Tryz.f279, Tryz.func279, by kernel_rfl, by kernel_rfl⟩⟩
instance : FnB Tryz.prog 280 := ⟨⟨Tryz.f280, Tryz.func280, by kernel_rfl, by kernel_rfl⟩⟩
instance : FnB Tryz.prog 281 := ⟨⟨Tryz.f281, Tryz.func281, by kernel_rfl, by kernel_rfl⟩⟩
instance : FnB Tryz.prog 282 := ⟨⟨Tryz.f282, Tryz.func282, by kernel_rfl, by kernel_rfl⟩⟩
instance : FnB Tryz.prog 286 := ⟨⟨Tryz.f286, Tryz.func286, by kernel_rfl, by kernel_rfl⟩⟩
instance : FnB Tryz.prog 294 := ⟨⟨Tryz.f294, Tryz.func294, by kernel_rfl, by kernel_rfl⟩⟩
instance : FnB Tryz.prog 295 := ⟨⟨Tryz.f295, Tryz.func295, by kernel_rfl, by kernel_rfl⟩⟩
end Go.AL
namespace Go.AL
open Go Go.Proofs Go.RowKit Go.Shelf
theorem uA {P : Program} (t : TypeId) {d : TypeDesc} [tu : TyU P t d] (w : World) : (isAgg t).run P w = .ok (xk d) w := wQ tu
theorem uZ {P : Program} (t : TypeId) {s b : Nat} {z : Value} [ti : TyI P t s b z] (w : World) : (Go.sizeOf t).run P w = .ok s w := y4 ti
theorem uV {P : Program} (t : TypeId) {s b : Nat} {z : Value} [ti : TyI P t s b z] (w : World) : (zeroValue t).run P w = .ok z w := yv ti
def zoJ : Ren := ⟨fun | 196 => 188 | 259 => 252 | x => x, fun | 0 => 0 | 3 => 3 | 4 => 4 | 5 => 5 | 9 => 9 | 12 => 12 | 46 => 148 | 53 => 201 | 119 => 262 | 138 => 264 | 139 => 265 | x => x, fun | 3 => 0 | 4 => 1 | x => x⟩
set_option maxRecDepth 100000 in
theorem zol : Lays.n196 Tryz.prog zoJ where
  mixed := by kernel_rfl
  f196 := by kernel_rfl
  f259 := by kernel_rfl
  t0 := Tryz.underlying0
  a0 := fun w => uA (P := Tryz.prog) (d := (TypeDesc.tuple #[])) 0 w
  z0 := fun w => uZ 0 w
  v0 := fun w => uV 0 w
  t3 := Tryz.underlying3
  a3 := fun w => uA (P := Tryz.prog) (d := (TypeDesc.int IntKind.i64)) 3 w
  z3 := fun w => uZ 3 w
  v3 := fun w => uV 3 w
  t4 := Tryz.underlying4
  a4 := fun w => uA (P := Tryz.prog) (d := TypeDesc.bool) 4 w
  z4 := fun w => uZ 4 w
  v4 := fun w => uV 4 w
  t5 := Tryz.underlying5
  a5 := fun w => uA (P := Tryz.prog) (d := (TypeDesc.int IntKind.u8)) 5 w
  z5 := fun w => uZ 5 w
  v5 := fun w => uV 5 w
  t9 := Tryz.underlying9
  a9 := fun w => uA (P := Tryz.prog) (d := TypeDesc.string) 9 w
  z9 := fun w => uZ 9 w
  v9 := fun w => uV 9 w
  t12 := Tryz.underlying12
  a12 := fun w => uA (P := Tryz.prog) (d := (TypeDesc.int IntKind.u64)) 12 w
  z12 := fun w => uZ 12 w
  v12 := fun w => uV 12 w
  t46 := Tryz.underlying148
  a46 := fun w => uA (P := Tryz.prog) (d := (TypeDesc.int IntKind.u64)) 148 w
  z46 := fun w => uZ 148 w
  v46 := fun w => uV 148 w
  t53 := Tryz.underlying201
  a53 := fun w => uA (P := Tryz.prog) (d := (TypeDesc.int IntKind.u64)) 201 w
  z53 := fun w => uZ 201 w
  v53 := fun w => uV 201 w
  t119 := Tryz.underlying262
  a119 := fun w => uA (P := Tryz.prog) (d := (TypeDesc.array 256 5)) 262 w
  z119 := fun w => uZ 262 w
  t138 := Tryz.underlying264
  a138 := fun w => uA (P := Tryz.prog) (d := (TypeDesc.struct #[{ name := "lo", type := 5, offset := 0, embedded := false, tag := "", pkgPath := "unicode/utf8", byteOffset := 0 }, { name := "hi", type := 5, offset := 1, embedded := false, tag := "", pkgPath := "unicode/utf8", byteOffset := 1 }])) 264 w
  z138 := fun w => uZ 264 w
  v138 := fun w => uV 264 w
  t139 := Tryz.underlying265
  a139 := fun w => uA (P := Tryz.prog) (d := (TypeDesc.array 16 264)) 265 w
  z139 := fun w => uZ 265 w
  v139 := fun w => uV 265 w
  g3 := by kernel_rfl
  g4 := by kernel_rfl
end Go.AL
namespace Go.AL
open Go Go.RowKit
inductive Nd where
  | mk (kind : Int) (b : Bool) (num : Int) (text : ByteArray) (names : List ByteArray) (items : List Nd)
  deriving Inhabited
mutual
def Nd.toT : Nd → T
  | .mk k b n t ns is => .agg [.int .i64 k, .bool b, .int .i64 n, .str t, .sl 1 (ns.map .str), .sl 6 (Nd.toTs is)]
def Nd.toTs : List Nd → List T
  | [] => []
  | x :: xs => x.toT :: Nd.toTs xs
end
theorem Nd.toTs_map : ∀ l : List Nd, Nd.toTs l = l.map Nd.toT
  | [] => rfl
  | x :: xs => by simp [Nd.toTs, Nd.toTs_map xs]
def Nd.items : Nd → List Nd
  | .mk _ _ _ _ _ is => is
def Nd.names : Nd → List ByteArray
  | .mk _ _ _ _ ns _ => ns
theorem Nd.toT_eq (k : Int) (b : Bool) (n : Int) (t : ByteArray) (ns : List ByteArray) (is : List Nd) : (Nd.mk k b n t ns is).toT = .agg [.int .i64 k, .bool b, .int .i64 n, .str t, .sl 1 (ns.map .str), .sl 6 (is.map Nd.toT)] := by
  rw [Nd.toT, Nd.toTs_map]
theorem Nd.toT_agg (x : Nd) : x.toT.isAgg = true ∧ x.toT.cells.length = 6 := by
  cases x; rw [Nd.toT_eq]; exact ⟨rfl, rfl⟩
inductive Nd.Ok : Nd → Prop
  | mk {k : Int} {b : Bool} {n : Int} {t : ByteArray} {ns : List ByteArray} {is : List Nd} : ns.length ≤ 8796093021952 → is.length ≤ 1599289640354 → (∀ x ∈ is, x.Ok) → Nd.Ok (.mk k b n t ns is)
section
variable {P : Program} {nt : Nat} {ops : Array Oper} {o : Oper} {rest : List Oper} {env : EnvL} {st : StO} {acc : List SD} {K : EnvL → StO → List SD → Prop} {d : Nat}
end
def Nd.fieldsOK : Nd → Bool
  | .mk k b n t ns is => (decide (k = 1) || !b) && (decide (k = 2) || decide (n = 0)) && (decide (k = 3) || decide (t = ⟨#[]⟩)) && (decide (k = 4) || decide (k = 5) || decide ((is.length : Int) = 0)) && (decide (k = 5) || decide ((ns.length : Int) = 0))
def yh (V : ByteArray → Bool) (s : ByteArray) : Bool := decide ((s.size : Int) ≤ 65536) && V s
def inB (s : ByteArray) (l : List ByteArray) : Bool := l.any fun x => decide (s = x)
def yR (tx : ByteArray → Bool) : List ByteArray → List ByteArray → Bool
  | _, [] => true
  | seen, s :: l => if inB s seen || !tx s then false else yR tx (s :: seen) l
mutual
def Nd.validB (V : ByteArray → Bool) : Nd → Int → Bool
  | .mk k b n t ns is, d => !(decide (d < 1) || decide (k < 0) || decide (5 < k) || !(Nd.mk k b n t ns is).fieldsOK || !yh V t || decide (256 < (is.length : Int))) && (!decide (k = 5) || (yR (yh V) [] ns && decide ((ns.length : Int) = is.length))) && !Nd.anyBad V is (d - 1)
def Nd.anyBad (V : ByteArray → Bool) : List Nd → Int → Bool
  | [], _ => false
  | x :: xs, d => !x.validB V d || Nd.anyBad V xs d
end
theorem Nd.anyBad_any (V : ByteArray → Bool) (d : Int) : ∀ l : List Nd, Nd.anyBad V l d = l.any fun x => !x.validB V d
  | [] => by simp [Nd.anyBad]
  | x :: xs => by simp [Nd.anyBad, Nd.anyBad_any V d xs]
end Go.AL
namespace Go.AL
open Go Go.Proofs Go.RowKit
set_option maxHeartbeats 4000000 in
theorem zfY (x : Nd) : Spec Tryz.prog 205 [.t x.toT] [] (.t (.bool x.fieldsOK)) [] := by
  cases x with
  | mk k b n t ns is =>
  rw [Nd.toT_eq]
  refine wI Tryz.func205 ?_
  repeat' (first | refine wC ?_ | refine wK ?_ | refine zj rfl ?_ ?_ <;> intro hc | refine kb rfl ?_ ?_ <;> intro hc)
  all_goals (refine zp (zo rfl rfl ?_) (by simp); simp_all [Nd.fieldsOK])
def zkv (p : Nd → Bool) : List Nd → Int → Int
  | [], _ => -1
  | x :: xs, j => if p x then j else zkv p xs (j + 1)
set_option maxHeartbeats 4000000 in
theorem zcF (is : List Nd) (hl : is.length ≤ 1599289640354) (p : Nd → Bool) (dp : Int) (oF oA : Obj)
    (hp : ∀ x ∈ is, Spec Tryz.prog 209 [.t x.toT, .ref (.par 0) 0 0 0] [(.par 0, .var 3 [.t (.int .i64 dp)]), (.par 100, .dat (.fix 0 oF)), (.par 101, .dat (.fix 1 oA))] (.t (.bool (p x))) [(.par 0, .var 3 [.t (.int .i64 dp)]), (.par 100, .dat (.fix 0 oF)), (.par 101, .dat (.fix 1 oA))]) :
    Spec Tryz.prog 269 [.t (.sl 6 (is.map Nd.toT)), .fn 209 [.ref (.par 0) 0 0 0]] [(.par 0, .var 3 [.t (.int .i64 dp)]), (.par 100, .dat (.fix 0 oF)), (.par 101, .dat (.fix 1 oA))] (.t (.int .i64 (zkv p is 0))) [(.par 0, .var 3 [.t (.int .i64 dp)]), (.par 100, .dat (.fix 0 oF)), (.par 101, .dat (.fix 1 oA))] := by
  refine wI Tryz.func269 ?_
  repeat' (first | refine wC ?_ | refine wK ?_ | fail)
  refine zl (za [0, 1, 4, 7, 8] [.par 0, .par 100, .par 101] rfl rfl) ?_
  refine zz (fun m env st => ∃ (j : Nat), j ≤ is.length ∧ m = is.length - j ∧ zkv p is 0 = zkv p (is.drop j) j ∧
      env = EnvL.get [(0, .t (.sl 6 (is.map Nd.toT))), (1, .fn 209 [.ref (.par 0) 0 0 0]), (4, .t (.int .i64 0)), (7, .t (.int .i64 is.length)), (8, .t (.int .i64 (j : Int)))] ∧
      st = StO.get [(.par 0, some (.var 3 [.t (.int .i64 dp)])), (.par 100, some (.dat (.fix 0 oF))), (.par 101, some (.dat (.fix 1 oA)))])
    ?_ (n := is.length) ⟨0, by omega, rfl, rfl, rfl, rfl⟩
  rintro m env st ⟨j, hj, rfl, hi, rfl, rfl⟩
  by_cases hlt : j < is.length
  · have hx := hp is[j] (List.getElem_mem hlt)
    have hd : is.drop j = is[j] :: is.drop (j + 1) := List.drop_eq_getElem_cons hlt
    have hg : is.getD (j : Int).toNat default = is[j] := by simp [List.getD_eq_getElem?_getD, hlt]
    rw [← hg] at hx
    have hstep : zkv p (is.drop j) j = if p (is.getD (j : Int).toNat default) then (j : Int) else zkv p (is.drop (j + 1)) (j + 1) := by rw [hd, hg]; rfl
    rw [hstep] at hi
    generalize p (is.getD (j : Int).toNat default) = pv at hx hi
    repeat' (first | refine wC ?_ | refine zgh rfl rfl rfl rfl rfl rfl (Nd.toT_agg _).2 (Nd.toT_agg _).1 ?_ | refine wK ?_ | ((with_reducible refine zA ?_); refine zq rfl rfl rfl rfl rfl rfl ?_ ?_ ?_) | ((with_reducible refine ze ?_); refine wN (.t (.bool pv)) [] hx ?_) | refine zd rfl ?_ ?_ <;> intro hc | refine zan rfl ?_ ?_ <;> intro hc)
    all_goals try omega
    · refine zp (zo rfl rfl ?_) (zc ⟨rfl, rfl, rfl, trivial⟩)
      rw [hi, hc]; rfl
    · exact zI (n' := is.length - (j + 1)) (by omega) (za [0, 1, 4, 7, 8] [.par 0, .par 100, .par 101] rfl rfl) ⟨j + 1, by omega, rfl, by rw [hi, hc]; rfl, by rw [zr (by omega) (by omega)]; rfl, rfl⟩
  · repeat' (first | refine wC ?_ | refine wK ?_ | ((with_reducible refine zA ?_); refine zq rfl rfl rfl rfl rfl rfl ?_ ?_ ?_) | refine zd rfl ?_ ?_ <;> intro hc)
    all_goals try (exfalso; omega)
    refine zp (zo rfl rfl ?_) (zc ⟨rfl, rfl, rfl, trivial⟩)
    have hd : is.drop j = [] := List.drop_eq_nil_of_le (by omega)
    rw [hi, hd]; rfl
theorem zhw (p : Nd → Bool) : ∀ (is : List Nd) (j : Int), 0 ≤ j → (decide (0 ≤ zkv p is j)) = is.any p
  | [], j, _ => by simp [zkv]
  | x :: xs, j, hj => by
    have ih := zhw p xs (j + 1) (by omega)
    by_cases hp : p x = true
    · simp [zkv, hp, hj]
    · simp only [zkv, List.any_cons, if_neg hp, ih]
      simp [hp]
set_option maxHeartbeats 1000000 in
theorem j0 (is : List Nd) (hl : is.length ≤ 1599289640354) (p : Nd → Bool) (dp : Int) (oF oA : Obj)
    (hp : ∀ x ∈ is, Spec Tryz.prog 209 [.t x.toT, .ref (.par 0) 0 0 0] [(.par 0, .var 3 [.t (.int .i64 dp)]), (.par 100, .dat (.fix 0 oF)), (.par 101, .dat (.fix 1 oA))] (.t (.bool (p x))) [(.par 0, .var 3 [.t (.int .i64 dp)]), (.par 100, .dat (.fix 0 oF)), (.par 101, .dat (.fix 1 oA))]) :
    Spec Tryz.prog 208 [.t (.sl 6 (is.map Nd.toT)), .fn 209 [.ref (.par 0) 0 0 0]] [(.par 0, .var 3 [.t (.int .i64 dp)]), (.par 100, .dat (.fix 0 oF)), (.par 101, .dat (.fix 1 oA))] (.t (.bool (is.any p))) [(.par 0, .var 3 [.t (.int .i64 dp)]), (.par 100, .dat (.fix 0 oF)), (.par 101, .dat (.fix 1 oA))] := by
  have h := zcF is hl p dp oF oA hp
  have e := zhw p is 0 (by omega)
  generalize zkv p is 0 = ix at h e
  refine wI Tryz.func208 ?_
  repeat' (first | refine wC ?_ | refine wK ?_ | ((with_reducible refine ze ?_); refine wN (.t (.int .i64 ix)) [] h ?_) | fail)
  exact zp (zo rfl rfl (by rw [e])) (zc ⟨rfl, rfl, rfl, trivial⟩)
def xH (oF oA : Obj) (V : ByteArray → Bool) : Prop := ∀ s : ByteArray, s.size ≤ 65536 → Spec Tryz.prog 188 [.t (.str s)] [(.par 100, .dat (.fix 0 oF)), (.par 101, .dat (.fix 1 oA))] (.t (.bool (V s))) [(.par 100, .dat (.fix 0 oF)), (.par 101, .dat (.fix 1 oA))]
set_option maxHeartbeats 1000000 in
theorem zfF {oF oA : Obj} {V : ByteArray → Bool} (hV : xH oF oA V) (s : ByteArray) : Spec Tryz.prog 206 [.t (.str s)] [(.par 100, .dat (.fix 0 oF)), (.par 101, .dat (.fix 1 oA))] (.t (.bool (yh V s))) [(.par 100, .dat (.fix 0 oF)), (.par 101, .dat (.fix 1 oA))] := by
  by_cases hs : (s.size : Int) ≤ 65536
  · have h := hV s (by omega)
    have e : yh V s = V s := by simp [yh, hs]
    rw [e]
    generalize V s = v at h
    refine wI Tryz.func206 ?_
    repeat' (first | refine wC ?_ | refine wK ?_ | ((with_reducible refine ze ?_); refine wN (.t (.bool v)) [] h ?_) | refine zj rfl ?_ ?_ <;> intro hc)
    · exact zp (zo rfl rfl rfl) (zc ⟨rfl, rfl, trivial⟩)
    · exact absurd hs ‹_›
  · have e : yh V s = false := by simp [yh, hs]
    rw [e]
    refine wI Tryz.func206 ?_
    repeat' (first | refine wC ?_ | refine wK ?_ | ((with_reducible refine ze ?_); exact absurd ‹(s.size : Int) ≤ 65536› hs) | refine zj rfl ?_ ?_ <;> intro hc)
    all_goals first | (exfalso; omega) | exact zp (zo rfl rfl rfl) (zc ⟨rfl, rfl, trivial⟩)
end Go.AL
namespace Go.AL
open Go Go.Proofs Go.RowKit Go.Lib
theorem zbo {h : Heap} {m : zQ} {st : zG} {w w' : World} (hs : Sim h m st w) (hb : Below w.heap.size w w') : Sim h m st w' ∧ Since h m st w h m st w' := by
  have hk : ∀ b, b < w.heap.size → w'.heap[b]? = w.heap[b]? := fun b hlt => hb.block b hlt
  refine ⟨⟨fun b o ho => ?_, fun id row hr => ?_, fun id row b hr hbk => ⟨(hs.sep id row b hr hbk).1, Nat.lt_of_lt_of_le (hs.sep id row b hr hbk).2 hb.size⟩, hs.inj⟩, ⟨hb.os, hb.tape, hb.output, hb.size, fun b hlt _ => ⟨hk b hlt, rfl⟩, fun _ _ hu => hu, fun id row b h1 h2 => .inr ⟨id, row, h1, h2⟩⟩, fun _ => rfl⟩
  · have := hs.imm b o ho
    rw [hk b (Array.getElem?_eq_some_iff.1 this).1]; exact this
  · have hc := ((wG (fun _ => .junk) st).2 id row hr).2
    exact SimRow.mono (N := []) (fun _ _ hu => hu) (fun _ _ => rfl) (by simp) hc (fun b hbk => hk b (hs.sep id row b hr hbk).2) (hs.rows id row hr)
theorem zot {oF oA : Obj} (hT : ∀ w : World, w.heap[0]? = some oF → w.heap[1]? = some oA → Utf8Tabs 0 1 w) : xH oF oA (fun s => validD s.data.toList) := by
  intro s hsz
  refine ⟨fun h m vs w hs hn hr => ?_⟩
  obtain ⟨⟨u, e1, e2⟩, _⟩ := hr
  simp only [RepA, RepT] at e2
  subst e2
  have hv : vs = #[.string s] := by
    apply Array.ext_getElem?
    intro i
    match i with
    | 0 => simpa using e1
    | i + 1 => simp at hn ⊢; omega
  subst hv
  obtain ⟨b, o, k1, k2, k3, rfl⟩ := hs.rows (.par 100) _ rfl
  rw [k3] at k1
  simp [blk] at k1
  subst k1
  obtain ⟨b, o, j1, j2, j3, rfl⟩ := hs.rows (.par 101) _ rfl
  rw [j3] at j1
  simp [blk] at j1
  subst j1
  refine (Any.utf8_ValidString zol s w (by omega) (hT w k2 j2)).mono ?_
  rintro e w' ⟨rfl, hb⟩
  obtain ⟨q1, q2⟩ := zbo hs hb
  exact ⟨_, h, m, rfl, rfl, q1, q2⟩
end Go.AL
namespace Go.AL
open Go Go.Proofs Go.RowKit
theorem jL (es : List (T × T)) (s r : ByteArray) (y : T) (h : xp .string es = true) : kg (zcR es (.str s) y) (.str r) = if r = s then some y else kg es (.str r) := by
  induction es with
  | nil => simp [zcR, kg, zaj]
  | cons p es ih =>
    obtain ⟨k, v⟩ := p
    simp only [xp, Bool.and_eq_true] at h
    cases k with
    | str a =>
      simp only [zcR, zaj]
      by_cases e : s = a
      · subst e
        simp only [decide_true, if_true, kg, zaj]
        by_cases e2 : r = s
        · simp [e2]
        · simp [e2]
      · simp only [e, decide_false, Bool.false_eq_true, if_false, kg, zaj, ih h.2]
        by_cases e2 : r = a
        · subst e2; simp [Ne.symm e]
        · simp [e2]
    | _ => simp [xW] at h
theorem zbZ (d : TypeDesc) (es : List (T × T)) (k v : T) (h : xp d es = true) (hk : xW d k = true) : xp d (zcR es k v) = true := by
  induction es with
  | nil => simp [zcR, xp, hk]
  | cons p es ih =>
    obtain ⟨a, b⟩ := p
    simp only [xp, Bool.and_eq_true] at h
    simp only [zcR]
    split
    · simp [xp, h.1, h.2]
    · simp [xp, h.1, ih h.2]
set_option maxHeartbeats 4000000 in
theorem zh3 {oF oA : Obj} {V : ByteArray → Bool} (hV : xH oF oA V) (k : Int) (b : Bool) (n : Int) (t : ByteArray) (ns : List ByteArray) (is : List Nd) (h1 : ns.length ≤ 8796093021952) : Spec Tryz.prog 207 [.t (.agg [.int .i64 k, .bool b, .int .i64 n, .str t, .sl 1 (ns.map .str), .sl 6 (is.map Nd.toT)])] [(.par 100, .dat (.fix 0 oF)), (.par 101, .dat (.fix 1 oA))] (.t (.bool (yR (yh V) [] ns && decide ((ns.length : Int) = is.length)))) [(.par 100, .dat (.fix 0 oF)), (.par 101, .dat (.fix 1 oA))] := by
  refine wI Tryz.func207 ?_
  repeat' (first | refine wC ?_ | refine wK ?_ | fail)
  refine zl (za [1, 2, 3, 8, 9, 10] [.loc 6, .loc 1, .par 100, .par 101] rfl rfl) ?_
  refine zz (fun m env st => ∃ (j : Nat) (seen : List ByteArray) (es : List (T × T)), j ≤ ns.length ∧ m = ns.length - j ∧ xp .string es = true ∧ (∀ s, (kg es (.str s)).getD (.bool false) = .bool (inB s seen)) ∧ yR (yh V) [] ns = yR (yh V) seen (ns.drop j) ∧
      env = EnvL.get [(1, .ref (.loc 1) 0 0 0), (2, .t (.bool false)), (3, .row (.loc 6)), (8, .t (.sl 1 (ns.map .str))), (9, .t (.int .i64 ns.length)), (10, .t (.int .i64 (j : Int)))] ∧
      st = StO.get [(.loc 6, some (.dat (.map es))), (.loc 1, some (.var 30 [.t (.int .i64 k), .t (.bool b), .t (.int .i64 n), .t (.str t), .t (.sl 1 (ns.map .str)), .t (.sl 6 (is.map Nd.toT))])), (.par 100, some (.dat (.fix 0 oF))), (.par 101, some (.dat (.fix 1 oA)))])
    ?_ (n := ns.length) ⟨0, [], [], by omega, rfl, rfl, fun s => rfl, rfl, rfl, rfl⟩
  rintro m env st ⟨j, seen, es, hj, rfl, hes, hget, hi, rfl, rfl⟩
  by_cases hlt : j < ns.length
  · have hd : ns.drop j = ns[j] :: ns.drop (j + 1) := List.drop_eq_getElem_cons hlt
    have hg : ns.getD (j : Int).toNat default = ns[j] := by simp [List.getD_eq_getElem?_getD, hlt]
    have ht := zfF hV (ns.getD (j : Int).toNat default)
    have hy := hget (ns.getD (j : Int).toNat default)
    have hi2 : yR (yh V) [] ns = if inB (ns.getD (j : Int).toNat default) seen || !yh V (ns.getD (j : Int).toNat default) then false else yR (yh V) (ns.getD (j : Int).toNat default :: seen) (ns.drop (j + 1)) := by rw [hi, hd, hg]; rfl
    generalize yh V (ns.getD (j : Int).toNat default) = tv at ht hi2
    generalize inB (ns.getD (j : Int).toNat default) seen = sv at hy hi2
    repeat' (first | refine wC ?_ | refine zaE rfl rfl rfl rfl hy (fun _ => rfl) rfl rfl rfl rfl ?_ ?_ | refine wK ?_ | ((with_reducible refine zA ?_); refine zq rfl rfl rfl rfl rfl rfl ?_ ?_ ?_) | ((with_reducible refine zcn ?_); refine zaA rfl rfl rfl rfl rfl rfl rfl rfl ?_ ?_) | ((with_reducible refine ze ?_); refine wN (.t (.bool tv)) [] ht ?_) | refine zd rfl ?_ ?_ <;> intro hc | refine zan rfl ?_ ?_ <;> intro hc | refine kb rfl ?_ ?_ <;> intro hc)
    all_goals try first | omega | exact hes
    · refine zp (zo rfl rfl ?_) (zc ⟨rfl, rfl, trivial⟩)
      rw [hi2, hc]; simp
    · refine zp (zo rfl rfl ?_) (zc ⟨rfl, rfl, trivial⟩)
      rw [hi2, hc]; simp
    · refine zI (n' := ns.length - (j + 1)) (by omega) (za [1, 2, 3, 8, 9, 10] [.loc 6, .loc 1, .par 100, .par 101] rfl rfl) ⟨j + 1, ns.getD (j : Int).toNat default :: seen, zcR es (.str (ns.getD (j : Int).toNat default)) (.bool true), by omega, rfl, zbZ _ _ _ _ hes rfl, ?_, ?_, ?_, rfl⟩
      · intro s
        rw [jL _ _ _ _ hes]
        by_cases e : s = ns.getD (j : Int).toNat default
        · rw [if_pos e]; simp [inB, e]
        · rw [if_neg e, hget s]
          simp only [inB, List.any_cons]
          rw [decide_eq_false e]; rfl
      · rw [hi2, ‹sv = false›, show tv = true by simpa using hc]; rfl
      · rw [zr (by omega) (by omega)]; rfl
  · have hj2 : j = ns.length := by omega
    have hdr : ns.drop j = [] := List.drop_eq_nil_of_le (by omega)
    rw [hdr] at hi
    have hi3 : yR (yh V) [] ns = true := hi
    repeat' (first | refine wC ?_ | refine wK ?_ | ((with_reducible refine zA ?_); refine zq rfl rfl rfl rfl rfl rfl ?_ ?_ ?_) | ((with_reducible refine zld ?_); refine zfR (zT := .bool _) rfl rfl rfl (fun _ => rfl) rfl rfl rfl rfl rfl ?_ ?_) | refine zd rfl ?_ ?_ <;> intro hc)
    all_goals try (exfalso; omega)
    refine zp (zo rfl rfl ?_) (zc ⟨rfl, rfl, trivial⟩)
    rw [hi3]; simp
set_option maxHeartbeats 1000000 in
theorem zgm {oF oA : Obj} (x : Nd) (dp : Int) (hd : -1000 ≤ dp ∧ dp ≤ 1000) (v : Bool)
    (h : Spec Tryz.prog 130 [.t x.toT, .t (.int .i64 (dp - 1))] [(.par 100, .dat (.fix 0 oF)), (.par 101, .dat (.fix 1 oA))] (.t (.bool v)) [(.par 100, .dat (.fix 0 oF)), (.par 101, .dat (.fix 1 oA))]) :
    Spec Tryz.prog 209 [.t x.toT, .ref (.par 0) 0 0 0] [(.par 0, .var 3 [.t (.int .i64 dp)]), (.par 100, .dat (.fix 0 oF)), (.par 101, .dat (.fix 1 oA))] (.t (.bool (!v))) [(.par 0, .var 3 [.t (.int .i64 dp)]), (.par 100, .dat (.fix 0 oF)), (.par 101, .dat (.fix 1 oA))] := by
  cases x with
  | mk k b n t ns is =>
  rw [Nd.toT_eq] at *
  rw [← zr (n := dp - 1) (by omega) (by omega)] at h
  refine wI Tryz.func209 ?_
  repeat' (first | refine wC ?_ | refine wK ?_ | ((with_reducible refine ze ?_); refine wN (.t (.bool v)) [] h ?_) | fail)
  exact zp (zo rfl rfl rfl) (zc ⟨rfl, rfl, rfl, trivial⟩)
set_option maxHeartbeats 8000000 in
theorem ziH {oF oA : Obj} {V : ByteArray → Bool} (hV : xH oF oA V) : ∀ x : Nd, x.Ok → ∀ dp : Int, -900 ≤ dp → dp ≤ 1000 → Spec Tryz.prog 130 [.t x.toT, .t (.int .i64 dp)] [(.par 100, .dat (.fix 0 oF)), (.par 101, .dat (.fix 1 oA))] (.t (.bool (x.validB V dp))) [(.par 100, .dat (.fix 0 oF)), (.par 101, .dat (.fix 1 oA))] := by
  intro x hx
  induction hx with
  | @mk k b n t ns is h1 h2 h3 ih =>
  intro dp hd1 hd2
  have hf := zfY (.mk k b n t ns is)
  have ht := zfF hV t
  have hn := zh3 hV k b n t ns is h1
  have hcf : 1 ≤ dp → Spec Tryz.prog 208 [.t (.sl 6 (is.map Nd.toT)), .fn 209 [.ref (.par 0) 0 0 0]] [(.par 0, .var 3 [.t (.int .i64 dp)]), (.par 100, .dat (.fix 0 oF)), (.par 101, .dat (.fix 1 oA))] (.t (.bool (Nd.anyBad V is (dp - 1)))) [(.par 0, .var 3 [.t (.int .i64 dp)]), (.par 100, .dat (.fix 0 oF)), (.par 101, .dat (.fix 1 oA))] := fun h => by
    rw [Nd.anyBad_any]
    exact j0 is h2 _ dp oF oA fun x hx => zgm x dp ⟨by omega, by omega⟩ _ (ih x hx (dp - 1) (by omega) (by omega))
  rw [Nd.validB]
  rw [Nd.toT_eq] at hf ⊢
  generalize (Nd.mk k b n t ns is).fieldsOK = bf at hf ⊢
  generalize yh V t = bt at ht ⊢
  generalize (yR (yh V) [] ns && decide ((ns.length : Int) = is.length)) = bn at hn ⊢
  generalize Nd.anyBad V is (dp - 1) = bc at hcf ⊢
  refine wI Tryz.func130 ?_
  repeat' (first | refine wC ?_ | refine wK ?_ | ((with_reducible refine ze ?_); first | refine wL hf ?_ | refine wN (.t (.bool bt)) [] ht ?_ | refine wN (.t (.bool bn)) [] hn ?_ | refine wN (.t (.bool bc)) [(.par 0, .loc 3)] (hcf (by omega)) ?_) | refine zd rfl ?_ ?_ <;> intro hc | refine zan rfl ?_ ?_ <;> intro hc | refine zj rfl ?_ ?_ <;> intro hc | refine kb rfl ?_ ?_ <;> intro hc)
  all_goals try clear hf
  all_goals try clear ht
  all_goals try clear hn
  all_goals try clear hcf
  all_goals try clear ih
  all_goals try (refine zp (zo rfl rfl ?_) (zc ⟨rfl, rfl, trivial⟩); simp_all; done)
end Go.AL
namespace Go.AL
open Go Go.Proofs
instance : TyB Tryz.prog 30 [(0, 1), (1, 1), (2, 1), (3, 1), (4, 1), (5, 1)] := ⟨by kernel_rfl⟩
instance : TyB Tryz.prog 74 [(0, 1), (1, 1)] := ⟨by kernel_rfl⟩
instance : TyB Tryz.prog 77 [(0, 1), (1, 1)] := ⟨by kernel_rfl⟩
instance : TyB Tryz.prog 188 [(0, 1), (1, 1)] := ⟨by kernel_rfl⟩
instance : TyB Tryz.prog 190 [(0, 2)] := ⟨by kernel_rfl⟩
instance : TyB Tryz.prog 195 [(0, 2)] := ⟨by kernel_rfl⟩
instance : TyB Tryz.prog 197 [(0, 2)] := ⟨by kernel_rfl⟩
end Go.AL
namespace Go.AL
open Go Go.RowKit
def Nd.kind : Nd → Int
  | .mk k _ _ _ _ _ => k
def Nd.bool : Nd → Bool
  | .mk _ b _ _ _ _ => b
def Nd.num : Nd → Int
  | .mk _ _ n _ _ _ => n
def Nd.text : Nd → ByteArray
  | .mk _ _ _ t _ _ => t
def Nd.zero : Nd := .mk 0 false 0 ⟨#[]⟩ [] []
def znB (s : ByteArray) : List ByteArray → Int → Int
  | [], _ => -1
  | x :: xs, j => if s = x then j else znB s xs (j + 1)
def Nd.place (n : Nd) (s : ByteArray) : Int := if n.kind = 5 then znB s (n.names.take (min n.names.length n.items.length)) 0 else -1
def Nd.get (n : Nd) (s : ByteArray) : Nd × Bool := if n.place s < 0 then (Nd.zero, false) else (n.items.getD (n.place s).toNat default, true)
def Nd.set (n : Nd) (s : ByteArray) (v : Nd) : Nd :=
  if 0 ≤ n.place s then .mk n.kind n.bool n.num n.text n.names (n.items.set (n.place s).toNat v)
  else .mk n.kind n.bool n.num n.text (n.names ++ [s]) (n.items ++ [v])
def Nd.put (V : ByteArray → Bool) (n : Nd) (s : ByteArray) (v : Nd) : Nd × Int :=
  if n.kind = 5 ∧ n.validB V 8 = true ∧ (n.set s v).validB V 8 = true then (n.set s v, 0) else (Nd.zero, 1)
theorem zje (s : ByteArray) : ∀ (l : List ByteArray) (j : Int) (i : Nat), l.Nodup → l[i]? = some s → znB s l j = j + i
  | [], j, i, _, h => by simp at h
  | x :: xs, j, 0, _, h => by
    simp only [List.getElem?_cons_zero, Option.some.injEq] at h
    simp [znB, h]
  | x :: xs, j, i + 1, hn, h => by
    simp only [List.getElem?_cons_succ] at h
    have hm : s ∈ xs := List.mem_of_getElem? h
    have hx : s ≠ x := fun e => (List.nodup_cons.1 hn).1 (e ▸ hm)
    rw [znB, if_neg hx, zje s xs (j + 1) i (List.nodup_cons.1 hn).2 h]
    omega
theorem zjZ (s : ByteArray) (l : List ByteArray) : inB s l = true ↔ s ∈ l := by
  simp [inB]
theorem yF (tx : ByteArray → Bool) : ∀ (l seen : List ByteArray), yR tx seen l = true ↔ l.Nodup ∧ ∀ s ∈ l, s ∉ seen ∧ tx s = true
  | [], seen => by simp [yR]
  | x :: xs, seen => by
    simp only [yR]
    split
    · rename_i h
      simp only [Bool.or_eq_true, zjZ, Bool.not_eq_true'] at h
      constructor
      · intro h2; simp at h2
      · rintro ⟨_, h2⟩
        have := h2 x (by simp)
        rcases h with h | h
        · exact absurd h this.1
        · rw [this.2] at h; simp at h
    · rename_i h
      simp only [Bool.or_eq_true, zjZ, Bool.not_eq_true', not_or] at h
      rw [yF tx xs (x :: seen), List.nodup_cons]
      constructor
      · rintro ⟨h1, h2⟩
        refine ⟨⟨fun hx => (h2 x hx).1 (by simp), h1⟩, fun s hs => ?_⟩
        rcases List.mem_cons.1 hs with rfl | hs
        · exact ⟨h.1, by simpa using h.2⟩
        · exact ⟨fun hc => (h2 s hs).1 (by simp [hc]), (h2 s hs).2⟩
      · rintro ⟨⟨h1, h2⟩, h3⟩
        refine ⟨h2, fun s hs => ⟨?_, (h3 s (by simp [hs])).2⟩⟩
        intro hc
        rcases List.mem_cons.1 hc with rfl | hc
        · exact h1 hs
        · exact (h3 s (by simp [hs])).1 hc
structure Dc where
  l : List Int
  k : Nat
def zlO (n m : Int) : Int := if m < 1 then 0 else n % m
def Dc.next (d : Dc) (n : Int) : Int × Dc := if (d.l.length : Int) ≤ d.k then (0, d) else (zlO (d.l.getD d.k 0) n, ⟨d.l, d.k + 1⟩)
def Dc.word (d : Dc) (l : List ByteArray) : ByteArray × Dc := (l.getD (d.next l.length).1.toNat default, (d.next l.length).2)
theorem znw (n m : Int) (h : 1 ≤ m) : 0 ≤ zlO n m ∧ zlO n m < m := by
  unfold zlO
  rw [if_neg (by omega)]
  exact ⟨Int.emod_nonneg _ (by omega), Int.emod_lt_of_pos _ (by omega)⟩
theorem Dc.next_lt (d : Dc) (n : Int) (h : 1 ≤ n) : 0 ≤ (d.next n).1 ∧ (d.next n).1 < n := by
  unfold Dc.next; split
  · exact ⟨Int.le_refl 0, by show (0 : Int) < n; omega⟩
  · exact znw _ _ h
theorem Dc.next_l (d : Dc) (n : Int) : (d.next n).2.l = d.l := by
  unfold Dc.next; split <;> rfl
theorem Dc.word_mem (d : Dc) (l : List ByteArray) (h : l ≠ []) : (d.word l).1 ∈ l := by
  have hp := List.length_pos_iff.2 h
  have := d.next_lt l.length (by omega)
  unfold Dc.word
  simp only
  rw [List.getD_eq_getElem?_getD, List.getElem?_eq_getElem (by omega)]
  exact List.getElem_mem _
def eS : ByteArray := ⟨#[]⟩
def xS : ByteArray := ⟨#[120]⟩
def vo : List ByteArray := [⟨#[]⟩, ⟨#[97]⟩, ⟨#[66, 111, 110, 110]⟩, ⟨#[97, 32, 34, 113, 117, 111, 116, 101, 100, 34, 32, 92, 32, 116, 101, 120, 116]⟩, ⟨#[108, 105, 110, 101, 10, 97, 110, 100, 9, 116, 97, 98, 1, 31, 127]⟩, ⟨#[195, 164, 226, 130, 172, 240, 159, 152, 128]⟩, ⟨#[75, 69, 82, 73, 49, 48, 74, 83, 79, 78, 48, 48, 48, 48, 50, 97, 95]⟩]
def qM : List Int := [23, 24, 31, 32, 255, 256]
def zk4 : Nat → ByteArray → Dc → ByteArray × Dc
  | 0, s, d => (s, (d.next 6).2)
  | f + 1, s, d => if (s.size : Int) < qM.getD (d.next 6).1.toNat 0 then zk4 f (s ++ xS) (d.next 6).2 else (s, (d.next 6).2)
def qp (d : Dc) : ByteArray × Dc :=
  if ((d.word vo).2.next 10).1 = 1 then zk4 300 (d.word vo).1 ((d.word vo).2.next 10).2 else ((d.word vo).1, ((d.word vo).2.next 10).2)
def vC : Nat → List Nd → Dc → List Nd × Dc
  | 0, l, d => (l, (d.next 3).2)
  | f + 1, l, d => if (l.length : Int) < 15 + (d.next 3).1 then vC f (l ++ [Nd.zero]) (d.next 3).2 else (l, (d.next 3).2)
def xa : List ByteArray := [⟨#[97]⟩, ⟨#[98]⟩, ⟨#[118]⟩, ⟨#[100]⟩, ⟨#[]⟩]
def zgr (i : Nat) : ByteArray := ⟨#[UInt8.ofNat (48 + i % 10), UInt8.ofNat (48 + i / 10)]⟩
def yd : Nat → Nat → Dc → List ByteArray × Dc
  | 0, _, d => ([], d)
  | c + 1, i, d => (((d.word xa).1 ++ zgr i) :: (yd c (i + 1) (d.word xa).2).1, (yd c (i + 1) (d.word xa).2).2)
def yQ (f : Dc → Nd × Dc) : Nat → Dc → List Nd × Dc
  | 0, d => ([], d)
  | c + 1, d => ((f d).1 :: (yQ f c (f d).2).1, (yQ f c (f d).2).2)
def vY : List Int := [0, 1, 23, 24, 127, 128, 255, 256, 65535, 65536, 4294967296, 9223372036854775807]
def zfW (k : Int) (f : Dc → Nd × Dc) (d : Dc) : Nd × Dc :=
  let q := d.next 4
  let is := yQ f q.1.toNat q.2
  let z := is.2.next 20
  let g := if z.1 = 1 then vC 20 is.1 z.2 else (is.1, z.2)
  let ns := if k = 5 then yd g.1.length 0 g.2 else ([], g.2)
  (.mk k false 0 eS ns.1 g.1, ns.2)
def kM (rec : Option (Dc → Nd × Dc)) (d : Dc) : Nd × Dc :=
  let k := (d.next 6).1
  let e := (d.next 6).2
  if k = 1 then (.mk 1 (decide ((e.next 2).1 = 1)) 0 eS [] [], (e.next 2).2)
  else if k = 2 then (.mk 2 false (if ((e.next 12).2.next 2).1 = 1 then -1 - vY.getD (e.next 12).1.toNat 0 else vY.getD (e.next 12).1.toNat 0) eS [] [], ((e.next 12).2.next 2).2)
  else if k = 3 then (.mk 3 false 0 (qp e).1 [] [], (qp e).2)
  else if k = 4 ∨ k = 5 then match rec with
    | none => (.mk k false 0 eS [] [], e)
    | some f => zfW k f e
  else (Nd.zero, e)
def qA : Nat → Dc → Nd × Dc
  | 0, d => kM none d
  | 1, d => kM none d
  | n + 2, d => kM (some (qA (n + 1))) d
def yu : List ByteArray := [⟨#[97]⟩, ⟨#[98]⟩, ⟨#[118]⟩, ⟨#[100]⟩]
def zih (n : Nat) (d : Dc) : Nd × Dc :=
  (.mk 5 false 0 eS (yu.take (d.next 4).1.toNat) (yQ (qA (n - 1)) (d.next 4).1.toNat (d.next 4).2).1, (yQ (qA (n - 1)) (d.next 4).1.toNat (d.next 4).2).2)
structure VOk (V : ByteArray → Bool) : Prop where
  asc : ∀ s : ByteArray, (∀ b ∈ s.data.toList, b.toNat < 128) → V s = true
  app : ∀ s : ByteArray, V s = true → V (s ++ xS) = true
  odd : V ⟨#[195, 164, 226, 130, 172, 240, 159, 152, 128]⟩ = true
theorem zk1 {V : ByteArray → Bool} (hV : VOk V) : ∀ (f : Nat) (s : ByteArray) (d : Dc), V s = true → s.size ≤ 256 → V (zk4 f s d).1 = true ∧ (zk4 f s d).1.size ≤ 256
  | 0, s, d, h, h2 => ⟨h, h2⟩
  | f + 1, s, d, h, h2 => by
    simp only [zk4]; split
    · rename_i hc
      have hs : (qM.getD (d.next 6).1.toNat 0) ≤ 256 := by
        have := d.next_lt 6 (by omega)
        generalize (d.next 6).1.toNat = j
        match j with
        | 0 | 1 | 2 | 3 | 4 | 5 => simp [qM]
        | j + 6 => simp [qM]
      refine zk1 hV f _ _ (hV.app s h) ?_
      rw [ByteArray.size_append]
      have : xS.size = 1 := rfl
      omega
    · exact ⟨h, h2⟩
theorem ze0 {V : ByteArray → Bool} (hV : VOk V) : ∀ s ∈ vo, V s = true ∧ s.size ≤ 256 := by
  intro s hs
  simp only [vo, List.mem_cons, List.not_mem_nil, or_false] at hs
  rcases hs with rfl | rfl | rfl | rfl | rfl | rfl | rfl
  case' inr.inr.inr.inr.inr.inl => exact ⟨hV.odd, by decide⟩
  all_goals exact ⟨hV.asc _ (by decide), by decide⟩
theorem zhD {V : ByteArray → Bool} (hV : VOk V) (d : Dc) : V (qp d).1 = true ∧ (qp d).1.size ≤ 256 := by
  have h := ze0 hV _ (d.word_mem vo (by simp [vo]))
  unfold qp
  split
  · exact zk1 hV _ _ _ h.1 h.2
  · exact h
end Go.AL
set_option linter.unusedSimpArgs false
namespace Go.AL
open Go Go.RowKit
theorem yo (V : ByteArray → Bool) (k : Int) (b : Bool) (n : Int) (t : ByteArray) (ns : List ByteArray) (is : List Nd) (e : Int) :
    (Nd.mk k b n t ns is).validB V e = true ↔ 1 ≤ e ∧ 0 ≤ k ∧ k ≤ 5 ∧ (Nd.mk k b n t ns is).fieldsOK = true ∧ yh V t = true ∧ (is.length : Int) ≤ 256 ∧ (k = 5 → yR (yh V) [] ns = true ∧ ns.length = is.length) ∧ ∀ x ∈ is, x.validB V (e - 1) = true := by
  rw [Nd.validB, Nd.anyBad_any]
  simp only [Bool.and_eq_true, Bool.not_eq_true', Bool.or_eq_false_iff, decide_eq_false_iff_not, Bool.not_eq_false', Bool.or_eq_true, decide_eq_true_eq, List.any_eq_false]
  constructor
  · rintro ⟨⟨⟨⟨⟨⟨⟨h1, h2⟩, h3⟩, h4⟩, h5⟩, h6⟩, h7⟩, h8⟩
    refine ⟨by omega, by omega, by omega, by simpa using h4, by simpa using h5, by omega, fun hk => ?_, fun x hx => by simpa using h8 x hx⟩
    rcases h7 with h7 | h7
    · exact absurd hk h7
    · exact ⟨h7.1, by omega⟩
  · rintro ⟨h1, h2, h3, h4, h5, h6, h7, h8⟩
    refine ⟨⟨⟨⟨⟨⟨⟨by omega, by omega⟩, by omega⟩, by simpa using h4⟩, by simpa using h5⟩, by omega⟩, ?_⟩, fun x hx => by simpa using h8 x hx⟩
    by_cases hk : k = 5
    · exact .inr ⟨(h7 hk).1, by have := (h7 hk).2; omega⟩
    · exact .inl hk
theorem wc {V : ByteArray → Bool} (hV : VOk V) : yh V eS = true := by
  unfold yh
  rw [hV.asc eS (by simp [eS])]
  rfl
theorem zdA {V : ByteArray → Bool} (hV : VOk V) (e : Int) (he : 1 ≤ e) : Nd.zero.validB V e = true := by
  rw [Nd.zero, yo]
  exact ⟨he, by decide, by decide, by decide, wc hV, by simp, by simp, by simp⟩
theorem xy (f : Dc → Nd × Dc) : ∀ (c : Nat) (d : Dc), (yQ f c d).1.length = c
  | 0, d => rfl
  | c + 1, d => by simp [yQ, xy f c]
theorem x9 (f : Dc → Nd × Dc) (p : Nd → Prop) (h : ∀ d, p (f d).1) : ∀ (c : Nat) (d : Dc), ∀ x ∈ (yQ f c d).1, p x
  | 0, d => by simp [yQ]
  | c + 1, d => by
    intro x hx
    simp only [yQ, List.mem_cons] at hx
    rcases hx with rfl | hx
    · exact h d
    · exact x9 f p h c _ x hx
theorem zhp : ∀ (f : Nat) (l : List Nd) (d : Dc), l.length ≤ 17 → (vC f l d).1.length ≤ 17 ∧ ∀ x ∈ (vC f l d).1, x ∈ l ∨ x = Nd.zero
  | 0, l, d, h => ⟨h, fun x hx => .inl hx⟩
  | f + 1, l, d, h => by
    have := d.next_lt 3 (by omega)
    simp only [vC]; split
    · obtain ⟨h1, h2⟩ := zhp f (l ++ [Nd.zero]) (d.next 3).2 (by simp; omega)
      refine ⟨h1, fun x hx => ?_⟩
      rcases h2 x hx with h3 | h3
      · rcases List.mem_append.1 h3 with h4 | h4
        · exact .inl h4
        · exact .inr (by simpa using h4)
      · exact .inr h3
    · exact ⟨h, fun x hx => .inl hx⟩
theorem zdv : ∀ (c i : Nat) (d : Dc), (yd c i d).1.length = c
  | 0, i, d => rfl
  | c + 1, i, d => by simp [yd, zdv c]
theorem km : ∀ (c i : Nat) (d : Dc), ∀ s ∈ (yd c i d).1, ∃ w ∈ xa, ∃ j, i ≤ j ∧ j < i + c ∧ s = w ++ zgr j
  | 0, i, d => by simp [yd]
  | c + 1, i, d => by
    intro s hs
    simp only [yd, List.mem_cons] at hs
    rcases hs with rfl | hs
    · exact ⟨_, d.word_mem xa (by simp [xa]), i, by omega, by omega, rfl⟩
    · obtain ⟨w, hw, j, h1, h2, h3⟩ := km c (i + 1) _ s hs
      exact ⟨w, hw, j, by omega, by omega, h3⟩
theorem zlQ {w w' : ByteArray} {i j : Nat} (hi : i < 100) (hj : j < 100) (h : w ++ zgr i = w' ++ zgr j) : i = j := by
  have h2 := congrArg (fun s : ByteArray => s.data.toList) h
  simp only [ByteArray.data_append, Array.toList_append] at h2
  have h3 := (List.append_inj' h2 rfl).2
  simp only [zgr, List.cons.injEq, and_true] at h3
  have h4 := congrArg UInt8.toNat h3.1
  have h5 := congrArg UInt8.toNat h3.2
  simp only [UInt8.toNat_ofNat'] at h4 h5
  omega
theorem zaU : ∀ (c i : Nat) (d : Dc), i + c ≤ 100 → (yd c i d).1.Nodup
  | 0, i, d, _ => by simp [yd]
  | c + 1, i, d, h => by
    simp only [yd, List.nodup_cons]
    refine ⟨fun hm => ?_, zaU c (i + 1) _ (by omega)⟩
    obtain ⟨w, hw, j, h1, h2, h3⟩ := km c (i + 1) _ _ hm
    have := zlQ (by omega) (by omega) h3
    omega
theorem zlW (j : Nat) (h : j < 100) : ∀ b ∈ (zgr j).data.toList, b.toNat < 128 := by
  intro b hb
  simp only [zgr, List.mem_cons, List.not_mem_nil, or_false] at hb
  rcases hb with rfl | rfl <;> simp only [UInt8.toNat_ofNat'] <;> omega
theorem vc : ∀ w ∈ xa, (∀ b ∈ w.data.toList, b.toNat < 128) ∧ w.size ≤ 1 := by
  intro w hw
  simp only [xa, List.mem_cons, List.not_mem_nil, or_false] at hw
  rcases hw with rfl | rfl | rfl | rfl | rfl <;> exact ⟨by decide, by decide⟩
theorem zg1 {V : ByteArray → Bool} (hV : VOk V) (c i : Nat) (d : Dc) (h : i + c ≤ 100) : ∀ s ∈ (yd c i d).1, yh V s = true := by
  intro s hs
  obtain ⟨w, hw, j, h1, h2, rfl⟩ := km c i d s hs
  have hw2 := vc w hw
  unfold yh
  rw [hV.asc _ ?_]
  · have : (zgr j).size = 2 := rfl
    rw [ByteArray.size_append]
    simp; omega
  · intro b hb
    rw [ByteArray.data_append, Array.toList_append] at hb
    rcases List.mem_append.1 hb with hb | hb
    · exact hw2.1 b hb
    · exact zlW j (by omega) b hb
theorem zmv {V : ByteArray → Bool} (hV : VOk V) (k : Int) (hk : k = 4 ∨ k = 5) (f : Dc → Nd × Dc) (e : Int) (he : 2 ≤ e) (hf : ∀ d, (f d).1.validB V (e - 1) = true) (d : Dc) : (zfW k f d).1.validB V e = true := by
  have hq := d.next_lt 4 (by omega)
  have hl := xy f (d.next 4).1.toNat (d.next 4).2
  have ha := x9 f (fun x => x.validB V (e - 1) = true) hf (d.next 4).1.toNat (d.next 4).2
  unfold zfW
  simp only
  generalize yQ f (d.next 4).1.toNat (d.next 4).2 = is at hl ha ⊢
  have hg : ∃ g : List Nd × Dc, (if (is.2.next 20).1 = 1 then vC 20 is.1 (is.2.next 20).2 else (is.1, (is.2.next 20).2)) = g ∧ g.1.length ≤ 17 ∧ ∀ x ∈ g.1, x.validB V (e - 1) = true := by
    refine ⟨_, rfl, ?_⟩
    split
    · obtain ⟨h1, h2⟩ := zhp 20 is.1 (is.2.next 20).2 (by omega)
      refine ⟨h1, fun x hx => ?_⟩
      rcases h2 x hx with h | rfl
      · exact ha x h
      · exact zdA hV _ (by omega)
    · exact ⟨by simp only; omega, ha⟩
  obtain ⟨g, e1, e2, e3⟩ := hg
  rw [e1, yo]
  refine ⟨by omega, by omega, by omega, ?_, wc hV, by omega, fun h5 => ?_, e3⟩
  · rcases hk with rfl | rfl <;> simp [Nd.fieldsOK, eS]
  · subst h5
    simp only [if_true]
    exact ⟨(yF _ _ _).2 ⟨zaU _ _ _ (by omega), fun s hs => ⟨by simp, zg1 hV _ _ _ (by omega) s hs⟩⟩, zdv _ _ _⟩
theorem zek {V : ByteArray → Bool} (hV : VOk V) (rec : Option (Dc → Nd × Dc)) (e : Int) (he : 1 ≤ e) (hf : ∀ f, rec = some f → 2 ≤ e ∧ ∀ d, (f d).1.validB V (e - 1) = true) (d : Dc) : (kM rec d).1.validB V e = true := by
  unfold kM
  simp only
  split
  · rw [yo]
    exact ⟨he, by decide, by decide, by simp [Nd.fieldsOK, eS], wc hV, by simp, by simp, by simp⟩
  · split
    · rw [yo]
      exact ⟨he, by decide, by decide, by simp [Nd.fieldsOK, eS], wc hV, by simp, by simp, by simp⟩
    · split
      · rw [yo]
        have := zhD hV (d.next 6).2
        exact ⟨he, by decide, by decide, by simp [Nd.fieldsOK], by simp [yh, this.1]; omega, by simp, by simp, by simp⟩
      · split
        · rename_i hk
          split
          · rw [yo]
            refine ⟨he, by omega, by omega, ?_, wc hV, by simp, fun _ => by simp [yR], by simp⟩
            rcases hk with h | h <;> simp [Nd.fieldsOK, eS, h]
          · rename_i f
            exact zmv hV _ hk f e (hf f rfl).1 (hf f rfl).2 _
        · exact zdA hV e he
theorem zhq {V : ByteArray → Bool} (hV : VOk V) : ∀ (n : Nat) (d : Dc) (e : Int), 1 ≤ e → (n : Int) ≤ e → (qA n d).1.validB V e = true
  | 0, d, e, h1, h2 => zek hV none e h1 (by simp) d
  | 1, d, e, h1, h2 => zek hV none e h1 (by simp) d
  | n + 2, d, e, h1, h2 => zek hV _ e h1 (by
      rintro f h
      cases h
      exact ⟨by omega, fun d => zhq hV (n + 1) d (e - 1) (by omega) (by omega)⟩) d
theorem znt {V : ByteArray → Bool} (hV : VOk V) (n : Nat) (d : Dc) (e : Int) (h1 : 2 ≤ e) (h2 : (n : Int) ≤ e) : (zih n d).1.validB V e = true := by
  have hq := d.next_lt 4 (by omega)
  unfold zih
  rw [yo]
  refine ⟨by omega, by decide, by decide, by simp [Nd.fieldsOK, eS], wc hV, by rw [xy]; omega, fun _ => ?_, x9 _ (fun x => x.validB V (e - 1) = true) (fun d => zhq hV _ d _ (by omega) (by omega)) _ _⟩
  rw [xy, yF]
  refine ⟨⟨(List.take_sublist _ _).nodup (by decide), fun s hs => ⟨by simp, ?_⟩⟩, by rw [List.length_take]; simp [yu]; omega⟩
  have := List.mem_of_mem_take hs
  simp only [yu, List.mem_cons, List.not_mem_nil, or_false] at this
  rcases this with rfl | rfl | rfl | rfl <;> simp [yh] <;> exact ⟨by decide, hV.asc _ (by decide)⟩
end Go.AL
set_option linter.unusedSimpArgs false
namespace Go.AL
open Go Go.RowKit
mutual
def Nd.same : Nd → Nd → Bool
  | .mk k b n t ns is, .mk k' b' n' t' ns' is' => decide (k = k') && decide (b = b') && decide (n = n') && decide (t = t') && decide (ns = ns') && Nd.sames is is'
def Nd.sames : List Nd → List Nd → Bool
  | [], [] => true
  | x :: xs, y :: ys => x.same y && Nd.sames xs ys
  | [], _ :: _ => false
  | _ :: _, [] => false
end
mutual
theorem Nd.same_iff : ∀ x y : Nd, x.same y = true ↔ x = y
  | .mk k b n t ns is, .mk k' b' n' t' ns' is' => by
    simp only [Nd.same, Bool.and_eq_true, decide_eq_true_eq, Nd.sames_iff is is', Nd.mk.injEq]
    constructor
    · rintro ⟨⟨⟨⟨⟨h1, h2⟩, h3⟩, h4⟩, h5⟩, h6⟩; exact ⟨h1, h2, h3, h4, h5, h6⟩
    · rintro ⟨h1, h2, h3, h4, h5, h6⟩; exact ⟨⟨⟨⟨⟨h1, h2⟩, h3⟩, h4⟩, h5⟩, h6⟩
theorem Nd.sames_iff : ∀ x y : List Nd, Nd.sames x y = true ↔ x = y
  | [], [] => by simp [Nd.sames]
  | x :: xs, y :: ys => by simp only [Nd.sames, Bool.and_eq_true, Nd.same_iff x y, Nd.sames_iff xs ys, List.cons.injEq]
  | [], _ :: _ => by simp [Nd.sames]
  | _ :: _, [] => by simp [Nd.sames]
end
theorem Nd.same_refl (x : Nd) : x.same x = true := (Nd.same_iff x x).2 rfl
structure Nd.IsMap (m : Nd) : Prop where
  kind : m.kind = 5
  len : m.names.length = m.items.length
  nodup : m.names.Nodup
theorem Nd.IsMap.place_eq {m : Nd} (h : m.IsMap) (s : ByteArray) : m.place s = znB s m.names 0 := by
  unfold Nd.place
  rw [if_pos h.kind, ← h.len, Nat.min_self, List.take_length]
theorem Nd.IsMap.place_at {m : Nd} (h : m.IsMap) {i : Nat} {s : ByteArray} (hi : m.names[i]? = some s) : m.place s = i := by
  rw [h.place_eq, zje s _ 0 i h.nodup hi]; omega
theorem Nd.IsMap.set {m : Nd} (h : m.IsMap) (s : ByteArray) (v : Nd) : (m.set s v).IsMap := by
  unfold Nd.set
  split
  · exact ⟨h.kind, by simpa [Nd.names, Nd.items] using h.len, h.nodup⟩
  · rename_i hp
    refine ⟨h.kind, by simp only [Nd.names, Nd.items, List.length_append, List.length_singleton]; have := h.len; simp only [Nd.names, Nd.items] at this; cases m; simpa using this, ?_⟩
    show (m.names ++ [s]).Nodup
    rw [List.nodup_append]
    refine ⟨h.nodup, by simp, fun a ha b hb => ?_⟩
    simp only [List.mem_singleton] at hb
    subst hb
    rintro rfl
    obtain ⟨i, hi⟩ := List.getElem?_of_mem ha
    have := h.place_at hi
    omega
end Go.AL
