/- What functions of the program and of the document answer, and the plain laws behind it; each under the conditions that its own theorem names. -/
import Derived.Test.YtmidabiehblekaaGreatDoorProg
import Derived.Test.YtmidabiehblekaaGreatDoorAl3
import Derived.Shelf.Unicode.ValidAny
set_option linter.unusedVariables false
namespace Go.AL
open Go Go.Proofs
instance : TyU Tryz.prog 0 (TypeDesc.tuple #[]) := ⟨Tryz.underlying0⟩
instance : TyI Tryz.prog 0 1 0 (Value.tuple [].toArray) := ⟨by kernel_rfl⟩
instance : TyU Tryz.prog 1 (TypeDesc.func #[] #[] false) := ⟨Tryz.underlying1⟩
instance : TyI Tryz.prog 1 1 8 (Value.nilFunc) := ⟨by kernel_rfl⟩
instance : TyU Tryz.prog 2 (TypeDesc.int IntKind.i64) := ⟨Tryz.underlying2⟩
instance : TyI Tryz.prog 2 1 8 (Value.int IntKind.i64 (0)) := ⟨by kernel_rfl⟩
instance : TyU Tryz.prog 3 (TypeDesc.int IntKind.i64) := ⟨Tryz.underlying3⟩
instance : TyI Tryz.prog 3 1 8 (Value.int IntKind.i64 (0)) := ⟨by kernel_rfl⟩
instance : TyU Tryz.prog 4 TypeDesc.bool := ⟨Tryz.underlying4⟩
instance : TyI Tryz.prog 4 1 1 (Value.bool false) := ⟨by kernel_rfl⟩
instance : TyU Tryz.prog 5 (TypeDesc.int IntKind.u8) := ⟨Tryz.underlying5⟩
instance : TyI Tryz.prog 5 1 1 (Value.int IntKind.u8 (0)) := ⟨by kernel_rfl⟩
instance : TyU Tryz.prog 6 (TypeDesc.int IntKind.u8) := ⟨Tryz.underlying6⟩
instance : TyI Tryz.prog 6 1 1 (Value.int IntKind.u8 (0)) := ⟨by kernel_rfl⟩
instance : TyU Tryz.prog 7 (TypeDesc.struct #[{ name := "x", type := 2, offset := 0, embedded := false, tag := "", pkgPath := "runtime", byteOffset := 0 }, { name := "y", type := 3, offset := 1, embedded := false, tag := "", pkgPath := "runtime", byteOffset := 8 }, { name := "signed", type := 4, offset := 2, embedded := false, tag := "", pkgPath := "runtime", byteOffset := 16 }, { name := "code", type := 6, offset := 3, embedded := false, tag := "", pkgPath := "runtime", byteOffset := 17 }]) := ⟨Tryz.underlying7⟩
instance : TyI Tryz.prog 7 4 24 (Value.agg [Value.int IntKind.i64 (0), Value.int IntKind.i64 (0), Value.bool false, Value.int IntKind.u8 (0)].toArray) := ⟨by kernel_rfl⟩
instance : TyU Tryz.prog 8 (TypeDesc.struct #[{ name := "x", type := 2, offset := 0, embedded := false, tag := "", pkgPath := "runtime", byteOffset := 0 }, { name := "y", type := 3, offset := 1, embedded := false, tag := "", pkgPath := "runtime", byteOffset := 8 }, { name := "signed", type := 4, offset := 2, embedded := false, tag := "", pkgPath := "runtime", byteOffset := 16 }, { name := "code", type := 6, offset := 3, embedded := false, tag := "", pkgPath := "runtime", byteOffset := 17 }]) := ⟨Tryz.underlying8⟩
instance : TyI Tryz.prog 8 4 24 (Value.agg [Value.int IntKind.i64 (0), Value.int IntKind.i64 (0), Value.bool false, Value.int IntKind.u8 (0)].toArray) := ⟨by kernel_rfl⟩
instance : TyU Tryz.prog 9 TypeDesc.string := ⟨Tryz.underlying9⟩
instance : TyI Tryz.prog 9 1 16 (Value.string ⟨#[]⟩) := ⟨by kernel_rfl⟩
instance : TyU Tryz.prog 10 TypeDesc.string := ⟨Tryz.underlying10⟩
instance : TyI Tryz.prog 10 1 16 (Value.string ⟨#[]⟩) := ⟨by kernel_rfl⟩
instance : TyU Tryz.prog 11 TypeDesc.string := ⟨Tryz.underlying11⟩
instance : TyI Tryz.prog 11 1 16 (Value.string ⟨#[]⟩) := ⟨by kernel_rfl⟩
instance : TyU Tryz.prog 12 (TypeDesc.int IntKind.u64) := ⟨Tryz.underlying12⟩
instance : TyI Tryz.prog 12 1 8 (Value.int IntKind.u64 (0)) := ⟨by kernel_rfl⟩
instance : TyU Tryz.prog 13 (TypeDesc.struct #[{ name := "msg", type := 9, offset := 0, embedded := false, tag := "", pkgPath := "runtime", byteOffset := 0 }, { name := "addr", type := 12, offset := 1, embedded := false, tag := "", pkgPath := "runtime", byteOffset := 16 }]) := ⟨Tryz.underlying13⟩
instance : TyI Tryz.prog 13 2 24 (Value.agg [Value.string ⟨#[]⟩, Value.int IntKind.u64 (0)].toArray) := ⟨by kernel_rfl⟩
instance : TyU Tryz.prog 14 (TypeDesc.struct #[{ name := "msg", type := 9, offset := 0, embedded := false, tag := "", pkgPath := "runtime", byteOffset := 0 }, { name := "addr", type := 12, offset := 1, embedded := false, tag := "", pkgPath := "runtime", byteOffset := 16 }]) := ⟨Tryz.underlying14⟩
instance : TyI Tryz.prog 14 2 24 (Value.agg [Value.string ⟨#[]⟩, Value.int IntKind.u64 (0)].toArray) := ⟨by kernel_rfl⟩
instance : TyU Tryz.prog 15 (TypeDesc.pointer 324) := ⟨Tryz.underlying15⟩
instance : TyI Tryz.prog 15 1 8 (Value.pointer none) := ⟨by kernel_rfl⟩
instance : TyU Tryz.prog 16 (TypeDesc.pointer 327) := ⟨Tryz.underlying16⟩
instance : TyI Tryz.prog 16 1 8 (Value.pointer none) := ⟨by kernel_rfl⟩
instance : TyU Tryz.prog 17 (TypeDesc.pointer 334) := ⟨Tryz.underlying17⟩
instance : TyI Tryz.prog 17 1 8 (Value.pointer none) := ⟨by kernel_rfl⟩
instance : TyU Tryz.prog 18 (TypeDesc.struct #[{ name := "typ", type := 17, offset := 0, embedded := false, tag := "", pkgPath := "internal/runtime/maps", byteOffset := 0 }]) := ⟨Tryz.underlying18⟩
instance : TyI Tryz.prog 18 1 8 (Value.agg [Value.pointer none].toArray) := ⟨by kernel_rfl⟩
instance : TyU Tryz.prog 19 (TypeDesc.struct #[{ name := "typ", type := 17, offset := 0, embedded := false, tag := "", pkgPath := "internal/runtime/maps", byteOffset := 0 }]) := ⟨Tryz.underlying19⟩
instance : TyI Tryz.prog 19 1 8 (Value.agg [Value.pointer none].toArray) := ⟨by kernel_rfl⟩
instance : TyU Tryz.prog 20 (TypeDesc.interface #[]) := ⟨Tryz.underlying20⟩
instance : TyI Tryz.prog 20 1 16 (Value.nilIface) := ⟨by kernel_rfl⟩
instance : TyU Tryz.prog 21 (TypeDesc.int IntKind.i32) := ⟨Tryz.underlying21⟩
instance : TyI Tryz.prog 21 1 4 (Value.int IntKind.i32 (0)) := ⟨by kernel_rfl⟩
instance : TyU Tryz.prog 22 (TypeDesc.slice 3) := ⟨Tryz.underlying22⟩
instance : TyI Tryz.prog 22 1 24 (Value.slice none 0 0) := ⟨by kernel_rfl⟩
instance : TyU Tryz.prog 23 (TypeDesc.func #[22] #[4] false) := ⟨Tryz.underlying23⟩
instance : TyI Tryz.prog 23 1 8 (Value.nilFunc) := ⟨by kernel_rfl⟩
instance : TyU Tryz.prog 24 (TypeDesc.func #[] #[4] false) := ⟨Tryz.underlying24⟩
instance : TyI Tryz.prog 24 1 8 (Value.nilFunc) := ⟨by kernel_rfl⟩
instance : TyU Tryz.prog 25 (TypeDesc.pointer 74) := ⟨Tryz.underlying25⟩
instance : TyI Tryz.prog 25 1 8 (Value.pointer none) := ⟨by kernel_rfl⟩
instance : TyU Tryz.prog 26 (TypeDesc.func #[22] #[25] false) := ⟨Tryz.underlying26⟩
instance : TyI Tryz.prog 26 1 8 (Value.nilFunc) := ⟨by kernel_rfl⟩
instance : TyU Tryz.prog 27 (TypeDesc.slice 9) := ⟨Tryz.underlying27⟩
instance : TyI Tryz.prog 27 1 24 (Value.slice none 0 0) := ⟨by kernel_rfl⟩
instance : TyU Tryz.prog 28 (TypeDesc.slice 30) := ⟨Tryz.underlying28⟩
instance : TyI Tryz.prog 28 1 24 (Value.slice none 0 0) := ⟨by kernel_rfl⟩
instance : TyU Tryz.prog 29 (TypeDesc.struct #[{ name := "Kind", type := 3, offset := 0, embedded := false, tag := "", pkgPath := "", byteOffset := 0 }, { name := "Bool", type := 4, offset := 1, embedded := false, tag := "", pkgPath := "", byteOffset := 8 }, { name := "Number", type := 3, offset := 2, embedded := false, tag := "", pkgPath := "", byteOffset := 16 }, { name := "Text", type := 9, offset := 3, embedded := false, tag := "", pkgPath := "", byteOffset := 24 }, { name := "Names", type := 27, offset := 4, embedded := false, tag := "", pkgPath := "", byteOffset := 40 }, { name := "Items", type := 28, offset := 5, embedded := false, tag := "", pkgPath := "", byteOffset := 64 }]) := ⟨Tryz.underlying29⟩
instance : TyI Tryz.prog 29 6 88 (Value.agg [Value.int IntKind.i64 (0), Value.bool false, Value.int IntKind.i64 (0), Value.string ⟨#[]⟩, Value.slice none 0 0, Value.slice none 0 0].toArray) := ⟨by kernel_rfl⟩
instance : TyU Tryz.prog 30 (TypeDesc.struct #[{ name := "Kind", type := 3, offset := 0, embedded := false, tag := "", pkgPath := "", byteOffset := 0 }, { name := "Bool", type := 4, offset := 1, embedded := false, tag := "", pkgPath := "", byteOffset := 8 }, { name := "Number", type := 3, offset := 2, embedded := false, tag := "", pkgPath := "", byteOffset := 16 }, { name := "Text", type := 9, offset := 3, embedded := false, tag := "", pkgPath := "", byteOffset := 24 }, { name := "Names", type := 27, offset := 4, embedded := false, tag := "", pkgPath := "", byteOffset := 40 }, { name := "Items", type := 28, offset := 5, embedded := false, tag := "", pkgPath := "", byteOffset := 64 }]) := ⟨Tryz.underlying30⟩
instance : TyI Tryz.prog 30 6 88 (Value.agg [Value.int IntKind.i64 (0), Value.bool false, Value.int IntKind.i64 (0), Value.string ⟨#[]⟩, Value.slice none 0 0, Value.slice none 0 0].toArray) := ⟨by kernel_rfl⟩
instance : TyU Tryz.prog 31 (TypeDesc.func #[25, 3] #[30] false) := ⟨Tryz.underlying31⟩
instance : TyI Tryz.prog 31 1 8 (Value.nilFunc) := ⟨by kernel_rfl⟩
instance : TyU Tryz.prog 32 (TypeDesc.int IntKind.i64) := ⟨Tryz.underlying32⟩
instance : TyI Tryz.prog 32 1 8 (Value.int IntKind.i64 (0)) := ⟨by kernel_rfl⟩
instance : TyU Tryz.prog 33 (TypeDesc.tuple #[9, 32]) := ⟨Tryz.underlying33⟩
instance : TyI Tryz.prog 33 1 0 (Value.tuple [Value.string ⟨#[]⟩, Value.int IntKind.i64 (0)].toArray) := ⟨by kernel_rfl⟩
instance : TyU Tryz.prog 34 (TypeDesc.func #[3, 30] #[9, 32] false) := ⟨Tryz.underlying34⟩
instance : TyI Tryz.prog 34 1 8 (Value.nilFunc) := ⟨by kernel_rfl⟩
instance : TyU Tryz.prog 35 (TypeDesc.func #[9] #[3] false) := ⟨Tryz.underlying35⟩
instance : TyI Tryz.prog 35 1 8 (Value.nilFunc) := ⟨by kernel_rfl⟩
instance : TyU Tryz.prog 36 (TypeDesc.tuple #[30, 32]) := ⟨Tryz.underlying36⟩
instance : TyI Tryz.prog 36 1 0 (Value.tuple { toList := [Value.agg [Value.int IntKind.i64 (0), Value.bool false, Value.int IntKind.i64 (0), Value.string ⟨#[]⟩, Value.slice none 0 0, Value.slice none 0 0].toArray, Value.int IntKind.i64 (0)] }) := ⟨by kernel_rfl⟩
instance : TyU Tryz.prog 37 (TypeDesc.func #[3, 9] #[30, 32] false) := ⟨Tryz.underlying37⟩
instance : TyI Tryz.prog 37 1 8 (Value.nilFunc) := ⟨by kernel_rfl⟩
instance : TyU Tryz.prog 38 (TypeDesc.func #[30, 30] #[4] false) := ⟨Tryz.underlying38⟩
instance : TyI Tryz.prog 38 1 8 (Value.nilFunc) := ⟨by kernel_rfl⟩
instance : TyU Tryz.prog 39 (TypeDesc.func #[22, 9, 3] #[4] false) := ⟨Tryz.underlying39⟩
instance : TyI Tryz.prog 39 1 8 (Value.nilFunc) := ⟨by kernel_rfl⟩
instance : TyU Tryz.prog 40 (TypeDesc.func #[30] #[4] false) := ⟨Tryz.underlying40⟩
instance : TyI Tryz.prog 40 1 8 (Value.nilFunc) := ⟨by kernel_rfl⟩
instance : TyU Tryz.prog 41 (TypeDesc.func #[22, 5] #[4] false) := ⟨Tryz.underlying41⟩
instance : TyI Tryz.prog 41 1 8 (Value.nilFunc) := ⟨by kernel_rfl⟩
instance : TyU Tryz.prog 42 (TypeDesc.slice 88) := ⟨Tryz.underlying42⟩
instance : TyI Tryz.prog 42 1 24 (Value.slice none 0 0) := ⟨by kernel_rfl⟩
instance : TyU Tryz.prog 43 (TypeDesc.struct #[{ name := "Number", type := 3, offset := 0, embedded := false, tag := "", pkgPath := "", byteOffset := 0 }, { name := "Weights", type := 42, offset := 1, embedded := false, tag := "", pkgPath := "", byteOffset := 8 }]) := ⟨Tryz.underlying43⟩
instance : TyI Tryz.prog 43 2 32 (Value.agg [Value.int IntKind.i64 (0), Value.slice none 0 0].toArray) := ⟨by kernel_rfl⟩
instance : TyU Tryz.prog 44 (TypeDesc.struct #[{ name := "Number", type := 3, offset := 0, embedded := false, tag := "", pkgPath := "", byteOffset := 0 }, { name := "Weights", type := 42, offset := 1, embedded := false, tag := "", pkgPath := "", byteOffset := 8 }]) := ⟨Tryz.underlying44⟩
instance : TyI Tryz.prog 44 2 32 (Value.agg [Value.int IntKind.i64 (0), Value.slice none 0 0].toArray) := ⟨by kernel_rfl⟩
instance : TyU Tryz.prog 45 (TypeDesc.func #[25, 3] #[44] false) := ⟨Tryz.underlying45⟩
instance : TyI Tryz.prog 45 1 8 (Value.nilFunc) := ⟨by kernel_rfl⟩
instance : TyU Tryz.prog 46 (TypeDesc.func #[3] #[3] false) := ⟨Tryz.underlying46⟩
instance : TyI Tryz.prog 46 1 8 (Value.nilFunc) := ⟨by kernel_rfl⟩
instance : TyU Tryz.prog 47 (TypeDesc.tuple #[44, 32]) := ⟨Tryz.underlying47⟩
instance : TyI Tryz.prog 47 1 0 (Value.tuple { toList := [Value.agg [Value.int IntKind.i64 (0), Value.slice none 0 0].toArray, Value.int IntKind.i64 (0)] }) := ⟨by kernel_rfl⟩
instance : TyU Tryz.prog 48 (TypeDesc.func #[30] #[44, 32] false) := ⟨Tryz.underlying48⟩
instance : TyI Tryz.prog 48 1 8 (Value.nilFunc) := ⟨by kernel_rfl⟩
instance : TyU Tryz.prog 49 (TypeDesc.func #[44] #[30] false) := ⟨Tryz.underlying49⟩
instance : TyI Tryz.prog 49 1 8 (Value.nilFunc) := ⟨by kernel_rfl⟩
instance : TyU Tryz.prog 50 (TypeDesc.func #[44, 44] #[4] false) := ⟨Tryz.underlying50⟩
instance : TyI Tryz.prog 50 1 8 (Value.nilFunc) := ⟨by kernel_rfl⟩
instance : TyU Tryz.prog 51 (TypeDesc.func #[3, 3] #[3] false) := ⟨Tryz.underlying51⟩
instance : TyI Tryz.prog 51 1 8 (Value.nilFunc) := ⟨by kernel_rfl⟩
instance : TyU Tryz.prog 52 (TypeDesc.tuple #[30, 9, 32]) := ⟨Tryz.underlying52⟩
instance : TyI Tryz.prog 52 1 0 (Value.tuple { toList := [Value.agg [Value.int IntKind.i64 (0), Value.bool false, Value.int IntKind.i64 (0), Value.string ⟨#[]⟩, Value.slice none 0 0, Value.slice none 0 0].toArray, Value.string ⟨#[]⟩, Value.int IntKind.i64 (0)] }) := ⟨by kernel_rfl⟩
instance : TyU Tryz.prog 53 (TypeDesc.func #[30, 9, 3] #[30, 9, 32] false) := ⟨Tryz.underlying53⟩
instance : TyI Tryz.prog 53 1 8 (Value.nilFunc) := ⟨by kernel_rfl⟩
instance : TyU Tryz.prog 54 (TypeDesc.struct #[{ name := "Protocol", type := 9, offset := 0, embedded := false, tag := "", pkgPath := "", byteOffset := 0 }, { name := "Major", type := 3, offset := 1, embedded := false, tag := "", pkgPath := "", byteOffset := 16 }, { name := "Minor", type := 3, offset := 2, embedded := false, tag := "", pkgPath := "", byteOffset := 24 }, { name := "Form", type := 3, offset := 3, embedded := false, tag := "", pkgPath := "", byteOffset := 32 }, { name := "Size", type := 3, offset := 4, embedded := false, tag := "", pkgPath := "", byteOffset := 40 }]) := ⟨Tryz.underlying54⟩
instance : TyI Tryz.prog 54 5 48 (Value.agg [Value.string ⟨#[]⟩, Value.int IntKind.i64 (0), Value.int IntKind.i64 (0), Value.int IntKind.i64 (0), Value.int IntKind.i64 (0)].toArray) := ⟨by kernel_rfl⟩
instance : TyU Tryz.prog 55 (TypeDesc.struct #[{ name := "Protocol", type := 9, offset := 0, embedded := false, tag := "", pkgPath := "", byteOffset := 0 }, { name := "Major", type := 3, offset := 1, embedded := false, tag := "", pkgPath := "", byteOffset := 16 }, { name := "Minor", type := 3, offset := 2, embedded := false, tag := "", pkgPath := "", byteOffset := 24 }, { name := "Form", type := 3, offset := 3, embedded := false, tag := "", pkgPath := "", byteOffset := 32 }, { name := "Size", type := 3, offset := 4, embedded := false, tag := "", pkgPath := "", byteOffset := 40 }]) := ⟨Tryz.underlying55⟩
instance : TyI Tryz.prog 55 5 48 (Value.agg [Value.string ⟨#[]⟩, Value.int IntKind.i64 (0), Value.int IntKind.i64 (0), Value.int IntKind.i64 (0), Value.int IntKind.i64 (0)].toArray) := ⟨by kernel_rfl⟩
instance : TyU Tryz.prog 56 (TypeDesc.tuple #[55, 3, 32]) := ⟨Tryz.underlying56⟩
instance : TyI Tryz.prog 56 1 0 (Value.tuple { toList := [Value.agg [Value.string ⟨#[]⟩, Value.int IntKind.i64 (0), Value.int IntKind.i64 (0), Value.int IntKind.i64 (0), Value.int IntKind.i64 (0)].toArray, Value.int IntKind.i64 (0), Value.int IntKind.i64 (0)] }) := ⟨by kernel_rfl⟩
instance : TyU Tryz.prog 57 (TypeDesc.func #[9] #[55, 3, 32] false) := ⟨Tryz.underlying57⟩
instance : TyI Tryz.prog 57 1 8 (Value.nilFunc) := ⟨by kernel_rfl⟩
instance : TyU Tryz.prog 58 (TypeDesc.tuple #[30, 4]) := ⟨Tryz.underlying58⟩
instance : TyI Tryz.prog 58 1 0 (Value.tuple { toList := [Value.agg [Value.int IntKind.i64 (0), Value.bool false, Value.int IntKind.i64 (0), Value.string ⟨#[]⟩, Value.slice none 0 0, Value.slice none 0 0].toArray, Value.bool false] }) := ⟨by kernel_rfl⟩
instance : TyU Tryz.prog 59 (TypeDesc.func #[30, 9] #[30, 4] false) := ⟨Tryz.underlying59⟩
instance : TyI Tryz.prog 59 1 8 (Value.nilFunc) := ⟨by kernel_rfl⟩
instance : TyU Tryz.prog 60 (TypeDesc.func #[22, 3] #[4] false) := ⟨Tryz.underlying60⟩
instance : TyI Tryz.prog 60 1 8 (Value.nilFunc) := ⟨by kernel_rfl⟩
instance : TyU Tryz.prog 61 (TypeDesc.func #[30, 27, 9, 3] #[30, 9, 32] false) := ⟨Tryz.underlying61⟩
instance : TyI Tryz.prog 61 1 8 (Value.nilFunc) := ⟨by kernel_rfl⟩
instance : TyU Tryz.prog 62 (TypeDesc.func #[30, 9, 30] #[30, 32] false) := ⟨Tryz.underlying62⟩
instance : TyI Tryz.prog 62 1 8 (Value.nilFunc) := ⟨by kernel_rfl⟩
instance : TyU Tryz.prog 63 (TypeDesc.func #[9] #[30] false) := ⟨Tryz.underlying63⟩
instance : TyI Tryz.prog 63 1 8 (Value.nilFunc) := ⟨by kernel_rfl⟩
instance : TyU Tryz.prog 64 (TypeDesc.func #[] #[9] false) := ⟨Tryz.underlying64⟩
instance : TyI Tryz.prog 64 1 8 (Value.nilFunc) := ⟨by kernel_rfl⟩
instance : TyU Tryz.prog 65 (TypeDesc.func #[9, 27] #[30, 9, 32] false) := ⟨Tryz.underlying65⟩
instance : TyI Tryz.prog 65 1 8 (Value.nilFunc) := ⟨by kernel_rfl⟩
instance : TyU Tryz.prog 66 (TypeDesc.func #[9] #[9] false) := ⟨Tryz.underlying66⟩
instance : TyI Tryz.prog 66 1 8 (Value.nilFunc) := ⟨by kernel_rfl⟩
instance : TyU Tryz.prog 67 (TypeDesc.func #[27] #[9] true) := ⟨Tryz.underlying67⟩
instance : TyI Tryz.prog 67 1 8 (Value.nilFunc) := ⟨by kernel_rfl⟩
instance : TyU Tryz.prog 68 (TypeDesc.slice 27) := ⟨Tryz.underlying68⟩
instance : TyI Tryz.prog 68 1 24 (Value.slice none 0 0) := ⟨by kernel_rfl⟩
instance : TyU Tryz.prog 69 (TypeDesc.func #[22, 9, 27, 9, 3] #[4] false) := ⟨Tryz.underlying69⟩
instance : TyI Tryz.prog 69 1 8 (Value.nilFunc) := ⟨by kernel_rfl⟩
instance : TyU Tryz.prog 70 (TypeDesc.func #[9, 3, 3] #[9] false) := ⟨Tryz.underlying70⟩
instance : TyI Tryz.prog 70 1 8 (Value.nilFunc) := ⟨by kernel_rfl⟩
instance : TyU Tryz.prog 71 (TypeDesc.func #[22, 9, 27, 3, 3, 3] #[4] false) := ⟨Tryz.underlying71⟩
instance : TyI Tryz.prog 71 1 8 (Value.nilFunc) := ⟨by kernel_rfl⟩
instance : TyU Tryz.prog 72 (TypeDesc.func #[30] #[9, 32] false) := ⟨Tryz.underlying72⟩
instance : TyI Tryz.prog 72 1 8 (Value.nilFunc) := ⟨by kernel_rfl⟩
instance : TyU Tryz.prog 73 (TypeDesc.struct #[{ name := "l", type := 22, offset := 0, embedded := false, tag := "", pkgPath := "keyevent/keyeventkit", byteOffset := 0 }, { name := "at", type := 3, offset := 1, embedded := false, tag := "", pkgPath := "keyevent/keyeventkit", byteOffset := 24 }]) := ⟨Tryz.underlying73⟩
instance : TyI Tryz.prog 73 2 32 (Value.agg [Value.slice none 0 0, Value.int IntKind.i64 (0)].toArray) := ⟨by kernel_rfl⟩
instance : TyU Tryz.prog 74 (TypeDesc.struct #[{ name := "l", type := 22, offset := 0, embedded := false, tag := "", pkgPath := "keyevent/keyeventkit", byteOffset := 0 }, { name := "at", type := 3, offset := 1, embedded := false, tag := "", pkgPath := "keyevent/keyeventkit", byteOffset := 24 }]) := ⟨Tryz.underlying74⟩
instance : TyI Tryz.prog 74 2 32 (Value.agg [Value.slice none 0 0, Value.int IntKind.i64 (0)].toArray) := ⟨by kernel_rfl⟩
instance : TyU Tryz.prog 75 (TypeDesc.func #[9] #[30, 32] false) := ⟨Tryz.underlying75⟩
instance : TyI Tryz.prog 75 1 8 (Value.nilFunc) := ⟨by kernel_rfl⟩
instance : TyU Tryz.prog 76 (TypeDesc.struct #[{ name := "encode", type := 72, offset := 0, embedded := false, tag := "", pkgPath := "keyevent/pack", byteOffset := 0 }, { name := "decode", type := 75, offset := 1, embedded := false, tag := "", pkgPath := "keyevent/pack", byteOffset := 8 }]) := ⟨Tryz.underlying76⟩
instance : TyI Tryz.prog 76 2 16 (Value.agg [Value.nilFunc, Value.nilFunc].toArray) := ⟨by kernel_rfl⟩
instance : TyU Tryz.prog 77 (TypeDesc.struct #[{ name := "encode", type := 72, offset := 0, embedded := false, tag := "", pkgPath := "keyevent/pack", byteOffset := 0 }, { name := "decode", type := 75, offset := 1, embedded := false, tag := "", pkgPath := "keyevent/pack", byteOffset := 8 }]) := ⟨Tryz.underlying77⟩
instance : TyI Tryz.prog 77 2 16 (Value.agg [Value.nilFunc, Value.nilFunc].toArray) := ⟨by kernel_rfl⟩
instance : TyU Tryz.prog 78 (TypeDesc.tuple #[77, 4]) := ⟨Tryz.underlying78⟩
instance : TyI Tryz.prog 78 1 0 (Value.tuple { toList := [Value.agg [Value.nilFunc, Value.nilFunc].toArray, Value.bool false] }) := ⟨by kernel_rfl⟩
instance : TyU Tryz.prog 79 (TypeDesc.map 3 77) := ⟨Tryz.underlying79⟩
instance : TyI Tryz.prog 79 1 8 (Value.map none) := ⟨by kernel_rfl⟩
instance : TyU Tryz.prog 80 (TypeDesc.func #[] #[79] false) := ⟨Tryz.underlying80⟩
instance : TyI Tryz.prog 80 1 8 (Value.nilFunc) := ⟨by kernel_rfl⟩
instance : TyU Tryz.prog 81 (TypeDesc.func #[25] #[9] false) := ⟨Tryz.underlying81⟩
instance : TyI Tryz.prog 81 1 8 (Value.nilFunc) := ⟨by kernel_rfl⟩
instance : TyU Tryz.prog 82 (TypeDesc.slice 5) := ⟨Tryz.underlying82⟩
instance : TyI Tryz.prog 82 1 24 (Value.slice none 0 0) := ⟨by kernel_rfl⟩
instance : TyU Tryz.prog 83 (TypeDesc.func #[30, 3] #[4] false) := ⟨Tryz.underlying83⟩
instance : TyI Tryz.prog 83 1 8 (Value.nilFunc) := ⟨by kernel_rfl⟩
instance : TyU Tryz.prog 84 (TypeDesc.func #[44, 3] #[4] false) := ⟨Tryz.underlying84⟩
instance : TyI Tryz.prog 84 1 8 (Value.nilFunc) := ⟨by kernel_rfl⟩
instance : TyU Tryz.prog 85 (TypeDesc.func #[] #[44] false) := ⟨Tryz.underlying85⟩
instance : TyI Tryz.prog 85 1 8 (Value.nilFunc) := ⟨by kernel_rfl⟩
instance : TyU Tryz.prog 86 (TypeDesc.func #[44, 22] #[4] false) := ⟨Tryz.underlying86⟩
instance : TyI Tryz.prog 86 1 8 (Value.nilFunc) := ⟨by kernel_rfl⟩
instance : TyU Tryz.prog 87 (TypeDesc.func #[44, 3] #[3] false) := ⟨Tryz.underlying87⟩
instance : TyI Tryz.prog 87 1 8 (Value.nilFunc) := ⟨by kernel_rfl⟩
instance : TyU Tryz.prog 88 (TypeDesc.slice 90) := ⟨Tryz.underlying88⟩
instance : TyI Tryz.prog 88 1 24 (Value.slice none 0 0) := ⟨by kernel_rfl⟩
instance : TyU Tryz.prog 89 (TypeDesc.struct #[{ name := "Num", type := 3, offset := 0, embedded := false, tag := "", pkgPath := "", byteOffset := 0 }, { name := "Den", type := 3, offset := 1, embedded := false, tag := "", pkgPath := "", byteOffset := 8 }]) := ⟨Tryz.underlying89⟩
instance : TyI Tryz.prog 89 2 16 (Value.agg [Value.int IntKind.i64 (0), Value.int IntKind.i64 (0)].toArray) := ⟨by kernel_rfl⟩
instance : TyU Tryz.prog 90 (TypeDesc.struct #[{ name := "Num", type := 3, offset := 0, embedded := false, tag := "", pkgPath := "", byteOffset := 0 }, { name := "Den", type := 3, offset := 1, embedded := false, tag := "", pkgPath := "", byteOffset := 8 }]) := ⟨Tryz.underlying90⟩
instance : TyI Tryz.prog 90 2 16 (Value.agg [Value.int IntKind.i64 (0), Value.int IntKind.i64 (0)].toArray) := ⟨by kernel_rfl⟩
instance : TyU Tryz.prog 91 (TypeDesc.tuple #[44, 4]) := ⟨Tryz.underlying91⟩
instance : TyI Tryz.prog 91 1 0 (Value.tuple { toList := [Value.agg [Value.int IntKind.i64 (0), Value.slice none 0 0].toArray, Value.bool false] }) := ⟨by kernel_rfl⟩
instance : TyU Tryz.prog 92 (TypeDesc.func #[30] #[44, 4] false) := ⟨Tryz.underlying92⟩
instance : TyI Tryz.prog 92 1 8 (Value.nilFunc) := ⟨by kernel_rfl⟩
instance : TyU Tryz.prog 93 (TypeDesc.func #[44] #[3] false) := ⟨Tryz.underlying93⟩
instance : TyI Tryz.prog 93 1 8 (Value.nilFunc) := ⟨by kernel_rfl⟩
instance : TyU Tryz.prog 94 (TypeDesc.func #[2, 3] #[9] false) := ⟨Tryz.underlying94⟩
instance : TyI Tryz.prog 94 1 8 (Value.nilFunc) := ⟨by kernel_rfl⟩
instance : TyU Tryz.prog 95 (TypeDesc.func #[88] #[30] false) := ⟨Tryz.underlying95⟩
instance : TyI Tryz.prog 95 1 8 (Value.nilFunc) := ⟨by kernel_rfl⟩
instance : TyU Tryz.prog 96 (TypeDesc.func #[28] #[30] false) := ⟨Tryz.underlying96⟩
instance : TyI Tryz.prog 96 1 8 (Value.nilFunc) := ⟨by kernel_rfl⟩
instance : TyU Tryz.prog 97 (TypeDesc.func #[55] #[9, 32] false) := ⟨Tryz.underlying97⟩
instance : TyI Tryz.prog 97 1 8 (Value.nilFunc) := ⟨by kernel_rfl⟩
instance : TyU Tryz.prog 98 (TypeDesc.func #[30] #[30] false) := ⟨Tryz.underlying98⟩
instance : TyI Tryz.prog 98 1 8 (Value.nilFunc) := ⟨by kernel_rfl⟩
instance : TyU Tryz.prog 99 (TypeDesc.func #[27, 9] #[3] false) := ⟨Tryz.underlying99⟩
instance : TyI Tryz.prog 99 1 8 (Value.nilFunc) := ⟨by kernel_rfl⟩
instance : TyU Tryz.prog 100 (TypeDesc.func #[27, 3, 3] #[27] false) := ⟨Tryz.underlying100⟩
instance : TyI Tryz.prog 100 1 8 (Value.nilFunc) := ⟨by kernel_rfl⟩
instance : TyU Tryz.prog 101 (TypeDesc.func #[28, 3, 3] #[28] false) := ⟨Tryz.underlying101⟩
instance : TyI Tryz.prog 101 1 8 (Value.nilFunc) := ⟨by kernel_rfl⟩
instance : TyU Tryz.prog 102 (TypeDesc.func #[27, 3, 27] #[27] true) := ⟨Tryz.underlying102⟩
instance : TyI Tryz.prog 102 1 8 (Value.nilFunc) := ⟨by kernel_rfl⟩
instance : TyU Tryz.prog 103 (TypeDesc.func #[28, 3, 28] #[28] true) := ⟨Tryz.underlying103⟩
instance : TyI Tryz.prog 103 1 8 (Value.nilFunc) := ⟨by kernel_rfl⟩
instance : TyU Tryz.prog 104 (TypeDesc.func #[30, 9, 30] #[30] false) := ⟨Tryz.underlying104⟩
instance : TyI Tryz.prog 104 1 8 (Value.nilFunc) := ⟨by kernel_rfl⟩
instance : TyU Tryz.prog 105 (TypeDesc.tuple #[55, 32]) := ⟨Tryz.underlying105⟩
instance : TyI Tryz.prog 105 1 0 (Value.tuple { toList := [Value.agg [Value.string ⟨#[]⟩, Value.int IntKind.i64 (0), Value.int IntKind.i64 (0), Value.int IntKind.i64 (0), Value.int IntKind.i64 (0)].toArray, Value.int IntKind.i64 (0)] }) := ⟨by kernel_rfl⟩
instance : TyU Tryz.prog 106 (TypeDesc.func #[9] #[55, 32] false) := ⟨Tryz.underlying106⟩
instance : TyI Tryz.prog 106 1 8 (Value.nilFunc) := ⟨by kernel_rfl⟩
instance : TyU Tryz.prog 107 (TypeDesc.func #[27, 9] #[4] false) := ⟨Tryz.underlying107⟩
instance : TyI Tryz.prog 107 1 8 (Value.nilFunc) := ⟨by kernel_rfl⟩
instance : TyU Tryz.prog 108 (TypeDesc.func #[30, 27, 9] #[30] false) := ⟨Tryz.underlying108⟩
instance : TyI Tryz.prog 108 1 8 (Value.nilFunc) := ⟨by kernel_rfl⟩
instance : TyU Tryz.prog 109 (TypeDesc.func #[9, 3] #[9] false) := ⟨Tryz.underlying109⟩
instance : TyI Tryz.prog 109 1 8 (Value.nilFunc) := ⟨by kernel_rfl⟩
instance : TyU Tryz.prog 110 (TypeDesc.tuple #[30, 55, 32]) := ⟨Tryz.underlying110⟩
instance : TyI Tryz.prog 110 1 0 (Value.tuple { toList := [Value.agg [Value.int IntKind.i64 (0), Value.bool false, Value.int IntKind.i64 (0), Value.string ⟨#[]⟩, Value.slice none 0 0, Value.slice none 0 0].toArray, Value.agg [Value.string ⟨#[]⟩, Value.int IntKind.i64 (0), Value.int IntKind.i64 (0), Value.int IntKind.i64 (0), Value.int IntKind.i64 (0)].toArray, Value.int IntKind.i64 (0)] }) := ⟨by kernel_rfl⟩
instance : TyU Tryz.prog 111 (TypeDesc.func #[9] #[30, 55, 32] false) := ⟨Tryz.underlying111⟩
instance : TyI Tryz.prog 111 1 8 (Value.nilFunc) := ⟨by kernel_rfl⟩
instance : TyU Tryz.prog 112 (TypeDesc.func #[9] #[4] false) := ⟨Tryz.underlying112⟩
instance : TyI Tryz.prog 112 1 8 (Value.nilFunc) := ⟨by kernel_rfl⟩
instance : TyU Tryz.prog 113 (TypeDesc.func #[27, 112] #[4] false) := ⟨Tryz.underlying113⟩
instance : TyI Tryz.prog 113 1 8 (Value.nilFunc) := ⟨by kernel_rfl⟩
instance : TyU Tryz.prog 114 (TypeDesc.func #[3, 9] #[9] false) := ⟨Tryz.underlying114⟩
instance : TyI Tryz.prog 114 1 8 (Value.nilFunc) := ⟨by kernel_rfl⟩
instance : TyU Tryz.prog 115 (TypeDesc.func #[55] #[4] false) := ⟨Tryz.underlying115⟩
instance : TyI Tryz.prog 115 1 8 (Value.nilFunc) := ⟨by kernel_rfl⟩
instance : TyU Tryz.prog 116 (TypeDesc.func #[30, 27, 9] #[30, 32] false) := ⟨Tryz.underlying116⟩
instance : TyI Tryz.prog 116 1 8 (Value.nilFunc) := ⟨by kernel_rfl⟩
instance : TyU Tryz.prog 117 (TypeDesc.func #[30, 118] #[9, 32] false) := ⟨Tryz.underlying117⟩
instance : TyI Tryz.prog 117 1 8 (Value.nilFunc) := ⟨by kernel_rfl⟩
instance : TyU Tryz.prog 118 (TypeDesc.func #[82, 30] #[82] false) := ⟨Tryz.underlying118⟩
instance : TyI Tryz.prog 118 1 8 (Value.nilFunc) := ⟨by kernel_rfl⟩
instance : TyU Tryz.prog 119 (TypeDesc.func #[30] #[9] false) := ⟨Tryz.underlying119⟩
instance : TyI Tryz.prog 119 1 8 (Value.nilFunc) := ⟨by kernel_rfl⟩
instance : TyU Tryz.prog 120 (TypeDesc.tuple #[30, 3]) := ⟨Tryz.underlying120⟩
instance : TyI Tryz.prog 120 1 0 (Value.tuple { toList := [Value.agg [Value.int IntKind.i64 (0), Value.bool false, Value.int IntKind.i64 (0), Value.string ⟨#[]⟩, Value.slice none 0 0, Value.slice none 0 0].toArray, Value.int IntKind.i64 (0)] }) := ⟨by kernel_rfl⟩
instance : TyU Tryz.prog 121 (TypeDesc.func #[9, 3, 3] #[30, 3] false) := ⟨Tryz.underlying121⟩
instance : TyI Tryz.prog 121 1 8 (Value.nilFunc) := ⟨by kernel_rfl⟩
instance : TyU Tryz.prog 122 (TypeDesc.map 9 4) := ⟨Tryz.underlying122⟩
instance : TyI Tryz.prog 122 1 8 (Value.map none) := ⟨by kernel_rfl⟩
instance : TyU Tryz.prog 123 (TypeDesc.func #[42, 124] #[4] false) := ⟨Tryz.underlying123⟩
instance : TyI Tryz.prog 123 1 8 (Value.nilFunc) := ⟨by kernel_rfl⟩
instance : TyU Tryz.prog 124 (TypeDesc.func #[88] #[4] false) := ⟨Tryz.underlying124⟩
instance : TyI Tryz.prog 124 1 8 (Value.nilFunc) := ⟨by kernel_rfl⟩
instance : TyU Tryz.prog 125 (TypeDesc.map 3 4) := ⟨Tryz.underlying125⟩
instance : TyI Tryz.prog 125 1 8 (Value.map none) := ⟨by kernel_rfl⟩
instance : TyU Tryz.prog 126 (TypeDesc.func #[88] #[3] false) := ⟨Tryz.underlying126⟩
instance : TyI Tryz.prog 126 1 8 (Value.nilFunc) := ⟨by kernel_rfl⟩
instance : TyU Tryz.prog 127 (TypeDesc.interface #[("Error", 64)]) := ⟨Tryz.underlying127⟩
instance : TyI Tryz.prog 127 1 16 (Value.nilIface) := ⟨by kernel_rfl⟩
instance : TyU Tryz.prog 128 (TypeDesc.interface #[("Error", 64)]) := ⟨Tryz.underlying128⟩
instance : TyI Tryz.prog 128 1 16 (Value.nilIface) := ⟨by kernel_rfl⟩
instance : TyU Tryz.prog 129 (TypeDesc.tuple #[2, 128]) := ⟨Tryz.underlying129⟩
instance : TyI Tryz.prog 129 1 0 (Value.tuple [Value.int IntKind.i64 (0), Value.nilIface].toArray) := ⟨by kernel_rfl⟩
instance : TyU Tryz.prog 130 (TypeDesc.func #[9, 3, 3] #[2, 128] false) := ⟨Tryz.underlying130⟩
instance : TyI Tryz.prog 130 1 8 (Value.nilFunc) := ⟨by kernel_rfl⟩
instance : TyU Tryz.prog 131 (TypeDesc.tuple #[88, 4]) := ⟨Tryz.underlying131⟩
instance : TyI Tryz.prog 131 1 0 (Value.tuple [Value.slice none 0 0, Value.bool false].toArray) := ⟨by kernel_rfl⟩
instance : TyU Tryz.prog 132 (TypeDesc.func #[30] #[88, 4] false) := ⟨Tryz.underlying132⟩
instance : TyI Tryz.prog 132 1 8 (Value.nilFunc) := ⟨by kernel_rfl⟩
instance : TyU Tryz.prog 133 (TypeDesc.func #[88, 134] #[4] false) := ⟨Tryz.underlying133⟩
instance : TyI Tryz.prog 133 1 8 (Value.nilFunc) := ⟨by kernel_rfl⟩
instance : TyU Tryz.prog 134 (TypeDesc.func #[90] #[4] false) := ⟨Tryz.underlying134⟩
instance : TyI Tryz.prog 134 1 8 (Value.nilFunc) := ⟨by kernel_rfl⟩
instance : TyU Tryz.prog 135 (TypeDesc.func #[27, 27] #[4] false) := ⟨Tryz.underlying135⟩
instance : TyI Tryz.prog 135 1 8 (Value.nilFunc) := ⟨by kernel_rfl⟩
instance : TyU Tryz.prog 136 (TypeDesc.func #[28, 28, 38] #[4] false) := ⟨Tryz.underlying136⟩
instance : TyI Tryz.prog 136 1 8 (Value.nilFunc) := ⟨by kernel_rfl⟩
instance : TyU Tryz.prog 137 (TypeDesc.func #[90] #[9] false) := ⟨Tryz.underlying137⟩
instance : TyI Tryz.prog 137 1 8 (Value.nilFunc) := ⟨by kernel_rfl⟩
instance : TyU Tryz.prog 138 (TypeDesc.func #[27] #[30] false) := ⟨Tryz.underlying138⟩
instance : TyI Tryz.prog 138 1 8 (Value.nilFunc) := ⟨by kernel_rfl⟩
instance : TyU Tryz.prog 139 (TypeDesc.func #[3, 3] #[9] false) := ⟨Tryz.underlying139⟩
instance : TyI Tryz.prog 139 1 8 (Value.nilFunc) := ⟨by kernel_rfl⟩
instance : TyU Tryz.prog 140 (TypeDesc.map 3 9) := ⟨Tryz.underlying140⟩
instance : TyI Tryz.prog 140 1 8 (Value.map none) := ⟨by kernel_rfl⟩
instance : TyU Tryz.prog 141 (TypeDesc.func #[] #[140] false) := ⟨Tryz.underlying141⟩
instance : TyI Tryz.prog 141 1 8 (Value.nilFunc) := ⟨by kernel_rfl⟩
instance : TyU Tryz.prog 142 (TypeDesc.func #[27] #[27] false) := ⟨Tryz.underlying142⟩
instance : TyI Tryz.prog 142 1 8 (Value.nilFunc) := ⟨by kernel_rfl⟩
instance : TyU Tryz.prog 143 (TypeDesc.func #[28] #[28] false) := ⟨Tryz.underlying143⟩
instance : TyI Tryz.prog 143 1 8 (Value.nilFunc) := ⟨by kernel_rfl⟩
instance : TyU Tryz.prog 144 (TypeDesc.func #[27, 3] #[] false) := ⟨Tryz.underlying144⟩
instance : TyI Tryz.prog 144 1 8 (Value.nilFunc) := ⟨by kernel_rfl⟩
instance : TyU Tryz.prog 145 (TypeDesc.func #[28, 28] #[4] false) := ⟨Tryz.underlying145⟩
instance : TyI Tryz.prog 145 1 8 (Value.nilFunc) := ⟨by kernel_rfl⟩
instance : TyU Tryz.prog 146 (TypeDesc.func #[28, 3] #[] false) := ⟨Tryz.underlying146⟩
instance : TyI Tryz.prog 146 1 8 (Value.nilFunc) := ⟨by kernel_rfl⟩
instance : TyU Tryz.prog 147 (TypeDesc.func #[30, 9] #[3] false) := ⟨Tryz.underlying147⟩
instance : TyI Tryz.prog 147 1 8 (Value.nilFunc) := ⟨by kernel_rfl⟩
instance : TyU Tryz.prog 148 (TypeDesc.int IntKind.u64) := ⟨Tryz.underlying148⟩
instance : TyI Tryz.prog 148 1 8 (Value.int IntKind.u64 (0)) := ⟨by kernel_rfl⟩
instance : TyU Tryz.prog 149 (TypeDesc.tuple #[148, 148]) := ⟨Tryz.underlying149⟩
instance : TyI Tryz.prog 149 1 0 (Value.tuple [Value.int IntKind.u64 (0), Value.int IntKind.u64 (0)].toArray) := ⟨by kernel_rfl⟩
instance : TyU Tryz.prog 150 (TypeDesc.func #[148, 148] #[148, 148] false) := ⟨Tryz.underlying150⟩
instance : TyI Tryz.prog 150 1 8 (Value.nilFunc) := ⟨by kernel_rfl⟩
instance : TyU Tryz.prog 151 (TypeDesc.func #[9, 9] #[4] false) := ⟨Tryz.underlying151⟩
instance : TyI Tryz.prog 151 1 8 (Value.nilFunc) := ⟨by kernel_rfl⟩
instance : TyU Tryz.prog 152 (TypeDesc.pointer 154) := ⟨Tryz.underlying152⟩
instance : TyI Tryz.prog 152 1 8 (Value.pointer none) := ⟨by kernel_rfl⟩
instance : TyU Tryz.prog 153 (TypeDesc.struct #[{ name := "addr", type := 152, offset := 0, embedded := false, tag := "", pkgPath := "strings", byteOffset := 0 }, { name := "buf", type := 82, offset := 1, embedded := false, tag := "", pkgPath := "strings", byteOffset := 8 }]) := ⟨Tryz.underlying153⟩
instance : TyI Tryz.prog 153 2 32 (Value.agg [Value.pointer none, Value.slice none 0 0].toArray) := ⟨by kernel_rfl⟩
instance : TyU Tryz.prog 154 (TypeDesc.struct #[{ name := "addr", type := 152, offset := 0, embedded := false, tag := "", pkgPath := "strings", byteOffset := 0 }, { name := "buf", type := 82, offset := 1, embedded := false, tag := "", pkgPath := "strings", byteOffset := 8 }]) := ⟨Tryz.underlying154⟩
instance : TyI Tryz.prog 154 2 32 (Value.agg [Value.pointer none, Value.slice none 0 0].toArray) := ⟨by kernel_rfl⟩
instance : TyU Tryz.prog 155 (TypeDesc.func #[3] #[] false) := ⟨Tryz.underlying155⟩
instance : TyI Tryz.prog 155 1 8 (Value.nilFunc) := ⟨by kernel_rfl⟩
instance : TyU Tryz.prog 156 (TypeDesc.tuple #[3, 128]) := ⟨Tryz.underlying156⟩
instance : TyI Tryz.prog 156 1 0 (Value.tuple [Value.int IntKind.i64 (0), Value.nilIface].toArray) := ⟨by kernel_rfl⟩
instance : TyU Tryz.prog 157 (TypeDesc.func #[9] #[3, 128] false) := ⟨Tryz.underlying157⟩
instance : TyI Tryz.prog 157 1 8 (Value.nilFunc) := ⟨by kernel_rfl⟩
instance : TyU Tryz.prog 158 (TypeDesc.func #[] #[3] false) := ⟨Tryz.underlying158⟩
instance : TyI Tryz.prog 158 1 8 (Value.nilFunc) := ⟨by kernel_rfl⟩
instance : TyU Tryz.prog 159 (TypeDesc.struct #[{ name := "code", type := 9, offset := 0, embedded := false, tag := "", pkgPath := "keyevent/primitive", byteOffset := 0 }, { name := "raw", type := 3, offset := 1, embedded := false, tag := "", pkgPath := "keyevent/primitive", byteOffset := 16 }]) := ⟨Tryz.underlying159⟩
instance : TyI Tryz.prog 159 2 24 (Value.agg [Value.string ⟨#[]⟩, Value.int IntKind.i64 (0)].toArray) := ⟨by kernel_rfl⟩
instance : TyU Tryz.prog 160 (TypeDesc.struct #[{ name := "code", type := 9, offset := 0, embedded := false, tag := "", pkgPath := "keyevent/primitive", byteOffset := 0 }, { name := "raw", type := 3, offset := 1, embedded := false, tag := "", pkgPath := "keyevent/primitive", byteOffset := 16 }]) := ⟨Tryz.underlying160⟩
instance : TyI Tryz.prog 160 2 24 (Value.agg [Value.string ⟨#[]⟩, Value.int IntKind.i64 (0)].toArray) := ⟨by kernel_rfl⟩
instance : TyU Tryz.prog 161 (TypeDesc.tuple #[160, 4]) := ⟨Tryz.underlying161⟩
instance : TyI Tryz.prog 161 1 0 (Value.tuple { toList := [Value.agg [Value.string ⟨#[]⟩, Value.int IntKind.i64 (0)].toArray, Value.bool false] }) := ⟨by kernel_rfl⟩
instance : TyU Tryz.prog 162 (TypeDesc.map 3 160) := ⟨Tryz.underlying162⟩
instance : TyI Tryz.prog 162 1 8 (Value.map none) := ⟨by kernel_rfl⟩
instance : TyU Tryz.prog 163 (TypeDesc.func #[] #[162] false) := ⟨Tryz.underlying163⟩
instance : TyI Tryz.prog 163 1 8 (Value.nilFunc) := ⟨by kernel_rfl⟩
instance : TyU Tryz.prog 164 (TypeDesc.func #[27, 112] #[3] false) := ⟨Tryz.underlying164⟩
instance : TyI Tryz.prog 164 1 8 (Value.nilFunc) := ⟨by kernel_rfl⟩
instance : TyU Tryz.prog 165 (TypeDesc.func #[167] #[9, 32] false) := ⟨Tryz.underlying165⟩
instance : TyI Tryz.prog 165 1 8 (Value.nilFunc) := ⟨by kernel_rfl⟩
instance : TyU Tryz.prog 166 (TypeDesc.struct #[{ name := "Code", type := 3, offset := 0, embedded := false, tag := "", pkgPath := "", byteOffset := 0 }, { name := "Raw", type := 9, offset := 1, embedded := false, tag := "", pkgPath := "", byteOffset := 8 }]) := ⟨Tryz.underlying166⟩
instance : TyI Tryz.prog 166 2 24 (Value.agg [Value.int IntKind.i64 (0), Value.string ⟨#[]⟩].toArray) := ⟨by kernel_rfl⟩
instance : TyU Tryz.prog 167 (TypeDesc.struct #[{ name := "Code", type := 3, offset := 0, embedded := false, tag := "", pkgPath := "", byteOffset := 0 }, { name := "Raw", type := 9, offset := 1, embedded := false, tag := "", pkgPath := "", byteOffset := 8 }]) := ⟨Tryz.underlying167⟩
instance : TyI Tryz.prog 167 2 24 (Value.agg [Value.int IntKind.i64 (0), Value.string ⟨#[]⟩].toArray) := ⟨by kernel_rfl⟩
instance : TyU Tryz.prog 168 (TypeDesc.int IntKind.u32) := ⟨Tryz.underlying168⟩
instance : TyI Tryz.prog 168 1 4 (Value.int IntKind.u32 (0)) := ⟨by kernel_rfl⟩
instance : TyU Tryz.prog 169 (TypeDesc.array 8 168) := ⟨Tryz.underlying169⟩
instance : TyI Tryz.prog 169 8 32 (Value.agg [Value.int IntKind.u32 (0), Value.int IntKind.u32 (0), Value.int IntKind.u32 (0), Value.int IntKind.u32 (0), Value.int IntKind.u32 (0), Value.int IntKind.u32 (0), Value.int IntKind.u32 (0), Value.int IntKind.u32 (0)].toArray) := ⟨by kernel_rfl⟩
instance : TyU Tryz.prog 170 (TypeDesc.array 8 168) := ⟨Tryz.underlying170⟩
instance : TyI Tryz.prog 170 8 32 (Value.agg [Value.int IntKind.u32 (0), Value.int IntKind.u32 (0), Value.int IntKind.u32 (0), Value.int IntKind.u32 (0), Value.int IntKind.u32 (0), Value.int IntKind.u32 (0), Value.int IntKind.u32 (0), Value.int IntKind.u32 (0)].toArray) := ⟨by kernel_rfl⟩
instance : TyU Tryz.prog 171 (TypeDesc.func #[] #[170] false) := ⟨Tryz.underlying171⟩
instance : TyI Tryz.prog 171 1 8 (Value.nilFunc) := ⟨by kernel_rfl⟩
instance : TyU Tryz.prog 172 (TypeDesc.pointer 177) := ⟨Tryz.underlying172⟩
instance : TyI Tryz.prog 172 1 8 (Value.pointer none) := ⟨by kernel_rfl⟩
instance : TyU Tryz.prog 173 (TypeDesc.func #[] #[172] false) := ⟨Tryz.underlying173⟩
instance : TyI Tryz.prog 173 1 8 (Value.nilFunc) := ⟨by kernel_rfl⟩
instance : TyU Tryz.prog 174 (TypeDesc.func #[9, 172] #[] false) := ⟨Tryz.underlying174⟩
instance : TyI Tryz.prog 174 1 8 (Value.nilFunc) := ⟨by kernel_rfl⟩
instance : TyU Tryz.prog 175 (TypeDesc.array 32 5) := ⟨Tryz.underlying175⟩
instance : TyI Tryz.prog 175 32 32 (Value.agg [Value.int IntKind.u8 (0), Value.int IntKind.u8 (0), Value.int IntKind.u8 (0), Value.int IntKind.u8 (0), Value.int IntKind.u8 (0), Value.int IntKind.u8 (0), Value.int IntKind.u8 (0), Value.int IntKind.u8 (0), Value.int IntKind.u8 (0), Value.int IntKind.u8 (0), Value.int IntKind.u8 (0), Value.int IntKind.u8 (0), Value.int IntKind.u8 (0), Value.int IntKind.u8 (0), Value.int IntKind.u8 (0), Value.int IntKind.u8 (0), Value.int IntKind.u8 (0), Value.int IntKind.u8 (0), Value.int IntKind.u8 (0), Value.int IntKind.u8 (0), Value.int IntKind.u8 (0), Value.int IntKind.u8 (0), Value.int IntKind.u8 (0), Value.int IntKind.u8 (0), Value.int IntKind.u8 (0), Value.int IntKind.u8 (0), Value.int IntKind.u8 (0), Value.int IntKind.u8 (0), Value.int IntKind.u8 (0), Value.int IntKind.u8 (0), Value.int IntKind.u8 (0), Value.int IntKind.u8 (0)].toArray) := ⟨by kernel_rfl⟩
instance : TyU Tryz.prog 176 (TypeDesc.func #[] #[169] false) := ⟨Tryz.underlying176⟩
instance : TyI Tryz.prog 176 1 8 (Value.nilFunc) := ⟨by kernel_rfl⟩
instance : TyU Tryz.prog 177 (TypeDesc.array 64 168) := ⟨Tryz.underlying177⟩
instance : TyI Tryz.prog 177 64 256 (Value.agg [Value.int IntKind.u32 (0), Value.int IntKind.u32 (0), Value.int IntKind.u32 (0), Value.int IntKind.u32 (0), Value.int IntKind.u32 (0), Value.int IntKind.u32 (0), Value.int IntKind.u32 (0), Value.int IntKind.u32 (0), Value.int IntKind.u32 (0), Value.int IntKind.u32 (0), Value.int IntKind.u32 (0), Value.int IntKind.u32 (0), Value.int IntKind.u32 (0), Value.int IntKind.u32 (0), Value.int IntKind.u32 (0), Value.int IntKind.u32 (0), Value.int IntKind.u32 (0), Value.int IntKind.u32 (0), Value.int IntKind.u32 (0), Value.int IntKind.u32 (0), Value.int IntKind.u32 (0), Value.int IntKind.u32 (0), Value.int IntKind.u32 (0), Value.int IntKind.u32 (0), Value.int IntKind.u32 (0), Value.int IntKind.u32 (0), Value.int IntKind.u32 (0), Value.int IntKind.u32 (0), Value.int IntKind.u32 (0), Value.int IntKind.u32 (0), Value.int IntKind.u32 (0), Value.int IntKind.u32 (0), Value.int IntKind.u32 (0), Value.int IntKind.u32 (0), Value.int IntKind.u32 (0), Value.int IntKind.u32 (0), Value.int IntKind.u32 (0), Value.int IntKind.u32 (0), Value.int IntKind.u32 (0), Value.int IntKind.u32 (0), Value.int IntKind.u32 (0), Value.int IntKind.u32 (0), Value.int IntKind.u32 (0), Value.int IntKind.u32 (0), Value.int IntKind.u32 (0), Value.int IntKind.u32 (0), Value.int IntKind.u32 (0), Value.int IntKind.u32 (0), Value.int IntKind.u32 (0), Value.int IntKind.u32 (0), Value.int IntKind.u32 (0), Value.int IntKind.u32 (0), Value.int IntKind.u32 (0), Value.int IntKind.u32 (0), Value.int IntKind.u32 (0), Value.int IntKind.u32 (0), Value.int IntKind.u32 (0), Value.int IntKind.u32 (0), Value.int IntKind.u32 (0), Value.int IntKind.u32 (0), Value.int IntKind.u32 (0), Value.int IntKind.u32 (0), Value.int IntKind.u32 (0), Value.int IntKind.u32 (0)].toArray) := ⟨by kernel_rfl⟩
instance : TyU Tryz.prog 178 (TypeDesc.func #[] #[177] false) := ⟨Tryz.underlying178⟩
instance : TyI Tryz.prog 178 1 8 (Value.nilFunc) := ⟨by kernel_rfl⟩
instance : TyU Tryz.prog 179 (TypeDesc.func #[169, 177, 9] #[169] false) := ⟨Tryz.underlying179⟩
instance : TyI Tryz.prog 179 1 8 (Value.nilFunc) := ⟨by kernel_rfl⟩
instance : TyU Tryz.prog 180 (TypeDesc.func #[82, 3] #[82] false) := ⟨Tryz.underlying180⟩
instance : TyI Tryz.prog 180 1 8 (Value.nilFunc) := ⟨by kernel_rfl⟩
instance : TyU Tryz.prog 181 (TypeDesc.func #[82, 9] #[82] false) := ⟨Tryz.underlying181⟩
instance : TyI Tryz.prog 181 1 8 (Value.nilFunc) := ⟨by kernel_rfl⟩
instance : TyU Tryz.prog 182 (TypeDesc.func #[82, 5, 5, 3] #[82] false) := ⟨Tryz.underlying182⟩
instance : TyI Tryz.prog 182 1 8 (Value.nilFunc) := ⟨by kernel_rfl⟩
instance : TyU Tryz.prog 183 (TypeDesc.func #[248] #[] false) := ⟨Tryz.underlying183⟩
instance : TyI Tryz.prog 183 1 8 (Value.nilFunc) := ⟨by kernel_rfl⟩
instance : TyU Tryz.prog 184 (TypeDesc.func #[248] #[] false) := ⟨Tryz.underlying184⟩
instance : TyI Tryz.prog 184 1 8 (Value.nilFunc) := ⟨by kernel_rfl⟩
instance : TyU Tryz.prog 185 (TypeDesc.func #[30] #[184] false) := ⟨Tryz.underlying185⟩
instance : TyI Tryz.prog 185 1 8 (Value.nilFunc) := ⟨by kernel_rfl⟩
instance : TyU Tryz.prog 186 (TypeDesc.pointer 190) := ⟨Tryz.underlying186⟩
instance : TyI Tryz.prog 186 1 8 (Value.pointer none) := ⟨by kernel_rfl⟩
instance : TyU Tryz.prog 187 (TypeDesc.struct #[{ name := "Rest", type := 9, offset := 0, embedded := false, tag := "", pkgPath := "", byteOffset := 0 }, { name := "Bad", type := 4, offset := 1, embedded := false, tag := "", pkgPath := "", byteOffset := 16 }]) := ⟨Tryz.underlying187⟩
instance : TyI Tryz.prog 187 2 24 (Value.agg [Value.string ⟨#[]⟩, Value.bool false].toArray) := ⟨by kernel_rfl⟩
instance : TyU Tryz.prog 188 (TypeDesc.struct #[{ name := "Rest", type := 9, offset := 0, embedded := false, tag := "", pkgPath := "", byteOffset := 0 }, { name := "Bad", type := 4, offset := 1, embedded := false, tag := "", pkgPath := "", byteOffset := 16 }]) := ⟨Tryz.underlying188⟩
instance : TyI Tryz.prog 188 2 24 (Value.agg [Value.string ⟨#[]⟩, Value.bool false].toArray) := ⟨by kernel_rfl⟩
instance : TyU Tryz.prog 189 (TypeDesc.struct #[{ name := "Reader", type := 188, offset := 0, embedded := true, tag := "", pkgPath := "", byteOffset := 0 }]) := ⟨Tryz.underlying189⟩
instance : TyI Tryz.prog 189 2 24 (Value.agg [Value.string ⟨#[]⟩, Value.bool false].toArray) := ⟨by kernel_rfl⟩
instance : TyU Tryz.prog 190 (TypeDesc.struct #[{ name := "Reader", type := 188, offset := 0, embedded := true, tag := "", pkgPath := "", byteOffset := 0 }]) := ⟨Tryz.underlying190⟩
instance : TyI Tryz.prog 190 2 24 (Value.agg [Value.string ⟨#[]⟩, Value.bool false].toArray) := ⟨by kernel_rfl⟩
instance : TyU Tryz.prog 191 (TypeDesc.func #[3] #[30] false) := ⟨Tryz.underlying191⟩
instance : TyI Tryz.prog 191 1 8 (Value.nilFunc) := ⟨by kernel_rfl⟩
instance : TyU Tryz.prog 192 (TypeDesc.func #[9, 30, 193, 72] #[30, 32] false) := ⟨Tryz.underlying192⟩
instance : TyI Tryz.prog 192 1 8 (Value.nilFunc) := ⟨by kernel_rfl⟩
instance : TyU Tryz.prog 193 (TypeDesc.pointer 188) := ⟨Tryz.underlying193⟩
instance : TyI Tryz.prog 193 1 8 (Value.pointer none) := ⟨by kernel_rfl⟩
instance : TyU Tryz.prog 194 (TypeDesc.pointer 195) := ⟨Tryz.underlying194⟩
instance : TyI Tryz.prog 194 1 8 (Value.pointer none) := ⟨by kernel_rfl⟩
instance : TyU Tryz.prog 195 (TypeDesc.struct #[{ name := "Reader", type := 188, offset := 0, embedded := true, tag := "", pkgPath := "", byteOffset := 0 }]) := ⟨Tryz.underlying195⟩
instance : TyI Tryz.prog 195 2 24 (Value.agg [Value.string ⟨#[]⟩, Value.bool false].toArray) := ⟨by kernel_rfl⟩
instance : TyU Tryz.prog 196 (TypeDesc.pointer 197) := ⟨Tryz.underlying196⟩
instance : TyI Tryz.prog 196 1 8 (Value.pointer none) := ⟨by kernel_rfl⟩
instance : TyU Tryz.prog 197 (TypeDesc.struct #[{ name := "Reader", type := 188, offset := 0, embedded := true, tag := "", pkgPath := "", byteOffset := 0 }]) := ⟨Tryz.underlying197⟩
instance : TyI Tryz.prog 197 2 24 (Value.agg [Value.string ⟨#[]⟩, Value.bool false].toArray) := ⟨by kernel_rfl⟩
instance : TyU Tryz.prog 198 (TypeDesc.func #[4] #[9] false) := ⟨Tryz.underlying198⟩
instance : TyI Tryz.prog 198 1 8 (Value.nilFunc) := ⟨by kernel_rfl⟩
instance : TyU Tryz.prog 199 (TypeDesc.func #[3] #[9] false) := ⟨Tryz.underlying199⟩
instance : TyI Tryz.prog 199 1 8 (Value.nilFunc) := ⟨by kernel_rfl⟩
instance : TyU Tryz.prog 200 (TypeDesc.func #[3, 201] #[9] false) := ⟨Tryz.underlying200⟩
instance : TyI Tryz.prog 200 1 8 (Value.nilFunc) := ⟨by kernel_rfl⟩
instance : TyU Tryz.prog 201 (TypeDesc.int IntKind.u64) := ⟨Tryz.underlying201⟩
instance : TyI Tryz.prog 201 1 8 (Value.int IntKind.u64 (0)) := ⟨by kernel_rfl⟩
instance : TyU Tryz.prog 202 (TypeDesc.func #[201, 3] #[9] false) := ⟨Tryz.underlying202⟩
instance : TyI Tryz.prog 202 1 8 (Value.nilFunc) := ⟨by kernel_rfl⟩
instance : TyU Tryz.prog 203 (TypeDesc.func #[9, 3, 9] #[4] false) := ⟨Tryz.underlying203⟩
instance : TyI Tryz.prog 203 1 8 (Value.nilFunc) := ⟨by kernel_rfl⟩
instance : TyU Tryz.prog 204 (TypeDesc.tuple #[9, 3]) := ⟨Tryz.underlying204⟩
instance : TyI Tryz.prog 204 1 0 (Value.tuple [Value.string ⟨#[]⟩, Value.int IntKind.i64 (0)].toArray) := ⟨by kernel_rfl⟩
instance : TyU Tryz.prog 205 (TypeDesc.func #[9, 3] #[9, 3] false) := ⟨Tryz.underlying205⟩
instance : TyI Tryz.prog 205 1 8 (Value.nilFunc) := ⟨by kernel_rfl⟩
instance : TyU Tryz.prog 206 (TypeDesc.func #[9, 3, 3, 3, 5] #[30, 3] false) := ⟨Tryz.underlying206⟩
instance : TyI Tryz.prog 206 1 8 (Value.nilFunc) := ⟨by kernel_rfl⟩
instance : TyU Tryz.prog 207 (TypeDesc.func #[9, 3] #[30, 3] false) := ⟨Tryz.underlying207⟩
instance : TyI Tryz.prog 207 1 8 (Value.nilFunc) := ⟨by kernel_rfl⟩
instance : TyU Tryz.prog 208 (TypeDesc.tuple #[3, 201, 3]) := ⟨Tryz.underlying208⟩
instance : TyI Tryz.prog 208 1 0 (Value.tuple [Value.int IntKind.i64 (0), Value.int IntKind.u64 (0), Value.int IntKind.i64 (0)].toArray) := ⟨by kernel_rfl⟩
instance : TyU Tryz.prog 209 (TypeDesc.func #[9, 3] #[3, 201, 3] false) := ⟨Tryz.underlying209⟩
instance : TyI Tryz.prog 209 1 8 (Value.nilFunc) := ⟨by kernel_rfl⟩
instance : TyU Tryz.prog 210 (TypeDesc.tuple #[201, 3]) := ⟨Tryz.underlying210⟩
instance : TyI Tryz.prog 210 1 0 (Value.tuple [Value.int IntKind.u64 (0), Value.int IntKind.i64 (0)].toArray) := ⟨by kernel_rfl⟩
instance : TyU Tryz.prog 211 (TypeDesc.func #[9, 3, 3] #[201, 3] false) := ⟨Tryz.underlying211⟩
instance : TyI Tryz.prog 211 1 8 (Value.nilFunc) := ⟨by kernel_rfl⟩
instance : TyU Tryz.prog 212 (TypeDesc.tuple #[3, 3, 3]) := ⟨Tryz.underlying212⟩
instance : TyI Tryz.prog 212 1 0 (Value.tuple [Value.int IntKind.i64 (0), Value.int IntKind.i64 (0), Value.int IntKind.i64 (0)].toArray) := ⟨by kernel_rfl⟩
instance : TyU Tryz.prog 213 (TypeDesc.func #[9, 3] #[3, 3, 3] false) := ⟨Tryz.underlying213⟩
instance : TyI Tryz.prog 213 1 8 (Value.nilFunc) := ⟨by kernel_rfl⟩
instance : TyU Tryz.prog 214 (TypeDesc.func #[9, 3, 3, 3, 3] #[30, 3] false) := ⟨Tryz.underlying214⟩
instance : TyI Tryz.prog 214 1 8 (Value.nilFunc) := ⟨by kernel_rfl⟩
instance : TyU Tryz.prog 215 (TypeDesc.func #[42, 124] #[3] false) := ⟨Tryz.underlying215⟩
instance : TyI Tryz.prog 215 1 8 (Value.nilFunc) := ⟨by kernel_rfl⟩
instance : TyU Tryz.prog 216 (TypeDesc.func #[88] #[90] false) := ⟨Tryz.underlying216⟩
instance : TyI Tryz.prog 216 1 8 (Value.nilFunc) := ⟨by kernel_rfl⟩
instance : TyU Tryz.prog 217 (TypeDesc.func #[219, 221] #[88] false) := ⟨Tryz.underlying217⟩
instance : TyI Tryz.prog 217 1 8 (Value.nilFunc) := ⟨by kernel_rfl⟩
instance : TyU Tryz.prog 218 (TypeDesc.func #[134] #[] false) := ⟨Tryz.underlying218⟩
instance : TyI Tryz.prog 218 1 8 (Value.nilFunc) := ⟨by kernel_rfl⟩
instance : TyU Tryz.prog 219 (TypeDesc.func #[134] #[] false) := ⟨Tryz.underlying219⟩
instance : TyI Tryz.prog 219 1 8 (Value.nilFunc) := ⟨by kernel_rfl⟩
instance : TyU Tryz.prog 220 (TypeDesc.func #[88] #[219] false) := ⟨Tryz.underlying220⟩
instance : TyI Tryz.prog 220 1 8 (Value.nilFunc) := ⟨by kernel_rfl⟩
instance : TyU Tryz.prog 221 (TypeDesc.func #[90, 90] #[3] false) := ⟨Tryz.underlying221⟩
instance : TyI Tryz.prog 221 1 8 (Value.nilFunc) := ⟨by kernel_rfl⟩
instance : TyU Tryz.prog 222 (TypeDesc.func #[9, 9, 3, 3, 128] #[128] false) := ⟨Tryz.underlying222⟩
instance : TyI Tryz.prog 222 1 8 (Value.nilFunc) := ⟨by kernel_rfl⟩
instance : TyU Tryz.prog 223 (TypeDesc.tuple #[27, 4]) := ⟨Tryz.underlying223⟩
instance : TyI Tryz.prog 223 1 0 (Value.tuple [Value.slice none 0 0, Value.bool false].toArray) := ⟨by kernel_rfl⟩
instance : TyU Tryz.prog 224 (TypeDesc.func #[30] #[27, 4] false) := ⟨Tryz.underlying224⟩
instance : TyI Tryz.prog 224 1 8 (Value.nilFunc) := ⟨by kernel_rfl⟩
instance : TyU Tryz.prog 225 (TypeDesc.func #[9] #[90] false) := ⟨Tryz.underlying225⟩
instance : TyI Tryz.prog 225 1 8 (Value.nilFunc) := ⟨by kernel_rfl⟩
instance : TyU Tryz.prog 226 (TypeDesc.func #[88, 134] #[3] false) := ⟨Tryz.underlying226⟩
instance : TyI Tryz.prog 226 1 8 (Value.nilFunc) := ⟨by kernel_rfl⟩
instance : TyU Tryz.prog 227 (TypeDesc.array 24 5) := ⟨Tryz.underlying227⟩
instance : TyI Tryz.prog 227 24 24 (Value.agg [Value.int IntKind.u8 (0), Value.int IntKind.u8 (0), Value.int IntKind.u8 (0), Value.int IntKind.u8 (0), Value.int IntKind.u8 (0), Value.int IntKind.u8 (0), Value.int IntKind.u8 (0), Value.int IntKind.u8 (0), Value.int IntKind.u8 (0), Value.int IntKind.u8 (0), Value.int IntKind.u8 (0), Value.int IntKind.u8 (0), Value.int IntKind.u8 (0), Value.int IntKind.u8 (0), Value.int IntKind.u8 (0), Value.int IntKind.u8 (0), Value.int IntKind.u8 (0), Value.int IntKind.u8 (0), Value.int IntKind.u8 (0), Value.int IntKind.u8 (0), Value.int IntKind.u8 (0), Value.int IntKind.u8 (0), Value.int IntKind.u8 (0), Value.int IntKind.u8 (0)].toArray) := ⟨by kernel_rfl⟩
instance : TyU Tryz.prog 228 (TypeDesc.func #[201] #[3] false) := ⟨Tryz.underlying228⟩
instance : TyI Tryz.prog 228 1 8 (Value.nilFunc) := ⟨by kernel_rfl⟩
instance : TyU Tryz.prog 229 (TypeDesc.func #[82, 201] #[] false) := ⟨Tryz.underlying229⟩
instance : TyI Tryz.prog 229 1 8 (Value.nilFunc) := ⟨by kernel_rfl⟩
instance : TyU Tryz.prog 230 (TypeDesc.tuple #[82, 9]) := ⟨Tryz.underlying230⟩
instance : TyI Tryz.prog 230 1 0 (Value.tuple [Value.slice none 0 0, Value.string ⟨#[]⟩].toArray) := ⟨by kernel_rfl⟩
instance : TyU Tryz.prog 231 (TypeDesc.func #[82, 201, 3, 4, 4] #[82, 9] false) := ⟨Tryz.underlying231⟩
instance : TyI Tryz.prog 231 1 8 (Value.nilFunc) := ⟨by kernel_rfl⟩
instance : TyU Tryz.prog 232 (TypeDesc.tuple #[9, 4]) := ⟨Tryz.underlying232⟩
instance : TyI Tryz.prog 232 1 0 (Value.tuple [Value.string ⟨#[]⟩, Value.bool false].toArray) := ⟨by kernel_rfl⟩
instance : TyU Tryz.prog 233 (TypeDesc.func #[28, 40] #[4] false) := ⟨Tryz.underlying233⟩
instance : TyI Tryz.prog 233 1 8 (Value.nilFunc) := ⟨by kernel_rfl⟩
instance : TyU Tryz.prog 234 (TypeDesc.tuple #[201, 128]) := ⟨Tryz.underlying234⟩
instance : TyI Tryz.prog 234 1 0 (Value.tuple [Value.int IntKind.u64 (0), Value.nilIface].toArray) := ⟨by kernel_rfl⟩
instance : TyU Tryz.prog 235 (TypeDesc.func #[9, 3, 3] #[201, 128] false) := ⟨Tryz.underlying235⟩
instance : TyI Tryz.prog 235 1 8 (Value.nilFunc) := ⟨by kernel_rfl⟩
instance : TyU Tryz.prog 236 (TypeDesc.tuple #[168, 168]) := ⟨Tryz.underlying236⟩
instance : TyI Tryz.prog 236 1 0 (Value.tuple [Value.int IntKind.u32 (0), Value.int IntKind.u32 (0)].toArray) := ⟨by kernel_rfl⟩
instance : TyU Tryz.prog 237 (TypeDesc.func #[168, 168] #[168, 168] false) := ⟨Tryz.underlying237⟩
instance : TyI Tryz.prog 237 1 8 (Value.nilFunc) := ⟨by kernel_rfl⟩
instance : TyU Tryz.prog 238 (TypeDesc.tuple #[201, 201]) := ⟨Tryz.underlying238⟩
instance : TyI Tryz.prog 238 1 0 (Value.tuple [Value.int IntKind.u64 (0), Value.int IntKind.u64 (0)].toArray) := ⟨by kernel_rfl⟩
instance : TyU Tryz.prog 239 (TypeDesc.func #[201, 201] #[201, 201] false) := ⟨Tryz.underlying239⟩
instance : TyI Tryz.prog 239 1 8 (Value.nilFunc) := ⟨by kernel_rfl⟩
instance : TyU Tryz.prog 240 (TypeDesc.pointer 5) := ⟨Tryz.underlying240⟩
instance : TyI Tryz.prog 240 1 8 (Value.pointer none) := ⟨by kernel_rfl⟩
instance : TyU Tryz.prog 241 (TypeDesc.func #[9] #[9, 32] false) := ⟨Tryz.underlying241⟩
instance : TyI Tryz.prog 241 1 8 (Value.nilFunc) := ⟨by kernel_rfl⟩
instance : TyU Tryz.prog 242 (TypeDesc.func #[5] #[128] false) := ⟨Tryz.underlying242⟩
instance : TyI Tryz.prog 242 1 8 (Value.nilFunc) := ⟨by kernel_rfl⟩
instance : TyU Tryz.prog 243 (TypeDesc.pointer 170) := ⟨Tryz.underlying243⟩
instance : TyI Tryz.prog 243 1 8 (Value.pointer none) := ⟨by kernel_rfl⟩
instance : TyU Tryz.prog 244 (TypeDesc.func #[168, 3] #[168] false) := ⟨Tryz.underlying244⟩
instance : TyI Tryz.prog 244 1 8 (Value.nilFunc) := ⟨by kernel_rfl⟩
instance : TyU Tryz.prog 245 (TypeDesc.func #[3] #[9, 4] false) := ⟨Tryz.underlying245⟩
instance : TyI Tryz.prog 245 1 8 (Value.nilFunc) := ⟨by kernel_rfl⟩
instance : TyU Tryz.prog 246 (TypeDesc.func #[9] #[168] false) := ⟨Tryz.underlying246⟩
instance : TyI Tryz.prog 246 1 8 (Value.nilFunc) := ⟨by kernel_rfl⟩
instance : TyU Tryz.prog 247 (TypeDesc.func #[82, 201, 3] #[82] false) := ⟨Tryz.underlying247⟩
instance : TyI Tryz.prog 247 1 8 (Value.nilFunc) := ⟨by kernel_rfl⟩
instance : TyU Tryz.prog 248 (TypeDesc.func #[9, 30] #[4] false) := ⟨Tryz.underlying248⟩
instance : TyI Tryz.prog 248 1 8 (Value.nilFunc) := ⟨by kernel_rfl⟩
instance : TyU Tryz.prog 249 (TypeDesc.func #[82, 4] #[82] false) := ⟨Tryz.underlying249⟩
instance : TyI Tryz.prog 249 1 8 (Value.nilFunc) := ⟨by kernel_rfl⟩
instance : TyU Tryz.prog 250 (TypeDesc.func #[82, 2, 3] #[82] false) := ⟨Tryz.underlying250⟩
instance : TyI Tryz.prog 250 1 8 (Value.nilFunc) := ⟨by kernel_rfl⟩
instance : TyU Tryz.prog 251 (TypeDesc.func #[30, 9, 3] #[30] false) := ⟨Tryz.underlying251⟩
instance : TyI Tryz.prog 251 1 8 (Value.nilFunc) := ⟨by kernel_rfl⟩
instance : TyU Tryz.prog 252 (TypeDesc.func #[82, 3, 201] #[82] false) := ⟨Tryz.underlying252⟩
instance : TyI Tryz.prog 252 1 8 (Value.nilFunc) := ⟨by kernel_rfl⟩
instance : TyU Tryz.prog 253 (TypeDesc.tuple #[3, 201]) := ⟨Tryz.underlying253⟩
instance : TyI Tryz.prog 253 1 0 (Value.tuple [Value.int IntKind.i64 (0), Value.int IntKind.u64 (0)].toArray) := ⟨by kernel_rfl⟩
instance : TyU Tryz.prog 254 (TypeDesc.func #[] #[3, 201] false) := ⟨Tryz.underlying254⟩
instance : TyI Tryz.prog 254 1 8 (Value.nilFunc) := ⟨by kernel_rfl⟩
instance : TyU Tryz.prog 255 (TypeDesc.func #[30, 3, 3] #[30] false) := ⟨Tryz.underlying255⟩
instance : TyI Tryz.prog 255 1 8 (Value.nilFunc) := ⟨by kernel_rfl⟩
instance : TyU Tryz.prog 256 (TypeDesc.func #[] #[5] false) := ⟨Tryz.underlying256⟩
instance : TyI Tryz.prog 256 1 8 (Value.nilFunc) := ⟨by kernel_rfl⟩
instance : TyU Tryz.prog 257 (TypeDesc.func #[5] #[9] false) := ⟨Tryz.underlying257⟩
instance : TyI Tryz.prog 257 1 8 (Value.nilFunc) := ⟨by kernel_rfl⟩
instance : TyU Tryz.prog 258 (TypeDesc.func #[5] #[3] false) := ⟨Tryz.underlying258⟩
instance : TyI Tryz.prog 258 1 8 (Value.nilFunc) := ⟨by kernel_rfl⟩
instance : TyU Tryz.prog 259 (TypeDesc.tuple #[5, 4]) := ⟨Tryz.underlying259⟩
instance : TyI Tryz.prog 259 1 0 (Value.tuple [Value.int IntKind.u8 (0), Value.bool false].toArray) := ⟨by kernel_rfl⟩
instance : TyU Tryz.prog 260 (TypeDesc.func #[5, 5] #[5, 4] false) := ⟨Tryz.underlying260⟩
instance : TyI Tryz.prog 260 1 8 (Value.nilFunc) := ⟨by kernel_rfl⟩
instance : TyU Tryz.prog 261 (TypeDesc.func #[9] #[12] false) := ⟨Tryz.underlying261⟩
instance : TyI Tryz.prog 261 1 8 (Value.nilFunc) := ⟨by kernel_rfl⟩
instance : TyU Tryz.prog 262 (TypeDesc.array 256 5) := ⟨Tryz.underlying262⟩
instance : TyI Tryz.prog 262 256 256 (Value.agg [Value.int IntKind.u8 (0), Value.int IntKind.u8 (0), Value.int IntKind.u8 (0), Value.int IntKind.u8 (0), Value.int IntKind.u8 (0), Value.int IntKind.u8 (0), Value.int IntKind.u8 (0), Value.int IntKind.u8 (0), Value.int IntKind.u8 (0), Value.int IntKind.u8 (0), Value.int IntKind.u8 (0), Value.int IntKind.u8 (0), Value.int IntKind.u8 (0), Value.int IntKind.u8 (0), Value.int IntKind.u8 (0), Value.int IntKind.u8 (0), Value.int IntKind.u8 (0), Value.int IntKind.u8 (0), Value.int IntKind.u8 (0), Value.int IntKind.u8 (0), Value.int IntKind.u8 (0), Value.int IntKind.u8 (0), Value.int IntKind.u8 (0), Value.int IntKind.u8 (0), Value.int IntKind.u8 (0), Value.int IntKind.u8 (0), Value.int IntKind.u8 (0), Value.int IntKind.u8 (0), Value.int IntKind.u8 (0), Value.int IntKind.u8 (0), Value.int IntKind.u8 (0), Value.int IntKind.u8 (0), Value.int IntKind.u8 (0), Value.int IntKind.u8 (0), Value.int IntKind.u8 (0), Value.int IntKind.u8 (0), Value.int IntKind.u8 (0), Value.int IntKind.u8 (0), Value.int IntKind.u8 (0), Value.int IntKind.u8 (0), Value.int IntKind.u8 (0), Value.int IntKind.u8 (0), Value.int IntKind.u8 (0), Value.int IntKind.u8 (0), Value.int IntKind.u8 (0), Value.int IntKind.u8 (0), Value.int IntKind.u8 (0), Value.int IntKind.u8 (0), Value.int IntKind.u8 (0), Value.int IntKind.u8 (0), Value.int IntKind.u8 (0), Value.int IntKind.u8 (0), Value.int IntKind.u8 (0), Value.int IntKind.u8 (0), Value.int IntKind.u8 (0), Value.int IntKind.u8 (0), Value.int IntKind.u8 (0), Value.int IntKind.u8 (0), Value.int IntKind.u8 (0), Value.int IntKind.u8 (0), Value.int IntKind.u8 (0), Value.int IntKind.u8 (0), Value.int IntKind.u8 (0), Value.int IntKind.u8 (0), Value.int IntKind.u8 (0), Value.int IntKind.u8 (0), Value.int IntKind.u8 (0), Value.int IntKind.u8 (0), Value.int IntKind.u8 (0), Value.int IntKind.u8 (0), Value.int IntKind.u8 (0), Value.int IntKind.u8 (0), Value.int IntKind.u8 (0), Value.int IntKind.u8 (0), Value.int IntKind.u8 (0), Value.int IntKind.u8 (0), Value.int IntKind.u8 (0), Value.int IntKind.u8 (0), Value.int IntKind.u8 (0), Value.int IntKind.u8 (0), Value.int IntKind.u8 (0), Value.int IntKind.u8 (0), Value.int IntKind.u8 (0), Value.int IntKind.u8 (0), Value.int IntKind.u8 (0), Value.int IntKind.u8 (0), Value.int IntKind.u8 (0), Value.int IntKind.u8 (0), Value.int IntKind.u8 (0), Value.int IntKind.u8 (0), Value.int IntKind.u8 (0), Value.int IntKind.u8 (0), Value.int IntKind.u8 (0), Value.int IntKind.u8 (0), Value.int IntKind.u8 (0), Value.int IntKind.u8 (0), Value.int IntKind.u8 (0), Value.int IntKind.u8 (0), Value.int IntKind.u8 (0), Value.int IntKind.u8 (0), Value.int IntKind.u8 (0), Value.int IntKind.u8 (0), Value.int IntKind.u8 (0), Value.int IntKind.u8 (0), Value.int IntKind.u8 (0), Value.int IntKind.u8 (0), Value.int IntKind.u8 (0), Value.int IntKind.u8 (0), Value.int IntKind.u8 (0), Value.int IntKind.u8 (0), Value.int IntKind.u8 (0), Value.int IntKind.u8 (0), Value.int IntKind.u8 (0), Value.int IntKind.u8 (0), Value.int IntKind.u8 (0), Value.int IntKind.u8 (0), Value.int IntKind.u8 (0), Value.int IntKind.u8 (0), Value.int IntKind.u8 (0), Value.int IntKind.u8 (0), Value.int IntKind.u8 (0), Value.int IntKind.u8 (0), Value.int IntKind.u8 (0), Value.int IntKind.u8 (0), Value.int IntKind.u8 (0), Value.int IntKind.u8 (0), Value.int IntKind.u8 (0), Value.int IntKind.u8 (0), Value.int IntKind.u8 (0), Value.int IntKind.u8 (0), Value.int IntKind.u8 (0), Value.int IntKind.u8 (0), Value.int IntKind.u8 (0), Value.int IntKind.u8 (0), Value.int IntKind.u8 (0), Value.int IntKind.u8 (0), Value.int IntKind.u8 (0), Value.int IntKind.u8 (0), Value.int IntKind.u8 (0), Value.int IntKind.u8 (0), Value.int IntKind.u8 (0), Value.int IntKind.u8 (0), Value.int IntKind.u8 (0), Value.int IntKind.u8 (0), Value.int IntKind.u8 (0), Value.int IntKind.u8 (0), Value.int IntKind.u8 (0), Value.int IntKind.u8 (0), Value.int IntKind.u8 (0), Value.int IntKind.u8 (0), Value.int IntKind.u8 (0), Value.int IntKind.u8 (0), Value.int IntKind.u8 (0), Value.int IntKind.u8 (0), Value.int IntKind.u8 (0), Value.int IntKind.u8 (0), Value.int IntKind.u8 (0), Value.int IntKind.u8 (0), Value.int IntKind.u8 (0), Value.int IntKind.u8 (0), Value.int IntKind.u8 (0), Value.int IntKind.u8 (0), Value.int IntKind.u8 (0), Value.int IntKind.u8 (0), Value.int IntKind.u8 (0), Value.int IntKind.u8 (0), Value.int IntKind.u8 (0), Value.int IntKind.u8 (0), Value.int IntKind.u8 (0), Value.int IntKind.u8 (0), Value.int IntKind.u8 (0), Value.int IntKind.u8 (0), Value.int IntKind.u8 (0), Value.int IntKind.u8 (0), Value.int IntKind.u8 (0), Value.int IntKind.u8 (0), Value.int IntKind.u8 (0), Value.int IntKind.u8 (0), Value.int IntKind.u8 (0), Value.int IntKind.u8 (0), Value.int IntKind.u8 (0), Value.int IntKind.u8 (0), Value.int IntKind.u8 (0), Value.int IntKind.u8 (0), Value.int IntKind.u8 (0), Value.int IntKind.u8 (0), Value.int IntKind.u8 (0), Value.int IntKind.u8 (0), Value.int IntKind.u8 (0), Value.int IntKind.u8 (0), Value.int IntKind.u8 (0), Value.int IntKind.u8 (0), Value.int IntKind.u8 (0), Value.int IntKind.u8 (0), Value.int IntKind.u8 (0), Value.int IntKind.u8 (0), Value.int IntKind.u8 (0), Value.int IntKind.u8 (0), Value.int IntKind.u8 (0), Value.int IntKind.u8 (0), Value.int IntKind.u8 (0), Value.int IntKind.u8 (0), Value.int IntKind.u8 (0), Value.int IntKind.u8 (0), Value.int IntKind.u8 (0), Value.int IntKind.u8 (0), Value.int IntKind.u8 (0), Value.int IntKind.u8 (0), Value.int IntKind.u8 (0), Value.int IntKind.u8 (0), Value.int IntKind.u8 (0), Value.int IntKind.u8 (0), Value.int IntKind.u8 (0), Value.int IntKind.u8 (0), Value.int IntKind.u8 (0), Value.int IntKind.u8 (0), Value.int IntKind.u8 (0), Value.int IntKind.u8 (0), Value.int IntKind.u8 (0), Value.int IntKind.u8 (0), Value.int IntKind.u8 (0), Value.int IntKind.u8 (0), Value.int IntKind.u8 (0), Value.int IntKind.u8 (0), Value.int IntKind.u8 (0), Value.int IntKind.u8 (0), Value.int IntKind.u8 (0), Value.int IntKind.u8 (0), Value.int IntKind.u8 (0), Value.int IntKind.u8 (0), Value.int IntKind.u8 (0), Value.int IntKind.u8 (0), Value.int IntKind.u8 (0), Value.int IntKind.u8 (0), Value.int IntKind.u8 (0), Value.int IntKind.u8 (0), Value.int IntKind.u8 (0), Value.int IntKind.u8 (0), Value.int IntKind.u8 (0), Value.int IntKind.u8 (0), Value.int IntKind.u8 (0), Value.int IntKind.u8 (0), Value.int IntKind.u8 (0), Value.int IntKind.u8 (0), Value.int IntKind.u8 (0), Value.int IntKind.u8 (0), Value.int IntKind.u8 (0), Value.int IntKind.u8 (0), Value.int IntKind.u8 (0), Value.int IntKind.u8 (0), Value.int IntKind.u8 (0), Value.int IntKind.u8 (0), Value.int IntKind.u8 (0), Value.int IntKind.u8 (0), Value.int IntKind.u8 (0), Value.int IntKind.u8 (0)].toArray) := ⟨by kernel_rfl⟩
instance : TyU Tryz.prog 263 (TypeDesc.struct #[{ name := "lo", type := 5, offset := 0, embedded := false, tag := "", pkgPath := "unicode/utf8", byteOffset := 0 }, { name := "hi", type := 5, offset := 1, embedded := false, tag := "", pkgPath := "unicode/utf8", byteOffset := 1 }]) := ⟨Tryz.underlying263⟩
instance : TyI Tryz.prog 263 2 2 (Value.agg [Value.int IntKind.u8 (0), Value.int IntKind.u8 (0)].toArray) := ⟨by kernel_rfl⟩
instance : TyU Tryz.prog 264 (TypeDesc.struct #[{ name := "lo", type := 5, offset := 0, embedded := false, tag := "", pkgPath := "unicode/utf8", byteOffset := 0 }, { name := "hi", type := 5, offset := 1, embedded := false, tag := "", pkgPath := "unicode/utf8", byteOffset := 1 }]) := ⟨Tryz.underlying264⟩
instance : TyI Tryz.prog 264 2 2 (Value.agg [Value.int IntKind.u8 (0), Value.int IntKind.u8 (0)].toArray) := ⟨by kernel_rfl⟩
instance : TyU Tryz.prog 265 (TypeDesc.array 16 264) := ⟨Tryz.underlying265⟩
instance : TyI Tryz.prog 265 32 32 (Value.agg [Value.int IntKind.u8 (0), Value.int IntKind.u8 (0), Value.int IntKind.u8 (0), Value.int IntKind.u8 (0), Value.int IntKind.u8 (0), Value.int IntKind.u8 (0), Value.int IntKind.u8 (0), Value.int IntKind.u8 (0), Value.int IntKind.u8 (0), Value.int IntKind.u8 (0), Value.int IntKind.u8 (0), Value.int IntKind.u8 (0), Value.int IntKind.u8 (0), Value.int IntKind.u8 (0), Value.int IntKind.u8 (0), Value.int IntKind.u8 (0), Value.int IntKind.u8 (0), Value.int IntKind.u8 (0), Value.int IntKind.u8 (0), Value.int IntKind.u8 (0), Value.int IntKind.u8 (0), Value.int IntKind.u8 (0), Value.int IntKind.u8 (0), Value.int IntKind.u8 (0), Value.int IntKind.u8 (0), Value.int IntKind.u8 (0), Value.int IntKind.u8 (0), Value.int IntKind.u8 (0), Value.int IntKind.u8 (0), Value.int IntKind.u8 (0), Value.int IntKind.u8 (0), Value.int IntKind.u8 (0)].toArray) := ⟨by kernel_rfl⟩
instance : TyU Tryz.prog 266 (TypeDesc.func #[90, 90] #[90] false) := ⟨Tryz.underlying266⟩
instance : TyI Tryz.prog 266 1 8 (Value.nilFunc) := ⟨by kernel_rfl⟩
instance : TyU Tryz.prog 267 (TypeDesc.func #[219] #[88] false) := ⟨Tryz.underlying267⟩
instance : TyI Tryz.prog 267 1 8 (Value.nilFunc) := ⟨by kernel_rfl⟩
instance : TyU Tryz.prog 268 (TypeDesc.func #[88, 221] #[] false) := ⟨Tryz.underlying268⟩
instance : TyI Tryz.prog 268 1 8 (Value.nilFunc) := ⟨by kernel_rfl⟩
instance : TyU Tryz.prog 269 (TypeDesc.int IntKind.i64) := ⟨Tryz.underlying269⟩
instance : TyI Tryz.prog 269 1 8 (Value.int IntKind.i64 (0)) := ⟨by kernel_rfl⟩
instance : TyU Tryz.prog 270 (TypeDesc.pointer 296) := ⟨Tryz.underlying270⟩
instance : TyI Tryz.prog 270 1 8 (Value.pointer none) := ⟨by kernel_rfl⟩
instance : TyU Tryz.prog 271 (TypeDesc.func #[9, 9] #[270] false) := ⟨Tryz.underlying271⟩
instance : TyI Tryz.prog 271 1 8 (Value.nilFunc) := ⟨by kernel_rfl⟩
instance : TyU Tryz.prog 272 (TypeDesc.func #[9, 9, 3] #[270] false) := ⟨Tryz.underlying272⟩
instance : TyI Tryz.prog 272 1 8 (Value.nilFunc) := ⟨by kernel_rfl⟩
instance : TyU Tryz.prog 273 (TypeDesc.tuple #[9, 9, 4]) := ⟨Tryz.underlying273⟩
instance : TyI Tryz.prog 273 1 0 (Value.tuple [Value.string ⟨#[]⟩, Value.string ⟨#[]⟩, Value.bool false].toArray) := ⟨by kernel_rfl⟩
instance : TyU Tryz.prog 274 (TypeDesc.func #[9, 9] #[9, 9, 4] false) := ⟨Tryz.underlying274⟩
instance : TyI Tryz.prog 274 1 8 (Value.nilFunc) := ⟨by kernel_rfl⟩
instance : TyU Tryz.prog 275 (TypeDesc.func #[4] #[3] false) := ⟨Tryz.underlying275⟩
instance : TyI Tryz.prog 275 1 8 (Value.nilFunc) := ⟨by kernel_rfl⟩
instance : TyU Tryz.prog 276 (TypeDesc.array 20 201) := ⟨Tryz.underlying276⟩
instance : TyI Tryz.prog 276 20 160 (Value.agg [Value.int IntKind.u64 (0), Value.int IntKind.u64 (0), Value.int IntKind.u64 (0), Value.int IntKind.u64 (0), Value.int IntKind.u64 (0), Value.int IntKind.u64 (0), Value.int IntKind.u64 (0), Value.int IntKind.u64 (0), Value.int IntKind.u64 (0), Value.int IntKind.u64 (0), Value.int IntKind.u64 (0), Value.int IntKind.u64 (0), Value.int IntKind.u64 (0), Value.int IntKind.u64 (0), Value.int IntKind.u64 (0), Value.int IntKind.u64 (0), Value.int IntKind.u64 (0), Value.int IntKind.u64 (0), Value.int IntKind.u64 (0), Value.int IntKind.u64 (0)].toArray) := ⟨by kernel_rfl⟩
instance : TyU Tryz.prog 277 (TypeDesc.array 65 5) := ⟨Tryz.underlying277⟩
instance : TyI Tryz.prog 277 65 65 (Value.agg [Value.int IntKind.u8 (0), Value.int IntKind.u8 (0), Value.int IntKind.u8 (0), Value.int IntKind.u8 (0), Value.int IntKind.u8 (0), Value.int IntKind.u8 (0), Value.int IntKind.u8 (0), Value.int IntKind.u8 (0), Value.int IntKind.u8 (0), Value.int IntKind.u8 (0), Value.int IntKind.u8 (0), Value.int IntKind.u8 (0), Value.int IntKind.u8 (0), Value.int IntKind.u8 (0), Value.int IntKind.u8 (0), Value.int IntKind.u8 (0), Value.int IntKind.u8 (0), Value.int IntKind.u8 (0), Value.int IntKind.u8 (0), Value.int IntKind.u8 (0), Value.int IntKind.u8 (0), Value.int IntKind.u8 (0), Value.int IntKind.u8 (0), Value.int IntKind.u8 (0), Value.int IntKind.u8 (0), Value.int IntKind.u8 (0), Value.int IntKind.u8 (0), Value.int IntKind.u8 (0), Value.int IntKind.u8 (0), Value.int IntKind.u8 (0), Value.int IntKind.u8 (0), Value.int IntKind.u8 (0), Value.int IntKind.u8 (0), Value.int IntKind.u8 (0), Value.int IntKind.u8 (0), Value.int IntKind.u8 (0), Value.int IntKind.u8 (0), Value.int IntKind.u8 (0), Value.int IntKind.u8 (0), Value.int IntKind.u8 (0), Value.int IntKind.u8 (0), Value.int IntKind.u8 (0), Value.int IntKind.u8 (0), Value.int IntKind.u8 (0), Value.int IntKind.u8 (0), Value.int IntKind.u8 (0), Value.int IntKind.u8 (0), Value.int IntKind.u8 (0), Value.int IntKind.u8 (0), Value.int IntKind.u8 (0), Value.int IntKind.u8 (0), Value.int IntKind.u8 (0), Value.int IntKind.u8 (0), Value.int IntKind.u8 (0), Value.int IntKind.u8 (0), Value.int IntKind.u8 (0), Value.int IntKind.u8 (0), Value.int IntKind.u8 (0), Value.int IntKind.u8 (0), Value.int IntKind.u8 (0), Value.int IntKind.u8 (0), Value.int IntKind.u8 (0), Value.int IntKind.u8 (0), Value.int IntKind.u8 (0), Value.int IntKind.u8 (0)].toArray) := ⟨by kernel_rfl⟩
instance : TyU Tryz.prog 278 (TypeDesc.func #[3] #[4] false) := ⟨Tryz.underlying278⟩
instance : TyI Tryz.prog 278 1 8 (Value.nilFunc) := ⟨by kernel_rfl⟩
instance : TyU Tryz.prog 279 (TypeDesc.func #[148] #[3] false) := ⟨Tryz.underlying279⟩
instance : TyI Tryz.prog 279 1 8 (Value.nilFunc) := ⟨by kernel_rfl⟩
instance : TyU Tryz.prog 280 (TypeDesc.func #[28, 40] #[3] false) := ⟨Tryz.underlying280⟩
instance : TyI Tryz.prog 280 1 8 (Value.nilFunc) := ⟨by kernel_rfl⟩
instance : TyU Tryz.prog 281 (TypeDesc.func #[27] #[] false) := ⟨Tryz.underlying281⟩
instance : TyI Tryz.prog 281 1 8 (Value.nilFunc) := ⟨by kernel_rfl⟩
instance : TyU Tryz.prog 282 (TypeDesc.func #[28] #[] false) := ⟨Tryz.underlying282⟩
instance : TyI Tryz.prog 282 1 8 (Value.nilFunc) := ⟨by kernel_rfl⟩
instance : TyU Tryz.prog 283 TypeDesc.unsafePointer := ⟨Tryz.underlying283⟩
instance : TyI Tryz.prog 283 1 8 (Value.pointer none) := ⟨by kernel_rfl⟩
instance : TyU Tryz.prog 284 (TypeDesc.func #[283] #[283] false) := ⟨Tryz.underlying284⟩
instance : TyI Tryz.prog 284 1 8 (Value.nilFunc) := ⟨by kernel_rfl⟩
instance : TyU Tryz.prog 285 (TypeDesc.func #[3] #[82] false) := ⟨Tryz.underlying285⟩
instance : TyI Tryz.prog 285 1 8 (Value.nilFunc) := ⟨by kernel_rfl⟩
instance : TyU Tryz.prog 286 (TypeDesc.map 5 5) := ⟨Tryz.underlying286⟩
instance : TyI Tryz.prog 286 1 8 (Value.map none) := ⟨by kernel_rfl⟩
instance : TyU Tryz.prog 287 (TypeDesc.func #[] #[286] false) := ⟨Tryz.underlying287⟩
instance : TyI Tryz.prog 287 1 8 (Value.nilFunc) := ⟨by kernel_rfl⟩
instance : TyU Tryz.prog 288 (TypeDesc.func #[9, 9] #[9, 4] false) := ⟨Tryz.underlying288⟩
instance : TyI Tryz.prog 288 1 8 (Value.nilFunc) := ⟨by kernel_rfl⟩
instance : TyU Tryz.prog 289 (TypeDesc.func #[9] #[] false) := ⟨Tryz.underlying289⟩
instance : TyI Tryz.prog 289 1 8 (Value.nilFunc) := ⟨by kernel_rfl⟩
instance : TyU Tryz.prog 290 (TypeDesc.func #[3] #[201] false) := ⟨Tryz.underlying290⟩
instance : TyI Tryz.prog 290 1 8 (Value.nilFunc) := ⟨by kernel_rfl⟩
instance : TyU Tryz.prog 291 (TypeDesc.int IntKind.i8) := ⟨Tryz.underlying291⟩
instance : TyI Tryz.prog 291 1 1 (Value.int IntKind.i8 (0)) := ⟨by kernel_rfl⟩
instance : TyU Tryz.prog 292 (TypeDesc.func #[88, 219] #[88] false) := ⟨Tryz.underlying292⟩
instance : TyI Tryz.prog 292 1 8 (Value.nilFunc) := ⟨by kernel_rfl⟩
instance : TyU Tryz.prog 293 (TypeDesc.func #[88, 3, 3, 3, 221] #[] false) := ⟨Tryz.underlying293⟩
instance : TyI Tryz.prog 293 1 8 (Value.nilFunc) := ⟨by kernel_rfl⟩
instance : TyU Tryz.prog 294 (TypeDesc.func #[5] #[5] false) := ⟨Tryz.underlying294⟩
instance : TyI Tryz.prog 294 1 8 (Value.nilFunc) := ⟨by kernel_rfl⟩
instance : TyU Tryz.prog 295 (TypeDesc.struct #[{ name := "Func", type := 9, offset := 0, embedded := false, tag := "", pkgPath := "", byteOffset := 0 }, { name := "Num", type := 9, offset := 1, embedded := false, tag := "", pkgPath := "", byteOffset := 16 }, { name := "Err", type := 128, offset := 2, embedded := false, tag := "", pkgPath := "", byteOffset := 32 }]) := ⟨Tryz.underlying295⟩
instance : TyI Tryz.prog 295 3 48 (Value.agg [Value.string ⟨#[]⟩, Value.string ⟨#[]⟩, Value.nilIface].toArray) := ⟨by kernel_rfl⟩
instance : TyU Tryz.prog 296 (TypeDesc.struct #[{ name := "Func", type := 9, offset := 0, embedded := false, tag := "", pkgPath := "", byteOffset := 0 }, { name := "Num", type := 9, offset := 1, embedded := false, tag := "", pkgPath := "", byteOffset := 16 }, { name := "Err", type := 128, offset := 2, embedded := false, tag := "", pkgPath := "", byteOffset := 32 }]) := ⟨Tryz.underlying296⟩
instance : TyI Tryz.prog 296 3 48 (Value.agg [Value.string ⟨#[]⟩, Value.string ⟨#[]⟩, Value.nilIface].toArray) := ⟨by kernel_rfl⟩
instance : TyU Tryz.prog 297 (TypeDesc.func #[9] #[128] false) := ⟨Tryz.underlying297⟩
instance : TyI Tryz.prog 297 1 8 (Value.nilFunc) := ⟨by kernel_rfl⟩
instance : TyU Tryz.prog 298 (TypeDesc.func #[168] #[3] false) := ⟨Tryz.underlying298⟩
instance : TyI Tryz.prog 298 1 8 (Value.nilFunc) := ⟨by kernel_rfl⟩
instance : TyU Tryz.prog 299 (TypeDesc.func #[88, 3, 3, 221] #[] false) := ⟨Tryz.underlying299⟩
instance : TyI Tryz.prog 299 1 8 (Value.nilFunc) := ⟨by kernel_rfl⟩
instance : TyU Tryz.prog 300 (TypeDesc.int IntKind.i64) := ⟨Tryz.underlying300⟩
instance : TyI Tryz.prog 300 1 8 (Value.int IntKind.i64 (0)) := ⟨by kernel_rfl⟩
instance : TyU Tryz.prog 301 (TypeDesc.tuple #[3, 300]) := ⟨Tryz.underlying301⟩
instance : TyI Tryz.prog 301 1 0 (Value.tuple [Value.int IntKind.i64 (0), Value.int IntKind.i64 (0)].toArray) := ⟨by kernel_rfl⟩
instance : TyU Tryz.prog 302 (TypeDesc.func #[88, 3, 3, 221] #[3, 300] false) := ⟨Tryz.underlying302⟩
instance : TyI Tryz.prog 302 1 8 (Value.nilFunc) := ⟨by kernel_rfl⟩
instance : TyU Tryz.prog 303 (TypeDesc.func #[88, 3, 3, 221] #[4] false) := ⟨Tryz.underlying303⟩
instance : TyI Tryz.prog 303 1 8 (Value.nilFunc) := ⟨by kernel_rfl⟩
instance : TyU Tryz.prog 304 (TypeDesc.func #[88, 3, 3, 3, 221] #[3] false) := ⟨Tryz.underlying304⟩
instance : TyI Tryz.prog 304 1 8 (Value.nilFunc) := ⟨by kernel_rfl⟩
instance : TyU Tryz.prog 305 (TypeDesc.tuple #[3, 4]) := ⟨Tryz.underlying305⟩
instance : TyI Tryz.prog 305 1 0 (Value.tuple [Value.int IntKind.i64 (0), Value.bool false].toArray) := ⟨by kernel_rfl⟩
instance : TyU Tryz.prog 306 (TypeDesc.func #[88, 3, 3, 3, 221] #[3, 4] false) := ⟨Tryz.underlying306⟩
instance : TyI Tryz.prog 306 1 8 (Value.nilFunc) := ⟨by kernel_rfl⟩
instance : TyU Tryz.prog 307 (TypeDesc.pointer 309) := ⟨Tryz.underlying307⟩
instance : TyI Tryz.prog 307 1 8 (Value.pointer none) := ⟨by kernel_rfl⟩
instance : TyU Tryz.prog 308 (TypeDesc.struct #[{ name := "s", type := 9, offset := 0, embedded := false, tag := "", pkgPath := "errors", byteOffset := 0 }]) := ⟨Tryz.underlying308⟩
instance : TyI Tryz.prog 308 1 16 (Value.agg [Value.string ⟨#[]⟩].toArray) := ⟨by kernel_rfl⟩
instance : TyU Tryz.prog 309 (TypeDesc.struct #[{ name := "s", type := 9, offset := 0, embedded := false, tag := "", pkgPath := "errors", byteOffset := 0 }]) := ⟨Tryz.underlying309⟩
instance : TyI Tryz.prog 309 1 16 (Value.agg [Value.string ⟨#[]⟩].toArray) := ⟨by kernel_rfl⟩
instance : TyU Tryz.prog 310 (TypeDesc.func #[9, 9] #[3] false) := ⟨Tryz.underlying310⟩
instance : TyI Tryz.prog 310 1 8 (Value.nilFunc) := ⟨by kernel_rfl⟩
instance : TyU Tryz.prog 311 (TypeDesc.array 64 5) := ⟨Tryz.underlying311⟩
instance : TyI Tryz.prog 311 64 64 (Value.agg [Value.int IntKind.u8 (0), Value.int IntKind.u8 (0), Value.int IntKind.u8 (0), Value.int IntKind.u8 (0), Value.int IntKind.u8 (0), Value.int IntKind.u8 (0), Value.int IntKind.u8 (0), Value.int IntKind.u8 (0), Value.int IntKind.u8 (0), Value.int IntKind.u8 (0), Value.int IntKind.u8 (0), Value.int IntKind.u8 (0), Value.int IntKind.u8 (0), Value.int IntKind.u8 (0), Value.int IntKind.u8 (0), Value.int IntKind.u8 (0), Value.int IntKind.u8 (0), Value.int IntKind.u8 (0), Value.int IntKind.u8 (0), Value.int IntKind.u8 (0), Value.int IntKind.u8 (0), Value.int IntKind.u8 (0), Value.int IntKind.u8 (0), Value.int IntKind.u8 (0), Value.int IntKind.u8 (0), Value.int IntKind.u8 (0), Value.int IntKind.u8 (0), Value.int IntKind.u8 (0), Value.int IntKind.u8 (0), Value.int IntKind.u8 (0), Value.int IntKind.u8 (0), Value.int IntKind.u8 (0), Value.int IntKind.u8 (0), Value.int IntKind.u8 (0), Value.int IntKind.u8 (0), Value.int IntKind.u8 (0), Value.int IntKind.u8 (0), Value.int IntKind.u8 (0), Value.int IntKind.u8 (0), Value.int IntKind.u8 (0), Value.int IntKind.u8 (0), Value.int IntKind.u8 (0), Value.int IntKind.u8 (0), Value.int IntKind.u8 (0), Value.int IntKind.u8 (0), Value.int IntKind.u8 (0), Value.int IntKind.u8 (0), Value.int IntKind.u8 (0), Value.int IntKind.u8 (0), Value.int IntKind.u8 (0), Value.int IntKind.u8 (0), Value.int IntKind.u8 (0), Value.int IntKind.u8 (0), Value.int IntKind.u8 (0), Value.int IntKind.u8 (0), Value.int IntKind.u8 (0), Value.int IntKind.u8 (0), Value.int IntKind.u8 (0), Value.int IntKind.u8 (0), Value.int IntKind.u8 (0), Value.int IntKind.u8 (0), Value.int IntKind.u8 (0), Value.int IntKind.u8 (0), Value.int IntKind.u8 (0)].toArray) := ⟨by kernel_rfl⟩
instance : TyU Tryz.prog 312 (TypeDesc.int IntKind.u64) := ⟨Tryz.underlying312⟩
instance : TyI Tryz.prog 312 1 8 (Value.int IntKind.u64 (0)) := ⟨by kernel_rfl⟩
instance : TyU Tryz.prog 313 (TypeDesc.func #[3] #[148] false) := ⟨Tryz.underlying313⟩
instance : TyI Tryz.prog 313 1 8 (Value.nilFunc) := ⟨by kernel_rfl⟩
instance : TyU Tryz.prog 314 (TypeDesc.func #[] #[201] false) := ⟨Tryz.underlying314⟩
instance : TyI Tryz.prog 314 1 8 (Value.nilFunc) := ⟨by kernel_rfl⟩
instance : TyU Tryz.prog 315 (TypeDesc.func #[88, 3, 316, 221] #[3] false) := ⟨Tryz.underlying315⟩
instance : TyI Tryz.prog 315 1 8 (Value.nilFunc) := ⟨by kernel_rfl⟩
instance : TyU Tryz.prog 316 (TypeDesc.pointer 3) := ⟨Tryz.underlying316⟩
instance : TyI Tryz.prog 316 1 8 (Value.pointer none) := ⟨by kernel_rfl⟩
instance : TyU Tryz.prog 317 (TypeDesc.func #[88, 3, 3, 3, 316, 221] #[3] false) := ⟨Tryz.underlying317⟩
instance : TyI Tryz.prog 317 1 8 (Value.nilFunc) := ⟨by kernel_rfl⟩
instance : TyU Tryz.prog 318 (TypeDesc.func #[9, 5] #[3] false) := ⟨Tryz.underlying318⟩
instance : TyI Tryz.prog 318 1 8 (Value.nilFunc) := ⟨by kernel_rfl⟩
instance : TyU Tryz.prog 319 (TypeDesc.pointer 312) := ⟨Tryz.underlying319⟩
instance : TyI Tryz.prog 319 1 8 (Value.pointer none) := ⟨by kernel_rfl⟩
instance : TyU Tryz.prog 320 (TypeDesc.tuple #[3, 3]) := ⟨Tryz.underlying320⟩
instance : TyI Tryz.prog 320 1 0 (Value.tuple [Value.int IntKind.i64 (0), Value.int IntKind.i64 (0)].toArray) := ⟨by kernel_rfl⟩
instance : TyU Tryz.prog 321 (TypeDesc.func #[88, 3, 3, 316, 221] #[3, 3] false) := ⟨Tryz.underlying321⟩
instance : TyI Tryz.prog 321 1 8 (Value.nilFunc) := ⟨by kernel_rfl⟩
instance : TyU Tryz.prog 322 (TypeDesc.func #[9] #[168, 168] false) := ⟨Tryz.underlying322⟩
instance : TyI Tryz.prog 322 1 8 (Value.nilFunc) := ⟨by kernel_rfl⟩
instance : TyU Tryz.prog 323 (TypeDesc.struct #[{ name := "_interface", type := 17, offset := 0, embedded := false, tag := "", pkgPath := "runtime", byteOffset := 0 }, { name := "concrete", type := 17, offset := 1, embedded := false, tag := "", pkgPath := "runtime", byteOffset := 8 }, { name := "asserted", type := 17, offset := 2, embedded := false, tag := "", pkgPath := "runtime", byteOffset := 16 }, { name := "missingMethod", type := 9, offset := 3, embedded := false, tag := "", pkgPath := "runtime", byteOffset := 24 }]) := ⟨Tryz.underlying323⟩
instance : TyI Tryz.prog 323 4 40 (Value.agg [Value.pointer none, Value.pointer none, Value.pointer none, Value.string ⟨#[]⟩].toArray) := ⟨by kernel_rfl⟩
instance : TyU Tryz.prog 324 (TypeDesc.struct #[{ name := "_interface", type := 17, offset := 0, embedded := false, tag := "", pkgPath := "runtime", byteOffset := 0 }, { name := "concrete", type := 17, offset := 1, embedded := false, tag := "", pkgPath := "runtime", byteOffset := 8 }, { name := "asserted", type := 17, offset := 2, embedded := false, tag := "", pkgPath := "runtime", byteOffset := 16 }, { name := "missingMethod", type := 9, offset := 3, embedded := false, tag := "", pkgPath := "runtime", byteOffset := 24 }]) := ⟨Tryz.underlying324⟩
instance : TyI Tryz.prog 324 4 40 (Value.agg [Value.pointer none, Value.pointer none, Value.pointer none, Value.string ⟨#[]⟩].toArray) := ⟨by kernel_rfl⟩
instance : TyU Tryz.prog 325 (TypeDesc.array 0 16) := ⟨Tryz.underlying325⟩
instance : TyI Tryz.prog 325 0 0 (Value.agg [].toArray) := ⟨by kernel_rfl⟩
instance : TyU Tryz.prog 326 (TypeDesc.struct #[{ name := "_", type := 325, offset := 0, embedded := false, tag := "", pkgPath := "runtime", byteOffset := 0 }]) := ⟨Tryz.underlying326⟩
instance : TyI Tryz.prog 326 0 0 (Value.agg [].toArray) := ⟨by kernel_rfl⟩
instance : TyU Tryz.prog 327 (TypeDesc.struct #[{ name := "_", type := 325, offset := 0, embedded := false, tag := "", pkgPath := "runtime", byteOffset := 0 }]) := ⟨Tryz.underlying327⟩
instance : TyI Tryz.prog 327 0 0 (Value.agg [].toArray) := ⟨by kernel_rfl⟩
instance : TyU Tryz.prog 328 (TypeDesc.int IntKind.u8) := ⟨Tryz.underlying328⟩
instance : TyI Tryz.prog 328 1 1 (Value.int IntKind.u8 (0)) := ⟨by kernel_rfl⟩
instance : TyU Tryz.prog 329 (TypeDesc.int IntKind.u8) := ⟨Tryz.underlying329⟩
instance : TyI Tryz.prog 329 1 1 (Value.int IntKind.u8 (0)) := ⟨by kernel_rfl⟩
instance : TyU Tryz.prog 330 (TypeDesc.func #[283, 283] #[4] false) := ⟨Tryz.underlying330⟩
instance : TyI Tryz.prog 330 1 8 (Value.nilFunc) := ⟨by kernel_rfl⟩
instance : TyU Tryz.prog 331 (TypeDesc.int IntKind.i32) := ⟨Tryz.underlying331⟩
instance : TyI Tryz.prog 331 1 4 (Value.int IntKind.i32 (0)) := ⟨by kernel_rfl⟩
instance : TyU Tryz.prog 332 (TypeDesc.int IntKind.i32) := ⟨Tryz.underlying332⟩
instance : TyI Tryz.prog 332 1 4 (Value.int IntKind.i32 (0)) := ⟨by kernel_rfl⟩
instance : TyU Tryz.prog 333 (TypeDesc.struct #[{ name := "Size_", type := 12, offset := 0, embedded := false, tag := "", pkgPath := "", byteOffset := 0 }, { name := "PtrBytes", type := 12, offset := 1, embedded := false, tag := "", pkgPath := "", byteOffset := 8 }, { name := "Hash", type := 168, offset := 2, embedded := false, tag := "", pkgPath := "", byteOffset := 16 }, { name := "TFlag", type := 328, offset := 3, embedded := false, tag := "", pkgPath := "", byteOffset := 20 }, { name := "Align_", type := 5, offset := 4, embedded := false, tag := "", pkgPath := "", byteOffset := 21 }, { name := "FieldAlign_", type := 5, offset := 5, embedded := false, tag := "", pkgPath := "", byteOffset := 22 }, { name := "Kind_", type := 329, offset := 6, embedded := false, tag := "", pkgPath := "", byteOffset := 23 }, { name := "Equal", type := 330, offset := 7, embedded := false, tag := "", pkgPath := "", byteOffset := 24 }, { name := "GCData", type := 240, offset := 8, embedded := false, tag := "", pkgPath := "", byteOffset := 32 }, { name := "Str", type := 331, offset := 9, embedded := false, tag := "", pkgPath := "", byteOffset := 40 }, { name := "PtrToThis", type := 332, offset := 10, embedded := false, tag := "", pkgPath := "", byteOffset := 44 }]) := ⟨Tryz.underlying333⟩
instance : TyI Tryz.prog 333 11 48 (Value.agg [Value.int IntKind.u64 (0), Value.int IntKind.u64 (0), Value.int IntKind.u32 (0), Value.int IntKind.u8 (0), Value.int IntKind.u8 (0), Value.int IntKind.u8 (0), Value.int IntKind.u8 (0), Value.nilFunc, Value.pointer none, Value.int IntKind.i32 (0), Value.int IntKind.i32 (0)].toArray) := ⟨by kernel_rfl⟩
instance : TyU Tryz.prog 334 (TypeDesc.struct #[{ name := "Size_", type := 12, offset := 0, embedded := false, tag := "", pkgPath := "", byteOffset := 0 }, { name := "PtrBytes", type := 12, offset := 1, embedded := false, tag := "", pkgPath := "", byteOffset := 8 }, { name := "Hash", type := 168, offset := 2, embedded := false, tag := "", pkgPath := "", byteOffset := 16 }, { name := "TFlag", type := 328, offset := 3, embedded := false, tag := "", pkgPath := "", byteOffset := 20 }, { name := "Align_", type := 5, offset := 4, embedded := false, tag := "", pkgPath := "", byteOffset := 21 }, { name := "FieldAlign_", type := 5, offset := 5, embedded := false, tag := "", pkgPath := "", byteOffset := 22 }, { name := "Kind_", type := 329, offset := 6, embedded := false, tag := "", pkgPath := "", byteOffset := 23 }, { name := "Equal", type := 330, offset := 7, embedded := false, tag := "", pkgPath := "", byteOffset := 24 }, { name := "GCData", type := 240, offset := 8, embedded := false, tag := "", pkgPath := "", byteOffset := 32 }, { name := "Str", type := 331, offset := 9, embedded := false, tag := "", pkgPath := "", byteOffset := 40 }, { name := "PtrToThis", type := 332, offset := 10, embedded := false, tag := "", pkgPath := "", byteOffset := 44 }]) := ⟨Tryz.underlying334⟩
instance : TyI Tryz.prog 334 11 48 (Value.agg [Value.int IntKind.u64 (0), Value.int IntKind.u64 (0), Value.int IntKind.u32 (0), Value.int IntKind.u8 (0), Value.int IntKind.u8 (0), Value.int IntKind.u8 (0), Value.int IntKind.u8 (0), Value.nilFunc, Value.pointer none, Value.int IntKind.i32 (0), Value.int IntKind.i32 (0)].toArray) := ⟨by kernel_rfl⟩
instance : FnB Tryz.prog 3 := ⟨⟨Tryz.f3, Tryz.func3, by kernel_rfl, by kernel_rfl⟩⟩
instance : FnB Tryz.prog 4 := ⟨⟨Tryz.f4, Tryz.func4, by kernel_rfl, by kernel_rfl⟩⟩
instance : FnB Tryz.prog 5 := ⟨⟨Tryz.f5, Tryz.func5, by kernel_rfl, by kernel_rfl⟩⟩
instance : FnB Tryz.prog 6 := ⟨⟨Tryz.f6, Tryz.func6, by kernel_rfl, by kernel_rfl⟩⟩
instance : FnB Tryz.prog 7 := ⟨⟨Tryz.f7, Tryz.func7, by kernel_rfl, by kernel_rfl⟩⟩
instance : FnB Tryz.prog 8 := ⟨⟨Tryz.f8, Tryz.func8, by kernel_rfl, by kernel_rfl⟩⟩
instance : FnB Tryz.prog 9 := ⟨⟨Tryz.f9, Tryz.func9, by kernel_rfl, by kernel_rfl⟩⟩
instance : FnB Tryz.prog 10 := ⟨⟨Tryz.f10, Tryz.func10, by kernel_rfl, by kernel_rfl⟩⟩
instance : FnB Tryz.prog 11 := ⟨⟨Tryz.f11, Tryz.func11, by kernel_rfl, by kernel_rfl⟩⟩
instance : FnB Tryz.prog 12 := ⟨⟨Tryz.f12, Tryz.func12, by kernel_rfl, by kernel_rfl⟩⟩
instance : FnB Tryz.prog 13 := ⟨⟨Tryz.f13, Tryz.func13, by kernel_rfl, by kernel_rfl⟩⟩
instance : FnB Tryz.prog 14 := ⟨⟨Tryz.f14, Tryz.func14, by kernel_rfl, by kernel_rfl⟩⟩
instance : FnB Tryz.prog 15 := ⟨⟨Tryz.f15, Tryz.func15, by kernel_rfl, by kernel_rfl⟩⟩
instance : FnB Tryz.prog 16 := ⟨⟨Tryz.f16, Tryz.func16, by kernel_rfl, by kernel_rfl⟩⟩
instance : FnB Tryz.prog 17 := ⟨⟨Tryz.f17, Tryz.func17, by kernel_rfl, by kernel_rfl⟩⟩
instance : FnB Tryz.prog 18 := ⟨⟨Tryz.f18, Tryz.func18, by kernel_rfl, by kernel_rfl⟩⟩
instance : FnB Tryz.prog 19 := ⟨⟨Tryz.f19, Tryz.func19, by kernel_rfl, by kernel_rfl⟩⟩
instance : FnB Tryz.prog 20 := ⟨⟨Tryz.f20, Tryz.func20, by kernel_rfl, by kernel_rfl⟩⟩
instance : FnB Tryz.prog 21 := ⟨⟨Tryz.f21, Tryz.func21, by kernel_rfl, by kernel_rfl⟩⟩
instance : FnB Tryz.prog 22 := ⟨⟨Tryz.f22, Tryz.func22, by kernel_rfl, by kernel_rfl⟩⟩
instance : FnB Tryz.prog 23 := ⟨⟨Tryz.f23, Tryz.func23, by kernel_rfl, by kernel_rfl⟩⟩
instance : FnB Tryz.prog 24 := ⟨⟨Tryz.f24, Tryz.func24, by kernel_rfl, by kernel_rfl⟩⟩
instance : FnB Tryz.prog 25 := ⟨⟨Tryz.f25, Tryz.func25, by kernel_rfl, by kernel_rfl⟩⟩
instance : FnB Tryz.prog 26 := ⟨⟨Tryz.f26, Tryz.func26, by kernel_rfl, by kernel_rfl⟩⟩
instance : FnB Tryz.prog 27 := ⟨⟨Tryz.f27, Tryz.func27, by kernel_rfl, by kernel_rfl⟩⟩
instance : FnB Tryz.prog 28 := ⟨⟨Tryz.f28, Tryz.func28, by kernel_rfl, by kernel_rfl⟩⟩
instance : FnB Tryz.prog 29 := ⟨⟨Tryz.f29, Tryz.func29, by kernel_rfl, by kernel_rfl⟩⟩
instance : FnB Tryz.prog 30 := ⟨⟨Tryz.f30, Tryz.func30, by kernel_rfl, by kernel_rfl⟩⟩
instance : FnB Tryz.prog 31 := ⟨⟨Tryz.f31, Tryz.func31, by kernel_rfl, by kernel_rfl⟩⟩
instance : FnB Tryz.prog 32 := ⟨⟨Tryz.f32, Tryz.func32, by kernel_rfl, by kernel_rfl⟩⟩
instance : FnB Tryz.prog 33 := ⟨⟨Tryz.f33, Tryz.func33, by kernel_rfl, by kernel_rfl⟩⟩
instance : FnB Tryz.prog 34 := ⟨⟨Tryz.f34, Tryz.func34, by kernel_rfl, by kernel_rfl⟩⟩
instance : FnB Tryz.prog 35 := ⟨⟨Tryz.f35, Tryz.func35, by kernel_rfl, by kernel_rfl⟩⟩
instance : FnB Tryz.prog 36 := ⟨⟨Tryz.f36, Tryz.func36, by kernel_rfl, by kernel_rfl⟩⟩
instance : FnB Tryz.prog 37 := ⟨⟨Tryz.f37, Tryz.func37, by kernel_rfl, by kernel_rfl⟩⟩
instance : FnB Tryz.prog 38 := ⟨⟨Tryz.f38, Tryz.func38, by kernel_rfl, by kernel_rfl⟩⟩
instance : FnB Tryz.prog 39 := ⟨⟨Tryz.f39, Tryz.func39, by kernel_rfl, by kernel_rfl⟩⟩
instance : FnB Tryz.prog 40 := ⟨⟨Tryz.f40, Tryz.func40, by kernel_rfl, by kernel_rfl⟩⟩
instance : FnB Tryz.prog 41 := ⟨⟨Tryz.f41, Tryz.func41, by kernel_rfl, by kernel_rfl⟩⟩
instance : FnB Tryz.prog 42 := ⟨⟨Tryz.f42, Tryz.func42, by kernel_rfl, by kernel_rfl⟩⟩
instance : FnB Tryz.prog 43 := ⟨⟨Tryz.f43, Tryz.func43, by kernel_rfl, by kernel_rfl⟩⟩
instance : FnB Tryz.prog 44 := ⟨⟨Tryz.f44, Tryz.func44, by kernel_rfl, by kernel_rfl⟩⟩
instance : FnB Tryz.prog 45 := ⟨⟨Tryz.f45, Tryz.func45, by kernel_rfl, by kernel_rfl⟩⟩
instance : FnB Tryz.prog 46 := ⟨⟨Tryz.f46, Tryz.func46, by kernel_rfl, by kernel_rfl⟩⟩
instance : FnB Tryz.prog 47 := ⟨⟨Tryz.f47, Tryz.func47, by kernel_rfl, by kernel_rfl⟩⟩
instance : FnB Tryz.prog 48 := ⟨⟨Tryz.f48, Tryz.func48, by kernel_rfl, by kernel_rfl⟩⟩
instance : FnB Tryz.prog 49 := ⟨⟨Tryz.f49, Tryz.func49, by kernel_rfl, by kernel_rfl⟩⟩
instance : FnB Tryz.prog 50 := ⟨⟨Tryz.f50, Tryz.func50, by kernel_rfl, by kernel_rfl⟩⟩
instance : FnB Tryz.prog 51 := ⟨⟨Tryz.f51, Tryz.func51, by kernel_rfl, by kernel_rfl⟩⟩
instance : FnB Tryz.prog 52 := ⟨⟨Tryz.f52, Tryz.func52, by kernel_rfl, by kernel_rfl⟩⟩
instance : FnB Tryz.prog 53 := ⟨⟨Tryz.f53, Tryz.func53, by kernel_rfl, by kernel_rfl⟩⟩
instance : FnB Tryz.prog 54 := ⟨⟨Tryz.f54, Tryz.func54, by kernel_rfl, by kernel_rfl⟩⟩
instance : FnB Tryz.prog 55 := ⟨⟨Tryz.f55, Tryz.func55, by kernel_rfl, by kernel_rfl⟩⟩
instance : FnB Tryz.prog 56 := ⟨⟨Tryz.f56, Tryz.func56, by kernel_rfl, by kernel_rfl⟩⟩
instance : FnB Tryz.prog 57 := ⟨⟨Tryz.f57, Tryz.func57, by kernel_rfl, by kernel_rfl⟩⟩
instance : FnB Tryz.prog 58 := ⟨⟨Tryz.f58, Tryz.func58, by kernel_rfl, by kernel_rfl⟩⟩
instance : FnB Tryz.prog 59 := ⟨⟨Tryz.f59, Tryz.func59, by kernel_rfl, by kernel_rfl⟩⟩
instance : FnB Tryz.prog 60 := ⟨⟨Tryz.f60, Tryz.func60, by kernel_rfl, by kernel_rfl⟩⟩
instance : FnB Tryz.prog 61 := ⟨⟨Tryz.f61, Tryz.func61, by kernel_rfl, by kernel_rfl⟩⟩
instance : FnB Tryz.prog 62 := ⟨⟨Tryz.f62, Tryz.func62, by kernel_rfl, by kernel_rfl⟩⟩
instance : FnB Tryz.prog 63 := ⟨⟨Tryz.f63, Tryz.func63, by kernel_rfl, by kernel_rfl⟩⟩
instance : FnB Tryz.prog 64 := ⟨⟨Tryz.f64, Tryz.func64, by kernel_rfl, by kernel_rfl⟩⟩
instance : FnB Tryz.prog 65 := ⟨⟨Tryz.f65, Tryz.func65, by kernel_rfl, by kernel_rfl⟩⟩
instance : FnB Tryz.prog 66 := ⟨⟨Tryz.f66, Tryz.func66, by kernel_rfl, by kernel_rfl⟩⟩
instance : FnB Tryz.prog 67 := ⟨⟨Tryz.f67, Tryz.func67, by kernel_rfl, by kernel_rfl⟩⟩
instance : FnB Tryz.prog 68 := ⟨⟨Tryz.f68, Tryz.func68, by kernel_rfl, by kernel_rfl⟩⟩
instance : FnB Tryz.prog 69 := ⟨⟨Tryz.f69, Tryz.func69, by kernel_rfl, by kernel_rfl⟩⟩
instance : FnB Tryz.prog 70 := ⟨⟨Tryz.f70, Tryz.func70, by kernel_rfl, by kernel_rfl⟩⟩
instance : FnB Tryz.prog 71 := ⟨⟨Tryz.f71, Tryz.func71, by kernel_rfl, by kernel_rfl⟩⟩
instance : FnB Tryz.prog 72 := ⟨⟨Tryz.f72, Tryz.func72, by kernel_rfl, by kernel_rfl⟩⟩
instance : FnB Tryz.prog 73 := ⟨⟨Tryz.f73, Tryz.func73, by kernel_rfl, by kernel_rfl⟩⟩
instance : FnB Tryz.prog 74 := ⟨⟨Tryz.f74, Tryz.func74, by kernel_rfl, by kernel_rfl⟩⟩
instance : FnB Tryz.prog 75 := ⟨⟨Tryz.f75, Tryz.func75, by kernel_rfl, by kernel_rfl⟩⟩
instance : FnB Tryz.prog 76 := ⟨⟨Tryz.f76, Tryz.func76, by kernel_rfl, by kernel_rfl⟩⟩
instance : FnB Tryz.prog 77 := ⟨⟨Tryz.f77, Tryz.func77, by kernel_rfl, by kernel_rfl⟩⟩
instance : FnB Tryz.prog 78 := ⟨⟨Tryz.f78, Tryz.func78, by kernel_rfl, by kernel_rfl⟩⟩
instance : FnB Tryz.prog 79 := ⟨⟨Tryz.f79, Tryz.func79, by kernel_rfl, by kernel_rfl⟩⟩
instance : FnB Tryz.prog 80 := ⟨⟨Tryz.f80, Tryz.func80, by kernel_rfl, by kernel_rfl⟩⟩
instance : FnB Tryz.prog 81 := ⟨⟨Tryz.f81, Tryz.func81, by kernel_rfl, by kernel_rfl⟩⟩
instance : FnB Tryz.prog 82 := ⟨⟨Tryz.f82, Tryz.func82, by kernel_rfl, by kernel_rfl⟩⟩
instance : FnB Tryz.prog 83 := ⟨⟨Tryz.f83, Tryz.func83, by kernel_rfl, by kernel_rfl⟩⟩
instance : FnB Tryz.prog 84 := ⟨⟨Tryz.f84, Tryz.func84, by kernel_rfl, by kernel_rfl⟩⟩
instance : FnB Tryz.prog 85 := ⟨⟨Tryz.f85, Tryz.func85, by kernel_rfl, by kernel_rfl⟩⟩
instance : FnB Tryz.prog 86 := ⟨⟨Tryz.f86, Tryz.func86, by kernel_rfl, by kernel_rfl⟩⟩
instance : FnB Tryz.prog 87 := ⟨⟨Tryz.f87, Tryz.func87, by kernel_rfl, by kernel_rfl⟩⟩
instance : FnB Tryz.prog 88 := ⟨⟨Tryz.f88, Tryz.func88, by kernel_rfl, by kernel_rfl⟩⟩
instance : FnB Tryz.prog 89 := ⟨⟨Tryz.f89, Tryz.func89, by kernel_rfl, by kernel_rfl⟩⟩
instance : FnB Tryz.prog 90 := ⟨⟨Tryz.f90, Tryz.func90, by kernel_rfl, by kernel_rfl⟩⟩
instance : FnB Tryz.prog 91 := ⟨⟨Tryz.f91, Tryz.func91, by kernel_rfl, by kernel_rfl⟩⟩
instance : FnB Tryz.prog 92 := ⟨⟨Tryz.f92, Tryz.func92, by kernel_rfl, by kernel_rfl⟩⟩
instance : FnB Tryz.prog 93 := ⟨⟨Tryz.f93, Tryz.func93, by kernel_rfl, by kernel_rfl⟩⟩
instance : FnB Tryz.prog 94 := ⟨⟨Tryz.f94, Tryz.func94, by kernel_rfl, by kernel_rfl⟩⟩
instance : FnB Tryz.prog 95 := ⟨⟨Tryz.f95, Tryz.func95, by kernel_rfl, by kernel_rfl⟩⟩
instance : FnB Tryz.prog 96 := ⟨⟨Tryz.f96, Tryz.func96, by kernel_rfl, by kernel_rfl⟩⟩
instance : FnB Tryz.prog 97 := ⟨⟨Tryz.f97, Tryz.func97, by kernel_rfl, by kernel_rfl⟩⟩
instance : FnB Tryz.prog 98 := ⟨⟨Tryz.f98, Tryz.func98, by kernel_rfl, by kernel_rfl⟩⟩
instance : FnB Tryz.prog 99 := ⟨⟨Tryz.f99, Tryz.func99, by kernel_rfl, by kernel_rfl⟩⟩
instance : FnB Tryz.prog 100 := ⟨⟨Tryz.f100, Tryz.func100, by kernel_rfl, by kernel_rfl⟩⟩
instance : FnB Tryz.prog 101 := ⟨⟨Tryz.f101, Tryz.func101, by kernel_rfl, by kernel_rfl⟩⟩
instance : FnB Tryz.prog 102 := ⟨⟨Tryz.f102, Tryz.func102, by kernel_rfl, by kernel_rfl⟩⟩
instance : FnB Tryz.prog 103 := ⟨⟨Tryz.f103, Tryz.func103, by kernel_rfl, by kernel_rfl⟩⟩
instance : FnB Tryz.prog 104 := ⟨⟨Tryz.f104, Tryz.func104, by kernel_rfl, by kernel_rfl⟩⟩
instance : FnB Tryz.prog 105 := ⟨⟨Tryz.f105, Tryz.func105, by kernel_rfl, by kernel_rfl⟩⟩
instance : FnB Tryz.prog 106 := ⟨⟨Tryz.f106, Tryz.func106, by kernel_rfl, by kernel_rfl⟩⟩
instance : FnB Tryz.prog 107 := ⟨⟨Tryz.f107, Tryz.func107, by kernel_rfl, by kernel_rfl⟩⟩
instance : FnB Tryz.prog 108 := ⟨⟨Tryz.f108, Tryz.func108, by kernel_rfl, by kernel_rfl⟩⟩
instance : FnB Tryz.prog 109 := ⟨⟨Tryz.f109, Tryz.func109, by kernel_rfl, by kernel_rfl⟩⟩
instance : FnB Tryz.prog 110 := ⟨⟨Tryz.f110, Tryz.func110, by kernel_rfl, by kernel_rfl⟩⟩
instance : FnB Tryz.prog 111 := ⟨⟨Tryz.f111, Tryz.func111, by kernel_rfl, by kernel_rfl⟩⟩
instance : FnB Tryz.prog 112 := ⟨⟨Tryz.f112, Tryz.func112, by kernel_rfl, by kernel_rfl⟩⟩
instance : FnB Tryz.prog 113 := ⟨⟨Tryz.f113, Tryz.func113, by kernel_rfl, by kernel_rfl⟩⟩
instance : FnB Tryz.prog 114 := ⟨⟨Tryz.f114, Tryz.func114, by kernel_rfl, by kernel_rfl⟩⟩
instance : FnB Tryz.prog 115 := ⟨⟨Tryz.f115, Tryz.func115, by kernel_rfl, by kernel_rfl⟩⟩
instance : FnB Tryz.prog 116 := ⟨⟨Tryz.f116, Tryz.func116, by kernel_rfl, by kernel_rfl⟩⟩
instance : FnB Tryz.prog 117 := ⟨⟨Tryz.f117, Tryz.func117, by kernel_rfl, by kernel_rfl⟩⟩
instance : FnB Tryz.prog 118 := ⟨⟨Tryz.f118, Tryz.func118, by kernel_rfl, by kernel_rfl⟩⟩
instance : FnB Tryz.prog 119 := ⟨⟨Tryz.f119, Tryz.func119, by kernel_rfl, by kernel_rfl⟩⟩
instance : FnB Tryz.prog 120 := ⟨⟨Tryz.f120, Tryz.func120, by kernel_rfl, by kernel_rfl⟩⟩
instance : FnB Tryz.prog 121 := ⟨⟨Tryz.f121, Tryz.func121, by kernel_rfl, by kernel_rfl⟩⟩
instance : FnB Tryz.prog 122 := ⟨⟨Tryz.f122, Tryz.func122, by kernel_rfl, by kernel_rfl⟩⟩
instance : FnB Tryz.prog 123 := ⟨⟨Tryz.f123, Tryz.func123, by kernel_rfl, by kernel_rfl⟩⟩
instance : FnB Tryz.prog 124 := ⟨⟨Tryz.f124, Tryz.func124, by kernel_rfl, by kernel_rfl⟩⟩
instance : FnB Tryz.prog 125 := ⟨⟨Tryz.f125, Tryz.func125, by kernel_rfl, by kernel_rfl⟩⟩
instance : FnB Tryz.prog 126 := ⟨⟨Tryz.f126, Tryz.func126, by kernel_rfl, by kernel_rfl⟩⟩
instance : FnB Tryz.prog 127 := ⟨⟨Tryz.f127, Tryz.func127, by kernel_rfl, by kernel_rfl⟩⟩
instance : FnB Tryz.prog 128 := ⟨⟨Tryz.f128, Tryz.func128, by kernel_rfl, by kernel_rfl⟩⟩
instance : FnB Tryz.prog 129 := ⟨⟨Tryz.f129, Tryz.func129, by kernel_rfl, by kernel_rfl⟩⟩
instance : FnB Tryz.prog 130 := ⟨⟨Tryz.f130, Tryz.func130, by kernel_rfl, by kernel_rfl⟩⟩
instance : FnB Tryz.prog 131 := ⟨⟨Tryz.f131, Tryz.func131, by kernel_rfl, by kernel_rfl⟩⟩
instance : FnB Tryz.prog 132 := ⟨⟨Tryz.f132, Tryz.func132, by kernel_rfl, by kernel_rfl⟩⟩
instance : FnB Tryz.prog 134 := ⟨⟨Tryz.f134, Tryz.func134, by kernel_rfl, by kernel_rfl⟩⟩
instance : FnB Tryz.prog 136 := ⟨⟨Tryz.f136, Tryz.func136, by kernel_rfl, by kernel_rfl⟩⟩
instance : FnB Tryz.prog 137 := ⟨⟨Tryz.f137, Tryz.func137, by kernel_rfl, by kernel_rfl⟩⟩
instance : FnB Tryz.prog 138 := ⟨⟨Tryz.f138, Tryz.func138, by kernel_rfl, by kernel_rfl⟩⟩
instance : FnB Tryz.prog 139 := ⟨⟨Tryz.f139, Tryz.func139, by kernel_rfl, by kernel_rfl⟩⟩
instance : FnB Tryz.prog 140 := ⟨⟨Tryz.f140, Tryz.func140, by kernel_rfl, by kernel_rfl⟩⟩
instance : FnB Tryz.prog 141 := ⟨⟨Tryz.f141, Tryz.func141, by kernel_rfl, by kernel_rfl⟩⟩
instance : FnB Tryz.prog 142 := ⟨⟨Tryz.f142, Tryz.func142, by kernel_rfl, by kernel_rfl⟩⟩
instance : FnB Tryz.prog 143 := ⟨⟨Tryz.f143, Tryz.func143, by kernel_rfl, by kernel_rfl⟩⟩
instance : FnB Tryz.prog 144 := ⟨⟨Tryz.f144, Tryz.func144, by kernel_rfl, by kernel_rfl⟩⟩
instance : FnB Tryz.prog 145 := ⟨⟨Tryz.f145, Tryz.func145, by kernel_rfl, by kernel_rfl⟩⟩
instance : FnB Tryz.prog 146 := ⟨⟨Tryz.f146, Tryz.func146, by kernel_rfl, by kernel_rfl⟩⟩
instance : FnB Tryz.prog 147 := ⟨⟨Tryz.f147, Tryz.func147, by kernel_rfl, by kernel_rfl⟩⟩
instance : FnB Tryz.prog 148 := ⟨⟨Tryz.f148, Tryz.func148, by kernel_rfl, by kernel_rfl⟩⟩
instance : FnB Tryz.prog 149 := ⟨⟨Tryz.f149, Tryz.func149, by kernel_rfl, by kernel_rfl⟩⟩
instance : FnB Tryz.prog 150 := ⟨⟨Tryz.f150, Tryz.func150, by kernel_rfl, by kernel_rfl⟩⟩
instance : FnB Tryz.prog 151 := ⟨⟨Tryz.f151, Tryz.func151, by kernel_rfl, by kernel_rfl⟩⟩
instance : FnB Tryz.prog 152 := ⟨⟨Tryz.f152, Tryz.func152, by kernel_rfl, by kernel_rfl⟩⟩
instance : FnB Tryz.prog 153 := ⟨⟨Tryz.f153, Tryz.func153, by kernel_rfl, by kernel_rfl⟩⟩
instance : FnB Tryz.prog 154 := ⟨⟨Tryz.f154, Tryz.func154, by kernel_rfl, by kernel_rfl⟩⟩
instance : FnB Tryz.prog 155 := ⟨⟨Tryz.f155, Tryz.func155, by kernel_rfl, by kernel_rfl⟩⟩
instance : FnB Tryz.prog 156 := ⟨⟨Tryz.f156, Tryz.func156, by kernel_rfl, by kernel_rfl⟩⟩
instance : FnB Tryz.prog 157 := ⟨⟨Tryz.f157, Tryz.func157, by kernel_rfl, by kernel_rfl⟩⟩
instance : FnB Tryz.prog 158 := ⟨⟨Tryz.f158, Tryz.func158, by kernel_rfl, by kernel_rfl⟩⟩
instance : FnB Tryz.prog 159 := ⟨⟨Tryz.f159, Tryz.func159, by kernel_rfl, by kernel_rfl⟩⟩
instance : FnB Tryz.prog 160 := ⟨⟨Tryz.f160, Tryz.func160, by kernel_rfl, by kernel_rfl⟩⟩
instance : FnB Tryz.prog 161 := ⟨⟨Tryz.f161, Tryz.func161, by kernel_rfl, by kernel_rfl⟩⟩
instance : FnB Tryz.prog 162 := ⟨⟨Tryz.f162, Tryz.func162, by kernel_rfl, by kernel_rfl⟩⟩
instance : FnB Tryz.prog 163 := ⟨⟨Tryz.f163, Tryz.func163, by kernel_rfl, by kernel_rfl⟩⟩
instance : FnB Tryz.prog 164 := ⟨⟨Tryz.f164, Tryz.func164, by kernel_rfl, by kernel_rfl⟩⟩
instance : FnB Tryz.prog 165 := ⟨⟨Tryz.f165, Tryz.func165, by kernel_rfl, by kernel_rfl⟩⟩
instance : FnB Tryz.prog 166 := ⟨⟨Tryz.f166, Tryz.func166, by kernel_rfl, by kernel_rfl⟩⟩
instance : FnB Tryz.prog 167 := ⟨⟨Tryz.f167, Tryz.func167, by kernel_rfl, by kernel_rfl⟩⟩
instance : FnB Tryz.prog 168 := ⟨⟨Tryz.f168, Tryz.func168, by kernel_rfl, by kernel_rfl⟩⟩
instance : FnB Tryz.prog 169 := ⟨⟨Tryz.f169, Tryz.func169, by kernel_rfl, by kernel_rfl⟩⟩
instance : FnB Tryz.prog 170 := ⟨⟨Tryz.f170, Tryz.func170, by kernel_rfl, by kernel_rfl⟩⟩
instance : FnB Tryz.prog 171 := ⟨⟨Tryz.f171, Tryz.func171, by kernel_rfl, by kernel_rfl⟩⟩
instance : FnB Tryz.prog 172 := ⟨⟨Tryz.f172, Tryz.func172, by kernel_rfl, by kernel_rfl⟩⟩
instance : FnB Tryz.prog 173 := ⟨⟨Tryz.f173, Tryz.func173, by kernel_rfl, by kernel_rfl⟩⟩
instance : FnB Tryz.prog 174 := ⟨⟨Tryz.f174, Tryz.func174, by kernel_rfl, by kernel_rfl⟩⟩
instance : FnB Tryz.prog 175 := ⟨⟨Tryz.f175, Tryz.func175, by kernel_rfl, by kernel_rfl⟩⟩
instance : FnB Tryz.prog 176 := ⟨⟨Tryz.f176, Tryz.func176, by kernel_rfl, by kernel_rfl⟩⟩
instance : FnB Tryz.prog 177 := ⟨⟨Tryz.f177, Tryz.func177, by kernel_rfl, by kernel_rfl⟩⟩
instance : FnB Tryz.prog 178 := ⟨⟨Tryz.f178, Tryz.func178, by kernel_rfl, by kernel_rfl⟩⟩
instance : FnB Tryz.prog 179 := ⟨⟨Tryz.f179, Tryz.func179, by kernel_rfl, by kernel_rfl⟩⟩
instance : FnB Tryz.prog 180 := ⟨⟨Tryz.f180, Tryz.func180, by kernel_rfl, by kernel_rfl⟩⟩
instance : FnB Tryz.prog 181 := ⟨⟨Tryz.f181, Tryz.func181, by kernel_rfl, by kernel_rfl⟩⟩
instance : FnB Tryz.prog 182 := ⟨⟨Tryz.f182, Tryz.func182, by kernel_rfl, by kernel_rfl⟩⟩
instance : FnB Tryz.prog 183 := ⟨⟨Tryz.f183, Tryz.func183, by kernel_rfl, by kernel_rfl⟩⟩
instance : FnB Tryz.prog 184 := ⟨⟨Tryz.f184, Tryz.func184, by kernel_rfl, by kernel_rfl⟩⟩
instance : FnB Tryz.prog 185 := ⟨⟨Tryz.f185, Tryz.func185, by kernel_rfl, by kernel_rfl⟩⟩
instance : FnB Tryz.prog 186 := ⟨⟨Tryz.f186, Tryz.func186, by kernel_rfl, by kernel_rfl⟩⟩
instance : FnB Tryz.prog 187 := ⟨⟨Tryz.f187, Tryz.func187, by kernel_rfl, by kernel_rfl⟩⟩
instance : FnB Tryz.prog 188 := ⟨⟨Tryz.f188, Tryz.func188, by kernel_rfl, by kernel_rfl⟩⟩
instance : FnB Tryz.prog 189 := ⟨⟨Tryz.f189, Tryz.func189, by kernel_rfl, by kernel_rfl⟩⟩
instance : FnB Tryz.prog 190 := ⟨⟨Tryz.f190, Tryz.func190, by kernel_rfl, by kernel_rfl⟩⟩
instance : FnB Tryz.prog 191 := ⟨⟨Tryz.f191, Tryz.func191, by kernel_rfl, by kernel_rfl⟩⟩
instance : FnB Tryz.prog 192 := ⟨⟨Tryz.f192, Tryz.func192, by kernel_rfl, by kernel_rfl⟩⟩
instance : FnB Tryz.prog 193 := ⟨⟨Tryz.f193, Tryz.func193, by kernel_rfl, by kernel_rfl⟩⟩
instance : FnB Tryz.prog 194 := ⟨⟨Tryz.f194, Tryz.func194, by kernel_rfl, by kernel_rfl⟩⟩
instance : FnB Tryz.prog 195 := ⟨⟨Tryz.f195, Tryz.func195, by kernel_rfl, by kernel_rfl⟩⟩
instance : FnB Tryz.prog 196 := ⟨⟨Tryz.f196, Tryz.func196, by kernel_rfl, by kernel_rfl⟩⟩
instance : FnB Tryz.prog 197 := ⟨⟨Tryz.f197, Tryz.func197, by kernel_rfl, by kernel_rfl⟩⟩
instance : FnB Tryz.prog 198 := ⟨⟨Tryz.f198, Tryz.func198, by kernel_rfl, by kernel_rfl⟩⟩
instance : FnB Tryz.prog 199 := ⟨⟨Tryz.f199, Tryz.func199, by kernel_rfl, by kernel_rfl⟩⟩
instance : FnB Tryz.prog 200 := ⟨⟨Tryz.f200, Tryz.func200, by kernel_rfl, by kernel_rfl⟩⟩
instance : FnB Tryz.prog 201 := ⟨⟨Tryz.f201, Tryz.func201, by kernel_rfl, by kernel_rfl⟩⟩
instance : FnB Tryz.prog 202 := ⟨⟨Tryz.f202, Tryz.func202, by kernel_rfl, by kernel_rfl⟩⟩
instance : FnB Tryz.prog 203 := ⟨⟨Tryz.f203, Tryz.func203, by kernel_rfl, by kernel_rfl⟩⟩
instance : FnB Tryz.prog 204 := ⟨⟨Tryz.f204, Tryz.func204, by kernel_rfl, by kernel_rfl⟩⟩
instance : FnB Tryz.prog 205 := ⟨⟨Tryz.f205, Tryz.func205, by kernel_rfl, by kernel_rfl⟩⟩
instance : FnB Tryz.prog 206 := ⟨⟨Tryz.f206, Tryz.func206, by kernel_rfl, by kernel_rfl⟩⟩
instance : FnB Tryz.prog 207 := ⟨⟨Tryz.f207, Tryz.func207, by kernel_rfl, by kernel_rfl⟩⟩
instance : FnB Tryz.prog 208 := ⟨⟨Tryz.f208, Tryz.func208, by kernel_rfl, by kernel_rfl⟩⟩
instance : FnB Tryz.prog 209 := ⟨⟨Tryz.f209, Tryz.func209, by kernel_rfl, by kernel_rfl⟩⟩
instance : FnB Tryz.prog 210 := ⟨⟨Tryz.f210, Tryz.func210, by kernel_rfl, by kernel_rfl⟩⟩
instance : FnB Tryz.prog 211 := ⟨⟨Tryz.f211, Tryz.func211, by kernel_rfl, by kernel_rfl⟩⟩
instance : FnB Tryz.prog 212 := ⟨⟨Tryz.f212, Tryz.func212, by kernel_rfl, by kernel_rfl⟩⟩
instance : FnB Tryz.prog 213 := ⟨⟨Tryz.f213, Tryz.func213, by kernel_rfl, by kernel_rfl⟩⟩
instance : FnB Tryz.prog 214 := ⟨⟨Tryz.f214, Tryz.func214, by kernel_rfl, by kernel_rfl⟩⟩
instance : FnB Tryz.prog 215 := ⟨⟨Tryz.f215, Tryz.func215, by kernel_rfl, by kernel_rfl⟩⟩
instance : FnB Tryz.prog 216 := ⟨⟨Tryz.f216, Tryz.func216, by kernel_rfl, by kernel_rfl⟩⟩
instance : FnB Tryz.prog 217 := ⟨⟨Tryz.f217, Tryz.func217, by kernel_rfl, by kernel_rfl⟩⟩
instance : FnB Tryz.prog 218 := ⟨⟨Tryz.f218, Tryz.func218, by kernel_rfl, by kernel_rfl⟩⟩
instance : FnB Tryz.prog 219 := ⟨⟨Tryz.f219, Tryz.func219, by kernel_rfl, by kernel_rfl⟩⟩
instance : FnB Tryz.prog 220 := ⟨⟨Tryz.f220, Tryz.func220, by kernel_rfl, by kernel_rfl⟩⟩
instance : FnB Tryz.prog 221 := ⟨⟨Tryz.f221, Tryz.func221, by kernel_rfl, by kernel_rfl⟩⟩
instance : FnB Tryz.prog 222 := ⟨⟨Tryz.f222, Tryz.func222, by kernel_rfl, by kernel_rfl⟩⟩
instance : FnB Tryz.prog 223 := ⟨⟨Tryz.f223, Tryz.func223, by kernel_rfl, by kernel_rfl⟩⟩
instance : FnB Tryz.prog 224 := ⟨⟨Tryz.f224, Tryz.func224, by kernel_rfl, by kernel_rfl⟩⟩
instance : FnB Tryz.prog 225 := ⟨⟨Tryz.f225, Tryz.func225, by kernel_rfl, by kernel_rfl⟩⟩
instance : FnB Tryz.prog 226 := ⟨⟨Tryz.f226, Tryz.func226, by kernel_rfl, by kernel_rfl⟩⟩
instance : FnB Tryz.prog 227 := ⟨⟨Tryz.f227, Tryz.func227, by kernel_rfl, by kernel_rfl⟩⟩
instance : FnB Tryz.prog 228 := ⟨⟨Tryz.f228, Tryz.func228, by kernel_rfl, by kernel_rfl⟩⟩
instance : FnB Tryz.prog 229 := ⟨⟨Tryz.f229, Tryz.func229, by kernel_rfl, by kernel_rfl⟩⟩
instance : FnB Tryz.prog 230 := ⟨⟨Tryz.f230, Tryz.func230, by kernel_rfl, by kernel_rfl⟩⟩
instance : FnB Tryz.prog 231 := ⟨⟨Tryz.f231, Tryz.func231, by kernel_rfl, by kernel_rfl⟩⟩
instance : FnB Tryz.prog 232 := ⟨⟨Tryz.f232, Tryz.func232, by kernel_rfl, by kernel_rfl⟩⟩
instance : FnB Tryz.prog 233 := ⟨⟨Tryz.f233, Tryz.func233, by kernel_rfl, by kernel_rfl⟩⟩
instance : FnB Tryz.prog 234 := ⟨⟨Tryz.f234, Tryz.func234, by kernel_rfl, by kernel_rfl⟩⟩
instance : FnB Tryz.prog 235 := ⟨⟨Tryz.f235, Tryz.func235, by kernel_rfl, by kernel_rfl⟩⟩
instance : FnB Tryz.prog 236 := ⟨⟨Tryz.f236, Tryz.func236, by kernel_rfl, by kernel_rfl⟩⟩
instance : FnB Tryz.prog 237 := ⟨⟨Tryz.f237, Tryz.func237, by kernel_rfl, by kernel_rfl⟩⟩
instance : FnB Tryz.prog 238 := ⟨⟨Tryz.f238, Tryz.func238, by kernel_rfl, by kernel_rfl⟩⟩
instance : FnB Tryz.prog 239 := ⟨⟨Tryz.f239, Tryz.func239, by kernel_rfl, by kernel_rfl⟩⟩
instance : FnB Tryz.prog 240 := ⟨⟨Tryz.f240, Tryz.func240, by kernel_rfl, by kernel_rfl⟩⟩
instance : FnB Tryz.prog 241 := ⟨⟨Tryz.f241, Tryz.func241, by kernel_rfl, by kernel_rfl⟩⟩
instance : FnB Tryz.prog 242 := ⟨⟨Tryz.f242, Tryz.func242, by kernel_rfl, by kernel_rfl⟩⟩
instance : FnB Tryz.prog 243 := ⟨⟨Tryz.f243, Tryz.func243, by kernel_rfl, by kernel_rfl⟩⟩
instance : FnB Tryz.prog 244 := ⟨⟨Tryz.f244, Tryz.func244, by kernel_rfl, by kernel_rfl⟩⟩
instance : FnB Tryz.prog 245 := ⟨⟨Tryz.f245, Tryz.func245, by kernel_rfl, by kernel_rfl⟩⟩
instance : FnB Tryz.prog 246 := ⟨⟨Tryz.f246, Tryz.func246, by kernel_rfl, by kernel_rfl⟩⟩
instance : FnB Tryz.prog 247 := ⟨⟨Tryz.f247, Tryz.func247, by kernel_rfl, by kernel_rfl⟩⟩
instance : FnB Tryz.prog 248 := ⟨⟨Tryz.f248, Tryz.func248, by kernel_rfl, by kernel_rfl⟩⟩
instance : FnB Tryz.prog 249 := ⟨⟨Tryz.f249, Tryz.func249, by kernel_rfl, by kernel_rfl⟩⟩
instance : FnB Tryz.prog 250 := ⟨⟨Tryz.f250, Tryz.func250, by kernel_rfl, by kernel_rfl⟩⟩
instance : FnB Tryz.prog 251 := ⟨⟨Tryz.f251, Tryz.func251, by kernel_rfl, by kernel_rfl⟩⟩
instance : FnB Tryz.prog 252 := ⟨⟨Tryz.f252, Tryz.func252, by kernel_rfl, by kernel_rfl⟩⟩
instance : FnB Tryz.prog 253 := ⟨⟨Tryz.f253, Tryz.func253, by kernel_rfl, by kernel_rfl⟩⟩
instance : FnB Tryz.prog 254 := ⟨⟨Tryz.f254, Tryz.func254, by kernel_rfl, by kernel_rfl⟩⟩
instance : FnB Tryz.prog 255 := ⟨⟨Tryz.f255, Tryz.func255, by kernel_rfl, by kernel_rfl⟩⟩
instance : FnB Tryz.prog 256 := ⟨⟨Tryz.f256, Tryz.func256, by kernel_rfl, by kernel_rfl⟩⟩
instance : FnB Tryz.prog 257 := ⟨⟨Tryz.f257, Tryz.func257, by kernel_rfl, by kernel_rfl⟩⟩
instance : FnB Tryz.prog 258 := ⟨⟨Tryz.f258, Tryz.func258, by kernel_rfl, by kernel_rfl⟩⟩
instance : FnB Tryz.prog 259 := ⟨⟨Tryz.f259, Tryz.func259, by kernel_rfl, by kernel_rfl⟩⟩
instance : FnB Tryz.prog 260 := ⟨⟨Tryz.f260, Tryz.func260, by kernel_rfl, by kernel_rfl⟩⟩
instance : FnB Tryz.prog 261 := ⟨⟨Tryz.f261, Tryz.func261, by kernel_rfl, by kernel_rfl⟩⟩
instance : FnB Tryz.prog 262 := ⟨⟨Tryz.f262, Tryz.func262, by kernel_rfl, by kernel_rfl⟩⟩
instance : FnB Tryz.prog 263 := ⟨⟨Tryz.f263, Tryz.func263, by kernel_rfl, by kernel_rfl⟩⟩
instance : FnB Tryz.prog 264 := ⟨⟨Tryz.f264, Tryz.func264, by kernel_rfl, by kernel_rfl⟩⟩
instance : FnB Tryz.prog 265 := ⟨⟨Tryz.f265, Tryz.func265, by kernel_rfl, by kernel_rfl⟩⟩
instance : FnB Tryz.prog 266 := ⟨⟨Tryz.f266, Tryz.func266, by kernel_rfl, by kernel_rfl⟩⟩
instance : FnB Tryz.prog 267 := ⟨⟨Tryz.f267, Tryz.func267, by kernel_rfl, by kernel_rfl⟩⟩
instance : FnB Tryz.prog 268 := ⟨⟨Tryz.f268, Tryz.func268, by kernel_rfl, by kernel_rfl⟩⟩
instance : FnB Tryz.prog 269 := ⟨⟨Tryz.f269, Tryz.func269, by kernel_rfl, by kernel_rfl⟩⟩
instance : FnB Tryz.prog 270 := ⟨⟨Tryz.f270, Tryz.func270, by kernel_rfl, by kernel_rfl⟩⟩
instance : FnB Tryz.prog 271 := ⟨⟨Tryz.f271, Tryz.func271, by kernel_rfl, by kernel_rfl⟩⟩
instance : FnB Tryz.prog 274 := ⟨⟨Tryz.f274, Tryz.func274, by kernel_rfl, by kernel_rfl⟩⟩
instance : FnB Tryz.prog 275 := ⟨⟨Tryz.f275, Tryz.func275, by kernel_rfl, by kernel_rfl⟩⟩
instance : FnB Tryz.prog 276 := ⟨⟨Tryz.f276, Tryz.func276, by kernel_rfl, by kernel_rfl⟩⟩
instance : FnB Tryz.prog 277 := ⟨⟨Tryz.f277, Tryz.func277, by kernel_rfl, by kernel_rfl⟩⟩
instance : FnB Tryz.prog 278 := ⟨⟨Tryz.f278, Tryz.func278, by kernel_rfl, by kernel_rfl⟩⟩
instance : FnB Tryz.prog 279 := ⟨⟨Tryz.f279, Tryz.func279, by kernel_rfl, by kernel_rfl⟩⟩
instance : FnB Tryz.prog 280 := ⟨⟨Tryz.f280, Tryz.func280, by kernel_rfl, by kernel_rfl⟩⟩
instance : FnB Tryz.prog 281 := ⟨⟨Tryz.f281, Tryz.func281, by kernel_rfl, by kernel_rfl⟩⟩
instance : FnB Tryz.prog 282 := ⟨⟨Tryz.f282, Tryz.func282, by kernel_rfl, by kernel_rfl⟩⟩
instance : FnB Tryz.prog 283 := ⟨⟨Tryz.f283, Tryz.func283, by kernel_rfl, by kernel_rfl⟩⟩
instance : FnB Tryz.prog 284 := ⟨⟨Tryz.f284, Tryz.func284, by kernel_rfl, by kernel_rfl⟩⟩
instance : FnB Tryz.prog 285 := ⟨⟨Tryz.f285, Tryz.func285, by kernel_rfl, by kernel_rfl⟩⟩
instance : FnB Tryz.prog 286 := ⟨⟨Tryz.f286, Tryz.func286, by kernel_rfl, by kernel_rfl⟩⟩
instance : FnB Tryz.prog 287 := ⟨⟨Tryz.f287, Tryz.func287, by kernel_rfl, by kernel_rfl⟩⟩
instance : FnB Tryz.prog 288 := ⟨⟨Tryz.f288, Tryz.func288, by kernel_rfl, by kernel_rfl⟩⟩
instance : FnB Tryz.prog 289 := ⟨⟨Tryz.f289, Tryz.func289, by kernel_rfl, by kernel_rfl⟩⟩
instance : FnB Tryz.prog 290 := ⟨⟨Tryz.f290, Tryz.func290, by kernel_rfl, by kernel_rfl⟩⟩
instance : FnB Tryz.prog 291 := ⟨⟨Tryz.f291, Tryz.func291, by kernel_rfl, by kernel_rfl⟩⟩
instance : FnB Tryz.prog 292 := ⟨⟨Tryz.f292, Tryz.func292, by kernel_rfl, by kernel_rfl⟩⟩
instance : FnB Tryz.prog 293 := ⟨⟨Tryz.f293, Tryz.func293, by kernel_rfl, by kernel_rfl⟩⟩
instance : FnB Tryz.prog 294 := ⟨⟨Tryz.f294, Tryz.func294, by kernel_rfl, by kernel_rfl⟩⟩
instance : FnB Tryz.prog 295 := ⟨⟨Tryz.f295, Tryz.func295, by kernel_rfl, by kernel_rfl⟩⟩
instance : FnB Tryz.prog 296 := ⟨⟨Tryz.f296, Tryz.func296, by kernel_rfl, by kernel_rfl⟩⟩
instance : FnB Tryz.prog 297 := ⟨⟨Tryz.f297, Tryz.func297, by kernel_rfl, by kernel_rfl⟩⟩
instance : FnB Tryz.prog 298 := ⟨⟨Tryz.f298, Tryz.func298, by kernel_rfl, by kernel_rfl⟩⟩
instance : FnB Tryz.prog 299 := ⟨⟨Tryz.f299, Tryz.func299, by kernel_rfl, by kernel_rfl⟩⟩
instance : FnB Tryz.prog 300 := ⟨⟨Tryz.f300, Tryz.func300, by kernel_rfl, by kernel_rfl⟩⟩
instance : FnB Tryz.prog 301 := ⟨⟨Tryz.f301, Tryz.func301, by kernel_rfl, by kernel_rfl⟩⟩
instance : FnB Tryz.prog 302 := ⟨⟨Tryz.f302, Tryz.func302, by kernel_rfl, by kernel_rfl⟩⟩
instance : FnB Tryz.prog 303 := ⟨⟨Tryz.f303, Tryz.func303, by kernel_rfl, by kernel_rfl⟩⟩
instance : FnB Tryz.prog 304 := ⟨⟨Tryz.f304, Tryz.func304, by kernel_rfl, by kernel_rfl⟩⟩
instance : FnB Tryz.prog 305 := ⟨⟨Tryz.f305, Tryz.func305, by kernel_rfl, by kernel_rfl⟩⟩
instance : FnB Tryz.prog 306 := ⟨⟨Tryz.f306, Tryz.func306, by kernel_rfl, by kernel_rfl⟩⟩
instance : FnB Tryz.prog 307 := ⟨⟨Tryz.f307, Tryz.func307, by kernel_rfl, by kernel_rfl⟩⟩
instance : FnB Tryz.prog 308 := ⟨⟨Tryz.f308, Tryz.func308, by kernel_rfl, by kernel_rfl⟩⟩
instance : FnB Tryz.prog 309 := ⟨⟨Tryz.f309, Tryz.func309, by kernel_rfl, by kernel_rfl⟩⟩
instance : FnB Tryz.prog 310 := ⟨⟨Tryz.f310, Tryz.func310, by kernel_rfl, by kernel_rfl⟩⟩
instance : FnB Tryz.prog 311 := ⟨⟨Tryz.f311, Tryz.func311, by kernel_rfl, by kernel_rfl⟩⟩
instance : FnB Tryz.prog 313 := ⟨⟨Tryz.f313, Tryz.func313, by kernel_rfl, by kernel_rfl⟩⟩
instance : FnB Tryz.prog 314 := ⟨⟨Tryz.f314, Tryz.func314, by kernel_rfl, by kernel_rfl⟩⟩
instance : FnB Tryz.prog 315 := ⟨⟨Tryz.f315, Tryz.func315, by kernel_rfl, by kernel_rfl⟩⟩
instance : FnB Tryz.prog 317 := ⟨⟨Tryz.f317, Tryz.func317, by kernel_rfl, by kernel_rfl⟩⟩
end Go.AL
namespace Go.AL
open Go Go.Proofs Go.RowKit Go.Shelf
theorem uA {P : Program} (t : TypeId) {d : TypeDesc} [tu : TyU P t d] (w : World) : (isAgg t).run P w = .ok (yJ d) w := xQ tu
theorem uZ {P : Program} (t : TypeId) {s b : Nat} {z : Value} [ti : TyI P t s b z] (w : World) : (Go.sizeOf t).run P w = .ok s w := yD ti
theorem uV {P : Program} (t : TypeId) {s b : Nat} {z : Value} [ti : TyI P t s b z] (w : World) : (zeroValue t).run P w = .ok z w := zW ti
def zkX : Ren := ⟨fun | 196 => 188 | 259 => 252 | x => x, fun | 0 => 0 | 3 => 3 | 4 => 4 | 5 => 5 | 9 => 9 | 12 => 12 | 46 => 148 | 53 => 201 | 119 => 262 | 138 => 264 | 139 => 265 | x => x, fun | 3 => 0 | 4 => 1 | x => x⟩
set_option maxRecDepth 100000 in
theorem zkg : Lays.n196 Tryz.prog zkX where
  mixed := by kernel_rfl
  f196 := by kernel_rfl
  f259 := by kernel_rfl
  t0 := Tryz.underlying0
  a0 := fun w => uA (P := Tryz.prog) (d := (TypeDesc.tuple #[])) 0 w
  z0 := fun w => uZ 0 w
  v0 := fun w => uV 0 w
  t3 := Tryz.underlying3
  a3 := fun w => uA (P := Tryz.prog) (d := (TypeDesc.int IntKind.i64)) 3 w
  z3 := fun w => uZ 3 w
  v3 := fun w => uV 3 w
  t4 := Tryz.underlying4
  a4 := fun w => uA (P := Tryz.prog) (d := TypeDesc.bool) 4 w
  z4 := fun w => uZ 4 w
  v4 := fun w => uV 4 w
  t5 := Tryz.underlying5
  a5 := fun w => uA (P := Tryz.prog) (d := (TypeDesc.int IntKind.u8)) 5 w
  z5 := fun w => uZ 5 w
  v5 := fun w => uV 5 w
  t9 := Tryz.underlying9
  a9 := fun w => uA (P := Tryz.prog) (d := TypeDesc.string) 9 w
  z9 := fun w => uZ 9 w
  v9 := fun w => uV 9 w
  t12 := Tryz.underlying12
  a12 := fun w => uA (P := Tryz.prog) (d := (TypeDesc.int IntKind.u64)) 12 w
  z12 := fun w => uZ 12 w
  v12 := fun w => uV 12 w
  t46 := Tryz.underlying148
  a46 := fun w => uA (P := Tryz.prog) (d := (TypeDesc.int IntKind.u64)) 148 w
  z46 := fun w => uZ 148 w
  v46 := fun w => uV 148 w
  t53 := Tryz.underlying201
  a53 := fun w => uA (P := Tryz.prog) (d := (TypeDesc.int IntKind.u64)) 201 w
  z53 := fun w => uZ 201 w
  v53 := fun w => uV 201 w
  t119 := Tryz.underlying262
  a119 := fun w => uA (P := Tryz.prog) (d := (TypeDesc.array 256 5)) 262 w
  z119 := fun w => uZ 262 w
  t138 := Tryz.underlying264
  a138 := fun w => uA (P := Tryz.prog) (d := (TypeDesc.struct #[{ name := "lo", type := 5, offset := 0, embedded := false, tag := "", pkgPath := "unicode/utf8", byteOffset := 0 }, { name := "hi", type := 5, offset := 1, embedded := false, tag := "", pkgPath := "unicode/utf8", byteOffset := 1 }])) 264 w
  z138 := fun w => uZ 264 w
  v138 := fun w => uV 264 w
  t139 := Tryz.underlying265
  a139 := fun w => uA (P := Tryz.prog) (d := (TypeDesc.array 16 264)) 265 w
  z139 := fun w => uZ 265 w
  v139 := fun w => uV 265 w
  g3 := by kernel_rfl
  g4 := by kernel_rfl
end Go.AL
namespace Go.AL
open Go Go.RowKit
inductive Nd where
  | mk (kind : Int) (b : Bool) (num : Int) (text : ByteArray) (names : List ByteArray) (items : List Nd)
  deriving Inhabited
mutual
def Nd.toT : Nd → T
  | .mk k b n t ns is => .agg [.int .i64 k, .bool b, .int .i64 n, .str t, .sl 1 (ns.map .str), .sl 6 (Nd.toTs is)]
def Nd.toTs : List Nd → List T
  | [] => []
  | x :: xs => x.toT :: Nd.toTs xs
end
theorem Nd.toTs_map : ∀ l : List Nd, Nd.toTs l = l.map Nd.toT
  | [] => rfl
  | x :: xs => by simp [Nd.toTs, Nd.toTs_map xs]
def Nd.items : Nd → List Nd
  | .mk _ _ _ _ _ is => is
def Nd.names : Nd → List ByteArray
  | .mk _ _ _ _ ns _ => ns
theorem Nd.toT_eq (k : Int) (b : Bool) (n : Int) (t : ByteArray) (ns : List ByteArray) (is : List Nd) : (Nd.mk k b n t ns is).toT = .agg [.int .i64 k, .bool b, .int .i64 n, .str t, .sl 1 (ns.map .str), .sl 6 (is.map Nd.toT)] := by
  rw [Nd.toT, Nd.toTs_map]
theorem Nd.toT_agg (x : Nd) : x.toT.isAgg = true ∧ x.toT.cells.length = 6 := by
  cases x; rw [Nd.toT_eq]; exact ⟨rfl, rfl⟩
inductive Nd.Ok : Nd → Prop
  | mk {k : Int} {b : Bool} {n : Int} {t : ByteArray} {ns : List ByteArray} {is : List Nd} : ns.length ≤ 8796093021952 → is.length ≤ 1599289640354 → (∀ x ∈ is, x.Ok) → Nd.Ok (.mk k b n t ns is)
section
variable {P : Program} {nt : Nat} {ops : Array Oper} {o : Oper} {rest : List Oper} {env : EnvL} {st : StO} {acc : List SD} {K : EnvL → StO → List SD → Prop} {d : Nat}
end
def Nd.fieldsOK : Nd → Bool
  | .mk k b n t ns is => (decide (k = 1) || !b) && (decide (k = 2) || decide (n = 0)) && (decide (k = 3) || decide (t = ⟨#[]⟩)) && (decide (k = 4) || decide (k = 5) || decide ((is.length : Int) = 0)) && (decide (k = 5) || decide ((ns.length : Int) = 0))
def yG (V : ByteArray → Bool) (s : ByteArray) : Bool := decide ((s.size : Int) ≤ 65536) && V s
def inB (s : ByteArray) (l : List ByteArray) : Bool := l.any fun x => decide (s = x)
def xg (tx : ByteArray → Bool) : List ByteArray → List ByteArray → Bool
  | _, [] => true
  | seen, s :: l => if inB s seen || !tx s then false else xg tx (s :: seen) l
mutual
def Nd.validB (V : ByteArray → Bool) : Nd → Int → Bool
  | .mk k b n t ns is, d => !(decide (d < 1) || decide (k < 0) || decide (5 < k) || !(Nd.mk k b n t ns is).fieldsOK || !yG V t || decide (256 < (is.length : Int))) && (!decide (k = 5) || (xg (yG V) [] ns && decide ((ns.length : Int) = is.length))) && !Nd.anyBad V is (d - 1)
def Nd.anyBad (V : ByteArray → Bool) : List Nd → Int → Bool
  | [], _ => false
  | x :: xs, d => !x.validB V d || Nd.anyBad V xs d
end
theorem Nd.anyBad_any (V : ByteArray → Bool) (d : Int) : ∀ l : List Nd, Nd.anyBad V l d = l.any fun x => !x.validB V d
  | [] => by simp [Nd.anyBad]
  | x :: xs => by simp [Nd.anyBad, Nd.anyBad_any V d xs]
end Go.AL
namespace Go.AL
open Go Go.Proofs Go.RowKit
set_option maxHeartbeats 4000000 in
theorem zdB (x : Nd) : Spec Tryz.prog 205 [.t x.toT] [] (.t (.bool x.fieldsOK)) [] := by
  cases x with
  | mk k b n t ns is =>
  rw [Nd.toT_eq]
  refine wI Tryz.func205 ?_
  repeat' (first | refine wC ?_ | refine wK ?_ | refine zq rfl ?_ ?_ <;> intro hc | refine jM rfl ?_ ?_ <;> intro hc)
  all_goals (refine zm (zj rfl rfl ?_) (by simp); simp_all [Nd.fieldsOK])
def zgF (p : Nd → Bool) : List Nd → Int → Int
  | [], _ => -1
  | x :: xs, j => if p x then j else zgF p xs (j + 1)
set_option maxHeartbeats 4000000 in
theorem zao (is : List Nd) (hl : is.length ≤ 1599289640354) (p : Nd → Bool) (dp : Int) (oF oA : Obj)
    (hp : ∀ x ∈ is, Spec Tryz.prog 209 [.t x.toT, .ref (.par 0) 0 0 0] [(.par 0, .var 3 [.t (.int .i64 dp)]), (.par 100, .dat (.fix 0 oF)), (.par 101, .dat (.fix 1 oA))] (.t (.bool (p x))) [(.par 0, .var 3 [.t (.int .i64 dp)]), (.par 100, .dat (.fix 0 oF)), (.par 101, .dat (.fix 1 oA))]) :
    Spec Tryz.prog 269 [.t (.sl 6 (is.map Nd.toT)), .fn 209 [.ref (.par 0) 0 0 0]] [(.par 0, .var 3 [.t (.int .i64 dp)]), (.par 100, .dat (.fix 0 oF)), (.par 101, .dat (.fix 1 oA))] (.t (.int .i64 (zgF p is 0))) [(.par 0, .var 3 [.t (.int .i64 dp)]), (.par 100, .dat (.fix 0 oF)), (.par 101, .dat (.fix 1 oA))] := by
  refine wI Tryz.func269 ?_
  repeat' (first | refine wC ?_ | refine wK ?_ | fail)
  refine zi (za [0, 1, 4, 7, 8] [.par 0, .par 100, .par 101] rfl rfl) ?_
  refine zw (fun m env st => ∃ (j : Nat), j ≤ is.length ∧ m = is.length - j ∧ zgF p is 0 = zgF p (is.drop j) j ∧
      env = EnvL.get [(0, .t (.sl 6 (is.map Nd.toT))), (1, .fn 209 [.ref (.par 0) 0 0 0]), (4, .t (.int .i64 0)), (7, .t (.int .i64 is.length)), (8, .t (.int .i64 (j : Int)))] ∧
      st = StO.get [(.par 0, some (.var 3 [.t (.int .i64 dp)])), (.par 100, some (.dat (.fix 0 oF))), (.par 101, some (.dat (.fix 1 oA)))])
    ?_ (n := is.length) ⟨0, by omega, rfl, rfl, rfl, rfl⟩
  rintro m env st ⟨j, hj, rfl, hi, rfl, rfl⟩
  by_cases hlt : j < is.length
  · have hx := hp is[j] (List.getElem_mem hlt)
    have hd : is.drop j = is[j] :: is.drop (j + 1) := List.drop_eq_getElem_cons hlt
    have hg : is.getD (j : Int).toNat default = is[j] := by simp [List.getD_eq_getElem?_getD, hlt]
    rw [← hg] at hx
    have hstep : zgF p (is.drop j) j = if p (is.getD (j : Int).toNat default) then (j : Int) else zgF p (is.drop (j + 1)) (j + 1) := by rw [hd, hg]; rfl
    rw [hstep] at hi
    generalize p (is.getD (j : Int).toNat default) = pv at hx hi
    repeat' (first | refine wC ?_ | refine zdT rfl rfl rfl rfl rfl rfl (Nd.toT_agg _).2 (Nd.toT_agg _).1 ?_ | refine wK ?_ | ((with_reducible refine zu ?_); refine zr rfl rfl rfl rfl rfl rfl ?_ ?_ ?_) | ((with_reducible refine ze ?_); refine wN (.t (.bool pv)) [] hx ?_) | refine zh rfl ?_ ?_ <;> intro hc | refine zbv rfl ?_ ?_ <;> intro hc)
    all_goals try omega
    · refine zm (zj rfl rfl ?_) (zc ⟨rfl, rfl, rfl, trivial⟩)
      rw [hi, hc]; rfl
    · exact zM (n' := is.length - (j + 1)) (by omega) (za [0, 1, 4, 7, 8] [.par 0, .par 100, .par 101] rfl rfl) ⟨j + 1, by omega, rfl, by rw [hi, hc]; rfl, by rw [zy (by omega) (by omega)]; rfl, rfl⟩
  · repeat' (first | refine wC ?_ | refine wK ?_ | ((with_reducible refine zu ?_); refine zr rfl rfl rfl rfl rfl rfl ?_ ?_ ?_) | refine zh rfl ?_ ?_ <;> intro hc)
    all_goals try (exfalso; omega)
    refine zm (zj rfl rfl ?_) (zc ⟨rfl, rfl, rfl, trivial⟩)
    have hd : is.drop j = [] := List.drop_eq_nil_of_le (by omega)
    rw [hi, hd]; rfl
theorem zej (p : Nd → Bool) : ∀ (is : List Nd) (j : Int), 0 ≤ j → (decide (0 ≤ zgF p is j)) = is.any p
  | [], j, _ => by simp [zgF]
  | x :: xs, j, hj => by
    have ih := zej p xs (j + 1) (by omega)
    by_cases hp : p x = true
    · simp [zgF, hp, hj]
    · simp only [zgF, List.any_cons, if_neg hp, ih]
      simp [hp]
set_option maxHeartbeats 1000000 in
theorem qR (is : List Nd) (hl : is.length ≤ 1599289640354) (p : Nd → Bool) (dp : Int) (oF oA : Obj)
    (hp : ∀ x ∈ is, Spec Tryz.prog 209 [.t x.toT, .ref (.par 0) 0 0 0] [(.par 0, .var 3 [.t (.int .i64 dp)]), (.par 100, .dat (.fix 0 oF)), (.par 101, .dat (.fix 1 oA))] (.t (.bool (p x))) [(.par 0, .var 3 [.t (.int .i64 dp)]), (.par 100, .dat (.fix 0 oF)), (.par 101, .dat (.fix 1 oA))]) :
    Spec Tryz.prog 208 [.t (.sl 6 (is.map Nd.toT)), .fn 209 [.ref (.par 0) 0 0 0]] [(.par 0, .var 3 [.t (.int .i64 dp)]), (.par 100, .dat (.fix 0 oF)), (.par 101, .dat (.fix 1 oA))] (.t (.bool (is.any p))) [(.par 0, .var 3 [.t (.int .i64 dp)]), (.par 100, .dat (.fix 0 oF)), (.par 101, .dat (.fix 1 oA))] := by
  have h := zao is hl p dp oF oA hp
  have e := zej p is 0 (by omega)
  generalize zgF p is 0 = ix at h e
  refine wI Tryz.func208 ?_
  repeat' (first | refine wC ?_ | refine wK ?_ | ((with_reducible refine ze ?_); refine wN (.t (.int .i64 ix)) [] h ?_))
  exact zm (zj rfl rfl (by rw [e])) (zc ⟨rfl, rfl, rfl, trivial⟩)
def vm (oF oA : Obj) (V : ByteArray → Bool) : Prop := ∀ s : ByteArray, s.size ≤ 65536 → Spec Tryz.prog 188 [.t (.str s)] [(.par 100, .dat (.fix 0 oF)), (.par 101, .dat (.fix 1 oA))] (.t (.bool (V s))) [(.par 100, .dat (.fix 0 oF)), (.par 101, .dat (.fix 1 oA))]
set_option maxHeartbeats 1000000 in
theorem zct {oF oA : Obj} {V : ByteArray → Bool} (hV : vm oF oA V) (s : ByteArray) : Spec Tryz.prog 206 [.t (.str s)] [(.par 100, .dat (.fix 0 oF)), (.par 101, .dat (.fix 1 oA))] (.t (.bool (yG V s))) [(.par 100, .dat (.fix 0 oF)), (.par 101, .dat (.fix 1 oA))] := by
  by_cases hs : (s.size : Int) ≤ 65536
  · have h := hV s (by omega)
    have e : yG V s = V s := by simp [yG, hs]
    rw [e]
    generalize V s = v at h
    refine wI Tryz.func206 ?_
    repeat' (first | refine wC ?_ | refine wK ?_ | ((with_reducible refine ze ?_); refine wN (.t (.bool v)) [] h ?_) | refine zq rfl ?_ ?_ <;> intro hc)
    · exact zm (zj rfl rfl rfl) (zc ⟨rfl, rfl, trivial⟩)
    · exact absurd hs ‹_›
  · have e : yG V s = false := by simp [yG, hs]
    rw [e]
    refine wI Tryz.func206 ?_
    repeat' (first | refine wC ?_ | refine wK ?_ | ((with_reducible refine ze ?_); exact absurd ‹(s.size : Int) ≤ 65536› hs) | refine zq rfl ?_ ?_ <;> intro hc)
    all_goals first | (exfalso; omega) | exact zm (zj rfl rfl rfl) (zc ⟨rfl, rfl, trivial⟩)
end Go.AL
namespace Go.AL
open Go Go.Proofs Go.RowKit Go.Lib
theorem zcq {h : Heap} {m : zx} {st : zp} {w w' : World} (hs : Sim h m st w) (hb : Below w.heap.size w w') : Sim h m st w' ∧ Since h m st w h m st w' := by
  have hk : ∀ b, b < w.heap.size → w'.heap[b]? = w.heap[b]? := fun b hlt => hb.block b hlt
  refine ⟨⟨fun b o ho => ?_, fun id row hr => ?_, fun id row b hr hbk => ⟨(hs.sep id row b hr hbk).1, Nat.lt_of_lt_of_le (hs.sep id row b hr hbk).2 hb.size⟩, hs.inj⟩, ⟨hb.os, hb.tape, hb.output, hb.size, fun b hlt _ => ⟨hk b hlt, rfl⟩, fun _ _ hu => hu, fun id row b h1 h2 => .inr ⟨id, row, h1, h2⟩⟩, fun _ => rfl⟩
  · have := hs.imm b o ho
    rw [hk b (Array.getElem?_eq_some_iff.1 this).1]; exact this
  · have hc := ((xt (fun _ => .junk) st).2 id row hr).2
    exact SimRow.mono (N := []) (fun _ _ hu => hu) (fun _ _ => rfl) (by simp) hc (fun b hbk => hk b (hs.sep id row b hr hbk).2) (hs.rows id row hr)
theorem zkK {oF oA : Obj} (hT : ∀ w : World, w.heap[0]? = some oF → w.heap[1]? = some oA → Utf8Tabs 0 1 w) : vm oF oA (fun s => validD s.data.toList) := by
  intro s hsz
  refine ⟨fun h m vs w hs hn hr => ?_⟩
  obtain ⟨⟨u, e1, e2⟩, _⟩ := hr
  simp only [RepA, RepT] at e2
  subst e2
  have hv : vs = #[.string s] := by
    apply Array.ext_getElem?
    intro i
    match i with
    | 0 => simpa using e1
    | i + 1 => simp at hn ⊢; omega
  subst hv
  obtain ⟨b, o, k1, k2, k3, rfl⟩ := hs.rows (.par 100) _ rfl
  rw [k3] at k1
  simp [blk] at k1
  subst k1
  obtain ⟨b, o, j1, j2, j3, rfl⟩ := hs.rows (.par 101) _ rfl
  rw [j3] at j1
  simp [blk] at j1
  subst j1
  refine (Any.utf8_ValidString zkg s w (by omega) (hT w k2 j2)).mono ?_
  rintro e w' ⟨rfl, hb⟩
  obtain ⟨q1, q2⟩ := zcq hs hb
  exact ⟨_, h, m, rfl, rfl, q1, q2⟩
end Go.AL
namespace Go.AL
open Go Go.Proofs Go.RowKit
theorem zbK (es : List (T × T)) (s r : ByteArray) (y : T) (h : yM .string es = true) : vJ (zbb es (.str s) y) (.str r) = if r = s then some y else vJ es (.str r) := by
  induction es with
  | nil => simp [zbb, vJ, kO]
  | cons p es ih =>
    obtain ⟨k, v⟩ := p
    simp only [yM, Bool.and_eq_true] at h
    cases k with
    | str a =>
      simp only [zbb, kO]
      by_cases e : s = a
      · subst e
        simp only [decide_true, if_true, vJ, kO]
        by_cases e2 : r = s
        · simp [e2]
        · simp [e2]
      · simp only [e, decide_false, Bool.false_eq_true, if_false, vJ, kO, ih h.2]
        by_cases e2 : r = a
        · subst e2; simp [Ne.symm e]
        · simp [e2]
    | _ => simp [xc] at h
theorem zdy (d : TypeDesc) (es : List (T × T)) (k v : T) (h : yM d es = true) (hk : xc d k = true) : yM d (zbb es k v) = true := by
  induction es with
  | nil => simp [zbb, yM, hk]
  | cons p es ih =>
    obtain ⟨a, b⟩ := p
    simp only [yM, Bool.and_eq_true] at h
    simp only [zbb]
    split
    · simp [yM, h.1, h.2]
    · simp [yM, h.1, ih h.2]
set_option maxHeartbeats 4000000 in
theorem zf0 {oF oA : Obj} {V : ByteArray → Bool} (hV : vm oF oA V) (k : Int) (b : Bool) (n : Int) (t : ByteArray) (ns : List ByteArray) (is : List Nd) (h1 : ns.length ≤ 8796093021952) : Spec Tryz.prog 207 [.t (.agg [.int .i64 k, .bool b, .int .i64 n, .str t, .sl 1 (ns.map .str), .sl 6 (is.map Nd.toT)])] [(.par 100, .dat (.fix 0 oF)), (.par 101, .dat (.fix 1 oA))] (.t (.bool (xg (yG V) [] ns && decide ((ns.length : Int) = is.length)))) [(.par 100, .dat (.fix 0 oF)), (.par 101, .dat (.fix 1 oA))] := by
  refine wI Tryz.func207 ?_
  repeat' (first | refine wC ?_ | refine wK ?_ | fail)
  refine zi (za [1, 2, 3, 8, 9, 10] [.loc 6, .loc 1, .par 100, .par 101] rfl rfl) ?_
  refine zw (fun m env st => ∃ (j : Nat) (seen : List ByteArray) (es : List (T × T)), j ≤ ns.length ∧ m = ns.length - j ∧ yM .string es = true ∧ (∀ s, (vJ es (.str s)).getD (.bool false) = .bool (inB s seen)) ∧ xg (yG V) [] ns = xg (yG V) seen (ns.drop j) ∧
      env = EnvL.get [(1, .ref (.loc 1) 0 0 0), (2, .t (.bool false)), (3, .row (.loc 6)), (8, .t (.sl 1 (ns.map .str))), (9, .t (.int .i64 ns.length)), (10, .t (.int .i64 (j : Int)))] ∧
      st = StO.get [(.loc 6, some (.dat (.map es))), (.loc 1, some (.var 30 [.t (.int .i64 k), .t (.bool b), .t (.int .i64 n), .t (.str t), .t (.sl 1 (ns.map .str)), .t (.sl 6 (is.map Nd.toT))])), (.par 100, some (.dat (.fix 0 oF))), (.par 101, some (.dat (.fix 1 oA)))])
    ?_ (n := ns.length) ⟨0, [], [], by omega, rfl, rfl, fun s => rfl, rfl, rfl, rfl⟩
  rintro m env st ⟨j, seen, es, hj, rfl, hes, hget, hi, rfl, rfl⟩
  by_cases hlt : j < ns.length
  · have hd : ns.drop j = ns[j] :: ns.drop (j + 1) := List.drop_eq_getElem_cons hlt
    have hg : ns.getD (j : Int).toNat default = ns[j] := by simp [List.getD_eq_getElem?_getD, hlt]
    have ht := zct hV (ns.getD (j : Int).toNat default)
    have hy := hget (ns.getD (j : Int).toNat default)
    have hi2 : xg (yG V) [] ns = if inB (ns.getD (j : Int).toNat default) seen || !yG V (ns.getD (j : Int).toNat default) then false else xg (yG V) (ns.getD (j : Int).toNat default :: seen) (ns.drop (j + 1)) := by rw [hi, hd, hg]; rfl
    generalize yG V (ns.getD (j : Int).toNat default) = tv at ht hi2
    generalize inB (ns.getD (j : Int).toNat default) seen = sv at hy hi2
    repeat' (first | refine wC ?_ | refine zcb rfl rfl rfl rfl hy (fun _ => rfl) rfl rfl rfl rfl ?_ ?_ | refine wK ?_ | ((with_reducible refine zu ?_); refine zr rfl rfl rfl rfl rfl rfl ?_ ?_ ?_) | ((with_reducible refine zdE ?_); refine zcy rfl rfl rfl rfl rfl rfl rfl rfl ?_ ?_) | ((with_reducible refine ze ?_); refine wN (.t (.bool tv)) [] ht ?_) | refine zh rfl ?_ ?_ <;> intro hc | refine zbv rfl ?_ ?_ <;> intro hc | refine jM rfl ?_ ?_ <;> intro hc)
    all_goals try first | omega | exact hes
    · refine zm (zj rfl rfl ?_) (zc ⟨rfl, rfl, trivial⟩)
      rw [hi2, hc]; simp
    · refine zm (zj rfl rfl ?_) (zc ⟨rfl, rfl, trivial⟩)
      rw [hi2, hc]; simp
    · refine zM (n' := ns.length - (j + 1)) (by omega) (za [1, 2, 3, 8, 9, 10] [.loc 6, .loc 1, .par 100, .par 101] rfl rfl) ⟨j + 1, ns.getD (j : Int).toNat default :: seen, zbb es (.str (ns.getD (j : Int).toNat default)) (.bool true), by omega, rfl, zdy _ _ _ _ hes rfl, ?_, ?_, ?_, rfl⟩
      · intro s
        rw [zbK _ _ _ _ hes]
        by_cases e : s = ns.getD (j : Int).toNat default
        · rw [if_pos e]; simp [inB, e]
        · rw [if_neg e, hget s]
          simp only [inB, List.any_cons]
          rw [decide_eq_false e]; rfl
      · rw [hi2, ‹sv = false›, show tv = true by simpa using hc]; rfl
      · rw [zy (by omega) (by omega)]; rfl
  · have hj2 : j = ns.length := by omega
    have hdr : ns.drop j = [] := List.drop_eq_nil_of_le (by omega)
    rw [hdr] at hi
    have hi3 : xg (yG V) [] ns = true := hi
    repeat' (first | refine wC ?_ | refine wK ?_ | ((with_reducible refine zu ?_); refine zr rfl rfl rfl rfl rfl rfl ?_ ?_ ?_) | ((with_reducible refine zh8 ?_); refine zcp (zT := .bool _) rfl rfl rfl (fun _ => rfl) rfl rfl rfl rfl rfl ?_ ?_) | refine zh rfl ?_ ?_ <;> intro hc)
    all_goals try (exfalso; omega)
    refine zm (zj rfl rfl ?_) (zc ⟨rfl, rfl, trivial⟩)
    rw [hi3]; simp
set_option maxHeartbeats 1000000 in
theorem zdl {oF oA : Obj} (x : Nd) (dp : Int) (hd : -1000 ≤ dp ∧ dp ≤ 1000) (v : Bool)
    (h : Spec Tryz.prog 130 [.t x.toT, .t (.int .i64 (dp - 1))] [(.par 100, .dat (.fix 0 oF)), (.par 101, .dat (.fix 1 oA))] (.t (.bool v)) [(.par 100, .dat (.fix 0 oF)), (.par 101, .dat (.fix 1 oA))]) :
    Spec Tryz.prog 209 [.t x.toT, .ref (.par 0) 0 0 0] [(.par 0, .var 3 [.t (.int .i64 dp)]), (.par 100, .dat (.fix 0 oF)), (.par 101, .dat (.fix 1 oA))] (.t (.bool (!v))) [(.par 0, .var 3 [.t (.int .i64 dp)]), (.par 100, .dat (.fix 0 oF)), (.par 101, .dat (.fix 1 oA))] := by
  cases x with
  | mk k b n t ns is =>
  rw [Nd.toT_eq] at *
  rw [← zy (n := dp - 1) (by omega) (by omega)] at h
  refine wI Tryz.func209 ?_
  repeat' (first | refine wC ?_ | refine wK ?_ | ((with_reducible refine ze ?_); refine wN (.t (.bool v)) [] h ?_))
  exact zm (zj rfl rfl rfl) (zc ⟨rfl, rfl, rfl, trivial⟩)
set_option maxHeartbeats 8000000 in
theorem ze8 {oF oA : Obj} {V : ByteArray → Bool} (hV : vm oF oA V) : ∀ x : Nd, x.Ok → ∀ dp : Int, -900 ≤ dp → dp ≤ 1000 → Spec Tryz.prog 130 [.t x.toT, .t (.int .i64 dp)] [(.par 100, .dat (.fix 0 oF)), (.par 101, .dat (.fix 1 oA))] (.t (.bool (x.validB V dp))) [(.par 100, .dat (.fix 0 oF)), (.par 101, .dat (.fix 1 oA))] := by
  intro x hx
  induction hx with
  | @mk k b n t ns is h1 h2 h3 ih =>
  intro dp hd1 hd2
  have hf := zdB (.mk k b n t ns is)
  have ht := zct hV t
  have hn := zf0 hV k b n t ns is h1
  have hcf : 1 ≤ dp → Spec Tryz.prog 208 [.t (.sl 6 (is.map Nd.toT)), .fn 209 [.ref (.par 0) 0 0 0]] [(.par 0, .var 3 [.t (.int .i64 dp)]), (.par 100, .dat (.fix 0 oF)), (.par 101, .dat (.fix 1 oA))] (.t (.bool (Nd.anyBad V is (dp - 1)))) [(.par 0, .var 3 [.t (.int .i64 dp)]), (.par 100, .dat (.fix 0 oF)), (.par 101, .dat (.fix 1 oA))] := fun h => by
    rw [Nd.anyBad_any]
    exact qR is h2 _ dp oF oA fun x hx => zdl x dp ⟨by omega, by omega⟩ _ (ih x hx (dp - 1) (by omega) (by omega))
  rw [Nd.validB]
  rw [Nd.toT_eq] at hf ⊢
  generalize (Nd.mk k b n t ns is).fieldsOK = bf at hf ⊢
  generalize yG V t = bt at ht ⊢
  generalize (xg (yG V) [] ns && decide ((ns.length : Int) = is.length)) = bn at hn ⊢
  generalize Nd.anyBad V is (dp - 1) = bc at hcf ⊢
  refine wI Tryz.func130 ?_
  repeat' (first | refine wC ?_ | refine wK ?_ | ((with_reducible refine ze ?_); first | refine wL hf ?_ | refine wN (.t (.bool bt)) [] ht ?_ | refine wN (.t (.bool bn)) [] hn ?_ | refine wN (.t (.bool bc)) [(.par 0, .loc 3)] (hcf (by omega)) ?_) | refine zh rfl ?_ ?_ <;> intro hc | refine zbv rfl ?_ ?_ <;> intro hc | refine zq rfl ?_ ?_ <;> intro hc | refine jM rfl ?_ ?_ <;> intro hc)
  all_goals try clear hf
  all_goals try clear ht
  all_goals try clear hn
  all_goals try clear hcf
  all_goals try clear ih
  all_goals try (refine zm (zj rfl rfl ?_) (zc ⟨rfl, rfl, trivial⟩); simp_all; done)
end Go.AL
namespace Go.AL
open Go Go.Proofs
instance : TyB Tryz.prog 7 [(0, 1), (1, 1), (2, 1), (3, 1)] := ⟨by kernel_rfl⟩
instance : TyB Tryz.prog 8 [(0, 1), (1, 1), (2, 1), (3, 1)] := ⟨by kernel_rfl⟩
instance : TyB Tryz.prog 13 [(0, 1), (1, 1)] := ⟨by kernel_rfl⟩
instance : TyB Tryz.prog 14 [(0, 1), (1, 1)] := ⟨by kernel_rfl⟩
instance : TyB Tryz.prog 18 [(0, 1)] := ⟨by kernel_rfl⟩
instance : TyB Tryz.prog 19 [(0, 1)] := ⟨by kernel_rfl⟩
instance : TyB Tryz.prog 29 [(0, 1), (1, 1), (2, 1), (3, 1), (4, 1), (5, 1)] := ⟨by kernel_rfl⟩
instance : TyB Tryz.prog 30 [(0, 1), (1, 1), (2, 1), (3, 1), (4, 1), (5, 1)] := ⟨by kernel_rfl⟩
instance : TyB Tryz.prog 43 [(0, 1), (1, 1)] := ⟨by kernel_rfl⟩
instance : TyB Tryz.prog 44 [(0, 1), (1, 1)] := ⟨by kernel_rfl⟩
instance : TyB Tryz.prog 54 [(0, 1), (1, 1), (2, 1), (3, 1), (4, 1)] := ⟨by kernel_rfl⟩
instance : TyB Tryz.prog 55 [(0, 1), (1, 1), (2, 1), (3, 1), (4, 1)] := ⟨by kernel_rfl⟩
instance : TyB Tryz.prog 73 [(0, 1), (1, 1)] := ⟨by kernel_rfl⟩
instance : TyB Tryz.prog 74 [(0, 1), (1, 1)] := ⟨by kernel_rfl⟩
instance : TyB Tryz.prog 76 [(0, 1), (1, 1)] := ⟨by kernel_rfl⟩
instance : TyB Tryz.prog 77 [(0, 1), (1, 1)] := ⟨by kernel_rfl⟩
instance : TyB Tryz.prog 89 [(0, 1), (1, 1)] := ⟨by kernel_rfl⟩
instance : TyB Tryz.prog 90 [(0, 1), (1, 1)] := ⟨by kernel_rfl⟩
instance : TyB Tryz.prog 153 [(0, 1), (1, 1)] := ⟨by kernel_rfl⟩
instance : TyB Tryz.prog 154 [(0, 1), (1, 1)] := ⟨by kernel_rfl⟩
instance : TyB Tryz.prog 159 [(0, 1), (1, 1)] := ⟨by kernel_rfl⟩
instance : TyB Tryz.prog 160 [(0, 1), (1, 1)] := ⟨by kernel_rfl⟩
instance : TyB Tryz.prog 166 [(0, 1), (1, 1)] := ⟨by kernel_rfl⟩
instance : TyB Tryz.prog 167 [(0, 1), (1, 1)] := ⟨by kernel_rfl⟩
instance : TyB Tryz.prog 187 [(0, 1), (1, 1)] := ⟨by kernel_rfl⟩
instance : TyB Tryz.prog 188 [(0, 1), (1, 1)] := ⟨by kernel_rfl⟩
instance : TyB Tryz.prog 189 [(0, 2)] := ⟨by kernel_rfl⟩
instance : TyB Tryz.prog 190 [(0, 2)] := ⟨by kernel_rfl⟩
instance : TyB Tryz.prog 195 [(0, 2)] := ⟨by kernel_rfl⟩
instance : TyB Tryz.prog 197 [(0, 2)] := ⟨by kernel_rfl⟩
instance : TyB Tryz.prog 263 [(0, 1), (1, 1)] := ⟨by kernel_rfl⟩
instance : TyB Tryz.prog 264 [(0, 1), (1, 1)] := ⟨by kernel_rfl⟩
instance : TyB Tryz.prog 295 [(0, 1), (1, 1), (2, 1)] := ⟨by kernel_rfl⟩
instance : TyB Tryz.prog 296 [(0, 1), (1, 1), (2, 1)] := ⟨by kernel_rfl⟩
instance : TyB Tryz.prog 308 [(0, 1)] := ⟨by kernel_rfl⟩
instance : TyB Tryz.prog 309 [(0, 1)] := ⟨by kernel_rfl⟩
instance : TyB Tryz.prog 323 [(0, 1), (1, 1), (2, 1), (3, 1)] := ⟨by kernel_rfl⟩
instance : TyB Tryz.prog 324 [(0, 1), (1, 1), (2, 1), (3, 1)] := ⟨by kernel_rfl⟩
instance : TyB Tryz.prog 326 [(0, 0)] := ⟨by kernel_rfl⟩
instance : TyB Tryz.prog 327 [(0, 0)] := ⟨by kernel_rfl⟩
instance : TyB Tryz.prog 333 [(0, 1), (1, 1), (2, 1), (3, 1), (4, 1), (5, 1), (6, 1), (7, 1), (8, 1), (9, 1), (10, 1)] := ⟨by kernel_rfl⟩
instance : TyB Tryz.prog 334 [(0, 1), (1, 1), (2, 1), (3, 1), (4, 1), (5, 1), (6, 1), (7, 1), (8, 1), (9, 1), (10, 1)] := ⟨by kernel_rfl⟩
end Go.AL
namespace Go.AL
open Go Go.RowKit
def Nd.kind : Nd → Int
  | .mk k _ _ _ _ _ => k
def Nd.bool : Nd → Bool
  | .mk _ b _ _ _ _ => b
def Nd.num : Nd → Int
  | .mk _ _ n _ _ _ => n
def Nd.text : Nd → ByteArray
  | .mk _ _ _ t _ _ => t
def Nd.zero : Nd := .mk 0 false 0 ⟨#[]⟩ [] []
def zjY (s : ByteArray) : List ByteArray → Int → Int
  | [], _ => -1
  | x :: xs, j => if s = x then j else zjY s xs (j + 1)
def Nd.place (n : Nd) (s : ByteArray) : Int := if n.kind = 5 then zjY s (n.names.take (min n.names.length n.items.length)) 0 else -1
def Nd.get (n : Nd) (s : ByteArray) : Nd × Bool := if n.place s < 0 then (Nd.zero, false) else (n.items.getD (n.place s).toNat default, true)
def Nd.set (n : Nd) (s : ByteArray) (v : Nd) : Nd :=
  if 0 ≤ n.place s then .mk n.kind n.bool n.num n.text n.names (n.items.set (n.place s).toNat v)
  else .mk n.kind n.bool n.num n.text (n.names ++ [s]) (n.items ++ [v])
def Nd.put (V : ByteArray → Bool) (n : Nd) (s : ByteArray) (v : Nd) : Nd × Int :=
  if n.kind = 5 ∧ n.validB V 8 = true ∧ (n.set s v).validB V 8 = true then (n.set s v, 0) else (Nd.zero, 1)
theorem zhf (s : ByteArray) : ∀ (l : List ByteArray) (j : Int) (i : Nat), l.Nodup → l[i]? = some s → zjY s l j = j + i
  | [], j, i, _, h => by simp at h
  | x :: xs, j, 0, _, h => by
    simp only [List.getElem?_cons_zero, Option.some.injEq] at h
    simp [zjY, h]
  | x :: xs, j, i + 1, hn, h => by
    simp only [List.getElem?_cons_succ] at h
    have hm : s ∈ xs := List.mem_of_getElem? h
    have hx : s ≠ x := fun e => (List.nodup_cons.1 hn).1 (e ▸ hm)
    rw [zjY, if_neg hx, zhf s xs (j + 1) i (List.nodup_cons.1 hn).2 h]
    omega
theorem zgL (s : ByteArray) (l : List ByteArray) : inB s l = true ↔ s ∈ l := by
  simp [inB]
theorem yZ (tx : ByteArray → Bool) : ∀ (l seen : List ByteArray), xg tx seen l = true ↔ l.Nodup ∧ ∀ s ∈ l, s ∉ seen ∧ tx s = true
  | [], seen => by simp [xg]
  | x :: xs, seen => by
    simp only [xg]
    split
    · rename_i h
      simp only [Bool.or_eq_true, zgL, Bool.not_eq_true'] at h
      constructor
      · intro h2; simp at h2
      · rintro ⟨_, h2⟩
        have := h2 x (by simp)
        rcases h with h | h
        · exact absurd h this.1
        · rw [this.2] at h; simp at h
    · rename_i h
      simp only [Bool.or_eq_true, zgL, Bool.not_eq_true', not_or] at h
      rw [yZ tx xs (x :: seen), List.nodup_cons]
      constructor
      · rintro ⟨h1, h2⟩
        refine ⟨⟨fun hx => (h2 x hx).1 (by simp), h1⟩, fun s hs => ?_⟩
        rcases List.mem_cons.1 hs with rfl | hs
        · exact ⟨h.1, by simpa using h.2⟩
        · exact ⟨fun hc => (h2 s hs).1 (by simp [hc]), (h2 s hs).2⟩
      · rintro ⟨⟨h1, h2⟩, h3⟩
        refine ⟨h2, fun s hs => ⟨?_, (h3 s (by simp [hs])).2⟩⟩
        intro hc
        rcases List.mem_cons.1 hc with rfl | hc
        · exact h1 hs
        · exact (h3 s (by simp [hs])).1 hc
structure Dc where
  l : List Int
  k : Nat
def zig (n m : Int) : Int := if m < 1 then 0 else n % m
def Dc.next (d : Dc) (n : Int) : Int × Dc := if (d.l.length : Int) ≤ d.k then (0, d) else (zig (d.l.getD d.k 0) n, ⟨d.l, d.k + 1⟩)
def Dc.word (d : Dc) (l : List ByteArray) : ByteArray × Dc := (l.getD (d.next l.length).1.toNat default, (d.next l.length).2)
theorem zi2 (n m : Int) (h : 1 ≤ m) : 0 ≤ zig n m ∧ zig n m < m := by
  unfold zig
  rw [if_neg (by omega)]
  exact ⟨Int.emod_nonneg _ (by omega), Int.emod_lt_of_pos _ (by omega)⟩
theorem Dc.next_lt (d : Dc) (n : Int) (h : 1 ≤ n) : 0 ≤ (d.next n).1 ∧ (d.next n).1 < n := by
  unfold Dc.next; split
  · exact ⟨Int.le_refl 0, by show (0 : Int) < n; omega⟩
  · exact zi2 _ _ h
theorem Dc.next_l (d : Dc) (n : Int) : (d.next n).2.l = d.l := by
  unfold Dc.next; split <;> rfl
theorem Dc.word_mem (d : Dc) (l : List ByteArray) (h : l ≠ []) : (d.word l).1 ∈ l := by
  have hp := List.length_pos_iff.2 h
  have := d.next_lt l.length (by omega)
  unfold Dc.word
  simp only
  rw [List.getD_eq_getElem?_getD, List.getElem?_eq_getElem (by omega)]
  exact List.getElem_mem _
def eS : ByteArray := ⟨#[]⟩
def xS : ByteArray := ⟨#[120]⟩
def xY : List ByteArray := [⟨#[]⟩, ⟨#[97]⟩, ⟨#[66, 111, 110, 110]⟩, ⟨#[97, 32, 34, 113, 117, 111, 116, 101, 100, 34, 32, 92, 32, 116, 101, 120, 116]⟩, ⟨#[108, 105, 110, 101, 10, 97, 110, 100, 9, 116, 97, 98, 1, 31, 127]⟩, ⟨#[195, 164, 226, 130, 172, 240, 159, 152, 128]⟩, ⟨#[75, 69, 82, 73, 49, 48, 74, 83, 79, 78, 48, 48, 48, 48, 50, 97, 95]⟩]
def vj : List Int := [23, 24, 31, 32, 255, 256]
def zhI : Nat → ByteArray → Dc → ByteArray × Dc
  | 0, s, d => (s, (d.next 6).2)
  | f + 1, s, d => if (s.size : Int) < vj.getD (d.next 6).1.toNat 0 then zhI f (s ++ xS) (d.next 6).2 else (s, (d.next 6).2)
def wM (d : Dc) : ByteArray × Dc :=
  if ((d.word xY).2.next 10).1 = 1 then zhI 300 (d.word xY).1 ((d.word xY).2.next 10).2 else ((d.word xY).1, ((d.word xY).2.next 10).2)
def x7 : Nat → List Nd → Dc → List Nd × Dc
  | 0, l, d => (l, (d.next 3).2)
  | f + 1, l, d => if (l.length : Int) < 15 + (d.next 3).1 then x7 f (l ++ [Nd.zero]) (d.next 3).2 else (l, (d.next 3).2)
def yw : List ByteArray := [⟨#[97]⟩, ⟨#[98]⟩, ⟨#[118]⟩, ⟨#[100]⟩, ⟨#[]⟩]
def zdr (i : Nat) : ByteArray := ⟨#[UInt8.ofNat (48 + i % 10), UInt8.ofNat (48 + i / 10)]⟩
def zH : Nat → Nat → Dc → List ByteArray × Dc
  | 0, _, d => ([], d)
  | c + 1, i, d => (((d.word yw).1 ++ zdr i) :: (zH c (i + 1) (d.word yw).2).1, (zH c (i + 1) (d.word yw).2).2)
def yI (f : Dc → Nd × Dc) : Nat → Dc → List Nd × Dc
  | 0, d => ([], d)
  | c + 1, d => ((f d).1 :: (yI f c (f d).2).1, (yI f c (f d).2).2)
def wd : List Int := [0, 1, 23, 24, 127, 128, 255, 256, 65535, 65536, 4294967296, 9223372036854775807]
def zda (k : Int) (f : Dc → Nd × Dc) (d : Dc) : Nd × Dc :=
  let q := d.next 4
  let is := yI f q.1.toNat q.2
  let z := is.2.next 20
  let g := if z.1 = 1 then x7 20 is.1 z.2 else (is.1, z.2)
  let ns := if k = 5 then zH g.1.length 0 g.2 else ([], g.2)
  (.mk k false 0 eS ns.1 g.1, ns.2)
def vU (rec : Option (Dc → Nd × Dc)) (d : Dc) : Nd × Dc :=
  let k := (d.next 6).1
  let e := (d.next 6).2
  if k = 1 then (.mk 1 (decide ((e.next 2).1 = 1)) 0 eS [] [], (e.next 2).2)
  else if k = 2 then (.mk 2 false (if ((e.next 12).2.next 2).1 = 1 then -1 - wd.getD (e.next 12).1.toNat 0 else wd.getD (e.next 12).1.toNat 0) eS [] [], ((e.next 12).2.next 2).2)
  else if k = 3 then (.mk 3 false 0 (wM e).1 [] [], (wM e).2)
  else if k = 4 ∨ k = 5 then match rec with
    | none => (.mk k false 0 eS [] [], e)
    | some f => zda k f e
  else (Nd.zero, e)
def kS : Nat → Dc → Nd × Dc
  | 0, d => vU none d
  | 1, d => vU none d
  | n + 2, d => vU (some (kS (n + 1))) d
structure VOk (V : ByteArray → Bool) : Prop where
  asc : ∀ s : ByteArray, (∀ b ∈ s.data.toList, b.toNat < 128) → V s = true
  app : ∀ s : ByteArray, V s = true → V (s ++ xS) = true
  odd : V ⟨#[195, 164, 226, 130, 172, 240, 159, 152, 128]⟩ = true
theorem zgb {V : ByteArray → Bool} (hV : VOk V) : ∀ (f : Nat) (s : ByteArray) (d : Dc), V s = true → s.size ≤ 256 → V (zhI f s d).1 = true ∧ (zhI f s d).1.size ≤ 256
  | 0, s, d, h, h2 => ⟨h, h2⟩
  | f + 1, s, d, h, h2 => by
    simp only [zhI]; split
    · rename_i hc
      have hs : (vj.getD (d.next 6).1.toNat 0) ≤ 256 := by
        have := d.next_lt 6 (by omega)
        generalize (d.next 6).1.toNat = j
        match j with
        | 0 | 1 | 2 | 3 | 4 | 5 => simp [vj]
        | j + 6 => simp [vj]
      refine zgb hV f _ _ (hV.app s h) ?_
      rw [ByteArray.size_append]
      have : xS.size = 1 := rfl
      omega
    · exact ⟨h, h2⟩
theorem zci {V : ByteArray → Bool} (hV : VOk V) : ∀ s ∈ xY, V s = true ∧ s.size ≤ 256 := by
  intro s hs
  simp only [xY, List.mem_cons, List.not_mem_nil, or_false] at hs
  rcases hs with rfl | rfl | rfl | rfl | rfl | rfl | rfl
  case' inr.inr.inr.inr.inr.inl => exact ⟨hV.odd, by decide⟩
  all_goals exact ⟨hV.asc _ (by decide), by decide⟩
theorem zev {V : ByteArray → Bool} (hV : VOk V) (d : Dc) : V (wM d).1 = true ∧ (wM d).1.size ≤ 256 := by
  have h := zci hV _ (d.word_mem xY (by simp [xY]))
  unfold wM
  split
  · exact zgb hV _ _ _ h.1 h.2
  · exact h
end Go.AL
