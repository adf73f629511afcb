/- The library function utf8.ValidString lies in this program as the shelf of the kit has it; no condition. -/
import Derived.Test.YtmidabiehblekaaDoorProg
import Derived.Test.YtmidabiehblekaaDoorAl3
import Derived.Shelf.Unicode.ValidAny
import Derived.Shelf.Strconv.Itoa1
import Derived.Shelf.Strconv.Itoa2
import Derived.Shelf.Strconv.Itoa3
import Derived.Shelf.Strconv.AtoiAll
set_option linter.unusedVariables false
namespace Go.AL
open Go Go.Proofs

instance : TyU Tryd.prog 0 (TypeDesc.tuple #[]) := ⟨Tryd.underlying0⟩
instance : TyI Tryd.prog 0 1 0 (Value.tuple [].toArray) := ⟨by kernel_rfl⟩
instance : TyU Tryd.prog 1 (TypeDesc.func #[] #[] false) := ⟨Tryd.underlying1⟩
instance : TyI Tryd.prog 1 1 8 (Value.nilFunc) := ⟨by kernel_rfl⟩
instance : TyU Tryd.prog 2 (TypeDesc.int IntKind.i64) := ⟨Tryd.underlying2⟩
instance : TyI Tryd.prog 2 1 8 (Value.int IntKind.i64 (0)) := ⟨by kernel_rfl⟩
instance : TyU Tryd.prog 3 (TypeDesc.int IntKind.i64) := ⟨Tryd.underlying3⟩
instance : TyI Tryd.prog 3 1 8 (Value.int IntKind.i64 (0)) := ⟨by kernel_rfl⟩
instance : TyU Tryd.prog 4 TypeDesc.bool := ⟨Tryd.underlying4⟩
instance : TyI Tryd.prog 4 1 1 (Value.bool false) := ⟨by kernel_rfl⟩
instance : TyU Tryd.prog 5 (TypeDesc.int IntKind.u8) := ⟨Tryd.underlying5⟩
instance : TyI Tryd.prog 5 1 1 (Value.int IntKind.u8 (0)) := ⟨by kernel_rfl⟩
instance : TyU Tryd.prog 6 (TypeDesc.int IntKind.u8) := ⟨Tryd.underlying6⟩
instance : TyI Tryd.prog 6 1 1 (Value.int IntKind.u8 (0)) := ⟨by kernel_rfl⟩
instance : TyU Tryd.prog 7 (TypeDesc.struct #[{ name := "x", type := 2, offset := 0, embedded := false, tag := "", pkgPath := "runtime", byteOffset := 0 }, { name := "y", type := 3, offset := 1, embedded := false, tag := "", pkgPath := "runtime", byteOffset := 8 }, { name := "signed", type := 4, offset := 2, embedded := false, tag := "", pkgPath := "runtime", byteOffset := 16 }, { name := "code", type := 6, offset := 3, embedded := false, tag := "", pkgPath := "runtime", byteOffset := 17 }]) := ⟨Tryd.underlying7⟩
instance : TyI Tryd.prog 7 4 24 (Value.agg [Value.int IntKind.i64 (0), Value.int IntKind.i64 (0), Value.bool false, Value.int IntKind.u8 (0)].toArray) := ⟨by kernel_rfl⟩
instance : TyU Tryd.prog 8 (TypeDesc.struct #[{ name := "x", type := 2, offset := 0, embedded := false, tag := "", pkgPath := "runtime", byteOffset := 0 }, { name := "y", type := 3, offset := 1, embedded := false, tag := "", pkgPath := "runtime", byteOffset := 8 }, { name := "signed", type := 4, offset := 2, embedded := false, tag := "", pkgPath := "runtime", byteOffset := 16 }, { name := "code", type := 6, offset := 3, embedded := false, tag := "", pkgPath := "runtime", byteOffset := 17 }]) := ⟨Tryd.underlying8⟩
instance : TyI Tryd.prog 8 4 24 (Value.agg [Value.int IntKind.i64 (0), Value.int IntKind.i64 (0), Value.bool false, Value.int IntKind.u8 (0)].toArray) := ⟨by kernel_rfl⟩
instance : TyU Tryd.prog 9 TypeDesc.string := ⟨Tryd.underlying9⟩
instance : TyI Tryd.prog 9 1 16 (Value.string ⟨#[]⟩) := ⟨by kernel_rfl⟩
instance : TyU Tryd.prog 10 TypeDesc.string := ⟨Tryd.underlying10⟩
instance : TyI Tryd.prog 10 1 16 (Value.string ⟨#[]⟩) := ⟨by kernel_rfl⟩
instance : TyU Tryd.prog 11 TypeDesc.string := ⟨Tryd.underlying11⟩
instance : TyI Tryd.prog 11 1 16 (Value.string ⟨#[]⟩) := ⟨by kernel_rfl⟩
instance : TyU Tryd.prog 12 (TypeDesc.int IntKind.u64) := ⟨Tryd.underlying12⟩
instance : TyI Tryd.prog 12 1 8 (Value.int IntKind.u64 (0)) := ⟨by kernel_rfl⟩
instance : TyU Tryd.prog 13 (TypeDesc.struct #[{ name := "msg", type := 9, offset := 0, embedded := false, tag := "", pkgPath := "runtime", byteOffset := 0 }, { name := "addr", type := 12, offset := 1, embedded := false, tag := "", pkgPath := "runtime", byteOffset := 16 }]) := ⟨Tryd.underlying13⟩
instance : TyI Tryd.prog 13 2 24 (Value.agg [Value.string ⟨#[]⟩, Value.int IntKind.u64 (0)].toArray) := ⟨by kernel_rfl⟩
instance : TyU Tryd.prog 14 (TypeDesc.struct #[{ name := "msg", type := 9, offset := 0, embedded := false, tag := "", pkgPath := "runtime", byteOffset := 0 }, { name := "addr", type := 12, offset := 1, embedded := false, tag := "", pkgPath := "runtime", byteOffset := 16 }]) := ⟨Tryd.underlying14⟩
instance : TyI Tryd.prog 14 2 24 (Value.agg [Value.string ⟨#[]⟩, Value.int IntKind.u64 (0)].toArray) := ⟨by kernel_rfl⟩
instance : TyU Tryd.prog 15 (TypeDesc.pointer 139) := ⟨Tryd.underlying15⟩
instance : TyI Tryd.prog 15 1 8 (Value.pointer none) := ⟨by kernel_rfl⟩
instance : TyU Tryd.prog 16 (TypeDesc.pointer 142) := ⟨Tryd.underlying16⟩
instance : TyI Tryd.prog 16 1 8 (Value.pointer none) := ⟨by kernel_rfl⟩
instance : TyU Tryd.prog 17 (TypeDesc.pointer 149) := ⟨Tryd.underlying17⟩
instance : TyI Tryd.prog 17 1 8 (Value.pointer none) := ⟨by kernel_rfl⟩
instance : TyU Tryd.prog 18 (TypeDesc.struct #[{ name := "typ", type := 17, offset := 0, embedded := false, tag := "", pkgPath := "internal/runtime/maps", byteOffset := 0 }]) := ⟨Tryd.underlying18⟩
instance : TyI Tryd.prog 18 1 8 (Value.agg [Value.pointer none].toArray) := ⟨by kernel_rfl⟩
instance : TyU Tryd.prog 19 (TypeDesc.struct #[{ name := "typ", type := 17, offset := 0, embedded := false, tag := "", pkgPath := "internal/runtime/maps", byteOffset := 0 }]) := ⟨Tryd.underlying19⟩
instance : TyI Tryd.prog 19 1 8 (Value.agg [Value.pointer none].toArray) := ⟨by kernel_rfl⟩
instance : TyU Tryd.prog 20 (TypeDesc.interface #[]) := ⟨Tryd.underlying20⟩
instance : TyI Tryd.prog 20 1 16 (Value.nilIface) := ⟨by kernel_rfl⟩
instance : TyU Tryd.prog 21 (TypeDesc.int IntKind.i32) := ⟨Tryd.underlying21⟩
instance : TyI Tryd.prog 21 1 4 (Value.int IntKind.i32 (0)) := ⟨by kernel_rfl⟩
instance : TyU Tryd.prog 22 (TypeDesc.slice 3) := ⟨Tryd.underlying22⟩
instance : TyI Tryd.prog 22 1 24 (Value.slice none 0 0) := ⟨by kernel_rfl⟩
instance : TyU Tryd.prog 23 (TypeDesc.slice 9) := ⟨Tryd.underlying23⟩
instance : TyI Tryd.prog 23 1 24 (Value.slice none 0 0) := ⟨by kernel_rfl⟩
instance : TyU Tryd.prog 24 (TypeDesc.slice 26) := ⟨Tryd.underlying24⟩
instance : TyI Tryd.prog 24 1 24 (Value.slice none 0 0) := ⟨by kernel_rfl⟩
instance : TyU Tryd.prog 25 (TypeDesc.struct #[{ name := "Kind", type := 3, offset := 0, embedded := false, tag := "", pkgPath := "", byteOffset := 0 }, { name := "Bool", type := 4, offset := 1, embedded := false, tag := "", pkgPath := "", byteOffset := 8 }, { name := "Number", type := 3, offset := 2, embedded := false, tag := "", pkgPath := "", byteOffset := 16 }, { name := "Text", type := 9, offset := 3, embedded := false, tag := "", pkgPath := "", byteOffset := 24 }, { name := "Names", type := 23, offset := 4, embedded := false, tag := "", pkgPath := "", byteOffset := 40 }, { name := "Items", type := 24, offset := 5, embedded := false, tag := "", pkgPath := "", byteOffset := 64 }]) := ⟨Tryd.underlying25⟩
instance : TyI Tryd.prog 25 6 88 (Value.agg [Value.int IntKind.i64 (0), Value.bool false, Value.int IntKind.i64 (0), Value.string ⟨#[]⟩, Value.slice none 0 0, Value.slice none 0 0].toArray) := ⟨by kernel_rfl⟩
instance : TyU Tryd.prog 26 (TypeDesc.struct #[{ name := "Kind", type := 3, offset := 0, embedded := false, tag := "", pkgPath := "", byteOffset := 0 }, { name := "Bool", type := 4, offset := 1, embedded := false, tag := "", pkgPath := "", byteOffset := 8 }, { name := "Number", type := 3, offset := 2, embedded := false, tag := "", pkgPath := "", byteOffset := 16 }, { name := "Text", type := 9, offset := 3, embedded := false, tag := "", pkgPath := "", byteOffset := 24 }, { name := "Names", type := 23, offset := 4, embedded := false, tag := "", pkgPath := "", byteOffset := 40 }, { name := "Items", type := 24, offset := 5, embedded := false, tag := "", pkgPath := "", byteOffset := 64 }]) := ⟨Tryd.underlying26⟩
instance : TyI Tryd.prog 26 6 88 (Value.agg [Value.int IntKind.i64 (0), Value.bool false, Value.int IntKind.i64 (0), Value.string ⟨#[]⟩, Value.slice none 0 0, Value.slice none 0 0].toArray) := ⟨by kernel_rfl⟩
instance : TyU Tryd.prog 27 (TypeDesc.func #[22] #[4] false) := ⟨Tryd.underlying27⟩
instance : TyI Tryd.prog 27 1 8 (Value.nilFunc) := ⟨by kernel_rfl⟩
instance : TyU Tryd.prog 28 (TypeDesc.func #[] #[4] false) := ⟨Tryd.underlying28⟩
instance : TyI Tryd.prog 28 1 8 (Value.nilFunc) := ⟨by kernel_rfl⟩
instance : TyU Tryd.prog 29 (TypeDesc.pointer 49) := ⟨Tryd.underlying29⟩
instance : TyI Tryd.prog 29 1 8 (Value.pointer none) := ⟨by kernel_rfl⟩
instance : TyU Tryd.prog 30 (TypeDesc.func #[22] #[29] false) := ⟨Tryd.underlying30⟩
instance : TyI Tryd.prog 30 1 8 (Value.nilFunc) := ⟨by kernel_rfl⟩
instance : TyU Tryd.prog 31 (TypeDesc.func #[29, 3] #[26] false) := ⟨Tryd.underlying31⟩
instance : TyI Tryd.prog 31 1 8 (Value.nilFunc) := ⟨by kernel_rfl⟩
instance : TyU Tryd.prog 32 (TypeDesc.func #[3] #[3] false) := ⟨Tryd.underlying32⟩
instance : TyI Tryd.prog 32 1 8 (Value.nilFunc) := ⟨by kernel_rfl⟩
instance : TyU Tryd.prog 33 (TypeDesc.int IntKind.i64) := ⟨Tryd.underlying33⟩
instance : TyI Tryd.prog 33 1 8 (Value.int IntKind.i64 (0)) := ⟨by kernel_rfl⟩
instance : TyU Tryd.prog 34 (TypeDesc.tuple #[9, 33]) := ⟨Tryd.underlying34⟩
instance : TyI Tryd.prog 34 1 0 (Value.tuple [Value.string ⟨#[]⟩, Value.int IntKind.i64 (0)].toArray) := ⟨by kernel_rfl⟩
instance : TyU Tryd.prog 35 (TypeDesc.func #[26] #[9, 33] false) := ⟨Tryd.underlying35⟩
instance : TyI Tryd.prog 35 1 8 (Value.nilFunc) := ⟨by kernel_rfl⟩
instance : TyU Tryd.prog 36 (TypeDesc.func #[22, 26] #[4] false) := ⟨Tryd.underlying36⟩
instance : TyI Tryd.prog 36 1 8 (Value.nilFunc) := ⟨by kernel_rfl⟩
instance : TyU Tryd.prog 37 (TypeDesc.func #[26] #[4] false) := ⟨Tryd.underlying37⟩
instance : TyI Tryd.prog 37 1 8 (Value.nilFunc) := ⟨by kernel_rfl⟩
instance : TyU Tryd.prog 38 (TypeDesc.tuple #[26, 33]) := ⟨Tryd.underlying38⟩
instance : TyI Tryd.prog 38 1 0 (Value.tuple { toList := [Value.agg [Value.int IntKind.i64 (0), Value.bool false, Value.int IntKind.i64 (0), Value.string ⟨#[]⟩, Value.slice none 0 0, Value.slice none 0 0].toArray, Value.int IntKind.i64 (0)] }) := ⟨by kernel_rfl⟩
instance : TyU Tryd.prog 39 (TypeDesc.func #[9] #[26, 33] false) := ⟨Tryd.underlying39⟩
instance : TyI Tryd.prog 39 1 8 (Value.nilFunc) := ⟨by kernel_rfl⟩
instance : TyU Tryd.prog 40 (TypeDesc.func #[26, 26] #[4] false) := ⟨Tryd.underlying40⟩
instance : TyI Tryd.prog 40 1 8 (Value.nilFunc) := ⟨by kernel_rfl⟩
instance : TyU Tryd.prog 41 (TypeDesc.func #[9, 3, 3] #[9] false) := ⟨Tryd.underlying41⟩
instance : TyI Tryd.prog 41 1 8 (Value.nilFunc) := ⟨by kernel_rfl⟩
instance : TyU Tryd.prog 42 (TypeDesc.func #[22, 3, 3, 9] #[4] false) := ⟨Tryd.underlying42⟩
instance : TyI Tryd.prog 42 1 8 (Value.nilFunc) := ⟨by kernel_rfl⟩
instance : TyU Tryd.prog 43 (TypeDesc.slice 5) := ⟨Tryd.underlying43⟩
instance : TyI Tryd.prog 43 1 24 (Value.slice none 0 0) := ⟨by kernel_rfl⟩
instance : TyU Tryd.prog 44 (TypeDesc.func #[9] #[9, 33] false) := ⟨Tryd.underlying44⟩
instance : TyI Tryd.prog 44 1 8 (Value.nilFunc) := ⟨by kernel_rfl⟩
instance : TyU Tryd.prog 45 (TypeDesc.func #[9, 5] #[4] false) := ⟨Tryd.underlying45⟩
instance : TyI Tryd.prog 45 1 8 (Value.nilFunc) := ⟨by kernel_rfl⟩
instance : TyU Tryd.prog 46 (TypeDesc.func #[3, 3] #[3] false) := ⟨Tryd.underlying46⟩
instance : TyI Tryd.prog 46 1 8 (Value.nilFunc) := ⟨by kernel_rfl⟩
instance : TyU Tryd.prog 47 (TypeDesc.func #[22, 9, 3, 3] #[4] false) := ⟨Tryd.underlying47⟩
instance : TyI Tryd.prog 47 1 8 (Value.nilFunc) := ⟨by kernel_rfl⟩
instance : TyU Tryd.prog 48 (TypeDesc.struct #[{ name := "l", type := 22, offset := 0, embedded := false, tag := "", pkgPath := "keyevent/keyeventkit", byteOffset := 0 }, { name := "at", type := 3, offset := 1, embedded := false, tag := "", pkgPath := "keyevent/keyeventkit", byteOffset := 24 }]) := ⟨Tryd.underlying48⟩
instance : TyI Tryd.prog 48 2 32 (Value.agg [Value.slice none 0 0, Value.int IntKind.i64 (0)].toArray) := ⟨by kernel_rfl⟩
instance : TyU Tryd.prog 49 (TypeDesc.struct #[{ name := "l", type := 22, offset := 0, embedded := false, tag := "", pkgPath := "keyevent/keyeventkit", byteOffset := 0 }, { name := "at", type := 3, offset := 1, embedded := false, tag := "", pkgPath := "keyevent/keyeventkit", byteOffset := 24 }]) := ⟨Tryd.underlying49⟩
instance : TyI Tryd.prog 49 2 32 (Value.agg [Value.slice none 0 0, Value.int IntKind.i64 (0)].toArray) := ⟨by kernel_rfl⟩
instance : TyU Tryd.prog 50 (TypeDesc.func #[29] #[9] false) := ⟨Tryd.underlying50⟩
instance : TyI Tryd.prog 50 1 8 (Value.nilFunc) := ⟨by kernel_rfl⟩
instance : TyU Tryd.prog 51 (TypeDesc.func #[23] #[9] true) := ⟨Tryd.underlying51⟩
instance : TyI Tryd.prog 51 1 8 (Value.nilFunc) := ⟨by kernel_rfl⟩
instance : TyU Tryd.prog 52 (TypeDesc.func #[26, 53] #[9, 33] false) := ⟨Tryd.underlying52⟩
instance : TyI Tryd.prog 52 1 8 (Value.nilFunc) := ⟨by kernel_rfl⟩
instance : TyU Tryd.prog 53 (TypeDesc.func #[43, 26] #[43] false) := ⟨Tryd.underlying53⟩
instance : TyI Tryd.prog 53 1 8 (Value.nilFunc) := ⟨by kernel_rfl⟩
instance : TyU Tryd.prog 54 (TypeDesc.func #[26] #[9] false) := ⟨Tryd.underlying54⟩
instance : TyI Tryd.prog 54 1 8 (Value.nilFunc) := ⟨by kernel_rfl⟩
instance : TyU Tryd.prog 55 (TypeDesc.func #[26, 3] #[4] false) := ⟨Tryd.underlying55⟩
instance : TyI Tryd.prog 55 1 8 (Value.nilFunc) := ⟨by kernel_rfl⟩
instance : TyU Tryd.prog 56 (TypeDesc.pointer 60) := ⟨Tryd.underlying56⟩
instance : TyI Tryd.prog 56 1 8 (Value.pointer none) := ⟨by kernel_rfl⟩
instance : TyU Tryd.prog 57 (TypeDesc.struct #[{ name := "Rest", type := 9, offset := 0, embedded := false, tag := "", pkgPath := "", byteOffset := 0 }, { name := "Bad", type := 4, offset := 1, embedded := false, tag := "", pkgPath := "", byteOffset := 16 }]) := ⟨Tryd.underlying57⟩
instance : TyI Tryd.prog 57 2 24 (Value.agg [Value.string ⟨#[]⟩, Value.bool false].toArray) := ⟨by kernel_rfl⟩
instance : TyU Tryd.prog 58 (TypeDesc.struct #[{ name := "Rest", type := 9, offset := 0, embedded := false, tag := "", pkgPath := "", byteOffset := 0 }, { name := "Bad", type := 4, offset := 1, embedded := false, tag := "", pkgPath := "", byteOffset := 16 }]) := ⟨Tryd.underlying58⟩
instance : TyI Tryd.prog 58 2 24 (Value.agg [Value.string ⟨#[]⟩, Value.bool false].toArray) := ⟨by kernel_rfl⟩
instance : TyU Tryd.prog 59 (TypeDesc.struct #[{ name := "Reader", type := 58, offset := 0, embedded := true, tag := "", pkgPath := "", byteOffset := 0 }]) := ⟨Tryd.underlying59⟩
instance : TyI Tryd.prog 59 2 24 (Value.agg [Value.string ⟨#[]⟩, Value.bool false].toArray) := ⟨by kernel_rfl⟩
instance : TyU Tryd.prog 60 (TypeDesc.struct #[{ name := "Reader", type := 58, offset := 0, embedded := true, tag := "", pkgPath := "", byteOffset := 0 }]) := ⟨Tryd.underlying60⟩
instance : TyI Tryd.prog 60 2 24 (Value.agg [Value.string ⟨#[]⟩, Value.bool false].toArray) := ⟨by kernel_rfl⟩
instance : TyU Tryd.prog 61 (TypeDesc.func #[3] #[26] false) := ⟨Tryd.underlying61⟩
instance : TyI Tryd.prog 61 1 8 (Value.nilFunc) := ⟨by kernel_rfl⟩
instance : TyU Tryd.prog 62 (TypeDesc.func #[9, 26, 63, 35] #[26, 33] false) := ⟨Tryd.underlying62⟩
instance : TyI Tryd.prog 62 1 8 (Value.nilFunc) := ⟨by kernel_rfl⟩
instance : TyU Tryd.prog 63 (TypeDesc.pointer 58) := ⟨Tryd.underlying63⟩
instance : TyI Tryd.prog 63 1 8 (Value.pointer none) := ⟨by kernel_rfl⟩
instance : TyU Tryd.prog 64 (TypeDesc.func #[9] #[4] false) := ⟨Tryd.underlying64⟩
instance : TyI Tryd.prog 64 1 8 (Value.nilFunc) := ⟨by kernel_rfl⟩
instance : TyU Tryd.prog 65 (TypeDesc.func #[43, 9] #[43] false) := ⟨Tryd.underlying65⟩
instance : TyI Tryd.prog 65 1 8 (Value.nilFunc) := ⟨by kernel_rfl⟩
instance : TyU Tryd.prog 66 (TypeDesc.func #[9] #[9] false) := ⟨Tryd.underlying66⟩
instance : TyI Tryd.prog 66 1 8 (Value.nilFunc) := ⟨by kernel_rfl⟩
instance : TyU Tryd.prog 67 (TypeDesc.tuple #[26, 3]) := ⟨Tryd.underlying67⟩
instance : TyI Tryd.prog 67 1 0 (Value.tuple { toList := [Value.agg [Value.int IntKind.i64 (0), Value.bool false, Value.int IntKind.i64 (0), Value.string ⟨#[]⟩, Value.slice none 0 0, Value.slice none 0 0].toArray, Value.int IntKind.i64 (0)] }) := ⟨by kernel_rfl⟩
instance : TyU Tryd.prog 68 (TypeDesc.func #[9, 3, 3] #[26, 3] false) := ⟨Tryd.underlying68⟩
instance : TyI Tryd.prog 68 1 8 (Value.nilFunc) := ⟨by kernel_rfl⟩
instance : TyU Tryd.prog 69 (TypeDesc.func #[43, 4] #[43] false) := ⟨Tryd.underlying69⟩
instance : TyI Tryd.prog 69 1 8 (Value.nilFunc) := ⟨by kernel_rfl⟩
instance : TyU Tryd.prog 70 (TypeDesc.func #[43, 2, 3] #[43] false) := ⟨Tryd.underlying70⟩
instance : TyI Tryd.prog 70 1 8 (Value.nilFunc) := ⟨by kernel_rfl⟩
instance : TyU Tryd.prog 71 (TypeDesc.func #[4] #[9] false) := ⟨Tryd.underlying71⟩
instance : TyI Tryd.prog 71 1 8 (Value.nilFunc) := ⟨by kernel_rfl⟩
instance : TyU Tryd.prog 72 (TypeDesc.func #[3] #[9] false) := ⟨Tryd.underlying72⟩
instance : TyI Tryd.prog 72 1 8 (Value.nilFunc) := ⟨by kernel_rfl⟩
instance : TyU Tryd.prog 73 (TypeDesc.map 9 4) := ⟨Tryd.underlying73⟩
instance : TyI Tryd.prog 73 1 8 (Value.map none) := ⟨by kernel_rfl⟩
instance : TyU Tryd.prog 74 (TypeDesc.func #[26, 9, 3] #[26] false) := ⟨Tryd.underlying74⟩
instance : TyI Tryd.prog 74 1 8 (Value.nilFunc) := ⟨by kernel_rfl⟩
instance : TyU Tryd.prog 75 (TypeDesc.func #[9, 9] #[4] false) := ⟨Tryd.underlying75⟩
instance : TyI Tryd.prog 75 1 8 (Value.nilFunc) := ⟨by kernel_rfl⟩
instance : TyU Tryd.prog 76 (TypeDesc.func #[] #[9] false) := ⟨Tryd.underlying76⟩
instance : TyI Tryd.prog 76 1 8 (Value.nilFunc) := ⟨by kernel_rfl⟩
instance : TyU Tryd.prog 77 (TypeDesc.func #[] #[3] false) := ⟨Tryd.underlying77⟩
instance : TyI Tryd.prog 77 1 8 (Value.nilFunc) := ⟨by kernel_rfl⟩
instance : TyU Tryd.prog 78 (TypeDesc.func #[9] #[12] false) := ⟨Tryd.underlying78⟩
instance : TyI Tryd.prog 78 1 8 (Value.nilFunc) := ⟨by kernel_rfl⟩
instance : TyU Tryd.prog 79 (TypeDesc.array 256 5) := ⟨Tryd.underlying79⟩
instance : TyI Tryd.prog 79 256 256 (Value.agg [Value.int IntKind.u8 (0), Value.int IntKind.u8 (0), Value.int IntKind.u8 (0), Value.int IntKind.u8 (0), Value.int IntKind.u8 (0), Value.int IntKind.u8 (0), Value.int IntKind.u8 (0), Value.int IntKind.u8 (0), Value.int IntKind.u8 (0), Value.int IntKind.u8 (0), Value.int IntKind.u8 (0), Value.int IntKind.u8 (0), Value.int IntKind.u8 (0), Value.int IntKind.u8 (0), Value.int IntKind.u8 (0), Value.int IntKind.u8 (0), Value.int IntKind.u8 (0), Value.int IntKind.u8 (0), Value.int IntKind.u8 (0), Value.int IntKind.u8 (0), Value.int IntKind.u8 (0), Value.int IntKind.u8 (0), Value.int IntKind.u8 (0), Value.int IntKind.u8 (0), Value.int IntKind.u8 (0), Value.int IntKind.u8 (0), Value.int IntKind.u8 (0), Value.int IntKind.u8 (0), Value.int IntKind.u8 (0), Value.int IntKind.u8 (0), Value.int IntKind.u8 (0), Value.int IntKind.u8 (0), Value.int IntKind.u8 (0), Value.int IntKind.u8 (0), Value.int IntKind.u8 (0), Value.int IntKind.u8 (0), Value.int IntKind.u8 (0), Value.int IntKind.u8 (0), Value.int IntKind.u8 (0), Value.int IntKind.u8 (0), Value.int IntKind.u8 (0), Value.int IntKind.u8 (0), Value.int IntKind.u8 (0), Value.int IntKind.u8 (0), Value.int IntKind.u8 (0), Value.int IntKind.u8 (0), Value.int IntKind.u8 (0), Value.int IntKind.u8 (0), Value.int IntKind.u8 (0), Value.int IntKind.u8 (0), Value.int IntKind.u8 (0), Value.int IntKind.u8 (0), Value.int IntKind.u8 (0), Value.int IntKind.u8 (0), Value.int IntKind.u8 (0), Value.int IntKind.u8 (0), Value.int IntKind.u8 (0), Value.int IntKind.u8 (0), Value.int IntKind.u8 (0), Value.int IntKind.u8 (0), Value.int IntKind.u8 (0), Value.int IntKind.u8 (0), Value.int IntKind.u8 (0), Value.int IntKind.u8 (0), Value.int IntKind.u8 (0), Value.int IntKind.u8 (0), Value.int IntKind.u8 (0), Value.int IntKind.u8 (0), Value.int IntKind.u8 (0), Value.int IntKind.u8 (0), Value.int IntKind.u8 (0), Value.int IntKind.u8 (0), Value.int IntKind.u8 (0), Value.int IntKind.u8 (0), Value.int IntKind.u8 (0), Value.int IntKind.u8 (0), Value.int IntKind.u8 (0), Value.int IntKind.u8 (0), Value.int IntKind.u8 (0), Value.int IntKind.u8 (0), Value.int IntKind.u8 (0), Value.int IntKind.u8 (0), Value.int IntKind.u8 (0), Value.int IntKind.u8 (0), Value.int IntKind.u8 (0), Value.int IntKind.u8 (0), Value.int IntKind.u8 (0), Value.int IntKind.u8 (0), Value.int IntKind.u8 (0), Value.int IntKind.u8 (0), Value.int IntKind.u8 (0), Value.int IntKind.u8 (0), Value.int IntKind.u8 (0), Value.int IntKind.u8 (0), Value.int IntKind.u8 (0), Value.int IntKind.u8 (0), Value.int IntKind.u8 (0), Value.int IntKind.u8 (0), Value.int IntKind.u8 (0), Value.int IntKind.u8 (0), Value.int IntKind.u8 (0), Value.int IntKind.u8 (0), Value.int IntKind.u8 (0), Value.int IntKind.u8 (0), Value.int IntKind.u8 (0), Value.int IntKind.u8 (0), Value.int IntKind.u8 (0), Value.int IntKind.u8 (0), Value.int IntKind.u8 (0), Value.int IntKind.u8 (0), Value.int IntKind.u8 (0), Value.int IntKind.u8 (0), Value.int IntKind.u8 (0), Value.int IntKind.u8 (0), Value.int IntKind.u8 (0), Value.int IntKind.u8 (0), Value.int IntKind.u8 (0), Value.int IntKind.u8 (0), Value.int IntKind.u8 (0), Value.int IntKind.u8 (0), Value.int IntKind.u8 (0), Value.int IntKind.u8 (0), Value.int IntKind.u8 (0), Value.int IntKind.u8 (0), Value.int IntKind.u8 (0), Value.int IntKind.u8 (0), Value.int IntKind.u8 (0), Value.int IntKind.u8 (0), Value.int IntKind.u8 (0), Value.int IntKind.u8 (0), Value.int IntKind.u8 (0), Value.int IntKind.u8 (0), Value.int IntKind.u8 (0), Value.int IntKind.u8 (0), Value.int IntKind.u8 (0), Value.int IntKind.u8 (0), Value.int IntKind.u8 (0), Value.int IntKind.u8 (0), Value.int IntKind.u8 (0), Value.int IntKind.u8 (0), Value.int IntKind.u8 (0), Value.int IntKind.u8 (0), Value.int IntKind.u8 (0), Value.int IntKind.u8 (0), Value.int IntKind.u8 (0), Value.int IntKind.u8 (0), Value.int IntKind.u8 (0), Value.int IntKind.u8 (0), Value.int IntKind.u8 (0), Value.int IntKind.u8 (0), Value.int IntKind.u8 (0), Value.int IntKind.u8 (0), Value.int IntKind.u8 (0), Value.int IntKind.u8 (0), Value.int IntKind.u8 (0), Value.int IntKind.u8 (0), Value.int IntKind.u8 (0), Value.int IntKind.u8 (0), Value.int IntKind.u8 (0), Value.int IntKind.u8 (0), Value.int IntKind.u8 (0), Value.int IntKind.u8 (0), Value.int IntKind.u8 (0), Value.int IntKind.u8 (0), Value.int IntKind.u8 (0), Value.int IntKind.u8 (0), Value.int IntKind.u8 (0), Value.int IntKind.u8 (0), Value.int IntKind.u8 (0), Value.int IntKind.u8 (0), Value.int IntKind.u8 (0), Value.int IntKind.u8 (0), Value.int IntKind.u8 (0), Value.int IntKind.u8 (0), Value.int IntKind.u8 (0), Value.int IntKind.u8 (0), Value.int IntKind.u8 (0), Value.int IntKind.u8 (0), Value.int IntKind.u8 (0), Value.int IntKind.u8 (0), Value.int IntKind.u8 (0), Value.int IntKind.u8 (0), Value.int IntKind.u8 (0), Value.int IntKind.u8 (0), Value.int IntKind.u8 (0), Value.int IntKind.u8 (0), Value.int IntKind.u8 (0), Value.int IntKind.u8 (0), Value.int IntKind.u8 (0), Value.int IntKind.u8 (0), Value.int IntKind.u8 (0), Value.int IntKind.u8 (0), Value.int IntKind.u8 (0), Value.int IntKind.u8 (0), Value.int IntKind.u8 (0), Value.int IntKind.u8 (0), Value.int IntKind.u8 (0), Value.int IntKind.u8 (0), Value.int IntKind.u8 (0), Value.int IntKind.u8 (0), Value.int IntKind.u8 (0), Value.int IntKind.u8 (0), Value.int IntKind.u8 (0), Value.int IntKind.u8 (0), Value.int IntKind.u8 (0), Value.int IntKind.u8 (0), Value.int IntKind.u8 (0), Value.int IntKind.u8 (0), Value.int IntKind.u8 (0), Value.int IntKind.u8 (0), Value.int IntKind.u8 (0), Value.int IntKind.u8 (0), Value.int IntKind.u8 (0), Value.int IntKind.u8 (0), Value.int IntKind.u8 (0), Value.int IntKind.u8 (0), Value.int IntKind.u8 (0), Value.int IntKind.u8 (0), Value.int IntKind.u8 (0), Value.int IntKind.u8 (0), Value.int IntKind.u8 (0), Value.int IntKind.u8 (0), Value.int IntKind.u8 (0), Value.int IntKind.u8 (0), Value.int IntKind.u8 (0), Value.int IntKind.u8 (0), Value.int IntKind.u8 (0), Value.int IntKind.u8 (0), Value.int IntKind.u8 (0), Value.int IntKind.u8 (0), Value.int IntKind.u8 (0), Value.int IntKind.u8 (0), Value.int IntKind.u8 (0), Value.int IntKind.u8 (0), Value.int IntKind.u8 (0), Value.int IntKind.u8 (0), Value.int IntKind.u8 (0), Value.int IntKind.u8 (0), Value.int IntKind.u8 (0), Value.int IntKind.u8 (0), Value.int IntKind.u8 (0), Value.int IntKind.u8 (0), Value.int IntKind.u8 (0), Value.int IntKind.u8 (0), Value.int IntKind.u8 (0), Value.int IntKind.u8 (0), Value.int IntKind.u8 (0), Value.int IntKind.u8 (0), Value.int IntKind.u8 (0), Value.int IntKind.u8 (0), Value.int IntKind.u8 (0), Value.int IntKind.u8 (0), Value.int IntKind.u8 (0), Value.int IntKind.u8 (0), Value.int IntKind.u8 (0), Value.int IntKind.u8 (0)].toArray) := ⟨by kernel_rfl⟩
instance : TyU Tryd.prog 80 (TypeDesc.struct #[{ name := "lo", type := 5, offset := 0, embedded := false, tag := "", pkgPath := "unicode/utf8", byteOffset := 0 }, { name := "hi", type := 5, offset := 1, embedded := false, tag := "", pkgPath := "unicode/utf8", byteOffset := 1 }]) := ⟨Tryd.underlying80⟩
instance : TyI Tryd.prog 80 2 2 (Value.agg [Value.int IntKind.u8 (0), Value.int IntKind.u8 (0)].toArray) := ⟨by kernel_rfl⟩
instance : TyU Tryd.prog 81 (TypeDesc.struct #[{ name := "lo", type := 5, offset := 0, embedded := false, tag := "", pkgPath := "unicode/utf8", byteOffset := 0 }, { name := "hi", type := 5, offset := 1, embedded := false, tag := "", pkgPath := "unicode/utf8", byteOffset := 1 }]) := ⟨Tryd.underlying81⟩
instance : TyI Tryd.prog 81 2 2 (Value.agg [Value.int IntKind.u8 (0), Value.int IntKind.u8 (0)].toArray) := ⟨by kernel_rfl⟩
instance : TyU Tryd.prog 82 (TypeDesc.array 16 81) := ⟨Tryd.underlying82⟩
instance : TyI Tryd.prog 82 32 32 (Value.agg [Value.int IntKind.u8 (0), Value.int IntKind.u8 (0), Value.int IntKind.u8 (0), Value.int IntKind.u8 (0), Value.int IntKind.u8 (0), Value.int IntKind.u8 (0), Value.int IntKind.u8 (0), Value.int IntKind.u8 (0), Value.int IntKind.u8 (0), Value.int IntKind.u8 (0), Value.int IntKind.u8 (0), Value.int IntKind.u8 (0), Value.int IntKind.u8 (0), Value.int IntKind.u8 (0), Value.int IntKind.u8 (0), Value.int IntKind.u8 (0), Value.int IntKind.u8 (0), Value.int IntKind.u8 (0), Value.int IntKind.u8 (0), Value.int IntKind.u8 (0), Value.int IntKind.u8 (0), Value.int IntKind.u8 (0), Value.int IntKind.u8 (0), Value.int IntKind.u8 (0), Value.int IntKind.u8 (0), Value.int IntKind.u8 (0), Value.int IntKind.u8 (0), Value.int IntKind.u8 (0), Value.int IntKind.u8 (0), Value.int IntKind.u8 (0), Value.int IntKind.u8 (0), Value.int IntKind.u8 (0)].toArray) := ⟨by kernel_rfl⟩
instance : TyU Tryd.prog 83 (TypeDesc.int IntKind.u64) := ⟨Tryd.underlying83⟩
instance : TyI Tryd.prog 83 1 8 (Value.int IntKind.u64 (0)) := ⟨by kernel_rfl⟩
instance : TyU Tryd.prog 84 (TypeDesc.map 5 5) := ⟨Tryd.underlying84⟩
instance : TyI Tryd.prog 84 1 8 (Value.map none) := ⟨by kernel_rfl⟩
instance : TyU Tryd.prog 85 (TypeDesc.func #[] #[84] false) := ⟨Tryd.underlying85⟩
instance : TyI Tryd.prog 85 1 8 (Value.nilFunc) := ⟨by kernel_rfl⟩
instance : TyU Tryd.prog 86 (TypeDesc.tuple #[5, 4]) := ⟨Tryd.underlying86⟩
instance : TyI Tryd.prog 86 1 0 (Value.tuple [Value.int IntKind.u8 (0), Value.bool false].toArray) := ⟨by kernel_rfl⟩
instance : TyU Tryd.prog 87 (TypeDesc.func #[9, 3, 9] #[4] false) := ⟨Tryd.underlying87⟩
instance : TyI Tryd.prog 87 1 8 (Value.nilFunc) := ⟨by kernel_rfl⟩
instance : TyU Tryd.prog 88 (TypeDesc.tuple #[9, 3]) := ⟨Tryd.underlying88⟩
instance : TyI Tryd.prog 88 1 0 (Value.tuple [Value.string ⟨#[]⟩, Value.int IntKind.i64 (0)].toArray) := ⟨by kernel_rfl⟩
instance : TyU Tryd.prog 89 (TypeDesc.func #[9, 3] #[9, 3] false) := ⟨Tryd.underlying89⟩
instance : TyI Tryd.prog 89 1 8 (Value.nilFunc) := ⟨by kernel_rfl⟩
instance : TyU Tryd.prog 90 (TypeDesc.func #[9] #[26] false) := ⟨Tryd.underlying90⟩
instance : TyI Tryd.prog 90 1 8 (Value.nilFunc) := ⟨by kernel_rfl⟩
instance : TyU Tryd.prog 91 (TypeDesc.func #[9, 3, 3, 3, 5] #[26, 3] false) := ⟨Tryd.underlying91⟩
instance : TyI Tryd.prog 91 1 8 (Value.nilFunc) := ⟨by kernel_rfl⟩
instance : TyU Tryd.prog 92 (TypeDesc.func #[9, 3] #[26, 3] false) := ⟨Tryd.underlying92⟩
instance : TyI Tryd.prog 92 1 8 (Value.nilFunc) := ⟨by kernel_rfl⟩
instance : TyU Tryd.prog 93 (TypeDesc.tuple #[9, 4]) := ⟨Tryd.underlying93⟩
instance : TyI Tryd.prog 93 1 0 (Value.tuple [Value.string ⟨#[]⟩, Value.bool false].toArray) := ⟨by kernel_rfl⟩
instance : TyU Tryd.prog 94 (TypeDesc.func #[9, 9] #[9, 4] false) := ⟨Tryd.underlying94⟩
instance : TyI Tryd.prog 94 1 8 (Value.nilFunc) := ⟨by kernel_rfl⟩
instance : TyU Tryd.prog 95 (TypeDesc.func #[9] #[] false) := ⟨Tryd.underlying95⟩
instance : TyI Tryd.prog 95 1 8 (Value.nilFunc) := ⟨by kernel_rfl⟩
instance : TyU Tryd.prog 96 (TypeDesc.func #[] #[5] false) := ⟨Tryd.underlying96⟩
instance : TyI Tryd.prog 96 1 8 (Value.nilFunc) := ⟨by kernel_rfl⟩
instance : TyU Tryd.prog 97 (TypeDesc.interface #[("Error", 76)]) := ⟨Tryd.underlying97⟩
instance : TyI Tryd.prog 97 1 16 (Value.nilIface) := ⟨by kernel_rfl⟩
instance : TyU Tryd.prog 98 (TypeDesc.interface #[("Error", 76)]) := ⟨Tryd.underlying98⟩
instance : TyI Tryd.prog 98 1 16 (Value.nilIface) := ⟨by kernel_rfl⟩
instance : TyU Tryd.prog 99 (TypeDesc.tuple #[3, 98]) := ⟨Tryd.underlying99⟩
instance : TyI Tryd.prog 99 1 0 (Value.tuple [Value.int IntKind.i64 (0), Value.nilIface].toArray) := ⟨by kernel_rfl⟩
instance : TyU Tryd.prog 100 (TypeDesc.func #[9] #[3, 98] false) := ⟨Tryd.underlying100⟩
instance : TyI Tryd.prog 100 1 8 (Value.nilFunc) := ⟨by kernel_rfl⟩
instance : TyU Tryd.prog 101 (TypeDesc.int IntKind.u64) := ⟨Tryd.underlying101⟩
instance : TyI Tryd.prog 101 1 8 (Value.int IntKind.u64 (0)) := ⟨by kernel_rfl⟩
instance : TyU Tryd.prog 102 (TypeDesc.func #[5, 5] #[5, 4] false) := ⟨Tryd.underlying102⟩
instance : TyI Tryd.prog 102 1 8 (Value.nilFunc) := ⟨by kernel_rfl⟩
instance : TyU Tryd.prog 103 (TypeDesc.func #[24, 37] #[4] false) := ⟨Tryd.underlying103⟩
instance : TyI Tryd.prog 103 1 8 (Value.nilFunc) := ⟨by kernel_rfl⟩
instance : TyU Tryd.prog 104 (TypeDesc.func #[43, 101, 3] #[43] false) := ⟨Tryd.underlying104⟩
instance : TyI Tryd.prog 104 1 8 (Value.nilFunc) := ⟨by kernel_rfl⟩
instance : TyU Tryd.prog 105 (TypeDesc.func #[2, 3] #[9] false) := ⟨Tryd.underlying105⟩
instance : TyI Tryd.prog 105 1 8 (Value.nilFunc) := ⟨by kernel_rfl⟩
instance : TyU Tryd.prog 106 (TypeDesc.tuple #[101, 98]) := ⟨Tryd.underlying106⟩
instance : TyI Tryd.prog 106 1 0 (Value.tuple [Value.int IntKind.u64 (0), Value.nilIface].toArray) := ⟨by kernel_rfl⟩
instance : TyU Tryd.prog 107 (TypeDesc.func #[9, 3, 3] #[101, 98] false) := ⟨Tryd.underlying107⟩
instance : TyI Tryd.prog 107 1 8 (Value.nilFunc) := ⟨by kernel_rfl⟩
instance : TyU Tryd.prog 108 (TypeDesc.func #[9, 9, 3, 3, 98] #[98] false) := ⟨Tryd.underlying108⟩
instance : TyI Tryd.prog 108 1 8 (Value.nilFunc) := ⟨by kernel_rfl⟩
instance : TyU Tryd.prog 109 (TypeDesc.func #[24, 37] #[3] false) := ⟨Tryd.underlying109⟩
instance : TyI Tryd.prog 109 1 8 (Value.nilFunc) := ⟨by kernel_rfl⟩
instance : TyU Tryd.prog 110 (TypeDesc.array 24 5) := ⟨Tryd.underlying110⟩
instance : TyI Tryd.prog 110 24 24 (Value.agg [Value.int IntKind.u8 (0), Value.int IntKind.u8 (0), Value.int IntKind.u8 (0), Value.int IntKind.u8 (0), Value.int IntKind.u8 (0), Value.int IntKind.u8 (0), Value.int IntKind.u8 (0), Value.int IntKind.u8 (0), Value.int IntKind.u8 (0), Value.int IntKind.u8 (0), Value.int IntKind.u8 (0), Value.int IntKind.u8 (0), Value.int IntKind.u8 (0), Value.int IntKind.u8 (0), Value.int IntKind.u8 (0), Value.int IntKind.u8 (0), Value.int IntKind.u8 (0), Value.int IntKind.u8 (0), Value.int IntKind.u8 (0), Value.int IntKind.u8 (0), Value.int IntKind.u8 (0), Value.int IntKind.u8 (0), Value.int IntKind.u8 (0), Value.int IntKind.u8 (0)].toArray) := ⟨by kernel_rfl⟩
instance : TyU Tryd.prog 111 (TypeDesc.func #[101] #[3] false) := ⟨Tryd.underlying111⟩
instance : TyI Tryd.prog 111 1 8 (Value.nilFunc) := ⟨by kernel_rfl⟩
instance : TyU Tryd.prog 112 (TypeDesc.func #[43, 101] #[] false) := ⟨Tryd.underlying112⟩
instance : TyI Tryd.prog 112 1 8 (Value.nilFunc) := ⟨by kernel_rfl⟩
instance : TyU Tryd.prog 113 (TypeDesc.tuple #[43, 9]) := ⟨Tryd.underlying113⟩
instance : TyI Tryd.prog 113 1 0 (Value.tuple [Value.slice none 0 0, Value.string ⟨#[]⟩].toArray) := ⟨by kernel_rfl⟩
instance : TyU Tryd.prog 114 (TypeDesc.func #[43, 101, 3, 4, 4] #[43, 9] false) := ⟨Tryd.underlying114⟩
instance : TyI Tryd.prog 114 1 8 (Value.nilFunc) := ⟨by kernel_rfl⟩
instance : TyU Tryd.prog 115 (TypeDesc.int IntKind.i64) := ⟨Tryd.underlying115⟩
instance : TyI Tryd.prog 115 1 8 (Value.int IntKind.i64 (0)) := ⟨by kernel_rfl⟩
instance : TyU Tryd.prog 116 (TypeDesc.tuple #[2, 98]) := ⟨Tryd.underlying116⟩
instance : TyI Tryd.prog 116 1 0 (Value.tuple [Value.int IntKind.i64 (0), Value.nilIface].toArray) := ⟨by kernel_rfl⟩
instance : TyU Tryd.prog 117 (TypeDesc.func #[9, 3, 3] #[2, 98] false) := ⟨Tryd.underlying117⟩
instance : TyI Tryd.prog 117 1 8 (Value.nilFunc) := ⟨by kernel_rfl⟩
instance : TyU Tryd.prog 118 (TypeDesc.pointer 129) := ⟨Tryd.underlying118⟩
instance : TyI Tryd.prog 118 1 8 (Value.pointer none) := ⟨by kernel_rfl⟩
instance : TyU Tryd.prog 119 (TypeDesc.func #[9, 9] #[118] false) := ⟨Tryd.underlying119⟩
instance : TyI Tryd.prog 119 1 8 (Value.nilFunc) := ⟨by kernel_rfl⟩
instance : TyU Tryd.prog 120 (TypeDesc.func #[9, 9, 3] #[118] false) := ⟨Tryd.underlying120⟩
instance : TyI Tryd.prog 120 1 8 (Value.nilFunc) := ⟨by kernel_rfl⟩
instance : TyU Tryd.prog 121 (TypeDesc.func #[4] #[3] false) := ⟨Tryd.underlying121⟩
instance : TyI Tryd.prog 121 1 8 (Value.nilFunc) := ⟨by kernel_rfl⟩
instance : TyU Tryd.prog 122 (TypeDesc.array 20 101) := ⟨Tryd.underlying122⟩
instance : TyI Tryd.prog 122 20 160 (Value.agg [Value.int IntKind.u64 (0), Value.int IntKind.u64 (0), Value.int IntKind.u64 (0), Value.int IntKind.u64 (0), Value.int IntKind.u64 (0), Value.int IntKind.u64 (0), Value.int IntKind.u64 (0), Value.int IntKind.u64 (0), Value.int IntKind.u64 (0), Value.int IntKind.u64 (0), Value.int IntKind.u64 (0), Value.int IntKind.u64 (0), Value.int IntKind.u64 (0), Value.int IntKind.u64 (0), Value.int IntKind.u64 (0), Value.int IntKind.u64 (0), Value.int IntKind.u64 (0), Value.int IntKind.u64 (0), Value.int IntKind.u64 (0), Value.int IntKind.u64 (0)].toArray) := ⟨by kernel_rfl⟩
instance : TyU Tryd.prog 123 (TypeDesc.int IntKind.u32) := ⟨Tryd.underlying123⟩
instance : TyI Tryd.prog 123 1 4 (Value.int IntKind.u32 (0)) := ⟨by kernel_rfl⟩
instance : TyU Tryd.prog 124 (TypeDesc.array 65 5) := ⟨Tryd.underlying124⟩
instance : TyI Tryd.prog 124 65 65 (Value.agg [Value.int IntKind.u8 (0), Value.int IntKind.u8 (0), Value.int IntKind.u8 (0), Value.int IntKind.u8 (0), Value.int IntKind.u8 (0), Value.int IntKind.u8 (0), Value.int IntKind.u8 (0), Value.int IntKind.u8 (0), Value.int IntKind.u8 (0), Value.int IntKind.u8 (0), Value.int IntKind.u8 (0), Value.int IntKind.u8 (0), Value.int IntKind.u8 (0), Value.int IntKind.u8 (0), Value.int IntKind.u8 (0), Value.int IntKind.u8 (0), Value.int IntKind.u8 (0), Value.int IntKind.u8 (0), Value.int IntKind.u8 (0), Value.int IntKind.u8 (0), Value.int IntKind.u8 (0), Value.int IntKind.u8 (0), Value.int IntKind.u8 (0), Value.int IntKind.u8 (0), Value.int IntKind.u8 (0), Value.int IntKind.u8 (0), Value.int IntKind.u8 (0), Value.int IntKind.u8 (0), Value.int IntKind.u8 (0), Value.int IntKind.u8 (0), Value.int IntKind.u8 (0), Value.int IntKind.u8 (0), Value.int IntKind.u8 (0), Value.int IntKind.u8 (0), Value.int IntKind.u8 (0), Value.int IntKind.u8 (0), Value.int IntKind.u8 (0), Value.int IntKind.u8 (0), Value.int IntKind.u8 (0), Value.int IntKind.u8 (0), Value.int IntKind.u8 (0), Value.int IntKind.u8 (0), Value.int IntKind.u8 (0), Value.int IntKind.u8 (0), Value.int IntKind.u8 (0), Value.int IntKind.u8 (0), Value.int IntKind.u8 (0), Value.int IntKind.u8 (0), Value.int IntKind.u8 (0), Value.int IntKind.u8 (0), Value.int IntKind.u8 (0), Value.int IntKind.u8 (0), Value.int IntKind.u8 (0), Value.int IntKind.u8 (0), Value.int IntKind.u8 (0), Value.int IntKind.u8 (0), Value.int IntKind.u8 (0), Value.int IntKind.u8 (0), Value.int IntKind.u8 (0), Value.int IntKind.u8 (0), Value.int IntKind.u8 (0), Value.int IntKind.u8 (0), Value.int IntKind.u8 (0), Value.int IntKind.u8 (0), Value.int IntKind.u8 (0)].toArray) := ⟨by kernel_rfl⟩
instance : TyU Tryd.prog 125 (TypeDesc.func #[3] #[4] false) := ⟨Tryd.underlying125⟩
instance : TyI Tryd.prog 125 1 8 (Value.nilFunc) := ⟨by kernel_rfl⟩
instance : TyU Tryd.prog 126 (TypeDesc.func #[83] #[3] false) := ⟨Tryd.underlying126⟩
instance : TyI Tryd.prog 126 1 8 (Value.nilFunc) := ⟨by kernel_rfl⟩
instance : TyU Tryd.prog 127 (TypeDesc.func #[5] #[5] false) := ⟨Tryd.underlying127⟩
instance : TyI Tryd.prog 127 1 8 (Value.nilFunc) := ⟨by kernel_rfl⟩
instance : TyU Tryd.prog 128 (TypeDesc.struct #[{ name := "Func", type := 9, offset := 0, embedded := false, tag := "", pkgPath := "", byteOffset := 0 }, { name := "Num", type := 9, offset := 1, embedded := false, tag := "", pkgPath := "", byteOffset := 16 }, { name := "Err", type := 98, offset := 2, embedded := false, tag := "", pkgPath := "", byteOffset := 32 }]) := ⟨Tryd.underlying128⟩
instance : TyI Tryd.prog 128 3 48 (Value.agg [Value.string ⟨#[]⟩, Value.string ⟨#[]⟩, Value.nilIface].toArray) := ⟨by kernel_rfl⟩
instance : TyU Tryd.prog 129 (TypeDesc.struct #[{ name := "Func", type := 9, offset := 0, embedded := false, tag := "", pkgPath := "", byteOffset := 0 }, { name := "Num", type := 9, offset := 1, embedded := false, tag := "", pkgPath := "", byteOffset := 16 }, { name := "Err", type := 98, offset := 2, embedded := false, tag := "", pkgPath := "", byteOffset := 32 }]) := ⟨Tryd.underlying129⟩
instance : TyI Tryd.prog 129 3 48 (Value.agg [Value.string ⟨#[]⟩, Value.string ⟨#[]⟩, Value.nilIface].toArray) := ⟨by kernel_rfl⟩
instance : TyU Tryd.prog 130 (TypeDesc.func #[9] #[98] false) := ⟨Tryd.underlying130⟩
instance : TyI Tryd.prog 130 1 8 (Value.nilFunc) := ⟨by kernel_rfl⟩
instance : TyU Tryd.prog 131 (TypeDesc.func #[123] #[3] false) := ⟨Tryd.underlying131⟩
instance : TyI Tryd.prog 131 1 8 (Value.nilFunc) := ⟨by kernel_rfl⟩
instance : TyU Tryd.prog 132 (TypeDesc.pointer 5) := ⟨Tryd.underlying132⟩
instance : TyI Tryd.prog 132 1 8 (Value.pointer none) := ⟨by kernel_rfl⟩
instance : TyU Tryd.prog 133 (TypeDesc.pointer 135) := ⟨Tryd.underlying133⟩
instance : TyI Tryd.prog 133 1 8 (Value.pointer none) := ⟨by kernel_rfl⟩
instance : TyU Tryd.prog 134 (TypeDesc.struct #[{ name := "s", type := 9, offset := 0, embedded := false, tag := "", pkgPath := "errors", byteOffset := 0 }]) := ⟨Tryd.underlying134⟩
instance : TyI Tryd.prog 134 1 16 (Value.agg [Value.string ⟨#[]⟩].toArray) := ⟨by kernel_rfl⟩
instance : TyU Tryd.prog 135 (TypeDesc.struct #[{ name := "s", type := 9, offset := 0, embedded := false, tag := "", pkgPath := "errors", byteOffset := 0 }]) := ⟨Tryd.underlying135⟩
instance : TyI Tryd.prog 135 1 16 (Value.agg [Value.string ⟨#[]⟩].toArray) := ⟨by kernel_rfl⟩
instance : TyU Tryd.prog 136 (TypeDesc.array 32 5) := ⟨Tryd.underlying136⟩
instance : TyI Tryd.prog 136 32 32 (Value.agg [Value.int IntKind.u8 (0), Value.int IntKind.u8 (0), Value.int IntKind.u8 (0), Value.int IntKind.u8 (0), Value.int IntKind.u8 (0), Value.int IntKind.u8 (0), Value.int IntKind.u8 (0), Value.int IntKind.u8 (0), Value.int IntKind.u8 (0), Value.int IntKind.u8 (0), Value.int IntKind.u8 (0), Value.int IntKind.u8 (0), Value.int IntKind.u8 (0), Value.int IntKind.u8 (0), Value.int IntKind.u8 (0), Value.int IntKind.u8 (0), Value.int IntKind.u8 (0), Value.int IntKind.u8 (0), Value.int IntKind.u8 (0), Value.int IntKind.u8 (0), Value.int IntKind.u8 (0), Value.int IntKind.u8 (0), Value.int IntKind.u8 (0), Value.int IntKind.u8 (0), Value.int IntKind.u8 (0), Value.int IntKind.u8 (0), Value.int IntKind.u8 (0), Value.int IntKind.u8 (0), Value.int IntKind.u8 (0), Value.int IntKind.u8 (0), Value.int IntKind.u8 (0), Value.int IntKind.u8 (0)].toArray) := ⟨by kernel_rfl⟩
instance : TyU Tryd.prog 137 (TypeDesc.array 64 5) := ⟨Tryd.underlying137⟩
instance : TyI Tryd.prog 137 64 64 (Value.agg [Value.int IntKind.u8 (0), Value.int IntKind.u8 (0), Value.int IntKind.u8 (0), Value.int IntKind.u8 (0), Value.int IntKind.u8 (0), Value.int IntKind.u8 (0), Value.int IntKind.u8 (0), Value.int IntKind.u8 (0), Value.int IntKind.u8 (0), Value.int IntKind.u8 (0), Value.int IntKind.u8 (0), Value.int IntKind.u8 (0), Value.int IntKind.u8 (0), Value.int IntKind.u8 (0), Value.int IntKind.u8 (0), Value.int IntKind.u8 (0), Value.int IntKind.u8 (0), Value.int IntKind.u8 (0), Value.int IntKind.u8 (0), Value.int IntKind.u8 (0), Value.int IntKind.u8 (0), Value.int IntKind.u8 (0), Value.int IntKind.u8 (0), Value.int IntKind.u8 (0), Value.int IntKind.u8 (0), Value.int IntKind.u8 (0), Value.int IntKind.u8 (0), Value.int IntKind.u8 (0), Value.int IntKind.u8 (0), Value.int IntKind.u8 (0), Value.int IntKind.u8 (0), Value.int IntKind.u8 (0), Value.int IntKind.u8 (0), Value.int IntKind.u8 (0), Value.int IntKind.u8 (0), Value.int IntKind.u8 (0), Value.int IntKind.u8 (0), Value.int IntKind.u8 (0), Value.int IntKind.u8 (0), Value.int IntKind.u8 (0), Value.int IntKind.u8 (0), Value.int IntKind.u8 (0), Value.int IntKind.u8 (0), Value.int IntKind.u8 (0), Value.int IntKind.u8 (0), Value.int IntKind.u8 (0), Value.int IntKind.u8 (0), Value.int IntKind.u8 (0), Value.int IntKind.u8 (0), Value.int IntKind.u8 (0), Value.int IntKind.u8 (0), Value.int IntKind.u8 (0), Value.int IntKind.u8 (0), Value.int IntKind.u8 (0), Value.int IntKind.u8 (0), Value.int IntKind.u8 (0), Value.int IntKind.u8 (0), Value.int IntKind.u8 (0), Value.int IntKind.u8 (0), Value.int IntKind.u8 (0), Value.int IntKind.u8 (0), Value.int IntKind.u8 (0), Value.int IntKind.u8 (0), Value.int IntKind.u8 (0)].toArray) := ⟨by kernel_rfl⟩
instance : TyU Tryd.prog 138 (TypeDesc.struct #[{ name := "_interface", type := 17, offset := 0, embedded := false, tag := "", pkgPath := "runtime", byteOffset := 0 }, { name := "concrete", type := 17, offset := 1, embedded := false, tag := "", pkgPath := "runtime", byteOffset := 8 }, { name := "asserted", type := 17, offset := 2, embedded := false, tag := "", pkgPath := "runtime", byteOffset := 16 }, { name := "missingMethod", type := 9, offset := 3, embedded := false, tag := "", pkgPath := "runtime", byteOffset := 24 }]) := ⟨Tryd.underlying138⟩
instance : TyI Tryd.prog 138 4 40 (Value.agg [Value.pointer none, Value.pointer none, Value.pointer none, Value.string ⟨#[]⟩].toArray) := ⟨by kernel_rfl⟩
instance : TyU Tryd.prog 139 (TypeDesc.struct #[{ name := "_interface", type := 17, offset := 0, embedded := false, tag := "", pkgPath := "runtime", byteOffset := 0 }, { name := "concrete", type := 17, offset := 1, embedded := false, tag := "", pkgPath := "runtime", byteOffset := 8 }, { name := "asserted", type := 17, offset := 2, embedded := false, tag := "", pkgPath := "runtime", byteOffset := 16 }, { name := "missingMethod", type := 9, offset := 3, embedded := false, tag := "", pkgPath := "runtime", byteOffset := 24 }]) := ⟨Tryd.underlying139⟩
instance : TyI Tryd.prog 139 4 40 (Value.agg [Value.pointer none, Value.pointer none, Value.pointer none, Value.string ⟨#[]⟩].toArray) := ⟨by kernel_rfl⟩
instance : TyU Tryd.prog 140 (TypeDesc.array 0 16) := ⟨Tryd.underlying140⟩
instance : TyI Tryd.prog 140 0 0 (Value.agg [].toArray) := ⟨by kernel_rfl⟩
instance : TyU Tryd.prog 141 (TypeDesc.struct #[{ name := "_", type := 140, offset := 0, embedded := false, tag := "", pkgPath := "runtime", byteOffset := 0 }]) := ⟨Tryd.underlying141⟩
instance : TyI Tryd.prog 141 0 0 (Value.agg [].toArray) := ⟨by kernel_rfl⟩
instance : TyU Tryd.prog 142 (TypeDesc.struct #[{ name := "_", type := 140, offset := 0, embedded := false, tag := "", pkgPath := "runtime", byteOffset := 0 }]) := ⟨Tryd.underlying142⟩
instance : TyI Tryd.prog 142 0 0 (Value.agg [].toArray) := ⟨by kernel_rfl⟩
instance : TyU Tryd.prog 143 (TypeDesc.int IntKind.u8) := ⟨Tryd.underlying143⟩
instance : TyI Tryd.prog 143 1 1 (Value.int IntKind.u8 (0)) := ⟨by kernel_rfl⟩
instance : TyU Tryd.prog 144 (TypeDesc.int IntKind.u8) := ⟨Tryd.underlying144⟩
instance : TyI Tryd.prog 144 1 1 (Value.int IntKind.u8 (0)) := ⟨by kernel_rfl⟩
instance : TyU Tryd.prog 145 (TypeDesc.func #[150, 150] #[4] false) := ⟨Tryd.underlying145⟩
instance : TyI Tryd.prog 145 1 8 (Value.nilFunc) := ⟨by kernel_rfl⟩
instance : TyU Tryd.prog 146 (TypeDesc.int IntKind.i32) := ⟨Tryd.underlying146⟩
instance : TyI Tryd.prog 146 1 4 (Value.int IntKind.i32 (0)) := ⟨by kernel_rfl⟩
instance : TyU Tryd.prog 147 (TypeDesc.int IntKind.i32) := ⟨Tryd.underlying147⟩
instance : TyI Tryd.prog 147 1 4 (Value.int IntKind.i32 (0)) := ⟨by kernel_rfl⟩
instance : TyU Tryd.prog 148 (TypeDesc.struct #[{ name := "Size_", type := 12, offset := 0, embedded := false, tag := "", pkgPath := "", byteOffset := 0 }, { name := "PtrBytes", type := 12, offset := 1, embedded := false, tag := "", pkgPath := "", byteOffset := 8 }, { name := "Hash", type := 123, offset := 2, embedded := false, tag := "", pkgPath := "", byteOffset := 16 }, { name := "TFlag", type := 143, offset := 3, embedded := false, tag := "", pkgPath := "", byteOffset := 20 }, { name := "Align_", type := 5, offset := 4, embedded := false, tag := "", pkgPath := "", byteOffset := 21 }, { name := "FieldAlign_", type := 5, offset := 5, embedded := false, tag := "", pkgPath := "", byteOffset := 22 }, { name := "Kind_", type := 144, offset := 6, embedded := false, tag := "", pkgPath := "", byteOffset := 23 }, { name := "Equal", type := 145, offset := 7, embedded := false, tag := "", pkgPath := "", byteOffset := 24 }, { name := "GCData", type := 132, offset := 8, embedded := false, tag := "", pkgPath := "", byteOffset := 32 }, { name := "Str", type := 146, offset := 9, embedded := false, tag := "", pkgPath := "", byteOffset := 40 }, { name := "PtrToThis", type := 147, offset := 10, embedded := false, tag := "", pkgPath := "", byteOffset := 44 }]) := ⟨Tryd.underlying148⟩
instance : TyI Tryd.prog 148 11 48 (Value.agg [Value.int IntKind.u64 (0), Value.int IntKind.u64 (0), Value.int IntKind.u32 (0), Value.int IntKind.u8 (0), Value.int IntKind.u8 (0), Value.int IntKind.u8 (0), Value.int IntKind.u8 (0), Value.nilFunc, Value.pointer none, Value.int IntKind.i32 (0), Value.int IntKind.i32 (0)].toArray) := ⟨by kernel_rfl⟩
instance : TyU Tryd.prog 149 (TypeDesc.struct #[{ name := "Size_", type := 12, offset := 0, embedded := false, tag := "", pkgPath := "", byteOffset := 0 }, { name := "PtrBytes", type := 12, offset := 1, embedded := false, tag := "", pkgPath := "", byteOffset := 8 }, { name := "Hash", type := 123, offset := 2, embedded := false, tag := "", pkgPath := "", byteOffset := 16 }, { name := "TFlag", type := 143, offset := 3, embedded := false, tag := "", pkgPath := "", byteOffset := 20 }, { name := "Align_", type := 5, offset := 4, embedded := false, tag := "", pkgPath := "", byteOffset := 21 }, { name := "FieldAlign_", type := 5, offset := 5, embedded := false, tag := "", pkgPath := "", byteOffset := 22 }, { name := "Kind_", type := 144, offset := 6, embedded := false, tag := "", pkgPath := "", byteOffset := 23 }, { name := "Equal", type := 145, offset := 7, embedded := false, tag := "", pkgPath := "", byteOffset := 24 }, { name := "GCData", type := 132, offset := 8, embedded := false, tag := "", pkgPath := "", byteOffset := 32 }, { name := "Str", type := 146, offset := 9, embedded := false, tag := "", pkgPath := "", byteOffset := 40 }, { name := "PtrToThis", type := 147, offset := 10, embedded := false, tag := "", pkgPath := "", byteOffset := 44 }]) := ⟨Tryd.underlying149⟩
instance : TyI Tryd.prog 149 11 48 (Value.agg [Value.int IntKind.u64 (0), Value.int IntKind.u64 (0), Value.int IntKind.u32 (0), Value.int IntKind.u8 (0), Value.int IntKind.u8 (0), Value.int IntKind.u8 (0), Value.int IntKind.u8 (0), Value.nilFunc, Value.pointer none, Value.int IntKind.i32 (0), Value.int IntKind.i32 (0)].toArray) := ⟨by kernel_rfl⟩
instance : TyU Tryd.prog 150 TypeDesc.unsafePointer := ⟨Tryd.underlying150⟩
instance : TyI Tryd.prog 150 1 8 (Value.pointer none) := ⟨by kernel_rfl⟩
instance : FnB Tryd.prog 3 := ⟨⟨Tryd.f3, Tryd.func3, by kernel_rfl, by kernel_rfl⟩⟩   -- keyevent/keyeventlaw06.JsonWrites
instance : FnB Tryd.prog 4 := ⟨⟨Tryd.f4, Tryd.func4, by kernel_rfl, by kernel_rfl⟩⟩   -- keyevent/keyeventlaw06.JsonBack
instance : FnB Tryd.prog 5 := ⟨⟨Tryd.f5, Tryd.func5, by kernel_rfl, by kernel_rfl⟩⟩   -- keyevent/keyeventlaw06.JsonOnce
instance : FnB Tryd.prog 6 := ⟨⟨Tryd.f6, Tryd.func6, by kernel_rfl, by kernel_rfl⟩⟩   -- keyevent/keyeventlaw06.JsonQuotes
instance : FnB Tryd.prog 7 := ⟨⟨Tryd.f7, Tryd.func7, by kernel_rfl, by kernel_rfl⟩⟩   -- keyevent/keyeventlaw06.JsonReads
instance : FnB Tryd.prog 8 := ⟨⟨Tryd.f8, Tryd.func8, by kernel_rfl, by kernel_rfl⟩⟩   -- keyevent/keyeventkit.Light
instance : FnB Tryd.prog 9 := ⟨⟨Tryd.f9, Tryd.func9, by kernel_rfl, by kernel_rfl⟩⟩   -- keyevent/keyeventlaw06.awake
instance : FnB Tryd.prog 10 := ⟨⟨Tryd.f10, Tryd.func10, by kernel_rfl, by kernel_rfl⟩⟩   -- keyevent/keyeventkit.Roll
instance : FnB Tryd.prog 11 := ⟨⟨Tryd.f11, Tryd.func11, by kernel_rfl, by kernel_rfl⟩⟩   -- keyevent/keyeventkit.Node
instance : FnB Tryd.prog 12 := ⟨⟨Tryd.f12, Tryd.func12, by kernel_rfl, by kernel_rfl⟩⟩   -- keyevent/keyeventkit.Map
instance : FnB Tryd.prog 13 := ⟨⟨Tryd.f13, Tryd.func13, by kernel_rfl, by kernel_rfl⟩⟩   -- (*keyevent/keyeventkit.Dice).Next
instance : FnB Tryd.prog 14 := ⟨⟨Tryd.f14, Tryd.func14, by kernel_rfl, by kernel_rfl⟩⟩   -- keyevent/json.Encode
instance : FnB Tryd.prog 15 := ⟨⟨Tryd.f15, Tryd.func15, by kernel_rfl, by kernel_rfl⟩⟩   -- keyevent/keyeventref06.Encode
instance : FnB Tryd.prog 16 := ⟨⟨Tryd.f16, Tryd.func16, by kernel_rfl, by kernel_rfl⟩⟩   -- keyevent/keyeventref05.Valid
instance : FnB Tryd.prog 17 := ⟨⟨Tryd.f17, Tryd.func17, by kernel_rfl, by kernel_rfl⟩⟩   -- keyevent/json.Decode
instance : FnB Tryd.prog 18 := ⟨⟨Tryd.f18, Tryd.func18, by kernel_rfl, by kernel_rfl⟩⟩   -- keyevent/keyeventref05.Same
instance : FnB Tryd.prog 19 := ⟨⟨Tryd.f19, Tryd.func19, by kernel_rfl, by kernel_rfl⟩⟩   -- keyevent/keyeventkit.Spoil
instance : FnB Tryd.prog 20 := ⟨⟨Tryd.f20, Tryd.func20, by kernel_rfl, by kernel_rfl⟩⟩   -- keyevent/json.Quote
instance : FnB Tryd.prog 21 := ⟨⟨Tryd.f21, Tryd.func21, by kernel_rfl, by kernel_rfl⟩⟩   -- keyevent/keyeventref06.Quote
instance : FnB Tryd.prog 22 := ⟨⟨Tryd.f22, Tryd.func22, by kernel_rfl, by kernel_rfl⟩⟩   -- keyevent/keyeventkit.Mod
instance : FnB Tryd.prog 23 := ⟨⟨Tryd.f23, Tryd.func23, by kernel_rfl, by kernel_rfl⟩⟩   -- keyevent/keyeventref06.Decode
instance : FnB Tryd.prog 24 := ⟨⟨Tryd.f24, Tryd.func24, by kernel_rfl, by kernel_rfl⟩⟩   -- keyevent/keyeventkit.Text
instance : FnB Tryd.prog 25 := ⟨⟨Tryd.f25, Tryd.func25, by kernel_rfl, by kernel_rfl⟩⟩   -- (*keyevent/keyeventkit.Dice).Word
instance : FnB Tryd.prog 26 := ⟨⟨Tryd.f26, Tryd.func26, by kernel_rfl, by kernel_rfl⟩⟩   -- keyevent/parse.Checked
instance : FnB Tryd.prog 27 := ⟨⟨Tryd.f27, Tryd.func27, by kernel_rfl, by kernel_rfl⟩⟩   -- keyevent/json.put
instance : FnB Tryd.prog 28 := ⟨⟨Tryd.f28, Tryd.func28, by kernel_rfl, by kernel_rfl⟩⟩   -- keyevent/keyeventref06.Write
instance : FnB Tryd.prog 29 := ⟨⟨Tryd.f29, Tryd.func29, by kernel_rfl, by kernel_rfl⟩⟩   -- keyevent/keyeventref05.valid
instance : FnB Tryd.prog 30 := ⟨⟨Tryd.f30, Tryd.func30, by kernel_rfl, by kernel_rfl⟩⟩   -- (*keyevent/json.reader).node
instance : FnB Tryd.prog 31 := ⟨⟨Tryd.f31, Tryd.func31, by kernel_rfl, by kernel_rfl⟩⟩   -- keyevent/parse.Finish
instance : FnB Tryd.prog 32 := ⟨⟨Tryd.f32, Tryd.func32, by kernel_rfl, by kernel_rfl⟩⟩   -- unicode/utf8.ValidString
instance : FnB Tryd.prog 33 := ⟨⟨Tryd.f33, Tryd.func33, by kernel_rfl, by kernel_rfl⟩⟩   -- keyevent/json.quoted
instance : FnB Tryd.prog 34 := ⟨⟨Tryd.f34, Tryd.func34, by kernel_rfl, by kernel_rfl⟩⟩   -- keyevent/keyeventref06.quote
instance : FnB Tryd.prog 35 := ⟨⟨Tryd.f35, Tryd.func35, by kernel_rfl, by kernel_rfl⟩⟩   -- keyevent/keyeventref06.value
instance : FnB Tryd.prog 36 := ⟨⟨Tryd.f36, Tryd.func36, by kernel_rfl, by kernel_rfl⟩⟩   -- keyevent/node.Valid
instance : FnB Tryd.prog 37 := ⟨⟨Tryd.f37, Tryd.func37, by kernel_rfl, by kernel_rfl⟩⟩   -- strconv.AppendBool
instance : FnB Tryd.prog 38 := ⟨⟨Tryd.f38, Tryd.func38, by kernel_rfl, by kernel_rfl⟩⟩   -- strconv.AppendInt
instance : FnB Tryd.prog 39 := ⟨⟨Tryd.f39, Tryd.func39, by kernel_rfl, by kernel_rfl⟩⟩   -- strconv.FormatBool
instance : FnB Tryd.prog 40 := ⟨⟨Tryd.f40, Tryd.func40, by kernel_rfl, by kernel_rfl⟩⟩   -- strconv.Itoa
instance : FnB Tryd.prog 41 := ⟨⟨Tryd.f41, Tryd.func41, by kernel_rfl, by kernel_rfl⟩⟩   -- keyevent/keyeventref05.text
instance : FnB Tryd.prog 42 := ⟨⟨Tryd.f42, Tryd.func42, by kernel_rfl, by kernel_rfl⟩⟩   -- (*keyevent/json.reader).skip
instance : FnB Tryd.prog 43 := ⟨⟨Tryd.f43, Tryd.func43, by kernel_rfl, by kernel_rfl⟩⟩   -- (*keyevent/json.reader).items
instance : FnB Tryd.prog 44 := ⟨⟨Tryd.f44, Tryd.func44, by kernel_rfl, by kernel_rfl⟩⟩   -- strings.HasPrefix
instance : FnB Tryd.prog 45 := ⟨⟨Tryd.f45, Tryd.func45, by kernel_rfl, by kernel_rfl⟩⟩   -- (*keyevent/json.reader).text
instance : FnB Tryd.prog 46 := ⟨⟨Tryd.f46, Tryd.func46, by kernel_rfl, by kernel_rfl⟩⟩   -- (*keyevent/json.reader).number
instance : FnB Tryd.prog 47 := ⟨⟨Tryd.f47, Tryd.func47, by kernel_rfl, by kernel_rfl⟩⟩   -- unicode/utf8.word[string]
instance : FnB Tryd.prog 48 := ⟨⟨Tryd.f48, Tryd.func48, by kernel_rfl, by kernel_rfl⟩⟩   -- keyevent/json.escapes
instance : FnB Tryd.prog 49 := ⟨⟨Tryd.f49, Tryd.func49, by kernel_rfl, by kernel_rfl⟩⟩   -- keyevent/keyeventref06.has
instance : FnB Tryd.prog 50 := ⟨⟨Tryd.f50, Tryd.func50, by kernel_rfl, by kernel_rfl⟩⟩   -- keyevent/keyeventref06.quoted
instance : FnB Tryd.prog 51 := ⟨⟨Tryd.f51, Tryd.func51, by kernel_rfl, by kernel_rfl⟩⟩   -- keyevent/keyeventref05.Text
instance : FnB Tryd.prog 52 := ⟨⟨Tryd.f52, Tryd.func52, by kernel_rfl, by kernel_rfl⟩⟩   -- keyevent/keyeventref06.list
instance : FnB Tryd.prog 53 := ⟨⟨Tryd.f53, Tryd.func53, by kernel_rfl, by kernel_rfl⟩⟩   -- keyevent/keyeventref06.number
instance : FnB Tryd.prog 54 := ⟨⟨Tryd.f54, Tryd.func54, by kernel_rfl, by kernel_rfl⟩⟩   -- keyevent/node.valid
instance : FnB Tryd.prog 55 := ⟨⟨Tryd.f55, Tryd.func55, by kernel_rfl, by kernel_rfl⟩⟩   -- internal/strconv.AppendBool
instance : FnB Tryd.prog 56 := ⟨⟨Tryd.f56, Tryd.func56, by kernel_rfl, by kernel_rfl⟩⟩   -- internal/strconv.AppendInt
instance : FnB Tryd.prog 57 := ⟨⟨Tryd.f57, Tryd.func57, by kernel_rfl, by kernel_rfl⟩⟩   -- internal/strconv.FormatBool
instance : FnB Tryd.prog 58 := ⟨⟨Tryd.f58, Tryd.func58, by kernel_rfl, by kernel_rfl⟩⟩   -- internal/strconv.Itoa
instance : FnB Tryd.prog 59 := ⟨⟨Tryd.f59, Tryd.func59, by kernel_rfl, by kernel_rfl⟩⟩   -- strings.CutPrefix
instance : FnB Tryd.prog 60 := ⟨⟨Tryd.f60, Tryd.func60, by kernel_rfl, by kernel_rfl⟩⟩   -- (*keyevent/json.reader).expect
instance : FnB Tryd.prog 61 := ⟨⟨Tryd.f61, Tryd.func61, by kernel_rfl, by kernel_rfl⟩⟩   -- internal/stringslite.HasPrefix
instance : FnB Tryd.prog 62 := ⟨⟨Tryd.f62, Tryd.func62, by kernel_rfl, by kernel_rfl⟩⟩   -- (*keyevent/parse.Reader).Byte
instance : FnB Tryd.prog 63 := ⟨⟨Tryd.f63, Tryd.func63, by kernel_rfl, by kernel_rfl⟩⟩   -- (*keyevent/json.reader).escape
instance : FnB Tryd.prog 64 := ⟨⟨Tryd.f64, Tryd.func64, by kernel_rfl, by kernel_rfl⟩⟩   -- strconv.Atoi
instance : FnB Tryd.prog 65 := ⟨⟨Tryd.f65, Tryd.func65, by kernel_rfl, by kernel_rfl⟩⟩   -- (*keyevent/parse.Reader).Take
instance : FnB Tryd.prog 66 := ⟨⟨Tryd.f66, Tryd.func66, by kernel_rfl, by kernel_rfl⟩⟩   -- keyevent/keyeventref06.hex
instance : FnB Tryd.prog 67 := ⟨⟨Tryd.f67, Tryd.func67, by kernel_rfl, by kernel_rfl⟩⟩   -- keyevent/keyeventref05.Number
instance : FnB Tryd.prog 68 := ⟨⟨Tryd.f68, Tryd.func68, by kernel_rfl, by kernel_rfl⟩⟩   -- keyevent/node.fields
instance : FnB Tryd.prog 69 := ⟨⟨Tryd.f69, Tryd.func69, by kernel_rfl, by kernel_rfl⟩⟩   -- keyevent/node.text
instance : FnB Tryd.prog 70 := ⟨⟨Tryd.f70, Tryd.func70, by kernel_rfl, by kernel_rfl⟩⟩   -- keyevent/node.names
instance : FnB Tryd.prog 71 := ⟨⟨Tryd.f71, Tryd.func71, by kernel_rfl, by kernel_rfl⟩⟩   -- slices.ContainsFunc[[]keyevent/api.Node,keyevent/api.Node]
instance : FnB Tryd.prog 72 := ⟨⟨Tryd.f72, Tryd.func72, by kernel_rfl, by kernel_rfl⟩⟩   -- keyevent/node.valid$1
instance : FnB Tryd.prog 73 := ⟨⟨Tryd.f73, Tryd.func73, by kernel_rfl, by kernel_rfl⟩⟩   -- internal/strconv.AppendUint
instance : FnB Tryd.prog 74 := ⟨⟨Tryd.f74, Tryd.func74, by kernel_rfl, by kernel_rfl⟩⟩   -- internal/strconv.FormatInt
instance : FnB Tryd.prog 75 := ⟨⟨Tryd.f75, Tryd.func75, by kernel_rfl, by kernel_rfl⟩⟩   -- internal/stringslite.CutPrefix
instance : FnB Tryd.prog 76 := ⟨⟨Tryd.f76, Tryd.func76, by kernel_rfl, by kernel_rfl⟩⟩   -- strconv.ParseUint
instance : FnB Tryd.prog 77 := ⟨⟨Tryd.f77, Tryd.func77, by kernel_rfl, by kernel_rfl⟩⟩   -- internal/strconv.Atoi
instance : FnB Tryd.prog 78 := ⟨⟨Tryd.f78, Tryd.func78, by kernel_rfl, by kernel_rfl⟩⟩   -- strconv.toError
instance : FnB Tryd.prog 79 := ⟨⟨Tryd.f79, Tryd.func79, by kernel_rfl, by kernel_rfl⟩⟩   -- slices.IndexFunc[[]keyevent/api.Node,keyevent/api.Node]
instance : FnB Tryd.prog 80 := ⟨⟨Tryd.f80, Tryd.func80, by kernel_rfl, by kernel_rfl⟩⟩   -- internal/strconv.small
instance : FnB Tryd.prog 81 := ⟨⟨Tryd.f81, Tryd.func81, by kernel_rfl, by kernel_rfl⟩⟩   -- internal/strconv.numDigits
instance : FnB Tryd.prog 82 := ⟨⟨Tryd.f82, Tryd.func82, by kernel_rfl, by kernel_rfl⟩⟩   -- internal/strconv.formatBase10
instance : FnB Tryd.prog 83 := ⟨⟨Tryd.f83, Tryd.func83, by kernel_rfl, by kernel_rfl⟩⟩   -- internal/strconv.formatBits
instance : FnB Tryd.prog 84 := ⟨⟨Tryd.f84, Tryd.func84, by kernel_rfl, by kernel_rfl⟩⟩   -- internal/strconv.ParseUint
instance : FnB Tryd.prog 85 := ⟨⟨Tryd.f85, Tryd.func85, by kernel_rfl, by kernel_rfl⟩⟩   -- internal/strconv.ParseInt
instance : FnB Tryd.prog 86 := ⟨⟨Tryd.f86, Tryd.func86, by kernel_rfl, by kernel_rfl⟩⟩   -- strconv.syntaxError
instance : FnB Tryd.prog 87 := ⟨⟨Tryd.f87, Tryd.func87, by kernel_rfl, by kernel_rfl⟩⟩   -- strconv.rangeError
instance : FnB Tryd.prog 88 := ⟨⟨Tryd.f88, Tryd.func88, by kernel_rfl, by kernel_rfl⟩⟩   -- strconv.baseError
instance : FnB Tryd.prog 89 := ⟨⟨Tryd.f89, Tryd.func89, by kernel_rfl, by kernel_rfl⟩⟩   -- strconv.bitSizeError
instance : FnB Tryd.prog 90 := ⟨⟨Tryd.f90, Tryd.func90, by kernel_rfl, by kernel_rfl⟩⟩   -- internal/strconv.log10Pow2
instance : FnB Tryd.prog 91 := ⟨⟨Tryd.f91, Tryd.func91, by kernel_rfl, by kernel_rfl⟩⟩   -- math/bits.Len64
instance : FnB Tryd.prog 92 := ⟨⟨Tryd.f92, Tryd.func92, by kernel_rfl, by kernel_rfl⟩⟩   -- internal/strconv.bool2[int]
instance : FnB Tryd.prog 93 := ⟨⟨Tryd.f93, Tryd.func93, by kernel_rfl, by kernel_rfl⟩⟩   -- internal/strconv.isPowerOfTwo
instance : FnB Tryd.prog 94 := ⟨⟨Tryd.f94, Tryd.func94, by kernel_rfl, by kernel_rfl⟩⟩   -- math/bits.TrailingZeros
instance : FnB Tryd.prog 95 := ⟨⟨Tryd.f95, Tryd.func95, by kernel_rfl, by kernel_rfl⟩⟩   -- internal/strconv.lower
instance : FnB Tryd.prog 96 := ⟨⟨Tryd.f96, Tryd.func96, by kernel_rfl, by kernel_rfl⟩⟩   -- internal/strconv.underscoreOK
instance : FnB Tryd.prog 97 := ⟨⟨Tryd.f97, Tryd.func97, by kernel_rfl, by kernel_rfl⟩⟩   -- internal/stringslite.Clone
instance : FnB Tryd.prog 98 := ⟨⟨Tryd.f98, Tryd.func98, by kernel_rfl, by kernel_rfl⟩⟩   -- errors.New
instance : FnB Tryd.prog 99 := ⟨⟨Tryd.f99, Tryd.func99, by kernel_rfl, by kernel_rfl⟩⟩   -- math/bits.TrailingZeros32
instance : FnB Tryd.prog 100 := ⟨⟨Tryd.f100, Tryd.func100, by kernel_rfl, by kernel_rfl⟩⟩   -- math/bits.TrailingZeros64

end Go.AL
set_option linter.unusedVariables false
namespace Go.AL
open Go Go.Proofs

instance : TyB Tryd.prog 7 [(0, 1), (1, 1), (2, 1), (3, 1)] := ⟨by kernel_rfl⟩
instance : TyB Tryd.prog 8 [(0, 1), (1, 1), (2, 1), (3, 1)] := ⟨by kernel_rfl⟩
instance : TyB Tryd.prog 13 [(0, 1), (1, 1)] := ⟨by kernel_rfl⟩
instance : TyB Tryd.prog 14 [(0, 1), (1, 1)] := ⟨by kernel_rfl⟩
instance : TyB Tryd.prog 18 [(0, 1)] := ⟨by kernel_rfl⟩
instance : TyB Tryd.prog 19 [(0, 1)] := ⟨by kernel_rfl⟩
instance : TyB Tryd.prog 25 [(0, 1), (1, 1), (2, 1), (3, 1), (4, 1), (5, 1)] := ⟨by kernel_rfl⟩
instance : TyB Tryd.prog 26 [(0, 1), (1, 1), (2, 1), (3, 1), (4, 1), (5, 1)] := ⟨by kernel_rfl⟩
instance : TyB Tryd.prog 48 [(0, 1), (1, 1)] := ⟨by kernel_rfl⟩
instance : TyB Tryd.prog 49 [(0, 1), (1, 1)] := ⟨by kernel_rfl⟩
instance : TyB Tryd.prog 57 [(0, 1), (1, 1)] := ⟨by kernel_rfl⟩
instance : TyB Tryd.prog 58 [(0, 1), (1, 1)] := ⟨by kernel_rfl⟩
instance : TyB Tryd.prog 59 [(0, 2)] := ⟨by kernel_rfl⟩
instance : TyB Tryd.prog 60 [(0, 2)] := ⟨by kernel_rfl⟩
instance : TyB Tryd.prog 80 [(0, 1), (1, 1)] := ⟨by kernel_rfl⟩
instance : TyB Tryd.prog 81 [(0, 1), (1, 1)] := ⟨by kernel_rfl⟩
instance : TyB Tryd.prog 128 [(0, 1), (1, 1), (2, 1)] := ⟨by kernel_rfl⟩
instance : TyB Tryd.prog 129 [(0, 1), (1, 1), (2, 1)] := ⟨by kernel_rfl⟩
instance : TyB Tryd.prog 134 [(0, 1)] := ⟨by kernel_rfl⟩
instance : TyB Tryd.prog 135 [(0, 1)] := ⟨by kernel_rfl⟩
instance : TyB Tryd.prog 138 [(0, 1), (1, 1), (2, 1), (3, 1)] := ⟨by kernel_rfl⟩
instance : TyB Tryd.prog 139 [(0, 1), (1, 1), (2, 1), (3, 1)] := ⟨by kernel_rfl⟩
instance : TyB Tryd.prog 141 [(0, 0)] := ⟨by kernel_rfl⟩
instance : TyB Tryd.prog 142 [(0, 0)] := ⟨by kernel_rfl⟩
instance : TyB Tryd.prog 148 [(0, 1), (1, 1), (2, 1), (3, 1), (4, 1), (5, 1), (6, 1), (7, 1), (8, 1), (9, 1), (10, 1)] := ⟨by kernel_rfl⟩
instance : TyB Tryd.prog 149 [(0, 1), (1, 1), (2, 1), (3, 1), (4, 1), (5, 1), (6, 1), (7, 1), (8, 1), (9, 1), (10, 1)] := ⟨by kernel_rfl⟩

end Go.AL
set_option linter.unusedVariables false
namespace Go.AL
open Go Go.Proofs Go.RowKit Go.Shelf

theorem uA {P : Program} (t : TypeId) {d : TypeDesc} [tu : TyU P t d] (w : World) : (isAgg t).run P w = .ok (isAggD d) w := run_isAgg tu
theorem uZ {P : Program} (t : TypeId) {s b : Nat} {z : Value} [ti : TyI P t s b z] (w : World) : (Go.sizeOf t).run P w = .ok s w := run_sizeOf ti
theorem uV {P : Program} (t : TypeId) {s b : Nat} {z : Value} [ti : TyI P t s b z] (w : World) : (zeroValue t).run P w = .ok z w := run_zeroValue ti

def vRen : Ren := ⟨fun | 196 => 32 | 259 => 47 | x => x, fun | 0 => 0 | 3 => 3 | 4 => 4 | 5 => 5 | 9 => 9 | 12 => 12 | 46 => 83 | 53 => 101 | 119 => 79 | 138 => 81 | 139 => 82 | x => x, fun | 3 => 0 | 4 => 1 | x => x⟩

set_option maxRecDepth 100000 in
theorem vLays : Lays.n196 Tryd.prog vRen where
  mixed := by kernel_rfl
  f196 := by kernel_rfl
  f259 := by kernel_rfl
  t0 := Tryd.underlying0
  a0 := fun w => uA (P := Tryd.prog) (d := (TypeDesc.tuple #[])) 0 w
  z0 := fun w => uZ 0 w
  v0 := fun w => uV 0 w
  t3 := Tryd.underlying3
  a3 := fun w => uA (P := Tryd.prog) (d := (TypeDesc.int IntKind.i64)) 3 w
  z3 := fun w => uZ 3 w
  v3 := fun w => uV 3 w
  t4 := Tryd.underlying4
  a4 := fun w => uA (P := Tryd.prog) (d := TypeDesc.bool) 4 w
  z4 := fun w => uZ 4 w
  v4 := fun w => uV 4 w
  t5 := Tryd.underlying5
  a5 := fun w => uA (P := Tryd.prog) (d := (TypeDesc.int IntKind.u8)) 5 w
  z5 := fun w => uZ 5 w
  v5 := fun w => uV 5 w
  t9 := Tryd.underlying9
  a9 := fun w => uA (P := Tryd.prog) (d := TypeDesc.string) 9 w
  z9 := fun w => uZ 9 w
  v9 := fun w => uV 9 w
  t12 := Tryd.underlying12
  a12 := fun w => uA (P := Tryd.prog) (d := (TypeDesc.int IntKind.u64)) 12 w
  z12 := fun w => uZ 12 w
  v12 := fun w => uV 12 w
  t46 := Tryd.underlying83
  a46 := fun w => uA (P := Tryd.prog) (d := (TypeDesc.int IntKind.u64)) 83 w
  z46 := fun w => uZ 83 w
  v46 := fun w => uV 83 w
  t53 := Tryd.underlying101
  a53 := fun w => uA (P := Tryd.prog) (d := (TypeDesc.int IntKind.u64)) 101 w
  z53 := fun w => uZ 101 w
  v53 := fun w => uV 101 w
  t119 := Tryd.underlying79
  a119 := fun w => uA (P := Tryd.prog) (d := (TypeDesc.array 256 5)) 79 w
  z119 := fun w => uZ 79 w
  t138 := Tryd.underlying81
  a138 := fun w => uA (P := Tryd.prog) (d := (TypeDesc.struct #[{ name := "lo", type := 5, offset := 0, embedded := false, tag := "", pkgPath := "unicode/utf8", byteOffset := 0 }, { name := "hi", type := 5, offset := 1, embedded := false, tag := "", pkgPath := "unicode/utf8", byteOffset := 1 }])) 81 w
  z138 := fun w => uZ 81 w
  v138 := fun w => uV 81 w
  t139 := Tryd.underlying82
  a139 := fun w => uA (P := Tryd.prog) (d := (TypeDesc.array 16 81)) 82 w
  z139 := fun w => uZ 82 w
  v139 := fun w => uV 82 w
  g3 := by kernel_rfl
  g4 := by kernel_rfl
end Go.AL
/- A library function lies in this program as the shelf of the kit has it; no condition. -/
set_option linter.unusedVariables false
namespace Go.AL
open Go Go.Proofs Go.RowKit Go.Shelf

theorem l283_a {P : Program} (t : TypeId) {d : TypeDesc} [tu : TyU P t d] (w : World) : (isAgg t).run P w = .ok (isAggD d) w := run_isAgg tu
theorem l283_z {P : Program} (t : TypeId) {s b : Nat} {z : Value} [ti : TyI P t s b z] (w : World) : (Go.sizeOf t).run P w = .ok s w := run_sizeOf ti
theorem l283_v {P : Program} (t : TypeId) {s b : Nat} {z : Value} [ti : TyI P t s b z] (w : World) : (zeroValue t).run P w = .ok z w := run_zeroValue ti

def l283_ren : Ren := ⟨fun | 283 => 80 | x => x, fun | 3 => 3 | 4 => 4 | 9 => 9 | x => x, fun x => x⟩

set_option maxRecDepth 100000 in
theorem l283_lays : Lays.n283 Tryd.prog l283_ren where
  mixed := by kernel_rfl
  f283 := by kernel_rfl
  t3 := Tryd.underlying3
  a3 := fun w => l283_a (P := Tryd.prog) (d := (TypeDesc.int IntKind.i64)) 3 w
  z3 := fun w => l283_z (P := Tryd.prog) 3 w
  v3 := fun w => l283_v (P := Tryd.prog) 3 w
  t4 := Tryd.underlying4
  a4 := fun w => l283_a (P := Tryd.prog) (d := TypeDesc.bool) 4 w
  z4 := fun w => l283_z (P := Tryd.prog) 4 w
  v4 := fun w => l283_v (P := Tryd.prog) 4 w
  t9 := Tryd.underlying9
  a9 := fun w => l283_a (P := Tryd.prog) (d := TypeDesc.string) 9 w
  z9 := fun w => l283_z (P := Tryd.prog) 9 w
  v9 := fun w => l283_v (P := Tryd.prog) 9 w
end Go.AL
/- A library function lies in this program as the shelf of the kit has it; no condition. -/
set_option linter.unusedVariables false
namespace Go.AL
open Go Go.Proofs Go.RowKit Go.Shelf

theorem l284_a {P : Program} (t : TypeId) {d : TypeDesc} [tu : TyU P t d] (w : World) : (isAgg t).run P w = .ok (isAggD d) w := run_isAgg tu
theorem l284_z {P : Program} (t : TypeId) {s b : Nat} {z : Value} [ti : TyI P t s b z] (w : World) : (Go.sizeOf t).run P w = .ok s w := run_sizeOf ti
theorem l284_v {P : Program} (t : TypeId) {s b : Nat} {z : Value} [ti : TyI P t s b z] (w : World) : (zeroValue t).run P w = .ok z w := run_zeroValue ti

def l284_ren : Ren := ⟨fun | 129 => 91 | 284 => 81 | 317 => 90 | 318 => 92 | x => x, fun | 0 => 0 | 3 => 3 | 4 => 4 | 5 => 5 | 9 => 9 | 46 => 83 | 53 => 101 | 212 => 122 | x => x, fun | 17 => 2 | x => x⟩

set_option maxRecDepth 100000 in
theorem l284_lays : LaysM.n284 Tryd.prog l284_ren where
  mixed := by kernel_rfl
  f129 := by kernel_rfl
  f284 := by kernel_rfl
  f317 := by kernel_rfl
  f318 := by kernel_rfl
  t0 := Tryd.underlying0
  a0 := fun w => l284_a (P := Tryd.prog) (d := (TypeDesc.tuple #[])) 0 w
  z0 := fun w => l284_z (P := Tryd.prog) 0 w
  v0 := fun w => l284_v (P := Tryd.prog) 0 w
  t3 := Tryd.underlying3
  a3 := fun w => l284_a (P := Tryd.prog) (d := (TypeDesc.int IntKind.i64)) 3 w
  z3 := fun w => l284_z (P := Tryd.prog) 3 w
  v3 := fun w => l284_v (P := Tryd.prog) 3 w
  t4 := Tryd.underlying4
  a4 := fun w => l284_a (P := Tryd.prog) (d := TypeDesc.bool) 4 w
  z4 := fun w => l284_z (P := Tryd.prog) 4 w
  v4 := fun w => l284_v (P := Tryd.prog) 4 w
  t5 := Tryd.underlying5
  a5 := fun w => l284_a (P := Tryd.prog) (d := (TypeDesc.int IntKind.u8)) 5 w
  z5 := fun w => l284_z (P := Tryd.prog) 5 w
  v5 := fun w => l284_v (P := Tryd.prog) 5 w
  t9 := Tryd.underlying9
  a9 := fun w => l284_a (P := Tryd.prog) (d := TypeDesc.string) 9 w
  z9 := fun w => l284_z (P := Tryd.prog) 9 w
  v9 := fun w => l284_v (P := Tryd.prog) 9 w
  t46 := Tryd.underlying83
  a46 := fun w => l284_a (P := Tryd.prog) (d := (TypeDesc.int IntKind.u64)) 83 w
  z46 := fun w => l284_z (P := Tryd.prog) 83 w
  v46 := fun w => l284_v (P := Tryd.prog) 83 w
  t53 := Tryd.underlying101
  a53 := fun w => l284_a (P := Tryd.prog) (d := (TypeDesc.int IntKind.u64)) 101 w
  z53 := fun w => l284_z (P := Tryd.prog) 101 w
  v53 := fun w => l284_v (P := Tryd.prog) 101 w
  t212 := Tryd.underlying122
  a212 := fun w => l284_a (P := Tryd.prog) (d := (TypeDesc.array 20 101)) 122 w
  z212 := fun w => l284_z (P := Tryd.prog) 122 w
  v212 := fun w => l284_v (P := Tryd.prog) 122 w
  g17 := by kernel_rfl
  i0 := by kernel_rfl
  i3 := by kernel_rfl
  i4 := by kernel_rfl
  i5 := by kernel_rfl
  i9 := by kernel_rfl
  i46 := by kernel_rfl
  i53 := by kernel_rfl
  i212 := by kernel_rfl
  m17 := by kernel_rfl
end Go.AL
/- A library function lies in this program as the shelf of the kit has it; no condition. -/
set_option linter.unusedVariables false
namespace Go.AL
open Go Go.Proofs Go.RowKit Go.Shelf

theorem l285_a {P : Program} (t : TypeId) {d : TypeDesc} [tu : TyU P t d] (w : World) : (isAgg t).run P w = .ok (isAggD d) w := run_isAgg tu
theorem l285_z {P : Program} (t : TypeId) {s b : Nat} {z : Value} [ti : TyI P t s b z] (w : World) : (Go.sizeOf t).run P w = .ok s w := run_sizeOf ti
theorem l285_v {P : Program} (t : TypeId) {s b : Nat} {z : Value} [ti : TyI P t s b z] (w : World) : (zeroValue t).run P w = .ok z w := run_zeroValue ti

def l285_ren : Ren := ⟨fun | 285 => 82 | x => x, fun | 0 => 0 | 3 => 3 | 4 => 4 | 5 => 5 | 9 => 9 | 37 => 43 | 51 => 123 | 53 => 101 | x => x, fun x => x⟩

set_option maxRecDepth 100000 in
theorem l285_lays : Lays.n285 Tryd.prog l285_ren where
  mixed := by kernel_rfl
  f285 := by kernel_rfl
  t0 := Tryd.underlying0
  a0 := fun w => l285_a (P := Tryd.prog) (d := (TypeDesc.tuple #[])) 0 w
  z0 := fun w => l285_z (P := Tryd.prog) 0 w
  v0 := fun w => l285_v (P := Tryd.prog) 0 w
  t3 := Tryd.underlying3
  a3 := fun w => l285_a (P := Tryd.prog) (d := (TypeDesc.int IntKind.i64)) 3 w
  z3 := fun w => l285_z (P := Tryd.prog) 3 w
  v3 := fun w => l285_v (P := Tryd.prog) 3 w
  t4 := Tryd.underlying4
  a4 := fun w => l285_a (P := Tryd.prog) (d := TypeDesc.bool) 4 w
  z4 := fun w => l285_z (P := Tryd.prog) 4 w
  v4 := fun w => l285_v (P := Tryd.prog) 4 w
  t5 := Tryd.underlying5
  a5 := fun w => l285_a (P := Tryd.prog) (d := (TypeDesc.int IntKind.u8)) 5 w
  z5 := fun w => l285_z (P := Tryd.prog) 5 w
  v5 := fun w => l285_v (P := Tryd.prog) 5 w
  t9 := Tryd.underlying9
  a9 := fun w => l285_a (P := Tryd.prog) (d := TypeDesc.string) 9 w
  z9 := fun w => l285_z (P := Tryd.prog) 9 w
  v9 := fun w => l285_v (P := Tryd.prog) 9 w
  t37 := Tryd.underlying43
  a37 := fun w => l285_a (P := Tryd.prog) (d := (TypeDesc.slice 5)) 43 w
  z37 := fun w => l285_z (P := Tryd.prog) 43 w
  v37 := fun w => l285_v (P := Tryd.prog) 43 w
  t51 := Tryd.underlying123
  a51 := fun w => l285_a (P := Tryd.prog) (d := (TypeDesc.int IntKind.u32)) 123 w
  z51 := fun w => l285_z (P := Tryd.prog) 123 w
  v51 := fun w => l285_v (P := Tryd.prog) 123 w
  t53 := Tryd.underlying101
  a53 := fun w => l285_a (P := Tryd.prog) (d := (TypeDesc.int IntKind.u64)) 101 w
  z53 := fun w => l285_z (P := Tryd.prog) 101 w
  v53 := fun w => l285_v (P := Tryd.prog) 101 w
end Go.AL
/- A library function lies in this program as the shelf of the kit has it; no condition. -/
set_option linter.unusedVariables false
namespace Go.AL
open Go Go.Proofs Go.RowKit Go.Shelf

theorem l171_a {P : Program} (t : TypeId) {d : TypeDesc} [tu : TyU P t d] (w : World) : (isAgg t).run P w = .ok (isAggD d) w := run_isAgg tu
theorem l171_z {P : Program} (t : TypeId) {s b : Nat} {z : Value} [ti : TyI P t s b z] (w : World) : (Go.sizeOf t).run P w = .ok s w := run_sizeOf ti
theorem l171_v {P : Program} (t : TypeId) {s b : Nat} {z : Value} [ti : TyI P t s b z] (w : World) : (zeroValue t).run P w = .ok z w := run_zeroValue ti

def l171_ren : Ren := ⟨fun | 129 => 91 | 171 => 40 | 243 => 58 | 246 => 74 | 283 => 80 | 284 => 81 | 285 => 82 | 286 => 83 | 317 => 90 | 318 => 92 | 319 => 93 | 320 => 94 | 337 => 99 | 338 => 100 | x => x, fun | 0 => 0 | 2 => 2 | 3 => 3 | 4 => 4 | 5 => 5 | 9 => 9 | 20 => 20 | 37 => 43 | 46 => 83 | 51 => 123 | 53 => 101 | 171 => 110 | 173 => 113 | 212 => 122 | 213 => 124 | 232 => 136 | 233 => 137 | x => x, fun | 17 => 2 | 18 => 5 | 19 => 6 | x => x⟩

set_option maxRecDepth 100000 in
theorem l171_lays : LaysM.n171 Tryd.prog l171_ren where
  mixed := by kernel_rfl
  f129 := by kernel_rfl
  f171 := by kernel_rfl
  f243 := by kernel_rfl
  f246 := by kernel_rfl
  f283 := by kernel_rfl
  f284 := by kernel_rfl
  f285 := by kernel_rfl
  f286 := by kernel_rfl
  f317 := by kernel_rfl
  f318 := by kernel_rfl
  f319 := by kernel_rfl
  f320 := by kernel_rfl
  f337 := by kernel_rfl
  f338 := by kernel_rfl
  t0 := Tryd.underlying0
  a0 := fun w => l171_a (P := Tryd.prog) (d := (TypeDesc.tuple #[])) 0 w
  z0 := fun w => l171_z (P := Tryd.prog) 0 w
  v0 := fun w => l171_v (P := Tryd.prog) 0 w
  t2 := Tryd.underlying2
  a2 := fun w => l171_a (P := Tryd.prog) (d := (TypeDesc.int IntKind.i64)) 2 w
  z2 := fun w => l171_z (P := Tryd.prog) 2 w
  v2 := fun w => l171_v (P := Tryd.prog) 2 w
  t3 := Tryd.underlying3
  a3 := fun w => l171_a (P := Tryd.prog) (d := (TypeDesc.int IntKind.i64)) 3 w
  z3 := fun w => l171_z (P := Tryd.prog) 3 w
  v3 := fun w => l171_v (P := Tryd.prog) 3 w
  t4 := Tryd.underlying4
  a4 := fun w => l171_a (P := Tryd.prog) (d := TypeDesc.bool) 4 w
  z4 := fun w => l171_z (P := Tryd.prog) 4 w
  v4 := fun w => l171_v (P := Tryd.prog) 4 w
  t5 := Tryd.underlying5
  a5 := fun w => l171_a (P := Tryd.prog) (d := (TypeDesc.int IntKind.u8)) 5 w
  z5 := fun w => l171_z (P := Tryd.prog) 5 w
  v5 := fun w => l171_v (P := Tryd.prog) 5 w
  t9 := Tryd.underlying9
  a9 := fun w => l171_a (P := Tryd.prog) (d := TypeDesc.string) 9 w
  z9 := fun w => l171_z (P := Tryd.prog) 9 w
  v9 := fun w => l171_v (P := Tryd.prog) 9 w
  t20 := Tryd.underlying20
  a20 := fun w => l171_a (P := Tryd.prog) (d := (TypeDesc.interface #[])) 20 w
  z20 := fun w => l171_z (P := Tryd.prog) 20 w
  v20 := fun w => l171_v (P := Tryd.prog) 20 w
  t37 := Tryd.underlying43
  a37 := fun w => l171_a (P := Tryd.prog) (d := (TypeDesc.slice 5)) 43 w
  z37 := fun w => l171_z (P := Tryd.prog) 43 w
  v37 := fun w => l171_v (P := Tryd.prog) 43 w
  t46 := Tryd.underlying83
  a46 := fun w => l171_a (P := Tryd.prog) (d := (TypeDesc.int IntKind.u64)) 83 w
  z46 := fun w => l171_z (P := Tryd.prog) 83 w
  v46 := fun w => l171_v (P := Tryd.prog) 83 w
  t51 := Tryd.underlying123
  a51 := fun w => l171_a (P := Tryd.prog) (d := (TypeDesc.int IntKind.u32)) 123 w
  z51 := fun w => l171_z (P := Tryd.prog) 123 w
  v51 := fun w => l171_v (P := Tryd.prog) 123 w
  t53 := Tryd.underlying101
  a53 := fun w => l171_a (P := Tryd.prog) (d := (TypeDesc.int IntKind.u64)) 101 w
  z53 := fun w => l171_z (P := Tryd.prog) 101 w
  v53 := fun w => l171_v (P := Tryd.prog) 101 w
  t171 := Tryd.underlying110
  a171 := fun w => l171_a (P := Tryd.prog) (d := (TypeDesc.array 24 5)) 110 w
  z171 := fun w => l171_z (P := Tryd.prog) 110 w
  v171 := fun w => l171_v (P := Tryd.prog) 110 w
  t173 := Tryd.underlying113
  a173 := fun w => l171_a (P := Tryd.prog) (d := (TypeDesc.tuple #[43, 9])) 113 w
  z173 := fun w => l171_z (P := Tryd.prog) 113 w
  v173 := fun w => l171_v (P := Tryd.prog) 113 w
  t212 := Tryd.underlying122
  a212 := fun w => l171_a (P := Tryd.prog) (d := (TypeDesc.array 20 101)) 122 w
  z212 := fun w => l171_z (P := Tryd.prog) 122 w
  v212 := fun w => l171_v (P := Tryd.prog) 122 w
  t213 := Tryd.underlying124
  a213 := fun w => l171_a (P := Tryd.prog) (d := (TypeDesc.array 65 5)) 124 w
  z213 := fun w => l171_z (P := Tryd.prog) 124 w
  t232 := Tryd.underlying136
  a232 := fun w => l171_a (P := Tryd.prog) (d := (TypeDesc.array 32 5)) 136 w
  z232 := fun w => l171_z (P := Tryd.prog) 136 w
  v232 := fun w => l171_v (P := Tryd.prog) 136 w
  t233 := Tryd.underlying137
  a233 := fun w => l171_a (P := Tryd.prog) (d := (TypeDesc.array 64 5)) 137 w
  z233 := fun w => l171_z (P := Tryd.prog) 137 w
  v233 := fun w => l171_v (P := Tryd.prog) 137 w
  g17 := by kernel_rfl
  g18 := by kernel_rfl
  g19 := by kernel_rfl
  i0 := by kernel_rfl
  i2 := by kernel_rfl
  i3 := by kernel_rfl
  i4 := by kernel_rfl
  i5 := by kernel_rfl
  i9 := by kernel_rfl
  i20 := by kernel_rfl
  i37 := by kernel_rfl
  i46 := by kernel_rfl
  i51 := by kernel_rfl
  i53 := by kernel_rfl
  i171 := by kernel_rfl
  i173 := by kernel_rfl
  i212 := by kernel_rfl
  i232 := by kernel_rfl
  i233 := by kernel_rfl
  m17 := by kernel_rfl
  m18 := by kernel_rfl
  m19 := by kernel_rfl
end Go.AL
/- A library function lies in this program as the shelf of the kit has it; no condition. -/
set_option linter.unusedVariables false
namespace Go.AL
open Go Go.Proofs Go.RowKit Go.Shelf

theorem l172_a {P : Program} (t : TypeId) {d : TypeDesc} [tu : TyU P t d] (w : World) : (isAgg t).run P w = .ok (isAggD d) w := run_isAgg tu
theorem l172_z {P : Program} (t : TypeId) {s b : Nat} {z : Value} [ti : TyI P t s b z] (w : World) : (Go.sizeOf t).run P w = .ok s w := run_sizeOf ti
theorem l172_v {P : Program} (t : TypeId) {s b : Nat} {z : Value} [ti : TyI P t s b z] (w : World) : (zeroValue t).run P w = .ok z w := run_zeroValue ti

def l172_ren : Ren := ⟨fun | 129 => 91 | 171 => 40 | 172 => 64 | 205 => 98 | 243 => 58 | 244 => 77 | 245 => 78 | 246 => 74 | 247 => 85 | 279 => 86 | 280 => 87 | 281 => 88 | 282 => 89 | 283 => 80 | 284 => 81 | 285 => 82 | 286 => 83 | 287 => 84 | 316 => 97 | 317 => 90 | 318 => 92 | 319 => 93 | 320 => 94 | 321 => 95 | 322 => 96 | 337 => 99 | 338 => 100 | x => x, fun | 0 => 0 | 2 => 2 | 3 => 3 | 4 => 4 | 5 => 5 | 9 => 9 | 20 => 20 | 21 => 21 | 37 => 43 | 46 => 83 | 51 => 123 | 53 => 101 | 75 => 98 | 143 => 133 | 145 => 135 | 167 => 115 | 168 => 118 | 210 => 129 | 76 => 99 | 85 => 116 | 127 => 132 | 171 => 110 | 173 => 113 | 175 => 106 | 212 => 122 | 213 => 124 | 232 => 136 | 233 => 137 | 80 => 76 | x => x, fun | 15 => 3 | 16 => 4 | 17 => 2 | 18 => 5 | 19 => 6 | x => x⟩

set_option maxRecDepth 100000 in
theorem l172_lays : LaysC.n172 Tryd.prog l172_ren where
  mixed := by kernel_rfl
  f129 := by kernel_rfl
  f171 := by kernel_rfl
  f172 := by kernel_rfl
  f205 := by kernel_rfl
  f243 := by kernel_rfl
  f244 := by kernel_rfl
  f245 := by kernel_rfl
  f246 := by kernel_rfl
  f247 := by kernel_rfl
  f279 := by kernel_rfl
  f280 := by kernel_rfl
  f281 := by kernel_rfl
  f282 := by kernel_rfl
  f283 := by kernel_rfl
  f284 := by kernel_rfl
  f285 := by kernel_rfl
  f286 := by kernel_rfl
  f287 := by kernel_rfl
  f316 := by kernel_rfl
  f317 := by kernel_rfl
  f318 := by kernel_rfl
  f319 := by kernel_rfl
  f320 := by kernel_rfl
  f321 := by kernel_rfl
  f322 := by kernel_rfl
  f337 := by kernel_rfl
  f338 := by kernel_rfl
  t0 := Tryd.underlying0
  a0 := fun w => l172_a (P := Tryd.prog) (d := (TypeDesc.tuple #[])) 0 w
  z0 := fun w => l172_z (P := Tryd.prog) 0 w
  v0 := fun w => l172_v (P := Tryd.prog) 0 w
  t2 := Tryd.underlying2
  a2 := fun w => l172_a (P := Tryd.prog) (d := (TypeDesc.int IntKind.i64)) 2 w
  z2 := fun w => l172_z (P := Tryd.prog) 2 w
  v2 := fun w => l172_v (P := Tryd.prog) 2 w
  t3 := Tryd.underlying3
  a3 := fun w => l172_a (P := Tryd.prog) (d := (TypeDesc.int IntKind.i64)) 3 w
  z3 := fun w => l172_z (P := Tryd.prog) 3 w
  v3 := fun w => l172_v (P := Tryd.prog) 3 w
  t4 := Tryd.underlying4
  a4 := fun w => l172_a (P := Tryd.prog) (d := TypeDesc.bool) 4 w
  z4 := fun w => l172_z (P := Tryd.prog) 4 w
  v4 := fun w => l172_v (P := Tryd.prog) 4 w
  t5 := Tryd.underlying5
  a5 := fun w => l172_a (P := Tryd.prog) (d := (TypeDesc.int IntKind.u8)) 5 w
  z5 := fun w => l172_z (P := Tryd.prog) 5 w
  v5 := fun w => l172_v (P := Tryd.prog) 5 w
  t9 := Tryd.underlying9
  a9 := fun w => l172_a (P := Tryd.prog) (d := TypeDesc.string) 9 w
  z9 := fun w => l172_z (P := Tryd.prog) 9 w
  v9 := fun w => l172_v (P := Tryd.prog) 9 w
  t20 := Tryd.underlying20
  a20 := fun w => l172_a (P := Tryd.prog) (d := (TypeDesc.interface #[])) 20 w
  z20 := fun w => l172_z (P := Tryd.prog) 20 w
  v20 := fun w => l172_v (P := Tryd.prog) 20 w
  t21 := Tryd.underlying21
  a21 := fun w => l172_a (P := Tryd.prog) (d := (TypeDesc.int IntKind.i32)) 21 w
  z21 := fun w => l172_z (P := Tryd.prog) 21 w
  v21 := fun w => l172_v (P := Tryd.prog) 21 w
  t37 := Tryd.underlying43
  a37 := fun w => l172_a (P := Tryd.prog) (d := (TypeDesc.slice 5)) 43 w
  z37 := fun w => l172_z (P := Tryd.prog) 43 w
  v37 := fun w => l172_v (P := Tryd.prog) 43 w
  t46 := Tryd.underlying83
  a46 := fun w => l172_a (P := Tryd.prog) (d := (TypeDesc.int IntKind.u64)) 83 w
  z46 := fun w => l172_z (P := Tryd.prog) 83 w
  v46 := fun w => l172_v (P := Tryd.prog) 83 w
  t51 := Tryd.underlying123
  a51 := fun w => l172_a (P := Tryd.prog) (d := (TypeDesc.int IntKind.u32)) 123 w
  z51 := fun w => l172_z (P := Tryd.prog) 123 w
  v51 := fun w => l172_v (P := Tryd.prog) 123 w
  t53 := Tryd.underlying101
  a53 := fun w => l172_a (P := Tryd.prog) (d := (TypeDesc.int IntKind.u64)) 101 w
  z53 := fun w => l172_z (P := Tryd.prog) 101 w
  v53 := fun w => l172_v (P := Tryd.prog) 101 w
  t75 := Tryd.underlying98
  a75 := fun w => l172_a (P := Tryd.prog) (d := (TypeDesc.interface #[("Error", 76)])) 98 w
  z75 := fun w => l172_z (P := Tryd.prog) 98 w
  v75 := fun w => l172_v (P := Tryd.prog) 98 w
  t76 := Tryd.underlying99
  a76 := fun w => l172_a (P := Tryd.prog) (d := (TypeDesc.tuple #[3, 98])) 99 w
  z76 := fun w => l172_z (P := Tryd.prog) 99 w
  v76 := fun w => l172_v (P := Tryd.prog) 99 w
  t85 := Tryd.underlying116
  a85 := fun w => l172_a (P := Tryd.prog) (d := (TypeDesc.tuple #[2, 98])) 116 w
  z85 := fun w => l172_z (P := Tryd.prog) 116 w
  v85 := fun w => l172_v (P := Tryd.prog) 116 w
  t127 := Tryd.underlying132
  a127 := fun w => l172_a (P := Tryd.prog) (d := (TypeDesc.pointer 5)) 132 w
  z127 := fun w => l172_z (P := Tryd.prog) 132 w
  v127 := fun w => l172_v (P := Tryd.prog) 132 w
  t143 := Tryd.underlying133
  a143 := fun w => l172_a (P := Tryd.prog) (d := (TypeDesc.pointer 135)) 133 w
  z143 := fun w => l172_z (P := Tryd.prog) 133 w
  v143 := fun w => l172_v (P := Tryd.prog) 133 w
  t145 := Tryd.underlying135
  a145 := fun w => l172_a (P := Tryd.prog) (d := (TypeDesc.struct #[{ name := "s", type := 9, offset := 0, embedded := false, tag := "", pkgPath := "errors", byteOffset := 0 }])) 135 w
  z145 := fun w => l172_z (P := Tryd.prog) 135 w
  v145 := fun w => l172_v (P := Tryd.prog) 135 w
  t167 := Tryd.underlying115
  a167 := fun w => l172_a (P := Tryd.prog) (d := (TypeDesc.int IntKind.i64)) 115 w
  z167 := fun w => l172_z (P := Tryd.prog) 115 w
  v167 := fun w => l172_v (P := Tryd.prog) 115 w
  t168 := Tryd.underlying118
  a168 := fun w => l172_a (P := Tryd.prog) (d := (TypeDesc.pointer 129)) 118 w
  z168 := fun w => l172_z (P := Tryd.prog) 118 w
  v168 := fun w => l172_v (P := Tryd.prog) 118 w
  t171 := Tryd.underlying110
  a171 := fun w => l172_a (P := Tryd.prog) (d := (TypeDesc.array 24 5)) 110 w
  z171 := fun w => l172_z (P := Tryd.prog) 110 w
  v171 := fun w => l172_v (P := Tryd.prog) 110 w
  t173 := Tryd.underlying113
  a173 := fun w => l172_a (P := Tryd.prog) (d := (TypeDesc.tuple #[43, 9])) 113 w
  z173 := fun w => l172_z (P := Tryd.prog) 113 w
  v173 := fun w => l172_v (P := Tryd.prog) 113 w
  t175 := Tryd.underlying106
  a175 := fun w => l172_a (P := Tryd.prog) (d := (TypeDesc.tuple #[101, 98])) 106 w
  z175 := fun w => l172_z (P := Tryd.prog) 106 w
  v175 := fun w => l172_v (P := Tryd.prog) 106 w
  t210 := Tryd.underlying129
  a210 := fun w => l172_a (P := Tryd.prog) (d := (TypeDesc.struct #[{ name := "Func", type := 9, offset := 0, embedded := false, tag := "", pkgPath := "", byteOffset := 0 }, { name := "Num", type := 9, offset := 1, embedded := false, tag := "", pkgPath := "", byteOffset := 16 }, { name := "Err", type := 98, offset := 2, embedded := false, tag := "", pkgPath := "", byteOffset := 32 }])) 129 w
  z210 := fun w => l172_z (P := Tryd.prog) 129 w
  v210 := fun w => l172_v (P := Tryd.prog) 129 w
  t212 := Tryd.underlying122
  a212 := fun w => l172_a (P := Tryd.prog) (d := (TypeDesc.array 20 101)) 122 w
  z212 := fun w => l172_z (P := Tryd.prog) 122 w
  v212 := fun w => l172_v (P := Tryd.prog) 122 w
  t213 := Tryd.underlying124
  a213 := fun w => l172_a (P := Tryd.prog) (d := (TypeDesc.array 65 5)) 124 w
  z213 := fun w => l172_z (P := Tryd.prog) 124 w
  t232 := Tryd.underlying136
  a232 := fun w => l172_a (P := Tryd.prog) (d := (TypeDesc.array 32 5)) 136 w
  z232 := fun w => l172_z (P := Tryd.prog) 136 w
  v232 := fun w => l172_v (P := Tryd.prog) 136 w
  t233 := Tryd.underlying137
  a233 := fun w => l172_a (P := Tryd.prog) (d := (TypeDesc.array 64 5)) 137 w
  z233 := fun w => l172_z (P := Tryd.prog) 137 w
  v233 := fun w => l172_v (P := Tryd.prog) 137 w
  g15 := by kernel_rfl
  g16 := by kernel_rfl
  g17 := by kernel_rfl
  g18 := by kernel_rfl
  g19 := by kernel_rfl
  t80 := Tryd.underlying76
  a80 := fun w => l172_a (P := Tryd.prog) (d := (TypeDesc.func #[] #[9] false)) 76 w
  z80 := fun w => l172_z (P := Tryd.prog) 76 w
  v80 := fun w => l172_v (P := Tryd.prog) 76 w
  i0 := by kernel_rfl
  i2 := by kernel_rfl
  i3 := by kernel_rfl
  i4 := by kernel_rfl
  i5 := by kernel_rfl
  i9 := by kernel_rfl
  i20 := by kernel_rfl
  i21 := by kernel_rfl
  i37 := by kernel_rfl
  i46 := by kernel_rfl
  i51 := by kernel_rfl
  i53 := by kernel_rfl
  i75 := by kernel_rfl
  i76 := by kernel_rfl
  i80 := by kernel_rfl
  i85 := by kernel_rfl
  i127 := by kernel_rfl
  i143 := by kernel_rfl
  i145 := by kernel_rfl
  i167 := by kernel_rfl
  i168 := by kernel_rfl
  i171 := by kernel_rfl
  i173 := by kernel_rfl
  i175 := by kernel_rfl
  i210 := by kernel_rfl
  i212 := by kernel_rfl
  i232 := by kernel_rfl
  i233 := by kernel_rfl
  m15 := by kernel_rfl
  m16 := by kernel_rfl
  m17 := by kernel_rfl
  m18 := by kernel_rfl
  m19 := by kernel_rfl
  c0 := by kernel_rfl
  c2 := by kernel_rfl
  c3 := by kernel_rfl
  c4 := by kernel_rfl
  c5 := by kernel_rfl
  c9 := by kernel_rfl
  c20 := by kernel_rfl
  c21 := by kernel_rfl
  c37 := by kernel_rfl
  c46 := by kernel_rfl
  c51 := by kernel_rfl
  c53 := by kernel_rfl
  c75 := by kernel_rfl
  c76 := by kernel_rfl
  c80 := by kernel_rfl
  c85 := by kernel_rfl
  c127 := by kernel_rfl
  c143 := by kernel_rfl
  c145 := by kernel_rfl
  c167 := by kernel_rfl
  c168 := by kernel_rfl
  c171 := by kernel_rfl
  c173 := by kernel_rfl
  c175 := by kernel_rfl
  c210 := by kernel_rfl
  c212 := by kernel_rfl
  c213 := by kernel_rfl
  c232 := by kernel_rfl
  c233 := by kernel_rfl
end Go.AL
