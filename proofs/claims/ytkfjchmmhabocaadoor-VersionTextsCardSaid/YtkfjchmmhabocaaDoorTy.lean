/- A library function lies in this program as the shelf of the kit has it; no condition. -/
import Derived.Test.YtkfjchmmhabocaaDoorProg
import Derived.Test.YtkfjchmmhabocaaDoorAl3
import Derived.Shelf.Strings.Repeat
import Derived.Shelf.Strconv.Clone
set_option linter.unusedVariables false
namespace Go.AL
open Go Go.Proofs

instance : TyU Tryd.prog 0 (TypeDesc.tuple #[]) := ⟨Tryd.underlying0⟩
instance : TyI Tryd.prog 0 1 0 (Value.tuple [].toArray) := ⟨by kernel_rfl⟩
instance : TyU Tryd.prog 1 (TypeDesc.func #[] #[] false) := ⟨Tryd.underlying1⟩
instance : TyI Tryd.prog 1 1 8 (Value.nilFunc) := ⟨by kernel_rfl⟩
instance : TyU Tryd.prog 2 (TypeDesc.int IntKind.i64) := ⟨Tryd.underlying2⟩
instance : TyI Tryd.prog 2 1 8 (Value.int IntKind.i64 (0)) := ⟨by kernel_rfl⟩
instance : TyU Tryd.prog 3 (TypeDesc.int IntKind.i64) := ⟨Tryd.underlying3⟩
instance : TyI Tryd.prog 3 1 8 (Value.int IntKind.i64 (0)) := ⟨by kernel_rfl⟩
instance : TyU Tryd.prog 4 TypeDesc.bool := ⟨Tryd.underlying4⟩
instance : TyI Tryd.prog 4 1 1 (Value.bool false) := ⟨by kernel_rfl⟩
instance : TyU Tryd.prog 5 (TypeDesc.int IntKind.u8) := ⟨Tryd.underlying5⟩
instance : TyI Tryd.prog 5 1 1 (Value.int IntKind.u8 (0)) := ⟨by kernel_rfl⟩
instance : TyU Tryd.prog 6 (TypeDesc.int IntKind.u8) := ⟨Tryd.underlying6⟩
instance : TyI Tryd.prog 6 1 1 (Value.int IntKind.u8 (0)) := ⟨by kernel_rfl⟩
instance : TyU Tryd.prog 7 (TypeDesc.struct #[{ name := "x", type := 2, offset := 0, embedded := false, tag := "", pkgPath := "runtime", byteOffset := 0 }, { name := "y", type := 3, offset := 1, embedded := false, tag := "", pkgPath := "runtime", byteOffset := 8 }, { name := "signed", type := 4, offset := 2, embedded := false, tag := "", pkgPath := "runtime", byteOffset := 16 }, { name := "code", type := 6, offset := 3, embedded := false, tag := "", pkgPath := "runtime", byteOffset := 17 }]) := ⟨Tryd.underlying7⟩
instance : TyI Tryd.prog 7 4 24 (Value.agg [Value.int IntKind.i64 (0), Value.int IntKind.i64 (0), Value.bool false, Value.int IntKind.u8 (0)].toArray) := ⟨by kernel_rfl⟩
instance : TyU Tryd.prog 8 (TypeDesc.struct #[{ name := "x", type := 2, offset := 0, embedded := false, tag := "", pkgPath := "runtime", byteOffset := 0 }, { name := "y", type := 3, offset := 1, embedded := false, tag := "", pkgPath := "runtime", byteOffset := 8 }, { name := "signed", type := 4, offset := 2, embedded := false, tag := "", pkgPath := "runtime", byteOffset := 16 }, { name := "code", type := 6, offset := 3, embedded := false, tag := "", pkgPath := "runtime", byteOffset := 17 }]) := ⟨Tryd.underlying8⟩
instance : TyI Tryd.prog 8 4 24 (Value.agg [Value.int IntKind.i64 (0), Value.int IntKind.i64 (0), Value.bool false, Value.int IntKind.u8 (0)].toArray) := ⟨by kernel_rfl⟩
instance : TyU Tryd.prog 9 TypeDesc.string := ⟨Tryd.underlying9⟩
instance : TyI Tryd.prog 9 1 16 (Value.string ⟨#[]⟩) := ⟨by kernel_rfl⟩
instance : TyU Tryd.prog 10 TypeDesc.string := ⟨Tryd.underlying10⟩
instance : TyI Tryd.prog 10 1 16 (Value.string ⟨#[]⟩) := ⟨by kernel_rfl⟩
instance : TyU Tryd.prog 11 TypeDesc.string := ⟨Tryd.underlying11⟩
instance : TyI Tryd.prog 11 1 16 (Value.string ⟨#[]⟩) := ⟨by kernel_rfl⟩
instance : TyU Tryd.prog 12 (TypeDesc.int IntKind.u64) := ⟨Tryd.underlying12⟩
instance : TyI Tryd.prog 12 1 8 (Value.int IntKind.u64 (0)) := ⟨by kernel_rfl⟩
instance : TyU Tryd.prog 13 (TypeDesc.struct #[{ name := "msg", type := 9, offset := 0, embedded := false, tag := "", pkgPath := "runtime", byteOffset := 0 }, { name := "addr", type := 12, offset := 1, embedded := false, tag := "", pkgPath := "runtime", byteOffset := 16 }]) := ⟨Tryd.underlying13⟩
instance : TyI Tryd.prog 13 2 24 (Value.agg [Value.string ⟨#[]⟩, Value.int IntKind.u64 (0)].toArray) := ⟨by kernel_rfl⟩
instance : TyU Tryd.prog 14 (TypeDesc.struct #[{ name := "msg", type := 9, offset := 0, embedded := false, tag := "", pkgPath := "runtime", byteOffset := 0 }, { name := "addr", type := 12, offset := 1, embedded := false, tag := "", pkgPath := "runtime", byteOffset := 16 }]) := ⟨Tryd.underlying14⟩
instance : TyI Tryd.prog 14 2 24 (Value.agg [Value.string ⟨#[]⟩, Value.int IntKind.u64 (0)].toArray) := ⟨by kernel_rfl⟩
instance : TyU Tryd.prog 15 (TypeDesc.pointer 113) := ⟨Tryd.underlying15⟩
instance : TyI Tryd.prog 15 1 8 (Value.pointer none) := ⟨by kernel_rfl⟩
instance : TyU Tryd.prog 16 (TypeDesc.pointer 116) := ⟨Tryd.underlying16⟩
instance : TyI Tryd.prog 16 1 8 (Value.pointer none) := ⟨by kernel_rfl⟩
instance : TyU Tryd.prog 17 (TypeDesc.pointer 123) := ⟨Tryd.underlying17⟩
instance : TyI Tryd.prog 17 1 8 (Value.pointer none) := ⟨by kernel_rfl⟩
instance : TyU Tryd.prog 18 (TypeDesc.struct #[{ name := "typ", type := 17, offset := 0, embedded := false, tag := "", pkgPath := "internal/runtime/maps", byteOffset := 0 }]) := ⟨Tryd.underlying18⟩
instance : TyI Tryd.prog 18 1 8 (Value.agg [Value.pointer none].toArray) := ⟨by kernel_rfl⟩
instance : TyU Tryd.prog 19 (TypeDesc.struct #[{ name := "typ", type := 17, offset := 0, embedded := false, tag := "", pkgPath := "internal/runtime/maps", byteOffset := 0 }]) := ⟨Tryd.underlying19⟩
instance : TyI Tryd.prog 19 1 8 (Value.agg [Value.pointer none].toArray) := ⟨by kernel_rfl⟩
instance : TyU Tryd.prog 20 (TypeDesc.interface #[]) := ⟨Tryd.underlying20⟩
instance : TyI Tryd.prog 20 1 16 (Value.nilIface) := ⟨by kernel_rfl⟩
instance : TyU Tryd.prog 21 (TypeDesc.int IntKind.i32) := ⟨Tryd.underlying21⟩
instance : TyI Tryd.prog 21 1 4 (Value.int IntKind.i32 (0)) := ⟨by kernel_rfl⟩
instance : TyU Tryd.prog 22 (TypeDesc.slice 3) := ⟨Tryd.underlying22⟩
instance : TyI Tryd.prog 22 1 24 (Value.slice none 0 0) := ⟨by kernel_rfl⟩
instance : TyU Tryd.prog 23 (TypeDesc.struct #[{ name := "Protocol", type := 9, offset := 0, embedded := false, tag := "", pkgPath := "", byteOffset := 0 }, { name := "Major", type := 3, offset := 1, embedded := false, tag := "", pkgPath := "", byteOffset := 16 }, { name := "Minor", type := 3, offset := 2, embedded := false, tag := "", pkgPath := "", byteOffset := 24 }, { name := "Form", type := 3, offset := 3, embedded := false, tag := "", pkgPath := "", byteOffset := 32 }, { name := "Size", type := 3, offset := 4, embedded := false, tag := "", pkgPath := "", byteOffset := 40 }]) := ⟨Tryd.underlying23⟩
instance : TyI Tryd.prog 23 5 48 (Value.agg [Value.string ⟨#[]⟩, Value.int IntKind.i64 (0), Value.int IntKind.i64 (0), Value.int IntKind.i64 (0), Value.int IntKind.i64 (0)].toArray) := ⟨by kernel_rfl⟩
instance : TyU Tryd.prog 24 (TypeDesc.struct #[{ name := "Protocol", type := 9, offset := 0, embedded := false, tag := "", pkgPath := "", byteOffset := 0 }, { name := "Major", type := 3, offset := 1, embedded := false, tag := "", pkgPath := "", byteOffset := 16 }, { name := "Minor", type := 3, offset := 2, embedded := false, tag := "", pkgPath := "", byteOffset := 24 }, { name := "Form", type := 3, offset := 3, embedded := false, tag := "", pkgPath := "", byteOffset := 32 }, { name := "Size", type := 3, offset := 4, embedded := false, tag := "", pkgPath := "", byteOffset := 40 }]) := ⟨Tryd.underlying24⟩
instance : TyI Tryd.prog 24 5 48 (Value.agg [Value.string ⟨#[]⟩, Value.int IntKind.i64 (0), Value.int IntKind.i64 (0), Value.int IntKind.i64 (0), Value.int IntKind.i64 (0)].toArray) := ⟨by kernel_rfl⟩
instance : TyU Tryd.prog 25 (TypeDesc.func #[22] #[4] false) := ⟨Tryd.underlying25⟩
instance : TyI Tryd.prog 25 1 8 (Value.nilFunc) := ⟨by kernel_rfl⟩
instance : TyU Tryd.prog 26 (TypeDesc.func #[] #[4] false) := ⟨Tryd.underlying26⟩
instance : TyI Tryd.prog 26 1 8 (Value.nilFunc) := ⟨by kernel_rfl⟩
instance : TyU Tryd.prog 27 (TypeDesc.func #[28] #[24] false) := ⟨Tryd.underlying27⟩
instance : TyI Tryd.prog 27 1 8 (Value.nilFunc) := ⟨by kernel_rfl⟩
instance : TyU Tryd.prog 28 (TypeDesc.pointer 48) := ⟨Tryd.underlying28⟩
instance : TyI Tryd.prog 28 1 8 (Value.pointer none) := ⟨by kernel_rfl⟩
instance : TyU Tryd.prog 29 (TypeDesc.func #[22] #[28] false) := ⟨Tryd.underlying29⟩
instance : TyI Tryd.prog 29 1 8 (Value.nilFunc) := ⟨by kernel_rfl⟩
instance : TyU Tryd.prog 30 (TypeDesc.slice 24) := ⟨Tryd.underlying30⟩
instance : TyI Tryd.prog 30 1 24 (Value.slice none 0 0) := ⟨by kernel_rfl⟩
instance : TyU Tryd.prog 31 (TypeDesc.int IntKind.i64) := ⟨Tryd.underlying31⟩
instance : TyI Tryd.prog 31 1 8 (Value.int IntKind.i64 (0)) := ⟨by kernel_rfl⟩
instance : TyU Tryd.prog 32 (TypeDesc.tuple #[9, 31]) := ⟨Tryd.underlying32⟩
instance : TyI Tryd.prog 32 1 0 (Value.tuple [Value.string ⟨#[]⟩, Value.int IntKind.i64 (0)].toArray) := ⟨by kernel_rfl⟩
instance : TyU Tryd.prog 33 (TypeDesc.func #[24] #[9, 31] false) := ⟨Tryd.underlying33⟩
instance : TyI Tryd.prog 33 1 8 (Value.nilFunc) := ⟨by kernel_rfl⟩
instance : TyU Tryd.prog 34 (TypeDesc.func #[24] #[4] false) := ⟨Tryd.underlying34⟩
instance : TyI Tryd.prog 34 1 8 (Value.nilFunc) := ⟨by kernel_rfl⟩
instance : TyU Tryd.prog 35 (TypeDesc.func #[9, 3, 3] #[9] false) := ⟨Tryd.underlying35⟩
instance : TyI Tryd.prog 35 1 8 (Value.nilFunc) := ⟨by kernel_rfl⟩
instance : TyU Tryd.prog 36 (TypeDesc.slice 9) := ⟨Tryd.underlying36⟩
instance : TyI Tryd.prog 36 1 24 (Value.slice none 0 0) := ⟨by kernel_rfl⟩
instance : TyU Tryd.prog 37 (TypeDesc.tuple #[24, 31]) := ⟨Tryd.underlying37⟩
instance : TyI Tryd.prog 37 1 0 (Value.tuple { toList := [Value.agg [Value.string ⟨#[]⟩, Value.int IntKind.i64 (0), Value.int IntKind.i64 (0), Value.int IntKind.i64 (0), Value.int IntKind.i64 (0)].toArray, Value.int IntKind.i64 (0)] }) := ⟨by kernel_rfl⟩
instance : TyU Tryd.prog 38 (TypeDesc.func #[9] #[24, 31] false) := ⟨Tryd.underlying38⟩
instance : TyI Tryd.prog 38 1 8 (Value.nilFunc) := ⟨by kernel_rfl⟩
instance : TyU Tryd.prog 39 (TypeDesc.func #[22, 24, 9, 3, 3] #[4] false) := ⟨Tryd.underlying39⟩
instance : TyI Tryd.prog 39 1 8 (Value.nilFunc) := ⟨by kernel_rfl⟩
instance : TyU Tryd.prog 40 (TypeDesc.func #[22, 3, 3] #[4] false) := ⟨Tryd.underlying40⟩
instance : TyI Tryd.prog 40 1 8 (Value.nilFunc) := ⟨by kernel_rfl⟩
instance : TyU Tryd.prog 41 (TypeDesc.tuple #[24, 3, 31]) := ⟨Tryd.underlying41⟩
instance : TyI Tryd.prog 41 1 0 (Value.tuple { toList := [Value.agg [Value.string ⟨#[]⟩, Value.int IntKind.i64 (0), Value.int IntKind.i64 (0), Value.int IntKind.i64 (0), Value.int IntKind.i64 (0)].toArray, Value.int IntKind.i64 (0), Value.int IntKind.i64 (0)] }) := ⟨by kernel_rfl⟩
instance : TyU Tryd.prog 42 (TypeDesc.func #[9] #[24, 3, 31] false) := ⟨Tryd.underlying42⟩
instance : TyI Tryd.prog 42 1 8 (Value.nilFunc) := ⟨by kernel_rfl⟩
instance : TyU Tryd.prog 43 (TypeDesc.func #[22, 9, 9] #[4] false) := ⟨Tryd.underlying43⟩
instance : TyI Tryd.prog 43 1 8 (Value.nilFunc) := ⟨by kernel_rfl⟩
instance : TyU Tryd.prog 44 (TypeDesc.func #[22, 5] #[4] false) := ⟨Tryd.underlying44⟩
instance : TyI Tryd.prog 44 1 8 (Value.nilFunc) := ⟨by kernel_rfl⟩
instance : TyU Tryd.prog 45 (TypeDesc.func #[36] #[9] true) := ⟨Tryd.underlying45⟩
instance : TyI Tryd.prog 45 1 8 (Value.nilFunc) := ⟨by kernel_rfl⟩
instance : TyU Tryd.prog 46 (TypeDesc.func #[3] #[3] false) := ⟨Tryd.underlying46⟩
instance : TyI Tryd.prog 46 1 8 (Value.nilFunc) := ⟨by kernel_rfl⟩
instance : TyU Tryd.prog 47 (TypeDesc.struct #[{ name := "l", type := 22, offset := 0, embedded := false, tag := "", pkgPath := "keyevent/keyeventkit", byteOffset := 0 }, { name := "at", type := 3, offset := 1, embedded := false, tag := "", pkgPath := "keyevent/keyeventkit", byteOffset := 24 }]) := ⟨Tryd.underlying47⟩
instance : TyI Tryd.prog 47 2 32 (Value.agg [Value.slice none 0 0, Value.int IntKind.i64 (0)].toArray) := ⟨by kernel_rfl⟩
instance : TyU Tryd.prog 48 (TypeDesc.struct #[{ name := "l", type := 22, offset := 0, embedded := false, tag := "", pkgPath := "keyevent/keyeventkit", byteOffset := 0 }, { name := "at", type := 3, offset := 1, embedded := false, tag := "", pkgPath := "keyevent/keyeventkit", byteOffset := 24 }]) := ⟨Tryd.underlying48⟩
instance : TyI Tryd.prog 48 2 32 (Value.agg [Value.slice none 0 0, Value.int IntKind.i64 (0)].toArray) := ⟨by kernel_rfl⟩
instance : TyU Tryd.prog 49 (TypeDesc.func #[3, 3] #[9] false) := ⟨Tryd.underlying49⟩
instance : TyI Tryd.prog 49 1 8 (Value.nilFunc) := ⟨by kernel_rfl⟩
instance : TyU Tryd.prog 50 (TypeDesc.map 3 9) := ⟨Tryd.underlying50⟩
instance : TyI Tryd.prog 50 1 8 (Value.map none) := ⟨by kernel_rfl⟩
instance : TyU Tryd.prog 51 (TypeDesc.func #[] #[50] false) := ⟨Tryd.underlying51⟩
instance : TyI Tryd.prog 51 1 8 (Value.nilFunc) := ⟨by kernel_rfl⟩
instance : TyU Tryd.prog 52 (TypeDesc.tuple #[9, 4]) := ⟨Tryd.underlying52⟩
instance : TyI Tryd.prog 52 1 0 (Value.tuple [Value.string ⟨#[]⟩, Value.bool false].toArray) := ⟨by kernel_rfl⟩
instance : TyU Tryd.prog 53 (TypeDesc.func #[9] #[4] false) := ⟨Tryd.underlying53⟩
instance : TyI Tryd.prog 53 1 8 (Value.nilFunc) := ⟨by kernel_rfl⟩
instance : TyU Tryd.prog 54 (TypeDesc.slice 5) := ⟨Tryd.underlying54⟩
instance : TyI Tryd.prog 54 1 24 (Value.slice none 0 0) := ⟨by kernel_rfl⟩
instance : TyU Tryd.prog 55 (TypeDesc.func #[3, 3] #[3] false) := ⟨Tryd.underlying55⟩
instance : TyI Tryd.prog 55 1 8 (Value.nilFunc) := ⟨by kernel_rfl⟩
instance : TyU Tryd.prog 56 (TypeDesc.func #[9] #[3] false) := ⟨Tryd.underlying56⟩
instance : TyI Tryd.prog 56 1 8 (Value.nilFunc) := ⟨by kernel_rfl⟩
instance : TyU Tryd.prog 57 (TypeDesc.func #[2, 3] #[9] false) := ⟨Tryd.underlying57⟩
instance : TyI Tryd.prog 57 1 8 (Value.nilFunc) := ⟨by kernel_rfl⟩
instance : TyU Tryd.prog 58 (TypeDesc.func #[9, 3] #[9] false) := ⟨Tryd.underlying58⟩
instance : TyI Tryd.prog 58 1 8 (Value.nilFunc) := ⟨by kernel_rfl⟩
instance : TyU Tryd.prog 59 (TypeDesc.int IntKind.u64) := ⟨Tryd.underlying59⟩
instance : TyI Tryd.prog 59 1 8 (Value.int IntKind.u64 (0)) := ⟨by kernel_rfl⟩
instance : TyU Tryd.prog 60 (TypeDesc.int IntKind.u64) := ⟨Tryd.underlying60⟩
instance : TyI Tryd.prog 60 1 8 (Value.int IntKind.u64 (0)) := ⟨by kernel_rfl⟩
instance : TyU Tryd.prog 61 (TypeDesc.interface #[("Error", 75)]) := ⟨Tryd.underlying61⟩
instance : TyI Tryd.prog 61 1 16 (Value.nilIface) := ⟨by kernel_rfl⟩
instance : TyU Tryd.prog 62 (TypeDesc.interface #[("Error", 75)]) := ⟨Tryd.underlying62⟩
instance : TyI Tryd.prog 62 1 16 (Value.nilIface) := ⟨by kernel_rfl⟩
instance : TyU Tryd.prog 63 (TypeDesc.tuple #[60, 62]) := ⟨Tryd.underlying63⟩
instance : TyI Tryd.prog 63 1 0 (Value.tuple [Value.int IntKind.u64 (0), Value.nilIface].toArray) := ⟨by kernel_rfl⟩
instance : TyU Tryd.prog 64 (TypeDesc.func #[9, 3, 3] #[60, 62] false) := ⟨Tryd.underlying64⟩
instance : TyI Tryd.prog 64 1 8 (Value.nilFunc) := ⟨by kernel_rfl⟩
instance : TyU Tryd.prog 65 (TypeDesc.tuple #[59, 59]) := ⟨Tryd.underlying65⟩
instance : TyI Tryd.prog 65 1 0 (Value.tuple [Value.int IntKind.u64 (0), Value.int IntKind.u64 (0)].toArray) := ⟨by kernel_rfl⟩
instance : TyU Tryd.prog 66 (TypeDesc.func #[59, 59] #[59, 59] false) := ⟨Tryd.underlying66⟩
instance : TyI Tryd.prog 66 1 8 (Value.nilFunc) := ⟨by kernel_rfl⟩
instance : TyU Tryd.prog 67 (TypeDesc.func #[9, 9] #[4] false) := ⟨Tryd.underlying67⟩
instance : TyI Tryd.prog 67 1 8 (Value.nilFunc) := ⟨by kernel_rfl⟩
instance : TyU Tryd.prog 68 (TypeDesc.pointer 70) := ⟨Tryd.underlying68⟩
instance : TyI Tryd.prog 68 1 8 (Value.pointer none) := ⟨by kernel_rfl⟩
instance : TyU Tryd.prog 69 (TypeDesc.struct #[{ name := "addr", type := 68, offset := 0, embedded := false, tag := "", pkgPath := "strings", byteOffset := 0 }, { name := "buf", type := 54, offset := 1, embedded := false, tag := "", pkgPath := "strings", byteOffset := 8 }]) := ⟨Tryd.underlying69⟩
instance : TyI Tryd.prog 69 2 32 (Value.agg [Value.pointer none, Value.slice none 0 0].toArray) := ⟨by kernel_rfl⟩
instance : TyU Tryd.prog 70 (TypeDesc.struct #[{ name := "addr", type := 68, offset := 0, embedded := false, tag := "", pkgPath := "strings", byteOffset := 0 }, { name := "buf", type := 54, offset := 1, embedded := false, tag := "", pkgPath := "strings", byteOffset := 8 }]) := ⟨Tryd.underlying70⟩
instance : TyI Tryd.prog 70 2 32 (Value.agg [Value.pointer none, Value.slice none 0 0].toArray) := ⟨by kernel_rfl⟩
instance : TyU Tryd.prog 71 (TypeDesc.func #[3] #[] false) := ⟨Tryd.underlying71⟩
instance : TyI Tryd.prog 71 1 8 (Value.nilFunc) := ⟨by kernel_rfl⟩
instance : TyU Tryd.prog 72 (TypeDesc.tuple #[3, 62]) := ⟨Tryd.underlying72⟩
instance : TyI Tryd.prog 72 1 0 (Value.tuple [Value.int IntKind.i64 (0), Value.nilIface].toArray) := ⟨by kernel_rfl⟩
instance : TyU Tryd.prog 73 (TypeDesc.func #[9] #[3, 62] false) := ⟨Tryd.underlying73⟩
instance : TyI Tryd.prog 73 1 8 (Value.nilFunc) := ⟨by kernel_rfl⟩
instance : TyU Tryd.prog 74 (TypeDesc.func #[] #[3] false) := ⟨Tryd.underlying74⟩
instance : TyI Tryd.prog 74 1 8 (Value.nilFunc) := ⟨by kernel_rfl⟩
instance : TyU Tryd.prog 75 (TypeDesc.func #[] #[9] false) := ⟨Tryd.underlying75⟩
instance : TyI Tryd.prog 75 1 8 (Value.nilFunc) := ⟨by kernel_rfl⟩
instance : TyU Tryd.prog 76 (TypeDesc.func #[9, 9, 3, 3, 62] #[62] false) := ⟨Tryd.underlying76⟩
instance : TyI Tryd.prog 76 1 8 (Value.nilFunc) := ⟨by kernel_rfl⟩
instance : TyU Tryd.prog 77 (TypeDesc.func #[3] #[9] false) := ⟨Tryd.underlying77⟩
instance : TyI Tryd.prog 77 1 8 (Value.nilFunc) := ⟨by kernel_rfl⟩
instance : TyU Tryd.prog 78 (TypeDesc.array 24 5) := ⟨Tryd.underlying78⟩
instance : TyI Tryd.prog 78 24 24 (Value.agg [Value.int IntKind.u8 (0), Value.int IntKind.u8 (0), Value.int IntKind.u8 (0), Value.int IntKind.u8 (0), Value.int IntKind.u8 (0), Value.int IntKind.u8 (0), Value.int IntKind.u8 (0), Value.int IntKind.u8 (0), Value.int IntKind.u8 (0), Value.int IntKind.u8 (0), Value.int IntKind.u8 (0), Value.int IntKind.u8 (0), Value.int IntKind.u8 (0), Value.int IntKind.u8 (0), Value.int IntKind.u8 (0), Value.int IntKind.u8 (0), Value.int IntKind.u8 (0), Value.int IntKind.u8 (0), Value.int IntKind.u8 (0), Value.int IntKind.u8 (0), Value.int IntKind.u8 (0), Value.int IntKind.u8 (0), Value.int IntKind.u8 (0), Value.int IntKind.u8 (0)].toArray) := ⟨by kernel_rfl⟩
instance : TyU Tryd.prog 79 (TypeDesc.func #[60] #[3] false) := ⟨Tryd.underlying79⟩
instance : TyI Tryd.prog 79 1 8 (Value.nilFunc) := ⟨by kernel_rfl⟩
instance : TyU Tryd.prog 80 (TypeDesc.func #[54, 60] #[] false) := ⟨Tryd.underlying80⟩
instance : TyI Tryd.prog 80 1 8 (Value.nilFunc) := ⟨by kernel_rfl⟩
instance : TyU Tryd.prog 81 (TypeDesc.tuple #[54, 9]) := ⟨Tryd.underlying81⟩
instance : TyI Tryd.prog 81 1 0 (Value.tuple [Value.slice none 0 0, Value.string ⟨#[]⟩].toArray) := ⟨by kernel_rfl⟩
instance : TyU Tryd.prog 82 (TypeDesc.func #[54, 60, 3, 4, 4] #[54, 9] false) := ⟨Tryd.underlying82⟩
instance : TyI Tryd.prog 82 1 8 (Value.nilFunc) := ⟨by kernel_rfl⟩
instance : TyU Tryd.prog 83 (TypeDesc.int IntKind.u32) := ⟨Tryd.underlying83⟩
instance : TyI Tryd.prog 83 1 4 (Value.int IntKind.u32 (0)) := ⟨by kernel_rfl⟩
instance : TyU Tryd.prog 84 (TypeDesc.tuple #[83, 83]) := ⟨Tryd.underlying84⟩
instance : TyI Tryd.prog 84 1 0 (Value.tuple [Value.int IntKind.u32 (0), Value.int IntKind.u32 (0)].toArray) := ⟨by kernel_rfl⟩
instance : TyU Tryd.prog 85 (TypeDesc.func #[83, 83] #[83, 83] false) := ⟨Tryd.underlying85⟩
instance : TyI Tryd.prog 85 1 8 (Value.nilFunc) := ⟨by kernel_rfl⟩
instance : TyU Tryd.prog 86 (TypeDesc.tuple #[60, 60]) := ⟨Tryd.underlying86⟩
instance : TyI Tryd.prog 86 1 0 (Value.tuple [Value.int IntKind.u64 (0), Value.int IntKind.u64 (0)].toArray) := ⟨by kernel_rfl⟩
instance : TyU Tryd.prog 87 (TypeDesc.func #[60, 60] #[60, 60] false) := ⟨Tryd.underlying87⟩
instance : TyI Tryd.prog 87 1 8 (Value.nilFunc) := ⟨by kernel_rfl⟩
instance : TyU Tryd.prog 88 (TypeDesc.pointer 5) := ⟨Tryd.underlying88⟩
instance : TyI Tryd.prog 88 1 8 (Value.pointer none) := ⟨by kernel_rfl⟩
instance : TyU Tryd.prog 89 (TypeDesc.int IntKind.i64) := ⟨Tryd.underlying89⟩
instance : TyI Tryd.prog 89 1 8 (Value.int IntKind.i64 (0)) := ⟨by kernel_rfl⟩
instance : TyU Tryd.prog 90 (TypeDesc.func #[5] #[5] false) := ⟨Tryd.underlying90⟩
instance : TyI Tryd.prog 90 1 8 (Value.nilFunc) := ⟨by kernel_rfl⟩
instance : TyU Tryd.prog 91 (TypeDesc.pointer 104) := ⟨Tryd.underlying91⟩
instance : TyI Tryd.prog 91 1 8 (Value.pointer none) := ⟨by kernel_rfl⟩
instance : TyU Tryd.prog 92 (TypeDesc.func #[9, 9] #[91] false) := ⟨Tryd.underlying92⟩
instance : TyI Tryd.prog 92 1 8 (Value.nilFunc) := ⟨by kernel_rfl⟩
instance : TyU Tryd.prog 93 (TypeDesc.func #[9, 9, 3] #[91] false) := ⟨Tryd.underlying93⟩
instance : TyI Tryd.prog 93 1 8 (Value.nilFunc) := ⟨by kernel_rfl⟩
instance : TyU Tryd.prog 94 (TypeDesc.func #[4] #[3] false) := ⟨Tryd.underlying94⟩
instance : TyI Tryd.prog 94 1 8 (Value.nilFunc) := ⟨by kernel_rfl⟩
instance : TyU Tryd.prog 95 (TypeDesc.array 20 60) := ⟨Tryd.underlying95⟩
instance : TyI Tryd.prog 95 20 160 (Value.agg [Value.int IntKind.u64 (0), Value.int IntKind.u64 (0), Value.int IntKind.u64 (0), Value.int IntKind.u64 (0), Value.int IntKind.u64 (0), Value.int IntKind.u64 (0), Value.int IntKind.u64 (0), Value.int IntKind.u64 (0), Value.int IntKind.u64 (0), Value.int IntKind.u64 (0), Value.int IntKind.u64 (0), Value.int IntKind.u64 (0), Value.int IntKind.u64 (0), Value.int IntKind.u64 (0), Value.int IntKind.u64 (0), Value.int IntKind.u64 (0), Value.int IntKind.u64 (0), Value.int IntKind.u64 (0), Value.int IntKind.u64 (0), Value.int IntKind.u64 (0)].toArray) := ⟨by kernel_rfl⟩
instance : TyU Tryd.prog 96 (TypeDesc.array 65 5) := ⟨Tryd.underlying96⟩
instance : TyI Tryd.prog 96 65 65 (Value.agg [Value.int IntKind.u8 (0), Value.int IntKind.u8 (0), Value.int IntKind.u8 (0), Value.int IntKind.u8 (0), Value.int IntKind.u8 (0), Value.int IntKind.u8 (0), Value.int IntKind.u8 (0), Value.int IntKind.u8 (0), Value.int IntKind.u8 (0), Value.int IntKind.u8 (0), Value.int IntKind.u8 (0), Value.int IntKind.u8 (0), Value.int IntKind.u8 (0), Value.int IntKind.u8 (0), Value.int IntKind.u8 (0), Value.int IntKind.u8 (0), Value.int IntKind.u8 (0), Value.int IntKind.u8 (0), Value.int IntKind.u8 (0), Value.int IntKind.u8 (0), Value.int IntKind.u8 (0), Value.int IntKind.u8 (0), Value.int IntKind.u8 (0), Value.int IntKind.u8 (0), Value.int IntKind.u8 (0), Value.int IntKind.u8 (0), Value.int IntKind.u8 (0), Value.int IntKind.u8 (0), Value.int IntKind.u8 (0), Value.int IntKind.u8 (0), Value.int IntKind.u8 (0), Value.int IntKind.u8 (0), Value.int IntKind.u8 (0), Value.int IntKind.u8 (0), Value.int IntKind.u8 (0), Value.int IntKind.u8 (0), Value.int IntKind.u8 (0), Value.int IntKind.u8 (0), Value.int IntKind.u8 (0), Value.int IntKind.u8 (0), Value.int IntKind.u8 (0), Value.int IntKind.u8 (0), Value.int IntKind.u8 (0), Value.int IntKind.u8 (0), Value.int IntKind.u8 (0), Value.int IntKind.u8 (0), Value.int IntKind.u8 (0), Value.int IntKind.u8 (0), Value.int IntKind.u8 (0), Value.int IntKind.u8 (0), Value.int IntKind.u8 (0), Value.int IntKind.u8 (0), Value.int IntKind.u8 (0), Value.int IntKind.u8 (0), Value.int IntKind.u8 (0), Value.int IntKind.u8 (0), Value.int IntKind.u8 (0), Value.int IntKind.u8 (0), Value.int IntKind.u8 (0), Value.int IntKind.u8 (0), Value.int IntKind.u8 (0), Value.int IntKind.u8 (0), Value.int IntKind.u8 (0), Value.int IntKind.u8 (0), Value.int IntKind.u8 (0)].toArray) := ⟨by kernel_rfl⟩
instance : TyU Tryd.prog 97 (TypeDesc.func #[3] #[4] false) := ⟨Tryd.underlying97⟩
instance : TyI Tryd.prog 97 1 8 (Value.nilFunc) := ⟨by kernel_rfl⟩
instance : TyU Tryd.prog 98 (TypeDesc.func #[59] #[3] false) := ⟨Tryd.underlying98⟩
instance : TyI Tryd.prog 98 1 8 (Value.nilFunc) := ⟨by kernel_rfl⟩
instance : TyU Tryd.prog 99 TypeDesc.unsafePointer := ⟨Tryd.underlying99⟩
instance : TyI Tryd.prog 99 1 8 (Value.pointer none) := ⟨by kernel_rfl⟩
instance : TyU Tryd.prog 100 (TypeDesc.func #[99] #[99] false) := ⟨Tryd.underlying100⟩
instance : TyI Tryd.prog 100 1 8 (Value.nilFunc) := ⟨by kernel_rfl⟩
instance : TyU Tryd.prog 101 (TypeDesc.func #[3] #[54] false) := ⟨Tryd.underlying101⟩
instance : TyI Tryd.prog 101 1 8 (Value.nilFunc) := ⟨by kernel_rfl⟩
instance : TyU Tryd.prog 102 (TypeDesc.func #[9] #[9] false) := ⟨Tryd.underlying102⟩
instance : TyI Tryd.prog 102 1 8 (Value.nilFunc) := ⟨by kernel_rfl⟩
instance : TyU Tryd.prog 103 (TypeDesc.struct #[{ name := "Func", type := 9, offset := 0, embedded := false, tag := "", pkgPath := "", byteOffset := 0 }, { name := "Num", type := 9, offset := 1, embedded := false, tag := "", pkgPath := "", byteOffset := 16 }, { name := "Err", type := 62, offset := 2, embedded := false, tag := "", pkgPath := "", byteOffset := 32 }]) := ⟨Tryd.underlying103⟩
instance : TyI Tryd.prog 103 3 48 (Value.agg [Value.string ⟨#[]⟩, Value.string ⟨#[]⟩, Value.nilIface].toArray) := ⟨by kernel_rfl⟩
instance : TyU Tryd.prog 104 (TypeDesc.struct #[{ name := "Func", type := 9, offset := 0, embedded := false, tag := "", pkgPath := "", byteOffset := 0 }, { name := "Num", type := 9, offset := 1, embedded := false, tag := "", pkgPath := "", byteOffset := 16 }, { name := "Err", type := 62, offset := 2, embedded := false, tag := "", pkgPath := "", byteOffset := 32 }]) := ⟨Tryd.underlying104⟩
instance : TyI Tryd.prog 104 3 48 (Value.agg [Value.string ⟨#[]⟩, Value.string ⟨#[]⟩, Value.nilIface].toArray) := ⟨by kernel_rfl⟩
instance : TyU Tryd.prog 105 (TypeDesc.func #[9] #[62] false) := ⟨Tryd.underlying105⟩
instance : TyI Tryd.prog 105 1 8 (Value.nilFunc) := ⟨by kernel_rfl⟩
instance : TyU Tryd.prog 106 (TypeDesc.func #[83] #[3] false) := ⟨Tryd.underlying106⟩
instance : TyI Tryd.prog 106 1 8 (Value.nilFunc) := ⟨by kernel_rfl⟩
instance : TyU Tryd.prog 107 (TypeDesc.pointer 109) := ⟨Tryd.underlying107⟩
instance : TyI Tryd.prog 107 1 8 (Value.pointer none) := ⟨by kernel_rfl⟩
instance : TyU Tryd.prog 108 (TypeDesc.struct #[{ name := "s", type := 9, offset := 0, embedded := false, tag := "", pkgPath := "errors", byteOffset := 0 }]) := ⟨Tryd.underlying108⟩
instance : TyI Tryd.prog 108 1 16 (Value.agg [Value.string ⟨#[]⟩].toArray) := ⟨by kernel_rfl⟩
instance : TyU Tryd.prog 109 (TypeDesc.struct #[{ name := "s", type := 9, offset := 0, embedded := false, tag := "", pkgPath := "errors", byteOffset := 0 }]) := ⟨Tryd.underlying109⟩
instance : TyI Tryd.prog 109 1 16 (Value.agg [Value.string ⟨#[]⟩].toArray) := ⟨by kernel_rfl⟩
instance : TyU Tryd.prog 110 (TypeDesc.array 32 5) := ⟨Tryd.underlying110⟩
instance : TyI Tryd.prog 110 32 32 (Value.agg [Value.int IntKind.u8 (0), Value.int IntKind.u8 (0), Value.int IntKind.u8 (0), Value.int IntKind.u8 (0), Value.int IntKind.u8 (0), Value.int IntKind.u8 (0), Value.int IntKind.u8 (0), Value.int IntKind.u8 (0), Value.int IntKind.u8 (0), Value.int IntKind.u8 (0), Value.int IntKind.u8 (0), Value.int IntKind.u8 (0), Value.int IntKind.u8 (0), Value.int IntKind.u8 (0), Value.int IntKind.u8 (0), Value.int IntKind.u8 (0), Value.int IntKind.u8 (0), Value.int IntKind.u8 (0), Value.int IntKind.u8 (0), Value.int IntKind.u8 (0), Value.int IntKind.u8 (0), Value.int IntKind.u8 (0), Value.int IntKind.u8 (0), Value.int IntKind.u8 (0), Value.int IntKind.u8 (0), Value.int IntKind.u8 (0), Value.int IntKind.u8 (0), Value.int IntKind.u8 (0), Value.int IntKind.u8 (0), Value.int IntKind.u8 (0), Value.int IntKind.u8 (0), Value.int IntKind.u8 (0)].toArray) := ⟨by kernel_rfl⟩
instance : TyU Tryd.prog 111 (TypeDesc.array 64 5) := ⟨Tryd.underlying111⟩
instance : TyI Tryd.prog 111 64 64 (Value.agg [Value.int IntKind.u8 (0), Value.int IntKind.u8 (0), Value.int IntKind.u8 (0), Value.int IntKind.u8 (0), Value.int IntKind.u8 (0), Value.int IntKind.u8 (0), Value.int IntKind.u8 (0), Value.int IntKind.u8 (0), Value.int IntKind.u8 (0), Value.int IntKind.u8 (0), Value.int IntKind.u8 (0), Value.int IntKind.u8 (0), Value.int IntKind.u8 (0), Value.int IntKind.u8 (0), Value.int IntKind.u8 (0), Value.int IntKind.u8 (0), Value.int IntKind.u8 (0), Value.int IntKind.u8 (0), Value.int IntKind.u8 (0), Value.int IntKind.u8 (0), Value.int IntKind.u8 (0), Value.int IntKind.u8 (0), Value.int IntKind.u8 (0), Value.int IntKind.u8 (0), Value.int IntKind.u8 (0), Value.int IntKind.u8 (0), Value.int IntKind.u8 (0), Value.int IntKind.u8 (0), Value.int IntKind.u8 (0), Value.int IntKind.u8 (0), Value.int IntKind.u8 (0), Value.int IntKind.u8 (0), Value.int IntKind.u8 (0), Value.int IntKind.u8 (0), Value.int IntKind.u8 (0), Value.int IntKind.u8 (0), Value.int IntKind.u8 (0), Value.int IntKind.u8 (0), Value.int IntKind.u8 (0), Value.int IntKind.u8 (0), Value.int IntKind.u8 (0), Value.int IntKind.u8 (0), Value.int IntKind.u8 (0), Value.int IntKind.u8 (0), Value.int IntKind.u8 (0), Value.int IntKind.u8 (0), Value.int IntKind.u8 (0), Value.int IntKind.u8 (0), Value.int IntKind.u8 (0), Value.int IntKind.u8 (0), Value.int IntKind.u8 (0), Value.int IntKind.u8 (0), Value.int IntKind.u8 (0), Value.int IntKind.u8 (0), Value.int IntKind.u8 (0), Value.int IntKind.u8 (0), Value.int IntKind.u8 (0), Value.int IntKind.u8 (0), Value.int IntKind.u8 (0), Value.int IntKind.u8 (0), Value.int IntKind.u8 (0), Value.int IntKind.u8 (0), Value.int IntKind.u8 (0), Value.int IntKind.u8 (0)].toArray) := ⟨by kernel_rfl⟩
instance : TyU Tryd.prog 112 (TypeDesc.struct #[{ name := "_interface", type := 17, offset := 0, embedded := false, tag := "", pkgPath := "runtime", byteOffset := 0 }, { name := "concrete", type := 17, offset := 1, embedded := false, tag := "", pkgPath := "runtime", byteOffset := 8 }, { name := "asserted", type := 17, offset := 2, embedded := false, tag := "", pkgPath := "runtime", byteOffset := 16 }, { name := "missingMethod", type := 9, offset := 3, embedded := false, tag := "", pkgPath := "runtime", byteOffset := 24 }]) := ⟨Tryd.underlying112⟩
instance : TyI Tryd.prog 112 4 40 (Value.agg [Value.pointer none, Value.pointer none, Value.pointer none, Value.string ⟨#[]⟩].toArray) := ⟨by kernel_rfl⟩
instance : TyU Tryd.prog 113 (TypeDesc.struct #[{ name := "_interface", type := 17, offset := 0, embedded := false, tag := "", pkgPath := "runtime", byteOffset := 0 }, { name := "concrete", type := 17, offset := 1, embedded := false, tag := "", pkgPath := "runtime", byteOffset := 8 }, { name := "asserted", type := 17, offset := 2, embedded := false, tag := "", pkgPath := "runtime", byteOffset := 16 }, { name := "missingMethod", type := 9, offset := 3, embedded := false, tag := "", pkgPath := "runtime", byteOffset := 24 }]) := ⟨Tryd.underlying113⟩
instance : TyI Tryd.prog 113 4 40 (Value.agg [Value.pointer none, Value.pointer none, Value.pointer none, Value.string ⟨#[]⟩].toArray) := ⟨by kernel_rfl⟩
instance : TyU Tryd.prog 114 (TypeDesc.array 0 16) := ⟨Tryd.underlying114⟩
instance : TyI Tryd.prog 114 0 0 (Value.agg [].toArray) := ⟨by kernel_rfl⟩
instance : TyU Tryd.prog 115 (TypeDesc.struct #[{ name := "_", type := 114, offset := 0, embedded := false, tag := "", pkgPath := "runtime", byteOffset := 0 }]) := ⟨Tryd.underlying115⟩
instance : TyI Tryd.prog 115 0 0 (Value.agg [].toArray) := ⟨by kernel_rfl⟩
instance : TyU Tryd.prog 116 (TypeDesc.struct #[{ name := "_", type := 114, offset := 0, embedded := false, tag := "", pkgPath := "runtime", byteOffset := 0 }]) := ⟨Tryd.underlying116⟩
instance : TyI Tryd.prog 116 0 0 (Value.agg [].toArray) := ⟨by kernel_rfl⟩
instance : TyU Tryd.prog 117 (TypeDesc.int IntKind.u8) := ⟨Tryd.underlying117⟩
instance : TyI Tryd.prog 117 1 1 (Value.int IntKind.u8 (0)) := ⟨by kernel_rfl⟩
instance : TyU Tryd.prog 118 (TypeDesc.int IntKind.u8) := ⟨Tryd.underlying118⟩
instance : TyI Tryd.prog 118 1 1 (Value.int IntKind.u8 (0)) := ⟨by kernel_rfl⟩
instance : TyU Tryd.prog 119 (TypeDesc.func #[99, 99] #[4] false) := ⟨Tryd.underlying119⟩
instance : TyI Tryd.prog 119 1 8 (Value.nilFunc) := ⟨by kernel_rfl⟩
instance : TyU Tryd.prog 120 (TypeDesc.int IntKind.i32) := ⟨Tryd.underlying120⟩
instance : TyI Tryd.prog 120 1 4 (Value.int IntKind.i32 (0)) := ⟨by kernel_rfl⟩
instance : TyU Tryd.prog 121 (TypeDesc.int IntKind.i32) := ⟨Tryd.underlying121⟩
instance : TyI Tryd.prog 121 1 4 (Value.int IntKind.i32 (0)) := ⟨by kernel_rfl⟩
instance : TyU Tryd.prog 122 (TypeDesc.struct #[{ name := "Size_", type := 12, offset := 0, embedded := false, tag := "", pkgPath := "", byteOffset := 0 }, { name := "PtrBytes", type := 12, offset := 1, embedded := false, tag := "", pkgPath := "", byteOffset := 8 }, { name := "Hash", type := 83, offset := 2, embedded := false, tag := "", pkgPath := "", byteOffset := 16 }, { name := "TFlag", type := 117, offset := 3, embedded := false, tag := "", pkgPath := "", byteOffset := 20 }, { name := "Align_", type := 5, offset := 4, embedded := false, tag := "", pkgPath := "", byteOffset := 21 }, { name := "FieldAlign_", type := 5, offset := 5, embedded := false, tag := "", pkgPath := "", byteOffset := 22 }, { name := "Kind_", type := 118, offset := 6, embedded := false, tag := "", pkgPath := "", byteOffset := 23 }, { name := "Equal", type := 119, offset := 7, embedded := false, tag := "", pkgPath := "", byteOffset := 24 }, { name := "GCData", type := 88, offset := 8, embedded := false, tag := "", pkgPath := "", byteOffset := 32 }, { name := "Str", type := 120, offset := 9, embedded := false, tag := "", pkgPath := "", byteOffset := 40 }, { name := "PtrToThis", type := 121, offset := 10, embedded := false, tag := "", pkgPath := "", byteOffset := 44 }]) := ⟨Tryd.underlying122⟩
instance : TyI Tryd.prog 122 11 48 (Value.agg [Value.int IntKind.u64 (0), Value.int IntKind.u64 (0), Value.int IntKind.u32 (0), Value.int IntKind.u8 (0), Value.int IntKind.u8 (0), Value.int IntKind.u8 (0), Value.int IntKind.u8 (0), Value.nilFunc, Value.pointer none, Value.int IntKind.i32 (0), Value.int IntKind.i32 (0)].toArray) := ⟨by kernel_rfl⟩
instance : TyU Tryd.prog 123 (TypeDesc.struct #[{ name := "Size_", type := 12, offset := 0, embedded := false, tag := "", pkgPath := "", byteOffset := 0 }, { name := "PtrBytes", type := 12, offset := 1, embedded := false, tag := "", pkgPath := "", byteOffset := 8 }, { name := "Hash", type := 83, offset := 2, embedded := false, tag := "", pkgPath := "", byteOffset := 16 }, { name := "TFlag", type := 117, offset := 3, embedded := false, tag := "", pkgPath := "", byteOffset := 20 }, { name := "Align_", type := 5, offset := 4, embedded := false, tag := "", pkgPath := "", byteOffset := 21 }, { name := "FieldAlign_", type := 5, offset := 5, embedded := false, tag := "", pkgPath := "", byteOffset := 22 }, { name := "Kind_", type := 118, offset := 6, embedded := false, tag := "", pkgPath := "", byteOffset := 23 }, { name := "Equal", type := 119, offset := 7, embedded := false, tag := "", pkgPath := "", byteOffset := 24 }, { name := "GCData", type := 88, offset := 8, embedded := false, tag := "", pkgPath := "", byteOffset := 32 }, { name := "Str", type := 120, offset := 9, embedded := false, tag := "", pkgPath := "", byteOffset := 40 }, { name := "PtrToThis", type := 121, offset := 10, embedded := false, tag := "", pkgPath := "", byteOffset := 44 }]) := ⟨Tryd.underlying123⟩
instance : TyI Tryd.prog 123 11 48 (Value.agg [Value.int IntKind.u64 (0), Value.int IntKind.u64 (0), Value.int IntKind.u32 (0), Value.int IntKind.u8 (0), Value.int IntKind.u8 (0), Value.int IntKind.u8 (0), Value.int IntKind.u8 (0), Value.nilFunc, Value.pointer none, Value.int IntKind.i32 (0), Value.int IntKind.i32 (0)].toArray) := ⟨by kernel_rfl⟩
instance : FnB Tryd.prog 3 := ⟨⟨Tryd.f3, Tryd.func3, by kernel_rfl, by kernel_rfl⟩⟩   -- keyevent/keyeventlaw09.VersionTexts
instance : FnB Tryd.prog 4 := ⟨⟨Tryd.f4, Tryd.func4, by kernel_rfl, by kernel_rfl⟩⟩   -- keyevent/keyeventlaw09.VersionBack
instance : FnB Tryd.prog 5 := ⟨⟨Tryd.f5, Tryd.func5, by kernel_rfl, by kernel_rfl⟩⟩   -- keyevent/keyeventlaw09.VersionFinds
instance : FnB Tryd.prog 6 := ⟨⟨Tryd.f6, Tryd.func6, by kernel_rfl, by kernel_rfl⟩⟩   -- keyevent/keyeventlaw09.VersionPlaces
instance : FnB Tryd.prog 7 := ⟨⟨Tryd.f7, Tryd.func7, by kernel_rfl, by kernel_rfl⟩⟩   -- keyevent/keyeventkit.Light
instance : FnB Tryd.prog 8 := ⟨⟨Tryd.f8, Tryd.func8, by kernel_rfl, by kernel_rfl⟩⟩   -- keyevent/keyeventlaw09.awake
instance : FnB Tryd.prog 9 := ⟨⟨Tryd.f9, Tryd.func9, by kernel_rfl, by kernel_rfl⟩⟩   -- keyevent/keyeventlaw09.some
instance : FnB Tryd.prog 10 := ⟨⟨Tryd.f10, Tryd.func10, by kernel_rfl, by kernel_rfl⟩⟩   -- keyevent/keyeventkit.Roll
instance : FnB Tryd.prog 11 := ⟨⟨Tryd.f11, Tryd.func11, by kernel_rfl, by kernel_rfl⟩⟩   -- keyevent/version.Text
instance : FnB Tryd.prog 12 := ⟨⟨Tryd.f12, Tryd.func12, by kernel_rfl, by kernel_rfl⟩⟩   -- keyevent/keyeventref09.Text
instance : FnB Tryd.prog 13 := ⟨⟨Tryd.f13, Tryd.func13, by kernel_rfl, by kernel_rfl⟩⟩   -- keyevent/version.Valid
instance : FnB Tryd.prog 14 := ⟨⟨Tryd.f14, Tryd.func14, by kernel_rfl, by kernel_rfl⟩⟩   -- keyevent/keyeventref09.Valid
instance : FnB Tryd.prog 15 := ⟨⟨Tryd.f15, Tryd.func15, by kernel_rfl, by kernel_rfl⟩⟩   -- keyevent/keyeventkit.Spoil
instance : FnB Tryd.prog 16 := ⟨⟨Tryd.f16, Tryd.func16, by kernel_rfl, by kernel_rfl⟩⟩   -- keyevent/version.Parse
instance : FnB Tryd.prog 17 := ⟨⟨Tryd.f17, Tryd.func17, by kernel_rfl, by kernel_rfl⟩⟩   -- keyevent/keyeventref09.Parse
instance : FnB Tryd.prog 18 := ⟨⟨Tryd.f18, Tryd.func18, by kernel_rfl, by kernel_rfl⟩⟩   -- keyevent/version.Find
instance : FnB Tryd.prog 19 := ⟨⟨Tryd.f19, Tryd.func19, by kernel_rfl, by kernel_rfl⟩⟩   -- keyevent/keyeventref09.Find
instance : FnB Tryd.prog 20 := ⟨⟨Tryd.f20, Tryd.func20, by kernel_rfl, by kernel_rfl⟩⟩   -- (*keyevent/keyeventkit.Dice).Word
instance : FnB Tryd.prog 21 := ⟨⟨Tryd.f21, Tryd.func21, by kernel_rfl, by kernel_rfl⟩⟩   -- (*keyevent/keyeventkit.Dice).Next
instance : FnB Tryd.prog 22 := ⟨⟨Tryd.f22, Tryd.func22, by kernel_rfl, by kernel_rfl⟩⟩   -- keyevent/version.hex
instance : FnB Tryd.prog 23 := ⟨⟨Tryd.f23, Tryd.func23, by kernel_rfl, by kernel_rfl⟩⟩   -- keyevent/version.names
instance : FnB Tryd.prog 24 := ⟨⟨Tryd.f24, Tryd.func24, by kernel_rfl, by kernel_rfl⟩⟩   -- keyevent/keyeventref09.hex
instance : FnB Tryd.prog 25 := ⟨⟨Tryd.f25, Tryd.func25, by kernel_rfl, by kernel_rfl⟩⟩   -- keyevent/version.protocol
instance : FnB Tryd.prog 26 := ⟨⟨Tryd.f26, Tryd.func26, by kernel_rfl, by kernel_rfl⟩⟩   -- keyevent/keyeventkit.Mod
instance : FnB Tryd.prog 27 := ⟨⟨Tryd.f27, Tryd.func27, by kernel_rfl, by kernel_rfl⟩⟩   -- keyevent/version.number
instance : FnB Tryd.prog 28 := ⟨⟨Tryd.f28, Tryd.func28, by kernel_rfl, by kernel_rfl⟩⟩   -- keyevent/keyeventref09.parse
instance : FnB Tryd.prog 29 := ⟨⟨Tryd.f29, Tryd.func29, by kernel_rfl, by kernel_rfl⟩⟩   -- strconv.FormatInt
instance : FnB Tryd.prog 30 := ⟨⟨Tryd.f30, Tryd.func30, by kernel_rfl, by kernel_rfl⟩⟩   -- strings.Repeat
instance : FnB Tryd.prog 31 := ⟨⟨Tryd.f31, Tryd.func31, by kernel_rfl, by kernel_rfl⟩⟩   -- strconv.ParseUint
instance : FnB Tryd.prog 32 := ⟨⟨Tryd.f32, Tryd.func32, by kernel_rfl, by kernel_rfl⟩⟩   -- internal/strconv.FormatInt
instance : FnB Tryd.prog 33 := ⟨⟨Tryd.f33, Tryd.func33, by kernel_rfl, by kernel_rfl⟩⟩   -- math/bits.Mul
instance : FnB Tryd.prog 34 := ⟨⟨Tryd.f34, Tryd.func34, by kernel_rfl, by kernel_rfl⟩⟩   -- strings.HasPrefix
instance : FnB Tryd.prog 35 := ⟨⟨Tryd.f35, Tryd.func35, by kernel_rfl, by kernel_rfl⟩⟩   -- (*strings.Builder).Grow
instance : FnB Tryd.prog 36 := ⟨⟨Tryd.f36, Tryd.func36, by kernel_rfl, by kernel_rfl⟩⟩   -- (*strings.Builder).WriteString
instance : FnB Tryd.prog 37 := ⟨⟨Tryd.f37, Tryd.func37, by kernel_rfl, by kernel_rfl⟩⟩   -- (*strings.Builder).Len
instance : FnB Tryd.prog 38 := ⟨⟨Tryd.f38, Tryd.func38, by kernel_rfl, by kernel_rfl⟩⟩   -- (*strings.Builder).String
instance : FnB Tryd.prog 39 := ⟨⟨Tryd.f39, Tryd.func39, by kernel_rfl, by kernel_rfl⟩⟩   -- internal/strconv.ParseUint
instance : FnB Tryd.prog 40 := ⟨⟨Tryd.f40, Tryd.func40, by kernel_rfl, by kernel_rfl⟩⟩   -- strconv.toError
instance : FnB Tryd.prog 41 := ⟨⟨Tryd.f41, Tryd.func41, by kernel_rfl, by kernel_rfl⟩⟩   -- internal/strconv.small
instance : FnB Tryd.prog 42 := ⟨⟨Tryd.f42, Tryd.func42, by kernel_rfl, by kernel_rfl⟩⟩   -- internal/strconv.numDigits
instance : FnB Tryd.prog 43 := ⟨⟨Tryd.f43, Tryd.func43, by kernel_rfl, by kernel_rfl⟩⟩   -- internal/strconv.formatBase10
instance : FnB Tryd.prog 44 := ⟨⟨Tryd.f44, Tryd.func44, by kernel_rfl, by kernel_rfl⟩⟩   -- internal/strconv.formatBits
instance : FnB Tryd.prog 45 := ⟨⟨Tryd.f45, Tryd.func45, by kernel_rfl, by kernel_rfl⟩⟩   -- math/bits.Mul32
instance : FnB Tryd.prog 46 := ⟨⟨Tryd.f46, Tryd.func46, by kernel_rfl, by kernel_rfl⟩⟩   -- math/bits.Mul64
instance : FnB Tryd.prog 47 := ⟨⟨Tryd.f47, Tryd.func47, by kernel_rfl, by kernel_rfl⟩⟩   -- internal/stringslite.HasPrefix
instance : FnB Tryd.prog 48 := ⟨⟨Tryd.f48, Tryd.func48, by kernel_rfl, by kernel_rfl⟩⟩   -- (*strings.Builder).copyCheck
instance : FnB Tryd.prog 49 := ⟨⟨Tryd.f49, Tryd.func49, by kernel_rfl, by kernel_rfl⟩⟩   -- (*strings.Builder).grow
instance : FnB Tryd.prog 50 := ⟨⟨Tryd.f50, Tryd.func50, by kernel_rfl, by kernel_rfl⟩⟩   -- internal/strconv.lower
instance : FnB Tryd.prog 51 := ⟨⟨Tryd.f51, Tryd.func51, by kernel_rfl, by kernel_rfl⟩⟩   -- internal/strconv.underscoreOK
instance : FnB Tryd.prog 52 := ⟨⟨Tryd.f52, Tryd.func52, by kernel_rfl, by kernel_rfl⟩⟩   -- strconv.syntaxError
instance : FnB Tryd.prog 53 := ⟨⟨Tryd.f53, Tryd.func53, by kernel_rfl, by kernel_rfl⟩⟩   -- strconv.rangeError
instance : FnB Tryd.prog 54 := ⟨⟨Tryd.f54, Tryd.func54, by kernel_rfl, by kernel_rfl⟩⟩   -- strconv.baseError
instance : FnB Tryd.prog 55 := ⟨⟨Tryd.f55, Tryd.func55, by kernel_rfl, by kernel_rfl⟩⟩   -- strconv.bitSizeError
instance : FnB Tryd.prog 56 := ⟨⟨Tryd.f56, Tryd.func56, by kernel_rfl, by kernel_rfl⟩⟩   -- internal/strconv.log10Pow2
instance : FnB Tryd.prog 57 := ⟨⟨Tryd.f57, Tryd.func57, by kernel_rfl, by kernel_rfl⟩⟩   -- math/bits.Len64
instance : FnB Tryd.prog 58 := ⟨⟨Tryd.f58, Tryd.func58, by kernel_rfl, by kernel_rfl⟩⟩   -- internal/strconv.bool2[int]
instance : FnB Tryd.prog 59 := ⟨⟨Tryd.f59, Tryd.func59, by kernel_rfl, by kernel_rfl⟩⟩   -- internal/strconv.isPowerOfTwo
instance : FnB Tryd.prog 60 := ⟨⟨Tryd.f60, Tryd.func60, by kernel_rfl, by kernel_rfl⟩⟩   -- math/bits.TrailingZeros
instance : FnB Tryd.prog 63 := ⟨⟨Tryd.f63, Tryd.func63, by kernel_rfl, by kernel_rfl⟩⟩   -- internal/stringslite.Clone
instance : FnB Tryd.prog 64 := ⟨⟨Tryd.f64, Tryd.func64, by kernel_rfl, by kernel_rfl⟩⟩   -- errors.New
instance : FnB Tryd.prog 65 := ⟨⟨Tryd.f65, Tryd.func65, by kernel_rfl, by kernel_rfl⟩⟩   -- strconv.Itoa
instance : FnB Tryd.prog 66 := ⟨⟨Tryd.f66, Tryd.func66, by kernel_rfl, by kernel_rfl⟩⟩   -- math/bits.TrailingZeros32
instance : FnB Tryd.prog 67 := ⟨⟨Tryd.f67, Tryd.func67, by kernel_rfl, by kernel_rfl⟩⟩   -- math/bits.TrailingZeros64
instance : FnB Tryd.prog 68 := ⟨⟨Tryd.f68, Tryd.func68, by kernel_rfl, by kernel_rfl⟩⟩   -- internal/strconv.Itoa

end Go.AL
set_option linter.unusedVariables false
namespace Go.AL
open Go Go.Proofs

instance : TyB Tryd.prog 7 [(0, 1), (1, 1), (2, 1), (3, 1)] := ⟨by kernel_rfl⟩
instance : TyB Tryd.prog 8 [(0, 1), (1, 1), (2, 1), (3, 1)] := ⟨by kernel_rfl⟩
instance : TyB Tryd.prog 13 [(0, 1), (1, 1)] := ⟨by kernel_rfl⟩
instance : TyB Tryd.prog 14 [(0, 1), (1, 1)] := ⟨by kernel_rfl⟩
instance : TyB Tryd.prog 18 [(0, 1)] := ⟨by kernel_rfl⟩
instance : TyB Tryd.prog 19 [(0, 1)] := ⟨by kernel_rfl⟩
instance : TyB Tryd.prog 23 [(0, 1), (1, 1), (2, 1), (3, 1), (4, 1)] := ⟨by kernel_rfl⟩
instance : TyB Tryd.prog 24 [(0, 1), (1, 1), (2, 1), (3, 1), (4, 1)] := ⟨by kernel_rfl⟩
instance : TyB Tryd.prog 47 [(0, 1), (1, 1)] := ⟨by kernel_rfl⟩
instance : TyB Tryd.prog 48 [(0, 1), (1, 1)] := ⟨by kernel_rfl⟩
instance : TyB Tryd.prog 69 [(0, 1), (1, 1)] := ⟨by kernel_rfl⟩
instance : TyB Tryd.prog 70 [(0, 1), (1, 1)] := ⟨by kernel_rfl⟩
instance : TyB Tryd.prog 103 [(0, 1), (1, 1), (2, 1)] := ⟨by kernel_rfl⟩
instance : TyB Tryd.prog 104 [(0, 1), (1, 1), (2, 1)] := ⟨by kernel_rfl⟩
instance : TyB Tryd.prog 108 [(0, 1)] := ⟨by kernel_rfl⟩
instance : TyB Tryd.prog 109 [(0, 1)] := ⟨by kernel_rfl⟩
instance : TyB Tryd.prog 112 [(0, 1), (1, 1), (2, 1), (3, 1)] := ⟨by kernel_rfl⟩
instance : TyB Tryd.prog 113 [(0, 1), (1, 1), (2, 1), (3, 1)] := ⟨by kernel_rfl⟩
instance : TyB Tryd.prog 115 [(0, 0)] := ⟨by kernel_rfl⟩
instance : TyB Tryd.prog 116 [(0, 0)] := ⟨by kernel_rfl⟩
instance : TyB Tryd.prog 122 [(0, 1), (1, 1), (2, 1), (3, 1), (4, 1), (5, 1), (6, 1), (7, 1), (8, 1), (9, 1), (10, 1)] := ⟨by kernel_rfl⟩
instance : TyB Tryd.prog 123 [(0, 1), (1, 1), (2, 1), (3, 1), (4, 1), (5, 1), (6, 1), (7, 1), (8, 1), (9, 1), (10, 1)] := ⟨by kernel_rfl⟩

end Go.AL
set_option linter.unusedVariables false
namespace Go.AL
open Go Go.Proofs Go.RowKit Go.Shelf

theorem rv_a {P : Program} (t : TypeId) {d : TypeDesc} [tu : TyU P t d] (w : World) : (isAgg t).run P w = .ok (isAggD d) w := run_isAgg tu
theorem rv_z {P : Program} (t : TypeId) {s b : Nat} {z : Value} [ti : TyI P t s b z] (w : World) : (Go.sizeOf t).run P w = .ok s w := run_sizeOf ti
theorem rv_v {P : Program} (t : TypeId) {s b : Nat} {z : Value} [ti : TyI P t s b z] (w : World) : (zeroValue t).run P w = .ok z w := run_zeroValue ti

def rv_ren : Ren := ⟨fun | 99 => 34 | 105 => 30 | 165 => 35 | 166 => 36 | 169 => 38 | 170 => 37 | 206 => 47 | 212 => 33 | 240 => 48 | 241 => 49 | 263 => 45 | 264 => 46 | 276 => 61 | 277 => 62 | x => x, fun | 0 => 0 | 3 => 3 | 4 => 4 | 5 => 5 | 9 => 9 | 20 => 20 | 37 => 54 | 46 => 59 | 51 => 83 | 53 => 60 | 70 => 68 | 72 => 70 | 75 => 62 | 76 => 72 | 80 => 75 | 109 => 65 | 127 => 88 | 146 => 84 | 148 => 86 | 164 => 99 | x => x, fun x => x⟩

set_option maxRecDepth 100000 in
theorem rv_lays : Lays.n105 Tryd.prog rv_ren where
  mixed := by kernel_rfl
  f99 := by kernel_rfl
  f105 := by kernel_rfl
  f165 := by kernel_rfl
  f166 := by kernel_rfl
  f169 := by kernel_rfl
  f170 := by kernel_rfl
  f206 := by kernel_rfl
  f212 := by kernel_rfl
  f240 := by kernel_rfl
  f241 := by kernel_rfl
  f263 := by kernel_rfl
  f264 := by kernel_rfl
  f276 := by kernel_rfl
  f277 := by kernel_rfl
  t0 := Tryd.underlying0
  a0 := fun w => rv_a (P := Tryd.prog) (d := (TypeDesc.tuple #[])) 0 w
  z0 := fun w => rv_z 0 w
  v0 := fun w => rv_v 0 w
  t3 := Tryd.underlying3
  a3 := fun w => rv_a (P := Tryd.prog) (d := (TypeDesc.int IntKind.i64)) 3 w
  z3 := fun w => rv_z 3 w
  v3 := fun w => rv_v 3 w
  t4 := Tryd.underlying4
  a4 := fun w => rv_a (P := Tryd.prog) (d := TypeDesc.bool) 4 w
  z4 := fun w => rv_z 4 w
  v4 := fun w => rv_v 4 w
  t5 := Tryd.underlying5
  a5 := fun w => rv_a (P := Tryd.prog) (d := (TypeDesc.int IntKind.u8)) 5 w
  z5 := fun w => rv_z 5 w
  v5 := fun w => rv_v 5 w
  t9 := Tryd.underlying9
  a9 := fun w => rv_a (P := Tryd.prog) (d := TypeDesc.string) 9 w
  z9 := fun w => rv_z 9 w
  v9 := fun w => rv_v 9 w
  t20 := Tryd.underlying20
  a20 := fun w => rv_a (P := Tryd.prog) (d := (TypeDesc.interface #[])) 20 w
  z20 := fun w => rv_z 20 w
  v20 := fun w => rv_v 20 w
  t37 := Tryd.underlying54
  a37 := fun w => rv_a (P := Tryd.prog) (d := (TypeDesc.slice 5)) 54 w
  z37 := fun w => rv_z 54 w
  v37 := fun w => rv_v 54 w
  t46 := Tryd.underlying59
  a46 := fun w => rv_a (P := Tryd.prog) (d := (TypeDesc.int IntKind.u64)) 59 w
  z46 := fun w => rv_z 59 w
  v46 := fun w => rv_v 59 w
  t51 := Tryd.underlying83
  a51 := fun w => rv_a (P := Tryd.prog) (d := (TypeDesc.int IntKind.u32)) 83 w
  z51 := fun w => rv_z 83 w
  v51 := fun w => rv_v 83 w
  t53 := Tryd.underlying60
  a53 := fun w => rv_a (P := Tryd.prog) (d := (TypeDesc.int IntKind.u64)) 60 w
  z53 := fun w => rv_z 60 w
  v53 := fun w => rv_v 60 w
  t70 := Tryd.underlying68
  a70 := fun w => rv_a (P := Tryd.prog) (d := (TypeDesc.pointer 70)) 68 w
  z70 := fun w => rv_z 68 w
  v70 := fun w => rv_v 68 w
  t72 := Tryd.underlying70
  a72 := fun w => rv_a (P := Tryd.prog) (d := (TypeDesc.struct #[{ name := "addr", type := 68, offset := 0, embedded := false, tag := "", pkgPath := "strings", byteOffset := 0 }, { name := "buf", type := 54, offset := 1, embedded := false, tag := "", pkgPath := "strings", byteOffset := 8 }])) 70 w
  z72 := fun w => rv_z 70 w
  v72 := fun w => rv_v 70 w
  t75 := Tryd.underlying62
  a75 := fun w => rv_a (P := Tryd.prog) (d := (TypeDesc.interface #[("Error", 75)])) 62 w
  z75 := fun w => rv_z 62 w
  v75 := fun w => rv_v 62 w
  t76 := Tryd.underlying72
  a76 := fun w => rv_a (P := Tryd.prog) (d := (TypeDesc.tuple #[3, 62])) 72 w
  z76 := fun w => rv_z 72 w
  v76 := fun w => rv_v 72 w
  t109 := Tryd.underlying65
  a109 := fun w => rv_a (P := Tryd.prog) (d := (TypeDesc.tuple #[59, 59])) 65 w
  z109 := fun w => rv_z 65 w
  v109 := fun w => rv_v 65 w
  t127 := Tryd.underlying88
  a127 := fun w => rv_a (P := Tryd.prog) (d := (TypeDesc.pointer 5)) 88 w
  z127 := fun w => rv_z 88 w
  v127 := fun w => rv_v 88 w
  t146 := Tryd.underlying84
  a146 := fun w => rv_a (P := Tryd.prog) (d := (TypeDesc.tuple #[83, 83])) 84 w
  z146 := fun w => rv_z 84 w
  v146 := fun w => rv_v 84 w
  t148 := Tryd.underlying86
  a148 := fun w => rv_a (P := Tryd.prog) (d := (TypeDesc.tuple #[60, 60])) 86 w
  z148 := fun w => rv_z 86 w
  v148 := fun w => rv_v 86 w
  t164 := Tryd.underlying99
  a164 := fun w => rv_a (P := Tryd.prog) (d := TypeDesc.unsafePointer) 99 w
  z164 := fun w => rv_z 99 w
  v164 := fun w => rv_v 99 w
end Go.AL
/- A library function lies in this program as the shelf of the kit has it; no condition. -/
set_option linter.unusedVariables false
namespace Go.AL
open Go Go.Proofs Go.RowKit Go.Shelf

theorem cl_a {P : Program} (t : TypeId) {d : TypeDesc} [tu : TyU P t d] (w : World) : (isAgg t).run P w = .ok (isAggD d) w := run_isAgg tu
theorem cl_z {P : Program} (t : TypeId) {s b : Nat} {z : Value} [ti : TyI P t s b z] (w : World) : (Go.sizeOf t).run P w = .ok s w := run_sizeOf ti
theorem cl_v {P : Program} (t : TypeId) {s b : Nat} {z : Value} [ti : TyI P t s b z] (w : World) : (zeroValue t).run P w = .ok z w := run_zeroValue ti

def cl_ren : Ren := ⟨fun | 316 => 63 | x => x, fun | 0 => 0 | 3 => 3 | 4 => 4 | 5 => 5 | 9 => 9 | 37 => 54 | 127 => 88 | x => x, fun x => x⟩

set_option maxRecDepth 100000 in
theorem cl_lays : LaysM.n316 Tryd.prog cl_ren where
  mixed := by kernel_rfl
  f316 := by kernel_rfl
  t0 := Tryd.underlying0
  a0 := fun w => cl_a (P := Tryd.prog) (d := (TypeDesc.tuple #[])) 0 w
  z0 := fun w => cl_z 0 w
  v0 := fun w => cl_v 0 w
  t3 := Tryd.underlying3
  a3 := fun w => cl_a (P := Tryd.prog) (d := (TypeDesc.int IntKind.i64)) 3 w
  z3 := fun w => cl_z 3 w
  v3 := fun w => cl_v 3 w
  t4 := Tryd.underlying4
  a4 := fun w => cl_a (P := Tryd.prog) (d := TypeDesc.bool) 4 w
  z4 := fun w => cl_z 4 w
  v4 := fun w => cl_v 4 w
  t9 := Tryd.underlying9
  a9 := fun w => cl_a (P := Tryd.prog) (d := TypeDesc.string) 9 w
  z9 := fun w => cl_z 9 w
  v9 := fun w => cl_v 9 w
  t37 := Tryd.underlying54
  a37 := fun w => cl_a (P := Tryd.prog) (d := (TypeDesc.slice 5)) 54 w
  z37 := fun w => cl_z 54 w
  v37 := fun w => cl_v 54 w
  t127 := Tryd.underlying88
  a127 := fun w => cl_a (P := Tryd.prog) (d := (TypeDesc.pointer 5)) 88 w
  z127 := fun w => cl_z 88 w
  v127 := fun w => cl_v 88 w
  t5 := Tryd.underlying5
  a5 := fun w => cl_a (P := Tryd.prog) (d := (TypeDesc.int IntKind.u8)) 5 w
  z5 := fun w => cl_z 5 w
  v5 := fun w => cl_v 5 w
  i0 := by kernel_rfl
  i3 := by kernel_rfl
  i4 := by kernel_rfl
  i5 := by kernel_rfl
  i9 := by kernel_rfl
  i37 := by kernel_rfl
  i127 := by kernel_rfl
end Go.AL
