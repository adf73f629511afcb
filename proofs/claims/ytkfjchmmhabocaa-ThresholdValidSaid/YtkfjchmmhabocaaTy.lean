/- Instances of the types of the program; no condition. -/
import Derived.Test.YtkfjchmmhabocaaProg
import Derived.Test.YtkfjchmmhabocaaAl3
set_option linter.unusedVariables false
namespace Go.AL
open Go Go.Proofs

instance : TyU Try.prog 0 (TypeDesc.tuple #[]) := ⟨Try.underlying0⟩
instance : TyI Try.prog 0 1 0 (Value.tuple [].toArray) := ⟨by kernel_rfl⟩
instance : TyU Try.prog 1 (TypeDesc.func #[] #[] false) := ⟨Try.underlying1⟩
instance : TyI Try.prog 1 1 8 (Value.nilFunc) := ⟨by kernel_rfl⟩
instance : TyU Try.prog 2 (TypeDesc.int IntKind.i64) := ⟨Try.underlying2⟩
instance : TyI Try.prog 2 1 8 (Value.int IntKind.i64 (0)) := ⟨by kernel_rfl⟩
instance : TyU Try.prog 3 (TypeDesc.int IntKind.i64) := ⟨Try.underlying3⟩
instance : TyI Try.prog 3 1 8 (Value.int IntKind.i64 (0)) := ⟨by kernel_rfl⟩
instance : TyU Try.prog 4 TypeDesc.bool := ⟨Try.underlying4⟩
instance : TyI Try.prog 4 1 1 (Value.bool false) := ⟨by kernel_rfl⟩
instance : TyU Try.prog 5 (TypeDesc.int IntKind.u8) := ⟨Try.underlying5⟩
instance : TyI Try.prog 5 1 1 (Value.int IntKind.u8 (0)) := ⟨by kernel_rfl⟩
instance : TyU Try.prog 6 (TypeDesc.int IntKind.u8) := ⟨Try.underlying6⟩
instance : TyI Try.prog 6 1 1 (Value.int IntKind.u8 (0)) := ⟨by kernel_rfl⟩
instance : TyU Try.prog 7 (TypeDesc.struct #[{ name := "x", type := 2, offset := 0, embedded := false, tag := "", pkgPath := "runtime", byteOffset := 0 }, { name := "y", type := 3, offset := 1, embedded := false, tag := "", pkgPath := "runtime", byteOffset := 8 }, { name := "signed", type := 4, offset := 2, embedded := false, tag := "", pkgPath := "runtime", byteOffset := 16 }, { name := "code", type := 6, offset := 3, embedded := false, tag := "", pkgPath := "runtime", byteOffset := 17 }]) := ⟨Try.underlying7⟩
instance : TyI Try.prog 7 4 24 (Value.agg [Value.int IntKind.i64 (0), Value.int IntKind.i64 (0), Value.bool false, Value.int IntKind.u8 (0)].toArray) := ⟨by kernel_rfl⟩
instance : TyU Try.prog 8 (TypeDesc.struct #[{ name := "x", type := 2, offset := 0, embedded := false, tag := "", pkgPath := "runtime", byteOffset := 0 }, { name := "y", type := 3, offset := 1, embedded := false, tag := "", pkgPath := "runtime", byteOffset := 8 }, { name := "signed", type := 4, offset := 2, embedded := false, tag := "", pkgPath := "runtime", byteOffset := 16 }, { name := "code", type := 6, offset := 3, embedded := false, tag := "", pkgPath := "runtime", byteOffset := 17 }]) := ⟨Try.underlying8⟩
instance : TyI Try.prog 8 4 24 (Value.agg [Value.int IntKind.i64 (0), Value.int IntKind.i64 (0), Value.bool false, Value.int IntKind.u8 (0)].toArray) := ⟨by kernel_rfl⟩
instance : TyU Try.prog 9 TypeDesc.string := ⟨Try.underlying9⟩
instance : TyI Try.prog 9 1 16 (Value.string ⟨#[]⟩) := ⟨by kernel_rfl⟩
instance : TyU Try.prog 10 TypeDesc.string := ⟨Try.underlying10⟩
instance : TyI Try.prog 10 1 16 (Value.string ⟨#[]⟩) := ⟨by kernel_rfl⟩
instance : TyU Try.prog 11 TypeDesc.string := ⟨Try.underlying11⟩
instance : TyI Try.prog 11 1 16 (Value.string ⟨#[]⟩) := ⟨by kernel_rfl⟩
instance : TyU Try.prog 12 (TypeDesc.int IntKind.u64) := ⟨Try.underlying12⟩
instance : TyI Try.prog 12 1 8 (Value.int IntKind.u64 (0)) := ⟨by kernel_rfl⟩
instance : TyU Try.prog 13 (TypeDesc.struct #[{ name := "msg", type := 9, offset := 0, embedded := false, tag := "", pkgPath := "runtime", byteOffset := 0 }, { name := "addr", type := 12, offset := 1, embedded := false, tag := "", pkgPath := "runtime", byteOffset := 16 }]) := ⟨Try.underlying13⟩
instance : TyI Try.prog 13 2 24 (Value.agg [Value.string ⟨#[]⟩, Value.int IntKind.u64 (0)].toArray) := ⟨by kernel_rfl⟩
instance : TyU Try.prog 14 (TypeDesc.struct #[{ name := "msg", type := 9, offset := 0, embedded := false, tag := "", pkgPath := "runtime", byteOffset := 0 }, { name := "addr", type := 12, offset := 1, embedded := false, tag := "", pkgPath := "runtime", byteOffset := 16 }]) := ⟨Try.underlying14⟩
instance : TyI Try.prog 14 2 24 (Value.agg [Value.string ⟨#[]⟩, Value.int IntKind.u64 (0)].toArray) := ⟨by kernel_rfl⟩
instance : TyU Try.prog 15 (TypeDesc.pointer 96) := ⟨Try.underlying15⟩
instance : TyI Try.prog 15 1 8 (Value.pointer none) := ⟨by kernel_rfl⟩
instance : TyU Try.prog 16 (TypeDesc.pointer 99) := ⟨Try.underlying16⟩
instance : TyI Try.prog 16 1 8 (Value.pointer none) := ⟨by kernel_rfl⟩
instance : TyU Try.prog 17 (TypeDesc.pointer 108) := ⟨Try.underlying17⟩
instance : TyI Try.prog 17 1 8 (Value.pointer none) := ⟨by kernel_rfl⟩
instance : TyU Try.prog 18 (TypeDesc.struct #[{ name := "typ", type := 17, offset := 0, embedded := false, tag := "", pkgPath := "internal/runtime/maps", byteOffset := 0 }]) := ⟨Try.underlying18⟩
instance : TyI Try.prog 18 1 8 (Value.agg [Value.pointer none].toArray) := ⟨by kernel_rfl⟩
instance : TyU Try.prog 19 (TypeDesc.struct #[{ name := "typ", type := 17, offset := 0, embedded := false, tag := "", pkgPath := "internal/runtime/maps", byteOffset := 0 }]) := ⟨Try.underlying19⟩
instance : TyI Try.prog 19 1 8 (Value.agg [Value.pointer none].toArray) := ⟨by kernel_rfl⟩
instance : TyU Try.prog 20 (TypeDesc.interface #[]) := ⟨Try.underlying20⟩
instance : TyI Try.prog 20 1 16 (Value.nilIface) := ⟨by kernel_rfl⟩
instance : TyU Try.prog 21 (TypeDesc.int IntKind.i32) := ⟨Try.underlying21⟩
instance : TyI Try.prog 21 1 4 (Value.int IntKind.i32 (0)) := ⟨by kernel_rfl⟩
instance : TyU Try.prog 22 (TypeDesc.slice 3) := ⟨Try.underlying22⟩
instance : TyI Try.prog 22 1 24 (Value.slice none 0 0) := ⟨by kernel_rfl⟩
instance : TyU Try.prog 23 (TypeDesc.func #[22] #[4] false) := ⟨Try.underlying23⟩
instance : TyI Try.prog 23 1 8 (Value.nilFunc) := ⟨by kernel_rfl⟩
instance : TyU Try.prog 24 (TypeDesc.func #[] #[4] false) := ⟨Try.underlying24⟩
instance : TyI Try.prog 24 1 8 (Value.nilFunc) := ⟨by kernel_rfl⟩
instance : TyU Try.prog 25 (TypeDesc.pointer 50) := ⟨Try.underlying25⟩
instance : TyI Try.prog 25 1 8 (Value.pointer none) := ⟨by kernel_rfl⟩
instance : TyU Try.prog 26 (TypeDesc.func #[22] #[25] false) := ⟨Try.underlying26⟩
instance : TyI Try.prog 26 1 8 (Value.nilFunc) := ⟨by kernel_rfl⟩
instance : TyU Try.prog 27 (TypeDesc.func #[3] #[3] false) := ⟨Try.underlying27⟩
instance : TyI Try.prog 27 1 8 (Value.nilFunc) := ⟨by kernel_rfl⟩
instance : TyU Try.prog 28 (TypeDesc.slice 39) := ⟨Try.underlying28⟩
instance : TyI Try.prog 28 1 24 (Value.slice none 0 0) := ⟨by kernel_rfl⟩
instance : TyU Try.prog 29 (TypeDesc.struct #[{ name := "Number", type := 3, offset := 0, embedded := false, tag := "", pkgPath := "", byteOffset := 0 }, { name := "Weights", type := 28, offset := 1, embedded := false, tag := "", pkgPath := "", byteOffset := 8 }]) := ⟨Try.underlying29⟩
instance : TyI Try.prog 29 2 32 (Value.agg [Value.int IntKind.i64 (0), Value.slice none 0 0].toArray) := ⟨by kernel_rfl⟩
instance : TyU Try.prog 30 (TypeDesc.struct #[{ name := "Number", type := 3, offset := 0, embedded := false, tag := "", pkgPath := "", byteOffset := 0 }, { name := "Weights", type := 28, offset := 1, embedded := false, tag := "", pkgPath := "", byteOffset := 8 }]) := ⟨Try.underlying30⟩
instance : TyI Try.prog 30 2 32 (Value.agg [Value.int IntKind.i64 (0), Value.slice none 0 0].toArray) := ⟨by kernel_rfl⟩
instance : TyU Try.prog 31 (TypeDesc.func #[25, 3] #[30] false) := ⟨Try.underlying31⟩
instance : TyI Try.prog 31 1 8 (Value.nilFunc) := ⟨by kernel_rfl⟩
instance : TyU Try.prog 32 (TypeDesc.func #[30, 22] #[4] false) := ⟨Try.underlying32⟩
instance : TyI Try.prog 32 1 8 (Value.nilFunc) := ⟨by kernel_rfl⟩
instance : TyU Try.prog 33 (TypeDesc.func #[22, 22] #[4] false) := ⟨Try.underlying33⟩
instance : TyI Try.prog 33 1 8 (Value.nilFunc) := ⟨by kernel_rfl⟩
instance : TyU Try.prog 34 (TypeDesc.func #[30, 3] #[3] false) := ⟨Try.underlying34⟩
instance : TyI Try.prog 34 1 8 (Value.nilFunc) := ⟨by kernel_rfl⟩
instance : TyU Try.prog 35 (TypeDesc.func #[30, 3] #[4] false) := ⟨Try.underlying35⟩
instance : TyI Try.prog 35 1 8 (Value.nilFunc) := ⟨by kernel_rfl⟩
instance : TyU Try.prog 36 (TypeDesc.int IntKind.u64) := ⟨Try.underlying36⟩
instance : TyI Try.prog 36 1 8 (Value.int IntKind.u64 (0)) := ⟨by kernel_rfl⟩
instance : TyU Try.prog 37 (TypeDesc.struct #[{ name := "Num", type := 3, offset := 0, embedded := false, tag := "", pkgPath := "", byteOffset := 0 }, { name := "Den", type := 3, offset := 1, embedded := false, tag := "", pkgPath := "", byteOffset := 8 }]) := ⟨Try.underlying37⟩
instance : TyI Try.prog 37 2 16 (Value.agg [Value.int IntKind.i64 (0), Value.int IntKind.i64 (0)].toArray) := ⟨by kernel_rfl⟩
instance : TyU Try.prog 38 (TypeDesc.struct #[{ name := "Num", type := 3, offset := 0, embedded := false, tag := "", pkgPath := "", byteOffset := 0 }, { name := "Den", type := 3, offset := 1, embedded := false, tag := "", pkgPath := "", byteOffset := 8 }]) := ⟨Try.underlying38⟩
instance : TyI Try.prog 38 2 16 (Value.agg [Value.int IntKind.i64 (0), Value.int IntKind.i64 (0)].toArray) := ⟨by kernel_rfl⟩
instance : TyU Try.prog 39 (TypeDesc.slice 38) := ⟨Try.underlying39⟩
instance : TyI Try.prog 39 1 24 (Value.slice none 0 0) := ⟨by kernel_rfl⟩
instance : TyU Try.prog 40 (TypeDesc.func #[25, 30] #[30] false) := ⟨Try.underlying40⟩
instance : TyI Try.prog 40 1 8 (Value.nilFunc) := ⟨by kernel_rfl⟩
instance : TyU Try.prog 41 (TypeDesc.slice 30) := ⟨Try.underlying41⟩
instance : TyI Try.prog 41 1 24 (Value.slice none 0 0) := ⟨by kernel_rfl⟩
instance : TyU Try.prog 42 (TypeDesc.func #[3, 3] #[3] false) := ⟨Try.underlying42⟩
instance : TyI Try.prog 42 1 8 (Value.nilFunc) := ⟨by kernel_rfl⟩
instance : TyU Try.prog 43 (TypeDesc.int IntKind.i64) := ⟨Try.underlying43⟩
instance : TyI Try.prog 43 1 8 (Value.int IntKind.i64 (0)) := ⟨by kernel_rfl⟩
instance : TyU Try.prog 44 (TypeDesc.tuple #[38, 43]) := ⟨Try.underlying44⟩
instance : TyI Try.prog 44 1 0 (Value.tuple { toList := [Value.agg [Value.int IntKind.i64 (0), Value.int IntKind.i64 (0)].toArray, Value.int IntKind.i64 (0)] }) := ⟨by kernel_rfl⟩
instance : TyU Try.prog 45 (TypeDesc.func #[39] #[38, 43] false) := ⟨Try.underlying45⟩
instance : TyI Try.prog 45 1 8 (Value.nilFunc) := ⟨by kernel_rfl⟩
instance : TyU Try.prog 46 (TypeDesc.func #[22, 30, 39, 3] #[4] false) := ⟨Try.underlying46⟩
instance : TyI Try.prog 46 1 8 (Value.nilFunc) := ⟨by kernel_rfl⟩
instance : TyU Try.prog 47 (TypeDesc.func #[22, 3] #[4] false) := ⟨Try.underlying47⟩
instance : TyI Try.prog 47 1 8 (Value.nilFunc) := ⟨by kernel_rfl⟩
instance : TyU Try.prog 48 (TypeDesc.func #[] #[30] false) := ⟨Try.underlying48⟩
instance : TyI Try.prog 48 1 8 (Value.nilFunc) := ⟨by kernel_rfl⟩
instance : TyU Try.prog 49 (TypeDesc.struct #[{ name := "l", type := 22, offset := 0, embedded := false, tag := "", pkgPath := "keyevent/keyeventkit", byteOffset := 0 }, { name := "at", type := 3, offset := 1, embedded := false, tag := "", pkgPath := "keyevent/keyeventkit", byteOffset := 24 }]) := ⟨Try.underlying49⟩
instance : TyI Try.prog 49 2 32 (Value.agg [Value.slice none 0 0, Value.int IntKind.i64 (0)].toArray) := ⟨by kernel_rfl⟩
instance : TyU Try.prog 50 (TypeDesc.struct #[{ name := "l", type := 22, offset := 0, embedded := false, tag := "", pkgPath := "keyevent/keyeventkit", byteOffset := 0 }, { name := "at", type := 3, offset := 1, embedded := false, tag := "", pkgPath := "keyevent/keyeventkit", byteOffset := 24 }]) := ⟨Try.underlying50⟩
instance : TyI Try.prog 50 2 32 (Value.agg [Value.slice none 0 0, Value.int IntKind.i64 (0)].toArray) := ⟨by kernel_rfl⟩
instance : TyU Try.prog 51 (TypeDesc.map 3 4) := ⟨Try.underlying51⟩
instance : TyI Try.prog 51 1 8 (Value.map none) := ⟨by kernel_rfl⟩
instance : TyU Try.prog 52 (TypeDesc.func #[39] #[4] false) := ⟨Try.underlying52⟩
instance : TyI Try.prog 52 1 8 (Value.nilFunc) := ⟨by kernel_rfl⟩
instance : TyU Try.prog 53 (TypeDesc.array 8 4) := ⟨Try.underlying53⟩
instance : TyI Try.prog 53 8 8 (Value.agg [Value.bool false, Value.bool false, Value.bool false, Value.bool false, Value.bool false, Value.bool false, Value.bool false, Value.bool false].toArray) := ⟨by kernel_rfl⟩
instance : TyU Try.prog 54 (TypeDesc.func #[39] #[3] false) := ⟨Try.underlying54⟩
instance : TyI Try.prog 54 1 8 (Value.nilFunc) := ⟨by kernel_rfl⟩
instance : TyU Try.prog 55 (TypeDesc.func #[30] #[3] false) := ⟨Try.underlying55⟩
instance : TyI Try.prog 55 1 8 (Value.nilFunc) := ⟨by kernel_rfl⟩
instance : TyU Try.prog 56 (TypeDesc.func #[28, 52] #[4] false) := ⟨Try.underlying56⟩
instance : TyI Try.prog 56 1 8 (Value.nilFunc) := ⟨by kernel_rfl⟩
instance : TyU Try.prog 57 (TypeDesc.func #[39, 58] #[4] false) := ⟨Try.underlying57⟩
instance : TyI Try.prog 57 1 8 (Value.nilFunc) := ⟨by kernel_rfl⟩
instance : TyU Try.prog 58 (TypeDesc.func #[38] #[4] false) := ⟨Try.underlying58⟩
instance : TyI Try.prog 58 1 8 (Value.nilFunc) := ⟨by kernel_rfl⟩
instance : TyU Try.prog 59 (TypeDesc.func #[39] #[38] false) := ⟨Try.underlying59⟩
instance : TyI Try.prog 59 1 8 (Value.nilFunc) := ⟨by kernel_rfl⟩
instance : TyU Try.prog 60 (TypeDesc.func #[62, 64] #[39] false) := ⟨Try.underlying60⟩
instance : TyI Try.prog 60 1 8 (Value.nilFunc) := ⟨by kernel_rfl⟩
instance : TyU Try.prog 61 (TypeDesc.func #[58] #[] false) := ⟨Try.underlying61⟩
instance : TyI Try.prog 61 1 8 (Value.nilFunc) := ⟨by kernel_rfl⟩
instance : TyU Try.prog 62 (TypeDesc.func #[58] #[] false) := ⟨Try.underlying62⟩
instance : TyI Try.prog 62 1 8 (Value.nilFunc) := ⟨by kernel_rfl⟩
instance : TyU Try.prog 63 (TypeDesc.func #[39] #[62] false) := ⟨Try.underlying63⟩
instance : TyI Try.prog 63 1 8 (Value.nilFunc) := ⟨by kernel_rfl⟩
instance : TyU Try.prog 64 (TypeDesc.func #[38, 38] #[3] false) := ⟨Try.underlying64⟩
instance : TyI Try.prog 64 1 8 (Value.nilFunc) := ⟨by kernel_rfl⟩
instance : TyU Try.prog 65 (TypeDesc.func #[28, 52] #[3] false) := ⟨Try.underlying65⟩
instance : TyI Try.prog 65 1 8 (Value.nilFunc) := ⟨by kernel_rfl⟩
instance : TyU Try.prog 66 (TypeDesc.func #[39, 58] #[3] false) := ⟨Try.underlying66⟩
instance : TyI Try.prog 66 1 8 (Value.nilFunc) := ⟨by kernel_rfl⟩
instance : TyU Try.prog 67 (TypeDesc.func #[38, 38] #[38] false) := ⟨Try.underlying67⟩
instance : TyI Try.prog 67 1 8 (Value.nilFunc) := ⟨by kernel_rfl⟩
instance : TyU Try.prog 68 (TypeDesc.func #[62] #[39] false) := ⟨Try.underlying68⟩
instance : TyI Try.prog 68 1 8 (Value.nilFunc) := ⟨by kernel_rfl⟩
instance : TyU Try.prog 69 (TypeDesc.func #[39, 64] #[] false) := ⟨Try.underlying69⟩
instance : TyI Try.prog 69 1 8 (Value.nilFunc) := ⟨by kernel_rfl⟩
instance : TyU Try.prog 70 (TypeDesc.func #[39, 62] #[39] false) := ⟨Try.underlying70⟩
instance : TyI Try.prog 70 1 8 (Value.nilFunc) := ⟨by kernel_rfl⟩
instance : TyU Try.prog 71 (TypeDesc.func #[39, 3, 3, 3, 64] #[] false) := ⟨Try.underlying71⟩
instance : TyI Try.prog 71 1 8 (Value.nilFunc) := ⟨by kernel_rfl⟩
instance : TyU Try.prog 72 (TypeDesc.func #[36] #[3] false) := ⟨Try.underlying72⟩
instance : TyI Try.prog 72 1 8 (Value.nilFunc) := ⟨by kernel_rfl⟩
instance : TyU Try.prog 73 (TypeDesc.func #[39, 3, 3, 64] #[] false) := ⟨Try.underlying73⟩
instance : TyI Try.prog 73 1 8 (Value.nilFunc) := ⟨by kernel_rfl⟩
instance : TyU Try.prog 74 (TypeDesc.int IntKind.i64) := ⟨Try.underlying74⟩
instance : TyI Try.prog 74 1 8 (Value.int IntKind.i64 (0)) := ⟨by kernel_rfl⟩
instance : TyU Try.prog 75 (TypeDesc.tuple #[3, 74]) := ⟨Try.underlying75⟩
instance : TyI Try.prog 75 1 0 (Value.tuple [Value.int IntKind.i64 (0), Value.int IntKind.i64 (0)].toArray) := ⟨by kernel_rfl⟩
instance : TyU Try.prog 76 (TypeDesc.func #[39, 3, 3, 64] #[3, 74] false) := ⟨Try.underlying76⟩
instance : TyI Try.prog 76 1 8 (Value.nilFunc) := ⟨by kernel_rfl⟩
instance : TyU Try.prog 77 (TypeDesc.func #[39, 3, 3, 64] #[4] false) := ⟨Try.underlying77⟩
instance : TyI Try.prog 77 1 8 (Value.nilFunc) := ⟨by kernel_rfl⟩
instance : TyU Try.prog 78 (TypeDesc.func #[39, 3, 3, 3, 64] #[3] false) := ⟨Try.underlying78⟩
instance : TyI Try.prog 78 1 8 (Value.nilFunc) := ⟨by kernel_rfl⟩
instance : TyU Try.prog 79 (TypeDesc.tuple #[3, 4]) := ⟨Try.underlying79⟩
instance : TyI Try.prog 79 1 0 (Value.tuple [Value.int IntKind.i64 (0), Value.bool false].toArray) := ⟨by kernel_rfl⟩
instance : TyU Try.prog 80 (TypeDesc.func #[39, 3, 3, 3, 64] #[3, 4] false) := ⟨Try.underlying80⟩
instance : TyI Try.prog 80 1 8 (Value.nilFunc) := ⟨by kernel_rfl⟩
instance : TyU Try.prog 81 (TypeDesc.func #[82] #[3] false) := ⟨Try.underlying81⟩
instance : TyI Try.prog 81 1 8 (Value.nilFunc) := ⟨by kernel_rfl⟩
instance : TyU Try.prog 82 (TypeDesc.int IntKind.u32) := ⟨Try.underlying82⟩
instance : TyI Try.prog 82 1 4 (Value.int IntKind.u32 (0)) := ⟨by kernel_rfl⟩
instance : TyU Try.prog 83 (TypeDesc.func #[84] #[3] false) := ⟨Try.underlying83⟩
instance : TyI Try.prog 83 1 8 (Value.nilFunc) := ⟨by kernel_rfl⟩
instance : TyU Try.prog 84 (TypeDesc.int IntKind.u64) := ⟨Try.underlying84⟩
instance : TyI Try.prog 84 1 8 (Value.int IntKind.u64 (0)) := ⟨by kernel_rfl⟩
instance : TyU Try.prog 85 (TypeDesc.int IntKind.u64) := ⟨Try.underlying85⟩
instance : TyI Try.prog 85 1 8 (Value.int IntKind.u64 (0)) := ⟨by kernel_rfl⟩
instance : TyU Try.prog 86 (TypeDesc.func #[3] #[36] false) := ⟨Try.underlying86⟩
instance : TyI Try.prog 86 1 8 (Value.nilFunc) := ⟨by kernel_rfl⟩
instance : TyU Try.prog 87 (TypeDesc.func #[] #[84] false) := ⟨Try.underlying87⟩
instance : TyI Try.prog 87 1 8 (Value.nilFunc) := ⟨by kernel_rfl⟩
instance : TyU Try.prog 88 (TypeDesc.func #[39, 3, 89, 64] #[3] false) := ⟨Try.underlying88⟩
instance : TyI Try.prog 88 1 8 (Value.nilFunc) := ⟨by kernel_rfl⟩
instance : TyU Try.prog 89 (TypeDesc.pointer 3) := ⟨Try.underlying89⟩
instance : TyI Try.prog 89 1 8 (Value.pointer none) := ⟨by kernel_rfl⟩
instance : TyU Try.prog 90 (TypeDesc.func #[39, 3, 3, 3, 89, 64] #[3] false) := ⟨Try.underlying90⟩
instance : TyI Try.prog 90 1 8 (Value.nilFunc) := ⟨by kernel_rfl⟩
instance : TyU Try.prog 91 (TypeDesc.pointer 85) := ⟨Try.underlying91⟩
instance : TyI Try.prog 91 1 8 (Value.pointer none) := ⟨by kernel_rfl⟩
instance : TyU Try.prog 92 (TypeDesc.tuple #[3, 3]) := ⟨Try.underlying92⟩
instance : TyI Try.prog 92 1 0 (Value.tuple [Value.int IntKind.i64 (0), Value.int IntKind.i64 (0)].toArray) := ⟨by kernel_rfl⟩
instance : TyU Try.prog 93 (TypeDesc.func #[39, 3, 3, 89, 64] #[3, 3] false) := ⟨Try.underlying93⟩
instance : TyI Try.prog 93 1 8 (Value.nilFunc) := ⟨by kernel_rfl⟩
instance : TyU Try.prog 94 (TypeDesc.func #[] #[9] false) := ⟨Try.underlying94⟩
instance : TyI Try.prog 94 1 8 (Value.nilFunc) := ⟨by kernel_rfl⟩
instance : TyU Try.prog 95 (TypeDesc.struct #[{ name := "_interface", type := 17, offset := 0, embedded := false, tag := "", pkgPath := "runtime", byteOffset := 0 }, { name := "concrete", type := 17, offset := 1, embedded := false, tag := "", pkgPath := "runtime", byteOffset := 8 }, { name := "asserted", type := 17, offset := 2, embedded := false, tag := "", pkgPath := "runtime", byteOffset := 16 }, { name := "missingMethod", type := 9, offset := 3, embedded := false, tag := "", pkgPath := "runtime", byteOffset := 24 }]) := ⟨Try.underlying95⟩
instance : TyI Try.prog 95 4 40 (Value.agg [Value.pointer none, Value.pointer none, Value.pointer none, Value.string ⟨#[]⟩].toArray) := ⟨by kernel_rfl⟩
instance : TyU Try.prog 96 (TypeDesc.struct #[{ name := "_interface", type := 17, offset := 0, embedded := false, tag := "", pkgPath := "runtime", byteOffset := 0 }, { name := "concrete", type := 17, offset := 1, embedded := false, tag := "", pkgPath := "runtime", byteOffset := 8 }, { name := "asserted", type := 17, offset := 2, embedded := false, tag := "", pkgPath := "runtime", byteOffset := 16 }, { name := "missingMethod", type := 9, offset := 3, embedded := false, tag := "", pkgPath := "runtime", byteOffset := 24 }]) := ⟨Try.underlying96⟩
instance : TyI Try.prog 96 4 40 (Value.agg [Value.pointer none, Value.pointer none, Value.pointer none, Value.string ⟨#[]⟩].toArray) := ⟨by kernel_rfl⟩
instance : TyU Try.prog 97 (TypeDesc.array 0 16) := ⟨Try.underlying97⟩
instance : TyI Try.prog 97 0 0 (Value.agg [].toArray) := ⟨by kernel_rfl⟩
instance : TyU Try.prog 98 (TypeDesc.struct #[{ name := "_", type := 97, offset := 0, embedded := false, tag := "", pkgPath := "runtime", byteOffset := 0 }]) := ⟨Try.underlying98⟩
instance : TyI Try.prog 98 0 0 (Value.agg [].toArray) := ⟨by kernel_rfl⟩
instance : TyU Try.prog 99 (TypeDesc.struct #[{ name := "_", type := 97, offset := 0, embedded := false, tag := "", pkgPath := "runtime", byteOffset := 0 }]) := ⟨Try.underlying99⟩
instance : TyI Try.prog 99 0 0 (Value.agg [].toArray) := ⟨by kernel_rfl⟩
instance : TyU Try.prog 100 (TypeDesc.func #[] #[3] false) := ⟨Try.underlying100⟩
instance : TyI Try.prog 100 1 8 (Value.nilFunc) := ⟨by kernel_rfl⟩
instance : TyU Try.prog 101 (TypeDesc.int IntKind.u8) := ⟨Try.underlying101⟩
instance : TyI Try.prog 101 1 1 (Value.int IntKind.u8 (0)) := ⟨by kernel_rfl⟩
instance : TyU Try.prog 102 (TypeDesc.int IntKind.u8) := ⟨Try.underlying102⟩
instance : TyI Try.prog 102 1 1 (Value.int IntKind.u8 (0)) := ⟨by kernel_rfl⟩
instance : TyU Try.prog 103 (TypeDesc.func #[109, 109] #[4] false) := ⟨Try.underlying103⟩
instance : TyI Try.prog 103 1 8 (Value.nilFunc) := ⟨by kernel_rfl⟩
instance : TyU Try.prog 104 (TypeDesc.pointer 5) := ⟨Try.underlying104⟩
instance : TyI Try.prog 104 1 8 (Value.pointer none) := ⟨by kernel_rfl⟩
instance : TyU Try.prog 105 (TypeDesc.int IntKind.i32) := ⟨Try.underlying105⟩
instance : TyI Try.prog 105 1 4 (Value.int IntKind.i32 (0)) := ⟨by kernel_rfl⟩
instance : TyU Try.prog 106 (TypeDesc.int IntKind.i32) := ⟨Try.underlying106⟩
instance : TyI Try.prog 106 1 4 (Value.int IntKind.i32 (0)) := ⟨by kernel_rfl⟩
instance : TyU Try.prog 107 (TypeDesc.struct #[{ name := "Size_", type := 12, offset := 0, embedded := false, tag := "", pkgPath := "", byteOffset := 0 }, { name := "PtrBytes", type := 12, offset := 1, embedded := false, tag := "", pkgPath := "", byteOffset := 8 }, { name := "Hash", type := 82, offset := 2, embedded := false, tag := "", pkgPath := "", byteOffset := 16 }, { name := "TFlag", type := 101, offset := 3, embedded := false, tag := "", pkgPath := "", byteOffset := 20 }, { name := "Align_", type := 5, offset := 4, embedded := false, tag := "", pkgPath := "", byteOffset := 21 }, { name := "FieldAlign_", type := 5, offset := 5, embedded := false, tag := "", pkgPath := "", byteOffset := 22 }, { name := "Kind_", type := 102, offset := 6, embedded := false, tag := "", pkgPath := "", byteOffset := 23 }, { name := "Equal", type := 103, offset := 7, embedded := false, tag := "", pkgPath := "", byteOffset := 24 }, { name := "GCData", type := 104, offset := 8, embedded := false, tag := "", pkgPath := "", byteOffset := 32 }, { name := "Str", type := 105, offset := 9, embedded := false, tag := "", pkgPath := "", byteOffset := 40 }, { name := "PtrToThis", type := 106, offset := 10, embedded := false, tag := "", pkgPath := "", byteOffset := 44 }]) := ⟨Try.underlying107⟩
instance : TyI Try.prog 107 11 48 (Value.agg [Value.int IntKind.u64 (0), Value.int IntKind.u64 (0), Value.int IntKind.u32 (0), Value.int IntKind.u8 (0), Value.int IntKind.u8 (0), Value.int IntKind.u8 (0), Value.int IntKind.u8 (0), Value.nilFunc, Value.pointer none, Value.int IntKind.i32 (0), Value.int IntKind.i32 (0)].toArray) := ⟨by kernel_rfl⟩
instance : TyU Try.prog 108 (TypeDesc.struct #[{ name := "Size_", type := 12, offset := 0, embedded := false, tag := "", pkgPath := "", byteOffset := 0 }, { name := "PtrBytes", type := 12, offset := 1, embedded := false, tag := "", pkgPath := "", byteOffset := 8 }, { name := "Hash", type := 82, offset := 2, embedded := false, tag := "", pkgPath := "", byteOffset := 16 }, { name := "TFlag", type := 101, offset := 3, embedded := false, tag := "", pkgPath := "", byteOffset := 20 }, { name := "Align_", type := 5, offset := 4, embedded := false, tag := "", pkgPath := "", byteOffset := 21 }, { name := "FieldAlign_", type := 5, offset := 5, embedded := false, tag := "", pkgPath := "", byteOffset := 22 }, { name := "Kind_", type := 102, offset := 6, embedded := false, tag := "", pkgPath := "", byteOffset := 23 }, { name := "Equal", type := 103, offset := 7, embedded := false, tag := "", pkgPath := "", byteOffset := 24 }, { name := "GCData", type := 104, offset := 8, embedded := false, tag := "", pkgPath := "", byteOffset := 32 }, { name := "Str", type := 105, offset := 9, embedded := false, tag := "", pkgPath := "", byteOffset := 40 }, { name := "PtrToThis", type := 106, offset := 10, embedded := false, tag := "", pkgPath := "", byteOffset := 44 }]) := ⟨Try.underlying108⟩
instance : TyI Try.prog 108 11 48 (Value.agg [Value.int IntKind.u64 (0), Value.int IntKind.u64 (0), Value.int IntKind.u32 (0), Value.int IntKind.u8 (0), Value.int IntKind.u8 (0), Value.int IntKind.u8 (0), Value.int IntKind.u8 (0), Value.nilFunc, Value.pointer none, Value.int IntKind.i32 (0), Value.int IntKind.i32 (0)].toArray) := ⟨by kernel_rfl⟩
instance : TyU Try.prog 109 TypeDesc.unsafePointer := ⟨Try.underlying109⟩
instance : TyI Try.prog 109 1 8 (Value.pointer none) := ⟨by kernel_rfl⟩
instance : FnB Try.prog 3 := ⟨⟨Try.f3, Try.func3, by kernel_rfl, by kernel_rfl⟩⟩   -- keyevent/keyeventlaw13.ThresholdEnough
instance : FnB Try.prog 4 := ⟨⟨Try.f4, Try.func4, by kernel_rfl, by kernel_rfl⟩⟩   -- keyevent/keyeventlaw13.ThresholdGrows
instance : FnB Try.prog 5 := ⟨⟨Try.f5, Try.func5, by kernel_rfl, by kernel_rfl⟩⟩   -- keyevent/keyeventlaw13.ThresholdLists
instance : FnB Try.prog 6 := ⟨⟨Try.f6, Try.func6, by kernel_rfl, by kernel_rfl⟩⟩   -- keyevent/keyeventlaw13.ThresholdValid
instance : FnB Try.prog 7 := ⟨⟨Try.f7, Try.func7, by kernel_rfl, by kernel_rfl⟩⟩   -- keyevent/keyeventlaw13.ThresholdSums
instance : FnB Try.prog 8 := ⟨⟨Try.f8, Try.func8, by kernel_rfl, by kernel_rfl⟩⟩   -- keyevent/keyeventkit.Light
instance : FnB Try.prog 9 := ⟨⟨Try.f9, Try.func9, by kernel_rfl, by kernel_rfl⟩⟩   -- keyevent/keyeventlaw13.awake
instance : FnB Try.prog 10 := ⟨⟨Try.f10, Try.func10, by kernel_rfl, by kernel_rfl⟩⟩   -- keyevent/keyeventkit.Roll
instance : FnB Try.prog 11 := ⟨⟨Try.f11, Try.func11, by kernel_rfl, by kernel_rfl⟩⟩   -- (*keyevent/keyeventkit.Dice).Next
instance : FnB Try.prog 12 := ⟨⟨Try.f12, Try.func12, by kernel_rfl, by kernel_rfl⟩⟩   -- keyevent/keyeventkit.Threshold
instance : FnB Try.prog 13 := ⟨⟨Try.f13, Try.func13, by kernel_rfl, by kernel_rfl⟩⟩   -- keyevent/threshold.Enough
instance : FnB Try.prog 14 := ⟨⟨Try.f14, Try.func14, by kernel_rfl, by kernel_rfl⟩⟩   -- keyevent/keyeventref13.Enough
instance : FnB Try.prog 15 := ⟨⟨Try.f15, Try.func15, by kernel_rfl, by kernel_rfl⟩⟩   -- keyevent/threshold.Least
instance : FnB Try.prog 16 := ⟨⟨Try.f16, Try.func16, by kernel_rfl, by kernel_rfl⟩⟩   -- keyevent/threshold.Valid
instance : FnB Try.prog 17 := ⟨⟨Try.f17, Try.func17, by kernel_rfl, by kernel_rfl⟩⟩   -- keyevent/keyeventlaw13.odd
instance : FnB Try.prog 18 := ⟨⟨Try.f18, Try.func18, by kernel_rfl, by kernel_rfl⟩⟩   -- keyevent/keyeventkit.Mod
instance : FnB Try.prog 19 := ⟨⟨Try.f19, Try.func19, by kernel_rfl, by kernel_rfl⟩⟩   -- keyevent/keyeventref13.Valid
instance : FnB Try.prog 20 := ⟨⟨Try.f20, Try.func20, by kernel_rfl, by kernel_rfl⟩⟩   -- keyevent/keyeventref13.Least
instance : FnB Try.prog 21 := ⟨⟨Try.f21, Try.func21, by kernel_rfl, by kernel_rfl⟩⟩   -- keyevent/threshold.Sum
instance : FnB Try.prog 22 := ⟨⟨Try.f22, Try.func22, by kernel_rfl, by kernel_rfl⟩⟩   -- keyevent/keyeventref13.Sum
instance : FnB Try.prog 23 := ⟨⟨Try.f23, Try.func23, by kernel_rfl, by kernel_rfl⟩⟩   -- keyevent/keyeventlaw13.halves
instance : FnB Try.prog 24 := ⟨⟨Try.f24, Try.func24, by kernel_rfl, by kernel_rfl⟩⟩   -- keyevent/threshold.whole
instance : FnB Try.prog 25 := ⟨⟨Try.f25, Try.func25, by kernel_rfl, by kernel_rfl⟩⟩   -- keyevent/keyeventref13.one
instance : FnB Try.prog 26 := ⟨⟨Try.f26, Try.func26, by kernel_rfl, by kernel_rfl⟩⟩   -- keyevent/threshold.least
instance : FnB Try.prog 27 := ⟨⟨Try.f27, Try.func27, by kernel_rfl, by kernel_rfl⟩⟩   -- keyevent/threshold.keysOf
instance : FnB Try.prog 28 := ⟨⟨Try.f28, Try.func28, by kernel_rfl, by kernel_rfl⟩⟩   -- slices.ContainsFunc[[][]keyevent/api.Fraction,[]keyevent/api.Fraction]
instance : FnB Try.prog 29 := ⟨⟨Try.f29, Try.func29, by kernel_rfl, by kernel_rfl⟩⟩   -- keyevent/threshold.Valid$1
instance : FnB Try.prog 30 := ⟨⟨Try.f30, Try.func30, by kernel_rfl, by kernel_rfl⟩⟩   -- slices.ContainsFunc[[]keyevent/api.Fraction,keyevent/api.Fraction]
instance : FnB Try.prog 31 := ⟨⟨Try.f31, Try.func31, by kernel_rfl, by kernel_rfl⟩⟩   -- keyevent/threshold.Sum$1
instance : FnB Try.prog 32 := ⟨⟨Try.f32, Try.func32, by kernel_rfl, by kernel_rfl⟩⟩   -- keyevent/threshold.weight
instance : FnB Try.prog 33 := ⟨⟨Try.f33, Try.func33, by kernel_rfl, by kernel_rfl⟩⟩   -- keyevent/threshold.total
instance : FnB Try.prog 34 := ⟨⟨Try.f34, Try.func34, by kernel_rfl, by kernel_rfl⟩⟩   -- keyevent/keyeventref13.weight
instance : FnB Try.prog 35 := ⟨⟨Try.f35, Try.func35, by kernel_rfl, by kernel_rfl⟩⟩   -- keyevent/keyeventref13.gcd
instance : FnB Try.prog 36 := ⟨⟨Try.f36, Try.func36, by kernel_rfl, by kernel_rfl⟩⟩   -- slices.SortedFunc[keyevent/api.Fraction]
instance : FnB Try.prog 37 := ⟨⟨Try.f37, Try.func37, by kernel_rfl, by kernel_rfl⟩⟩   -- slices.Values[[]keyevent/api.Fraction,keyevent/api.Fraction]
instance : FnB Try.prog 38 := ⟨⟨Try.f38, Try.func38, by kernel_rfl, by kernel_rfl⟩⟩   -- keyevent/threshold.least$1
instance : FnB Try.prog 39 := ⟨⟨Try.f39, Try.func39, by kernel_rfl, by kernel_rfl⟩⟩   -- keyevent/threshold.keysOf$1
instance : FnB Try.prog 40 := ⟨⟨Try.f40, Try.func40, by kernel_rfl, by kernel_rfl⟩⟩   -- slices.IndexFunc[[][]keyevent/api.Fraction,[]keyevent/api.Fraction]
instance : FnB Try.prog 41 := ⟨⟨Try.f41, Try.func41, by kernel_rfl, by kernel_rfl⟩⟩   -- slices.IndexFunc[[]keyevent/api.Fraction,keyevent/api.Fraction]
instance : FnB Try.prog 42 := ⟨⟨Try.f42, Try.func42, by kernel_rfl, by kernel_rfl⟩⟩   -- keyevent/threshold.divisor
instance : FnB Try.prog 43 := ⟨⟨Try.f43, Try.func43, by kernel_rfl, by kernel_rfl⟩⟩   -- keyevent/threshold.add
instance : FnB Try.prog 44 := ⟨⟨Try.f44, Try.func44, by kernel_rfl, by kernel_rfl⟩⟩   -- slices.Collect[keyevent/api.Fraction]
instance : FnB Try.prog 45 := ⟨⟨Try.f45, Try.func45, by kernel_rfl, by kernel_rfl⟩⟩   -- slices.SortFunc[[]keyevent/api.Fraction,keyevent/api.Fraction]
instance : FnB Try.prog 46 := ⟨⟨Try.f46, Try.func46, by kernel_rfl, by kernel_rfl⟩⟩   -- slices.Values[[]keyevent/api.Fraction,keyevent/api.Fraction]$1
instance : FnB Try.prog 47 := ⟨⟨Try.f47, Try.func47, by kernel_rfl, by kernel_rfl⟩⟩   -- slices.AppendSeq[[]keyevent/api.Fraction,keyevent/api.Fraction]
instance : FnB Try.prog 48 := ⟨⟨Try.f48, Try.func48, by kernel_rfl, by kernel_rfl⟩⟩   -- slices.pdqsortCmpFunc[keyevent/api.Fraction]
instance : FnB Try.prog 49 := ⟨⟨Try.f49, Try.func49, by kernel_rfl, by kernel_rfl⟩⟩   -- math/bits.Len
instance : FnB Try.prog 50 := ⟨⟨Try.f50, Try.func50, by kernel_rfl, by kernel_rfl⟩⟩   -- slices.insertionSortCmpFunc[keyevent/api.Fraction]
instance : FnB Try.prog 51 := ⟨⟨Try.f51, Try.func51, by kernel_rfl, by kernel_rfl⟩⟩   -- slices.heapSortCmpFunc[keyevent/api.Fraction]
instance : FnB Try.prog 52 := ⟨⟨Try.f52, Try.func52, by kernel_rfl, by kernel_rfl⟩⟩   -- slices.breakPatternsCmpFunc[keyevent/api.Fraction]
instance : FnB Try.prog 53 := ⟨⟨Try.f53, Try.func53, by kernel_rfl, by kernel_rfl⟩⟩   -- slices.choosePivotCmpFunc[keyevent/api.Fraction]
instance : FnB Try.prog 54 := ⟨⟨Try.f54, Try.func54, by kernel_rfl, by kernel_rfl⟩⟩   -- slices.reverseRangeCmpFunc[keyevent/api.Fraction]
instance : FnB Try.prog 55 := ⟨⟨Try.f55, Try.func55, by kernel_rfl, by kernel_rfl⟩⟩   -- slices.partialInsertionSortCmpFunc[keyevent/api.Fraction]
instance : FnB Try.prog 56 := ⟨⟨Try.f56, Try.func56, by kernel_rfl, by kernel_rfl⟩⟩   -- slices.partitionEqualCmpFunc[keyevent/api.Fraction]
instance : FnB Try.prog 57 := ⟨⟨Try.f57, Try.func57, by kernel_rfl, by kernel_rfl⟩⟩   -- slices.partitionCmpFunc[keyevent/api.Fraction]
instance : FnB Try.prog 58 := ⟨⟨Try.f58, Try.func58, by kernel_rfl, by kernel_rfl⟩⟩   -- math/bits.Len32
instance : FnB Try.prog 59 := ⟨⟨Try.f59, Try.func59, by kernel_rfl, by kernel_rfl⟩⟩   -- math/bits.Len64
instance : FnB Try.prog 60 := ⟨⟨Try.f60, Try.func60, by kernel_rfl, by kernel_rfl⟩⟩   -- slices.siftDownCmpFunc[keyevent/api.Fraction]
instance : FnB Try.prog 61 := ⟨⟨Try.f61, Try.func61, by kernel_rfl, by kernel_rfl⟩⟩   -- slices.nextPowerOfTwo
instance : FnB Try.prog 62 := ⟨⟨Try.f62, Try.func62, by kernel_rfl, by kernel_rfl⟩⟩   -- (*slices.xorshift).Next
instance : FnB Try.prog 63 := ⟨⟨Try.f63, Try.func63, by kernel_rfl, by kernel_rfl⟩⟩   -- slices.medianAdjacentCmpFunc[keyevent/api.Fraction]
instance : FnB Try.prog 64 := ⟨⟨Try.f64, Try.func64, by kernel_rfl, by kernel_rfl⟩⟩   -- slices.medianCmpFunc[keyevent/api.Fraction]
instance : FnB Try.prog 65 := ⟨⟨Try.f65, Try.func65, by kernel_rfl, by kernel_rfl⟩⟩   -- slices.order2CmpFunc[keyevent/api.Fraction]

end Go.AL
set_option linter.unusedVariables false
namespace Go.AL
open Go Go.Proofs

instance : TyB Try.prog 7 [(0, 1), (1, 1), (2, 1), (3, 1)] := ⟨by kernel_rfl⟩
instance : TyB Try.prog 8 [(0, 1), (1, 1), (2, 1), (3, 1)] := ⟨by kernel_rfl⟩
instance : TyB Try.prog 13 [(0, 1), (1, 1)] := ⟨by kernel_rfl⟩
instance : TyB Try.prog 14 [(0, 1), (1, 1)] := ⟨by kernel_rfl⟩
instance : TyB Try.prog 18 [(0, 1)] := ⟨by kernel_rfl⟩
instance : TyB Try.prog 19 [(0, 1)] := ⟨by kernel_rfl⟩
instance : TyB Try.prog 29 [(0, 1), (1, 1)] := ⟨by kernel_rfl⟩
instance : TyB Try.prog 30 [(0, 1), (1, 1)] := ⟨by kernel_rfl⟩
instance : TyB Try.prog 37 [(0, 1), (1, 1)] := ⟨by kernel_rfl⟩
instance : TyB Try.prog 38 [(0, 1), (1, 1)] := ⟨by kernel_rfl⟩
instance : TyB Try.prog 49 [(0, 1), (1, 1)] := ⟨by kernel_rfl⟩
instance : TyB Try.prog 50 [(0, 1), (1, 1)] := ⟨by kernel_rfl⟩
instance : TyB Try.prog 95 [(0, 1), (1, 1), (2, 1), (3, 1)] := ⟨by kernel_rfl⟩
instance : TyB Try.prog 96 [(0, 1), (1, 1), (2, 1), (3, 1)] := ⟨by kernel_rfl⟩
instance : TyB Try.prog 98 [(0, 0)] := ⟨by kernel_rfl⟩
instance : TyB Try.prog 99 [(0, 0)] := ⟨by kernel_rfl⟩
instance : TyB Try.prog 107 [(0, 1), (1, 1), (2, 1), (3, 1), (4, 1), (5, 1), (6, 1), (7, 1), (8, 1), (9, 1), (10, 1)] := ⟨by kernel_rfl⟩
instance : TyB Try.prog 108 [(0, 1), (1, 1), (2, 1), (3, 1), (4, 1), (5, 1), (6, 1), (7, 1), (8, 1), (9, 1), (10, 1)] := ⟨by kernel_rfl⟩

end Go.AL
