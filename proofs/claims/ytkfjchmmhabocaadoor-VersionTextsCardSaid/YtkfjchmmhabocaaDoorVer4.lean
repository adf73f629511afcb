/- That the law VersionBack is true, as a contract. -/
import Derived.Test.YtkfjchmmhabocaaDoorVer3
import Derived.Test.YtkfjchmmhabocaaDoorAl4
set_option linter.unusedVariables false
namespace Go.AL
open Go Go.Proofs Go.RowKit

theorem eq24a : Tryd.prog.stoodInHeld 24 = false := by kernel_rfl
theorem eq24b : Tryd.prog.eqGuardType Tryd.prog.depth 24 = false := by kernel_rfl
theorem eq24 : eq1B Tryd.prog 24 = true := by unfold eq1B; rw [eq24a, eq24b]; rfl
theorem flat24 (p p' : ByteArray) (a b c d a' b' c' d' : Int) : FlatE Tryd.prog [{ name := "Protocol", type := 9, offset := 0, embedded := false, tag := "", pkgPath := "", byteOffset := 0 }, { name := "Major", type := 3, offset := 1, embedded := false, tag := "", pkgPath := "", byteOffset := 16 }, { name := "Minor", type := 3, offset := 2, embedded := false, tag := "", pkgPath := "", byteOffset := 24 }, { name := "Form", type := 3, offset := 3, embedded := false, tag := "", pkgPath := "", byteOffset := 32 }, { name := "Size", type := 3, offset := 4, embedded := false, tag := "", pkgPath := "", byteOffset := 40 }] 0 [.str p, .int .i64 a, .int .i64 b, .int .i64 c, .int .i64 d] [.str p', .int .i64 a', .int .i64 b', .int .i64 c', .int .i64 d'] :=
  ⟨by decide, rfl, Tryd.underlying9, Tryd.underlying9, by decide, rfl, Tryd.underlying3, Tryd.underlying3, by decide, rfl, Tryd.underlying3, Tryd.underlying3, by decide, rfl, Tryd.underlying3, Tryd.underlying3, by decide, rfl, Tryd.underlying3, Tryd.underlying3, trivial⟩
theorem vs_eq (p : ByteArray) (a b c d : Int) : tEqs [.str p, .int .i64 a, .int .i64 b, .int .i64 c, .int .i64 d] [.str p, .int .i64 a, .int .i64 b, .int .i64 c, .int .i64 d] = true := tEqs_refl (flat24 p p a b c d a b c d)
end Go.AL
