/- The statements' own example: the plain law. -/
import Derived.Test.YtpmiddhdgidimaaGreatDoorHeadMakePlain
set_option linter.unusedVariables false
set_option linter.unusedSimpArgs false
namespace Go.Proofs.YtpmiddhdgidimaaGreatDoor
def hdA : Hd := ⟨[97], 420, 0, 0, 0, 0, 48, [], [], [], 0, 0, []⟩
theorem hdA_may : MayH hdA := by
  refine ⟨by decide, by decide, by decide, by decide, by decide, ⟨field8 (by decide) (by decide), by decide⟩, ⟨field8 (by decide) (by decide), by decide⟩, ⟨field8 (by decide) (by decide), by decide⟩, ⟨field8 (by decide) (by decide), by decide⟩, ⟨field8 (by decide) (by decide), by decide⟩, ⟨field12 _, by decide⟩, field12 _⟩
theorem hdA_ints : Ints hdA := by constructor <;> decide
theorem getA : getT (blockT hdA) = .ok hdA := by
  have := get_back hdA_may hdA_ints []
  rwa [List.append_nil] at this
end Go.Proofs.YtpmiddhdgidimaaGreatDoor
