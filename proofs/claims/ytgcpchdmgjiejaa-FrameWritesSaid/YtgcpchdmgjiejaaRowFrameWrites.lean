/-
  both encoders answer alike
-/
import Derived.Test.YtgcpchdmgjiejaaRows
import Derived.Test.YtgcpchdmgjiejaaGa1
import Derived.Test.YtgcpchdmgjiejaaGa2
import Derived.Test.YtgcpchdmgjiejaaGa3
import Derived.Test.YtgcpchdmgjiejaaGFrameWrites1
import Derived.Test.YtgcpchdmgjiejaaGFrameWrites2
import Derived.Test.YtgcpchdmgjiejaaGFrameWrites3
import Derived.Test.YtgcpchdmgjiejaaGFrameWrites4
set_option linter.all false
namespace Go.Proofs.Ytgcpchdmgjiejaa.frameWrites
open Go.ChangeShapes Go.WideShapes Go.ChangeAt Go.RowKit Go.Ab
theorem own : ownKnob Try.prog.godebug = none := by kernel_rfl
set_option maxRecDepth 100000 in
theorem lifted (hlaw : LawTrue Try.prog Nt 9 3 Try.f3.params.toList) (os : Os) (started : os.Started) (H : Type) (enc : TypeId × Value → H) :
    ReturnsInHanded {} Try.checked os 3 .any (Rows.frameWritesSpec.pre6 enc Try.prog Try.f3 Rows.frameWritesRow.domain false) (Rows.frameWritesSpec.post enc Try.prog Try.f3 false true false false) := by
  refine returnsInHanded_of_change_sized (C := Try.checked) own started (by kernel_rfl) Try.func3
    (ChangeSpec.witness6 (enc := enc) (C := Try.checked) false ⟨#[], #[.agg #[.int .u8 0, .int .u32 0, .int .u8 0, .slice none 0 0, .int .u8 0, .int .u8 0, .int .u16 0, .int .u16 0, .slice none 0 0]], []⟩ 8 (by kernel_rfl) (by kernel_rfl) (by kernel_rfl) (by kernel_rfl)) ?_
  intro W base args ds gs before hval hW _ hwt _
  have hW0 := hW
  obtain ⟨p, q, hA, hV, _⟩ := hW
  obtain ⟨rfl, rfl⟩ := trodVars_none hV
  rw [List.append_nil] at hwt
  have hw0 : ∀ w ∈ DataW.weightsEach Try.prog Try.f3.params.toList ds, w ≤ reachBytes := fun w hw => by
    have e : Try.f3.params.toList ++ DataSpec.varTypes Try.checked.prog Rows.frameWritesSpec.plain = Try.f3.params.toList := List.append_nil _
    rw [e] at hwt
    have := List.all_eq_true.1 hwt w hw
    simpa using this
  have hlen : ds.length = 1 := by
    have hA' : DataW.TrodAll enc Try.prog W 0 (fun _ => true) true Try.f3.params.toList args.toList ds p := hA
    rw [Try.params3] at hA'
    obtain ⟨_, _, _, _, _, _, _, e1, _, _, g1⟩ := trodAll_cons hA'
    obtain ⟨_, e2, _⟩ := trodAll_nil g1
    subst e1 e2
    rfl
  have hok : paramsOk Try.prog 9 Try.f3.params.toList = true := by kernel_rfl
  refine (calls_true (F := 9) extSim (by kernel_rfl) hlaw (paramsOk_plain hok) hval hA hw0).mono fun e W' ⟨he, hb⟩ => ?_
  match ds, hlen with
  | [d0], _ => exact ⟨_, he, post_below (tb := 4) (by kernel_rfl) (paramsOk_read hok) rfl (by kernel_rfl) Try.underlying4 rfl rfl rfl hW0 hb⟩
theorem over (hlaw : LawTrue Try.prog Nt 9 3 Try.f3.params.toList) : Rows.frameWritesRow.holds Try.pinned (OpenSpec.ofChange Rows.frameWritesSpec) :=
  OpenClaim.holds_of_wide 3 Try.f3 rfl rfl rfl rfl rfl rfl rfl ⟨rfl, rfl, rfl, rfl, rfl⟩ rfl rfl rfl rfl rfl (by kernel_rfl) Try.func3 (by kernel_rfl)
    (of_decide_eq_true (by kernel_rfl)) (by unfold Func.isWrapper; first | (rw [if_pos (by decide +kernel)]; kernel_rfl) | (rw [if_neg (by decide +kernel)]; exact ⟨rfl, rfl⟩))
    (fun os started H enc _ => lifted hlaw os started H enc)
theorem proved : Rows.FrameWritesSaid := over frameWrites
end Go.Proofs.Ytgcpchdmgjiejaa.frameWrites
