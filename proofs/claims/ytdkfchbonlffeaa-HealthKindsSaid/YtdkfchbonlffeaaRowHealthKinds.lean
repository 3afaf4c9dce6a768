/-
  the reference reads the kind off the text
-/
import Derived.Test.YtdkfchbonlffeaaRows
import Derived.Test.YtdkfchbonlffeaaGa1
import Derived.Test.YtdkfchbonlffeaaGa2
import Derived.Test.YtdkfchbonlffeaaGa3
import Derived.Test.YtdkfchbonlffeaaGHealthKinds1
import Derived.Test.YtdkfchbonlffeaaGHealthKinds2
import Derived.Test.YtdkfchbonlffeaaGHealthKinds3
import Derived.Test.YtdkfchbonlffeaaGHealthKinds4
import Derived.Test.YtdkfchbonlffeaaGHealthKinds5
set_option linter.all false
namespace Go.Proofs.Ytdkfchbonlffeaa.healthKinds
open Go.ChangeShapes Go.WideShapes Go.ChangeAt Go.RowKit Go.Ab
theorem own : ownKnob Try.prog.godebug = none := by kernel_rfl
set_option maxRecDepth 100000 in
theorem lifted (hlaw : LawTrue Try.prog Nt 9 9 Try.f9.params.toList) (os : Os) (started : os.Started) (H : Type) (enc : TypeId × Value → H) :
    ReturnsInHanded {} Try.checked os 9 .any (Rows.healthKindsSpec.pre6 enc Try.prog Try.f9 Rows.healthKindsRow.domain false) (Rows.healthKindsSpec.post enc Try.prog Try.f9 false true false false) := by
  refine returnsInHanded_of_change (C := Try.checked) own started (by kernel_rfl) Try.func9
    (ChangeSpec.witness6 (enc := enc) (C := Try.checked) false ⟨#[], #[.slice none 0 0, .int .u8 0], []⟩ 8 (by kernel_rfl) (by kernel_rfl) (by kernel_rfl) (by kernel_rfl)) ?_
  intro W base args ds gs before hval hW _ _
  have hW0 := hW
  obtain ⟨p, q, hA, _⟩ := hW
  have hlen : ds.length = 2 := by
    have hA' : DataW.TrodAll enc Try.prog W 0 (fun _ => true) true Try.f9.params.toList args.toList ds p := hA
    rw [Try.params9] at hA'
    obtain ⟨_, _, _, _, _, _, _, e1, _, _, g1⟩ := trodAll_cons hA'
    obtain ⟨_, _, _, _, _, _, _, e2, _, _, g2⟩ := trodAll_cons g1
    obtain ⟨_, e3, _⟩ := trodAll_nil g2
    subst e1 e2 e3
    rfl
  have hok : paramsOk Try.prog 9 Try.f9.params.toList = true := by kernel_rfl
  refine (calls_true (F := 9) extSim (by kernel_rfl) hlaw (paramsOk_plain hok) hval hA).mono fun e W' ⟨he, hb⟩ => ?_
  match ds, hlen with
  | [d0, d1], _ => exact ⟨_, he, post_below (tb := 4) (by kernel_rfl) (paramsOk_read hok) rfl (by kernel_rfl) Try.underlying4 rfl rfl rfl hW0 hb⟩
theorem over (hlaw : LawTrue Try.prog Nt 9 9 Try.f9.params.toList) : Rows.healthKindsRow.holds Try.pinned (OpenSpec.ofChange Rows.healthKindsSpec) :=
  OpenClaim.holds_of_wide 9 Try.f9 rfl rfl rfl rfl rfl rfl rfl ⟨rfl, rfl, rfl, rfl, rfl⟩ rfl rfl rfl rfl rfl (by kernel_rfl) Try.func9 (by kernel_rfl)
    (of_decide_eq_true (by kernel_rfl)) (by unfold Func.isWrapper; first | (rw [if_pos (by decide +kernel)]; kernel_rfl) | (rw [if_neg (by decide +kernel)]; exact ⟨rfl, rfl⟩))
    (fun os started H enc _ => lifted hlaw os started H enc)
theorem proved : Rows.HealthKindsSaid := over healthKinds
end Go.Proofs.Ytdkfchbonlffeaa.healthKinds
