/-
  the log has the last records
-/
import Derived.Test.YtdkfchbonlffeaaRows
import Derived.Test.YtdkfchbonlffeaaGa1
import Derived.Test.YtdkfchbonlffeaaGa2
import Derived.Test.YtdkfchbonlffeaaGa3
import Derived.Test.YtdkfchbonlffeaaGHealthLogs1
import Derived.Test.YtdkfchbonlffeaaGHealthLogs2
import Derived.Test.YtdkfchbonlffeaaGHealthLogs3
import Derived.Test.YtdkfchbonlffeaaGHealthLogs4
set_option linter.all false
namespace Go.Proofs.Ytdkfchbonlffeaa.healthLogs
open Go.ChangeShapes Go.WideShapes Go.ChangeAt Go.RowKit Go.Ab
theorem own : ownKnob Try.prog.godebug = none := by kernel_rfl
set_option maxRecDepth 100000 in
theorem lifted (hlaw : LawTrue Try.prog Nt 9 8 Try.f8.params.toList) (os : Os) (started : os.Started) (H : Type) (enc : TypeId × Value → H) :
    ReturnsInHanded {} Try.checked os 8 .any (Rows.healthLogsSpec.pre6 enc Try.prog Try.f8 Rows.healthLogsRow.domain false) (Rows.healthLogsSpec.post enc Try.prog Try.f8 false true false false) := by
  refine returnsInHanded_of_change (C := Try.checked) own started (by kernel_rfl) Try.func8
    (ChangeSpec.witness6 (enc := enc) (C := Try.checked) false ⟨#[], #[.slice none 0 0], []⟩ 8 (by kernel_rfl) (by kernel_rfl) (by kernel_rfl) (by kernel_rfl)) ?_
  intro W base args ds gs before hval hW _ _
  have hW0 := hW
  obtain ⟨p, q, hA, _⟩ := hW
  have hlen : ds.length = 1 := by
    have hA' : DataW.TrodAll enc Try.prog W 0 (fun _ => true) true Try.f8.params.toList args.toList ds p := hA
    rw [Try.params8] at hA'
    obtain ⟨_, _, _, _, _, _, _, e1, _, _, g1⟩ := trodAll_cons hA'
    obtain ⟨_, e2, _⟩ := trodAll_nil g1
    subst e1 e2
    rfl
  have hok : paramsOk Try.prog 9 Try.f8.params.toList = true := by kernel_rfl
  refine (calls_true (F := 9) extSim (by kernel_rfl) hlaw (paramsOk_plain hok) hval hA).mono fun e W' ⟨he, hb⟩ => ?_
  match ds, hlen with
  | [d0], _ => exact ⟨_, he, post_below (tb := 4) (by kernel_rfl) (paramsOk_read hok) rfl (by kernel_rfl) Try.underlying4 rfl rfl rfl hW0 hb⟩
theorem over (hlaw : LawTrue Try.prog Nt 9 8 Try.f8.params.toList) : Rows.healthLogsRow.holds Try.pinned (OpenSpec.ofChange Rows.healthLogsSpec) :=
  OpenClaim.holds_of_wide 8 Try.f8 rfl rfl rfl rfl rfl rfl rfl ⟨rfl, rfl, rfl, rfl, rfl⟩ rfl rfl rfl rfl rfl (by kernel_rfl) Try.func8 (by kernel_rfl)
    (of_decide_eq_true (by kernel_rfl)) (by unfold Func.isWrapper; first | (rw [if_pos (by decide +kernel)]; kernel_rfl) | (rw [if_neg (by decide +kernel)]; exact ⟨rfl, rfl⟩))
    (fun os started H enc _ => lifted hlaw os started H enc)
theorem proved : Rows.HealthLogsSaid := over healthLogs
end Go.Proofs.Ytdkfchbonlffeaa.healthLogs
