/-
  the monitor and its reference answer every act alike
-/
import Derived.Test.YtdkfchbonlffeaaRows
import Derived.Test.YtdkfchbonlffeaaGa1
import Derived.Test.YtdkfchbonlffeaaGa2
import Derived.Test.YtdkfchbonlffeaaGa3
import Derived.Test.YtdkfchbonlffeaaGHealthReports1
import Derived.Test.YtdkfchbonlffeaaGHealthReports2
import Derived.Test.YtdkfchbonlffeaaGHealthReports3
import Derived.Test.YtdkfchbonlffeaaGHealthReports4
set_option linter.all false
namespace Go.Proofs.Ytdkfchbonlffeaa.healthReports
open Go.ChangeShapes Go.WideShapes Go.ChangeAt Go.RowKit Go.Ab
theorem own : ownKnob Try.prog.godebug = none := by kernel_rfl
set_option maxRecDepth 100000 in
theorem lifted (hlaw : LawTrue Try.prog Nt 9 3 Try.f3.params.toList) (os : Os) (started : os.Started) (H : Type) (enc : TypeId × Value → H) :
    ReturnsInHanded {} Try.checked os 3 .any (Rows.healthReportsSpec.pre6 enc Try.prog Try.f3 Rows.healthReportsRow.domain false) (Rows.healthReportsSpec.post enc Try.prog Try.f3 false true false false) := by
  refine returnsInHanded_of_change (C := Try.checked) own started (by kernel_rfl) Try.func3
    (ChangeSpec.witness6 (enc := enc) (C := Try.checked) false ⟨#[], #[.int .i64 0, .slice none 0 0, .slice none 0 0], []⟩ 8 (by kernel_rfl) (by kernel_rfl) (by kernel_rfl) (by kernel_rfl)) ?_
  intro W base args ds gs before hval hW _ _
  have hW0 := hW
  obtain ⟨p, q, hA, _⟩ := hW
  have hlen : ds.length = 3 := by
    have hA' : DataW.TrodAll enc Try.prog W 0 (fun _ => true) true Try.f3.params.toList args.toList ds p := hA
    rw [Try.params3] at hA'
    obtain ⟨_, _, _, _, _, _, _, e1, _, _, g1⟩ := trodAll_cons hA'
    obtain ⟨_, _, _, _, _, _, _, e2, _, _, g2⟩ := trodAll_cons g1
    obtain ⟨_, _, _, _, _, _, _, e3, _, _, g3⟩ := trodAll_cons g2
    obtain ⟨_, e4, _⟩ := trodAll_nil g3
    subst e1 e2 e3 e4
    rfl
  have hok : paramsOk Try.prog 9 Try.f3.params.toList = true := by kernel_rfl
  refine (calls_true (F := 9) extSim (by kernel_rfl) hlaw (paramsOk_plain hok) hval hA).mono fun e W' ⟨he, hb⟩ => ?_
  match ds, hlen with
  | [d0, d1, d2], _ => exact ⟨_, he, post_below (tb := 4) (by kernel_rfl) (paramsOk_read hok) rfl (by kernel_rfl) Try.underlying4 rfl rfl rfl hW0 hb⟩
theorem over (hlaw : LawTrue Try.prog Nt 9 3 Try.f3.params.toList) : Rows.healthReportsRow.holds Try.pinned (OpenSpec.ofChange Rows.healthReportsSpec) :=
  OpenClaim.holds_of_wide 3 Try.f3 rfl rfl rfl rfl rfl rfl rfl ⟨rfl, rfl, rfl, rfl, rfl⟩ rfl rfl rfl rfl rfl (by kernel_rfl) Try.func3 (by kernel_rfl)
    (of_decide_eq_true (by kernel_rfl)) (by unfold Func.isWrapper; first | (rw [if_pos (by decide +kernel)]; kernel_rfl) | (rw [if_neg (by decide +kernel)]; exact ⟨rfl, rfl⟩))
    (fun os started H enc _ => lifted hlaw os started H enc)
theorem proved : Rows.HealthReportsSaid := over healthReports
end Go.Proofs.Ytdkfchbonlffeaa.healthReports
