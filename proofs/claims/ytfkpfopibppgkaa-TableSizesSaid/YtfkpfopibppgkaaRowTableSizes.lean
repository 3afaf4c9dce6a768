/-
  an image has as many bytes as its tables say
-/
import Derived.Test.YtfkpfopibppgkaaRows
import Derived.Test.YtfkpfopibppgkaaGa1
import Derived.Test.YtfkpfopibppgkaaGa2
import Derived.Test.YtfkpfopibppgkaaGa3
import Derived.Test.YtfkpfopibppgkaaGTableSizes1
import Derived.Test.YtfkpfopibppgkaaGTableSizes2
import Derived.Test.YtfkpfopibppgkaaGTableSizes3
import Derived.Test.YtfkpfopibppgkaaGTableSizes4
import Derived.Test.YtfkpfopibppgkaaGTableSizes5
set_option linter.all false
namespace Go.Proofs.Ytfkpfopibppgkaa.tableSizes
open Go.ChangeShapes Go.WideShapes Go.ChangeAt Go.RowKit Go.Ab
theorem own : ownKnob Try.prog.godebug = none := by kernel_rfl
set_option maxRecDepth 100000 in
theorem lifted (hlaw : LawTrue Try.prog Nt 9 9 Try.f9.params.toList) (os : Os) (started : os.Started) (H : Type) (enc : TypeId × Value → H) :
    ReturnsInHanded {} Try.checked os 9 .any (Rows.tableSizesSpec.pre6 enc Try.prog Try.f9 Rows.tableSizesRow.domain false) (Rows.tableSizesSpec.post enc Try.prog Try.f9 false true false false) := by
  refine returnsInHanded_of_change (C := Try.checked) own started (by kernel_rfl) Try.func9
    (ChangeSpec.witness6 (enc := enc) (C := Try.checked) false ⟨#[], #[.agg #[.int .i64 0, .int .i64 0, .int .i64 0, .int .i64 0, .int .i64 0, .int .i64 0, .int .i64 0, .int .i64 0, .slice none 0 0, .slice none 0 0, .slice none 0 0]], []⟩ 8 (by kernel_rfl) (by kernel_rfl) (by kernel_rfl) (by kernel_rfl)) ?_
  intro W base args ds gs before hval hW _ _
  have hW0 := hW
  obtain ⟨p, q, hA, _⟩ := hW
  have hlen : ds.length = 1 := by
    have hA' : DataW.TrodAll enc Try.prog W 0 (fun _ => true) true Try.f9.params.toList args.toList ds p := hA
    rw [Try.params9] at hA'
    obtain ⟨_, _, _, _, _, _, _, e1, _, _, g1⟩ := trodAll_cons hA'
    obtain ⟨_, e2, _⟩ := trodAll_nil g1
    subst e1 e2
    rfl
  have hok : paramsOk Try.prog 9 Try.f9.params.toList = true := by kernel_rfl
  refine (calls_true (F := 9) extSim (by kernel_rfl) hlaw (paramsOk_plain hok) hval hA).mono fun e W' ⟨he, hb⟩ => ?_
  match ds, hlen with
  | [d0], _ => exact ⟨_, he, post_below (tb := 4) (by kernel_rfl) (paramsOk_read hok) rfl (by kernel_rfl) Try.underlying4 rfl rfl rfl hW0 hb⟩
theorem over (hlaw : LawTrue Try.prog Nt 9 9 Try.f9.params.toList) : Rows.tableSizesRow.holds Try.pinned (OpenSpec.ofChange Rows.tableSizesSpec) :=
  OpenClaim.holds_of_wide 9 Try.f9 rfl rfl rfl rfl rfl rfl rfl ⟨rfl, rfl, rfl, rfl, rfl⟩ rfl rfl rfl rfl rfl (by kernel_rfl) Try.func9 (by kernel_rfl)
    (of_decide_eq_true (by kernel_rfl)) (by unfold Func.isWrapper; first | (rw [if_pos (by decide +kernel)]; kernel_rfl) | (rw [if_neg (by decide +kernel)]; exact ⟨rfl, rfl⟩))
    (fun os started H enc _ => lifted hlaw os started H enc)
theorem proved : Rows.TableSizesSaid := over tableSizes
end Go.Proofs.Ytfkpfopibppgkaa.tableSizes
