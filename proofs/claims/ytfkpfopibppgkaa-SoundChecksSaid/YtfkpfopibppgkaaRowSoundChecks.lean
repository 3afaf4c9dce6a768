/-
  SoundChecks: whatever the tables, the program's Check and the document's answer tell the same; no condition.
-/
import Derived.Test.YtfkpfopibppgkaaRows
import Derived.Test.YtfkpfopibppgkaaGa1
import Derived.Test.YtfkpfopibppgkaaGa2
import Derived.Test.YtfkpfopibppgkaaGa3
import Derived.Test.YtfkpfopibppgkaaGSoundChecks1
import Derived.Test.YtfkpfopibppgkaaGSoundChecks2
import Derived.Test.YtfkpfopibppgkaaGSoundChecks3
import Derived.Test.YtfkpfopibppgkaaGSoundChecks4
set_option linter.all false
namespace Go.Proofs.Ytfkpfopibppgkaa.soundChecks
open Go.ChangeShapes Go.WideShapes Go.ChangeAt Go.RowKit Go.Ab
theorem own : ownKnob Try.prog.godebug = none := by kernel_rfl
set_option maxRecDepth 100000 in
theorem lifted (hlaw : LawTrue Try.prog Nt 9 3 Try.f3.params.toList) (os : Os) (started : os.Started) (H : Type) (enc : TypeId × Value → H) :
    ReturnsInHanded {} Try.checked os 3 .any (Rows.soundChecksSpec.pre6 enc Try.prog Try.f3 Rows.soundChecksRow.domain false) (Rows.soundChecksSpec.post enc Try.prog Try.f3 false true false false) := by
  refine returnsInHanded_of_change (C := Try.checked) own started (by kernel_rfl) Try.func3
    (ChangeSpec.witness6 (enc := enc) (C := Try.checked) false ⟨#[], #[.agg #[.int .i64 0, .int .i64 0, .int .i64 0, .int .i64 0, .int .i64 0, .int .i64 0, .int .i64 0, .int .i64 0, .slice none 0 0, .slice none 0 0, .slice none 0 0]], []⟩ 8 (by kernel_rfl) (by kernel_rfl) (by kernel_rfl) (by kernel_rfl)) ?_
  intro W base args ds gs before hval hW _ _
  have hW0 := hW
  obtain ⟨p, q, hA, _⟩ := hW
  have hlen : ds.length = 1 := by
    have hA' : DataW.TrodAll enc Try.prog W 0 (fun _ => true) true Try.f3.params.toList args.toList ds p := hA
    rw [Try.params3] at hA'
    obtain ⟨_, _, _, _, _, _, _, hds, _, _, h2⟩ := trodAll_cons hA'
    obtain ⟨_, rfl, _⟩ := trodAll_nil h2
    rw [hds]; rfl
  have hok : paramsOk Try.prog 9 Try.f3.params.toList = true := by kernel_rfl
  refine (calls_true (F := 9) (by kernel_rfl) hlaw (paramsOk_plain hok) hval hA).mono fun e W' ⟨he, hb⟩ => ?_
  match ds, hlen with
  | [d], _ => exact ⟨_, he, post_below (tb := 4) (by kernel_rfl) (paramsOk_read hok) rfl (by kernel_rfl) Try.underlying4 rfl rfl rfl hW0 hb⟩
theorem over (hlaw : LawTrue Try.prog Nt 9 3 Try.f3.params.toList) : Rows.soundChecksRow.holds Try.pinned (OpenSpec.ofChange Rows.soundChecksSpec) :=
  OpenClaim.holds_of_wide 3 Try.f3 rfl rfl rfl rfl rfl rfl rfl ⟨rfl, rfl, rfl, rfl, rfl⟩ rfl rfl rfl rfl rfl (by kernel_rfl) Try.func3 (by kernel_rfl)
    (of_decide_eq_true (by kernel_rfl)) (by unfold Func.isWrapper; first | (rw [if_pos (by decide +kernel)]; kernel_rfl) | (rw [if_neg (by decide +kernel)]; exact ⟨rfl, rfl⟩))
    (fun os started H enc _ => lifted hlaw os started H enc)
theorem proved : Rows.SoundChecksSaid := over soundChecks
end Go.Proofs.Ytfkpfopibppgkaa.soundChecks
