/-
  Functions of the program as equations, and their contracts.
-/
import Derived.Test.YtfkpfopibppgkaaProg
import Derived.KernelRfl
import Derived.Test.YtfkpfopibppgkaaGa1
import Derived.Test.YtfkpfopibppgkaaGa2
import Derived.Test.YtfkpfopibppgkaaGa3
set_option linter.all false
section
/-
  The notes for the print: written by program (wip/tools/prt.py).
-/
namespace Go.Ab
open Go.Proofs
noncomputable def C3 : Code := Try.f3.body.getD .skip
noncomputable def A3 : AN := (.mk none .d (.mk (some [1]) .d (.mk (some [1]) .d .d)))
noncomputable def C5 : Code := Try.f5.body.getD .skip
noncomputable def A5 : AN := (.mk none .d (.mk (some [1, 2]) .d (.mk (some [1, 2]) .d (.mk none .d (.mk none .d (.mk none .d (.mk none .d (.mk none .d (.mk none .d (.mk none .d (.mk none .d (.mk none .d (.mk none .d (.mk (some [2, 5, 6]) (.mk (some [2, 5, 6, 66]) .d .d) .d))))))))))))))
noncomputable def C6 : Code := Try.f6.body.getD .skip
noncomputable def A6 : AN := (.mk none .d (.mk (some [1, 2]) .d (.mk (some [1, 2]) .d (.mk none .d (.mk (some [1, 5, 6]) .d (.mk none .d (.mk (some [5, 6]) .d .d)))))))
noncomputable def C7 : Code := Try.f7.body.getD .skip
noncomputable def A7 : AN := (.mk none .d (.mk (some [1, 2]) .d (.mk (some [1, 2]) (.mk (some [1, 2, 24]) .d .d) (.mk none .d (.mk (some [2, 5]) (.mk (some [2, 5, 40]) .d .d) (.mk (some []) (.mk none .d (.mk none (.mk (some [2, 5, 42, 43]) (.mk none .d (.mk (some [2, 5, 42, 43]) .d (.mk (some [2, 5, 42, 43]) (.mk none (.mk none .d (.mk (some [2, 5, 6, 42, 43]) .d (.mk none .d (.mk none (.mk (some [2, 5, 42, 43, 53, 54, 55]) (.mk none .d (.mk (some [2, 5, 42, 43, 53, 54, 55]) .d (.mk (some [2, 5, 42, 43, 53, 54, 55]) (.mk none (.mk none .d (.mk (some [2, 5, 42, 43, 53, 54, 55, 67]) .d .d)) .d) .d))) .d) .d)))) .d) .d))) .d) .d)) .d))))))
noncomputable def C8 : Code := Try.f8.body.getD .skip
noncomputable def A8 : AN := (.mk none .d (.mk (some [1]) .d (.mk (some [1]) .d .d)))
noncomputable def C9 : Code := Try.f9.body.getD .skip
noncomputable def A9 : AN := (.mk none .d (.mk (some [1]) .d (.mk (some [1]) .d .d)))
noncomputable def C10 : Code := Try.f10.body.getD .skip
noncomputable def A10 : AN := .d
noncomputable def C11 : Code := Try.f11.body.getD .skip
noncomputable def A11 : AN := .d
noncomputable def C12 : Code := Try.f12.body.getD .skip
noncomputable def A12 : AN := (.mk none .d (.mk none .d (.mk (some [3]) (.mk none .d (.mk none (.mk (some [0, 3, 4]) (.mk (some [0, 3, 4]) .d (.mk (some [0, 3, 4]) (.mk none (.mk (some [0, 3, 4]) .d (.mk none .d (.mk none (.mk none .d (.mk none .d (.mk none .d (.mk none (.mk none .d (.mk (some [3, 4, 6]) (.mk (some [3, 4, 6, 46]) .d .d) .d)) .d)))) .d))) .d) .d)) .d) .d)) .d)))
noncomputable def C13 : Code := Try.f13.body.getD .skip
noncomputable def A13 : AN := (.mk none .d (.mk (some [1]) .d (.mk none .d (.mk (some [1]) .d (.mk (some [1]) .d (.mk (some []) .d .d))))))
noncomputable def C14 : Code := Try.f14.body.getD .skip
noncomputable def A14 : AN := .d
noncomputable def C15 : Code := Try.f15.body.getD .skip
noncomputable def A15 : AN := (.mk none .d (.mk none .d (.mk (some [1]) .d (.mk none .d (.mk (some [1, 4]) .d (.mk (some [1, 4]) .d (.mk (some [1, 4]) .d (.mk (some [1]) .d (.mk (some [1]) (.mk none .d (.mk none (.mk (some [1, 5]) (.mk (some [1, 5]) .d (.mk (some [1, 5]) (.mk none (.mk none .d (.mk none .d (.mk (some [1, 5, 7]) (.mk none .d (.mk none (.mk (some [1, 5, 6, 7, 8]) (.mk (some [1, 5, 6, 7, 8]) .d (.mk (some [1, 5, 6, 7, 8]) (.mk none (.mk none .d (.mk (some [1, 5, 6, 7, 8, 123]) .d .d)) .d) .d)) .d) .d)) .d))) .d) .d)) .d) .d)) (.mk (some []) (.mk none .d (.mk none (.mk (some [1, 10]) (.mk (some [1, 10]) .d (.mk (some [1, 10]) (.mk none (.mk none .d (.mk (some [1, 10, 13]) .d (.mk (some [1, 10, 13]) (.mk none .d (.mk none (.mk (some [1, 10, 13, 14]) (.mk (some [1, 10, 13, 14]) .d (.mk (some [1, 10, 13, 14]) .d .d)) .d) .d)) .d))) .d) .d)) .d) .d)) .d))))))))))
noncomputable def C16 : Code := Try.f16.body.getD .skip
noncomputable def A16 : AN := .d
noncomputable def C17 : Code := Try.f17.body.getD .skip
noncomputable def A17 : AN := .d
noncomputable def C18 : Code := Try.f18.body.getD .skip
noncomputable def A18 : AN := (.mk none .d (.mk none .d (.mk (some [1, 2, 5]) (.mk (some [1, 2, 5, 19]) .d .d) (.mk none .d (.mk (some [5]) (.mk none .d (.mk none (.mk (some [2, 5, 25, 26]) (.mk none .d (.mk (some [2, 5, 25, 26]) .d (.mk (some [2, 5, 25, 26]) (.mk none (.mk none .d (.mk none (.mk (some [2, 5, 25, 26, 29, 30, 31]) (.mk none .d (.mk (some [2, 5, 25, 26, 29, 30, 31]) .d (.mk (some [2, 5, 25, 26, 29, 30, 31]) .d .d))) .d) .d)) .d) .d))) .d) .d)) .d)))))
noncomputable def C19 : Code := Try.f19.body.getD .skip
noncomputable def A19 : AN := .d
noncomputable def C20 : Code := Try.f20.body.getD .skip
noncomputable def A20 : AN := .d
noncomputable def C21 : Code := Try.f21.body.getD .skip
noncomputable def A21 : AN := (.mk none .d (.mk (some [1]) .d (.mk none .d (.mk none .d (.mk none .d (.mk none .d (.mk none .d (.mk none .d (.mk (some [1, 5, 6]) (.mk none .d (.mk none (.mk (some [1, 5, 6, 61, 62, 63]) (.mk none .d (.mk (some [1, 5, 6, 61, 62, 63]) .d (.mk (some [1, 5, 6, 61, 62, 63]) (.mk none (.mk none .d (.mk none .d (.mk none .d (.mk none .d (.mk none .d (.mk none (.mk (some [1, 5, 6, 61, 62, 63, 87, 88]) (.mk none .d (.mk (some [1, 5, 6, 61, 62, 63, 87, 88]) .d (.mk (some [1, 5, 6, 61, 62, 63, 87, 88]) .d .d))) .d) .d)))))) .d) .d))) .d) .d)) (.mk (some [1, 5, 6]) (.mk none .d (.mk none (.mk (some [1, 5, 6, 99, 100, 101]) (.mk none .d (.mk (some [1, 5, 6, 99, 100, 101]) .d (.mk (some [1, 5, 6, 99, 100, 101]) (.mk none (.mk none .d (.mk none .d (.mk (some [1, 5, 6, 12, 13, 99, 100, 101]) .d .d))) .d) .d))) .d) .d)) (.mk (some [5]) (.mk none .d (.mk none (.mk (some [5, 6, 124, 125, 126]) (.mk none .d (.mk (some [5, 6, 124, 125, 126]) .d (.mk (some [5, 6, 124, 125, 126]) .d .d))) .d) .d)) .d)))))))))))
noncomputable def C23 : Code := Try.f23.body.getD .skip
noncomputable def A23 : AN := (.mk none .d (.mk (some [1]) (.mk none (.mk (some [1, 9]) .d (.mk none .d (.mk (some [1, 45]) .d .d))) .d) (.mk (some [1]) (.mk none .d (.mk none (.mk (some [1, 64, 65, 66]) (.mk none .d (.mk (some [1, 64, 65, 66]) .d (.mk (some [1, 64, 65, 66]) .d .d))) .d) .d)) (.mk (some [1]) (.mk none .d (.mk none (.mk (some [1, 80, 81, 82]) (.mk none .d (.mk (some [1, 80, 81, 82]) .d (.mk (some [1, 80, 81, 82]) .d .d))) .d) .d)) (.mk (some []) (.mk none .d (.mk none (.mk (some [1, 97, 98, 99]) (.mk none .d (.mk (some [1, 97, 98, 99]) .d (.mk (some [1, 97, 98, 99]) (.mk none (.mk none .d (.mk (some [1, 7, 97, 98, 99, 121]) .d .d)) .d) .d))) .d) .d)) .d)))))
noncomputable def C24 : Code := Try.f24.body.getD .skip
noncomputable def A24 : AN := (.mk none .d (.mk (some [1]) (.mk (some [1, 58]) .d .d) (.mk (some [1]) (.mk (some [1, 75]) .d .d) (.mk (some [1]) (.mk none .d (.mk none (.mk (some [1, 3]) (.mk (some [1, 3]) .d (.mk (some [1, 3]) (.mk none (.mk none .d (.mk (some [1, 3, 4, 5]) .d (.mk (some [1, 3, 5]) (.mk none .d (.mk none (.mk (some [1, 3, 4, 5, 6]) (.mk (some [1, 3, 4, 5, 6]) .d (.mk (some [1, 3, 4, 5, 6]) .d .d)) .d) .d)) .d))) .d) .d)) .d) .d)) (.mk (some [1]) (.mk none .d (.mk none (.mk (some [1, 7]) (.mk (some [1, 7]) .d (.mk (some [1, 7]) (.mk none (.mk none .d (.mk (some [1, 7, 8, 9]) .d (.mk (some [1, 7, 9]) .d .d))) .d) .d)) .d) .d)) (.mk (some []) (.mk none .d (.mk none (.mk (some [1, 10]) (.mk (some [1, 10]) .d (.mk (some [1, 10]) (.mk none (.mk (some [1, 10, 231]) .d .d) .d) .d)) .d) .d)) .d))))))
noncomputable def C25 : Code := Try.f25.body.getD .skip
noncomputable def A25 : AN := (.mk none .d (.mk (some [2, 3]) (.mk (some [2, 3, 88]) .d .d) (.mk (some [2, 3]) (.mk none .d (.mk none (.mk (some [2, 3, 5]) (.mk (some [2, 3, 5]) .d (.mk (some [2, 3, 5]) .d .d)) .d) .d)) (.mk (some [2, 3]) (.mk none .d (.mk none (.mk (some [2, 3, 6]) (.mk (some [2, 3, 6]) .d (.mk (some [2, 3, 6]) .d .d)) .d) .d)) (.mk (some []) (.mk none .d (.mk none (.mk (some [2, 3, 7]) (.mk (some [2, 3, 7]) .d (.mk (some [2, 3, 7]) .d .d)) .d) .d)) .d)))))
noncomputable def C26 : Code := Try.f26.body.getD .skip
noncomputable def A26 : AN := .d
noncomputable def C27 : Code := Try.f27.body.getD .skip
noncomputable def A27 : AN := .d
noncomputable def C28 : Code := Try.f28.body.getD .skip
noncomputable def A28 : AN := .d
noncomputable def C29 : Code := Try.f29.body.getD .skip
noncomputable def A29 : AN := (.mk none .d (.mk (some [0, 1]) .d .d))
noncomputable def C30 : Code := Try.f30.body.getD .skip
noncomputable def A30 : AN := (.mk none .d (.mk (some [0, 1]) .d .d))
noncomputable def C31 : Code := Try.f31.body.getD .skip
noncomputable def A31 : AN := .d
noncomputable def C32 : Code := Try.f32.body.getD .skip
noncomputable def A32 : AN := (.mk none .d (.mk (some []) (.mk none .d (.mk none (.mk (some [1, 8, 9, 10]) (.mk none .d (.mk (some [1, 8, 9, 10]) .d (.mk (some [1, 8, 9, 10]) (.mk none (.mk none .d (.mk (some [1, 3, 4, 8, 9, 10]) .d (.mk none .d (.mk none (.mk (some [1, 3, 4, 8, 9, 10, 30, 31, 32]) (.mk none .d (.mk (some [1, 3, 4, 8, 9, 10, 30, 31, 32]) .d (.mk (some [1, 3, 4, 8, 9, 10, 30, 31, 32]) (.mk none (.mk none .d (.mk (some [1, 3, 4, 8, 9, 10, 30, 31, 32, 60]) .d .d)) .d) .d))) .d) .d)))) .d) .d))) .d) .d)) .d))
noncomputable def C33 : Code := Try.f33.body.getD .skip
noncomputable def A33 : AN := (.mk none .d (.mk (some []) (.mk none .d (.mk none (.mk (some [1, 10, 11, 12]) (.mk none .d (.mk (some [1, 10, 11, 12]) .d (.mk (some [1, 10, 11, 12]) (.mk none (.mk none .d (.mk none .d (.mk (some [1, 3, 4, 10, 11, 12]) (.mk (some [1, 3, 4, 10, 11, 12, 49]) .d .d) (.mk none .d (.mk none (.mk (some [1, 3, 4, 10, 11, 12, 54, 55, 56]) (.mk none .d (.mk (some [1, 3, 4, 10, 11, 12, 54, 55, 56]) .d (.mk (some [1, 3, 4, 10, 11, 12, 54, 55, 56]) .d .d))) .d) .d))))) .d) .d))) .d) .d)) .d))
noncomputable def C34 : Code := Try.f34.body.getD .skip
noncomputable def A34 : AN := .d
noncomputable def C35 : Code := Try.f35.body.getD .skip
noncomputable def A35 : AN := .d
noncomputable def C36 : Code := Try.f36.body.getD .skip
noncomputable def A36 : AN := (.mk none .d (.mk (some [0, 1, 2]) .d .d))
noncomputable def C37 : Code := Try.f37.body.getD .skip
noncomputable def A37 : AN := (.mk none .d (.mk none (.mk (some [0, 2, 7, 8, 9]) (.mk none .d (.mk (some [0, 2, 7, 8, 9]) .d (.mk (some [0, 2, 7, 8, 9]) .d .d))) .d) .d))
noncomputable def C38 : Code := Try.f38.body.getD .skip
noncomputable def A38 : AN := (.mk (some [0, 1, 2]) .d (.mk none .d (.mk none (.mk (some [0, 1]) (.mk none (.mk (some [0, 1]) (.mk none (.mk (some [0, 1]) (.mk none (.mk (some [0, 1]) (.mk none (.mk none (.mk (some [0, 1, 8]) .d (.mk (some [0, 1, 8]) .d (.mk (some [0, 1, 8]) .d .d))) .d) .d) .d) .d) .d) .d) .d) .d) .d) .d)))
noncomputable def C39 : Code := Try.f39.body.getD .skip
noncomputable def A39 : AN := .d
noncomputable def C40 : Code := Try.f40.body.getD .skip
noncomputable def A40 : AN := (.mk none .d (.mk (some [0]) .d .d))
noncomputable def C41 : Code := Try.f41.body.getD .skip
noncomputable def A41 : AN := (.mk none .d (.mk (some [0, 1, 2]) .d .d))
noncomputable def C42 : Code := Try.f42.body.getD .skip
noncomputable def A42 : AN := (.mk none .d (.mk (some [0]) (.mk none .d (.mk none (.mk (some [0, 1, 2, 7]) (.mk (some [0, 1, 2, 7]) .d (.mk (some [0, 1, 2, 7]) .d .d)) .d) .d)) .d))
noncomputable def C43 : Code := Try.f43.body.getD .skip
noncomputable def A43 : AN := (.mk none .d (.mk none .d (.mk none .d (.mk (some [4]) (.mk none .d (.mk none (.mk (some [3, 4, 5]) (.mk (some [3, 4, 5]) .d (.mk (some [3, 4, 5]) .d .d)) .d) .d)) .d))))
noncomputable def C44 : Code := Try.f44.body.getD .skip
noncomputable def A44 : AN := .d
noncomputable def C45 : Code := Try.f45.body.getD .skip
noncomputable def A45 : AN := (.mk none .d (.mk (some [1, 2]) (.mk none .d (.mk none (.mk (some [1, 2, 8, 9]) (.mk none .d (.mk (some [1, 2, 8, 9]) .d (.mk (some [1, 2, 8, 9]) .d .d))) .d) .d)) .d))
noncomputable def C46 : Code := Try.f46.body.getD .skip
noncomputable def A46 : AN := (.mk none .d (.mk (some [2]) (.mk (some [2, 16]) .d .d) (.mk (some []) .d .d)))
noncomputable def C47 : Code := Try.f47.body.getD .skip
noncomputable def A47 : AN := .d
noncomputable def C48 : Code := Try.f48.body.getD .skip
noncomputable def A48 : AN := (.mk none .d (.mk (some [0]) .d (.mk (some [0]) .d (.mk none .d (.mk none (.mk (some [0, 3]) .d .d) .d)))))
noncomputable def C49 : Code := Try.f49.body.getD .skip
noncomputable def A49 : AN := .d
noncomputable def C50 : Code := Try.f50.body.getD .skip
noncomputable def A50 : AN := .d
noncomputable def C51 : Code := Try.f51.body.getD .skip
noncomputable def A51 : AN := (.mk none .d (.mk none .d (.mk (some [5]) (.mk none .d (.mk none (.mk (some [0, 1, 5, 6]) (.mk (some [0, 1, 5, 6]) (.mk (some [0, 1, 5, 6, 14]) .d .d) (.mk (some [0, 1, 5, 6]) .d .d)) .d) .d)) .d)))
noncomputable def C52 : Code := Try.f52.body.getD .skip
noncomputable def A52 : AN := (.mk none .d (.mk none .d (.mk (some [3]) (.mk none .d (.mk none (.mk (some [0, 3, 4]) (.mk (some [0, 3, 4]) .d (.mk (some [0, 3, 4]) .d .d)) .d) .d)) .d)))
noncomputable def C53 : Code := Try.f53.body.getD .skip
noncomputable def A53 : AN := (.mk none .d (.mk (some [0]) (.mk none .d (.mk none (.mk (some [0, 7, 8, 9]) (.mk none .d (.mk (some [0, 7, 8, 9]) .d (.mk (some [0, 7, 8, 9]) (.mk none (.mk none .d (.mk none .d (.mk none .d (.mk none (.mk (some [0, 7, 8, 9, 17]) (.mk none .d (.mk (some [0, 7, 8, 9, 17]) .d (.mk (some [0, 7, 8, 9, 17]) .d .d))) .d) .d)))) .d) .d))) .d) .d)) .d))
noncomputable def Nt : Notes := fun f => if f = 3 then A3 else if f = 5 then A5 else if f = 6 then A6 else if f = 7 then A7 else if f = 8 then A8 else if f = 9 then A9 else if f = 10 then A10 else if f = 11 then A11 else if f = 12 then A12 else if f = 13 then A13 else if f = 14 then A14 else if f = 15 then A15 else if f = 16 then A16 else if f = 17 then A17 else if f = 18 then A18 else if f = 19 then A19 else if f = 20 then A20 else if f = 21 then A21 else if f = 23 then A23 else if f = 24 then A24 else if f = 25 then A25 else if f = 26 then A26 else if f = 27 then A27 else if f = 28 then A28 else if f = 29 then A29 else if f = 30 then A30 else if f = 31 then A31 else if f = 32 then A32 else if f = 33 then A33 else if f = 34 then A34 else if f = 35 then A35 else if f = 36 then A36 else if f = 37 then A37 else if f = 38 then A38 else if f = 39 then A39 else if f = 40 then A40 else if f = 41 then A41 else if f = 42 then A42 else if f = 43 then A43 else if f = 44 then A44 else if f = 45 then A45 else if f = 46 then A46 else if f = 47 then A47 else if f = 48 then A48 else if f = 49 then A49 else if f = 50 then A50 else if f = 51 then A51 else if f = 52 then A52 else if f = 53 then A53 else .d
end Go.Ab
end
section
/-
  Functions of the program as equations: written by program (wip/tools/prt.py).
-/
namespace Go.Ab
open Go.Proofs
/-! 44: escapement/table.in -/
noncomputable def K44 : Kont := kend Try.prog 15 Try.f44.results.toList
theorem E44_g (lp : Loop) (jn : Join) (x0 : Int) (x1 : Int) (x2 : Int) (h : AHeap) : codeJ Try.prog Nt lp jn 15 (Nt 44) C44 (args [(.int .i64 x0), (.int .i64 x1), (.int .i64 x2)]) h K44 = (gi (decide (x0 ≥ x1)) (some ((.bool (decide (x0 ≤ x2))), h)) (some ((.bool false), h))) := by kernel_rfl
theorem E44 (x0 : Int) (x1 : Int) (x2 : Int) (h : AHeap) : acall Try.prog Nt 44 [(.int .i64 x0), (.int .i64 x1), (.int .i64 x2)] h = (gi (decide (x0 ≥ x1)) (some ((.bool (decide (x0 ≤ x2))), h)) (some ((.bool false), h))) := (acall_at Try.func44 _ h 15 rfl (c := C44) rfl).trans (E44_g aloop (fun s => s) x0 x1 x2 h)
end Go.Ab
end
section
/-
  Functions of the program as equations: written by program (wip/tools/prt.py).
-/
namespace Go.Ab
open Go.Proofs
/-! 45: escapement/table.part -/
noncomputable def K45 : Kont := kend Try.prog 40 Try.f45.results.toList
noncomputable def K45_1 (lp : Loop) (jn : Join) : Kont := kseqJ jn (codeJ Try.prog Nt lp jn 40 (nat' [true, true] A45) (cat [true, true] C45)) (some [1, 2]) K45
noncomputable def K45_2 (lp : Loop) (jn : Join) : Kont := kblock 0 none (K45_1 lp jn)
noncomputable def K45_3 (lp : Loop) (jn : Join) : Kont := kloop (lp (some [1, 2, 8, 9]) (codeJ Try.prog Nt lp jn 40 (nat' [true, false, true, false, false] A45) (cat [true, false, true, false, false] C45))) (some [1, 2, 8, 9]) (K45_2 lp jn)
noncomputable def J45_1' (lp : Loop) (jn : Join) (x1 : Int) (x2 : Nat) (x8 : AV) (x9 : Int) (h : AHeap) : Res := lp (some [1, 2, 8, 9]) (codeJ Try.prog Nt lp jn 40 (nat' [true, false, true, false, false] A45) (cat [true, false, true, false, false] C45)) (envOf [(1, (.int .i64 x1)), (2, (.ptr x2 0)), (8, x8), (9, (.int .i64 x9))]) h (K45_2 lp jn)
noncomputable def J45_1 (x1 : Int) (x2 : Nat) (x8 : AV) (x9 : Int) (h : AHeap) : Res := J45_1' aloop (fun s => s) x1 x2 x8 x9 h
noncomputable def J45_2' (lp : Loop) (jn : Join) (x1 : Int) (x2 : Nat) (x8 : AV) (x9 : Int) (h : AHeap) : Res := jn (codeJ Try.prog Nt lp jn 40 (nat' [true, false, true, false, false, true, true] A45) (cat [true, false, true, false, false, true, true] C45)) (envOf [(1, (.int .i64 x1)), (2, (.ptr x2 0)), (8, x8), (9, (.int .i64 x9))]) h (K45_3 lp jn)
noncomputable def J45_2 (x1 : Int) (x2 : Nat) (x8 : AV) (x9 : Int) (h : AHeap) : Res := J45_2' aloop (fun s => s) x1 x2 x8 x9 h
noncomputable def J45_3' (lp : Loop) (jn : Join) (x1 : Int) (x2 : Nat) (h : AHeap) : Res := jn (codeJ Try.prog Nt lp jn 40 (nat' [true, true] A45) (cat [true, true] C45)) (envOf [(1, (.int .i64 x1)), (2, (.ptr x2 0))]) h K45
noncomputable def J45_3 (x1 : Int) (x2 : Nat) (h : AHeap) : Res := J45_3' aloop (fun s => s) x1 x2 h
noncomputable def J45_4' (lp : Loop) (jn : Join) (x1 : Int) (x2 : Nat) (x8 : AV) (x9 : Int) (h : AHeap) : Res := jn (codeJ Try.prog Nt lp jn 40 (nat' [true, false, true, false, false, true, true, true] A45) (cat [true, false, true, false, false, true, true, true] C45)) (envOf [(1, (.int .i64 x1)), (2, (.ptr x2 0)), (8, x8), (9, (.int .i64 x9))]) h (K45_3 lp jn)
noncomputable def J45_4 (x1 : Int) (x2 : Nat) (x8 : AV) (x9 : Int) (h : AHeap) : Res := J45_4' aloop (fun s => s) x1 x2 x8 x9 h
theorem J45_1_g (lp : Loop) (jn : Join) (x1 : Int) (x2 : Nat) (x8 : AV) (x9 : Int) (h : AHeap) : codeJ Try.prog Nt lp jn 40 (nat' [true, false, true, false, false] A45) (cat [true, false, true, false, false] C45) (envOf [(1, (.int .i64 x1)), (2, (.ptr x2 0)), (8, x8), (9, (.int .i64 x9))]) h (kloop (lp (some [1, 2, 8, 9]) (codeJ Try.prog Nt lp jn 40 (nat' [true, false, true, false, false] A45) (cat [true, false, true, false, false] C45))) (some [1, 2, 8, 9]) (K45_2 lp jn)) = (gc (decide (x9 < 4)) (J45_2' lp jn x1 x2 x8 x9 h) (J45_3' lp jn x1 x2 h)) := by kernel_rfl
theorem J45_1_eq (x1 : Int) (x2 : Nat) (x8 : AV) (x9 : Int) (h : AHeap) : J45_1 x1 x2 x8 x9 h = (gc (decide (x9 < 4)) (J45_2 x1 x2 x8 x9 h) (J45_3 x1 x2 h)) := (aloop_at (some [1, 2, 8, 9]) (nat' [true, false, true, false, false] A45) (cat [true, false, true, false, false] C45) (envOf [(1, (.int .i64 x1)), (2, (.ptr x2 0)), (8, x8), (9, (.int .i64 x9))]) h (K45_2 aloop (fun s => s))).trans (J45_1_g aloop (fun s => s) x1 x2 x8 x9 h)
theorem J45_2_g (lp : Loop) (jn : Join) (x1 : Int) (x2 : Nat) (x8 : AV) (x9 : Int) (h : AHeap) : codeJ Try.prog Nt lp jn 40 (nat' [true, false, true, false, false, true, true] A45) (cat [true, false, true, false, false, true, true] C45) (envOf [(1, (.int .i64 x1)), (2, (.ptr x2 0)), (8, x8), (9, (.int .i64 x9))]) h (K45_3 lp jn) = (gv (aindex Try.prog 36 x8 (.int .i64 x9)) fun v5 => gI .u8 v5 fun n6 => gc (decide (n6 > 3)) (some ((.bool false), h)) (J45_4' lp jn x1 x2 x8 x9 h)) := by kernel_rfl
theorem J45_2_eq (x1 : Int) (x2 : Nat) (x8 : AV) (x9 : Int) (h : AHeap) : J45_2 x1 x2 x8 x9 h = (gv (aindex Try.prog 36 x8 (.int .i64 x9)) fun v5 => gI .u8 v5 fun n6 => gc (decide (n6 > 3)) (some ((.bool false), h)) (J45_4 x1 x2 x8 x9 h)) := J45_2_g aloop (fun s => s) x1 x2 x8 x9 h
theorem J45_3_g (lp : Loop) (jn : Join) (x1 : Int) (x2 : Nat) (h : AHeap) : codeJ Try.prog Nt lp jn 40 (nat' [true, true] A45) (cat [true, true] C45) (envOf [(1, (.int .i64 x1)), (2, (.ptr x2 0))]) h K45 = (gv (aload false 1 (.ptr x2 0) h) fun v7 => gI .i64 v7 fun n8 => gr (acall Try.prog Nt 44 [(.int .i64 n8), (.int .i64 0), (.int .i64 (IntKind.i64.wrap (x1 - 1)))] h) fun r9 h10 => gB r9 fun b11 => gi b11 (gv (aload false 1 (.ptr x2 1) h10) fun v12 => gI .i64 v12 fun n13 => gr (acall Try.prog Nt 44 [(.int .i64 n13), (.int .i64 0), (.int .i64 268435456)] h10) fun r14 h15 => gB r14 fun b16 => gi b16 (gv (aload false 1 (.ptr x2 2) h15) fun v17 => gI .i64 v17 fun n18 => gr (acall Try.prog Nt 44 [(.int .i64 n18), (.int .i64 1), (.int .i64 268435456)] h15) fun r19 h20 => gB r19 fun b21 => gi b21 (gv (aload false 1 (.ptr x2 3) h20) fun v22 => gI .i64 v22 fun n23 => gr (acall Try.prog Nt 44 [(.int .i64 n23), (.int .i64 0), (.int .i64 64)] h20) fun r24 h25 => gB r24 fun b26 => gi b26 (gv (aload false 1 (.ptr x2 4) h25) fun v27 => gI .i64 v27 fun n28 => gr (acall Try.prog Nt 44 [(.int .i64 n28), (.int .i64 0), (.int .i64 16)] h25) fun r29 h30 => gB r29 fun b31 => some ((.bool b31), h30)) (some ((.bool false), h25))) (some ((.bool false), h20))) (some ((.bool false), h15))) (some ((.bool false), h10))) := by kernel_rfl
theorem J45_3_eq (x1 : Int) (x2 : Nat) (h : AHeap) : J45_3 x1 x2 h = (gv (aload false 1 (.ptr x2 0) h) fun v7 => gI .i64 v7 fun n8 => gr (acall Try.prog Nt 44 [(.int .i64 n8), (.int .i64 0), (.int .i64 (IntKind.i64.wrap (x1 - 1)))] h) fun r9 h10 => gB r9 fun b11 => gi b11 (gv (aload false 1 (.ptr x2 1) h10) fun v12 => gI .i64 v12 fun n13 => gr (acall Try.prog Nt 44 [(.int .i64 n13), (.int .i64 0), (.int .i64 268435456)] h10) fun r14 h15 => gB r14 fun b16 => gi b16 (gv (aload false 1 (.ptr x2 2) h15) fun v17 => gI .i64 v17 fun n18 => gr (acall Try.prog Nt 44 [(.int .i64 n18), (.int .i64 1), (.int .i64 268435456)] h15) fun r19 h20 => gB r19 fun b21 => gi b21 (gv (aload false 1 (.ptr x2 3) h20) fun v22 => gI .i64 v22 fun n23 => gr (acall Try.prog Nt 44 [(.int .i64 n23), (.int .i64 0), (.int .i64 64)] h20) fun r24 h25 => gB r24 fun b26 => gi b26 (gv (aload false 1 (.ptr x2 4) h25) fun v27 => gI .i64 v27 fun n28 => gr (acall Try.prog Nt 44 [(.int .i64 n28), (.int .i64 0), (.int .i64 16)] h25) fun r29 h30 => gB r29 fun b31 => some ((.bool b31), h30)) (some ((.bool false), h25))) (some ((.bool false), h20))) (some ((.bool false), h15))) (some ((.bool false), h10))) := J45_3_g aloop (fun s => s) x1 x2 h
theorem J45_4_g (lp : Loop) (jn : Join) (x1 : Int) (x2 : Nat) (x8 : AV) (x9 : Int) (h : AHeap) : codeJ Try.prog Nt lp jn 40 (nat' [true, false, true, false, false, true, true, true] A45) (cat [true, false, true, false, false, true, true, true] C45) (envOf [(1, (.int .i64 x1)), (2, (.ptr x2 0)), (8, x8), (9, (.int .i64 x9))]) h (K45_3 lp jn) = (J45_1' lp jn x1 x2 x8 (IntKind.i64.wrap (x9 + 1)) h) := by kernel_rfl
theorem J45_4_eq (x1 : Int) (x2 : Nat) (x8 : AV) (x9 : Int) (h : AHeap) : J45_4 x1 x2 x8 x9 h = (J45_1 x1 x2 x8 (IntKind.i64.wrap (x9 + 1)) h) := J45_4_g aloop (fun s => s) x1 x2 x8 x9 h
theorem E45_g (lp : Loop) (jn : Join) (x0 : AV) (x1 : Int) (h : AHeap) : codeJ Try.prog Nt lp jn 40 (Nt 45) C45 (args [x0, (.int .i64 x1)]) h K45 = (gv (acells x0) fun cs1 => gN h cs1 fun b2 h3 => gv (aload true 4 (.ptr b2 5) h3) fun v4 => J45_1' lp jn x1 b2 v4 0 h3) := by kernel_rfl
theorem E45 (x0 : AV) (x1 : Int) (h : AHeap) : acall Try.prog Nt 45 [x0, (.int .i64 x1)] h = (gv (acells x0) fun cs1 => gN h cs1 fun b2 h3 => gv (aload true 4 (.ptr b2 5) h3) fun v4 => J45_1 x1 b2 v4 0 h3) := (acall_at Try.func45 _ h 40 rfl (c := C45) rfl).trans (E45_g aloop (fun s => s) x0 x1 h)
end Go.Ab
end
section
/-
  Functions of the program as equations: written by program (wip/tools/prt.py).
-/
namespace Go.Ab
open Go.Proofs
/-! 46: escapement/table.port -/
noncomputable def K46 : Kont := kend Try.prog 49 Try.f46.results.toList
noncomputable def K46_1 (lp : Loop) (jn : Join) : Kont := kseqJ jn (codeJ Try.prog Nt lp jn 49 (nat' [true, true] A46) (cat [true, true] C46)) (some [2]) K46
noncomputable def J46_1' (lp : Loop) (jn : Join) (x2 : Nat) (x16 : Bool) (h : AHeap) : Res := jn (codeJ Try.prog Nt lp jn 49 (nat' [true, false, true] A46) (cat [true, false, true] C46)) (envOf [(2, (.ptr x2 0)), (16, (.bool x16))]) h (K46_1 lp jn)
noncomputable def J46_1 (x2 : Nat) (x16 : Bool) (h : AHeap) : Res := J46_1' aloop (fun s => s) x2 x16 h
noncomputable def J46_2' (lp : Loop) (jn : Join) (x2 : Nat) (h : AHeap) : Res := jn (codeJ Try.prog Nt lp jn 49 (nat' [true, true] A46) (cat [true, true] C46)) (envOf [(2, (.ptr x2 0))]) h K46
noncomputable def J46_2 (x2 : Nat) (h : AHeap) : Res := J46_2' aloop (fun s => s) x2 h
noncomputable def J46_3' (lp : Loop) (jn : Join)  (h : AHeap) : Res := jn (codeJ Try.prog Nt lp jn 49 (nat' [true, true, true] A46) (cat [true, true, true] C46)) (envOf []) h K46
noncomputable def J46_3  (h : AHeap) : Res := J46_3' aloop (fun s => s)  h
theorem J46_1_g (lp : Loop) (jn : Join) (x2 : Nat) (x16 : Bool) (h : AHeap) : codeJ Try.prog Nt lp jn 49 (nat' [true, false, true] A46) (cat [true, false, true] C46) (envOf [(2, (.ptr x2 0)), (16, (.bool x16))]) h (K46_1 lp jn) = (gc x16 (some ((.bool false), h)) (J46_2' lp jn x2 h)) := by kernel_rfl
theorem J46_1_eq (x2 : Nat) (x16 : Bool) (h : AHeap) : J46_1 x2 x16 h = (gc x16 (some ((.bool false), h)) (J46_2 x2 h)) := J46_1_g aloop (fun s => s) x2 x16 h
theorem J46_2_g (lp : Loop) (jn : Join) (x2 : Nat) (h : AHeap) : codeJ Try.prog Nt lp jn 49 (nat' [true, true] A46) (cat [true, true] C46) (envOf [(2, (.ptr x2 0))]) h K46 = (gv (aload false 1 (.ptr x2 1) h) fun v14 => gI .u8 v14 fun n15 => gc (n15 == 1) (gv (aload false 1 (.ptr x2 4) h) fun v16 => gI .i64 v16 fun n17 => gi (n17 == 0) (gv (aload false 1 (.ptr x2 5) h) fun v18 => gI .i64 v18 fun n19 => gr (acall Try.prog Nt 44 [(.int .i64 n19), (.int .i64 0), (.int .i64 8)] h) fun r20 h21 => gB r20 fun b22 => gi b22 (gv (aload false 1 (.ptr x2 2) h21) fun v23 => gB v23 fun b24 => gi (!b24) (some ((.bool true), h21)) (gv (aload false 1 (.ptr x2 5) h21) fun v25 => gI .i64 v25 fun n26 => some ((.bool (n26 == 0)), h21))) (some ((.bool false), h21))) (some ((.bool false), h))) (gc (n15 == 2) (gv (aload false 1 (.ptr x2 4) h) fun v27 => gI .i64 v27 fun n28 => gr (acall Try.prog Nt 44 [(.int .i64 n28), (.int .i64 1), (.int .i64 4)] h) fun r29 h30 => gB r29 fun b31 => gi b31 (gv (aload false 1 (.ptr x2 5) h30) fun v32 => gI .i64 v32 fun n33 => some ((.bool (n33 == 0)), h30)) (some ((.bool false), h30))) (J46_3' lp jn h))) := by kernel_rfl
theorem J46_2_eq (x2 : Nat) (h : AHeap) : J46_2 x2 h = (gv (aload false 1 (.ptr x2 1) h) fun v14 => gI .u8 v14 fun n15 => gc (n15 == 1) (gv (aload false 1 (.ptr x2 4) h) fun v16 => gI .i64 v16 fun n17 => gi (n17 == 0) (gv (aload false 1 (.ptr x2 5) h) fun v18 => gI .i64 v18 fun n19 => gr (acall Try.prog Nt 44 [(.int .i64 n19), (.int .i64 0), (.int .i64 8)] h) fun r20 h21 => gB r20 fun b22 => gi b22 (gv (aload false 1 (.ptr x2 2) h21) fun v23 => gB v23 fun b24 => gi (!b24) (some ((.bool true), h21)) (gv (aload false 1 (.ptr x2 5) h21) fun v25 => gI .i64 v25 fun n26 => some ((.bool (n26 == 0)), h21))) (some ((.bool false), h21))) (some ((.bool false), h))) (gc (n15 == 2) (gv (aload false 1 (.ptr x2 4) h) fun v27 => gI .i64 v27 fun n28 => gr (acall Try.prog Nt 44 [(.int .i64 n28), (.int .i64 1), (.int .i64 4)] h) fun r29 h30 => gB r29 fun b31 => gi b31 (gv (aload false 1 (.ptr x2 5) h30) fun v32 => gI .i64 v32 fun n33 => some ((.bool (n33 == 0)), h30)) (some ((.bool false), h30))) (J46_3 h))) := J46_2_g aloop (fun s => s) x2 h
theorem J46_3_g (lp : Loop) (jn : Join)  (h : AHeap) : codeJ Try.prog Nt lp jn 49 (nat' [true, true, true] A46) (cat [true, true, true] C46) (envOf []) h K46 = (some ((.bool false), h)) := by kernel_rfl
theorem J46_3_eq  (h : AHeap) : J46_3  h = (some ((.bool false), h)) := J46_3_g aloop (fun s => s)  h
theorem E46_g (lp : Loop) (jn : Join) (x0 : AV) (x1 : Int) (h : AHeap) : codeJ Try.prog Nt lp jn 49 (Nt 46) C46 (args [x0, (.int .i64 x1)]) h K46 = (gv (acells x0) fun cs1 => gN h cs1 fun b2 h3 => gv (aload false 1 (.ptr b2 0) h3) fun v4 => gI .i64 v4 fun n5 => gr (acall Try.prog Nt 44 [(.int .i64 n5), (.int .i64 0), (.int .i64 (IntKind.i64.wrap (x1 - 1)))] h3) fun r6 h7 => gB r6 fun b8 => gi (!b8) (J46_1' lp jn b2 true h7) (gv (aload false 1 (.ptr b2 3) h7) fun v9 => gI .i64 v9 fun n10 => gr (acall Try.prog Nt 44 [(.int .i64 n10), (.int .i64 0), (.int .i64 16)] h7) fun r11 h12 => gB r11 fun b13 => J46_1' lp jn b2 (!b13) h12)) := by kernel_rfl
theorem E46 (x0 : AV) (x1 : Int) (h : AHeap) : acall Try.prog Nt 46 [x0, (.int .i64 x1)] h = (gv (acells x0) fun cs1 => gN h cs1 fun b2 h3 => gv (aload false 1 (.ptr b2 0) h3) fun v4 => gI .i64 v4 fun n5 => gr (acall Try.prog Nt 44 [(.int .i64 n5), (.int .i64 0), (.int .i64 (IntKind.i64.wrap (x1 - 1)))] h3) fun r6 h7 => gB r6 fun b8 => gi (!b8) (J46_1 b2 true h7) (gv (aload false 1 (.ptr b2 3) h7) fun v9 => gI .i64 v9 fun n10 => gr (acall Try.prog Nt 44 [(.int .i64 n10), (.int .i64 0), (.int .i64 16)] h7) fun r11 h12 => gB r11 fun b13 => J46_1 b2 (!b13) h12)) := (acall_at Try.func46 _ h 49 rfl (c := C46) rfl).trans (E46_g aloop (fun s => s) x0 x1 h)
end Go.Ab
end
section
/-
  Functions of the program as equations: written by program (wip/tools/prt.py).
-/
namespace Go.Ab
open Go.Proofs
/-! 47: escapement/escapementref05.up -/
noncomputable def K47 : Kont := kend Try.prog 15 Try.f47.results.toList
theorem E47_g (lp : Loop) (jn : Join) (x0 : Int) (x1 : Int) (x2 : Int) (h : AHeap) : codeJ Try.prog Nt lp jn 15 (Nt 47) C47 (args [(.int .i64 x0), (.int .i64 x1), (.int .i64 x2)]) h K47 = (gi (decide (x0 ≥ x1)) (some ((.bool (decide (x0 ≤ x2))), h)) (some ((.bool false), h))) := by kernel_rfl
theorem E47 (x0 : Int) (x1 : Int) (x2 : Int) (h : AHeap) : acall Try.prog Nt 47 [(.int .i64 x0), (.int .i64 x1), (.int .i64 x2)] h = (gi (decide (x0 ≥ x1)) (some ((.bool (decide (x0 ≤ x2))), h)) (some ((.bool false), h))) := (acall_at Try.func47 _ h 15 rfl (c := C47) rfl).trans (E47_g aloop (fun s => s) x0 x1 x2 h)
end Go.Ab
end
section
/-
  Table: ranges of parts and ports.
-/
namespace Go.Ab
open Go.Proofs

theorem c_in (n lo hi : Int) (h : AHeap) : acall Try.prog Nt 44 [.int .i64 n, .int .i64 lo, .int .i64 hi] h = some (.bool (decide (lo ≤ n) && decide (n ≤ hi)), h) := by
  rw [E44]
  by_cases h1 : lo ≤ n <;> simp [h1, gi]
theorem c_up (n lo hi : Int) (h : AHeap) : acall Try.prog Nt 47 [.int .i64 n, .int .i64 lo, .int .i64 hi] h = some (.bool (decide (lo ≤ n) && decide (n ≤ hi)), h) := by
  rw [E47]
  by_cases h1 : lo ≤ n <;> simp [h1, gi]

/-- A partition. -/
structure Part where
  node : Int
  start : Int
  length : Int
  budget : Int
  words : Int
  r0 : Int
  r1 : Int
  r2 : Int
  r3 : Int
  deriving DecidableEq
def Part.cells (p : Part) : List AV := [.int .i64 p.node, .int .i64 p.start, .int .i64 p.length, .int .i64 p.budget, .int .i64 p.words, .int .u8 p.r0, .int .u8 p.r1, .int .u8 p.r2, .int .u8 p.r3]
def Part.ok (p : Part) (nodes : Int) : Bool :=
  decide (p.r0 ≤ 3) && decide (p.r1 ≤ 3) && decide (p.r2 ≤ 3) && decide (p.r3 ≤ 3) && (decide (0 ≤ p.node) && decide (p.node ≤ nodes - 1)) &&
  (decide (0 ≤ p.start) && decide (p.start ≤ 268435456)) && (decide (1 ≤ p.length) && decide (p.length ≤ 268435456)) && (decide (0 ≤ p.budget) && decide (p.budget ≤ 64)) && (decide (0 ≤ p.words) && decide (p.words ≤ 16))
theorem c_part (p : Part) (nodes : Int) (h : AHeap) (hn : 1 ≤ nodes) (hn' : nodes ≤ 7) : Ev (acall Try.prog Nt 45 [.agg p.cells, .int .i64 nodes] h) h fun v _ => v = .bool (p.ok nodes) := by
  rw [E45]
  have ix := fun cs i => aindex_arr (P := Try.prog) (t := 36) (e := 35) (n := 4) (sz := 1) (ag := false) (by kernel_rfl) (by kernel_rfl) (by kernel_rfl) cs .i64 i
  simp (dsimp := false) (implicitDefEqProofs := false) (disch := omega) only [gv_some, gr_some, gI_int, gB_bool, gS_str, gc_t, gc_f, gi_t, gi_f, gN_eq, gf_t, Option.bind_some, Option.bind_none, Option.map_some, acells_agg, acells_int, acells_bool, acells_str, acells_ptr, acells_sl, acells_nilsl, acells_nilptr, acells_iface, acells_niliface, aptr_ptr, anil_ptr, aextract_0, aextract_1, aextract_2, alenS_sl, alenS_nil, apartOf_agg, apart_t, apart_f, astore_ptr, hset_at0, hset_at, List.set_cons_zero, List.set_cons_succ, set_app, set_app0, aload_ptr, splice_eq, List.drop_nil, List.append_nil, isCell_int, isCell_bool, isCell_str, isCell_ptr, isCell_sl, isCell_nilsl, isCell_nilptr, isCell_iface, isCell_niliface, List.all_cons, List.all_nil, Bool.and_self, hget_at0, hget_at, len_app, List.length_cons, List.length_nil, get_app, get_app0, List.getElem?_cons_zero, List.getElem?_cons_succ, join_some, List.append_assoc, List.cons_append, List.nil_append, Nat.zero_add, Nat.add_zero, chkRd_eq, chkAl_blk, if_true, if_false, Bool.false_eq_true, List.drop_succ_cons, List.drop_zero, List.take_succ_cons, List.take_zero, Bool.and_true, Bool.true_and, decide_true, decide_false, wrap64_id, aixG_eq, Nat.reduceAdd, Nat.reduceSub, Nat.reduceMul, Nat.reduceLeDiff, Nat.reduceLT, Int.reduceAdd, Int.reduceSub, Int.reduceMul, Int.reduceNeg, Int.reduceLT, Int.reduceLE, Int.reduceGT, Int.reduceGE, Int.reduceToNat, ↓reduceIte, and_self, true_and, and_true, Part.cells, J45_1_eq, J45_2_eq, J45_3_eq, J45_4_eq, ix, c_in]
  refine Ev.cdd (fun hc => Ev.done (by simp [Part.ok]; omega)) fun h0 => ?_
  simp (dsimp := false) (implicitDefEqProofs := false) (disch := omega) only [gv_some, gr_some, gI_int, gB_bool, gS_str, gc_t, gc_f, gi_t, gi_f, gN_eq, gf_t, Option.bind_some, Option.bind_none, Option.map_some, acells_agg, acells_int, acells_bool, acells_str, acells_ptr, acells_sl, acells_nilsl, acells_nilptr, acells_iface, acells_niliface, aptr_ptr, anil_ptr, aextract_0, aextract_1, aextract_2, alenS_sl, alenS_nil, apartOf_agg, apart_t, apart_f, astore_ptr, hset_at0, hset_at, List.set_cons_zero, List.set_cons_succ, set_app, set_app0, aload_ptr, splice_eq, List.drop_nil, List.append_nil, isCell_int, isCell_bool, isCell_str, isCell_ptr, isCell_sl, isCell_nilsl, isCell_nilptr, isCell_iface, isCell_niliface, List.all_cons, List.all_nil, Bool.and_self, hget_at0, hget_at, len_app, List.length_cons, List.length_nil, get_app, get_app0, List.getElem?_cons_zero, List.getElem?_cons_succ, join_some, List.append_assoc, List.cons_append, List.nil_append, Nat.zero_add, Nat.add_zero, chkRd_eq, chkAl_blk, if_true, if_false, Bool.false_eq_true, List.drop_succ_cons, List.drop_zero, List.take_succ_cons, List.take_zero, Bool.and_true, Bool.true_and, decide_true, decide_false, wrap64_id, aixG_eq, Nat.reduceAdd, Nat.reduceSub, Nat.reduceMul, Nat.reduceLeDiff, Nat.reduceLT, Int.reduceAdd, Int.reduceSub, Int.reduceMul, Int.reduceNeg, Int.reduceLT, Int.reduceLE, Int.reduceGT, Int.reduceGE, Int.reduceToNat, ↓reduceIte, and_self, true_and, and_true, Part.cells, J45_1_eq, J45_2_eq, J45_3_eq, J45_4_eq, ix, c_in]
  refine Ev.cdd (fun hc => Ev.done (by simp [Part.ok]; omega)) fun h1 => ?_
  simp (dsimp := false) (implicitDefEqProofs := false) (disch := omega) only [gv_some, gr_some, gI_int, gB_bool, gS_str, gc_t, gc_f, gi_t, gi_f, gN_eq, gf_t, Option.bind_some, Option.bind_none, Option.map_some, acells_agg, acells_int, acells_bool, acells_str, acells_ptr, acells_sl, acells_nilsl, acells_nilptr, acells_iface, acells_niliface, aptr_ptr, anil_ptr, aextract_0, aextract_1, aextract_2, alenS_sl, alenS_nil, apartOf_agg, apart_t, apart_f, astore_ptr, hset_at0, hset_at, List.set_cons_zero, List.set_cons_succ, set_app, set_app0, aload_ptr, splice_eq, List.drop_nil, List.append_nil, isCell_int, isCell_bool, isCell_str, isCell_ptr, isCell_sl, isCell_nilsl, isCell_nilptr, isCell_iface, isCell_niliface, List.all_cons, List.all_nil, Bool.and_self, hget_at0, hget_at, len_app, List.length_cons, List.length_nil, get_app, get_app0, List.getElem?_cons_zero, List.getElem?_cons_succ, join_some, List.append_assoc, List.cons_append, List.nil_append, Nat.zero_add, Nat.add_zero, chkRd_eq, chkAl_blk, if_true, if_false, Bool.false_eq_true, List.drop_succ_cons, List.drop_zero, List.take_succ_cons, List.take_zero, Bool.and_true, Bool.true_and, decide_true, decide_false, wrap64_id, aixG_eq, Nat.reduceAdd, Nat.reduceSub, Nat.reduceMul, Nat.reduceLeDiff, Nat.reduceLT, Int.reduceAdd, Int.reduceSub, Int.reduceMul, Int.reduceNeg, Int.reduceLT, Int.reduceLE, Int.reduceGT, Int.reduceGE, Int.reduceToNat, ↓reduceIte, and_self, true_and, and_true, Part.cells, J45_1_eq, J45_2_eq, J45_3_eq, J45_4_eq, ix, c_in]
  refine Ev.cdd (fun hc => Ev.done (by simp [Part.ok]; omega)) fun h2 => ?_
  simp (dsimp := false) (implicitDefEqProofs := false) (disch := omega) only [gv_some, gr_some, gI_int, gB_bool, gS_str, gc_t, gc_f, gi_t, gi_f, gN_eq, gf_t, Option.bind_some, Option.bind_none, Option.map_some, acells_agg, acells_int, acells_bool, acells_str, acells_ptr, acells_sl, acells_nilsl, acells_nilptr, acells_iface, acells_niliface, aptr_ptr, anil_ptr, aextract_0, aextract_1, aextract_2, alenS_sl, alenS_nil, apartOf_agg, apart_t, apart_f, astore_ptr, hset_at0, hset_at, List.set_cons_zero, List.set_cons_succ, set_app, set_app0, aload_ptr, splice_eq, List.drop_nil, List.append_nil, isCell_int, isCell_bool, isCell_str, isCell_ptr, isCell_sl, isCell_nilsl, isCell_nilptr, isCell_iface, isCell_niliface, List.all_cons, List.all_nil, Bool.and_self, hget_at0, hget_at, len_app, List.length_cons, List.length_nil, get_app, get_app0, List.getElem?_cons_zero, List.getElem?_cons_succ, join_some, List.append_assoc, List.cons_append, List.nil_append, Nat.zero_add, Nat.add_zero, chkRd_eq, chkAl_blk, if_true, if_false, Bool.false_eq_true, List.drop_succ_cons, List.drop_zero, List.take_succ_cons, List.take_zero, Bool.and_true, Bool.true_and, decide_true, decide_false, wrap64_id, aixG_eq, Nat.reduceAdd, Nat.reduceSub, Nat.reduceMul, Nat.reduceLeDiff, Nat.reduceLT, Int.reduceAdd, Int.reduceSub, Int.reduceMul, Int.reduceNeg, Int.reduceLT, Int.reduceLE, Int.reduceGT, Int.reduceGE, Int.reduceToNat, ↓reduceIte, and_self, true_and, and_true, Part.cells, J45_1_eq, J45_2_eq, J45_3_eq, J45_4_eq, ix, c_in]
  refine Ev.cdd (fun hc => Ev.done (by simp [Part.ok]; omega)) fun h3 => ?_
  simp (dsimp := false) (implicitDefEqProofs := false) (disch := omega) only [gv_some, gr_some, gI_int, gB_bool, gS_str, gc_t, gc_f, gi_t, gi_f, gN_eq, gf_t, Option.bind_some, Option.bind_none, Option.map_some, acells_agg, acells_int, acells_bool, acells_str, acells_ptr, acells_sl, acells_nilsl, acells_nilptr, acells_iface, acells_niliface, aptr_ptr, anil_ptr, aextract_0, aextract_1, aextract_2, alenS_sl, alenS_nil, apartOf_agg, apart_t, apart_f, astore_ptr, hset_at0, hset_at, List.set_cons_zero, List.set_cons_succ, set_app, set_app0, aload_ptr, splice_eq, List.drop_nil, List.append_nil, isCell_int, isCell_bool, isCell_str, isCell_ptr, isCell_sl, isCell_nilsl, isCell_nilptr, isCell_iface, isCell_niliface, List.all_cons, List.all_nil, Bool.and_self, hget_at0, hget_at, len_app, List.length_cons, List.length_nil, get_app, get_app0, List.getElem?_cons_zero, List.getElem?_cons_succ, join_some, List.append_assoc, List.cons_append, List.nil_append, Nat.zero_add, Nat.add_zero, chkRd_eq, chkAl_blk, if_true, if_false, Bool.false_eq_true, List.drop_succ_cons, List.drop_zero, List.take_succ_cons, List.take_zero, Bool.and_true, Bool.true_and, decide_true, decide_false, wrap64_id, aixG_eq, Nat.reduceAdd, Nat.reduceSub, Nat.reduceMul, Nat.reduceLeDiff, Nat.reduceLT, Int.reduceAdd, Int.reduceSub, Int.reduceMul, Int.reduceNeg, Int.reduceLT, Int.reduceLE, Int.reduceGT, Int.reduceGE, Int.reduceToNat, ↓reduceIte, and_self, true_and, and_true, Part.cells, J45_1_eq, J45_2_eq, J45_3_eq, J45_4_eq, ix, c_in]
  refine Ev.ite (fun h4 => ?_) fun h4 => Ev.done (by simp [Part.ok, h4])
  simp (dsimp := false) (implicitDefEqProofs := false) (disch := omega) only [gv_some, gr_some, gI_int, gB_bool, gS_str, gc_t, gc_f, gi_t, gi_f, gN_eq, gf_t, Option.bind_some, Option.bind_none, Option.map_some, acells_agg, acells_int, acells_bool, acells_str, acells_ptr, acells_sl, acells_nilsl, acells_nilptr, acells_iface, acells_niliface, aptr_ptr, anil_ptr, aextract_0, aextract_1, aextract_2, alenS_sl, alenS_nil, apartOf_agg, apart_t, apart_f, astore_ptr, hset_at0, hset_at, List.set_cons_zero, List.set_cons_succ, set_app, set_app0, aload_ptr, splice_eq, List.drop_nil, List.append_nil, isCell_int, isCell_bool, isCell_str, isCell_ptr, isCell_sl, isCell_nilsl, isCell_nilptr, isCell_iface, isCell_niliface, List.all_cons, List.all_nil, Bool.and_self, hget_at0, hget_at, len_app, List.length_cons, List.length_nil, get_app, get_app0, List.getElem?_cons_zero, List.getElem?_cons_succ, join_some, List.append_assoc, List.cons_append, List.nil_append, Nat.zero_add, Nat.add_zero, chkRd_eq, chkAl_blk, if_true, if_false, Bool.false_eq_true, List.drop_succ_cons, List.drop_zero, List.take_succ_cons, List.take_zero, Bool.and_true, Bool.true_and, decide_true, decide_false, wrap64_id, aixG_eq, Nat.reduceAdd, Nat.reduceSub, Nat.reduceMul, Nat.reduceLeDiff, Nat.reduceLT, Int.reduceAdd, Int.reduceSub, Int.reduceMul, Int.reduceNeg, Int.reduceLT, Int.reduceLE, Int.reduceGT, Int.reduceGE, Int.reduceToNat, ↓reduceIte, and_self, true_and, and_true, c_in]
  refine Ev.ite (fun h5 => ?_) fun h5 => Ev.done (by simp [Part.ok, h5])
  simp (dsimp := false) (implicitDefEqProofs := false) (disch := omega) only [gv_some, gr_some, gI_int, gB_bool, gS_str, gc_t, gc_f, gi_t, gi_f, gN_eq, gf_t, Option.bind_some, Option.bind_none, Option.map_some, acells_agg, acells_int, acells_bool, acells_str, acells_ptr, acells_sl, acells_nilsl, acells_nilptr, acells_iface, acells_niliface, aptr_ptr, anil_ptr, aextract_0, aextract_1, aextract_2, alenS_sl, alenS_nil, apartOf_agg, apart_t, apart_f, astore_ptr, hset_at0, hset_at, List.set_cons_zero, List.set_cons_succ, set_app, set_app0, aload_ptr, splice_eq, List.drop_nil, List.append_nil, isCell_int, isCell_bool, isCell_str, isCell_ptr, isCell_sl, isCell_nilsl, isCell_nilptr, isCell_iface, isCell_niliface, List.all_cons, List.all_nil, Bool.and_self, hget_at0, hget_at, len_app, List.length_cons, List.length_nil, get_app, get_app0, List.getElem?_cons_zero, List.getElem?_cons_succ, join_some, List.append_assoc, List.cons_append, List.nil_append, Nat.zero_add, Nat.add_zero, chkRd_eq, chkAl_blk, if_true, if_false, Bool.false_eq_true, List.drop_succ_cons, List.drop_zero, List.take_succ_cons, List.take_zero, Bool.and_true, Bool.true_and, decide_true, decide_false, wrap64_id, aixG_eq, Nat.reduceAdd, Nat.reduceSub, Nat.reduceMul, Nat.reduceLeDiff, Nat.reduceLT, Int.reduceAdd, Int.reduceSub, Int.reduceMul, Int.reduceNeg, Int.reduceLT, Int.reduceLE, Int.reduceGT, Int.reduceGE, Int.reduceToNat, ↓reduceIte, and_self, true_and, and_true, c_in]
  refine Ev.ite (fun h6 => ?_) fun h6 => Ev.done (by simp [Part.ok, h6])
  simp (dsimp := false) (implicitDefEqProofs := false) (disch := omega) only [gv_some, gr_some, gI_int, gB_bool, gS_str, gc_t, gc_f, gi_t, gi_f, gN_eq, gf_t, Option.bind_some, Option.bind_none, Option.map_some, acells_agg, acells_int, acells_bool, acells_str, acells_ptr, acells_sl, acells_nilsl, acells_nilptr, acells_iface, acells_niliface, aptr_ptr, anil_ptr, aextract_0, aextract_1, aextract_2, alenS_sl, alenS_nil, apartOf_agg, apart_t, apart_f, astore_ptr, hset_at0, hset_at, List.set_cons_zero, List.set_cons_succ, set_app, set_app0, aload_ptr, splice_eq, List.drop_nil, List.append_nil, isCell_int, isCell_bool, isCell_str, isCell_ptr, isCell_sl, isCell_nilsl, isCell_nilptr, isCell_iface, isCell_niliface, List.all_cons, List.all_nil, Bool.and_self, hget_at0, hget_at, len_app, List.length_cons, List.length_nil, get_app, get_app0, List.getElem?_cons_zero, List.getElem?_cons_succ, join_some, List.append_assoc, List.cons_append, List.nil_append, Nat.zero_add, Nat.add_zero, chkRd_eq, chkAl_blk, if_true, if_false, Bool.false_eq_true, List.drop_succ_cons, List.drop_zero, List.take_succ_cons, List.take_zero, Bool.and_true, Bool.true_and, decide_true, decide_false, wrap64_id, aixG_eq, Nat.reduceAdd, Nat.reduceSub, Nat.reduceMul, Nat.reduceLeDiff, Nat.reduceLT, Int.reduceAdd, Int.reduceSub, Int.reduceMul, Int.reduceNeg, Int.reduceLT, Int.reduceLE, Int.reduceGT, Int.reduceGE, Int.reduceToNat, ↓reduceIte, and_self, true_and, and_true, c_in]
  refine Ev.ite (fun h7 => ?_) fun h7 => Ev.done (by simp [Part.ok, h7])
  simp (dsimp := false) (implicitDefEqProofs := false) (disch := omega) only [gv_some, gr_some, gI_int, gB_bool, gS_str, gc_t, gc_f, gi_t, gi_f, gN_eq, gf_t, Option.bind_some, Option.bind_none, Option.map_some, acells_agg, acells_int, acells_bool, acells_str, acells_ptr, acells_sl, acells_nilsl, acells_nilptr, acells_iface, acells_niliface, aptr_ptr, anil_ptr, aextract_0, aextract_1, aextract_2, alenS_sl, alenS_nil, apartOf_agg, apart_t, apart_f, astore_ptr, hset_at0, hset_at, List.set_cons_zero, List.set_cons_succ, set_app, set_app0, aload_ptr, splice_eq, List.drop_nil, List.append_nil, isCell_int, isCell_bool, isCell_str, isCell_ptr, isCell_sl, isCell_nilsl, isCell_nilptr, isCell_iface, isCell_niliface, List.all_cons, List.all_nil, Bool.and_self, hget_at0, hget_at, len_app, List.length_cons, List.length_nil, get_app, get_app0, List.getElem?_cons_zero, List.getElem?_cons_succ, join_some, List.append_assoc, List.cons_append, List.nil_append, Nat.zero_add, Nat.add_zero, chkRd_eq, chkAl_blk, if_true, if_false, Bool.false_eq_true, List.drop_succ_cons, List.drop_zero, List.take_succ_cons, List.take_zero, Bool.and_true, Bool.true_and, decide_true, decide_false, wrap64_id, aixG_eq, Nat.reduceAdd, Nat.reduceSub, Nat.reduceMul, Nat.reduceLeDiff, Nat.reduceLT, Int.reduceAdd, Int.reduceSub, Int.reduceMul, Int.reduceNeg, Int.reduceLT, Int.reduceLE, Int.reduceGT, Int.reduceGE, Int.reduceToNat, ↓reduceIte, and_self, true_and, and_true, c_in]
  refine Ev.done ?_
  simp only [Part.ok, h4, h5, h6, h7]
  simp at h4 h5 h6 h7
  simp; omega

/-- A port. -/
structure Port where
  part : Int
  kind : Int
  out : Bool
  size : Int
  depth : Int
  fresh : Int
  deriving DecidableEq
def Port.cells (p : Port) : List AV := [.int .i64 p.part, .int .u8 p.kind, .bool p.out, .int .i64 p.size, .int .i64 p.depth, .int .i64 p.fresh]
def Port.ok (p : Port) (parts : Int) : Bool :=
  (decide (0 ≤ p.part) && decide (p.part ≤ parts - 1)) && (decide (0 ≤ p.size) && decide (p.size ≤ 16)) &&
  (if p.kind = 1 then p.depth == 0 && (decide (0 ≤ p.fresh) && decide (p.fresh ≤ 8)) && (!p.out || p.fresh == 0)
   else if p.kind = 2 then (decide (1 ≤ p.depth) && decide (p.depth ≤ 4)) && p.fresh == 0 else false)
theorem c_port (p : Port) (n : Nat) (h : AHeap) (hn : n ≤ 100000) : Ev (acall Try.prog Nt 46 [.agg p.cells, .int .i64 (n : Int)] h) h fun v _ => v = .bool (p.ok n) := by
  rw [E46]
  simp (dsimp := false) (implicitDefEqProofs := false) (disch := omega) only [gv_some, gr_some, gI_int, gB_bool, gS_str, gc_t, gc_f, gi_t, gi_f, gN_eq, gf_t, Option.bind_some, Option.bind_none, Option.map_some, acells_agg, acells_int, acells_bool, acells_str, acells_ptr, acells_sl, acells_nilsl, acells_nilptr, acells_iface, acells_niliface, aptr_ptr, anil_ptr, aextract_0, aextract_1, aextract_2, alenS_sl, alenS_nil, apartOf_agg, apart_t, apart_f, astore_ptr, hset_at0, hset_at, List.set_cons_zero, List.set_cons_succ, set_app, set_app0, aload_ptr, splice_eq, List.drop_nil, List.append_nil, isCell_int, isCell_bool, isCell_str, isCell_ptr, isCell_sl, isCell_nilsl, isCell_nilptr, isCell_iface, isCell_niliface, List.all_cons, List.all_nil, Bool.and_self, hget_at0, hget_at, len_app, List.length_cons, List.length_nil, get_app, get_app0, List.getElem?_cons_zero, List.getElem?_cons_succ, join_some, List.append_assoc, List.cons_append, List.nil_append, Nat.zero_add, Nat.add_zero, chkRd_eq, chkAl_blk, if_true, if_false, Bool.false_eq_true, List.drop_succ_cons, List.drop_zero, List.take_succ_cons, List.take_zero, Bool.and_true, Bool.true_and, decide_true, decide_false, wrap64_id, aixG_eq, Nat.reduceAdd, Nat.reduceSub, Nat.reduceMul, Nat.reduceLeDiff, Nat.reduceLT, Int.reduceAdd, Int.reduceSub, Int.reduceMul, Int.reduceNeg, Int.reduceLT, Int.reduceLE, Int.reduceGT, Int.reduceGE, Int.reduceToNat, ↓reduceIte, and_self, true_and, and_true, Port.cells, c_in]
  refine Ev.ite (fun h1 => ?_) fun h1 => ?_
  · simp only [Bool.not_eq_true'] at h1
    simp (dsimp := false) (implicitDefEqProofs := false) (disch := omega) only [gv_some, gr_some, gI_int, gB_bool, gS_str, gc_t, gc_f, gi_t, gi_f, gN_eq, gf_t, Option.bind_some, Option.bind_none, Option.map_some, acells_agg, acells_int, acells_bool, acells_str, acells_ptr, acells_sl, acells_nilsl, acells_nilptr, acells_iface, acells_niliface, aptr_ptr, anil_ptr, aextract_0, aextract_1, aextract_2, alenS_sl, alenS_nil, apartOf_agg, apart_t, apart_f, astore_ptr, hset_at0, hset_at, List.set_cons_zero, List.set_cons_succ, set_app, set_app0, aload_ptr, splice_eq, List.drop_nil, List.append_nil, isCell_int, isCell_bool, isCell_str, isCell_ptr, isCell_sl, isCell_nilsl, isCell_nilptr, isCell_iface, isCell_niliface, List.all_cons, List.all_nil, Bool.and_self, hget_at0, hget_at, len_app, List.length_cons, List.length_nil, get_app, get_app0, List.getElem?_cons_zero, List.getElem?_cons_succ, join_some, List.append_assoc, List.cons_append, List.nil_append, Nat.zero_add, Nat.add_zero, chkRd_eq, chkAl_blk, if_true, if_false, Bool.false_eq_true, List.drop_succ_cons, List.drop_zero, List.take_succ_cons, List.take_zero, Bool.and_true, Bool.true_and, decide_true, decide_false, wrap64_id, aixG_eq, Nat.reduceAdd, Nat.reduceSub, Nat.reduceMul, Nat.reduceLeDiff, Nat.reduceLT, Int.reduceAdd, Int.reduceSub, Int.reduceMul, Int.reduceNeg, Int.reduceLT, Int.reduceLE, Int.reduceGT, Int.reduceGE, Int.reduceToNat, ↓reduceIte, and_self, true_and, and_true, J46_1_eq]
    exact Ev.done (by simp [Port.ok, h1])
  simp only [Bool.not_eq_false'] at h1
  simp (dsimp := false) (implicitDefEqProofs := false) (disch := omega) only [gv_some, gr_some, gI_int, gB_bool, gS_str, gc_t, gc_f, gi_t, gi_f, gN_eq, gf_t, Option.bind_some, Option.bind_none, Option.map_some, acells_agg, acells_int, acells_bool, acells_str, acells_ptr, acells_sl, acells_nilsl, acells_nilptr, acells_iface, acells_niliface, aptr_ptr, anil_ptr, aextract_0, aextract_1, aextract_2, alenS_sl, alenS_nil, apartOf_agg, apart_t, apart_f, astore_ptr, hset_at0, hset_at, List.set_cons_zero, List.set_cons_succ, set_app, set_app0, aload_ptr, splice_eq, List.drop_nil, List.append_nil, isCell_int, isCell_bool, isCell_str, isCell_ptr, isCell_sl, isCell_nilsl, isCell_nilptr, isCell_iface, isCell_niliface, List.all_cons, List.all_nil, Bool.and_self, hget_at0, hget_at, len_app, List.length_cons, List.length_nil, get_app, get_app0, List.getElem?_cons_zero, List.getElem?_cons_succ, join_some, List.append_assoc, List.cons_append, List.nil_append, Nat.zero_add, Nat.add_zero, chkRd_eq, chkAl_blk, if_true, if_false, Bool.false_eq_true, List.drop_succ_cons, List.drop_zero, List.take_succ_cons, List.take_zero, Bool.and_true, Bool.true_and, decide_true, decide_false, wrap64_id, aixG_eq, Nat.reduceAdd, Nat.reduceSub, Nat.reduceMul, Nat.reduceLeDiff, Nat.reduceLT, Int.reduceAdd, Int.reduceSub, Int.reduceMul, Int.reduceNeg, Int.reduceLT, Int.reduceLE, Int.reduceGT, Int.reduceGE, Int.reduceToNat, ↓reduceIte, and_self, true_and, and_true, c_in]
  rw [J46_1_eq]
  refine Ev.cnd (fun h2 => ?_) fun h2 => ?_
  · simp only [Bool.not_eq_true'] at h2
    exact Ev.done (by simp [Port.ok, h2])
  simp only [Bool.not_eq_false'] at h2
  rw [J46_2_eq]
  simp (dsimp := false) (implicitDefEqProofs := false) (disch := omega) only [gv_some, gr_some, gI_int, gB_bool, gS_str, gc_t, gc_f, gi_t, gi_f, gN_eq, gf_t, Option.bind_some, Option.bind_none, Option.map_some, acells_agg, acells_int, acells_bool, acells_str, acells_ptr, acells_sl, acells_nilsl, acells_nilptr, acells_iface, acells_niliface, aptr_ptr, anil_ptr, aextract_0, aextract_1, aextract_2, alenS_sl, alenS_nil, apartOf_agg, apart_t, apart_f, astore_ptr, hset_at0, hset_at, List.set_cons_zero, List.set_cons_succ, set_app, set_app0, aload_ptr, splice_eq, List.drop_nil, List.append_nil, isCell_int, isCell_bool, isCell_str, isCell_ptr, isCell_sl, isCell_nilsl, isCell_nilptr, isCell_iface, isCell_niliface, List.all_cons, List.all_nil, Bool.and_self, hget_at0, hget_at, len_app, List.length_cons, List.length_nil, get_app, get_app0, List.getElem?_cons_zero, List.getElem?_cons_succ, join_some, List.append_assoc, List.cons_append, List.nil_append, Nat.zero_add, Nat.add_zero, chkRd_eq, chkAl_blk, if_true, if_false, Bool.false_eq_true, List.drop_succ_cons, List.drop_zero, List.take_succ_cons, List.take_zero, Bool.and_true, Bool.true_and, decide_true, decide_false, wrap64_id, aixG_eq, Nat.reduceAdd, Nat.reduceSub, Nat.reduceMul, Nat.reduceLeDiff, Nat.reduceLT, Int.reduceAdd, Int.reduceSub, Int.reduceMul, Int.reduceNeg, Int.reduceLT, Int.reduceLE, Int.reduceGT, Int.reduceGE, Int.reduceToNat, ↓reduceIte, and_self, true_and, and_true]
  refine Ev.cnd (fun h3 => ?_) fun h3 => ?_
  · simp only [beq_iff_eq] at h3
    simp (dsimp := false) (implicitDefEqProofs := false) (disch := omega) only [gv_some, gr_some, gI_int, gB_bool, gS_str, gc_t, gc_f, gi_t, gi_f, gN_eq, gf_t, Option.bind_some, Option.bind_none, Option.map_some, acells_agg, acells_int, acells_bool, acells_str, acells_ptr, acells_sl, acells_nilsl, acells_nilptr, acells_iface, acells_niliface, aptr_ptr, anil_ptr, aextract_0, aextract_1, aextract_2, alenS_sl, alenS_nil, apartOf_agg, apart_t, apart_f, astore_ptr, hset_at0, hset_at, List.set_cons_zero, List.set_cons_succ, set_app, set_app0, aload_ptr, splice_eq, List.drop_nil, List.append_nil, isCell_int, isCell_bool, isCell_str, isCell_ptr, isCell_sl, isCell_nilsl, isCell_nilptr, isCell_iface, isCell_niliface, List.all_cons, List.all_nil, Bool.and_self, hget_at0, hget_at, len_app, List.length_cons, List.length_nil, get_app, get_app0, List.getElem?_cons_zero, List.getElem?_cons_succ, join_some, List.append_assoc, List.cons_append, List.nil_append, Nat.zero_add, Nat.add_zero, chkRd_eq, chkAl_blk, if_true, if_false, Bool.false_eq_true, List.drop_succ_cons, List.drop_zero, List.take_succ_cons, List.take_zero, Bool.and_true, Bool.true_and, decide_true, decide_false, wrap64_id, aixG_eq, Nat.reduceAdd, Nat.reduceSub, Nat.reduceMul, Nat.reduceLeDiff, Nat.reduceLT, Int.reduceAdd, Int.reduceSub, Int.reduceMul, Int.reduceNeg, Int.reduceLT, Int.reduceLE, Int.reduceGT, Int.reduceGE, Int.reduceToNat, ↓reduceIte, and_self, true_and, and_true]
    refine Ev.ite (fun h4 => ?_) fun h4 => Ev.done (by simp [Port.ok, h1, h2, h3, h4])
    simp (dsimp := false) (implicitDefEqProofs := false) (disch := omega) only [gv_some, gr_some, gI_int, gB_bool, gS_str, gc_t, gc_f, gi_t, gi_f, gN_eq, gf_t, Option.bind_some, Option.bind_none, Option.map_some, acells_agg, acells_int, acells_bool, acells_str, acells_ptr, acells_sl, acells_nilsl, acells_nilptr, acells_iface, acells_niliface, aptr_ptr, anil_ptr, aextract_0, aextract_1, aextract_2, alenS_sl, alenS_nil, apartOf_agg, apart_t, apart_f, astore_ptr, hset_at0, hset_at, List.set_cons_zero, List.set_cons_succ, set_app, set_app0, aload_ptr, splice_eq, List.drop_nil, List.append_nil, isCell_int, isCell_bool, isCell_str, isCell_ptr, isCell_sl, isCell_nilsl, isCell_nilptr, isCell_iface, isCell_niliface, List.all_cons, List.all_nil, Bool.and_self, hget_at0, hget_at, len_app, List.length_cons, List.length_nil, get_app, get_app0, List.getElem?_cons_zero, List.getElem?_cons_succ, join_some, List.append_assoc, List.cons_append, List.nil_append, Nat.zero_add, Nat.add_zero, chkRd_eq, chkAl_blk, if_true, if_false, Bool.false_eq_true, List.drop_succ_cons, List.drop_zero, List.take_succ_cons, List.take_zero, Bool.and_true, Bool.true_and, decide_true, decide_false, wrap64_id, aixG_eq, Nat.reduceAdd, Nat.reduceSub, Nat.reduceMul, Nat.reduceLeDiff, Nat.reduceLT, Int.reduceAdd, Int.reduceSub, Int.reduceMul, Int.reduceNeg, Int.reduceLT, Int.reduceLE, Int.reduceGT, Int.reduceGE, Int.reduceToNat, ↓reduceIte, and_self, true_and, and_true, c_in]
    refine Ev.ite (fun h5 => ?_) fun h5 => Ev.done (by simp [Port.ok, h1, h2, h3, h5])
    simp (dsimp := false) (implicitDefEqProofs := false) (disch := omega) only [gv_some, gr_some, gI_int, gB_bool, gS_str, gc_t, gc_f, gi_t, gi_f, gN_eq, gf_t, Option.bind_some, Option.bind_none, Option.map_some, acells_agg, acells_int, acells_bool, acells_str, acells_ptr, acells_sl, acells_nilsl, acells_nilptr, acells_iface, acells_niliface, aptr_ptr, anil_ptr, aextract_0, aextract_1, aextract_2, alenS_sl, alenS_nil, apartOf_agg, apart_t, apart_f, astore_ptr, hset_at0, hset_at, List.set_cons_zero, List.set_cons_succ, set_app, set_app0, aload_ptr, splice_eq, List.drop_nil, List.append_nil, isCell_int, isCell_bool, isCell_str, isCell_ptr, isCell_sl, isCell_nilsl, isCell_nilptr, isCell_iface, isCell_niliface, List.all_cons, List.all_nil, Bool.and_self, hget_at0, hget_at, len_app, List.length_cons, List.length_nil, get_app, get_app0, List.getElem?_cons_zero, List.getElem?_cons_succ, join_some, List.append_assoc, List.cons_append, List.nil_append, Nat.zero_add, Nat.add_zero, chkRd_eq, chkAl_blk, if_true, if_false, Bool.false_eq_true, List.drop_succ_cons, List.drop_zero, List.take_succ_cons, List.take_zero, Bool.and_true, Bool.true_and, decide_true, decide_false, wrap64_id, aixG_eq, Nat.reduceAdd, Nat.reduceSub, Nat.reduceMul, Nat.reduceLeDiff, Nat.reduceLT, Int.reduceAdd, Int.reduceSub, Int.reduceMul, Int.reduceNeg, Int.reduceLT, Int.reduceLE, Int.reduceGT, Int.reduceGE, Int.reduceToNat, ↓reduceIte, and_self, true_and, and_true]
    refine Ev.ite (fun h6 => Ev.done (by simp [Port.ok, h1, h2, h3, h4, h5, h6])) fun h6 => ?_
    simp (dsimp := false) (implicitDefEqProofs := false) (disch := omega) only [gv_some, gr_some, gI_int, gB_bool, gS_str, gc_t, gc_f, gi_t, gi_f, gN_eq, gf_t, Option.bind_some, Option.bind_none, Option.map_some, acells_agg, acells_int, acells_bool, acells_str, acells_ptr, acells_sl, acells_nilsl, acells_nilptr, acells_iface, acells_niliface, aptr_ptr, anil_ptr, aextract_0, aextract_1, aextract_2, alenS_sl, alenS_nil, apartOf_agg, apart_t, apart_f, astore_ptr, hset_at0, hset_at, List.set_cons_zero, List.set_cons_succ, set_app, set_app0, aload_ptr, splice_eq, List.drop_nil, List.append_nil, isCell_int, isCell_bool, isCell_str, isCell_ptr, isCell_sl, isCell_nilsl, isCell_nilptr, isCell_iface, isCell_niliface, List.all_cons, List.all_nil, Bool.and_self, hget_at0, hget_at, len_app, List.length_cons, List.length_nil, get_app, get_app0, List.getElem?_cons_zero, List.getElem?_cons_succ, join_some, List.append_assoc, List.cons_append, List.nil_append, Nat.zero_add, Nat.add_zero, chkRd_eq, chkAl_blk, if_true, if_false, Bool.false_eq_true, List.drop_succ_cons, List.drop_zero, List.take_succ_cons, List.take_zero, Bool.and_true, Bool.true_and, decide_true, decide_false, wrap64_id, aixG_eq, Nat.reduceAdd, Nat.reduceSub, Nat.reduceMul, Nat.reduceLeDiff, Nat.reduceLT, Int.reduceAdd, Int.reduceSub, Int.reduceMul, Int.reduceNeg, Int.reduceLT, Int.reduceLE, Int.reduceGT, Int.reduceGE, Int.reduceToNat, ↓reduceIte, and_self, true_and, and_true]
    exact Ev.done (by simp only [Bool.not_eq_false'] at h6; simp [Port.ok, h1, h2, h3, h4, h5, h6])
  · simp only [beq_eq_false_iff_ne] at h3
    refine Ev.cnd (fun h4 => ?_) fun h4 => ?_
    · simp only [beq_iff_eq] at h4
      simp (dsimp := false) (implicitDefEqProofs := false) (disch := omega) only [gv_some, gr_some, gI_int, gB_bool, gS_str, gc_t, gc_f, gi_t, gi_f, gN_eq, gf_t, Option.bind_some, Option.bind_none, Option.map_some, acells_agg, acells_int, acells_bool, acells_str, acells_ptr, acells_sl, acells_nilsl, acells_nilptr, acells_iface, acells_niliface, aptr_ptr, anil_ptr, aextract_0, aextract_1, aextract_2, alenS_sl, alenS_nil, apartOf_agg, apart_t, apart_f, astore_ptr, hset_at0, hset_at, List.set_cons_zero, List.set_cons_succ, set_app, set_app0, aload_ptr, splice_eq, List.drop_nil, List.append_nil, isCell_int, isCell_bool, isCell_str, isCell_ptr, isCell_sl, isCell_nilsl, isCell_nilptr, isCell_iface, isCell_niliface, List.all_cons, List.all_nil, Bool.and_self, hget_at0, hget_at, len_app, List.length_cons, List.length_nil, get_app, get_app0, List.getElem?_cons_zero, List.getElem?_cons_succ, join_some, List.append_assoc, List.cons_append, List.nil_append, Nat.zero_add, Nat.add_zero, chkRd_eq, chkAl_blk, if_true, if_false, Bool.false_eq_true, List.drop_succ_cons, List.drop_zero, List.take_succ_cons, List.take_zero, Bool.and_true, Bool.true_and, decide_true, decide_false, wrap64_id, aixG_eq, Nat.reduceAdd, Nat.reduceSub, Nat.reduceMul, Nat.reduceLeDiff, Nat.reduceLT, Int.reduceAdd, Int.reduceSub, Int.reduceMul, Int.reduceNeg, Int.reduceLT, Int.reduceLE, Int.reduceGT, Int.reduceGE, Int.reduceToNat, ↓reduceIte, and_self, true_and, and_true, c_in]
      refine Ev.ite (fun h5 => ?_) fun h5 => Ev.done (by simp [Port.ok, h1, h2, h3, h4, h5])
      simp (dsimp := false) (implicitDefEqProofs := false) (disch := omega) only [gv_some, gr_some, gI_int, gB_bool, gS_str, gc_t, gc_f, gi_t, gi_f, gN_eq, gf_t, Option.bind_some, Option.bind_none, Option.map_some, acells_agg, acells_int, acells_bool, acells_str, acells_ptr, acells_sl, acells_nilsl, acells_nilptr, acells_iface, acells_niliface, aptr_ptr, anil_ptr, aextract_0, aextract_1, aextract_2, alenS_sl, alenS_nil, apartOf_agg, apart_t, apart_f, astore_ptr, hset_at0, hset_at, List.set_cons_zero, List.set_cons_succ, set_app, set_app0, aload_ptr, splice_eq, List.drop_nil, List.append_nil, isCell_int, isCell_bool, isCell_str, isCell_ptr, isCell_sl, isCell_nilsl, isCell_nilptr, isCell_iface, isCell_niliface, List.all_cons, List.all_nil, Bool.and_self, hget_at0, hget_at, len_app, List.length_cons, List.length_nil, get_app, get_app0, List.getElem?_cons_zero, List.getElem?_cons_succ, join_some, List.append_assoc, List.cons_append, List.nil_append, Nat.zero_add, Nat.add_zero, chkRd_eq, chkAl_blk, if_true, if_false, Bool.false_eq_true, List.drop_succ_cons, List.drop_zero, List.take_succ_cons, List.take_zero, Bool.and_true, Bool.true_and, decide_true, decide_false, wrap64_id, aixG_eq, Nat.reduceAdd, Nat.reduceSub, Nat.reduceMul, Nat.reduceLeDiff, Nat.reduceLT, Int.reduceAdd, Int.reduceSub, Int.reduceMul, Int.reduceNeg, Int.reduceLT, Int.reduceLE, Int.reduceGT, Int.reduceGE, Int.reduceToNat, ↓reduceIte, and_self, true_and, and_true]
      exact Ev.done (by simp [Port.ok, h1, h2, h3, h4, h5])
    · simp only [beq_eq_false_iff_ne] at h4
      rw [J46_3_eq]
      exact Ev.done (by simp [Port.ok, h1, h2, h3, h4])
/-- A route. -/
structure Route where
  src : Int
  dst : Int
  deriving DecidableEq
def Route.cells (r : Route) : List AV := [.int .i64 r.src, .int .i64 r.dst]
def Route.ok (r : Route) (ports : Int) : Bool := (decide (0 ≤ r.src) && decide (r.src ≤ ports - 1)) && (decide (0 ≤ r.dst) && decide (r.dst ≤ ports - 1))
theorem Part.len (p : Part) : p.cells.length = 9 := rfl
theorem Port.len (p : Port) : p.cells.length = 6 := rfl
theorem Route.len (r : Route) : r.cells.length = 2 := rfl
end Go.Ab
end
section
/-
  Functions of the program as equations: written by program (wip/tools/prt.py).
-/
namespace Go.Ab
open Go.Proofs
/-! 48: escapement/escapementref01.Number -/
noncomputable def K48 : Kont := kend Try.prog 25 Try.f48.results.toList
noncomputable def K48_1 (lp : Loop) (jn : Join) : Kont := kblock 0 none K48
noncomputable def J48_1' (lp : Loop) (jn : Join) (x0 : Int) (h : AHeap) : Res := jn (codeJ Try.prog Nt lp jn 25 (nat' [true, true] A48) (cat [true, true] C48)) (envOf [(0, (.int .i64 x0))]) h K48
noncomputable def J48_1 (x0 : Int) (h : AHeap) : Res := J48_1' aloop (fun s => s) x0 h
noncomputable def J48_2' (lp : Loop) (jn : Join) (x0 : Int) (h : AHeap) : Res := jn (codeJ Try.prog Nt lp jn 25 (nat' [true, true, true] A48) (cat [true, true, true] C48)) (envOf [(0, (.int .i64 x0))]) h K48
noncomputable def J48_2 (x0 : Int) (h : AHeap) : Res := J48_2' aloop (fun s => s) x0 h
noncomputable def J48_3' (lp : Loop) (jn : Join) (x0 : Int) (x3 : List UInt8) (h : AHeap) : Res := lp (some [0, 3]) (codeJ Try.prog Nt lp jn 25 (nat' [true, true, true, true, false, false] A48) (cat [true, true, true, true, false, false] C48)) (envOf [(0, (.int .i64 x0)), (3, (.str x3))]) h (K48_1 lp jn)
noncomputable def J48_3 (x0 : Int) (x3 : List UInt8) (h : AHeap) : Res := J48_3' aloop (fun s => s) x0 x3 h
theorem J48_1_g (lp : Loop) (jn : Join) (x0 : Int) (h : AHeap) : codeJ Try.prog Nt lp jn 25 (nat' [true, true] A48) (cat [true, true] C48) (envOf [(0, (.int .i64 x0))]) h K48 = (gc (decide (x0 < 0)) (gr (acall Try.prog Nt 48 [(.int .i64 (IntKind.i64.wrap (0 - x0)))] h) fun r1 h2 => gS r1 fun s3 => gv (astr .add [45] s3) fun v4 => gS v4 fun s5 => some ((.str s5), h2)) (J48_2' lp jn x0 h)) := by kernel_rfl
theorem J48_1_eq (x0 : Int) (h : AHeap) : J48_1 x0 h = (gc (decide (x0 < 0)) (gr (acall Try.prog Nt 48 [(.int .i64 (IntKind.i64.wrap (0 - x0)))] h) fun r1 h2 => gS r1 fun s3 => gv (astr .add [45] s3) fun v4 => gS v4 fun s5 => some ((.str s5), h2)) (J48_2 x0 h)) := J48_1_g aloop (fun s => s) x0 h
theorem J48_2_g (lp : Loop) (jn : Join) (x0 : Int) (h : AHeap) : codeJ Try.prog Nt lp jn 25 (nat' [true, true, true] A48) (cat [true, true, true] C48) (envOf [(0, (.int .i64 x0))]) h K48 = (J48_3' lp jn x0 [] h) := by kernel_rfl
theorem J48_2_eq (x0 : Int) (h : AHeap) : J48_2 x0 h = (J48_3 x0 [] h) := J48_2_g aloop (fun s => s) x0 h
theorem J48_3_g (lp : Loop) (jn : Join) (x0 : Int) (x3 : List UInt8) (h : AHeap) : codeJ Try.prog Nt lp jn 25 (nat' [true, true, true, true, false, false] A48) (cat [true, true, true, true, false, false] C48) (envOf [(0, (.int .i64 x0)), (3, (.str x3))]) h (kloop (lp (some [0, 3]) (codeJ Try.prog Nt lp jn 25 (nat' [true, true, true, true, false, false] A48) (cat [true, true, true, true, false, false] C48))) (some [0, 3]) (K48_1 lp jn)) = (gN h [(.int .u8 (IntKind.u8.wrap (IntKind.i64.wrap (48 + (x0.tmod 10)))))] fun b6 h7 => gv (astrOf (.sl b6 0 1 1) h7) fun v8 => gS v8 fun s9 => gv (astr .add s9 x3) fun v10 => gS v10 fun s11 => gc ((IntKind.i64.wrap (x0.tdiv 10)) == 0) (some ((.str s11), h7)) (J48_3' lp jn (IntKind.i64.wrap (x0.tdiv 10)) s11 h7)) := by kernel_rfl
theorem J48_3_eq (x0 : Int) (x3 : List UInt8) (h : AHeap) : J48_3 x0 x3 h = (gN h [(.int .u8 (IntKind.u8.wrap (IntKind.i64.wrap (48 + (x0.tmod 10)))))] fun b6 h7 => gv (astrOf (.sl b6 0 1 1) h7) fun v8 => gS v8 fun s9 => gv (astr .add s9 x3) fun v10 => gS v10 fun s11 => gc ((IntKind.i64.wrap (x0.tdiv 10)) == 0) (some ((.str s11), h7)) (J48_3 (IntKind.i64.wrap (x0.tdiv 10)) s11 h7)) := (aloop_at (some [0, 3]) (nat' [true, true, true, true, false, false] A48) (cat [true, true, true, true, false, false] C48) (envOf [(0, (.int .i64 x0)), (3, (.str x3))]) h (K48_1 aloop (fun s => s))).trans (J48_3_g aloop (fun s => s) x0 x3 h)
theorem E48_g (lp : Loop) (jn : Join) (x0 : Int) (h : AHeap) : codeJ Try.prog Nt lp jn 25 (Nt 48) C48 (args [(.int .i64 x0)]) h K48 = (gc (x0 == (-9223372036854775808)) (some ((.str [45, 57, 50, 50, 51, 51, 55, 50, 48, 51, 54, 56, 53, 52, 55, 55, 53, 56, 48, 56]), h)) (J48_1' lp jn x0 h)) := by kernel_rfl
theorem E48 (x0 : Int) (h : AHeap) : acall Try.prog Nt 48 [(.int .i64 x0)] h = (gc (x0 == (-9223372036854775808)) (some ((.str [45, 57, 50, 50, 51, 51, 55, 50, 48, 51, 54, 56, 53, 52, 55, 55, 53, 56, 48, 56]), h)) (J48_1 x0 h)) := (acall_at Try.func48 _ h 25 rfl (c := C48) rfl).trans (E48_g aloop (fun s => s) x0 h)
end Go.Ab
end
section
/-
  Number: the decimal text of a number, as a function; and the contract of escapementref01.Number.
-/
namespace Go.Ab
open Go.Proofs

/-- The digits of a number, ahead of a text. -/
def digs : Nat → Nat → List UInt8 → List UInt8
  | 0, _, s => s
  | k + 1, n, s => if n / 10 = 0 then UInt8.ofNat (48 + n % 10) :: s else digs k (n / 10) (UInt8.ofNat (48 + n % 10) :: s)
def num (n : Int) : List UInt8 := if n < 0 then 45 :: digs 20 n.natAbs [] else digs 20 n.natAbs []
theorem digs_len : ∀ (k n : Nat) (s : List UInt8), (digs k n s).length ≤ k + s.length
  | 0, n, s => by simp [digs]
  | k + 1, n, s => by
    unfold digs
    split
    · simp only [List.length_cons]; omega
    · have := digs_len k (n / 10) (UInt8.ofNat (48 + n % 10) :: s)
      simp only [List.length_cons] at this
      omega
theorem num_len (n : Int) : (num n).length ≤ 21 := by
  unfold num
  split
  · have := digs_len 20 n.natAbs []
    simp at this ⊢; omega
  · have := digs_len 20 n.natAbs []
    simp at this ⊢; omega
theorem byte1 (d : Nat) (hd : d < 10) (h : AHeap) : astrOf (.sl h.length 0 1 1) (h ++ [some (.cells false [.int .u8 (IntKind.u8.wrap (48 + (d : Int)))])]) = some (.str [UInt8.ofNat (48 + d)]) := by
  have h1 : IntKind.u8.wrap (48 + (d : Int)) = ((48 + d : Nat) : Int) := by
    rw [wrapu8_id (by omega) (by omega)]; simp
  simp only [astrOf, asrc, hget_at0, h1]
  rfl
theorem numLoop : ∀ (k n : Nat) (s : List UInt8) (h : AHeap), n < 10 ^ (k + 1) → n < 9223372036854775808 → s.length + k ≤ 1000 →
    Ev (J48_3 (n : Int) s h) h fun v _ => v = .str (digs (k + 1) n s) := by
  intro k
  induction k with
  | zero =>
    intro n s h hn hb hs
    rw [J48_3_eq]
    have hm : (n : Int).tmod 10 = ((n % 10 : Nat) : Int) := by rw [Int.tmod_eq_emod_of_nonneg (by omega)]; rfl
    have hd : IntKind.i64.wrap ((n : Int).tdiv 10) = 0 := by
      rw [Int.tdiv_eq_ediv_of_nonneg (by omega), wrap64_id (by omega) (by omega)]; omega
    simp (dsimp := false) (implicitDefEqProofs := false) (disch := omega) only [gv_some, gr_some, gI_int, gB_bool, gS_str, gc_t, gc_f, gi_t, gi_f, gN_eq, gf_t, Option.bind_some, Option.bind_none, Option.map_some, acells_agg, acells_int, acells_bool, acells_str, acells_ptr, acells_sl, acells_nilsl, acells_nilptr, acells_iface, acells_niliface, aptr_ptr, anil_ptr, aextract_0, aextract_1, aextract_2, alenS_sl, alenS_nil, apartOf_agg, apart_t, apart_f, astore_ptr, hset_at0, hset_at, List.set_cons_zero, List.set_cons_succ, set_app, set_app0, aload_ptr, splice_eq, List.drop_nil, List.append_nil, isCell_int, isCell_bool, isCell_str, isCell_ptr, isCell_sl, isCell_nilsl, isCell_nilptr, isCell_iface, isCell_niliface, List.all_cons, List.all_nil, Bool.and_self, hget_at0, hget_at, len_app, List.length_cons, List.length_nil, get_app, get_app0, List.getElem?_cons_zero, List.getElem?_cons_succ, join_some, List.append_assoc, List.cons_append, List.nil_append, Nat.zero_add, Nat.add_zero, chkRd_eq, chkAl_blk, if_true, if_false, Bool.false_eq_true, List.drop_succ_cons, List.drop_zero, List.take_succ_cons, List.take_zero, Bool.and_true, Bool.true_and, decide_true, decide_false, wrap64_id, aixG_eq, Nat.reduceAdd, Nat.reduceSub, Nat.reduceMul, Nat.reduceLeDiff, Nat.reduceLT, Int.reduceAdd, Int.reduceSub, Int.reduceMul, Int.reduceNeg, Int.reduceLT, Int.reduceLE, Int.reduceGT, Int.reduceGE, Int.reduceToNat, ↓reduceIte, and_self, true_and, and_true, hm, hd, byte1 _ (Nat.mod_lt n (by omega : 0 < 10)) h]
    rw [astr_add (by simp only [List.length_cons, List.length_nil]; omega)]
    simp (dsimp := false) (implicitDefEqProofs := false) (disch := omega) only [gv_some, gr_some, gI_int, gB_bool, gS_str, gc_t, gc_f, gi_t, gi_f, gN_eq, gf_t, Option.bind_some, Option.bind_none, Option.map_some, acells_agg, acells_int, acells_bool, acells_str, acells_ptr, acells_sl, acells_nilsl, acells_nilptr, acells_iface, acells_niliface, aptr_ptr, anil_ptr, aextract_0, aextract_1, aextract_2, alenS_sl, alenS_nil, apartOf_agg, apart_t, apart_f, astore_ptr, hset_at0, hset_at, List.set_cons_zero, List.set_cons_succ, set_app, set_app0, aload_ptr, splice_eq, List.drop_nil, List.append_nil, isCell_int, isCell_bool, isCell_str, isCell_ptr, isCell_sl, isCell_nilsl, isCell_nilptr, isCell_iface, isCell_niliface, List.all_cons, List.all_nil, Bool.and_self, hget_at0, hget_at, len_app, List.length_cons, List.length_nil, get_app, get_app0, List.getElem?_cons_zero, List.getElem?_cons_succ, join_some, List.append_assoc, List.cons_append, List.nil_append, Nat.zero_add, Nat.add_zero, chkRd_eq, chkAl_blk, if_true, if_false, Bool.false_eq_true, List.drop_succ_cons, List.drop_zero, List.take_succ_cons, List.take_zero, Bool.and_true, Bool.true_and, decide_true, decide_false, wrap64_id, aixG_eq, Nat.reduceAdd, Nat.reduceSub, Nat.reduceMul, Nat.reduceLeDiff, Nat.reduceLT, Int.reduceAdd, Int.reduceSub, Int.reduceMul, Int.reduceNeg, Int.reduceLT, Int.reduceLE, Int.reduceGT, Int.reduceGE, Int.reduceToNat, ↓reduceIte, and_self, true_and, and_true, hd, beq_self_eq_true]
    exact Ev.done (by simp [digs, show n / 10 = 0 by omega])
  | succ k ih =>
    intro n s h hn hb hs
    rw [J48_3_eq]
    have hm : (n : Int).tmod 10 = ((n % 10 : Nat) : Int) := by rw [Int.tmod_eq_emod_of_nonneg (by omega)]; rfl
    have hd : IntKind.i64.wrap ((n : Int).tdiv 10) = ((n / 10 : Nat) : Int) := by
      rw [Int.tdiv_eq_ediv_of_nonneg (by omega), wrap64_id (by omega) (by omega)]; rfl
    simp (dsimp := false) (implicitDefEqProofs := false) (disch := omega) only [gv_some, gr_some, gI_int, gB_bool, gS_str, gc_t, gc_f, gi_t, gi_f, gN_eq, gf_t, Option.bind_some, Option.bind_none, Option.map_some, acells_agg, acells_int, acells_bool, acells_str, acells_ptr, acells_sl, acells_nilsl, acells_nilptr, acells_iface, acells_niliface, aptr_ptr, anil_ptr, aextract_0, aextract_1, aextract_2, alenS_sl, alenS_nil, apartOf_agg, apart_t, apart_f, astore_ptr, hset_at0, hset_at, List.set_cons_zero, List.set_cons_succ, set_app, set_app0, aload_ptr, splice_eq, List.drop_nil, List.append_nil, isCell_int, isCell_bool, isCell_str, isCell_ptr, isCell_sl, isCell_nilsl, isCell_nilptr, isCell_iface, isCell_niliface, List.all_cons, List.all_nil, Bool.and_self, hget_at0, hget_at, len_app, List.length_cons, List.length_nil, get_app, get_app0, List.getElem?_cons_zero, List.getElem?_cons_succ, join_some, List.append_assoc, List.cons_append, List.nil_append, Nat.zero_add, Nat.add_zero, chkRd_eq, chkAl_blk, if_true, if_false, Bool.false_eq_true, List.drop_succ_cons, List.drop_zero, List.take_succ_cons, List.take_zero, Bool.and_true, Bool.true_and, decide_true, decide_false, wrap64_id, aixG_eq, Nat.reduceAdd, Nat.reduceSub, Nat.reduceMul, Nat.reduceLeDiff, Nat.reduceLT, Int.reduceAdd, Int.reduceSub, Int.reduceMul, Int.reduceNeg, Int.reduceLT, Int.reduceLE, Int.reduceGT, Int.reduceGE, Int.reduceToNat, ↓reduceIte, and_self, true_and, and_true, hm, hd, byte1 _ (Nat.mod_lt n (by omega : 0 < 10)) h]
    rw [astr_add (by simp only [List.length_cons, List.length_nil]; omega)]
    simp (dsimp := false) (implicitDefEqProofs := false) (disch := omega) only [gv_some, gr_some, gI_int, gB_bool, gS_str, gc_t, gc_f, gi_t, gi_f, gN_eq, gf_t, Option.bind_some, Option.bind_none, Option.map_some, acells_agg, acells_int, acells_bool, acells_str, acells_ptr, acells_sl, acells_nilsl, acells_nilptr, acells_iface, acells_niliface, aptr_ptr, anil_ptr, aextract_0, aextract_1, aextract_2, alenS_sl, alenS_nil, apartOf_agg, apart_t, apart_f, astore_ptr, hset_at0, hset_at, List.set_cons_zero, List.set_cons_succ, set_app, set_app0, aload_ptr, splice_eq, List.drop_nil, List.append_nil, isCell_int, isCell_bool, isCell_str, isCell_ptr, isCell_sl, isCell_nilsl, isCell_nilptr, isCell_iface, isCell_niliface, List.all_cons, List.all_nil, Bool.and_self, hget_at0, hget_at, len_app, List.length_cons, List.length_nil, get_app, get_app0, List.getElem?_cons_zero, List.getElem?_cons_succ, join_some, List.append_assoc, List.cons_append, List.nil_append, Nat.zero_add, Nat.add_zero, chkRd_eq, chkAl_blk, if_true, if_false, Bool.false_eq_true, List.drop_succ_cons, List.drop_zero, List.take_succ_cons, List.take_zero, Bool.and_true, Bool.true_and, decide_true, decide_false, wrap64_id, aixG_eq, Nat.reduceAdd, Nat.reduceSub, Nat.reduceMul, Nat.reduceLeDiff, Nat.reduceLT, Int.reduceAdd, Int.reduceSub, Int.reduceMul, Int.reduceNeg, Int.reduceLT, Int.reduceLE, Int.reduceGT, Int.reduceGE, Int.reduceToNat, ↓reduceIte, and_self, true_and, and_true, hd]
    unfold digs
    by_cases h0 : n / 10 = 0
    · simp only [h0, if_true]
      exact Ev.done (by simp)
    · have : ((((n / 10 : Nat) : Int)) == 0) = false := by simp; omega
      rw [this, if_neg h0]
      simp (dsimp := false) (implicitDefEqProofs := false) (disch := omega) only [gv_some, gr_some, gI_int, gB_bool, gS_str, gc_t, gc_f, gi_t, gi_f, gN_eq, gf_t, Option.bind_some, Option.bind_none, Option.map_some, acells_agg, acells_int, acells_bool, acells_str, acells_ptr, acells_sl, acells_nilsl, acells_nilptr, acells_iface, acells_niliface, aptr_ptr, anil_ptr, aextract_0, aextract_1, aextract_2, alenS_sl, alenS_nil, apartOf_agg, apart_t, apart_f, astore_ptr, hset_at0, hset_at, List.set_cons_zero, List.set_cons_succ, set_app, set_app0, aload_ptr, splice_eq, List.drop_nil, List.append_nil, isCell_int, isCell_bool, isCell_str, isCell_ptr, isCell_sl, isCell_nilsl, isCell_nilptr, isCell_iface, isCell_niliface, List.all_cons, List.all_nil, Bool.and_self, hget_at0, hget_at, len_app, List.length_cons, List.length_nil, get_app, get_app0, List.getElem?_cons_zero, List.getElem?_cons_succ, join_some, List.append_assoc, List.cons_append, List.nil_append, Nat.zero_add, Nat.add_zero, chkRd_eq, chkAl_blk, if_true, if_false, Bool.false_eq_true, List.drop_succ_cons, List.drop_zero, List.take_succ_cons, List.take_zero, Bool.and_true, Bool.true_and, decide_true, decide_false, wrap64_id, aixG_eq, Nat.reduceAdd, Nat.reduceSub, Nat.reduceMul, Nat.reduceLeDiff, Nat.reduceLT, Int.reduceAdd, Int.reduceSub, Int.reduceMul, Int.reduceNeg, Int.reduceLT, Int.reduceLE, Int.reduceGT, Int.reduceGE, Int.reduceToNat, ↓reduceIte, and_self, true_and, and_true, hd]
      refine Ev.base (ih (n / 10) _ _ (by rw [Nat.pow_succ] at hn; omega) (by omega) ?_)
      simp only [List.length_cons]; omega
theorem digs_more : ∀ (k j n : Nat) (s : List UInt8), n < 10 ^ (k + 1) → k ≤ j → digs (k + 1) n s = digs (j + 1) n s
  | k, j, n, s, hn, hj => by
    unfold digs
    by_cases h0 : n / 10 = 0
    · rw [if_pos h0, if_pos h0]
    · rw [if_neg h0, if_neg h0]
      obtain ⟨i, rfl⟩ : ∃ i, k = i + 1 := by
        cases k with
        | zero => simp at hn; omega
        | succ i => exact ⟨i, rfl⟩
      obtain ⟨m, rfl⟩ : ∃ m, j = m + 1 := ⟨j - 1, by omega⟩
      exact digs_more i m (n / 10) _ (by rw [Nat.pow_succ] at hn; omega) (by omega)
/-- Number answers the text of a number. -/
theorem c_number (n : Int) (h : AHeap) (h1 : -9223372036854775808 ≤ n) (h2 : n ≤ 9223372036854775807) : Ev (acall Try.prog Nt 48 [.int .i64 n] h) h fun v _ => v = .str (num n) := by
  have nonneg : ∀ (m : Nat) (h : AHeap), m < 9223372036854775808 → Ev (acall Try.prog Nt 48 [.int .i64 (m : Int)] h) h fun v _ => v = .str (digs 20 m []) := by
    intro m h hm
    rw [E48, J48_1_eq, J48_2_eq]
    have e1 : ((m : Int) == -9223372036854775808) = false := by simp
    have e2 : decide ((m : Int) < 0) = false := by simp
    rw [e1, e2]
    exact numLoop 19 m [] h (by omega) hm (by simp)
  by_cases h0 : n = -9223372036854775808
  · subst h0
    rw [E48]
    exact Ev.here rfl
  · by_cases hn : n < 0
    · rw [E48, J48_1_eq]
      have e1 : (n == -9223372036854775808) = false := by simpa using h0
      have e2 : decide (n < 0) = true := by simpa using hn
      have e3 : IntKind.i64.wrap (0 - n) = (n.natAbs : Int) := by rw [wrap64_id (by omega) (by omega)]; omega
      rw [e1, e2, e3]
      simp (dsimp := false) (implicitDefEqProofs := false) (disch := omega) only [gv_some, gr_some, gI_int, gB_bool, gS_str, gc_t, gc_f, gi_t, gi_f, gN_eq, gf_t, Option.bind_some, Option.bind_none, Option.map_some, acells_agg, acells_int, acells_bool, acells_str, acells_ptr, acells_sl, acells_nilsl, acells_nilptr, acells_iface, acells_niliface, aptr_ptr, anil_ptr, aextract_0, aextract_1, aextract_2, alenS_sl, alenS_nil, apartOf_agg, apart_t, apart_f, astore_ptr, hset_at0, hset_at, List.set_cons_zero, List.set_cons_succ, set_app, set_app0, aload_ptr, splice_eq, List.drop_nil, List.append_nil, isCell_int, isCell_bool, isCell_str, isCell_ptr, isCell_sl, isCell_nilsl, isCell_nilptr, isCell_iface, isCell_niliface, List.all_cons, List.all_nil, Bool.and_self, hget_at0, hget_at, len_app, List.length_cons, List.length_nil, get_app, get_app0, List.getElem?_cons_zero, List.getElem?_cons_succ, join_some, List.append_assoc, List.cons_append, List.nil_append, Nat.zero_add, Nat.add_zero, chkRd_eq, chkAl_blk, if_true, if_false, Bool.false_eq_true, List.drop_succ_cons, List.drop_zero, List.take_succ_cons, List.take_zero, Bool.and_true, Bool.true_and, decide_true, decide_false, wrap64_id, aixG_eq, Nat.reduceAdd, Nat.reduceSub, Nat.reduceMul, Nat.reduceLeDiff, Nat.reduceLT, Int.reduceAdd, Int.reduceSub, Int.reduceMul, Int.reduceNeg, Int.reduceLT, Int.reduceLE, Int.reduceGT, Int.reduceGE, Int.reduceToNat, ↓reduceIte, and_self, true_and, and_true]
      refine Ev.call (nonneg n.natAbs h (by omega)) fun v g hv => ?_
      subst hv
      have := digs_len 20 n.natAbs []
      simp (dsimp := false) (implicitDefEqProofs := false) (disch := omega) only [gv_some, gr_some, gI_int, gB_bool, gS_str, gc_t, gc_f, gi_t, gi_f, gN_eq, gf_t, Option.bind_some, Option.bind_none, Option.map_some, acells_agg, acells_int, acells_bool, acells_str, acells_ptr, acells_sl, acells_nilsl, acells_nilptr, acells_iface, acells_niliface, aptr_ptr, anil_ptr, aextract_0, aextract_1, aextract_2, alenS_sl, alenS_nil, apartOf_agg, apart_t, apart_f, astore_ptr, hset_at0, hset_at, List.set_cons_zero, List.set_cons_succ, set_app, set_app0, aload_ptr, splice_eq, List.drop_nil, List.append_nil, isCell_int, isCell_bool, isCell_str, isCell_ptr, isCell_sl, isCell_nilsl, isCell_nilptr, isCell_iface, isCell_niliface, List.all_cons, List.all_nil, Bool.and_self, hget_at0, hget_at, len_app, List.length_cons, List.length_nil, get_app, get_app0, List.getElem?_cons_zero, List.getElem?_cons_succ, join_some, List.append_assoc, List.cons_append, List.nil_append, Nat.zero_add, Nat.add_zero, chkRd_eq, chkAl_blk, if_true, if_false, Bool.false_eq_true, List.drop_succ_cons, List.drop_zero, List.take_succ_cons, List.take_zero, Bool.and_true, Bool.true_and, decide_true, decide_false, wrap64_id, aixG_eq, Nat.reduceAdd, Nat.reduceSub, Nat.reduceMul, Nat.reduceLeDiff, Nat.reduceLT, Int.reduceAdd, Int.reduceSub, Int.reduceMul, Int.reduceNeg, Int.reduceLT, Int.reduceLE, Int.reduceGT, Int.reduceGE, Int.reduceToNat, ↓reduceIte, and_self, true_and, and_true]
      rw [astr_add (by simp at this ⊢; omega)]
      simp (dsimp := false) (implicitDefEqProofs := false) (disch := omega) only [gv_some, gr_some, gI_int, gB_bool, gS_str, gc_t, gc_f, gi_t, gi_f, gN_eq, gf_t, Option.bind_some, Option.bind_none, Option.map_some, acells_agg, acells_int, acells_bool, acells_str, acells_ptr, acells_sl, acells_nilsl, acells_nilptr, acells_iface, acells_niliface, aptr_ptr, anil_ptr, aextract_0, aextract_1, aextract_2, alenS_sl, alenS_nil, apartOf_agg, apart_t, apart_f, astore_ptr, hset_at0, hset_at, List.set_cons_zero, List.set_cons_succ, set_app, set_app0, aload_ptr, splice_eq, List.drop_nil, List.append_nil, isCell_int, isCell_bool, isCell_str, isCell_ptr, isCell_sl, isCell_nilsl, isCell_nilptr, isCell_iface, isCell_niliface, List.all_cons, List.all_nil, Bool.and_self, hget_at0, hget_at, len_app, List.length_cons, List.length_nil, get_app, get_app0, List.getElem?_cons_zero, List.getElem?_cons_succ, join_some, List.append_assoc, List.cons_append, List.nil_append, Nat.zero_add, Nat.add_zero, chkRd_eq, chkAl_blk, if_true, if_false, Bool.false_eq_true, List.drop_succ_cons, List.drop_zero, List.take_succ_cons, List.take_zero, Bool.and_true, Bool.true_and, decide_true, decide_false, wrap64_id, aixG_eq, Nat.reduceAdd, Nat.reduceSub, Nat.reduceMul, Nat.reduceLeDiff, Nat.reduceLT, Int.reduceAdd, Int.reduceSub, Int.reduceMul, Int.reduceNeg, Int.reduceLT, Int.reduceLE, Int.reduceGT, Int.reduceGE, Int.reduceToNat, ↓reduceIte, and_self, true_and, and_true]
      exact Ev.done (by unfold num; rw [if_pos hn])
    · have := nonneg n.natAbs h (by omega)
      have e3 : (n.natAbs : Int) = n := by omega
      rw [e3] at this
      exact this.mono fun v g hv => by rw [hv]; unfold num; rw [if_neg hn]
end Go.Ab
end
section
/-
  Functions of the program as equations: written by program (wip/tools/prt.py).
-/
namespace Go.Ab
open Go.Proofs
/-! 28: escapement/escapementref01.E -/
noncomputable def K28 : Kont := kend Try.prog 5 Try.f28.results.toList
theorem E28_g (lp : Loop) (jn : Join) (x0 : Int) (h : AHeap) : codeJ Try.prog Nt lp jn 5 (Nt 28) C28 (args [(.int .i64 x0)]) h K28 = (gr (acall Try.prog Nt 48 [(.int .i64 x0)] h) fun r1 h2 => gS r1 fun s3 => some ((.str s3), h2)) := by kernel_rfl
theorem E28 (x0 : Int) (h : AHeap) : acall Try.prog Nt 28 [(.int .i64 x0)] h = (gr (acall Try.prog Nt 48 [(.int .i64 x0)] h) fun r1 h2 => gS r1 fun s3 => some ((.str s3), h2)) := (acall_at Try.func28 _ h 5 rfl (c := C28) rfl).trans (E28_g aloop (fun s => s) x0 h)
end Go.Ab
end
section
/-
  Functions of the program as equations: written by program (wip/tools/prt.py).
-/
namespace Go.Ab
open Go.Proofs
/-! 29: escapement/escapementref01.At -/
noncomputable def K29 : Kont := kend Try.prog 13 Try.f29.results.toList
noncomputable def J29_1' (lp : Loop) (jn : Join) (x0 : Int) (x1 : Int) (h : AHeap) : Res := jn (codeJ Try.prog Nt lp jn 13 (nat' [true, true] A29) (cat [true, true] C29)) (envOf [(0, (.int .i64 x0)), (1, (.int .i64 x1))]) h K29
noncomputable def J29_1 (x0 : Int) (x1 : Int) (h : AHeap) : Res := J29_1' aloop (fun s => s) x0 x1 h
theorem J29_1_g (lp : Loop) (jn : Join) (x0 : Int) (x1 : Int) (h : AHeap) : codeJ Try.prog Nt lp jn 13 (nat' [true, true] A29) (cat [true, true] C29) (envOf [(0, (.int .i64 x0)), (1, (.int .i64 x1))]) h K29 = (gr (acall Try.prog Nt 48 [(.int .i64 x0)] h) fun r1 h2 => gS r1 fun s3 => gv (astr .add s3 [64]) fun v4 => gS v4 fun s5 => gr (acall Try.prog Nt 48 [(.int .i64 x1)] h2) fun r6 h7 => gS r6 fun s8 => gv (astr .add s5 s8) fun v9 => gS v9 fun s10 => some ((.str s10), h7)) := by kernel_rfl
theorem J29_1_eq (x0 : Int) (x1 : Int) (h : AHeap) : J29_1 x0 x1 h = (gr (acall Try.prog Nt 48 [(.int .i64 x0)] h) fun r1 h2 => gS r1 fun s3 => gv (astr .add s3 [64]) fun v4 => gS v4 fun s5 => gr (acall Try.prog Nt 48 [(.int .i64 x1)] h2) fun r6 h7 => gS r6 fun s8 => gv (astr .add s5 s8) fun v9 => gS v9 fun s10 => some ((.str s10), h7)) := J29_1_g aloop (fun s => s) x0 x1 h
theorem E29_g (lp : Loop) (jn : Join) (x0 : Int) (x1 : Int) (h : AHeap) : codeJ Try.prog Nt lp jn 13 (Nt 29) C29 (args [(.int .i64 x0), (.int .i64 x1)]) h K29 = (gc (decide (x1 < 0)) (J29_1' lp jn x0 (-1) h) (J29_1' lp jn x0 x1 h)) := by kernel_rfl
theorem E29 (x0 : Int) (x1 : Int) (h : AHeap) : acall Try.prog Nt 29 [(.int .i64 x0), (.int .i64 x1)] h = (gc (decide (x1 < 0)) (J29_1 x0 (-1) h) (J29_1 x0 x1 h)) := (acall_at Try.func29 _ h 13 rfl (c := C29) rfl).trans (E29_g aloop (fun s => s) x0 x1 h)
end Go.Ab
end
section
/-
  Functions of the program as equations: written by program (wip/tools/prt.py).
-/
namespace Go.Ab
open Go.Proofs
/-! 41: escapement/escapementref01.Over -/
noncomputable def K41 : Kont := kend Try.prog 15 Try.f41.results.toList
noncomputable def J41_1' (lp : Loop) (jn : Join) (x0 : Int) (x1 : Int) (x2 : List UInt8) (h : AHeap) : Res := jn (codeJ Try.prog Nt lp jn 15 (nat' [true, true] A41) (cat [true, true] C41)) (envOf [(0, (.int .i64 x0)), (1, (.int .i64 x1)), (2, (.str x2))]) h K41
noncomputable def J41_1 (x0 : Int) (x1 : Int) (x2 : List UInt8) (h : AHeap) : Res := J41_1' aloop (fun s => s) x0 x1 x2 h
theorem J41_1_g (lp : Loop) (jn : Join) (x0 : Int) (x1 : Int) (x2 : List UInt8) (h : AHeap) : codeJ Try.prog Nt lp jn 15 (nat' [true, true] A41) (cat [true, true] C41) (envOf [(0, (.int .i64 x0)), (1, (.int .i64 x1)), (2, (.str x2))]) h K41 = (gr (acall Try.prog Nt 29 [(.int .i64 x0), (.int .i64 x1)] h) fun r1 h2 => gS r1 fun s3 => gv (astr .add s3 [62]) fun v4 => gS v4 fun s5 => gv (astr .add s5 x2) fun v6 => gS v6 fun s7 => some ((.str s7), h2)) := by kernel_rfl
theorem J41_1_eq (x0 : Int) (x1 : Int) (x2 : List UInt8) (h : AHeap) : J41_1 x0 x1 x2 h = (gr (acall Try.prog Nt 29 [(.int .i64 x0), (.int .i64 x1)] h) fun r1 h2 => gS r1 fun s3 => gv (astr .add s3 [62]) fun v4 => gS v4 fun s5 => gv (astr .add s5 x2) fun v6 => gS v6 fun s7 => some ((.str s7), h2)) := J41_1_g aloop (fun s => s) x0 x1 x2 h
theorem E41_g (lp : Loop) (jn : Join) (x0 : Int) (x1 : Int) (x2 : List UInt8) (h : AHeap) : codeJ Try.prog Nt lp jn 15 (Nt 41) C41 (args [(.int .i64 x0), (.int .i64 x1), (.str x2)]) h K41 = (gc (x2 == []) (some ((.str []), h)) (J41_1' lp jn x0 x1 x2 h)) := by kernel_rfl
theorem E41 (x0 : Int) (x1 : Int) (x2 : List UInt8) (h : AHeap) : acall Try.prog Nt 41 [(.int .i64 x0), (.int .i64 x1), (.str x2)] h = (gc (x2 == []) (some ((.str []), h)) (J41_1 x0 x1 x2 h)) := (acall_at Try.func41 _ h 15 rfl (c := C41) rfl).trans (E41_g aloop (fun s => s) x0 x1 x2 h)
end Go.Ab
end
section
/-
  Texts of errors: escapementref01.E, At, Over.
-/
namespace Go.Ab
open Go.Proofs

def i64ok (n : Int) : Prop := -9223372036854775808 ≤ n ∧ n ≤ 9223372036854775807
def place (p : Int) : Int := if p < 0 then -1 else p
/-- The text of an error's link. -/
def atTxt (c p : Int) : List UInt8 := num c ++ [64] ++ num (place p)
theorem atTxt_len (c p : Int) : (atTxt c p).length ≤ 43 := by
  have := num_len c
  have := num_len (place p)
  simp [atTxt]; omega
theorem c_e (n : Int) (h : AHeap) (hn : i64ok n) : Ev (acall Try.prog Nt 28 [.int .i64 n] h) h fun v _ => v = .str (num n) := by
  rw [E28]
  refine Ev.call (c_number n h hn.1 hn.2) fun v g hv => ?_
  subst hv
  simp (dsimp := false) (implicitDefEqProofs := false) (disch := omega) only [gv_some, gr_some, gI_int, gB_bool, gS_str, gc_t, gc_f, gi_t, gi_f, gN_eq, gf_t, Option.bind_some, Option.bind_none, Option.map_some, acells_agg, acells_int, acells_bool, acells_str, acells_ptr, acells_sl, acells_nilsl, acells_nilptr, acells_iface, acells_niliface, aptr_ptr, anil_ptr, aextract_0, aextract_1, aextract_2, alenS_sl, alenS_nil, apartOf_agg, apart_t, apart_f, astore_ptr, hset_at0, hset_at, List.set_cons_zero, List.set_cons_succ, set_app, set_app0, aload_ptr, splice_eq, List.drop_nil, List.append_nil, isCell_int, isCell_bool, isCell_str, isCell_ptr, isCell_sl, isCell_nilsl, isCell_nilptr, isCell_iface, isCell_niliface, List.all_cons, List.all_nil, Bool.and_self, hget_at0, hget_at, len_app, List.length_cons, List.length_nil, get_app, get_app0, List.getElem?_cons_zero, List.getElem?_cons_succ, join_some, List.append_assoc, List.cons_append, List.nil_append, Nat.zero_add, Nat.add_zero, chkRd_eq, chkAl_blk, if_true, if_false, Bool.false_eq_true, List.drop_succ_cons, List.drop_zero, List.take_succ_cons, List.take_zero, Bool.and_true, Bool.true_and, decide_true, decide_false, wrap64_id, aixG_eq, Nat.reduceAdd, Nat.reduceSub, Nat.reduceMul, Nat.reduceLeDiff, Nat.reduceLT, Int.reduceAdd, Int.reduceSub, Int.reduceMul, Int.reduceNeg, Int.reduceLT, Int.reduceLE, Int.reduceGT, Int.reduceGE, Int.reduceToNat, ↓reduceIte, and_self, true_and, and_true]
  exact Ev.done rfl
theorem c_at (c p : Int) (h : AHeap) (hc : i64ok c) (hp : i64ok p) : Ev (acall Try.prog Nt 29 [.int .i64 c, .int .i64 p] h) h fun v _ => v = .str (atTxt c p) := by
  have go : ∀ q, i64ok q → Ev (J29_1 c q h) h fun v _ => v = .str (num c ++ [64] ++ num q) := by
    intro q hq
    have l1 := num_len c
    have l2 := num_len q
    rw [J29_1_eq]
    refine Ev.call (c_number c h hc.1 hc.2) fun v g hv => ?_
    subst hv
    simp (dsimp := false) (implicitDefEqProofs := false) (disch := omega) only [gv_some, gr_some, gI_int, gB_bool, gS_str, gc_t, gc_f, gi_t, gi_f, gN_eq, gf_t, Option.bind_some, Option.bind_none, Option.map_some, acells_agg, acells_int, acells_bool, acells_str, acells_ptr, acells_sl, acells_nilsl, acells_nilptr, acells_iface, acells_niliface, aptr_ptr, anil_ptr, aextract_0, aextract_1, aextract_2, alenS_sl, alenS_nil, apartOf_agg, apart_t, apart_f, astore_ptr, hset_at0, hset_at, List.set_cons_zero, List.set_cons_succ, set_app, set_app0, aload_ptr, splice_eq, List.drop_nil, List.append_nil, isCell_int, isCell_bool, isCell_str, isCell_ptr, isCell_sl, isCell_nilsl, isCell_nilptr, isCell_iface, isCell_niliface, List.all_cons, List.all_nil, Bool.and_self, hget_at0, hget_at, len_app, List.length_cons, List.length_nil, get_app, get_app0, List.getElem?_cons_zero, List.getElem?_cons_succ, join_some, List.append_assoc, List.cons_append, List.nil_append, Nat.zero_add, Nat.add_zero, chkRd_eq, chkAl_blk, if_true, if_false, Bool.false_eq_true, List.drop_succ_cons, List.drop_zero, List.take_succ_cons, List.take_zero, Bool.and_true, Bool.true_and, decide_true, decide_false, wrap64_id, aixG_eq, Nat.reduceAdd, Nat.reduceSub, Nat.reduceMul, Nat.reduceLeDiff, Nat.reduceLT, Int.reduceAdd, Int.reduceSub, Int.reduceMul, Int.reduceNeg, Int.reduceLT, Int.reduceLE, Int.reduceGT, Int.reduceGE, Int.reduceToNat, ↓reduceIte, and_self, true_and, and_true]
    rw [astr_add (by simp; omega)]
    simp (dsimp := false) (implicitDefEqProofs := false) (disch := omega) only [gv_some, gr_some, gI_int, gB_bool, gS_str, gc_t, gc_f, gi_t, gi_f, gN_eq, gf_t, Option.bind_some, Option.bind_none, Option.map_some, acells_agg, acells_int, acells_bool, acells_str, acells_ptr, acells_sl, acells_nilsl, acells_nilptr, acells_iface, acells_niliface, aptr_ptr, anil_ptr, aextract_0, aextract_1, aextract_2, alenS_sl, alenS_nil, apartOf_agg, apart_t, apart_f, astore_ptr, hset_at0, hset_at, List.set_cons_zero, List.set_cons_succ, set_app, set_app0, aload_ptr, splice_eq, List.drop_nil, List.append_nil, isCell_int, isCell_bool, isCell_str, isCell_ptr, isCell_sl, isCell_nilsl, isCell_nilptr, isCell_iface, isCell_niliface, List.all_cons, List.all_nil, Bool.and_self, hget_at0, hget_at, len_app, List.length_cons, List.length_nil, get_app, get_app0, List.getElem?_cons_zero, List.getElem?_cons_succ, join_some, List.append_assoc, List.cons_append, List.nil_append, Nat.zero_add, Nat.add_zero, chkRd_eq, chkAl_blk, if_true, if_false, Bool.false_eq_true, List.drop_succ_cons, List.drop_zero, List.take_succ_cons, List.take_zero, Bool.and_true, Bool.true_and, decide_true, decide_false, wrap64_id, aixG_eq, Nat.reduceAdd, Nat.reduceSub, Nat.reduceMul, Nat.reduceLeDiff, Nat.reduceLT, Int.reduceAdd, Int.reduceSub, Int.reduceMul, Int.reduceNeg, Int.reduceLT, Int.reduceLE, Int.reduceGT, Int.reduceGE, Int.reduceToNat, ↓reduceIte, and_self, true_and, and_true]
    refine Ev.call (c_number q _ hq.1 hq.2) fun v g hv => ?_
    subst hv
    simp (dsimp := false) (implicitDefEqProofs := false) (disch := omega) only [gv_some, gr_some, gI_int, gB_bool, gS_str, gc_t, gc_f, gi_t, gi_f, gN_eq, gf_t, Option.bind_some, Option.bind_none, Option.map_some, acells_agg, acells_int, acells_bool, acells_str, acells_ptr, acells_sl, acells_nilsl, acells_nilptr, acells_iface, acells_niliface, aptr_ptr, anil_ptr, aextract_0, aextract_1, aextract_2, alenS_sl, alenS_nil, apartOf_agg, apart_t, apart_f, astore_ptr, hset_at0, hset_at, List.set_cons_zero, List.set_cons_succ, set_app, set_app0, aload_ptr, splice_eq, List.drop_nil, List.append_nil, isCell_int, isCell_bool, isCell_str, isCell_ptr, isCell_sl, isCell_nilsl, isCell_nilptr, isCell_iface, isCell_niliface, List.all_cons, List.all_nil, Bool.and_self, hget_at0, hget_at, len_app, List.length_cons, List.length_nil, get_app, get_app0, List.getElem?_cons_zero, List.getElem?_cons_succ, join_some, List.append_assoc, List.cons_append, List.nil_append, Nat.zero_add, Nat.add_zero, chkRd_eq, chkAl_blk, if_true, if_false, Bool.false_eq_true, List.drop_succ_cons, List.drop_zero, List.take_succ_cons, List.take_zero, Bool.and_true, Bool.true_and, decide_true, decide_false, wrap64_id, aixG_eq, Nat.reduceAdd, Nat.reduceSub, Nat.reduceMul, Nat.reduceLeDiff, Nat.reduceLT, Int.reduceAdd, Int.reduceSub, Int.reduceMul, Int.reduceNeg, Int.reduceLT, Int.reduceLE, Int.reduceGT, Int.reduceGE, Int.reduceToNat, ↓reduceIte, and_self, true_and, and_true]
    rw [astr_add (by simp; omega)]
    simp (dsimp := false) (implicitDefEqProofs := false) (disch := omega) only [gv_some, gr_some, gI_int, gB_bool, gS_str, gc_t, gc_f, gi_t, gi_f, gN_eq, gf_t, Option.bind_some, Option.bind_none, Option.map_some, acells_agg, acells_int, acells_bool, acells_str, acells_ptr, acells_sl, acells_nilsl, acells_nilptr, acells_iface, acells_niliface, aptr_ptr, anil_ptr, aextract_0, aextract_1, aextract_2, alenS_sl, alenS_nil, apartOf_agg, apart_t, apart_f, astore_ptr, hset_at0, hset_at, List.set_cons_zero, List.set_cons_succ, set_app, set_app0, aload_ptr, splice_eq, List.drop_nil, List.append_nil, isCell_int, isCell_bool, isCell_str, isCell_ptr, isCell_sl, isCell_nilsl, isCell_nilptr, isCell_iface, isCell_niliface, List.all_cons, List.all_nil, Bool.and_self, hget_at0, hget_at, len_app, List.length_cons, List.length_nil, get_app, get_app0, List.getElem?_cons_zero, List.getElem?_cons_succ, join_some, List.append_assoc, List.cons_append, List.nil_append, Nat.zero_add, Nat.add_zero, chkRd_eq, chkAl_blk, if_true, if_false, Bool.false_eq_true, List.drop_succ_cons, List.drop_zero, List.take_succ_cons, List.take_zero, Bool.and_true, Bool.true_and, decide_true, decide_false, wrap64_id, aixG_eq, Nat.reduceAdd, Nat.reduceSub, Nat.reduceMul, Nat.reduceLeDiff, Nat.reduceLT, Int.reduceAdd, Int.reduceSub, Int.reduceMul, Int.reduceNeg, Int.reduceLT, Int.reduceLE, Int.reduceGT, Int.reduceGE, Int.reduceToNat, ↓reduceIte, and_self, true_and, and_true]
    exact Ev.done rfl
  rw [E29]
  unfold atTxt place
  refine Ev.cdd (fun h0 => ?_) fun h0 => ?_
  · rw [if_pos h0]; exact go _ ⟨by omega, by omega⟩
  · rw [if_neg h0]; exact go p hp
theorem c_over (c p : Int) (s : List UInt8) (h : AHeap) (hc : i64ok c) (hp : i64ok p) (hs : s.length ≤ 100000) :
    Ev (acall Try.prog Nt 41 [.int .i64 c, .int .i64 p, .str s] h) h fun v _ => v = .str (if s = [] then [] else atTxt c p ++ [62] ++ s) := by
  rw [E41]
  have := atTxt_len c p
  refine Ev.cnd (fun h0 => ?_) fun h0 => ?_
  · simp only [beq_iff_eq] at h0
    rw [if_pos h0]
    exact Ev.here rfl
  · have h0 : s ≠ [] := by simpa using h0
    rw [if_neg h0, J41_1_eq]
    refine Ev.call (c_at c p h hc hp) fun v g hv => ?_
    subst hv
    simp (dsimp := false) (implicitDefEqProofs := false) (disch := omega) only [gv_some, gr_some, gI_int, gB_bool, gS_str, gc_t, gc_f, gi_t, gi_f, gN_eq, gf_t, Option.bind_some, Option.bind_none, Option.map_some, acells_agg, acells_int, acells_bool, acells_str, acells_ptr, acells_sl, acells_nilsl, acells_nilptr, acells_iface, acells_niliface, aptr_ptr, anil_ptr, aextract_0, aextract_1, aextract_2, alenS_sl, alenS_nil, apartOf_agg, apart_t, apart_f, astore_ptr, hset_at0, hset_at, List.set_cons_zero, List.set_cons_succ, set_app, set_app0, aload_ptr, splice_eq, List.drop_nil, List.append_nil, isCell_int, isCell_bool, isCell_str, isCell_ptr, isCell_sl, isCell_nilsl, isCell_nilptr, isCell_iface, isCell_niliface, List.all_cons, List.all_nil, Bool.and_self, hget_at0, hget_at, len_app, List.length_cons, List.length_nil, get_app, get_app0, List.getElem?_cons_zero, List.getElem?_cons_succ, join_some, List.append_assoc, List.cons_append, List.nil_append, Nat.zero_add, Nat.add_zero, chkRd_eq, chkAl_blk, if_true, if_false, Bool.false_eq_true, List.drop_succ_cons, List.drop_zero, List.take_succ_cons, List.take_zero, Bool.and_true, Bool.true_and, decide_true, decide_false, wrap64_id, aixG_eq, Nat.reduceAdd, Nat.reduceSub, Nat.reduceMul, Nat.reduceLeDiff, Nat.reduceLT, Int.reduceAdd, Int.reduceSub, Int.reduceMul, Int.reduceNeg, Int.reduceLT, Int.reduceLE, Int.reduceGT, Int.reduceGE, Int.reduceToNat, ↓reduceIte, and_self, true_and, and_true]
    rw [astr_add (by simp; omega)]
    simp (dsimp := false) (implicitDefEqProofs := false) (disch := omega) only [gv_some, gr_some, gI_int, gB_bool, gS_str, gc_t, gc_f, gi_t, gi_f, gN_eq, gf_t, Option.bind_some, Option.bind_none, Option.map_some, acells_agg, acells_int, acells_bool, acells_str, acells_ptr, acells_sl, acells_nilsl, acells_nilptr, acells_iface, acells_niliface, aptr_ptr, anil_ptr, aextract_0, aextract_1, aextract_2, alenS_sl, alenS_nil, apartOf_agg, apart_t, apart_f, astore_ptr, hset_at0, hset_at, List.set_cons_zero, List.set_cons_succ, set_app, set_app0, aload_ptr, splice_eq, List.drop_nil, List.append_nil, isCell_int, isCell_bool, isCell_str, isCell_ptr, isCell_sl, isCell_nilsl, isCell_nilptr, isCell_iface, isCell_niliface, List.all_cons, List.all_nil, Bool.and_self, hget_at0, hget_at, len_app, List.length_cons, List.length_nil, get_app, get_app0, List.getElem?_cons_zero, List.getElem?_cons_succ, join_some, List.append_assoc, List.cons_append, List.nil_append, Nat.zero_add, Nat.add_zero, chkRd_eq, chkAl_blk, if_true, if_false, Bool.false_eq_true, List.drop_succ_cons, List.drop_zero, List.take_succ_cons, List.take_zero, Bool.and_true, Bool.true_and, decide_true, decide_false, wrap64_id, aixG_eq, Nat.reduceAdd, Nat.reduceSub, Nat.reduceMul, Nat.reduceLeDiff, Nat.reduceLT, Int.reduceAdd, Int.reduceSub, Int.reduceMul, Int.reduceNeg, Int.reduceLT, Int.reduceLE, Int.reduceGT, Int.reduceGE, Int.reduceToNat, ↓reduceIte, and_self, true_and, and_true]
    rw [astr_add (by simp; omega)]
    simp (dsimp := false) (implicitDefEqProofs := false) (disch := omega) only [gv_some, gr_some, gI_int, gB_bool, gS_str, gc_t, gc_f, gi_t, gi_f, gN_eq, gf_t, Option.bind_some, Option.bind_none, Option.map_some, acells_agg, acells_int, acells_bool, acells_str, acells_ptr, acells_sl, acells_nilsl, acells_nilptr, acells_iface, acells_niliface, aptr_ptr, anil_ptr, aextract_0, aextract_1, aextract_2, alenS_sl, alenS_nil, apartOf_agg, apart_t, apart_f, astore_ptr, hset_at0, hset_at, List.set_cons_zero, List.set_cons_succ, set_app, set_app0, aload_ptr, splice_eq, List.drop_nil, List.append_nil, isCell_int, isCell_bool, isCell_str, isCell_ptr, isCell_sl, isCell_nilsl, isCell_nilptr, isCell_iface, isCell_niliface, List.all_cons, List.all_nil, Bool.and_self, hget_at0, hget_at, len_app, List.length_cons, List.length_nil, get_app, get_app0, List.getElem?_cons_zero, List.getElem?_cons_succ, join_some, List.append_assoc, List.cons_append, List.nil_append, Nat.zero_add, Nat.add_zero, chkRd_eq, chkAl_blk, if_true, if_false, Bool.false_eq_true, List.drop_succ_cons, List.drop_zero, List.take_succ_cons, List.take_zero, Bool.and_true, Bool.true_and, decide_true, decide_false, wrap64_id, aixG_eq, Nat.reduceAdd, Nat.reduceSub, Nat.reduceMul, Nat.reduceLeDiff, Nat.reduceLT, Int.reduceAdd, Int.reduceSub, Int.reduceMul, Int.reduceNeg, Int.reduceLT, Int.reduceLE, Int.reduceGT, Int.reduceGE, Int.reduceToNat, ↓reduceIte, and_self, true_and, and_true]
    exact Ev.done (by simp)
end Go.Ab
end
section
/-
  Functions of the program as equations: written by program (wip/tools/prt.py).
-/
namespace Go.Ab
open Go.Proofs
/-! 30: escapement/fault.New -/
noncomputable def K30 : Kont := kend Try.prog 13 Try.f30.results.toList
noncomputable def J30_1' (lp : Loop) (jn : Join) (x0 : Int) (x1 : Int) (h : AHeap) : Res := jn (codeJ Try.prog Nt lp jn 13 (nat' [true, true] A30) (cat [true, true] C30)) (envOf [(0, (.int .i64 x0)), (1, (.int .i64 x1))]) h K30
noncomputable def J30_1 (x0 : Int) (x1 : Int) (h : AHeap) : Res := J30_1' aloop (fun s => s) x0 x1 h
theorem J30_1_g (lp : Loop) (jn : Join) (x0 : Int) (x1 : Int) (h : AHeap) : codeJ Try.prog Nt lp jn 13 (nat' [true, true] A30) (cat [true, true] C30) (envOf [(0, (.int .i64 x0)), (1, (.int .i64 x1))]) h K30 = (gN h [(.int .i64 x0), (.int .i64 (if (-1) > x1 then (-1) else x1)), .niliface] fun b1 h2 => some ((.iface 59 (.ptr b1 0)), h2)) := by kernel_rfl
theorem J30_1_eq (x0 : Int) (x1 : Int) (h : AHeap) : J30_1 x0 x1 h = (gN h [(.int .i64 x0), (.int .i64 (if (-1) > x1 then (-1) else x1)), .niliface] fun b1 h2 => some ((.iface 59 (.ptr b1 0)), h2)) := J30_1_g aloop (fun s => s) x0 x1 h
theorem E30_g (lp : Loop) (jn : Join) (x0 : Int) (x1 : Int) (h : AHeap) : codeJ Try.prog Nt lp jn 13 (Nt 30) C30 (args [(.int .i64 x0), (.int .i64 x1)]) h K30 = (gc (x0 == 0) (some (.niliface, h)) (J30_1' lp jn x0 x1 h)) := by kernel_rfl
theorem E30 (x0 : Int) (x1 : Int) (h : AHeap) : acall Try.prog Nt 30 [(.int .i64 x0), (.int .i64 x1)] h = (gc (x0 == 0) (some (.niliface, h)) (J30_1 x0 x1 h)) := (acall_at Try.func30 _ h 13 rfl (c := C30) rfl).trans (E30_g aloop (fun s => s) x0 x1 h)
end Go.Ab
end
section
/-
  Functions of the program as equations: written by program (wip/tools/prt.py).
-/
namespace Go.Ab
open Go.Proofs
/-! 36: escapement/fault.Wrap -/
noncomputable def K36 : Kont := kend Try.prog 21 Try.f36.results.toList
noncomputable def J36_1' (lp : Loop) (jn : Join) (x0 : Int) (x1 : Int) (x2 : AV) (h : AHeap) : Res := jn (codeJ Try.prog Nt lp jn 21 (nat' [true, true] A36) (cat [true, true] C36)) (envOf [(0, (.int .i64 x0)), (1, (.int .i64 x1)), (2, x2)]) h K36
noncomputable def J36_1 (x0 : Int) (x1 : Int) (x2 : AV) (h : AHeap) : Res := J36_1' aloop (fun s => s) x0 x1 x2 h
theorem J36_1_g (lp : Loop) (jn : Join) (x0 : Int) (x1 : Int) (x2 : AV) (h : AHeap) : codeJ Try.prog Nt lp jn 21 (nat' [true, true] A36) (cat [true, true] C36) (envOf [(0, (.int .i64 x0)), (1, (.int .i64 x1)), (2, x2)]) h K36 = (gv (afillS [(0, 1), (1, 1), (2, 1)] [(.int .i64 0), (.int .i64 0), .niliface] [(0, (.int .i64 x0)), (1, (.int .i64 (if (-1) > x1 then (-1) else x1))), (2, x2)]) fun v3 => gv (acells v3) fun cs4 => gN h cs4 fun b5 h6 => some ((.iface 59 (.ptr b5 0)), h6)) := by kernel_rfl
theorem J36_1_eq (x0 : Int) (x1 : Int) (x2 : AV) (h : AHeap) : J36_1 x0 x1 x2 h = (gv (afillS [(0, 1), (1, 1), (2, 1)] [(.int .i64 0), (.int .i64 0), .niliface] [(0, (.int .i64 x0)), (1, (.int .i64 (if (-1) > x1 then (-1) else x1))), (2, x2)]) fun v3 => gv (acells v3) fun cs4 => gN h cs4 fun b5 h6 => some ((.iface 59 (.ptr b5 0)), h6)) := J36_1_g aloop (fun s => s) x0 x1 x2 h
theorem E36_g (lp : Loop) (jn : Join) (x0 : Int) (x1 : Int) (x2 : AV) (h : AHeap) : codeJ Try.prog Nt lp jn 21 (Nt 36) C36 (args [(.int .i64 x0), (.int .i64 x1), x2]) h K36 = (gv (abin Try.prog .eql 31 (aeqOk Try.prog 31 (.tmp 8) (.const .nilIface) x2 .niliface) x2 .niliface) fun v1 => gB v1 fun b2 => gc b2 (some (.niliface, h)) (gc (x0 == 0) (some (x2, h)) (J36_1' lp jn x0 x1 x2 h))) := by kernel_rfl
theorem E36 (x0 : Int) (x1 : Int) (x2 : AV) (h : AHeap) : acall Try.prog Nt 36 [(.int .i64 x0), (.int .i64 x1), x2] h = (gv (abin Try.prog .eql 31 (aeqOk Try.prog 31 (.tmp 8) (.const .nilIface) x2 .niliface) x2 .niliface) fun v1 => gB v1 fun b2 => gc b2 (some (.niliface, h)) (gc (x0 == 0) (some (x2, h)) (J36_1 x0 x1 x2 h))) := (acall_at Try.func36 _ h 21 rfl (c := C36) rfl).trans (E36_g aloop (fun s => s) x0 x1 x2 h)
end Go.Ab
end
section
/-
  Functions of the program as equations: written by program (wip/tools/prt.py).
-/
namespace Go.Ab
open Go.Proofs
/-! 12: escapement/escapementlaw01.Read -/
noncomputable def K12 : Kont := kend Try.prog 63 Try.f12.results.toList
noncomputable def K12_1 (lp : Loop) (jn : Join) : Kont := kseqJ jn (codeJ Try.prog Nt lp jn 63 (nat' [true, true, true] A12) (cat [true, true, true] C12)) (some [3]) K12
noncomputable def K12_2 (lp : Loop) (jn : Join) : Kont := kblock 0 none (K12_1 lp jn)
noncomputable def K12_3 (lp : Loop) (jn : Join) : Kont := kloop (lp (some [0, 3, 4]) (codeJ Try.prog Nt lp jn 63 (nat' [true, true, false, true, false, false] A12) (cat [true, true, false, true, false, false] C12))) (some [0, 3, 4]) (K12_2 lp jn)
noncomputable def K12_4 (lp : Loop) (jn : Join) : Kont := kseqJ jn (codeJ Try.prog Nt lp jn 63 (nat' [true, true, false, true, false, false, true, true] A12) (cat [true, true, false, true, false, false, true, true] C12)) (some [0, 3, 4]) (K12_3 lp jn)
noncomputable def K12_5 (lp : Loop) (jn : Join) : Kont := kblock 1 none (K12_4 lp jn)
noncomputable def K12_6 (lp : Loop) (jn : Join) : Kont := kblock 2 none (K12_5 lp jn)
noncomputable def K12_7 (lp : Loop) (jn : Join) : Kont := kseqJ jn (codeJ Try.prog Nt lp jn 63 (nat' [true, true, false, true, false, false, true, false, false, true, true, false, true, true, true, false, true, true] A12) (cat [true, true, false, true, false, false, true, false, false, true, true, false, true, true, true, false, true, true] C12)) (some [3, 4, 6]) (K12_6 lp jn)
noncomputable def J12_1' (lp : Loop) (jn : Join) (x0 : AV) (x3 : List UInt8) (x4 : Int) (h : AHeap) : Res := lp (some [0, 3, 4]) (codeJ Try.prog Nt lp jn 63 (nat' [true, true, false, true, false, false] A12) (cat [true, true, false, true, false, false] C12)) (envOf [(0, x0), (3, (.str x3)), (4, (.int .i64 x4))]) h (K12_2 lp jn)
noncomputable def J12_1 (x0 : AV) (x3 : List UInt8) (x4 : Int) (h : AHeap) : Res := J12_1' aloop (fun s => s) x0 x3 x4 h
noncomputable def J12_2' (lp : Loop) (jn : Join) (x0 : AV) (x3 : List UInt8) (x4 : Int) (h : AHeap) : Res := jn (codeJ Try.prog Nt lp jn 63 (nat' [true, true, false, true, false, false, true] A12) (cat [true, true, false, true, false, false, true] C12)) (envOf [(0, x0), (3, (.str x3)), (4, (.int .i64 x4))]) h (K12_3 lp jn)
noncomputable def J12_2 (x0 : AV) (x3 : List UInt8) (x4 : Int) (h : AHeap) : Res := J12_2' aloop (fun s => s) x0 x3 x4 h
noncomputable def J12_3' (lp : Loop) (jn : Join) (x3 : List UInt8) (h : AHeap) : Res := jn (codeJ Try.prog Nt lp jn 63 (nat' [true, true, true] A12) (cat [true, true, true] C12)) (envOf [(3, (.str x3))]) h K12
noncomputable def J12_3 (x3 : List UInt8) (h : AHeap) : Res := J12_3' aloop (fun s => s) x3 h
noncomputable def J12_4' (lp : Loop) (jn : Join) (x0 : AV) (x3 : List UInt8) (x4 : Int) (h : AHeap) : Res := jn (codeJ Try.prog Nt lp jn 63 (nat' [true, true, false, true, false, false, true, false, false, true] A12) (cat [true, true, false, true, false, false, true, false, false, true] C12)) (envOf [(0, x0), (3, (.str x3)), (4, (.int .i64 x4))]) h (K12_5 lp jn)
noncomputable def J12_4 (x0 : AV) (x3 : List UInt8) (x4 : Int) (h : AHeap) : Res := J12_4' aloop (fun s => s) x0 x3 x4 h
noncomputable def J12_5' (lp : Loop) (jn : Join) (x3 : List UInt8) (x4 : Int) (x6 : AV) (x46 : Bool) (h : AHeap) : Res := jn (codeJ Try.prog Nt lp jn 63 (nat' [true, true, false, true, false, false, true, false, false, true, true, false, true, true, true, false, true, false, true] A12) (cat [true, true, false, true, false, false, true, false, false, true, true, false, true, true, true, false, true, false, true] C12)) (envOf [(3, (.str x3)), (4, (.int .i64 x4)), (6, x6), (46, (.bool x46))]) h (K12_7 lp jn)
noncomputable def J12_5 (x3 : List UInt8) (x4 : Int) (x6 : AV) (x46 : Bool) (h : AHeap) : Res := J12_5' aloop (fun s => s) x3 x4 x6 x46 h
noncomputable def J12_6' (lp : Loop) (jn : Join) (x3 : List UInt8) (x4 : Int) (x6 : AV) (h : AHeap) : Res := jn (codeJ Try.prog Nt lp jn 63 (nat' [true, true, false, true, false, false, true, false, false, true, true, false, true, true, true, false, true, true] A12) (cat [true, true, false, true, false, false, true, false, false, true, true, false, true, true, true, false, true, true] C12)) (envOf [(3, (.str x3)), (4, (.int .i64 x4)), (6, x6)]) h (K12_6 lp jn)
noncomputable def J12_6 (x3 : List UInt8) (x4 : Int) (x6 : AV) (h : AHeap) : Res := J12_6' aloop (fun s => s) x3 x4 x6 h
noncomputable def J12_7' (lp : Loop) (jn : Join) (x0 : AV) (x3 : List UInt8) (x4 : Int) (h : AHeap) : Res := jn (codeJ Try.prog Nt lp jn 63 (nat' [true, true, false, true, false, false, true, true] A12) (cat [true, true, false, true, false, false, true, true] C12)) (envOf [(0, x0), (3, (.str x3)), (4, (.int .i64 x4))]) h (K12_3 lp jn)
noncomputable def J12_7 (x0 : AV) (x3 : List UInt8) (x4 : Int) (h : AHeap) : Res := J12_7' aloop (fun s => s) x0 x3 x4 h
theorem J12_1_g (lp : Loop) (jn : Join) (x0 : AV) (x3 : List UInt8) (x4 : Int) (h : AHeap) : codeJ Try.prog Nt lp jn 63 (nat' [true, true, false, true, false, false] A12) (cat [true, true, false, true, false, false] C12) (envOf [(0, x0), (3, (.str x3)), (4, (.int .i64 x4))]) h (kloop (lp (some [0, 3, 4]) (codeJ Try.prog Nt lp jn 63 (nat' [true, true, false, true, false, false] A12) (cat [true, true, false, true, false, false] C12))) (some [0, 3, 4]) (K12_2 lp jn)) = (gv (abin Try.prog .neq 31 (aeqOk Try.prog 31 (.tmp 8) (.const .nilIface) x0 .niliface) x0 .niliface) fun v1 => gB v1 fun b2 => gc b2 (J12_2' lp jn x0 x3 x4 h) (J12_3' lp jn x3 h)) := by kernel_rfl
theorem J12_1_eq (x0 : AV) (x3 : List UInt8) (x4 : Int) (h : AHeap) : J12_1 x0 x3 x4 h = (gv (abin Try.prog .neq 31 (aeqOk Try.prog 31 (.tmp 8) (.const .nilIface) x0 .niliface) x0 .niliface) fun v1 => gB v1 fun b2 => gc b2 (J12_2 x0 x3 x4 h) (J12_3 x3 h)) := (aloop_at (some [0, 3, 4]) (nat' [true, true, false, true, false, false] A12) (cat [true, true, false, true, false, false] C12) (envOf [(0, x0), (3, (.str x3)), (4, (.int .i64 x4))]) h (K12_2 aloop (fun s => s))).trans (J12_1_g aloop (fun s => s) x0 x3 x4 h)
theorem J12_2_g (lp : Loop) (jn : Join) (x0 : AV) (x3 : List UInt8) (x4 : Int) (h : AHeap) : codeJ Try.prog Nt lp jn 63 (nat' [true, true, false, true, false, false, true] A12) (cat [true, true, false, true, false, false, true] C12) (envOf [(0, x0), (3, (.str x3)), (4, (.int .i64 x4))]) h (K12_3 lp jn) = (gc (decide (x4 > 0)) (gv (astr .add x3 [62]) fun v3 => gS v3 fun s4 => J12_4' lp jn x0 s4 x4 h) (J12_4' lp jn x0 x3 x4 h)) := by kernel_rfl
theorem J12_2_eq (x0 : AV) (x3 : List UInt8) (x4 : Int) (h : AHeap) : J12_2 x0 x3 x4 h = (gc (decide (x4 > 0)) (gv (astr .add x3 [62]) fun v3 => gS v3 fun s4 => J12_4 x0 s4 x4 h) (J12_4 x0 x3 x4 h)) := J12_2_g aloop (fun s => s) x0 x3 x4 h
theorem J12_3_g (lp : Loop) (jn : Join) (x3 : List UInt8) (h : AHeap) : codeJ Try.prog Nt lp jn 63 (nat' [true, true, true] A12) (cat [true, true, true] C12) (envOf [(3, (.str x3))]) h K12 = (some ((.str x3), h)) := by kernel_rfl
theorem J12_3_eq (x3 : List UInt8) (h : AHeap) : J12_3 x3 h = (some ((.str x3), h)) := J12_3_g aloop (fun s => s) x3 h
theorem J12_4_g (lp : Loop) (jn : Join) (x0 : AV) (x3 : List UInt8) (x4 : Int) (h : AHeap) : codeJ Try.prog Nt lp jn 63 (nat' [true, true, false, true, false, false, true, false, false, true] A12) (cat [true, true, false, true, false, false, true, false, false, true] C12) (envOf [(0, x0), (3, (.str x3)), (4, (.int .i64 x4))]) h (K12_5 lp jn) = (gv (aassert Try.prog x0 57 true) fun v5 => gv (aextract v5 1) fun v6 => gB v6 fun b7 => gv (aextract v5 0) fun v8 => gI .i64 v8 fun n9 => gc b7 (gr (acall Try.prog Nt 28 [(.int .i64 n9)] h) fun r10 h11 => gS r10 fun s12 => gv (astr .add x3 s12) fun v13 => gS v13 fun s14 => some ((.str s14), h11)) (gv (aassert Try.prog x0 59 true) fun v15 => gv (aextract v15 1) fun v16 => gB v16 fun b17 => gv (aextract v15 0) fun v18 => gc b17 (gv (abin Try.prog .eql 59 (aeqOk Try.prog 59 (.tmp 27) (.const (.pointer none)) v18 .nilptr) v18 .nilptr) fun v19 => gB v19 fun b20 => gi b20 (J12_5' lp jn x3 x4 v18 true h) (gv (anil v18) fun v21 => gv (aptr v21 0) fun v22 => gv (aload false 1 v22 h) fun v23 => gI .i64 v23 fun n24 => gi (n24 == 0) (J12_5' lp jn x3 x4 v18 true h) (gv (anil v18) fun v25 => gv (aptr v25 1) fun v26 => gv (aload false 1 v26 h) fun v27 => gI .i64 v27 fun n28 => gi (decide (n28 < (-1))) (J12_5' lp jn x3 x4 v18 true h) (J12_5' lp jn x3 x4 v18 (decide (x4 > 20)) h)))) (some ((.str [63]), h)))) := by kernel_rfl
theorem J12_4_eq (x0 : AV) (x3 : List UInt8) (x4 : Int) (h : AHeap) : J12_4 x0 x3 x4 h = (gv (aassert Try.prog x0 57 true) fun v5 => gv (aextract v5 1) fun v6 => gB v6 fun b7 => gv (aextract v5 0) fun v8 => gI .i64 v8 fun n9 => gc b7 (gr (acall Try.prog Nt 28 [(.int .i64 n9)] h) fun r10 h11 => gS r10 fun s12 => gv (astr .add x3 s12) fun v13 => gS v13 fun s14 => some ((.str s14), h11)) (gv (aassert Try.prog x0 59 true) fun v15 => gv (aextract v15 1) fun v16 => gB v16 fun b17 => gv (aextract v15 0) fun v18 => gc b17 (gv (abin Try.prog .eql 59 (aeqOk Try.prog 59 (.tmp 27) (.const (.pointer none)) v18 .nilptr) v18 .nilptr) fun v19 => gB v19 fun b20 => gi b20 (J12_5 x3 x4 v18 true h) (gv (anil v18) fun v21 => gv (aptr v21 0) fun v22 => gv (aload false 1 v22 h) fun v23 => gI .i64 v23 fun n24 => gi (n24 == 0) (J12_5 x3 x4 v18 true h) (gv (anil v18) fun v25 => gv (aptr v25 1) fun v26 => gv (aload false 1 v26 h) fun v27 => gI .i64 v27 fun n28 => gi (decide (n28 < (-1))) (J12_5 x3 x4 v18 true h) (J12_5 x3 x4 v18 (decide (x4 > 20)) h)))) (some ((.str [63]), h)))) := J12_4_g aloop (fun s => s) x0 x3 x4 h
theorem J12_5_g (lp : Loop) (jn : Join) (x3 : List UInt8) (x4 : Int) (x6 : AV) (x46 : Bool) (h : AHeap) : codeJ Try.prog Nt lp jn 63 (nat' [true, true, false, true, false, false, true, false, false, true, true, false, true, true, true, false, true, false, true] A12) (cat [true, true, false, true, false, false, true, false, false, true, true, false, true, true, true, false, true, false, true] C12) (envOf [(3, (.str x3)), (4, (.int .i64 x4)), (6, x6), (46, (.bool x46))]) h (K12_7 lp jn) = (gc x46 (some ((.str [63]), h)) (J12_6' lp jn x3 x4 x6 h)) := by kernel_rfl
theorem J12_5_eq (x3 : List UInt8) (x4 : Int) (x6 : AV) (x46 : Bool) (h : AHeap) : J12_5 x3 x4 x6 x46 h = (gc x46 (some ((.str [63]), h)) (J12_6 x3 x4 x6 h)) := J12_5_g aloop (fun s => s) x3 x4 x6 x46 h
theorem J12_6_g (lp : Loop) (jn : Join) (x3 : List UInt8) (x4 : Int) (x6 : AV) (h : AHeap) : codeJ Try.prog Nt lp jn 63 (nat' [true, true, false, true, false, false, true, false, false, true, true, false, true, true, true, false, true, true] A12) (cat [true, true, false, true, false, false, true, false, false, true, true, false, true, true, true, false, true, true] C12) (envOf [(3, (.str x3)), (4, (.int .i64 x4)), (6, x6)]) h (K12_6 lp jn) = (gv (anil x6) fun v29 => gv (aptr v29 0) fun v30 => gv (aload false 1 v30 h) fun v31 => gI .i64 v31 fun n32 => gv (anil x6) fun v33 => gv (aptr v33 1) fun v34 => gv (aload false 1 v34 h) fun v35 => gI .i64 v35 fun n36 => gr (acall Try.prog Nt 29 [(.int .i64 n32), (.int .i64 n36)] h) fun r37 h38 => gS r37 fun s39 => gv (astr .add x3 s39) fun v40 => gS v40 fun s41 => gv (anil x6) fun v42 => gv (aptr v42 2) fun v43 => gv (aload false 1 v43 h38) fun v44 => J12_7' lp jn v44 s41 x4 h38) := by kernel_rfl
theorem J12_6_eq (x3 : List UInt8) (x4 : Int) (x6 : AV) (h : AHeap) : J12_6 x3 x4 x6 h = (gv (anil x6) fun v29 => gv (aptr v29 0) fun v30 => gv (aload false 1 v30 h) fun v31 => gI .i64 v31 fun n32 => gv (anil x6) fun v33 => gv (aptr v33 1) fun v34 => gv (aload false 1 v34 h) fun v35 => gI .i64 v35 fun n36 => gr (acall Try.prog Nt 29 [(.int .i64 n32), (.int .i64 n36)] h) fun r37 h38 => gS r37 fun s39 => gv (astr .add x3 s39) fun v40 => gS v40 fun s41 => gv (anil x6) fun v42 => gv (aptr v42 2) fun v43 => gv (aload false 1 v43 h38) fun v44 => J12_7 v44 s41 x4 h38) := J12_6_g aloop (fun s => s) x3 x4 x6 h
theorem J12_7_g (lp : Loop) (jn : Join) (x0 : AV) (x3 : List UInt8) (x4 : Int) (h : AHeap) : codeJ Try.prog Nt lp jn 63 (nat' [true, true, false, true, false, false, true, true] A12) (cat [true, true, false, true, false, false, true, true] C12) (envOf [(0, x0), (3, (.str x3)), (4, (.int .i64 x4))]) h (K12_3 lp jn) = (J12_1' lp jn x0 x3 (IntKind.i64.wrap (x4 + 1)) h) := by kernel_rfl
theorem J12_7_eq (x0 : AV) (x3 : List UInt8) (x4 : Int) (h : AHeap) : J12_7 x0 x3 x4 h = (J12_1 x0 x3 (IntKind.i64.wrap (x4 + 1)) h) := J12_7_g aloop (fun s => s) x0 x3 x4 h
theorem E12_g (lp : Loop) (jn : Join) (x0 : AV) (h : AHeap) : codeJ Try.prog Nt lp jn 63 (Nt 12) C12 (args [x0]) h K12 = (J12_1' lp jn x0 [] 0 h) := by kernel_rfl
theorem E12 (x0 : AV) (h : AHeap) : acall Try.prog Nt 12 [x0] h = (J12_1 x0 [] 0 h) := (acall_at Try.func12 _ h 63 rfl (c := C12) rfl).trans (E12_g aloop (fun s => s) x0 h)
end Go.Ab
end
section
/-
  Errors: fault.New, fault.Wrap, and escapementlaw01.Read.
-/
namespace Go.Ab
open Go.Proofs

/-- A link of an error: a code, and its place; a bare number without. -/
abbrev Lnk := Int × Option Int
/-- An error: nil, or a code and a place over another error, or a number. -/
def ErrV (h : AHeap) : List Lnk → AV → Prop
  | [], x => x = .niliface
  | (c, some p) :: l, x => ∃ b ro y, x = .iface 59 (.ptr b 0) ∧ hget h b = some (.cells ro [.int .i64 c, .int .i64 p, y]) ∧ c ≠ 0 ∧ i64ok c ∧ -1 ≤ p ∧ i64ok p ∧ ErrV h l y
  | (c, none) :: l, x => x = .iface 57 (.int .i64 c) ∧ i64ok c ∧ l = []
theorem ErrV.app {h : AHeap} (g : AHeap) : ∀ {l : List Lnk} {x : AV}, ErrV h l x → ErrV (h ++ g) l x
  | [], _, e => e
  | (_, some _) :: l, _, ⟨b, ro, y, e1, e2, e3, e4, e5, e6, e7⟩ => ⟨b, ro, y, e1, hget_app e2, e3, e4, e5, e6, e7.app g⟩
  | (_, none) :: l, _, e => e
theorem ErrV.isnil {h : AHeap} {l : List Lnk} {x : AV} (e : ErrV h l x) : (x = .niliface ∧ l = []) ∨ (∃ t v, x = .iface t v) ∧ l ≠ [] := by
  match l, e with
  | [], e => exact .inl ⟨e, rfl⟩
  | (c, some p) :: l, ⟨b, ro, y, e, _⟩ => exact .inr ⟨⟨_, _, e⟩, by simp⟩
  | (c, none) :: l, ⟨e, _⟩ => exact .inr ⟨⟨_, _, e⟩, by simp⟩
/-- The text of an error. -/
def lnkTxt : Lnk → List UInt8
  | (c, some p) => atTxt c p
  | (c, none) => num c
def tailTxt : List Lnk → List UInt8
  | [] => []
  | k :: l => [62] ++ lnkTxt k ++ tailTxt l
def errTxt : List Lnk → List UInt8
  | [] => []
  | k :: l => lnkTxt k ++ tailTxt l

theorem digs_ne : ∀ (k n : Nat) (s : List UInt8), 0 < k ∨ s ≠ [] → digs k n s ≠ []
  | 0, n, s, h => by rcases h with h | h; exact absurd h (by omega); exact h
  | k + 1, n, s, _ => by
    unfold digs
    split
    · simp
    · exact digs_ne k _ _ (.inr (by simp))
theorem num_ne (n : Int) : num n ≠ [] := by
  unfold num
  split
  · simp
  · exact digs_ne 20 _ _ (.inl (by omega))
theorem errTxt_ne {l : List Lnk} (h : l ≠ []) : errTxt l ≠ [] := by
  match l, h with
  | (c, none) :: l, _ => simp [errTxt, lnkTxt, num_ne]
  | (c, some p) :: l, _ => simp [errTxt, lnkTxt, atTxt]
theorem u_error : ∃ ms, (Try.prog).underlying 31 = some (.interface ms) := ⟨#[("Error", (match (Try.prog).underlying 31 with | some (.interface ms) => (ms.getD 0 ("", 0)).2 | _ => 0))], by kernel_rfl⟩
theorem err_ne_iface (a b : Operand) (t : TypeId) (v : AV) : abin Try.prog .neq 31 (aeqOk Try.prog 31 a b (.iface t v) .niliface) (.iface t v) .niliface = some (.bool true) := by
  obtain ⟨ms, hu⟩ := u_error
  rw [aeqOk_iface, abin_ne_iface hu]
theorem err_ne_nil (a : Operand) (c : Value) : abin Try.prog .neq 31 (aeqOk Try.prog 31 a (.const c) .niliface .niliface) .niliface .niliface = some (.bool false) := by
  obtain ⟨ms, hu⟩ := u_error
  rw [aeqOk_niliface, abin_ne_niliface hu]
theorem err_eq_iface (a b : Operand) (t : TypeId) (v : AV) : abin Try.prog .eql 31 (aeqOk Try.prog 31 a b (.iface t v) .niliface) (.iface t v) .niliface = some (.bool false) := by
  obtain ⟨ms, hu⟩ := u_error
  rw [aeqOk_iface, abin_eq_iface hu]
theorem err_eq_nil (a : Operand) (c : Value) : abin Try.prog .eql 31 (aeqOk Try.prog 31 a (.const c) .niliface .niliface) .niliface .niliface = some (.bool true) := by
  obtain ⟨ms, hu⟩ := u_error
  rw [aeqOk_niliface, abin_eq_niliface hu]
theorem flt_eq_ptr (a b : Operand) (c o : Nat) : abin Try.prog .eql 59 (aeqOk Try.prog 59 a b (.ptr c o) .nilptr) (.ptr c o) .nilptr = some (.bool false) := by
  rw [aeqOk_ptr, abin_eq_ptr (e := 61) (by kernel_rfl)]
theorem as_errno_f (v : AV) : aassert Try.prog (.iface 59 v) 57 true = some (.tuple [.int .i64 0, .bool false]) := by kernel_rfl
theorem as_fault_f (v : AV) : aassert Try.prog (.iface 59 v) 59 true = some (.tuple [v, .bool true]) := by kernel_rfl
theorem as_errno_e (v : AV) : aassert Try.prog (.iface 57 v) 57 true = some (.tuple [v, .bool true]) := by kernel_rfl

theorem place_ge (p : Int) : -1 ≤ place p := by unfold place; split <;> omega
theorem place_ok {p : Int} (h : i64ok p) : i64ok (place p) := by unfold place i64ok at *; split <;> omega
theorem place_id {p : Int} (h : -1 ≤ p) : place p = p := by unfold place; split <;> omega
theorem place_max (p : Int) : (if (-1 : Int) > p then (-1 : Int) else p) = place p := by
  unfold place
  by_cases h1 : p < 0
  · rw [if_pos h1]; split <;> omega
  · rw [if_neg h1, if_neg (by omega)]
theorem c_new (c p : Int) (h : AHeap) (hc : i64ok c) (h0 : c ≠ 0) (hp : i64ok p) : Ev (acall Try.prog Nt 30 [.int .i64 c, .int .i64 p] h) h fun v h' => ErrV h' [(c, some (place p))] v := by
  rw [E30]
  have e0 : (c == 0) = false := by simpa using h0
  rw [e0, J30_1_eq, place_max]
  simp (dsimp := false) (implicitDefEqProofs := false) (disch := omega) only [gv_some, gr_some, gI_int, gB_bool, gS_str, gc_t, gc_f, gi_t, gi_f, gN_eq, gf_t, Option.bind_some, Option.bind_none, Option.map_some, acells_agg, acells_int, acells_bool, acells_str, acells_ptr, acells_sl, acells_nilsl, acells_nilptr, acells_iface, acells_niliface, aptr_ptr, anil_ptr, aextract_0, aextract_1, aextract_2, alenS_sl, alenS_nil, apartOf_agg, apart_t, apart_f, astore_ptr, hset_at0, hset_at, List.set_cons_zero, List.set_cons_succ, set_app, set_app0, aload_ptr, splice_eq, List.drop_nil, List.append_nil, isCell_int, isCell_bool, isCell_str, isCell_ptr, isCell_sl, isCell_nilsl, isCell_nilptr, isCell_iface, isCell_niliface, List.all_cons, List.all_nil, Bool.and_self, hget_at0, hget_at, len_app, List.length_cons, List.length_nil, get_app, get_app0, List.getElem?_cons_zero, List.getElem?_cons_succ, join_some, List.append_assoc, List.cons_append, List.nil_append, Nat.zero_add, Nat.add_zero, chkRd_eq, chkAl_blk, if_true, if_false, Bool.false_eq_true, List.drop_succ_cons, List.drop_zero, List.take_succ_cons, List.take_zero, Bool.and_true, Bool.true_and, decide_true, decide_false, wrap64_id, aixG_eq, Nat.reduceAdd, Nat.reduceSub, Nat.reduceMul, Nat.reduceLeDiff, Nat.reduceLT, Int.reduceAdd, Int.reduceSub, Int.reduceMul, Int.reduceNeg, Int.reduceLT, Int.reduceLE, Int.reduceGT, Int.reduceGE, Int.reduceToNat, ↓reduceIte, and_self, true_and, and_true]
  exact Ev.done ⟨h.length, false, .niliface, rfl, by rw [hget_at0]; rfl, h0, hc, place_ge p, place_ok hp, rfl⟩
theorem c_wrap (c p : Int) (l : List Lnk) (x : AV) (h : AHeap) (hc : i64ok c) (h0 : c ≠ 0) (hp : i64ok p) (hx : ErrV h l x) : Ev (acall Try.prog Nt 36 [.int .i64 c, .int .i64 p, x] h) h fun v h' => ErrV h' (if l = [] then [] else (c, some (place p)) :: l) v := by
  rw [E36]
  rcases hx.isnil with ⟨rfl, rfl⟩ | ⟨⟨t, v, rfl⟩, hl⟩
  · simp (dsimp := false) (implicitDefEqProofs := false) (disch := omega) only [gv_some, gr_some, gI_int, gB_bool, gS_str, gc_t, gc_f, gi_t, gi_f, gN_eq, gf_t, Option.bind_some, Option.bind_none, Option.map_some, acells_agg, acells_int, acells_bool, acells_str, acells_ptr, acells_sl, acells_nilsl, acells_nilptr, acells_iface, acells_niliface, aptr_ptr, anil_ptr, aextract_0, aextract_1, aextract_2, alenS_sl, alenS_nil, apartOf_agg, apart_t, apart_f, astore_ptr, hset_at0, hset_at, List.set_cons_zero, List.set_cons_succ, set_app, set_app0, aload_ptr, splice_eq, List.drop_nil, List.append_nil, isCell_int, isCell_bool, isCell_str, isCell_ptr, isCell_sl, isCell_nilsl, isCell_nilptr, isCell_iface, isCell_niliface, List.all_cons, List.all_nil, Bool.and_self, hget_at0, hget_at, len_app, List.length_cons, List.length_nil, get_app, get_app0, List.getElem?_cons_zero, List.getElem?_cons_succ, join_some, List.append_assoc, List.cons_append, List.nil_append, Nat.zero_add, Nat.add_zero, chkRd_eq, chkAl_blk, if_true, if_false, Bool.false_eq_true, List.drop_succ_cons, List.drop_zero, List.take_succ_cons, List.take_zero, Bool.and_true, Bool.true_and, decide_true, decide_false, wrap64_id, aixG_eq, Nat.reduceAdd, Nat.reduceSub, Nat.reduceMul, Nat.reduceLeDiff, Nat.reduceLT, Int.reduceAdd, Int.reduceSub, Int.reduceMul, Int.reduceNeg, Int.reduceLT, Int.reduceLE, Int.reduceGT, Int.reduceGE, Int.reduceToNat, ↓reduceIte, and_self, true_and, and_true, err_eq_nil]
    exact Ev.here rfl
  · have e0 : (c == 0) = false := by simpa using h0
    simp (dsimp := false) (implicitDefEqProofs := false) (disch := omega) only [gv_some, gr_some, gI_int, gB_bool, gS_str, gc_t, gc_f, gi_t, gi_f, gN_eq, gf_t, Option.bind_some, Option.bind_none, Option.map_some, acells_agg, acells_int, acells_bool, acells_str, acells_ptr, acells_sl, acells_nilsl, acells_nilptr, acells_iface, acells_niliface, aptr_ptr, anil_ptr, aextract_0, aextract_1, aextract_2, alenS_sl, alenS_nil, apartOf_agg, apart_t, apart_f, astore_ptr, hset_at0, hset_at, List.set_cons_zero, List.set_cons_succ, set_app, set_app0, aload_ptr, splice_eq, List.drop_nil, List.append_nil, isCell_int, isCell_bool, isCell_str, isCell_ptr, isCell_sl, isCell_nilsl, isCell_nilptr, isCell_iface, isCell_niliface, List.all_cons, List.all_nil, Bool.and_self, hget_at0, hget_at, len_app, List.length_cons, List.length_nil, get_app, get_app0, List.getElem?_cons_zero, List.getElem?_cons_succ, join_some, List.append_assoc, List.cons_append, List.nil_append, Nat.zero_add, Nat.add_zero, chkRd_eq, chkAl_blk, if_true, if_false, Bool.false_eq_true, List.drop_succ_cons, List.drop_zero, List.take_succ_cons, List.take_zero, Bool.and_true, Bool.true_and, decide_true, decide_false, wrap64_id, aixG_eq, Nat.reduceAdd, Nat.reduceSub, Nat.reduceMul, Nat.reduceLeDiff, Nat.reduceLT, Int.reduceAdd, Int.reduceSub, Int.reduceMul, Int.reduceNeg, Int.reduceLT, Int.reduceLE, Int.reduceGT, Int.reduceGE, Int.reduceToNat, ↓reduceIte, and_self, true_and, and_true, err_eq_iface, e0]
    rw [J36_1_eq, place_max]
    have : afillS [(0, 1), (1, 1), (2, 1)] [.int .i64 0, .int .i64 0, .niliface] [(0, .int .i64 c), (1, .int .i64 (place p)), (2, .iface t v)] = some (.agg [.int .i64 c, .int .i64 (place p), .iface t v]) := rfl
    simp (dsimp := false) (implicitDefEqProofs := false) (disch := omega) only [gv_some, gr_some, gI_int, gB_bool, gS_str, gc_t, gc_f, gi_t, gi_f, gN_eq, gf_t, Option.bind_some, Option.bind_none, Option.map_some, acells_agg, acells_int, acells_bool, acells_str, acells_ptr, acells_sl, acells_nilsl, acells_nilptr, acells_iface, acells_niliface, aptr_ptr, anil_ptr, aextract_0, aextract_1, aextract_2, alenS_sl, alenS_nil, apartOf_agg, apart_t, apart_f, astore_ptr, hset_at0, hset_at, List.set_cons_zero, List.set_cons_succ, set_app, set_app0, aload_ptr, splice_eq, List.drop_nil, List.append_nil, isCell_int, isCell_bool, isCell_str, isCell_ptr, isCell_sl, isCell_nilsl, isCell_nilptr, isCell_iface, isCell_niliface, List.all_cons, List.all_nil, Bool.and_self, hget_at0, hget_at, len_app, List.length_cons, List.length_nil, get_app, get_app0, List.getElem?_cons_zero, List.getElem?_cons_succ, join_some, List.append_assoc, List.cons_append, List.nil_append, Nat.zero_add, Nat.add_zero, chkRd_eq, chkAl_blk, if_true, if_false, Bool.false_eq_true, List.drop_succ_cons, List.drop_zero, List.take_succ_cons, List.take_zero, Bool.and_true, Bool.true_and, decide_true, decide_false, wrap64_id, aixG_eq, Nat.reduceAdd, Nat.reduceSub, Nat.reduceMul, Nat.reduceLeDiff, Nat.reduceLT, Int.reduceAdd, Int.reduceSub, Int.reduceMul, Int.reduceNeg, Int.reduceLT, Int.reduceLE, Int.reduceGT, Int.reduceGE, Int.reduceToNat, ↓reduceIte, and_self, true_and, and_true, this]
    rw [if_neg hl]
    exact Ev.done ⟨h.length, false, _, rfl, by rw [hget_at0]; rfl, h0, hc, place_ge p, place_ok hp, hx.app _⟩

theorem lnkTxt_len (k : Lnk) : (lnkTxt k).length ≤ 43 := by
  obtain ⟨c, p⟩ := k
  cases p with
  | none => have := num_len c; simp only [lnkTxt]; omega
  | some p => exact atTxt_len c p
theorem readLoop : ∀ (l : List Lnk) (x : AV) (s : List UInt8) (i : Nat) (h : AHeap), ErrV h l x → i + l.length ≤ 21 → s.length + 50 * l.length ≤ 10000 →
    Ev (J12_1 x s (i : Int) h) h fun v _ => v = .str (s ++ if i = 0 then errTxt l else tailTxt l) := by
  intro l
  induction l with
  | nil =>
    intro x s i h he _ _
    cases he
    rw [J12_1_eq]
    simp (dsimp := false) (implicitDefEqProofs := false) (disch := omega) only [gv_some, gr_some, gI_int, gB_bool, gS_str, gc_t, gc_f, gi_t, gi_f, gN_eq, gf_t, Option.bind_some, Option.bind_none, Option.map_some, acells_agg, acells_int, acells_bool, acells_str, acells_ptr, acells_sl, acells_nilsl, acells_nilptr, acells_iface, acells_niliface, aptr_ptr, anil_ptr, aextract_0, aextract_1, aextract_2, alenS_sl, alenS_nil, apartOf_agg, apart_t, apart_f, astore_ptr, hset_at0, hset_at, List.set_cons_zero, List.set_cons_succ, set_app, set_app0, aload_ptr, splice_eq, List.drop_nil, List.append_nil, isCell_int, isCell_bool, isCell_str, isCell_ptr, isCell_sl, isCell_nilsl, isCell_nilptr, isCell_iface, isCell_niliface, List.all_cons, List.all_nil, Bool.and_self, hget_at0, hget_at, len_app, List.length_cons, List.length_nil, get_app, get_app0, List.getElem?_cons_zero, List.getElem?_cons_succ, join_some, List.append_assoc, List.cons_append, List.nil_append, Nat.zero_add, Nat.add_zero, chkRd_eq, chkAl_blk, if_true, if_false, Bool.false_eq_true, List.drop_succ_cons, List.drop_zero, List.take_succ_cons, List.take_zero, Bool.and_true, Bool.true_and, decide_true, decide_false, wrap64_id, aixG_eq, Nat.reduceAdd, Nat.reduceSub, Nat.reduceMul, Nat.reduceLeDiff, Nat.reduceLT, Int.reduceAdd, Int.reduceSub, Int.reduceMul, Int.reduceNeg, Int.reduceLT, Int.reduceLE, Int.reduceGT, Int.reduceGE, Int.reduceToNat, ↓reduceIte, and_self, true_and, and_true, err_ne_nil]
    rw [J12_3_eq]
    exact Ev.here (by cases i <;> simp [errTxt, tailTxt])
  | cons k l ih =>
    intro x s i h he hi hs
    simp only [List.length_cons] at hi hs
    have lk := lnkTxt_len k
    have main : ∀ s', s'.length + 50 * l.length + 45 ≤ 10000 → Ev (J12_4 x s' (i : Int) h) h fun v _ => v = .str (s' ++ lnkTxt k ++ tailTxt l) := by
      intro s' hs'
      rw [J12_4_eq]
      match k, he with
      | (c, none), ⟨e1, hc, hl⟩ =>
        subst e1; subst hl
        simp (dsimp := false) (implicitDefEqProofs := false) (disch := omega) only [gv_some, gr_some, gI_int, gB_bool, gS_str, gc_t, gc_f, gi_t, gi_f, gN_eq, gf_t, Option.bind_some, Option.bind_none, Option.map_some, acells_agg, acells_int, acells_bool, acells_str, acells_ptr, acells_sl, acells_nilsl, acells_nilptr, acells_iface, acells_niliface, aptr_ptr, anil_ptr, aextract_0, aextract_1, aextract_2, alenS_sl, alenS_nil, apartOf_agg, apart_t, apart_f, astore_ptr, hset_at0, hset_at, List.set_cons_zero, List.set_cons_succ, set_app, set_app0, aload_ptr, splice_eq, List.drop_nil, List.append_nil, isCell_int, isCell_bool, isCell_str, isCell_ptr, isCell_sl, isCell_nilsl, isCell_nilptr, isCell_iface, isCell_niliface, List.all_cons, List.all_nil, Bool.and_self, hget_at0, hget_at, len_app, List.length_cons, List.length_nil, get_app, get_app0, List.getElem?_cons_zero, List.getElem?_cons_succ, join_some, List.append_assoc, List.cons_append, List.nil_append, Nat.zero_add, Nat.add_zero, chkRd_eq, chkAl_blk, if_true, if_false, Bool.false_eq_true, List.drop_succ_cons, List.drop_zero, List.take_succ_cons, List.take_zero, Bool.and_true, Bool.true_and, decide_true, decide_false, wrap64_id, aixG_eq, Nat.reduceAdd, Nat.reduceSub, Nat.reduceMul, Nat.reduceLeDiff, Nat.reduceLT, Int.reduceAdd, Int.reduceSub, Int.reduceMul, Int.reduceNeg, Int.reduceLT, Int.reduceLE, Int.reduceGT, Int.reduceGE, Int.reduceToNat, ↓reduceIte, and_self, true_and, and_true, as_errno_e]
        refine Ev.call (c_e c h hc) fun v g hv => ?_
        subst hv
        simp (dsimp := false) (implicitDefEqProofs := false) (disch := omega) only [gv_some, gr_some, gI_int, gB_bool, gS_str, gc_t, gc_f, gi_t, gi_f, gN_eq, gf_t, Option.bind_some, Option.bind_none, Option.map_some, acells_agg, acells_int, acells_bool, acells_str, acells_ptr, acells_sl, acells_nilsl, acells_nilptr, acells_iface, acells_niliface, aptr_ptr, anil_ptr, aextract_0, aextract_1, aextract_2, alenS_sl, alenS_nil, apartOf_agg, apart_t, apart_f, astore_ptr, hset_at0, hset_at, List.set_cons_zero, List.set_cons_succ, set_app, set_app0, aload_ptr, splice_eq, List.drop_nil, List.append_nil, isCell_int, isCell_bool, isCell_str, isCell_ptr, isCell_sl, isCell_nilsl, isCell_nilptr, isCell_iface, isCell_niliface, List.all_cons, List.all_nil, Bool.and_self, hget_at0, hget_at, len_app, List.length_cons, List.length_nil, get_app, get_app0, List.getElem?_cons_zero, List.getElem?_cons_succ, join_some, List.append_assoc, List.cons_append, List.nil_append, Nat.zero_add, Nat.add_zero, chkRd_eq, chkAl_blk, if_true, if_false, Bool.false_eq_true, List.drop_succ_cons, List.drop_zero, List.take_succ_cons, List.take_zero, Bool.and_true, Bool.true_and, decide_true, decide_false, wrap64_id, aixG_eq, Nat.reduceAdd, Nat.reduceSub, Nat.reduceMul, Nat.reduceLeDiff, Nat.reduceLT, Int.reduceAdd, Int.reduceSub, Int.reduceMul, Int.reduceNeg, Int.reduceLT, Int.reduceLE, Int.reduceGT, Int.reduceGE, Int.reduceToNat, ↓reduceIte, and_self, true_and, and_true]
        rw [astr_add (by simp only [lnkTxt] at lk; omega)]
        simp (dsimp := false) (implicitDefEqProofs := false) (disch := omega) only [gv_some, gr_some, gI_int, gB_bool, gS_str, gc_t, gc_f, gi_t, gi_f, gN_eq, gf_t, Option.bind_some, Option.bind_none, Option.map_some, acells_agg, acells_int, acells_bool, acells_str, acells_ptr, acells_sl, acells_nilsl, acells_nilptr, acells_iface, acells_niliface, aptr_ptr, anil_ptr, aextract_0, aextract_1, aextract_2, alenS_sl, alenS_nil, apartOf_agg, apart_t, apart_f, astore_ptr, hset_at0, hset_at, List.set_cons_zero, List.set_cons_succ, set_app, set_app0, aload_ptr, splice_eq, List.drop_nil, List.append_nil, isCell_int, isCell_bool, isCell_str, isCell_ptr, isCell_sl, isCell_nilsl, isCell_nilptr, isCell_iface, isCell_niliface, List.all_cons, List.all_nil, Bool.and_self, hget_at0, hget_at, len_app, List.length_cons, List.length_nil, get_app, get_app0, List.getElem?_cons_zero, List.getElem?_cons_succ, join_some, List.append_assoc, List.cons_append, List.nil_append, Nat.zero_add, Nat.add_zero, chkRd_eq, chkAl_blk, if_true, if_false, Bool.false_eq_true, List.drop_succ_cons, List.drop_zero, List.take_succ_cons, List.take_zero, Bool.and_true, Bool.true_and, decide_true, decide_false, wrap64_id, aixG_eq, Nat.reduceAdd, Nat.reduceSub, Nat.reduceMul, Nat.reduceLeDiff, Nat.reduceLT, Int.reduceAdd, Int.reduceSub, Int.reduceMul, Int.reduceNeg, Int.reduceLT, Int.reduceLE, Int.reduceGT, Int.reduceGE, Int.reduceToNat, ↓reduceIte, and_self, true_and, and_true]
        exact Ev.done (by simp [lnkTxt, tailTxt])
      | (c, some p), ⟨b, ro, y, e1, hb, h0, hc, hp1, hp, hy⟩ =>
        subst e1
        have f0 : (c == 0) = false := by simpa using h0
        have f1 : decide (p < -1) = false := by simpa using hp1
        have f2 : decide ((i : Int) > 20) = false := by simp; omega
        simp (dsimp := false) (implicitDefEqProofs := false) (disch := omega) only [gv_some, gr_some, gI_int, gB_bool, gS_str, gc_t, gc_f, gi_t, gi_f, gN_eq, gf_t, Option.bind_some, Option.bind_none, Option.map_some, acells_agg, acells_int, acells_bool, acells_str, acells_ptr, acells_sl, acells_nilsl, acells_nilptr, acells_iface, acells_niliface, aptr_ptr, anil_ptr, aextract_0, aextract_1, aextract_2, alenS_sl, alenS_nil, apartOf_agg, apart_t, apart_f, astore_ptr, hset_at0, hset_at, List.set_cons_zero, List.set_cons_succ, set_app, set_app0, aload_ptr, splice_eq, List.drop_nil, List.append_nil, isCell_int, isCell_bool, isCell_str, isCell_ptr, isCell_sl, isCell_nilsl, isCell_nilptr, isCell_iface, isCell_niliface, List.all_cons, List.all_nil, Bool.and_self, hget_at0, hget_at, len_app, List.length_cons, List.length_nil, get_app, get_app0, List.getElem?_cons_zero, List.getElem?_cons_succ, join_some, List.append_assoc, List.cons_append, List.nil_append, Nat.zero_add, Nat.add_zero, chkRd_eq, chkAl_blk, if_true, if_false, Bool.false_eq_true, List.drop_succ_cons, List.drop_zero, List.take_succ_cons, List.take_zero, Bool.and_true, Bool.true_and, decide_true, decide_false, wrap64_id, aixG_eq, Nat.reduceAdd, Nat.reduceSub, Nat.reduceMul, Nat.reduceLeDiff, Nat.reduceLT, Int.reduceAdd, Int.reduceSub, Int.reduceMul, Int.reduceNeg, Int.reduceLT, Int.reduceLE, Int.reduceGT, Int.reduceGE, Int.reduceToNat, ↓reduceIte, and_self, true_and, and_true, as_errno_f, as_fault_f, flt_eq_ptr, hb, f0, f1, f2, J12_5_eq, J12_6_eq]
        refine Ev.call (c_at c p h hc hp) fun v g hv => ?_
        subst hv
        simp only [lnkTxt] at lk
        simp (dsimp := false) (implicitDefEqProofs := false) (disch := omega) only [gv_some, gr_some, gI_int, gB_bool, gS_str, gc_t, gc_f, gi_t, gi_f, gN_eq, gf_t, Option.bind_some, Option.bind_none, Option.map_some, acells_agg, acells_int, acells_bool, acells_str, acells_ptr, acells_sl, acells_nilsl, acells_nilptr, acells_iface, acells_niliface, aptr_ptr, anil_ptr, aextract_0, aextract_1, aextract_2, alenS_sl, alenS_nil, apartOf_agg, apart_t, apart_f, astore_ptr, hset_at0, hset_at, List.set_cons_zero, List.set_cons_succ, set_app, set_app0, aload_ptr, splice_eq, List.drop_nil, List.append_nil, isCell_int, isCell_bool, isCell_str, isCell_ptr, isCell_sl, isCell_nilsl, isCell_nilptr, isCell_iface, isCell_niliface, List.all_cons, List.all_nil, Bool.and_self, hget_at0, hget_at, len_app, List.length_cons, List.length_nil, get_app, get_app0, List.getElem?_cons_zero, List.getElem?_cons_succ, join_some, List.append_assoc, List.cons_append, List.nil_append, Nat.zero_add, Nat.add_zero, chkRd_eq, chkAl_blk, if_true, if_false, Bool.false_eq_true, List.drop_succ_cons, List.drop_zero, List.take_succ_cons, List.take_zero, Bool.and_true, Bool.true_and, decide_true, decide_false, wrap64_id, aixG_eq, Nat.reduceAdd, Nat.reduceSub, Nat.reduceMul, Nat.reduceLeDiff, Nat.reduceLT, Int.reduceAdd, Int.reduceSub, Int.reduceMul, Int.reduceNeg, Int.reduceLT, Int.reduceLE, Int.reduceGT, Int.reduceGE, Int.reduceToNat, ↓reduceIte, and_self, true_and, and_true]
        rw [astr_add (by omega)]
        simp (dsimp := false) (implicitDefEqProofs := false) (disch := omega) only [gv_some, gr_some, gI_int, gB_bool, gS_str, gc_t, gc_f, gi_t, gi_f, gN_eq, gf_t, Option.bind_some, Option.bind_none, Option.map_some, acells_agg, acells_int, acells_bool, acells_str, acells_ptr, acells_sl, acells_nilsl, acells_nilptr, acells_iface, acells_niliface, aptr_ptr, anil_ptr, aextract_0, aextract_1, aextract_2, alenS_sl, alenS_nil, apartOf_agg, apart_t, apart_f, astore_ptr, hset_at0, hset_at, List.set_cons_zero, List.set_cons_succ, set_app, set_app0, aload_ptr, splice_eq, List.drop_nil, List.append_nil, isCell_int, isCell_bool, isCell_str, isCell_ptr, isCell_sl, isCell_nilsl, isCell_nilptr, isCell_iface, isCell_niliface, List.all_cons, List.all_nil, Bool.and_self, hget_at0, hget_at, len_app, List.length_cons, List.length_nil, get_app, get_app0, List.getElem?_cons_zero, List.getElem?_cons_succ, join_some, List.append_assoc, List.cons_append, List.nil_append, Nat.zero_add, Nat.add_zero, chkRd_eq, chkAl_blk, if_true, if_false, Bool.false_eq_true, List.drop_succ_cons, List.drop_zero, List.take_succ_cons, List.take_zero, Bool.and_true, Bool.true_and, decide_true, decide_false, wrap64_id, aixG_eq, Nat.reduceAdd, Nat.reduceSub, Nat.reduceMul, Nat.reduceLeDiff, Nat.reduceLT, Int.reduceAdd, Int.reduceSub, Int.reduceMul, Int.reduceNeg, Int.reduceLT, Int.reduceLE, Int.reduceGT, Int.reduceGE, Int.reduceToNat, ↓reduceIte, and_self, true_and, and_true, hget_app hb]
        rw [J12_7_eq]
        have e5 : IntKind.i64.wrap ((i : Int) + 1) = ((i + 1 : Nat) : Int) := by rw [wrap64_id (by omega) (by omega)]; rfl
        rw [e5]
        refine (Ev.base (ih y (s' ++ atTxt c p) (i + 1) (h ++ g) (hy.app g) (by omega) (by simp; omega))).mono fun v g' hv => ?_
        rw [hv]; simp [lnkTxt]
    rw [J12_1_eq]
    have hx : ∃ t v, x = .iface t v := by
      rcases he.isnil with ⟨_, e⟩ | ⟨e, _⟩
      · cases e
      · exact e
    obtain ⟨t, v, rfl⟩ := hx
    simp (dsimp := false) (implicitDefEqProofs := false) (disch := omega) only [gv_some, gr_some, gI_int, gB_bool, gS_str, gc_t, gc_f, gi_t, gi_f, gN_eq, gf_t, Option.bind_some, Option.bind_none, Option.map_some, acells_agg, acells_int, acells_bool, acells_str, acells_ptr, acells_sl, acells_nilsl, acells_nilptr, acells_iface, acells_niliface, aptr_ptr, anil_ptr, aextract_0, aextract_1, aextract_2, alenS_sl, alenS_nil, apartOf_agg, apart_t, apart_f, astore_ptr, hset_at0, hset_at, List.set_cons_zero, List.set_cons_succ, set_app, set_app0, aload_ptr, splice_eq, List.drop_nil, List.append_nil, isCell_int, isCell_bool, isCell_str, isCell_ptr, isCell_sl, isCell_nilsl, isCell_nilptr, isCell_iface, isCell_niliface, List.all_cons, List.all_nil, Bool.and_self, hget_at0, hget_at, len_app, List.length_cons, List.length_nil, get_app, get_app0, List.getElem?_cons_zero, List.getElem?_cons_succ, join_some, List.append_assoc, List.cons_append, List.nil_append, Nat.zero_add, Nat.add_zero, chkRd_eq, chkAl_blk, if_true, if_false, Bool.false_eq_true, List.drop_succ_cons, List.drop_zero, List.take_succ_cons, List.take_zero, Bool.and_true, Bool.true_and, decide_true, decide_false, wrap64_id, aixG_eq, Nat.reduceAdd, Nat.reduceSub, Nat.reduceMul, Nat.reduceLeDiff, Nat.reduceLT, Int.reduceAdd, Int.reduceSub, Int.reduceMul, Int.reduceNeg, Int.reduceLT, Int.reduceLE, Int.reduceGT, Int.reduceGE, Int.reduceToNat, ↓reduceIte, and_self, true_and, and_true, err_ne_iface, J12_2_eq]
    refine Ev.cdd (fun hi0 => ?_) fun hi0 => ?_
    · rw [astr_add (by simp; omega)]
      simp (dsimp := false) (implicitDefEqProofs := false) (disch := omega) only [gv_some, gr_some, gI_int, gB_bool, gS_str, gc_t, gc_f, gi_t, gi_f, gN_eq, gf_t, Option.bind_some, Option.bind_none, Option.map_some, acells_agg, acells_int, acells_bool, acells_str, acells_ptr, acells_sl, acells_nilsl, acells_nilptr, acells_iface, acells_niliface, aptr_ptr, anil_ptr, aextract_0, aextract_1, aextract_2, alenS_sl, alenS_nil, apartOf_agg, apart_t, apart_f, astore_ptr, hset_at0, hset_at, List.set_cons_zero, List.set_cons_succ, set_app, set_app0, aload_ptr, splice_eq, List.drop_nil, List.append_nil, isCell_int, isCell_bool, isCell_str, isCell_ptr, isCell_sl, isCell_nilsl, isCell_nilptr, isCell_iface, isCell_niliface, List.all_cons, List.all_nil, Bool.and_self, hget_at0, hget_at, len_app, List.length_cons, List.length_nil, get_app, get_app0, List.getElem?_cons_zero, List.getElem?_cons_succ, join_some, List.append_assoc, List.cons_append, List.nil_append, Nat.zero_add, Nat.add_zero, chkRd_eq, chkAl_blk, if_true, if_false, Bool.false_eq_true, List.drop_succ_cons, List.drop_zero, List.take_succ_cons, List.take_zero, Bool.and_true, Bool.true_and, decide_true, decide_false, wrap64_id, aixG_eq, Nat.reduceAdd, Nat.reduceSub, Nat.reduceMul, Nat.reduceLeDiff, Nat.reduceLT, Int.reduceAdd, Int.reduceSub, Int.reduceMul, Int.reduceNeg, Int.reduceLT, Int.reduceLE, Int.reduceGT, Int.reduceGE, Int.reduceToNat, ↓reduceIte, and_self, true_and, and_true]
      refine (main (s ++ [62]) (by simp; omega)).mono fun v g hv => ?_
      rw [hv, if_neg (by omega)]; simp [tailTxt]
    · refine (main s (by omega)).mono fun v g hv => ?_
      rw [hv, if_pos (by omega)]; simp [errTxt]
/-- Read answers an error's text. -/
theorem c_read (l : List Lnk) (x : AV) (h : AHeap) (he : ErrV h l x) (hl : l.length ≤ 20) : Ev (acall Try.prog Nt 12 [x] h) h fun v _ => v = .str (errTxt l) := by
  rw [E12]
  exact (readLoop l x [] 0 h he (by omega) (by simp; omega)).mono fun v g hv => by rw [hv]; simp
end Go.Ab
end
section
/-
  Functions of the program as equations: written by program (wip/tools/prt.py).
-/
namespace Go.Ab
open Go.Proofs
/-! 23: escapement/table.Check -/
noncomputable def K23 : Kont := kend Try.prog 125 Try.f23.results.toList
noncomputable def K23_1 (lp : Loop) (jn : Join) : Kont := kseqJ jn (codeJ Try.prog Nt lp jn 125 (nat' [true, true] A23) (cat [true, true] C23)) (some [1]) K23
noncomputable def K23_2 (lp : Loop) (jn : Join) : Kont := kblock 0 none (K23_1 lp jn)
noncomputable def K23_3 (lp : Loop) (jn : Join) : Kont := kseqJ jn (codeJ Try.prog Nt lp jn 125 (nat' [true, true, true] A23) (cat [true, true, true] C23)) (some [1]) K23
noncomputable def K23_4 (lp : Loop) (jn : Join) : Kont := kblock 1 none (K23_3 lp jn)
noncomputable def K23_5 (lp : Loop) (jn : Join) : Kont := kloop (lp (some [1, 64, 65, 66]) (codeJ Try.prog Nt lp jn 125 (nat' [true, true, false, true, false, false] A23) (cat [true, true, false, true, false, false] C23))) (some [1, 64, 65, 66]) (K23_4 lp jn)
noncomputable def K23_6 (lp : Loop) (jn : Join) : Kont := kseqJ jn (codeJ Try.prog Nt lp jn 125 (nat' [true, true, true, true] A23) (cat [true, true, true, true] C23)) (some [1]) K23
noncomputable def K23_7 (lp : Loop) (jn : Join) : Kont := kblock 3 none (K23_6 lp jn)
noncomputable def K23_8 (lp : Loop) (jn : Join) : Kont := kloop (lp (some [1, 80, 81, 82]) (codeJ Try.prog Nt lp jn 125 (nat' [true, true, true, false, true, false, false] A23) (cat [true, true, true, false, true, false, false] C23))) (some [1, 80, 81, 82]) (K23_7 lp jn)
noncomputable def K23_9 (lp : Loop) (jn : Join) : Kont := kseqJ jn (codeJ Try.prog Nt lp jn 125 (nat' [true, true, true, true, true] A23) (cat [true, true, true, true, true] C23)) (some []) K23
noncomputable def K23_10 (lp : Loop) (jn : Join) : Kont := kblock 5 none (K23_9 lp jn)
noncomputable def K23_11 (lp : Loop) (jn : Join) : Kont := kloop (lp (some [1, 97, 98, 99]) (codeJ Try.prog Nt lp jn 125 (nat' [true, true, true, true, false, true, false, false] A23) (cat [true, true, true, true, false, true, false, false] C23))) (some [1, 97, 98, 99]) (K23_10 lp jn)
noncomputable def K23_12 (lp : Loop) (jn : Join) : Kont := kseqJ jn (codeJ Try.prog Nt lp jn 125 (nat' [true, true, true, true, false, true, false, false, true, true, true] A23) (cat [true, true, true, true, false, true, false, false, true, true, true] C23)) (some [1, 97, 98, 99]) (K23_11 lp jn)
noncomputable def K23_13 (lp : Loop) (jn : Join) : Kont := kblock 6 none (K23_12 lp jn)
noncomputable def J23_1' (lp : Loop) (jn : Join) (x1 : Nat) (x9 : Bool) (h : AHeap) : Res := jn (codeJ Try.prog Nt lp jn 125 (nat' [true, false, false, true] A23) (cat [true, false, false, true] C23)) (envOf [(1, (.ptr x1 0)), (9, (.bool x9))]) h (K23_2 lp jn)
noncomputable def J23_1 (x1 : Nat) (x9 : Bool) (h : AHeap) : Res := J23_1' aloop (fun s => s) x1 x9 h
noncomputable def J23_2' (lp : Loop) (jn : Join) (x1 : Nat) (x45 : Bool) (h : AHeap) : Res := jn (codeJ Try.prog Nt lp jn 125 (nat' [true, false, false, true, true, true] A23) (cat [true, false, false, true, true, true] C23)) (envOf [(1, (.ptr x1 0)), (45, (.bool x45))]) h (K23_2 lp jn)
noncomputable def J23_2 (x1 : Nat) (x45 : Bool) (h : AHeap) : Res := J23_2' aloop (fun s => s) x1 x45 h
noncomputable def J23_3' (lp : Loop) (jn : Join) (x1 : Nat) (h : AHeap) : Res := jn (codeJ Try.prog Nt lp jn 125 (nat' [true, true] A23) (cat [true, true] C23)) (envOf [(1, (.ptr x1 0))]) h K23
noncomputable def J23_3 (x1 : Nat) (h : AHeap) : Res := J23_3' aloop (fun s => s) x1 h
noncomputable def J23_4' (lp : Loop) (jn : Join) (x1 : Nat) (x64 : AV) (x65 : Int) (x66 : Int) (h : AHeap) : Res := lp (some [1, 64, 65, 66]) (codeJ Try.prog Nt lp jn 125 (nat' [true, true, false, true, false, false] A23) (cat [true, true, false, true, false, false] C23)) (envOf [(1, (.ptr x1 0)), (64, x64), (65, (.int .i64 x65)), (66, (.int .i64 x66))]) h (K23_4 lp jn)
noncomputable def J23_4 (x1 : Nat) (x64 : AV) (x65 : Int) (x66 : Int) (h : AHeap) : Res := J23_4' aloop (fun s => s) x1 x64 x65 x66 h
noncomputable def J23_5' (lp : Loop) (jn : Join) (x1 : Nat) (x64 : AV) (x65 : Int) (x66 : Int) (h : AHeap) : Res := jn (codeJ Try.prog Nt lp jn 125 (nat' [true, true, false, true, false, false, true, true] A23) (cat [true, true, false, true, false, false, true, true] C23)) (envOf [(1, (.ptr x1 0)), (64, x64), (65, (.int .i64 x65)), (66, (.int .i64 x66))]) h (K23_5 lp jn)
noncomputable def J23_5 (x1 : Nat) (x64 : AV) (x65 : Int) (x66 : Int) (h : AHeap) : Res := J23_5' aloop (fun s => s) x1 x64 x65 x66 h
noncomputable def J23_6' (lp : Loop) (jn : Join) (x1 : Nat) (h : AHeap) : Res := jn (codeJ Try.prog Nt lp jn 125 (nat' [true, true, true] A23) (cat [true, true, true] C23)) (envOf [(1, (.ptr x1 0))]) h K23
noncomputable def J23_6 (x1 : Nat) (h : AHeap) : Res := J23_6' aloop (fun s => s) x1 h
noncomputable def J23_7' (lp : Loop) (jn : Join) (x1 : Nat) (x64 : AV) (x65 : Int) (x66 : Int) (h : AHeap) : Res := jn (codeJ Try.prog Nt lp jn 125 (nat' [true, true, false, true, false, false, true, true, true] A23) (cat [true, true, false, true, false, false, true, true, true] C23)) (envOf [(1, (.ptr x1 0)), (64, x64), (65, (.int .i64 x65)), (66, (.int .i64 x66))]) h (K23_5 lp jn)
noncomputable def J23_7 (x1 : Nat) (x64 : AV) (x65 : Int) (x66 : Int) (h : AHeap) : Res := J23_7' aloop (fun s => s) x1 x64 x65 x66 h
noncomputable def J23_8' (lp : Loop) (jn : Join) (x1 : Nat) (x80 : AV) (x81 : Int) (x82 : Int) (h : AHeap) : Res := lp (some [1, 80, 81, 82]) (codeJ Try.prog Nt lp jn 125 (nat' [true, true, true, false, true, false, false] A23) (cat [true, true, true, false, true, false, false] C23)) (envOf [(1, (.ptr x1 0)), (80, x80), (81, (.int .i64 x81)), (82, (.int .i64 x82))]) h (K23_7 lp jn)
noncomputable def J23_8 (x1 : Nat) (x80 : AV) (x81 : Int) (x82 : Int) (h : AHeap) : Res := J23_8' aloop (fun s => s) x1 x80 x81 x82 h
noncomputable def J23_9' (lp : Loop) (jn : Join) (x1 : Nat) (x80 : AV) (x81 : Int) (x82 : Int) (h : AHeap) : Res := jn (codeJ Try.prog Nt lp jn 125 (nat' [true, true, true, false, true, false, false, true, true] A23) (cat [true, true, true, false, true, false, false, true, true] C23)) (envOf [(1, (.ptr x1 0)), (80, x80), (81, (.int .i64 x81)), (82, (.int .i64 x82))]) h (K23_8 lp jn)
noncomputable def J23_9 (x1 : Nat) (x80 : AV) (x81 : Int) (x82 : Int) (h : AHeap) : Res := J23_9' aloop (fun s => s) x1 x80 x81 x82 h
noncomputable def J23_10' (lp : Loop) (jn : Join) (x1 : Nat) (h : AHeap) : Res := jn (codeJ Try.prog Nt lp jn 125 (nat' [true, true, true, true] A23) (cat [true, true, true, true] C23)) (envOf [(1, (.ptr x1 0))]) h K23
noncomputable def J23_10 (x1 : Nat) (h : AHeap) : Res := J23_10' aloop (fun s => s) x1 h
noncomputable def J23_11' (lp : Loop) (jn : Join) (x1 : Nat) (x80 : AV) (x81 : Int) (x82 : Int) (h : AHeap) : Res := jn (codeJ Try.prog Nt lp jn 125 (nat' [true, true, true, false, true, false, false, true, true, true] A23) (cat [true, true, true, false, true, false, false, true, true, true] C23)) (envOf [(1, (.ptr x1 0)), (80, x80), (81, (.int .i64 x81)), (82, (.int .i64 x82))]) h (K23_8 lp jn)
noncomputable def J23_11 (x1 : Nat) (x80 : AV) (x81 : Int) (x82 : Int) (h : AHeap) : Res := J23_11' aloop (fun s => s) x1 x80 x81 x82 h
noncomputable def J23_12' (lp : Loop) (jn : Join) (x1 : Nat) (x97 : AV) (x98 : Int) (x99 : Int) (h : AHeap) : Res := lp (some [1, 97, 98, 99]) (codeJ Try.prog Nt lp jn 125 (nat' [true, true, true, true, false, true, false, false] A23) (cat [true, true, true, true, false, true, false, false] C23)) (envOf [(1, (.ptr x1 0)), (97, x97), (98, (.int .i64 x98)), (99, (.int .i64 x99))]) h (K23_10 lp jn)
noncomputable def J23_12 (x1 : Nat) (x97 : AV) (x98 : Int) (x99 : Int) (h : AHeap) : Res := J23_12' aloop (fun s => s) x1 x97 x98 x99 h
noncomputable def J23_13' (lp : Loop) (jn : Join) (x1 : Nat) (x97 : AV) (x98 : Int) (x99 : Int) (h : AHeap) : Res := jn (codeJ Try.prog Nt lp jn 125 (nat' [true, true, true, true, false, true, false, false, true, true] A23) (cat [true, true, true, true, false, true, false, false, true, true] C23)) (envOf [(1, (.ptr x1 0)), (97, x97), (98, (.int .i64 x98)), (99, (.int .i64 x99))]) h (K23_11 lp jn)
noncomputable def J23_13 (x1 : Nat) (x97 : AV) (x98 : Int) (x99 : Int) (h : AHeap) : Res := J23_13' aloop (fun s => s) x1 x97 x98 x99 h
noncomputable def J23_14' (lp : Loop) (jn : Join)  (h : AHeap) : Res := jn (codeJ Try.prog Nt lp jn 125 (nat' [true, true, true, true, true] A23) (cat [true, true, true, true, true] C23)) (envOf []) h K23
noncomputable def J23_14  (h : AHeap) : Res := J23_14' aloop (fun s => s)  h
noncomputable def J23_15' (lp : Loop) (jn : Join) (x1 : Nat) (x7 : Int) (x97 : AV) (x98 : Int) (x99 : Int) (x121 : Bool) (h : AHeap) : Res := jn (codeJ Try.prog Nt lp jn 125 (nat' [true, true, true, true, false, true, false, false, true, true, false, false, true, true] A23) (cat [true, true, true, true, false, true, false, false, true, true, false, false, true, true] C23)) (envOf [(1, (.ptr x1 0)), (7, (.int .i64 x7)), (97, x97), (98, (.int .i64 x98)), (99, (.int .i64 x99)), (121, (.bool x121))]) h (K23_13 lp jn)
noncomputable def J23_15 (x1 : Nat) (x7 : Int) (x97 : AV) (x98 : Int) (x99 : Int) (x121 : Bool) (h : AHeap) : Res := J23_15' aloop (fun s => s) x1 x7 x97 x98 x99 x121 h
noncomputable def J23_16' (lp : Loop) (jn : Join) (x1 : Nat) (x97 : AV) (x98 : Int) (x99 : Int) (h : AHeap) : Res := jn (codeJ Try.prog Nt lp jn 125 (nat' [true, true, true, true, false, true, false, false, true, true, true] A23) (cat [true, true, true, true, false, true, false, false, true, true, true] C23)) (envOf [(1, (.ptr x1 0)), (97, x97), (98, (.int .i64 x98)), (99, (.int .i64 x99))]) h (K23_11 lp jn)
noncomputable def J23_16 (x1 : Nat) (x97 : AV) (x98 : Int) (x99 : Int) (h : AHeap) : Res := J23_16' aloop (fun s => s) x1 x97 x98 x99 h
theorem J23_1_g (lp : Loop) (jn : Join) (x1 : Nat) (x9 : Bool) (h : AHeap) : codeJ Try.prog Nt lp jn 125 (nat' [true, false, false, true] A23) (cat [true, false, false, true] C23) (envOf [(1, (.ptr x1 0)), (9, (.bool x9))]) h (K23_2 lp jn) = (gc x9 (gr (acall Try.prog Nt 30 [(.int .i64 2), (.int .i64 (-1))] h) fun r46 h47 => some (r46, h47)) (gv (aload false 1 (.ptr x1 8) h) fun v48 => gv (alenS v48) fun m49 => gi (decide ((m49 : Int) > 12)) (J23_2' lp jn x1 true h) (gv (aload false 1 (.ptr x1 9) h) fun v50 => gv (alenS v50) fun m51 => gi (decide ((m51 : Int) > 24)) (J23_2' lp jn x1 true h) (gv (aload false 1 (.ptr x1 10) h) fun v52 => gv (alenS v52) fun m53 => J23_2' lp jn x1 (decide ((m53 : Int) > 24)) h)))) := by kernel_rfl
theorem J23_1_eq (x1 : Nat) (x9 : Bool) (h : AHeap) : J23_1 x1 x9 h = (gc x9 (gr (acall Try.prog Nt 30 [(.int .i64 2), (.int .i64 (-1))] h) fun r46 h47 => some (r46, h47)) (gv (aload false 1 (.ptr x1 8) h) fun v48 => gv (alenS v48) fun m49 => gi (decide ((m49 : Int) > 12)) (J23_2 x1 true h) (gv (aload false 1 (.ptr x1 9) h) fun v50 => gv (alenS v50) fun m51 => gi (decide ((m51 : Int) > 24)) (J23_2 x1 true h) (gv (aload false 1 (.ptr x1 10) h) fun v52 => gv (alenS v52) fun m53 => J23_2 x1 (decide ((m53 : Int) > 24)) h)))) := J23_1_g aloop (fun s => s) x1 x9 h
theorem J23_2_g (lp : Loop) (jn : Join) (x1 : Nat) (x45 : Bool) (h : AHeap) : codeJ Try.prog Nt lp jn 125 (nat' [true, false, false, true, true, true] A23) (cat [true, false, false, true, true, true] C23) (envOf [(1, (.ptr x1 0)), (45, (.bool x45))]) h (K23_2 lp jn) = (gc x45 (gr (acall Try.prog Nt 30 [(.int .i64 3), (.int .i64 (-1))] h) fun r54 h55 => some (r54, h55)) (J23_3' lp jn x1 h)) := by kernel_rfl
theorem J23_2_eq (x1 : Nat) (x45 : Bool) (h : AHeap) : J23_2 x1 x45 h = (gc x45 (gr (acall Try.prog Nt 30 [(.int .i64 3), (.int .i64 (-1))] h) fun r54 h55 => some (r54, h55)) (J23_3 x1 h)) := J23_2_g aloop (fun s => s) x1 x45 h
theorem J23_3_g (lp : Loop) (jn : Join) (x1 : Nat) (h : AHeap) : codeJ Try.prog Nt lp jn 125 (nat' [true, true] A23) (cat [true, true] C23) (envOf [(1, (.ptr x1 0))]) h K23 = (gv (aload false 1 (.ptr x1 8) h) fun v56 => gv (alenS v56) fun m57 => J23_4' lp jn x1 v56 (m57 : Int) 0 h) := by kernel_rfl
theorem J23_3_eq (x1 : Nat) (h : AHeap) : J23_3 x1 h = (gv (aload false 1 (.ptr x1 8) h) fun v56 => gv (alenS v56) fun m57 => J23_4 x1 v56 (m57 : Int) 0 h) := J23_3_g aloop (fun s => s) x1 h
theorem J23_4_g (lp : Loop) (jn : Join) (x1 : Nat) (x64 : AV) (x65 : Int) (x66 : Int) (h : AHeap) : codeJ Try.prog Nt lp jn 125 (nat' [true, true, false, true, false, false] A23) (cat [true, true, false, true, false, false] C23) (envOf [(1, (.ptr x1 0)), (64, x64), (65, (.int .i64 x65)), (66, (.int .i64 x66))]) h (kloop (lp (some [1, 64, 65, 66]) (codeJ Try.prog Nt lp jn 125 (nat' [true, true, false, true, false, false] A23) (cat [true, true, false, true, false, false] C23))) (some [1, 64, 65, 66]) (K23_4 lp jn)) = (gc (decide (x66 < x65)) (J23_5' lp jn x1 x64 x65 x66 h) (J23_6' lp jn x1 h)) := by kernel_rfl
theorem J23_4_eq (x1 : Nat) (x64 : AV) (x65 : Int) (x66 : Int) (h : AHeap) : J23_4 x1 x64 x65 x66 h = (gc (decide (x66 < x65)) (J23_5 x1 x64 x65 x66 h) (J23_6 x1 h)) := (aloop_at (some [1, 64, 65, 66]) (nat' [true, true, false, true, false, false] A23) (cat [true, true, false, true, false, false] C23) (envOf [(1, (.ptr x1 0)), (64, x64), (65, (.int .i64 x65)), (66, (.int .i64 x66))]) h (K23_4 aloop (fun s => s))).trans (J23_4_g aloop (fun s => s) x1 x64 x65 x66 h)
theorem J23_5_g (lp : Loop) (jn : Join) (x1 : Nat) (x64 : AV) (x65 : Int) (x66 : Int) (h : AHeap) : codeJ Try.prog Nt lp jn 125 (nat' [true, true, false, true, false, false, true, true] A23) (cat [true, true, false, true, false, false, true, true] C23) (envOf [(1, (.ptr x1 0)), (64, x64), (65, (.int .i64 x65)), (66, (.int .i64 x66))]) h (K23_5 lp jn) = (gv (aixS 9 x64 x66) fun v58 => gv (aload true 9 v58 h) fun v59 => gN h [(.int .i64 0), (.int .i64 0), (.int .i64 0), (.int .i64 0), (.int .i64 0), (.int .u8 0), (.int .u8 0), (.int .u8 0), (.int .u8 0)] fun b60 h61 => gv (astore true 9 (.ptr b60 0) v59 h61) fun h62 => gv (aload true 9 (.ptr b60 0) h62) fun v63 => gv (aload false 1 (.ptr x1 0) h62) fun v64 => gI .i64 v64 fun n65 => gr (acall Try.prog Nt 45 [v63, (.int .i64 n65)] h62) fun r66 h67 => gB r66 fun b68 => gc (!b68) (gr (acall Try.prog Nt 30 [(.int .i64 2), (.int .i64 x66)] h67) fun r69 h70 => some (r69, h70)) (J23_7' lp jn x1 x64 x65 x66 h67)) := by kernel_rfl
theorem J23_5_eq (x1 : Nat) (x64 : AV) (x65 : Int) (x66 : Int) (h : AHeap) : J23_5 x1 x64 x65 x66 h = (gv (aixS 9 x64 x66) fun v58 => gv (aload true 9 v58 h) fun v59 => gN h [(.int .i64 0), (.int .i64 0), (.int .i64 0), (.int .i64 0), (.int .i64 0), (.int .u8 0), (.int .u8 0), (.int .u8 0), (.int .u8 0)] fun b60 h61 => gv (astore true 9 (.ptr b60 0) v59 h61) fun h62 => gv (aload true 9 (.ptr b60 0) h62) fun v63 => gv (aload false 1 (.ptr x1 0) h62) fun v64 => gI .i64 v64 fun n65 => gr (acall Try.prog Nt 45 [v63, (.int .i64 n65)] h62) fun r66 h67 => gB r66 fun b68 => gc (!b68) (gr (acall Try.prog Nt 30 [(.int .i64 2), (.int .i64 x66)] h67) fun r69 h70 => some (r69, h70)) (J23_7 x1 x64 x65 x66 h67)) := J23_5_g aloop (fun s => s) x1 x64 x65 x66 h
theorem J23_6_g (lp : Loop) (jn : Join) (x1 : Nat) (h : AHeap) : codeJ Try.prog Nt lp jn 125 (nat' [true, true, true] A23) (cat [true, true, true] C23) (envOf [(1, (.ptr x1 0))]) h K23 = (gv (aload false 1 (.ptr x1 9) h) fun v71 => gv (alenS v71) fun m72 => J23_8' lp jn x1 v71 (m72 : Int) 0 h) := by kernel_rfl
theorem J23_6_eq (x1 : Nat) (h : AHeap) : J23_6 x1 h = (gv (aload false 1 (.ptr x1 9) h) fun v71 => gv (alenS v71) fun m72 => J23_8 x1 v71 (m72 : Int) 0 h) := J23_6_g aloop (fun s => s) x1 h
theorem J23_7_g (lp : Loop) (jn : Join) (x1 : Nat) (x64 : AV) (x65 : Int) (x66 : Int) (h : AHeap) : codeJ Try.prog Nt lp jn 125 (nat' [true, true, false, true, false, false, true, true, true] A23) (cat [true, true, false, true, false, false, true, true, true] C23) (envOf [(1, (.ptr x1 0)), (64, x64), (65, (.int .i64 x65)), (66, (.int .i64 x66))]) h (K23_5 lp jn) = (J23_4' lp jn x1 x64 x65 (IntKind.i64.wrap (x66 + 1)) h) := by kernel_rfl
theorem J23_7_eq (x1 : Nat) (x64 : AV) (x65 : Int) (x66 : Int) (h : AHeap) : J23_7 x1 x64 x65 x66 h = (J23_4 x1 x64 x65 (IntKind.i64.wrap (x66 + 1)) h) := J23_7_g aloop (fun s => s) x1 x64 x65 x66 h
theorem J23_8_g (lp : Loop) (jn : Join) (x1 : Nat) (x80 : AV) (x81 : Int) (x82 : Int) (h : AHeap) : codeJ Try.prog Nt lp jn 125 (nat' [true, true, true, false, true, false, false] A23) (cat [true, true, true, false, true, false, false] C23) (envOf [(1, (.ptr x1 0)), (80, x80), (81, (.int .i64 x81)), (82, (.int .i64 x82))]) h (kloop (lp (some [1, 80, 81, 82]) (codeJ Try.prog Nt lp jn 125 (nat' [true, true, true, false, true, false, false] A23) (cat [true, true, true, false, true, false, false] C23))) (some [1, 80, 81, 82]) (K23_7 lp jn)) = (gc (decide (x82 < x81)) (J23_9' lp jn x1 x80 x81 x82 h) (J23_10' lp jn x1 h)) := by kernel_rfl
theorem J23_8_eq (x1 : Nat) (x80 : AV) (x81 : Int) (x82 : Int) (h : AHeap) : J23_8 x1 x80 x81 x82 h = (gc (decide (x82 < x81)) (J23_9 x1 x80 x81 x82 h) (J23_10 x1 h)) := (aloop_at (some [1, 80, 81, 82]) (nat' [true, true, true, false, true, false, false] A23) (cat [true, true, true, false, true, false, false] C23) (envOf [(1, (.ptr x1 0)), (80, x80), (81, (.int .i64 x81)), (82, (.int .i64 x82))]) h (K23_7 aloop (fun s => s))).trans (J23_8_g aloop (fun s => s) x1 x80 x81 x82 h)
theorem J23_9_g (lp : Loop) (jn : Join) (x1 : Nat) (x80 : AV) (x81 : Int) (x82 : Int) (h : AHeap) : codeJ Try.prog Nt lp jn 125 (nat' [true, true, true, false, true, false, false, true, true] A23) (cat [true, true, true, false, true, false, false, true, true] C23) (envOf [(1, (.ptr x1 0)), (80, x80), (81, (.int .i64 x81)), (82, (.int .i64 x82))]) h (K23_8 lp jn) = (gv (aixS 6 x80 x82) fun v73 => gv (aload true 6 v73 h) fun v74 => gN h [(.int .i64 0), (.int .u8 0), (.bool false), (.int .i64 0), (.int .i64 0), (.int .i64 0)] fun b75 h76 => gv (astore true 6 (.ptr b75 0) v74 h76) fun h77 => gv (aload true 6 (.ptr b75 0) h77) fun v78 => gv (aload false 1 (.ptr x1 8) h77) fun v79 => gv (alenS v79) fun m80 => gr (acall Try.prog Nt 46 [v78, (.int .i64 (m80 : Int))] h77) fun r81 h82 => gB r81 fun b83 => gc (!b83) (gr (acall Try.prog Nt 30 [(.int .i64 8), (.int .i64 x82)] h82) fun r84 h85 => some (r84, h85)) (J23_11' lp jn x1 x80 x81 x82 h82)) := by kernel_rfl
theorem J23_9_eq (x1 : Nat) (x80 : AV) (x81 : Int) (x82 : Int) (h : AHeap) : J23_9 x1 x80 x81 x82 h = (gv (aixS 6 x80 x82) fun v73 => gv (aload true 6 v73 h) fun v74 => gN h [(.int .i64 0), (.int .u8 0), (.bool false), (.int .i64 0), (.int .i64 0), (.int .i64 0)] fun b75 h76 => gv (astore true 6 (.ptr b75 0) v74 h76) fun h77 => gv (aload true 6 (.ptr b75 0) h77) fun v78 => gv (aload false 1 (.ptr x1 8) h77) fun v79 => gv (alenS v79) fun m80 => gr (acall Try.prog Nt 46 [v78, (.int .i64 (m80 : Int))] h77) fun r81 h82 => gB r81 fun b83 => gc (!b83) (gr (acall Try.prog Nt 30 [(.int .i64 8), (.int .i64 x82)] h82) fun r84 h85 => some (r84, h85)) (J23_11 x1 x80 x81 x82 h82)) := J23_9_g aloop (fun s => s) x1 x80 x81 x82 h
theorem J23_10_g (lp : Loop) (jn : Join) (x1 : Nat) (h : AHeap) : codeJ Try.prog Nt lp jn 125 (nat' [true, true, true, true] A23) (cat [true, true, true, true] C23) (envOf [(1, (.ptr x1 0))]) h K23 = (gv (aload false 1 (.ptr x1 10) h) fun v86 => gv (alenS v86) fun m87 => J23_12' lp jn x1 v86 (m87 : Int) 0 h) := by kernel_rfl
theorem J23_10_eq (x1 : Nat) (h : AHeap) : J23_10 x1 h = (gv (aload false 1 (.ptr x1 10) h) fun v86 => gv (alenS v86) fun m87 => J23_12 x1 v86 (m87 : Int) 0 h) := J23_10_g aloop (fun s => s) x1 h
theorem J23_11_g (lp : Loop) (jn : Join) (x1 : Nat) (x80 : AV) (x81 : Int) (x82 : Int) (h : AHeap) : codeJ Try.prog Nt lp jn 125 (nat' [true, true, true, false, true, false, false, true, true, true] A23) (cat [true, true, true, false, true, false, false, true, true, true] C23) (envOf [(1, (.ptr x1 0)), (80, x80), (81, (.int .i64 x81)), (82, (.int .i64 x82))]) h (K23_8 lp jn) = (J23_8' lp jn x1 x80 x81 (IntKind.i64.wrap (x82 + 1)) h) := by kernel_rfl
theorem J23_11_eq (x1 : Nat) (x80 : AV) (x81 : Int) (x82 : Int) (h : AHeap) : J23_11 x1 x80 x81 x82 h = (J23_8 x1 x80 x81 (IntKind.i64.wrap (x82 + 1)) h) := J23_11_g aloop (fun s => s) x1 x80 x81 x82 h
theorem J23_12_g (lp : Loop) (jn : Join) (x1 : Nat) (x97 : AV) (x98 : Int) (x99 : Int) (h : AHeap) : codeJ Try.prog Nt lp jn 125 (nat' [true, true, true, true, false, true, false, false] A23) (cat [true, true, true, true, false, true, false, false] C23) (envOf [(1, (.ptr x1 0)), (97, x97), (98, (.int .i64 x98)), (99, (.int .i64 x99))]) h (kloop (lp (some [1, 97, 98, 99]) (codeJ Try.prog Nt lp jn 125 (nat' [true, true, true, true, false, true, false, false] A23) (cat [true, true, true, true, false, true, false, false] C23))) (some [1, 97, 98, 99]) (K23_10 lp jn)) = (gc (decide (x99 < x98)) (J23_13' lp jn x1 x97 x98 x99 h) (J23_14' lp jn h)) := by kernel_rfl
theorem J23_12_eq (x1 : Nat) (x97 : AV) (x98 : Int) (x99 : Int) (h : AHeap) : J23_12 x1 x97 x98 x99 h = (gc (decide (x99 < x98)) (J23_13 x1 x97 x98 x99 h) (J23_14 h)) := (aloop_at (some [1, 97, 98, 99]) (nat' [true, true, true, true, false, true, false, false] A23) (cat [true, true, true, true, false, true, false, false] C23) (envOf [(1, (.ptr x1 0)), (97, x97), (98, (.int .i64 x98)), (99, (.int .i64 x99))]) h (K23_10 aloop (fun s => s))).trans (J23_12_g aloop (fun s => s) x1 x97 x98 x99 h)
theorem J23_13_g (lp : Loop) (jn : Join) (x1 : Nat) (x97 : AV) (x98 : Int) (x99 : Int) (h : AHeap) : codeJ Try.prog Nt lp jn 125 (nat' [true, true, true, true, false, true, false, false, true, true] A23) (cat [true, true, true, true, false, true, false, false, true, true] C23) (envOf [(1, (.ptr x1 0)), (97, x97), (98, (.int .i64 x98)), (99, (.int .i64 x99))]) h (K23_11 lp jn) = (gv (aixS 2 x97 x99) fun v88 => gv (aload true 2 v88 h) fun v89 => gN h [(.int .i64 0), (.int .i64 0)] fun b90 h91 => gv (astore true 2 (.ptr b90 0) v89 h91) fun h92 => gv (aload false 1 (.ptr b90 0) h92) fun v93 => gI .i64 v93 fun n94 => gv (aload false 1 (.ptr x1 9) h92) fun v95 => gv (alenS v95) fun m96 => gr (acall Try.prog Nt 44 [(.int .i64 n94), (.int .i64 0), (.int .i64 (IntKind.i64.wrap ((m96 : Int) - 1)))] h92) fun r97 h98 => gB r97 fun b99 => gi (!b99) (J23_15' lp jn x1 x99 x97 x98 x99 true h98) (gv (aload false 1 (.ptr b90 1) h98) fun v100 => gI .i64 v100 fun n101 => gv (aload false 1 (.ptr x1 9) h98) fun v102 => gv (alenS v102) fun m103 => gr (acall Try.prog Nt 44 [(.int .i64 n101), (.int .i64 0), (.int .i64 (IntKind.i64.wrap ((m103 : Int) - 1)))] h98) fun r104 h105 => gB r104 fun b106 => J23_15' lp jn x1 x99 x97 x98 x99 (!b106) h105)) := by kernel_rfl
theorem J23_13_eq (x1 : Nat) (x97 : AV) (x98 : Int) (x99 : Int) (h : AHeap) : J23_13 x1 x97 x98 x99 h = (gv (aixS 2 x97 x99) fun v88 => gv (aload true 2 v88 h) fun v89 => gN h [(.int .i64 0), (.int .i64 0)] fun b90 h91 => gv (astore true 2 (.ptr b90 0) v89 h91) fun h92 => gv (aload false 1 (.ptr b90 0) h92) fun v93 => gI .i64 v93 fun n94 => gv (aload false 1 (.ptr x1 9) h92) fun v95 => gv (alenS v95) fun m96 => gr (acall Try.prog Nt 44 [(.int .i64 n94), (.int .i64 0), (.int .i64 (IntKind.i64.wrap ((m96 : Int) - 1)))] h92) fun r97 h98 => gB r97 fun b99 => gi (!b99) (J23_15 x1 x99 x97 x98 x99 true h98) (gv (aload false 1 (.ptr b90 1) h98) fun v100 => gI .i64 v100 fun n101 => gv (aload false 1 (.ptr x1 9) h98) fun v102 => gv (alenS v102) fun m103 => gr (acall Try.prog Nt 44 [(.int .i64 n101), (.int .i64 0), (.int .i64 (IntKind.i64.wrap ((m103 : Int) - 1)))] h98) fun r104 h105 => gB r104 fun b106 => J23_15 x1 x99 x97 x98 x99 (!b106) h105)) := J23_13_g aloop (fun s => s) x1 x97 x98 x99 h
theorem J23_14_g (lp : Loop) (jn : Join)  (h : AHeap) : codeJ Try.prog Nt lp jn 125 (nat' [true, true, true, true, true] A23) (cat [true, true, true, true, true] C23) (envOf []) h K23 = (some (.niliface, h)) := by kernel_rfl
theorem J23_14_eq  (h : AHeap) : J23_14  h = (some (.niliface, h)) := J23_14_g aloop (fun s => s)  h
theorem J23_15_g (lp : Loop) (jn : Join) (x1 : Nat) (x7 : Int) (x97 : AV) (x98 : Int) (x99 : Int) (x121 : Bool) (h : AHeap) : codeJ Try.prog Nt lp jn 125 (nat' [true, true, true, true, false, true, false, false, true, true, false, false, true, true] A23) (cat [true, true, true, true, false, true, false, false, true, true, false, false, true, true] C23) (envOf [(1, (.ptr x1 0)), (7, (.int .i64 x7)), (97, x97), (98, (.int .i64 x98)), (99, (.int .i64 x99)), (121, (.bool x121))]) h (K23_13 lp jn) = (gc x121 (gr (acall Try.prog Nt 30 [(.int .i64 72), (.int .i64 x7)] h) fun r107 h108 => some (r107, h108)) (J23_16' lp jn x1 x97 x98 x99 h)) := by kernel_rfl
theorem J23_15_eq (x1 : Nat) (x7 : Int) (x97 : AV) (x98 : Int) (x99 : Int) (x121 : Bool) (h : AHeap) : J23_15 x1 x7 x97 x98 x99 x121 h = (gc x121 (gr (acall Try.prog Nt 30 [(.int .i64 72), (.int .i64 x7)] h) fun r107 h108 => some (r107, h108)) (J23_16 x1 x97 x98 x99 h)) := J23_15_g aloop (fun s => s) x1 x7 x97 x98 x99 x121 h
theorem J23_16_g (lp : Loop) (jn : Join) (x1 : Nat) (x97 : AV) (x98 : Int) (x99 : Int) (h : AHeap) : codeJ Try.prog Nt lp jn 125 (nat' [true, true, true, true, false, true, false, false, true, true, true] A23) (cat [true, true, true, true, false, true, false, false, true, true, true] C23) (envOf [(1, (.ptr x1 0)), (97, x97), (98, (.int .i64 x98)), (99, (.int .i64 x99))]) h (K23_11 lp jn) = (J23_12' lp jn x1 x97 x98 (IntKind.i64.wrap (x99 + 1)) h) := by kernel_rfl
theorem J23_16_eq (x1 : Nat) (x97 : AV) (x98 : Int) (x99 : Int) (h : AHeap) : J23_16 x1 x97 x98 x99 h = (J23_12 x1 x97 x98 (IntKind.i64.wrap (x99 + 1)) h) := J23_16_g aloop (fun s => s) x1 x97 x98 x99 h
theorem E23_g (lp : Loop) (jn : Join) (x0 : AV) (h : AHeap) : codeJ Try.prog Nt lp jn 125 (Nt 23) C23 (args [x0]) h K23 = (gv (acells x0) fun cs1 => gN h cs1 fun b2 h3 => gv (aload false 1 (.ptr b2 0) h3) fun v4 => gI .i64 v4 fun n5 => gr (acall Try.prog Nt 44 [(.int .i64 n5), (.int .i64 1), (.int .i64 7)] h3) fun r6 h7 => gB r6 fun b8 => gc (!b8) (J23_1' lp jn b2 (!b8) h7) (gv (aload false 1 (.ptr b2 1) h7) fun v9 => gI .i64 v9 fun n10 => gr (acall Try.prog Nt 44 [(.int .i64 n10), (.int .i64 0), (.int .i64 2)] h7) fun r11 h12 => gB r11 fun b13 => gc (!b13) (J23_1' lp jn b2 (!b13) h12) (gv (aload false 1 (.ptr b2 2) h12) fun v14 => gI .i64 v14 fun n15 => gr (acall Try.prog Nt 44 [(.int .i64 n15), (.int .i64 1), (.int .i64 16777216)] h12) fun r16 h17 => gB r16 fun b18 => gc (!b18) (J23_1' lp jn b2 (!b18) h17) (gv (aload false 1 (.ptr b2 3) h17) fun v19 => gI .i64 v19 fun n20 => gr (acall Try.prog Nt 44 [(.int .i64 n20), (.int .i64 0), (.int .i64 16777216)] h17) fun r21 h22 => gB r21 fun b23 => gc (!b23) (J23_1' lp jn b2 (!b23) h22) (gv (aload false 1 (.ptr b2 4) h22) fun v24 => gI .i64 v24 fun n25 => gr (acall Try.prog Nt 44 [(.int .i64 n25), (.int .i64 0), (.int .i64 200)] h22) fun r26 h27 => gB r26 fun b28 => gc (!b28) (J23_1' lp jn b2 (!b28) h27) (gv (aload false 1 (.ptr b2 6) h27) fun v29 => gI .i64 v29 fun n30 => gr (acall Try.prog Nt 44 [(.int .i64 n30), (.int .i64 0), (.int .i64 1048576)] h27) fun r31 h32 => gB r31 fun b33 => gc (!b33) (J23_1' lp jn b2 (!b33) h32) (gv (aload false 1 (.ptr b2 5) h32) fun v34 => gI .i64 v34 fun n35 => gv (aload false 1 (.ptr b2 6) h32) fun v36 => gI .i64 v36 fun n37 => gr (acall Try.prog Nt 44 [(.int .i64 n35), (.int .i64 0), (.int .i64 n37)] h32) fun r38 h39 => gB r38 fun b40 => gc (!b40) (J23_1' lp jn b2 (!b40) h39) (gv (aload false 1 (.ptr b2 7) h39) fun v41 => gI .i64 v41 fun n42 => gr (acall Try.prog Nt 44 [(.int .i64 n42), (.int .i64 0), (.int .i64 16777216)] h39) fun r43 h44 => gB r43 fun b45 => J23_1' lp jn b2 (!b45) h44)))))))) := by kernel_rfl
theorem E23 (x0 : AV) (h : AHeap) : acall Try.prog Nt 23 [x0] h = (gv (acells x0) fun cs1 => gN h cs1 fun b2 h3 => gv (aload false 1 (.ptr b2 0) h3) fun v4 => gI .i64 v4 fun n5 => gr (acall Try.prog Nt 44 [(.int .i64 n5), (.int .i64 1), (.int .i64 7)] h3) fun r6 h7 => gB r6 fun b8 => gc (!b8) (J23_1 b2 (!b8) h7) (gv (aload false 1 (.ptr b2 1) h7) fun v9 => gI .i64 v9 fun n10 => gr (acall Try.prog Nt 44 [(.int .i64 n10), (.int .i64 0), (.int .i64 2)] h7) fun r11 h12 => gB r11 fun b13 => gc (!b13) (J23_1 b2 (!b13) h12) (gv (aload false 1 (.ptr b2 2) h12) fun v14 => gI .i64 v14 fun n15 => gr (acall Try.prog Nt 44 [(.int .i64 n15), (.int .i64 1), (.int .i64 16777216)] h12) fun r16 h17 => gB r16 fun b18 => gc (!b18) (J23_1 b2 (!b18) h17) (gv (aload false 1 (.ptr b2 3) h17) fun v19 => gI .i64 v19 fun n20 => gr (acall Try.prog Nt 44 [(.int .i64 n20), (.int .i64 0), (.int .i64 16777216)] h17) fun r21 h22 => gB r21 fun b23 => gc (!b23) (J23_1 b2 (!b23) h22) (gv (aload false 1 (.ptr b2 4) h22) fun v24 => gI .i64 v24 fun n25 => gr (acall Try.prog Nt 44 [(.int .i64 n25), (.int .i64 0), (.int .i64 200)] h22) fun r26 h27 => gB r26 fun b28 => gc (!b28) (J23_1 b2 (!b28) h27) (gv (aload false 1 (.ptr b2 6) h27) fun v29 => gI .i64 v29 fun n30 => gr (acall Try.prog Nt 44 [(.int .i64 n30), (.int .i64 0), (.int .i64 1048576)] h27) fun r31 h32 => gB r31 fun b33 => gc (!b33) (J23_1 b2 (!b33) h32) (gv (aload false 1 (.ptr b2 5) h32) fun v34 => gI .i64 v34 fun n35 => gv (aload false 1 (.ptr b2 6) h32) fun v36 => gI .i64 v36 fun n37 => gr (acall Try.prog Nt 44 [(.int .i64 n35), (.int .i64 0), (.int .i64 n37)] h32) fun r38 h39 => gB r38 fun b40 => gc (!b40) (J23_1 b2 (!b40) h39) (gv (aload false 1 (.ptr b2 7) h39) fun v41 => gI .i64 v41 fun n42 => gr (acall Try.prog Nt 44 [(.int .i64 n42), (.int .i64 0), (.int .i64 16777216)] h39) fun r43 h44 => gB r43 fun b45 => J23_1 b2 (!b45) h44)))))))) := (acall_at Try.func23 _ h 125 rfl (c := C23) rfl).trans (E23_g aloop (fun s => s) x0 h)
end Go.Ab
end
