/-
  Functions of the program as equations, and their contracts.
-/
import Derived.Test.YtgcpchdmgjiejaaProg
import Derived.KernelRfl
import Derived.Test.YtgcpchdmgjiejaaGa1
import Derived.Test.YtgcpchdmgjiejaaGa2
import Derived.Test.YtgcpchdmgjiejaaGa3
set_option linter.all false
section
/-
  The check of bytes: a byte at a time, and a bit at a time.
-/
namespace Go.Ab

def poly : BitVec 32 := 0xedb88320#32
def st1 (r : BitVec 32) : BitVec 32 := (r >>> 1) ^^^ (if r.getLsbD 0 then poly else 0#32)
def refb (r : BitVec 32) (b : Bool) : BitVec 32 := (r >>> 1) ^^^ (if (r.getLsbD 0 ^^ b) then poly else 0#32)
theorem st1_xor (r X : BitVec 32) : st1 (r ^^^ X) = refb r (X.getLsbD 0) ^^^ (X >>> 1) := by
  unfold st1 refb
  rw [BitVec.ushiftRight_xor_distrib, BitVec.getLsbD_xor]
  rw [BitVec.xor_assoc, BitVec.xor_assoc]
  congr 1
  rw [BitVec.xor_comm]
def stN : Nat → BitVec 32 → BitVec 32
  | 0, r => r
  | n + 1, r => stN n (st1 r)
/-- Bits of X from the lowest. -/
def refN : Nat → BitVec 32 → BitVec 32 → BitVec 32
  | 0, r, _ => r
  | n + 1, r, X => refN n (refb r (X.getLsbD 0)) (X >>> 1)
theorem stN_xor : ∀ (n : Nat) (r X : BitVec 32), stN n (r ^^^ X) = refN n r X ^^^ (X >>> n)
  | 0, r, X => by simp [stN, refN]
  | n + 1, r, X => by
    unfold stN refN
    rw [st1_xor, stN_xor n, ← BitVec.shiftRight_add, Nat.add_comm 1 n]
def crcB : BitVec 32 → List Int → BitVec 32
  | r, [] => r
  | r, n :: l => crcB (stN 8 (r ^^^ BitVec.ofInt 32 n)) l
theorem stN8 (r : BitVec 32) (n : Int) (h0 : 0 ≤ n) (h1 : n < 256) : stN 8 (r ^^^ BitVec.ofInt 32 n) = refN 8 r (BitVec.ofInt 32 n) := by
  rw [stN_xor]
  have : BitVec.ofInt 32 n >>> 8 = 0#32 := by
    apply BitVec.eq_of_toNat_eq
    rw [BitVec.toNat_ushiftRight, BitVec.toNat_ofInt, Nat.shiftRight_eq_div_pow]
    simp
    omega
  rw [this, BitVec.xor_zero]
/-- A register as a number. -/
def rg (r : BitVec 32) : Int := (r.toNat : Int)
theorem ofInt_rg (r : BitVec 32) : BitVec.ofInt 32 (rg r) = r := by
  unfold rg
  simp
theorem wrap_rg (r : BitVec 32) : IntKind.u32.wrap (rg r) = rg r := by
  have := r.isLt
  unfold rg
  rw [wrapu32_id (by omega) (by omega)]
theorem rg_xor (r X : BitVec 32) (a b : Int) (ea : BitVec.ofInt 32 a = r) (eb : BitVec.ofInt 32 b = X) : ixor .u32 a b = rg (r ^^^ X) := by
  have e : ixor .u32 a b = IntKind.u32.wrap ((BitVec.ofInt 32 a ^^^ BitVec.ofInt 32 b).toNat : Int) := rfl
  rw [e, ea, eb]
  exact wrap_rg _
theorem rg_and (r X : BitVec 32) (a b : Int) (ea : BitVec.ofInt 32 a = r) (eb : BitVec.ofInt 32 b = X) : iand .u32 a b = rg (r &&& X) := by
  have e : iand .u32 a b = IntKind.u32.wrap ((BitVec.ofInt 32 a &&& BitVec.ofInt 32 b).toNat : Int) := rfl
  rw [e, ea, eb]
  exact wrap_rg _
theorem rg_shr (r : BitVec 32) : ishr .u32 (rg r) 1 = rg (r >>> 1) := by
  unfold ishr rg
  have : (min (1 : Int).toNat (IntKind.bits .u32)) = 1 := by decide
  rw [this, BitVec.toNat_ushiftRight, Nat.shiftRight_eq_div_pow]
  rw [Int.fdiv_eq_ediv_of_nonneg _ (by decide)]
  simp
theorem and1 (r : BitVec 32) : r &&& 1#32 = if r.getLsbD 0 then 1#32 else 0#32 := by
  apply BitVec.eq_of_getLsbD_eq
  intro i hi
  rw [BitVec.getLsbD_and]
  by_cases h : i = 0
  · subst h
    cases r.getLsbD 0 <;> simp
  · cases r.getLsbD 0 <;> simp [h, BitVec.getLsbD_one]
end Go.Ab
end
section
/-
  The notes for the print: written by program (wip/tools/prt.py).
-/
namespace Go.Ab
open Go.Proofs
noncomputable def C3 : Code := Try.f3.body.getD .skip
noncomputable def A3 : AN := (.mk none .d (.mk (some [1]) .d (.mk (some [1]) (.mk (some [1, 19]) .d .d) .d)))
noncomputable def C4 : Code := Try.f4.body.getD .skip
noncomputable def A4 : AN := .d
noncomputable def C5 : Code := Try.f5.body.getD .skip
noncomputable def A5 : AN := (.mk none .d (.mk none .d (.mk (some [1, 2]) (.mk none .d (.mk none (.mk (some [1, 2, 3]) (.mk (some [1, 2, 3]) .d (.mk (some [1, 2, 3]) .d .d)) .d) .d)) .d)))
noncomputable def C6 : Code := Try.f6.body.getD .skip
noncomputable def A6 : AN := (.mk none .d (.mk (some [1]) .d (.mk none .d (.mk none .d (.mk none .d (.mk none .d (.mk none .d (.mk (some [1, 5]) (.mk none .d (.mk none (.mk (some [1, 5, 35, 36, 37]) (.mk none .d (.mk (some [1, 5, 35, 36, 37]) .d (.mk (some [1, 5, 35, 36, 37]) .d .d))) .d) .d)) (.mk none .d (.mk none .d (.mk none .d (.mk none .d (.mk none .d (.mk (some [5]) (.mk none .d (.mk none (.mk (some [5, 75, 76, 77]) (.mk none .d (.mk (some [5, 75, 76, 77]) .d (.mk (some [5, 75, 76, 77]) .d .d))) .d) .d)) .d))))))))))))))
noncomputable def C7 : Code := Try.f7.body.getD .skip
noncomputable def A7 : AN := (.mk none .d (.mk none .d (.mk (some [1]) .d (.mk none .d (.mk none .d (.mk none .d (.mk (some [1, 5]) (.mk none .d (.mk none (.mk (some [1, 5, 6]) (.mk (some [1, 5, 6]) .d (.mk (some [1, 5, 6]) .d .d)) .d) .d)) (.mk none .d (.mk none .d (.mk none .d (.mk none .d (.mk (some [5]) (.mk none .d (.mk none (.mk (some [1, 5, 7]) (.mk (some [1, 5, 7]) .d (.mk (some [1, 5, 7]) .d .d)) .d) .d)) .d))))))))))))
noncomputable def C8 : Code := Try.f8.body.getD .skip
noncomputable def A8 : AN := (.mk none .d (.mk none .d (.mk (some [3]) (.mk none .d (.mk none (.mk (some [0, 3, 4]) (.mk (some [0, 3, 4]) .d (.mk (some [0, 3, 4]) (.mk none (.mk (some [0, 3, 4]) .d (.mk none .d (.mk none (.mk none .d (.mk none .d (.mk none .d (.mk none (.mk none .d (.mk (some [3, 4, 6]) (.mk (some [3, 4, 6, 46]) .d .d) .d)) .d)))) .d))) .d) .d)) .d) .d)) .d)))
noncomputable def C9 : Code := Try.f9.body.getD .skip
noncomputable def A9 : AN := (.mk none .d (.mk (some [1]) .d (.mk (some [1]) (.mk (some [1, 21]) .d .d) (.mk (some [1]) (.mk none .d (.mk none (.mk (some [1, 24, 25, 26]) (.mk none .d (.mk (some [1, 24, 25, 26]) .d (.mk (some [1, 24, 25, 26]) (.mk none (.mk none .d (.mk none (.mk (some [1, 3, 4, 24, 25, 26, 31]) .d .d) .d)) .d) .d))) .d) .d)) (.mk (some [1]) .d (.mk (some []) (.mk none .d (.mk none (.mk (some [57, 58, 59]) (.mk none .d (.mk (some [57, 58, 59]) .d (.mk (some [57, 58, 59]) (.mk none (.mk none .d (.mk (some [6, 57, 58, 59, 81]) .d .d)) .d) .d))) .d) .d)) .d))))))
noncomputable def C10 : Code := Try.f10.body.getD .skip
noncomputable def A10 : AN := (.mk none .d (.mk (some [1]) .d (.mk (some [1]) (.mk (some [1, 21]) .d .d) (.mk (some [1]) (.mk none .d (.mk none (.mk (some [1, 3]) (.mk (some [1, 3]) .d (.mk (some [1, 3]) (.mk none (.mk (some [1, 3]) (.mk (some [1, 3, 45]) .d .d) .d) .d) .d)) .d) .d)) (.mk none .d (.mk (some [1, 4]) .d (.mk (some [1, 4, 5]) .d (.mk (some [1]) (.mk (some [1, 108]) .d .d) (.mk (some []) (.mk none .d (.mk none (.mk (some [1, 6]) (.mk (some [1, 6]) .d (.mk (some [1, 6]) (.mk none (.mk none .d (.mk (some [1, 6, 139]) .d .d)) .d) .d)) .d) .d)) .d)))))))))
noncomputable def C11 : Code := Try.f11.body.getD .skip
noncomputable def A11 : AN := (.mk none .d (.mk (some [2, 3]) (.mk (some [2, 3, 31]) .d .d) .d))
noncomputable def C12 : Code := Try.f12.body.getD .skip
noncomputable def A12 : AN := (.mk none .d (.mk (some [0, 1, 2]) .d .d))
noncomputable def C13 : Code := Try.f13.body.getD .skip
noncomputable def A13 : AN := (.mk (some [0, 1, 2]) .d (.mk none .d (.mk none (.mk (some [0, 1]) (.mk none (.mk (some [0, 1]) (.mk none (.mk (some [0, 1]) (.mk none (.mk (some [0, 1]) (.mk none (.mk none (.mk (some [0, 1, 8]) .d (.mk (some [0, 1, 8]) .d (.mk (some [0, 1, 8]) .d .d))) .d) .d) .d) .d) .d) .d) .d) .d) .d) .d)))
noncomputable def C14 : Code := Try.f14.body.getD .skip
noncomputable def A14 : AN := (.mk (some [0, 1]) .d .d)
noncomputable def C15 : Code := Try.f15.body.getD .skip
noncomputable def A15 : AN := .d
noncomputable def C16 : Code := Try.f16.body.getD .skip
noncomputable def A16 : AN := (.mk none .d (.mk (some [0]) .d .d))
noncomputable def C17 : Code := Try.f17.body.getD .skip
noncomputable def A17 : AN := (.mk none .d (.mk (some [0, 1, 2]) .d .d))
noncomputable def C18 : Code := Try.f18.body.getD .skip
noncomputable def A18 : AN := (.mk none .d (.mk none .d (.mk (some [5]) (.mk none .d (.mk none (.mk (some [0, 1, 5, 6]) (.mk (some [0, 1, 5, 6]) (.mk (some [0, 1, 5, 6, 14]) .d .d) (.mk (some [0, 1, 5, 6]) .d .d)) .d) .d)) .d)))
noncomputable def C19 : Code := Try.f19.body.getD .skip
noncomputable def A19 : AN := (.mk none .d (.mk (some [0]) .d .d))
noncomputable def C20 : Code := Try.f20.body.getD .skip
noncomputable def A20 : AN := (.mk none .d (.mk none .d (.mk none .d (.mk (some [4]) (.mk none .d (.mk none (.mk (some [3, 4, 5]) (.mk (some [3, 4, 5]) .d (.mk (some [3, 4, 5]) .d .d)) .d) .d)) .d))))
noncomputable def C21 : Code := Try.f21.body.getD .skip
noncomputable def A21 : AN := .d
noncomputable def C22 : Code := Try.f22.body.getD .skip
noncomputable def A22 : AN := (.mk none .d (.mk (some [0, 1]) .d .d))
noncomputable def C23 : Code := Try.f23.body.getD .skip
noncomputable def A23 : AN := (.mk none .d (.mk (some [0, 1]) .d .d))
noncomputable def C24 : Code := Try.f24.body.getD .skip
noncomputable def A24 : AN := (.mk none .d (.mk (some []) (.mk none (.mk none .d (.mk none .d (.mk (some [8]) (.mk (some [1, 8]) .d (.mk none .d (.mk none .d (.mk none .d (.mk (some [1, 8]) .d .d))))) .d))) .d) .d))
noncomputable def C25 : Code := Try.f25.body.getD .skip
noncomputable def A25 : AN := (.mk none .d (.mk (some [0, 1]) .d (.mk (some []) (.mk none .d (.mk none (.mk (some [0, 1, 5]) (.mk (some [0, 1, 5]) .d (.mk (some [0, 1, 5]) (.mk none (.mk (some [0, 1, 5, 42]) .d .d) .d) .d)) .d) .d)) .d)))
noncomputable def C26 : Code := Try.f26.body.getD .skip
noncomputable def A26 : AN := (.mk none .d (.mk (some [0, 1]) .d (.mk (some []) (.mk none .d (.mk none (.mk (some [0, 1, 5]) (.mk (some [0, 1, 5]) .d (.mk (some [0, 1, 5]) .d .d)) .d) .d)) .d)))
noncomputable def C27 : Code := Try.f27.body.getD .skip
noncomputable def A27 : AN := .d
noncomputable def C28 : Code := Try.f28.body.getD .skip
noncomputable def A28 : AN := (.mk none .d (.mk none .d (.mk (some [3]) (.mk none .d (.mk none (.mk (some [0, 3, 4]) (.mk (some [0, 3, 4]) .d (.mk (some [0, 3, 4]) .d .d)) .d) .d)) .d)))
noncomputable def C29 : Code := Try.f29.body.getD .skip
noncomputable def A29 : AN := (.mk none .d (.mk (some [0]) .d (.mk (some [0]) .d (.mk none .d (.mk none (.mk (some [0, 3]) .d .d) .d)))))
noncomputable def C30 : Code := Try.f30.body.getD .skip
noncomputable def A30 : AN := (.mk none .d (.mk (some [0]) (.mk none .d (.mk none (.mk (some [0, 7, 8, 9]) (.mk none .d (.mk (some [0, 7, 8, 9]) .d (.mk (some [0, 7, 8, 9]) (.mk none (.mk none .d (.mk none .d (.mk none .d (.mk none (.mk (some [0, 7, 8, 9, 17]) (.mk none .d (.mk (some [0, 7, 8, 9, 17]) .d (.mk (some [0, 7, 8, 9, 17]) .d .d))) .d) .d)))) .d) .d))) .d) .d)) .d))
noncomputable def Nt : Notes := { an := fun f => if f = 3 then A3 else if f = 4 then A4 else if f = 5 then A5 else if f = 6 then A6 else if f = 7 then A7 else if f = 8 then A8 else if f = 9 then A9 else if f = 10 then A10 else if f = 11 then A11 else if f = 12 then A12 else if f = 13 then A13 else if f = 14 then A14 else if f = 15 then A15 else if f = 16 then A16 else if f = 17 then A17 else if f = 18 then A18 else if f = 19 then A19 else if f = 20 then A20 else if f = 21 then A21 else if f = 22 then A22 else if f = 23 then A23 else if f = 24 then A24 else if f = 25 then A25 else if f = 26 then A26 else if f = 27 then A27 else if f = 28 then A28 else if f = 29 then A29 else if f = 30 then A30 else .d, ext := fun _ => none }
theorem extSim : ExtSim Try.prog Nt := ExtSim.none fun _ => rfl
end Go.Ab
end
section
/-
  Functions of the program as equations: written by program (wip/tools/prt.py).
-/
namespace Go.Ab
open Go.Proofs
/-! 13: (*escapement/wire.Writer).Put -/
noncomputable def K13 : Kont := kend Try.prog 64 Try.f13.results.toList
noncomputable def K13_1 (lp : Loop) (jn : Join) : Kont := kblock 0 none K13
noncomputable def K13_2 (lp : Loop) (jn : Join) : Kont := kseqJ jn (codeJ Try.prog Nt lp jn 64 (nat' [true, true, false, true] A13) (cat [true, true, false, true] C13)) (some [0, 1]) (K13_1 lp jn)
noncomputable def K13_3 (lp : Loop) (jn : Join) : Kont := kblock 4 none (K13_2 lp jn)
noncomputable def K13_4 (lp : Loop) (jn : Join) : Kont := kseqJ jn (codeJ Try.prog Nt lp jn 64 (nat' [true, true, false, false, false, true] A13) (cat [true, true, false, false, false, true] C13)) (some [0, 1]) (K13_3 lp jn)
noncomputable def K13_5 (lp : Loop) (jn : Join) : Kont := kblock 3 none (K13_4 lp jn)
noncomputable def K13_6 (lp : Loop) (jn : Join) : Kont := kseqJ jn (codeJ Try.prog Nt lp jn 64 (nat' [true, true, false, false, false, false, false, true] A13) (cat [true, true, false, false, false, false, false, true] C13)) (some [0, 1]) (K13_5 lp jn)
noncomputable def K13_7 (lp : Loop) (jn : Join) : Kont := kblock 2 none (K13_6 lp jn)
noncomputable def K13_8 (lp : Loop) (jn : Join) : Kont := kseqJ jn (codeJ Try.prog Nt lp jn 64 (nat' [true, true, false, false, false, false, false, false, false, true] A13) (cat [true, true, false, false, false, false, false, false, false, true] C13)) (some [0, 1]) (K13_7 lp jn)
noncomputable def K13_9 (lp : Loop) (jn : Join) : Kont := kblock 1 none (K13_8 lp jn)
noncomputable def K13_10 (lp : Loop) (jn : Join) : Kont := kseqJ jn (codeJ Try.prog Nt lp jn 64 (nat' [true, true, false, false, false, false, false, false, false, false, false, true] A13) (cat [true, true, false, false, false, false, false, false, false, false, false, true] C13)) none (K13_9 lp jn)
noncomputable def J13_1' (lp : Loop) (jn : Join) (x0 : AV) (x1 : Int) (x2 : Int) (h : AHeap) : Res := jn (codeJ Try.prog Nt lp jn 64 (nat' [true] A13) (cat [true] C13)) (envOf [(0, x0), (1, (.int .u32 x1)), (2, (.int .i64 x2))]) h K13
noncomputable def J13_1 (x0 : AV) (x1 : Int) (x2 : Int) (h : AHeap) : Res := J13_1' aloop (fun s => s) x0 x1 x2 h
noncomputable def J13_2' (lp : Loop) (jn : Join) (x0 : AV) (x1 : Int) (h : AHeap) : Res := jn (codeJ Try.prog Nt lp jn 64 (nat' [true, true, false, false, false, false, false, false, false, true] A13) (cat [true, true, false, false, false, false, false, false, false, true] C13)) (envOf [(0, x0), (1, (.int .u32 x1))]) h (K13_7 lp jn)
noncomputable def J13_2 (x0 : AV) (x1 : Int) (h : AHeap) : Res := J13_2' aloop (fun s => s) x0 x1 h
noncomputable def J13_3' (lp : Loop) (jn : Join) (x0 : AV) (x1 : Int) (x8 : Int) (h : AHeap) : Res := jn (codeJ Try.prog Nt lp jn 64 (nat' [true, true, false, false, false, false, false, false, false, false, false, false, true] A13) (cat [true, true, false, false, false, false, false, false, false, false, false, false, true] C13)) (envOf [(0, x0), (1, (.int .u32 x1)), (8, (.int .i64 x8))]) h (K13_10 lp jn)
noncomputable def J13_3 (x0 : AV) (x1 : Int) (x8 : Int) (h : AHeap) : Res := J13_3' aloop (fun s => s) x0 x1 x8 h
noncomputable def J13_4' (lp : Loop) (jn : Join) (x0 : AV) (x1 : Int) (h : AHeap) : Res := jn (codeJ Try.prog Nt lp jn 64 (nat' [true, true, false, false, false, false, false, true] A13) (cat [true, true, false, false, false, false, false, true] C13)) (envOf [(0, x0), (1, (.int .u32 x1))]) h (K13_5 lp jn)
noncomputable def J13_4 (x0 : AV) (x1 : Int) (h : AHeap) : Res := J13_4' aloop (fun s => s) x0 x1 h
noncomputable def J13_5' (lp : Loop) (jn : Join) (x0 : AV) (x1 : Int) (x8 : Int) (h : AHeap) : Res := jn (codeJ Try.prog Nt lp jn 64 (nat' [true, true, false, false, false, false, false, false, false, false, false, false, true, true] A13) (cat [true, true, false, false, false, false, false, false, false, false, false, false, true, true] C13)) (envOf [(0, x0), (1, (.int .u32 x1)), (8, (.int .i64 x8))]) h (K13_10 lp jn)
noncomputable def J13_5 (x0 : AV) (x1 : Int) (x8 : Int) (h : AHeap) : Res := J13_5' aloop (fun s => s) x0 x1 x8 h
noncomputable def J13_6' (lp : Loop) (jn : Join) (x0 : AV) (x1 : Int) (h : AHeap) : Res := jn (codeJ Try.prog Nt lp jn 64 (nat' [true, true, false, false, false, true] A13) (cat [true, true, false, false, false, true] C13)) (envOf [(0, x0), (1, (.int .u32 x1))]) h (K13_3 lp jn)
noncomputable def J13_6 (x0 : AV) (x1 : Int) (h : AHeap) : Res := J13_6' aloop (fun s => s) x0 x1 h
noncomputable def J13_7' (lp : Loop) (jn : Join) (x0 : AV) (x1 : Int) (x8 : Int) (h : AHeap) : Res := jn (codeJ Try.prog Nt lp jn 64 (nat' [true, true, false, false, false, false, false, false, false, false, false, false, true, true, true] A13) (cat [true, true, false, false, false, false, false, false, false, false, false, false, true, true, true] C13)) (envOf [(0, x0), (1, (.int .u32 x1)), (8, (.int .i64 x8))]) h (K13_10 lp jn)
noncomputable def J13_7 (x0 : AV) (x1 : Int) (x8 : Int) (h : AHeap) : Res := J13_7' aloop (fun s => s) x0 x1 x8 h
noncomputable def J13_8' (lp : Loop) (jn : Join) (x0 : AV) (x1 : Int) (h : AHeap) : Res := jn (codeJ Try.prog Nt lp jn 64 (nat' [true, true, false, true] A13) (cat [true, true, false, true] C13)) (envOf [(0, x0), (1, (.int .u32 x1))]) h (K13_1 lp jn)
noncomputable def J13_8 (x0 : AV) (x1 : Int) (h : AHeap) : Res := J13_8' aloop (fun s => s) x0 x1 h
theorem J13_1_g (lp : Loop) (jn : Join) (x0 : AV) (x1 : Int) (x2 : Int) (h : AHeap) : codeJ Try.prog Nt lp jn 64 (nat' [true] A13) (cat [true] C13) (envOf [(0, x0), (1, (.int .u32 x1)), (2, (.int .i64 x2))]) h K13 = (gc (x2 == 4) (J13_2' lp jn x0 x1 h) (J13_3' lp jn x0 x1 x2 h)) := by kernel_rfl
theorem J13_1_eq (x0 : AV) (x1 : Int) (x2 : Int) (h : AHeap) : J13_1 x0 x1 x2 h = (gc (x2 == 4) (J13_2 x0 x1 h) (J13_3 x0 x1 x2 h)) := J13_1_g aloop (fun s => s) x0 x1 x2 h
theorem J13_2_g (lp : Loop) (jn : Join) (x0 : AV) (x1 : Int) (h : AHeap) : codeJ Try.prog Nt lp jn 64 (nat' [true, true, false, false, false, false, false, false, false, true] A13) (cat [true, true, false, false, false, false, false, false, false, true] C13) (envOf [(0, x0), (1, (.int .u32 x1))]) h (K13_7 lp jn) = (gv (anil x0) fun v3 => gv (aptr v3 0) fun v4 => gv (aload false 1 v4 h) fun v5 => gN h [(.int .u8 (IntKind.u8.wrap (ishr .u32 x1 24)))] fun b6 h7 => gv (asrc 1 (.sl b6 0 1 1) h7) fun xs8 => gr (aapp 1 1 v5 1 xs8 h7) fun r9 h10 => gv (anil x0) fun v11 => gv (aptr v11 0) fun v12 => gv (astore false 1 v12 r9 h10) fun h13 => J13_4' lp jn x0 x1 h13) := by kernel_rfl
theorem J13_2_eq (x0 : AV) (x1 : Int) (h : AHeap) : J13_2 x0 x1 h = (gv (anil x0) fun v3 => gv (aptr v3 0) fun v4 => gv (aload false 1 v4 h) fun v5 => gN h [(.int .u8 (IntKind.u8.wrap (ishr .u32 x1 24)))] fun b6 h7 => gv (asrc 1 (.sl b6 0 1 1) h7) fun xs8 => gr (aapp 1 1 v5 1 xs8 h7) fun r9 h10 => gv (anil x0) fun v11 => gv (aptr v11 0) fun v12 => gv (astore false 1 v12 r9 h10) fun h13 => J13_4 x0 x1 h13) := J13_2_g aloop (fun s => s) x0 x1 h
theorem J13_3_g (lp : Loop) (jn : Join) (x0 : AV) (x1 : Int) (x8 : Int) (h : AHeap) : codeJ Try.prog Nt lp jn 64 (nat' [true, true, false, false, false, false, false, false, false, false, false, false, true] A13) (cat [true, true, false, false, false, false, false, false, false, false, false, false, true] C13) (envOf [(0, x0), (1, (.int .u32 x1)), (8, (.int .i64 x8))]) h (K13_10 lp jn) = (gc (x8 == 3) (J13_4' lp jn x0 x1 h) (J13_5' lp jn x0 x1 x8 h)) := by kernel_rfl
theorem J13_3_eq (x0 : AV) (x1 : Int) (x8 : Int) (h : AHeap) : J13_3 x0 x1 x8 h = (gc (x8 == 3) (J13_4 x0 x1 h) (J13_5 x0 x1 x8 h)) := J13_3_g aloop (fun s => s) x0 x1 x8 h
theorem J13_4_g (lp : Loop) (jn : Join) (x0 : AV) (x1 : Int) (h : AHeap) : codeJ Try.prog Nt lp jn 64 (nat' [true, true, false, false, false, false, false, true] A13) (cat [true, true, false, false, false, false, false, true] C13) (envOf [(0, x0), (1, (.int .u32 x1))]) h (K13_5 lp jn) = (gv (anil x0) fun v14 => gv (aptr v14 0) fun v15 => gv (aload false 1 v15 h) fun v16 => gN h [(.int .u8 (IntKind.u8.wrap (ishr .u32 x1 16)))] fun b17 h18 => gv (asrc 1 (.sl b17 0 1 1) h18) fun xs19 => gr (aapp 1 1 v16 1 xs19 h18) fun r20 h21 => gv (anil x0) fun v22 => gv (aptr v22 0) fun v23 => gv (astore false 1 v23 r20 h21) fun h24 => J13_6' lp jn x0 x1 h24) := by kernel_rfl
theorem J13_4_eq (x0 : AV) (x1 : Int) (h : AHeap) : J13_4 x0 x1 h = (gv (anil x0) fun v14 => gv (aptr v14 0) fun v15 => gv (aload false 1 v15 h) fun v16 => gN h [(.int .u8 (IntKind.u8.wrap (ishr .u32 x1 16)))] fun b17 h18 => gv (asrc 1 (.sl b17 0 1 1) h18) fun xs19 => gr (aapp 1 1 v16 1 xs19 h18) fun r20 h21 => gv (anil x0) fun v22 => gv (aptr v22 0) fun v23 => gv (astore false 1 v23 r20 h21) fun h24 => J13_6 x0 x1 h24) := J13_4_g aloop (fun s => s) x0 x1 h
theorem J13_5_g (lp : Loop) (jn : Join) (x0 : AV) (x1 : Int) (x8 : Int) (h : AHeap) : codeJ Try.prog Nt lp jn 64 (nat' [true, true, false, false, false, false, false, false, false, false, false, false, true, true] A13) (cat [true, true, false, false, false, false, false, false, false, false, false, false, true, true] C13) (envOf [(0, x0), (1, (.int .u32 x1)), (8, (.int .i64 x8))]) h (K13_10 lp jn) = (gc (x8 == 2) (J13_6' lp jn x0 x1 h) (J13_7' lp jn x0 x1 x8 h)) := by kernel_rfl
theorem J13_5_eq (x0 : AV) (x1 : Int) (x8 : Int) (h : AHeap) : J13_5 x0 x1 x8 h = (gc (x8 == 2) (J13_6 x0 x1 h) (J13_7 x0 x1 x8 h)) := J13_5_g aloop (fun s => s) x0 x1 x8 h
theorem J13_6_g (lp : Loop) (jn : Join) (x0 : AV) (x1 : Int) (h : AHeap) : codeJ Try.prog Nt lp jn 64 (nat' [true, true, false, false, false, true] A13) (cat [true, true, false, false, false, true] C13) (envOf [(0, x0), (1, (.int .u32 x1))]) h (K13_3 lp jn) = (gv (anil x0) fun v25 => gv (aptr v25 0) fun v26 => gv (aload false 1 v26 h) fun v27 => gN h [(.int .u8 (IntKind.u8.wrap (ishr .u32 x1 8)))] fun b28 h29 => gv (asrc 1 (.sl b28 0 1 1) h29) fun xs30 => gr (aapp 1 1 v27 1 xs30 h29) fun r31 h32 => gv (anil x0) fun v33 => gv (aptr v33 0) fun v34 => gv (astore false 1 v34 r31 h32) fun h35 => J13_8' lp jn x0 x1 h35) := by kernel_rfl
theorem J13_6_eq (x0 : AV) (x1 : Int) (h : AHeap) : J13_6 x0 x1 h = (gv (anil x0) fun v25 => gv (aptr v25 0) fun v26 => gv (aload false 1 v26 h) fun v27 => gN h [(.int .u8 (IntKind.u8.wrap (ishr .u32 x1 8)))] fun b28 h29 => gv (asrc 1 (.sl b28 0 1 1) h29) fun xs30 => gr (aapp 1 1 v27 1 xs30 h29) fun r31 h32 => gv (anil x0) fun v33 => gv (aptr v33 0) fun v34 => gv (astore false 1 v34 r31 h32) fun h35 => J13_8 x0 x1 h35) := J13_6_g aloop (fun s => s) x0 x1 h
theorem J13_7_g (lp : Loop) (jn : Join) (x0 : AV) (x1 : Int) (x8 : Int) (h : AHeap) : codeJ Try.prog Nt lp jn 64 (nat' [true, true, false, false, false, false, false, false, false, false, false, false, true, true, true] A13) (cat [true, true, false, false, false, false, false, false, false, false, false, false, true, true, true] C13) (envOf [(0, x0), (1, (.int .u32 x1)), (8, (.int .i64 x8))]) h (K13_10 lp jn) = (gc (x8 == 1) (J13_8' lp jn x0 x1 h) (some (.tuple [], h))) := by kernel_rfl
theorem J13_7_eq (x0 : AV) (x1 : Int) (x8 : Int) (h : AHeap) : J13_7 x0 x1 x8 h = (gc (x8 == 1) (J13_8 x0 x1 h) (some (.tuple [], h))) := J13_7_g aloop (fun s => s) x0 x1 x8 h
theorem J13_8_g (lp : Loop) (jn : Join) (x0 : AV) (x1 : Int) (h : AHeap) : codeJ Try.prog Nt lp jn 64 (nat' [true, true, false, true] A13) (cat [true, true, false, true] C13) (envOf [(0, x0), (1, (.int .u32 x1))]) h (K13_1 lp jn) = (gv (anil x0) fun v36 => gv (aptr v36 0) fun v37 => gv (aload false 1 v37 h) fun v38 => gN h [(.int .u8 (IntKind.u8.wrap x1))] fun b39 h40 => gv (asrc 1 (.sl b39 0 1 1) h40) fun xs41 => gr (aapp 1 1 v38 1 xs41 h40) fun r42 h43 => gv (anil x0) fun v44 => gv (aptr v44 0) fun v45 => gv (astore false 1 v45 r42 h43) fun h46 => some (.tuple [], h46)) := by kernel_rfl
theorem J13_8_eq (x0 : AV) (x1 : Int) (h : AHeap) : J13_8 x0 x1 h = (gv (anil x0) fun v36 => gv (aptr v36 0) fun v37 => gv (aload false 1 v37 h) fun v38 => gN h [(.int .u8 (IntKind.u8.wrap x1))] fun b39 h40 => gv (asrc 1 (.sl b39 0 1 1) h40) fun xs41 => gr (aapp 1 1 v38 1 xs41 h40) fun r42 h43 => gv (anil x0) fun v44 => gv (aptr v44 0) fun v45 => gv (astore false 1 v45 r42 h43) fun h46 => some (.tuple [], h46)) := J13_8_g aloop (fun s => s) x0 x1 h
theorem E13_g (lp : Loop) (jn : Join) (x0 : AV) (x1 : Int) (x2 : Int) (h : AHeap) : codeJ Try.prog Nt lp jn 64 (Nt 13) C13 (args [x0, (.int .u32 x1), (.int .i64 x2)]) h K13 = (gv (abin Try.prog .eql 72 (aeqOk Try.prog 72 (.tmp 6) (.const (.pointer none)) x0 .nilptr) x0 .nilptr) fun v1 => gB v1 fun b2 => gc b2 (some (.tuple [], h)) (J13_1' lp jn x0 x1 x2 h)) := by kernel_rfl
theorem E13 (x0 : AV) (x1 : Int) (x2 : Int) (h : AHeap) : acall Try.prog Nt 13 [x0, (.int .u32 x1), (.int .i64 x2)] h = (gv (abin Try.prog .eql 72 (aeqOk Try.prog 72 (.tmp 6) (.const (.pointer none)) x0 .nilptr) x0 .nilptr) fun v1 => gB v1 fun b2 => gc b2 (some (.tuple [], h)) (J13_1 x0 x1 x2 h)) := (acall_at rfl Try.func13 _ h 64 rfl (c := C13) rfl).trans (E13_g aloop (fun s => s) x0 x1 x2 h)
end Go.Ab
end
section
/-
  Functions of the program as equations: written by program (wip/tools/prt.py).
-/
namespace Go.Ab
open Go.Proofs
/-! 16: (*escapement/wire.Writer).Bytes -/
noncomputable def K16 : Kont := kend Try.prog 11 Try.f16.results.toList
noncomputable def J16_1' (lp : Loop) (jn : Join) (x0 : AV) (h : AHeap) : Res := jn (codeJ Try.prog Nt lp jn 11 (nat' [true, true] A16) (cat [true, true] C16)) (envOf [(0, x0)]) h K16
noncomputable def J16_1 (x0 : AV) (h : AHeap) : Res := J16_1' aloop (fun s => s) x0 h
theorem J16_1_g (lp : Loop) (jn : Join) (x0 : AV) (h : AHeap) : codeJ Try.prog Nt lp jn 11 (nat' [true, true] A16) (cat [true, true] C16) (envOf [(0, x0)]) h K16 = (gN h [] fun b3 h4 => gv (anil x0) fun v5 => gv (aptr v5 0) fun v6 => gv (aload false 1 v6 h4) fun v7 => gv (alenOf v7) fun m8 => gv (asrc 1 v7 h4) fun xs9 => gr (aapp 1 1 (.sl b3 0 0 1) m8 xs9 h4) fun r10 h11 => some (r10, h11)) := by kernel_rfl
theorem J16_1_eq (x0 : AV) (h : AHeap) : J16_1 x0 h = (gN h [] fun b3 h4 => gv (anil x0) fun v5 => gv (aptr v5 0) fun v6 => gv (aload false 1 v6 h4) fun v7 => gv (alenOf v7) fun m8 => gv (asrc 1 v7 h4) fun xs9 => gr (aapp 1 1 (.sl b3 0 0 1) m8 xs9 h4) fun r10 h11 => some (r10, h11)) := J16_1_g aloop (fun s => s) x0 h
theorem E16_g (lp : Loop) (jn : Join) (x0 : AV) (h : AHeap) : codeJ Try.prog Nt lp jn 11 (Nt 16) C16 (args [x0]) h K16 = (gv (abin Try.prog .eql 72 (aeqOk Try.prog 72 (.tmp 3) (.const (.pointer none)) x0 .nilptr) x0 .nilptr) fun v1 => gB v1 fun b2 => gc b2 (some (.nilsl, h)) (J16_1' lp jn x0 h)) := by kernel_rfl
theorem E16 (x0 : AV) (h : AHeap) : acall Try.prog Nt 16 [x0] h = (gv (abin Try.prog .eql 72 (aeqOk Try.prog 72 (.tmp 3) (.const (.pointer none)) x0 .nilptr) x0 .nilptr) fun v1 => gB v1 fun b2 => gc b2 (some (.nilsl, h)) (J16_1 x0 h)) := (acall_at rfl Try.func16 _ h 11 rfl (c := C16) rfl).trans (E16_g aloop (fun s => s) x0 h)
end Go.Ab
end
section
/-
  Functions of the program as equations: written by program (wip/tools/prt.py).
-/
namespace Go.Ab
open Go.Proofs
/-! 15: escapement/crc.Seal -/
noncomputable def K15 : Kont := kend Try.prog 24 Try.f15.results.toList
theorem E15_g (lp : Loop) (jn : Join) (x0 : AV) (h : AHeap) : codeJ Try.prog Nt lp jn 24 (Nt 15) C15 (args [x0]) h K15 = (gr (acall Try.prog Nt 27 [x0] h) fun r1 h2 => gI .u32 r1 fun n3 => gN h2 [] fun b4 h5 => gv (alenOf x0) fun m6 => gv (asrc 1 x0 h5) fun xs7 => gr (aapp 1 1 (.sl b4 0 0 1) m6 xs7 h5) fun r8 h9 => gN h9 [(.int .u8 (IntKind.u8.wrap n3)), (.int .u8 (IntKind.u8.wrap (ishr .u32 n3 8))), (.int .u8 (IntKind.u8.wrap (ishr .u32 n3 16))), (.int .u8 (IntKind.u8.wrap (ishr .u32 n3 24)))] fun b10 h11 => gv (asrc 1 (.sl b10 0 4 1) h11) fun xs12 => gr (aapp 1 1 r8 4 xs12 h11) fun r13 h14 => some (r13, h14)) := by kernel_rfl
theorem E15 (x0 : AV) (h : AHeap) : acall Try.prog Nt 15 [x0] h = (gr (acall Try.prog Nt 27 [x0] h) fun r1 h2 => gI .u32 r1 fun n3 => gN h2 [] fun b4 h5 => gv (alenOf x0) fun m6 => gv (asrc 1 x0 h5) fun xs7 => gr (aapp 1 1 (.sl b4 0 0 1) m6 xs7 h5) fun r8 h9 => gN h9 [(.int .u8 (IntKind.u8.wrap n3)), (.int .u8 (IntKind.u8.wrap (ishr .u32 n3 8))), (.int .u8 (IntKind.u8.wrap (ishr .u32 n3 16))), (.int .u8 (IntKind.u8.wrap (ishr .u32 n3 24)))] fun b10 h11 => gv (asrc 1 (.sl b10 0 4 1) h11) fun xs12 => gr (aapp 1 1 r8 4 xs12 h11) fun r13 h14 => some (r13, h14)) := (acall_at rfl Try.func15 _ h 24 rfl (c := C15) rfl).trans (E15_g aloop (fun s => s) x0 h)
end Go.Ab
end
section
/-
  Functions of the program as equations: written by program (wip/tools/prt.py).
-/
namespace Go.Ab
open Go.Proofs
/-! 27: escapement/crc.Sum -/
noncomputable def K27 : Kont := kend Try.prog 6 Try.f27.results.toList
theorem E27_g (lp : Loop) (jn : Join) (x0 : AV) (h : AHeap) : codeJ Try.prog Nt lp jn 6 (Nt 27) C27 (args [x0]) h K27 = (gr (acall Try.prog Nt 30 [(.int .u32 4294967295), x0] h) fun r1 h2 => gI .u32 r1 fun n3 => some ((.int .u32 (inot .u32 n3)), h2)) := by kernel_rfl
theorem E27 (x0 : AV) (h : AHeap) : acall Try.prog Nt 27 [x0] h = (gr (acall Try.prog Nt 30 [(.int .u32 4294967295), x0] h) fun r1 h2 => gI .u32 r1 fun n3 => some ((.int .u32 (inot .u32 n3)), h2)) := (acall_at rfl Try.func27 _ h 6 rfl (c := C27) rfl).trans (E27_g aloop (fun s => s) x0 h)
end Go.Ab
end
section
/-
  Functions of the program as equations: written by program (wip/tools/prt.py).
-/
namespace Go.Ab
open Go.Proofs
/-! 30: escapement/crc.step -/
noncomputable def K30 : Kont := kend Try.prog 30 Try.f30.results.toList
noncomputable def K30_1 (lp : Loop) (jn : Join) : Kont := kseqJ jn (codeJ Try.prog Nt lp jn 30 (nat' [true, true] A30) (cat [true, true] C30)) (some [0]) K30
noncomputable def K30_2 (lp : Loop) (jn : Join) : Kont := kblock 0 none (K30_1 lp jn)
noncomputable def K30_3 (lp : Loop) (jn : Join) : Kont := kloop (lp (some [0, 7, 8, 9]) (codeJ Try.prog Nt lp jn 30 (nat' [true, false, true, false, false] A30) (cat [true, false, true, false, false] C30))) (some [0, 7, 8, 9]) (K30_2 lp jn)
noncomputable def K30_4 (lp : Loop) (jn : Join) : Kont := kseqJ jn (codeJ Try.prog Nt lp jn 30 (nat' [true, false, true, false, false, true, true, true] A30) (cat [true, false, true, false, false, true, true, true] C30)) (some [0, 7, 8, 9]) (K30_3 lp jn)
noncomputable def K30_5 (lp : Loop) (jn : Join) : Kont := kblock 1 none (K30_4 lp jn)
noncomputable def K30_6 (lp : Loop) (jn : Join) : Kont := kblock 2 none (K30_5 lp jn)
noncomputable def K30_7 (lp : Loop) (jn : Join) : Kont := kloop (lp (some [0, 7, 8, 9, 17]) (codeJ Try.prog Nt lp jn 30 (nat' [true, false, true, false, false, true, true, false, false, true, true, true, false, false] A30) (cat [true, false, true, false, false, true, true, false, false, true, true, true, false, false] C30))) (some [0, 7, 8, 9, 17]) (K30_6 lp jn)
noncomputable def J30_1' (lp : Loop) (jn : Join) (x0 : Int) (x7 : AV) (x8 : Int) (x9 : Int) (h : AHeap) : Res := lp (some [0, 7, 8, 9]) (codeJ Try.prog Nt lp jn 30 (nat' [true, false, true, false, false] A30) (cat [true, false, true, false, false] C30)) (envOf [(0, (.int .u32 x0)), (7, x7), (8, (.int .i64 x8)), (9, (.int .i64 x9))]) h (K30_2 lp jn)
noncomputable def J30_1 (x0 : Int) (x7 : AV) (x8 : Int) (x9 : Int) (h : AHeap) : Res := J30_1' aloop (fun s => s) x0 x7 x8 x9 h
noncomputable def J30_2' (lp : Loop) (jn : Join) (x0 : Int) (x7 : AV) (x8 : Int) (x9 : Int) (h : AHeap) : Res := jn (codeJ Try.prog Nt lp jn 30 (nat' [true, false, true, false, false, true, true] A30) (cat [true, false, true, false, false, true, true] C30)) (envOf [(0, (.int .u32 x0)), (7, x7), (8, (.int .i64 x8)), (9, (.int .i64 x9))]) h (K30_3 lp jn)
noncomputable def J30_2 (x0 : Int) (x7 : AV) (x8 : Int) (x9 : Int) (h : AHeap) : Res := J30_2' aloop (fun s => s) x0 x7 x8 x9 h
noncomputable def J30_3' (lp : Loop) (jn : Join) (x0 : Int) (h : AHeap) : Res := jn (codeJ Try.prog Nt lp jn 30 (nat' [true, true] A30) (cat [true, true] C30)) (envOf [(0, (.int .u32 x0))]) h K30
noncomputable def J30_3 (x0 : Int) (h : AHeap) : Res := J30_3' aloop (fun s => s) x0 h
noncomputable def J30_4' (lp : Loop) (jn : Join) (x0 : Int) (x7 : AV) (x8 : Int) (x9 : Int) (x17 : Int) (h : AHeap) : Res := lp (some [0, 7, 8, 9, 17]) (codeJ Try.prog Nt lp jn 30 (nat' [true, false, true, false, false, true, true, false, false, true, true, true, false, false] A30) (cat [true, false, true, false, false, true, true, false, false, true, true, true, false, false] C30)) (envOf [(0, (.int .u32 x0)), (7, x7), (8, (.int .i64 x8)), (9, (.int .i64 x9)), (17, (.int .i64 x17))]) h (K30_6 lp jn)
noncomputable def J30_4 (x0 : Int) (x7 : AV) (x8 : Int) (x9 : Int) (x17 : Int) (h : AHeap) : Res := J30_4' aloop (fun s => s) x0 x7 x8 x9 x17 h
noncomputable def J30_5' (lp : Loop) (jn : Join) (x0 : Int) (x7 : AV) (x8 : Int) (x9 : Int) (x17 : Int) (h : AHeap) : Res := jn (codeJ Try.prog Nt lp jn 30 (nat' [true, false, true, false, false, true, true, false, false, true, true, true, false, false, true, true] A30) (cat [true, false, true, false, false, true, true, false, false, true, true, true, false, false, true, true] C30)) (envOf [(0, (.int .u32 x0)), (7, x7), (8, (.int .i64 x8)), (9, (.int .i64 x9)), (17, (.int .i64 x17))]) h (K30_7 lp jn)
noncomputable def J30_5 (x0 : Int) (x7 : AV) (x8 : Int) (x9 : Int) (x17 : Int) (h : AHeap) : Res := J30_5' aloop (fun s => s) x0 x7 x8 x9 x17 h
noncomputable def J30_6' (lp : Loop) (jn : Join) (x0 : Int) (x7 : AV) (x8 : Int) (x9 : Int) (h : AHeap) : Res := jn (codeJ Try.prog Nt lp jn 30 (nat' [true, false, true, false, false, true, true, true] A30) (cat [true, false, true, false, false, true, true, true] C30)) (envOf [(0, (.int .u32 x0)), (7, x7), (8, (.int .i64 x8)), (9, (.int .i64 x9))]) h (K30_3 lp jn)
noncomputable def J30_6 (x0 : Int) (x7 : AV) (x8 : Int) (x9 : Int) (h : AHeap) : Res := J30_6' aloop (fun s => s) x0 x7 x8 x9 h
noncomputable def J30_7' (lp : Loop) (jn : Join) (x0 : Int) (x7 : AV) (x8 : Int) (x9 : Int) (x17 : Int) (h : AHeap) : Res := jn (codeJ Try.prog Nt lp jn 30 (nat' [true, false, true, false, false, true, true, false, false, true, true, true, false, false, true, true, true] A30) (cat [true, false, true, false, false, true, true, false, false, true, true, true, false, false, true, true, true] C30)) (envOf [(0, (.int .u32 x0)), (7, x7), (8, (.int .i64 x8)), (9, (.int .i64 x9)), (17, (.int .i64 x17))]) h (K30_7 lp jn)
noncomputable def J30_7 (x0 : Int) (x7 : AV) (x8 : Int) (x9 : Int) (x17 : Int) (h : AHeap) : Res := J30_7' aloop (fun s => s) x0 x7 x8 x9 x17 h
theorem J30_1_g (lp : Loop) (jn : Join) (x0 : Int) (x7 : AV) (x8 : Int) (x9 : Int) (h : AHeap) : codeJ Try.prog Nt lp jn 30 (nat' [true, false, true, false, false] A30) (cat [true, false, true, false, false] C30) (envOf [(0, (.int .u32 x0)), (7, x7), (8, (.int .i64 x8)), (9, (.int .i64 x9))]) h (kloop (lp (some [0, 7, 8, 9]) (codeJ Try.prog Nt lp jn 30 (nat' [true, false, true, false, false] A30) (cat [true, false, true, false, false] C30))) (some [0, 7, 8, 9]) (K30_2 lp jn)) = (gc (decide (x9 < x8)) (J30_2' lp jn x0 x7 x8 x9 h) (J30_3' lp jn x0 h)) := by kernel_rfl
theorem J30_1_eq (x0 : Int) (x7 : AV) (x8 : Int) (x9 : Int) (h : AHeap) : J30_1 x0 x7 x8 x9 h = (gc (decide (x9 < x8)) (J30_2 x0 x7 x8 x9 h) (J30_3 x0 h)) := (aloop_at (some [0, 7, 8, 9]) (nat' [true, false, true, false, false] A30) (cat [true, false, true, false, false] C30) (envOf [(0, (.int .u32 x0)), (7, x7), (8, (.int .i64 x8)), (9, (.int .i64 x9))]) h (K30_2 aloop (fun s => s))).trans (J30_1_g aloop (fun s => s) x0 x7 x8 x9 h)
theorem J30_2_g (lp : Loop) (jn : Join) (x0 : Int) (x7 : AV) (x8 : Int) (x9 : Int) (h : AHeap) : codeJ Try.prog Nt lp jn 30 (nat' [true, false, true, false, false, true, true] A30) (cat [true, false, true, false, false, true, true] C30) (envOf [(0, (.int .u32 x0)), (7, x7), (8, (.int .i64 x8)), (9, (.int .i64 x9))]) h (K30_3 lp jn) = (gv (aixS 1 x7 x9) fun v2 => gv (aload false 1 v2 h) fun v3 => gI .u8 v3 fun n4 => J30_4' lp jn (ixor .u32 x0 (IntKind.u32.wrap n4)) x7 x8 x9 0 h) := by kernel_rfl
theorem J30_2_eq (x0 : Int) (x7 : AV) (x8 : Int) (x9 : Int) (h : AHeap) : J30_2 x0 x7 x8 x9 h = (gv (aixS 1 x7 x9) fun v2 => gv (aload false 1 v2 h) fun v3 => gI .u8 v3 fun n4 => J30_4 (ixor .u32 x0 (IntKind.u32.wrap n4)) x7 x8 x9 0 h) := J30_2_g aloop (fun s => s) x0 x7 x8 x9 h
theorem J30_3_g (lp : Loop) (jn : Join) (x0 : Int) (h : AHeap) : codeJ Try.prog Nt lp jn 30 (nat' [true, true] A30) (cat [true, true] C30) (envOf [(0, (.int .u32 x0))]) h K30 = (some ((.int .u32 x0), h)) := by kernel_rfl
theorem J30_3_eq (x0 : Int) (h : AHeap) : J30_3 x0 h = (some ((.int .u32 x0), h)) := J30_3_g aloop (fun s => s) x0 h
theorem J30_4_g (lp : Loop) (jn : Join) (x0 : Int) (x7 : AV) (x8 : Int) (x9 : Int) (x17 : Int) (h : AHeap) : codeJ Try.prog Nt lp jn 30 (nat' [true, false, true, false, false, true, true, false, false, true, true, true, false, false] A30) (cat [true, false, true, false, false, true, true, false, false, true, true, true, false, false] C30) (envOf [(0, (.int .u32 x0)), (7, x7), (8, (.int .i64 x8)), (9, (.int .i64 x9)), (17, (.int .i64 x17))]) h (kloop (lp (some [0, 7, 8, 9, 17]) (codeJ Try.prog Nt lp jn 30 (nat' [true, false, true, false, false, true, true, false, false, true, true, true, false, false] A30) (cat [true, false, true, false, false, true, true, false, false, true, true, true, false, false] C30))) (some [0, 7, 8, 9, 17]) (K30_6 lp jn)) = (gc (decide (x17 < 8)) (J30_5' lp jn x0 x7 x8 x9 x17 h) (J30_6' lp jn x0 x7 x8 x9 h)) := by kernel_rfl
theorem J30_4_eq (x0 : Int) (x7 : AV) (x8 : Int) (x9 : Int) (x17 : Int) (h : AHeap) : J30_4 x0 x7 x8 x9 x17 h = (gc (decide (x17 < 8)) (J30_5 x0 x7 x8 x9 x17 h) (J30_6 x0 x7 x8 x9 h)) := (aloop_at (some [0, 7, 8, 9, 17]) (nat' [true, false, true, false, false, true, true, false, false, true, true, true, false, false] A30) (cat [true, false, true, false, false, true, true, false, false, true, true, true, false, false] C30) (envOf [(0, (.int .u32 x0)), (7, x7), (8, (.int .i64 x8)), (9, (.int .i64 x9)), (17, (.int .i64 x17))]) h (K30_6 aloop (fun s => s))).trans (J30_4_g aloop (fun s => s) x0 x7 x8 x9 x17 h)
theorem J30_5_g (lp : Loop) (jn : Join) (x0 : Int) (x7 : AV) (x8 : Int) (x9 : Int) (x17 : Int) (h : AHeap) : codeJ Try.prog Nt lp jn 30 (nat' [true, false, true, false, false, true, true, false, false, true, true, true, false, false, true, true] A30) (cat [true, false, true, false, false, true, true, false, false, true, true, true, false, false, true, true] C30) (envOf [(0, (.int .u32 x0)), (7, x7), (8, (.int .i64 x8)), (9, (.int .i64 x9)), (17, (.int .i64 x17))]) h (K30_7 lp jn) = (gc ((iand .u32 x0 1) != 0) (J30_7' lp jn (ixor .u32 (ishr .u32 x0 1) 3988292384) x7 x8 x9 x17 h) (J30_7' lp jn (ishr .u32 x0 1) x7 x8 x9 x17 h)) := by kernel_rfl
theorem J30_5_eq (x0 : Int) (x7 : AV) (x8 : Int) (x9 : Int) (x17 : Int) (h : AHeap) : J30_5 x0 x7 x8 x9 x17 h = (gc ((iand .u32 x0 1) != 0) (J30_7 (ixor .u32 (ishr .u32 x0 1) 3988292384) x7 x8 x9 x17 h) (J30_7 (ishr .u32 x0 1) x7 x8 x9 x17 h)) := J30_5_g aloop (fun s => s) x0 x7 x8 x9 x17 h
theorem J30_6_g (lp : Loop) (jn : Join) (x0 : Int) (x7 : AV) (x8 : Int) (x9 : Int) (h : AHeap) : codeJ Try.prog Nt lp jn 30 (nat' [true, false, true, false, false, true, true, true] A30) (cat [true, false, true, false, false, true, true, true] C30) (envOf [(0, (.int .u32 x0)), (7, x7), (8, (.int .i64 x8)), (9, (.int .i64 x9))]) h (K30_3 lp jn) = (J30_1' lp jn x0 x7 x8 (IntKind.i64.wrap (x9 + 1)) h) := by kernel_rfl
theorem J30_6_eq (x0 : Int) (x7 : AV) (x8 : Int) (x9 : Int) (h : AHeap) : J30_6 x0 x7 x8 x9 h = (J30_1 x0 x7 x8 (IntKind.i64.wrap (x9 + 1)) h) := J30_6_g aloop (fun s => s) x0 x7 x8 x9 h
theorem J30_7_g (lp : Loop) (jn : Join) (x0 : Int) (x7 : AV) (x8 : Int) (x9 : Int) (x17 : Int) (h : AHeap) : codeJ Try.prog Nt lp jn 30 (nat' [true, false, true, false, false, true, true, false, false, true, true, true, false, false, true, true, true] A30) (cat [true, false, true, false, false, true, true, false, false, true, true, true, false, false, true, true, true] C30) (envOf [(0, (.int .u32 x0)), (7, x7), (8, (.int .i64 x8)), (9, (.int .i64 x9)), (17, (.int .i64 x17))]) h (K30_7 lp jn) = (J30_4' lp jn x0 x7 x8 x9 (IntKind.i64.wrap (x17 + 1)) h) := by kernel_rfl
theorem J30_7_eq (x0 : Int) (x7 : AV) (x8 : Int) (x9 : Int) (x17 : Int) (h : AHeap) : J30_7 x0 x7 x8 x9 x17 h = (J30_4 x0 x7 x8 x9 (IntKind.i64.wrap (x17 + 1)) h) := J30_7_g aloop (fun s => s) x0 x7 x8 x9 x17 h
theorem E30_g (lp : Loop) (jn : Join) (x0 : Int) (x1 : AV) (h : AHeap) : codeJ Try.prog Nt lp jn 30 (Nt 30) C30 (args [(.int .u32 x0), x1]) h K30 = (gv (alenS x1) fun m1 => J30_1' lp jn x0 x1 (m1 : Int) 0 h) := by kernel_rfl
theorem E30 (x0 : Int) (x1 : AV) (h : AHeap) : acall Try.prog Nt 30 [(.int .u32 x0), x1] h = (gv (alenS x1) fun m1 => J30_1 x0 x1 (m1 : Int) 0 h) := (acall_at rfl Try.func30 _ h 30 rfl (c := C30) rfl).trans (E30_g aloop (fun s => s) x0 x1 h)
end Go.Ab
end
section
/-
  wire.Writer.
-/
namespace Go.Ab
open Go.Proofs

def encB (n : Int) : List AV := [.int .u8 n]
theorem encB_len (n : Int) : (encB n).length = 1 := rfl
theorem encB_isc (n : Int) : (encB n).all isCell = true := rfl
def encN (n : Int) : List AV := [.int .i64 n]
theorem encN_len (n : Int) : (encN n).length = 1 := rfl
/-- A writer. -/
def WrAt (h : AHeap) (b : Nat) (l : List Int) (F : List Nat) : Prop :=
  ∃ x G, hget h b = some (.cells false [x]) ∧ OwB h 1 encB l x G ∧ b ∉ G ∧ F = b :: G
theorem WrAt.lt {h : AHeap} {b : Nat} {l : List Int} {F : List Nat} (m : WrAt h b l F) : ∀ x ∈ F, x < h.length := by
  obtain ⟨x, G, h1, h2, h3, rfl⟩ := m
  intro y hy
  rcases List.mem_cons.1 hy with rfl | hy
  · exact hget_lt h1
  · exact h2.slb.lt y hy
theorem WrAt.keep {h h' : AHeap} {b : Nat} {l : List Int} {F : List Nat} (m : WrAt h b l F) (hk : ∀ x ∈ F, hget h' x = hget h x) : WrAt h' b l F := by
  obtain ⟨x, G, h1, h2, h3, rfl⟩ := m
  exact ⟨x, G, by rw [hk b (by simp), h1], h2.keep fun y hy => hk y (by simp [hy]), h3, rfl⟩
theorem WrAt.app {h : AHeap} {b : Nat} {l : List Int} {F : List Nat} (m : WrAt h b l F) (g : AHeap) : WrAt (h ++ g) b l F := m.keep fun x hx => hget_old _ (m.lt x hx)
theorem wr_eq_ptr (a b : Operand) (c o : Nat) : abin Try.prog .eql 72 (aeqOk Try.prog 72 a b (.ptr c o) .nilptr) (.ptr c o) .nilptr = some (.bool false) := by
  rw [aeqOk_ptr, abin_eq_ptr (e := 52) (by kernel_rfl)]
/-- A byte more. -/
theorem wput (h : AHeap) (b : Nat) (l : List Int) (F : List Nat) (n : Int) (hm : WrAt h b l F) (hl : l.length ≤ 1000000) (f : AHeap → Res) (Q : AV → AHeap → Prop)
    (k : ∀ h' F', WrAt h' b (l ++ [n]) F' → Fr F h F' h' → Post (f h') Q) :
    Post (gv (anil (.ptr b 0)) fun v3 => gv (aptr v3 0) fun v4 => gv (aload false 1 v4 h) fun v5 => gN h [.int .u8 n] fun b6 h7 => gv (asrc 1 (.sl b6 0 1 1) h7) fun xs8 => gr (aapp 1 1 v5 1 xs8 h7) fun r9 h10 => gv (anil (.ptr b 0)) fun v11 => gv (aptr v11 0) fun v12 => gv (astore false 1 v12 r9 h10) f) Q := by
  obtain ⟨x, G, h1, h2, h3, rfl⟩ := id hm
  have lt := hm.lt
  have g1 := fun g => hget_app (g := g) h1
  simp (dsimp := false) (implicitDefEqProofs := false) (disch := omega) only [gv_some, gr_some, gI_int, gB_bool, gS_str, gc_t, gc_f, gi_t, gi_f, gN_eq, gf_t, Option.bind_some, Option.bind_none, Option.map_some, acells_agg, acells_int, acells_bool, acells_str, acells_ptr, acells_sl, acells_nilsl, acells_nilptr, acells_iface, acells_niliface, aptr_ptr, anil_ptr, aextract_0, aextract_1, aextract_2, alenS_sl, alenS_nil, alenOf_sl, alenOf_nil, apartOf_agg, apart_t, apart_f, astore_ptr, hset_at0, hset_at, hs_same, hs_ne, len_hset, List.set_cons_zero, List.set_cons_succ, set_app, set_app0, aload_ptr, splice_eq, List.drop_nil, List.append_nil, isCell_int, isCell_bool, isCell_str, isCell_ptr, isCell_sl, isCell_nilsl, isCell_nilptr, isCell_iface, isCell_niliface, List.all_cons, List.all_nil, Bool.and_self, hget_at0, hget_at, len_app, List.length_cons, List.length_nil, get_app, get_app0, List.getElem?_cons_zero, List.getElem?_cons_succ, join_some, List.append_assoc, List.cons_append, List.nil_append, Nat.zero_add, Nat.add_zero, Nat.mul_one, chkRd_eq, chkAl_blk, if_true, if_false, Bool.false_eq_true, List.drop_succ_cons, List.drop_zero, List.take_succ_cons, List.take_zero, Bool.and_true, Bool.true_and, decide_true, decide_false, wrap64_id, aixG_eq, Nat.reduceAdd, Nat.reduceSub, Nat.reduceMul, Nat.reduceLeDiff, Nat.reduceLT, Int.reduceAdd, Int.reduceSub, Int.reduceMul, Int.reduceNeg, Int.reduceLT, Int.reduceLE, Int.reduceGT, Int.reduceGE, Int.reduceToNat, ↓reduceIte, and_self, true_and, and_true, h1]
  refine Post.val (a := [n].flatMap encB) (Sl.src (α := Int) (l := [n]) (.inr ⟨_, 0, rfl, false, [.int .u8 n], ?_, by simp [encB], by simp [encB]⟩) encB_len) ?_
  · rw [hget_at0]; rfl
  have o2 : OwB (h ++ [some (.cells false [.int .u8 n])]) 1 encB l x G := h2.keep fun y hy => hget_old _ (lt y (by simp [hy]))
  obtain ⟨y, H, ea, oy, fr, hH⟩ := o2.push (by' := 1) encB_len encB_isc n (by omega)
  have l1 : [n].flatMap encB = encB n := by simp [encB]
  obtain ⟨K, hK⟩ : ∃ K, K = (h ++ [some (ABlk.cells false [.int .u8 n])]).length := ⟨_, rfl⟩
  rw [← hK] at oy fr hH
  have hK2 : K = h.length + 1 := by rw [hK]; simp
  have gb : hget H b = some (.cells false [x]) := fr.keep (g1 _) h3
  have iy := oy.slb.isc
  have bH : b < H.length := hget_lt gb
  have hb0 := hget_lt h1
  simp (dsimp := false) (implicitDefEqProofs := false) (disch := omega) only [gv_some, gr_some, gI_int, gB_bool, gS_str, gc_t, gc_f, gi_t, gi_f, gN_eq, gf_t, Option.bind_some, Option.bind_none, Option.map_some, acells_agg, acells_int, acells_bool, acells_str, acells_ptr, acells_sl, acells_nilsl, acells_nilptr, acells_iface, acells_niliface, aptr_ptr, anil_ptr, aextract_0, aextract_1, aextract_2, alenS_sl, alenS_nil, alenOf_sl, alenOf_nil, apartOf_agg, apart_t, apart_f, astore_ptr, hset_at0, hset_at, hs_same, hs_ne, len_hset, List.set_cons_zero, List.set_cons_succ, set_app, set_app0, aload_ptr, splice_eq, List.drop_nil, List.append_nil, isCell_int, isCell_bool, isCell_str, isCell_ptr, isCell_sl, isCell_nilsl, isCell_nilptr, isCell_iface, isCell_niliface, List.all_cons, List.all_nil, Bool.and_self, hget_at0, hget_at, len_app, List.length_cons, List.length_nil, get_app, get_app0, List.getElem?_cons_zero, List.getElem?_cons_succ, join_some, List.append_assoc, List.cons_append, List.nil_append, Nat.zero_add, Nat.add_zero, Nat.mul_one, chkRd_eq, chkAl_blk, if_true, if_false, Bool.false_eq_true, List.drop_succ_cons, List.drop_zero, List.take_succ_cons, List.take_zero, Bool.and_true, Bool.true_and, decide_true, decide_false, wrap64_id, aixG_eq, Nat.reduceAdd, Nat.reduceSub, Nat.reduceMul, Nat.reduceLeDiff, Nat.reduceLT, Int.reduceAdd, Int.reduceSub, Int.reduceMul, Int.reduceNeg, Int.reduceLT, Int.reduceLE, Int.reduceGT, Int.reduceGE, Int.reduceToNat, ↓reduceIte, and_self, true_and, and_true, l1, ea, gb, iy]
  have gs : hget (hset H b [y]) b = some (.cells false [y]) := hs_same bH _
  have bn : b ∉ [K] := by simp; omega
  refine k _ (b :: [K]) ⟨y, [K], gs, oy.keep fun z hz => hs_ne (fun e => bn (by rw [e]; exact hz)) _, bn, rfl⟩ ⟨?_, fun z hz hn => ?_, fun z hz => ?_⟩
  · rw [len_hset, hH]; omega
  · simp only [List.mem_cons, not_or] at hn
    rw [hs_ne (fun e => hn.1 e.symm), fr.old z (by simp; omega) hn.2, hget_old _ hz]
  · simp only [List.mem_cons, List.not_mem_nil, or_false] at hz
    rcases hz with rfl | rfl
    · simp
    · right; omega
/-- The bytes of a number. -/
def wb (four : Bool) (n : Int) : List Int :=
  if four then [IntKind.u8.wrap (ishr .u32 (IntKind.u32.wrap n) 24), IntKind.u8.wrap (ishr .u32 (IntKind.u32.wrap n) 16), IntKind.u8.wrap (ishr .u32 (IntKind.u32.wrap n) 8), IntKind.u8.wrap (IntKind.u32.wrap n)] else [IntKind.u8.wrap (IntKind.u32.wrap n)]
def wsz (four : Bool) : Int := if four then 4 else 1
theorem wb_len (four : Bool) (n : Int) : (wb four n).length = if four then 4 else 1 := by cases four <;> rfl
theorem c_wput (h : AHeap) (b : Nat) (l : List Int) (F : List Nat) (four : Bool) (n : Int) (hm : WrAt h b l F) (hl : l.length ≤ 900000) :
    Post (acall Try.prog Nt 13 [.ptr b 0, .int .u32 (IntKind.u32.wrap n), .int .i64 (wsz four)] h) fun v h' => v = .tuple [] ∧ ∃ F', WrAt h' b (l ++ wb four n) F' ∧ Fr F h F' h' := by
  rw [E13]
  simp (dsimp := false) (implicitDefEqProofs := false) (disch := omega) only [gv_some, gr_some, gI_int, gB_bool, gS_str, gc_t, gc_f, gi_t, gi_f, gN_eq, gf_t, Option.bind_some, Option.bind_none, Option.map_some, acells_agg, acells_int, acells_bool, acells_str, acells_ptr, acells_sl, acells_nilsl, acells_nilptr, acells_iface, acells_niliface, aptr_ptr, anil_ptr, aextract_0, aextract_1, aextract_2, alenS_sl, alenS_nil, alenOf_sl, alenOf_nil, apartOf_agg, apart_t, apart_f, astore_ptr, hset_at0, hset_at, hs_same, hs_ne, len_hset, List.set_cons_zero, List.set_cons_succ, set_app, set_app0, aload_ptr, splice_eq, List.drop_nil, List.append_nil, isCell_int, isCell_bool, isCell_str, isCell_ptr, isCell_sl, isCell_nilsl, isCell_nilptr, isCell_iface, isCell_niliface, List.all_cons, List.all_nil, Bool.and_self, hget_at0, hget_at, len_app, List.length_cons, List.length_nil, get_app, get_app0, List.getElem?_cons_zero, List.getElem?_cons_succ, join_some, List.append_assoc, List.cons_append, List.nil_append, Nat.zero_add, Nat.add_zero, Nat.mul_one, chkRd_eq, chkAl_blk, if_true, if_false, Bool.false_eq_true, List.drop_succ_cons, List.drop_zero, List.take_succ_cons, List.take_zero, Bool.and_true, Bool.true_and, decide_true, decide_false, wrap64_id, aixG_eq, Nat.reduceAdd, Nat.reduceSub, Nat.reduceMul, Nat.reduceLeDiff, Nat.reduceLT, Int.reduceAdd, Int.reduceSub, Int.reduceMul, Int.reduceNeg, Int.reduceLT, Int.reduceLE, Int.reduceGT, Int.reduceGE, Int.reduceToNat, ↓reduceIte, and_self, true_and, and_true, wr_eq_ptr]
  cases four
  · have e1 : (wsz false == 4) = false := rfl
    have e2 : (wsz false == 3) = false := rfl
    have e3 : (wsz false == 2) = false := rfl
    have e4 : (wsz false == 1) = true := rfl
    rw [J13_1_eq, e1]
    simp (dsimp := false) (implicitDefEqProofs := false) (disch := omega) only [gv_some, gr_some, gI_int, gB_bool, gS_str, gc_t, gc_f, gi_t, gi_f, gN_eq, gf_t, Option.bind_some, Option.bind_none, Option.map_some, acells_agg, acells_int, acells_bool, acells_str, acells_ptr, acells_sl, acells_nilsl, acells_nilptr, acells_iface, acells_niliface, aptr_ptr, anil_ptr, aextract_0, aextract_1, aextract_2, alenS_sl, alenS_nil, alenOf_sl, alenOf_nil, apartOf_agg, apart_t, apart_f, astore_ptr, hset_at0, hset_at, hs_same, hs_ne, len_hset, List.set_cons_zero, List.set_cons_succ, set_app, set_app0, aload_ptr, splice_eq, List.drop_nil, List.append_nil, isCell_int, isCell_bool, isCell_str, isCell_ptr, isCell_sl, isCell_nilsl, isCell_nilptr, isCell_iface, isCell_niliface, List.all_cons, List.all_nil, Bool.and_self, hget_at0, hget_at, len_app, List.length_cons, List.length_nil, get_app, get_app0, List.getElem?_cons_zero, List.getElem?_cons_succ, join_some, List.append_assoc, List.cons_append, List.nil_append, Nat.zero_add, Nat.add_zero, Nat.mul_one, chkRd_eq, chkAl_blk, if_true, if_false, Bool.false_eq_true, List.drop_succ_cons, List.drop_zero, List.take_succ_cons, List.take_zero, Bool.and_true, Bool.true_and, decide_true, decide_false, wrap64_id, aixG_eq, Nat.reduceAdd, Nat.reduceSub, Nat.reduceMul, Nat.reduceLeDiff, Nat.reduceLT, Int.reduceAdd, Int.reduceSub, Int.reduceMul, Int.reduceNeg, Int.reduceLT, Int.reduceLE, Int.reduceGT, Int.reduceGE, Int.reduceToNat, ↓reduceIte, and_self, true_and, and_true, J13_3_eq]
    rw [e2]
    simp (dsimp := false) (implicitDefEqProofs := false) (disch := omega) only [gv_some, gr_some, gI_int, gB_bool, gS_str, gc_t, gc_f, gi_t, gi_f, gN_eq, gf_t, Option.bind_some, Option.bind_none, Option.map_some, acells_agg, acells_int, acells_bool, acells_str, acells_ptr, acells_sl, acells_nilsl, acells_nilptr, acells_iface, acells_niliface, aptr_ptr, anil_ptr, aextract_0, aextract_1, aextract_2, alenS_sl, alenS_nil, alenOf_sl, alenOf_nil, apartOf_agg, apart_t, apart_f, astore_ptr, hset_at0, hset_at, hs_same, hs_ne, len_hset, List.set_cons_zero, List.set_cons_succ, set_app, set_app0, aload_ptr, splice_eq, List.drop_nil, List.append_nil, isCell_int, isCell_bool, isCell_str, isCell_ptr, isCell_sl, isCell_nilsl, isCell_nilptr, isCell_iface, isCell_niliface, List.all_cons, List.all_nil, Bool.and_self, hget_at0, hget_at, len_app, List.length_cons, List.length_nil, get_app, get_app0, List.getElem?_cons_zero, List.getElem?_cons_succ, join_some, List.append_assoc, List.cons_append, List.nil_append, Nat.zero_add, Nat.add_zero, Nat.mul_one, chkRd_eq, chkAl_blk, if_true, if_false, Bool.false_eq_true, List.drop_succ_cons, List.drop_zero, List.take_succ_cons, List.take_zero, Bool.and_true, Bool.true_and, decide_true, decide_false, wrap64_id, aixG_eq, Nat.reduceAdd, Nat.reduceSub, Nat.reduceMul, Nat.reduceLeDiff, Nat.reduceLT, Int.reduceAdd, Int.reduceSub, Int.reduceMul, Int.reduceNeg, Int.reduceLT, Int.reduceLE, Int.reduceGT, Int.reduceGE, Int.reduceToNat, ↓reduceIte, and_self, true_and, and_true, J13_5_eq]
    rw [e3]
    simp (dsimp := false) (implicitDefEqProofs := false) (disch := omega) only [gv_some, gr_some, gI_int, gB_bool, gS_str, gc_t, gc_f, gi_t, gi_f, gN_eq, gf_t, Option.bind_some, Option.bind_none, Option.map_some, acells_agg, acells_int, acells_bool, acells_str, acells_ptr, acells_sl, acells_nilsl, acells_nilptr, acells_iface, acells_niliface, aptr_ptr, anil_ptr, aextract_0, aextract_1, aextract_2, alenS_sl, alenS_nil, alenOf_sl, alenOf_nil, apartOf_agg, apart_t, apart_f, astore_ptr, hset_at0, hset_at, hs_same, hs_ne, len_hset, List.set_cons_zero, List.set_cons_succ, set_app, set_app0, aload_ptr, splice_eq, List.drop_nil, List.append_nil, isCell_int, isCell_bool, isCell_str, isCell_ptr, isCell_sl, isCell_nilsl, isCell_nilptr, isCell_iface, isCell_niliface, List.all_cons, List.all_nil, Bool.and_self, hget_at0, hget_at, len_app, List.length_cons, List.length_nil, get_app, get_app0, List.getElem?_cons_zero, List.getElem?_cons_succ, join_some, List.append_assoc, List.cons_append, List.nil_append, Nat.zero_add, Nat.add_zero, Nat.mul_one, chkRd_eq, chkAl_blk, if_true, if_false, Bool.false_eq_true, List.drop_succ_cons, List.drop_zero, List.take_succ_cons, List.take_zero, Bool.and_true, Bool.true_and, decide_true, decide_false, wrap64_id, aixG_eq, Nat.reduceAdd, Nat.reduceSub, Nat.reduceMul, Nat.reduceLeDiff, Nat.reduceLT, Int.reduceAdd, Int.reduceSub, Int.reduceMul, Int.reduceNeg, Int.reduceLT, Int.reduceLE, Int.reduceGT, Int.reduceGE, Int.reduceToNat, ↓reduceIte, and_self, true_and, and_true, J13_7_eq]
    rw [e4]
    rw [gc_t, J13_8_eq]
    exact wput h b l F _ hm (by omega) _ _ fun h' F' m f => Post.done ⟨rfl, F', m, f⟩
  · have e1 : (wsz true == 4) = true := rfl
    rw [J13_1_eq, e1, gc_t, J13_2_eq]
    refine wput h b l F _ hm (by omega) _ _ fun h1 F1 m1 f1 => ?_
    rw [J13_4_eq]
    refine wput h1 b _ F1 _ m1 (by simp; omega) _ _ fun h2 F2 m2 f2 => ?_
    rw [J13_6_eq]
    refine wput h2 b _ F2 _ m2 (by simp; omega) _ _ fun h3 F3 m3 f3 => ?_
    rw [J13_8_eq]
    refine wput h3 b _ F3 _ m3 (by simp; omega) _ _ fun h4 F4 m4 f4 => ?_
    refine Post.done ⟨rfl, F4, by simpa [wb] using m4, ((f1.trans f2).trans f3).trans f4⟩
/-- Bytes. -/
theorem c_wbytes (h : AHeap) (b : Nat) (l : List Int) (F : List Nat) (hm : WrAt h b l F) (hl : l.length ≤ 1000000) : Ev (acall Try.prog Nt 16 [.ptr b 0] h) h fun v h' => Ow h.length h' 1 encB l v := by
  obtain ⟨x, G, h1, h2, h3, rfl⟩ := id hm
  rw [E16]
  have g1 := fun g => hget_app (g := g) h1
  have sl := fun g => h2.slb.sl.app g
  have sr := fun g => (sl g).src encB_len
  simp (dsimp := false) (implicitDefEqProofs := false) (disch := omega) only [gv_some, gr_some, gI_int, gB_bool, gS_str, gc_t, gc_f, gi_t, gi_f, gN_eq, gf_t, Option.bind_some, Option.bind_none, Option.map_some, acells_agg, acells_int, acells_bool, acells_str, acells_ptr, acells_sl, acells_nilsl, acells_nilptr, acells_iface, acells_niliface, aptr_ptr, anil_ptr, aextract_0, aextract_1, aextract_2, alenS_sl, alenS_nil, alenOf_sl, alenOf_nil, apartOf_agg, apart_t, apart_f, astore_ptr, hset_at0, hset_at, hs_same, hs_ne, len_hset, List.set_cons_zero, List.set_cons_succ, set_app, set_app0, aload_ptr, splice_eq, List.drop_nil, List.append_nil, isCell_int, isCell_bool, isCell_str, isCell_ptr, isCell_sl, isCell_nilsl, isCell_nilptr, isCell_iface, isCell_niliface, List.all_cons, List.all_nil, Bool.and_self, hget_at0, hget_at, len_app, List.length_cons, List.length_nil, get_app, get_app0, List.getElem?_cons_zero, List.getElem?_cons_succ, join_some, List.append_assoc, List.cons_append, List.nil_append, Nat.zero_add, Nat.add_zero, Nat.mul_one, chkRd_eq, chkAl_blk, if_true, if_false, Bool.false_eq_true, List.drop_succ_cons, List.drop_zero, List.take_succ_cons, List.take_zero, Bool.and_true, Bool.true_and, decide_true, decide_false, wrap64_id, aixG_eq, Nat.reduceAdd, Nat.reduceSub, Nat.reduceMul, Nat.reduceLeDiff, Nat.reduceLT, Int.reduceAdd, Int.reduceSub, Int.reduceMul, Int.reduceNeg, Int.reduceLT, Int.reduceLE, Int.reduceGT, Int.reduceGE, Int.reduceToNat, ↓reduceIte, and_self, true_and, and_true, wr_eq_ptr, J16_1_eq, g1, h2.slb.sl.lenOf, sr]
  obtain ⟨z, t', ea, oz⟩ := aapp_ow (by' := 1) (pre := h) (t := [some (.cells false [])]) (x := .sl h.length 0 0 1) (l := ([] : List Int)) (l2 := l) encB_len encB_isc (.inr ⟨h.length, [], rfl, Nat.le_refl _, by rw [hget_at0]; rfl⟩) (by simp; omega)
  simp (dsimp := false) (implicitDefEqProofs := false) (disch := omega) only [gv_some, gr_some, gI_int, gB_bool, gS_str, gc_t, gc_f, gi_t, gi_f, gN_eq, gf_t, Option.bind_some, Option.bind_none, Option.map_some, acells_agg, acells_int, acells_bool, acells_str, acells_ptr, acells_sl, acells_nilsl, acells_nilptr, acells_iface, acells_niliface, aptr_ptr, anil_ptr, aextract_0, aextract_1, aextract_2, alenS_sl, alenS_nil, alenOf_sl, alenOf_nil, apartOf_agg, apart_t, apart_f, astore_ptr, hset_at0, hset_at, hs_same, hs_ne, len_hset, List.set_cons_zero, List.set_cons_succ, set_app, set_app0, aload_ptr, splice_eq, List.drop_nil, List.append_nil, isCell_int, isCell_bool, isCell_str, isCell_ptr, isCell_sl, isCell_nilsl, isCell_nilptr, isCell_iface, isCell_niliface, List.all_cons, List.all_nil, Bool.and_self, hget_at0, hget_at, len_app, List.length_cons, List.length_nil, get_app, get_app0, List.getElem?_cons_zero, List.getElem?_cons_succ, join_some, List.append_assoc, List.cons_append, List.nil_append, Nat.zero_add, Nat.add_zero, Nat.mul_one, chkRd_eq, chkAl_blk, if_true, if_false, Bool.false_eq_true, List.drop_succ_cons, List.drop_zero, List.take_succ_cons, List.take_zero, Bool.and_true, Bool.true_and, decide_true, decide_false, wrap64_id, aixG_eq, Nat.reduceAdd, Nat.reduceSub, Nat.reduceMul, Nat.reduceLeDiff, Nat.reduceLT, Int.reduceAdd, Int.reduceSub, Int.reduceMul, Int.reduceNeg, Int.reduceLT, Int.reduceLE, Int.reduceGT, Int.reduceGE, Int.reduceToNat, ↓reduceIte, and_self, true_and, and_true, ea]
  exact Ev.done (by simpa using oz)
end Go.Ab
end
section
/-
  Functions of the program as equations: written by program (wip/tools/prt.py).
-/
namespace Go.Ab
open Go.Proofs
/-! 20: escapement/escapementref02.Seal -/
noncomputable def K20 : Kont := kend Try.prog 24 Try.f20.results.toList
noncomputable def K20_1 (lp : Loop) (jn : Join) : Kont := kseqJ jn (codeJ Try.prog Nt lp jn 24 (nat' [true, true, true, true] A20) (cat [true, true, true, true] C20)) (some [4]) K20
noncomputable def K20_2 (lp : Loop) (jn : Join) : Kont := kblock 0 none (K20_1 lp jn)
noncomputable def K20_3 (lp : Loop) (jn : Join) : Kont := kloop (lp (some [3, 4, 5]) (codeJ Try.prog Nt lp jn 24 (nat' [true, true, true, false, true, false, false] A20) (cat [true, true, true, false, true, false, false] C20))) (some [3, 4, 5]) (K20_2 lp jn)
noncomputable def J20_1' (lp : Loop) (jn : Join) (x3 : Int) (x4 : AV) (x5 : Int) (h : AHeap) : Res := lp (some [3, 4, 5]) (codeJ Try.prog Nt lp jn 24 (nat' [true, true, true, false, true, false, false] A20) (cat [true, true, true, false, true, false, false] C20)) (envOf [(3, (.int .u32 x3)), (4, x4), (5, (.int .i64 x5))]) h (K20_2 lp jn)
noncomputable def J20_1 (x3 : Int) (x4 : AV) (x5 : Int) (h : AHeap) : Res := J20_1' aloop (fun s => s) x3 x4 x5 h
noncomputable def J20_2' (lp : Loop) (jn : Join) (x3 : Int) (x4 : AV) (x5 : Int) (h : AHeap) : Res := jn (codeJ Try.prog Nt lp jn 24 (nat' [true, true, true, false, true, false, false, true] A20) (cat [true, true, true, false, true, false, false, true] C20)) (envOf [(3, (.int .u32 x3)), (4, x4), (5, (.int .i64 x5))]) h (K20_3 lp jn)
noncomputable def J20_2 (x3 : Int) (x4 : AV) (x5 : Int) (h : AHeap) : Res := J20_2' aloop (fun s => s) x3 x4 x5 h
noncomputable def J20_3' (lp : Loop) (jn : Join) (x4 : AV) (h : AHeap) : Res := jn (codeJ Try.prog Nt lp jn 24 (nat' [true, true, true, true] A20) (cat [true, true, true, true] C20)) (envOf [(4, x4)]) h K20
noncomputable def J20_3 (x4 : AV) (h : AHeap) : Res := J20_3' aloop (fun s => s) x4 h
noncomputable def J20_4' (lp : Loop) (jn : Join) (x3 : Int) (x4 : AV) (x5 : Int) (h : AHeap) : Res := jn (codeJ Try.prog Nt lp jn 24 (nat' [true, true, true, false, true, false, false, true, true] A20) (cat [true, true, true, false, true, false, false, true, true] C20)) (envOf [(3, (.int .u32 x3)), (4, x4), (5, (.int .i64 x5))]) h (K20_3 lp jn)
noncomputable def J20_4 (x3 : Int) (x4 : AV) (x5 : Int) (h : AHeap) : Res := J20_4' aloop (fun s => s) x3 x4 x5 h
theorem J20_1_g (lp : Loop) (jn : Join) (x3 : Int) (x4 : AV) (x5 : Int) (h : AHeap) : codeJ Try.prog Nt lp jn 24 (nat' [true, true, true, false, true, false, false] A20) (cat [true, true, true, false, true, false, false] C20) (envOf [(3, (.int .u32 x3)), (4, x4), (5, (.int .i64 x5))]) h (kloop (lp (some [3, 4, 5]) (codeJ Try.prog Nt lp jn 24 (nat' [true, true, true, false, true, false, false] A20) (cat [true, true, true, false, true, false, false] C20))) (some [3, 4, 5]) (K20_2 lp jn)) = (gc (decide (x5 < 4)) (J20_2' lp jn x3 x4 x5 h) (J20_3' lp jn x4 h)) := by kernel_rfl
theorem J20_1_eq (x3 : Int) (x4 : AV) (x5 : Int) (h : AHeap) : J20_1 x3 x4 x5 h = (gc (decide (x5 < 4)) (J20_2 x3 x4 x5 h) (J20_3 x4 h)) := (aloop_at (some [3, 4, 5]) (nat' [true, true, true, false, true, false, false] A20) (cat [true, true, true, false, true, false, false] C20) (envOf [(3, (.int .u32 x3)), (4, x4), (5, (.int .i64 x5))]) h (K20_2 aloop (fun s => s))).trans (J20_1_g aloop (fun s => s) x3 x4 x5 h)
theorem J20_2_g (lp : Loop) (jn : Join) (x3 : Int) (x4 : AV) (x5 : Int) (h : AHeap) : codeJ Try.prog Nt lp jn 24 (nat' [true, true, true, false, true, false, false, true] A20) (cat [true, true, true, false, true, false, false, true] C20) (envOf [(3, (.int .u32 x3)), (4, x4), (5, (.int .i64 x5))]) h (K20_3 lp jn) = (gv (aint .shr .u32 .i64 x3 (IntKind.i64.wrap (8 * x5))) fun v10 => gI .u32 v10 fun n11 => gN h [(.int .u8 (IntKind.u8.wrap n11))] fun b12 h13 => gv (asrc 1 (.sl b12 0 1 1) h13) fun xs14 => gr (aapp 1 1 x4 1 xs14 h13) fun r15 h16 => J20_4' lp jn x3 r15 x5 h16) := by kernel_rfl
theorem J20_2_eq (x3 : Int) (x4 : AV) (x5 : Int) (h : AHeap) : J20_2 x3 x4 x5 h = (gv (aint .shr .u32 .i64 x3 (IntKind.i64.wrap (8 * x5))) fun v10 => gI .u32 v10 fun n11 => gN h [(.int .u8 (IntKind.u8.wrap n11))] fun b12 h13 => gv (asrc 1 (.sl b12 0 1 1) h13) fun xs14 => gr (aapp 1 1 x4 1 xs14 h13) fun r15 h16 => J20_4 x3 r15 x5 h16) := J20_2_g aloop (fun s => s) x3 x4 x5 h
theorem J20_3_g (lp : Loop) (jn : Join) (x4 : AV) (h : AHeap) : codeJ Try.prog Nt lp jn 24 (nat' [true, true, true, true] A20) (cat [true, true, true, true] C20) (envOf [(4, x4)]) h K20 = (some (x4, h)) := by kernel_rfl
theorem J20_3_eq (x4 : AV) (h : AHeap) : J20_3 x4 h = (some (x4, h)) := J20_3_g aloop (fun s => s) x4 h
theorem J20_4_g (lp : Loop) (jn : Join) (x3 : Int) (x4 : AV) (x5 : Int) (h : AHeap) : codeJ Try.prog Nt lp jn 24 (nat' [true, true, true, false, true, false, false, true, true] A20) (cat [true, true, true, false, true, false, false, true, true] C20) (envOf [(3, (.int .u32 x3)), (4, x4), (5, (.int .i64 x5))]) h (K20_3 lp jn) = (J20_1' lp jn x3 x4 (IntKind.i64.wrap (x5 + 1)) h) := by kernel_rfl
theorem J20_4_eq (x3 : Int) (x4 : AV) (x5 : Int) (h : AHeap) : J20_4 x3 x4 x5 h = (J20_1 x3 x4 (IntKind.i64.wrap (x5 + 1)) h) := J20_4_g aloop (fun s => s) x3 x4 x5 h
theorem E20_g (lp : Loop) (jn : Join) (x0 : AV) (h : AHeap) : codeJ Try.prog Nt lp jn 24 (Nt 20) C20 (args [x0]) h K20 = (gr (acall Try.prog Nt 28 [x0] h) fun r1 h2 => gI .u32 r1 fun n3 => gN h2 [] fun b4 h5 => gv (alenOf x0) fun m6 => gv (asrc 1 x0 h5) fun xs7 => gr (aapp 1 1 (.sl b4 0 0 1) m6 xs7 h5) fun r8 h9 => J20_1' lp jn n3 r8 0 h9) := by kernel_rfl
theorem E20 (x0 : AV) (h : AHeap) : acall Try.prog Nt 20 [x0] h = (gr (acall Try.prog Nt 28 [x0] h) fun r1 h2 => gI .u32 r1 fun n3 => gN h2 [] fun b4 h5 => gv (alenOf x0) fun m6 => gv (asrc 1 x0 h5) fun xs7 => gr (aapp 1 1 (.sl b4 0 0 1) m6 xs7 h5) fun r8 h9 => J20_1 n3 r8 0 h9) := (acall_at rfl Try.func20 _ h 24 rfl (c := C20) rfl).trans (E20_g aloop (fun s => s) x0 h)
end Go.Ab
end
section
/-
  Functions of the program as equations: written by program (wip/tools/prt.py).
-/
namespace Go.Ab
open Go.Proofs
/-! 28: escapement/escapementref02.Sum -/
noncomputable def K28 : Kont := kend Try.prog 36 Try.f28.results.toList
noncomputable def K28_1 (lp : Loop) (jn : Join) : Kont := kseqJ jn (codeJ Try.prog Nt lp jn 36 (nat' [true, true, true] A28) (cat [true, true, true] C28)) (some [3]) K28
noncomputable def K28_2 (lp : Loop) (jn : Join) : Kont := kblock 0 none (K28_1 lp jn)
noncomputable def K28_3 (lp : Loop) (jn : Join) : Kont := kloop (lp (some [0, 3, 4]) (codeJ Try.prog Nt lp jn 36 (nat' [true, true, false, true, false, false] A28) (cat [true, true, false, true, false, false] C28))) (some [0, 3, 4]) (K28_2 lp jn)
noncomputable def J28_1' (lp : Loop) (jn : Join) (x0 : AV) (x3 : Int) (x4 : Int) (h : AHeap) : Res := lp (some [0, 3, 4]) (codeJ Try.prog Nt lp jn 36 (nat' [true, true, false, true, false, false] A28) (cat [true, true, false, true, false, false] C28)) (envOf [(0, x0), (3, (.int .u32 x3)), (4, (.int .i64 x4))]) h (K28_2 lp jn)
noncomputable def J28_1 (x0 : AV) (x3 : Int) (x4 : Int) (h : AHeap) : Res := J28_1' aloop (fun s => s) x0 x3 x4 h
noncomputable def J28_2' (lp : Loop) (jn : Join) (x0 : AV) (x3 : Int) (x4 : Int) (h : AHeap) : Res := jn (codeJ Try.prog Nt lp jn 36 (nat' [true, true, false, true, false, false, true] A28) (cat [true, true, false, true, false, false, true] C28)) (envOf [(0, x0), (3, (.int .u32 x3)), (4, (.int .i64 x4))]) h (K28_3 lp jn)
noncomputable def J28_2 (x0 : AV) (x3 : Int) (x4 : Int) (h : AHeap) : Res := J28_2' aloop (fun s => s) x0 x3 x4 h
noncomputable def J28_3' (lp : Loop) (jn : Join) (x3 : Int) (h : AHeap) : Res := jn (codeJ Try.prog Nt lp jn 36 (nat' [true, true, true] A28) (cat [true, true, true] C28)) (envOf [(3, (.int .u32 x3))]) h K28
noncomputable def J28_3 (x3 : Int) (h : AHeap) : Res := J28_3' aloop (fun s => s) x3 h
noncomputable def J28_4' (lp : Loop) (jn : Join) (x0 : AV) (x3 : Int) (x4 : Int) (h : AHeap) : Res := jn (codeJ Try.prog Nt lp jn 36 (nat' [true, true, false, true, false, false, true, true] A28) (cat [true, true, false, true, false, false, true, true] C28)) (envOf [(0, x0), (3, (.int .u32 x3)), (4, (.int .i64 x4))]) h (K28_3 lp jn)
noncomputable def J28_4 (x0 : AV) (x3 : Int) (x4 : Int) (h : AHeap) : Res := J28_4' aloop (fun s => s) x0 x3 x4 h
theorem J28_1_g (lp : Loop) (jn : Join) (x0 : AV) (x3 : Int) (x4 : Int) (h : AHeap) : codeJ Try.prog Nt lp jn 36 (nat' [true, true, false, true, false, false] A28) (cat [true, true, false, true, false, false] C28) (envOf [(0, x0), (3, (.int .u32 x3)), (4, (.int .i64 x4))]) h (kloop (lp (some [0, 3, 4]) (codeJ Try.prog Nt lp jn 36 (nat' [true, true, false, true, false, false] A28) (cat [true, true, false, true, false, false] C28))) (some [0, 3, 4]) (K28_2 lp jn)) = (gv (alenS x0) fun m1 => gc (decide (x4 < (IntKind.i64.wrap (8 * (m1 : Int))))) (J28_2' lp jn x0 x3 x4 h) (J28_3' lp jn x3 h)) := by kernel_rfl
theorem J28_1_eq (x0 : AV) (x3 : Int) (x4 : Int) (h : AHeap) : J28_1 x0 x3 x4 h = (gv (alenS x0) fun m1 => gc (decide (x4 < (IntKind.i64.wrap (8 * (m1 : Int))))) (J28_2 x0 x3 x4 h) (J28_3 x3 h)) := (aloop_at (some [0, 3, 4]) (nat' [true, true, false, true, false, false] A28) (cat [true, true, false, true, false, false] C28) (envOf [(0, x0), (3, (.int .u32 x3)), (4, (.int .i64 x4))]) h (K28_2 aloop (fun s => s))).trans (J28_1_g aloop (fun s => s) x0 x3 x4 h)
theorem J28_2_g (lp : Loop) (jn : Join) (x0 : AV) (x3 : Int) (x4 : Int) (h : AHeap) : codeJ Try.prog Nt lp jn 36 (nat' [true, true, false, true, false, false, true] A28) (cat [true, true, false, true, false, false, true] C28) (envOf [(0, x0), (3, (.int .u32 x3)), (4, (.int .i64 x4))]) h (K28_3 lp jn) = (gv (aixS 1 x0 (IntKind.i64.wrap (x4.tdiv 8))) fun v2 => gv (aload false 1 v2 h) fun v3 => gI .u8 v3 fun n4 => gv (aint .shr .u8 .i64 n4 (x4.tmod 8)) fun v5 => gI .u8 v5 fun n6 => gc ((ixor .u32 (iand .u32 x3 1) (iand .u32 (IntKind.u32.wrap n6) 1)) == 1) (J28_4' lp jn x0 (ixor .u32 (ishr .u32 x3 1) 3988292384) x4 h) (J28_4' lp jn x0 (ishr .u32 x3 1) x4 h)) := by kernel_rfl
theorem J28_2_eq (x0 : AV) (x3 : Int) (x4 : Int) (h : AHeap) : J28_2 x0 x3 x4 h = (gv (aixS 1 x0 (IntKind.i64.wrap (x4.tdiv 8))) fun v2 => gv (aload false 1 v2 h) fun v3 => gI .u8 v3 fun n4 => gv (aint .shr .u8 .i64 n4 (x4.tmod 8)) fun v5 => gI .u8 v5 fun n6 => gc ((ixor .u32 (iand .u32 x3 1) (iand .u32 (IntKind.u32.wrap n6) 1)) == 1) (J28_4 x0 (ixor .u32 (ishr .u32 x3 1) 3988292384) x4 h) (J28_4 x0 (ishr .u32 x3 1) x4 h)) := J28_2_g aloop (fun s => s) x0 x3 x4 h
theorem J28_3_g (lp : Loop) (jn : Join) (x3 : Int) (h : AHeap) : codeJ Try.prog Nt lp jn 36 (nat' [true, true, true] A28) (cat [true, true, true] C28) (envOf [(3, (.int .u32 x3))]) h K28 = (some ((.int .u32 (inot .u32 x3)), h)) := by kernel_rfl
theorem J28_3_eq (x3 : Int) (h : AHeap) : J28_3 x3 h = (some ((.int .u32 (inot .u32 x3)), h)) := J28_3_g aloop (fun s => s) x3 h
theorem J28_4_g (lp : Loop) (jn : Join) (x0 : AV) (x3 : Int) (x4 : Int) (h : AHeap) : codeJ Try.prog Nt lp jn 36 (nat' [true, true, false, true, false, false, true, true] A28) (cat [true, true, false, true, false, false, true, true] C28) (envOf [(0, x0), (3, (.int .u32 x3)), (4, (.int .i64 x4))]) h (K28_3 lp jn) = (J28_1' lp jn x0 x3 (IntKind.i64.wrap (x4 + 1)) h) := by kernel_rfl
theorem J28_4_eq (x0 : AV) (x3 : Int) (x4 : Int) (h : AHeap) : J28_4 x0 x3 x4 h = (J28_1 x0 x3 (IntKind.i64.wrap (x4 + 1)) h) := J28_4_g aloop (fun s => s) x0 x3 x4 h
theorem E28_g (lp : Loop) (jn : Join) (x0 : AV) (h : AHeap) : codeJ Try.prog Nt lp jn 36 (Nt 28) C28 (args [x0]) h K28 = (J28_1' lp jn x0 4294967295 0 h) := by kernel_rfl
theorem E28 (x0 : AV) (h : AHeap) : acall Try.prog Nt 28 [x0] h = (J28_1 x0 4294967295 0 h) := (acall_at rfl Try.func28 _ h 36 rfl (c := C28) rfl).trans (E28_g aloop (fun s => s) x0 h)
end Go.Ab
end
section
/-
  crc.Seal and the document's Seal answer alike.
-/
namespace Go.Ab
open Go.Proofs

def BytesOk (l : List Int) : Prop := ∀ n ∈ l, 0 ≤ n ∧ n < 256
theorem lsb_int (r : BitVec 32) (a : Int) (ea : BitVec.ofInt 32 a = r) : iand .u32 a 1 = rg (if r.getLsbD 0 then 1#32 else 0#32) := by
  rw [rg_and r 1#32 a 1 ea rfl, and1]
theorem shrX (r : BitVec 32) : ixor .u32 (ishr .u32 (rg r) 1) 3988292384 = rg ((r >>> 1) ^^^ poly) := by
  rw [rg_shr]
  exact rg_xor _ _ _ _ (ofInt_rg _) (by decide)
theorem stepIn' (x : AV) (n : Int) (i : Int) (h : AHeap) : ∀ (k j : Nat) (r : BitVec 32), k + j = 8 → J30_4 (rg r) x n i (j : Int) h = J30_6 (rg (stN k r)) x n i h
  | 0, j, r, hj => by
    rw [J30_4_eq, decide_eq_false (by omega), gc_f]
    rfl
  | k + 1, j, r, hj => by
    have ih := stepIn' x n i h k (j + 1) (st1 r) (by omega)
    rw [J30_4_eq, decide_eq_true (by omega), gc_t, J30_5_eq, lsb_int r (rg r) (ofInt_rg r)]
    unfold stN
    rw [← ih]
    cases e : r.getLsbD 0
    · have e0 : (rg (if false = true then 1#32 else 0#32) != 0) = false := by decide
      rw [e0, gc_f, J30_7_eq, wsucc (by omega), rg_shr]
      unfold st1
      rw [e]
      simp
    · have e0 : (rg (if true = true then 1#32 else 0#32) != 0) = true := by decide
      rw [e0, gc_t, J30_7_eq, wsucc (by omega), shrX]
      unfold st1
      rw [e]
      simp
theorem stepOut' (l : List Int) (hl : l.length ≤ 90000) (hb : BytesOk l) (x : AV) (h : AHeap) (sx : Sl h 1 encB l x) : ∀ (s : List Int) (i : Nat) (r : BitVec 32), l.drop i = s → J30_1 (rg r) x (l.length : Int) (i : Int) h = some (.int .u32 (rg (crcB r s)), h)
  | [], i, r, hs => by
    have := drop_nil hs
    rw [J30_1_eq, decide_eq_false (by omega), gc_f, J30_3_eq]
    rfl
  | a :: s, i, r, hs => by
    obtain ⟨hk, ha, hs'⟩ := drop_cons hs
    obtain ⟨eb, eo, ix, ea⟩ := sx.elem encB_len i hk
    rw [ha] at ea
    have ab : 0 ≤ a ∧ a < 256 := hb a (by rw [← ha]; exact List.getElem_mem hk)
    have l0 := ea.load0 1
    have ex : ixor .u32 (rg r) (IntKind.u32.wrap a) = rg (r ^^^ BitVec.ofInt 32 a) := rg_xor _ _ _ _ (ofInt_rg r) (by rw [wrapu32_id (by omega) (by omega)])
    have e1 := stepIn' x (l.length : Int) (i : Int) h 8 0 (r ^^^ BitVec.ofInt 32 a) rfl
    have e2 := stepOut' l hl hb x h sx s (i + 1) (stN 8 (r ^^^ BitVec.ofInt 32 a)) hs'
    have z : ((0 : Nat) : Int) = 0 := rfl
    rw [z] at e1
    rw [J30_1_eq, decide_eq_true (by omega), gc_t, J30_2_eq, ix, gv_some, l0, gv_some, gI_int, ex, e1, J30_6_eq, wsucc (by omega), e2]
    rfl
def crcSum (l : List Int) : Int := inot .u32 (rg (crcB (BitVec.allOnes 32) l))
def crcTail (l : List Int) : List Int := [IntKind.u8.wrap (crcSum l), IntKind.u8.wrap (ishr .u32 (crcSum l) 8), IntKind.u8.wrap (ishr .u32 (crcSum l) 16), IntKind.u8.wrap (ishr .u32 (crcSum l) 24)]
theorem ones_rg : (4294967295 : Int) = rg (BitVec.allOnes 32) := by decide
theorem c_sum (l : List Int) (hl : l.length ≤ 90000) (hb : BytesOk l) (x : AV) (h : AHeap) (sx : Sl h 1 encB l x) : acall Try.prog Nt 27 [x] h = some (.int .u32 (crcSum l), h) := by
  have e := stepOut' l hl hb x h sx l 0 (BitVec.allOnes 32) rfl
  have z : ((0 : Nat) : Int) = 0 := rfl
  rw [z] at e
  rw [E27, E30, ones_rg]
  simp (dsimp := false) (implicitDefEqProofs := false) (disch := omega) only [gv_some, gr_some, gI_int, gB_bool, gS_str, gc_t, gc_f, gi_t, gi_f, gN_eq, gf_t, Option.bind_some, Option.bind_none, Option.map_some, acells_agg, acells_int, acells_bool, acells_str, acells_ptr, acells_sl, acells_nilsl, acells_nilptr, acells_iface, acells_niliface, aptr_ptr, anil_ptr, aextract_0, aextract_1, aextract_2, alenS_sl, alenS_nil, alenOf_sl, alenOf_nil, apartOf_agg, apart_t, apart_f, astore_ptr, hset_at0, hset_at, hs_same, hs_ne, len_hset, List.set_cons_zero, List.set_cons_succ, set_app, set_app0, aload_ptr, splice_eq, List.drop_nil, List.append_nil, isCell_int, isCell_bool, isCell_str, isCell_ptr, isCell_sl, isCell_nilsl, isCell_nilptr, isCell_iface, isCell_niliface, List.all_cons, List.all_nil, Bool.and_self, hget_at0, hget_at, len_app, List.length_cons, List.length_nil, get_app, get_app0, List.getElem?_cons_zero, List.getElem?_cons_succ, join_some, List.append_assoc, List.cons_append, List.nil_append, Nat.zero_add, Nat.add_zero, Nat.mul_one, chkRd_eq, chkAl_blk, if_true, if_false, Bool.false_eq_true, List.drop_succ_cons, List.drop_zero, List.take_succ_cons, List.take_zero, Bool.and_true, Bool.true_and, decide_true, decide_false, wrap64_id, aixG_eq, Nat.reduceAdd, Nat.reduceSub, Nat.reduceMul, Nat.reduceLeDiff, Nat.reduceLT, Int.reduceAdd, Int.reduceSub, Int.reduceMul, Int.reduceNeg, Int.reduceLT, Int.reduceLE, Int.reduceGT, Int.reduceGE, Int.reduceToNat, ↓reduceIte, and_self, true_and, and_true, sx.len, e]
  rfl
theorem c_seal2 (l : List Int) (hl : l.length ≤ 90000) (hb : BytesOk l) (x : AV) (h : AHeap) (sx : Sl h 1 encB l x) : Ev (acall Try.prog Nt 15 [x] h) h fun v h' => Ow h.length h' 1 encB (l ++ crcTail l) v := by
  rw [E15]
  have sr := fun g => (sx.app g).src encB_len
  simp (dsimp := false) (implicitDefEqProofs := false) (disch := omega) only [gv_some, gr_some, gI_int, gB_bool, gS_str, gc_t, gc_f, gi_t, gi_f, gN_eq, gf_t, Option.bind_some, Option.bind_none, Option.map_some, acells_agg, acells_int, acells_bool, acells_str, acells_ptr, acells_sl, acells_nilsl, acells_nilptr, acells_iface, acells_niliface, aptr_ptr, anil_ptr, aextract_0, aextract_1, aextract_2, alenS_sl, alenS_nil, alenOf_sl, alenOf_nil, apartOf_agg, apart_t, apart_f, astore_ptr, hset_at0, hset_at, hs_same, hs_ne, len_hset, List.set_cons_zero, List.set_cons_succ, set_app, set_app0, aload_ptr, splice_eq, List.drop_nil, List.append_nil, isCell_int, isCell_bool, isCell_str, isCell_ptr, isCell_sl, isCell_nilsl, isCell_nilptr, isCell_iface, isCell_niliface, List.all_cons, List.all_nil, Bool.and_self, hget_at0, hget_at, len_app, List.length_cons, List.length_nil, get_app, get_app0, List.getElem?_cons_zero, List.getElem?_cons_succ, join_some, List.append_assoc, List.cons_append, List.nil_append, Nat.zero_add, Nat.add_zero, Nat.mul_one, chkRd_eq, chkAl_blk, if_true, if_false, Bool.false_eq_true, List.drop_succ_cons, List.drop_zero, List.take_succ_cons, List.take_zero, Bool.and_true, Bool.true_and, decide_true, decide_false, wrap64_id, aixG_eq, Nat.reduceAdd, Nat.reduceSub, Nat.reduceMul, Nat.reduceLeDiff, Nat.reduceLT, Int.reduceAdd, Int.reduceSub, Int.reduceMul, Int.reduceNeg, Int.reduceLT, Int.reduceLE, Int.reduceGT, Int.reduceGE, Int.reduceToNat, ↓reduceIte, and_self, true_and, and_true, c_sum l hl hb x h sx, sx.lenOf, sr]
  obtain ⟨y, t', ea, oy⟩ := aapp_ow (by' := 1) (pre := h) (t := [some (.cells false [])]) (x := .sl h.length 0 0 1) (l := ([] : List Int)) (l2 := l) encB_len encB_isc (.inr ⟨h.length, [], rfl, Nat.le_refl _, by rw [hget_at0]; rfl⟩) (by simp; omega)
  simp (dsimp := false) (implicitDefEqProofs := false) (disch := omega) only [gv_some, gr_some, gI_int, gB_bool, gS_str, gc_t, gc_f, gi_t, gi_f, gN_eq, gf_t, Option.bind_some, Option.bind_none, Option.map_some, acells_agg, acells_int, acells_bool, acells_str, acells_ptr, acells_sl, acells_nilsl, acells_nilptr, acells_iface, acells_niliface, aptr_ptr, anil_ptr, aextract_0, aextract_1, aextract_2, alenS_sl, alenS_nil, alenOf_sl, alenOf_nil, apartOf_agg, apart_t, apart_f, astore_ptr, hset_at0, hset_at, hs_same, hs_ne, len_hset, List.set_cons_zero, List.set_cons_succ, set_app, set_app0, aload_ptr, splice_eq, List.drop_nil, List.append_nil, isCell_int, isCell_bool, isCell_str, isCell_ptr, isCell_sl, isCell_nilsl, isCell_nilptr, isCell_iface, isCell_niliface, List.all_cons, List.all_nil, Bool.and_self, hget_at0, hget_at, len_app, List.length_cons, List.length_nil, get_app, get_app0, List.getElem?_cons_zero, List.getElem?_cons_succ, join_some, List.append_assoc, List.cons_append, List.nil_append, Nat.zero_add, Nat.add_zero, Nat.mul_one, chkRd_eq, chkAl_blk, if_true, if_false, Bool.false_eq_true, List.drop_succ_cons, List.drop_zero, List.take_succ_cons, List.take_zero, Bool.and_true, Bool.true_and, decide_true, decide_false, wrap64_id, aixG_eq, Nat.reduceAdd, Nat.reduceSub, Nat.reduceMul, Nat.reduceLeDiff, Nat.reduceLT, Int.reduceAdd, Int.reduceSub, Int.reduceMul, Int.reduceNeg, Int.reduceLT, Int.reduceLE, Int.reduceGT, Int.reduceGE, Int.reduceToNat, ↓reduceIte, and_self, true_and, and_true, ea]
  have et : crcTail l = [IntKind.u8.wrap (crcSum l), IntKind.u8.wrap (ishr .u32 (crcSum l) 8), IntKind.u8.wrap (ishr .u32 (crcSum l) 16), IntKind.u8.wrap (ishr .u32 (crcSum l) 24)] := rfl
  rw [et]
  generalize IntKind.u8.wrap (crcSum l) = n1
  generalize IntKind.u8.wrap (ishr .u32 (crcSum l) 8) = n2
  generalize IntKind.u8.wrap (ishr .u32 (crcSum l) 16) = n3
  generalize IntKind.u8.wrap (ishr .u32 (crcSum l) 24) = n4
  rw [List.nil_append] at oy
  have o2 := oy.app [some (.cells false [.int .u8 n1, .int .u8 n2, .int .u8 n3, .int .u8 n4])]
  rw [List.append_assoc] at o2
  obtain ⟨w, t2, eb, ow⟩ := aapp_ow (by' := 1) (l2 := [n1, n2, n3, n4]) encB_len encB_isc o2 (by simp; omega)
  have l4 : [n1, n2, n3, n4].length = 4 := rfl
  rw [l4] at eb
  refine Ev.val (a := [n1, n2, n3, n4].flatMap encB) (Sl.src (α := Int) (l := [n1, n2, n3, n4]) (.inr ⟨_, 0, rfl, false, [.int .u8 n1, .int .u8 n2, .int .u8 n3, .int .u8 n4], ?_, by simp [encB], by simp [encB]⟩) encB_len) ?_
  · rw [hget_at, get_app0]; rfl
  simp (dsimp := false) (implicitDefEqProofs := false) (disch := omega) only [gv_some, gr_some, gI_int, gB_bool, gS_str, gc_t, gc_f, gi_t, gi_f, gN_eq, gf_t, Option.bind_some, Option.bind_none, Option.map_some, acells_agg, acells_int, acells_bool, acells_str, acells_ptr, acells_sl, acells_nilsl, acells_nilptr, acells_iface, acells_niliface, aptr_ptr, anil_ptr, aextract_0, aextract_1, aextract_2, alenS_sl, alenS_nil, alenOf_sl, alenOf_nil, apartOf_agg, apart_t, apart_f, astore_ptr, hset_at0, hset_at, hs_same, hs_ne, len_hset, List.set_cons_zero, List.set_cons_succ, set_app, set_app0, aload_ptr, splice_eq, List.drop_nil, List.append_nil, isCell_int, isCell_bool, isCell_str, isCell_ptr, isCell_sl, isCell_nilsl, isCell_nilptr, isCell_iface, isCell_niliface, List.all_cons, List.all_nil, Bool.and_self, hget_at0, hget_at, len_app, List.length_cons, List.length_nil, get_app, get_app0, List.getElem?_cons_zero, List.getElem?_cons_succ, join_some, List.append_assoc, List.cons_append, List.nil_append, Nat.zero_add, Nat.add_zero, Nat.mul_one, chkRd_eq, chkAl_blk, if_true, if_false, Bool.false_eq_true, List.drop_succ_cons, List.drop_zero, List.take_succ_cons, List.take_zero, Bool.and_true, Bool.true_and, decide_true, decide_false, wrap64_id, aixG_eq, Nat.reduceAdd, Nat.reduceSub, Nat.reduceMul, Nat.reduceLeDiff, Nat.reduceLT, Int.reduceAdd, Int.reduceSub, Int.reduceMul, Int.reduceNeg, Int.reduceLT, Int.reduceLE, Int.reduceGT, Int.reduceGE, Int.reduceToNat, ↓reduceIte, and_self, true_and, and_true, eb]
  exact Ev.done ow
/-! The document's. -/
theorem bit_of (m j : Nat) (hm : m < 256) : BitVec.ofInt 32 (((m / 2 ^ j : Nat) : Int)) = BitVec.ofInt 32 ((m : Nat) : Int) >>> j := by
  apply BitVec.eq_of_toNat_eq
  rw [BitVec.ofInt_natCast, BitVec.ofInt_natCast, BitVec.toNat_ushiftRight, BitVec.toNat_ofNat, BitVec.toNat_ofNat, Nat.shiftRight_eq_div_pow]
  have : m / 2 ^ j ≤ m := Nat.div_le_self _ _
  rw [Nat.mod_eq_of_lt (by omega), Nat.mod_eq_of_lt (by omega)]
theorem refIn (l : List Int) (hl : l.length ≤ 10000) (x : AV) (h : AHeap) (sx : Sl h 1 encB l x) (i : Nat) (hi : i < l.length) (m : Nat) (em : l[i] = (m : Int)) (hm : m < 256) : ∀ (k j : Nat) (r : BitVec 32), k + j = 8 →
    J28_1 x (rg r) ((8 * i + j : Nat) : Int) h = J28_1 x (rg (refN k r (BitVec.ofInt 32 (m : Int) >>> j))) ((8 * (i + 1) : Nat) : Int) h
  | 0, j, r, hj => by
    have : 8 * i + j = 8 * (i + 1) := by omega
    rw [this]
    rfl
  | k + 1, j, r, hj => by
    have ih := fun r => refIn l hl x h sx i hi m em hm k (j + 1) r (by omega)
    obtain ⟨eb, eo, ix, ea⟩ := sx.elem encB_len i hi
    rw [em] at ea
    have l0 := ea.load0 1
    have w8 : IntKind.i64.wrap (8 * (l.length : Int)) = 8 * (l.length : Int) := wrap64_id (by omega) (by omega)
    have td : IntKind.i64.wrap (((8 * i + j : Nat) : Int).tdiv 8) = (i : Int) := by
      rw [Int.tdiv_eq_ediv_of_nonneg (by omega), wrap64_id (by omega) (by omega)]
      omega
    have tm : ((8 * i + j : Nat) : Int).tmod 8 = (j : Int) := by
      rw [Int.tmod_eq_emod_of_nonneg (by omega)]
      omega
    have ai : aint .shr .u8 .i64 (m : Int) (j : Int) = some (.int .u8 ((m / 2 ^ j : Nat) : Int)) := by
      have mj : min ((j : Int)).toNat (IntKind.bits .u8) = j := by
        have : (IntKind.bits .u8) = 8 := rfl
        rw [this]
        simp
        omega
      unfold aint
      simp only
      rw [if_neg (by omega), mj, Int.fdiv_eq_ediv_of_nonneg _ (by exact_mod_cast Nat.zero_le _)]
      norm_cast
    have bo : BitVec.ofInt 32 (IntKind.u32.wrap ((m / 2 ^ j : Nat) : Int)) = BitVec.ofInt 32 (m : Int) >>> j := by
      have hq : m / 2 ^ j ≤ m := Nat.div_le_self _ _
      rw [← bit_of m j hm]
      generalize m / 2 ^ j = q at hq ⊢
      rw [wrapu32_id (by omega) (by omega)]
    rw [J28_1_eq, sx.len, gv_some, w8, decide_eq_true (by omega), gc_t, J28_2_eq, td, ix, gv_some, l0, gv_some, gI_int, tm, ai, gv_some, gI_int]
    rw [lsb_int r (rg r) (ofInt_rg r), lsb_int _ _ bo]
    rw [rg_xor _ _ _ _ (ofInt_rg _) (ofInt_rg _)]
    have key : ∀ a b : Bool, (rg ((if a then 1#32 else 0#32) ^^^ (if b then 1#32 else 0#32)) == 1) = (a ^^ b) := by decide
    rw [key]
    unfold refN
    have e8 : BitVec.ofInt 32 (m : Int) >>> j >>> 1 = BitVec.ofInt 32 (m : Int) >>> (j + 1) := by rw [← BitVec.shiftRight_add]
    rw [e8, ← ih]
    unfold refb
    cases (r.getLsbD 0 ^^ (BitVec.ofInt 32 (m : Int) >>> j).getLsbD 0)
    · rw [gc_f, J28_4_eq, wsucc (by omega), rg_shr]
      simp
      rfl
    · rw [gc_t, J28_4_eq, wsucc (by omega), shrX]
      rfl
theorem refOut (l : List Int) (hl : l.length ≤ 10000) (hb : BytesOk l) (x : AV) (h : AHeap) (sx : Sl h 1 encB l x) : ∀ (s : List Int) (i : Nat) (r : BitVec 32), l.drop i = s → J28_1 x (rg r) ((8 * i : Nat) : Int) h = some (.int .u32 (inot .u32 (rg (crcB r s))), h)
  | [], i, r, hs => by
    have := drop_nil hs
    have w8 : IntKind.i64.wrap (8 * (l.length : Int)) = 8 * (l.length : Int) := wrap64_id (by omega) (by omega)
    rw [J28_1_eq, sx.len, gv_some, w8, decide_eq_false (by omega), gc_f, J28_3_eq]
    rfl
  | a :: s, i, r, hs => by
    obtain ⟨hk, ha, hs'⟩ := drop_cons hs
    have ab : 0 ≤ a ∧ a < 256 := hb a (by rw [← ha]; exact List.getElem_mem hk)
    obtain ⟨m, rfl⟩ : ∃ m : Nat, a = (m : Int) := ⟨a.toNat, by omega⟩
    have e1 := refIn l hl x h sx i hk m ha (by omega) 8 0 r rfl
    have e2 := refOut l hl hb x h sx s (i + 1) (refN 8 r (BitVec.ofInt 32 (m : Int))) hs'
    rw [Nat.add_zero, BitVec.ushiftRight_zero] at e1
    have e3 : crcB r ((m : Int) :: s) = crcB (stN 8 (r ^^^ BitVec.ofInt 32 (m : Int))) s := rfl
    rw [e1, e2, e3, stN8 r _ (by omega) (by omega)]
theorem c_rsum (l : List Int) (hl : l.length ≤ 10000) (hb : BytesOk l) (x : AV) (h : AHeap) (sx : Sl h 1 encB l x) : acall Try.prog Nt 28 [x] h = some (.int .u32 (crcSum l), h) := by
  have e := refOut l hl hb x h sx l 0 (BitVec.allOnes 32) rfl
  rw [E28, ones_rg]
  exact e
theorem aint_shr (n : Int) (k : Nat) : aint .shr .u32 .i64 n (k : Int) = some (.int .u32 (ishr .u32 n (k : Int))) := by
  unfold aint ishr
  simp only
  rw [if_neg (by omega)]
theorem rsealLoop (h0 : AHeap) (S : Int) (l : List Int) (hl : l.length ≤ 10000) : ∀ (k i : Nat) (out : List Int) (y : AV) (t : AHeap), k + i = 4 → Ow h0.length (h0 ++ t) 1 encB out y → out.length + k ≤ 20000 →
    ∃ z t', J20_1 S y (i : Int) (h0 ++ t) = some (z, h0 ++ t') ∧ Ow h0.length (h0 ++ t') 1 encB (out ++ (List.range' i k).map fun j => IntKind.u8.wrap (ishr .u32 S ((8 * j : Nat) : Int))) z
  | 0, i, out, y, t, hk, oy, ho => by
    refine ⟨y, t, ?_, by simpa using oy⟩
    rw [J20_1_eq, decide_eq_false (by omega), gc_f, J20_3_eq]
  | k + 1, i, out, y, t, hk, oy, ho => by
    have w8 : IntKind.i64.wrap (8 * (i : Int)) = ((8 * i : Nat) : Int) := by
      have e : ((8 * i : Nat) : Int) = 8 * (i : Int) := by omega
      rw [e]
      exact wrap64_id (by omega) (by omega)
    obtain ⟨n, hn⟩ : ∃ n, n = IntKind.u8.wrap (ishr .u32 S ((8 * i : Nat) : Int)) := ⟨_, rfl⟩
    have o2 := oy.app [some (.cells false [.int .u8 n])]
    rw [List.append_assoc] at o2
    obtain ⟨w, t2, eb, ow⟩ := aapp_ow (by' := 1) (l2 := [n]) encB_len encB_isc o2 (by simp; omega)
    have l1 : [n].length = 1 := rfl
    rw [l1] at eb
    obtain ⟨z, t3, e3, o3⟩ := rsealLoop h0 S l hl k (i + 1) (out ++ [n]) w t2 (by omega) ow (by simp; omega)
    have es : asrc 1 (.sl (h0.length + t.length) 0 1 1) (h0 ++ (t ++ [some (.cells false [.int .u8 n])])) = some ([n].flatMap encB) := by
      refine Sl.src (α := Int) (l := [n]) (.inr ⟨_, 0, rfl, false, [.int .u8 n], ?_, by simp [encB], by simp [encB]⟩) encB_len
      rw [hget_at, get_app0]; rfl
    refine ⟨z, t3, ?_, ?_⟩
    · rw [J20_1_eq, decide_eq_true (by omega), gc_t, J20_2_eq, w8, aint_shr, gv_some, gI_int, ← hn, gN_eq, len_app, List.append_assoc, es, gv_some, eb, gr_some, J20_4_eq, wsucc (by omega), e3]
    · rw [List.range'_succ, List.map_cons, ← hn]
      simpa using o3
theorem c_rfseal (l : List Int) (hl : l.length ≤ 10000) (hb : BytesOk l) (x : AV) (h : AHeap) (sx : Sl h 1 encB l x) : Ev (acall Try.prog Nt 20 [x] h) h fun v h' => Ow h.length h' 1 encB (l ++ crcTail l) v := by
  rw [E20]
  have sr := fun g => (sx.app g).src encB_len
  simp (dsimp := false) (implicitDefEqProofs := false) (disch := omega) only [gv_some, gr_some, gI_int, gB_bool, gS_str, gc_t, gc_f, gi_t, gi_f, gN_eq, gf_t, Option.bind_some, Option.bind_none, Option.map_some, acells_agg, acells_int, acells_bool, acells_str, acells_ptr, acells_sl, acells_nilsl, acells_nilptr, acells_iface, acells_niliface, aptr_ptr, anil_ptr, aextract_0, aextract_1, aextract_2, alenS_sl, alenS_nil, alenOf_sl, alenOf_nil, apartOf_agg, apart_t, apart_f, astore_ptr, hset_at0, hset_at, hs_same, hs_ne, len_hset, List.set_cons_zero, List.set_cons_succ, set_app, set_app0, aload_ptr, splice_eq, List.drop_nil, List.append_nil, isCell_int, isCell_bool, isCell_str, isCell_ptr, isCell_sl, isCell_nilsl, isCell_nilptr, isCell_iface, isCell_niliface, List.all_cons, List.all_nil, Bool.and_self, hget_at0, hget_at, len_app, List.length_cons, List.length_nil, get_app, get_app0, List.getElem?_cons_zero, List.getElem?_cons_succ, join_some, List.append_assoc, List.cons_append, List.nil_append, Nat.zero_add, Nat.add_zero, Nat.mul_one, chkRd_eq, chkAl_blk, if_true, if_false, Bool.false_eq_true, List.drop_succ_cons, List.drop_zero, List.take_succ_cons, List.take_zero, Bool.and_true, Bool.true_and, decide_true, decide_false, wrap64_id, aixG_eq, Nat.reduceAdd, Nat.reduceSub, Nat.reduceMul, Nat.reduceLeDiff, Nat.reduceLT, Int.reduceAdd, Int.reduceSub, Int.reduceMul, Int.reduceNeg, Int.reduceLT, Int.reduceLE, Int.reduceGT, Int.reduceGE, Int.reduceToNat, ↓reduceIte, and_self, true_and, and_true, c_rsum l hl hb x h sx, sx.lenOf, sr]
  obtain ⟨y, t', ea, oy⟩ := aapp_ow (by' := 1) (pre := h) (t := [some (.cells false [])]) (x := .sl h.length 0 0 1) (l := ([] : List Int)) (l2 := l) encB_len encB_isc (.inr ⟨h.length, [], rfl, Nat.le_refl _, by rw [hget_at0]; rfl⟩) (by simp; omega)
  simp (dsimp := false) (implicitDefEqProofs := false) (disch := omega) only [gv_some, gr_some, gI_int, gB_bool, gS_str, gc_t, gc_f, gi_t, gi_f, gN_eq, gf_t, Option.bind_some, Option.bind_none, Option.map_some, acells_agg, acells_int, acells_bool, acells_str, acells_ptr, acells_sl, acells_nilsl, acells_nilptr, acells_iface, acells_niliface, aptr_ptr, anil_ptr, aextract_0, aextract_1, aextract_2, alenS_sl, alenS_nil, alenOf_sl, alenOf_nil, apartOf_agg, apart_t, apart_f, astore_ptr, hset_at0, hset_at, hs_same, hs_ne, len_hset, List.set_cons_zero, List.set_cons_succ, set_app, set_app0, aload_ptr, splice_eq, List.drop_nil, List.append_nil, isCell_int, isCell_bool, isCell_str, isCell_ptr, isCell_sl, isCell_nilsl, isCell_nilptr, isCell_iface, isCell_niliface, List.all_cons, List.all_nil, Bool.and_self, hget_at0, hget_at, len_app, List.length_cons, List.length_nil, get_app, get_app0, List.getElem?_cons_zero, List.getElem?_cons_succ, join_some, List.append_assoc, List.cons_append, List.nil_append, Nat.zero_add, Nat.add_zero, Nat.mul_one, chkRd_eq, chkAl_blk, if_true, if_false, Bool.false_eq_true, List.drop_succ_cons, List.drop_zero, List.take_succ_cons, List.take_zero, Bool.and_true, Bool.true_and, decide_true, decide_false, wrap64_id, aixG_eq, Nat.reduceAdd, Nat.reduceSub, Nat.reduceMul, Nat.reduceLeDiff, Nat.reduceLT, Int.reduceAdd, Int.reduceSub, Int.reduceMul, Int.reduceNeg, Int.reduceLT, Int.reduceLE, Int.reduceGT, Int.reduceGE, Int.reduceToNat, ↓reduceIte, and_self, true_and, and_true, ea]
  rw [List.nil_append] at oy
  obtain ⟨z, t2, e, oz⟩ := rsealLoop h (crcSum l) l hl 4 0 l y t' rfl oy (by omega)
  have z0 : ((0 : Nat) : Int) = 0 := rfl
  rw [z0] at e
  rw [e]
  refine Ev.done ?_
  have et : (List.range' 0 4).map (fun j => IntKind.u8.wrap (ishr .u32 (crcSum l) ((8 * j : Nat) : Int))) = crcTail l := by
    have s0 : ishr .u32 (crcSum l) 0 = crcSum l := by
      unfold ishr
      have : (min (0 : Int).toNat (IntKind.bits .u32)) = 0 := by decide
      rw [this]
      simp
    have : crcTail l = [IntKind.u8.wrap (ishr .u32 (crcSum l) 0), IntKind.u8.wrap (ishr .u32 (crcSum l) 8), IntKind.u8.wrap (ishr .u32 (crcSum l) 16), IntKind.u8.wrap (ishr .u32 (crcSum l) 24)] := by rw [s0]; rfl
    rw [this]
    rfl
  rw [et] at oz
  exact oz
end Go.Ab
end
section
/-
  Functions of the program as equations: written by program (wip/tools/prt.py).
-/
namespace Go.Ab
open Go.Proofs
/-! 29: escapement/escapementref01.Number -/
noncomputable def K29 : Kont := kend Try.prog 25 Try.f29.results.toList
noncomputable def K29_1 (lp : Loop) (jn : Join) : Kont := kblock 0 none K29
noncomputable def J29_1' (lp : Loop) (jn : Join) (x0 : Int) (h : AHeap) : Res := jn (codeJ Try.prog Nt lp jn 25 (nat' [true, true] A29) (cat [true, true] C29)) (envOf [(0, (.int .i64 x0))]) h K29
noncomputable def J29_1 (x0 : Int) (h : AHeap) : Res := J29_1' aloop (fun s => s) x0 h
noncomputable def J29_2' (lp : Loop) (jn : Join) (x0 : Int) (h : AHeap) : Res := jn (codeJ Try.prog Nt lp jn 25 (nat' [true, true, true] A29) (cat [true, true, true] C29)) (envOf [(0, (.int .i64 x0))]) h K29
noncomputable def J29_2 (x0 : Int) (h : AHeap) : Res := J29_2' aloop (fun s => s) x0 h
noncomputable def J29_3' (lp : Loop) (jn : Join) (x0 : Int) (x3 : List UInt8) (h : AHeap) : Res := lp (some [0, 3]) (codeJ Try.prog Nt lp jn 25 (nat' [true, true, true, true, false, false] A29) (cat [true, true, true, true, false, false] C29)) (envOf [(0, (.int .i64 x0)), (3, (.str x3))]) h (K29_1 lp jn)
noncomputable def J29_3 (x0 : Int) (x3 : List UInt8) (h : AHeap) : Res := J29_3' aloop (fun s => s) x0 x3 h
theorem J29_1_g (lp : Loop) (jn : Join) (x0 : Int) (h : AHeap) : codeJ Try.prog Nt lp jn 25 (nat' [true, true] A29) (cat [true, true] C29) (envOf [(0, (.int .i64 x0))]) h K29 = (gc (decide (x0 < 0)) (gr (acall Try.prog Nt 29 [(.int .i64 (IntKind.i64.wrap (0 - x0)))] h) fun r1 h2 => gS r1 fun s3 => gv (astr .add [45] s3) fun v4 => gS v4 fun s5 => some ((.str s5), h2)) (J29_2' lp jn x0 h)) := by kernel_rfl
theorem J29_1_eq (x0 : Int) (h : AHeap) : J29_1 x0 h = (gc (decide (x0 < 0)) (gr (acall Try.prog Nt 29 [(.int .i64 (IntKind.i64.wrap (0 - x0)))] h) fun r1 h2 => gS r1 fun s3 => gv (astr .add [45] s3) fun v4 => gS v4 fun s5 => some ((.str s5), h2)) (J29_2 x0 h)) := J29_1_g aloop (fun s => s) x0 h
theorem J29_2_g (lp : Loop) (jn : Join) (x0 : Int) (h : AHeap) : codeJ Try.prog Nt lp jn 25 (nat' [true, true, true] A29) (cat [true, true, true] C29) (envOf [(0, (.int .i64 x0))]) h K29 = (J29_3' lp jn x0 [] h) := by kernel_rfl
theorem J29_2_eq (x0 : Int) (h : AHeap) : J29_2 x0 h = (J29_3 x0 [] h) := J29_2_g aloop (fun s => s) x0 h
theorem J29_3_g (lp : Loop) (jn : Join) (x0 : Int) (x3 : List UInt8) (h : AHeap) : codeJ Try.prog Nt lp jn 25 (nat' [true, true, true, true, false, false] A29) (cat [true, true, true, true, false, false] C29) (envOf [(0, (.int .i64 x0)), (3, (.str x3))]) h (kloop (lp (some [0, 3]) (codeJ Try.prog Nt lp jn 25 (nat' [true, true, true, true, false, false] A29) (cat [true, true, true, true, false, false] C29))) (some [0, 3]) (K29_1 lp jn)) = (gN h [(.int .u8 (IntKind.u8.wrap (IntKind.i64.wrap (48 + (x0.tmod 10)))))] fun b6 h7 => gv (astrOf (.sl b6 0 1 1) h7) fun v8 => gS v8 fun s9 => gv (astr .add s9 x3) fun v10 => gS v10 fun s11 => gc ((IntKind.i64.wrap (x0.tdiv 10)) == 0) (some ((.str s11), h7)) (J29_3' lp jn (IntKind.i64.wrap (x0.tdiv 10)) s11 h7)) := by kernel_rfl
theorem J29_3_eq (x0 : Int) (x3 : List UInt8) (h : AHeap) : J29_3 x0 x3 h = (gN h [(.int .u8 (IntKind.u8.wrap (IntKind.i64.wrap (48 + (x0.tmod 10)))))] fun b6 h7 => gv (astrOf (.sl b6 0 1 1) h7) fun v8 => gS v8 fun s9 => gv (astr .add s9 x3) fun v10 => gS v10 fun s11 => gc ((IntKind.i64.wrap (x0.tdiv 10)) == 0) (some ((.str s11), h7)) (J29_3 (IntKind.i64.wrap (x0.tdiv 10)) s11 h7)) := (aloop_at (some [0, 3]) (nat' [true, true, true, true, false, false] A29) (cat [true, true, true, true, false, false] C29) (envOf [(0, (.int .i64 x0)), (3, (.str x3))]) h (K29_1 aloop (fun s => s))).trans (J29_3_g aloop (fun s => s) x0 x3 h)
theorem E29_g (lp : Loop) (jn : Join) (x0 : Int) (h : AHeap) : codeJ Try.prog Nt lp jn 25 (Nt 29) C29 (args [(.int .i64 x0)]) h K29 = (gc (x0 == (-9223372036854775808)) (some ((.str [45, 57, 50, 50, 51, 51, 55, 50, 48, 51, 54, 56, 53, 52, 55, 55, 53, 56, 48, 56]), h)) (J29_1' lp jn x0 h)) := by kernel_rfl
theorem E29 (x0 : Int) (h : AHeap) : acall Try.prog Nt 29 [(.int .i64 x0)] h = (gc (x0 == (-9223372036854775808)) (some ((.str [45, 57, 50, 50, 51, 51, 55, 50, 48, 51, 54, 56, 53, 52, 55, 55, 53, 56, 48, 56]), h)) (J29_1 x0 h)) := (acall_at rfl Try.func29 _ h 25 rfl (c := C29) rfl).trans (E29_g aloop (fun s => s) x0 h)
end Go.Ab
end
section
/-
  Number: the decimal text of a number, as a function; and the contract of escapementref01.Number.
-/
namespace Go.Ab
open Go.Proofs

/-- The digits of a number, ahead of a text. -/
def digs : Nat → Nat → List UInt8 → List UInt8
  | 0, _, s => s
  | k + 1, n, s => if n / 10 = 0 then UInt8.ofNat (48 + n % 10) :: s else digs k (n / 10) (UInt8.ofNat (48 + n % 10) :: s)
def num (n : Int) : List UInt8 := if n < 0 then 45 :: digs 20 n.natAbs [] else digs 20 n.natAbs []
theorem digs_len : ∀ (k n : Nat) (s : List UInt8), (digs k n s).length ≤ k + s.length
  | 0, n, s => by simp [digs]
  | k + 1, n, s => by
    unfold digs
    split
    · simp only [List.length_cons]; omega
    · have := digs_len k (n / 10) (UInt8.ofNat (48 + n % 10) :: s)
      simp only [List.length_cons] at this
      omega
theorem num_len (n : Int) : (num n).length ≤ 21 := by
  unfold num
  split
  · have := digs_len 20 n.natAbs []
    simp at this ⊢; omega
  · have := digs_len 20 n.natAbs []
    simp at this ⊢; omega
theorem byte1 (d : Nat) (hd : d < 10) (h : AHeap) : astrOf (.sl h.length 0 1 1) (h ++ [some (.cells false [.int .u8 (IntKind.u8.wrap (48 + (d : Int)))])]) = some (.str [UInt8.ofNat (48 + d)]) := by
  have h1 : IntKind.u8.wrap (48 + (d : Int)) = ((48 + d : Nat) : Int) := by
    rw [wrapu8_id (by omega) (by omega)]; simp
  simp only [astrOf, asrc, hget_at0, h1]
  rfl
theorem numLoop : ∀ (k n : Nat) (s : List UInt8) (h : AHeap), n < 10 ^ (k + 1) → n < 9223372036854775808 → s.length + k ≤ 1000 →
    Ev (J29_3 (n : Int) s h) h fun v _ => v = .str (digs (k + 1) n s) := by
  intro k
  induction k with
  | zero =>
    intro n s h hn hb hs
    rw [J29_3_eq]
    have hm : (n : Int).tmod 10 = ((n % 10 : Nat) : Int) := by rw [Int.tmod_eq_emod_of_nonneg (by omega)]; rfl
    have hd : IntKind.i64.wrap ((n : Int).tdiv 10) = 0 := by
      rw [Int.tdiv_eq_ediv_of_nonneg (by omega), wrap64_id (by omega) (by omega)]; omega
    simp (dsimp := false) (implicitDefEqProofs := false) (disch := omega) only [gv_some, gr_some, gI_int, gB_bool, gS_str, gc_t, gc_f, gi_t, gi_f, gN_eq, gf_t, Option.bind_some, Option.bind_none, Option.map_some, acells_agg, acells_int, acells_bool, acells_str, acells_ptr, acells_sl, acells_nilsl, acells_nilptr, acells_iface, acells_niliface, aptr_ptr, anil_ptr, aextract_0, aextract_1, aextract_2, alenS_sl, alenS_nil, alenOf_sl, alenOf_nil, apartOf_agg, apart_t, apart_f, astore_ptr, hset_at0, hset_at, hs_same, hs_ne, len_hset, List.set_cons_zero, List.set_cons_succ, set_app, set_app0, aload_ptr, splice_eq, List.drop_nil, List.append_nil, isCell_int, isCell_bool, isCell_str, isCell_ptr, isCell_sl, isCell_nilsl, isCell_nilptr, isCell_iface, isCell_niliface, List.all_cons, List.all_nil, Bool.and_self, hget_at0, hget_at, len_app, List.length_cons, List.length_nil, get_app, get_app0, List.getElem?_cons_zero, List.getElem?_cons_succ, join_some, List.append_assoc, List.cons_append, List.nil_append, Nat.zero_add, Nat.add_zero, Nat.mul_one, chkRd_eq, chkAl_blk, if_true, if_false, Bool.false_eq_true, List.drop_succ_cons, List.drop_zero, List.take_succ_cons, List.take_zero, Bool.and_true, Bool.true_and, decide_true, decide_false, wrap64_id, aixG_eq, Nat.reduceAdd, Nat.reduceSub, Nat.reduceMul, Nat.reduceLeDiff, Nat.reduceLT, Int.reduceAdd, Int.reduceSub, Int.reduceMul, Int.reduceNeg, Int.reduceLT, Int.reduceLE, Int.reduceGT, Int.reduceGE, Int.reduceToNat, ↓reduceIte, and_self, true_and, and_true, hm, hd, byte1 _ (Nat.mod_lt n (by omega : 0 < 10)) h]
    rw [astr_add (by simp only [List.length_cons, List.length_nil]; omega)]
    simp (dsimp := false) (implicitDefEqProofs := false) (disch := omega) only [gv_some, gr_some, gI_int, gB_bool, gS_str, gc_t, gc_f, gi_t, gi_f, gN_eq, gf_t, Option.bind_some, Option.bind_none, Option.map_some, acells_agg, acells_int, acells_bool, acells_str, acells_ptr, acells_sl, acells_nilsl, acells_nilptr, acells_iface, acells_niliface, aptr_ptr, anil_ptr, aextract_0, aextract_1, aextract_2, alenS_sl, alenS_nil, alenOf_sl, alenOf_nil, apartOf_agg, apart_t, apart_f, astore_ptr, hset_at0, hset_at, hs_same, hs_ne, len_hset, List.set_cons_zero, List.set_cons_succ, set_app, set_app0, aload_ptr, splice_eq, List.drop_nil, List.append_nil, isCell_int, isCell_bool, isCell_str, isCell_ptr, isCell_sl, isCell_nilsl, isCell_nilptr, isCell_iface, isCell_niliface, List.all_cons, List.all_nil, Bool.and_self, hget_at0, hget_at, len_app, List.length_cons, List.length_nil, get_app, get_app0, List.getElem?_cons_zero, List.getElem?_cons_succ, join_some, List.append_assoc, List.cons_append, List.nil_append, Nat.zero_add, Nat.add_zero, Nat.mul_one, chkRd_eq, chkAl_blk, if_true, if_false, Bool.false_eq_true, List.drop_succ_cons, List.drop_zero, List.take_succ_cons, List.take_zero, Bool.and_true, Bool.true_and, decide_true, decide_false, wrap64_id, aixG_eq, Nat.reduceAdd, Nat.reduceSub, Nat.reduceMul, Nat.reduceLeDiff, Nat.reduceLT, Int.reduceAdd, Int.reduceSub, Int.reduceMul, Int.reduceNeg, Int.reduceLT, Int.reduceLE, Int.reduceGT, Int.reduceGE, Int.reduceToNat, ↓reduceIte, and_self, true_and, and_true, hd, beq_self_eq_true]
    exact Ev.done (by simp [digs, show n / 10 = 0 by omega])
  | succ k ih =>
    intro n s h hn hb hs
    rw [J29_3_eq]
    have hm : (n : Int).tmod 10 = ((n % 10 : Nat) : Int) := by rw [Int.tmod_eq_emod_of_nonneg (by omega)]; rfl
    have hd : IntKind.i64.wrap ((n : Int).tdiv 10) = ((n / 10 : Nat) : Int) := by
      rw [Int.tdiv_eq_ediv_of_nonneg (by omega), wrap64_id (by omega) (by omega)]; rfl
    simp (dsimp := false) (implicitDefEqProofs := false) (disch := omega) only [gv_some, gr_some, gI_int, gB_bool, gS_str, gc_t, gc_f, gi_t, gi_f, gN_eq, gf_t, Option.bind_some, Option.bind_none, Option.map_some, acells_agg, acells_int, acells_bool, acells_str, acells_ptr, acells_sl, acells_nilsl, acells_nilptr, acells_iface, acells_niliface, aptr_ptr, anil_ptr, aextract_0, aextract_1, aextract_2, alenS_sl, alenS_nil, alenOf_sl, alenOf_nil, apartOf_agg, apart_t, apart_f, astore_ptr, hset_at0, hset_at, hs_same, hs_ne, len_hset, List.set_cons_zero, List.set_cons_succ, set_app, set_app0, aload_ptr, splice_eq, List.drop_nil, List.append_nil, isCell_int, isCell_bool, isCell_str, isCell_ptr, isCell_sl, isCell_nilsl, isCell_nilptr, isCell_iface, isCell_niliface, List.all_cons, List.all_nil, Bool.and_self, hget_at0, hget_at, len_app, List.length_cons, List.length_nil, get_app, get_app0, List.getElem?_cons_zero, List.getElem?_cons_succ, join_some, List.append_assoc, List.cons_append, List.nil_append, Nat.zero_add, Nat.add_zero, Nat.mul_one, chkRd_eq, chkAl_blk, if_true, if_false, Bool.false_eq_true, List.drop_succ_cons, List.drop_zero, List.take_succ_cons, List.take_zero, Bool.and_true, Bool.true_and, decide_true, decide_false, wrap64_id, aixG_eq, Nat.reduceAdd, Nat.reduceSub, Nat.reduceMul, Nat.reduceLeDiff, Nat.reduceLT, Int.reduceAdd, Int.reduceSub, Int.reduceMul, Int.reduceNeg, Int.reduceLT, Int.reduceLE, Int.reduceGT, Int.reduceGE, Int.reduceToNat, ↓reduceIte, and_self, true_and, and_true, hm, hd, byte1 _ (Nat.mod_lt n (by omega : 0 < 10)) h]
    rw [astr_add (by simp only [List.length_cons, List.length_nil]; omega)]
    simp (dsimp := false) (implicitDefEqProofs := false) (disch := omega) only [gv_some, gr_some, gI_int, gB_bool, gS_str, gc_t, gc_f, gi_t, gi_f, gN_eq, gf_t, Option.bind_some, Option.bind_none, Option.map_some, acells_agg, acells_int, acells_bool, acells_str, acells_ptr, acells_sl, acells_nilsl, acells_nilptr, acells_iface, acells_niliface, aptr_ptr, anil_ptr, aextract_0, aextract_1, aextract_2, alenS_sl, alenS_nil, alenOf_sl, alenOf_nil, apartOf_agg, apart_t, apart_f, astore_ptr, hset_at0, hset_at, hs_same, hs_ne, len_hset, List.set_cons_zero, List.set_cons_succ, set_app, set_app0, aload_ptr, splice_eq, List.drop_nil, List.append_nil, isCell_int, isCell_bool, isCell_str, isCell_ptr, isCell_sl, isCell_nilsl, isCell_nilptr, isCell_iface, isCell_niliface, List.all_cons, List.all_nil, Bool.and_self, hget_at0, hget_at, len_app, List.length_cons, List.length_nil, get_app, get_app0, List.getElem?_cons_zero, List.getElem?_cons_succ, join_some, List.append_assoc, List.cons_append, List.nil_append, Nat.zero_add, Nat.add_zero, Nat.mul_one, chkRd_eq, chkAl_blk, if_true, if_false, Bool.false_eq_true, List.drop_succ_cons, List.drop_zero, List.take_succ_cons, List.take_zero, Bool.and_true, Bool.true_and, decide_true, decide_false, wrap64_id, aixG_eq, Nat.reduceAdd, Nat.reduceSub, Nat.reduceMul, Nat.reduceLeDiff, Nat.reduceLT, Int.reduceAdd, Int.reduceSub, Int.reduceMul, Int.reduceNeg, Int.reduceLT, Int.reduceLE, Int.reduceGT, Int.reduceGE, Int.reduceToNat, ↓reduceIte, and_self, true_and, and_true, hd]
    unfold digs
    by_cases h0 : n / 10 = 0
    · simp only [h0, if_true]
      exact Ev.done (by simp)
    · have : ((((n / 10 : Nat) : Int)) == 0) = false := by simp; omega
      rw [this, if_neg h0]
      simp (dsimp := false) (implicitDefEqProofs := false) (disch := omega) only [gv_some, gr_some, gI_int, gB_bool, gS_str, gc_t, gc_f, gi_t, gi_f, gN_eq, gf_t, Option.bind_some, Option.bind_none, Option.map_some, acells_agg, acells_int, acells_bool, acells_str, acells_ptr, acells_sl, acells_nilsl, acells_nilptr, acells_iface, acells_niliface, aptr_ptr, anil_ptr, aextract_0, aextract_1, aextract_2, alenS_sl, alenS_nil, alenOf_sl, alenOf_nil, apartOf_agg, apart_t, apart_f, astore_ptr, hset_at0, hset_at, hs_same, hs_ne, len_hset, List.set_cons_zero, List.set_cons_succ, set_app, set_app0, aload_ptr, splice_eq, List.drop_nil, List.append_nil, isCell_int, isCell_bool, isCell_str, isCell_ptr, isCell_sl, isCell_nilsl, isCell_nilptr, isCell_iface, isCell_niliface, List.all_cons, List.all_nil, Bool.and_self, hget_at0, hget_at, len_app, List.length_cons, List.length_nil, get_app, get_app0, List.getElem?_cons_zero, List.getElem?_cons_succ, join_some, List.append_assoc, List.cons_append, List.nil_append, Nat.zero_add, Nat.add_zero, Nat.mul_one, chkRd_eq, chkAl_blk, if_true, if_false, Bool.false_eq_true, List.drop_succ_cons, List.drop_zero, List.take_succ_cons, List.take_zero, Bool.and_true, Bool.true_and, decide_true, decide_false, wrap64_id, aixG_eq, Nat.reduceAdd, Nat.reduceSub, Nat.reduceMul, Nat.reduceLeDiff, Nat.reduceLT, Int.reduceAdd, Int.reduceSub, Int.reduceMul, Int.reduceNeg, Int.reduceLT, Int.reduceLE, Int.reduceGT, Int.reduceGE, Int.reduceToNat, ↓reduceIte, and_self, true_and, and_true, hd]
      refine Ev.base (ih (n / 10) _ _ (by rw [Nat.pow_succ] at hn; omega) (by omega) ?_)
      simp only [List.length_cons]; omega
theorem digs_more : ∀ (k j n : Nat) (s : List UInt8), n < 10 ^ (k + 1) → k ≤ j → digs (k + 1) n s = digs (j + 1) n s
  | k, j, n, s, hn, hj => by
    unfold digs
    by_cases h0 : n / 10 = 0
    · rw [if_pos h0, if_pos h0]
    · rw [if_neg h0, if_neg h0]
      obtain ⟨i, rfl⟩ : ∃ i, k = i + 1 := by
        cases k with
        | zero => simp at hn; omega
        | succ i => exact ⟨i, rfl⟩
      obtain ⟨m, rfl⟩ : ∃ m, j = m + 1 := ⟨j - 1, by omega⟩
      exact digs_more i m (n / 10) _ (by rw [Nat.pow_succ] at hn; omega) (by omega)
/-- Number answers the text of a number. -/
theorem c_number (n : Int) (h : AHeap) (h1 : -9223372036854775808 ≤ n) (h2 : n ≤ 9223372036854775807) : Ev (acall Try.prog Nt 29 [.int .i64 n] h) h fun v _ => v = .str (num n) := by
  have nonneg : ∀ (m : Nat) (h : AHeap), m < 9223372036854775808 → Ev (acall Try.prog Nt 29 [.int .i64 (m : Int)] h) h fun v _ => v = .str (digs 20 m []) := by
    intro m h hm
    rw [E29, J29_1_eq, J29_2_eq]
    have e1 : ((m : Int) == -9223372036854775808) = false := by simp
    have e2 : decide ((m : Int) < 0) = false := by simp
    rw [e1, e2]
    exact numLoop 19 m [] h (by omega) hm (by simp)
  by_cases h0 : n = -9223372036854775808
  · subst h0
    rw [E29]
    exact Ev.here rfl
  · by_cases hn : n < 0
    · rw [E29, J29_1_eq]
      have e1 : (n == -9223372036854775808) = false := by simpa using h0
      have e2 : decide (n < 0) = true := by simpa using hn
      have e3 : IntKind.i64.wrap (0 - n) = (n.natAbs : Int) := by rw [wrap64_id (by omega) (by omega)]; omega
      rw [e1, e2, e3]
      simp (dsimp := false) (implicitDefEqProofs := false) (disch := omega) only [gv_some, gr_some, gI_int, gB_bool, gS_str, gc_t, gc_f, gi_t, gi_f, gN_eq, gf_t, Option.bind_some, Option.bind_none, Option.map_some, acells_agg, acells_int, acells_bool, acells_str, acells_ptr, acells_sl, acells_nilsl, acells_nilptr, acells_iface, acells_niliface, aptr_ptr, anil_ptr, aextract_0, aextract_1, aextract_2, alenS_sl, alenS_nil, alenOf_sl, alenOf_nil, apartOf_agg, apart_t, apart_f, astore_ptr, hset_at0, hset_at, hs_same, hs_ne, len_hset, List.set_cons_zero, List.set_cons_succ, set_app, set_app0, aload_ptr, splice_eq, List.drop_nil, List.append_nil, isCell_int, isCell_bool, isCell_str, isCell_ptr, isCell_sl, isCell_nilsl, isCell_nilptr, isCell_iface, isCell_niliface, List.all_cons, List.all_nil, Bool.and_self, hget_at0, hget_at, len_app, List.length_cons, List.length_nil, get_app, get_app0, List.getElem?_cons_zero, List.getElem?_cons_succ, join_some, List.append_assoc, List.cons_append, List.nil_append, Nat.zero_add, Nat.add_zero, Nat.mul_one, chkRd_eq, chkAl_blk, if_true, if_false, Bool.false_eq_true, List.drop_succ_cons, List.drop_zero, List.take_succ_cons, List.take_zero, Bool.and_true, Bool.true_and, decide_true, decide_false, wrap64_id, aixG_eq, Nat.reduceAdd, Nat.reduceSub, Nat.reduceMul, Nat.reduceLeDiff, Nat.reduceLT, Int.reduceAdd, Int.reduceSub, Int.reduceMul, Int.reduceNeg, Int.reduceLT, Int.reduceLE, Int.reduceGT, Int.reduceGE, Int.reduceToNat, ↓reduceIte, and_self, true_and, and_true]
      refine Ev.call (nonneg n.natAbs h (by omega)) fun v g hv => ?_
      subst hv
      have := digs_len 20 n.natAbs []
      simp (dsimp := false) (implicitDefEqProofs := false) (disch := omega) only [gv_some, gr_some, gI_int, gB_bool, gS_str, gc_t, gc_f, gi_t, gi_f, gN_eq, gf_t, Option.bind_some, Option.bind_none, Option.map_some, acells_agg, acells_int, acells_bool, acells_str, acells_ptr, acells_sl, acells_nilsl, acells_nilptr, acells_iface, acells_niliface, aptr_ptr, anil_ptr, aextract_0, aextract_1, aextract_2, alenS_sl, alenS_nil, alenOf_sl, alenOf_nil, apartOf_agg, apart_t, apart_f, astore_ptr, hset_at0, hset_at, hs_same, hs_ne, len_hset, List.set_cons_zero, List.set_cons_succ, set_app, set_app0, aload_ptr, splice_eq, List.drop_nil, List.append_nil, isCell_int, isCell_bool, isCell_str, isCell_ptr, isCell_sl, isCell_nilsl, isCell_nilptr, isCell_iface, isCell_niliface, List.all_cons, List.all_nil, Bool.and_self, hget_at0, hget_at, len_app, List.length_cons, List.length_nil, get_app, get_app0, List.getElem?_cons_zero, List.getElem?_cons_succ, join_some, List.append_assoc, List.cons_append, List.nil_append, Nat.zero_add, Nat.add_zero, Nat.mul_one, chkRd_eq, chkAl_blk, if_true, if_false, Bool.false_eq_true, List.drop_succ_cons, List.drop_zero, List.take_succ_cons, List.take_zero, Bool.and_true, Bool.true_and, decide_true, decide_false, wrap64_id, aixG_eq, Nat.reduceAdd, Nat.reduceSub, Nat.reduceMul, Nat.reduceLeDiff, Nat.reduceLT, Int.reduceAdd, Int.reduceSub, Int.reduceMul, Int.reduceNeg, Int.reduceLT, Int.reduceLE, Int.reduceGT, Int.reduceGE, Int.reduceToNat, ↓reduceIte, and_self, true_and, and_true]
      rw [astr_add (by simp at this ⊢; omega)]
      simp (dsimp := false) (implicitDefEqProofs := false) (disch := omega) only [gv_some, gr_some, gI_int, gB_bool, gS_str, gc_t, gc_f, gi_t, gi_f, gN_eq, gf_t, Option.bind_some, Option.bind_none, Option.map_some, acells_agg, acells_int, acells_bool, acells_str, acells_ptr, acells_sl, acells_nilsl, acells_nilptr, acells_iface, acells_niliface, aptr_ptr, anil_ptr, aextract_0, aextract_1, aextract_2, alenS_sl, alenS_nil, alenOf_sl, alenOf_nil, apartOf_agg, apart_t, apart_f, astore_ptr, hset_at0, hset_at, hs_same, hs_ne, len_hset, List.set_cons_zero, List.set_cons_succ, set_app, set_app0, aload_ptr, splice_eq, List.drop_nil, List.append_nil, isCell_int, isCell_bool, isCell_str, isCell_ptr, isCell_sl, isCell_nilsl, isCell_nilptr, isCell_iface, isCell_niliface, List.all_cons, List.all_nil, Bool.and_self, hget_at0, hget_at, len_app, List.length_cons, List.length_nil, get_app, get_app0, List.getElem?_cons_zero, List.getElem?_cons_succ, join_some, List.append_assoc, List.cons_append, List.nil_append, Nat.zero_add, Nat.add_zero, Nat.mul_one, chkRd_eq, chkAl_blk, if_true, if_false, Bool.false_eq_true, List.drop_succ_cons, List.drop_zero, List.take_succ_cons, List.take_zero, Bool.and_true, Bool.true_and, decide_true, decide_false, wrap64_id, aixG_eq, Nat.reduceAdd, Nat.reduceSub, Nat.reduceMul, Nat.reduceLeDiff, Nat.reduceLT, Int.reduceAdd, Int.reduceSub, Int.reduceMul, Int.reduceNeg, Int.reduceLT, Int.reduceLE, Int.reduceGT, Int.reduceGE, Int.reduceToNat, ↓reduceIte, and_self, true_and, and_true]
      exact Ev.done (by unfold num; rw [if_pos hn])
    · have := nonneg n.natAbs h (by omega)
      have e3 : (n.natAbs : Int) = n := by omega
      rw [e3] at this
      exact this.mono fun v g hv => by rw [hv]; unfold num; rw [if_neg hn]
end Go.Ab
end
section
/-
  Functions of the program as equations: written by program (wip/tools/prt.py).
-/
namespace Go.Ab
open Go.Proofs
/-! 21: escapement/escapementref01.E -/
noncomputable def K21 : Kont := kend Try.prog 5 Try.f21.results.toList
theorem E21_g (lp : Loop) (jn : Join) (x0 : Int) (h : AHeap) : codeJ Try.prog Nt lp jn 5 (Nt 21) C21 (args [(.int .i64 x0)]) h K21 = (gr (acall Try.prog Nt 29 [(.int .i64 x0)] h) fun r1 h2 => gS r1 fun s3 => some ((.str s3), h2)) := by kernel_rfl
theorem E21 (x0 : Int) (h : AHeap) : acall Try.prog Nt 21 [(.int .i64 x0)] h = (gr (acall Try.prog Nt 29 [(.int .i64 x0)] h) fun r1 h2 => gS r1 fun s3 => some ((.str s3), h2)) := (acall_at rfl Try.func21 _ h 5 rfl (c := C21) rfl).trans (E21_g aloop (fun s => s) x0 h)
end Go.Ab
end
section
/-
  Functions of the program as equations: written by program (wip/tools/prt.py).
-/
namespace Go.Ab
open Go.Proofs
/-! 22: escapement/escapementref01.At -/
noncomputable def K22 : Kont := kend Try.prog 13 Try.f22.results.toList
noncomputable def J22_1' (lp : Loop) (jn : Join) (x0 : Int) (x1 : Int) (h : AHeap) : Res := jn (codeJ Try.prog Nt lp jn 13 (nat' [true, true] A22) (cat [true, true] C22)) (envOf [(0, (.int .i64 x0)), (1, (.int .i64 x1))]) h K22
noncomputable def J22_1 (x0 : Int) (x1 : Int) (h : AHeap) : Res := J22_1' aloop (fun s => s) x0 x1 h
theorem J22_1_g (lp : Loop) (jn : Join) (x0 : Int) (x1 : Int) (h : AHeap) : codeJ Try.prog Nt lp jn 13 (nat' [true, true] A22) (cat [true, true] C22) (envOf [(0, (.int .i64 x0)), (1, (.int .i64 x1))]) h K22 = (gr (acall Try.prog Nt 29 [(.int .i64 x0)] h) fun r1 h2 => gS r1 fun s3 => gv (astr .add s3 [64]) fun v4 => gS v4 fun s5 => gr (acall Try.prog Nt 29 [(.int .i64 x1)] h2) fun r6 h7 => gS r6 fun s8 => gv (astr .add s5 s8) fun v9 => gS v9 fun s10 => some ((.str s10), h7)) := by kernel_rfl
theorem J22_1_eq (x0 : Int) (x1 : Int) (h : AHeap) : J22_1 x0 x1 h = (gr (acall Try.prog Nt 29 [(.int .i64 x0)] h) fun r1 h2 => gS r1 fun s3 => gv (astr .add s3 [64]) fun v4 => gS v4 fun s5 => gr (acall Try.prog Nt 29 [(.int .i64 x1)] h2) fun r6 h7 => gS r6 fun s8 => gv (astr .add s5 s8) fun v9 => gS v9 fun s10 => some ((.str s10), h7)) := J22_1_g aloop (fun s => s) x0 x1 h
theorem E22_g (lp : Loop) (jn : Join) (x0 : Int) (x1 : Int) (h : AHeap) : codeJ Try.prog Nt lp jn 13 (Nt 22) C22 (args [(.int .i64 x0), (.int .i64 x1)]) h K22 = (gc (decide (x1 < 0)) (J22_1' lp jn x0 (-1) h) (J22_1' lp jn x0 x1 h)) := by kernel_rfl
theorem E22 (x0 : Int) (x1 : Int) (h : AHeap) : acall Try.prog Nt 22 [(.int .i64 x0), (.int .i64 x1)] h = (gc (decide (x1 < 0)) (J22_1 x0 (-1) h) (J22_1 x0 x1 h)) := (acall_at rfl Try.func22 _ h 13 rfl (c := C22) rfl).trans (E22_g aloop (fun s => s) x0 x1 h)
end Go.Ab
end
section
/-
  Functions of the program as equations: written by program (wip/tools/prt.py).
-/
namespace Go.Ab
open Go.Proofs
/-! 17: escapement/escapementref01.Over -/
noncomputable def K17 : Kont := kend Try.prog 15 Try.f17.results.toList
noncomputable def J17_1' (lp : Loop) (jn : Join) (x0 : Int) (x1 : Int) (x2 : List UInt8) (h : AHeap) : Res := jn (codeJ Try.prog Nt lp jn 15 (nat' [true, true] A17) (cat [true, true] C17)) (envOf [(0, (.int .i64 x0)), (1, (.int .i64 x1)), (2, (.str x2))]) h K17
noncomputable def J17_1 (x0 : Int) (x1 : Int) (x2 : List UInt8) (h : AHeap) : Res := J17_1' aloop (fun s => s) x0 x1 x2 h
theorem J17_1_g (lp : Loop) (jn : Join) (x0 : Int) (x1 : Int) (x2 : List UInt8) (h : AHeap) : codeJ Try.prog Nt lp jn 15 (nat' [true, true] A17) (cat [true, true] C17) (envOf [(0, (.int .i64 x0)), (1, (.int .i64 x1)), (2, (.str x2))]) h K17 = (gr (acall Try.prog Nt 22 [(.int .i64 x0), (.int .i64 x1)] h) fun r1 h2 => gS r1 fun s3 => gv (astr .add s3 [62]) fun v4 => gS v4 fun s5 => gv (astr .add s5 x2) fun v6 => gS v6 fun s7 => some ((.str s7), h2)) := by kernel_rfl
theorem J17_1_eq (x0 : Int) (x1 : Int) (x2 : List UInt8) (h : AHeap) : J17_1 x0 x1 x2 h = (gr (acall Try.prog Nt 22 [(.int .i64 x0), (.int .i64 x1)] h) fun r1 h2 => gS r1 fun s3 => gv (astr .add s3 [62]) fun v4 => gS v4 fun s5 => gv (astr .add s5 x2) fun v6 => gS v6 fun s7 => some ((.str s7), h2)) := J17_1_g aloop (fun s => s) x0 x1 x2 h
theorem E17_g (lp : Loop) (jn : Join) (x0 : Int) (x1 : Int) (x2 : List UInt8) (h : AHeap) : codeJ Try.prog Nt lp jn 15 (Nt 17) C17 (args [(.int .i64 x0), (.int .i64 x1), (.str x2)]) h K17 = (gc (x2 == []) (some ((.str []), h)) (J17_1' lp jn x0 x1 x2 h)) := by kernel_rfl
theorem E17 (x0 : Int) (x1 : Int) (x2 : List UInt8) (h : AHeap) : acall Try.prog Nt 17 [(.int .i64 x0), (.int .i64 x1), (.str x2)] h = (gc (x2 == []) (some ((.str []), h)) (J17_1 x0 x1 x2 h)) := (acall_at rfl Try.func17 _ h 15 rfl (c := C17) rfl).trans (E17_g aloop (fun s => s) x0 x1 x2 h)
end Go.Ab
end
section
/-
  Texts of errors: escapementref01.E, At, Over.
-/
namespace Go.Ab
open Go.Proofs

def i64ok (n : Int) : Prop := -9223372036854775808 ≤ n ∧ n ≤ 9223372036854775807
def place (p : Int) : Int := if p < 0 then -1 else p
/-- The text of an error's link. -/
def atTxt (c p : Int) : List UInt8 := num c ++ [64] ++ num (place p)
theorem atTxt_len (c p : Int) : (atTxt c p).length ≤ 43 := by
  have := num_len c
  have := num_len (place p)
  simp [atTxt]; omega
theorem c_e (n : Int) (h : AHeap) (hn : i64ok n) : Ev (acall Try.prog Nt 21 [.int .i64 n] h) h fun v _ => v = .str (num n) := by
  rw [E21]
  refine Ev.call (c_number n h hn.1 hn.2) fun v g hv => ?_
  subst hv
  simp (dsimp := false) (implicitDefEqProofs := false) (disch := omega) only [gv_some, gr_some, gI_int, gB_bool, gS_str, gc_t, gc_f, gi_t, gi_f, gN_eq, gf_t, Option.bind_some, Option.bind_none, Option.map_some, acells_agg, acells_int, acells_bool, acells_str, acells_ptr, acells_sl, acells_nilsl, acells_nilptr, acells_iface, acells_niliface, aptr_ptr, anil_ptr, aextract_0, aextract_1, aextract_2, alenS_sl, alenS_nil, alenOf_sl, alenOf_nil, apartOf_agg, apart_t, apart_f, astore_ptr, hset_at0, hset_at, hs_same, hs_ne, len_hset, List.set_cons_zero, List.set_cons_succ, set_app, set_app0, aload_ptr, splice_eq, List.drop_nil, List.append_nil, isCell_int, isCell_bool, isCell_str, isCell_ptr, isCell_sl, isCell_nilsl, isCell_nilptr, isCell_iface, isCell_niliface, List.all_cons, List.all_nil, Bool.and_self, hget_at0, hget_at, len_app, List.length_cons, List.length_nil, get_app, get_app0, List.getElem?_cons_zero, List.getElem?_cons_succ, join_some, List.append_assoc, List.cons_append, List.nil_append, Nat.zero_add, Nat.add_zero, Nat.mul_one, chkRd_eq, chkAl_blk, if_true, if_false, Bool.false_eq_true, List.drop_succ_cons, List.drop_zero, List.take_succ_cons, List.take_zero, Bool.and_true, Bool.true_and, decide_true, decide_false, wrap64_id, aixG_eq, Nat.reduceAdd, Nat.reduceSub, Nat.reduceMul, Nat.reduceLeDiff, Nat.reduceLT, Int.reduceAdd, Int.reduceSub, Int.reduceMul, Int.reduceNeg, Int.reduceLT, Int.reduceLE, Int.reduceGT, Int.reduceGE, Int.reduceToNat, ↓reduceIte, and_self, true_and, and_true]
  exact Ev.done rfl
theorem c_at (c p : Int) (h : AHeap) (hc : i64ok c) (hp : i64ok p) : Ev (acall Try.prog Nt 22 [.int .i64 c, .int .i64 p] h) h fun v _ => v = .str (atTxt c p) := by
  have go : ∀ q, i64ok q → Ev (J22_1 c q h) h fun v _ => v = .str (num c ++ [64] ++ num q) := by
    intro q hq
    have l1 := num_len c
    have l2 := num_len q
    rw [J22_1_eq]
    refine Ev.call (c_number c h hc.1 hc.2) fun v g hv => ?_
    subst hv
    simp (dsimp := false) (implicitDefEqProofs := false) (disch := omega) only [gv_some, gr_some, gI_int, gB_bool, gS_str, gc_t, gc_f, gi_t, gi_f, gN_eq, gf_t, Option.bind_some, Option.bind_none, Option.map_some, acells_agg, acells_int, acells_bool, acells_str, acells_ptr, acells_sl, acells_nilsl, acells_nilptr, acells_iface, acells_niliface, aptr_ptr, anil_ptr, aextract_0, aextract_1, aextract_2, alenS_sl, alenS_nil, alenOf_sl, alenOf_nil, apartOf_agg, apart_t, apart_f, astore_ptr, hset_at0, hset_at, hs_same, hs_ne, len_hset, List.set_cons_zero, List.set_cons_succ, set_app, set_app0, aload_ptr, splice_eq, List.drop_nil, List.append_nil, isCell_int, isCell_bool, isCell_str, isCell_ptr, isCell_sl, isCell_nilsl, isCell_nilptr, isCell_iface, isCell_niliface, List.all_cons, List.all_nil, Bool.and_self, hget_at0, hget_at, len_app, List.length_cons, List.length_nil, get_app, get_app0, List.getElem?_cons_zero, List.getElem?_cons_succ, join_some, List.append_assoc, List.cons_append, List.nil_append, Nat.zero_add, Nat.add_zero, Nat.mul_one, chkRd_eq, chkAl_blk, if_true, if_false, Bool.false_eq_true, List.drop_succ_cons, List.drop_zero, List.take_succ_cons, List.take_zero, Bool.and_true, Bool.true_and, decide_true, decide_false, wrap64_id, aixG_eq, Nat.reduceAdd, Nat.reduceSub, Nat.reduceMul, Nat.reduceLeDiff, Nat.reduceLT, Int.reduceAdd, Int.reduceSub, Int.reduceMul, Int.reduceNeg, Int.reduceLT, Int.reduceLE, Int.reduceGT, Int.reduceGE, Int.reduceToNat, ↓reduceIte, and_self, true_and, and_true]
    rw [astr_add (by simp; omega)]
    simp (dsimp := false) (implicitDefEqProofs := false) (disch := omega) only [gv_some, gr_some, gI_int, gB_bool, gS_str, gc_t, gc_f, gi_t, gi_f, gN_eq, gf_t, Option.bind_some, Option.bind_none, Option.map_some, acells_agg, acells_int, acells_bool, acells_str, acells_ptr, acells_sl, acells_nilsl, acells_nilptr, acells_iface, acells_niliface, aptr_ptr, anil_ptr, aextract_0, aextract_1, aextract_2, alenS_sl, alenS_nil, alenOf_sl, alenOf_nil, apartOf_agg, apart_t, apart_f, astore_ptr, hset_at0, hset_at, hs_same, hs_ne, len_hset, List.set_cons_zero, List.set_cons_succ, set_app, set_app0, aload_ptr, splice_eq, List.drop_nil, List.append_nil, isCell_int, isCell_bool, isCell_str, isCell_ptr, isCell_sl, isCell_nilsl, isCell_nilptr, isCell_iface, isCell_niliface, List.all_cons, List.all_nil, Bool.and_self, hget_at0, hget_at, len_app, List.length_cons, List.length_nil, get_app, get_app0, List.getElem?_cons_zero, List.getElem?_cons_succ, join_some, List.append_assoc, List.cons_append, List.nil_append, Nat.zero_add, Nat.add_zero, Nat.mul_one, chkRd_eq, chkAl_blk, if_true, if_false, Bool.false_eq_true, List.drop_succ_cons, List.drop_zero, List.take_succ_cons, List.take_zero, Bool.and_true, Bool.true_and, decide_true, decide_false, wrap64_id, aixG_eq, Nat.reduceAdd, Nat.reduceSub, Nat.reduceMul, Nat.reduceLeDiff, Nat.reduceLT, Int.reduceAdd, Int.reduceSub, Int.reduceMul, Int.reduceNeg, Int.reduceLT, Int.reduceLE, Int.reduceGT, Int.reduceGE, Int.reduceToNat, ↓reduceIte, and_self, true_and, and_true]
    refine Ev.call (c_number q _ hq.1 hq.2) fun v g hv => ?_
    subst hv
    simp (dsimp := false) (implicitDefEqProofs := false) (disch := omega) only [gv_some, gr_some, gI_int, gB_bool, gS_str, gc_t, gc_f, gi_t, gi_f, gN_eq, gf_t, Option.bind_some, Option.bind_none, Option.map_some, acells_agg, acells_int, acells_bool, acells_str, acells_ptr, acells_sl, acells_nilsl, acells_nilptr, acells_iface, acells_niliface, aptr_ptr, anil_ptr, aextract_0, aextract_1, aextract_2, alenS_sl, alenS_nil, alenOf_sl, alenOf_nil, apartOf_agg, apart_t, apart_f, astore_ptr, hset_at0, hset_at, hs_same, hs_ne, len_hset, List.set_cons_zero, List.set_cons_succ, set_app, set_app0, aload_ptr, splice_eq, List.drop_nil, List.append_nil, isCell_int, isCell_bool, isCell_str, isCell_ptr, isCell_sl, isCell_nilsl, isCell_nilptr, isCell_iface, isCell_niliface, List.all_cons, List.all_nil, Bool.and_self, hget_at0, hget_at, len_app, List.length_cons, List.length_nil, get_app, get_app0, List.getElem?_cons_zero, List.getElem?_cons_succ, join_some, List.append_assoc, List.cons_append, List.nil_append, Nat.zero_add, Nat.add_zero, Nat.mul_one, chkRd_eq, chkAl_blk, if_true, if_false, Bool.false_eq_true, List.drop_succ_cons, List.drop_zero, List.take_succ_cons, List.take_zero, Bool.and_true, Bool.true_and, decide_true, decide_false, wrap64_id, aixG_eq, Nat.reduceAdd, Nat.reduceSub, Nat.reduceMul, Nat.reduceLeDiff, Nat.reduceLT, Int.reduceAdd, Int.reduceSub, Int.reduceMul, Int.reduceNeg, Int.reduceLT, Int.reduceLE, Int.reduceGT, Int.reduceGE, Int.reduceToNat, ↓reduceIte, and_self, true_and, and_true]
    rw [astr_add (by simp; omega)]
    simp (dsimp := false) (implicitDefEqProofs := false) (disch := omega) only [gv_some, gr_some, gI_int, gB_bool, gS_str, gc_t, gc_f, gi_t, gi_f, gN_eq, gf_t, Option.bind_some, Option.bind_none, Option.map_some, acells_agg, acells_int, acells_bool, acells_str, acells_ptr, acells_sl, acells_nilsl, acells_nilptr, acells_iface, acells_niliface, aptr_ptr, anil_ptr, aextract_0, aextract_1, aextract_2, alenS_sl, alenS_nil, alenOf_sl, alenOf_nil, apartOf_agg, apart_t, apart_f, astore_ptr, hset_at0, hset_at, hs_same, hs_ne, len_hset, List.set_cons_zero, List.set_cons_succ, set_app, set_app0, aload_ptr, splice_eq, List.drop_nil, List.append_nil, isCell_int, isCell_bool, isCell_str, isCell_ptr, isCell_sl, isCell_nilsl, isCell_nilptr, isCell_iface, isCell_niliface, List.all_cons, List.all_nil, Bool.and_self, hget_at0, hget_at, len_app, List.length_cons, List.length_nil, get_app, get_app0, List.getElem?_cons_zero, List.getElem?_cons_succ, join_some, List.append_assoc, List.cons_append, List.nil_append, Nat.zero_add, Nat.add_zero, Nat.mul_one, chkRd_eq, chkAl_blk, if_true, if_false, Bool.false_eq_true, List.drop_succ_cons, List.drop_zero, List.take_succ_cons, List.take_zero, Bool.and_true, Bool.true_and, decide_true, decide_false, wrap64_id, aixG_eq, Nat.reduceAdd, Nat.reduceSub, Nat.reduceMul, Nat.reduceLeDiff, Nat.reduceLT, Int.reduceAdd, Int.reduceSub, Int.reduceMul, Int.reduceNeg, Int.reduceLT, Int.reduceLE, Int.reduceGT, Int.reduceGE, Int.reduceToNat, ↓reduceIte, and_self, true_and, and_true]
    exact Ev.done rfl
  rw [E22]
  unfold atTxt place
  refine Ev.cdd (fun h0 => ?_) fun h0 => ?_
  · rw [if_pos h0]; exact go _ ⟨by omega, by omega⟩
  · rw [if_neg h0]; exact go p hp
theorem c_over (c p : Int) (s : List UInt8) (h : AHeap) (hc : i64ok c) (hp : i64ok p) (hs : s.length ≤ 100000) :
    Ev (acall Try.prog Nt 17 [.int .i64 c, .int .i64 p, .str s] h) h fun v _ => v = .str (if s = [] then [] else atTxt c p ++ [62] ++ s) := by
  rw [E17]
  have := atTxt_len c p
  refine Ev.cnd (fun h0 => ?_) fun h0 => ?_
  · simp only [beq_iff_eq] at h0
    rw [if_pos h0]
    exact Ev.here rfl
  · have h0 : s ≠ [] := by simpa using h0
    rw [if_neg h0, J17_1_eq]
    refine Ev.call (c_at c p h hc hp) fun v g hv => ?_
    subst hv
    simp (dsimp := false) (implicitDefEqProofs := false) (disch := omega) only [gv_some, gr_some, gI_int, gB_bool, gS_str, gc_t, gc_f, gi_t, gi_f, gN_eq, gf_t, Option.bind_some, Option.bind_none, Option.map_some, acells_agg, acells_int, acells_bool, acells_str, acells_ptr, acells_sl, acells_nilsl, acells_nilptr, acells_iface, acells_niliface, aptr_ptr, anil_ptr, aextract_0, aextract_1, aextract_2, alenS_sl, alenS_nil, alenOf_sl, alenOf_nil, apartOf_agg, apart_t, apart_f, astore_ptr, hset_at0, hset_at, hs_same, hs_ne, len_hset, List.set_cons_zero, List.set_cons_succ, set_app, set_app0, aload_ptr, splice_eq, List.drop_nil, List.append_nil, isCell_int, isCell_bool, isCell_str, isCell_ptr, isCell_sl, isCell_nilsl, isCell_nilptr, isCell_iface, isCell_niliface, List.all_cons, List.all_nil, Bool.and_self, hget_at0, hget_at, len_app, List.length_cons, List.length_nil, get_app, get_app0, List.getElem?_cons_zero, List.getElem?_cons_succ, join_some, List.append_assoc, List.cons_append, List.nil_append, Nat.zero_add, Nat.add_zero, Nat.mul_one, chkRd_eq, chkAl_blk, if_true, if_false, Bool.false_eq_true, List.drop_succ_cons, List.drop_zero, List.take_succ_cons, List.take_zero, Bool.and_true, Bool.true_and, decide_true, decide_false, wrap64_id, aixG_eq, Nat.reduceAdd, Nat.reduceSub, Nat.reduceMul, Nat.reduceLeDiff, Nat.reduceLT, Int.reduceAdd, Int.reduceSub, Int.reduceMul, Int.reduceNeg, Int.reduceLT, Int.reduceLE, Int.reduceGT, Int.reduceGE, Int.reduceToNat, ↓reduceIte, and_self, true_and, and_true]
    rw [astr_add (by simp; omega)]
    simp (dsimp := false) (implicitDefEqProofs := false) (disch := omega) only [gv_some, gr_some, gI_int, gB_bool, gS_str, gc_t, gc_f, gi_t, gi_f, gN_eq, gf_t, Option.bind_some, Option.bind_none, Option.map_some, acells_agg, acells_int, acells_bool, acells_str, acells_ptr, acells_sl, acells_nilsl, acells_nilptr, acells_iface, acells_niliface, aptr_ptr, anil_ptr, aextract_0, aextract_1, aextract_2, alenS_sl, alenS_nil, alenOf_sl, alenOf_nil, apartOf_agg, apart_t, apart_f, astore_ptr, hset_at0, hset_at, hs_same, hs_ne, len_hset, List.set_cons_zero, List.set_cons_succ, set_app, set_app0, aload_ptr, splice_eq, List.drop_nil, List.append_nil, isCell_int, isCell_bool, isCell_str, isCell_ptr, isCell_sl, isCell_nilsl, isCell_nilptr, isCell_iface, isCell_niliface, List.all_cons, List.all_nil, Bool.and_self, hget_at0, hget_at, len_app, List.length_cons, List.length_nil, get_app, get_app0, List.getElem?_cons_zero, List.getElem?_cons_succ, join_some, List.append_assoc, List.cons_append, List.nil_append, Nat.zero_add, Nat.add_zero, Nat.mul_one, chkRd_eq, chkAl_blk, if_true, if_false, Bool.false_eq_true, List.drop_succ_cons, List.drop_zero, List.take_succ_cons, List.take_zero, Bool.and_true, Bool.true_and, decide_true, decide_false, wrap64_id, aixG_eq, Nat.reduceAdd, Nat.reduceSub, Nat.reduceMul, Nat.reduceLeDiff, Nat.reduceLT, Int.reduceAdd, Int.reduceSub, Int.reduceMul, Int.reduceNeg, Int.reduceLT, Int.reduceLE, Int.reduceGT, Int.reduceGE, Int.reduceToNat, ↓reduceIte, and_self, true_and, and_true]
    rw [astr_add (by simp; omega)]
    simp (dsimp := false) (implicitDefEqProofs := false) (disch := omega) only [gv_some, gr_some, gI_int, gB_bool, gS_str, gc_t, gc_f, gi_t, gi_f, gN_eq, gf_t, Option.bind_some, Option.bind_none, Option.map_some, acells_agg, acells_int, acells_bool, acells_str, acells_ptr, acells_sl, acells_nilsl, acells_nilptr, acells_iface, acells_niliface, aptr_ptr, anil_ptr, aextract_0, aextract_1, aextract_2, alenS_sl, alenS_nil, alenOf_sl, alenOf_nil, apartOf_agg, apart_t, apart_f, astore_ptr, hset_at0, hset_at, hs_same, hs_ne, len_hset, List.set_cons_zero, List.set_cons_succ, set_app, set_app0, aload_ptr, splice_eq, List.drop_nil, List.append_nil, isCell_int, isCell_bool, isCell_str, isCell_ptr, isCell_sl, isCell_nilsl, isCell_nilptr, isCell_iface, isCell_niliface, List.all_cons, List.all_nil, Bool.and_self, hget_at0, hget_at, len_app, List.length_cons, List.length_nil, get_app, get_app0, List.getElem?_cons_zero, List.getElem?_cons_succ, join_some, List.append_assoc, List.cons_append, List.nil_append, Nat.zero_add, Nat.add_zero, Nat.mul_one, chkRd_eq, chkAl_blk, if_true, if_false, Bool.false_eq_true, List.drop_succ_cons, List.drop_zero, List.take_succ_cons, List.take_zero, Bool.and_true, Bool.true_and, decide_true, decide_false, wrap64_id, aixG_eq, Nat.reduceAdd, Nat.reduceSub, Nat.reduceMul, Nat.reduceLeDiff, Nat.reduceLT, Int.reduceAdd, Int.reduceSub, Int.reduceMul, Int.reduceNeg, Int.reduceLT, Int.reduceLE, Int.reduceGT, Int.reduceGE, Int.reduceToNat, ↓reduceIte, and_self, true_and, and_true]
    exact Ev.done (by simp)
end Go.Ab
end
section
/-
  Functions of the program as equations: written by program (wip/tools/prt.py).
-/
namespace Go.Ab
open Go.Proofs
/-! 23: escapement/fault.New -/
noncomputable def K23 : Kont := kend Try.prog 13 Try.f23.results.toList
noncomputable def J23_1' (lp : Loop) (jn : Join) (x0 : Int) (x1 : Int) (h : AHeap) : Res := jn (codeJ Try.prog Nt lp jn 13 (nat' [true, true] A23) (cat [true, true] C23)) (envOf [(0, (.int .i64 x0)), (1, (.int .i64 x1))]) h K23
noncomputable def J23_1 (x0 : Int) (x1 : Int) (h : AHeap) : Res := J23_1' aloop (fun s => s) x0 x1 h
theorem J23_1_g (lp : Loop) (jn : Join) (x0 : Int) (x1 : Int) (h : AHeap) : codeJ Try.prog Nt lp jn 13 (nat' [true, true] A23) (cat [true, true] C23) (envOf [(0, (.int .i64 x0)), (1, (.int .i64 x1))]) h K23 = (gN h [(.int .i64 x0), (.int .i64 (if (-1) > x1 then (-1) else x1)), .niliface] fun b1 h2 => some ((.iface 64 (.ptr b1 0)), h2)) := by kernel_rfl
theorem J23_1_eq (x0 : Int) (x1 : Int) (h : AHeap) : J23_1 x0 x1 h = (gN h [(.int .i64 x0), (.int .i64 (if (-1) > x1 then (-1) else x1)), .niliface] fun b1 h2 => some ((.iface 64 (.ptr b1 0)), h2)) := J23_1_g aloop (fun s => s) x0 x1 h
theorem E23_g (lp : Loop) (jn : Join) (x0 : Int) (x1 : Int) (h : AHeap) : codeJ Try.prog Nt lp jn 13 (Nt 23) C23 (args [(.int .i64 x0), (.int .i64 x1)]) h K23 = (gc (x0 == 0) (some (.niliface, h)) (J23_1' lp jn x0 x1 h)) := by kernel_rfl
theorem E23 (x0 : Int) (x1 : Int) (h : AHeap) : acall Try.prog Nt 23 [(.int .i64 x0), (.int .i64 x1)] h = (gc (x0 == 0) (some (.niliface, h)) (J23_1 x0 x1 h)) := (acall_at rfl Try.func23 _ h 13 rfl (c := C23) rfl).trans (E23_g aloop (fun s => s) x0 x1 h)
end Go.Ab
end
section
/-
  Functions of the program as equations: written by program (wip/tools/prt.py).
-/
namespace Go.Ab
open Go.Proofs
/-! 12: escapement/fault.Wrap -/
noncomputable def K12 : Kont := kend Try.prog 21 Try.f12.results.toList
noncomputable def J12_1' (lp : Loop) (jn : Join) (x0 : Int) (x1 : Int) (x2 : AV) (h : AHeap) : Res := jn (codeJ Try.prog Nt lp jn 21 (nat' [true, true] A12) (cat [true, true] C12)) (envOf [(0, (.int .i64 x0)), (1, (.int .i64 x1)), (2, x2)]) h K12
noncomputable def J12_1 (x0 : Int) (x1 : Int) (x2 : AV) (h : AHeap) : Res := J12_1' aloop (fun s => s) x0 x1 x2 h
theorem J12_1_g (lp : Loop) (jn : Join) (x0 : Int) (x1 : Int) (x2 : AV) (h : AHeap) : codeJ Try.prog Nt lp jn 21 (nat' [true, true] A12) (cat [true, true] C12) (envOf [(0, (.int .i64 x0)), (1, (.int .i64 x1)), (2, x2)]) h K12 = (gv (afillS [(0, 1), (1, 1), (2, 1)] [(.int .i64 0), (.int .i64 0), .niliface] [(0, (.int .i64 x0)), (1, (.int .i64 (if (-1) > x1 then (-1) else x1))), (2, x2)]) fun v3 => gv (acells v3) fun cs4 => gN h cs4 fun b5 h6 => some ((.iface 64 (.ptr b5 0)), h6)) := by kernel_rfl
theorem J12_1_eq (x0 : Int) (x1 : Int) (x2 : AV) (h : AHeap) : J12_1 x0 x1 x2 h = (gv (afillS [(0, 1), (1, 1), (2, 1)] [(.int .i64 0), (.int .i64 0), .niliface] [(0, (.int .i64 x0)), (1, (.int .i64 (if (-1) > x1 then (-1) else x1))), (2, x2)]) fun v3 => gv (acells v3) fun cs4 => gN h cs4 fun b5 h6 => some ((.iface 64 (.ptr b5 0)), h6)) := J12_1_g aloop (fun s => s) x0 x1 x2 h
theorem E12_g (lp : Loop) (jn : Join) (x0 : Int) (x1 : Int) (x2 : AV) (h : AHeap) : codeJ Try.prog Nt lp jn 21 (Nt 12) C12 (args [(.int .i64 x0), (.int .i64 x1), x2]) h K12 = (gv (abin Try.prog .eql 37 (aeqOk Try.prog 37 (.tmp 8) (.const .nilIface) x2 .niliface) x2 .niliface) fun v1 => gB v1 fun b2 => gc b2 (some (.niliface, h)) (gc (x0 == 0) (some (x2, h)) (J12_1' lp jn x0 x1 x2 h))) := by kernel_rfl
theorem E12 (x0 : Int) (x1 : Int) (x2 : AV) (h : AHeap) : acall Try.prog Nt 12 [(.int .i64 x0), (.int .i64 x1), x2] h = (gv (abin Try.prog .eql 37 (aeqOk Try.prog 37 (.tmp 8) (.const .nilIface) x2 .niliface) x2 .niliface) fun v1 => gB v1 fun b2 => gc b2 (some (.niliface, h)) (gc (x0 == 0) (some (x2, h)) (J12_1 x0 x1 x2 h))) := (acall_at rfl Try.func12 _ h 21 rfl (c := C12) rfl).trans (E12_g aloop (fun s => s) x0 x1 x2 h)
end Go.Ab
end
section
/-
  Functions of the program as equations: written by program (wip/tools/prt.py).
-/
namespace Go.Ab
open Go.Proofs
/-! 8: escapement/escapementlaw01.Read -/
noncomputable def K8 : Kont := kend Try.prog 63 Try.f8.results.toList
noncomputable def K8_1 (lp : Loop) (jn : Join) : Kont := kseqJ jn (codeJ Try.prog Nt lp jn 63 (nat' [true, true, true] A8) (cat [true, true, true] C8)) (some [3]) K8
noncomputable def K8_2 (lp : Loop) (jn : Join) : Kont := kblock 0 none (K8_1 lp jn)
noncomputable def K8_3 (lp : Loop) (jn : Join) : Kont := kloop (lp (some [0, 3, 4]) (codeJ Try.prog Nt lp jn 63 (nat' [true, true, false, true, false, false] A8) (cat [true, true, false, true, false, false] C8))) (some [0, 3, 4]) (K8_2 lp jn)
noncomputable def K8_4 (lp : Loop) (jn : Join) : Kont := kseqJ jn (codeJ Try.prog Nt lp jn 63 (nat' [true, true, false, true, false, false, true, true] A8) (cat [true, true, false, true, false, false, true, true] C8)) (some [0, 3, 4]) (K8_3 lp jn)
noncomputable def K8_5 (lp : Loop) (jn : Join) : Kont := kblock 1 none (K8_4 lp jn)
noncomputable def K8_6 (lp : Loop) (jn : Join) : Kont := kblock 2 none (K8_5 lp jn)
noncomputable def K8_7 (lp : Loop) (jn : Join) : Kont := kseqJ jn (codeJ Try.prog Nt lp jn 63 (nat' [true, true, false, true, false, false, true, false, false, true, true, false, true, true, true, false, true, true] A8) (cat [true, true, false, true, false, false, true, false, false, true, true, false, true, true, true, false, true, true] C8)) (some [3, 4, 6]) (K8_6 lp jn)
noncomputable def J8_1' (lp : Loop) (jn : Join) (x0 : AV) (x3 : List UInt8) (x4 : Int) (h : AHeap) : Res := lp (some [0, 3, 4]) (codeJ Try.prog Nt lp jn 63 (nat' [true, true, false, true, false, false] A8) (cat [true, true, false, true, false, false] C8)) (envOf [(0, x0), (3, (.str x3)), (4, (.int .i64 x4))]) h (K8_2 lp jn)
noncomputable def J8_1 (x0 : AV) (x3 : List UInt8) (x4 : Int) (h : AHeap) : Res := J8_1' aloop (fun s => s) x0 x3 x4 h
noncomputable def J8_2' (lp : Loop) (jn : Join) (x0 : AV) (x3 : List UInt8) (x4 : Int) (h : AHeap) : Res := jn (codeJ Try.prog Nt lp jn 63 (nat' [true, true, false, true, false, false, true] A8) (cat [true, true, false, true, false, false, true] C8)) (envOf [(0, x0), (3, (.str x3)), (4, (.int .i64 x4))]) h (K8_3 lp jn)
noncomputable def J8_2 (x0 : AV) (x3 : List UInt8) (x4 : Int) (h : AHeap) : Res := J8_2' aloop (fun s => s) x0 x3 x4 h
noncomputable def J8_3' (lp : Loop) (jn : Join) (x3 : List UInt8) (h : AHeap) : Res := jn (codeJ Try.prog Nt lp jn 63 (nat' [true, true, true] A8) (cat [true, true, true] C8)) (envOf [(3, (.str x3))]) h K8
noncomputable def J8_3 (x3 : List UInt8) (h : AHeap) : Res := J8_3' aloop (fun s => s) x3 h
noncomputable def J8_4' (lp : Loop) (jn : Join) (x0 : AV) (x3 : List UInt8) (x4 : Int) (h : AHeap) : Res := jn (codeJ Try.prog Nt lp jn 63 (nat' [true, true, false, true, false, false, true, false, false, true] A8) (cat [true, true, false, true, false, false, true, false, false, true] C8)) (envOf [(0, x0), (3, (.str x3)), (4, (.int .i64 x4))]) h (K8_5 lp jn)
noncomputable def J8_4 (x0 : AV) (x3 : List UInt8) (x4 : Int) (h : AHeap) : Res := J8_4' aloop (fun s => s) x0 x3 x4 h
noncomputable def J8_5' (lp : Loop) (jn : Join) (x3 : List UInt8) (x4 : Int) (x6 : AV) (x46 : Bool) (h : AHeap) : Res := jn (codeJ Try.prog Nt lp jn 63 (nat' [true, true, false, true, false, false, true, false, false, true, true, false, true, true, true, false, true, false, true] A8) (cat [true, true, false, true, false, false, true, false, false, true, true, false, true, true, true, false, true, false, true] C8)) (envOf [(3, (.str x3)), (4, (.int .i64 x4)), (6, x6), (46, (.bool x46))]) h (K8_7 lp jn)
noncomputable def J8_5 (x3 : List UInt8) (x4 : Int) (x6 : AV) (x46 : Bool) (h : AHeap) : Res := J8_5' aloop (fun s => s) x3 x4 x6 x46 h
noncomputable def J8_6' (lp : Loop) (jn : Join) (x3 : List UInt8) (x4 : Int) (x6 : AV) (h : AHeap) : Res := jn (codeJ Try.prog Nt lp jn 63 (nat' [true, true, false, true, false, false, true, false, false, true, true, false, true, true, true, false, true, true] A8) (cat [true, true, false, true, false, false, true, false, false, true, true, false, true, true, true, false, true, true] C8)) (envOf [(3, (.str x3)), (4, (.int .i64 x4)), (6, x6)]) h (K8_6 lp jn)
noncomputable def J8_6 (x3 : List UInt8) (x4 : Int) (x6 : AV) (h : AHeap) : Res := J8_6' aloop (fun s => s) x3 x4 x6 h
noncomputable def J8_7' (lp : Loop) (jn : Join) (x0 : AV) (x3 : List UInt8) (x4 : Int) (h : AHeap) : Res := jn (codeJ Try.prog Nt lp jn 63 (nat' [true, true, false, true, false, false, true, true] A8) (cat [true, true, false, true, false, false, true, true] C8)) (envOf [(0, x0), (3, (.str x3)), (4, (.int .i64 x4))]) h (K8_3 lp jn)
noncomputable def J8_7 (x0 : AV) (x3 : List UInt8) (x4 : Int) (h : AHeap) : Res := J8_7' aloop (fun s => s) x0 x3 x4 h
theorem J8_1_g (lp : Loop) (jn : Join) (x0 : AV) (x3 : List UInt8) (x4 : Int) (h : AHeap) : codeJ Try.prog Nt lp jn 63 (nat' [true, true, false, true, false, false] A8) (cat [true, true, false, true, false, false] C8) (envOf [(0, x0), (3, (.str x3)), (4, (.int .i64 x4))]) h (kloop (lp (some [0, 3, 4]) (codeJ Try.prog Nt lp jn 63 (nat' [true, true, false, true, false, false] A8) (cat [true, true, false, true, false, false] C8))) (some [0, 3, 4]) (K8_2 lp jn)) = (gv (abin Try.prog .neq 37 (aeqOk Try.prog 37 (.tmp 8) (.const .nilIface) x0 .niliface) x0 .niliface) fun v1 => gB v1 fun b2 => gc b2 (J8_2' lp jn x0 x3 x4 h) (J8_3' lp jn x3 h)) := by kernel_rfl
theorem J8_1_eq (x0 : AV) (x3 : List UInt8) (x4 : Int) (h : AHeap) : J8_1 x0 x3 x4 h = (gv (abin Try.prog .neq 37 (aeqOk Try.prog 37 (.tmp 8) (.const .nilIface) x0 .niliface) x0 .niliface) fun v1 => gB v1 fun b2 => gc b2 (J8_2 x0 x3 x4 h) (J8_3 x3 h)) := (aloop_at (some [0, 3, 4]) (nat' [true, true, false, true, false, false] A8) (cat [true, true, false, true, false, false] C8) (envOf [(0, x0), (3, (.str x3)), (4, (.int .i64 x4))]) h (K8_2 aloop (fun s => s))).trans (J8_1_g aloop (fun s => s) x0 x3 x4 h)
theorem J8_2_g (lp : Loop) (jn : Join) (x0 : AV) (x3 : List UInt8) (x4 : Int) (h : AHeap) : codeJ Try.prog Nt lp jn 63 (nat' [true, true, false, true, false, false, true] A8) (cat [true, true, false, true, false, false, true] C8) (envOf [(0, x0), (3, (.str x3)), (4, (.int .i64 x4))]) h (K8_3 lp jn) = (gc (decide (x4 > 0)) (gv (astr .add x3 [62]) fun v3 => gS v3 fun s4 => J8_4' lp jn x0 s4 x4 h) (J8_4' lp jn x0 x3 x4 h)) := by kernel_rfl
theorem J8_2_eq (x0 : AV) (x3 : List UInt8) (x4 : Int) (h : AHeap) : J8_2 x0 x3 x4 h = (gc (decide (x4 > 0)) (gv (astr .add x3 [62]) fun v3 => gS v3 fun s4 => J8_4 x0 s4 x4 h) (J8_4 x0 x3 x4 h)) := J8_2_g aloop (fun s => s) x0 x3 x4 h
theorem J8_3_g (lp : Loop) (jn : Join) (x3 : List UInt8) (h : AHeap) : codeJ Try.prog Nt lp jn 63 (nat' [true, true, true] A8) (cat [true, true, true] C8) (envOf [(3, (.str x3))]) h K8 = (some ((.str x3), h)) := by kernel_rfl
theorem J8_3_eq (x3 : List UInt8) (h : AHeap) : J8_3 x3 h = (some ((.str x3), h)) := J8_3_g aloop (fun s => s) x3 h
theorem J8_4_g (lp : Loop) (jn : Join) (x0 : AV) (x3 : List UInt8) (x4 : Int) (h : AHeap) : codeJ Try.prog Nt lp jn 63 (nat' [true, true, false, true, false, false, true, false, false, true] A8) (cat [true, true, false, true, false, false, true, false, false, true] C8) (envOf [(0, x0), (3, (.str x3)), (4, (.int .i64 x4))]) h (K8_5 lp jn) = (gv (aassert Try.prog x0 50 true) fun v5 => gv (aextract v5 1) fun v6 => gB v6 fun b7 => gv (aextract v5 0) fun v8 => gI .i64 v8 fun n9 => gc b7 (gr (acall Try.prog Nt 21 [(.int .i64 n9)] h) fun r10 h11 => gS r10 fun s12 => gv (astr .add x3 s12) fun v13 => gS v13 fun s14 => some ((.str s14), h11)) (gv (aassert Try.prog x0 64 true) fun v15 => gv (aextract v15 1) fun v16 => gB v16 fun b17 => gv (aextract v15 0) fun v18 => gc b17 (gv (abin Try.prog .eql 64 (aeqOk Try.prog 64 (.tmp 27) (.const (.pointer none)) v18 .nilptr) v18 .nilptr) fun v19 => gB v19 fun b20 => gi b20 (J8_5' lp jn x3 x4 v18 true h) (gv (anil v18) fun v21 => gv (aptr v21 0) fun v22 => gv (aload false 1 v22 h) fun v23 => gI .i64 v23 fun n24 => gi (n24 == 0) (J8_5' lp jn x3 x4 v18 true h) (gv (anil v18) fun v25 => gv (aptr v25 1) fun v26 => gv (aload false 1 v26 h) fun v27 => gI .i64 v27 fun n28 => gi (decide (n28 < (-1))) (J8_5' lp jn x3 x4 v18 true h) (J8_5' lp jn x3 x4 v18 (decide (x4 > 20)) h)))) (some ((.str [63]), h)))) := by kernel_rfl
theorem J8_4_eq (x0 : AV) (x3 : List UInt8) (x4 : Int) (h : AHeap) : J8_4 x0 x3 x4 h = (gv (aassert Try.prog x0 50 true) fun v5 => gv (aextract v5 1) fun v6 => gB v6 fun b7 => gv (aextract v5 0) fun v8 => gI .i64 v8 fun n9 => gc b7 (gr (acall Try.prog Nt 21 [(.int .i64 n9)] h) fun r10 h11 => gS r10 fun s12 => gv (astr .add x3 s12) fun v13 => gS v13 fun s14 => some ((.str s14), h11)) (gv (aassert Try.prog x0 64 true) fun v15 => gv (aextract v15 1) fun v16 => gB v16 fun b17 => gv (aextract v15 0) fun v18 => gc b17 (gv (abin Try.prog .eql 64 (aeqOk Try.prog 64 (.tmp 27) (.const (.pointer none)) v18 .nilptr) v18 .nilptr) fun v19 => gB v19 fun b20 => gi b20 (J8_5 x3 x4 v18 true h) (gv (anil v18) fun v21 => gv (aptr v21 0) fun v22 => gv (aload false 1 v22 h) fun v23 => gI .i64 v23 fun n24 => gi (n24 == 0) (J8_5 x3 x4 v18 true h) (gv (anil v18) fun v25 => gv (aptr v25 1) fun v26 => gv (aload false 1 v26 h) fun v27 => gI .i64 v27 fun n28 => gi (decide (n28 < (-1))) (J8_5 x3 x4 v18 true h) (J8_5 x3 x4 v18 (decide (x4 > 20)) h)))) (some ((.str [63]), h)))) := J8_4_g aloop (fun s => s) x0 x3 x4 h
theorem J8_5_g (lp : Loop) (jn : Join) (x3 : List UInt8) (x4 : Int) (x6 : AV) (x46 : Bool) (h : AHeap) : codeJ Try.prog Nt lp jn 63 (nat' [true, true, false, true, false, false, true, false, false, true, true, false, true, true, true, false, true, false, true] A8) (cat [true, true, false, true, false, false, true, false, false, true, true, false, true, true, true, false, true, false, true] C8) (envOf [(3, (.str x3)), (4, (.int .i64 x4)), (6, x6), (46, (.bool x46))]) h (K8_7 lp jn) = (gc x46 (some ((.str [63]), h)) (J8_6' lp jn x3 x4 x6 h)) := by kernel_rfl
theorem J8_5_eq (x3 : List UInt8) (x4 : Int) (x6 : AV) (x46 : Bool) (h : AHeap) : J8_5 x3 x4 x6 x46 h = (gc x46 (some ((.str [63]), h)) (J8_6 x3 x4 x6 h)) := J8_5_g aloop (fun s => s) x3 x4 x6 x46 h
theorem J8_6_g (lp : Loop) (jn : Join) (x3 : List UInt8) (x4 : Int) (x6 : AV) (h : AHeap) : codeJ Try.prog Nt lp jn 63 (nat' [true, true, false, true, false, false, true, false, false, true, true, false, true, true, true, false, true, true] A8) (cat [true, true, false, true, false, false, true, false, false, true, true, false, true, true, true, false, true, true] C8) (envOf [(3, (.str x3)), (4, (.int .i64 x4)), (6, x6)]) h (K8_6 lp jn) = (gv (anil x6) fun v29 => gv (aptr v29 0) fun v30 => gv (aload false 1 v30 h) fun v31 => gI .i64 v31 fun n32 => gv (anil x6) fun v33 => gv (aptr v33 1) fun v34 => gv (aload false 1 v34 h) fun v35 => gI .i64 v35 fun n36 => gr (acall Try.prog Nt 22 [(.int .i64 n32), (.int .i64 n36)] h) fun r37 h38 => gS r37 fun s39 => gv (astr .add x3 s39) fun v40 => gS v40 fun s41 => gv (anil x6) fun v42 => gv (aptr v42 2) fun v43 => gv (aload false 1 v43 h38) fun v44 => J8_7' lp jn v44 s41 x4 h38) := by kernel_rfl
theorem J8_6_eq (x3 : List UInt8) (x4 : Int) (x6 : AV) (h : AHeap) : J8_6 x3 x4 x6 h = (gv (anil x6) fun v29 => gv (aptr v29 0) fun v30 => gv (aload false 1 v30 h) fun v31 => gI .i64 v31 fun n32 => gv (anil x6) fun v33 => gv (aptr v33 1) fun v34 => gv (aload false 1 v34 h) fun v35 => gI .i64 v35 fun n36 => gr (acall Try.prog Nt 22 [(.int .i64 n32), (.int .i64 n36)] h) fun r37 h38 => gS r37 fun s39 => gv (astr .add x3 s39) fun v40 => gS v40 fun s41 => gv (anil x6) fun v42 => gv (aptr v42 2) fun v43 => gv (aload false 1 v43 h38) fun v44 => J8_7 v44 s41 x4 h38) := J8_6_g aloop (fun s => s) x3 x4 x6 h
theorem J8_7_g (lp : Loop) (jn : Join) (x0 : AV) (x3 : List UInt8) (x4 : Int) (h : AHeap) : codeJ Try.prog Nt lp jn 63 (nat' [true, true, false, true, false, false, true, true] A8) (cat [true, true, false, true, false, false, true, true] C8) (envOf [(0, x0), (3, (.str x3)), (4, (.int .i64 x4))]) h (K8_3 lp jn) = (J8_1' lp jn x0 x3 (IntKind.i64.wrap (x4 + 1)) h) := by kernel_rfl
theorem J8_7_eq (x0 : AV) (x3 : List UInt8) (x4 : Int) (h : AHeap) : J8_7 x0 x3 x4 h = (J8_1 x0 x3 (IntKind.i64.wrap (x4 + 1)) h) := J8_7_g aloop (fun s => s) x0 x3 x4 h
theorem E8_g (lp : Loop) (jn : Join) (x0 : AV) (h : AHeap) : codeJ Try.prog Nt lp jn 63 (Nt 8) C8 (args [x0]) h K8 = (J8_1' lp jn x0 [] 0 h) := by kernel_rfl
theorem E8 (x0 : AV) (h : AHeap) : acall Try.prog Nt 8 [x0] h = (J8_1 x0 [] 0 h) := (acall_at rfl Try.func8 _ h 63 rfl (c := C8) rfl).trans (E8_g aloop (fun s => s) x0 h)
end Go.Ab
end
section
/-
  Errors: fault.New, fault.Wrap, and escapementlaw01.Read.
-/
namespace Go.Ab
open Go.Proofs

/-- A link of an error: a code, and its place; a bare number without. -/
abbrev Lnk := Int × Option Int
/-- An error: nil, or a code and a place over another error, or a number. -/
def ErrV (h : AHeap) : List Lnk → AV → Prop
  | [], x => x = .niliface
  | (c, some p) :: l, x => ∃ b ro y, x = .iface 64 (.ptr b 0) ∧ hget h b = some (.cells ro [.int .i64 c, .int .i64 p, y]) ∧ c ≠ 0 ∧ i64ok c ∧ -1 ≤ p ∧ i64ok p ∧ ErrV h l y
  | (c, none) :: l, x => x = .iface 50 (.int .i64 c) ∧ i64ok c ∧ l = []
theorem ErrV.app {h : AHeap} (g : AHeap) : ∀ {l : List Lnk} {x : AV}, ErrV h l x → ErrV (h ++ g) l x
  | [], _, e => e
  | (_, some _) :: l, _, ⟨b, ro, y, e1, e2, e3, e4, e5, e6, e7⟩ => ⟨b, ro, y, e1, hget_app e2, e3, e4, e5, e6, e7.app g⟩
  | (_, none) :: l, _, e => e
theorem ErrV.isnil {h : AHeap} {l : List Lnk} {x : AV} (e : ErrV h l x) : (x = .niliface ∧ l = []) ∨ (∃ t v, x = .iface t v) ∧ l ≠ [] := by
  match l, e with
  | [], e => exact .inl ⟨e, rfl⟩
  | (c, some p) :: l, ⟨b, ro, y, e, _⟩ => exact .inr ⟨⟨_, _, e⟩, by simp⟩
  | (c, none) :: l, ⟨e, _⟩ => exact .inr ⟨⟨_, _, e⟩, by simp⟩
/-- The text of an error. -/
def lnkTxt : Lnk → List UInt8
  | (c, some p) => atTxt c p
  | (c, none) => num c
def tailTxt : List Lnk → List UInt8
  | [] => []
  | k :: l => [62] ++ lnkTxt k ++ tailTxt l
def errTxt : List Lnk → List UInt8
  | [] => []
  | k :: l => lnkTxt k ++ tailTxt l

theorem digs_ne : ∀ (k n : Nat) (s : List UInt8), 0 < k ∨ s ≠ [] → digs k n s ≠ []
  | 0, n, s, h => by rcases h with h | h; exact absurd h (by omega); exact h
  | k + 1, n, s, _ => by
    unfold digs
    split
    · simp
    · exact digs_ne k _ _ (.inr (by simp))
theorem num_ne (n : Int) : num n ≠ [] := by
  unfold num
  split
  · simp
  · exact digs_ne 20 _ _ (.inl (by omega))
theorem errTxt_ne {l : List Lnk} (h : l ≠ []) : errTxt l ≠ [] := by
  match l, h with
  | (c, none) :: l, _ => simp [errTxt, lnkTxt, num_ne]
  | (c, some p) :: l, _ => simp [errTxt, lnkTxt, atTxt]
theorem u_error : ∃ ms, (Try.prog).underlying 37 = some (.interface ms) := ⟨#[("Error", (match (Try.prog).underlying 37 with | some (.interface ms) => (ms.getD 0 ("", 0)).2 | _ => 0))], by kernel_rfl⟩
theorem err_ne_iface (a b : Operand) (t : TypeId) (v : AV) : abin Try.prog .neq 37 (aeqOk Try.prog 37 a b (.iface t v) .niliface) (.iface t v) .niliface = some (.bool true) := by
  obtain ⟨ms, hu⟩ := u_error
  rw [aeqOk_iface, abin_ne_iface hu]
theorem err_ne_nil (a : Operand) (c : Value) : abin Try.prog .neq 37 (aeqOk Try.prog 37 a (.const c) .niliface .niliface) .niliface .niliface = some (.bool false) := by
  obtain ⟨ms, hu⟩ := u_error
  rw [aeqOk_niliface, abin_ne_niliface hu]
theorem err_eq_iface (a b : Operand) (t : TypeId) (v : AV) : abin Try.prog .eql 37 (aeqOk Try.prog 37 a b (.iface t v) .niliface) (.iface t v) .niliface = some (.bool false) := by
  obtain ⟨ms, hu⟩ := u_error
  rw [aeqOk_iface, abin_eq_iface hu]
theorem err_eq_nil (a : Operand) (c : Value) : abin Try.prog .eql 37 (aeqOk Try.prog 37 a (.const c) .niliface .niliface) .niliface .niliface = some (.bool true) := by
  obtain ⟨ms, hu⟩ := u_error
  rw [aeqOk_niliface, abin_eq_niliface hu]
theorem flt_eq_ptr (a b : Operand) (c o : Nat) : abin Try.prog .eql 64 (aeqOk Try.prog 64 a b (.ptr c o) .nilptr) (.ptr c o) .nilptr = some (.bool false) := by
  rw [aeqOk_ptr, abin_eq_ptr (e := 66) (by kernel_rfl)]
theorem as_errno_f (v : AV) : aassert Try.prog (.iface 64 v) 50 true = some (.tuple [.int .i64 0, .bool false]) := by kernel_rfl
theorem as_fault_f (v : AV) : aassert Try.prog (.iface 64 v) 64 true = some (.tuple [v, .bool true]) := by kernel_rfl
theorem as_errno_e (v : AV) : aassert Try.prog (.iface 50 v) 50 true = some (.tuple [v, .bool true]) := by kernel_rfl

theorem place_ge (p : Int) : -1 ≤ place p := by unfold place; split <;> omega
theorem place_ok {p : Int} (h : i64ok p) : i64ok (place p) := by unfold place i64ok at *; split <;> omega
theorem place_id {p : Int} (h : -1 ≤ p) : place p = p := by unfold place; split <;> omega
theorem place_max (p : Int) : (if (-1 : Int) > p then (-1 : Int) else p) = place p := by
  unfold place
  by_cases h1 : p < 0
  · rw [if_pos h1]; split <;> omega
  · rw [if_neg h1, if_neg (by omega)]
theorem c_new (c p : Int) (h : AHeap) (hc : i64ok c) (h0 : c ≠ 0) (hp : i64ok p) : Ev (acall Try.prog Nt 23 [.int .i64 c, .int .i64 p] h) h fun v h' => ErrV h' [(c, some (place p))] v := by
  rw [E23]
  have e0 : (c == 0) = false := by simpa using h0
  rw [e0, J23_1_eq, place_max]
  simp (dsimp := false) (implicitDefEqProofs := false) (disch := omega) only [gv_some, gr_some, gI_int, gB_bool, gS_str, gc_t, gc_f, gi_t, gi_f, gN_eq, gf_t, Option.bind_some, Option.bind_none, Option.map_some, acells_agg, acells_int, acells_bool, acells_str, acells_ptr, acells_sl, acells_nilsl, acells_nilptr, acells_iface, acells_niliface, aptr_ptr, anil_ptr, aextract_0, aextract_1, aextract_2, alenS_sl, alenS_nil, alenOf_sl, alenOf_nil, apartOf_agg, apart_t, apart_f, astore_ptr, hset_at0, hset_at, hs_same, hs_ne, len_hset, List.set_cons_zero, List.set_cons_succ, set_app, set_app0, aload_ptr, splice_eq, List.drop_nil, List.append_nil, isCell_int, isCell_bool, isCell_str, isCell_ptr, isCell_sl, isCell_nilsl, isCell_nilptr, isCell_iface, isCell_niliface, List.all_cons, List.all_nil, Bool.and_self, hget_at0, hget_at, len_app, List.length_cons, List.length_nil, get_app, get_app0, List.getElem?_cons_zero, List.getElem?_cons_succ, join_some, List.append_assoc, List.cons_append, List.nil_append, Nat.zero_add, Nat.add_zero, Nat.mul_one, chkRd_eq, chkAl_blk, if_true, if_false, Bool.false_eq_true, List.drop_succ_cons, List.drop_zero, List.take_succ_cons, List.take_zero, Bool.and_true, Bool.true_and, decide_true, decide_false, wrap64_id, aixG_eq, Nat.reduceAdd, Nat.reduceSub, Nat.reduceMul, Nat.reduceLeDiff, Nat.reduceLT, Int.reduceAdd, Int.reduceSub, Int.reduceMul, Int.reduceNeg, Int.reduceLT, Int.reduceLE, Int.reduceGT, Int.reduceGE, Int.reduceToNat, ↓reduceIte, and_self, true_and, and_true]
  exact Ev.done ⟨h.length, false, .niliface, rfl, by rw [hget_at0]; rfl, h0, hc, place_ge p, place_ok hp, rfl⟩
theorem c_wrap (c p : Int) (l : List Lnk) (x : AV) (h : AHeap) (hc : i64ok c) (h0 : c ≠ 0) (hp : i64ok p) (hx : ErrV h l x) : Ev (acall Try.prog Nt 12 [.int .i64 c, .int .i64 p, x] h) h fun v h' => ErrV h' (if l = [] then [] else (c, some (place p)) :: l) v := by
  rw [E12]
  rcases hx.isnil with ⟨rfl, rfl⟩ | ⟨⟨t, v, rfl⟩, hl⟩
  · simp (dsimp := false) (implicitDefEqProofs := false) (disch := omega) only [gv_some, gr_some, gI_int, gB_bool, gS_str, gc_t, gc_f, gi_t, gi_f, gN_eq, gf_t, Option.bind_some, Option.bind_none, Option.map_some, acells_agg, acells_int, acells_bool, acells_str, acells_ptr, acells_sl, acells_nilsl, acells_nilptr, acells_iface, acells_niliface, aptr_ptr, anil_ptr, aextract_0, aextract_1, aextract_2, alenS_sl, alenS_nil, alenOf_sl, alenOf_nil, apartOf_agg, apart_t, apart_f, astore_ptr, hset_at0, hset_at, hs_same, hs_ne, len_hset, List.set_cons_zero, List.set_cons_succ, set_app, set_app0, aload_ptr, splice_eq, List.drop_nil, List.append_nil, isCell_int, isCell_bool, isCell_str, isCell_ptr, isCell_sl, isCell_nilsl, isCell_nilptr, isCell_iface, isCell_niliface, List.all_cons, List.all_nil, Bool.and_self, hget_at0, hget_at, len_app, List.length_cons, List.length_nil, get_app, get_app0, List.getElem?_cons_zero, List.getElem?_cons_succ, join_some, List.append_assoc, List.cons_append, List.nil_append, Nat.zero_add, Nat.add_zero, Nat.mul_one, chkRd_eq, chkAl_blk, if_true, if_false, Bool.false_eq_true, List.drop_succ_cons, List.drop_zero, List.take_succ_cons, List.take_zero, Bool.and_true, Bool.true_and, decide_true, decide_false, wrap64_id, aixG_eq, Nat.reduceAdd, Nat.reduceSub, Nat.reduceMul, Nat.reduceLeDiff, Nat.reduceLT, Int.reduceAdd, Int.reduceSub, Int.reduceMul, Int.reduceNeg, Int.reduceLT, Int.reduceLE, Int.reduceGT, Int.reduceGE, Int.reduceToNat, ↓reduceIte, and_self, true_and, and_true, err_eq_nil]
    exact Ev.here rfl
  · have e0 : (c == 0) = false := by simpa using h0
    simp (dsimp := false) (implicitDefEqProofs := false) (disch := omega) only [gv_some, gr_some, gI_int, gB_bool, gS_str, gc_t, gc_f, gi_t, gi_f, gN_eq, gf_t, Option.bind_some, Option.bind_none, Option.map_some, acells_agg, acells_int, acells_bool, acells_str, acells_ptr, acells_sl, acells_nilsl, acells_nilptr, acells_iface, acells_niliface, aptr_ptr, anil_ptr, aextract_0, aextract_1, aextract_2, alenS_sl, alenS_nil, alenOf_sl, alenOf_nil, apartOf_agg, apart_t, apart_f, astore_ptr, hset_at0, hset_at, hs_same, hs_ne, len_hset, List.set_cons_zero, List.set_cons_succ, set_app, set_app0, aload_ptr, splice_eq, List.drop_nil, List.append_nil, isCell_int, isCell_bool, isCell_str, isCell_ptr, isCell_sl, isCell_nilsl, isCell_nilptr, isCell_iface, isCell_niliface, List.all_cons, List.all_nil, Bool.and_self, hget_at0, hget_at, len_app, List.length_cons, List.length_nil, get_app, get_app0, List.getElem?_cons_zero, List.getElem?_cons_succ, join_some, List.append_assoc, List.cons_append, List.nil_append, Nat.zero_add, Nat.add_zero, Nat.mul_one, chkRd_eq, chkAl_blk, if_true, if_false, Bool.false_eq_true, List.drop_succ_cons, List.drop_zero, List.take_succ_cons, List.take_zero, Bool.and_true, Bool.true_and, decide_true, decide_false, wrap64_id, aixG_eq, Nat.reduceAdd, Nat.reduceSub, Nat.reduceMul, Nat.reduceLeDiff, Nat.reduceLT, Int.reduceAdd, Int.reduceSub, Int.reduceMul, Int.reduceNeg, Int.reduceLT, Int.reduceLE, Int.reduceGT, Int.reduceGE, Int.reduceToNat, ↓reduceIte, and_self, true_and, and_true, err_eq_iface, e0]
    rw [J12_1_eq, place_max]
    have : afillS [(0, 1), (1, 1), (2, 1)] [.int .i64 0, .int .i64 0, .niliface] [(0, .int .i64 c), (1, .int .i64 (place p)), (2, .iface t v)] = some (.agg [.int .i64 c, .int .i64 (place p), .iface t v]) := rfl
    simp (dsimp := false) (implicitDefEqProofs := false) (disch := omega) only [gv_some, gr_some, gI_int, gB_bool, gS_str, gc_t, gc_f, gi_t, gi_f, gN_eq, gf_t, Option.bind_some, Option.bind_none, Option.map_some, acells_agg, acells_int, acells_bool, acells_str, acells_ptr, acells_sl, acells_nilsl, acells_nilptr, acells_iface, acells_niliface, aptr_ptr, anil_ptr, aextract_0, aextract_1, aextract_2, alenS_sl, alenS_nil, alenOf_sl, alenOf_nil, apartOf_agg, apart_t, apart_f, astore_ptr, hset_at0, hset_at, hs_same, hs_ne, len_hset, List.set_cons_zero, List.set_cons_succ, set_app, set_app0, aload_ptr, splice_eq, List.drop_nil, List.append_nil, isCell_int, isCell_bool, isCell_str, isCell_ptr, isCell_sl, isCell_nilsl, isCell_nilptr, isCell_iface, isCell_niliface, List.all_cons, List.all_nil, Bool.and_self, hget_at0, hget_at, len_app, List.length_cons, List.length_nil, get_app, get_app0, List.getElem?_cons_zero, List.getElem?_cons_succ, join_some, List.append_assoc, List.cons_append, List.nil_append, Nat.zero_add, Nat.add_zero, Nat.mul_one, chkRd_eq, chkAl_blk, if_true, if_false, Bool.false_eq_true, List.drop_succ_cons, List.drop_zero, List.take_succ_cons, List.take_zero, Bool.and_true, Bool.true_and, decide_true, decide_false, wrap64_id, aixG_eq, Nat.reduceAdd, Nat.reduceSub, Nat.reduceMul, Nat.reduceLeDiff, Nat.reduceLT, Int.reduceAdd, Int.reduceSub, Int.reduceMul, Int.reduceNeg, Int.reduceLT, Int.reduceLE, Int.reduceGT, Int.reduceGE, Int.reduceToNat, ↓reduceIte, and_self, true_and, and_true, this]
    rw [if_neg hl]
    exact Ev.done ⟨h.length, false, _, rfl, by rw [hget_at0]; rfl, h0, hc, place_ge p, place_ok hp, hx.app _⟩

theorem lnkTxt_len (k : Lnk) : (lnkTxt k).length ≤ 43 := by
  obtain ⟨c, p⟩ := k
  cases p with
  | none => have := num_len c; simp only [lnkTxt]; omega
  | some p => exact atTxt_len c p
theorem readLoop : ∀ (l : List Lnk) (x : AV) (s : List UInt8) (i : Nat) (h : AHeap), ErrV h l x → i + l.length ≤ 21 → s.length + 50 * l.length ≤ 10000 →
    Ev (J8_1 x s (i : Int) h) h fun v _ => v = .str (s ++ if i = 0 then errTxt l else tailTxt l) := by
  intro l
  induction l with
  | nil =>
    intro x s i h he _ _
    cases he
    rw [J8_1_eq]
    simp (dsimp := false) (implicitDefEqProofs := false) (disch := omega) only [gv_some, gr_some, gI_int, gB_bool, gS_str, gc_t, gc_f, gi_t, gi_f, gN_eq, gf_t, Option.bind_some, Option.bind_none, Option.map_some, acells_agg, acells_int, acells_bool, acells_str, acells_ptr, acells_sl, acells_nilsl, acells_nilptr, acells_iface, acells_niliface, aptr_ptr, anil_ptr, aextract_0, aextract_1, aextract_2, alenS_sl, alenS_nil, alenOf_sl, alenOf_nil, apartOf_agg, apart_t, apart_f, astore_ptr, hset_at0, hset_at, hs_same, hs_ne, len_hset, List.set_cons_zero, List.set_cons_succ, set_app, set_app0, aload_ptr, splice_eq, List.drop_nil, List.append_nil, isCell_int, isCell_bool, isCell_str, isCell_ptr, isCell_sl, isCell_nilsl, isCell_nilptr, isCell_iface, isCell_niliface, List.all_cons, List.all_nil, Bool.and_self, hget_at0, hget_at, len_app, List.length_cons, List.length_nil, get_app, get_app0, List.getElem?_cons_zero, List.getElem?_cons_succ, join_some, List.append_assoc, List.cons_append, List.nil_append, Nat.zero_add, Nat.add_zero, Nat.mul_one, chkRd_eq, chkAl_blk, if_true, if_false, Bool.false_eq_true, List.drop_succ_cons, List.drop_zero, List.take_succ_cons, List.take_zero, Bool.and_true, Bool.true_and, decide_true, decide_false, wrap64_id, aixG_eq, Nat.reduceAdd, Nat.reduceSub, Nat.reduceMul, Nat.reduceLeDiff, Nat.reduceLT, Int.reduceAdd, Int.reduceSub, Int.reduceMul, Int.reduceNeg, Int.reduceLT, Int.reduceLE, Int.reduceGT, Int.reduceGE, Int.reduceToNat, ↓reduceIte, and_self, true_and, and_true, err_ne_nil]
    rw [J8_3_eq]
    exact Ev.here (by cases i <;> simp [errTxt, tailTxt])
  | cons k l ih =>
    intro x s i h he hi hs
    simp only [List.length_cons] at hi hs
    have lk := lnkTxt_len k
    have main : ∀ s', s'.length + 50 * l.length + 45 ≤ 10000 → Ev (J8_4 x s' (i : Int) h) h fun v _ => v = .str (s' ++ lnkTxt k ++ tailTxt l) := by
      intro s' hs'
      rw [J8_4_eq]
      match k, he with
      | (c, none), ⟨e1, hc, hl⟩ =>
        subst e1; subst hl
        simp (dsimp := false) (implicitDefEqProofs := false) (disch := omega) only [gv_some, gr_some, gI_int, gB_bool, gS_str, gc_t, gc_f, gi_t, gi_f, gN_eq, gf_t, Option.bind_some, Option.bind_none, Option.map_some, acells_agg, acells_int, acells_bool, acells_str, acells_ptr, acells_sl, acells_nilsl, acells_nilptr, acells_iface, acells_niliface, aptr_ptr, anil_ptr, aextract_0, aextract_1, aextract_2, alenS_sl, alenS_nil, alenOf_sl, alenOf_nil, apartOf_agg, apart_t, apart_f, astore_ptr, hset_at0, hset_at, hs_same, hs_ne, len_hset, List.set_cons_zero, List.set_cons_succ, set_app, set_app0, aload_ptr, splice_eq, List.drop_nil, List.append_nil, isCell_int, isCell_bool, isCell_str, isCell_ptr, isCell_sl, isCell_nilsl, isCell_nilptr, isCell_iface, isCell_niliface, List.all_cons, List.all_nil, Bool.and_self, hget_at0, hget_at, len_app, List.length_cons, List.length_nil, get_app, get_app0, List.getElem?_cons_zero, List.getElem?_cons_succ, join_some, List.append_assoc, List.cons_append, List.nil_append, Nat.zero_add, Nat.add_zero, Nat.mul_one, chkRd_eq, chkAl_blk, if_true, if_false, Bool.false_eq_true, List.drop_succ_cons, List.drop_zero, List.take_succ_cons, List.take_zero, Bool.and_true, Bool.true_and, decide_true, decide_false, wrap64_id, aixG_eq, Nat.reduceAdd, Nat.reduceSub, Nat.reduceMul, Nat.reduceLeDiff, Nat.reduceLT, Int.reduceAdd, Int.reduceSub, Int.reduceMul, Int.reduceNeg, Int.reduceLT, Int.reduceLE, Int.reduceGT, Int.reduceGE, Int.reduceToNat, ↓reduceIte, and_self, true_and, and_true, as_errno_e]
        refine Ev.call (c_e c h hc) fun v g hv => ?_
        subst hv
        simp (dsimp := false) (implicitDefEqProofs := false) (disch := omega) only [gv_some, gr_some, gI_int, gB_bool, gS_str, gc_t, gc_f, gi_t, gi_f, gN_eq, gf_t, Option.bind_some, Option.bind_none, Option.map_some, acells_agg, acells_int, acells_bool, acells_str, acells_ptr, acells_sl, acells_nilsl, acells_nilptr, acells_iface, acells_niliface, aptr_ptr, anil_ptr, aextract_0, aextract_1, aextract_2, alenS_sl, alenS_nil, alenOf_sl, alenOf_nil, apartOf_agg, apart_t, apart_f, astore_ptr, hset_at0, hset_at, hs_same, hs_ne, len_hset, List.set_cons_zero, List.set_cons_succ, set_app, set_app0, aload_ptr, splice_eq, List.drop_nil, List.append_nil, isCell_int, isCell_bool, isCell_str, isCell_ptr, isCell_sl, isCell_nilsl, isCell_nilptr, isCell_iface, isCell_niliface, List.all_cons, List.all_nil, Bool.and_self, hget_at0, hget_at, len_app, List.length_cons, List.length_nil, get_app, get_app0, List.getElem?_cons_zero, List.getElem?_cons_succ, join_some, List.append_assoc, List.cons_append, List.nil_append, Nat.zero_add, Nat.add_zero, Nat.mul_one, chkRd_eq, chkAl_blk, if_true, if_false, Bool.false_eq_true, List.drop_succ_cons, List.drop_zero, List.take_succ_cons, List.take_zero, Bool.and_true, Bool.true_and, decide_true, decide_false, wrap64_id, aixG_eq, Nat.reduceAdd, Nat.reduceSub, Nat.reduceMul, Nat.reduceLeDiff, Nat.reduceLT, Int.reduceAdd, Int.reduceSub, Int.reduceMul, Int.reduceNeg, Int.reduceLT, Int.reduceLE, Int.reduceGT, Int.reduceGE, Int.reduceToNat, ↓reduceIte, and_self, true_and, and_true]
        rw [astr_add (by simp only [lnkTxt] at lk; omega)]
        simp (dsimp := false) (implicitDefEqProofs := false) (disch := omega) only [gv_some, gr_some, gI_int, gB_bool, gS_str, gc_t, gc_f, gi_t, gi_f, gN_eq, gf_t, Option.bind_some, Option.bind_none, Option.map_some, acells_agg, acells_int, acells_bool, acells_str, acells_ptr, acells_sl, acells_nilsl, acells_nilptr, acells_iface, acells_niliface, aptr_ptr, anil_ptr, aextract_0, aextract_1, aextract_2, alenS_sl, alenS_nil, alenOf_sl, alenOf_nil, apartOf_agg, apart_t, apart_f, astore_ptr, hset_at0, hset_at, hs_same, hs_ne, len_hset, List.set_cons_zero, List.set_cons_succ, set_app, set_app0, aload_ptr, splice_eq, List.drop_nil, List.append_nil, isCell_int, isCell_bool, isCell_str, isCell_ptr, isCell_sl, isCell_nilsl, isCell_nilptr, isCell_iface, isCell_niliface, List.all_cons, List.all_nil, Bool.and_self, hget_at0, hget_at, len_app, List.length_cons, List.length_nil, get_app, get_app0, List.getElem?_cons_zero, List.getElem?_cons_succ, join_some, List.append_assoc, List.cons_append, List.nil_append, Nat.zero_add, Nat.add_zero, Nat.mul_one, chkRd_eq, chkAl_blk, if_true, if_false, Bool.false_eq_true, List.drop_succ_cons, List.drop_zero, List.take_succ_cons, List.take_zero, Bool.and_true, Bool.true_and, decide_true, decide_false, wrap64_id, aixG_eq, Nat.reduceAdd, Nat.reduceSub, Nat.reduceMul, Nat.reduceLeDiff, Nat.reduceLT, Int.reduceAdd, Int.reduceSub, Int.reduceMul, Int.reduceNeg, Int.reduceLT, Int.reduceLE, Int.reduceGT, Int.reduceGE, Int.reduceToNat, ↓reduceIte, and_self, true_and, and_true]
        exact Ev.done (by simp [lnkTxt, tailTxt])
      | (c, some p), ⟨b, ro, y, e1, hb, h0, hc, hp1, hp, hy⟩ =>
        subst e1
        have f0 : (c == 0) = false := by simpa using h0
        have f1 : decide (p < -1) = false := by simpa using hp1
        have f2 : decide ((i : Int) > 20) = false := by simp; omega
        simp (dsimp := false) (implicitDefEqProofs := false) (disch := omega) only [gv_some, gr_some, gI_int, gB_bool, gS_str, gc_t, gc_f, gi_t, gi_f, gN_eq, gf_t, Option.bind_some, Option.bind_none, Option.map_some, acells_agg, acells_int, acells_bool, acells_str, acells_ptr, acells_sl, acells_nilsl, acells_nilptr, acells_iface, acells_niliface, aptr_ptr, anil_ptr, aextract_0, aextract_1, aextract_2, alenS_sl, alenS_nil, alenOf_sl, alenOf_nil, apartOf_agg, apart_t, apart_f, astore_ptr, hset_at0, hset_at, hs_same, hs_ne, len_hset, List.set_cons_zero, List.set_cons_succ, set_app, set_app0, aload_ptr, splice_eq, List.drop_nil, List.append_nil, isCell_int, isCell_bool, isCell_str, isCell_ptr, isCell_sl, isCell_nilsl, isCell_nilptr, isCell_iface, isCell_niliface, List.all_cons, List.all_nil, Bool.and_self, hget_at0, hget_at, len_app, List.length_cons, List.length_nil, get_app, get_app0, List.getElem?_cons_zero, List.getElem?_cons_succ, join_some, List.append_assoc, List.cons_append, List.nil_append, Nat.zero_add, Nat.add_zero, Nat.mul_one, chkRd_eq, chkAl_blk, if_true, if_false, Bool.false_eq_true, List.drop_succ_cons, List.drop_zero, List.take_succ_cons, List.take_zero, Bool.and_true, Bool.true_and, decide_true, decide_false, wrap64_id, aixG_eq, Nat.reduceAdd, Nat.reduceSub, Nat.reduceMul, Nat.reduceLeDiff, Nat.reduceLT, Int.reduceAdd, Int.reduceSub, Int.reduceMul, Int.reduceNeg, Int.reduceLT, Int.reduceLE, Int.reduceGT, Int.reduceGE, Int.reduceToNat, ↓reduceIte, and_self, true_and, and_true, as_errno_f, as_fault_f, flt_eq_ptr, hb, f0, f1, f2, J8_5_eq, J8_6_eq]
        refine Ev.call (c_at c p h hc hp) fun v g hv => ?_
        subst hv
        simp only [lnkTxt] at lk
        simp (dsimp := false) (implicitDefEqProofs := false) (disch := omega) only [gv_some, gr_some, gI_int, gB_bool, gS_str, gc_t, gc_f, gi_t, gi_f, gN_eq, gf_t, Option.bind_some, Option.bind_none, Option.map_some, acells_agg, acells_int, acells_bool, acells_str, acells_ptr, acells_sl, acells_nilsl, acells_nilptr, acells_iface, acells_niliface, aptr_ptr, anil_ptr, aextract_0, aextract_1, aextract_2, alenS_sl, alenS_nil, alenOf_sl, alenOf_nil, apartOf_agg, apart_t, apart_f, astore_ptr, hset_at0, hset_at, hs_same, hs_ne, len_hset, List.set_cons_zero, List.set_cons_succ, set_app, set_app0, aload_ptr, splice_eq, List.drop_nil, List.append_nil, isCell_int, isCell_bool, isCell_str, isCell_ptr, isCell_sl, isCell_nilsl, isCell_nilptr, isCell_iface, isCell_niliface, List.all_cons, List.all_nil, Bool.and_self, hget_at0, hget_at, len_app, List.length_cons, List.length_nil, get_app, get_app0, List.getElem?_cons_zero, List.getElem?_cons_succ, join_some, List.append_assoc, List.cons_append, List.nil_append, Nat.zero_add, Nat.add_zero, Nat.mul_one, chkRd_eq, chkAl_blk, if_true, if_false, Bool.false_eq_true, List.drop_succ_cons, List.drop_zero, List.take_succ_cons, List.take_zero, Bool.and_true, Bool.true_and, decide_true, decide_false, wrap64_id, aixG_eq, Nat.reduceAdd, Nat.reduceSub, Nat.reduceMul, Nat.reduceLeDiff, Nat.reduceLT, Int.reduceAdd, Int.reduceSub, Int.reduceMul, Int.reduceNeg, Int.reduceLT, Int.reduceLE, Int.reduceGT, Int.reduceGE, Int.reduceToNat, ↓reduceIte, and_self, true_and, and_true]
        rw [astr_add (by omega)]
        simp (dsimp := false) (implicitDefEqProofs := false) (disch := omega) only [gv_some, gr_some, gI_int, gB_bool, gS_str, gc_t, gc_f, gi_t, gi_f, gN_eq, gf_t, Option.bind_some, Option.bind_none, Option.map_some, acells_agg, acells_int, acells_bool, acells_str, acells_ptr, acells_sl, acells_nilsl, acells_nilptr, acells_iface, acells_niliface, aptr_ptr, anil_ptr, aextract_0, aextract_1, aextract_2, alenS_sl, alenS_nil, alenOf_sl, alenOf_nil, apartOf_agg, apart_t, apart_f, astore_ptr, hset_at0, hset_at, hs_same, hs_ne, len_hset, List.set_cons_zero, List.set_cons_succ, set_app, set_app0, aload_ptr, splice_eq, List.drop_nil, List.append_nil, isCell_int, isCell_bool, isCell_str, isCell_ptr, isCell_sl, isCell_nilsl, isCell_nilptr, isCell_iface, isCell_niliface, List.all_cons, List.all_nil, Bool.and_self, hget_at0, hget_at, len_app, List.length_cons, List.length_nil, get_app, get_app0, List.getElem?_cons_zero, List.getElem?_cons_succ, join_some, List.append_assoc, List.cons_append, List.nil_append, Nat.zero_add, Nat.add_zero, Nat.mul_one, chkRd_eq, chkAl_blk, if_true, if_false, Bool.false_eq_true, List.drop_succ_cons, List.drop_zero, List.take_succ_cons, List.take_zero, Bool.and_true, Bool.true_and, decide_true, decide_false, wrap64_id, aixG_eq, Nat.reduceAdd, Nat.reduceSub, Nat.reduceMul, Nat.reduceLeDiff, Nat.reduceLT, Int.reduceAdd, Int.reduceSub, Int.reduceMul, Int.reduceNeg, Int.reduceLT, Int.reduceLE, Int.reduceGT, Int.reduceGE, Int.reduceToNat, ↓reduceIte, and_self, true_and, and_true, hget_app hb]
        rw [J8_7_eq]
        have e5 : IntKind.i64.wrap ((i : Int) + 1) = ((i + 1 : Nat) : Int) := by rw [wrap64_id (by omega) (by omega)]; rfl
        rw [e5]
        refine (Ev.base (ih y (s' ++ atTxt c p) (i + 1) (h ++ g) (hy.app g) (by omega) (by simp; omega))).mono fun v g' hv => ?_
        rw [hv]; simp [lnkTxt]
    rw [J8_1_eq]
    have hx : ∃ t v, x = .iface t v := by
      rcases he.isnil with ⟨_, e⟩ | ⟨e, _⟩
      · cases e
      · exact e
    obtain ⟨t, v, rfl⟩ := hx
    simp (dsimp := false) (implicitDefEqProofs := false) (disch := omega) only [gv_some, gr_some, gI_int, gB_bool, gS_str, gc_t, gc_f, gi_t, gi_f, gN_eq, gf_t, Option.bind_some, Option.bind_none, Option.map_some, acells_agg, acells_int, acells_bool, acells_str, acells_ptr, acells_sl, acells_nilsl, acells_nilptr, acells_iface, acells_niliface, aptr_ptr, anil_ptr, aextract_0, aextract_1, aextract_2, alenS_sl, alenS_nil, alenOf_sl, alenOf_nil, apartOf_agg, apart_t, apart_f, astore_ptr, hset_at0, hset_at, hs_same, hs_ne, len_hset, List.set_cons_zero, List.set_cons_succ, set_app, set_app0, aload_ptr, splice_eq, List.drop_nil, List.append_nil, isCell_int, isCell_bool, isCell_str, isCell_ptr, isCell_sl, isCell_nilsl, isCell_nilptr, isCell_iface, isCell_niliface, List.all_cons, List.all_nil, Bool.and_self, hget_at0, hget_at, len_app, List.length_cons, List.length_nil, get_app, get_app0, List.getElem?_cons_zero, List.getElem?_cons_succ, join_some, List.append_assoc, List.cons_append, List.nil_append, Nat.zero_add, Nat.add_zero, Nat.mul_one, chkRd_eq, chkAl_blk, if_true, if_false, Bool.false_eq_true, List.drop_succ_cons, List.drop_zero, List.take_succ_cons, List.take_zero, Bool.and_true, Bool.true_and, decide_true, decide_false, wrap64_id, aixG_eq, Nat.reduceAdd, Nat.reduceSub, Nat.reduceMul, Nat.reduceLeDiff, Nat.reduceLT, Int.reduceAdd, Int.reduceSub, Int.reduceMul, Int.reduceNeg, Int.reduceLT, Int.reduceLE, Int.reduceGT, Int.reduceGE, Int.reduceToNat, ↓reduceIte, and_self, true_and, and_true, err_ne_iface, J8_2_eq]
    refine Ev.cdd (fun hi0 => ?_) fun hi0 => ?_
    · rw [astr_add (by simp; omega)]
      simp (dsimp := false) (implicitDefEqProofs := false) (disch := omega) only [gv_some, gr_some, gI_int, gB_bool, gS_str, gc_t, gc_f, gi_t, gi_f, gN_eq, gf_t, Option.bind_some, Option.bind_none, Option.map_some, acells_agg, acells_int, acells_bool, acells_str, acells_ptr, acells_sl, acells_nilsl, acells_nilptr, acells_iface, acells_niliface, aptr_ptr, anil_ptr, aextract_0, aextract_1, aextract_2, alenS_sl, alenS_nil, alenOf_sl, alenOf_nil, apartOf_agg, apart_t, apart_f, astore_ptr, hset_at0, hset_at, hs_same, hs_ne, len_hset, List.set_cons_zero, List.set_cons_succ, set_app, set_app0, aload_ptr, splice_eq, List.drop_nil, List.append_nil, isCell_int, isCell_bool, isCell_str, isCell_ptr, isCell_sl, isCell_nilsl, isCell_nilptr, isCell_iface, isCell_niliface, List.all_cons, List.all_nil, Bool.and_self, hget_at0, hget_at, len_app, List.length_cons, List.length_nil, get_app, get_app0, List.getElem?_cons_zero, List.getElem?_cons_succ, join_some, List.append_assoc, List.cons_append, List.nil_append, Nat.zero_add, Nat.add_zero, Nat.mul_one, chkRd_eq, chkAl_blk, if_true, if_false, Bool.false_eq_true, List.drop_succ_cons, List.drop_zero, List.take_succ_cons, List.take_zero, Bool.and_true, Bool.true_and, decide_true, decide_false, wrap64_id, aixG_eq, Nat.reduceAdd, Nat.reduceSub, Nat.reduceMul, Nat.reduceLeDiff, Nat.reduceLT, Int.reduceAdd, Int.reduceSub, Int.reduceMul, Int.reduceNeg, Int.reduceLT, Int.reduceLE, Int.reduceGT, Int.reduceGE, Int.reduceToNat, ↓reduceIte, and_self, true_and, and_true]
      refine (main (s ++ [62]) (by simp; omega)).mono fun v g hv => ?_
      rw [hv, if_neg (by omega)]; simp [tailTxt]
    · refine (main s (by omega)).mono fun v g hv => ?_
      rw [hv, if_pos (by omega)]; simp [errTxt]
/-- Read answers an error's text. -/
theorem c_read (l : List Lnk) (x : AV) (h : AHeap) (he : ErrV h l x) (hl : l.length ≤ 20) : Ev (acall Try.prog Nt 8 [x] h) h fun v _ => v = .str (errTxt l) := by
  rw [E8]
  exact (readLoop l x [] 0 h he (by omega) (by simp; omega)).mono fun v g hv => by rw [hv]; simp
end Go.Ab
end
