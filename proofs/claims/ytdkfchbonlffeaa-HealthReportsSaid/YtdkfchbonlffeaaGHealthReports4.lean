/-
  Functions of the program as equations, and their contracts.
-/
import Derived.WalkKit
import Derived.LaidEql
import Derived.Stop.Asserts
import Derived.RowKitTokens
import Derived.Test.YtdkfchbonlffeaaGa1
import Derived.Test.YtdkfchbonlffeaaGa2
import Derived.Test.YtdkfchbonlffeaaGa3
import Derived.Test.YtdkfchbonlffeaaGHealthReports1
import Derived.Test.YtdkfchbonlffeaaGHealthReports2
import Derived.Test.YtdkfchbonlffeaaGHealthReports3
set_option linter.all false
section
/-
  HealthReports.
-/
namespace Go.Ab
open Go.Proofs

/-- SameRecords. -/
theorem sameLoop (h : AHeap) (l k : List Rcd) (x y : AV) (hx : Sl h 5 Rcd.cells l x) (hy : Sl h 5 Rcd.cells k y) (hl : l.length = k.length) (hn : l.length ≤ 100000) : ∀ (s t : List Rcd) (i : Nat), l.drop i = s → k.drop i = t → J13_2 x y (i : Int) h = some (.bool (decide (s = t)), h) := by
  intro s
  induction s with
  | nil =>
    intro t i hs ht
    have := drop_nil hs
    have : t = [] := by rw [← ht]; exact List.drop_eq_nil_of_le (by omega)
    subst this
    rw [J13_2_eq]
    simp (dsimp := false) (implicitDefEqProofs := false) (disch := omega) only [gv_some, gr_some, gI_int, gB_bool, gS_str, gc_t, gc_f, gi_t, gi_f, gN_eq, gf_t, Option.bind_some, Option.bind_none, Option.map_some, acells_agg, acells_int, acells_bool, acells_str, acells_ptr, acells_sl, acells_nilsl, acells_nilptr, acells_iface, acells_niliface, aptr_ptr, anil_ptr, aextract_0, aextract_1, aextract_2, alenS_sl, alenS_nil, alenOf_sl, alenOf_nil, apartOf_agg, apart_t, apart_f, astore_ptr, hset_at0, hset_at, hs_same, hs_ne, len_hset, List.set_cons_zero, List.set_cons_succ, set_app, set_app0, aload_ptr, splice_eq, List.drop_nil, List.append_nil, isCell_int, isCell_bool, isCell_str, isCell_ptr, isCell_sl, isCell_nilsl, isCell_nilptr, isCell_iface, isCell_niliface, List.all_cons, List.all_nil, Bool.and_self, hget_at0, hget_at, len_app, List.length_cons, List.length_nil, get_app, get_app0, List.getElem?_cons_zero, List.getElem?_cons_succ, join_some, List.append_assoc, List.cons_append, List.nil_append, Nat.zero_add, Nat.add_zero, Nat.mul_one, chkRd_eq, chkAl_blk, if_true, if_false, Bool.false_eq_true, List.drop_succ_cons, List.drop_zero, List.take_succ_cons, List.take_zero, Bool.and_true, Bool.true_and, decide_true, decide_false, wrap64_id, aixG_eq, Nat.reduceAdd, Nat.reduceSub, Nat.reduceMul, Nat.reduceLeDiff, Nat.reduceLT, Int.reduceAdd, Int.reduceSub, Int.reduceMul, Int.reduceNeg, Int.reduceLT, Int.reduceLE, Int.reduceGT, Int.reduceGE, Int.reduceToNat, ↓reduceIte, and_self, true_and, and_true, hx.len]
    rw [decide_eq_false (by omega)]
    simp (dsimp := false) (implicitDefEqProofs := false) (disch := omega) only [gv_some, gr_some, gI_int, gB_bool, gS_str, gc_t, gc_f, gi_t, gi_f, gN_eq, gf_t, Option.bind_some, Option.bind_none, Option.map_some, acells_agg, acells_int, acells_bool, acells_str, acells_ptr, acells_sl, acells_nilsl, acells_nilptr, acells_iface, acells_niliface, aptr_ptr, anil_ptr, aextract_0, aextract_1, aextract_2, alenS_sl, alenS_nil, alenOf_sl, alenOf_nil, apartOf_agg, apart_t, apart_f, astore_ptr, hset_at0, hset_at, hs_same, hs_ne, len_hset, List.set_cons_zero, List.set_cons_succ, set_app, set_app0, aload_ptr, splice_eq, List.drop_nil, List.append_nil, isCell_int, isCell_bool, isCell_str, isCell_ptr, isCell_sl, isCell_nilsl, isCell_nilptr, isCell_iface, isCell_niliface, List.all_cons, List.all_nil, Bool.and_self, hget_at0, hget_at, len_app, List.length_cons, List.length_nil, get_app, get_app0, List.getElem?_cons_zero, List.getElem?_cons_succ, join_some, List.append_assoc, List.cons_append, List.nil_append, Nat.zero_add, Nat.add_zero, Nat.mul_one, chkRd_eq, chkAl_blk, if_true, if_false, Bool.false_eq_true, List.drop_succ_cons, List.drop_zero, List.take_succ_cons, List.take_zero, Bool.and_true, Bool.true_and, decide_true, decide_false, wrap64_id, aixG_eq, Nat.reduceAdd, Nat.reduceSub, Nat.reduceMul, Nat.reduceLeDiff, Nat.reduceLT, Int.reduceAdd, Int.reduceSub, Int.reduceMul, Int.reduceNeg, Int.reduceLT, Int.reduceLE, Int.reduceGT, Int.reduceGE, Int.reduceToNat, ↓reduceIte, and_self, true_and, and_true, J13_4_eq]
  | cons a s ih =>
    intro t i hs ht
    obtain ⟨hk, ha, hs'⟩ := drop_cons hs
    have hk2 : i < k.length := by omega
    rw [List.drop_eq_getElem_cons hk2] at ht
    subst ht
    obtain ⟨eb, eo, ix, ea⟩ := hx.elem Rcd.len i hk
    obtain ⟨fb1, fo, fx, fa⟩ := hy.elem Rcd.len i hk2
    rw [ha] at ea
    have l1 := ea.loadN 5 rfl
    have l2 := fa.loadN 5 rfl
    rw [J13_2_eq]
    simp (dsimp := false) (implicitDefEqProofs := false) (disch := omega) only [gv_some, gr_some, gI_int, gB_bool, gS_str, gc_t, gc_f, gi_t, gi_f, gN_eq, gf_t, Option.bind_some, Option.bind_none, Option.map_some, acells_agg, acells_int, acells_bool, acells_str, acells_ptr, acells_sl, acells_nilsl, acells_nilptr, acells_iface, acells_niliface, aptr_ptr, anil_ptr, aextract_0, aextract_1, aextract_2, alenS_sl, alenS_nil, alenOf_sl, alenOf_nil, apartOf_agg, apart_t, apart_f, astore_ptr, hset_at0, hset_at, hs_same, hs_ne, len_hset, List.set_cons_zero, List.set_cons_succ, set_app, set_app0, aload_ptr, splice_eq, List.drop_nil, List.append_nil, isCell_int, isCell_bool, isCell_str, isCell_ptr, isCell_sl, isCell_nilsl, isCell_nilptr, isCell_iface, isCell_niliface, List.all_cons, List.all_nil, Bool.and_self, hget_at0, hget_at, len_app, List.length_cons, List.length_nil, get_app, get_app0, List.getElem?_cons_zero, List.getElem?_cons_succ, join_some, List.append_assoc, List.cons_append, List.nil_append, Nat.zero_add, Nat.add_zero, Nat.mul_one, chkRd_eq, chkAl_blk, if_true, if_false, Bool.false_eq_true, List.drop_succ_cons, List.drop_zero, List.take_succ_cons, List.take_zero, Bool.and_true, Bool.true_and, decide_true, decide_false, wrap64_id, aixG_eq, Nat.reduceAdd, Nat.reduceSub, Nat.reduceMul, Nat.reduceLeDiff, Nat.reduceLT, Int.reduceAdd, Int.reduceSub, Int.reduceMul, Int.reduceNeg, Int.reduceLT, Int.reduceLE, Int.reduceGT, Int.reduceGE, Int.reduceToNat, ↓reduceIte, and_self, true_and, and_true, hx.len]
    rw [decide_eq_true (by omega)]
    simp (dsimp := false) (implicitDefEqProofs := false) (disch := omega) only [gv_some, gr_some, gI_int, gB_bool, gS_str, gc_t, gc_f, gi_t, gi_f, gN_eq, gf_t, Option.bind_some, Option.bind_none, Option.map_some, acells_agg, acells_int, acells_bool, acells_str, acells_ptr, acells_sl, acells_nilsl, acells_nilptr, acells_iface, acells_niliface, aptr_ptr, anil_ptr, aextract_0, aextract_1, aextract_2, alenS_sl, alenS_nil, alenOf_sl, alenOf_nil, apartOf_agg, apart_t, apart_f, astore_ptr, hset_at0, hset_at, hs_same, hs_ne, len_hset, List.set_cons_zero, List.set_cons_succ, set_app, set_app0, splice_eq, List.drop_nil, List.append_nil, isCell_int, isCell_bool, isCell_str, isCell_ptr, isCell_sl, isCell_nilsl, isCell_nilptr, isCell_iface, isCell_niliface, List.all_cons, List.all_nil, Bool.and_self, hget_at0, hget_at, len_app, List.length_cons, List.length_nil, get_app, get_app0, List.getElem?_cons_zero, List.getElem?_cons_succ, join_some, List.append_assoc, List.cons_append, List.nil_append, Nat.zero_add, Nat.add_zero, Nat.mul_one, chkRd_eq, chkAl_blk, if_true, if_false, Bool.false_eq_true, List.drop_succ_cons, List.drop_zero, List.take_succ_cons, List.take_zero, Bool.and_true, Bool.true_and, decide_true, decide_false, wrap64_id, aixG_eq, Nat.reduceAdd, Nat.reduceSub, Nat.reduceMul, Nat.reduceLeDiff, Nat.reduceLT, Int.reduceAdd, Int.reduceSub, Int.reduceMul, Int.reduceNeg, Int.reduceLT, Int.reduceLE, Int.reduceGT, Int.reduceGE, Int.reduceToNat, ↓reduceIte, and_self, true_and, and_true, J13_3_eq, ix, fx, l1, l2, ne_rcd]
    by_cases he : a = k[i]
    · have : decide (a ≠ k[i]) = false := by simp [he]
      rw [this]
      simp (dsimp := false) (implicitDefEqProofs := false) (disch := omega) only [gv_some, gr_some, gI_int, gB_bool, gS_str, gc_t, gc_f, gi_t, gi_f, gN_eq, gf_t, Option.bind_some, Option.bind_none, Option.map_some, acells_agg, acells_int, acells_bool, acells_str, acells_ptr, acells_sl, acells_nilsl, acells_nilptr, acells_iface, acells_niliface, aptr_ptr, anil_ptr, aextract_0, aextract_1, aextract_2, alenS_sl, alenS_nil, alenOf_sl, alenOf_nil, apartOf_agg, apart_t, apart_f, astore_ptr, hset_at0, hset_at, hs_same, hs_ne, len_hset, List.set_cons_zero, List.set_cons_succ, set_app, set_app0, aload_ptr, splice_eq, List.drop_nil, List.append_nil, isCell_int, isCell_bool, isCell_str, isCell_ptr, isCell_sl, isCell_nilsl, isCell_nilptr, isCell_iface, isCell_niliface, List.all_cons, List.all_nil, Bool.and_self, hget_at0, hget_at, len_app, List.length_cons, List.length_nil, get_app, get_app0, List.getElem?_cons_zero, List.getElem?_cons_succ, join_some, List.append_assoc, List.cons_append, List.nil_append, Nat.zero_add, Nat.add_zero, Nat.mul_one, chkRd_eq, chkAl_blk, if_true, if_false, Bool.false_eq_true, List.drop_succ_cons, List.drop_zero, List.take_succ_cons, List.take_zero, Bool.and_true, Bool.true_and, decide_true, decide_false, wrap64_id, aixG_eq, Nat.reduceAdd, Nat.reduceSub, Nat.reduceMul, Nat.reduceLeDiff, Nat.reduceLT, Int.reduceAdd, Int.reduceSub, Int.reduceMul, Int.reduceNeg, Int.reduceLT, Int.reduceLE, Int.reduceGT, Int.reduceGE, Int.reduceToNat, ↓reduceIte, and_self, true_and, and_true]
      rw [J13_5_eq, wsucc (by omega), ih _ (i + 1) hs' rfl]
      have key : ∀ (d : Rcd) (u : List Rcd), a = d → decide (s = u) = decide (a :: s = d :: u) := by rintro d u rfl; simp
      rw [key _ _ he]
    · have : decide (a ≠ k[i]) = true := by simp [he]
      rw [this]
      simp (dsimp := false) (implicitDefEqProofs := false) (disch := omega) only [gv_some, gr_some, gI_int, gB_bool, gS_str, gc_t, gc_f, gi_t, gi_f, gN_eq, gf_t, Option.bind_some, Option.bind_none, Option.map_some, acells_agg, acells_int, acells_bool, acells_str, acells_ptr, acells_sl, acells_nilsl, acells_nilptr, acells_iface, acells_niliface, aptr_ptr, anil_ptr, aextract_0, aextract_1, aextract_2, alenS_sl, alenS_nil, alenOf_sl, alenOf_nil, apartOf_agg, apart_t, apart_f, astore_ptr, hset_at0, hset_at, hs_same, hs_ne, len_hset, List.set_cons_zero, List.set_cons_succ, set_app, set_app0, aload_ptr, splice_eq, List.drop_nil, List.append_nil, isCell_int, isCell_bool, isCell_str, isCell_ptr, isCell_sl, isCell_nilsl, isCell_nilptr, isCell_iface, isCell_niliface, List.all_cons, List.all_nil, Bool.and_self, hget_at0, hget_at, len_app, List.length_cons, List.length_nil, get_app, get_app0, List.getElem?_cons_zero, List.getElem?_cons_succ, join_some, List.append_assoc, List.cons_append, List.nil_append, Nat.zero_add, Nat.add_zero, Nat.mul_one, chkRd_eq, chkAl_blk, if_true, if_false, Bool.false_eq_true, List.drop_succ_cons, List.drop_zero, List.take_succ_cons, List.take_zero, Bool.and_true, Bool.true_and, decide_true, decide_false, wrap64_id, aixG_eq, Nat.reduceAdd, Nat.reduceSub, Nat.reduceMul, Nat.reduceLeDiff, Nat.reduceLT, Int.reduceAdd, Int.reduceSub, Int.reduceMul, Int.reduceNeg, Int.reduceLT, Int.reduceLE, Int.reduceGT, Int.reduceGE, Int.reduceToNat, ↓reduceIte, and_self, true_and, and_true]
      have key : ∀ (d : Rcd) (u : List Rcd), a ≠ d → decide (a :: s = d :: u) = false := by intro d u h; simp [h]
      rw [key _ _ he]
theorem c_same (h : AHeap) (l k : List Rcd) (x y : AV) (hx : Sl h 5 Rcd.cells l x) (hy : Sl h 5 Rcd.cells k y) (hn : l.length ≤ 100000) : acall Try.prog Nt 13 [x, y] h = some (.bool (decide (l = k)), h) := by
  rw [E13]
  simp (dsimp := false) (implicitDefEqProofs := false) (disch := omega) only [gv_some, gr_some, gI_int, gB_bool, gS_str, gc_t, gc_f, gi_t, gi_f, gN_eq, gf_t, Option.bind_some, Option.bind_none, Option.map_some, acells_agg, acells_int, acells_bool, acells_str, acells_ptr, acells_sl, acells_nilsl, acells_nilptr, acells_iface, acells_niliface, aptr_ptr, anil_ptr, aextract_0, aextract_1, aextract_2, alenS_sl, alenS_nil, alenOf_sl, alenOf_nil, apartOf_agg, apart_t, apart_f, astore_ptr, hset_at0, hset_at, hs_same, hs_ne, len_hset, List.set_cons_zero, List.set_cons_succ, set_app, set_app0, aload_ptr, splice_eq, List.drop_nil, List.append_nil, isCell_int, isCell_bool, isCell_str, isCell_ptr, isCell_sl, isCell_nilsl, isCell_nilptr, isCell_iface, isCell_niliface, List.all_cons, List.all_nil, Bool.and_self, hget_at0, hget_at, len_app, List.length_cons, List.length_nil, get_app, get_app0, List.getElem?_cons_zero, List.getElem?_cons_succ, join_some, List.append_assoc, List.cons_append, List.nil_append, Nat.zero_add, Nat.add_zero, Nat.mul_one, chkRd_eq, chkAl_blk, if_true, if_false, Bool.false_eq_true, List.drop_succ_cons, List.drop_zero, List.take_succ_cons, List.take_zero, Bool.and_true, Bool.true_and, decide_true, decide_false, wrap64_id, aixG_eq, Nat.reduceAdd, Nat.reduceSub, Nat.reduceMul, Nat.reduceLeDiff, Nat.reduceLT, Int.reduceAdd, Int.reduceSub, Int.reduceMul, Int.reduceNeg, Int.reduceLT, Int.reduceLE, Int.reduceGT, Int.reduceGE, Int.reduceToNat, ↓reduceIte, and_self, true_and, and_true, hx.len, hy.len]
  by_cases hl : l.length = k.length
  · have : ((l.length : Int) != (k.length : Int)) = false := by simp [hl]
    rw [this]
    simp (dsimp := false) (implicitDefEqProofs := false) (disch := omega) only [gv_some, gr_some, gI_int, gB_bool, gS_str, gc_t, gc_f, gi_t, gi_f, gN_eq, gf_t, Option.bind_some, Option.bind_none, Option.map_some, acells_agg, acells_int, acells_bool, acells_str, acells_ptr, acells_sl, acells_nilsl, acells_nilptr, acells_iface, acells_niliface, aptr_ptr, anil_ptr, aextract_0, aextract_1, aextract_2, alenS_sl, alenS_nil, alenOf_sl, alenOf_nil, apartOf_agg, apart_t, apart_f, astore_ptr, hset_at0, hset_at, hs_same, hs_ne, len_hset, List.set_cons_zero, List.set_cons_succ, set_app, set_app0, aload_ptr, splice_eq, List.drop_nil, List.append_nil, isCell_int, isCell_bool, isCell_str, isCell_ptr, isCell_sl, isCell_nilsl, isCell_nilptr, isCell_iface, isCell_niliface, List.all_cons, List.all_nil, Bool.and_self, hget_at0, hget_at, len_app, List.length_cons, List.length_nil, get_app, get_app0, List.getElem?_cons_zero, List.getElem?_cons_succ, join_some, List.append_assoc, List.cons_append, List.nil_append, Nat.zero_add, Nat.add_zero, Nat.mul_one, chkRd_eq, chkAl_blk, if_true, if_false, Bool.false_eq_true, List.drop_succ_cons, List.drop_zero, List.take_succ_cons, List.take_zero, Bool.and_true, Bool.true_and, decide_true, decide_false, wrap64_id, aixG_eq, Nat.reduceAdd, Nat.reduceSub, Nat.reduceMul, Nat.reduceLeDiff, Nat.reduceLT, Int.reduceAdd, Int.reduceSub, Int.reduceMul, Int.reduceNeg, Int.reduceLT, Int.reduceLE, Int.reduceGT, Int.reduceGE, Int.reduceToNat, ↓reduceIte, and_self, true_and, and_true, J13_1_eq]
    exact sameLoop h l k x y hx hy hl hn l k 0 rfl rfl
  · have : ((l.length : Int) != (k.length : Int)) = true := by simp; omega
    rw [this]
    simp (dsimp := false) (implicitDefEqProofs := false) (disch := omega) only [gv_some, gr_some, gI_int, gB_bool, gS_str, gc_t, gc_f, gi_t, gi_f, gN_eq, gf_t, Option.bind_some, Option.bind_none, Option.map_some, acells_agg, acells_int, acells_bool, acells_str, acells_ptr, acells_sl, acells_nilsl, acells_nilptr, acells_iface, acells_niliface, aptr_ptr, anil_ptr, aextract_0, aextract_1, aextract_2, alenS_sl, alenS_nil, alenOf_sl, alenOf_nil, apartOf_agg, apart_t, apart_f, astore_ptr, hset_at0, hset_at, hs_same, hs_ne, len_hset, List.set_cons_zero, List.set_cons_succ, set_app, set_app0, aload_ptr, splice_eq, List.drop_nil, List.append_nil, isCell_int, isCell_bool, isCell_str, isCell_ptr, isCell_sl, isCell_nilsl, isCell_nilptr, isCell_iface, isCell_niliface, List.all_cons, List.all_nil, Bool.and_self, hget_at0, hget_at, len_app, List.length_cons, List.length_nil, get_app, get_app0, List.getElem?_cons_zero, List.getElem?_cons_succ, join_some, List.append_assoc, List.cons_append, List.nil_append, Nat.zero_add, Nat.add_zero, Nat.mul_one, chkRd_eq, chkAl_blk, if_true, if_false, Bool.false_eq_true, List.drop_succ_cons, List.drop_zero, List.take_succ_cons, List.take_zero, Bool.and_true, Bool.true_and, decide_true, decide_false, wrap64_id, aixG_eq, Nat.reduceAdd, Nat.reduceSub, Nat.reduceMul, Nat.reduceLeDiff, Nat.reduceLT, Int.reduceAdd, Int.reduceSub, Int.reduceMul, Int.reduceNeg, Int.reduceLT, Int.reduceLE, Int.reduceGT, Int.reduceGE, Int.reduceToNat, ↓reduceIte, and_self, true_and, and_true]
    have : l ≠ k := fun e => hl (by rw [e])
    simp [this]
/-- Watch. -/
theorem c_watch (node : Int) (parts : List Part) (x : AV) (Fp : List Nat) (h : AHeap) (hx : SlB h 9 Part.cells parts x Fp) (hn : parts.length ≤ 1000000) :
    Ev (acall Try.prog Nt 12 [.int .i64 node, x] h) h fun v h' => ∃ b F, v = .ptr b 0 ∧ MonAt .i64 h' b (Mon.new node parts) F ∧ ∀ y ∈ F, h.length ≤ y ∨ y ∈ Fp := by
  rw [E12]
  have m2 := fun H => amkS_1 8 (.int .i64 0) parts.length H (by omega) (by omega)
  have iy := hx.isc
  simp (dsimp := false) (implicitDefEqProofs := false) (disch := omega) only [gv_some, gr_some, gI_int, gB_bool, gS_str, gc_t, gc_f, gi_t, gi_f, gN_eq, gf_t, Option.bind_some, Option.bind_none, Option.map_some, acells_agg, acells_int, acells_bool, acells_str, acells_ptr, acells_sl, acells_nilsl, acells_nilptr, acells_iface, acells_niliface, aptr_ptr, anil_ptr, aextract_0, aextract_1, aextract_2, alenS_sl, alenS_nil, alenOf_sl, alenOf_nil, apartOf_agg, apart_t, apart_f, astore_ptr, hset_at0, hset_at, hs_same, hs_ne, len_hset, List.set_cons_zero, List.set_cons_succ, set_app, set_app0, aload_ptr, splice_eq, List.drop_nil, List.append_nil, isCell_int, isCell_bool, isCell_str, isCell_ptr, isCell_sl, isCell_nilsl, isCell_nilptr, isCell_iface, isCell_niliface, List.all_cons, List.all_nil, Bool.and_self, hget_at0, hget_at, len_app, List.length_cons, List.length_nil, get_app, get_app0, List.getElem?_cons_zero, List.getElem?_cons_succ, join_some, List.append_assoc, List.cons_append, List.nil_append, Nat.zero_add, Nat.add_zero, Nat.mul_one, chkRd_eq, chkAl_blk, if_true, if_false, Bool.false_eq_true, List.drop_succ_cons, List.drop_zero, List.take_succ_cons, List.take_zero, Bool.and_true, Bool.true_and, decide_true, decide_false, wrap64_id, aixG_eq, Nat.reduceAdd, Nat.reduceSub, Nat.reduceMul, Nat.reduceLeDiff, Nat.reduceLT, Int.reduceAdd, Int.reduceSub, Int.reduceMul, Int.reduceNeg, Int.reduceLT, Int.reduceLE, Int.reduceGT, Int.reduceGE, Int.reduceToNat, ↓reduceIte, and_self, true_and, and_true, hx.sl.len, m2]
  have ef : afillS [(0, 1), (1, 1), (2, 1), (3, 1), (4, 1)] [.int .i64 0, .nilsl, .nilsl, .nilsl, .nilsl] [(0, .int .i64 node), (1, x), (2, .sl h.length 0 parts.length 1), (3, .sl (h.length + 1) 0 parts.length 1)] = some (.agg [.int .i64 node, x, .sl h.length 0 parts.length 1, .sl (h.length + 1) 0 parts.length 1, .nilsl]) := by
    have := acells_isc iy
    simp [afillS, afill, this, splice, acells_int, acells_sl]
  simp (dsimp := false) (implicitDefEqProofs := false) (disch := omega) only [gv_some, gr_some, gI_int, gB_bool, gS_str, gc_t, gc_f, gi_t, gi_f, gN_eq, gf_t, Option.bind_some, Option.bind_none, Option.map_some, acells_agg, acells_int, acells_bool, acells_str, acells_ptr, acells_sl, acells_nilsl, acells_nilptr, acells_iface, acells_niliface, aptr_ptr, anil_ptr, aextract_0, aextract_1, aextract_2, alenS_sl, alenS_nil, alenOf_sl, alenOf_nil, apartOf_agg, apart_t, apart_f, astore_ptr, hset_at0, hset_at, hs_same, hs_ne, len_hset, List.set_cons_zero, List.set_cons_succ, set_app, set_app0, aload_ptr, splice_eq, List.drop_nil, List.append_nil, isCell_int, isCell_bool, isCell_str, isCell_ptr, isCell_sl, isCell_nilsl, isCell_nilptr, isCell_iface, isCell_niliface, List.all_cons, List.all_nil, Bool.and_self, hget_at0, hget_at, len_app, List.length_cons, List.length_nil, get_app, get_app0, List.getElem?_cons_zero, List.getElem?_cons_succ, join_some, List.append_assoc, List.cons_append, List.nil_append, Nat.zero_add, Nat.add_zero, Nat.mul_one, chkRd_eq, chkAl_blk, if_true, if_false, Bool.false_eq_true, List.drop_succ_cons, List.drop_zero, List.take_succ_cons, List.take_zero, Bool.and_true, Bool.true_and, decide_true, decide_false, wrap64_id, aixG_eq, Nat.reduceAdd, Nat.reduceSub, Nat.reduceMul, Nat.reduceLeDiff, Nat.reduceLT, Int.reduceAdd, Int.reduceSub, Int.reduceMul, Int.reduceNeg, Int.reduceLT, Int.reduceLE, Int.reduceGT, Int.reduceGE, Int.reduceToNat, ↓reduceIte, and_self, true_and, and_true, ef]
  have lt := hx.lt
  refine Ev.done ⟨h.length + 2, (h.length + 2) :: h.length :: (h.length + 1) :: ([] ++ Fp), rfl, ⟨x, .nilsl, h.length, h.length + 1, Fp, [], ?_, hx.keep fun y hy => hget_old _ (lt y hy), ?_, ?_, .inl ⟨rfl, rfl, rfl⟩, by simp [Mon.new], by simp [Mon.new], by simp [Mon.new], rfl, by omega, by omega, by omega, by simp, by simp, by simp, fun hy => by have := lt _ hy; omega, fun hy => by have := lt _ hy; omega, fun hy => by have := lt _ hy; omega, by simp⟩, ?_⟩
  · rw [hget_at]; rfl
  · rw [hget_at0, Mon.new, ← ints_rep]; rfl
  · rw [hget_at, Mon.new, ← ints_rep]; rfl
  · intro y hy
    simp only [List.nil_append, List.mem_cons] at hy
    rcases hy with rfl | rfl | rfl | hy
    · left; omega
    · left; omega
    · left; omega
    · exact .inr hy

/-! Arguments: actions by kinds, and acts. -/
structure Four where
  a : Int
  b : Int
  c : Int
  d : Int
def Four.cells (r : Four) : List AV := [.int .u8 r.a, .int .u8 r.b, .int .u8 r.c, .int .u8 r.d]
theorem Four.len (r : Four) : r.cells.length = 4 := rfl
def Four.part (r : Four) : Part := ⟨0, 0, 0, 0, 0, r.a.tmod 4, r.b.tmod 4, r.c.tmod 4, r.d.tmod 4⟩
structure HAct where
  sl : Bool
  round : Int
  part : Int
  kind : Int
def HAct.cells (a : HAct) : List AV := [.bool a.sl, .int .u32 a.round, .int .i64 a.part, .int .i64 a.kind]
theorem HAct.len (a : HAct) : a.cells.length = 4 := rfl
theorem argvFours {h : AHeap} {f : Nat} {x : AV} (q : ArgV Try.prog h (f + 3) 22 x) : ∃ l : List Four, Sl h 4 Four.cells l x ∧ l.length ≤ maxLen := by
  unfold ArgV at q
  have hu : ∃ u, (Try.prog).underlying 22 = some (.slice u) := ⟨27, by kernel_rfl⟩
  obtain ⟨u, hu⟩ := hu
  rw [hu] at q
  obtain ⟨y, l, e, s, hr, hl⟩ := q.list (u := 27) (sz := 4) (enc := Four.cells) (R := fun _ => True) (by kernel_rfl) (by kernel_rfl) (fun ws q => by
    have q6 := q.array (n := 4) (u := 5) (by kernel_rfl)
    obtain ⟨_, _, rfl, p1, q⟩ := catQ_cons q6
    obtain ⟨_, _, rfl, p2, q⟩ := catQ_cons q
    obtain ⟨_, _, rfl, p3, q⟩ := catQ_cons q
    obtain ⟨_, _, rfl, p4, q⟩ := catQ_cons q
    cases catQ_nil q
    obtain ⟨m1, rfl, _⟩ := p1.int (k := .u8) (by kernel_rfl)
    obtain ⟨m2, rfl, _⟩ := p2.int (k := .u8) (by kernel_rfl)
    obtain ⟨m3, rfl, _⟩ := p3.int (k := .u8) (by kernel_rfl)
    obtain ⟨m4, rfl, _⟩ := p4.int (k := .u8) (by kernel_rfl)
    exact ⟨⟨m1, m2, m3, m4⟩, rfl, trivial⟩)
  cases e
  exact ⟨l, s, hl⟩
theorem argvActs {h : AHeap} {f : Nat} {x : AV} (q : ArgV Try.prog h (f + 4) 23 x) : ∃ l : List HAct, Sl h 4 HAct.cells l x ∧ (∀ a ∈ l, 0 ≤ a.round) ∧ l.length ≤ maxLen := by
  unfold ArgV at q
  have hu : ∃ u, (Try.prog).underlying 23 = some (.slice u) := ⟨38, by kernel_rfl⟩
  obtain ⟨u, hu⟩ := hu
  rw [hu] at q
  obtain ⟨y, l, e, s, hr, hl⟩ := q.list (u := 38) (sz := 4) (enc := HAct.cells) (R := fun a => 0 ≤ a.round) (by kernel_rfl) (by kernel_rfl) (fun ws q => by
    have q := q.struct (ts := [4, 36, 3, 3]) (by kernel_rfl)
    obtain ⟨_, _, rfl, p1, q⟩ := catQ_cons q
    obtain ⟨_, _, rfl, p2, q⟩ := catQ_cons q
    obtain ⟨_, _, rfl, p3, q⟩ := catQ_cons q
    obtain ⟨_, _, rfl, p4, q⟩ := catQ_cons q
    cases catQ_nil q
    obtain ⟨m1, rfl⟩ := p1.bool (by kernel_rfl)
    obtain ⟨m2, rfl, w2⟩ := p2.int (k := .u32) (by kernel_rfl)
    obtain ⟨m3, rfl, _⟩ := p3.int (k := .i64) (by kernel_rfl)
    obtain ⟨m4, rfl, _⟩ := p4.int (k := .i64) (by kernel_rfl)
    exact ⟨⟨m1, m2, m3, m4⟩, rfl, (wfu32 w2).1⟩)
  cases e
  exact ⟨l, s, hr, hl⟩
theorem argvInt {h : AHeap} {f : Nat} {x : AV} (q : ArgV Try.prog h (f + 1) 3 x) : ∃ n, x = .int .i64 n ∧ i64ok n := by
  unfold ArgV at q
  have hu : (Try.prog).underlying 3 = some (.int .i64) := by kernel_rfl
  rw [hu] at q
  obtain ⟨n, e, w⟩ := q.int hu
  cases e
  exact ⟨n, rfl, wf64 w⟩
theorem Ow.slb {α : Type} {n sz : Nat} {h : AHeap} {enc : α → List AV} {l : List α} {x : AV} (o : Ow n h sz enc l x) : ∃ F, SlB h sz enc l x F ∧ ∀ y ∈ F, n ≤ y ∧ y < h.length := by
  rcases o with ⟨e1, e2⟩ | ⟨b, rest, e, hb, a⟩
  · exact ⟨[], .inl ⟨e1, e2, rfl⟩, by simp⟩
  · have := hget_lt a
    exact ⟨[b], .inr ⟨b, 0, e, rfl, false, _, a, by rw [Nat.zero_add, List.length_append]; omega, by rw [List.drop_zero, List.take_left]⟩, by simp; omega⟩
section
variable (h0 : AHeap) (acts : List HAct) (x2 : AV) (sx : Sl h0 4 HAct.cells acts x2) (hr : ∀ a ∈ acts, 0 ≤ a.round)
include sx hr
theorem repsLoop : ∀ (s : List HAct) (i : Nat) (b c : Nat) (m : Mon) (F G : List Nat) (g : AHeap), acts.drop i = s → i ≤ 100 → MonAt .u32 (h0 ++ g) b m F → MonAt .i64 (h0 ++ g) c m G → (∀ x ∈ F, h0.length ≤ x) → (∀ x ∈ G, h0.length ≤ x) → (∀ x ∈ F, x ∉ G) → m.ok i →
    Post (J3_7 x2 (.ptr b 0) (.ptr c 0) (i : Int) (h0 ++ g)) fun v _ => v = .bool true := by
  -- both are sealed
  have both : ∀ (b c : Nat) (m : Mon) (F G : List Nat) (h : AHeap) (f : AV → AHeap → Res), MonAt .u32 h b m F → MonAt .i64 h c m G → (∀ x ∈ F, x ∉ G) →
      (∀ h' F' G', MonAt .u32 h' b { m with out := [] } F' → MonAt .i64 h' c { m with out := [] } G' → (∀ x ∈ F', x ∉ G') → Fr (F ++ G) h (F' ++ G') h' → Post (f (.bool true) h') fun v _ => v = .bool true) →
      Post (gr (acall Try.prog Nt 14 [.ptr b 0] h) fun r44 h45 => gr (acall Try.prog Nt 15 [.ptr c 0] h45) fun r46 h47 => gr (acall Try.prog Nt 13 [r44, r46] h47) f) fun v _ => v = .bool true := by
    intro b c m F G h f hm hw hd k
    have mo : m.out.length ≤ 4 := by obtain ⟨_, _, _, _, _, _, _, _, _, _, _, _, _, l, _⟩ := hm; exact l
    refine Post.bind (c_seal _ b m F hm) ?_
    rintro v1 h1 ⟨Fo, F1, m1, o1, d1, s1, f1⟩
    have hw1 := hw.keep (h' := h1) fun x hx => f1.old x (hw.lt x hx) (fun h => hd x h hx)
    have hd1 := f1.apart hw.lt hd
    refine Post.bind (c_rseal _ c m G hw1) ?_
    rintro v2 h2 ⟨Go, G1, w2, o2, d2, s2, f2⟩
    have m2 := m1.keep (h' := h2) fun x hx => f2.old x (m1.lt x hx) (fun h => hd1 x hx h)
    have o1' := o1.keep (h' := h2) fun x hx => f2.old x (o1.slb.lt x hx) (fun h => hd x (s1 x hx) h)
    have hd2 := f2.apart m1.lt (fun x hx h => hd1 x h hx)
    rw [c_same _ m.out m.out v1 v2 o1'.slb.sl o2.slb.sl (by omega)]
    simp only [gr_some, decide_true]
    refine k h2 F1 G1 m2 w2 (fun x hx h => hd2 x h hx) ⟨Nat.le_trans f1.len f2.len, fun x hx hn => ?_, fun x hx => ?_⟩
    · simp only [List.mem_append, not_or] at hn
      rw [f2.old x (Nat.lt_of_lt_of_le hx f1.len) hn.2, f1.old x hx hn.1]
    · simp only [List.mem_append] at hx ⊢
      rcases hx with hx | hx
      · rcases f1.own x hx with h | h
        · exact .inl (.inl h)
        · exact .inr h
      · rcases f2.own x hx with h | h
        · exact .inl (.inr h)
        · exact .inr (Nat.le_trans f1.len h)
  have last : ∀ (i b c : Nat) (m : Mon) (F G : List Nat) (g : AHeap), MonAt .u32 (h0 ++ g) b m F → MonAt .i64 (h0 ++ g) c m G → (∀ x ∈ F, x ∉ G) → Post (J3_10 x2 (.ptr b 0) (.ptr c 0) (i : Int) false (h0 ++ g)) fun v _ => v = .bool true := by
    intro i b c m F G g hm hw hd
    rw [J3_10_eq, J3_14_eq]
    exact both b c m F G _ _ hm hw hd fun h' F' G' _ _ _ _ => Post.done rfl
  intro s
  induction s with
  | nil =>
    intro i b c m F G g hs hi hm hw hF hG hd ok
    have := drop_nil hs
    rw [J3_7_eq]
    simp (dsimp := false) (implicitDefEqProofs := false) (disch := omega) only [gv_some, gr_some, gI_int, gB_bool, gS_str, gc_t, gc_f, gi_t, gi_f, gN_eq, gf_t, Option.bind_some, Option.bind_none, Option.map_some, acells_agg, acells_int, acells_bool, acells_str, acells_ptr, acells_sl, acells_nilsl, acells_nilptr, acells_iface, acells_niliface, aptr_ptr, anil_ptr, aextract_0, aextract_1, aextract_2, alenS_sl, alenS_nil, alenOf_sl, alenOf_nil, apartOf_agg, apart_t, apart_f, astore_ptr, hset_at0, hset_at, hs_same, hs_ne, len_hset, List.set_cons_zero, List.set_cons_succ, set_app, set_app0, aload_ptr, splice_eq, List.drop_nil, List.append_nil, isCell_int, isCell_bool, isCell_str, isCell_ptr, isCell_sl, isCell_nilsl, isCell_nilptr, isCell_iface, isCell_niliface, List.all_cons, List.all_nil, Bool.and_self, hget_at0, hget_at, len_app, List.length_cons, List.length_nil, get_app, get_app0, List.getElem?_cons_zero, List.getElem?_cons_succ, join_some, List.append_assoc, List.cons_append, List.nil_append, Nat.zero_add, Nat.add_zero, Nat.mul_one, chkRd_eq, chkAl_blk, if_true, if_false, Bool.false_eq_true, List.drop_succ_cons, List.drop_zero, List.take_succ_cons, List.take_zero, Bool.and_true, Bool.true_and, decide_true, decide_false, wrap64_id, aixG_eq, Nat.reduceAdd, Nat.reduceSub, Nat.reduceMul, Nat.reduceLeDiff, Nat.reduceLT, Int.reduceAdd, Int.reduceSub, Int.reduceMul, Int.reduceNeg, Int.reduceLT, Int.reduceLE, Int.reduceGT, Int.reduceGE, Int.reduceToNat, ↓reduceIte, and_self, true_and, and_true, (sx.app g).len]
    rw [decide_eq_false (by omega)]
    exact last i b c m F G g hm hw hd
  | cons a s ih =>
    intro i b c m F G g hs hi hm hw hF hG hd ok
    obtain ⟨hk, ha, hs'⟩ := drop_cons hs
    have ar : 0 ≤ a.round := hr a (by rw [← ha]; exact List.getElem_mem hk)
    rw [J3_7_eq]
    simp (dsimp := false) (implicitDefEqProofs := false) (disch := omega) only [gv_some, gr_some, gI_int, gB_bool, gS_str, gc_t, gc_f, gi_t, gi_f, gN_eq, gf_t, Option.bind_some, Option.bind_none, Option.map_some, acells_agg, acells_int, acells_bool, acells_str, acells_ptr, acells_sl, acells_nilsl, acells_nilptr, acells_iface, acells_niliface, aptr_ptr, anil_ptr, aextract_0, aextract_1, aextract_2, alenS_sl, alenS_nil, alenOf_sl, alenOf_nil, apartOf_agg, apart_t, apart_f, astore_ptr, hset_at0, hset_at, hs_same, hs_ne, len_hset, List.set_cons_zero, List.set_cons_succ, set_app, set_app0, aload_ptr, splice_eq, List.drop_nil, List.append_nil, isCell_int, isCell_bool, isCell_str, isCell_ptr, isCell_sl, isCell_nilsl, isCell_nilptr, isCell_iface, isCell_niliface, List.all_cons, List.all_nil, Bool.and_self, hget_at0, hget_at, len_app, List.length_cons, List.length_nil, get_app, get_app0, List.getElem?_cons_zero, List.getElem?_cons_succ, join_some, List.append_assoc, List.cons_append, List.nil_append, Nat.zero_add, Nat.add_zero, Nat.mul_one, chkRd_eq, chkAl_blk, if_true, if_false, Bool.false_eq_true, List.drop_succ_cons, List.drop_zero, List.take_succ_cons, List.take_zero, Bool.and_true, Bool.true_and, decide_true, decide_false, wrap64_id, aixG_eq, Nat.reduceAdd, Nat.reduceSub, Nat.reduceMul, Nat.reduceLeDiff, Nat.reduceLT, Int.reduceAdd, Int.reduceSub, Int.reduceMul, Int.reduceNeg, Int.reduceLT, Int.reduceLE, Int.reduceGT, Int.reduceGE, Int.reduceToNat, ↓reduceIte, and_self, true_and, and_true, (sx.app g).len]
    rw [decide_eq_true (by omega)]
    simp (dsimp := false) (implicitDefEqProofs := false) (disch := omega) only [gv_some, gr_some, gI_int, gB_bool, gS_str, gc_t, gc_f, gi_t, gi_f, gN_eq, gf_t, Option.bind_some, Option.bind_none, Option.map_some, acells_agg, acells_int, acells_bool, acells_str, acells_ptr, acells_sl, acells_nilsl, acells_nilptr, acells_iface, acells_niliface, aptr_ptr, anil_ptr, aextract_0, aextract_1, aextract_2, alenS_sl, alenS_nil, alenOf_sl, alenOf_nil, apartOf_agg, apart_t, apart_f, astore_ptr, hset_at0, hset_at, hs_same, hs_ne, len_hset, List.set_cons_zero, List.set_cons_succ, set_app, set_app0, aload_ptr, splice_eq, List.drop_nil, List.append_nil, isCell_int, isCell_bool, isCell_str, isCell_ptr, isCell_sl, isCell_nilsl, isCell_nilptr, isCell_iface, isCell_niliface, List.all_cons, List.all_nil, Bool.and_self, hget_at0, hget_at, len_app, List.length_cons, List.length_nil, get_app, get_app0, List.getElem?_cons_zero, List.getElem?_cons_succ, join_some, List.append_assoc, List.cons_append, List.nil_append, Nat.zero_add, Nat.add_zero, Nat.mul_one, chkRd_eq, chkAl_blk, if_true, if_false, Bool.false_eq_true, List.drop_succ_cons, List.drop_zero, List.take_succ_cons, List.take_zero, Bool.and_true, Bool.true_and, decide_true, decide_false, wrap64_id, aixG_eq, Nat.reduceAdd, Nat.reduceSub, Nat.reduceMul, Nat.reduceLeDiff, Nat.reduceLT, Int.reduceAdd, Int.reduceSub, Int.reduceMul, Int.reduceNeg, Int.reduceLT, Int.reduceLE, Int.reduceGT, Int.reduceGE, Int.reduceToNat, ↓reduceIte, and_self, true_and, and_true]
    by_cases h100 : (i : Int) < 100
    rotate_left
    · rw [decide_eq_false h100]; exact last i b c m F G g hm hw hd
    rw [decide_eq_true h100, J3_10_eq]
    simp (dsimp := false) (implicitDefEqProofs := false) (disch := omega) only [gv_some, gr_some, gI_int, gB_bool, gS_str, gc_t, gc_f, gi_t, gi_f, gN_eq, gf_t, Option.bind_some, Option.bind_none, Option.map_some, acells_agg, acells_int, acells_bool, acells_str, acells_ptr, acells_sl, acells_nilsl, acells_nilptr, acells_iface, acells_niliface, aptr_ptr, anil_ptr, aextract_0, aextract_1, aextract_2, alenS_sl, alenS_nil, alenOf_sl, alenOf_nil, apartOf_agg, apart_t, apart_f, astore_ptr, hset_at0, hset_at, hs_same, hs_ne, len_hset, List.set_cons_zero, List.set_cons_succ, set_app, set_app0, aload_ptr, splice_eq, List.drop_nil, List.append_nil, isCell_int, isCell_bool, isCell_str, isCell_ptr, isCell_sl, isCell_nilsl, isCell_nilptr, isCell_iface, isCell_niliface, List.all_cons, List.all_nil, Bool.and_self, hget_at0, hget_at, len_app, List.length_cons, List.length_nil, get_app, get_app0, List.getElem?_cons_zero, List.getElem?_cons_succ, join_some, List.append_assoc, List.cons_append, List.nil_append, Nat.zero_add, Nat.add_zero, Nat.mul_one, chkRd_eq, chkAl_blk, if_true, if_false, Bool.false_eq_true, List.drop_succ_cons, List.drop_zero, List.take_succ_cons, List.take_zero, Bool.and_true, Bool.true_and, decide_true, decide_false, wrap64_id, aixG_eq, Nat.reduceAdd, Nat.reduceSub, Nat.reduceMul, Nat.reduceLeDiff, Nat.reduceLT, Int.reduceAdd, Int.reduceSub, Int.reduceMul, Int.reduceNeg, Int.reduceLT, Int.reduceLE, Int.reduceGT, Int.reduceGE, Int.reduceToNat, ↓reduceIte, and_self, true_and, and_true, J3_13_eq]
    obtain ⟨eb, eo, ix, ea⟩ := (sx.app g).elem HAct.len i hk
    rw [ha] at ea
    refine Post.val ix ?_
    refine Post.val (ea.loadN 4 rfl) ?_
    have ec : a.cells = [.bool a.sl, .int .u32 a.round, .int .i64 a.part, .int .i64 a.kind] := rfl
    simp (dsimp := false) (implicitDefEqProofs := false) (disch := omega) only [gv_some, gr_some, gI_int, gB_bool, gS_str, gc_t, gc_f, gi_t, gi_f, gN_eq, gf_t, Option.bind_some, Option.bind_none, Option.map_some, acells_agg, acells_int, acells_bool, acells_str, acells_ptr, acells_sl, acells_nilsl, acells_nilptr, acells_iface, acells_niliface, aptr_ptr, anil_ptr, aextract_0, aextract_1, aextract_2, alenS_sl, alenS_nil, alenOf_sl, alenOf_nil, apartOf_agg, apart_t, apart_f, astore_ptr, hset_at0, hset_at, hs_same, hs_ne, len_hset, List.set_cons_zero, List.set_cons_succ, set_app, set_app0, aload_ptr, splice_eq, List.drop_nil, List.append_nil, isCell_int, isCell_bool, isCell_str, isCell_ptr, isCell_sl, isCell_nilsl, isCell_nilptr, isCell_iface, isCell_niliface, List.all_cons, List.all_nil, Bool.and_self, hget_at0, hget_at, len_app, List.length_cons, List.length_nil, get_app, get_app0, List.getElem?_cons_zero, List.getElem?_cons_succ, join_some, List.append_assoc, List.cons_append, List.nil_append, Nat.zero_add, Nat.add_zero, Nat.mul_one, chkRd_eq, chkAl_blk, if_true, if_false, Bool.false_eq_true, List.drop_succ_cons, List.drop_zero, List.take_succ_cons, List.take_zero, Bool.and_true, Bool.true_and, decide_true, decide_false, wrap64_id, aixG_eq, Nat.reduceAdd, Nat.reduceSub, Nat.reduceMul, Nat.reduceLeDiff, Nat.reduceLT, Int.reduceAdd, Int.reduceSub, Int.reduceMul, Int.reduceNeg, Int.reduceLT, Int.reduceLE, Int.reduceGT, Int.reduceGE, Int.reduceToNat, ↓reduceIte, and_self, true_and, and_true, ec]
    have hm1 : MonAt .u32 (h0 ++ (g ++ [some (.cells false a.cells)])) b m F := by rw [← List.append_assoc]; exact hm.keep fun x hx => hget_old _ (hm.lt x hx)
    have hw1 : MonAt .i64 (h0 ++ (g ++ [some (.cells false a.cells)])) c m G := by rw [← List.append_assoc]; exact hw.keep fun x hx => hget_old _ (hw.lt x hx)
    rw [ec] at hm1 hw1
    have more : m.ok ((i + 1 : Nat) : Int) := ⟨ok.last, fun x hx => by have := ok.again x hx; omega⟩
    refine Post.cnd (fun hz => ?_) fun hz => ?_
    · refine both b c m F G _ _ hm1 hw1 hd fun h' F' G' q1 q2 q3 q4 => ?_
      simp (dsimp := false) (implicitDefEqProofs := false) (disch := omega) only [gv_some, gr_some, gI_int, gB_bool, gS_str, gc_t, gc_f, gi_t, gi_f, gN_eq, gf_t, Option.bind_some, Option.bind_none, Option.map_some, acells_agg, acells_int, acells_bool, acells_str, acells_ptr, acells_sl, acells_nilsl, acells_nilptr, acells_iface, acells_niliface, aptr_ptr, anil_ptr, aextract_0, aextract_1, aextract_2, alenS_sl, alenS_nil, alenOf_sl, alenOf_nil, apartOf_agg, apart_t, apart_f, astore_ptr, hset_at0, hset_at, hs_same, hs_ne, len_hset, List.set_cons_zero, List.set_cons_succ, set_app, set_app0, aload_ptr, splice_eq, List.drop_nil, List.append_nil, isCell_int, isCell_bool, isCell_str, isCell_ptr, isCell_sl, isCell_nilsl, isCell_nilptr, isCell_iface, isCell_niliface, List.all_cons, List.all_nil, Bool.and_self, hget_at0, hget_at, len_app, List.length_cons, List.length_nil, get_app, get_app0, List.getElem?_cons_zero, List.getElem?_cons_succ, join_some, List.append_assoc, List.cons_append, List.nil_append, Nat.zero_add, Nat.add_zero, Nat.mul_one, chkRd_eq, chkAl_blk, if_true, if_false, Bool.false_eq_true, List.drop_succ_cons, List.drop_zero, List.take_succ_cons, List.take_zero, Bool.and_true, Bool.true_and, decide_true, decide_false, wrap64_id, aixG_eq, Nat.reduceAdd, Nat.reduceSub, Nat.reduceMul, Nat.reduceLeDiff, Nat.reduceLT, Int.reduceAdd, Int.reduceSub, Int.reduceMul, Int.reduceNeg, Int.reduceLT, Int.reduceLE, Int.reduceGT, Int.reduceGE, Int.reduceToNat, ↓reduceIte, and_self, true_and, and_true, Bool.not_true]
      obtain ⟨⟨g', rfl⟩, hFG⟩ := q4.grow (fun x hx => (List.mem_append.1 hx).elim (hF x) (hG x))
      rw [J3_15_eq, wsucc (by omega)]
      exact ih (i + 1) b c _ F' G' g' hs' (by omega) q1 q2 (fun x hx => hFG x (by simp [hx])) (fun x hx => hFG x (by simp [hx])) q3 ⟨more.last, more.again⟩
    · rw [J3_16_eq]
      obtain ⟨k0, k1⟩ := u64tmod a.kind 256 (by omega)
      obtain ⟨K, eK, eK2, K0, K1⟩ : ∃ K, IntKind.i64.wrap ((IntKind.u64.wrap a.kind).tmod 256) = K ∧ IntKind.u8.wrap ((IntKind.u64.wrap a.kind).tmod 256) = K ∧ 0 ≤ K ∧ K < 256 := ⟨_, wrap64_id (by omega) (by omega), wrapu8_id (by omega) (by omega), k0, k1⟩
      simp (dsimp := false) (implicitDefEqProofs := false) (disch := omega) only [gv_some, gr_some, gI_int, gB_bool, gS_str, gc_t, gc_f, gi_t, gi_f, gN_eq, gf_t, Option.bind_some, Option.bind_none, Option.map_some, acells_agg, acells_int, acells_bool, acells_str, acells_ptr, acells_sl, acells_nilsl, acells_nilptr, acells_iface, acells_niliface, aptr_ptr, anil_ptr, aextract_0, aextract_1, aextract_2, alenS_sl, alenS_nil, alenOf_sl, alenOf_nil, apartOf_agg, apart_t, apart_f, astore_ptr, hset_at0, hset_at, hs_same, hs_ne, len_hset, List.set_cons_zero, List.set_cons_succ, set_app, set_app0, aload_ptr, splice_eq, List.drop_nil, List.append_nil, isCell_int, isCell_bool, isCell_str, isCell_ptr, isCell_sl, isCell_nilsl, isCell_nilptr, isCell_iface, isCell_niliface, List.all_cons, List.all_nil, Bool.and_self, hget_at0, hget_at, len_app, List.length_cons, List.length_nil, get_app, get_app0, List.getElem?_cons_zero, List.getElem?_cons_succ, join_some, List.append_assoc, List.cons_append, List.nil_append, Nat.zero_add, Nat.add_zero, Nat.mul_one, chkRd_eq, chkAl_blk, if_true, if_false, Bool.false_eq_true, List.drop_succ_cons, List.drop_zero, List.take_succ_cons, List.take_zero, Bool.and_true, Bool.true_and, decide_true, decide_false, wrap64_id, aixG_eq, Nat.reduceAdd, Nat.reduceSub, Nat.reduceMul, Nat.reduceLeDiff, Nat.reduceLT, Int.reduceAdd, Int.reduceSub, Int.reduceMul, Int.reduceNeg, Int.reduceLT, Int.reduceLE, Int.reduceGT, Int.reduceGE, Int.reduceToNat, ↓reduceIte, and_self, true_and, and_true]
      rw [eK2, eK]
      refine Post.bind (c_report _ b m F hm1 i ok (by omega) a.round ar a.part K K0) ?_
      intro v1 h1 q1
      have ab : At (h0 ++ (g ++ [some (.cells false [.bool a.sl, .int .u32 a.round, .int .i64 a.part, .int .i64 a.kind])])) (h0.length + g.length) 0 a.cells := ⟨false, a.cells, by rw [hget_at, get_app0]; rfl, by rw [Nat.zero_add]; exact Nat.le_refl _, by simp⟩
      have nb : h0.length + g.length < (h0 ++ (g ++ [some (ABlk.cells false [.bool a.sl, .int .u32 a.round, .int .i64 a.part, .int .i64 a.kind])])).length := by simp
      have nF : h0.length + g.length ∉ F := fun h => by have := hm.lt _ h; simp at this
      by_cases tk : m.takes a.round a.part K = true
      · rw [if_pos tk] at q1
        obtain ⟨rfl, F1, m1, f1⟩ := q1
        have w1 := hw1.keep (h' := h1) fun x hx => f1.old x (hw1.lt x hx) (fun h => hd x h hx)
        have hd1 := f1.apart hw1.lt hd
        obtain ⟨ro, cs, e1, e2, e3⟩ := ab
        have ab1 := f1.keep e1 nF
        have cs0 : cs = a.cells := by
          have : hget (h0 ++ (g ++ [some (ABlk.cells false [.bool a.sl, .int .u32 a.round, .int .i64 a.part, .int .i64 a.kind])])) (h0.length + g.length) = some (.cells false a.cells) := by rw [hget_at, get_app0]; rfl
          rw [this] at e1; cases e1; rfl
        subst cs0
        simp (dsimp := false) (implicitDefEqProofs := false) (disch := omega) only [gv_some, gr_some, gI_int, gB_bool, gS_str, gc_t, gc_f, gi_t, gi_f, gN_eq, gf_t, Option.bind_some, Option.bind_none, Option.map_some, acells_agg, acells_int, acells_bool, acells_str, acells_ptr, acells_sl, acells_nilsl, acells_nilptr, acells_iface, acells_niliface, aptr_ptr, anil_ptr, aextract_0, aextract_1, aextract_2, alenS_sl, alenS_nil, alenOf_sl, alenOf_nil, apartOf_agg, apart_t, apart_f, astore_ptr, hset_at0, hset_at, hs_same, hs_ne, len_hset, List.set_cons_zero, List.set_cons_succ, set_app, set_app0, aload_ptr, splice_eq, List.drop_nil, List.append_nil, isCell_int, isCell_bool, isCell_str, isCell_ptr, isCell_sl, isCell_nilsl, isCell_nilptr, isCell_iface, isCell_niliface, List.all_cons, List.all_nil, Bool.and_self, hget_at0, hget_at, len_app, List.length_cons, List.length_nil, get_app, get_app0, List.getElem?_cons_zero, List.getElem?_cons_succ, join_some, List.append_assoc, List.cons_append, List.nil_append, Nat.zero_add, Nat.add_zero, Nat.mul_one, chkRd_eq, chkAl_blk, if_true, if_false, Bool.false_eq_true, List.drop_succ_cons, List.drop_zero, List.take_succ_cons, List.take_zero, Bool.and_true, Bool.true_and, decide_true, decide_false, wrap64_id, aixG_eq, Nat.reduceAdd, Nat.reduceSub, Nat.reduceMul, Nat.reduceLeDiff, Nat.reduceLT, Int.reduceAdd, Int.reduceSub, Int.reduceMul, Int.reduceNeg, Int.reduceLT, Int.reduceLE, Int.reduceGT, Int.reduceGE, Int.reduceToNat, ↓reduceIte, and_self, true_and, and_true, ab1, ec]
        refine Post.bind (c_rreport _ c m G w1 i ok (by omega) a.round ar a.part K K0) ?_
        intro v2 h2 q2
        rw [if_pos tk] at q2
        obtain ⟨rfl, G2, w2, f2⟩ := q2
        have m2 := m1.keep (h' := h2) fun x hx => f2.old x (m1.lt x hx) (fun h => hd1 x hx h)
        have hd2 := f2.apart m1.lt (fun x hx h => hd1 x h hx)
        have en : (m.did a.round a.part.toNat K.toNat != m.did a.round a.part.toNat K.toNat) = false := by simp
        simp (dsimp := false) (implicitDefEqProofs := false) (disch := omega) only [gv_some, gr_some, gI_int, gB_bool, gS_str, gc_t, gc_f, gi_t, gi_f, gN_eq, gf_t, Option.bind_some, Option.bind_none, Option.map_some, acells_agg, acells_int, acells_bool, acells_str, acells_ptr, acells_sl, acells_nilsl, acells_nilptr, acells_iface, acells_niliface, aptr_ptr, anil_ptr, aextract_0, aextract_1, aextract_2, alenS_sl, alenS_nil, alenOf_sl, alenOf_nil, apartOf_agg, apart_t, apart_f, astore_ptr, hset_at0, hset_at, hs_same, hs_ne, len_hset, List.set_cons_zero, List.set_cons_succ, set_app, set_app0, aload_ptr, splice_eq, List.drop_nil, List.append_nil, isCell_int, isCell_bool, isCell_str, isCell_ptr, isCell_sl, isCell_nilsl, isCell_nilptr, isCell_iface, isCell_niliface, List.all_cons, List.all_nil, Bool.and_self, hget_at0, hget_at, len_app, List.length_cons, List.length_nil, get_app, get_app0, List.getElem?_cons_zero, List.getElem?_cons_succ, join_some, List.append_assoc, List.cons_append, List.nil_append, Nat.zero_add, Nat.add_zero, Nat.mul_one, chkRd_eq, chkAl_blk, if_true, if_false, Bool.false_eq_true, List.drop_succ_cons, List.drop_zero, List.take_succ_cons, List.take_zero, Bool.and_true, Bool.true_and, decide_true, decide_false, wrap64_id, aixG_eq, Nat.reduceAdd, Nat.reduceSub, Nat.reduceMul, Nat.reduceLeDiff, Nat.reduceLT, Int.reduceAdd, Int.reduceSub, Int.reduceMul, Int.reduceNeg, Int.reduceLT, Int.reduceLE, Int.reduceGT, Int.reduceGE, Int.reduceToNat, ↓reduceIte, and_self, true_and, and_true, en]
        refine Post.call (c_read [] _ _ rfl (by simp)) fun v g3 hv => ?_
        subst hv
        have ee : (!(errTxt [] == [])) = false := rfl
        obtain ⟨⟨g1, rfl⟩, hF1⟩ := f1.grow hF
        obtain ⟨⟨g2, rfl⟩, hG2⟩ := f2.grow hG
        simp (dsimp := false) (implicitDefEqProofs := false) (disch := omega) only [gv_some, gr_some, gI_int, gB_bool, gS_str, gc_t, gc_f, gi_t, gi_f, gN_eq, gf_t, Option.bind_some, Option.bind_none, Option.map_some, acells_agg, acells_int, acells_bool, acells_str, acells_ptr, acells_sl, acells_nilsl, acells_nilptr, acells_iface, acells_niliface, aptr_ptr, anil_ptr, aextract_0, aextract_1, aextract_2, alenS_sl, alenS_nil, alenOf_sl, alenOf_nil, apartOf_agg, apart_t, apart_f, astore_ptr, hset_at0, hset_at, hs_same, hs_ne, len_hset, List.set_cons_zero, List.set_cons_succ, set_app, set_app0, aload_ptr, splice_eq, List.drop_nil, List.append_nil, isCell_int, isCell_bool, isCell_str, isCell_ptr, isCell_sl, isCell_nilsl, isCell_nilptr, isCell_iface, isCell_niliface, List.all_cons, List.all_nil, Bool.and_self, hget_at0, hget_at, len_app, List.length_cons, List.length_nil, get_app, get_app0, List.getElem?_cons_zero, List.getElem?_cons_succ, join_some, List.append_assoc, List.cons_append, List.nil_append, Nat.zero_add, Nat.add_zero, Nat.mul_one, chkRd_eq, chkAl_blk, if_true, if_false, Bool.false_eq_true, List.drop_succ_cons, List.drop_zero, List.take_succ_cons, List.take_zero, Bool.and_true, Bool.true_and, decide_true, decide_false, wrap64_id, aixG_eq, Nat.reduceAdd, Nat.reduceSub, Nat.reduceMul, Nat.reduceLeDiff, Nat.reduceLT, Int.reduceAdd, Int.reduceSub, Int.reduceMul, Int.reduceNeg, Int.reduceLT, Int.reduceLE, Int.reduceGT, Int.reduceGE, Int.reduceToNat, ↓reduceIte, and_self, true_and, and_true, ee]
        have tp : (0 ≤ a.part ∧ a.part < (m.parts.length : Int)) ∧ a.round < 1048576 := by simp [Mon.takes] at tk; omega
        have lA : m.again.length = m.parts.length := by obtain ⟨_, _, _, _, _, _, _, _, _, _, _, _, l, _⟩ := hm; exact l
        rw [J3_17_eq]
        simp (dsimp := false) (implicitDefEqProofs := false) (disch := omega) only [gv_some, gr_some, gI_int, gB_bool, gS_str, gc_t, gc_f, gi_t, gi_f, gN_eq, gf_t, Option.bind_some, Option.bind_none, Option.map_some, acells_agg, acells_int, acells_bool, acells_str, acells_ptr, acells_sl, acells_nilsl, acells_nilptr, acells_iface, acells_niliface, aptr_ptr, anil_ptr, aextract_0, aextract_1, aextract_2, alenS_sl, alenS_nil, alenOf_sl, alenOf_nil, apartOf_agg, apart_t, apart_f, astore_ptr, hset_at0, hset_at, hs_same, hs_ne, len_hset, List.set_cons_zero, List.set_cons_succ, set_app, set_app0, aload_ptr, splice_eq, List.drop_nil, List.append_nil, isCell_int, isCell_bool, isCell_str, isCell_ptr, isCell_sl, isCell_nilsl, isCell_nilptr, isCell_iface, isCell_niliface, List.all_cons, List.all_nil, Bool.and_self, hget_at0, hget_at, len_app, List.length_cons, List.length_nil, get_app, get_app0, List.getElem?_cons_zero, List.getElem?_cons_succ, join_some, List.append_assoc, List.cons_append, List.nil_append, Nat.zero_add, Nat.add_zero, Nat.mul_one, chkRd_eq, chkAl_blk, if_true, if_false, Bool.false_eq_true, List.drop_succ_cons, List.drop_zero, List.take_succ_cons, List.take_zero, Bool.and_true, Bool.true_and, decide_true, decide_false, wrap64_id, aixG_eq, Nat.reduceAdd, Nat.reduceSub, Nat.reduceMul, Nat.reduceLeDiff, Nat.reduceLT, Int.reduceAdd, Int.reduceSub, Int.reduceMul, Int.reduceNeg, Int.reduceLT, Int.reduceLE, Int.reduceGT, Int.reduceGE, Int.reduceToNat, ↓reduceIte, and_self, true_and, and_true]
        rw [J3_15_eq, wsucc (by omega)]
        refine ih (i + 1) b c _ F1 G2 (g2 ++ g3) hs' (by omega) ?_ ?_ hF1 hG2 (fun x hx h => hd2 x h hx) (Mon.rep_ok ok (by omega) a.round ar tp.2 a.part.toNat K.toNat (by omega))
        · rw [← List.append_assoc]; exact m2.keep fun x hx => hget_old _ (m2.lt x hx)
        · rw [← List.append_assoc]; exact w2.keep fun x hx => hget_old _ (w2.lt x hx)
      · rw [if_neg tk] at q1
        obtain ⟨rfl, rfl⟩ := q1
        simp (dsimp := false) (implicitDefEqProofs := false) (disch := omega) only [gv_some, gr_some, gI_int, gB_bool, gS_str, gc_t, gc_f, gi_t, gi_f, gN_eq, gf_t, Option.bind_some, Option.bind_none, Option.map_some, acells_agg, acells_int, acells_bool, acells_str, acells_ptr, acells_sl, acells_nilsl, acells_nilptr, acells_iface, acells_niliface, aptr_ptr, anil_ptr, aextract_0, aextract_1, aextract_2, alenS_sl, alenS_nil, alenOf_sl, alenOf_nil, apartOf_agg, apart_t, apart_f, astore_ptr, hset_at0, hset_at, hs_same, hs_ne, len_hset, List.set_cons_zero, List.set_cons_succ, set_app, set_app0, aload_ptr, splice_eq, List.drop_nil, List.append_nil, isCell_int, isCell_bool, isCell_str, isCell_ptr, isCell_sl, isCell_nilsl, isCell_nilptr, isCell_iface, isCell_niliface, List.all_cons, List.all_nil, Bool.and_self, hget_at0, hget_at, len_app, List.length_cons, List.length_nil, get_app, get_app0, List.getElem?_cons_zero, List.getElem?_cons_succ, join_some, List.append_assoc, List.cons_append, List.nil_append, Nat.zero_add, Nat.add_zero, Nat.mul_one, chkRd_eq, chkAl_blk, if_true, if_false, Bool.false_eq_true, List.drop_succ_cons, List.drop_zero, List.take_succ_cons, List.take_zero, Bool.and_true, Bool.true_and, decide_true, decide_false, wrap64_id, aixG_eq, Nat.reduceAdd, Nat.reduceSub, Nat.reduceMul, Nat.reduceLeDiff, Nat.reduceLT, Int.reduceAdd, Int.reduceSub, Int.reduceMul, Int.reduceNeg, Int.reduceLT, Int.reduceLE, Int.reduceGT, Int.reduceGE, Int.reduceToNat, ↓reduceIte, and_self, true_and, and_true, ec]
        refine Post.bind (c_rreport _ c m G hw1 i ok (by omega) a.round ar a.part K K0) ?_
        intro v2 h2 q2
        rw [if_neg tk] at q2
        obtain ⟨rfl, g2, rfl⟩ := q2
        have en : ((0 : Int) != 0) = false := rfl
        have er : ErrV (h0 ++ (g ++ some (.cells false [.bool a.sl, .int .u32 a.round, .int .i64 a.part, .int .i64 a.kind]) :: g2)) [(2, none)] (.iface 71 (.int .i64 2)) := ⟨rfl, ⟨by omega, by omega⟩, rfl⟩
        simp (dsimp := false) (implicitDefEqProofs := false) (disch := omega) only [gv_some, gr_some, gI_int, gB_bool, gS_str, gc_t, gc_f, gi_t, gi_f, gN_eq, gf_t, Option.bind_some, Option.bind_none, Option.map_some, acells_agg, acells_int, acells_bool, acells_str, acells_ptr, acells_sl, acells_nilsl, acells_nilptr, acells_iface, acells_niliface, aptr_ptr, anil_ptr, aextract_0, aextract_1, aextract_2, alenS_sl, alenS_nil, alenOf_sl, alenOf_nil, apartOf_agg, apart_t, apart_f, astore_ptr, hset_at0, hset_at, hs_same, hs_ne, len_hset, List.set_cons_zero, List.set_cons_succ, set_app, set_app0, aload_ptr, splice_eq, List.drop_nil, List.append_nil, isCell_int, isCell_bool, isCell_str, isCell_ptr, isCell_sl, isCell_nilsl, isCell_nilptr, isCell_iface, isCell_niliface, List.all_cons, List.all_nil, Bool.and_self, hget_at0, hget_at, len_app, List.length_cons, List.length_nil, get_app, get_app0, List.getElem?_cons_zero, List.getElem?_cons_succ, join_some, List.append_assoc, List.cons_append, List.nil_append, Nat.zero_add, Nat.add_zero, Nat.mul_one, chkRd_eq, chkAl_blk, if_true, if_false, Bool.false_eq_true, List.drop_succ_cons, List.drop_zero, List.take_succ_cons, List.take_zero, Bool.and_true, Bool.true_and, decide_true, decide_false, wrap64_id, aixG_eq, Nat.reduceAdd, Nat.reduceSub, Nat.reduceMul, Nat.reduceLeDiff, Nat.reduceLT, Int.reduceAdd, Int.reduceSub, Int.reduceMul, Int.reduceNeg, Int.reduceLT, Int.reduceLE, Int.reduceGT, Int.reduceGE, Int.reduceToNat, ↓reduceIte, and_self, true_and, and_true, en]
        refine Post.call (c_read _ _ _ er (by simp)) fun v g3 hv => ?_
        subst hv
        have ee : (!(errTxt [(2, none)] == num 2)) = false := by simp [errTxt, lnkTxt, tailTxt]
        simp (dsimp := false) (implicitDefEqProofs := false) (disch := omega) only [gv_some, gr_some, gI_int, gB_bool, gS_str, gc_t, gc_f, gi_t, gi_f, gN_eq, gf_t, Option.bind_some, Option.bind_none, Option.map_some, acells_agg, acells_int, acells_bool, acells_str, acells_ptr, acells_sl, acells_nilsl, acells_nilptr, acells_iface, acells_niliface, aptr_ptr, anil_ptr, aextract_0, aextract_1, aextract_2, alenS_sl, alenS_nil, alenOf_sl, alenOf_nil, apartOf_agg, apart_t, apart_f, astore_ptr, hset_at0, hset_at, hs_same, hs_ne, len_hset, List.set_cons_zero, List.set_cons_succ, set_app, set_app0, aload_ptr, splice_eq, List.drop_nil, List.append_nil, isCell_int, isCell_bool, isCell_str, isCell_ptr, isCell_sl, isCell_nilsl, isCell_nilptr, isCell_iface, isCell_niliface, List.all_cons, List.all_nil, Bool.and_self, hget_at0, hget_at, len_app, List.length_cons, List.length_nil, get_app, get_app0, List.getElem?_cons_zero, List.getElem?_cons_succ, join_some, List.append_assoc, List.cons_append, List.nil_append, Nat.zero_add, Nat.add_zero, Nat.mul_one, chkRd_eq, chkAl_blk, if_true, if_false, Bool.false_eq_true, List.drop_succ_cons, List.drop_zero, List.take_succ_cons, List.take_zero, Bool.and_true, Bool.true_and, decide_true, decide_false, wrap64_id, aixG_eq, Nat.reduceAdd, Nat.reduceSub, Nat.reduceMul, Nat.reduceLeDiff, Nat.reduceLT, Int.reduceAdd, Int.reduceSub, Int.reduceMul, Int.reduceNeg, Int.reduceLT, Int.reduceLE, Int.reduceGT, Int.reduceGE, Int.reduceToNat, ↓reduceIte, and_self, true_and, and_true, ee]
        rw [J3_17_eq]
        simp (dsimp := false) (implicitDefEqProofs := false) (disch := omega) only [gv_some, gr_some, gI_int, gB_bool, gS_str, gc_t, gc_f, gi_t, gi_f, gN_eq, gf_t, Option.bind_some, Option.bind_none, Option.map_some, acells_agg, acells_int, acells_bool, acells_str, acells_ptr, acells_sl, acells_nilsl, acells_nilptr, acells_iface, acells_niliface, aptr_ptr, anil_ptr, aextract_0, aextract_1, aextract_2, alenS_sl, alenS_nil, alenOf_sl, alenOf_nil, apartOf_agg, apart_t, apart_f, astore_ptr, hset_at0, hset_at, hs_same, hs_ne, len_hset, List.set_cons_zero, List.set_cons_succ, set_app, set_app0, aload_ptr, splice_eq, List.drop_nil, List.append_nil, isCell_int, isCell_bool, isCell_str, isCell_ptr, isCell_sl, isCell_nilsl, isCell_nilptr, isCell_iface, isCell_niliface, List.all_cons, List.all_nil, Bool.and_self, hget_at0, hget_at, len_app, List.length_cons, List.length_nil, get_app, get_app0, List.getElem?_cons_zero, List.getElem?_cons_succ, join_some, List.append_assoc, List.cons_append, List.nil_append, Nat.zero_add, Nat.add_zero, Nat.mul_one, chkRd_eq, chkAl_blk, if_true, if_false, Bool.false_eq_true, List.drop_succ_cons, List.drop_zero, List.take_succ_cons, List.take_zero, Bool.and_true, Bool.true_and, decide_true, decide_false, wrap64_id, aixG_eq, Nat.reduceAdd, Nat.reduceSub, Nat.reduceMul, Nat.reduceLeDiff, Nat.reduceLT, Int.reduceAdd, Int.reduceSub, Int.reduceMul, Int.reduceNeg, Int.reduceLT, Int.reduceLE, Int.reduceGT, Int.reduceGE, Int.reduceToNat, ↓reduceIte, and_self, true_and, and_true]
        rw [J3_15_eq, wsucc (by omega)]
        have hm3 := hm.keep (h' := h0 ++ g ++ (some (.cells false [.bool a.sl, .int .u32 a.round, .int .i64 a.part, .int .i64 a.kind]) :: (g2 ++ g3))) fun x hx => hget_old _ (hm.lt x hx)
        have hw3 := hw.keep (h' := h0 ++ g ++ (some (.cells false [.bool a.sl, .int .u32 a.round, .int .i64 a.part, .int .i64 a.kind]) :: (g2 ++ g3))) fun x hx => hget_old _ (hw.lt x hx)
        rw [List.append_assoc] at hm3 hw3
        exact ih (i + 1) b c m F G _ hs' (by omega) hm3 hw3 hF hG hd more
theorem repsParts (node : Int) (fs : List Four) (y : AV) (sy : Sl h0 4 Four.cells fs y) (hn : fs.length ≤ 50) : ∀ (s : List Four) (i : Nat) (x : AV) (g : AHeap), fs.drop i = s → i ≤ fs.length → Ow h0.length (h0 ++ g) 9 Part.cells ((fs.take i).map Four.part) x →
    Post (J3_3 node x2 x y (fs.length : Int) (i : Int) (h0 ++ g)) fun v _ => v = .bool true := by
  intro s
  induction s with
  | nil =>
    intro i x g hs hi ow
    have := drop_nil hs
    have hl : fs.take i = fs := List.take_of_length_le (by omega)
    rw [hl] at ow
    have ol : (fs.map Four.part).length ≤ 50 := by simpa using hn
    rw [J3_3_eq]
    rw [decide_eq_false (by omega)]
    simp (dsimp := false) (implicitDefEqProofs := false) (disch := omega) only [gv_some, gr_some, gI_int, gB_bool, gS_str, gc_t, gc_f, gi_t, gi_f, gN_eq, gf_t, Option.bind_some, Option.bind_none, Option.map_some, acells_agg, acells_int, acells_bool, acells_str, acells_ptr, acells_sl, acells_nilsl, acells_nilptr, acells_iface, acells_niliface, aptr_ptr, anil_ptr, aextract_0, aextract_1, aextract_2, alenS_sl, alenS_nil, alenOf_sl, alenOf_nil, apartOf_agg, apart_t, apart_f, astore_ptr, hset_at0, hset_at, hs_same, hs_ne, len_hset, List.set_cons_zero, List.set_cons_succ, set_app, set_app0, aload_ptr, splice_eq, List.drop_nil, List.append_nil, isCell_int, isCell_bool, isCell_str, isCell_ptr, isCell_sl, isCell_nilsl, isCell_nilptr, isCell_iface, isCell_niliface, List.all_cons, List.all_nil, Bool.and_self, hget_at0, hget_at, len_app, List.length_cons, List.length_nil, get_app, get_app0, List.getElem?_cons_zero, List.getElem?_cons_succ, join_some, List.append_assoc, List.cons_append, List.nil_append, Nat.zero_add, Nat.add_zero, Nat.mul_one, chkRd_eq, chkAl_blk, if_true, if_false, Bool.false_eq_true, List.drop_succ_cons, List.drop_zero, List.take_succ_cons, List.take_zero, Bool.and_true, Bool.true_and, decide_true, decide_false, wrap64_id, aixG_eq, Nat.reduceAdd, Nat.reduceSub, Nat.reduceMul, Nat.reduceLeDiff, Nat.reduceLT, Int.reduceAdd, Int.reduceSub, Int.reduceMul, Int.reduceNeg, Int.reduceLT, Int.reduceLE, Int.reduceGT, Int.reduceGE, Int.reduceToNat, ↓reduceIte, and_self, true_and, and_true, J3_5_eq]
    have o2 : Ow h0.length (h0 ++ (g ++ [some (.cells false [])])) 9 Part.cells (fs.map Four.part) x := by rw [← List.append_assoc]; exact ow.app _
    refine Post.val o2.sl.lenOf ?_
    rw [List.append_assoc]
    refine Post.val (o2.sl.src Part.len) ?_
    obtain ⟨z, t', ea, oz⟩ := aapp_ow (by' := 48) (pre := h0 ++ g) (t := [some (.cells false [])]) (x := .sl (h0 ++ g).length 0 0 9) (l := ([] : List Part)) (l2 := fs.map Four.part) Part.len Part.isc (.inr ⟨(h0 ++ g).length, [], rfl, Nat.le_refl _, by rw [hget_at0]; rfl⟩) (by simp; omega)
    rw [List.append_assoc, List.append_assoc, List.length_append] at ea
    rw [List.append_assoc] at oz
    simp only [List.nil_append] at oz
    simp (dsimp := false) (implicitDefEqProofs := false) (disch := omega) only [gv_some, gr_some, gI_int, gB_bool, gS_str, gc_t, gc_f, gi_t, gi_f, gN_eq, gf_t, Option.bind_some, Option.bind_none, Option.map_some, acells_agg, acells_int, acells_bool, acells_str, acells_ptr, acells_sl, acells_nilsl, acells_nilptr, acells_iface, acells_niliface, aptr_ptr, anil_ptr, aextract_0, aextract_1, aextract_2, alenS_sl, alenS_nil, alenOf_sl, alenOf_nil, apartOf_agg, apart_t, apart_f, astore_ptr, hset_at0, hset_at, hs_same, hs_ne, len_hset, List.set_cons_zero, List.set_cons_succ, set_app, set_app0, aload_ptr, splice_eq, List.drop_nil, List.append_nil, isCell_int, isCell_bool, isCell_str, isCell_ptr, isCell_sl, isCell_nilsl, isCell_nilptr, isCell_iface, isCell_niliface, List.all_cons, List.all_nil, Bool.and_self, hget_at0, hget_at, len_app, List.length_cons, List.length_nil, get_app, get_app0, List.getElem?_cons_zero, List.getElem?_cons_succ, join_some, List.append_assoc, List.cons_append, List.nil_append, Nat.zero_add, Nat.add_zero, Nat.mul_one, chkRd_eq, chkAl_blk, if_true, if_false, Bool.false_eq_true, List.drop_succ_cons, List.drop_zero, List.take_succ_cons, List.take_zero, Bool.and_true, Bool.true_and, decide_true, decide_false, wrap64_id, aixG_eq, Nat.reduceAdd, Nat.reduceSub, Nat.reduceMul, Nat.reduceLeDiff, Nat.reduceLT, Int.reduceAdd, Int.reduceSub, Int.reduceMul, Int.reduceNeg, Int.reduceLT, Int.reduceLE, Int.reduceGT, Int.reduceGE, Int.reduceToNat, ↓reduceIte, and_self, true_and, and_true, ea]
    refine Post.call (c_newmon node (fs.map Four.part) _ _ oz.sl (by omega)) fun v g2 hv => ?_
    obtain ⟨b, F, rfl, hm, hF⟩ := hv
    obtain ⟨Fp, sp, hFp⟩ := ow.slb
    have sp2 := sp.keep (h' := h0 ++ (g ++ t') ++ g2) fun y hy => by
      have := hFp y hy
      rw [← List.append_assoc, List.append_assoc]
      exact hget_old _ this.2
    refine Post.call (c_watch node (fs.map Four.part) _ Fp _ sp2 (by omega)) fun v g3 hv => ?_
    obtain ⟨c, G, rfl, hw, hG⟩ := hv
    have hm2 := hm.keep (h' := h0 ++ (g ++ t') ++ g2 ++ g3) fun x hx => hget_old _ (hm.lt x hx)
    have e : h0 ++ (g ++ t') ++ g2 ++ g3 = h0 ++ (g ++ t' ++ g2 ++ g3) := by simp
    have ll := hm.lt
    rw [e] at hm2 hw ⊢
    refine repsLoop h0 acts x2 sx hr acts 0 b c _ F G _ rfl (by omega) hm2 hw (fun x hx => ?_) (fun x hx => ?_) (fun x hx hy => ?_) (Mon.new_ok _ _)
    · have := hF x hx
      simp at this
      omega
    · rcases hG x hx with this | this
      · simp at this
        omega
      · exact (hFp x this).1
    · have h1 := ll x hx
      have h2 := hF x hx
      rcases hG x hy with this | this
      · omega
      · have := (hFp x this).2
        simp at h1 h2 this
        omega
  | cons a s ih =>
    intro i x g hs hi ow
    obtain ⟨hk, ha, hs'⟩ := drop_cons hs
    rw [J3_3_eq]
    rw [decide_eq_true (by omega)]
    simp (dsimp := false) (implicitDefEqProofs := false) (disch := omega) only [gv_some, gr_some, gI_int, gB_bool, gS_str, gc_t, gc_f, gi_t, gi_f, gN_eq, gf_t, Option.bind_some, Option.bind_none, Option.map_some, acells_agg, acells_int, acells_bool, acells_str, acells_ptr, acells_sl, acells_nilsl, acells_nilptr, acells_iface, acells_niliface, aptr_ptr, anil_ptr, aextract_0, aextract_1, aextract_2, alenS_sl, alenS_nil, alenOf_sl, alenOf_nil, apartOf_agg, apart_t, apart_f, astore_ptr, hset_at0, hset_at, hs_same, hs_ne, len_hset, List.set_cons_zero, List.set_cons_succ, set_app, set_app0, aload_ptr, splice_eq, List.drop_nil, List.append_nil, isCell_int, isCell_bool, isCell_str, isCell_ptr, isCell_sl, isCell_nilsl, isCell_nilptr, isCell_iface, isCell_niliface, List.all_cons, List.all_nil, Bool.and_self, hget_at0, hget_at, len_app, List.length_cons, List.length_nil, get_app, get_app0, List.getElem?_cons_zero, List.getElem?_cons_succ, join_some, List.append_assoc, List.cons_append, List.nil_append, Nat.zero_add, Nat.add_zero, Nat.mul_one, chkRd_eq, chkAl_blk, if_true, if_false, Bool.false_eq_true, List.drop_succ_cons, List.drop_zero, List.take_succ_cons, List.take_zero, Bool.and_true, Bool.true_and, decide_true, decide_false, wrap64_id, aixG_eq, Nat.reduceAdd, Nat.reduceSub, Nat.reduceMul, Nat.reduceLeDiff, Nat.reduceLT, Int.reduceAdd, Int.reduceSub, Int.reduceMul, Int.reduceNeg, Int.reduceLT, Int.reduceLE, Int.reduceGT, Int.reduceGE, Int.reduceToNat, ↓reduceIte, and_self, true_and, and_true, J3_4_eq]
    obtain ⟨eb, eo, ix, ea⟩ := (sy.app g).elem Four.len i hk
    rw [ha] at ea
    refine Post.val ix ?_
    refine Post.val (ea.loadN 4 rfl) ?_
    have ec : a.cells = [.int .u8 a.a, .int .u8 a.b, .int .u8 a.c, .int .u8 a.d] := rfl
    simp (dsimp := false) (implicitDefEqProofs := false) (disch := omega) only [gv_some, gr_some, gI_int, gB_bool, gS_str, gc_t, gc_f, gi_t, gi_f, gN_eq, gf_t, Option.bind_some, Option.bind_none, Option.map_some, acells_agg, acells_int, acells_bool, acells_str, acells_ptr, acells_sl, acells_nilsl, acells_nilptr, acells_iface, acells_niliface, aptr_ptr, anil_ptr, aextract_0, aextract_1, aextract_2, alenS_sl, alenS_nil, alenOf_sl, alenOf_nil, apartOf_agg, apart_t, apart_f, astore_ptr, hset_at0, hset_at, hs_same, hs_ne, len_hset, List.set_cons_zero, List.set_cons_succ, set_app, set_app0, aload_ptr, splice_eq, List.drop_nil, List.append_nil, isCell_int, isCell_bool, isCell_str, isCell_ptr, isCell_sl, isCell_nilsl, isCell_nilptr, isCell_iface, isCell_niliface, List.all_cons, List.all_nil, Bool.and_self, hget_at0, hget_at, len_app, List.length_cons, List.length_nil, get_app, get_app0, List.getElem?_cons_zero, List.getElem?_cons_succ, join_some, List.append_assoc, List.cons_append, List.nil_append, Nat.zero_add, Nat.add_zero, Nat.mul_one, chkRd_eq, chkAl_blk, if_true, if_false, Bool.false_eq_true, List.drop_succ_cons, List.drop_zero, List.take_succ_cons, List.take_zero, Bool.and_true, Bool.true_and, decide_true, decide_false, wrap64_id, aixG_eq, Nat.reduceAdd, Nat.reduceSub, Nat.reduceMul, Nat.reduceLeDiff, Nat.reduceLT, Int.reduceAdd, Int.reduceSub, Int.reduceMul, Int.reduceNeg, Int.reduceLT, Int.reduceLE, Int.reduceGT, Int.reduceGE, Int.reduceToNat, ↓reduceIte, and_self, true_and, and_true, ec]
    have w1 : IntKind.i64.wrap (0 + 1) = 1 := rfl
    have w2 : IntKind.i64.wrap (1 + 1) = 2 := rfl
    have w3 : IntKind.i64.wrap (2 + 1) = 3 := rfl
    have w4 : IntKind.i64.wrap (3 + 1) = 4 := rfl
    rw [J3_6_eq, decide_eq_true (by omega)]
    simp (dsimp := false) (implicitDefEqProofs := false) (disch := omega) only [gv_some, gr_some, gI_int, gB_bool, gS_str, gc_t, gc_f, gi_t, gi_f, gN_eq, gf_t, Option.bind_some, Option.bind_none, Option.map_some, acells_agg, acells_int, acells_bool, acells_str, acells_ptr, acells_sl, acells_nilsl, acells_nilptr, acells_iface, acells_niliface, aptr_ptr, anil_ptr, aextract_0, aextract_1, aextract_2, alenS_sl, alenS_nil, alenOf_sl, alenOf_nil, apartOf_agg, apart_t, apart_f, astore_ptr, hset_at0, hset_at, hs_same, hs_ne, len_hset, List.set_cons_zero, List.set_cons_succ, set_app, set_app0, aload_ptr, splice_eq, List.drop_nil, List.append_nil, isCell_int, isCell_bool, isCell_str, isCell_ptr, isCell_sl, isCell_nilsl, isCell_nilptr, isCell_iface, isCell_niliface, List.all_cons, List.all_nil, Bool.and_self, hget_at0, hget_at, len_app, List.length_cons, List.length_nil, get_app, get_app0, List.getElem?_cons_zero, List.getElem?_cons_succ, join_some, List.append_assoc, List.cons_append, List.nil_append, Nat.zero_add, Nat.add_zero, Nat.mul_one, chkRd_eq, chkAl_blk, if_true, if_false, Bool.false_eq_true, List.drop_succ_cons, List.drop_zero, List.take_succ_cons, List.take_zero, Bool.and_true, Bool.true_and, decide_true, decide_false, wrap64_id, aixG_eq, Nat.reduceAdd, Nat.reduceSub, Nat.reduceMul, Nat.reduceLeDiff, Nat.reduceLT, Int.reduceAdd, Int.reduceSub, Int.reduceMul, Int.reduceNeg, Int.reduceLT, Int.reduceLE, Int.reduceGT, Int.reduceGE, Int.reduceToNat, ↓reduceIte, and_self, true_and, and_true, J3_8_eq, aixA_ptr]
    rw [J3_11_eq, w1, J3_6_eq, decide_eq_true (by omega)]
    simp (dsimp := false) (implicitDefEqProofs := false) (disch := omega) only [gv_some, gr_some, gI_int, gB_bool, gS_str, gc_t, gc_f, gi_t, gi_f, gN_eq, gf_t, Option.bind_some, Option.bind_none, Option.map_some, acells_agg, acells_int, acells_bool, acells_str, acells_ptr, acells_sl, acells_nilsl, acells_nilptr, acells_iface, acells_niliface, aptr_ptr, anil_ptr, aextract_0, aextract_1, aextract_2, alenS_sl, alenS_nil, alenOf_sl, alenOf_nil, apartOf_agg, apart_t, apart_f, astore_ptr, hset_at0, hset_at, hs_same, hs_ne, len_hset, List.set_cons_zero, List.set_cons_succ, set_app, set_app0, aload_ptr, splice_eq, List.drop_nil, List.append_nil, isCell_int, isCell_bool, isCell_str, isCell_ptr, isCell_sl, isCell_nilsl, isCell_nilptr, isCell_iface, isCell_niliface, List.all_cons, List.all_nil, Bool.and_self, hget_at0, hget_at, len_app, List.length_cons, List.length_nil, get_app, get_app0, List.getElem?_cons_zero, List.getElem?_cons_succ, join_some, List.append_assoc, List.cons_append, List.nil_append, Nat.zero_add, Nat.add_zero, Nat.mul_one, chkRd_eq, chkAl_blk, if_true, if_false, Bool.false_eq_true, List.drop_succ_cons, List.drop_zero, List.take_succ_cons, List.take_zero, Bool.and_true, Bool.true_and, decide_true, decide_false, wrap64_id, aixG_eq, Nat.reduceAdd, Nat.reduceSub, Nat.reduceMul, Nat.reduceLeDiff, Nat.reduceLT, Int.reduceAdd, Int.reduceSub, Int.reduceMul, Int.reduceNeg, Int.reduceLT, Int.reduceLE, Int.reduceGT, Int.reduceGE, Int.reduceToNat, ↓reduceIte, and_self, true_and, and_true, J3_8_eq, aixA_ptr]
    rw [J3_11_eq, w2, J3_6_eq, decide_eq_true (by omega)]
    simp (dsimp := false) (implicitDefEqProofs := false) (disch := omega) only [gv_some, gr_some, gI_int, gB_bool, gS_str, gc_t, gc_f, gi_t, gi_f, gN_eq, gf_t, Option.bind_some, Option.bind_none, Option.map_some, acells_agg, acells_int, acells_bool, acells_str, acells_ptr, acells_sl, acells_nilsl, acells_nilptr, acells_iface, acells_niliface, aptr_ptr, anil_ptr, aextract_0, aextract_1, aextract_2, alenS_sl, alenS_nil, alenOf_sl, alenOf_nil, apartOf_agg, apart_t, apart_f, astore_ptr, hset_at0, hset_at, hs_same, hs_ne, len_hset, List.set_cons_zero, List.set_cons_succ, set_app, set_app0, aload_ptr, splice_eq, List.drop_nil, List.append_nil, isCell_int, isCell_bool, isCell_str, isCell_ptr, isCell_sl, isCell_nilsl, isCell_nilptr, isCell_iface, isCell_niliface, List.all_cons, List.all_nil, Bool.and_self, hget_at0, hget_at, len_app, List.length_cons, List.length_nil, get_app, get_app0, List.getElem?_cons_zero, List.getElem?_cons_succ, join_some, List.append_assoc, List.cons_append, List.nil_append, Nat.zero_add, Nat.add_zero, Nat.mul_one, chkRd_eq, chkAl_blk, if_true, if_false, Bool.false_eq_true, List.drop_succ_cons, List.drop_zero, List.take_succ_cons, List.take_zero, Bool.and_true, Bool.true_and, decide_true, decide_false, wrap64_id, aixG_eq, Nat.reduceAdd, Nat.reduceSub, Nat.reduceMul, Nat.reduceLeDiff, Nat.reduceLT, Int.reduceAdd, Int.reduceSub, Int.reduceMul, Int.reduceNeg, Int.reduceLT, Int.reduceLE, Int.reduceGT, Int.reduceGE, Int.reduceToNat, ↓reduceIte, and_self, true_and, and_true, J3_8_eq, aixA_ptr]
    rw [J3_11_eq, w3, J3_6_eq, decide_eq_true (by omega)]
    simp (dsimp := false) (implicitDefEqProofs := false) (disch := omega) only [gv_some, gr_some, gI_int, gB_bool, gS_str, gc_t, gc_f, gi_t, gi_f, gN_eq, gf_t, Option.bind_some, Option.bind_none, Option.map_some, acells_agg, acells_int, acells_bool, acells_str, acells_ptr, acells_sl, acells_nilsl, acells_nilptr, acells_iface, acells_niliface, aptr_ptr, anil_ptr, aextract_0, aextract_1, aextract_2, alenS_sl, alenS_nil, alenOf_sl, alenOf_nil, apartOf_agg, apart_t, apart_f, astore_ptr, hset_at0, hset_at, hs_same, hs_ne, len_hset, List.set_cons_zero, List.set_cons_succ, set_app, set_app0, aload_ptr, splice_eq, List.drop_nil, List.append_nil, isCell_int, isCell_bool, isCell_str, isCell_ptr, isCell_sl, isCell_nilsl, isCell_nilptr, isCell_iface, isCell_niliface, List.all_cons, List.all_nil, Bool.and_self, hget_at0, hget_at, len_app, List.length_cons, List.length_nil, get_app, get_app0, List.getElem?_cons_zero, List.getElem?_cons_succ, join_some, List.append_assoc, List.cons_append, List.nil_append, Nat.zero_add, Nat.add_zero, Nat.mul_one, chkRd_eq, chkAl_blk, if_true, if_false, Bool.false_eq_true, List.drop_succ_cons, List.drop_zero, List.take_succ_cons, List.take_zero, Bool.and_true, Bool.true_and, decide_true, decide_false, wrap64_id, aixG_eq, Nat.reduceAdd, Nat.reduceSub, Nat.reduceMul, Nat.reduceLeDiff, Nat.reduceLT, Int.reduceAdd, Int.reduceSub, Int.reduceMul, Int.reduceNeg, Int.reduceLT, Int.reduceLE, Int.reduceGT, Int.reduceGE, Int.reduceToNat, ↓reduceIte, and_self, true_and, and_true, J3_8_eq, aixA_ptr]
    rw [J3_11_eq, w4, J3_6_eq, decide_eq_false (by omega)]
    have ep : ([.int .i64 0, .int .i64 0, .int .i64 0, .int .i64 0, .int .i64 0, .int .u8 (a.a.tmod 4), .int .u8 (a.b.tmod 4), .int .u8 (a.c.tmod 4), .int .u8 (a.d.tmod 4)] : List AV) = a.part.cells := rfl
    have pl : a.part.cells.length = 9 := rfl
    have pt : a.part.cells.take 9 = a.part.cells := rfl
    have eb : ∀ H, abslS 9 1 [.int .i64 0, .int .i64 0, .int .i64 0, .int .i64 0, .int .i64 0, .int .u8 0, .int .u8 0, .int .u8 0, .int .u8 0] [(0, .agg a.part.cells)] H = some (.sl H.length 0 1 9, H ++ [some (.cells false a.part.cells)]) := fun H => rfl
    simp (dsimp := false) (implicitDefEqProofs := false) (disch := omega) only [gv_some, gr_some, gI_int, gB_bool, gS_str, gc_t, gc_f, gi_t, gi_f, gN_eq, gf_t, Option.bind_some, Option.bind_none, Option.map_some, acells_agg, acells_int, acells_bool, acells_str, acells_ptr, acells_sl, acells_nilsl, acells_nilptr, acells_iface, acells_niliface, aptr_ptr, anil_ptr, aextract_0, aextract_1, aextract_2, alenS_sl, alenS_nil, alenOf_sl, alenOf_nil, apartOf_agg, apart_t, apart_f, astore_ptr, hset_at0, hset_at, hs_same, hs_ne, len_hset, List.set_cons_zero, List.set_cons_succ, set_app, set_app0, aload_ptr, splice_eq, List.drop_nil, List.append_nil, isCell_int, isCell_bool, isCell_str, isCell_ptr, isCell_sl, isCell_nilsl, isCell_nilptr, isCell_iface, isCell_niliface, List.all_cons, List.all_nil, Bool.and_self, hget_at0, hget_at, len_app, List.length_cons, List.length_nil, get_app, get_app0, List.getElem?_cons_zero, List.getElem?_cons_succ, join_some, List.append_assoc, List.cons_append, List.nil_append, Nat.zero_add, Nat.add_zero, Nat.mul_one, chkRd_eq, chkAl_blk, if_true, if_false, Bool.false_eq_true, List.drop_succ_cons, List.drop_zero, List.take_succ_cons, List.take_zero, Bool.and_true, Bool.true_and, decide_true, decide_false, wrap64_id, aixG_eq, Nat.reduceAdd, Nat.reduceSub, Nat.reduceMul, Nat.reduceLeDiff, Nat.reduceLT, Int.reduceAdd, Int.reduceSub, Int.reduceMul, Int.reduceNeg, Int.reduceLT, Int.reduceLE, Int.reduceGT, Int.reduceGE, Int.reduceToNat, ↓reduceIte, and_self, true_and, and_true, J3_9_eq, ep]
    simp (dsimp := false) (implicitDefEqProofs := false) (disch := omega) only [gv_some, gr_some, gI_int, gB_bool, gS_str, gc_t, gc_f, gi_t, gi_f, gN_eq, gf_t, Option.bind_some, Option.bind_none, Option.map_some, acells_agg, acells_int, acells_bool, acells_str, acells_ptr, acells_sl, acells_nilsl, acells_nilptr, acells_iface, acells_niliface, aptr_ptr, anil_ptr, aextract_0, aextract_1, aextract_2, alenS_sl, alenS_nil, alenOf_sl, alenOf_nil, apartOf_agg, apart_t, apart_f, astore_ptr, hset_at0, hset_at, hs_same, hs_ne, len_hset, List.set_cons_zero, List.set_cons_succ, set_app, set_app0, aload_ptr, splice_eq, List.drop_nil, List.append_nil, isCell_int, isCell_bool, isCell_str, isCell_ptr, isCell_sl, isCell_nilsl, isCell_nilptr, isCell_iface, isCell_niliface, List.all_cons, List.all_nil, Bool.and_self, hget_at0, hget_at, len_app, List.length_cons, List.length_nil, get_app, get_app0, List.getElem?_cons_zero, List.getElem?_cons_succ, join_some, List.append_assoc, List.cons_append, List.nil_append, Nat.zero_add, Nat.add_zero, Nat.mul_one, chkRd_eq, chkAl_blk, if_true, if_false, Bool.false_eq_true, List.drop_succ_cons, List.drop_zero, List.take_succ_cons, List.take_zero, Bool.and_true, Bool.true_and, decide_true, decide_false, wrap64_id, aixG_eq, Nat.reduceAdd, Nat.reduceSub, Nat.reduceMul, Nat.reduceLeDiff, Nat.reduceLT, Int.reduceAdd, Int.reduceSub, Int.reduceMul, Int.reduceNeg, Int.reduceLT, Int.reduceLE, Int.reduceGT, Int.reduceGE, Int.reduceToNat, ↓reduceIte, and_self, true_and, and_true, pl, pt, eb, Nat.le_refl]
    refine Post.val (a := [a.part].flatMap Part.cells) (Sl.src (.inr ⟨_, 0, rfl, false, a.part.cells, ?_, by simp [Part.cells], by simp [Part.cells]⟩) Part.len) ?_
    · rw [hget_at, get_app]; rfl
    have o2 : Ow h0.length (h0 ++ (g ++ [some (.cells false [.int .u8 a.a, .int .u8 a.b, .int .u8 a.c, .int .u8 a.d]), some (.cells false a.part.cells), some (.cells false a.part.cells)])) 9 Part.cells ((fs.take i).map Four.part) x := by rw [← List.append_assoc]; exact ow.app _
    obtain ⟨z, t', ea, oz⟩ := aapp_ow (by' := 48) (l2 := [a.part]) Part.len Part.isc o2 (by simp; omega)
    have l1 : [a.part].length = 1 := rfl
    rw [l1] at ea
    simp (dsimp := false) (implicitDefEqProofs := false) (disch := omega) only [gv_some, gr_some, gI_int, gB_bool, gS_str, gc_t, gc_f, gi_t, gi_f, gN_eq, gf_t, Option.bind_some, Option.bind_none, Option.map_some, acells_agg, acells_int, acells_bool, acells_str, acells_ptr, acells_sl, acells_nilsl, acells_nilptr, acells_iface, acells_niliface, aptr_ptr, anil_ptr, aextract_0, aextract_1, aextract_2, alenS_sl, alenS_nil, alenOf_sl, alenOf_nil, apartOf_agg, apart_t, apart_f, astore_ptr, hset_at0, hset_at, hs_same, hs_ne, len_hset, List.set_cons_zero, List.set_cons_succ, set_app, set_app0, aload_ptr, splice_eq, List.drop_nil, List.append_nil, isCell_int, isCell_bool, isCell_str, isCell_ptr, isCell_sl, isCell_nilsl, isCell_nilptr, isCell_iface, isCell_niliface, List.all_cons, List.all_nil, Bool.and_self, hget_at0, hget_at, len_app, List.length_cons, List.length_nil, get_app, get_app0, List.getElem?_cons_zero, List.getElem?_cons_succ, join_some, List.append_assoc, List.cons_append, List.nil_append, Nat.zero_add, Nat.add_zero, Nat.mul_one, chkRd_eq, chkAl_blk, if_true, if_false, Bool.false_eq_true, List.drop_succ_cons, List.drop_zero, List.take_succ_cons, List.take_zero, Bool.and_true, Bool.true_and, decide_true, decide_false, wrap64_id, aixG_eq, Nat.reduceAdd, Nat.reduceSub, Nat.reduceMul, Nat.reduceLeDiff, Nat.reduceLT, Int.reduceAdd, Int.reduceSub, Int.reduceMul, Int.reduceNeg, Int.reduceLT, Int.reduceLE, Int.reduceGT, Int.reduceGE, Int.reduceToNat, ↓reduceIte, and_self, true_and, and_true, ea]
    rw [J3_12_eq, wsucc (by omega)]
    refine ih (i + 1) z t' hs' (by omega) ?_
    have : (fs.take (i + 1)).map Four.part = (fs.take i).map Four.part ++ [a.part] := by rw [List.take_succ_eq_append_getElem hk, ha, List.map_append]; rfl
    rw [this]
    exact oz
end
theorem healthReports : LawTrue Try.prog Nt 9 3 [3, 22, 23] := by
  rintro h xs ⟨x, r, rfl, hx, x2, r2, rfl, hx2, x3, r3, rfl, hx3, hr⟩
  cases hr
  obtain ⟨node, rfl, _⟩ := argvInt (f := 8) hx
  obtain ⟨fs, s0, _⟩ := argvFours hx2
  obtain ⟨acts, s1, hr, _⟩ := argvActs hx3
  have main : Post (acall Try.prog Nt 3 [.int .i64 node, x2, x3] h) fun v _ => v = .bool true := by
    rw [E3]
    refine Post.bind (c_awake h) ?_
    rintro v h1 ⟨rfl, g, rfl⟩
    simp (dsimp := false) (implicitDefEqProofs := false) (disch := omega) only [gv_some, gr_some, gI_int, gB_bool, gS_str, gc_t, gc_f, gi_t, gi_f, gN_eq, gf_t, Option.bind_some, Option.bind_none, Option.map_some, acells_agg, acells_int, acells_bool, acells_str, acells_ptr, acells_sl, acells_nilsl, acells_nilptr, acells_iface, acells_niliface, aptr_ptr, anil_ptr, aextract_0, aextract_1, aextract_2, alenS_sl, alenS_nil, alenOf_sl, alenOf_nil, apartOf_agg, apart_t, apart_f, astore_ptr, hset_at0, hset_at, hs_same, hs_ne, len_hset, List.set_cons_zero, List.set_cons_succ, set_app, set_app0, aload_ptr, splice_eq, List.drop_nil, List.append_nil, isCell_int, isCell_bool, isCell_str, isCell_ptr, isCell_sl, isCell_nilsl, isCell_nilptr, isCell_iface, isCell_niliface, List.all_cons, List.all_nil, Bool.and_self, hget_at0, hget_at, len_app, List.length_cons, List.length_nil, get_app, get_app0, List.getElem?_cons_zero, List.getElem?_cons_succ, join_some, List.append_assoc, List.cons_append, List.nil_append, Nat.zero_add, Nat.add_zero, Nat.mul_one, chkRd_eq, chkAl_blk, if_true, if_false, Bool.false_eq_true, List.drop_succ_cons, List.drop_zero, List.take_succ_cons, List.take_zero, Bool.and_true, Bool.true_and, decide_true, decide_false, wrap64_id, aixG_eq, Nat.reduceAdd, Nat.reduceSub, Nat.reduceMul, Nat.reduceLeDiff, Nat.reduceLT, Int.reduceAdd, Int.reduceSub, Int.reduceMul, Int.reduceNeg, Int.reduceLT, Int.reduceLE, Int.reduceGT, Int.reduceGE, Int.reduceToNat, ↓reduceIte, and_self, true_and, and_true, Bool.not_true, J3_1_eq, (s0.app g).len]
    refine Post.cdd (fun c => Post.done rfl) fun c => ?_
    rw [J3_2_eq]
    simp (dsimp := false) (implicitDefEqProofs := false) (disch := omega) only [gv_some, gr_some, gI_int, gB_bool, gS_str, gc_t, gc_f, gi_t, gi_f, gN_eq, gf_t, Option.bind_some, Option.bind_none, Option.map_some, acells_agg, acells_int, acells_bool, acells_str, acells_ptr, acells_sl, acells_nilsl, acells_nilptr, acells_iface, acells_niliface, aptr_ptr, anil_ptr, aextract_0, aextract_1, aextract_2, alenS_sl, alenS_nil, alenOf_sl, alenOf_nil, apartOf_agg, apart_t, apart_f, astore_ptr, hset_at0, hset_at, hs_same, hs_ne, len_hset, List.set_cons_zero, List.set_cons_succ, set_app, set_app0, aload_ptr, splice_eq, List.drop_nil, List.append_nil, isCell_int, isCell_bool, isCell_str, isCell_ptr, isCell_sl, isCell_nilsl, isCell_nilptr, isCell_iface, isCell_niliface, List.all_cons, List.all_nil, Bool.and_self, hget_at0, hget_at, len_app, List.length_cons, List.length_nil, get_app, get_app0, List.getElem?_cons_zero, List.getElem?_cons_succ, join_some, List.append_assoc, List.cons_append, List.nil_append, Nat.zero_add, Nat.add_zero, Nat.mul_one, chkRd_eq, chkAl_blk, if_true, if_false, Bool.false_eq_true, List.drop_succ_cons, List.drop_zero, List.take_succ_cons, List.take_zero, Bool.and_true, Bool.true_and, decide_true, decide_false, wrap64_id, aixG_eq, Nat.reduceAdd, Nat.reduceSub, Nat.reduceMul, Nat.reduceLeDiff, Nat.reduceLT, Int.reduceAdd, Int.reduceSub, Int.reduceMul, Int.reduceNeg, Int.reduceLT, Int.reduceLE, Int.reduceGT, Int.reduceGE, Int.reduceToNat, ↓reduceIte, and_self, true_and, and_true, (s0.app g).len]
    exact repsParts h acts x3 s1 hr _ fs x2 s0 (by omega) fs 0 .nilsl g rfl (by omega) Ow.nil
  obtain ⟨v, g, e, rfl⟩ := main
  exact ⟨_, e⟩
end Go.Ab
end
section
/-
  errors.Is on the machine.
-/
namespace Go.Proofs.Ytdkfchbonlffeaa
open Go.RowKit Go.Extern.Stop Go.Stop Go.Extern
theorem Sy.isTypeOf (v : Value) (w : World) : (Extern.ReflectliteType.typeOf #[.iface 71 v]).run Try.prog w = .ok (.iface 97 (.agg #[.pointer (some ⟨0, 71, none⟩)])) w := by kernel_rfl
abbrev Sy.cmp : TypeId → Sem Value := fun t => do Extern.Rtype.noPackHeld "Comparable" t; pure (.bool (← typeInfo t).comparable)
theorem Sy.isComparable (w : World) : (Extern.ReflectliteType.method Sy.cmp #[.agg #[.pointer (some ⟨0, 71, none⟩)]]).run Try.prog w = .ok (.bool true) w := by kernel_rfl
theorem Sy.isMethodComparable (v : Value) (w : World) : (Go.method 241 97 v "Comparable").run Try.prog w = .ok (58, v) w := by kernel_rfl
set_option maxRecDepth 100000 in
set_option maxHeartbeats 1000000 in
theorem is_calls (t : TypeId) (y z : Value) (w : World) (R : Ending → World → Prop) (hc : Calls Try.prog 35 #[.iface t y, .iface 71 z, .bool true] w R) (hR : ∀ e w', R e w' → ∃ v, e = .returned v) :
    Calls Try.prog 32 #[.iface t y, .iface 71 z] w R := by
  have h8 := @run_callFunc_extern Try.prog 34 _ Extern.ReflectliteType.typeOf Try.func34 (by kernel_rfl) (by kernel_rfl) (by kernel_rfl) (by kernel_rfl)
  have h32 := @run_callFunc_extern Try.prog 58 _ (Extern.ReflectliteType.method Sy.cmp) Try.func58 (by kernel_rfl) (by kernel_rfl) (by kernel_rfl) (by kernel_rfl)
  have tT := Sy.isTypeOf
  have cT := Sy.isComparable
  have mR := Sy.isMethodComparable
  go_enter Try.func32, Try.ntmps32
  go_wp2_with (refine hc.mono ?_; rintro e w' hr; obtain ⟨v, rfl⟩ := hR e w' hr)
  exact hr
end Go.Proofs.Ytdkfchbonlffeaa
namespace Go.Ab
open Go.Proofs
theorem extSim : ExtSim Try.prog Nt := by
  intro f x hx B call hcall hlen xs h r hr ρ w vs R1 hv hf
  have hx' : theExt f = some x := hx
  unfold theExt at hx'
  split at hx'
  · rename_i e
    subst e
    cases hx'
    obtain ⟨t, v, u, rfl, hr⟩ := isErr_some hr
    obtain ⟨v1, vs1, rfl, r1, hv⟩ := VRels.cons_iff.1 hv
    obtain ⟨v2, vs2, rfl, r2, hv⟩ := VRels.cons_iff.1 hv
    rw [VRels.nil_iff] at hv
    subst hv
    simp only [VRel] at r1 r2
    obtain ⟨y, rfl, q1⟩ := r1
    obtain ⟨z, rfl, q2⟩ := r2
    refine Ytdkfchbonlffeaa.is_calls t y z w _ (hcall _ _ _ _ hr ρ w [.iface t y, .iface 71 z, .bool true] R1 (VRels.cons (by simp only [VRel]; exact ⟨y, rfl, q1⟩) (VRels.cons (by simp only [VRel]; exact ⟨z, rfl, q2⟩) (VRels.cons (by simp only [VRel]) (VRels.nil_iff.2 rfl)))) hf) ?_
    rintro e w' ⟨ρ', u, e1, _⟩
    exact ⟨u, e1⟩
  · cases hx'
end Go.Ab
end
