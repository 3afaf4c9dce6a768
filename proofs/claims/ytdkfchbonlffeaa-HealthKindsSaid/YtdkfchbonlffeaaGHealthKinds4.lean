/-
  Functions of the program as equations, and their contracts.
-/
import Derived.Test.YtdkfchbonlffeaaGa1
import Derived.Test.YtdkfchbonlffeaaGa2
import Derived.Test.YtdkfchbonlffeaaGa3
import Derived.Test.YtdkfchbonlffeaaGHealthKinds1
import Derived.Test.YtdkfchbonlffeaaGHealthKinds2
import Derived.Test.YtdkfchbonlffeaaGHealthKinds3
set_option linter.all false
section
/-
  HealthReports.
-/
namespace Go.Ab
open Go.Proofs

/-- SameRecords. -/
theorem sameLoop (h : AHeap) (l k : List Rcd) (x y : AV) (hx : Sl h 5 Rcd.cells l x) (hy : Sl h 5 Rcd.cells k y) (hl : l.length = k.length) (hn : l.length ≤ 100000) : ∀ (s t : List Rcd) (i : Nat), l.drop i = s → k.drop i = t → J13_2 x y (i : Int) h = some (.bool (decide (s = t)), h) := by
  intro s
  induction s with
  | nil =>
    intro t i hs ht
    have := drop_nil hs
    have : t = [] := by rw [← ht]; exact List.drop_eq_nil_of_le (by omega)
    subst this
    rw [J13_2_eq]
    simp (dsimp := false) (implicitDefEqProofs := false) (disch := omega) only [gv_some, gr_some, gI_int, gB_bool, gS_str, gc_t, gc_f, gi_t, gi_f, gN_eq, gf_t, Option.bind_some, Option.bind_none, Option.map_some, acells_agg, acells_int, acells_bool, acells_str, acells_ptr, acells_sl, acells_nilsl, acells_nilptr, acells_iface, acells_niliface, aptr_ptr, anil_ptr, aextract_0, aextract_1, aextract_2, alenS_sl, alenS_nil, alenOf_sl, alenOf_nil, apartOf_agg, apart_t, apart_f, astore_ptr, hset_at0, hset_at, hs_same, hs_ne, len_hset, List.set_cons_zero, List.set_cons_succ, set_app, set_app0, aload_ptr, splice_eq, List.drop_nil, List.append_nil, isCell_int, isCell_bool, isCell_str, isCell_ptr, isCell_sl, isCell_nilsl, isCell_nilptr, isCell_iface, isCell_niliface, List.all_cons, List.all_nil, Bool.and_self, hget_at0, hget_at, len_app, List.length_cons, List.length_nil, get_app, get_app0, List.getElem?_cons_zero, List.getElem?_cons_succ, join_some, List.append_assoc, List.cons_append, List.nil_append, Nat.zero_add, Nat.add_zero, Nat.mul_one, chkRd_eq, chkAl_blk, if_true, if_false, Bool.false_eq_true, List.drop_succ_cons, List.drop_zero, List.take_succ_cons, List.take_zero, Bool.and_true, Bool.true_and, decide_true, decide_false, wrap64_id, aixG_eq, Nat.reduceAdd, Nat.reduceSub, Nat.reduceMul, Nat.reduceLeDiff, Nat.reduceLT, Int.reduceAdd, Int.reduceSub, Int.reduceMul, Int.reduceNeg, Int.reduceLT, Int.reduceLE, Int.reduceGT, Int.reduceGE, Int.reduceToNat, ↓reduceIte, and_self, true_and, and_true, hx.len]
    rw [decide_eq_false (by omega)]
    simp (dsimp := false) (implicitDefEqProofs := false) (disch := omega) only [gv_some, gr_some, gI_int, gB_bool, gS_str, gc_t, gc_f, gi_t, gi_f, gN_eq, gf_t, Option.bind_some, Option.bind_none, Option.map_some, acells_agg, acells_int, acells_bool, acells_str, acells_ptr, acells_sl, acells_nilsl, acells_nilptr, acells_iface, acells_niliface, aptr_ptr, anil_ptr, aextract_0, aextract_1, aextract_2, alenS_sl, alenS_nil, alenOf_sl, alenOf_nil, apartOf_agg, apart_t, apart_f, astore_ptr, hset_at0, hset_at, hs_same, hs_ne, len_hset, List.set_cons_zero, List.set_cons_succ, set_app, set_app0, aload_ptr, splice_eq, List.drop_nil, List.append_nil, isCell_int, isCell_bool, isCell_str, isCell_ptr, isCell_sl, isCell_nilsl, isCell_nilptr, isCell_iface, isCell_niliface, List.all_cons, List.all_nil, Bool.and_self, hget_at0, hget_at, len_app, List.length_cons, List.length_nil, get_app, get_app0, List.getElem?_cons_zero, List.getElem?_cons_succ, join_some, List.append_assoc, List.cons_append, List.nil_append, Nat.zero_add, Nat.add_zero, Nat.mul_one, chkRd_eq, chkAl_blk, if_true, if_false, Bool.false_eq_true, List.drop_succ_cons, List.drop_zero, List.take_succ_cons, List.take_zero, Bool.and_true, Bool.true_and, decide_true, decide_false, wrap64_id, aixG_eq, Nat.reduceAdd, Nat.reduceSub, Nat.reduceMul, Nat.reduceLeDiff, Nat.reduceLT, Int.reduceAdd, Int.reduceSub, Int.reduceMul, Int.reduceNeg, Int.reduceLT, Int.reduceLE, Int.reduceGT, Int.reduceGE, Int.reduceToNat, ↓reduceIte, and_self, true_and, and_true, J13_4_eq]
  | cons a s ih =>
    intro t i hs ht
    obtain ⟨hk, ha, hs'⟩ := drop_cons hs
    have hk2 : i < k.length := by omega
    rw [List.drop_eq_getElem_cons hk2] at ht
    subst ht
    obtain ⟨eb, eo, ix, ea⟩ := hx.elem Rcd.len i hk
    obtain ⟨fb1, fo, fx, fa⟩ := hy.elem Rcd.len i hk2
    rw [ha] at ea
    have l1 := ea.loadN 5 rfl
    have l2 := fa.loadN 5 rfl
    rw [J13_2_eq]
    simp (dsimp := false) (implicitDefEqProofs := false) (disch := omega) only [gv_some, gr_some, gI_int, gB_bool, gS_str, gc_t, gc_f, gi_t, gi_f, gN_eq, gf_t, Option.bind_some, Option.bind_none, Option.map_some, acells_agg, acells_int, acells_bool, acells_str, acells_ptr, acells_sl, acells_nilsl, acells_nilptr, acells_iface, acells_niliface, aptr_ptr, anil_ptr, aextract_0, aextract_1, aextract_2, alenS_sl, alenS_nil, alenOf_sl, alenOf_nil, apartOf_agg, apart_t, apart_f, astore_ptr, hset_at0, hset_at, hs_same, hs_ne, len_hset, List.set_cons_zero, List.set_cons_succ, set_app, set_app0, aload_ptr, splice_eq, List.drop_nil, List.append_nil, isCell_int, isCell_bool, isCell_str, isCell_ptr, isCell_sl, isCell_nilsl, isCell_nilptr, isCell_iface, isCell_niliface, List.all_cons, List.all_nil, Bool.and_self, hget_at0, hget_at, len_app, List.length_cons, List.length_nil, get_app, get_app0, List.getElem?_cons_zero, List.getElem?_cons_succ, join_some, List.append_assoc, List.cons_append, List.nil_append, Nat.zero_add, Nat.add_zero, Nat.mul_one, chkRd_eq, chkAl_blk, if_true, if_false, Bool.false_eq_true, List.drop_succ_cons, List.drop_zero, List.take_succ_cons, List.take_zero, Bool.and_true, Bool.true_and, decide_true, decide_false, wrap64_id, aixG_eq, Nat.reduceAdd, Nat.reduceSub, Nat.reduceMul, Nat.reduceLeDiff, Nat.reduceLT, Int.reduceAdd, Int.reduceSub, Int.reduceMul, Int.reduceNeg, Int.reduceLT, Int.reduceLE, Int.reduceGT, Int.reduceGE, Int.reduceToNat, ↓reduceIte, and_self, true_and, and_true, hx.len]
    rw [decide_eq_true (by omega)]
    simp (dsimp := false) (implicitDefEqProofs := false) (disch := omega) only [gv_some, gr_some, gI_int, gB_bool, gS_str, gc_t, gc_f, gi_t, gi_f, gN_eq, gf_t, Option.bind_some, Option.bind_none, Option.map_some, acells_agg, acells_int, acells_bool, acells_str, acells_ptr, acells_sl, acells_nilsl, acells_nilptr, acells_iface, acells_niliface, aptr_ptr, anil_ptr, aextract_0, aextract_1, aextract_2, alenS_sl, alenS_nil, alenOf_sl, alenOf_nil, apartOf_agg, apart_t, apart_f, astore_ptr, hset_at0, hset_at, hs_same, hs_ne, len_hset, List.set_cons_zero, List.set_cons_succ, set_app, set_app0, splice_eq, List.drop_nil, List.append_nil, isCell_int, isCell_bool, isCell_str, isCell_ptr, isCell_sl, isCell_nilsl, isCell_nilptr, isCell_iface, isCell_niliface, List.all_cons, List.all_nil, Bool.and_self, hget_at0, hget_at, len_app, List.length_cons, List.length_nil, get_app, get_app0, List.getElem?_cons_zero, List.getElem?_cons_succ, join_some, List.append_assoc, List.cons_append, List.nil_append, Nat.zero_add, Nat.add_zero, Nat.mul_one, chkRd_eq, chkAl_blk, if_true, if_false, Bool.false_eq_true, List.drop_succ_cons, List.drop_zero, List.take_succ_cons, List.take_zero, Bool.and_true, Bool.true_and, decide_true, decide_false, wrap64_id, aixG_eq, Nat.reduceAdd, Nat.reduceSub, Nat.reduceMul, Nat.reduceLeDiff, Nat.reduceLT, Int.reduceAdd, Int.reduceSub, Int.reduceMul, Int.reduceNeg, Int.reduceLT, Int.reduceLE, Int.reduceGT, Int.reduceGE, Int.reduceToNat, ↓reduceIte, and_self, true_and, and_true, J13_3_eq, ix, fx, l1, l2, ne_rcd]
    by_cases he : a = k[i]
    · have : decide (a ≠ k[i]) = false := by simp [he]
      rw [this]
      simp (dsimp := false) (implicitDefEqProofs := false) (disch := omega) only [gv_some, gr_some, gI_int, gB_bool, gS_str, gc_t, gc_f, gi_t, gi_f, gN_eq, gf_t, Option.bind_some, Option.bind_none, Option.map_some, acells_agg, acells_int, acells_bool, acells_str, acells_ptr, acells_sl, acells_nilsl, acells_nilptr, acells_iface, acells_niliface, aptr_ptr, anil_ptr, aextract_0, aextract_1, aextract_2, alenS_sl, alenS_nil, alenOf_sl, alenOf_nil, apartOf_agg, apart_t, apart_f, astore_ptr, hset_at0, hset_at, hs_same, hs_ne, len_hset, List.set_cons_zero, List.set_cons_succ, set_app, set_app0, aload_ptr, splice_eq, List.drop_nil, List.append_nil, isCell_int, isCell_bool, isCell_str, isCell_ptr, isCell_sl, isCell_nilsl, isCell_nilptr, isCell_iface, isCell_niliface, List.all_cons, List.all_nil, Bool.and_self, hget_at0, hget_at, len_app, List.length_cons, List.length_nil, get_app, get_app0, List.getElem?_cons_zero, List.getElem?_cons_succ, join_some, List.append_assoc, List.cons_append, List.nil_append, Nat.zero_add, Nat.add_zero, Nat.mul_one, chkRd_eq, chkAl_blk, if_true, if_false, Bool.false_eq_true, List.drop_succ_cons, List.drop_zero, List.take_succ_cons, List.take_zero, Bool.and_true, Bool.true_and, decide_true, decide_false, wrap64_id, aixG_eq, Nat.reduceAdd, Nat.reduceSub, Nat.reduceMul, Nat.reduceLeDiff, Nat.reduceLT, Int.reduceAdd, Int.reduceSub, Int.reduceMul, Int.reduceNeg, Int.reduceLT, Int.reduceLE, Int.reduceGT, Int.reduceGE, Int.reduceToNat, ↓reduceIte, and_self, true_and, and_true]
      rw [J13_5_eq, wsucc (by omega), ih _ (i + 1) hs' rfl]
      have key : ∀ (d : Rcd) (u : List Rcd), a = d → decide (s = u) = decide (a :: s = d :: u) := by rintro d u rfl; simp
      rw [key _ _ he]
    · have : decide (a ≠ k[i]) = true := by simp [he]
      rw [this]
      simp (dsimp := false) (implicitDefEqProofs := false) (disch := omega) only [gv_some, gr_some, gI_int, gB_bool, gS_str, gc_t, gc_f, gi_t, gi_f, gN_eq, gf_t, Option.bind_some, Option.bind_none, Option.map_some, acells_agg, acells_int, acells_bool, acells_str, acells_ptr, acells_sl, acells_nilsl, acells_nilptr, acells_iface, acells_niliface, aptr_ptr, anil_ptr, aextract_0, aextract_1, aextract_2, alenS_sl, alenS_nil, alenOf_sl, alenOf_nil, apartOf_agg, apart_t, apart_f, astore_ptr, hset_at0, hset_at, hs_same, hs_ne, len_hset, List.set_cons_zero, List.set_cons_succ, set_app, set_app0, aload_ptr, splice_eq, List.drop_nil, List.append_nil, isCell_int, isCell_bool, isCell_str, isCell_ptr, isCell_sl, isCell_nilsl, isCell_nilptr, isCell_iface, isCell_niliface, List.all_cons, List.all_nil, Bool.and_self, hget_at0, hget_at, len_app, List.length_cons, List.length_nil, get_app, get_app0, List.getElem?_cons_zero, List.getElem?_cons_succ, join_some, List.append_assoc, List.cons_append, List.nil_append, Nat.zero_add, Nat.add_zero, Nat.mul_one, chkRd_eq, chkAl_blk, if_true, if_false, Bool.false_eq_true, List.drop_succ_cons, List.drop_zero, List.take_succ_cons, List.take_zero, Bool.and_true, Bool.true_and, decide_true, decide_false, wrap64_id, aixG_eq, Nat.reduceAdd, Nat.reduceSub, Nat.reduceMul, Nat.reduceLeDiff, Nat.reduceLT, Int.reduceAdd, Int.reduceSub, Int.reduceMul, Int.reduceNeg, Int.reduceLT, Int.reduceLE, Int.reduceGT, Int.reduceGE, Int.reduceToNat, ↓reduceIte, and_self, true_and, and_true]
      have key : ∀ (d : Rcd) (u : List Rcd), a ≠ d → decide (a :: s = d :: u) = false := by intro d u h; simp [h]
      rw [key _ _ he]
theorem c_same (h : AHeap) (l k : List Rcd) (x y : AV) (hx : Sl h 5 Rcd.cells l x) (hy : Sl h 5 Rcd.cells k y) (hn : l.length ≤ 100000) : acall Try.prog Nt 13 [x, y] h = some (.bool (decide (l = k)), h) := by
  rw [E13]
  simp (dsimp := false) (implicitDefEqProofs := false) (disch := omega) only [gv_some, gr_some, gI_int, gB_bool, gS_str, gc_t, gc_f, gi_t, gi_f, gN_eq, gf_t, Option.bind_some, Option.bind_none, Option.map_some, acells_agg, acells_int, acells_bool, acells_str, acells_ptr, acells_sl, acells_nilsl, acells_nilptr, acells_iface, acells_niliface, aptr_ptr, anil_ptr, aextract_0, aextract_1, aextract_2, alenS_sl, alenS_nil, alenOf_sl, alenOf_nil, apartOf_agg, apart_t, apart_f, astore_ptr, hset_at0, hset_at, hs_same, hs_ne, len_hset, List.set_cons_zero, List.set_cons_succ, set_app, set_app0, aload_ptr, splice_eq, List.drop_nil, List.append_nil, isCell_int, isCell_bool, isCell_str, isCell_ptr, isCell_sl, isCell_nilsl, isCell_nilptr, isCell_iface, isCell_niliface, List.all_cons, List.all_nil, Bool.and_self, hget_at0, hget_at, len_app, List.length_cons, List.length_nil, get_app, get_app0, List.getElem?_cons_zero, List.getElem?_cons_succ, join_some, List.append_assoc, List.cons_append, List.nil_append, Nat.zero_add, Nat.add_zero, Nat.mul_one, chkRd_eq, chkAl_blk, if_true, if_false, Bool.false_eq_true, List.drop_succ_cons, List.drop_zero, List.take_succ_cons, List.take_zero, Bool.and_true, Bool.true_and, decide_true, decide_false, wrap64_id, aixG_eq, Nat.reduceAdd, Nat.reduceSub, Nat.reduceMul, Nat.reduceLeDiff, Nat.reduceLT, Int.reduceAdd, Int.reduceSub, Int.reduceMul, Int.reduceNeg, Int.reduceLT, Int.reduceLE, Int.reduceGT, Int.reduceGE, Int.reduceToNat, ↓reduceIte, and_self, true_and, and_true, hx.len, hy.len]
  by_cases hl : l.length = k.length
  · have : ((l.length : Int) != (k.length : Int)) = false := by simp [hl]
    rw [this]
    simp (dsimp := false) (implicitDefEqProofs := false) (disch := omega) only [gv_some, gr_some, gI_int, gB_bool, gS_str, gc_t, gc_f, gi_t, gi_f, gN_eq, gf_t, Option.bind_some, Option.bind_none, Option.map_some, acells_agg, acells_int, acells_bool, acells_str, acells_ptr, acells_sl, acells_nilsl, acells_nilptr, acells_iface, acells_niliface, aptr_ptr, anil_ptr, aextract_0, aextract_1, aextract_2, alenS_sl, alenS_nil, alenOf_sl, alenOf_nil, apartOf_agg, apart_t, apart_f, astore_ptr, hset_at0, hset_at, hs_same, hs_ne, len_hset, List.set_cons_zero, List.set_cons_succ, set_app, set_app0, aload_ptr, splice_eq, List.drop_nil, List.append_nil, isCell_int, isCell_bool, isCell_str, isCell_ptr, isCell_sl, isCell_nilsl, isCell_nilptr, isCell_iface, isCell_niliface, List.all_cons, List.all_nil, Bool.and_self, hget_at0, hget_at, len_app, List.length_cons, List.length_nil, get_app, get_app0, List.getElem?_cons_zero, List.getElem?_cons_succ, join_some, List.append_assoc, List.cons_append, List.nil_append, Nat.zero_add, Nat.add_zero, Nat.mul_one, chkRd_eq, chkAl_blk, if_true, if_false, Bool.false_eq_true, List.drop_succ_cons, List.drop_zero, List.take_succ_cons, List.take_zero, Bool.and_true, Bool.true_and, decide_true, decide_false, wrap64_id, aixG_eq, Nat.reduceAdd, Nat.reduceSub, Nat.reduceMul, Nat.reduceLeDiff, Nat.reduceLT, Int.reduceAdd, Int.reduceSub, Int.reduceMul, Int.reduceNeg, Int.reduceLT, Int.reduceLE, Int.reduceGT, Int.reduceGE, Int.reduceToNat, ↓reduceIte, and_self, true_and, and_true, J13_1_eq]
    exact sameLoop h l k x y hx hy hl hn l k 0 rfl rfl
  · have : ((l.length : Int) != (k.length : Int)) = true := by simp; omega
    rw [this]
    simp (dsimp := false) (implicitDefEqProofs := false) (disch := omega) only [gv_some, gr_some, gI_int, gB_bool, gS_str, gc_t, gc_f, gi_t, gi_f, gN_eq, gf_t, Option.bind_some, Option.bind_none, Option.map_some, acells_agg, acells_int, acells_bool, acells_str, acells_ptr, acells_sl, acells_nilsl, acells_nilptr, acells_iface, acells_niliface, aptr_ptr, anil_ptr, aextract_0, aextract_1, aextract_2, alenS_sl, alenS_nil, alenOf_sl, alenOf_nil, apartOf_agg, apart_t, apart_f, astore_ptr, hset_at0, hset_at, hs_same, hs_ne, len_hset, List.set_cons_zero, List.set_cons_succ, set_app, set_app0, aload_ptr, splice_eq, List.drop_nil, List.append_nil, isCell_int, isCell_bool, isCell_str, isCell_ptr, isCell_sl, isCell_nilsl, isCell_nilptr, isCell_iface, isCell_niliface, List.all_cons, List.all_nil, Bool.and_self, hget_at0, hget_at, len_app, List.length_cons, List.length_nil, get_app, get_app0, List.getElem?_cons_zero, List.getElem?_cons_succ, join_some, List.append_assoc, List.cons_append, List.nil_append, Nat.zero_add, Nat.add_zero, Nat.mul_one, chkRd_eq, chkAl_blk, if_true, if_false, Bool.false_eq_true, List.drop_succ_cons, List.drop_zero, List.take_succ_cons, List.take_zero, Bool.and_true, Bool.true_and, decide_true, decide_false, wrap64_id, aixG_eq, Nat.reduceAdd, Nat.reduceSub, Nat.reduceMul, Nat.reduceLeDiff, Nat.reduceLT, Int.reduceAdd, Int.reduceSub, Int.reduceMul, Int.reduceNeg, Int.reduceLT, Int.reduceLE, Int.reduceGT, Int.reduceGE, Int.reduceToNat, ↓reduceIte, and_self, true_and, and_true]
    have : l ≠ k := fun e => hl (by rw [e])
    simp [this]
/-- Watch. -/
theorem c_watch (node : Int) (parts : List Part) (x : AV) (Fp : List Nat) (h : AHeap) (hx : SlB h 9 Part.cells parts x Fp) (hn : parts.length ≤ 1000000) :
    Ev (acall Try.prog Nt 12 [.int .i64 node, x] h) h fun v h' => ∃ b F, v = .ptr b 0 ∧ MonAt .i64 h' b (Mon.new node parts) F ∧ ∀ y ∈ F, h.length ≤ y ∨ y ∈ Fp := by
  rw [E12]
  have m2 := fun H => amkS_1 8 (.int .i64 0) parts.length H (by omega) (by omega)
  have iy := hx.isc
  simp (dsimp := false) (implicitDefEqProofs := false) (disch := omega) only [gv_some, gr_some, gI_int, gB_bool, gS_str, gc_t, gc_f, gi_t, gi_f, gN_eq, gf_t, Option.bind_some, Option.bind_none, Option.map_some, acells_agg, acells_int, acells_bool, acells_str, acells_ptr, acells_sl, acells_nilsl, acells_nilptr, acells_iface, acells_niliface, aptr_ptr, anil_ptr, aextract_0, aextract_1, aextract_2, alenS_sl, alenS_nil, alenOf_sl, alenOf_nil, apartOf_agg, apart_t, apart_f, astore_ptr, hset_at0, hset_at, hs_same, hs_ne, len_hset, List.set_cons_zero, List.set_cons_succ, set_app, set_app0, aload_ptr, splice_eq, List.drop_nil, List.append_nil, isCell_int, isCell_bool, isCell_str, isCell_ptr, isCell_sl, isCell_nilsl, isCell_nilptr, isCell_iface, isCell_niliface, List.all_cons, List.all_nil, Bool.and_self, hget_at0, hget_at, len_app, List.length_cons, List.length_nil, get_app, get_app0, List.getElem?_cons_zero, List.getElem?_cons_succ, join_some, List.append_assoc, List.cons_append, List.nil_append, Nat.zero_add, Nat.add_zero, Nat.mul_one, chkRd_eq, chkAl_blk, if_true, if_false, Bool.false_eq_true, List.drop_succ_cons, List.drop_zero, List.take_succ_cons, List.take_zero, Bool.and_true, Bool.true_and, decide_true, decide_false, wrap64_id, aixG_eq, Nat.reduceAdd, Nat.reduceSub, Nat.reduceMul, Nat.reduceLeDiff, Nat.reduceLT, Int.reduceAdd, Int.reduceSub, Int.reduceMul, Int.reduceNeg, Int.reduceLT, Int.reduceLE, Int.reduceGT, Int.reduceGE, Int.reduceToNat, ↓reduceIte, and_self, true_and, and_true, hx.sl.len, m2]
  have ef : afillS [(0, 1), (1, 1), (2, 1), (3, 1), (4, 1)] [.int .i64 0, .nilsl, .nilsl, .nilsl, .nilsl] [(0, .int .i64 node), (1, x), (2, .sl h.length 0 parts.length 1), (3, .sl (h.length + 1) 0 parts.length 1)] = some (.agg [.int .i64 node, x, .sl h.length 0 parts.length 1, .sl (h.length + 1) 0 parts.length 1, .nilsl]) := by
    have := acells_isc iy
    simp [afillS, afill, this, splice, acells_int, acells_sl]
  simp (dsimp := false) (implicitDefEqProofs := false) (disch := omega) only [gv_some, gr_some, gI_int, gB_bool, gS_str, gc_t, gc_f, gi_t, gi_f, gN_eq, gf_t, Option.bind_some, Option.bind_none, Option.map_some, acells_agg, acells_int, acells_bool, acells_str, acells_ptr, acells_sl, acells_nilsl, acells_nilptr, acells_iface, acells_niliface, aptr_ptr, anil_ptr, aextract_0, aextract_1, aextract_2, alenS_sl, alenS_nil, alenOf_sl, alenOf_nil, apartOf_agg, apart_t, apart_f, astore_ptr, hset_at0, hset_at, hs_same, hs_ne, len_hset, List.set_cons_zero, List.set_cons_succ, set_app, set_app0, aload_ptr, splice_eq, List.drop_nil, List.append_nil, isCell_int, isCell_bool, isCell_str, isCell_ptr, isCell_sl, isCell_nilsl, isCell_nilptr, isCell_iface, isCell_niliface, List.all_cons, List.all_nil, Bool.and_self, hget_at0, hget_at, len_app, List.length_cons, List.length_nil, get_app, get_app0, List.getElem?_cons_zero, List.getElem?_cons_succ, join_some, List.append_assoc, List.cons_append, List.nil_append, Nat.zero_add, Nat.add_zero, Nat.mul_one, chkRd_eq, chkAl_blk, if_true, if_false, Bool.false_eq_true, List.drop_succ_cons, List.drop_zero, List.take_succ_cons, List.take_zero, Bool.and_true, Bool.true_and, decide_true, decide_false, wrap64_id, aixG_eq, Nat.reduceAdd, Nat.reduceSub, Nat.reduceMul, Nat.reduceLeDiff, Nat.reduceLT, Int.reduceAdd, Int.reduceSub, Int.reduceMul, Int.reduceNeg, Int.reduceLT, Int.reduceLE, Int.reduceGT, Int.reduceGE, Int.reduceToNat, ↓reduceIte, and_self, true_and, and_true, ef]
  have lt := hx.lt
  refine Ev.done ⟨h.length + 2, (h.length + 2) :: h.length :: (h.length + 1) :: ([] ++ Fp), rfl, ⟨x, .nilsl, h.length, h.length + 1, Fp, [], ?_, hx.keep fun y hy => hget_old _ (lt y hy), ?_, ?_, .inl ⟨rfl, rfl, rfl⟩, by simp [Mon.new], by simp [Mon.new], by simp [Mon.new], rfl, by omega, by omega, by omega, by simp, by simp, by simp, fun hy => by have := lt _ hy; omega, fun hy => by have := lt _ hy; omega, fun hy => by have := lt _ hy; omega, by simp⟩, ?_⟩
  · rw [hget_at]; rfl
  · rw [hget_at0, Mon.new, ← ints_rep]; rfl
  · rw [hget_at, Mon.new, ← ints_rep]; rfl
  · intro y hy
    simp only [List.nil_append, List.mem_cons] at hy
    rcases hy with rfl | rfl | rfl | hy
    · left; omega
    · left; omega
    · left; omega
    · exact .inr hy

/-! Arguments: actions by kinds, and acts. -/
structure Four where
  a : Int
  b : Int
  c : Int
  d : Int
def Four.cells (r : Four) : List AV := [.int .u8 r.a, .int .u8 r.b, .int .u8 r.c, .int .u8 r.d]
theorem Four.len (r : Four) : r.cells.length = 4 := rfl
def Four.part (r : Four) : Part := ⟨0, 0, 0, 0, 0, r.a.tmod 4, r.b.tmod 4, r.c.tmod 4, r.d.tmod 4⟩
structure HAct where
  sl : Bool
  round : Int
  part : Int
  kind : Int
def HAct.cells (a : HAct) : List AV := [.bool a.sl, .int .u32 a.round, .int .i64 a.part, .int .i64 a.kind]
theorem HAct.len (a : HAct) : a.cells.length = 4 := rfl
theorem argvFours {h : AHeap} {f : Nat} {x : AV} (q : ArgV Try.prog h (f + 3) 22 x) : ∃ l : List Four, Sl h 4 Four.cells l x ∧ l.length ≤ maxLen := by
  unfold ArgV at q
  have hu : ∃ u, (Try.prog).underlying 22 = some (.slice u) := ⟨27, by kernel_rfl⟩
  obtain ⟨u, hu⟩ := hu
  rw [hu] at q
  obtain ⟨y, l, e, s, hr, hl⟩ := q.list (u := 27) (sz := 4) (enc := Four.cells) (R := fun _ => True) (by kernel_rfl) (by kernel_rfl) (fun ws q => by
    have q6 := q.array (n := 4) (u := 5) (by kernel_rfl)
    obtain ⟨_, _, rfl, p1, q⟩ := catQ_cons q6
    obtain ⟨_, _, rfl, p2, q⟩ := catQ_cons q
    obtain ⟨_, _, rfl, p3, q⟩ := catQ_cons q
    obtain ⟨_, _, rfl, p4, q⟩ := catQ_cons q
    cases catQ_nil q
    obtain ⟨m1, rfl, _⟩ := p1.int (k := .u8) (by kernel_rfl)
    obtain ⟨m2, rfl, _⟩ := p2.int (k := .u8) (by kernel_rfl)
    obtain ⟨m3, rfl, _⟩ := p3.int (k := .u8) (by kernel_rfl)
    obtain ⟨m4, rfl, _⟩ := p4.int (k := .u8) (by kernel_rfl)
    exact ⟨⟨m1, m2, m3, m4⟩, rfl, trivial⟩)
  cases e
  exact ⟨l, s, hl⟩
theorem argvActs {h : AHeap} {f : Nat} {x : AV} (q : ArgV Try.prog h (f + 4) 23 x) : ∃ l : List HAct, Sl h 4 HAct.cells l x ∧ (∀ a ∈ l, 0 ≤ a.round) ∧ l.length ≤ maxLen := by
  unfold ArgV at q
  have hu : ∃ u, (Try.prog).underlying 23 = some (.slice u) := ⟨38, by kernel_rfl⟩
  obtain ⟨u, hu⟩ := hu
  rw [hu] at q
  obtain ⟨y, l, e, s, hr, hl⟩ := q.list (u := 38) (sz := 4) (enc := HAct.cells) (R := fun a => 0 ≤ a.round) (by kernel_rfl) (by kernel_rfl) (fun ws q => by
    have q := q.struct (ts := [4, 36, 3, 3]) (by kernel_rfl)
    obtain ⟨_, _, rfl, p1, q⟩ := catQ_cons q
    obtain ⟨_, _, rfl, p2, q⟩ := catQ_cons q
    obtain ⟨_, _, rfl, p3, q⟩ := catQ_cons q
    obtain ⟨_, _, rfl, p4, q⟩ := catQ_cons q
    cases catQ_nil q
    obtain ⟨m1, rfl⟩ := p1.bool (by kernel_rfl)
    obtain ⟨m2, rfl, w2⟩ := p2.int (k := .u32) (by kernel_rfl)
    obtain ⟨m3, rfl, _⟩ := p3.int (k := .i64) (by kernel_rfl)
    obtain ⟨m4, rfl, _⟩ := p4.int (k := .i64) (by kernel_rfl)
    exact ⟨⟨m1, m2, m3, m4⟩, rfl, (wfu32 w2).1⟩)
  cases e
  exact ⟨l, s, hr, hl⟩
theorem argvInt {h : AHeap} {f : Nat} {x : AV} (q : ArgV Try.prog h (f + 1) 3 x) : ∃ n, x = .int .i64 n ∧ i64ok n := by
  unfold ArgV at q
  have hu : (Try.prog).underlying 3 = some (.int .i64) := by kernel_rfl
  rw [hu] at q
  obtain ⟨n, e, w⟩ := q.int hu
  cases e
  exact ⟨n, rfl, wf64 w⟩
theorem Ow.slb {α : Type} {n sz : Nat} {h : AHeap} {enc : α → List AV} {l : List α} {x : AV} (o : Ow n h sz enc l x) : ∃ F, SlB h sz enc l x F ∧ ∀ y ∈ F, n ≤ y ∧ y < h.length := by
  rcases o with ⟨e1, e2⟩ | ⟨b, rest, e, hb, a⟩
  · exact ⟨[], .inl ⟨e1, e2, rfl⟩, by simp⟩
  · have := hget_lt a
    exact ⟨[b], .inr ⟨b, 0, e, rfl, false, _, a, by rw [Nat.zero_add, List.length_append]; omega, by rw [List.drop_zero, List.take_left]⟩, by simp; omega⟩
section
variable (h0 : AHeap) (acts : List HAct) (x2 : AV) (sx : Sl h0 4 HAct.cells acts x2) (hr : ∀ a ∈ acts, 0 ≤ a.round)
include sx hr
theorem repsLoop : ∀ (s : List HAct) (i : Nat) (b c : Nat) (m : Mon) (F G : List Nat) (g : AHeap), acts.drop i = s → i ≤ 100 → MonAt .u32 (h0 ++ g) b m F → MonAt .i64 (h0 ++ g) c m G → (∀ x ∈ F, h0.length ≤ x) → (∀ x ∈ G, h0.length ≤ x) → (∀ x ∈ F, x ∉ G) → m.ok i →
    Post (J3_7 x2 (.ptr b 0) (.ptr c 0) (i : Int) (h0 ++ g)) fun v _ => v = .bool true := by
  -- both are sealed
  have both : ∀ (b c : Nat) (m : Mon) (F G : List Nat) (h : AHeap) (f : AV → AHeap → Res), MonAt .u32 h b m F → MonAt .i64 h c m G → (∀ x ∈ F, x ∉ G) →
      (∀ h' F' G', MonAt .u32 h' b { m with out := [] } F' → MonAt .i64 h' c { m with out := [] } G' → (∀ x ∈ F', x ∉ G') → Fr (F ++ G) h (F' ++ G') h' → Post (f (.bool true) h') fun v _ => v = .bool true) →
      Post (gr (acall Try.prog Nt 14 [.ptr b 0] h) fun r44 h45 => gr (acall Try.prog Nt 15 [.ptr c 0] h45) fun r46 h47 => gr (acall Try.prog Nt 13 [r44, r46] h47) f) fun v _ => v = .bool true := by
    intro b c m F G h f hm hw hd k
    have mo : m.out.length ≤ 4 := by obtain ⟨_, _, _, _, _, _, _, _, _, _, _, _, _, l, _⟩ := hm; exact l
    refine Post.bind (c_seal _ b m F hm) ?_
    rintro v1 h1 ⟨Fo, F1, m1, o1, d1, s1, f1⟩
    have hw1 := hw.keep (h' := h1) fun x hx => f1.old x (hw.lt x hx) (fun h => hd x h hx)
    have hd1 := f1.apart hw.lt hd
    refine Post.bind (c_rseal _ c m G hw1) ?_
    rintro v2 h2 ⟨Go, G1, w2, o2, d2, s2, f2⟩
    have m2 := m1.keep (h' := h2) fun x hx => f2.old x (m1.lt x hx) (fun h => hd1 x hx h)
    have o1' := o1.keep (h' := h2) fun x hx => f2.old x (o1.slb.lt x hx) (fun h => hd x (s1 x hx) h)
    have hd2 := f2.apart m1.lt (fun x hx h => hd1 x h hx)
    rw [c_same _ m.out m.out v1 v2 o1'.slb.sl o2.slb.sl (by omega)]
    simp only [gr_some, decide_true]
    refine k h2 F1 G1 m2 w2 (fun x hx h => hd2 x h hx) ⟨Nat.le_trans f1.len f2.len, fun x hx hn => ?_, fun x hx => ?_⟩
    · simp only [List.mem_append, not_or] at hn
      rw [f2.old x (Nat.lt_of_lt_of_le hx f1.len) hn.2, f1.old x hx hn.1]
    · simp only [List.mem_append] at hx ⊢
      rcases hx with hx | hx
      · rcases f1.own x hx with h | h
        · exact .inl (.inl h)
        · exact .inr h
      · rcases f2.own x hx with h | h
        · exact .inl (.inr h)
        · exact .inr (Nat.le_trans f1.len h)
  have last : ∀ (i b c : Nat) (m : Mon) (F G : List Nat) (g : AHeap), MonAt .u32 (h0 ++ g) b m F → MonAt .i64 (h0 ++ g) c m G → (∀ x ∈ F, x ∉ G) → Post (J3_10 x2 (.ptr b 0) (.ptr c 0) (i : Int) false (h0 ++ g)) fun v _ => v = .bool true := by
    intro i b c m F G g hm hw hd
    rw [J3_10_eq, J3_14_eq]
    exact both b c m F G _ _ hm hw hd fun h' F' G' _ _ _ _ => Post.done rfl
  intro s
  induction s with
  | nil =>
    intro i b c m F G g hs hi hm hw hF hG hd ok
    have := drop_nil hs
    rw [J3_7_eq]
    simp (dsimp := false) (implicitDefEqProofs := false) (disch := omega) only [gv_some, gr_some, gI_int, gB_bool, gS_str, gc_t, gc_f, gi_t, gi_f, gN_eq, gf_t, Option.bind_some, Option.bind_none, Option.map_some, acells_agg, acells_int, acells_bool, acells_str, acells_ptr, acells_sl, acells_nilsl, acells_nilptr, acells_iface, acells_niliface, aptr_ptr, anil_ptr, aextract_0, aextract_1, aextract_2, alenS_sl, alenS_nil, alenOf_sl, alenOf_nil, apartOf_agg, apart_t, apart_f, astore_ptr, hset_at0, hset_at, hs_same, hs_ne, len_hset, List.set_cons_zero, List.set_cons_succ, set_app, set_app0, aload_ptr, splice_eq, List.drop_nil, List.append_nil, isCell_int, isCell_bool, isCell_str, isCell_ptr, isCell_sl, isCell_nilsl, isCell_nilptr, isCell_iface, isCell_niliface, List.all_cons, List.all_nil, Bool.and_self, hget_at0, hget_at, len_app, List.length_cons, List.length_nil, get_app, get_app0, List.getElem?_cons_zero, List.getElem?_cons_succ, join_some, List.append_assoc, List.cons_append, List.nil_append, Nat.zero_add, Nat.add_zero, Nat.mul_one, chkRd_eq, chkAl_blk, if_true, if_false, Bool.false_eq_true, List.drop_succ_cons, List.drop_zero, List.take_succ_cons, List.take_zero, Bool.and_true, Bool.true_and, decide_true, decide_false, wrap64_id, aixG_eq, Nat.reduceAdd, Nat.reduceSub, Nat.reduceMul, Nat.reduceLeDiff, Nat.reduceLT, Int.reduceAdd, Int.reduceSub, Int.reduceMul, Int.reduceNeg, Int.reduceLT, Int.reduceLE, Int.reduceGT, Int.reduceGE, Int.reduceToNat, ↓reduceIte, and_self, true_and, and_true, (sx.app g).len]
    rw [decide_eq_false (by omega)]
    exact last i b c m F G g hm hw hd
  | cons a s ih =>
    intro i b c m F G g hs hi hm hw hF hG hd ok
    obtain ⟨hk, ha, hs'⟩ := drop_cons hs
    have ar : 0 ≤ a.round := hr a (by rw [← ha]; exact List.getElem_mem hk)
    rw [J3_7_eq]
    simp (dsimp := false) (implicitDefEqProofs := false) (disch := omega) only [gv_some, gr_some, gI_int, gB_bool, gS_str, gc_t, gc_f, gi_t, gi_f, gN_eq, gf_t, Option.bind_some, Option.bind_none, Option.map_some, acells_agg, acells_int, acells_bool, acells_str, acells_ptr, acells_sl, acells_nilsl, acells_nilptr, acells_iface, acells_niliface, aptr_ptr, anil_ptr, aextract_0, aextract_1, aextract_2, alenS_sl, alenS_nil, alenOf_sl, alenOf_nil, apartOf_agg, apart_t, apart_f, astore_ptr, hset_at0, hset_at, hs_same, hs_ne, len_hset, List.set_cons_zero, List.set_cons_succ, set_app, set_app0, aload_ptr, splice_eq, List.drop_nil, List.append_nil, isCell_int, isCell_bool, isCell_str, isCell_ptr, isCell_sl, isCell_nilsl, isCell_nilptr, isCell_iface, isCell_niliface, List.all_cons, List.all_nil, Bool.and_self, hget_at0, hget_at, len_app, List.length_cons, List.length_nil, get_app, get_app0, List.getElem?_cons_zero, List.getElem?_cons_succ, join_some, List.append_assoc, List.cons_append, List.nil_append, Nat.zero_add, Nat.add_zero, Nat.mul_one, chkRd_eq, chkAl_blk, if_true, if_false, Bool.false_eq_true, List.drop_succ_cons, List.drop_zero, List.take_succ_cons, List.take_zero, Bool.and_true, Bool.true_and, decide_true, decide_false, wrap64_id, aixG_eq, Nat.reduceAdd, Nat.reduceSub, Nat.reduceMul, Nat.reduceLeDiff, Nat.reduceLT, Int.reduceAdd, Int.reduceSub, Int.reduceMul, Int.reduceNeg, Int.reduceLT, Int.reduceLE, Int.reduceGT, Int.reduceGE, Int.reduceToNat, ↓reduceIte, and_self, true_and, and_true, (sx.app g).len]
    rw [decide_eq_true (by omega)]
    simp (dsimp := false) (implicitDefEqProofs := false) (disch := omega) only [gv_some, gr_some, gI_int, gB_bool, gS_str, gc_t, gc_f, gi_t, gi_f, gN_eq, gf_t, Option.bind_some, Option.bind_none, Option.map_some, acells_agg, acells_int, acells_bool, acells_str, acells_ptr, acells_sl, acells_nilsl, acells_nilptr, acells_iface, acells_niliface, aptr_ptr, anil_ptr, aextract_0, aextract_1, aextract_2, alenS_sl, alenS_nil, alenOf_sl, alenOf_nil, apartOf_agg, apart_t, apart_f, astore_ptr, hset_at0, hset_at, hs_same, hs_ne, len_hset, List.set_cons_zero, List.set_cons_succ, set_app, set_app0, aload_ptr, splice_eq, List.drop_nil, List.append_nil, isCell_int, isCell_bool, isCell_str, isCell_ptr, isCell_sl, isCell_nilsl, isCell_nilptr, isCell_iface, isCell_niliface, List.all_cons, List.all_nil, Bool.and_self, hget_at0, hget_at, len_app, List.length_cons, List.length_nil, get_app, get_app0, List.getElem?_cons_zero, List.getElem?_cons_succ, join_some, List.append_assoc, List.cons_append, List.nil_append, Nat.zero_add, Nat.add_zero, Nat.mul_one, chkRd_eq, chkAl_blk, if_true, if_false, Bool.false_eq_true, List.drop_succ_cons, List.drop_zero, List.take_succ_cons, List.take_zero, Bool.and_true, Bool.true_and, decide_true, decide_false, wrap64_id, aixG_eq, Nat.reduceAdd, Nat.reduceSub, Nat.reduceMul, Nat.reduceLeDiff, Nat.reduceLT, Int.reduceAdd, Int.reduceSub, Int.reduceMul, Int.reduceNeg, Int.reduceLT, Int.reduceLE, Int.reduceGT, Int.reduceGE, Int.reduceToNat, ↓reduceIte, and_self, true_and, and_true]
    by_cases h100 : (i : Int) < 100
    rotate_left
    · rw [decide_eq_false h100]; exact last i b c m F G g hm hw hd
    rw [decide_eq_true h100, J3_10_eq]
    simp (dsimp := false) (implicitDefEqProofs := false) (disch := omega) only [gv_some, gr_some, gI_int, gB_bool, gS_str, gc_t, gc_f, gi_t, gi_f, gN_eq, gf_t, Option.bind_some, Option.bind_none, Option.map_some, acells_agg, acells_int, acells_bool, acells_str, acells_ptr, acells_sl, acells_nilsl, acells_nilptr, acells_iface, acells_niliface, aptr_ptr, anil_ptr, aextract_0, aextract_1, aextract_2, alenS_sl, alenS_nil, alenOf_sl, alenOf_nil, apartOf_agg, apart_t, apart_f, astore_ptr, hset_at0, hset_at, hs_same, hs_ne, len_hset, List.set_cons_zero, List.set_cons_succ, set_app, set_app0, aload_ptr, splice_eq, List.drop_nil, List.append_nil, isCell_int, isCell_bool, isCell_str, isCell_ptr, isCell_sl, isCell_nilsl, isCell_nilptr, isCell_iface, isCell_niliface, List.all_cons, List.all_nil, Bool.and_self, hget_at0, hget_at, len_app, List.length_cons, List.length_nil, get_app, get_app0, List.getElem?_cons_zero, List.getElem?_cons_succ, join_some, List.append_assoc, List.cons_append, List.nil_append, Nat.zero_add, Nat.add_zero, Nat.mul_one, chkRd_eq, chkAl_blk, if_true, if_false, Bool.false_eq_true, List.drop_succ_cons, List.drop_zero, List.take_succ_cons, List.take_zero, Bool.and_true, Bool.true_and, decide_true, decide_false, wrap64_id, aixG_eq, Nat.reduceAdd, Nat.reduceSub, Nat.reduceMul, Nat.reduceLeDiff, Nat.reduceLT, Int.reduceAdd, Int.reduceSub, Int.reduceMul, Int.reduceNeg, Int.reduceLT, Int.reduceLE, Int.reduceGT, Int.reduceGE, Int.reduceToNat, ↓reduceIte, and_self, true_and, and_true, J3_13_eq]
    obtain ⟨eb, eo, ix, ea⟩ := (sx.app g).elem HAct.len i hk
    rw [ha] at ea
    refine Post.val ix ?_
    refine Post.val (ea.loadN 4 rfl) ?_
    have ec : a.cells = [.bool a.sl, .int .u32 a.round, .int .i64 a.part, .int .i64 a.kind] := rfl
    simp (dsimp := false) (implicitDefEqProofs := false) (disch := omega) only [gv_some, gr_some, gI_int, gB_bool, gS_str, gc_t, gc_f, gi_t, gi_f, gN_eq, gf_t, Option.bind_some, Option.bind_none, Option.map_some, acells_agg, acells_int, acells_bool, acells_str, acells_ptr, acells_sl, acells_nilsl, acells_nilptr, acells_iface, acells_niliface, aptr_ptr, anil_ptr, aextract_0, aextract_1, aextract_2, alenS_sl, alenS_nil, alenOf_sl, alenOf_nil, apartOf_agg, apart_t, apart_f, astore_ptr, hset_at0, hset_at, hs_same, hs_ne, len_hset, List.set_cons_zero, List.set_cons_succ, set_app, set_app0, aload_ptr, splice_eq, List.drop_nil, List.append_nil, isCell_int, isCell_bool, isCell_str, isCell_ptr, isCell_sl, isCell_nilsl, isCell_nilptr, isCell_iface, isCell_niliface, List.all_cons, List.all_nil, Bool.and_self, hget_at0, hget_at, len_app, List.length_cons, List.length_nil, get_app, get_app0, List.getElem?_cons_zero, List.getElem?_cons_succ, join_some, List.append_assoc, List.cons_append, List.nil_append, Nat.zero_add, Nat.add_zero, Nat.mul_one, chkRd_eq, chkAl_blk, if_true, if_false, Bool.false_eq_true, List.drop_succ_cons, List.drop_zero, List.take_succ_cons, List.take_zero, Bool.and_true, Bool.true_and, decide_true, decide_false, wrap64_id, aixG_eq, Nat.reduceAdd, Nat.reduceSub, Nat.reduceMul, Nat.reduceLeDiff, Nat.reduceLT, Int.reduceAdd, Int.reduceSub, Int.reduceMul, Int.reduceNeg, Int.reduceLT, Int.reduceLE, Int.reduceGT, Int.reduceGE, Int.reduceToNat, ↓reduceIte, and_self, true_and, and_true, ec]
    have hm1 : MonAt .u32 (h0 ++ (g ++ [some (.cells false a.cells)])) b m F := by rw [← List.append_assoc]; exact hm.keep fun x hx => hget_old _ (hm.lt x hx)
    have hw1 : MonAt .i64 (h0 ++ (g ++ [some (.cells false a.cells)])) c m G := by rw [← List.append_assoc]; exact hw.keep fun x hx => hget_old _ (hw.lt x hx)
    rw [ec] at hm1 hw1
    have more : m.ok ((i + 1 : Nat) : Int) := ⟨ok.last, fun x hx => by have := ok.again x hx; omega⟩
    refine Post.cnd (fun hz => ?_) fun hz => ?_
    · refine both b c m F G _ _ hm1 hw1 hd fun h' F' G' q1 q2 q3 q4 => ?_
      simp (dsimp := false) (implicitDefEqProofs := false) (disch := omega) only [gv_some, gr_some, gI_int, gB_bool, gS_str, gc_t, gc_f, gi_t, gi_f, gN_eq, gf_t, Option.bind_some, Option.bind_none, Option.map_some, acells_agg, acells_int, acells_bool, acells_str, acells_ptr, acells_sl, acells_nilsl, acells_nilptr, acells_iface, acells_niliface, aptr_ptr, anil_ptr, aextract_0, aextract_1, aextract_2, alenS_sl, alenS_nil, alenOf_sl, alenOf_nil, apartOf_agg, apart_t, apart_f, astore_ptr, hset_at0, hset_at, hs_same, hs_ne, len_hset, List.set_cons_zero, List.set_cons_succ, set_app, set_app0, aload_ptr, splice_eq, List.drop_nil, List.append_nil, isCell_int, isCell_bool, isCell_str, isCell_ptr, isCell_sl, isCell_nilsl, isCell_nilptr, isCell_iface, isCell_niliface, List.all_cons, List.all_nil, Bool.and_self, hget_at0, hget_at, len_app, List.length_cons, List.length_nil, get_app, get_app0, List.getElem?_cons_zero, List.getElem?_cons_succ, join_some, List.append_assoc, List.cons_append, List.nil_append, Nat.zero_add, Nat.add_zero, Nat.mul_one, chkRd_eq, chkAl_blk, if_true, if_false, Bool.false_eq_true, List.drop_succ_cons, List.drop_zero, List.take_succ_cons, List.take_zero, Bool.and_true, Bool.true_and, decide_true, decide_false, wrap64_id, aixG_eq, Nat.reduceAdd, Nat.reduceSub, Nat.reduceMul, Nat.reduceLeDiff, Nat.reduceLT, Int.reduceAdd, Int.reduceSub, Int.reduceMul, Int.reduceNeg, Int.reduceLT, Int.reduceLE, Int.reduceGT, Int.reduceGE, Int.reduceToNat, ↓reduceIte, and_self, true_and, and_true, Bool.not_true]
      obtain ⟨⟨g', rfl⟩, hFG⟩ := q4.grow (fun x hx => (List.mem_append.1 hx).elim (hF x) (hG x))
      rw [J3_15_eq, wsucc (by omega)]
      exact ih (i + 1) b c _ F' G' g' hs' (by omega) q1 q2 (fun x hx => hFG x (by simp [hx])) (fun x hx => hFG x (by simp [hx])) q3 ⟨more.last, more.again⟩
    · rw [J3_16_eq]
      obtain ⟨k0, k1⟩ := u64tmod a.kind 256 (by omega)
      obtain ⟨K, eK, eK2, K0, K1⟩ : ∃ K, IntKind.i64.wrap ((IntKind.u64.wrap a.kind).tmod 256) = K ∧ IntKind.u8.wrap ((IntKind.u64.wrap a.kind).tmod 256) = K ∧ 0 ≤ K ∧ K < 256 := ⟨_, wrap64_id (by omega) (by omega), wrapu8_id (by omega) (by omega), k0, k1⟩
      simp (dsimp := false) (implicitDefEqProofs := false) (disch := omega) only [gv_some, gr_some, gI_int, gB_bool, gS_str, gc_t, gc_f, gi_t, gi_f, gN_eq, gf_t, Option.bind_some, Option.bind_none, Option.map_some, acells_agg, acells_int, acells_bool, acells_str, acells_ptr, acells_sl, acells_nilsl, acells_nilptr, acells_iface, acells_niliface, aptr_ptr, anil_ptr, aextract_0, aextract_1, aextract_2, alenS_sl, alenS_nil, alenOf_sl, alenOf_nil, apartOf_agg, apart_t, apart_f, astore_ptr, hset_at0, hset_at, hs_same, hs_ne, len_hset, List.set_cons_zero, List.set_cons_succ, set_app, set_app0, aload_ptr, splice_eq, List.drop_nil, List.append_nil, isCell_int, isCell_bool, isCell_str, isCell_ptr, isCell_sl, isCell_nilsl, isCell_nilptr, isCell_iface, isCell_niliface, List.all_cons, List.all_nil, Bool.and_self, hget_at0, hget_at, len_app, List.length_cons, List.length_nil, get_app, get_app0, List.getElem?_cons_zero, List.getElem?_cons_succ, join_some, List.append_assoc, List.cons_append, List.nil_append, Nat.zero_add, Nat.add_zero, Nat.mul_one, chkRd_eq, chkAl_blk, if_true, if_false, Bool.false_eq_true, List.drop_succ_cons, List.drop_zero, List.take_succ_cons, List.take_zero, Bool.and_true, Bool.true_and, decide_true, decide_false, wrap64_id, aixG_eq, Nat.reduceAdd, Nat.reduceSub, Nat.reduceMul, Nat.reduceLeDiff, Nat.reduceLT, Int.reduceAdd, Int.reduceSub, Int.reduceMul, Int.reduceNeg, Int.reduceLT, Int.reduceLE, Int.reduceGT, Int.reduceGE, Int.reduceToNat, ↓reduceIte, and_self, true_and, and_true]
      rw [eK2, eK]
      refine Post.bind (c_report _ b m F hm1 i ok (by omega) a.round ar a.part K K0) ?_
      intro v1 h1 q1
      have ab : At (h0 ++ (g ++ [some (.cells false [.bool a.sl, .int .u32 a.round, .int .i64 a.part, .int .i64 a.kind])])) (h0.length + g.length) 0 a.cells := ⟨false, a.cells, by rw [hget_at, get_app0]; rfl, by rw [Nat.zero_add]; exact Nat.le_refl _, by simp⟩
      have nb : h0.length + g.length < (h0 ++ (g ++ [some (ABlk.cells false [.bool a.sl, .int .u32 a.round, .int .i64 a.part, .int .i64 a.kind])])).length := by simp
      have nF : h0.length + g.length ∉ F := fun h => by have := hm.lt _ h; simp at this
      by_cases tk : m.takes a.round a.part K = true
      · rw [if_pos tk] at q1
        obtain ⟨rfl, F1, m1, f1⟩ := q1
        have w1 := hw1.keep (h' := h1) fun x hx => f1.old x (hw1.lt x hx) (fun h => hd x h hx)
        have hd1 := f1.apart hw1.lt hd
        obtain ⟨ro, cs, e1, e2, e3⟩ := ab
        have ab1 := f1.keep e1 nF
        have cs0 : cs = a.cells := by
          have : hget (h0 ++ (g ++ [some (ABlk.cells false [.bool a.sl, .int .u32 a.round, .int .i64 a.part, .int .i64 a.kind])])) (h0.length + g.length) = some (.cells false a.cells) := by rw [hget_at, get_app0]; rfl
          rw [this] at e1; cases e1; rfl
        subst cs0
        simp (dsimp := false) (implicitDefEqProofs := false) (disch := omega) only [gv_some, gr_some, gI_int, gB_bool, gS_str, gc_t, gc_f, gi_t, gi_f, gN_eq, gf_t, Option.bind_some, Option.bind_none, Option.map_some, acells_agg, acells_int, acells_bool, acells_str, acells_ptr, acells_sl, acells_nilsl, acells_nilptr, acells_iface, acells_niliface, aptr_ptr, anil_ptr, aextract_0, aextract_1, aextract_2, alenS_sl, alenS_nil, alenOf_sl, alenOf_nil, apartOf_agg, apart_t, apart_f, astore_ptr, hset_at0, hset_at, hs_same, hs_ne, len_hset, List.set_cons_zero, List.set_cons_succ, set_app, set_app0, aload_ptr, splice_eq, List.drop_nil, List.append_nil, isCell_int, isCell_bool, isCell_str, isCell_ptr, isCell_sl, isCell_nilsl, isCell_nilptr, isCell_iface, isCell_niliface, List.all_cons, List.all_nil, Bool.and_self, hget_at0, hget_at, len_app, List.length_cons, List.length_nil, get_app, get_app0, List.getElem?_cons_zero, List.getElem?_cons_succ, join_some, List.append_assoc, List.cons_append, List.nil_append, Nat.zero_add, Nat.add_zero, Nat.mul_one, chkRd_eq, chkAl_blk, if_true, if_false, Bool.false_eq_true, List.drop_succ_cons, List.drop_zero, List.take_succ_cons, List.take_zero, Bool.and_true, Bool.true_and, decide_true, decide_false, wrap64_id, aixG_eq, Nat.reduceAdd, Nat.reduceSub, Nat.reduceMul, Nat.reduceLeDiff, Nat.reduceLT, Int.reduceAdd, Int.reduceSub, Int.reduceMul, Int.reduceNeg, Int.reduceLT, Int.reduceLE, Int.reduceGT, Int.reduceGE, Int.reduceToNat, ↓reduceIte, and_self, true_and, and_true, ab1, ec]
        refine Post.bind (c_rreport _ c m G w1 i ok (by omega) a.round ar a.part K K0) ?_
        intro v2 h2 q2
        rw [if_pos tk] at q2
        obtain ⟨rfl, G2, w2, f2⟩ := q2
        have m2 := m1.keep (h' := h2) fun x hx => f2.old x (m1.lt x hx) (fun h => hd1 x hx h)
        have hd2 := f2.apart m1.lt (fun x hx h => hd1 x h hx)
        have en : (m.did a.round a.part.toNat K.toNat != m.did a.round a.part.toNat K.toNat) = false := by simp
        simp (dsimp := false) (implicitDefEqProofs := false) (disch := omega) only [gv_some, gr_some, gI_int, gB_bool, gS_str, gc_t, gc_f, gi_t, gi_f, gN_eq, gf_t, Option.bind_some, Option.bind_none, Option.map_some, acells_agg, acells_int, acells_bool, acells_str, acells_ptr, acells_sl, acells_nilsl, acells_nilptr, acells_iface, acells_niliface, aptr_ptr, anil_ptr, aextract_0, aextract_1, aextract_2, alenS_sl, alenS_nil, alenOf_sl, alenOf_nil, apartOf_agg, apart_t, apart_f, astore_ptr, hset_at0, hset_at, hs_same, hs_ne, len_hset, List.set_cons_zero, List.set_cons_succ, set_app, set_app0, aload_ptr, splice_eq, List.drop_nil, List.append_nil, isCell_int, isCell_bool, isCell_str, isCell_ptr, isCell_sl, isCell_nilsl, isCell_nilptr, isCell_iface, isCell_niliface, List.all_cons, List.all_nil, Bool.and_self, hget_at0, hget_at, len_app, List.length_cons, List.length_nil, get_app, get_app0, List.getElem?_cons_zero, List.getElem?_cons_succ, join_some, List.append_assoc, List.cons_append, List.nil_append, Nat.zero_add, Nat.add_zero, Nat.mul_one, chkRd_eq, chkAl_blk, if_true, if_false, Bool.false_eq_true, List.drop_succ_cons, List.drop_zero, List.take_succ_cons, List.take_zero, Bool.and_true, Bool.true_and, decide_true, decide_false, wrap64_id, aixG_eq, Nat.reduceAdd, Nat.reduceSub, Nat.reduceMul, Nat.reduceLeDiff, Nat.reduceLT, Int.reduceAdd, Int.reduceSub, Int.reduceMul, Int.reduceNeg, Int.reduceLT, Int.reduceLE, Int.reduceGT, Int.reduceGE, Int.reduceToNat, ↓reduceIte, and_self, true_and, and_true, en]
        refine Post.call (c_read [] _ _ rfl (by simp)) fun v g3 hv => ?_
        subst hv
        have ee : (!(errTxt [] == [])) = false := rfl
        obtain ⟨⟨g1, rfl⟩, hF1⟩ := f1.grow hF
        obtain ⟨⟨g2, rfl⟩, hG2⟩ := f2.grow hG
        simp (dsimp := false) (implicitDefEqProofs := false) (disch := omega) only [gv_some, gr_some, gI_int, gB_bool, gS_str, gc_t, gc_f, gi_t, gi_f, gN_eq, gf_t, Option.bind_some, Option.bind_none, Option.map_some, acells_agg, acells_int, acells_bool, acells_str, acells_ptr, acells_sl, acells_nilsl, acells_nilptr, acells_iface, acells_niliface, aptr_ptr, anil_ptr, aextract_0, aextract_1, aextract_2, alenS_sl, alenS_nil, alenOf_sl, alenOf_nil, apartOf_agg, apart_t, apart_f, astore_ptr, hset_at0, hset_at, hs_same, hs_ne, len_hset, List.set_cons_zero, List.set_cons_succ, set_app, set_app0, aload_ptr, splice_eq, List.drop_nil, List.append_nil, isCell_int, isCell_bool, isCell_str, isCell_ptr, isCell_sl, isCell_nilsl, isCell_nilptr, isCell_iface, isCell_niliface, List.all_cons, List.all_nil, Bool.and_self, hget_at0, hget_at, len_app, List.length_cons, List.length_nil, get_app, get_app0, List.getElem?_cons_zero, List.getElem?_cons_succ, join_some, List.append_assoc, List.cons_append, List.nil_append, Nat.zero_add, Nat.add_zero, Nat.mul_one, chkRd_eq, chkAl_blk, if_true, if_false, Bool.false_eq_true, List.drop_succ_cons, List.drop_zero, List.take_succ_cons, List.take_zero, Bool.and_true, Bool.true_and, decide_true, decide_false, wrap64_id, aixG_eq, Nat.reduceAdd, Nat.reduceSub, Nat.reduceMul, Nat.reduceLeDiff, Nat.reduceLT, Int.reduceAdd, Int.reduceSub, Int.reduceMul, Int.reduceNeg, Int.reduceLT, Int.reduceLE, Int.reduceGT, Int.reduceGE, Int.reduceToNat, ↓reduceIte, and_self, true_and, and_true, ee]
        have tp : (0 ≤ a.part ∧ a.part < (m.parts.length : Int)) ∧ a.round < 1048576 := by simp [Mon.takes] at tk; omega
        have lA : m.again.length = m.parts.length := by obtain ⟨_, _, _, _, _, _, _, _, _, _, _, _, l, _⟩ := hm; exact l
        rw [J3_17_eq]
        simp (dsimp := false) (implicitDefEqProofs := false) (disch := omega) only [gv_some, gr_some, gI_int, gB_bool, gS_str, gc_t, gc_f, gi_t, gi_f, gN_eq, gf_t, Option.bind_some, Option.bind_none, Option.map_some, acells_agg, acells_int, acells_bool, acells_str, acells_ptr, acells_sl, acells_nilsl, acells_nilptr, acells_iface, acells_niliface, aptr_ptr, anil_ptr, aextract_0, aextract_1, aextract_2, alenS_sl, alenS_nil, alenOf_sl, alenOf_nil, apartOf_agg, apart_t, apart_f, astore_ptr, hset_at0, hset_at, hs_same, hs_ne, len_hset, List.set_cons_zero, List.set_cons_succ, set_app, set_app0, aload_ptr, splice_eq, List.drop_nil, List.append_nil, isCell_int, isCell_bool, isCell_str, isCell_ptr, isCell_sl, isCell_nilsl, isCell_nilptr, isCell_iface, isCell_niliface, List.all_cons, List.all_nil, Bool.and_self, hget_at0, hget_at, len_app, List.length_cons, List.length_nil, get_app, get_app0, List.getElem?_cons_zero, List.getElem?_cons_succ, join_some, List.append_assoc, List.cons_append, List.nil_append, Nat.zero_add, Nat.add_zero, Nat.mul_one, chkRd_eq, chkAl_blk, if_true, if_false, Bool.false_eq_true, List.drop_succ_cons, List.drop_zero, List.take_succ_cons, List.take_zero, Bool.and_true, Bool.true_and, decide_true, decide_false, wrap64_id, aixG_eq, Nat.reduceAdd, Nat.reduceSub, Nat.reduceMul, Nat.reduceLeDiff, Nat.reduceLT, Int.reduceAdd, Int.reduceSub, Int.reduceMul, Int.reduceNeg, Int.reduceLT, Int.reduceLE, Int.reduceGT, Int.reduceGE, Int.reduceToNat, ↓reduceIte, and_self, true_and, and_true]
        rw [J3_15_eq, wsucc (by omega)]
        refine ih (i + 1) b c _ F1 G2 (g2 ++ g3) hs' (by omega) ?_ ?_ hF1 hG2 (fun x hx h => hd2 x h hx) (Mon.rep_ok ok (by omega) a.round ar tp.2 a.part.toNat K.toNat (by omega))
        · rw [← List.append_assoc]; exact m2.keep fun x hx => hget_old _ (m2.lt x hx)
        · rw [← List.append_assoc]; exact w2.keep fun x hx => hget_old _ (w2.lt x hx)
      · rw [if_neg tk] at q1
        obtain ⟨rfl, rfl⟩ := q1
        simp (dsimp := false) (implicitDefEqProofs := false) (disch := omega) only [gv_some, gr_some, gI_int, gB_bool, gS_str, gc_t, gc_f, gi_t, gi_f, gN_eq, gf_t, Option.bind_some, Option.bind_none, Option.map_some, acells_agg, acells_int, acells_bool, acells_str, acells_ptr, acells_sl, acells_nilsl, acells_nilptr, acells_iface, acells_niliface, aptr_ptr, anil_ptr, aextract_0, aextract_1, aextract_2, alenS_sl, alenS_nil, alenOf_sl, alenOf_nil, apartOf_agg, apart_t, apart_f, astore_ptr, hset_at0, hset_at, hs_same, hs_ne, len_hset, List.set_cons_zero, List.set_cons_succ, set_app, set_app0, aload_ptr, splice_eq, List.drop_nil, List.append_nil, isCell_int, isCell_bool, isCell_str, isCell_ptr, isCell_sl, isCell_nilsl, isCell_nilptr, isCell_iface, isCell_niliface, List.all_cons, List.all_nil, Bool.and_self, hget_at0, hget_at, len_app, List.length_cons, List.length_nil, get_app, get_app0, List.getElem?_cons_zero, List.getElem?_cons_succ, join_some, List.append_assoc, List.cons_append, List.nil_append, Nat.zero_add, Nat.add_zero, Nat.mul_one, chkRd_eq, chkAl_blk, if_true, if_false, Bool.false_eq_true, List.drop_succ_cons, List.drop_zero, List.take_succ_cons, List.take_zero, Bool.and_true, Bool.true_and, decide_true, decide_false, wrap64_id, aixG_eq, Nat.reduceAdd, Nat.reduceSub, Nat.reduceMul, Nat.reduceLeDiff, Nat.reduceLT, Int.reduceAdd, Int.reduceSub, Int.reduceMul, Int.reduceNeg, Int.reduceLT, Int.reduceLE, Int.reduceGT, Int.reduceGE, Int.reduceToNat, ↓reduceIte, and_self, true_and, and_true, ec]
        refine Post.bind (c_rreport _ c m G hw1 i ok (by omega) a.round ar a.part K K0) ?_
        intro v2 h2 q2
        rw [if_neg tk] at q2
        obtain ⟨rfl, g2, rfl⟩ := q2
        have en : ((0 : Int) != 0) = false := rfl
        have er : ErrV (h0 ++ (g ++ some (.cells false [.bool a.sl, .int .u32 a.round, .int .i64 a.part, .int .i64 a.kind]) :: g2)) [(2, none)] (.iface 71 (.int .i64 2)) := ⟨rfl, ⟨by omega, by omega⟩, rfl⟩
        simp (dsimp := false) (implicitDefEqProofs := false) (disch := omega) only [gv_some, gr_some, gI_int, gB_bool, gS_str, gc_t, gc_f, gi_t, gi_f, gN_eq, gf_t, Option.bind_some, Option.bind_none, Option.map_some, acells_agg, acells_int, acells_bool, acells_str, acells_ptr, acells_sl, acells_nilsl, acells_nilptr, acells_iface, acells_niliface, aptr_ptr, anil_ptr, aextract_0, aextract_1, aextract_2, alenS_sl, alenS_nil, alenOf_sl, alenOf_nil, apartOf_agg, apart_t, apart_f, astore_ptr, hset_at0, hset_at, hs_same, hs_ne, len_hset, List.set_cons_zero, List.set_cons_succ, set_app, set_app0, aload_ptr, splice_eq, List.drop_nil, List.append_nil, isCell_int, isCell_bool, isCell_str, isCell_ptr, isCell_sl, isCell_nilsl, isCell_nilptr, isCell_iface, isCell_niliface, List.all_cons, List.all_nil, Bool.and_self, hget_at0, hget_at, len_app, List.length_cons, List.length_nil, get_app, get_app0, List.getElem?_cons_zero, List.getElem?_cons_succ, join_some, List.append_assoc, List.cons_append, List.nil_append, Nat.zero_add, Nat.add_zero, Nat.mul_one, chkRd_eq, chkAl_blk, if_true, if_false, Bool.false_eq_true, List.drop_succ_cons, List.drop_zero, List.take_succ_cons, List.take_zero, Bool.and_true, Bool.true_and, decide_true, decide_false, wrap64_id, aixG_eq, Nat.reduceAdd, Nat.reduceSub, Nat.reduceMul, Nat.reduceLeDiff, Nat.reduceLT, Int.reduceAdd, Int.reduceSub, Int.reduceMul, Int.reduceNeg, Int.reduceLT, Int.reduceLE, Int.reduceGT, Int.reduceGE, Int.reduceToNat, ↓reduceIte, and_self, true_and, and_true, en]
        refine Post.call (c_read _ _ _ er (by simp)) fun v g3 hv => ?_
        subst hv
        have ee : (!(errTxt [(2, none)] == num 2)) = false := by simp [errTxt, lnkTxt, tailTxt]
        simp (dsimp := false) (implicitDefEqProofs := false) (disch := omega) only [gv_some, gr_some, gI_int, gB_bool, gS_str, gc_t, gc_f, gi_t, gi_f, gN_eq, gf_t, Option.bind_some, Option.bind_none, Option.map_some, acells_agg, acells_int, acells_bool, acells_str, acells_ptr, acells_sl, acells_nilsl, acells_nilptr, acells_iface, acells_niliface, aptr_ptr, anil_ptr, aextract_0, aextract_1, aextract_2, alenS_sl, alenS_nil, alenOf_sl, alenOf_nil, apartOf_agg, apart_t, apart_f, astore_ptr, hset_at0, hset_at, hs_same, hs_ne, len_hset, List.set_cons_zero, List.set_cons_succ, set_app, set_app0, aload_ptr, splice_eq, List.drop_nil, List.append_nil, isCell_int, isCell_bool, isCell_str, isCell_ptr, isCell_sl, isCell_nilsl, isCell_nilptr, isCell_iface, isCell_niliface, List.all_cons, List.all_nil, Bool.and_self, hget_at0, hget_at, len_app, List.length_cons, List.length_nil, get_app, get_app0, List.getElem?_cons_zero, List.getElem?_cons_succ, join_some, List.append_assoc, List.cons_append, List.nil_append, Nat.zero_add, Nat.add_zero, Nat.mul_one, chkRd_eq, chkAl_blk, if_true, if_false, Bool.false_eq_true, List.drop_succ_cons, List.drop_zero, List.take_succ_cons, List.take_zero, Bool.and_true, Bool.true_and, decide_true, decide_false, wrap64_id, aixG_eq, Nat.reduceAdd, Nat.reduceSub, Nat.reduceMul, Nat.reduceLeDiff, Nat.reduceLT, Int.reduceAdd, Int.reduceSub, Int.reduceMul, Int.reduceNeg, Int.reduceLT, Int.reduceLE, Int.reduceGT, Int.reduceGE, Int.reduceToNat, ↓reduceIte, and_self, true_and, and_true, ee]
        rw [J3_17_eq]
        simp (dsimp := false) (implicitDefEqProofs := false) (disch := omega) only [gv_some, gr_some, gI_int, gB_bool, gS_str, gc_t, gc_f, gi_t, gi_f, gN_eq, gf_t, Option.bind_some, Option.bind_none, Option.map_some, acells_agg, acells_int, acells_bool, acells_str, acells_ptr, acells_sl, acells_nilsl, acells_nilptr, acells_iface, acells_niliface, aptr_ptr, anil_ptr, aextract_0, aextract_1, aextract_2, alenS_sl, alenS_nil, alenOf_sl, alenOf_nil, apartOf_agg, apart_t, apart_f, astore_ptr, hset_at0, hset_at, hs_same, hs_ne, len_hset, List.set_cons_zero, List.set_cons_succ, set_app, set_app0, aload_ptr, splice_eq, List.drop_nil, List.append_nil, isCell_int, isCell_bool, isCell_str, isCell_ptr, isCell_sl, isCell_nilsl, isCell_nilptr, isCell_iface, isCell_niliface, List.all_cons, List.all_nil, Bool.and_self, hget_at0, hget_at, len_app, List.length_cons, List.length_nil, get_app, get_app0, List.getElem?_cons_zero, List.getElem?_cons_succ, join_some, List.append_assoc, List.cons_append, List.nil_append, Nat.zero_add, Nat.add_zero, Nat.mul_one, chkRd_eq, chkAl_blk, if_true, if_false, Bool.false_eq_true, List.drop_succ_cons, List.drop_zero, List.take_succ_cons, List.take_zero, Bool.and_true, Bool.true_and, decide_true, decide_false, wrap64_id, aixG_eq, Nat.reduceAdd, Nat.reduceSub, Nat.reduceMul, Nat.reduceLeDiff, Nat.reduceLT, Int.reduceAdd, Int.reduceSub, Int.reduceMul, Int.reduceNeg, Int.reduceLT, Int.reduceLE, Int.reduceGT, Int.reduceGE, Int.reduceToNat, ↓reduceIte, and_self, true_and, and_true]
        rw [J3_15_eq, wsucc (by omega)]
        have hm3 := hm.keep (h' := h0 ++ g ++ (some (.cells false [.bool a.sl, .int .u32 a.round, .int .i64 a.part, .int .i64 a.kind]) :: (g2 ++ g3))) fun x hx => hget_old _ (hm.lt x hx)
        have hw3 := hw.keep (h' := h0 ++ g ++ (some (.cells false [.bool a.sl, .int .u32 a.round, .int .i64 a.part, .int .i64 a.kind]) :: (g2 ++ g3))) fun x hx => hget_old _ (hw.lt x hx)
        rw [List.append_assoc] at hm3 hw3
        exact ih (i + 1) b c m F G _ hs' (by omega) hm3 hw3 hF hG hd more
theorem repsParts (node : Int) (fs : List Four) (y : AV) (sy : Sl h0 4 Four.cells fs y) (hn : fs.length ≤ 50) : ∀ (s : List Four) (i : Nat) (x : AV) (g : AHeap), fs.drop i = s → i ≤ fs.length → Ow h0.length (h0 ++ g) 9 Part.cells ((fs.take i).map Four.part) x →
    Post (J3_3 node x2 x y (fs.length : Int) (i : Int) (h0 ++ g)) fun v _ => v = .bool true := by
  intro s
  induction s with
  | nil =>
    intro i x g hs hi ow
    have := drop_nil hs
    have hl : fs.take i = fs := List.take_of_length_le (by omega)
    rw [hl] at ow
    have ol : (fs.map Four.part).length ≤ 50 := by simpa using hn
    rw [J3_3_eq]
    rw [decide_eq_false (by omega)]
    simp (dsimp := false) (implicitDefEqProofs := false) (disch := omega) only [gv_some, gr_some, gI_int, gB_bool, gS_str, gc_t, gc_f, gi_t, gi_f, gN_eq, gf_t, Option.bind_some, Option.bind_none, Option.map_some, acells_agg, acells_int, acells_bool, acells_str, acells_ptr, acells_sl, acells_nilsl, acells_nilptr, acells_iface, acells_niliface, aptr_ptr, anil_ptr, aextract_0, aextract_1, aextract_2, alenS_sl, alenS_nil, alenOf_sl, alenOf_nil, apartOf_agg, apart_t, apart_f, astore_ptr, hset_at0, hset_at, hs_same, hs_ne, len_hset, List.set_cons_zero, List.set_cons_succ, set_app, set_app0, aload_ptr, splice_eq, List.drop_nil, List.append_nil, isCell_int, isCell_bool, isCell_str, isCell_ptr, isCell_sl, isCell_nilsl, isCell_nilptr, isCell_iface, isCell_niliface, List.all_cons, List.all_nil, Bool.and_self, hget_at0, hget_at, len_app, List.length_cons, List.length_nil, get_app, get_app0, List.getElem?_cons_zero, List.getElem?_cons_succ, join_some, List.append_assoc, List.cons_append, List.nil_append, Nat.zero_add, Nat.add_zero, Nat.mul_one, chkRd_eq, chkAl_blk, if_true, if_false, Bool.false_eq_true, List.drop_succ_cons, List.drop_zero, List.take_succ_cons, List.take_zero, Bool.and_true, Bool.true_and, decide_true, decide_false, wrap64_id, aixG_eq, Nat.reduceAdd, Nat.reduceSub, Nat.reduceMul, Nat.reduceLeDiff, Nat.reduceLT, Int.reduceAdd, Int.reduceSub, Int.reduceMul, Int.reduceNeg, Int.reduceLT, Int.reduceLE, Int.reduceGT, Int.reduceGE, Int.reduceToNat, ↓reduceIte, and_self, true_and, and_true, J3_5_eq]
    have o2 : Ow h0.length (h0 ++ (g ++ [some (.cells false [])])) 9 Part.cells (fs.map Four.part) x := by rw [← List.append_assoc]; exact ow.app _
    refine Post.val o2.sl.lenOf ?_
    rw [List.append_assoc]
    refine Post.val (o2.sl.src Part.len) ?_
    obtain ⟨z, t', ea, oz⟩ := aapp_ow (by' := 48) (pre := h0 ++ g) (t := [some (.cells false [])]) (x := .sl (h0 ++ g).length 0 0 9) (l := ([] : List Part)) (l2 := fs.map Four.part) Part.len Part.isc (.inr ⟨(h0 ++ g).length, [], rfl, Nat.le_refl _, by rw [hget_at0]; rfl⟩) (by simp; omega)
    rw [List.append_assoc, List.append_assoc, List.length_append] at ea
    rw [List.append_assoc] at oz
    simp only [List.nil_append] at oz
    simp (dsimp := false) (implicitDefEqProofs := false) (disch := omega) only [gv_some, gr_some, gI_int, gB_bool, gS_str, gc_t, gc_f, gi_t, gi_f, gN_eq, gf_t, Option.bind_some, Option.bind_none, Option.map_some, acells_agg, acells_int, acells_bool, acells_str, acells_ptr, acells_sl, acells_nilsl, acells_nilptr, acells_iface, acells_niliface, aptr_ptr, anil_ptr, aextract_0, aextract_1, aextract_2, alenS_sl, alenS_nil, alenOf_sl, alenOf_nil, apartOf_agg, apart_t, apart_f, astore_ptr, hset_at0, hset_at, hs_same, hs_ne, len_hset, List.set_cons_zero, List.set_cons_succ, set_app, set_app0, aload_ptr, splice_eq, List.drop_nil, List.append_nil, isCell_int, isCell_bool, isCell_str, isCell_ptr, isCell_sl, isCell_nilsl, isCell_nilptr, isCell_iface, isCell_niliface, List.all_cons, List.all_nil, Bool.and_self, hget_at0, hget_at, len_app, List.length_cons, List.length_nil, get_app, get_app0, List.getElem?_cons_zero, List.getElem?_cons_succ, join_some, List.append_assoc, List.cons_append, List.nil_append, Nat.zero_add, Nat.add_zero, Nat.mul_one, chkRd_eq, chkAl_blk, if_true, if_false, Bool.false_eq_true, List.drop_succ_cons, List.drop_zero, List.take_succ_cons, List.take_zero, Bool.and_true, Bool.true_and, decide_true, decide_false, wrap64_id, aixG_eq, Nat.reduceAdd, Nat.reduceSub, Nat.reduceMul, Nat.reduceLeDiff, Nat.reduceLT, Int.reduceAdd, Int.reduceSub, Int.reduceMul, Int.reduceNeg, Int.reduceLT, Int.reduceLE, Int.reduceGT, Int.reduceGE, Int.reduceToNat, ↓reduceIte, and_self, true_and, and_true, ea]
    refine Post.call (c_newmon node (fs.map Four.part) _ _ oz.sl (by omega)) fun v g2 hv => ?_
    obtain ⟨b, F, rfl, hm, hF⟩ := hv
    obtain ⟨Fp, sp, hFp⟩ := ow.slb
    have sp2 := sp.keep (h' := h0 ++ (g ++ t') ++ g2) fun y hy => by
      have := hFp y hy
      rw [← List.append_assoc, List.append_assoc]
      exact hget_old _ this.2
    refine Post.call (c_watch node (fs.map Four.part) _ Fp _ sp2 (by omega)) fun v g3 hv => ?_
    obtain ⟨c, G, rfl, hw, hG⟩ := hv
    have hm2 := hm.keep (h' := h0 ++ (g ++ t') ++ g2 ++ g3) fun x hx => hget_old _ (hm.lt x hx)
    have e : h0 ++ (g ++ t') ++ g2 ++ g3 = h0 ++ (g ++ t' ++ g2 ++ g3) := by simp
    have ll := hm.lt
    rw [e] at hm2 hw ⊢
    refine repsLoop h0 acts x2 sx hr acts 0 b c _ F G _ rfl (by omega) hm2 hw (fun x hx => ?_) (fun x hx => ?_) (fun x hx hy => ?_) (Mon.new_ok _ _)
    · have := hF x hx
      simp at this
      omega
    · rcases hG x hx with this | this
      · simp at this
        omega
      · exact (hFp x this).1
    · have h1 := ll x hx
      have h2 := hF x hx
      rcases hG x hy with this | this
      · omega
      · have := (hFp x this).2
        simp at h1 h2 this
        omega
  | cons a s ih =>
    intro i x g hs hi ow
    obtain ⟨hk, ha, hs'⟩ := drop_cons hs
    rw [J3_3_eq]
    rw [decide_eq_true (by omega)]
    simp (dsimp := false) (implicitDefEqProofs := false) (disch := omega) only [gv_some, gr_some, gI_int, gB_bool, gS_str, gc_t, gc_f, gi_t, gi_f, gN_eq, gf_t, Option.bind_some, Option.bind_none, Option.map_some, acells_agg, acells_int, acells_bool, acells_str, acells_ptr, acells_sl, acells_nilsl, acells_nilptr, acells_iface, acells_niliface, aptr_ptr, anil_ptr, aextract_0, aextract_1, aextract_2, alenS_sl, alenS_nil, alenOf_sl, alenOf_nil, apartOf_agg, apart_t, apart_f, astore_ptr, hset_at0, hset_at, hs_same, hs_ne, len_hset, List.set_cons_zero, List.set_cons_succ, set_app, set_app0, aload_ptr, splice_eq, List.drop_nil, List.append_nil, isCell_int, isCell_bool, isCell_str, isCell_ptr, isCell_sl, isCell_nilsl, isCell_nilptr, isCell_iface, isCell_niliface, List.all_cons, List.all_nil, Bool.and_self, hget_at0, hget_at, len_app, List.length_cons, List.length_nil, get_app, get_app0, List.getElem?_cons_zero, List.getElem?_cons_succ, join_some, List.append_assoc, List.cons_append, List.nil_append, Nat.zero_add, Nat.add_zero, Nat.mul_one, chkRd_eq, chkAl_blk, if_true, if_false, Bool.false_eq_true, List.drop_succ_cons, List.drop_zero, List.take_succ_cons, List.take_zero, Bool.and_true, Bool.true_and, decide_true, decide_false, wrap64_id, aixG_eq, Nat.reduceAdd, Nat.reduceSub, Nat.reduceMul, Nat.reduceLeDiff, Nat.reduceLT, Int.reduceAdd, Int.reduceSub, Int.reduceMul, Int.reduceNeg, Int.reduceLT, Int.reduceLE, Int.reduceGT, Int.reduceGE, Int.reduceToNat, ↓reduceIte, and_self, true_and, and_true, J3_4_eq]
    obtain ⟨eb, eo, ix, ea⟩ := (sy.app g).elem Four.len i hk
    rw [ha] at ea
    refine Post.val ix ?_
    refine Post.val (ea.loadN 4 rfl) ?_
    have ec : a.cells = [.int .u8 a.a, .int .u8 a.b, .int .u8 a.c, .int .u8 a.d] := rfl
    simp (dsimp := false) (implicitDefEqProofs := false) (disch := omega) only [gv_some, gr_some, gI_int, gB_bool, gS_str, gc_t, gc_f, gi_t, gi_f, gN_eq, gf_t, Option.bind_some, Option.bind_none, Option.map_some, acells_agg, acells_int, acells_bool, acells_str, acells_ptr, acells_sl, acells_nilsl, acells_nilptr, acells_iface, acells_niliface, aptr_ptr, anil_ptr, aextract_0, aextract_1, aextract_2, alenS_sl, alenS_nil, alenOf_sl, alenOf_nil, apartOf_agg, apart_t, apart_f, astore_ptr, hset_at0, hset_at, hs_same, hs_ne, len_hset, List.set_cons_zero, List.set_cons_succ, set_app, set_app0, aload_ptr, splice_eq, List.drop_nil, List.append_nil, isCell_int, isCell_bool, isCell_str, isCell_ptr, isCell_sl, isCell_nilsl, isCell_nilptr, isCell_iface, isCell_niliface, List.all_cons, List.all_nil, Bool.and_self, hget_at0, hget_at, len_app, List.length_cons, List.length_nil, get_app, get_app0, List.getElem?_cons_zero, List.getElem?_cons_succ, join_some, List.append_assoc, List.cons_append, List.nil_append, Nat.zero_add, Nat.add_zero, Nat.mul_one, chkRd_eq, chkAl_blk, if_true, if_false, Bool.false_eq_true, List.drop_succ_cons, List.drop_zero, List.take_succ_cons, List.take_zero, Bool.and_true, Bool.true_and, decide_true, decide_false, wrap64_id, aixG_eq, Nat.reduceAdd, Nat.reduceSub, Nat.reduceMul, Nat.reduceLeDiff, Nat.reduceLT, Int.reduceAdd, Int.reduceSub, Int.reduceMul, Int.reduceNeg, Int.reduceLT, Int.reduceLE, Int.reduceGT, Int.reduceGE, Int.reduceToNat, ↓reduceIte, and_self, true_and, and_true, ec]
    have w1 : IntKind.i64.wrap (0 + 1) = 1 := rfl
    have w2 : IntKind.i64.wrap (1 + 1) = 2 := rfl
    have w3 : IntKind.i64.wrap (2 + 1) = 3 := rfl
    have w4 : IntKind.i64.wrap (3 + 1) = 4 := rfl
    rw [J3_6_eq, decide_eq_true (by omega)]
    simp (dsimp := false) (implicitDefEqProofs := false) (disch := omega) only [gv_some, gr_some, gI_int, gB_bool, gS_str, gc_t, gc_f, gi_t, gi_f, gN_eq, gf_t, Option.bind_some, Option.bind_none, Option.map_some, acells_agg, acells_int, acells_bool, acells_str, acells_ptr, acells_sl, acells_nilsl, acells_nilptr, acells_iface, acells_niliface, aptr_ptr, anil_ptr, aextract_0, aextract_1, aextract_2, alenS_sl, alenS_nil, alenOf_sl, alenOf_nil, apartOf_agg, apart_t, apart_f, astore_ptr, hset_at0, hset_at, hs_same, hs_ne, len_hset, List.set_cons_zero, List.set_cons_succ, set_app, set_app0, aload_ptr, splice_eq, List.drop_nil, List.append_nil, isCell_int, isCell_bool, isCell_str, isCell_ptr, isCell_sl, isCell_nilsl, isCell_nilptr, isCell_iface, isCell_niliface, List.all_cons, List.all_nil, Bool.and_self, hget_at0, hget_at, len_app, List.length_cons, List.length_nil, get_app, get_app0, List.getElem?_cons_zero, List.getElem?_cons_succ, join_some, List.append_assoc, List.cons_append, List.nil_append, Nat.zero_add, Nat.add_zero, Nat.mul_one, chkRd_eq, chkAl_blk, if_true, if_false, Bool.false_eq_true, List.drop_succ_cons, List.drop_zero, List.take_succ_cons, List.take_zero, Bool.and_true, Bool.true_and, decide_true, decide_false, wrap64_id, aixG_eq, Nat.reduceAdd, Nat.reduceSub, Nat.reduceMul, Nat.reduceLeDiff, Nat.reduceLT, Int.reduceAdd, Int.reduceSub, Int.reduceMul, Int.reduceNeg, Int.reduceLT, Int.reduceLE, Int.reduceGT, Int.reduceGE, Int.reduceToNat, ↓reduceIte, and_self, true_and, and_true, J3_8_eq, aixA_ptr]
    rw [J3_11_eq, w1, J3_6_eq, decide_eq_true (by omega)]
    simp (dsimp := false) (implicitDefEqProofs := false) (disch := omega) only [gv_some, gr_some, gI_int, gB_bool, gS_str, gc_t, gc_f, gi_t, gi_f, gN_eq, gf_t, Option.bind_some, Option.bind_none, Option.map_some, acells_agg, acells_int, acells_bool, acells_str, acells_ptr, acells_sl, acells_nilsl, acells_nilptr, acells_iface, acells_niliface, aptr_ptr, anil_ptr, aextract_0, aextract_1, aextract_2, alenS_sl, alenS_nil, alenOf_sl, alenOf_nil, apartOf_agg, apart_t, apart_f, astore_ptr, hset_at0, hset_at, hs_same, hs_ne, len_hset, List.set_cons_zero, List.set_cons_succ, set_app, set_app0, aload_ptr, splice_eq, List.drop_nil, List.append_nil, isCell_int, isCell_bool, isCell_str, isCell_ptr, isCell_sl, isCell_nilsl, isCell_nilptr, isCell_iface, isCell_niliface, List.all_cons, List.all_nil, Bool.and_self, hget_at0, hget_at, len_app, List.length_cons, List.length_nil, get_app, get_app0, List.getElem?_cons_zero, List.getElem?_cons_succ, join_some, List.append_assoc, List.cons_append, List.nil_append, Nat.zero_add, Nat.add_zero, Nat.mul_one, chkRd_eq, chkAl_blk, if_true, if_false, Bool.false_eq_true, List.drop_succ_cons, List.drop_zero, List.take_succ_cons, List.take_zero, Bool.and_true, Bool.true_and, decide_true, decide_false, wrap64_id, aixG_eq, Nat.reduceAdd, Nat.reduceSub, Nat.reduceMul, Nat.reduceLeDiff, Nat.reduceLT, Int.reduceAdd, Int.reduceSub, Int.reduceMul, Int.reduceNeg, Int.reduceLT, Int.reduceLE, Int.reduceGT, Int.reduceGE, Int.reduceToNat, ↓reduceIte, and_self, true_and, and_true, J3_8_eq, aixA_ptr]
    rw [J3_11_eq, w2, J3_6_eq, decide_eq_true (by omega)]
    simp (dsimp := false) (implicitDefEqProofs := false) (disch := omega) only [gv_some, gr_some, gI_int, gB_bool, gS_str, gc_t, gc_f, gi_t, gi_f, gN_eq, gf_t, Option.bind_some, Option.bind_none, Option.map_some, acells_agg, acells_int, acells_bool, acells_str, acells_ptr, acells_sl, acells_nilsl, acells_nilptr, acells_iface, acells_niliface, aptr_ptr, anil_ptr, aextract_0, aextract_1, aextract_2, alenS_sl, alenS_nil, alenOf_sl, alenOf_nil, apartOf_agg, apart_t, apart_f, astore_ptr, hset_at0, hset_at, hs_same, hs_ne, len_hset, List.set_cons_zero, List.set_cons_succ, set_app, set_app0, aload_ptr, splice_eq, List.drop_nil, List.append_nil, isCell_int, isCell_bool, isCell_str, isCell_ptr, isCell_sl, isCell_nilsl, isCell_nilptr, isCell_iface, isCell_niliface, List.all_cons, List.all_nil, Bool.and_self, hget_at0, hget_at, len_app, List.length_cons, List.length_nil, get_app, get_app0, List.getElem?_cons_zero, List.getElem?_cons_succ, join_some, List.append_assoc, List.cons_append, List.nil_append, Nat.zero_add, Nat.add_zero, Nat.mul_one, chkRd_eq, chkAl_blk, if_true, if_false, Bool.false_eq_true, List.drop_succ_cons, List.drop_zero, List.take_succ_cons, List.take_zero, Bool.and_true, Bool.true_and, decide_true, decide_false, wrap64_id, aixG_eq, Nat.reduceAdd, Nat.reduceSub, Nat.reduceMul, Nat.reduceLeDiff, Nat.reduceLT, Int.reduceAdd, Int.reduceSub, Int.reduceMul, Int.reduceNeg, Int.reduceLT, Int.reduceLE, Int.reduceGT, Int.reduceGE, Int.reduceToNat, ↓reduceIte, and_self, true_and, and_true, J3_8_eq, aixA_ptr]
    rw [J3_11_eq, w3, J3_6_eq, decide_eq_true (by omega)]
    simp (dsimp := false) (implicitDefEqProofs := false) (disch := omega) only [gv_some, gr_some, gI_int, gB_bool, gS_str, gc_t, gc_f, gi_t, gi_f, gN_eq, gf_t, Option.bind_some, Option.bind_none, Option.map_some, acells_agg, acells_int, acells_bool, acells_str, acells_ptr, acells_sl, acells_nilsl, acells_nilptr, acells_iface, acells_niliface, aptr_ptr, anil_ptr, aextract_0, aextract_1, aextract_2, alenS_sl, alenS_nil, alenOf_sl, alenOf_nil, apartOf_agg, apart_t, apart_f, astore_ptr, hset_at0, hset_at, hs_same, hs_ne, len_hset, List.set_cons_zero, List.set_cons_succ, set_app, set_app0, aload_ptr, splice_eq, List.drop_nil, List.append_nil, isCell_int, isCell_bool, isCell_str, isCell_ptr, isCell_sl, isCell_nilsl, isCell_nilptr, isCell_iface, isCell_niliface, List.all_cons, List.all_nil, Bool.and_self, hget_at0, hget_at, len_app, List.length_cons, List.length_nil, get_app, get_app0, List.getElem?_cons_zero, List.getElem?_cons_succ, join_some, List.append_assoc, List.cons_append, List.nil_append, Nat.zero_add, Nat.add_zero, Nat.mul_one, chkRd_eq, chkAl_blk, if_true, if_false, Bool.false_eq_true, List.drop_succ_cons, List.drop_zero, List.take_succ_cons, List.take_zero, Bool.and_true, Bool.true_and, decide_true, decide_false, wrap64_id, aixG_eq, Nat.reduceAdd, Nat.reduceSub, Nat.reduceMul, Nat.reduceLeDiff, Nat.reduceLT, Int.reduceAdd, Int.reduceSub, Int.reduceMul, Int.reduceNeg, Int.reduceLT, Int.reduceLE, Int.reduceGT, Int.reduceGE, Int.reduceToNat, ↓reduceIte, and_self, true_and, and_true, J3_8_eq, aixA_ptr]
    rw [J3_11_eq, w4, J3_6_eq, decide_eq_false (by omega)]
    have ep : ([.int .i64 0, .int .i64 0, .int .i64 0, .int .i64 0, .int .i64 0, .int .u8 (a.a.tmod 4), .int .u8 (a.b.tmod 4), .int .u8 (a.c.tmod 4), .int .u8 (a.d.tmod 4)] : List AV) = a.part.cells := rfl
    have pl : a.part.cells.length = 9 := rfl
    have pt : a.part.cells.take 9 = a.part.cells := rfl
    have eb : ∀ H, abslS 9 1 [.int .i64 0, .int .i64 0, .int .i64 0, .int .i64 0, .int .i64 0, .int .u8 0, .int .u8 0, .int .u8 0, .int .u8 0] [(0, .agg a.part.cells)] H = some (.sl H.length 0 1 9, H ++ [some (.cells false a.part.cells)]) := fun H => rfl
    simp (dsimp := false) (implicitDefEqProofs := false) (disch := omega) only [gv_some, gr_some, gI_int, gB_bool, gS_str, gc_t, gc_f, gi_t, gi_f, gN_eq, gf_t, Option.bind_some, Option.bind_none, Option.map_some, acells_agg, acells_int, acells_bool, acells_str, acells_ptr, acells_sl, acells_nilsl, acells_nilptr, acells_iface, acells_niliface, aptr_ptr, anil_ptr, aextract_0, aextract_1, aextract_2, alenS_sl, alenS_nil, alenOf_sl, alenOf_nil, apartOf_agg, apart_t, apart_f, astore_ptr, hset_at0, hset_at, hs_same, hs_ne, len_hset, List.set_cons_zero, List.set_cons_succ, set_app, set_app0, aload_ptr, splice_eq, List.drop_nil, List.append_nil, isCell_int, isCell_bool, isCell_str, isCell_ptr, isCell_sl, isCell_nilsl, isCell_nilptr, isCell_iface, isCell_niliface, List.all_cons, List.all_nil, Bool.and_self, hget_at0, hget_at, len_app, List.length_cons, List.length_nil, get_app, get_app0, List.getElem?_cons_zero, List.getElem?_cons_succ, join_some, List.append_assoc, List.cons_append, List.nil_append, Nat.zero_add, Nat.add_zero, Nat.mul_one, chkRd_eq, chkAl_blk, if_true, if_false, Bool.false_eq_true, List.drop_succ_cons, List.drop_zero, List.take_succ_cons, List.take_zero, Bool.and_true, Bool.true_and, decide_true, decide_false, wrap64_id, aixG_eq, Nat.reduceAdd, Nat.reduceSub, Nat.reduceMul, Nat.reduceLeDiff, Nat.reduceLT, Int.reduceAdd, Int.reduceSub, Int.reduceMul, Int.reduceNeg, Int.reduceLT, Int.reduceLE, Int.reduceGT, Int.reduceGE, Int.reduceToNat, ↓reduceIte, and_self, true_and, and_true, J3_9_eq, ep]
    simp (dsimp := false) (implicitDefEqProofs := false) (disch := omega) only [gv_some, gr_some, gI_int, gB_bool, gS_str, gc_t, gc_f, gi_t, gi_f, gN_eq, gf_t, Option.bind_some, Option.bind_none, Option.map_some, acells_agg, acells_int, acells_bool, acells_str, acells_ptr, acells_sl, acells_nilsl, acells_nilptr, acells_iface, acells_niliface, aptr_ptr, anil_ptr, aextract_0, aextract_1, aextract_2, alenS_sl, alenS_nil, alenOf_sl, alenOf_nil, apartOf_agg, apart_t, apart_f, astore_ptr, hset_at0, hset_at, hs_same, hs_ne, len_hset, List.set_cons_zero, List.set_cons_succ, set_app, set_app0, aload_ptr, splice_eq, List.drop_nil, List.append_nil, isCell_int, isCell_bool, isCell_str, isCell_ptr, isCell_sl, isCell_nilsl, isCell_nilptr, isCell_iface, isCell_niliface, List.all_cons, List.all_nil, Bool.and_self, hget_at0, hget_at, len_app, List.length_cons, List.length_nil, get_app, get_app0, List.getElem?_cons_zero, List.getElem?_cons_succ, join_some, List.append_assoc, List.cons_append, List.nil_append, Nat.zero_add, Nat.add_zero, Nat.mul_one, chkRd_eq, chkAl_blk, if_true, if_false, Bool.false_eq_true, List.drop_succ_cons, List.drop_zero, List.take_succ_cons, List.take_zero, Bool.and_true, Bool.true_and, decide_true, decide_false, wrap64_id, aixG_eq, Nat.reduceAdd, Nat.reduceSub, Nat.reduceMul, Nat.reduceLeDiff, Nat.reduceLT, Int.reduceAdd, Int.reduceSub, Int.reduceMul, Int.reduceNeg, Int.reduceLT, Int.reduceLE, Int.reduceGT, Int.reduceGE, Int.reduceToNat, ↓reduceIte, and_self, true_and, and_true, pl, pt, eb, Nat.le_refl]
    refine Post.val (a := [a.part].flatMap Part.cells) (Sl.src (.inr ⟨_, 0, rfl, false, a.part.cells, ?_, by simp [Part.cells], by simp [Part.cells]⟩) Part.len) ?_
    · rw [hget_at, get_app]; rfl
    have o2 : Ow h0.length (h0 ++ (g ++ [some (.cells false [.int .u8 a.a, .int .u8 a.b, .int .u8 a.c, .int .u8 a.d]), some (.cells false a.part.cells), some (.cells false a.part.cells)])) 9 Part.cells ((fs.take i).map Four.part) x := by rw [← List.append_assoc]; exact ow.app _
    obtain ⟨z, t', ea, oz⟩ := aapp_ow (by' := 48) (l2 := [a.part]) Part.len Part.isc o2 (by simp; omega)
    have l1 : [a.part].length = 1 := rfl
    rw [l1] at ea
    simp (dsimp := false) (implicitDefEqProofs := false) (disch := omega) only [gv_some, gr_some, gI_int, gB_bool, gS_str, gc_t, gc_f, gi_t, gi_f, gN_eq, gf_t, Option.bind_some, Option.bind_none, Option.map_some, acells_agg, acells_int, acells_bool, acells_str, acells_ptr, acells_sl, acells_nilsl, acells_nilptr, acells_iface, acells_niliface, aptr_ptr, anil_ptr, aextract_0, aextract_1, aextract_2, alenS_sl, alenS_nil, alenOf_sl, alenOf_nil, apartOf_agg, apart_t, apart_f, astore_ptr, hset_at0, hset_at, hs_same, hs_ne, len_hset, List.set_cons_zero, List.set_cons_succ, set_app, set_app0, aload_ptr, splice_eq, List.drop_nil, List.append_nil, isCell_int, isCell_bool, isCell_str, isCell_ptr, isCell_sl, isCell_nilsl, isCell_nilptr, isCell_iface, isCell_niliface, List.all_cons, List.all_nil, Bool.and_self, hget_at0, hget_at, len_app, List.length_cons, List.length_nil, get_app, get_app0, List.getElem?_cons_zero, List.getElem?_cons_succ, join_some, List.append_assoc, List.cons_append, List.nil_append, Nat.zero_add, Nat.add_zero, Nat.mul_one, chkRd_eq, chkAl_blk, if_true, if_false, Bool.false_eq_true, List.drop_succ_cons, List.drop_zero, List.take_succ_cons, List.take_zero, Bool.and_true, Bool.true_and, decide_true, decide_false, wrap64_id, aixG_eq, Nat.reduceAdd, Nat.reduceSub, Nat.reduceMul, Nat.reduceLeDiff, Nat.reduceLT, Int.reduceAdd, Int.reduceSub, Int.reduceMul, Int.reduceNeg, Int.reduceLT, Int.reduceLE, Int.reduceGT, Int.reduceGE, Int.reduceToNat, ↓reduceIte, and_self, true_and, and_true, ea]
    rw [J3_12_eq, wsucc (by omega)]
    refine ih (i + 1) z t' hs' (by omega) ?_
    have : (fs.take (i + 1)).map Four.part = (fs.take i).map Four.part ++ [a.part] := by rw [List.take_succ_eq_append_getElem hk, ha, List.map_append]; rfl
    rw [this]
    exact oz
end
theorem healthReports : LawTrue Try.prog Nt 9 3 [3, 22, 23] := by
  rintro h xs ⟨x, r, rfl, hx, x2, r2, rfl, hx2, x3, r3, rfl, hx3, hr⟩
  cases hr
  obtain ⟨node, rfl, _⟩ := argvInt (f := 8) hx
  obtain ⟨fs, s0, _⟩ := argvFours hx2
  obtain ⟨acts, s1, hr, _⟩ := argvActs hx3
  have main : Post (acall Try.prog Nt 3 [.int .i64 node, x2, x3] h) fun v _ => v = .bool true := by
    rw [E3]
    refine Post.bind (c_awake h) ?_
    rintro v h1 ⟨rfl, g, rfl⟩
    simp (dsimp := false) (implicitDefEqProofs := false) (disch := omega) only [gv_some, gr_some, gI_int, gB_bool, gS_str, gc_t, gc_f, gi_t, gi_f, gN_eq, gf_t, Option.bind_some, Option.bind_none, Option.map_some, acells_agg, acells_int, acells_bool, acells_str, acells_ptr, acells_sl, acells_nilsl, acells_nilptr, acells_iface, acells_niliface, aptr_ptr, anil_ptr, aextract_0, aextract_1, aextract_2, alenS_sl, alenS_nil, alenOf_sl, alenOf_nil, apartOf_agg, apart_t, apart_f, astore_ptr, hset_at0, hset_at, hs_same, hs_ne, len_hset, List.set_cons_zero, List.set_cons_succ, set_app, set_app0, aload_ptr, splice_eq, List.drop_nil, List.append_nil, isCell_int, isCell_bool, isCell_str, isCell_ptr, isCell_sl, isCell_nilsl, isCell_nilptr, isCell_iface, isCell_niliface, List.all_cons, List.all_nil, Bool.and_self, hget_at0, hget_at, len_app, List.length_cons, List.length_nil, get_app, get_app0, List.getElem?_cons_zero, List.getElem?_cons_succ, join_some, List.append_assoc, List.cons_append, List.nil_append, Nat.zero_add, Nat.add_zero, Nat.mul_one, chkRd_eq, chkAl_blk, if_true, if_false, Bool.false_eq_true, List.drop_succ_cons, List.drop_zero, List.take_succ_cons, List.take_zero, Bool.and_true, Bool.true_and, decide_true, decide_false, wrap64_id, aixG_eq, Nat.reduceAdd, Nat.reduceSub, Nat.reduceMul, Nat.reduceLeDiff, Nat.reduceLT, Int.reduceAdd, Int.reduceSub, Int.reduceMul, Int.reduceNeg, Int.reduceLT, Int.reduceLE, Int.reduceGT, Int.reduceGE, Int.reduceToNat, ↓reduceIte, and_self, true_and, and_true, Bool.not_true, J3_1_eq, (s0.app g).len]
    refine Post.cdd (fun c => Post.done rfl) fun c => ?_
    rw [J3_2_eq]
    simp (dsimp := false) (implicitDefEqProofs := false) (disch := omega) only [gv_some, gr_some, gI_int, gB_bool, gS_str, gc_t, gc_f, gi_t, gi_f, gN_eq, gf_t, Option.bind_some, Option.bind_none, Option.map_some, acells_agg, acells_int, acells_bool, acells_str, acells_ptr, acells_sl, acells_nilsl, acells_nilptr, acells_iface, acells_niliface, aptr_ptr, anil_ptr, aextract_0, aextract_1, aextract_2, alenS_sl, alenS_nil, alenOf_sl, alenOf_nil, apartOf_agg, apart_t, apart_f, astore_ptr, hset_at0, hset_at, hs_same, hs_ne, len_hset, List.set_cons_zero, List.set_cons_succ, set_app, set_app0, aload_ptr, splice_eq, List.drop_nil, List.append_nil, isCell_int, isCell_bool, isCell_str, isCell_ptr, isCell_sl, isCell_nilsl, isCell_nilptr, isCell_iface, isCell_niliface, List.all_cons, List.all_nil, Bool.and_self, hget_at0, hget_at, len_app, List.length_cons, List.length_nil, get_app, get_app0, List.getElem?_cons_zero, List.getElem?_cons_succ, join_some, List.append_assoc, List.cons_append, List.nil_append, Nat.zero_add, Nat.add_zero, Nat.mul_one, chkRd_eq, chkAl_blk, if_true, if_false, Bool.false_eq_true, List.drop_succ_cons, List.drop_zero, List.take_succ_cons, List.take_zero, Bool.and_true, Bool.true_and, decide_true, decide_false, wrap64_id, aixG_eq, Nat.reduceAdd, Nat.reduceSub, Nat.reduceMul, Nat.reduceLeDiff, Nat.reduceLT, Int.reduceAdd, Int.reduceSub, Int.reduceMul, Int.reduceNeg, Int.reduceLT, Int.reduceLE, Int.reduceGT, Int.reduceGE, Int.reduceToNat, ↓reduceIte, and_self, true_and, and_true, (s0.app g).len]
    exact repsParts h acts x3 s1 hr _ fs x2 s0 (by omega) fs 0 .nilsl g rfl (by omega) Ow.nil
  obtain ⟨v, g, e, rfl⟩ := main
  exact ⟨_, e⟩
end Go.Ab
end
section
/-
  Functions of the program as equations: written by program (wip/tools/prt.py).
-/
namespace Go.Ab
open Go.Proofs
/-! 8: escapement/escapementlaw15.HealthLogs -/
noncomputable def K8 : Kont := kend Try.prog 63 Try.f8.results.toList
noncomputable def K8_1 (lp : Loop) (jn : Join) : Kont := kseqJ jn (codeJ Try.prog Nt lp jn 63 (nat' [true, true, true, true, true] A8) (cat [true, true, true, true, true] C8)) (some [0, 3]) K8
noncomputable def K8_2 (lp : Loop) (jn : Join) : Kont := kblock 0 none (K8_1 lp jn)
noncomputable def K8_3 (lp : Loop) (jn : Join) : Kont := kloop (lp (some [0, 3, 14, 15, 16]) (codeJ Try.prog Nt lp jn 63 (nat' [true, true, true, true, false, true, false, false] A8) (cat [true, true, true, true, false, true, false, false] C8))) (some [0, 3, 14, 15, 16]) (K8_2 lp jn)
noncomputable def K8_4 (lp : Loop) (jn : Join) : Kont := kseqJ jn (codeJ Try.prog Nt lp jn 63 (nat' [true, true, true, true, true, true, true] A8) (cat [true, true, true, true, true, true, true] C8)) (some [0, 3]) K8
noncomputable def K8_5 (lp : Loop) (jn : Join) : Kont := kblock 2 none (K8_4 lp jn)
noncomputable def K8_6 (lp : Loop) (jn : Join) : Kont := kloop (lp (some [0, 3, 6, 37, 38]) (codeJ Try.prog Nt lp jn 63 (nat' [true, true, true, true, true, true, false, true, false, false] A8) (cat [true, true, true, true, true, true, false, true, false, false] C8))) (some [0, 3, 6, 37, 38]) (K8_5 lp jn)
noncomputable def J8_1' (lp : Loop) (jn : Join) (x0 : AV) (h : AHeap) : Res := jn (codeJ Try.prog Nt lp jn 63 (nat' [true, true] A8) (cat [true, true] C8)) (envOf [(0, x0)]) h K8
noncomputable def J8_1 (x0 : AV) (h : AHeap) : Res := J8_1' aloop (fun s => s) x0 h
noncomputable def J8_2' (lp : Loop) (jn : Join) (x0 : AV) (h : AHeap) : Res := jn (codeJ Try.prog Nt lp jn 63 (nat' [true, true, true] A8) (cat [true, true, true] C8)) (envOf [(0, x0)]) h K8
noncomputable def J8_2 (x0 : AV) (h : AHeap) : Res := J8_2' aloop (fun s => s) x0 h
noncomputable def J8_3' (lp : Loop) (jn : Join) (x0 : AV) (x3 : Nat) (x14 : AV) (x15 : Int) (x16 : Int) (h : AHeap) : Res := lp (some [0, 3, 14, 15, 16]) (codeJ Try.prog Nt lp jn 63 (nat' [true, true, true, true, false, true, false, false] A8) (cat [true, true, true, true, false, true, false, false] C8)) (envOf [(0, x0), (3, (.ptr x3 0)), (14, x14), (15, (.int .i64 x15)), (16, (.int .i64 x16))]) h (K8_2 lp jn)
noncomputable def J8_3 (x0 : AV) (x3 : Nat) (x14 : AV) (x15 : Int) (x16 : Int) (h : AHeap) : Res := J8_3' aloop (fun s => s) x0 x3 x14 x15 x16 h
noncomputable def J8_4' (lp : Loop) (jn : Join) (x0 : AV) (x3 : Nat) (x14 : AV) (x15 : Int) (x16 : Int) (h : AHeap) : Res := jn (codeJ Try.prog Nt lp jn 63 (nat' [true, true, true, true, false, true, false, false, true, true] A8) (cat [true, true, true, true, false, true, false, false, true, true] C8)) (envOf [(0, x0), (3, (.ptr x3 0)), (14, x14), (15, (.int .i64 x15)), (16, (.int .i64 x16))]) h (K8_3 lp jn)
noncomputable def J8_4 (x0 : AV) (x3 : Nat) (x14 : AV) (x15 : Int) (x16 : Int) (h : AHeap) : Res := J8_4' aloop (fun s => s) x0 x3 x14 x15 x16 h
noncomputable def J8_5' (lp : Loop) (jn : Join) (x0 : AV) (x3 : Nat) (h : AHeap) : Res := jn (codeJ Try.prog Nt lp jn 63 (nat' [true, true, true, true, true] A8) (cat [true, true, true, true, true] C8)) (envOf [(0, x0), (3, (.ptr x3 0))]) h K8
noncomputable def J8_5 (x0 : AV) (x3 : Nat) (h : AHeap) : Res := J8_5' aloop (fun s => s) x0 x3 h
noncomputable def J8_6' (lp : Loop) (jn : Join) (x0 : AV) (x3 : Nat) (x14 : AV) (x15 : Int) (x16 : Int) (h : AHeap) : Res := jn (codeJ Try.prog Nt lp jn 63 (nat' [true, true, true, true, false, true, false, false, true, true, true] A8) (cat [true, true, true, true, false, true, false, false, true, true, true] C8)) (envOf [(0, x0), (3, (.ptr x3 0)), (14, x14), (15, (.int .i64 x15)), (16, (.int .i64 x16))]) h (K8_3 lp jn)
noncomputable def J8_6 (x0 : AV) (x3 : Nat) (x14 : AV) (x15 : Int) (x16 : Int) (h : AHeap) : Res := J8_6' aloop (fun s => s) x0 x3 x14 x15 x16 h
noncomputable def J8_7' (lp : Loop) (jn : Join) (x0 : AV) (x3 : Nat) (x6 : AV) (x37 : Int) (x38 : Int) (h : AHeap) : Res := lp (some [0, 3, 6, 37, 38]) (codeJ Try.prog Nt lp jn 63 (nat' [true, true, true, true, true, true, false, true, false, false] A8) (cat [true, true, true, true, true, true, false, true, false, false] C8)) (envOf [(0, x0), (3, (.ptr x3 0)), (6, x6), (37, (.int .i64 x37)), (38, (.int .i64 x38))]) h (K8_5 lp jn)
noncomputable def J8_7 (x0 : AV) (x3 : Nat) (x6 : AV) (x37 : Int) (x38 : Int) (h : AHeap) : Res := J8_7' aloop (fun s => s) x0 x3 x6 x37 x38 h
noncomputable def J8_8' (lp : Loop) (jn : Join) (x0 : AV) (x3 : Nat) (x6 : AV) (x37 : Int) (x38 : Int) (h : AHeap) : Res := jn (codeJ Try.prog Nt lp jn 63 (nat' [true, true, true, true, true, true, false, true, false, false, true, true] A8) (cat [true, true, true, true, true, true, false, true, false, false, true, true] C8)) (envOf [(0, x0), (3, (.ptr x3 0)), (6, x6), (37, (.int .i64 x37)), (38, (.int .i64 x38))]) h (K8_6 lp jn)
noncomputable def J8_8 (x0 : AV) (x3 : Nat) (x6 : AV) (x37 : Int) (x38 : Int) (h : AHeap) : Res := J8_8' aloop (fun s => s) x0 x3 x6 x37 x38 h
noncomputable def J8_9' (lp : Loop) (jn : Join) (x0 : AV) (x3 : Nat) (h : AHeap) : Res := jn (codeJ Try.prog Nt lp jn 63 (nat' [true, true, true, true, true, true, true] A8) (cat [true, true, true, true, true, true, true] C8)) (envOf [(0, x0), (3, (.ptr x3 0))]) h K8
noncomputable def J8_9 (x0 : AV) (x3 : Nat) (h : AHeap) : Res := J8_9' aloop (fun s => s) x0 x3 h
noncomputable def J8_10' (lp : Loop) (jn : Join) (x0 : AV) (x3 : Nat) (x6 : AV) (x37 : Int) (x38 : Int) (h : AHeap) : Res := jn (codeJ Try.prog Nt lp jn 63 (nat' [true, true, true, true, true, true, false, true, false, false, true, true, true] A8) (cat [true, true, true, true, true, true, false, true, false, false, true, true, true] C8)) (envOf [(0, x0), (3, (.ptr x3 0)), (6, x6), (37, (.int .i64 x37)), (38, (.int .i64 x38))]) h (K8_6 lp jn)
noncomputable def J8_10 (x0 : AV) (x3 : Nat) (x6 : AV) (x37 : Int) (x38 : Int) (h : AHeap) : Res := J8_10' aloop (fun s => s) x0 x3 x6 x37 x38 h
theorem J8_1_g (lp : Loop) (jn : Join) (x0 : AV) (h : AHeap) : codeJ Try.prog Nt lp jn 63 (nat' [true, true] A8) (cat [true, true] C8) (envOf [(0, x0)]) h K8 = (gv (alenS x0) fun m4 => gc (decide ((m4 : Int) > 500)) (some ((.bool true), h)) (J8_2' lp jn x0 h)) := by kernel_rfl
theorem J8_1_eq (x0 : AV) (h : AHeap) : J8_1 x0 h = (gv (alenS x0) fun m4 => gc (decide ((m4 : Int) > 500)) (some ((.bool true), h)) (J8_2 x0 h)) := J8_1_g aloop (fun s => s) x0 h
theorem J8_2_g (lp : Loop) (jn : Join) (x0 : AV) (h : AHeap) : codeJ Try.prog Nt lp jn 63 (nat' [true, true, true] A8) (cat [true, true, true] C8) (envOf [(0, x0)]) h K8 = (gN h [.nilsl] fun b5 h6 => gv (alenS x0) fun m7 => J8_3' lp jn x0 b5 x0 (m7 : Int) 0 h6) := by kernel_rfl
theorem J8_2_eq (x0 : AV) (h : AHeap) : J8_2 x0 h = (gN h [.nilsl] fun b5 h6 => gv (alenS x0) fun m7 => J8_3 x0 b5 x0 (m7 : Int) 0 h6) := J8_2_g aloop (fun s => s) x0 h
theorem J8_3_g (lp : Loop) (jn : Join) (x0 : AV) (x3 : Nat) (x14 : AV) (x15 : Int) (x16 : Int) (h : AHeap) : codeJ Try.prog Nt lp jn 63 (nat' [true, true, true, true, false, true, false, false] A8) (cat [true, true, true, true, false, true, false, false] C8) (envOf [(0, x0), (3, (.ptr x3 0)), (14, x14), (15, (.int .i64 x15)), (16, (.int .i64 x16))]) h (kloop (lp (some [0, 3, 14, 15, 16]) (codeJ Try.prog Nt lp jn 63 (nat' [true, true, true, true, false, true, false, false] A8) (cat [true, true, true, true, false, true, false, false] C8))) (some [0, 3, 14, 15, 16]) (K8_2 lp jn)) = (gc (decide (x16 < x15)) (J8_4' lp jn x0 x3 x14 x15 x16 h) (J8_5' lp jn x0 x3 h)) := by kernel_rfl
theorem J8_3_eq (x0 : AV) (x3 : Nat) (x14 : AV) (x15 : Int) (x16 : Int) (h : AHeap) : J8_3 x0 x3 x14 x15 x16 h = (gc (decide (x16 < x15)) (J8_4 x0 x3 x14 x15 x16 h) (J8_5 x0 x3 h)) := (aloop_at (some [0, 3, 14, 15, 16]) (nat' [true, true, true, true, false, true, false, false] A8) (cat [true, true, true, true, false, true, false, false] C8) (envOf [(0, x0), (3, (.ptr x3 0)), (14, x14), (15, (.int .i64 x15)), (16, (.int .i64 x16))]) h (K8_2 aloop (fun s => s))).trans (J8_3_g aloop (fun s => s) x0 x3 x14 x15 x16 h)
theorem J8_4_g (lp : Loop) (jn : Join) (x0 : AV) (x3 : Nat) (x14 : AV) (x15 : Int) (x16 : Int) (h : AHeap) : codeJ Try.prog Nt lp jn 63 (nat' [true, true, true, true, false, true, false, false, true, true] A8) (cat [true, true, true, true, false, true, false, false, true, true] C8) (envOf [(0, x0), (3, (.ptr x3 0)), (14, x14), (15, (.int .i64 x15)), (16, (.int .i64 x16))]) h (K8_3 lp jn) = (gv (aixS 5 x14 x16) fun v8 => gv (aload true 5 v8 h) fun v9 => gN h [(.int .u32 0), (.int .u8 0), (.int .u8 0), (.int .u8 0), (.int .u8 0)] fun b10 h11 => gv (astore true 5 (.ptr b10 0) v9 h11) fun h12 => gv (aload true 5 (.ptr b10 0) h12) fun v13 => gr (acall Try.prog Nt 20 [(.ptr x3 0), v13] h12) fun r14 h15 => gv (aslS 5 x0 (some (.int .i64 (if (IntKind.i64.wrap ((IntKind.i64.wrap (x16 + 1)) - 16)) > 0 then (IntKind.i64.wrap ((IntKind.i64.wrap (x16 + 1)) - 16)) else 0))) (some (.int .i64 (IntKind.i64.wrap (x16 + 1))))) fun v16 => gr (acall Try.prog Nt 21 [(.ptr x3 0)] h15) fun r17 h18 => gf ((chkRd (gv (aslS 5 x0 (some (.int .i64 (if (IntKind.i64.wrap ((IntKind.i64.wrap (x16 + 1)) - 16)) > 0 then (IntKind.i64.wrap ((IntKind.i64.wrap (x16 + 1)) - 16)) else 0))) (some (.int .i64 (IntKind.i64.wrap (x16 + 1))))) fun v19 => some v19) v16) && true) (gr (acall Try.prog Nt 13 [r17, v16] h18) fun r20 h21 => gB r20 fun b22 => gc (!b22) (some ((.bool false), h21)) (J8_6' lp jn x0 x3 x14 x15 x16 h21))) := by kernel_rfl
theorem J8_4_eq (x0 : AV) (x3 : Nat) (x14 : AV) (x15 : Int) (x16 : Int) (h : AHeap) : J8_4 x0 x3 x14 x15 x16 h = (gv (aixS 5 x14 x16) fun v8 => gv (aload true 5 v8 h) fun v9 => gN h [(.int .u32 0), (.int .u8 0), (.int .u8 0), (.int .u8 0), (.int .u8 0)] fun b10 h11 => gv (astore true 5 (.ptr b10 0) v9 h11) fun h12 => gv (aload true 5 (.ptr b10 0) h12) fun v13 => gr (acall Try.prog Nt 20 [(.ptr x3 0), v13] h12) fun r14 h15 => gv (aslS 5 x0 (some (.int .i64 (if (IntKind.i64.wrap ((IntKind.i64.wrap (x16 + 1)) - 16)) > 0 then (IntKind.i64.wrap ((IntKind.i64.wrap (x16 + 1)) - 16)) else 0))) (some (.int .i64 (IntKind.i64.wrap (x16 + 1))))) fun v16 => gr (acall Try.prog Nt 21 [(.ptr x3 0)] h15) fun r17 h18 => gf ((chkRd (gv (aslS 5 x0 (some (.int .i64 (if (IntKind.i64.wrap ((IntKind.i64.wrap (x16 + 1)) - 16)) > 0 then (IntKind.i64.wrap ((IntKind.i64.wrap (x16 + 1)) - 16)) else 0))) (some (.int .i64 (IntKind.i64.wrap (x16 + 1))))) fun v19 => some v19) v16) && true) (gr (acall Try.prog Nt 13 [r17, v16] h18) fun r20 h21 => gB r20 fun b22 => gc (!b22) (some ((.bool false), h21)) (J8_6 x0 x3 x14 x15 x16 h21))) := J8_4_g aloop (fun s => s) x0 x3 x14 x15 x16 h
theorem J8_5_g (lp : Loop) (jn : Join) (x0 : AV) (x3 : Nat) (h : AHeap) : codeJ Try.prog Nt lp jn 63 (nat' [true, true, true, true, true] A8) (cat [true, true, true, true, true] C8) (envOf [(0, x0), (3, (.ptr x3 0))]) h K8 = (gr (acall Try.prog Nt 21 [(.ptr x3 0)] h) fun r23 h24 => gv (alenS r23) fun m25 => J8_7' lp jn x0 x3 r23 (m25 : Int) 0 h24) := by kernel_rfl
theorem J8_5_eq (x0 : AV) (x3 : Nat) (h : AHeap) : J8_5 x0 x3 h = (gr (acall Try.prog Nt 21 [(.ptr x3 0)] h) fun r23 h24 => gv (alenS r23) fun m25 => J8_7 x0 x3 r23 (m25 : Int) 0 h24) := J8_5_g aloop (fun s => s) x0 x3 h
theorem J8_6_g (lp : Loop) (jn : Join) (x0 : AV) (x3 : Nat) (x14 : AV) (x15 : Int) (x16 : Int) (h : AHeap) : codeJ Try.prog Nt lp jn 63 (nat' [true, true, true, true, false, true, false, false, true, true, true] A8) (cat [true, true, true, true, false, true, false, false, true, true, true] C8) (envOf [(0, x0), (3, (.ptr x3 0)), (14, x14), (15, (.int .i64 x15)), (16, (.int .i64 x16))]) h (K8_3 lp jn) = (J8_3' lp jn x0 x3 x14 x15 (IntKind.i64.wrap (x16 + 1)) h) := by kernel_rfl
theorem J8_6_eq (x0 : AV) (x3 : Nat) (x14 : AV) (x15 : Int) (x16 : Int) (h : AHeap) : J8_6 x0 x3 x14 x15 x16 h = (J8_3 x0 x3 x14 x15 (IntKind.i64.wrap (x16 + 1)) h) := J8_6_g aloop (fun s => s) x0 x3 x14 x15 x16 h
theorem J8_7_g (lp : Loop) (jn : Join) (x0 : AV) (x3 : Nat) (x6 : AV) (x37 : Int) (x38 : Int) (h : AHeap) : codeJ Try.prog Nt lp jn 63 (nat' [true, true, true, true, true, true, false, true, false, false] A8) (cat [true, true, true, true, true, true, false, true, false, false] C8) (envOf [(0, x0), (3, (.ptr x3 0)), (6, x6), (37, (.int .i64 x37)), (38, (.int .i64 x38))]) h (kloop (lp (some [0, 3, 6, 37, 38]) (codeJ Try.prog Nt lp jn 63 (nat' [true, true, true, true, true, true, false, true, false, false] A8) (cat [true, true, true, true, true, true, false, true, false, false] C8))) (some [0, 3, 6, 37, 38]) (K8_5 lp jn)) = (gc (decide (x38 < x37)) (J8_8' lp jn x0 x3 x6 x37 x38 h) (J8_9' lp jn x0 x3 h)) := by kernel_rfl
theorem J8_7_eq (x0 : AV) (x3 : Nat) (x6 : AV) (x37 : Int) (x38 : Int) (h : AHeap) : J8_7 x0 x3 x6 x37 x38 h = (gc (decide (x38 < x37)) (J8_8 x0 x3 x6 x37 x38 h) (J8_9 x0 x3 h)) := (aloop_at (some [0, 3, 6, 37, 38]) (nat' [true, true, true, true, true, true, false, true, false, false] A8) (cat [true, true, true, true, true, true, false, true, false, false] C8) (envOf [(0, x0), (3, (.ptr x3 0)), (6, x6), (37, (.int .i64 x37)), (38, (.int .i64 x38))]) h (K8_5 aloop (fun s => s))).trans (J8_7_g aloop (fun s => s) x0 x3 x6 x37 x38 h)
theorem J8_8_g (lp : Loop) (jn : Join) (x0 : AV) (x3 : Nat) (x6 : AV) (x37 : Int) (x38 : Int) (h : AHeap) : codeJ Try.prog Nt lp jn 63 (nat' [true, true, true, true, true, true, false, true, false, false, true, true] A8) (cat [true, true, true, true, true, true, false, true, false, false, true, true] C8) (envOf [(0, x0), (3, (.ptr x3 0)), (6, x6), (37, (.int .i64 x37)), (38, (.int .i64 x38))]) h (K8_6 lp jn) = (gv (aixS 5 x6 x38) fun v26 => gv (astore true 5 v26 (.agg [(.int .u32 99), (.int .u8 0), (.int .u8 0), (.int .u8 0), (.int .u8 0)]) h) fun h27 => J8_10' lp jn x0 x3 x6 x37 x38 h27) := by kernel_rfl
theorem J8_8_eq (x0 : AV) (x3 : Nat) (x6 : AV) (x37 : Int) (x38 : Int) (h : AHeap) : J8_8 x0 x3 x6 x37 x38 h = (gv (aixS 5 x6 x38) fun v26 => gv (astore true 5 v26 (.agg [(.int .u32 99), (.int .u8 0), (.int .u8 0), (.int .u8 0), (.int .u8 0)]) h) fun h27 => J8_10 x0 x3 x6 x37 x38 h27) := J8_8_g aloop (fun s => s) x0 x3 x6 x37 x38 h
theorem J8_9_g (lp : Loop) (jn : Join) (x0 : AV) (x3 : Nat) (h : AHeap) : codeJ Try.prog Nt lp jn 63 (nat' [true, true, true, true, true, true, true] A8) (cat [true, true, true, true, true, true, true] C8) (envOf [(0, x0), (3, (.ptr x3 0))]) h K8 = (gr (acall Try.prog Nt 20 [.nilptr, (.agg [(.int .u32 0), (.int .u8 0), (.int .u8 0), (.int .u8 0), (.int .u8 0)])] h) fun r28 h29 => gr (acall Try.prog Nt 21 [.nilptr] h29) fun r30 h31 => gv (alenS r30) fun m32 => gi ((m32 : Int) == 0) (gv (alenS x0) fun m33 => gv (aslS 5 x0 (some (.int .i64 (if (IntKind.i64.wrap ((m33 : Int) - 16)) > 0 then (IntKind.i64.wrap ((m33 : Int) - 16)) else 0))) none) fun v34 => gr (acall Try.prog Nt 21 [(.ptr x3 0)] h31) fun r35 h36 => gf ((chkRd (gv (aslS 5 x0 (some (.int .i64 (if (IntKind.i64.wrap ((m33 : Int) - 16)) > 0 then (IntKind.i64.wrap ((m33 : Int) - 16)) else 0))) none) fun v37 => some v37) v34) && true) (gr (acall Try.prog Nt 13 [r35, v34] h36) fun r38 h39 => gB r38 fun b40 => some ((.bool b40), h39))) (some ((.bool false), h31))) := by kernel_rfl
theorem J8_9_eq (x0 : AV) (x3 : Nat) (h : AHeap) : J8_9 x0 x3 h = (gr (acall Try.prog Nt 20 [.nilptr, (.agg [(.int .u32 0), (.int .u8 0), (.int .u8 0), (.int .u8 0), (.int .u8 0)])] h) fun r28 h29 => gr (acall Try.prog Nt 21 [.nilptr] h29) fun r30 h31 => gv (alenS r30) fun m32 => gi ((m32 : Int) == 0) (gv (alenS x0) fun m33 => gv (aslS 5 x0 (some (.int .i64 (if (IntKind.i64.wrap ((m33 : Int) - 16)) > 0 then (IntKind.i64.wrap ((m33 : Int) - 16)) else 0))) none) fun v34 => gr (acall Try.prog Nt 21 [(.ptr x3 0)] h31) fun r35 h36 => gf ((chkRd (gv (aslS 5 x0 (some (.int .i64 (if (IntKind.i64.wrap ((m33 : Int) - 16)) > 0 then (IntKind.i64.wrap ((m33 : Int) - 16)) else 0))) none) fun v37 => some v37) v34) && true) (gr (acall Try.prog Nt 13 [r35, v34] h36) fun r38 h39 => gB r38 fun b40 => some ((.bool b40), h39))) (some ((.bool false), h31))) := J8_9_g aloop (fun s => s) x0 x3 h
theorem J8_10_g (lp : Loop) (jn : Join) (x0 : AV) (x3 : Nat) (x6 : AV) (x37 : Int) (x38 : Int) (h : AHeap) : codeJ Try.prog Nt lp jn 63 (nat' [true, true, true, true, true, true, false, true, false, false, true, true, true] A8) (cat [true, true, true, true, true, true, false, true, false, false, true, true, true] C8) (envOf [(0, x0), (3, (.ptr x3 0)), (6, x6), (37, (.int .i64 x37)), (38, (.int .i64 x38))]) h (K8_6 lp jn) = (J8_7' lp jn x0 x3 x6 x37 (IntKind.i64.wrap (x38 + 1)) h) := by kernel_rfl
theorem J8_10_eq (x0 : AV) (x3 : Nat) (x6 : AV) (x37 : Int) (x38 : Int) (h : AHeap) : J8_10 x0 x3 x6 x37 x38 h = (J8_7 x0 x3 x6 x37 (IntKind.i64.wrap (x38 + 1)) h) := J8_10_g aloop (fun s => s) x0 x3 x6 x37 x38 h
theorem E8_g (lp : Loop) (jn : Join) (x0 : AV) (h : AHeap) : codeJ Try.prog Nt lp jn 63 (Nt 8) C8 (args [x0]) h K8 = (gr (acall Try.prog Nt 10 [] h) fun r1 h2 => gB r1 fun b3 => gc (!b3) (some ((.bool false), h2)) (J8_1' lp jn x0 h2)) := by kernel_rfl
theorem E8 (x0 : AV) (h : AHeap) : acall Try.prog Nt 8 [x0] h = (gr (acall Try.prog Nt 10 [] h) fun r1 h2 => gB r1 fun b3 => gc (!b3) (some ((.bool false), h2)) (J8_1 x0 h2)) := (acall_at rfl Try.func8 _ h 63 rfl (c := C8) rfl).trans (E8_g aloop (fun s => s) x0 h)
end Go.Ab
end
section
/-
  Functions of the program as equations: written by program (wip/tools/prt.py).
-/
namespace Go.Ab
open Go.Proofs
/-! 20: (*escapement/health.Log).Put -/
noncomputable def K20 : Kont := kend Try.prog 32 Try.f20.results.toList
noncomputable def J20_1' (lp : Loop) (jn : Join) (x0 : AV) (x3 : Nat) (h : AHeap) : Res := jn (codeJ Try.prog Nt lp jn 32 (nat' [true, true] A20) (cat [true, true] C20)) (envOf [(0, x0), (3, (.ptr x3 0))]) h K20
noncomputable def J20_1 (x0 : AV) (x3 : Nat) (h : AHeap) : Res := J20_1' aloop (fun s => s) x0 x3 h
theorem J20_1_g (lp : Loop) (jn : Join) (x0 : AV) (x3 : Nat) (h : AHeap) : codeJ Try.prog Nt lp jn 32 (nat' [true, true] A20) (cat [true, true] C20) (envOf [(0, x0), (3, (.ptr x3 0))]) h K20 = (gv (anil x0) fun v6 => gv (aptr v6 0) fun v7 => gv (aload false 1 v7 h) fun v8 => gv (aload true 5 (.ptr x3 0) h) fun v9 => gr (abslS 5 1 [(.int .u32 0), (.int .u8 0), (.int .u8 0), (.int .u8 0), (.int .u8 0)] [(0, v9)] h) fun r10 h11 => gv (alenOf r10) fun m12 => gv (asrc 5 r10 h11) fun xs13 => gr (aapp 5 8 v8 m12 xs13 h11) fun r14 h15 => gv (anil x0) fun v16 => gv (aptr v16 0) fun v17 => gv (astore false 1 v17 r14 h15) fun h18 => gv (anil x0) fun v19 => gv (aptr v19 0) fun v20 => gv (aload false 1 v20 h18) fun v21 => gv (alenS v21) fun m22 => gc (decide ((m22 : Int) > 16)) (gN h18 [] fun b23 h24 => gv (anil x0) fun v25 => gv (aptr v25 0) fun v26 => gv (aload false 1 v26 h24) fun v27 => gv (aslS 5 v27 (some (.int .i64 1)) none) fun v28 => gv (alenOf v28) fun m29 => gv (asrc 5 v28 h24) fun xs30 => gr (aapp 5 8 (.sl b23 0 0 5) m29 xs30 h24) fun r31 h32 => gv (anil x0) fun v33 => gv (aptr v33 0) fun v34 => gv (astore false 1 v34 r31 h32) fun h35 => some (.tuple [], h35)) (some (.tuple [], h18))) := by kernel_rfl
theorem J20_1_eq (x0 : AV) (x3 : Nat) (h : AHeap) : J20_1 x0 x3 h = (gv (anil x0) fun v6 => gv (aptr v6 0) fun v7 => gv (aload false 1 v7 h) fun v8 => gv (aload true 5 (.ptr x3 0) h) fun v9 => gr (abslS 5 1 [(.int .u32 0), (.int .u8 0), (.int .u8 0), (.int .u8 0), (.int .u8 0)] [(0, v9)] h) fun r10 h11 => gv (alenOf r10) fun m12 => gv (asrc 5 r10 h11) fun xs13 => gr (aapp 5 8 v8 m12 xs13 h11) fun r14 h15 => gv (anil x0) fun v16 => gv (aptr v16 0) fun v17 => gv (astore false 1 v17 r14 h15) fun h18 => gv (anil x0) fun v19 => gv (aptr v19 0) fun v20 => gv (aload false 1 v20 h18) fun v21 => gv (alenS v21) fun m22 => gc (decide ((m22 : Int) > 16)) (gN h18 [] fun b23 h24 => gv (anil x0) fun v25 => gv (aptr v25 0) fun v26 => gv (aload false 1 v26 h24) fun v27 => gv (aslS 5 v27 (some (.int .i64 1)) none) fun v28 => gv (alenOf v28) fun m29 => gv (asrc 5 v28 h24) fun xs30 => gr (aapp 5 8 (.sl b23 0 0 5) m29 xs30 h24) fun r31 h32 => gv (anil x0) fun v33 => gv (aptr v33 0) fun v34 => gv (astore false 1 v34 r31 h32) fun h35 => some (.tuple [], h35)) (some (.tuple [], h18))) := J20_1_g aloop (fun s => s) x0 x3 h
theorem E20_g (lp : Loop) (jn : Join) (x0 : AV) (x1 : AV) (h : AHeap) : codeJ Try.prog Nt lp jn 32 (Nt 20) C20 (args [x0, x1]) h K20 = (gv (acells x1) fun cs1 => gN h cs1 fun b2 h3 => gv (abin Try.prog .eql 65 (aeqOk Try.prog 65 (.tmp 4) (.const (.pointer none)) x0 .nilptr) x0 .nilptr) fun v4 => gB v4 fun b5 => gc b5 (some (.tuple [], h3)) (J20_1' lp jn x0 b2 h3)) := by kernel_rfl
theorem E20 (x0 : AV) (x1 : AV) (h : AHeap) : acall Try.prog Nt 20 [x0, x1] h = (gv (acells x1) fun cs1 => gN h cs1 fun b2 h3 => gv (abin Try.prog .eql 65 (aeqOk Try.prog 65 (.tmp 4) (.const (.pointer none)) x0 .nilptr) x0 .nilptr) fun v4 => gB v4 fun b5 => gc b5 (some (.tuple [], h3)) (J20_1 x0 b2 h3)) := (acall_at rfl Try.func20 _ h 32 rfl (c := C20) rfl).trans (E20_g aloop (fun s => s) x0 x1 h)
end Go.Ab
end
section
/-
  Functions of the program as equations: written by program (wip/tools/prt.py).
-/
namespace Go.Ab
open Go.Proofs
/-! 21: (*escapement/health.Log).List -/
noncomputable def K21 : Kont := kend Try.prog 11 Try.f21.results.toList
noncomputable def J21_1' (lp : Loop) (jn : Join) (x0 : AV) (h : AHeap) : Res := jn (codeJ Try.prog Nt lp jn 11 (nat' [true, true] A21) (cat [true, true] C21)) (envOf [(0, x0)]) h K21
noncomputable def J21_1 (x0 : AV) (h : AHeap) : Res := J21_1' aloop (fun s => s) x0 h
theorem J21_1_g (lp : Loop) (jn : Join) (x0 : AV) (h : AHeap) : codeJ Try.prog Nt lp jn 11 (nat' [true, true] A21) (cat [true, true] C21) (envOf [(0, x0)]) h K21 = (gN h [] fun b3 h4 => gv (anil x0) fun v5 => gv (aptr v5 0) fun v6 => gv (aload false 1 v6 h4) fun v7 => gv (alenOf v7) fun m8 => gv (asrc 5 v7 h4) fun xs9 => gr (aapp 5 8 (.sl b3 0 0 5) m8 xs9 h4) fun r10 h11 => some (r10, h11)) := by kernel_rfl
theorem J21_1_eq (x0 : AV) (h : AHeap) : J21_1 x0 h = (gN h [] fun b3 h4 => gv (anil x0) fun v5 => gv (aptr v5 0) fun v6 => gv (aload false 1 v6 h4) fun v7 => gv (alenOf v7) fun m8 => gv (asrc 5 v7 h4) fun xs9 => gr (aapp 5 8 (.sl b3 0 0 5) m8 xs9 h4) fun r10 h11 => some (r10, h11)) := J21_1_g aloop (fun s => s) x0 h
theorem E21_g (lp : Loop) (jn : Join) (x0 : AV) (h : AHeap) : codeJ Try.prog Nt lp jn 11 (Nt 21) C21 (args [x0]) h K21 = (gv (abin Try.prog .eql 65 (aeqOk Try.prog 65 (.tmp 3) (.const (.pointer none)) x0 .nilptr) x0 .nilptr) fun v1 => gB v1 fun b2 => gc b2 (some (.nilsl, h)) (J21_1' lp jn x0 h)) := by kernel_rfl
theorem E21 (x0 : AV) (h : AHeap) : acall Try.prog Nt 21 [x0] h = (gv (abin Try.prog .eql 65 (aeqOk Try.prog 65 (.tmp 3) (.const (.pointer none)) x0 .nilptr) x0 .nilptr) fun v1 => gB v1 fun b2 => gc b2 (some (.nilsl, h)) (J21_1 x0 h)) := (acall_at rfl Try.func21 _ h 11 rfl (c := C21) rfl).trans (E21_g aloop (fun s => s) x0 h)
end Go.Ab
end
section
/-
  HealthLogs.
-/
namespace Go.Ab
open Go.Proofs

section
variable {α : Type} {h h' : AHeap} {sz by' : Nat} {enc : α → List AV} {l : List α} {x : AV} {F : List Nat}
theorem Sl.cut (s : Sl h sz enc l x) (he : ∀ a, (enc a).length = sz) (k : IntKind) (i j : Nat) (hij : i ≤ j) (hj : j ≤ l.length) : ∃ y, aslS sz x (some (.int k (i : Int))) (some (.int k (j : Int))) = some y ∧ Sl h sz enc ((l.take j).drop i) y := by
  rcases s with ⟨rfl, rfl⟩ | ⟨b, o, rfl, a⟩
  · simp only [List.length_nil, Nat.le_zero_eq] at hj
    subst hj
    have : i = 0 := by omega
    subst this
    exact ⟨.nilsl, by simp [aslS, abound], .inl ⟨rfl, rfl⟩⟩
  · refine ⟨.sl b (o + i * sz) (j - i) sz, by simp [aslS, abound, hij, hj], .inr ⟨b, o + i * sz, by simp [Nat.min_eq_left hj], ?_⟩⟩
    have := a.sub (i * sz) ((j - i) * sz) (by rw [flatMap_len he, ← Nat.add_mul]; exact Nat.mul_le_mul_right _ (by omega))
    rw [flatMap_drop he, flatMap_take he] at this
    rw [List.drop_take]
    exact this
theorem OwB.apps (s : OwB h sz enc l x F) (he : ∀ a, (enc a).length = sz) (hc : ∀ a, (enc a).all isCell = true) (l2 : List α) (hne : l2 ≠ []) (hb : (l.length + l2.length) * by' ≤ 140737488355328) :
    ∃ y h', aapp sz by' x l2.length (l2.flatMap enc) h = some (y, h') ∧ OwB h' sz enc (l ++ l2) y [h.length] ∧ Fr F h [h.length] h' ∧ h'.length = h.length + 1 := by
  have h0 : l2.length ≠ 0 := fun e => hne (List.eq_nil_of_length_eq_zero e)
  rcases s with ⟨rfl, rfl, rfl⟩ | ⟨b, rfl, rfl, hg⟩
  · refine ⟨.sl h.length 0 l2.length sz, hnew h (l2.flatMap enc), ?_, .inr ⟨h.length, by simp, rfl, ?_⟩, ⟨by simp [hnew], fun x hx _ => hget_old _ hx, fun x hx => .inr (by simp at hx; omega)⟩, by simp [hnew]⟩
    · simp only [List.length_nil, Nat.zero_add] at hb
      simp only [aapp]
      rw [if_neg h0, if_pos ⟨hb, all_cells hc l2⟩]
    · unfold hnew; rw [hget_at0]; simp
  · have hlt := hget_lt hg
    refine ⟨.sl h.length 0 (l.length + l2.length) sz, hnew (h.set b none) (l.flatMap enc ++ l2.flatMap enc), ?_, .inr ⟨h.length, by simp, rfl, ?_⟩, ⟨by simp [hnew], fun x hx hn => ?_, fun x hx => .inr (by simp at hx; omega)⟩, by simp [hnew]⟩
    · simp only [aapp, if_true, hg]
      rw [if_neg h0, if_pos ⟨by rw [flatMap_len he]; omega, hb, all_cells hc l2⟩]
      rw [List.drop_zero, List.take_of_length_le (by rw [flatMap_len he]; exact Nat.le_refl _)]
      try simp
    · have : h.length = (h.set b none).length := by simp
      unfold hnew; rw [this, hget_at0]; simp
    · unfold hnew
      rw [hget_old _ (by simpa using hx)]
      unfold hget
      rw [List.getElem?_set_ne (by simp at hn; omega)]
end
/-- A log. -/
def LogAt (h : AHeap) (b : Nat) (l : List Rcd) (F : List Nat) : Prop :=
  ∃ x G, hget h b = some (.cells false [x]) ∧ OwB h 5 Rcd.cells l x G ∧ b ∉ G ∧ F = b :: G
theorem LogAt.lt {h : AHeap} {b : Nat} {l : List Rcd} {F : List Nat} (m : LogAt h b l F) : ∀ x ∈ F, x < h.length := by
  obtain ⟨x, G, h1, h2, h3, rfl⟩ := m
  intro y hy
  rcases List.mem_cons.1 hy with rfl | hy
  · exact hget_lt h1
  · exact h2.slb.lt y hy
theorem LogAt.keep {h h' : AHeap} {b : Nat} {l : List Rcd} {F : List Nat} (m : LogAt h b l F) (hk : ∀ x ∈ F, hget h' x = hget h x) : LogAt h' b l F := by
  obtain ⟨x, G, h1, h2, h3, rfl⟩ := m
  exact ⟨x, G, by rw [hk b (by simp), h1], h2.keep fun y hy => hk y (by simp [hy]), h3, rfl⟩
def putL (l : List Rcd) (r : Rcd) : List Rcd := if 16 < (l ++ [r]).length then (l ++ [r]).drop 1 else l ++ [r]
theorem log_eq_ptr (a b : Operand) (c o : Nat) : abin Try.prog .eql 65 (aeqOk Try.prog 65 a b (.ptr c o) .nilptr) (.ptr c o) .nilptr = some (.bool false) := by
  rw [aeqOk_ptr, abin_eq_ptr (e := 63) (by kernel_rfl)]
theorem log_eq_nil (a b : Operand) : abin Try.prog .eql 65 (aeqOk Try.prog 65 a b .nilptr .nilptr) .nilptr .nilptr = some (.bool true) := by
  rw [aeqOk_nilptr, abin_eq_nilptr (e := 63) (by kernel_rfl)]
/-- Put. -/
theorem c_put (h : AHeap) (b : Nat) (l : List Rcd) (F : List Nat) (r : Rcd) (hm : LogAt h b l F) (hl : l.length ≤ 16) : Post (acall Try.prog Nt 20 [.ptr b 0, .agg r.cells] h) fun v h' => v = .tuple [] ∧ ∃ F', LogAt h' b (putL l r) F' ∧ Fr F h F' h' := by
  obtain ⟨x, G, h1, h2, h3, rfl⟩ := id hm
  have lt := hm.lt
  rw [E20]
  have pl : r.cells.length = 5 := rfl
  have pt : r.cells.take 5 = r.cells := rfl
  have eb : ∀ H, abslS 5 1 [.int .u32 0, .int .u8 0, .int .u8 0, .int .u8 0, .int .u8 0] [(0, .agg r.cells)] H = some (.sl H.length 0 1 5, H ++ [some (.cells false r.cells)]) := fun H => rfl
  have g1 := fun g => hget_app (g := g) h1
  simp (dsimp := false) (implicitDefEqProofs := false) (disch := omega) only [gv_some, gr_some, gI_int, gB_bool, gS_str, gc_t, gc_f, gi_t, gi_f, gN_eq, gf_t, Option.bind_some, Option.bind_none, Option.map_some, acells_agg, acells_int, acells_bool, acells_str, acells_ptr, acells_sl, acells_nilsl, acells_nilptr, acells_iface, acells_niliface, aptr_ptr, anil_ptr, aextract_0, aextract_1, aextract_2, alenS_sl, alenS_nil, alenOf_sl, alenOf_nil, apartOf_agg, apart_t, apart_f, astore_ptr, hset_at0, hset_at, hs_same, hs_ne, len_hset, List.set_cons_zero, List.set_cons_succ, set_app, set_app0, aload_ptr, splice_eq, List.drop_nil, List.append_nil, isCell_int, isCell_bool, isCell_str, isCell_ptr, isCell_sl, isCell_nilsl, isCell_nilptr, isCell_iface, isCell_niliface, List.all_cons, List.all_nil, Bool.and_self, hget_at0, hget_at, len_app, List.length_cons, List.length_nil, get_app, get_app0, List.getElem?_cons_zero, List.getElem?_cons_succ, join_some, List.append_assoc, List.cons_append, List.nil_append, Nat.zero_add, Nat.add_zero, Nat.mul_one, chkRd_eq, chkAl_blk, if_true, if_false, Bool.false_eq_true, List.drop_succ_cons, List.drop_zero, List.take_succ_cons, List.take_zero, Bool.and_true, Bool.true_and, decide_true, decide_false, wrap64_id, aixG_eq, Nat.reduceAdd, Nat.reduceSub, Nat.reduceMul, Nat.reduceLeDiff, Nat.reduceLT, Int.reduceAdd, Int.reduceSub, Int.reduceMul, Int.reduceNeg, Int.reduceLT, Int.reduceLE, Int.reduceGT, Int.reduceGE, Int.reduceToNat, ↓reduceIte, and_self, true_and, and_true, log_eq_ptr, J20_1_eq, g1]
  simp (dsimp := false) (implicitDefEqProofs := false) (disch := omega) only [gv_some, gr_some, gI_int, gB_bool, gS_str, gc_t, gc_f, gi_t, gi_f, gN_eq, gf_t, Option.bind_some, Option.bind_none, Option.map_some, acells_agg, acells_int, acells_bool, acells_str, acells_ptr, acells_sl, acells_nilsl, acells_nilptr, acells_iface, acells_niliface, aptr_ptr, anil_ptr, aextract_0, aextract_1, aextract_2, alenS_sl, alenS_nil, alenOf_sl, alenOf_nil, apartOf_agg, apart_t, apart_f, astore_ptr, hset_at0, hset_at, hs_same, hs_ne, len_hset, List.set_cons_zero, List.set_cons_succ, set_app, set_app0, aload_ptr, splice_eq, List.drop_nil, List.append_nil, isCell_int, isCell_bool, isCell_str, isCell_ptr, isCell_sl, isCell_nilsl, isCell_nilptr, isCell_iface, isCell_niliface, List.all_cons, List.all_nil, Bool.and_self, hget_at0, hget_at, len_app, List.length_cons, List.length_nil, get_app, get_app0, List.getElem?_cons_zero, List.getElem?_cons_succ, join_some, List.append_assoc, List.cons_append, List.nil_append, Nat.zero_add, Nat.add_zero, Nat.mul_one, chkRd_eq, chkAl_blk, if_true, if_false, Bool.false_eq_true, List.drop_succ_cons, List.drop_zero, List.take_succ_cons, List.take_zero, Bool.and_true, Bool.true_and, decide_true, decide_false, wrap64_id, aixG_eq, Nat.reduceAdd, Nat.reduceSub, Nat.reduceMul, Nat.reduceLeDiff, Nat.reduceLT, Int.reduceAdd, Int.reduceSub, Int.reduceMul, Int.reduceNeg, Int.reduceLT, Int.reduceLE, Int.reduceGT, Int.reduceGE, Int.reduceToNat, ↓reduceIte, and_self, true_and, and_true, pl, pt, eb, Nat.le_refl]
  refine Post.val (a := [r].flatMap Rcd.cells) (Sl.src (.inr ⟨_, 0, rfl, false, r.cells, ?_, by simp [Rcd.cells], by simp [Rcd.cells]⟩) Rcd.len) ?_
  · rw [hget_at]; rfl
  have o2 : OwB (h ++ [some (.cells false r.cells), some (.cells false r.cells)]) 5 Rcd.cells l x G := h2.keep fun y hy => hget_old _ (lt y (by simp [hy]))
  obtain ⟨y, H, ea, oy, fr, hH⟩ := o2.apps (by' := 8) Rcd.len Rcd.isc [r] (by simp) (by simp; omega)
  have l1 : [r].length = 1 := rfl
  rw [l1] at ea
  obtain ⟨K, hK⟩ : ∃ K, K = (h ++ [some (ABlk.cells false r.cells), some (ABlk.cells false r.cells)]).length := ⟨_, rfl⟩
  rw [← hK] at oy fr hH
  have hK2 : K = h.length + 2 := by rw [hK]; simp
  have gb : hget H b = some (.cells false [x]) := fr.keep (g1 _) h3
  have iy := oy.slb.isc
  have bH : b < H.length := hget_lt gb
  have hb0 := hget_lt h1
  simp (dsimp := false) (implicitDefEqProofs := false) (disch := omega) only [gv_some, gr_some, gI_int, gB_bool, gS_str, gc_t, gc_f, gi_t, gi_f, gN_eq, gf_t, Option.bind_some, Option.bind_none, Option.map_some, acells_agg, acells_int, acells_bool, acells_str, acells_ptr, acells_sl, acells_nilsl, acells_nilptr, acells_iface, acells_niliface, aptr_ptr, anil_ptr, aextract_0, aextract_1, aextract_2, alenS_sl, alenS_nil, alenOf_sl, alenOf_nil, apartOf_agg, apart_t, apart_f, astore_ptr, hset_at0, hset_at, hs_same, hs_ne, len_hset, List.set_cons_zero, List.set_cons_succ, set_app, set_app0, aload_ptr, splice_eq, List.drop_nil, List.append_nil, isCell_int, isCell_bool, isCell_str, isCell_ptr, isCell_sl, isCell_nilsl, isCell_nilptr, isCell_iface, isCell_niliface, List.all_cons, List.all_nil, Bool.and_self, hget_at0, hget_at, len_app, List.length_cons, List.length_nil, get_app, get_app0, List.getElem?_cons_zero, List.getElem?_cons_succ, join_some, List.append_assoc, List.cons_append, List.nil_append, Nat.zero_add, Nat.add_zero, Nat.mul_one, chkRd_eq, chkAl_blk, if_true, if_false, Bool.false_eq_true, List.drop_succ_cons, List.drop_zero, List.take_succ_cons, List.take_zero, Bool.and_true, Bool.true_and, decide_true, decide_false, wrap64_id, aixG_eq, Nat.reduceAdd, Nat.reduceSub, Nat.reduceMul, Nat.reduceLeDiff, Nat.reduceLT, Int.reduceAdd, Int.reduceSub, Int.reduceMul, Int.reduceNeg, Int.reduceLT, Int.reduceLE, Int.reduceGT, Int.reduceGE, Int.reduceToNat, ↓reduceIte, and_self, true_and, and_true, ea, gb, iy]
  have gs : hget (hset H b [y]) b = some (.cells false [y]) := hs_same bH _
  have bn : b ∉ [K] := by simp; omega
  have oy2 : OwB (hset H b [y]) 5 Rcd.cells (l ++ [r]) y [K] := oy.keep fun z hz => hs_ne (fun e => bn (by rw [e]; exact hz)) _
  have fr1 : Fr (b :: G) h (b :: G) (h ++ [some (ABlk.cells false r.cells), some (ABlk.cells false r.cells)]) := Fr.app _
  have fr2 : Fr (b :: G) h (b :: [K]) (hset H b [y]) := by
    refine ⟨?_, fun z hz hn => ?_, fun z hz => ?_⟩
    · rw [len_hset, hH]; omega
    · simp only [List.mem_cons, not_or] at hn
      rw [hs_ne (fun e => hn.1 e.symm), fr.old z (by omega) hn.2, hget_old _ hz]
    · simp only [List.mem_cons, List.not_mem_nil, or_false] at hz
      rcases hz with rfl | rfl
      · simp
      · right; omega
  simp (dsimp := false) (implicitDefEqProofs := false) (disch := omega) only [gv_some, gr_some, gI_int, gB_bool, gS_str, gc_t, gc_f, gi_t, gi_f, gN_eq, gf_t, Option.bind_some, Option.bind_none, Option.map_some, acells_agg, acells_int, acells_bool, acells_str, acells_ptr, acells_sl, acells_nilsl, acells_nilptr, acells_iface, acells_niliface, aptr_ptr, anil_ptr, aextract_0, aextract_1, aextract_2, alenS_sl, alenS_nil, alenOf_sl, alenOf_nil, apartOf_agg, apart_t, apart_f, astore_ptr, hset_at0, hset_at, hs_same, hs_ne, len_hset, List.set_cons_zero, List.set_cons_succ, set_app, set_app0, aload_ptr, splice_eq, List.drop_nil, List.append_nil, isCell_int, isCell_bool, isCell_str, isCell_ptr, isCell_sl, isCell_nilsl, isCell_nilptr, isCell_iface, isCell_niliface, List.all_cons, List.all_nil, Bool.and_self, hget_at0, hget_at, len_app, List.length_cons, List.length_nil, get_app, get_app0, List.getElem?_cons_zero, List.getElem?_cons_succ, join_some, List.append_assoc, List.cons_append, List.nil_append, Nat.zero_add, Nat.add_zero, Nat.mul_one, chkRd_eq, chkAl_blk, if_true, if_false, Bool.false_eq_true, List.drop_succ_cons, List.drop_zero, List.take_succ_cons, List.take_zero, Bool.and_true, Bool.true_and, decide_true, decide_false, wrap64_id, aixG_eq, Nat.reduceAdd, Nat.reduceSub, Nat.reduceMul, Nat.reduceLeDiff, Nat.reduceLT, Int.reduceAdd, Int.reduceSub, Int.reduceMul, Int.reduceNeg, Int.reduceLT, Int.reduceLE, Int.reduceGT, Int.reduceGE, Int.reduceToNat, ↓reduceIte, and_self, true_and, and_true, gs, oy2.slb.sl.len]
  refine Post.cdd (fun c => ?_) fun c => ?_
  · have c' : 16 < (l ++ [r]).length := by omega
    have e1 : putL l r = (l ++ [r]).drop 1 := by unfold putL; rw [if_pos c']
    obtain ⟨y2, es, sy⟩ := (oy2.slb.sl.app [some (.cells false [])]).drop Rcd.len .i64 1 (by omega)
    have : ((1 : Nat) : Int) = 1 := rfl
    rw [this] at es
    have gs2 := fun g => hget_app (g := g) gs
    simp (dsimp := false) (implicitDefEqProofs := false) (disch := omega) only [gv_some, gr_some, gI_int, gB_bool, gS_str, gc_t, gc_f, gi_t, gi_f, gN_eq, gf_t, Option.bind_some, Option.bind_none, Option.map_some, acells_agg, acells_int, acells_bool, acells_str, acells_ptr, acells_sl, acells_nilsl, acells_nilptr, acells_iface, acells_niliface, aptr_ptr, anil_ptr, aextract_0, aextract_1, aextract_2, alenS_sl, alenS_nil, alenOf_sl, alenOf_nil, apartOf_agg, apart_t, apart_f, astore_ptr, hset_at0, hset_at, hs_same, hs_ne, len_hset, List.set_cons_zero, List.set_cons_succ, set_app, set_app0, aload_ptr, splice_eq, List.drop_nil, List.append_nil, isCell_int, isCell_bool, isCell_str, isCell_ptr, isCell_sl, isCell_nilsl, isCell_nilptr, isCell_iface, isCell_niliface, List.all_cons, List.all_nil, Bool.and_self, hget_at0, hget_at, len_app, List.length_cons, List.length_nil, get_app, get_app0, List.getElem?_cons_zero, List.getElem?_cons_succ, join_some, List.append_assoc, List.cons_append, List.nil_append, Nat.zero_add, Nat.add_zero, Nat.mul_one, chkRd_eq, chkAl_blk, if_true, if_false, Bool.false_eq_true, List.drop_succ_cons, List.drop_zero, List.take_succ_cons, List.take_zero, Bool.and_true, Bool.true_and, decide_true, decide_false, wrap64_id, aixG_eq, Nat.reduceAdd, Nat.reduceSub, Nat.reduceMul, Nat.reduceLeDiff, Nat.reduceLT, Int.reduceAdd, Int.reduceSub, Int.reduceMul, Int.reduceNeg, Int.reduceLT, Int.reduceLE, Int.reduceGT, Int.reduceGE, Int.reduceToNat, ↓reduceIte, and_self, true_and, and_true, gs2, es, sy.lenOf]
    refine Post.val (sy.src Rcd.len) ?_
    have o0 : OwB (hset H b [y] ++ [some (.cells false [])]) 5 Rcd.cells ([] : List Rcd) (.sl (hset H b [y]).length 0 0 5) [(hset H b [y]).length] := .inr ⟨_, rfl, rfl, by rw [hget_at0]; rfl⟩
    have ne : (l ++ [r]).drop 1 ≠ [] := fun e => by
      have := congrArg List.length e
      rw [List.length_drop, List.length_nil] at this
      omega
    obtain ⟨z, H4, ea2, oz, fr4, hH4⟩ := o0.apps (by' := 8) Rcd.len Rcd.isc ((l ++ [r]).drop 1) ne (by simp; omega)
    have lh : (hset H b [y]).length = h.length + 3 := by rw [len_hset, hH]; omega
    obtain ⟨K2, hK3⟩ : ∃ K2, K2 = (hset H b [y] ++ [some (ABlk.cells false [])]).length := ⟨_, rfl⟩
    rw [← hK3] at oz fr4 hH4
    have hK4 : K2 = h.length + 4 := by rw [hK3, List.length_append, lh]; rfl
    rw [lh] at fr4
    have bn4 : b ∉ [h.length + 3] := by simp; omega
    have gb4 : hget H4 b = some (.cells false [y]) := fr4.keep (gs2 _) bn4
    have iz := oz.slb.isc
    refine Post.bind (Q := fun v h' => v = z ∧ h' = H4) ⟨z, H4, ea2, rfl, rfl⟩ ?_
    rintro v h' ⟨rfl, rfl⟩
    simp (dsimp := false) (implicitDefEqProofs := false) (disch := omega) only [gv_some, gr_some, gI_int, gB_bool, gS_str, gc_t, gc_f, gi_t, gi_f, gN_eq, gf_t, Option.bind_some, Option.bind_none, Option.map_some, acells_agg, acells_int, acells_bool, acells_str, acells_ptr, acells_sl, acells_nilsl, acells_nilptr, acells_iface, acells_niliface, aptr_ptr, anil_ptr, aextract_0, aextract_1, aextract_2, alenS_sl, alenS_nil, alenOf_sl, alenOf_nil, apartOf_agg, apart_t, apart_f, astore_ptr, hset_at0, hset_at, hs_same, hs_ne, len_hset, List.set_cons_zero, List.set_cons_succ, set_app, set_app0, aload_ptr, splice_eq, List.drop_nil, List.append_nil, isCell_int, isCell_bool, isCell_str, isCell_ptr, isCell_sl, isCell_nilsl, isCell_nilptr, isCell_iface, isCell_niliface, List.all_cons, List.all_nil, Bool.and_self, hget_at0, hget_at, len_app, List.length_cons, List.length_nil, get_app, get_app0, List.getElem?_cons_zero, List.getElem?_cons_succ, join_some, List.append_assoc, List.cons_append, List.nil_append, Nat.zero_add, Nat.add_zero, Nat.mul_one, chkRd_eq, chkAl_blk, if_true, if_false, Bool.false_eq_true, List.drop_succ_cons, List.drop_zero, List.take_succ_cons, List.take_zero, Bool.and_true, Bool.true_and, decide_true, decide_false, wrap64_id, aixG_eq, Nat.reduceAdd, Nat.reduceSub, Nat.reduceMul, Nat.reduceLeDiff, Nat.reduceLT, Int.reduceAdd, Int.reduceSub, Int.reduceMul, Int.reduceNeg, Int.reduceLT, Int.reduceLE, Int.reduceGT, Int.reduceGE, Int.reduceToNat, ↓reduceIte, and_self, true_and, and_true, gb4, iz]
    have b4 := hget_lt gb4
    refine Post.done ⟨rfl, b :: [K2], ⟨v, [K2], hs_same b4 _, ?_, ?_, rfl⟩, ?_⟩
    · rw [e1]
      exact oz.keep fun w hw => hs_ne (by simp at hw; omega) _
    · simp; omega
    · refine ⟨?_, fun w hw hn => ?_, fun w hw => ?_⟩
      · rw [len_hset, hH4]; omega
      · simp only [List.mem_cons, not_or] at hn
        rw [hs_ne (fun e => hn.1 e.symm), fr4.old w (by rw [List.length_append, lh]; omega) (by simp; omega), hget_old _ (by omega)]
        rw [fr2.old w hw (by simp; exact ⟨hn.1, hn.2⟩)]
      · simp only [List.mem_cons, List.not_mem_nil, or_false] at hw
        rcases hw with rfl | rfl
        · simp
        · right; omega
  · have e1 : putL l r = l ++ [r] := by unfold putL; rw [if_neg (by omega)]
    rw [e1]
    exact Post.done ⟨rfl, _, ⟨y, _, gs, oy2, bn, rfl⟩, fr2⟩
/-- List. -/
theorem c_list (h : AHeap) (b : Nat) (l : List Rcd) (F : List Nat) (hm : LogAt h b l F) (hl : l.length ≤ 16) : Ev (acall Try.prog Nt 21 [.ptr b 0] h) h fun v h' => Ow h.length h' 5 Rcd.cells l v := by
  obtain ⟨x, G, h1, h2, h3, rfl⟩ := id hm
  rw [E21]
  have g1 := fun g => hget_app (g := g) h1
  have sl := fun g => h2.slb.sl.app g
  have sr := fun g => (sl g).src Rcd.len
  simp (dsimp := false) (implicitDefEqProofs := false) (disch := omega) only [gv_some, gr_some, gI_int, gB_bool, gS_str, gc_t, gc_f, gi_t, gi_f, gN_eq, gf_t, Option.bind_some, Option.bind_none, Option.map_some, acells_agg, acells_int, acells_bool, acells_str, acells_ptr, acells_sl, acells_nilsl, acells_nilptr, acells_iface, acells_niliface, aptr_ptr, anil_ptr, aextract_0, aextract_1, aextract_2, alenS_sl, alenS_nil, alenOf_sl, alenOf_nil, apartOf_agg, apart_t, apart_f, astore_ptr, hset_at0, hset_at, hs_same, hs_ne, len_hset, List.set_cons_zero, List.set_cons_succ, set_app, set_app0, aload_ptr, splice_eq, List.drop_nil, List.append_nil, isCell_int, isCell_bool, isCell_str, isCell_ptr, isCell_sl, isCell_nilsl, isCell_nilptr, isCell_iface, isCell_niliface, List.all_cons, List.all_nil, Bool.and_self, hget_at0, hget_at, len_app, List.length_cons, List.length_nil, get_app, get_app0, List.getElem?_cons_zero, List.getElem?_cons_succ, join_some, List.append_assoc, List.cons_append, List.nil_append, Nat.zero_add, Nat.add_zero, Nat.mul_one, chkRd_eq, chkAl_blk, if_true, if_false, Bool.false_eq_true, List.drop_succ_cons, List.drop_zero, List.take_succ_cons, List.take_zero, Bool.and_true, Bool.true_and, decide_true, decide_false, wrap64_id, aixG_eq, Nat.reduceAdd, Nat.reduceSub, Nat.reduceMul, Nat.reduceLeDiff, Nat.reduceLT, Int.reduceAdd, Int.reduceSub, Int.reduceMul, Int.reduceNeg, Int.reduceLT, Int.reduceLE, Int.reduceGT, Int.reduceGE, Int.reduceToNat, ↓reduceIte, and_self, true_and, and_true, log_eq_ptr, J21_1_eq, g1, h2.slb.sl.lenOf, sr]
  obtain ⟨z, t', ea, oz⟩ := aapp_ow (by' := 8) (pre := h) (t := [some (.cells false [])]) (x := .sl h.length 0 0 5) (l := ([] : List Rcd)) (l2 := l) Rcd.len Rcd.isc (.inr ⟨h.length, [], rfl, Nat.le_refl _, by rw [hget_at0]; rfl⟩) (by simp; omega)
  simp (dsimp := false) (implicitDefEqProofs := false) (disch := omega) only [gv_some, gr_some, gI_int, gB_bool, gS_str, gc_t, gc_f, gi_t, gi_f, gN_eq, gf_t, Option.bind_some, Option.bind_none, Option.map_some, acells_agg, acells_int, acells_bool, acells_str, acells_ptr, acells_sl, acells_nilsl, acells_nilptr, acells_iface, acells_niliface, aptr_ptr, anil_ptr, aextract_0, aextract_1, aextract_2, alenS_sl, alenS_nil, alenOf_sl, alenOf_nil, apartOf_agg, apart_t, apart_f, astore_ptr, hset_at0, hset_at, hs_same, hs_ne, len_hset, List.set_cons_zero, List.set_cons_succ, set_app, set_app0, aload_ptr, splice_eq, List.drop_nil, List.append_nil, isCell_int, isCell_bool, isCell_str, isCell_ptr, isCell_sl, isCell_nilsl, isCell_nilptr, isCell_iface, isCell_niliface, List.all_cons, List.all_nil, Bool.and_self, hget_at0, hget_at, len_app, List.length_cons, List.length_nil, get_app, get_app0, List.getElem?_cons_zero, List.getElem?_cons_succ, join_some, List.append_assoc, List.cons_append, List.nil_append, Nat.zero_add, Nat.add_zero, Nat.mul_one, chkRd_eq, chkAl_blk, if_true, if_false, Bool.false_eq_true, List.drop_succ_cons, List.drop_zero, List.take_succ_cons, List.take_zero, Bool.and_true, Bool.true_and, decide_true, decide_false, wrap64_id, aixG_eq, Nat.reduceAdd, Nat.reduceSub, Nat.reduceMul, Nat.reduceLeDiff, Nat.reduceLT, Int.reduceAdd, Int.reduceSub, Int.reduceMul, Int.reduceNeg, Int.reduceLT, Int.reduceLE, Int.reduceGT, Int.reduceGE, Int.reduceToNat, ↓reduceIte, and_self, true_and, and_true, ea]
  exact Ev.done (by simpa using oz)
/-- The last sixteen of the first i. -/
def lastL (l : List Rcd) (i : Nat) : List Rcd := (l.take i).drop (i - 16)
theorem lastL_len (l : List Rcd) (i : Nat) : (lastL l i).length ≤ 16 := by simp [lastL]; omega
theorem lastL_put (l : List Rcd) (i : Nat) (hi : i < l.length) : putL (lastL l i) l[i] = lastL l (i + 1) := by
  have e : l.take (i + 1) = l.take i ++ [l[i]] := List.take_succ_eq_append_getElem hi
  unfold putL lastL
  rw [e]
  by_cases h : 16 ≤ i
  · rw [if_pos (by simp; omega), List.drop_append_of_le_length (l₁ := (l.take i).drop (i - 16)) (by simp; omega), List.drop_drop, show i + 1 - 16 = i - 16 + 1 by omega, List.drop_append_of_le_length (by simp; omega)]
  · have h1 : i - 16 = 0 := by omega
    have h2 : i + 1 - 16 = 0 := by omega
    rw [h1, h2, List.drop_zero, List.drop_zero, if_neg (by simp; omega)]
theorem argvRcds {h : AHeap} {f : Nat} {x : AV} (q : ArgV Try.prog h (f + 4) 40 x) : ∃ l : List Rcd, Sl h 5 Rcd.cells l x ∧ l.length ≤ maxLen := by
  unfold ArgV at q
  have hu : ∃ u, (Try.prog).underlying 40 = some (.slice u) := ⟨54, by kernel_rfl⟩
  obtain ⟨u, hu⟩ := hu
  rw [hu] at q
  obtain ⟨y, l, e, s, hr, hl⟩ := q.list (u := 54) (sz := 5) (enc := Rcd.cells) (R := fun _ => True) (by kernel_rfl) (by kernel_rfl) (fun ws q => by
    have q := q.struct (ts := [36, 5, 5, 46, 28]) (by kernel_rfl)
    obtain ⟨_, _, rfl, p1, q⟩ := catQ_cons q
    obtain ⟨_, _, rfl, p2, q⟩ := catQ_cons q
    obtain ⟨_, _, rfl, p3, q⟩ := catQ_cons q
    obtain ⟨_, _, rfl, p4, q⟩ := catQ_cons q
    obtain ⟨_, _, rfl, p5, q⟩ := catQ_cons q
    cases catQ_nil q
    obtain ⟨m1, rfl, _⟩ := p1.int (k := .u32) (by kernel_rfl)
    obtain ⟨m2, rfl, _⟩ := p2.int (k := .u8) (by kernel_rfl)
    obtain ⟨m3, rfl, _⟩ := p3.int (k := .u8) (by kernel_rfl)
    obtain ⟨m4, rfl, _⟩ := p4.int (k := .u8) (by kernel_rfl)
    obtain ⟨m5, rfl, _⟩ := p5.int (k := .u8) (by kernel_rfl)
    exact ⟨⟨m1, m2, m3, m4, m5⟩, rfl, trivial⟩)
  cases e
  exact ⟨l, s, hl⟩
section
variable (h0 : AHeap) (l : List Rcd) (x : AV) (sx : Sl h0 5 Rcd.cells l x) (hn : l.length ≤ 500)
include sx hn
theorem logEnd (b : Nat) (F : List Nat) (g : AHeap) (hm : LogAt (h0 ++ g) b (lastL l l.length) F) : Post (J8_9 x b (h0 ++ g)) fun v _ => v = .bool true := by
  rw [J8_9_eq]
  rw [E20]
  have e0 : (if (l.length : Int) - 16 > 0 then (l.length : Int) - 16 else 0) = ((l.length - 16 : Nat) : Int) := by
    split <;> omega
  obtain ⟨y, ey, sy⟩ := sx.drop Rcd.len .i64 (l.length - 16) (by omega)
  have hm2 : ∀ u, LogAt (h0 ++ (g ++ u)) b (lastL l l.length) F := fun u => by rw [← List.append_assoc]; exact hm.keep fun z hz => hget_old _ (hm.lt z hz)
  simp (dsimp := false) (implicitDefEqProofs := false) (disch := omega) only [gv_some, gr_some, gI_int, gB_bool, gS_str, gc_t, gc_f, gi_t, gi_f, gN_eq, gf_t, Option.bind_some, Option.bind_none, Option.map_some, acells_agg, acells_int, acells_bool, acells_str, acells_ptr, acells_sl, acells_nilsl, acells_nilptr, acells_iface, acells_niliface, aptr_ptr, anil_ptr, aextract_0, aextract_1, aextract_2, alenS_sl, alenS_nil, alenOf_sl, alenOf_nil, apartOf_agg, apart_t, apart_f, astore_ptr, hset_at0, hset_at, hs_same, hs_ne, len_hset, List.set_cons_zero, List.set_cons_succ, set_app, set_app0, aload_ptr, splice_eq, List.drop_nil, List.append_nil, isCell_int, isCell_bool, isCell_str, isCell_ptr, isCell_sl, isCell_nilsl, isCell_nilptr, isCell_iface, isCell_niliface, List.all_cons, List.all_nil, Bool.and_self, hget_at0, hget_at, len_app, List.length_cons, List.length_nil, get_app, get_app0, List.getElem?_cons_zero, List.getElem?_cons_succ, join_some, List.append_assoc, List.cons_append, List.nil_append, Nat.zero_add, Nat.add_zero, Nat.mul_one, chkRd_eq, chkAl_blk, if_true, if_false, Bool.false_eq_true, List.drop_succ_cons, List.drop_zero, List.take_succ_cons, List.take_zero, Bool.and_true, Bool.true_and, decide_true, decide_false, wrap64_id, aixG_eq, Nat.reduceAdd, Nat.reduceSub, Nat.reduceMul, Nat.reduceLeDiff, Nat.reduceLT, Int.reduceAdd, Int.reduceSub, Int.reduceMul, Int.reduceNeg, Int.reduceLT, Int.reduceLE, Int.reduceGT, Int.reduceGE, Int.reduceToNat, ↓reduceIte, and_self, true_and, and_true, log_eq_nil, E21, sx.len, e0, ey]
  have ez : ((((0 : Nat) : Int)) == 0) = true := rfl
  rw [ez]
  simp (dsimp := false) (implicitDefEqProofs := false) (disch := omega) only [gv_some, gr_some, gI_int, gB_bool, gS_str, gc_t, gc_f, gi_t, gi_f, gN_eq, gf_t, Option.bind_some, Option.bind_none, Option.map_some, acells_agg, acells_int, acells_bool, acells_str, acells_ptr, acells_sl, acells_nilsl, acells_nilptr, acells_iface, acells_niliface, aptr_ptr, anil_ptr, aextract_0, aextract_1, aextract_2, alenS_sl, alenS_nil, alenOf_sl, alenOf_nil, apartOf_agg, apart_t, apart_f, astore_ptr, hset_at0, hset_at, hs_same, hs_ne, len_hset, List.set_cons_zero, List.set_cons_succ, set_app, set_app0, aload_ptr, splice_eq, List.drop_nil, List.append_nil, isCell_int, isCell_bool, isCell_str, isCell_ptr, isCell_sl, isCell_nilsl, isCell_nilptr, isCell_iface, isCell_niliface, List.all_cons, List.all_nil, Bool.and_self, hget_at0, hget_at, len_app, List.length_cons, List.length_nil, get_app, get_app0, List.getElem?_cons_zero, List.getElem?_cons_succ, join_some, List.append_assoc, List.cons_append, List.nil_append, Nat.zero_add, Nat.add_zero, Nat.mul_one, chkRd_eq, chkAl_blk, if_true, if_false, Bool.false_eq_true, List.drop_succ_cons, List.drop_zero, List.take_succ_cons, List.take_zero, Bool.and_true, Bool.true_and, decide_true, decide_false, wrap64_id, aixG_eq, Nat.reduceAdd, Nat.reduceSub, Nat.reduceMul, Nat.reduceLeDiff, Nat.reduceLT, Int.reduceAdd, Int.reduceSub, Int.reduceMul, Int.reduceNeg, Int.reduceLT, Int.reduceLE, Int.reduceGT, Int.reduceGE, Int.reduceToNat, ↓reduceIte, and_self, true_and, and_true, sx.len, e0, ey]
  refine Post.call (c_list _ b _ F (hm2 _) (lastL_len _ _)) fun v g2 oz => ?_
  simp (dsimp := false) (implicitDefEqProofs := false) (disch := omega) only [gv_some, gr_some, gI_int, gB_bool, gS_str, gc_t, gc_f, gi_t, gi_f, gN_eq, gf_t, Option.bind_some, Option.bind_none, Option.map_some, acells_agg, acells_int, acells_bool, acells_str, acells_ptr, acells_sl, acells_nilsl, acells_nilptr, acells_iface, acells_niliface, aptr_ptr, anil_ptr, aextract_0, aextract_1, aextract_2, alenS_sl, alenS_nil, alenOf_sl, alenOf_nil, apartOf_agg, apart_t, apart_f, astore_ptr, hset_at0, hset_at, hs_same, hs_ne, len_hset, List.set_cons_zero, List.set_cons_succ, set_app, set_app0, aload_ptr, splice_eq, List.drop_nil, List.append_nil, isCell_int, isCell_bool, isCell_str, isCell_ptr, isCell_sl, isCell_nilsl, isCell_nilptr, isCell_iface, isCell_niliface, List.all_cons, List.all_nil, Bool.and_self, hget_at0, hget_at, len_app, List.length_cons, List.length_nil, get_app, get_app0, List.getElem?_cons_zero, List.getElem?_cons_succ, join_some, List.append_assoc, List.cons_append, List.nil_append, Nat.zero_add, Nat.add_zero, Nat.mul_one, chkRd_eq, chkAl_blk, if_true, if_false, Bool.false_eq_true, List.drop_succ_cons, List.drop_zero, List.take_succ_cons, List.take_zero, Bool.and_true, Bool.true_and, decide_true, decide_false, wrap64_id, aixG_eq, Nat.reduceAdd, Nat.reduceSub, Nat.reduceMul, Nat.reduceLeDiff, Nat.reduceLT, Int.reduceAdd, Int.reduceSub, Int.reduceMul, Int.reduceNeg, Int.reduceLT, Int.reduceLE, Int.reduceGT, Int.reduceGE, Int.reduceToNat, ↓reduceIte, and_self, true_and, and_true, e0, ey, chkRd_eq, gf_t, Bool.and_self]
  have eL : lastL l l.length = l.drop (l.length - 16) := by unfold lastL; rw [List.take_length]
  rw [eL] at oz
  have sy2 := sy.app (g ++ [some (.cells false [.int .u32 0, .int .u8 0, .int .u8 0, .int .u8 0, .int .u8 0])])
  have sy3 := sy2.app g2
  have cs := c_same _ _ _ v y oz.sl sy3 (by simp; omega)
  try simp only [List.append_assoc, List.cons_append, List.nil_append] at cs
  rw [cs]
  simp (dsimp := false) (implicitDefEqProofs := false) (disch := omega) only [gv_some, gr_some, gI_int, gB_bool, gS_str, gc_t, gc_f, gi_t, gi_f, gN_eq, gf_t, Option.bind_some, Option.bind_none, Option.map_some, acells_agg, acells_int, acells_bool, acells_str, acells_ptr, acells_sl, acells_nilsl, acells_nilptr, acells_iface, acells_niliface, aptr_ptr, anil_ptr, aextract_0, aextract_1, aextract_2, alenS_sl, alenS_nil, alenOf_sl, alenOf_nil, apartOf_agg, apart_t, apart_f, astore_ptr, hset_at0, hset_at, hs_same, hs_ne, len_hset, List.set_cons_zero, List.set_cons_succ, set_app, set_app0, aload_ptr, splice_eq, List.drop_nil, List.append_nil, isCell_int, isCell_bool, isCell_str, isCell_ptr, isCell_sl, isCell_nilsl, isCell_nilptr, isCell_iface, isCell_niliface, List.all_cons, List.all_nil, Bool.and_self, hget_at0, hget_at, len_app, List.length_cons, List.length_nil, get_app, get_app0, List.getElem?_cons_zero, List.getElem?_cons_succ, join_some, List.append_assoc, List.cons_append, List.nil_append, Nat.zero_add, Nat.add_zero, Nat.mul_one, chkRd_eq, chkAl_blk, if_true, if_false, Bool.false_eq_true, List.drop_succ_cons, List.drop_zero, List.take_succ_cons, List.take_zero, Bool.and_true, Bool.true_and, decide_true, decide_false, wrap64_id, aixG_eq, Nat.reduceAdd, Nat.reduceSub, Nat.reduceMul, Nat.reduceLeDiff, Nat.reduceLT, Int.reduceAdd, Int.reduceSub, Int.reduceMul, Int.reduceNeg, Int.reduceLT, Int.reduceLE, Int.reduceGT, Int.reduceGE, Int.reduceToNat, ↓reduceIte, and_self, true_and, and_true, decide_true]
  exact Post.done rfl
theorem logClear (b : Nat) (F : List Nat) (z : AV) (n : Nat) (hz : n ≤ 16) : ∀ (k i : Nat) (g : AHeap), k = n - i → LogAt (h0 ++ g) b (lastL l l.length) F → (n = 0 ∨ ∃ c cs, z = .sl c 0 n 5 ∧ hget (h0 ++ g) c = some (.cells false cs) ∧ n * 5 ≤ cs.length ∧ c ∉ F ∧ h0.length ≤ c) →
    Post (J8_7 x b z (n : Int) (i : Int) (h0 ++ g)) fun v _ => v = .bool true := by
  intro k
  induction k with
  | zero =>
    intro i g hk hm ho
    rw [J8_7_eq, decide_eq_false (by omega)]
    simp (dsimp := false) (implicitDefEqProofs := false) (disch := omega) only [gv_some, gr_some, gI_int, gB_bool, gS_str, gc_t, gc_f, gi_t, gi_f, gN_eq, gf_t, Option.bind_some, Option.bind_none, Option.map_some, acells_agg, acells_int, acells_bool, acells_str, acells_ptr, acells_sl, acells_nilsl, acells_nilptr, acells_iface, acells_niliface, aptr_ptr, anil_ptr, aextract_0, aextract_1, aextract_2, alenS_sl, alenS_nil, alenOf_sl, alenOf_nil, apartOf_agg, apart_t, apart_f, astore_ptr, hset_at0, hset_at, hs_same, hs_ne, len_hset, List.set_cons_zero, List.set_cons_succ, set_app, set_app0, aload_ptr, splice_eq, List.drop_nil, List.append_nil, isCell_int, isCell_bool, isCell_str, isCell_ptr, isCell_sl, isCell_nilsl, isCell_nilptr, isCell_iface, isCell_niliface, List.all_cons, List.all_nil, Bool.and_self, hget_at0, hget_at, len_app, List.length_cons, List.length_nil, get_app, get_app0, List.getElem?_cons_zero, List.getElem?_cons_succ, join_some, List.append_assoc, List.cons_append, List.nil_append, Nat.zero_add, Nat.add_zero, Nat.mul_one, chkRd_eq, chkAl_blk, if_true, if_false, Bool.false_eq_true, List.drop_succ_cons, List.drop_zero, List.take_succ_cons, List.take_zero, Bool.and_true, Bool.true_and, decide_true, decide_false, wrap64_id, aixG_eq, Nat.reduceAdd, Nat.reduceSub, Nat.reduceMul, Nat.reduceLeDiff, Nat.reduceLT, Int.reduceAdd, Int.reduceSub, Int.reduceMul, Int.reduceNeg, Int.reduceLT, Int.reduceLE, Int.reduceGT, Int.reduceGE, Int.reduceToNat, ↓reduceIte, and_self, true_and, and_true]
    exact logEnd h0 l x sx hn b F g hm
  | succ k ih =>
    intro i g hk hm ho
    rw [J8_7_eq, decide_eq_true (by omega)]
    rcases ho with ho | ⟨c, cs, rfl, hg, hc, hF, h0c⟩
    · omega
    have est : astore true 5 (.ptr c (0 + i * 5)) (.agg [.int .u32 99, .int .u8 0, .int .u8 0, .int .u8 0, .int .u8 0]) (h0 ++ g) = some (hset (h0 ++ g) c (splice cs (0 + i * 5) [.int .u32 99, .int .u8 0, .int .u8 0, .int .u8 0, .int .u8 0])) := by
      rw [astore_ptr, hg]
      have cond : 0 + i * 5 + 5 ≤ cs.length := by omega
      simp only [cond, if_true]
      rfl
    have hlt := hget_lt hg
    simp (dsimp := false) (implicitDefEqProofs := false) (disch := omega) only [gv_some, gr_some, gI_int, gB_bool, gS_str, gc_t, gc_f, gi_t, gi_f, gN_eq, gf_t, Option.bind_some, Option.bind_none, Option.map_some, acells_agg, acells_int, acells_bool, acells_str, acells_ptr, acells_sl, acells_nilsl, acells_nilptr, acells_iface, acells_niliface, aptr_ptr, anil_ptr, aextract_0, aextract_1, aextract_2, alenS_sl, alenS_nil, alenOf_sl, alenOf_nil, apartOf_agg, apart_t, apart_f, astore_ptr, hset_at0, hset_at, hs_same, hs_ne, len_hset, List.set_cons_zero, List.set_cons_succ, set_app, set_app0, aload_ptr, splice_eq, List.drop_nil, List.append_nil, isCell_int, isCell_bool, isCell_str, isCell_ptr, isCell_sl, isCell_nilsl, isCell_nilptr, isCell_iface, isCell_niliface, List.all_cons, List.all_nil, Bool.and_self, hget_at0, hget_at, len_app, List.length_cons, List.length_nil, get_app, get_app0, List.getElem?_cons_zero, List.getElem?_cons_succ, join_some, List.append_assoc, List.cons_append, List.nil_append, Nat.zero_add, Nat.add_zero, Nat.mul_one, chkRd_eq, chkAl_blk, if_true, if_false, Bool.false_eq_true, List.drop_succ_cons, List.drop_zero, List.take_succ_cons, List.take_zero, Bool.and_true, Bool.true_and, decide_true, decide_false, wrap64_id, aixG_eq, Nat.reduceAdd, Nat.reduceSub, Nat.reduceMul, Nat.reduceLeDiff, Nat.reduceLT, Int.reduceAdd, Int.reduceSub, Int.reduceMul, Int.reduceNeg, Int.reduceLT, Int.reduceLE, Int.reduceGT, Int.reduceGE, Int.reduceToNat, ↓reduceIte, and_self, true_and, and_true, J8_8_eq]
    refine Post.val (aixS_at (by omega)) ?_
    refine Post.val est ?_
    rw [J8_10_eq, wsucc (by omega)]
    have sl : (splice cs (0 + i * 5) [.int .u32 99, .int .u8 0, .int .u8 0, .int .u8 0, .int .u8 0]).length = cs.length := by
      rw [splice_eq]; simp; omega
    have fr : Fr [c] (h0 ++ g) [c] (hset (h0 ++ g) c (splice cs (0 + i * 5) [.int .u32 99, .int .u8 0, .int .u8 0, .int .u8 0, .int .u8 0])) := Fr.hset (by simp) _
    obtain ⟨⟨g', e⟩, _⟩ := fr.grow (h0 := h0) (g := g) (fun w hw => by simp at hw; omega)
    have m2 := hm.keep (h' := hset (h0 ++ g) c (splice cs (0 + i * 5) [.int .u32 99, .int .u8 0, .int .u8 0, .int .u8 0, .int .u8 0])) fun w hw => hs_ne (fun e => hF (by rw [e]; exact hw)) _
    have hs := hs_same hlt (splice cs (0 + i * 5) [.int .u32 99, .int .u8 0, .int .u8 0, .int .u8 0, .int .u8 0])
    rw [e] at m2 hs ⊢
    exact ih (i + 1) g' (by omega) m2 (.inr ⟨c, _, rfl, hs, by rw [sl]; exact hc, hF, h0c⟩)
theorem logLoop : ∀ (s : List Rcd) (i : Nat) (b : Nat) (F : List Nat) (g : AHeap), l.drop i = s → i ≤ l.length → LogAt (h0 ++ g) b (lastL l i) F → (∀ w ∈ F, h0.length ≤ w) →
    Post (J8_3 x b x (l.length : Int) (i : Int) (h0 ++ g)) fun v _ => v = .bool true := by
  intro s
  induction s with
  | nil =>
    intro i b F g hs hi hm hF
    have := drop_nil hs
    have : i = l.length := by omega
    subst this
    rw [J8_3_eq, decide_eq_false (by omega)]
    simp (dsimp := false) (implicitDefEqProofs := false) (disch := omega) only [gv_some, gr_some, gI_int, gB_bool, gS_str, gc_t, gc_f, gi_t, gi_f, gN_eq, gf_t, Option.bind_some, Option.bind_none, Option.map_some, acells_agg, acells_int, acells_bool, acells_str, acells_ptr, acells_sl, acells_nilsl, acells_nilptr, acells_iface, acells_niliface, aptr_ptr, anil_ptr, aextract_0, aextract_1, aextract_2, alenS_sl, alenS_nil, alenOf_sl, alenOf_nil, apartOf_agg, apart_t, apart_f, astore_ptr, hset_at0, hset_at, hs_same, hs_ne, len_hset, List.set_cons_zero, List.set_cons_succ, set_app, set_app0, aload_ptr, splice_eq, List.drop_nil, List.append_nil, isCell_int, isCell_bool, isCell_str, isCell_ptr, isCell_sl, isCell_nilsl, isCell_nilptr, isCell_iface, isCell_niliface, List.all_cons, List.all_nil, Bool.and_self, hget_at0, hget_at, len_app, List.length_cons, List.length_nil, get_app, get_app0, List.getElem?_cons_zero, List.getElem?_cons_succ, join_some, List.append_assoc, List.cons_append, List.nil_append, Nat.zero_add, Nat.add_zero, Nat.mul_one, chkRd_eq, chkAl_blk, if_true, if_false, Bool.false_eq_true, List.drop_succ_cons, List.drop_zero, List.take_succ_cons, List.take_zero, Bool.and_true, Bool.true_and, decide_true, decide_false, wrap64_id, aixG_eq, Nat.reduceAdd, Nat.reduceSub, Nat.reduceMul, Nat.reduceLeDiff, Nat.reduceLT, Int.reduceAdd, Int.reduceSub, Int.reduceMul, Int.reduceNeg, Int.reduceLT, Int.reduceLE, Int.reduceGT, Int.reduceGE, Int.reduceToNat, ↓reduceIte, and_self, true_and, and_true, J8_5_eq]
    refine Post.call (c_list _ b _ F hm (lastL_len _ _)) fun v g2 oz => ?_
    refine Post.val oz.sl.len ?_
    have m2 := hm.keep (h' := h0 ++ g ++ g2) fun w hw => hget_old _ (hm.lt w hw)
    have ln := lastL_len l l.length
    have ho : (lastL l l.length).length = 0 ∨ ∃ c cs, v = .sl c 0 (lastL l l.length).length 5 ∧ hget (h0 ++ g ++ g2) c = some (.cells false cs) ∧ (lastL l l.length).length * 5 ≤ cs.length ∧ c ∉ F ∧ h0.length ≤ c := by
      rcases oz with ⟨_, e⟩ | ⟨c, rest, e, hc, hg⟩
      · left; rw [e]; rfl
      · right
        refine ⟨c, _, e, hg, by rw [List.length_append, flatMap_len Rcd.len]; omega, fun hw => ?_, by simp at hc; omega⟩
        have := hm.lt c hw
        omega
    rw [List.append_assoc] at m2 ho ⊢
    exact logClear h0 l x sx hn b F v _ ln _ 0 _ rfl m2 ho
  | cons r s ih =>
    intro i b F g hs hi hm hF
    obtain ⟨hk, hr, hs'⟩ := drop_cons hs
    rw [J8_3_eq, decide_eq_true (by omega)]
    obtain ⟨eb, eo, ix, ea⟩ := (sx.app g).elem Rcd.len i hk
    rw [hr] at ea
    have ec : r.cells = [.int .u32 r.round, .int .u8 r.node, .int .u8 r.part, .int .u8 r.kind, .int .u8 r.did] := rfl
    have w1 : IntKind.i64.wrap ((i : Int) + 1) = ((i + 1 : Nat) : Int) := wsucc (by omega)
    have w2 : IntKind.i64.wrap (((i + 1 : Nat) : Int) - 16) = ((i + 1 : Nat) : Int) - 16 := wrap64_id (by omega) (by omega)
    have e0 : (if ((i + 1 : Nat) : Int) - 16 > 0 then ((i + 1 : Nat) : Int) - 16 else 0) = ((i + 1 - 16 : Nat) : Int) := by split <;> omega
    simp (dsimp := false) (implicitDefEqProofs := false) (disch := omega) only [gv_some, gr_some, gI_int, gB_bool, gS_str, gc_t, gc_f, gi_t, gi_f, gN_eq, gf_t, Option.bind_some, Option.bind_none, Option.map_some, acells_agg, acells_int, acells_bool, acells_str, acells_ptr, acells_sl, acells_nilsl, acells_nilptr, acells_iface, acells_niliface, aptr_ptr, anil_ptr, aextract_0, aextract_1, aextract_2, alenS_sl, alenS_nil, alenOf_sl, alenOf_nil, apartOf_agg, apart_t, apart_f, astore_ptr, hset_at0, hset_at, hs_same, hs_ne, len_hset, List.set_cons_zero, List.set_cons_succ, set_app, set_app0, aload_ptr, splice_eq, List.drop_nil, List.append_nil, isCell_int, isCell_bool, isCell_str, isCell_ptr, isCell_sl, isCell_nilsl, isCell_nilptr, isCell_iface, isCell_niliface, List.all_cons, List.all_nil, Bool.and_self, hget_at0, hget_at, len_app, List.length_cons, List.length_nil, get_app, get_app0, List.getElem?_cons_zero, List.getElem?_cons_succ, join_some, List.append_assoc, List.cons_append, List.nil_append, Nat.zero_add, Nat.add_zero, Nat.mul_one, chkRd_eq, chkAl_blk, if_true, if_false, Bool.false_eq_true, List.drop_succ_cons, List.drop_zero, List.take_succ_cons, List.take_zero, Bool.and_true, Bool.true_and, decide_true, decide_false, wrap64_id, aixG_eq, Nat.reduceAdd, Nat.reduceSub, Nat.reduceMul, Nat.reduceLeDiff, Nat.reduceLT, Int.reduceAdd, Int.reduceSub, Int.reduceMul, Int.reduceNeg, Int.reduceLT, Int.reduceLE, Int.reduceGT, Int.reduceGE, Int.reduceToNat, ↓reduceIte, and_self, true_and, and_true, J8_4_eq]
    rw [w1, w2, e0]
    refine Post.val ix ?_
    refine Post.val (ea.loadN 5 rfl) ?_
    simp (dsimp := false) (implicitDefEqProofs := false) (disch := omega) only [gv_some, gr_some, gI_int, gB_bool, gS_str, gc_t, gc_f, gi_t, gi_f, gN_eq, gf_t, Option.bind_some, Option.bind_none, Option.map_some, acells_agg, acells_int, acells_bool, acells_str, acells_ptr, acells_sl, acells_nilsl, acells_nilptr, acells_iface, acells_niliface, aptr_ptr, anil_ptr, aextract_0, aextract_1, aextract_2, alenS_sl, alenS_nil, alenOf_sl, alenOf_nil, apartOf_agg, apart_t, apart_f, astore_ptr, hset_at0, hset_at, hs_same, hs_ne, len_hset, List.set_cons_zero, List.set_cons_succ, set_app, set_app0, aload_ptr, splice_eq, List.drop_nil, List.append_nil, isCell_int, isCell_bool, isCell_str, isCell_ptr, isCell_sl, isCell_nilsl, isCell_nilptr, isCell_iface, isCell_niliface, List.all_cons, List.all_nil, Bool.and_self, hget_at0, hget_at, len_app, List.length_cons, List.length_nil, get_app, get_app0, List.getElem?_cons_zero, List.getElem?_cons_succ, join_some, List.append_assoc, List.cons_append, List.nil_append, Nat.zero_add, Nat.add_zero, Nat.mul_one, chkRd_eq, chkAl_blk, if_true, if_false, Bool.false_eq_true, List.drop_succ_cons, List.drop_zero, List.take_succ_cons, List.take_zero, Bool.and_true, Bool.true_and, decide_true, decide_false, wrap64_id, aixG_eq, Nat.reduceAdd, Nat.reduceSub, Nat.reduceMul, Nat.reduceLeDiff, Nat.reduceLT, Int.reduceAdd, Int.reduceSub, Int.reduceMul, Int.reduceNeg, Int.reduceLT, Int.reduceLE, Int.reduceGT, Int.reduceGE, Int.reduceToNat, ↓reduceIte, and_self, true_and, and_true, ec]
    have m1 : LogAt (h0 ++ (g ++ [some (.cells false [.int .u32 r.round, .int .u8 r.node, .int .u8 r.part, .int .u8 r.kind, .int .u8 r.did])])) b (lastL l i) F := by rw [← List.append_assoc]; exact hm.keep fun w hw => hget_old _ (hm.lt w hw)
    refine Post.bind (c_put _ b _ F r m1 (lastL_len _ _)) ?_
    rintro v h' ⟨rfl, F', m2, fr⟩
    obtain ⟨⟨g', rfl⟩, hF'⟩ := fr.grow hF
    have ep : putL (lastL l i) r = lastL l (i + 1) := by rw [← hr]; exact lastL_put l i hk
    rw [ep] at m2
    obtain ⟨y, ey, sy⟩ := sx.cut Rcd.len .i64 (i + 1 - 16) (i + 1) (by omega) hk
    refine Post.val ey ?_
    refine Post.call (c_list _ b _ F' m2 (lastL_len _ _)) fun v g2 oz => ?_
    have sy3 := (sy.app g').app g2
    simp (dsimp := false) (implicitDefEqProofs := false) (disch := omega) only [gv_some, gr_some, gI_int, gB_bool, gS_str, gc_t, gc_f, gi_t, gi_f, gN_eq, gf_t, Option.bind_some, Option.bind_none, Option.map_some, acells_agg, acells_int, acells_bool, acells_str, acells_ptr, acells_sl, acells_nilsl, acells_nilptr, acells_iface, acells_niliface, aptr_ptr, anil_ptr, aextract_0, aextract_1, aextract_2, alenS_sl, alenS_nil, alenOf_sl, alenOf_nil, apartOf_agg, apart_t, apart_f, astore_ptr, hset_at0, hset_at, hs_same, hs_ne, len_hset, List.set_cons_zero, List.set_cons_succ, set_app, set_app0, aload_ptr, splice_eq, List.drop_nil, List.append_nil, isCell_int, isCell_bool, isCell_str, isCell_ptr, isCell_sl, isCell_nilsl, isCell_nilptr, isCell_iface, isCell_niliface, List.all_cons, List.all_nil, Bool.and_self, hget_at0, hget_at, len_app, List.length_cons, List.length_nil, get_app, get_app0, List.getElem?_cons_zero, List.getElem?_cons_succ, join_some, List.append_assoc, List.cons_append, List.nil_append, Nat.zero_add, Nat.add_zero, Nat.mul_one, chkRd_eq, chkAl_blk, if_true, if_false, Bool.false_eq_true, List.drop_succ_cons, List.drop_zero, List.take_succ_cons, List.take_zero, Bool.and_true, Bool.true_and, decide_true, decide_false, wrap64_id, aixG_eq, Nat.reduceAdd, Nat.reduceSub, Nat.reduceMul, Nat.reduceLeDiff, Nat.reduceLT, Int.reduceAdd, Int.reduceSub, Int.reduceMul, Int.reduceNeg, Int.reduceLT, Int.reduceLE, Int.reduceGT, Int.reduceGE, Int.reduceToNat, ↓reduceIte, and_self, true_and, and_true, ey, chkRd_eq, gf_t, Bool.and_self]
    have ln := lastL_len l (i + 1)
    have cs := c_same _ _ _ v y oz.sl sy3 (by omega)
    try simp only [List.append_assoc, List.cons_append, List.nil_append] at cs
    rw [cs]
    have : decide (lastL l (i + 1) = (l.take (i + 1)).drop (i + 1 - 16)) = true := decide_eq_true rfl
    rw [this]
    simp (dsimp := false) (implicitDefEqProofs := false) (disch := omega) only [gv_some, gr_some, gI_int, gB_bool, gS_str, gc_t, gc_f, gi_t, gi_f, gN_eq, gf_t, Option.bind_some, Option.bind_none, Option.map_some, acells_agg, acells_int, acells_bool, acells_str, acells_ptr, acells_sl, acells_nilsl, acells_nilptr, acells_iface, acells_niliface, aptr_ptr, anil_ptr, aextract_0, aextract_1, aextract_2, alenS_sl, alenS_nil, alenOf_sl, alenOf_nil, apartOf_agg, apart_t, apart_f, astore_ptr, hset_at0, hset_at, hs_same, hs_ne, len_hset, List.set_cons_zero, List.set_cons_succ, set_app, set_app0, aload_ptr, splice_eq, List.drop_nil, List.append_nil, isCell_int, isCell_bool, isCell_str, isCell_ptr, isCell_sl, isCell_nilsl, isCell_nilptr, isCell_iface, isCell_niliface, List.all_cons, List.all_nil, Bool.and_self, hget_at0, hget_at, len_app, List.length_cons, List.length_nil, get_app, get_app0, List.getElem?_cons_zero, List.getElem?_cons_succ, join_some, List.append_assoc, List.cons_append, List.nil_append, Nat.zero_add, Nat.add_zero, Nat.mul_one, chkRd_eq, chkAl_blk, if_true, if_false, Bool.false_eq_true, List.drop_succ_cons, List.drop_zero, List.take_succ_cons, List.take_zero, Bool.and_true, Bool.true_and, decide_true, decide_false, wrap64_id, aixG_eq, Nat.reduceAdd, Nat.reduceSub, Nat.reduceMul, Nat.reduceLeDiff, Nat.reduceLT, Int.reduceAdd, Int.reduceSub, Int.reduceMul, Int.reduceNeg, Int.reduceLT, Int.reduceLE, Int.reduceGT, Int.reduceGE, Int.reduceToNat, ↓reduceIte, and_self, true_and, and_true, Bool.not_true]
    rw [J8_6_eq, w1]
    have m3 := m2.keep (h' := h0 ++ g' ++ g2) fun w hw => hget_old _ (m2.lt w hw)
    rw [List.append_assoc] at m3
    exact ih (i + 1) b F' (g' ++ g2) hs' hk m3 hF'
end
theorem healthLogs : LawTrue Try.prog Nt 9 8 [40] := by
  rintro h xs ⟨x, r, rfl, hx, hr⟩
  cases hr
  obtain ⟨l, sx, _⟩ := argvRcds hx
  have main : Post (acall Try.prog Nt 8 [x] h) fun v _ => v = .bool true := by
    rw [E8]
    refine Post.bind (c_awake h) ?_
    rintro v h1 ⟨rfl, g, rfl⟩
    simp (dsimp := false) (implicitDefEqProofs := false) (disch := omega) only [gv_some, gr_some, gI_int, gB_bool, gS_str, gc_t, gc_f, gi_t, gi_f, gN_eq, gf_t, Option.bind_some, Option.bind_none, Option.map_some, acells_agg, acells_int, acells_bool, acells_str, acells_ptr, acells_sl, acells_nilsl, acells_nilptr, acells_iface, acells_niliface, aptr_ptr, anil_ptr, aextract_0, aextract_1, aextract_2, alenS_sl, alenS_nil, alenOf_sl, alenOf_nil, apartOf_agg, apart_t, apart_f, astore_ptr, hset_at0, hset_at, hs_same, hs_ne, len_hset, List.set_cons_zero, List.set_cons_succ, set_app, set_app0, aload_ptr, splice_eq, List.drop_nil, List.append_nil, isCell_int, isCell_bool, isCell_str, isCell_ptr, isCell_sl, isCell_nilsl, isCell_nilptr, isCell_iface, isCell_niliface, List.all_cons, List.all_nil, Bool.and_self, hget_at0, hget_at, len_app, List.length_cons, List.length_nil, get_app, get_app0, List.getElem?_cons_zero, List.getElem?_cons_succ, join_some, List.append_assoc, List.cons_append, List.nil_append, Nat.zero_add, Nat.add_zero, Nat.mul_one, chkRd_eq, chkAl_blk, if_true, if_false, Bool.false_eq_true, List.drop_succ_cons, List.drop_zero, List.take_succ_cons, List.take_zero, Bool.and_true, Bool.true_and, decide_true, decide_false, wrap64_id, aixG_eq, Nat.reduceAdd, Nat.reduceSub, Nat.reduceMul, Nat.reduceLeDiff, Nat.reduceLT, Int.reduceAdd, Int.reduceSub, Int.reduceMul, Int.reduceNeg, Int.reduceLT, Int.reduceLE, Int.reduceGT, Int.reduceGE, Int.reduceToNat, ↓reduceIte, and_self, true_and, and_true, Bool.not_true, J8_1_eq, (sx.app g).len]
    refine Post.cdd (fun c => Post.done rfl) fun c => ?_
    rw [J8_2_eq]
    simp (dsimp := false) (implicitDefEqProofs := false) (disch := omega) only [gv_some, gr_some, gI_int, gB_bool, gS_str, gc_t, gc_f, gi_t, gi_f, gN_eq, gf_t, Option.bind_some, Option.bind_none, Option.map_some, acells_agg, acells_int, acells_bool, acells_str, acells_ptr, acells_sl, acells_nilsl, acells_nilptr, acells_iface, acells_niliface, aptr_ptr, anil_ptr, aextract_0, aextract_1, aextract_2, alenS_sl, alenS_nil, alenOf_sl, alenOf_nil, apartOf_agg, apart_t, apart_f, astore_ptr, hset_at0, hset_at, hs_same, hs_ne, len_hset, List.set_cons_zero, List.set_cons_succ, set_app, set_app0, aload_ptr, splice_eq, List.drop_nil, List.append_nil, isCell_int, isCell_bool, isCell_str, isCell_ptr, isCell_sl, isCell_nilsl, isCell_nilptr, isCell_iface, isCell_niliface, List.all_cons, List.all_nil, Bool.and_self, hget_at0, hget_at, len_app, List.length_cons, List.length_nil, get_app, get_app0, List.getElem?_cons_zero, List.getElem?_cons_succ, join_some, List.append_assoc, List.cons_append, List.nil_append, Nat.zero_add, Nat.add_zero, Nat.mul_one, chkRd_eq, chkAl_blk, if_true, if_false, Bool.false_eq_true, List.drop_succ_cons, List.drop_zero, List.take_succ_cons, List.take_zero, Bool.and_true, Bool.true_and, decide_true, decide_false, wrap64_id, aixG_eq, Nat.reduceAdd, Nat.reduceSub, Nat.reduceMul, Nat.reduceLeDiff, Nat.reduceLT, Int.reduceAdd, Int.reduceSub, Int.reduceMul, Int.reduceNeg, Int.reduceLT, Int.reduceLE, Int.reduceGT, Int.reduceGE, Int.reduceToNat, ↓reduceIte, and_self, true_and, and_true, (sx.app g).len]
    refine logLoop h l x sx (by omega) l 0 _ [h.length + g.length] (g ++ [some (.cells false [.nilsl])]) rfl (by omega) ⟨.nilsl, [], ?_, .inl ⟨rfl, rfl, rfl⟩, by simp, rfl⟩ (fun w hw => by simp at hw; omega)
    rw [hget_at, get_app0]; rfl
  obtain ⟨v, g, e, rfl⟩ := main
  exact ⟨_, e⟩
end Go.Ab
end
section
/-
  Functions of the program as equations: written by program (wip/tools/prt.py).
-/
namespace Go.Ab
open Go.Proofs
/-! 33: escapement/escapementref01.Trail -/
noncomputable def K33 : Kont := kend Try.prog 51 Try.f33.results.toList
noncomputable def K33_1 (lp : Loop) (jn : Join) : Kont := kseqJ jn (codeJ Try.prog Nt lp jn 51 (nat' [true, true, true, true] A33) (cat [true, true, true, true] C33)) (some [3]) K33
noncomputable def K33_2 (lp : Loop) (jn : Join) : Kont := kblock 0 none (K33_1 lp jn)
noncomputable def K33_3 (lp : Loop) (jn : Join) : Kont := kloop (lp (some [0, 3, 4, 5, 6, 7]) (codeJ Try.prog Nt lp jn 51 (nat' [true, true, true, false, true, false, false] A33) (cat [true, true, true, false, true, false, false] C33))) (some [0, 3, 4, 5, 6, 7]) (K33_2 lp jn)
noncomputable def K33_4 (lp : Loop) (jn : Join) : Kont := kseqJ jn (codeJ Try.prog Nt lp jn 51 (nat' [true, true, true, false, true, false, false, true, true] A33) (cat [true, true, true, false, true, false, false, true, true] C33)) (some [0, 3, 4, 5, 6, 7]) (K33_3 lp jn)
noncomputable def K33_5 (lp : Loop) (jn : Join) : Kont := kblock 1 none (K33_4 lp jn)
noncomputable def K33_6 (lp : Loop) (jn : Join) : Kont := kblock 2 none (K33_5 lp jn)
noncomputable def J33_1' (lp : Loop) (jn : Join) (x0 : List UInt8) (x3 : AV) (x4 : Int) (x5 : Bool) (x6 : Bool) (x7 : Int) (h : AHeap) : Res := lp (some [0, 3, 4, 5, 6, 7]) (codeJ Try.prog Nt lp jn 51 (nat' [true, true, true, false, true, false, false] A33) (cat [true, true, true, false, true, false, false] C33)) (envOf [(0, (.str x0)), (3, x3), (4, (.int .i64 x4)), (5, (.bool x5)), (6, (.bool x6)), (7, (.int .i64 x7))]) h (K33_2 lp jn)
noncomputable def J33_1 (x0 : List UInt8) (x3 : AV) (x4 : Int) (x5 : Bool) (x6 : Bool) (x7 : Int) (h : AHeap) : Res := J33_1' aloop (fun s => s) x0 x3 x4 x5 x6 x7 h
noncomputable def J33_2' (lp : Loop) (jn : Join) (x0 : List UInt8) (x3 : AV) (x4 : Int) (x5 : Bool) (x6 : Bool) (x7 : Int) (h : AHeap) : Res := jn (codeJ Try.prog Nt lp jn 51 (nat' [true, true, true, false, true, false, false, true] A33) (cat [true, true, true, false, true, false, false, true] C33)) (envOf [(0, (.str x0)), (3, x3), (4, (.int .i64 x4)), (5, (.bool x5)), (6, (.bool x6)), (7, (.int .i64 x7))]) h (K33_3 lp jn)
noncomputable def J33_2 (x0 : List UInt8) (x3 : AV) (x4 : Int) (x5 : Bool) (x6 : Bool) (x7 : Int) (h : AHeap) : Res := J33_2' aloop (fun s => s) x0 x3 x4 x5 x6 x7 h
noncomputable def J33_3' (lp : Loop) (jn : Join) (x3 : AV) (h : AHeap) : Res := jn (codeJ Try.prog Nt lp jn 51 (nat' [true, true, true, true] A33) (cat [true, true, true, true] C33)) (envOf [(3, x3)]) h K33
noncomputable def J33_3 (x3 : AV) (h : AHeap) : Res := J33_3' aloop (fun s => s) x3 h
noncomputable def J33_4' (lp : Loop) (jn : Join) (x0 : List UInt8) (x3 : AV) (x4 : Int) (x5 : Bool) (x6 : Bool) (x7 : Int) (x8 : Int) (h : AHeap) : Res := jn (codeJ Try.prog Nt lp jn 51 (nat' [true, true, true, false, true, false, false, true, false, false, true, true] A33) (cat [true, true, true, false, true, false, false, true, false, false, true, true] C33)) (envOf [(0, (.str x0)), (3, x3), (4, (.int .i64 x4)), (5, (.bool x5)), (6, (.bool x6)), (7, (.int .i64 x7)), (8, (.int .u8 x8))]) h (K33_5 lp jn)
noncomputable def J33_4 (x0 : List UInt8) (x3 : AV) (x4 : Int) (x5 : Bool) (x6 : Bool) (x7 : Int) (x8 : Int) (h : AHeap) : Res := J33_4' aloop (fun s => s) x0 x3 x4 x5 x6 x7 x8 h
noncomputable def J33_5' (lp : Loop) (jn : Join) (x0 : List UInt8) (x3 : AV) (x7 : Int) (h : AHeap) : Res := jn (codeJ Try.prog Nt lp jn 51 (nat' [true, true, true, false, true, false, false, true, false, false, true, true, false, true, false, true] A33) (cat [true, true, true, false, true, false, false, true, false, false, true, true, false, true, false, true] C33)) (envOf [(0, (.str x0)), (3, x3), (7, (.int .i64 x7))]) h (K33_6 lp jn)
noncomputable def J33_5 (x0 : List UInt8) (x3 : AV) (x7 : Int) (h : AHeap) : Res := J33_5' aloop (fun s => s) x0 x3 x7 h
noncomputable def J33_6' (lp : Loop) (jn : Join) (x0 : List UInt8) (x3 : AV) (x4 : Int) (x5 : Bool) (x6 : Bool) (x7 : Int) (h : AHeap) : Res := jn (codeJ Try.prog Nt lp jn 51 (nat' [true, true, true, false, true, false, false, true, true] A33) (cat [true, true, true, false, true, false, false, true, true] C33)) (envOf [(0, (.str x0)), (3, x3), (4, (.int .i64 x4)), (5, (.bool x5)), (6, (.bool x6)), (7, (.int .i64 x7))]) h (K33_3 lp jn)
noncomputable def J33_6 (x0 : List UInt8) (x3 : AV) (x4 : Int) (x5 : Bool) (x6 : Bool) (x7 : Int) (h : AHeap) : Res := J33_6' aloop (fun s => s) x0 x3 x4 x5 x6 x7 h
noncomputable def J33_7' (lp : Loop) (jn : Join) (x0 : List UInt8) (x3 : AV) (x4 : Int) (x5 : Bool) (x6 : Bool) (x7 : Int) (x8 : Int) (x33 : Bool) (h : AHeap) : Res := jn (codeJ Try.prog Nt lp jn 51 (nat' [true, true, true, false, true, false, false, true, false, false, true, true, false, true, true, true, true, true] A33) (cat [true, true, true, false, true, false, false, true, false, false, true, true, false, true, true, true, true, true] C33)) (envOf [(0, (.str x0)), (3, x3), (4, (.int .i64 x4)), (5, (.bool x5)), (6, (.bool x6)), (7, (.int .i64 x7)), (8, (.int .u8 x8)), (33, (.bool x33))]) h (K33_6 lp jn)
noncomputable def J33_7 (x0 : List UInt8) (x3 : AV) (x4 : Int) (x5 : Bool) (x6 : Bool) (x7 : Int) (x8 : Int) (x33 : Bool) (h : AHeap) : Res := J33_7' aloop (fun s => s) x0 x3 x4 x5 x6 x7 x8 x33 h
theorem J33_1_g (lp : Loop) (jn : Join) (x0 : List UInt8) (x3 : AV) (x4 : Int) (x5 : Bool) (x6 : Bool) (x7 : Int) (h : AHeap) : codeJ Try.prog Nt lp jn 51 (nat' [true, true, true, false, true, false, false] A33) (cat [true, true, true, false, true, false, false] C33) (envOf [(0, (.str x0)), (3, x3), (4, (.int .i64 x4)), (5, (.bool x5)), (6, (.bool x6)), (7, (.int .i64 x7))]) h (kloop (lp (some [0, 3, 4, 5, 6, 7]) (codeJ Try.prog Nt lp jn 51 (nat' [true, true, true, false, true, false, false] A33) (cat [true, true, true, false, true, false, false] C33))) (some [0, 3, 4, 5, 6, 7]) (K33_2 lp jn)) = (gc (decide (x7 ≤ (x0.length : Int))) (J33_2' lp jn x0 x3 x4 x5 x6 x7 h) (J33_3' lp jn x3 h)) := by kernel_rfl
theorem J33_1_eq (x0 : List UInt8) (x3 : AV) (x4 : Int) (x5 : Bool) (x6 : Bool) (x7 : Int) (h : AHeap) : J33_1 x0 x3 x4 x5 x6 x7 h = (gc (decide (x7 ≤ (x0.length : Int))) (J33_2 x0 x3 x4 x5 x6 x7 h) (J33_3 x3 h)) := (aloop_at (some [0, 3, 4, 5, 6, 7]) (nat' [true, true, true, false, true, false, false] A33) (cat [true, true, true, false, true, false, false] C33) (envOf [(0, (.str x0)), (3, x3), (4, (.int .i64 x4)), (5, (.bool x5)), (6, (.bool x6)), (7, (.int .i64 x7))]) h (K33_2 aloop (fun s => s))).trans (J33_1_g aloop (fun s => s) x0 x3 x4 x5 x6 x7 h)
theorem J33_2_g (lp : Loop) (jn : Join) (x0 : List UInt8) (x3 : AV) (x4 : Int) (x5 : Bool) (x6 : Bool) (x7 : Int) (h : AHeap) : codeJ Try.prog Nt lp jn 51 (nat' [true, true, true, false, true, false, false, true] A33) (cat [true, true, true, false, true, false, false, true] C33) (envOf [(0, (.str x0)), (3, x3), (4, (.int .i64 x4)), (5, (.bool x5)), (6, (.bool x6)), (7, (.int .i64 x7))]) h (K33_3 lp jn) = (gc (decide (x7 < (x0.length : Int))) (gv (aixStr x0 x7) fun v1 => gI .u8 v1 fun n2 => J33_4' lp jn x0 x3 x4 x5 x6 x7 n2 h) (J33_4' lp jn x0 x3 x4 x5 x6 x7 62 h)) := by kernel_rfl
theorem J33_2_eq (x0 : List UInt8) (x3 : AV) (x4 : Int) (x5 : Bool) (x6 : Bool) (x7 : Int) (h : AHeap) : J33_2 x0 x3 x4 x5 x6 x7 h = (gc (decide (x7 < (x0.length : Int))) (gv (aixStr x0 x7) fun v1 => gI .u8 v1 fun n2 => J33_4 x0 x3 x4 x5 x6 x7 n2 h) (J33_4 x0 x3 x4 x5 x6 x7 62 h)) := J33_2_g aloop (fun s => s) x0 x3 x4 x5 x6 x7 h
theorem J33_3_g (lp : Loop) (jn : Join) (x3 : AV) (h : AHeap) : codeJ Try.prog Nt lp jn 51 (nat' [true, true, true, true] A33) (cat [true, true, true, true] C33) (envOf [(3, x3)]) h K33 = (some (x3, h)) := by kernel_rfl
theorem J33_3_eq (x3 : AV) (h : AHeap) : J33_3 x3 h = (some (x3, h)) := J33_3_g aloop (fun s => s) x3 h
theorem J33_4_g (lp : Loop) (jn : Join) (x0 : List UInt8) (x3 : AV) (x4 : Int) (x5 : Bool) (x6 : Bool) (x7 : Int) (x8 : Int) (h : AHeap) : codeJ Try.prog Nt lp jn 51 (nat' [true, true, true, false, true, false, false, true, false, false, true, true] A33) (cat [true, true, true, false, true, false, false, true, false, false, true, true] C33) (envOf [(0, (.str x0)), (3, x3), (4, (.int .i64 x4)), (5, (.bool x5)), (6, (.bool x6)), (7, (.int .i64 x7)), (8, (.int .u8 x8))]) h (K33_5 lp jn) = (gc (x8 == 62) (gc x5 (gN h [(.int .i64 x4)] fun b3 h4 => gv (asrc 1 (.sl b3 0 1 1) h4) fun xs5 => gr (aapp 1 8 x3 1 xs5 h4) fun r6 h7 => J33_5' lp jn x0 r6 x7 h7) (J33_5' lp jn x0 x3 x7 h)) (gc (x8 == 64) (J33_6' lp jn x0 x3 x4 x5 true x7 h) (gi (!x6) (gi (decide (x8 ≥ 48)) (J33_7' lp jn x0 x3 x4 x5 x6 x7 x8 (decide (x8 ≤ 57)) h) (J33_7' lp jn x0 x3 x4 x5 x6 x7 x8 false h)) (J33_7' lp jn x0 x3 x4 x5 x6 x7 x8 false h)))) := by kernel_rfl
theorem J33_4_eq (x0 : List UInt8) (x3 : AV) (x4 : Int) (x5 : Bool) (x6 : Bool) (x7 : Int) (x8 : Int) (h : AHeap) : J33_4 x0 x3 x4 x5 x6 x7 x8 h = (gc (x8 == 62) (gc x5 (gN h [(.int .i64 x4)] fun b3 h4 => gv (asrc 1 (.sl b3 0 1 1) h4) fun xs5 => gr (aapp 1 8 x3 1 xs5 h4) fun r6 h7 => J33_5 x0 r6 x7 h7) (J33_5 x0 x3 x7 h)) (gc (x8 == 64) (J33_6 x0 x3 x4 x5 true x7 h) (gi (!x6) (gi (decide (x8 ≥ 48)) (J33_7 x0 x3 x4 x5 x6 x7 x8 (decide (x8 ≤ 57)) h) (J33_7 x0 x3 x4 x5 x6 x7 x8 false h)) (J33_7 x0 x3 x4 x5 x6 x7 x8 false h)))) := J33_4_g aloop (fun s => s) x0 x3 x4 x5 x6 x7 x8 h
theorem J33_5_g (lp : Loop) (jn : Join) (x0 : List UInt8) (x3 : AV) (x7 : Int) (h : AHeap) : codeJ Try.prog Nt lp jn 51 (nat' [true, true, true, false, true, false, false, true, false, false, true, true, false, true, false, true] A33) (cat [true, true, true, false, true, false, false, true, false, false, true, true, false, true, false, true] C33) (envOf [(0, (.str x0)), (3, x3), (7, (.int .i64 x7))]) h (K33_6 lp jn) = (J33_6' lp jn x0 x3 0 false false x7 h) := by kernel_rfl
theorem J33_5_eq (x0 : List UInt8) (x3 : AV) (x7 : Int) (h : AHeap) : J33_5 x0 x3 x7 h = (J33_6 x0 x3 0 false false x7 h) := J33_5_g aloop (fun s => s) x0 x3 x7 h
theorem J33_6_g (lp : Loop) (jn : Join) (x0 : List UInt8) (x3 : AV) (x4 : Int) (x5 : Bool) (x6 : Bool) (x7 : Int) (h : AHeap) : codeJ Try.prog Nt lp jn 51 (nat' [true, true, true, false, true, false, false, true, true] A33) (cat [true, true, true, false, true, false, false, true, true] C33) (envOf [(0, (.str x0)), (3, x3), (4, (.int .i64 x4)), (5, (.bool x5)), (6, (.bool x6)), (7, (.int .i64 x7))]) h (K33_3 lp jn) = (J33_1' lp jn x0 x3 x4 x5 x6 (IntKind.i64.wrap (x7 + 1)) h) := by kernel_rfl
theorem J33_6_eq (x0 : List UInt8) (x3 : AV) (x4 : Int) (x5 : Bool) (x6 : Bool) (x7 : Int) (h : AHeap) : J33_6 x0 x3 x4 x5 x6 x7 h = (J33_1 x0 x3 x4 x5 x6 (IntKind.i64.wrap (x7 + 1)) h) := J33_6_g aloop (fun s => s) x0 x3 x4 x5 x6 x7 h
theorem J33_7_g (lp : Loop) (jn : Join) (x0 : List UInt8) (x3 : AV) (x4 : Int) (x5 : Bool) (x6 : Bool) (x7 : Int) (x8 : Int) (x33 : Bool) (h : AHeap) : codeJ Try.prog Nt lp jn 51 (nat' [true, true, true, false, true, false, false, true, false, false, true, true, false, true, true, true, true, true] A33) (cat [true, true, true, false, true, false, false, true, false, false, true, true, false, true, true, true, true, true] C33) (envOf [(0, (.str x0)), (3, x3), (4, (.int .i64 x4)), (5, (.bool x5)), (6, (.bool x6)), (7, (.int .i64 x7)), (8, (.int .u8 x8)), (33, (.bool x33))]) h (K33_6 lp jn) = (gc x33 (J33_6' lp jn x0 x3 (IntKind.i64.wrap ((IntKind.i64.wrap (10 * x4)) + (IntKind.i64.wrap (IntKind.u8.wrap (x8 - 48))))) true x6 x7 h) (J33_6' lp jn x0 x3 x4 x5 x6 x7 h)) := by kernel_rfl
theorem J33_7_eq (x0 : List UInt8) (x3 : AV) (x4 : Int) (x5 : Bool) (x6 : Bool) (x7 : Int) (x8 : Int) (x33 : Bool) (h : AHeap) : J33_7 x0 x3 x4 x5 x6 x7 x8 x33 h = (gc x33 (J33_6 x0 x3 (IntKind.i64.wrap ((IntKind.i64.wrap (10 * x4)) + (IntKind.i64.wrap (IntKind.u8.wrap (x8 - 48))))) true x6 x7 h) (J33_6 x0 x3 x4 x5 x6 x7 h)) := J33_7_g aloop (fun s => s) x0 x3 x4 x5 x6 x7 x8 x33 h
theorem E33_g (lp : Loop) (jn : Join) (x0 : List UInt8) (h : AHeap) : codeJ Try.prog Nt lp jn 51 (Nt 33) C33 (args [(.str x0)]) h K33 = (J33_1' lp jn x0 .nilsl 0 false false 0 h) := by kernel_rfl
theorem E33 (x0 : List UInt8) (h : AHeap) : acall Try.prog Nt 33 [(.str x0)] h = (J33_1 x0 .nilsl 0 false false 0 h) := (acall_at rfl Try.func33 _ h 51 rfl (c := C33) rfl).trans (E33_g aloop (fun s => s) x0 h)
end Go.Ab
end
section
/-
  Functions of the program as equations: written by program (wip/tools/prt.py).
-/
namespace Go.Ab
open Go.Proofs
/-! 31: escapement/escapementref01.Has -/
noncomputable def K31 : Kont := kend Try.prog 21 Try.f31.results.toList
noncomputable def K31_1 (lp : Loop) (jn : Join) : Kont := kseqJ jn (codeJ Try.prog Nt lp jn 21 (nat' [true, true, true] A31) (cat [true, true, true] C31)) (some []) K31
noncomputable def K31_2 (lp : Loop) (jn : Join) : Kont := kblock 0 none (K31_1 lp jn)
noncomputable def K31_3 (lp : Loop) (jn : Join) : Kont := kloop (lp (some [1, 5, 6]) (codeJ Try.prog Nt lp jn 21 (nat' [true, true, false, true, false, false] A31) (cat [true, true, false, true, false, false] C31))) (some [1, 5, 6]) (K31_2 lp jn)
noncomputable def J31_1' (lp : Loop) (jn : Join) (x1 : Int) (x5 : AV) (x6 : Int) (h : AHeap) : Res := lp (some [1, 5, 6]) (codeJ Try.prog Nt lp jn 21 (nat' [true, true, false, true, false, false] A31) (cat [true, true, false, true, false, false] C31)) (envOf [(1, (.int .i64 x1)), (5, x5), (6, (.int .i64 x6))]) h (K31_2 lp jn)
noncomputable def J31_1 (x1 : Int) (x5 : AV) (x6 : Int) (h : AHeap) : Res := J31_1' aloop (fun s => s) x1 x5 x6 h
noncomputable def J31_2' (lp : Loop) (jn : Join) (x1 : Int) (x5 : AV) (x6 : Int) (h : AHeap) : Res := jn (codeJ Try.prog Nt lp jn 21 (nat' [true, true, false, true, false, false, true] A31) (cat [true, true, false, true, false, false, true] C31)) (envOf [(1, (.int .i64 x1)), (5, x5), (6, (.int .i64 x6))]) h (K31_3 lp jn)
noncomputable def J31_2 (x1 : Int) (x5 : AV) (x6 : Int) (h : AHeap) : Res := J31_2' aloop (fun s => s) x1 x5 x6 h
noncomputable def J31_3' (lp : Loop) (jn : Join)  (h : AHeap) : Res := jn (codeJ Try.prog Nt lp jn 21 (nat' [true, true, true] A31) (cat [true, true, true] C31)) (envOf []) h K31
noncomputable def J31_3  (h : AHeap) : Res := J31_3' aloop (fun s => s)  h
noncomputable def J31_4' (lp : Loop) (jn : Join) (x1 : Int) (x5 : AV) (x6 : Int) (h : AHeap) : Res := jn (codeJ Try.prog Nt lp jn 21 (nat' [true, true, false, true, false, false, true, true] A31) (cat [true, true, false, true, false, false, true, true] C31)) (envOf [(1, (.int .i64 x1)), (5, x5), (6, (.int .i64 x6))]) h (K31_3 lp jn)
noncomputable def J31_4 (x1 : Int) (x5 : AV) (x6 : Int) (h : AHeap) : Res := J31_4' aloop (fun s => s) x1 x5 x6 h
theorem J31_1_g (lp : Loop) (jn : Join) (x1 : Int) (x5 : AV) (x6 : Int) (h : AHeap) : codeJ Try.prog Nt lp jn 21 (nat' [true, true, false, true, false, false] A31) (cat [true, true, false, true, false, false] C31) (envOf [(1, (.int .i64 x1)), (5, x5), (6, (.int .i64 x6))]) h (kloop (lp (some [1, 5, 6]) (codeJ Try.prog Nt lp jn 21 (nat' [true, true, false, true, false, false] A31) (cat [true, true, false, true, false, false] C31))) (some [1, 5, 6]) (K31_2 lp jn)) = (gv (alenS x5) fun m3 => gc (decide (x6 < (m3 : Int))) (J31_2' lp jn x1 x5 x6 h) (J31_3' lp jn h)) := by kernel_rfl
theorem J31_1_eq (x1 : Int) (x5 : AV) (x6 : Int) (h : AHeap) : J31_1 x1 x5 x6 h = (gv (alenS x5) fun m3 => gc (decide (x6 < (m3 : Int))) (J31_2 x1 x5 x6 h) (J31_3 h)) := (aloop_at (some [1, 5, 6]) (nat' [true, true, false, true, false, false] A31) (cat [true, true, false, true, false, false] C31) (envOf [(1, (.int .i64 x1)), (5, x5), (6, (.int .i64 x6))]) h (K31_2 aloop (fun s => s))).trans (J31_1_g aloop (fun s => s) x1 x5 x6 h)
theorem J31_2_g (lp : Loop) (jn : Join) (x1 : Int) (x5 : AV) (x6 : Int) (h : AHeap) : codeJ Try.prog Nt lp jn 21 (nat' [true, true, false, true, false, false, true] A31) (cat [true, true, false, true, false, false, true] C31) (envOf [(1, (.int .i64 x1)), (5, x5), (6, (.int .i64 x6))]) h (K31_3 lp jn) = (gv (aixS 1 x5 x6) fun v4 => gv (aload false 1 v4 h) fun v5 => gI .i64 v5 fun n6 => gc (n6 == x1) (some ((.bool true), h)) (J31_4' lp jn x1 x5 x6 h)) := by kernel_rfl
theorem J31_2_eq (x1 : Int) (x5 : AV) (x6 : Int) (h : AHeap) : J31_2 x1 x5 x6 h = (gv (aixS 1 x5 x6) fun v4 => gv (aload false 1 v4 h) fun v5 => gI .i64 v5 fun n6 => gc (n6 == x1) (some ((.bool true), h)) (J31_4 x1 x5 x6 h)) := J31_2_g aloop (fun s => s) x1 x5 x6 h
theorem J31_3_g (lp : Loop) (jn : Join)  (h : AHeap) : codeJ Try.prog Nt lp jn 21 (nat' [true, true, true] A31) (cat [true, true, true] C31) (envOf []) h K31 = (some ((.bool false), h)) := by kernel_rfl
theorem J31_3_eq  (h : AHeap) : J31_3  h = (some ((.bool false), h)) := J31_3_g aloop (fun s => s)  h
theorem J31_4_g (lp : Loop) (jn : Join) (x1 : Int) (x5 : AV) (x6 : Int) (h : AHeap) : codeJ Try.prog Nt lp jn 21 (nat' [true, true, false, true, false, false, true, true] A31) (cat [true, true, false, true, false, false, true, true] C31) (envOf [(1, (.int .i64 x1)), (5, x5), (6, (.int .i64 x6))]) h (K31_3 lp jn) = (J31_1' lp jn x1 x5 (IntKind.i64.wrap (x6 + 1)) h) := by kernel_rfl
theorem J31_4_eq (x1 : Int) (x5 : AV) (x6 : Int) (h : AHeap) : J31_4 x1 x5 x6 h = (J31_1 x1 x5 (IntKind.i64.wrap (x6 + 1)) h) := J31_4_g aloop (fun s => s) x1 x5 x6 h
theorem E31_g (lp : Loop) (jn : Join) (x0 : List UInt8) (x1 : Int) (h : AHeap) : codeJ Try.prog Nt lp jn 21 (Nt 31) C31 (args [(.str x0), (.int .i64 x1)]) h K31 = (gr (acall Try.prog Nt 33 [(.str x0)] h) fun r1 h2 => J31_1' lp jn x1 r1 0 h2) := by kernel_rfl
theorem E31 (x0 : List UInt8) (x1 : Int) (h : AHeap) : acall Try.prog Nt 31 [(.str x0), (.int .i64 x1)] h = (gr (acall Try.prog Nt 33 [(.str x0)] h) fun r1 h2 => J31_1 x1 r1 0 h2) := (acall_at rfl Try.func31 _ h 21 rfl (c := C31) rfl).trans (E31_g aloop (fun s => s) x0 x1 h)
end Go.Ab
end
section
/-
  Functions of the program as equations: written by program (wip/tools/prt.py).
-/
namespace Go.Ab
open Go.Proofs
/-! 27: escapement/escapementref13.Kind -/
noncomputable def K27 : Kont := kend Try.prog 34 Try.f27.results.toList
noncomputable def K27_1 (lp : Loop) (jn : Join) : Kont := kseqJ jn (codeJ Try.prog Nt lp jn 34 (nat' [true, true] A27) (cat [true, true] C27)) (some []) K27
noncomputable def K27_2 (lp : Loop) (jn : Join) : Kont := kblock 0 none (K27_1 lp jn)
noncomputable def J27_1' (lp : Loop) (jn : Join) (x0 : List UInt8) (x12 : Bool) (h : AHeap) : Res := jn (codeJ Try.prog Nt lp jn 34 (nat' [true, false, false, true, true, true, true, true, true, true] A27) (cat [true, false, false, true, true, true, true, true, true, true] C27)) (envOf [(0, (.str x0)), (12, (.bool x12))]) h (K27_2 lp jn)
noncomputable def J27_1 (x0 : List UInt8) (x12 : Bool) (h : AHeap) : Res := J27_1' aloop (fun s => s) x0 x12 h
noncomputable def J27_2' (lp : Loop) (jn : Join) (x23 : Bool) (h : AHeap) : Res := jn (codeJ Try.prog Nt lp jn 34 (nat' [true, false, false, true, true, true, true, true, true, true, true, true] A27) (cat [true, false, false, true, true, true, true, true, true, true, true, true] C27)) (envOf [(23, (.bool x23))]) h (K27_2 lp jn)
noncomputable def J27_2 (x23 : Bool) (h : AHeap) : Res := J27_2' aloop (fun s => s) x23 h
noncomputable def J27_3' (lp : Loop) (jn : Join)  (h : AHeap) : Res := jn (codeJ Try.prog Nt lp jn 34 (nat' [true, true] A27) (cat [true, true] C27)) (envOf []) h K27
noncomputable def J27_3  (h : AHeap) : Res := J27_3' aloop (fun s => s)  h
theorem J27_1_g (lp : Loop) (jn : Join) (x0 : List UInt8) (x12 : Bool) (h : AHeap) : codeJ Try.prog Nt lp jn 34 (nat' [true, false, false, true, true, true, true, true, true, true] A27) (cat [true, false, false, true, true, true, true, true, true, true] C27) (envOf [(0, (.str x0)), (12, (.bool x12))]) h (K27_2 lp jn) = (gc x12 (some ((.int .i64 3), h)) (gr (acall Try.prog Nt 31 [(.str x0), (.int .i64 10)] h) fun r16 h17 => gB r16 fun b18 => gi b18 (J27_2' lp jn true h17) (gr (acall Try.prog Nt 31 [(.str x0), (.int .i64 11)] h17) fun r19 h20 => gB r19 fun b21 => gi b21 (J27_2' lp jn true h20) (gr (acall Try.prog Nt 31 [(.str x0), (.int .i64 14)] h20) fun r22 h23 => gB r22 fun b24 => J27_2' lp jn b24 h23)))) := by kernel_rfl
theorem J27_1_eq (x0 : List UInt8) (x12 : Bool) (h : AHeap) : J27_1 x0 x12 h = (gc x12 (some ((.int .i64 3), h)) (gr (acall Try.prog Nt 31 [(.str x0), (.int .i64 10)] h) fun r16 h17 => gB r16 fun b18 => gi b18 (J27_2 true h17) (gr (acall Try.prog Nt 31 [(.str x0), (.int .i64 11)] h17) fun r19 h20 => gB r19 fun b21 => gi b21 (J27_2 true h20) (gr (acall Try.prog Nt 31 [(.str x0), (.int .i64 14)] h20) fun r22 h23 => gB r22 fun b24 => J27_2 b24 h23)))) := J27_1_g aloop (fun s => s) x0 x12 h
theorem J27_2_g (lp : Loop) (jn : Join) (x23 : Bool) (h : AHeap) : codeJ Try.prog Nt lp jn 34 (nat' [true, false, false, true, true, true, true, true, true, true, true, true] A27) (cat [true, false, false, true, true, true, true, true, true, true, true, true] C27) (envOf [(23, (.bool x23))]) h (K27_2 lp jn) = (gc x23 (some ((.int .i64 (-1)), h)) (J27_3' lp jn h)) := by kernel_rfl
theorem J27_2_eq (x23 : Bool) (h : AHeap) : J27_2 x23 h = (gc x23 (some ((.int .i64 (-1)), h)) (J27_3 h)) := J27_2_g aloop (fun s => s) x23 h
theorem J27_3_g (lp : Loop) (jn : Join)  (h : AHeap) : codeJ Try.prog Nt lp jn 34 (nat' [true, true] A27) (cat [true, true] C27) (envOf []) h K27 = (some ((.int .i64 2), h)) := by kernel_rfl
theorem J27_3_eq  (h : AHeap) : J27_3  h = (some ((.int .i64 2), h)) := J27_3_g aloop (fun s => s)  h
theorem E27_g (lp : Loop) (jn : Join) (x0 : List UInt8) (h : AHeap) : codeJ Try.prog Nt lp jn 34 (Nt 27) C27 (args [(.str x0)]) h K27 = (gc (x0 == []) (some ((.int .i64 (-1)), h)) (gr (acall Try.prog Nt 31 [(.str x0), (.int .i64 151)] h) fun r1 h2 => gB r1 fun b3 => gc b3 (some ((.int .i64 0), h2)) (gr (acall Try.prog Nt 31 [(.str x0), (.int .i64 150)] h2) fun r4 h5 => gB r4 fun b6 => gc b6 (some ((.int .i64 1), h5)) (gr (acall Try.prog Nt 31 [(.str x0), (.int .i64 17)] h5) fun r7 h8 => gB r7 fun b9 => gi b9 (J27_1' lp jn x0 true h8) (gr (acall Try.prog Nt 31 [(.str x0), (.int .i64 13)] h8) fun r10 h11 => gB r10 fun b12 => gi b12 (J27_1' lp jn x0 true h11) (gr (acall Try.prog Nt 31 [(.str x0), (.int .i64 12)] h11) fun r13 h14 => gB r13 fun b15 => J27_1' lp jn x0 b15 h14)))))) := by kernel_rfl
theorem E27 (x0 : List UInt8) (h : AHeap) : acall Try.prog Nt 27 [(.str x0)] h = (gc (x0 == []) (some ((.int .i64 (-1)), h)) (gr (acall Try.prog Nt 31 [(.str x0), (.int .i64 151)] h) fun r1 h2 => gB r1 fun b3 => gc b3 (some ((.int .i64 0), h2)) (gr (acall Try.prog Nt 31 [(.str x0), (.int .i64 150)] h2) fun r4 h5 => gB r4 fun b6 => gc b6 (some ((.int .i64 1), h5)) (gr (acall Try.prog Nt 31 [(.str x0), (.int .i64 17)] h5) fun r7 h8 => gB r7 fun b9 => gi b9 (J27_1 x0 true h8) (gr (acall Try.prog Nt 31 [(.str x0), (.int .i64 13)] h8) fun r10 h11 => gB r10 fun b12 => gi b12 (J27_1 x0 true h11) (gr (acall Try.prog Nt 31 [(.str x0), (.int .i64 12)] h11) fun r13 h14 => gB r13 fun b15 => J27_1 x0 b15 h14)))))) := (acall_at rfl Try.func27 _ h 34 rfl (c := C27) rfl).trans (E27_g aloop (fun s => s) x0 h)
end Go.Ab
end
