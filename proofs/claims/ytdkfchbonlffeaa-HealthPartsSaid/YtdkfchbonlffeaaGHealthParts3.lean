/-
  Functions of the program as equations, and their contracts.
-/
import Derived.WalkKit
import Derived.LaidEql
import Derived.Stop.Asserts
import Derived.RowKitTokens
import Derived.Test.YtdkfchbonlffeaaGa1
import Derived.Test.YtdkfchbonlffeaaGa2
import Derived.Test.YtdkfchbonlffeaaGa3
import Derived.Test.YtdkfchbonlffeaaGHealthParts1
import Derived.Test.YtdkfchbonlffeaaGHealthParts2
set_option linter.all false
section
/-
  HealthParts.
-/
namespace Go.Ab
open Go.Proofs

def p1 : Part := ⟨0, 0, 0, 0, 0, 1, 1, 1, 1⟩
def encW (n : Int) : List AV := [.int .u32 n]
theorem encW_len (n : Int) : (encW n).length = 1 := rfl
theorem argvWords {h : AHeap} {f : Nat} {x : AV} (q : ArgV Try.prog h (f + 2) 56 x) : ∃ l : List Int, Sl h 1 encW l x ∧ (∀ n ∈ l, 0 ≤ n ∧ n ≤ 4294967295) ∧ l.length ≤ maxLen := by
  unfold ArgV at q
  have hu : ∃ u, (Try.prog).underlying 56 = some (.slice u) := ⟨36, by kernel_rfl⟩
  obtain ⟨u, hu⟩ := hu
  rw [hu] at q
  obtain ⟨y, l, e, s, hr, hl⟩ := q.list (u := 36) (sz := 1) (enc := encW) (R := fun n => 0 ≤ n ∧ n ≤ 4294967295) (by kernel_rfl) (by kernel_rfl) (fun ws q => by
    obtain ⟨n, rfl, w⟩ := q.int (k := .u32) (by kernel_rfl)
    exact ⟨n, rfl, wfu32 w⟩)
  cases e
  exact ⟨l, s, hr, hl⟩
/-- Two monitors, alike at the first partition. -/
def Alike (m w : Mon) : Prop := m.parts = [p1, p1] ∧ w.parts = [p1, p1] ∧ m.last.length = 2 ∧ w.last.length = 2 ∧ m.again.length = 2 ∧ w.again.length = 2 ∧ m.last.getD 0 0 = w.last.getD 0 0 ∧ m.again.getD 0 0 = w.again.getD 0 0
theorem p1_act (m : Mon) (hp : m.parts = [p1, p1]) (p : Nat) (hp2 : p < 2) (k : Nat) (hk : k < 4) : m.act p k = 1 := by
  have : m.act p k = p1.rc k := by
    rw [Mon.act, hp]
    match p, hp2 with
    | 0, _ => rfl
    | 1, _ => rfl
  rw [this]
  match k, hk with
  | 0, _ => rfl
  | 1, _ => rfl
  | 2, _ => rfl
  | 3, _ => rfl
theorem set_get0 (l : List Int) (n : Int) (h : 0 < l.length) : (l.set 0 n).getD 0 0 = n := by simp [List.getD, List.getElem?_set, h]
theorem set_get1 (l : List Int) (n : Int) : (l.set 1 n).getD 0 0 = l.getD 0 0 := by simp [List.getD, List.getElem?_set]
theorem partsLoop (h0 : AHeap) (rs ws : List Int) (x0 x1 : AV) (s0 : Sl h0 1 encW rs x0) (s1 : Sl h0 1 encI ws x1) (hr : ∀ n ∈ rs, 0 ≤ n ∧ n ≤ 4294967295) : ∀ (k i : Nat) (b c : Nat) (m w : Mon) (F G : List Nat) (g : AHeap), i + k = 60 → MonAt .u32 (h0 ++ g) b m F → MonAt .u32 (h0 ++ g) c w G → (∀ x ∈ F, h0.length ≤ x) → (∀ x ∈ G, h0.length ≤ x) → (∀ x ∈ F, x ∉ G) →
    Alike m w → m.ok i → w.ok i → Post (J6_2 x0 x1 (.ptr b 0) (.ptr c 0) (i : Int) (h0 ++ g)) fun v _ => v = .bool true := by
  have stop : ∀ i b c h, Post (J6_3 x0 x1 (.ptr b 0) (.ptr c 0) i false h) fun v _ => v = .bool true := by
    intro i b c h
    rw [J6_3_eq, J6_5_eq]
    exact Post.done rfl
  intro k
  induction k with
  | zero =>
    intro i b c m w F G g hi hm hw hF hG hd ha om ow
    rw [J6_2_eq]
    simp (dsimp := false) (implicitDefEqProofs := false) (disch := omega) only [gv_some, gr_some, gI_int, gB_bool, gS_str, gc_t, gc_f, gi_t, gi_f, gN_eq, gf_t, Option.bind_some, Option.bind_none, Option.map_some, acells_agg, acells_int, acells_bool, acells_str, acells_ptr, acells_sl, acells_nilsl, acells_nilptr, acells_iface, acells_niliface, aptr_ptr, anil_ptr, aextract_0, aextract_1, aextract_2, alenS_sl, alenS_nil, apartOf_agg, apart_t, apart_f, astore_ptr, hset_at0, hset_at, hs_same, hs_ne, len_hset, List.set_cons_zero, List.set_cons_succ, set_app, set_app0, aload_ptr, splice_eq, List.drop_nil, List.append_nil, isCell_int, isCell_bool, isCell_str, isCell_ptr, isCell_sl, isCell_nilsl, isCell_nilptr, isCell_iface, isCell_niliface, List.all_cons, List.all_nil, Bool.and_self, hget_at0, hget_at, len_app, List.length_cons, List.length_nil, get_app, get_app0, List.getElem?_cons_zero, List.getElem?_cons_succ, join_some, List.append_assoc, List.cons_append, List.nil_append, Nat.zero_add, Nat.add_zero, Nat.mul_one, chkRd_eq, chkAl_blk, if_true, if_false, Bool.false_eq_true, List.drop_succ_cons, List.drop_zero, List.take_succ_cons, List.take_zero, Bool.and_true, Bool.true_and, decide_true, decide_false, wrap64_id, aixG_eq, Nat.reduceAdd, Nat.reduceSub, Nat.reduceMul, Nat.reduceLeDiff, Nat.reduceLT, Int.reduceAdd, Int.reduceSub, Int.reduceMul, Int.reduceNeg, Int.reduceLT, Int.reduceLE, Int.reduceGT, Int.reduceGE, Int.reduceToNat, ↓reduceIte, and_self, true_and, and_true, (s0.app g).len, (s1.app g).len]
    refine Post.itd (fun _ => ?_) fun _ => stop _ _ _ _
    simp (dsimp := false) (implicitDefEqProofs := false) (disch := omega) only [gv_some, gr_some, gI_int, gB_bool, gS_str, gc_t, gc_f, gi_t, gi_f, gN_eq, gf_t, Option.bind_some, Option.bind_none, Option.map_some, acells_agg, acells_int, acells_bool, acells_str, acells_ptr, acells_sl, acells_nilsl, acells_nilptr, acells_iface, acells_niliface, aptr_ptr, anil_ptr, aextract_0, aextract_1, aextract_2, alenS_sl, alenS_nil, apartOf_agg, apart_t, apart_f, astore_ptr, hset_at0, hset_at, hs_same, hs_ne, len_hset, List.set_cons_zero, List.set_cons_succ, set_app, set_app0, aload_ptr, splice_eq, List.drop_nil, List.append_nil, isCell_int, isCell_bool, isCell_str, isCell_ptr, isCell_sl, isCell_nilsl, isCell_nilptr, isCell_iface, isCell_niliface, List.all_cons, List.all_nil, Bool.and_self, hget_at0, hget_at, len_app, List.length_cons, List.length_nil, get_app, get_app0, List.getElem?_cons_zero, List.getElem?_cons_succ, join_some, List.append_assoc, List.cons_append, List.nil_append, Nat.zero_add, Nat.add_zero, Nat.mul_one, chkRd_eq, chkAl_blk, if_true, if_false, Bool.false_eq_true, List.drop_succ_cons, List.drop_zero, List.take_succ_cons, List.take_zero, Bool.and_true, Bool.true_and, decide_true, decide_false, wrap64_id, aixG_eq, Nat.reduceAdd, Nat.reduceSub, Nat.reduceMul, Nat.reduceLeDiff, Nat.reduceLT, Int.reduceAdd, Int.reduceSub, Int.reduceMul, Int.reduceNeg, Int.reduceLT, Int.reduceLE, Int.reduceGT, Int.reduceGE, Int.reduceToNat, ↓reduceIte, and_self, true_and, and_true, (s0.app g).len, (s1.app g).len]
    refine Post.itd (fun _ => ?_) fun _ => stop _ _ _ _
    rw [decide_eq_false (by omega)]
    exact stop _ _ _ _
  | succ k ih =>
    intro i b c m w F G g hi hm hw hF hG hd ha om ow
    rw [J6_2_eq]
    simp (dsimp := false) (implicitDefEqProofs := false) (disch := omega) only [gv_some, gr_some, gI_int, gB_bool, gS_str, gc_t, gc_f, gi_t, gi_f, gN_eq, gf_t, Option.bind_some, Option.bind_none, Option.map_some, acells_agg, acells_int, acells_bool, acells_str, acells_ptr, acells_sl, acells_nilsl, acells_nilptr, acells_iface, acells_niliface, aptr_ptr, anil_ptr, aextract_0, aextract_1, aextract_2, alenS_sl, alenS_nil, apartOf_agg, apart_t, apart_f, astore_ptr, hset_at0, hset_at, hs_same, hs_ne, len_hset, List.set_cons_zero, List.set_cons_succ, set_app, set_app0, aload_ptr, splice_eq, List.drop_nil, List.append_nil, isCell_int, isCell_bool, isCell_str, isCell_ptr, isCell_sl, isCell_nilsl, isCell_nilptr, isCell_iface, isCell_niliface, List.all_cons, List.all_nil, Bool.and_self, hget_at0, hget_at, len_app, List.length_cons, List.length_nil, get_app, get_app0, List.getElem?_cons_zero, List.getElem?_cons_succ, join_some, List.append_assoc, List.cons_append, List.nil_append, Nat.zero_add, Nat.add_zero, Nat.mul_one, chkRd_eq, chkAl_blk, if_true, if_false, Bool.false_eq_true, List.drop_succ_cons, List.drop_zero, List.take_succ_cons, List.take_zero, Bool.and_true, Bool.true_and, decide_true, decide_false, wrap64_id, aixG_eq, Nat.reduceAdd, Nat.reduceSub, Nat.reduceMul, Nat.reduceLeDiff, Nat.reduceLT, Int.reduceAdd, Int.reduceSub, Int.reduceMul, Int.reduceNeg, Int.reduceLT, Int.reduceLE, Int.reduceGT, Int.reduceGE, Int.reduceToNat, ↓reduceIte, and_self, true_and, and_true, (s0.app g).len, (s1.app g).len]
    refine Post.itd (fun h1 => ?_) fun _ => stop _ _ _ _
    simp (dsimp := false) (implicitDefEqProofs := false) (disch := omega) only [gv_some, gr_some, gI_int, gB_bool, gS_str, gc_t, gc_f, gi_t, gi_f, gN_eq, gf_t, Option.bind_some, Option.bind_none, Option.map_some, acells_agg, acells_int, acells_bool, acells_str, acells_ptr, acells_sl, acells_nilsl, acells_nilptr, acells_iface, acells_niliface, aptr_ptr, anil_ptr, aextract_0, aextract_1, aextract_2, alenS_sl, alenS_nil, apartOf_agg, apart_t, apart_f, astore_ptr, hset_at0, hset_at, hs_same, hs_ne, len_hset, List.set_cons_zero, List.set_cons_succ, set_app, set_app0, aload_ptr, splice_eq, List.drop_nil, List.append_nil, isCell_int, isCell_bool, isCell_str, isCell_ptr, isCell_sl, isCell_nilsl, isCell_nilptr, isCell_iface, isCell_niliface, List.all_cons, List.all_nil, Bool.and_self, hget_at0, hget_at, len_app, List.length_cons, List.length_nil, get_app, get_app0, List.getElem?_cons_zero, List.getElem?_cons_succ, join_some, List.append_assoc, List.cons_append, List.nil_append, Nat.zero_add, Nat.add_zero, Nat.mul_one, chkRd_eq, chkAl_blk, if_true, if_false, Bool.false_eq_true, List.drop_succ_cons, List.drop_zero, List.take_succ_cons, List.take_zero, Bool.and_true, Bool.true_and, decide_true, decide_false, wrap64_id, aixG_eq, Nat.reduceAdd, Nat.reduceSub, Nat.reduceMul, Nat.reduceLeDiff, Nat.reduceLT, Int.reduceAdd, Int.reduceSub, Int.reduceMul, Int.reduceNeg, Int.reduceLT, Int.reduceLE, Int.reduceGT, Int.reduceGE, Int.reduceToNat, ↓reduceIte, and_self, true_and, and_true, (s0.app g).len, (s1.app g).len]
    refine Post.itd (fun h2 => ?_) fun _ => stop _ _ _ _
    rw [decide_eq_true (by omega), J6_3_eq]
    simp (dsimp := false) (implicitDefEqProofs := false) (disch := omega) only [gv_some, gr_some, gI_int, gB_bool, gS_str, gc_t, gc_f, gi_t, gi_f, gN_eq, gf_t, Option.bind_some, Option.bind_none, Option.map_some, acells_agg, acells_int, acells_bool, acells_str, acells_ptr, acells_sl, acells_nilsl, acells_nilptr, acells_iface, acells_niliface, aptr_ptr, anil_ptr, aextract_0, aextract_1, aextract_2, alenS_sl, alenS_nil, apartOf_agg, apart_t, apart_f, astore_ptr, hset_at0, hset_at, hs_same, hs_ne, len_hset, List.set_cons_zero, List.set_cons_succ, set_app, set_app0, aload_ptr, splice_eq, List.drop_nil, List.append_nil, isCell_int, isCell_bool, isCell_str, isCell_ptr, isCell_sl, isCell_nilsl, isCell_nilptr, isCell_iface, isCell_niliface, List.all_cons, List.all_nil, Bool.and_self, hget_at0, hget_at, len_app, List.length_cons, List.length_nil, get_app, get_app0, List.getElem?_cons_zero, List.getElem?_cons_succ, join_some, List.append_assoc, List.cons_append, List.nil_append, Nat.zero_add, Nat.add_zero, Nat.mul_one, chkRd_eq, chkAl_blk, if_true, if_false, Bool.false_eq_true, List.drop_succ_cons, List.drop_zero, List.take_succ_cons, List.take_zero, Bool.and_true, Bool.true_and, decide_true, decide_false, wrap64_id, aixG_eq, Nat.reduceAdd, Nat.reduceSub, Nat.reduceMul, Nat.reduceLeDiff, Nat.reduceLT, Int.reduceAdd, Int.reduceSub, Int.reduceMul, Int.reduceNeg, Int.reduceLT, Int.reduceLE, Int.reduceGT, Int.reduceGE, Int.reduceToNat, ↓reduceIte, and_self, true_and, and_true, J6_4_eq]
    obtain ⟨eb, eo, ix, ea⟩ := (s1.app g).elem encI_len i (by omega)
    obtain ⟨fb1, fo, fx, fa⟩ := (s0.app g).elem encW_len i (by omega)
    refine Post.val ix ?_
    refine Post.val (ea.load0 1) ?_
    simp (dsimp := false) (implicitDefEqProofs := false) (disch := omega) only [gv_some, gr_some, gI_int, gB_bool, gS_str, gc_t, gc_f, gi_t, gi_f, gN_eq, gf_t, Option.bind_some, Option.bind_none, Option.map_some, acells_agg, acells_int, acells_bool, acells_str, acells_ptr, acells_sl, acells_nilsl, acells_nilptr, acells_iface, acells_niliface, aptr_ptr, anil_ptr, aextract_0, aextract_1, aextract_2, alenS_sl, alenS_nil, apartOf_agg, apart_t, apart_f, astore_ptr, hset_at0, hset_at, hs_same, hs_ne, len_hset, List.set_cons_zero, List.set_cons_succ, set_app, set_app0, aload_ptr, splice_eq, List.drop_nil, List.append_nil, isCell_int, isCell_bool, isCell_str, isCell_ptr, isCell_sl, isCell_nilsl, isCell_nilptr, isCell_iface, isCell_niliface, List.all_cons, List.all_nil, Bool.and_self, hget_at0, hget_at, len_app, List.length_cons, List.length_nil, get_app, get_app0, List.getElem?_cons_zero, List.getElem?_cons_succ, join_some, List.append_assoc, List.cons_append, List.nil_append, Nat.zero_add, Nat.add_zero, Nat.mul_one, chkRd_eq, chkAl_blk, if_true, if_false, Bool.false_eq_true, List.drop_succ_cons, List.drop_zero, List.take_succ_cons, List.take_zero, Bool.and_true, Bool.true_and, decide_true, decide_false, wrap64_id, aixG_eq, Nat.reduceAdd, Nat.reduceSub, Nat.reduceMul, Nat.reduceLeDiff, Nat.reduceLT, Int.reduceAdd, Int.reduceSub, Int.reduceMul, Int.reduceNeg, Int.reduceLT, Int.reduceLE, Int.reduceGT, Int.reduceGE, Int.reduceToNat, ↓reduceIte, and_self, true_and, and_true]
    refine Post.val fx ?_
    refine Post.val (fa.load0 1) ?_
    obtain ⟨q0, q1⟩ := u64tmod (ws[i]'(by omega)) 2 (by omega)
    obtain ⟨P, eP, p0, p1'⟩ : ∃ P, IntKind.i64.wrap ((IntKind.u64.wrap (ws[i]'(by omega))).tmod 2) = P ∧ 0 ≤ P ∧ P < 2 := ⟨_, wrap64_id (by omega) (by omega), q0, q1⟩
    obtain ⟨R, eR, r0, r1⟩ : ∃ R, rs[i]'(by omega) = R ∧ 0 ≤ R ∧ R ≤ 4294967295 := ⟨_, rfl, hr _ (List.getElem_mem (by omega))⟩
    rw [eP, eR]
    simp (dsimp := false) (implicitDefEqProofs := false) (disch := omega) only [gv_some, gr_some, gI_int, gB_bool, gS_str, gc_t, gc_f, gi_t, gi_f, gN_eq, gf_t, Option.bind_some, Option.bind_none, Option.map_some, acells_agg, acells_int, acells_bool, acells_str, acells_ptr, acells_sl, acells_nilsl, acells_nilptr, acells_iface, acells_niliface, aptr_ptr, anil_ptr, aextract_0, aextract_1, aextract_2, alenS_sl, alenS_nil, apartOf_agg, apart_t, apart_f, astore_ptr, hset_at0, hset_at, hs_same, hs_ne, len_hset, List.set_cons_zero, List.set_cons_succ, set_app, set_app0, aload_ptr, splice_eq, List.drop_nil, List.append_nil, isCell_int, isCell_bool, isCell_str, isCell_ptr, isCell_sl, isCell_nilsl, isCell_nilptr, isCell_iface, isCell_niliface, List.all_cons, List.all_nil, Bool.and_self, hget_at0, hget_at, len_app, List.length_cons, List.length_nil, get_app, get_app0, List.getElem?_cons_zero, List.getElem?_cons_succ, join_some, List.append_assoc, List.cons_append, List.nil_append, Nat.zero_add, Nat.add_zero, Nat.mul_one, chkRd_eq, chkAl_blk, if_true, if_false, Bool.false_eq_true, List.drop_succ_cons, List.drop_zero, List.take_succ_cons, List.take_zero, Bool.and_true, Bool.true_and, decide_true, decide_false, wrap64_id, aixG_eq, Nat.reduceAdd, Nat.reduceSub, Nat.reduceMul, Nat.reduceLeDiff, Nat.reduceLT, Int.reduceAdd, Int.reduceSub, Int.reduceMul, Int.reduceNeg, Int.reduceLT, Int.reduceLE, Int.reduceGT, Int.reduceGE, Int.reduceToNat, ↓reduceIte, and_self, true_and, and_true]
    obtain ⟨a1, a2, a3, a4, a5, a6, a7, a8⟩ := id ha
    have more : ∀ {m : Mon}, m.ok (i : Int) → m.ok ((i + 1 : Nat) : Int) := fun o => ⟨o.last, fun x hx => by have := o.again x hx; omega⟩
    refine Post.bind (c_report _ b m F hm i om (by omega) R r0 P 0 (by omega)) ?_
    intro v h' hv
    by_cases tk : m.takes R P 0 = true
    · rw [if_pos tk] at hv
      have hR : R < 1048576 := by simp [Mon.takes] at tk; omega
      obtain ⟨rfl, F', hm', fr⟩ := hv
      have hw' := hw.keep (h' := h') fun x hx => fr.old x (hw.lt x hx) (fun h => hd x h hx)
      have hd' := fr.apart hw.lt hd
      obtain ⟨⟨g', rfl⟩, hF'⟩ := fr.grow hF
      have act := p1_act m a1 P.toNat (by omega) 0 (by omega)
      obtain ⟨rl, ra⟩ := rep_last m R P.toNat 0 act
      have om' : (m.rep R P.toNat (Int.toNat 0)).ok ((i + 1 : Nat) : Int) := Mon.rep_ok om (by omega) R r0 hR P.toNat 0 (by omega)
      have pm : (m.rep R P.toNat (Int.toNat 0)).parts = [p1, p1] := by rw [(rep_parts m R P.toNat _).1, a1]
      simp (dsimp := false) (implicitDefEqProofs := false) (disch := omega) only [gv_some, gr_some, gI_int, gB_bool, gS_str, gc_t, gc_f, gi_t, gi_f, gN_eq, gf_t, Option.bind_some, Option.bind_none, Option.map_some, acells_agg, acells_int, acells_bool, acells_str, acells_ptr, acells_sl, acells_nilsl, acells_nilptr, acells_iface, acells_niliface, aptr_ptr, anil_ptr, aextract_0, aextract_1, aextract_2, alenS_sl, alenS_nil, apartOf_agg, apart_t, apart_f, astore_ptr, hset_at0, hset_at, hs_same, hs_ne, len_hset, List.set_cons_zero, List.set_cons_succ, set_app, set_app0, aload_ptr, splice_eq, List.drop_nil, List.append_nil, isCell_int, isCell_bool, isCell_str, isCell_ptr, isCell_sl, isCell_nilsl, isCell_nilptr, isCell_iface, isCell_niliface, List.all_cons, List.all_nil, Bool.and_self, hget_at0, hget_at, len_app, List.length_cons, List.length_nil, get_app, get_app0, List.getElem?_cons_zero, List.getElem?_cons_succ, join_some, List.append_assoc, List.cons_append, List.nil_append, Nat.zero_add, Nat.add_zero, Nat.mul_one, chkRd_eq, chkAl_blk, if_true, if_false, Bool.false_eq_true, List.drop_succ_cons, List.drop_zero, List.take_succ_cons, List.take_zero, Bool.and_true, Bool.true_and, decide_true, decide_false, wrap64_id, aixG_eq, Nat.reduceAdd, Nat.reduceSub, Nat.reduceMul, Nat.reduceLeDiff, Nat.reduceLT, Int.reduceAdd, Int.reduceSub, Int.reduceMul, Int.reduceNeg, Int.reduceLT, Int.reduceLE, Int.reduceGT, Int.reduceGE, Int.reduceToNat, ↓reduceIte, and_self, true_and, and_true]
      refine Post.cnd (fun hz => ?_) fun hz => ?_
      · have hz : P = 1 := by simp at hz; omega
        subst hz
        have rl' : (m.rep R 1 0).last = m.last.set 1 (R + 1) := rl
        have ra' : (m.rep R 1 0).again = m.again.set 1 (m.row R 1) := ra
        rw [J6_6_eq, wsucc (by omega)]
        refine ih (i + 1) b c _ w F' G g' (by omega) hm' hw' hF' hG hd' ⟨pm, a2, ?_, a4, ?_, a6, ?_, ?_⟩ om' (more ow)
        · show (m.rep R 1 0).last.length = 2
          rw [rl']; simpa using a3
        · show (m.rep R 1 0).again.length = 2
          rw [ra']; simpa using a5
        · show (m.rep R 1 0).last.getD 0 0 = _
          rw [rl', set_get1, a7]
        · show (m.rep R 1 0).again.getD 0 0 = _
          rw [ra', set_get1, a8]
      · have hz : P = 0 := by simpa using hz
        subst hz
        rw [J6_7_eq]
        obtain ⟨fb2, fo2, fx2, fa2⟩ := (s0.app g').elem encW_len i (by omega)
        refine Post.val fx2 ?_
        refine Post.val (fa2.load0 1) ?_
        rw [eR]
        simp (dsimp := false) (implicitDefEqProofs := false) (disch := omega) only [gv_some, gr_some, gI_int, gB_bool, gS_str, gc_t, gc_f, gi_t, gi_f, gN_eq, gf_t, Option.bind_some, Option.bind_none, Option.map_some, acells_agg, acells_int, acells_bool, acells_str, acells_ptr, acells_sl, acells_nilsl, acells_nilptr, acells_iface, acells_niliface, aptr_ptr, anil_ptr, aextract_0, aextract_1, aextract_2, alenS_sl, alenS_nil, apartOf_agg, apart_t, apart_f, astore_ptr, hset_at0, hset_at, hs_same, hs_ne, len_hset, List.set_cons_zero, List.set_cons_succ, set_app, set_app0, aload_ptr, splice_eq, List.drop_nil, List.append_nil, isCell_int, isCell_bool, isCell_str, isCell_ptr, isCell_sl, isCell_nilsl, isCell_nilptr, isCell_iface, isCell_niliface, List.all_cons, List.all_nil, Bool.and_self, hget_at0, hget_at, len_app, List.length_cons, List.length_nil, get_app, get_app0, List.getElem?_cons_zero, List.getElem?_cons_succ, join_some, List.append_assoc, List.cons_append, List.nil_append, Nat.zero_add, Nat.add_zero, Nat.mul_one, chkRd_eq, chkAl_blk, if_true, if_false, Bool.false_eq_true, List.drop_succ_cons, List.drop_zero, List.take_succ_cons, List.take_zero, Bool.and_true, Bool.true_and, decide_true, decide_false, wrap64_id, aixG_eq, Nat.reduceAdd, Nat.reduceSub, Nat.reduceMul, Nat.reduceLeDiff, Nat.reduceLT, Int.reduceAdd, Int.reduceSub, Int.reduceMul, Int.reduceNeg, Int.reduceLT, Int.reduceLE, Int.reduceGT, Int.reduceGE, Int.reduceToNat, ↓reduceIte, and_self, true_and, and_true]
        refine Post.bind (c_report _ c w G hw' i ow (by omega) R r0 0 0 (by omega)) ?_
        intro v h2 hv
        have tk2 : w.takes R 0 0 = true := by simp [Mon.takes, a2]; omega
        rw [if_pos tk2] at hv
        obtain ⟨rfl, G', hw2, fr2⟩ := hv
        have hm2 := hm'.keep (h' := h2) fun x hx => fr2.old x (hm'.lt x hx) (fun h => hd' x hx h)
        have hd2 := fr2.apart hm'.lt (fun x hx h => hd' x h hx)
        obtain ⟨⟨g2, rfl⟩, hG2⟩ := fr2.grow hG
        have act2 := p1_act w a2 0 (by omega) 0 (by omega)
        obtain ⟨rl2, ra2⟩ := rep_last w R 0 0 act2
        have ow2 : (w.rep R (Int.toNat 0) (Int.toNat 0)).ok ((i + 1 : Nat) : Int) := Mon.rep_ok ow (by omega) R r0 hR 0 0 (by omega)
        have erow : m.row R 0 = w.row R 0 := by simp only [Mon.row, a7, a8]
        have edid : m.did R (Int.toNat 0) (Int.toNat 0) = w.did R (Int.toNat 0) (Int.toNat 0) := by
          show m.did R 0 0 = w.did R 0 0
          have act' : m.act 0 0 = 1 := act
          simp [Mon.did, act', act2, erow]
        have en : (m.did R 0 0 != w.did R 0 0) = false := by
          have : m.did R 0 0 = w.did R 0 0 := edid
          rw [this]; simp
        simp (dsimp := false) (implicitDefEqProofs := false) (disch := omega) only [gv_some, gr_some, gI_int, gB_bool, gS_str, gc_t, gc_f, gi_t, gi_f, gN_eq, gf_t, Option.bind_some, Option.bind_none, Option.map_some, acells_agg, acells_int, acells_bool, acells_str, acells_ptr, acells_sl, acells_nilsl, acells_nilptr, acells_iface, acells_niliface, aptr_ptr, anil_ptr, aextract_0, aextract_1, aextract_2, alenS_sl, alenS_nil, apartOf_agg, apart_t, apart_f, astore_ptr, hset_at0, hset_at, hs_same, hs_ne, len_hset, List.set_cons_zero, List.set_cons_succ, set_app, set_app0, aload_ptr, splice_eq, List.drop_nil, List.append_nil, isCell_int, isCell_bool, isCell_str, isCell_ptr, isCell_sl, isCell_nilsl, isCell_nilptr, isCell_iface, isCell_niliface, List.all_cons, List.all_nil, Bool.and_self, hget_at0, hget_at, len_app, List.length_cons, List.length_nil, get_app, get_app0, List.getElem?_cons_zero, List.getElem?_cons_succ, join_some, List.append_assoc, List.cons_append, List.nil_append, Nat.zero_add, Nat.add_zero, Nat.mul_one, chkRd_eq, chkAl_blk, if_true, if_false, Bool.false_eq_true, List.drop_succ_cons, List.drop_zero, List.take_succ_cons, List.take_zero, Bool.and_true, Bool.true_and, decide_true, decide_false, wrap64_id, aixG_eq, Nat.reduceAdd, Nat.reduceSub, Nat.reduceMul, Nat.reduceLeDiff, Nat.reduceLT, Int.reduceAdd, Int.reduceSub, Int.reduceMul, Int.reduceNeg, Int.reduceLT, Int.reduceLE, Int.reduceGT, Int.reduceGE, Int.reduceToNat, ↓reduceIte, and_self, true_and, and_true, en]
        refine Post.call (c_read [] _ _ rfl (by simp)) fun v g3 hv => ?_
        subst hv
        simp (dsimp := false) (implicitDefEqProofs := false) (disch := omega) only [gv_some, gr_some, gI_int, gB_bool, gS_str, gc_t, gc_f, gi_t, gi_f, gN_eq, gf_t, Option.bind_some, Option.bind_none, Option.map_some, acells_agg, acells_int, acells_bool, acells_str, acells_ptr, acells_sl, acells_nilsl, acells_nilptr, acells_iface, acells_niliface, aptr_ptr, anil_ptr, aextract_0, aextract_1, aextract_2, alenS_sl, alenS_nil, apartOf_agg, apart_t, apart_f, astore_ptr, hset_at0, hset_at, hs_same, hs_ne, len_hset, List.set_cons_zero, List.set_cons_succ, set_app, set_app0, aload_ptr, splice_eq, List.drop_nil, List.append_nil, isCell_int, isCell_bool, isCell_str, isCell_ptr, isCell_sl, isCell_nilsl, isCell_nilptr, isCell_iface, isCell_niliface, List.all_cons, List.all_nil, Bool.and_self, hget_at0, hget_at, len_app, List.length_cons, List.length_nil, get_app, get_app0, List.getElem?_cons_zero, List.getElem?_cons_succ, join_some, List.append_assoc, List.cons_append, List.nil_append, Nat.zero_add, Nat.add_zero, Nat.mul_one, chkRd_eq, chkAl_blk, if_true, if_false, Bool.false_eq_true, List.drop_succ_cons, List.drop_zero, List.take_succ_cons, List.take_zero, Bool.and_true, Bool.true_and, decide_true, decide_false, wrap64_id, aixG_eq, Nat.reduceAdd, Nat.reduceSub, Nat.reduceMul, Nat.reduceLeDiff, Nat.reduceLT, Int.reduceAdd, Int.reduceSub, Int.reduceMul, Int.reduceNeg, Int.reduceLT, Int.reduceLE, Int.reduceGT, Int.reduceGE, Int.reduceToNat, ↓reduceIte, and_self, true_and, and_true]
        refine Post.call (c_read [] _ _ rfl (by simp)) fun v g4 hv => ?_
        subst hv
        have ee : (!(errTxt [] == errTxt [])) = false := rfl
        simp (dsimp := false) (implicitDefEqProofs := false) (disch := omega) only [gv_some, gr_some, gI_int, gB_bool, gS_str, gc_t, gc_f, gi_t, gi_f, gN_eq, gf_t, Option.bind_some, Option.bind_none, Option.map_some, acells_agg, acells_int, acells_bool, acells_str, acells_ptr, acells_sl, acells_nilsl, acells_nilptr, acells_iface, acells_niliface, aptr_ptr, anil_ptr, aextract_0, aextract_1, aextract_2, alenS_sl, alenS_nil, apartOf_agg, apart_t, apart_f, astore_ptr, hset_at0, hset_at, hs_same, hs_ne, len_hset, List.set_cons_zero, List.set_cons_succ, set_app, set_app0, aload_ptr, splice_eq, List.drop_nil, List.append_nil, isCell_int, isCell_bool, isCell_str, isCell_ptr, isCell_sl, isCell_nilsl, isCell_nilptr, isCell_iface, isCell_niliface, List.all_cons, List.all_nil, Bool.and_self, hget_at0, hget_at, len_app, List.length_cons, List.length_nil, get_app, get_app0, List.getElem?_cons_zero, List.getElem?_cons_succ, join_some, List.append_assoc, List.cons_append, List.nil_append, Nat.zero_add, Nat.add_zero, Nat.mul_one, chkRd_eq, chkAl_blk, if_true, if_false, Bool.false_eq_true, List.drop_succ_cons, List.drop_zero, List.take_succ_cons, List.take_zero, Bool.and_true, Bool.true_and, decide_true, decide_false, wrap64_id, aixG_eq, Nat.reduceAdd, Nat.reduceSub, Nat.reduceMul, Nat.reduceLeDiff, Nat.reduceLT, Int.reduceAdd, Int.reduceSub, Int.reduceMul, Int.reduceNeg, Int.reduceLT, Int.reduceLE, Int.reduceGT, Int.reduceGE, Int.reduceToNat, ↓reduceIte, and_self, true_and, and_true, ee]
        rw [J6_8_eq]
        simp (dsimp := false) (implicitDefEqProofs := false) (disch := omega) only [gv_some, gr_some, gI_int, gB_bool, gS_str, gc_t, gc_f, gi_t, gi_f, gN_eq, gf_t, Option.bind_some, Option.bind_none, Option.map_some, acells_agg, acells_int, acells_bool, acells_str, acells_ptr, acells_sl, acells_nilsl, acells_nilptr, acells_iface, acells_niliface, aptr_ptr, anil_ptr, aextract_0, aextract_1, aextract_2, alenS_sl, alenS_nil, apartOf_agg, apart_t, apart_f, astore_ptr, hset_at0, hset_at, hs_same, hs_ne, len_hset, List.set_cons_zero, List.set_cons_succ, set_app, set_app0, aload_ptr, splice_eq, List.drop_nil, List.append_nil, isCell_int, isCell_bool, isCell_str, isCell_ptr, isCell_sl, isCell_nilsl, isCell_nilptr, isCell_iface, isCell_niliface, List.all_cons, List.all_nil, Bool.and_self, hget_at0, hget_at, len_app, List.length_cons, List.length_nil, get_app, get_app0, List.getElem?_cons_zero, List.getElem?_cons_succ, join_some, List.append_assoc, List.cons_append, List.nil_append, Nat.zero_add, Nat.add_zero, Nat.mul_one, chkRd_eq, chkAl_blk, if_true, if_false, Bool.false_eq_true, List.drop_succ_cons, List.drop_zero, List.take_succ_cons, List.take_zero, Bool.and_true, Bool.true_and, decide_true, decide_false, wrap64_id, aixG_eq, Nat.reduceAdd, Nat.reduceSub, Nat.reduceMul, Nat.reduceLeDiff, Nat.reduceLT, Int.reduceAdd, Int.reduceSub, Int.reduceMul, Int.reduceNeg, Int.reduceLT, Int.reduceLE, Int.reduceGT, Int.reduceGE, Int.reduceToNat, ↓reduceIte, and_self, true_and, and_true]
        rw [J6_6_eq, wsucc (by omega)]
        have rl' : (m.rep R 0 0).last = m.last.set 0 (R + 1) := rl
        have ra' : (m.rep R 0 0).again = m.again.set 0 (m.row R 0) := ra
        refine ih (i + 1) b c _ _ F' G' (g2 ++ (g3 ++ g4)) (by omega) ?_ ?_ hF' hG2 (fun x hx h => hd2 x h hx) ⟨pm, by rw [(rep_parts w R _ _).1, a2], ?_, ?_, ?_, ?_, ?_, ?_⟩ om' ow2
        · rw [← List.append_assoc]; exact hm2.keep fun x hx => hget_old _ (hm2.lt x hx)
        · rw [← List.append_assoc]; exact hw2.keep fun x hx => hget_old _ (hw2.lt x hx)
        · show (m.rep R 0 0).last.length = 2
          rw [rl']; simpa using a3
        · show (w.rep R 0 0).last.length = 2
          rw [rl2]; simpa using a4
        · show (m.rep R 0 0).again.length = 2
          rw [ra']; simpa using a5
        · show (w.rep R 0 0).again.length = 2
          rw [ra2]; simpa using a6
        · show (m.rep R 0 0).last.getD 0 0 = (w.rep R 0 0).last.getD 0 0
          rw [rl', rl2, set_get0 _ _ (by omega), set_get0 _ _ (by omega)]
        · show (m.rep R 0 0).again.getD 0 0 = (w.rep R 0 0).again.getD 0 0
          rw [ra', ra2, set_get0 _ _ (by omega), set_get0 _ _ (by omega), erow]
    · rw [if_neg tk] at hv
      obtain ⟨rfl, rfl⟩ := hv
      have hR : ¬ R < 1048576 := by
        intro h; exact tk (by simp [Mon.takes, a1]; omega)
      simp (dsimp := false) (implicitDefEqProofs := false) (disch := omega) only [gv_some, gr_some, gI_int, gB_bool, gS_str, gc_t, gc_f, gi_t, gi_f, gN_eq, gf_t, Option.bind_some, Option.bind_none, Option.map_some, acells_agg, acells_int, acells_bool, acells_str, acells_ptr, acells_sl, acells_nilsl, acells_nilptr, acells_iface, acells_niliface, aptr_ptr, anil_ptr, aextract_0, aextract_1, aextract_2, alenS_sl, alenS_nil, apartOf_agg, apart_t, apart_f, astore_ptr, hset_at0, hset_at, hs_same, hs_ne, len_hset, List.set_cons_zero, List.set_cons_succ, set_app, set_app0, aload_ptr, splice_eq, List.drop_nil, List.append_nil, isCell_int, isCell_bool, isCell_str, isCell_ptr, isCell_sl, isCell_nilsl, isCell_nilptr, isCell_iface, isCell_niliface, List.all_cons, List.all_nil, Bool.and_self, hget_at0, hget_at, len_app, List.length_cons, List.length_nil, get_app, get_app0, List.getElem?_cons_zero, List.getElem?_cons_succ, join_some, List.append_assoc, List.cons_append, List.nil_append, Nat.zero_add, Nat.add_zero, Nat.mul_one, chkRd_eq, chkAl_blk, if_true, if_false, Bool.false_eq_true, List.drop_succ_cons, List.drop_zero, List.take_succ_cons, List.take_zero, Bool.and_true, Bool.true_and, decide_true, decide_false, wrap64_id, aixG_eq, Nat.reduceAdd, Nat.reduceSub, Nat.reduceMul, Nat.reduceLeDiff, Nat.reduceLT, Int.reduceAdd, Int.reduceSub, Int.reduceMul, Int.reduceNeg, Int.reduceLT, Int.reduceLE, Int.reduceGT, Int.reduceGE, Int.reduceToNat, ↓reduceIte, and_self, true_and, and_true]
      refine Post.cnd (fun hz => ?_) fun hz => ?_
      · rw [J6_6_eq, wsucc (by omega)]
        exact ih (i + 1) b c _ w F G g (by omega) hm hw hF hG hd ha (more om) (more ow)
      · rw [J6_7_eq]
        refine Post.val fx ?_
        refine Post.val (fa.load0 1) ?_
        rw [eR]
        simp (dsimp := false) (implicitDefEqProofs := false) (disch := omega) only [gv_some, gr_some, gI_int, gB_bool, gS_str, gc_t, gc_f, gi_t, gi_f, gN_eq, gf_t, Option.bind_some, Option.bind_none, Option.map_some, acells_agg, acells_int, acells_bool, acells_str, acells_ptr, acells_sl, acells_nilsl, acells_nilptr, acells_iface, acells_niliface, aptr_ptr, anil_ptr, aextract_0, aextract_1, aextract_2, alenS_sl, alenS_nil, apartOf_agg, apart_t, apart_f, astore_ptr, hset_at0, hset_at, hs_same, hs_ne, len_hset, List.set_cons_zero, List.set_cons_succ, set_app, set_app0, aload_ptr, splice_eq, List.drop_nil, List.append_nil, isCell_int, isCell_bool, isCell_str, isCell_ptr, isCell_sl, isCell_nilsl, isCell_nilptr, isCell_iface, isCell_niliface, List.all_cons, List.all_nil, Bool.and_self, hget_at0, hget_at, len_app, List.length_cons, List.length_nil, get_app, get_app0, List.getElem?_cons_zero, List.getElem?_cons_succ, join_some, List.append_assoc, List.cons_append, List.nil_append, Nat.zero_add, Nat.add_zero, Nat.mul_one, chkRd_eq, chkAl_blk, if_true, if_false, Bool.false_eq_true, List.drop_succ_cons, List.drop_zero, List.take_succ_cons, List.take_zero, Bool.and_true, Bool.true_and, decide_true, decide_false, wrap64_id, aixG_eq, Nat.reduceAdd, Nat.reduceSub, Nat.reduceMul, Nat.reduceLeDiff, Nat.reduceLT, Int.reduceAdd, Int.reduceSub, Int.reduceMul, Int.reduceNeg, Int.reduceLT, Int.reduceLE, Int.reduceGT, Int.reduceGE, Int.reduceToNat, ↓reduceIte, and_self, true_and, and_true]
        refine Post.bind (c_report _ c w G hw i ow (by omega) R r0 0 0 (by omega)) ?_
        intro v h2 hv
        have tk2 : ¬ w.takes R 0 0 = true := by simp [Mon.takes]; omega
        rw [if_neg tk2] at hv
        obtain ⟨rfl, rfl⟩ := hv
        have en : ((0 : Int) != 0) = false := rfl
        have er : ErrV (h0 ++ g) [(2, none)] (.iface 71 (.int .i64 2)) := ⟨rfl, ⟨by omega, by omega⟩, rfl⟩
        simp (dsimp := false) (implicitDefEqProofs := false) (disch := omega) only [gv_some, gr_some, gI_int, gB_bool, gS_str, gc_t, gc_f, gi_t, gi_f, gN_eq, gf_t, Option.bind_some, Option.bind_none, Option.map_some, acells_agg, acells_int, acells_bool, acells_str, acells_ptr, acells_sl, acells_nilsl, acells_nilptr, acells_iface, acells_niliface, aptr_ptr, anil_ptr, aextract_0, aextract_1, aextract_2, alenS_sl, alenS_nil, apartOf_agg, apart_t, apart_f, astore_ptr, hset_at0, hset_at, hs_same, hs_ne, len_hset, List.set_cons_zero, List.set_cons_succ, set_app, set_app0, aload_ptr, splice_eq, List.drop_nil, List.append_nil, isCell_int, isCell_bool, isCell_str, isCell_ptr, isCell_sl, isCell_nilsl, isCell_nilptr, isCell_iface, isCell_niliface, List.all_cons, List.all_nil, Bool.and_self, hget_at0, hget_at, len_app, List.length_cons, List.length_nil, get_app, get_app0, List.getElem?_cons_zero, List.getElem?_cons_succ, join_some, List.append_assoc, List.cons_append, List.nil_append, Nat.zero_add, Nat.add_zero, Nat.mul_one, chkRd_eq, chkAl_blk, if_true, if_false, Bool.false_eq_true, List.drop_succ_cons, List.drop_zero, List.take_succ_cons, List.take_zero, Bool.and_true, Bool.true_and, decide_true, decide_false, wrap64_id, aixG_eq, Nat.reduceAdd, Nat.reduceSub, Nat.reduceMul, Nat.reduceLeDiff, Nat.reduceLT, Int.reduceAdd, Int.reduceSub, Int.reduceMul, Int.reduceNeg, Int.reduceLT, Int.reduceLE, Int.reduceGT, Int.reduceGE, Int.reduceToNat, ↓reduceIte, and_self, true_and, and_true, en]
        refine Post.call (c_read _ _ _ er (by simp)) fun v g3 hv => ?_
        subst hv
        simp (dsimp := false) (implicitDefEqProofs := false) (disch := omega) only [gv_some, gr_some, gI_int, gB_bool, gS_str, gc_t, gc_f, gi_t, gi_f, gN_eq, gf_t, Option.bind_some, Option.bind_none, Option.map_some, acells_agg, acells_int, acells_bool, acells_str, acells_ptr, acells_sl, acells_nilsl, acells_nilptr, acells_iface, acells_niliface, aptr_ptr, anil_ptr, aextract_0, aextract_1, aextract_2, alenS_sl, alenS_nil, apartOf_agg, apart_t, apart_f, astore_ptr, hset_at0, hset_at, hs_same, hs_ne, len_hset, List.set_cons_zero, List.set_cons_succ, set_app, set_app0, aload_ptr, splice_eq, List.drop_nil, List.append_nil, isCell_int, isCell_bool, isCell_str, isCell_ptr, isCell_sl, isCell_nilsl, isCell_nilptr, isCell_iface, isCell_niliface, List.all_cons, List.all_nil, Bool.and_self, hget_at0, hget_at, len_app, List.length_cons, List.length_nil, get_app, get_app0, List.getElem?_cons_zero, List.getElem?_cons_succ, join_some, List.append_assoc, List.cons_append, List.nil_append, Nat.zero_add, Nat.add_zero, Nat.mul_one, chkRd_eq, chkAl_blk, if_true, if_false, Bool.false_eq_true, List.drop_succ_cons, List.drop_zero, List.take_succ_cons, List.take_zero, Bool.and_true, Bool.true_and, decide_true, decide_false, wrap64_id, aixG_eq, Nat.reduceAdd, Nat.reduceSub, Nat.reduceMul, Nat.reduceLeDiff, Nat.reduceLT, Int.reduceAdd, Int.reduceSub, Int.reduceMul, Int.reduceNeg, Int.reduceLT, Int.reduceLE, Int.reduceGT, Int.reduceGE, Int.reduceToNat, ↓reduceIte, and_self, true_and, and_true]
        have er3 := er.app g3
        rw [List.append_assoc] at er3
        refine Post.call (c_read _ _ _ er3 (by simp)) fun v g4 hv => ?_
        subst hv
        have ee : (!(errTxt [(2, none)] == errTxt [(2, none)])) = false := by simp
        simp (dsimp := false) (implicitDefEqProofs := false) (disch := omega) only [gv_some, gr_some, gI_int, gB_bool, gS_str, gc_t, gc_f, gi_t, gi_f, gN_eq, gf_t, Option.bind_some, Option.bind_none, Option.map_some, acells_agg, acells_int, acells_bool, acells_str, acells_ptr, acells_sl, acells_nilsl, acells_nilptr, acells_iface, acells_niliface, aptr_ptr, anil_ptr, aextract_0, aextract_1, aextract_2, alenS_sl, alenS_nil, apartOf_agg, apart_t, apart_f, astore_ptr, hset_at0, hset_at, hs_same, hs_ne, len_hset, List.set_cons_zero, List.set_cons_succ, set_app, set_app0, aload_ptr, splice_eq, List.drop_nil, List.append_nil, isCell_int, isCell_bool, isCell_str, isCell_ptr, isCell_sl, isCell_nilsl, isCell_nilptr, isCell_iface, isCell_niliface, List.all_cons, List.all_nil, Bool.and_self, hget_at0, hget_at, len_app, List.length_cons, List.length_nil, get_app, get_app0, List.getElem?_cons_zero, List.getElem?_cons_succ, join_some, List.append_assoc, List.cons_append, List.nil_append, Nat.zero_add, Nat.add_zero, Nat.mul_one, chkRd_eq, chkAl_blk, if_true, if_false, Bool.false_eq_true, List.drop_succ_cons, List.drop_zero, List.take_succ_cons, List.take_zero, Bool.and_true, Bool.true_and, decide_true, decide_false, wrap64_id, aixG_eq, Nat.reduceAdd, Nat.reduceSub, Nat.reduceMul, Nat.reduceLeDiff, Nat.reduceLT, Int.reduceAdd, Int.reduceSub, Int.reduceMul, Int.reduceNeg, Int.reduceLT, Int.reduceLE, Int.reduceGT, Int.reduceGE, Int.reduceToNat, ↓reduceIte, and_self, true_and, and_true, ee]
        rw [J6_8_eq]
        simp (dsimp := false) (implicitDefEqProofs := false) (disch := omega) only [gv_some, gr_some, gI_int, gB_bool, gS_str, gc_t, gc_f, gi_t, gi_f, gN_eq, gf_t, Option.bind_some, Option.bind_none, Option.map_some, acells_agg, acells_int, acells_bool, acells_str, acells_ptr, acells_sl, acells_nilsl, acells_nilptr, acells_iface, acells_niliface, aptr_ptr, anil_ptr, aextract_0, aextract_1, aextract_2, alenS_sl, alenS_nil, apartOf_agg, apart_t, apart_f, astore_ptr, hset_at0, hset_at, hs_same, hs_ne, len_hset, List.set_cons_zero, List.set_cons_succ, set_app, set_app0, aload_ptr, splice_eq, List.drop_nil, List.append_nil, isCell_int, isCell_bool, isCell_str, isCell_ptr, isCell_sl, isCell_nilsl, isCell_nilptr, isCell_iface, isCell_niliface, List.all_cons, List.all_nil, Bool.and_self, hget_at0, hget_at, len_app, List.length_cons, List.length_nil, get_app, get_app0, List.getElem?_cons_zero, List.getElem?_cons_succ, join_some, List.append_assoc, List.cons_append, List.nil_append, Nat.zero_add, Nat.add_zero, Nat.mul_one, chkRd_eq, chkAl_blk, if_true, if_false, Bool.false_eq_true, List.drop_succ_cons, List.drop_zero, List.take_succ_cons, List.take_zero, Bool.and_true, Bool.true_and, decide_true, decide_false, wrap64_id, aixG_eq, Nat.reduceAdd, Nat.reduceSub, Nat.reduceMul, Nat.reduceLeDiff, Nat.reduceLT, Int.reduceAdd, Int.reduceSub, Int.reduceMul, Int.reduceNeg, Int.reduceLT, Int.reduceLE, Int.reduceGT, Int.reduceGE, Int.reduceToNat, ↓reduceIte, and_self, true_and, and_true]
        rw [J6_6_eq, wsucc (by omega)]
        refine ih (i + 1) b c m w F G (g ++ (g3 ++ g4)) (by omega) ?_ ?_ hF hG hd ha (more om) (more ow)
        · rw [← List.append_assoc]; exact hm.keep fun x hx => hget_old _ (hm.lt x hx)
        · rw [← List.append_assoc]; exact hw.keep fun x hx => hget_old _ (hw.lt x hx)
theorem healthParts : LawTrue Try.prog Nt 9 6 [56, 51] := by
  rintro h xs ⟨x, r, rfl, hx, x2, r2, rfl, hx2, hr⟩
  cases hr
  obtain ⟨rs, s0, hr, _⟩ := argvWords hx
  obtain ⟨ws, s1, _⟩ := argvInts hx2
  have main : Post (acall Try.prog Nt 6 [x, x2] h) fun v _ => v = .bool true := by
    rw [E6]
    refine Post.bind (c_awake h) ?_
    rintro v h1 ⟨rfl, g, rfl⟩
    simp (dsimp := false) (implicitDefEqProofs := false) (disch := omega) only [gv_some, gr_some, gI_int, gB_bool, gS_str, gc_t, gc_f, gi_t, gi_f, gN_eq, gf_t, Option.bind_some, Option.bind_none, Option.map_some, acells_agg, acells_int, acells_bool, acells_str, acells_ptr, acells_sl, acells_nilsl, acells_nilptr, acells_iface, acells_niliface, aptr_ptr, anil_ptr, aextract_0, aextract_1, aextract_2, alenS_sl, alenS_nil, apartOf_agg, apart_t, apart_f, astore_ptr, hset_at0, hset_at, hs_same, hs_ne, len_hset, List.set_cons_zero, List.set_cons_succ, set_app, set_app0, aload_ptr, splice_eq, List.drop_nil, List.append_nil, isCell_int, isCell_bool, isCell_str, isCell_ptr, isCell_sl, isCell_nilsl, isCell_nilptr, isCell_iface, isCell_niliface, List.all_cons, List.all_nil, Bool.and_self, hget_at0, hget_at, len_app, List.length_cons, List.length_nil, get_app, get_app0, List.getElem?_cons_zero, List.getElem?_cons_succ, join_some, List.append_assoc, List.cons_append, List.nil_append, Nat.zero_add, Nat.add_zero, Nat.mul_one, chkRd_eq, chkAl_blk, if_true, if_false, Bool.false_eq_true, List.drop_succ_cons, List.drop_zero, List.take_succ_cons, List.take_zero, Bool.and_true, Bool.true_and, decide_true, decide_false, wrap64_id, aixG_eq, Nat.reduceAdd, Nat.reduceSub, Nat.reduceMul, Nat.reduceLeDiff, Nat.reduceLT, Int.reduceAdd, Int.reduceSub, Int.reduceMul, Int.reduceNeg, Int.reduceLT, Int.reduceLE, Int.reduceGT, Int.reduceGE, Int.reduceToNat, ↓reduceIte, and_self, true_and, and_true, Bool.not_true, J6_1_eq]
    have eb : ∀ H, abslS 9 2 [.int .i64 0, .int .i64 0, .int .i64 0, .int .i64 0, .int .i64 0, .int .u8 0, .int .u8 0, .int .u8 0, .int .u8 0, .int .i64 0, .int .i64 0, .int .i64 0, .int .i64 0, .int .i64 0, .int .u8 0, .int .u8 0, .int .u8 0, .int .u8 0] [(0, .agg p1.cells), (1, .agg p1.cells)] H = some (.sl H.length 0 2 9, H ++ [some (.cells false (p1.cells ++ p1.cells))]) := fun H => rfl
    have ec : ([.int .i64 0, .int .i64 0, .int .i64 0, .int .i64 0, .int .i64 0, .int .u8 1, .int .u8 1, .int .u8 1, .int .u8 1] : List AV) = p1.cells := rfl
    simp (dsimp := false) (implicitDefEqProofs := false) (disch := omega) only [gv_some, gr_some, gI_int, gB_bool, gS_str, gc_t, gc_f, gi_t, gi_f, gN_eq, gf_t, Option.bind_some, Option.bind_none, Option.map_some, acells_agg, acells_int, acells_bool, acells_str, acells_ptr, acells_sl, acells_nilsl, acells_nilptr, acells_iface, acells_niliface, aptr_ptr, anil_ptr, aextract_0, aextract_1, aextract_2, alenS_sl, alenS_nil, apartOf_agg, apart_t, apart_f, astore_ptr, hset_at0, hset_at, hs_same, hs_ne, len_hset, List.set_cons_zero, List.set_cons_succ, set_app, set_app0, aload_ptr, splice_eq, List.drop_nil, List.append_nil, isCell_int, isCell_bool, isCell_str, isCell_ptr, isCell_sl, isCell_nilsl, isCell_nilptr, isCell_iface, isCell_niliface, List.all_cons, List.all_nil, Bool.and_self, hget_at0, hget_at, len_app, List.length_cons, List.length_nil, get_app, get_app0, List.getElem?_cons_zero, List.getElem?_cons_succ, join_some, List.append_assoc, List.cons_append, List.nil_append, Nat.zero_add, Nat.add_zero, Nat.mul_one, chkRd_eq, chkAl_blk, if_true, if_false, Bool.false_eq_true, List.drop_succ_cons, List.drop_zero, List.take_succ_cons, List.take_zero, Bool.and_true, Bool.true_and, decide_true, decide_false, wrap64_id, aixG_eq, Nat.reduceAdd, Nat.reduceSub, Nat.reduceMul, Nat.reduceLeDiff, Nat.reduceLT, Int.reduceAdd, Int.reduceSub, Int.reduceMul, Int.reduceNeg, Int.reduceLT, Int.reduceLE, Int.reduceGT, Int.reduceGE, Int.reduceToNat, ↓reduceIte, and_self, true_and, and_true, ec, eb]
    have pl : p1.cells.length = 9 := rfl
    have pt : p1.cells.take 9 = p1.cells := rfl
    simp (dsimp := false) (implicitDefEqProofs := false) (disch := omega) only [gv_some, gr_some, gI_int, gB_bool, gS_str, gc_t, gc_f, gi_t, gi_f, gN_eq, gf_t, Option.bind_some, Option.bind_none, Option.map_some, acells_agg, acells_int, acells_bool, acells_str, acells_ptr, acells_sl, acells_nilsl, acells_nilptr, acells_iface, acells_niliface, aptr_ptr, anil_ptr, aextract_0, aextract_1, aextract_2, alenS_sl, alenS_nil, apartOf_agg, apart_t, apart_f, astore_ptr, hset_at0, hset_at, hs_same, hs_ne, len_hset, List.set_cons_zero, List.set_cons_succ, set_app, set_app0, aload_ptr, splice_eq, List.drop_nil, List.append_nil, isCell_int, isCell_bool, isCell_str, isCell_ptr, isCell_sl, isCell_nilsl, isCell_nilptr, isCell_iface, isCell_niliface, List.all_cons, List.all_nil, Bool.and_self, hget_at0, hget_at, len_app, List.length_cons, List.length_nil, get_app, get_app0, List.getElem?_cons_zero, List.getElem?_cons_succ, join_some, List.append_assoc, List.cons_append, List.nil_append, Nat.zero_add, Nat.add_zero, Nat.mul_one, chkRd_eq, chkAl_blk, if_true, if_false, Bool.false_eq_true, List.drop_succ_cons, List.drop_zero, List.take_succ_cons, List.take_zero, Bool.and_true, Bool.true_and, decide_true, decide_false, wrap64_id, aixG_eq, Nat.reduceAdd, Nat.reduceSub, Nat.reduceMul, Nat.reduceLeDiff, Nat.reduceLT, Int.reduceAdd, Int.reduceSub, Int.reduceMul, Int.reduceNeg, Int.reduceLT, Int.reduceLE, Int.reduceGT, Int.reduceGE, Int.reduceToNat, ↓reduceIte, and_self, true_and, and_true, pl, pt, eb, Nat.le_refl]
    have two : ∀ H k, hget H k = some (.cells false (p1.cells ++ p1.cells)) → Sl H 9 Part.cells [p1, p1] (.sl k 0 2 9) := fun H k e => .inr ⟨k, 0, rfl, false, _, e, by simp [Part.cells], by simp [Part.cells]⟩
    refine Post.call (c_newmon 0 [p1, p1] _ _ (two _ _ (by rw [hget_at, get_app]; rfl)) (by simp)) fun v g2 hv => ?_
    obtain ⟨b, F, rfl, hm, hF⟩ := hv
    simp (dsimp := false) (implicitDefEqProofs := false) (disch := omega) only [gv_some, gr_some, gI_int, gB_bool, gS_str, gc_t, gc_f, gi_t, gi_f, gN_eq, gf_t, Option.bind_some, Option.bind_none, Option.map_some, acells_agg, acells_int, acells_bool, acells_str, acells_ptr, acells_sl, acells_nilsl, acells_nilptr, acells_iface, acells_niliface, aptr_ptr, anil_ptr, aextract_0, aextract_1, aextract_2, alenS_sl, alenS_nil, apartOf_agg, apart_t, apart_f, astore_ptr, hset_at0, hset_at, hs_same, hs_ne, len_hset, List.set_cons_zero, List.set_cons_succ, set_app, set_app0, aload_ptr, splice_eq, List.drop_nil, List.append_nil, isCell_int, isCell_bool, isCell_str, isCell_ptr, isCell_sl, isCell_nilsl, isCell_nilptr, isCell_iface, isCell_niliface, List.all_cons, List.all_nil, Bool.and_self, hget_at0, hget_at, len_app, List.length_cons, List.length_nil, get_app, get_app0, List.getElem?_cons_zero, List.getElem?_cons_succ, join_some, List.append_assoc, List.cons_append, List.nil_append, Nat.zero_add, Nat.add_zero, Nat.mul_one, chkRd_eq, chkAl_blk, if_true, if_false, Bool.false_eq_true, List.drop_succ_cons, List.drop_zero, List.take_succ_cons, List.take_zero, Bool.and_true, Bool.true_and, decide_true, decide_false, wrap64_id, aixG_eq, Nat.reduceAdd, Nat.reduceSub, Nat.reduceMul, Nat.reduceLeDiff, Nat.reduceLT, Int.reduceAdd, Int.reduceSub, Int.reduceMul, Int.reduceNeg, Int.reduceLT, Int.reduceLE, Int.reduceGT, Int.reduceGE, Int.reduceToNat, ↓reduceIte, and_self, true_and, and_true, pl, pt, Nat.le_refl]
    refine Post.call (c_newmon 0 [p1, p1] _ _ (two _ _ (by rw [hget_at, get_app]; rfl)) (by simp)) fun v g3 hv => ?_
    obtain ⟨c, G, rfl, hw, hG⟩ := hv
    try simp only [List.append_assoc, List.cons_append, List.nil_append] at hm hw hF hG
    have hm2 : MonAt .u32 (h ++ (g ++ some (.cells false p1.cells) :: some (.cells false (p1.cells ++ p1.cells)) :: some (.cells false (p1.cells ++ p1.cells)) :: (g2 ++ g3))) b (Mon.new 0 [p1, p1]) F := by
      have := hm.keep (h' := h ++ (g ++ some (.cells false p1.cells) :: some (.cells false (p1.cells ++ p1.cells)) :: some (.cells false (p1.cells ++ p1.cells)) :: g2) ++ g3) fun x hx => hget_old _ (by simpa using hm.lt x hx)
      simpa using this
    have lF := hm.lt
    simp (dsimp := false) (implicitDefEqProofs := false) (disch := omega) only [gv_some, gr_some, gI_int, gB_bool, gS_str, gc_t, gc_f, gi_t, gi_f, gN_eq, gf_t, Option.bind_some, Option.bind_none, Option.map_some, acells_agg, acells_int, acells_bool, acells_str, acells_ptr, acells_sl, acells_nilsl, acells_nilptr, acells_iface, acells_niliface, aptr_ptr, anil_ptr, aextract_0, aextract_1, aextract_2, alenS_sl, alenS_nil, apartOf_agg, apart_t, apart_f, astore_ptr, hset_at0, hset_at, hs_same, hs_ne, len_hset, List.set_cons_zero, List.set_cons_succ, set_app, set_app0, aload_ptr, splice_eq, List.drop_nil, List.append_nil, isCell_int, isCell_bool, isCell_str, isCell_ptr, isCell_sl, isCell_nilsl, isCell_nilptr, isCell_iface, isCell_niliface, List.all_cons, List.all_nil, Bool.and_self, hget_at0, hget_at, len_app, List.length_cons, List.length_nil, get_app, get_app0, List.getElem?_cons_zero, List.getElem?_cons_succ, join_some, List.append_assoc, List.cons_append, List.nil_append, Nat.zero_add, Nat.add_zero, Nat.mul_one, chkRd_eq, chkAl_blk, if_true, if_false, Bool.false_eq_true, List.drop_succ_cons, List.drop_zero, List.take_succ_cons, List.take_zero, Bool.and_true, Bool.true_and, decide_true, decide_false, wrap64_id, aixG_eq, Nat.reduceAdd, Nat.reduceSub, Nat.reduceMul, Nat.reduceLeDiff, Nat.reduceLT, Int.reduceAdd, Int.reduceSub, Int.reduceMul, Int.reduceNeg, Int.reduceLT, Int.reduceLE, Int.reduceGT, Int.reduceGE, Int.reduceToNat, ↓reduceIte, and_self, true_and, and_true]
    refine partsLoop h rs ws x x2 s0 s1 hr 60 0 b c _ _ F G (g ++ some (.cells false p1.cells) :: some (.cells false (p1.cells ++ p1.cells)) :: some (.cells false (p1.cells ++ p1.cells)) :: (g2 ++ g3)) rfl hm2 hw (fun x hx => by have := hF x hx; simp at this; omega) (fun x hx => by have := hG x hx; simp at this; omega) (fun x hx hy => by have h1 := lF x hx; have h2 := hG x hy; simp at h1 h2; omega) ⟨rfl, rfl, rfl, rfl, rfl, rfl, rfl, rfl⟩ (Mon.new_ok _ _) (Mon.new_ok _ _)
  obtain ⟨v, g, e, rfl⟩ := main
  exact ⟨_, e⟩
end Go.Ab
end
section
/-
  errors.Is on the machine.
-/
namespace Go.Proofs.Ytdkfchbonlffeaa
open Go.RowKit Go.Extern.Stop Go.Stop Go.Extern
theorem Sy.isTypeOf (v : Value) (w : World) : (Extern.ReflectliteType.typeOf #[.iface 71 v]).run Try.prog w = .ok (.iface 97 (.agg #[.pointer (some ⟨0, 71, none⟩)])) w := by kernel_rfl
abbrev Sy.cmp : TypeId → Sem Value := fun t => do Extern.Rtype.noPackHeld "Comparable" t; pure (.bool (← typeInfo t).comparable)
theorem Sy.isComparable (w : World) : (Extern.ReflectliteType.method Sy.cmp #[.agg #[.pointer (some ⟨0, 71, none⟩)]]).run Try.prog w = .ok (.bool true) w := by kernel_rfl
theorem Sy.isMethodComparable (v : Value) (w : World) : (Go.method 241 97 v "Comparable").run Try.prog w = .ok (58, v) w := by kernel_rfl
set_option maxRecDepth 100000 in
set_option maxHeartbeats 1000000 in
theorem is_calls (t : TypeId) (y z : Value) (w : World) (R : Ending → World → Prop) (hc : Calls Try.prog 35 #[.iface t y, .iface 71 z, .bool true] w R) (hR : ∀ e w', R e w' → ∃ v, e = .returned v) :
    Calls Try.prog 32 #[.iface t y, .iface 71 z] w R := by
  have h8 := @run_callFunc_extern Try.prog 34 _ Extern.ReflectliteType.typeOf Try.func34 (by kernel_rfl) (by kernel_rfl) (by kernel_rfl) (by kernel_rfl)
  have h32 := @run_callFunc_extern Try.prog 58 _ (Extern.ReflectliteType.method Sy.cmp) Try.func58 (by kernel_rfl) (by kernel_rfl) (by kernel_rfl) (by kernel_rfl)
  have tT := Sy.isTypeOf
  have cT := Sy.isComparable
  have mR := Sy.isMethodComparable
  go_enter Try.func32, Try.ntmps32
  go_wp2_with (refine hc.mono ?_; rintro e w' hr; obtain ⟨v, rfl⟩ := hR e w' hr)
  exact hr
end Go.Proofs.Ytdkfchbonlffeaa
namespace Go.Ab
open Go.Proofs
theorem extSim : ExtSim Try.prog Nt := by
  intro f x hx B call hcall hlen xs h r hr ρ w vs R1 hv hf
  have hx' : theExt f = some x := hx
  unfold theExt at hx'
  split at hx'
  · rename_i e
    subst e
    cases hx'
    obtain ⟨t, v, u, rfl, hr⟩ := isErr_some hr
    obtain ⟨v1, vs1, rfl, r1, hv⟩ := VRels.cons_iff.1 hv
    obtain ⟨v2, vs2, rfl, r2, hv⟩ := VRels.cons_iff.1 hv
    rw [VRels.nil_iff] at hv
    subst hv
    simp only [VRel] at r1 r2
    obtain ⟨y, rfl, q1⟩ := r1
    obtain ⟨z, rfl, q2⟩ := r2
    refine Ytdkfchbonlffeaa.is_calls t y z w _ (hcall _ _ _ _ hr ρ w [.iface t y, .iface 71 z, .bool true] R1 (VRels.cons (by simp only [VRel]; exact ⟨y, rfl, q1⟩) (VRels.cons (by simp only [VRel]; exact ⟨z, rfl, q2⟩) (VRels.cons (by simp only [VRel]) (VRels.nil_iff.2 rfl)))) hf) ?_
    rintro e w' ⟨ρ', u, e1, _⟩
    exact ⟨u, e1⟩
  · cases hx'
end Go.Ab
end
