/-
  Functions of the program as equations, and their contracts.
-/
import Derived.Test.YtfkpfopibppgkaaGa1
import Derived.Test.YtfkpfopibppgkaaGa2
import Derived.Test.YtfkpfopibppgkaaGa3
import Derived.Test.YtfkpfopibppgkaaGSoundReach1
import Derived.Test.YtfkpfopibppgkaaGSoundReach2
import Derived.Test.YtfkpfopibppgkaaGSoundReach3
import Derived.Test.YtfkpfopibppgkaaGSoundReach4
set_option linter.all false
section
/-
  SoundMore.
-/
namespace Go.Ab
open Go.Proofs

theorem fbi_none {α : Type} {f : Nat → α → Bool} : ∀ {l : List α} {k : Nat}, fbi f l k = none ↔ ∀ i (hi : i < l.length), f (k + i) l[i] = false
  | [], k => by simp [fbi]
  | a :: l, k => by
    unfold fbi
    constructor
    · intro e i hi
      by_cases ha : f k a = true
      · rw [if_pos ha] at e; cases e
      · rw [if_neg ha] at e
        cases i with
        | zero => simpa using ha
        | succ i =>
          have := fbi_none.1 e i (by simpa using hi)
          rw [show k + (i + 1) = k + 1 + i by omega]
          exact this
    · intro h
      have h0 := h 0 (by simp)
      simp only [Nat.add_zero, List.getElem_cons_zero] at h0
      rw [h0]
      refine fbi_none.2 fun i hi => ?_
      have := h (i + 1) (by simpa using hi)
      rw [show k + (i + 1) = k + 1 + i by omega] at this
      exact this
/-- Windows that lie in the round and do not meet. -/
theorem fbi_w {c : Cfg} : fbi (wbad c) c.parts 0 = none ↔ (∀ p ∈ c.parts, p.start + p.length ≤ c.nodes * c.slot) ∧ c.parts.Pairwise (fun q p => meets p q = false) := by
  rw [fbi_none]
  constructor
  · intro h
    constructor
    · intro p hp
      obtain ⟨i, hi, rfl⟩ := List.getElem_of_mem hp
      have := h i hi
      simp only [wbad, Bool.or_eq_false_iff, decide_eq_false_iff_not] at this
      omega
    · rw [List.pairwise_iff_getElem]
      intro i j hi hj hij
      have := h j hj
      simp only [wbad, Bool.or_eq_false_iff, Nat.zero_add, List.any_eq_false] at this
      have := this.2 c.parts[i] (List.mem_take_iff_getElem.2 ⟨i, by omega, rfl⟩)
      simpa using this
  · rintro ⟨h1, h2⟩ i hi
    rw [List.pairwise_iff_getElem] at h2
    simp only [wbad, Bool.or_eq_false_iff, decide_eq_false_iff_not, Nat.zero_add, List.any_eq_false]
    refine ⟨by have := h1 c.parts[i] (List.getElem_mem hi); omega, fun q hq => ?_⟩
    obtain ⟨j, hj, rfl⟩ := List.mem_take_iff_getElem.1 hq
    simpa using h2 j i (by omega) hi (by omega)
/-- Routes that fit, and lead to ports that no other leads to. -/
theorem fbi_r {c : Cfg} : fbi (rbad c) c.routes 0 = none ↔ (∀ r ∈ c.routes, unfit (c.port r.src) (c.port r.dst) = false) ∧ c.routes.Pairwise (fun q r => (q.dst == r.dst) = false) := by
  rw [fbi_none]
  constructor
  · intro h
    constructor
    · intro p hp
      obtain ⟨i, hi, rfl⟩ := List.getElem_of_mem hp
      have := h i hi
      simp only [rbad, Bool.or_eq_false_iff] at this
      exact this.1
    · rw [List.pairwise_iff_getElem]
      intro i j hi hj hij
      have := h j hj
      simp only [rbad, Bool.or_eq_false_iff, Nat.zero_add, List.any_eq_false] at this
      have := this.2 c.routes[i] (List.mem_take_iff_getElem.2 ⟨i, by omega, rfl⟩)
      simpa using this
  · rintro ⟨h1, h2⟩ i hi
    rw [List.pairwise_iff_getElem] at h2
    simp only [rbad, Bool.or_eq_false_iff, Nat.zero_add, List.any_eq_false]
    refine ⟨h1 _ (List.getElem_mem hi), fun q hq => ?_⟩
    obtain ⟨j, hj, rfl⟩ := List.mem_take_iff_getElem.1 hq
    simpa using h2 j i (by omega) hi (by omega)

def moreA (c : Cfg) (l : List Route) : Cfg := { c with routes := l }
def moreB (c : Cfg) (l : List Part) : Cfg := { c with parts := l, ports := [], routes := [] }
theorem moreA_ok {c : Cfg} (h : sErr c = []) {l : List Route} (hl : l.Sublist c.routes) : sErr (moreA c l) = [] := by
  obtain ⟨g, q1, q2, q3, q4, q5, q6⟩ := sErr_good h
  have hr := fbi_r.1 q6
  obtain ⟨hi, np, nq, nr, gp, gq, gr⟩ := g
  refine good_sErr ⟨⟨hi.n1, hi.n2, hi.f1, hi.f2, hi.s1, hi.s2, hi.g1, hi.g2, hi.r1, hi.r2, hi.x1, hi.x2, hi.d1, hi.d2, hi.m1, hi.m2⟩, np, nq, ?_, gp, gq, ?_⟩ q1 q2 q3 q4 q5 ?_
  · have := hl.length_le
    show l.length ≤ 24
    omega
  · exact fun r hr => gr r (hl.subset hr)
  · exact fbi_r.2 ⟨fun r h => hr.1 r (hl.subset h), hr.2.sublist hl⟩
theorem moreB_ok {c : Cfg} (h : sErr c = []) {l : List Part} (hl : l.Sublist c.parts) : sErr (moreB c l) = [] := by
  obtain ⟨g, q1, q2, q3, q4, q5, q6⟩ := sErr_good h
  have hr := fbi_w.1 q5
  obtain ⟨hi, np, nq, nr, gp, gq, gr⟩ := g
  refine good_sErr ⟨⟨hi.n1, hi.n2, hi.f1, hi.f2, hi.s1, hi.s2, hi.g1, hi.g2, hi.r1, hi.r2, hi.x1, hi.x2, hi.d1, hi.d2, hi.m1, hi.m2⟩, ?_, by simp [moreB], by simp [moreB], ?_, by simp [moreB], by simp [moreB]⟩ q1 q2 q3 q4 ?_ rfl
  · have := hl.length_le
    show l.length ≤ 12
    omega
  · exact fun r hr => gp r (hl.subset hr)
  · exact fbi_w.2 ⟨fun r h => hr.1 r (hl.subset h), hr.2.sublist hl⟩
theorem u64_id {m : Nat} (h : m ≤ 100000) : IntKind.u64.wrap (m : Int) = m := wrapu64_id (by omega) (by omega)
theorem remU (x : Int) (m : Nat) (h0 : 0 < m) (h : m ≤ 100000) : ∃ k : Nat, k < m ∧ aint .rem .u64 .u64 (IntKind.u64.wrap x) (IntKind.u64.wrap (m : Int)) = some (.int .u64 (k : Int)) := by
  have hx : 0 ≤ IntKind.u64.wrap x := by
    unfold IntKind.wrap
    simp only [IntKind.bits, IntKind.signed]
    simp; omega
  refine ⟨(IntKind.u64.wrap x % (m : Int)).toNat, ?_, ?_⟩
  · have := Int.emod_lt_of_pos (IntKind.u64.wrap x) (show (0 : Int) < m by omega)
    have := Int.emod_nonneg (IntKind.u64.wrap x) (show (m : Int) ≠ 0 by omega)
    omega
  · have := Int.emod_nonneg (IntKind.u64.wrap x) (show (m : Int) ≠ 0 by omega)
    rw [u64_id h]
    simp only [aint, if_true]
    rw [if_neg (by omega), Int.tmod_eq_emod_of_nonneg hx]
    congr 2
    omega
/-- Without one element. -/
def without {α : Type} (l : List α) (k : Nat) : List α := l.take k ++ l.drop (k + 1)
theorem without_sub {α : Type} (l : List α) (k : Nat) : (without l k).Sublist l := by
  unfold without
  conv => rhs; rw [← List.take_append_drop k l]
  refine List.Sublist.append (List.Sublist.refl _) ?_
  rw [← List.drop_drop]
  exact List.drop_sublist _ _
theorem own_sl {α : Type} {o sz : Nat} {t : AHeap} {enc : α → List AV} {l : List α} {x : AV} (h : Own o t sz enc l x) {H : AHeap} (p w : AHeap) (hp : p.length = o) (e : H = p ++ (t ++ w)) : Sl H sz enc l x := by
  subst e
  exact h.sl p w hp
theorem more3 (c : Cfg) (hf : c.few) (hs : sErr c = []) (n : Int) (H S A T S2 B R W : AHeap) (p1 q1 yr p2 q2 r2 : AV) (la : List Route) (hla : la.Sublist c.routes)
    (ha : ∀ E B' W', B'.length = B.length → Lists (H ++ some (.cells false ((moreA c la).cells p1 q1 yr)) :: E :: (S ++ (A ++ (T ++ (S2 ++ (B' ++ (R ++ (W ++ W')))))))) (moreA c la) p1 q1 yr)
    (hp2 : Own (H.length + 2 + S.length + A.length + T.length + S2.length) B 9 Part.cells c.parts p2) :
    Ev (J6_3 n H.length (H.length + 1) (H ++ some (.cells false ((moreA c la).cells p1 q1 yr)) :: some (.cells false (c.cells p2 q2 r2)) :: (S ++ (A ++ (T ++ (S2 ++ (B ++ (R ++ W)))))))) H fun v _ => v = .bool true := by
  obtain ⟨f1, f2, f3⟩ := id hf
  have i2 := hp2.isc
  have fin : ∀ (lb : List Part) (yp : AV) (B' W' : AHeap), lb.Sublist c.parts → B'.length = B.length →
      Sl (H ++ some (.cells false ((moreA c la).cells p1 q1 yr)) :: some (.cells false (c.cells yp .nilsl .nilsl)) :: (S ++ (A ++ (T ++ (S2 ++ (B' ++ (R ++ (W ++ W')))))))) 9 Part.cells lb yp →
      Ev (J6_4 H.length (H.length + 1) (H ++ some (.cells false ((moreA c la).cells p1 q1 yr)) :: some (.cells false (c.cells yp .nilsl .nilsl)) :: (S ++ (A ++ (T ++ (S2 ++ (B' ++ (R ++ (W ++ W')))))))) ) H fun v _ => v = .bool true := by
    intro lb yp B' W' hlb hB hyp
    rw [J6_4_eq]
    simp (dsimp := false) (implicitDefEqProofs := false) (disch := omega) only [gv_some, gr_some, gI_int, gB_bool, gS_str, gc_t, gc_f, gi_t, gi_f, gN_eq, gf_t, Option.bind_some, Option.bind_none, Option.map_some, acells_agg, acells_int, acells_bool, acells_str, acells_ptr, acells_sl, acells_nilsl, acells_nilptr, acells_iface, acells_niliface, aptr_ptr, anil_ptr, aextract_0, aextract_1, aextract_2, alenS_sl, alenS_nil, apartOf_agg, apart_t, apart_f, astore_ptr, hset_at0, hset_at, List.set_cons_zero, List.set_cons_succ, set_app, set_app0, aload_ptr, splice_eq, List.drop_nil, List.append_nil, isCell_int, isCell_bool, isCell_str, isCell_ptr, isCell_sl, isCell_nilsl, isCell_nilptr, isCell_iface, isCell_niliface, List.all_cons, List.all_nil, Bool.and_self, hget_at0, hget_at, len_app, List.length_cons, List.length_nil, get_app, get_app0, List.getElem?_cons_zero, List.getElem?_cons_succ, join_some, List.append_assoc, List.cons_append, List.nil_append, Nat.zero_add, Nat.add_zero, chkRd_eq, chkAl_blk, if_true, if_false, Bool.false_eq_true, List.drop_succ_cons, List.drop_zero, List.take_succ_cons, List.take_zero, Bool.and_true, Bool.true_and, decide_true, decide_false, wrap64_id, aixG_eq, Nat.reduceAdd, Nat.reduceSub, Nat.reduceMul, Nat.reduceLeDiff, Nat.reduceLT, Int.reduceAdd, Int.reduceSub, Int.reduceMul, Int.reduceNeg, Int.reduceLT, Int.reduceLE, Int.reduceGT, Int.reduceGE, Int.reduceToNat, ↓reduceIte, and_self, true_and, and_true, Cfg.g0, Cfg.g1, Cfg.g2, Cfg.g3, Cfg.g4, Cfg.g5, Cfg.g6, Cfg.g7, Cfg.g8, Cfg.g9, Cfg.g10, Cfg.len, Cfg.take, Cfg.drop, Cfg.s8, Cfg.s9, Cfg.s10, Cfg.s7, Cfg.zero, Nat.le_refl]
    refine Ev.call (c_scheck (moreA c la) ⟨f1, f2, by have := hla.length_le; show la.length ≤ 1000; omega⟩ _ _ ⟨_, _, _, rfl, ha _ B' W' hB⟩) fun v g hv => ?_
    rw [moreA_ok hs hla] at hv
    cases hv
    simp (dsimp := false) (implicitDefEqProofs := false) (disch := omega) only [gv_some, gr_some, gI_int, gB_bool, gS_str, gc_t, gc_f, gi_t, gi_f, gN_eq, gf_t, Option.bind_some, Option.bind_none, Option.map_some, acells_agg, acells_int, acells_bool, acells_str, acells_ptr, acells_sl, acells_nilsl, acells_nilptr, acells_iface, acells_niliface, aptr_ptr, anil_ptr, aextract_0, aextract_1, aextract_2, alenS_sl, alenS_nil, apartOf_agg, apart_t, apart_f, astore_ptr, hset_at0, hset_at, List.set_cons_zero, List.set_cons_succ, set_app, set_app0, aload_ptr, splice_eq, List.drop_nil, List.append_nil, isCell_int, isCell_bool, isCell_str, isCell_ptr, isCell_sl, isCell_nilsl, isCell_nilptr, isCell_iface, isCell_niliface, List.all_cons, List.all_nil, Bool.and_self, hget_at0, hget_at, len_app, List.length_cons, List.length_nil, get_app, get_app0, List.getElem?_cons_zero, List.getElem?_cons_succ, join_some, List.append_assoc, List.cons_append, List.nil_append, Nat.zero_add, Nat.add_zero, chkRd_eq, chkAl_blk, if_true, if_false, Bool.false_eq_true, List.drop_succ_cons, List.drop_zero, List.take_succ_cons, List.take_zero, Bool.and_true, Bool.true_and, decide_true, decide_false, wrap64_id, aixG_eq, Nat.reduceAdd, Nat.reduceSub, Nat.reduceMul, Nat.reduceLeDiff, Nat.reduceLT, Int.reduceAdd, Int.reduceSub, Int.reduceMul, Int.reduceNeg, Int.reduceLT, Int.reduceLE, Int.reduceGT, Int.reduceGE, Int.reduceToNat, ↓reduceIte, and_self, true_and, and_true, err_eq_nil, Cfg.g0, Cfg.g1, Cfg.g2, Cfg.g3, Cfg.g4, Cfg.g5, Cfg.g6, Cfg.g7, Cfg.g8, Cfg.g9, Cfg.g10, Cfg.len, Cfg.take, Cfg.drop, Cfg.s8, Cfg.s9, Cfg.s10, Cfg.s7, Cfg.zero, Nat.le_refl]
    refine Ev.call (c_scheck (moreB c lb) ⟨by have := hlb.length_le; show lb.length ≤ 1000; omega, by simp [moreB], by simp [moreB]⟩ _ _ ⟨yp, .nilsl, .nilsl, rfl, ⟨?_, .inl ⟨rfl, rfl⟩, .inl ⟨rfl, rfl⟩⟩⟩) fun v g2 hv => ?_
    · have := hyp.app g
      try simp only [List.append_assoc, List.cons_append, List.nil_append] at this
      exact this
    rw [moreB_ok hs hlb] at hv
    cases hv
    simp (dsimp := false) (implicitDefEqProofs := false) (disch := omega) only [gv_some, gr_some, gI_int, gB_bool, gS_str, gc_t, gc_f, gi_t, gi_f, gN_eq, gf_t, Option.bind_some, Option.bind_none, Option.map_some, acells_agg, acells_int, acells_bool, acells_str, acells_ptr, acells_sl, acells_nilsl, acells_nilptr, acells_iface, acells_niliface, aptr_ptr, anil_ptr, aextract_0, aextract_1, aextract_2, alenS_sl, alenS_nil, apartOf_agg, apart_t, apart_f, astore_ptr, hset_at0, hset_at, List.set_cons_zero, List.set_cons_succ, set_app, set_app0, aload_ptr, splice_eq, List.drop_nil, List.append_nil, isCell_int, isCell_bool, isCell_str, isCell_ptr, isCell_sl, isCell_nilsl, isCell_nilptr, isCell_iface, isCell_niliface, List.all_cons, List.all_nil, Bool.and_self, hget_at0, hget_at, len_app, List.length_cons, List.length_nil, get_app, get_app0, List.getElem?_cons_zero, List.getElem?_cons_succ, join_some, List.append_assoc, List.cons_append, List.nil_append, Nat.zero_add, Nat.add_zero, chkRd_eq, chkAl_blk, if_true, if_false, Bool.false_eq_true, List.drop_succ_cons, List.drop_zero, List.take_succ_cons, List.take_zero, Bool.and_true, Bool.true_and, decide_true, decide_false, wrap64_id, aixG_eq, Nat.reduceAdd, Nat.reduceSub, Nat.reduceMul, Nat.reduceLeDiff, Nat.reduceLT, Int.reduceAdd, Int.reduceSub, Int.reduceMul, Int.reduceNeg, Int.reduceLT, Int.reduceLE, Int.reduceGT, Int.reduceGE, Int.reduceToNat, ↓reduceIte, and_self, true_and, and_true, err_eq_nil]
    exact Ev.done rfl
  rw [J6_3_eq]
  simp (dsimp := false) (implicitDefEqProofs := false) (disch := omega) only [gv_some, gr_some, gI_int, gB_bool, gS_str, gc_t, gc_f, gi_t, gi_f, gN_eq, gf_t, Option.bind_some, Option.bind_none, Option.map_some, acells_agg, acells_int, acells_bool, acells_str, acells_ptr, acells_sl, acells_nilsl, acells_nilptr, acells_iface, acells_niliface, aptr_ptr, anil_ptr, aextract_0, aextract_1, aextract_2, alenS_sl, alenS_nil, apartOf_agg, apart_t, apart_f, astore_ptr, hset_at0, hset_at, List.set_cons_zero, List.set_cons_succ, set_app, set_app0, aload_ptr, splice_eq, List.drop_nil, List.append_nil, isCell_int, isCell_bool, isCell_str, isCell_ptr, isCell_sl, isCell_nilsl, isCell_nilptr, isCell_iface, isCell_niliface, List.all_cons, List.all_nil, Bool.and_self, hget_at0, hget_at, len_app, List.length_cons, List.length_nil, get_app, get_app0, List.getElem?_cons_zero, List.getElem?_cons_succ, join_some, List.append_assoc, List.cons_append, List.nil_append, Nat.zero_add, Nat.add_zero, chkRd_eq, chkAl_blk, if_true, if_false, Bool.false_eq_true, List.drop_succ_cons, List.drop_zero, List.take_succ_cons, List.take_zero, Bool.and_true, Bool.true_and, decide_true, decide_false, wrap64_id, aixG_eq, Nat.reduceAdd, Nat.reduceSub, Nat.reduceMul, Nat.reduceLeDiff, Nat.reduceLT, Int.reduceAdd, Int.reduceSub, Int.reduceMul, Int.reduceNeg, Int.reduceLT, Int.reduceLE, Int.reduceGT, Int.reduceGE, Int.reduceToNat, ↓reduceIte, and_self, true_and, and_true, Cfg.g0, Cfg.g1, Cfg.g2, Cfg.g3, Cfg.g4, Cfg.g5, Cfg.g6, Cfg.g7, Cfg.g8, Cfg.g9, Cfg.g10, Cfg.len, Cfg.take, Cfg.drop, Cfg.s8, Cfg.s9, Cfg.s10, Cfg.s7, Cfg.zero, Nat.le_refl, hp2.len]
  refine Ev.cdd (fun h0 => ?_) fun h0 => ?_
  · obtain ⟨k, hk, ek⟩ := remU n c.parts.length (by omega) (by omega)
    refine Ev.val ek ?_
    simp (dsimp := false) (implicitDefEqProofs := false) (disch := omega) only [gv_some, gr_some, gI_int, gB_bool, gS_str, gc_t, gc_f, gi_t, gi_f, gN_eq, gf_t, Option.bind_some, Option.bind_none, Option.map_some, acells_agg, acells_int, acells_bool, acells_str, acells_ptr, acells_sl, acells_nilsl, acells_nilptr, acells_iface, acells_niliface, aptr_ptr, anil_ptr, aextract_0, aextract_1, aextract_2, alenS_sl, alenS_nil, apartOf_agg, apart_t, apart_f, astore_ptr, hset_at0, hset_at, List.set_cons_zero, List.set_cons_succ, set_app, set_app0, aload_ptr, splice_eq, List.drop_nil, List.append_nil, isCell_int, isCell_bool, isCell_str, isCell_ptr, isCell_sl, isCell_nilsl, isCell_nilptr, isCell_iface, isCell_niliface, List.all_cons, List.all_nil, Bool.and_self, hget_at0, hget_at, len_app, List.length_cons, List.length_nil, get_app, get_app0, List.getElem?_cons_zero, List.getElem?_cons_succ, join_some, List.append_assoc, List.cons_append, List.nil_append, Nat.zero_add, Nat.add_zero, chkRd_eq, chkAl_blk, if_true, if_false, Bool.false_eq_true, List.drop_succ_cons, List.drop_zero, List.take_succ_cons, List.take_zero, Bool.and_true, Bool.true_and, decide_true, decide_false, wrap64_id, aixG_eq, Nat.reduceAdd, Nat.reduceSub, Nat.reduceMul, Nat.reduceLeDiff, Nat.reduceLT, Int.reduceAdd, Int.reduceSub, Int.reduceMul, Int.reduceNeg, Int.reduceLT, Int.reduceLE, Int.reduceGT, Int.reduceGE, Int.reduceToNat, ↓reduceIte, and_self, true_and, and_true, Cfg.g0, Cfg.g1, Cfg.g2, Cfg.g3, Cfg.g4, Cfg.g5, Cfg.g6, Cfg.g7, Cfg.g8, Cfg.g9, Cfg.g10, Cfg.len, Cfg.take, Cfg.drop, Cfg.s8, Cfg.s9, Cfg.s10, Cfg.s7, Cfg.zero, Nat.le_refl]
    obtain ⟨y, ey, oy⟩ := hp2.take .i64 k (by omega)
    refine Ev.val ey ?_
    simp (dsimp := false) (implicitDefEqProofs := false) (disch := omega) only [gv_some, gr_some, gI_int, gB_bool, gS_str, gc_t, gc_f, gi_t, gi_f, gN_eq, gf_t, Option.bind_some, Option.bind_none, Option.map_some, acells_agg, acells_int, acells_bool, acells_str, acells_ptr, acells_sl, acells_nilsl, acells_nilptr, acells_iface, acells_niliface, aptr_ptr, anil_ptr, aextract_0, aextract_1, aextract_2, alenS_sl, alenS_nil, apartOf_agg, apart_t, apart_f, astore_ptr, hset_at0, hset_at, List.set_cons_zero, List.set_cons_succ, set_app, set_app0, aload_ptr, splice_eq, List.drop_nil, List.append_nil, isCell_int, isCell_bool, isCell_str, isCell_ptr, isCell_sl, isCell_nilsl, isCell_nilptr, isCell_iface, isCell_niliface, List.all_cons, List.all_nil, Bool.and_self, hget_at0, hget_at, len_app, List.length_cons, List.length_nil, get_app, get_app0, List.getElem?_cons_zero, List.getElem?_cons_succ, join_some, List.append_assoc, List.cons_append, List.nil_append, Nat.zero_add, Nat.add_zero, chkRd_eq, chkAl_blk, if_true, if_false, Bool.false_eq_true, List.drop_succ_cons, List.drop_zero, List.take_succ_cons, List.take_zero, Bool.and_true, Bool.true_and, decide_true, decide_false, wrap64_id, aixG_eq, Nat.reduceAdd, Nat.reduceSub, Nat.reduceMul, Nat.reduceLeDiff, Nat.reduceLT, Int.reduceAdd, Int.reduceSub, Int.reduceMul, Int.reduceNeg, Int.reduceLT, Int.reduceLE, Int.reduceGT, Int.reduceGE, Int.reduceToNat, ↓reduceIte, and_self, true_and, and_true, Cfg.g0, Cfg.g1, Cfg.g2, Cfg.g3, Cfg.g4, Cfg.g5, Cfg.g6, Cfg.g7, Cfg.g8, Cfg.g9, Cfg.g10, Cfg.len, Cfg.take, Cfg.drop, Cfg.s8, Cfg.s9, Cfg.s10, Cfg.s7, Cfg.zero, Nat.le_refl]
    have sl := own_sl hp2 (H := H ++ some (.cells false ((moreA c la).cells p1 q1 yr)) :: some (.cells false (c.cells p2 .nilsl .nilsl)) :: (S ++ (A ++ (T ++ (S2 ++ (B ++ (R ++ W))))))) (H ++ some (.cells false ((moreA c la).cells p1 q1 yr)) :: some (.cells false (c.cells p2 .nilsl .nilsl)) :: (S ++ (A ++ (T ++ S2)))) (R ++ W) (by simp; omega) (by simp)
    obtain ⟨z, ez, oz⟩ := sl.drop Part.len .i64 (k + 1) (by omega)
    refine Ev.val ez ?_
    simp (dsimp := false) (implicitDefEqProofs := false) (disch := omega) only [gv_some, gr_some, gI_int, gB_bool, gS_str, gc_t, gc_f, gi_t, gi_f, gN_eq, gf_t, Option.bind_some, Option.bind_none, Option.map_some, acells_agg, acells_int, acells_bool, acells_str, acells_ptr, acells_sl, acells_nilsl, acells_nilptr, acells_iface, acells_niliface, aptr_ptr, anil_ptr, aextract_0, aextract_1, aextract_2, alenS_sl, alenS_nil, apartOf_agg, apart_t, apart_f, astore_ptr, hset_at0, hset_at, List.set_cons_zero, List.set_cons_succ, set_app, set_app0, aload_ptr, splice_eq, List.drop_nil, List.append_nil, isCell_int, isCell_bool, isCell_str, isCell_ptr, isCell_sl, isCell_nilsl, isCell_nilptr, isCell_iface, isCell_niliface, List.all_cons, List.all_nil, Bool.and_self, hget_at0, hget_at, len_app, List.length_cons, List.length_nil, get_app, get_app0, List.getElem?_cons_zero, List.getElem?_cons_succ, join_some, List.append_assoc, List.cons_append, List.nil_append, Nat.zero_add, Nat.add_zero, chkRd_eq, chkAl_blk, if_true, if_false, Bool.false_eq_true, List.drop_succ_cons, List.drop_zero, List.take_succ_cons, List.take_zero, Bool.and_true, Bool.true_and, decide_true, decide_false, wrap64_id, aixG_eq, Nat.reduceAdd, Nat.reduceSub, Nat.reduceMul, Nat.reduceLeDiff, Nat.reduceLT, Int.reduceAdd, Int.reduceSub, Int.reduceMul, Int.reduceNeg, Int.reduceLT, Int.reduceLE, Int.reduceGT, Int.reduceGE, Int.reduceToNat, ↓reduceIte, and_self, true_and, and_true, Cfg.g0, Cfg.g1, Cfg.g2, Cfg.g3, Cfg.g4, Cfg.g5, Cfg.g6, Cfg.g7, Cfg.g8, Cfg.g9, Cfg.g10, Cfg.len, Cfg.take, Cfg.drop, Cfg.s8, Cfg.s9, Cfg.s10, Cfg.s7, Cfg.zero, Nat.le_refl, oz.lenOf, oz.src Part.len]
    obtain ⟨y2, B', W', ea, hB, ow⟩ := aapp_own (by' := 48) (p := H ++ some (.cells false ((moreA c la).cells p1 q1 yr)) :: some (.cells false (c.cells p2 .nilsl .nilsl)) :: (S ++ (A ++ (T ++ S2)))) (u := R ++ W) (l2 := c.parts.drop (k + 1)) Part.len Part.isc oy (by simp; omega) (by simp; omega)
    try simp only [List.append_assoc, List.cons_append, List.nil_append] at ea
    have i3 : isCell y2 = true := by rcases ow with ⟨_, o⟩ | o <;> exact o.isc
    simp (dsimp := false) (implicitDefEqProofs := false) (disch := omega) only [gv_some, gr_some, gI_int, gB_bool, gS_str, gc_t, gc_f, gi_t, gi_f, gN_eq, gf_t, Option.bind_some, Option.bind_none, Option.map_some, acells_agg, acells_int, acells_bool, acells_str, acells_ptr, acells_sl, acells_nilsl, acells_nilptr, acells_iface, acells_niliface, aptr_ptr, anil_ptr, aextract_0, aextract_1, aextract_2, alenS_sl, alenS_nil, apartOf_agg, apart_t, apart_f, astore_ptr, hset_at0, hset_at, List.set_cons_zero, List.set_cons_succ, set_app, set_app0, aload_ptr, splice_eq, List.drop_nil, List.append_nil, isCell_int, isCell_bool, isCell_str, isCell_ptr, isCell_sl, isCell_nilsl, isCell_nilptr, isCell_iface, isCell_niliface, List.all_cons, List.all_nil, Bool.and_self, hget_at0, hget_at, len_app, List.length_cons, List.length_nil, get_app, get_app0, List.getElem?_cons_zero, List.getElem?_cons_succ, join_some, List.append_assoc, List.cons_append, List.nil_append, Nat.zero_add, Nat.add_zero, chkRd_eq, chkAl_blk, if_true, if_false, Bool.false_eq_true, List.drop_succ_cons, List.drop_zero, List.take_succ_cons, List.take_zero, Bool.and_true, Bool.true_and, decide_true, decide_false, wrap64_id, aixG_eq, Nat.reduceAdd, Nat.reduceSub, Nat.reduceMul, Nat.reduceLeDiff, Nat.reduceLT, Int.reduceAdd, Int.reduceSub, Int.reduceMul, Int.reduceNeg, Int.reduceLT, Int.reduceLE, Int.reduceGT, Int.reduceGE, Int.reduceToNat, ↓reduceIte, and_self, true_and, and_true, Cfg.g0, Cfg.g1, Cfg.g2, Cfg.g3, Cfg.g4, Cfg.g5, Cfg.g6, Cfg.g7, Cfg.g8, Cfg.g9, Cfg.g10, Cfg.len, Cfg.take, Cfg.drop, Cfg.s8, Cfg.s9, Cfg.s10, Cfg.s7, Cfg.zero, Nat.le_refl, ea, i3]
    refine fin (without c.parts k) y2 B' W' (without_sub _ _) hB ?_
    rcases ow with ⟨rfl, o⟩ | o
    · exact own_sl o (H ++ some (.cells false ((moreA c la).cells p1 q1 yr)) :: some (.cells false (c.cells y2 .nilsl .nilsl)) :: (S ++ (A ++ (T ++ S2)))) (R ++ (W ++ [])) (by simp; omega) (by simp)
    · exact own_sl o (H ++ some (.cells false ((moreA c la).cells p1 q1 yr)) :: some (.cells false (c.cells y2 .nilsl .nilsl)) :: (S ++ (A ++ (T ++ (S2 ++ (B' ++ (R ++ W))))))) [] (by simp; omega) (by simp)
  · have := fin c.parts p2 B [] (List.Sublist.refl _) rfl (own_sl hp2 (H ++ some (.cells false ((moreA c la).cells p1 q1 yr)) :: some (.cells false (c.cells p2 .nilsl .nilsl)) :: (S ++ (A ++ (T ++ S2)))) (R ++ (W ++ [])) (by simp; omega) (by simp))
    rw [List.append_nil] at this
    exact this
theorem more2 (c : Cfg) (hf : c.few) (hs : sErr c = []) (n : Int) (H : AHeap) (x2 : Nat) (p q r : AV) (hb : hget H x2 = some (.cells false (c.cells p q r))) (hl : Lists H c p q r) :
    Ev (J6_2 n x2 H) H fun v _ => v = .bool true := by
  obtain ⟨f1, f2, f3⟩ := id hf
  have hc0 : CfgV H c (.agg (c.cells p q r)) := ⟨p, q, r, rfl, hl⟩
  have hb' := fun g => hget_app (g := g) hb
  rw [J6_2_eq]
  simp (dsimp := false) (implicitDefEqProofs := false) (disch := omega) only [gv_some, gr_some, gI_int, gB_bool, gS_str, gc_t, gc_f, gi_t, gi_f, gN_eq, gf_t, Option.bind_some, Option.bind_none, Option.map_some, acells_agg, acells_int, acells_bool, acells_str, acells_ptr, acells_sl, acells_nilsl, acells_nilptr, acells_iface, acells_niliface, aptr_ptr, anil_ptr, aextract_0, aextract_1, aextract_2, alenS_sl, alenS_nil, apartOf_agg, apart_t, apart_f, astore_ptr, hset_at0, hset_at, List.set_cons_zero, List.set_cons_succ, set_app, set_app0, aload_ptr, splice_eq, List.drop_nil, List.append_nil, isCell_int, isCell_bool, isCell_str, isCell_ptr, isCell_sl, isCell_nilsl, isCell_nilptr, isCell_iface, isCell_niliface, List.all_cons, List.all_nil, Bool.and_self, hget_at0, hget_at, len_app, List.length_cons, List.length_nil, get_app, get_app0, List.getElem?_cons_zero, List.getElem?_cons_succ, join_some, List.append_assoc, List.cons_append, List.nil_append, Nat.zero_add, Nat.add_zero, chkRd_eq, chkAl_blk, if_true, if_false, Bool.false_eq_true, List.drop_succ_cons, List.drop_zero, List.take_succ_cons, List.take_zero, Bool.and_true, Bool.true_and, decide_true, decide_false, wrap64_id, aixG_eq, Nat.reduceAdd, Nat.reduceSub, Nat.reduceMul, Nat.reduceLeDiff, Nat.reduceLT, Int.reduceAdd, Int.reduceSub, Int.reduceMul, Int.reduceNeg, Int.reduceLT, Int.reduceLE, Int.reduceGT, Int.reduceGE, Int.reduceToNat, ↓reduceIte, and_self, true_and, and_true, Cfg.g0, Cfg.g1, Cfg.g2, Cfg.g3, Cfg.g4, Cfg.g5, Cfg.g6, Cfg.g7, Cfg.g8, Cfg.g9, Cfg.g10, Cfg.len, Cfg.take, Cfg.drop, Cfg.s8, Cfg.s9, Cfg.s10, Cfg.s7, Cfg.zero, Nat.le_refl, hb, hb']
  refine Ev.call (c_copied2 c hf _ _ (hc0.app _)) fun v gc1 hv => ?_
  obtain ⟨p1, q1, r1, s1, a1, a2, a3, rfl, eh, w1, w2, w3⟩ := hv
  have il := Cfg.all (c := c) w1.isc w2.isc w3.isc
  rw [eh]
  simp (dsimp := false) (implicitDefEqProofs := false) (disch := omega) only [gv_some, gr_some, gI_int, gB_bool, gS_str, gc_t, gc_f, gi_t, gi_f, gN_eq, gf_t, Option.bind_some, Option.bind_none, Option.map_some, acells_agg, acells_int, acells_bool, acells_str, acells_ptr, acells_sl, acells_nilsl, acells_nilptr, acells_iface, acells_niliface, aptr_ptr, anil_ptr, aextract_0, aextract_1, aextract_2, alenS_sl, alenS_nil, apartOf_agg, apart_t, apart_f, astore_ptr, hset_at0, hset_at, List.set_cons_zero, List.set_cons_succ, set_app, set_app0, aload_ptr, splice_eq, List.drop_nil, List.append_nil, isCell_int, isCell_bool, isCell_str, isCell_ptr, isCell_sl, isCell_nilsl, isCell_nilptr, isCell_iface, isCell_niliface, List.all_cons, List.all_nil, Bool.and_self, hget_at0, hget_at, len_app, List.length_cons, List.length_nil, get_app, get_app0, List.getElem?_cons_zero, List.getElem?_cons_succ, join_some, List.append_assoc, List.cons_append, List.nil_append, Nat.zero_add, Nat.add_zero, chkRd_eq, chkAl_blk, if_true, if_false, Bool.false_eq_true, List.drop_succ_cons, List.drop_zero, List.take_succ_cons, List.take_zero, Bool.and_true, Bool.true_and, decide_true, decide_false, wrap64_id, aixG_eq, Nat.reduceAdd, Nat.reduceSub, Nat.reduceMul, Nat.reduceLeDiff, Nat.reduceLT, Int.reduceAdd, Int.reduceSub, Int.reduceMul, Int.reduceNeg, Int.reduceLT, Int.reduceLE, Int.reduceGT, Int.reduceGE, Int.reduceToNat, ↓reduceIte, and_self, true_and, and_true, Cfg.g0, Cfg.g1, Cfg.g2, Cfg.g3, Cfg.g4, Cfg.g5, Cfg.g6, Cfg.g7, Cfg.g8, Cfg.g9, Cfg.g10, Cfg.len, Cfg.take, Cfg.drop, Cfg.s8, Cfg.s9, Cfg.s10, Cfg.s7, Cfg.zero, Nat.le_refl, il, hb']
  refine Ev.call (c_copied2 c hf _ _ (hc0.app _)) fun v gc2 hv => ?_
  obtain ⟨p2, q2, r2, s2, b1, b2, b3, rfl, eh2, v1, v2, v3⟩ := hv
  have il2 := Cfg.all (c := c) v1.isc v2.isc v3.isc
  rw [eh2]
  clear eh eh2
  simp only [List.length_append, List.length_cons, List.length_nil] at w1 w2 w3 v1 v2 v3
  simp (dsimp := false) (implicitDefEqProofs := false) (disch := omega) only [gv_some, gr_some, gI_int, gB_bool, gS_str, gc_t, gc_f, gi_t, gi_f, gN_eq, gf_t, Option.bind_some, Option.bind_none, Option.map_some, acells_agg, acells_int, acells_bool, acells_str, acells_ptr, acells_sl, acells_nilsl, acells_nilptr, acells_iface, acells_niliface, aptr_ptr, anil_ptr, aextract_0, aextract_1, aextract_2, alenS_sl, alenS_nil, apartOf_agg, apart_t, apart_f, astore_ptr, hset_at0, hset_at, List.set_cons_zero, List.set_cons_succ, set_app, set_app0, aload_ptr, splice_eq, List.drop_nil, List.append_nil, isCell_int, isCell_bool, isCell_str, isCell_ptr, isCell_sl, isCell_nilsl, isCell_nilptr, isCell_iface, isCell_niliface, List.all_cons, List.all_nil, Bool.and_self, hget_at0, hget_at, len_app, List.length_cons, List.length_nil, get_app, get_app0, List.getElem?_cons_zero, List.getElem?_cons_succ, join_some, List.append_assoc, List.cons_append, List.nil_append, Nat.zero_add, Nat.add_zero, chkRd_eq, chkAl_blk, if_true, if_false, Bool.false_eq_true, List.drop_succ_cons, List.drop_zero, List.take_succ_cons, List.take_zero, Bool.and_true, Bool.true_and, decide_true, decide_false, wrap64_id, aixG_eq, Nat.reduceAdd, Nat.reduceSub, Nat.reduceMul, Nat.reduceLeDiff, Nat.reduceLT, Int.reduceAdd, Int.reduceSub, Int.reduceMul, Int.reduceNeg, Int.reduceLT, Int.reduceLE, Int.reduceGT, Int.reduceGE, Int.reduceToNat, ↓reduceIte, and_self, true_and, and_true, Cfg.g0, Cfg.g1, Cfg.g2, Cfg.g3, Cfg.g4, Cfg.g5, Cfg.g6, Cfg.g7, Cfg.g8, Cfg.g9, Cfg.g10, Cfg.len, Cfg.take, Cfg.drop, Cfg.s8, Cfg.s9, Cfg.s10, Cfg.s7, Cfg.zero, Nat.le_refl, il, il2, w3.len]
  have go : ∀ (la : List Route) (yr : AV) (T W : AHeap), la.Sublist c.routes → T.length = a3.length →
      (∀ D E B' W', B'.length = b1.length → Sl (H ++ D :: E :: (s1 ++ (a1 ++ (a2 ++ (T ++ (s2 ++ (B' ++ (b2 ++ (b3 ++ (W ++ W')))))))))) 2 Route.cells la yr) →
      Ev (J6_3 n H.length (H.length + 1) (H ++ some (.cells false (c.cells p1 q1 yr)) :: some (.cells false (c.cells p2 q2 r2)) :: (s1 ++ (a1 ++ (a2 ++ (T ++ (s2 ++ (b1 ++ (b2 ++ (b3 ++ W)))))))))) H fun v _ => v = .bool true := by
    intro la yr T W hla hT hyr
    have := more3 c hf hs n H s1 (a1 ++ a2) T s2 b1 (b2 ++ b3) W p1 q1 yr p2 q2 r2 la hla (fun E B' W' hB => ⟨?_, ?_, ?_⟩) (by
      simp only [List.length_append, hT]
      rw [show H.length + 2 + s1.length + (a1.length + a2.length) + a3.length + s2.length = H.length + (s1.length + (a1.length + (a2.length + a3.length)) + 1 + 1) + s2.length by omega]
      exact v1)
    · have em : ∀ a b d, (moreA c la).cells a b d = c.cells a b d := fun _ _ _ => rfl
      simpa [em] using this
    · exact own_sl w1 (H ++ some (.cells false ((moreA c la).cells p1 q1 yr)) :: E :: s1) (a2 ++ (T ++ (s2 ++ (B' ++ (b2 ++ b3 ++ (W ++ W')))))) (by simp; omega) (by simp)
    · exact own_sl w2 (H ++ some (.cells false ((moreA c la).cells p1 q1 yr)) :: E :: (s1 ++ a1)) (T ++ (s2 ++ (B' ++ (b2 ++ b3 ++ (W ++ W'))))) (by simp; omega) (by simp)
    · have := hyr (some (.cells false ((moreA c la).cells p1 q1 yr))) E B' W' hB
      show Sl _ 2 Route.cells la yr
      simpa using this
  refine Ev.cdd (fun h0 => ?_) fun h0 => ?_
  · obtain ⟨k, hk, ek⟩ := remU n c.routes.length (by omega) (by omega)
    refine Ev.val ek ?_
    simp (dsimp := false) (implicitDefEqProofs := false) (disch := omega) only [gv_some, gr_some, gI_int, gB_bool, gS_str, gc_t, gc_f, gi_t, gi_f, gN_eq, gf_t, Option.bind_some, Option.bind_none, Option.map_some, acells_agg, acells_int, acells_bool, acells_str, acells_ptr, acells_sl, acells_nilsl, acells_nilptr, acells_iface, acells_niliface, aptr_ptr, anil_ptr, aextract_0, aextract_1, aextract_2, alenS_sl, alenS_nil, apartOf_agg, apart_t, apart_f, astore_ptr, hset_at0, hset_at, List.set_cons_zero, List.set_cons_succ, set_app, set_app0, aload_ptr, splice_eq, List.drop_nil, List.append_nil, isCell_int, isCell_bool, isCell_str, isCell_ptr, isCell_sl, isCell_nilsl, isCell_nilptr, isCell_iface, isCell_niliface, List.all_cons, List.all_nil, Bool.and_self, hget_at0, hget_at, len_app, List.length_cons, List.length_nil, get_app, get_app0, List.getElem?_cons_zero, List.getElem?_cons_succ, join_some, List.append_assoc, List.cons_append, List.nil_append, Nat.zero_add, Nat.add_zero, chkRd_eq, chkAl_blk, if_true, if_false, Bool.false_eq_true, List.drop_succ_cons, List.drop_zero, List.take_succ_cons, List.take_zero, Bool.and_true, Bool.true_and, decide_true, decide_false, wrap64_id, aixG_eq, Nat.reduceAdd, Nat.reduceSub, Nat.reduceMul, Nat.reduceLeDiff, Nat.reduceLT, Int.reduceAdd, Int.reduceSub, Int.reduceMul, Int.reduceNeg, Int.reduceLT, Int.reduceLE, Int.reduceGT, Int.reduceGE, Int.reduceToNat, ↓reduceIte, and_self, true_and, and_true, Cfg.g0, Cfg.g1, Cfg.g2, Cfg.g3, Cfg.g4, Cfg.g5, Cfg.g6, Cfg.g7, Cfg.g8, Cfg.g9, Cfg.g10, Cfg.len, Cfg.take, Cfg.drop, Cfg.s8, Cfg.s9, Cfg.s10, Cfg.s7, Cfg.zero, Nat.le_refl]
    obtain ⟨y, ey, oy⟩ := w3.take .i64 k (by omega)
    refine Ev.val ey ?_
    simp (dsimp := false) (implicitDefEqProofs := false) (disch := omega) only [gv_some, gr_some, gI_int, gB_bool, gS_str, gc_t, gc_f, gi_t, gi_f, gN_eq, gf_t, Option.bind_some, Option.bind_none, Option.map_some, acells_agg, acells_int, acells_bool, acells_str, acells_ptr, acells_sl, acells_nilsl, acells_nilptr, acells_iface, acells_niliface, aptr_ptr, anil_ptr, aextract_0, aextract_1, aextract_2, alenS_sl, alenS_nil, apartOf_agg, apart_t, apart_f, astore_ptr, hset_at0, hset_at, List.set_cons_zero, List.set_cons_succ, set_app, set_app0, aload_ptr, splice_eq, List.drop_nil, List.append_nil, isCell_int, isCell_bool, isCell_str, isCell_ptr, isCell_sl, isCell_nilsl, isCell_nilptr, isCell_iface, isCell_niliface, List.all_cons, List.all_nil, Bool.and_self, hget_at0, hget_at, len_app, List.length_cons, List.length_nil, get_app, get_app0, List.getElem?_cons_zero, List.getElem?_cons_succ, join_some, List.append_assoc, List.cons_append, List.nil_append, Nat.zero_add, Nat.add_zero, chkRd_eq, chkAl_blk, if_true, if_false, Bool.false_eq_true, List.drop_succ_cons, List.drop_zero, List.take_succ_cons, List.take_zero, Bool.and_true, Bool.true_and, decide_true, decide_false, wrap64_id, aixG_eq, Nat.reduceAdd, Nat.reduceSub, Nat.reduceMul, Nat.reduceLeDiff, Nat.reduceLT, Int.reduceAdd, Int.reduceSub, Int.reduceMul, Int.reduceNeg, Int.reduceLT, Int.reduceLE, Int.reduceGT, Int.reduceGE, Int.reduceToNat, ↓reduceIte, and_self, true_and, and_true, Cfg.g0, Cfg.g1, Cfg.g2, Cfg.g3, Cfg.g4, Cfg.g5, Cfg.g6, Cfg.g7, Cfg.g8, Cfg.g9, Cfg.g10, Cfg.len, Cfg.take, Cfg.drop, Cfg.s8, Cfg.s9, Cfg.s10, Cfg.s7, Cfg.zero, Nat.le_refl]
    have sl := own_sl w3 (H := H ++ some (.cells false (c.cells p1 q1 r1)) :: some (.cells false (c.cells p2 q2 r2)) :: (s1 ++ (a1 ++ (a2 ++ (a3 ++ (s2 ++ (b1 ++ (b2 ++ b3)))))))) (H ++ some (.cells false (c.cells p1 q1 r1)) :: some (.cells false (c.cells p2 q2 r2)) :: (s1 ++ (a1 ++ a2))) (s2 ++ (b1 ++ (b2 ++ b3))) (by simp; omega) (by simp)
    obtain ⟨z, ez, oz⟩ := sl.drop Route.len .i64 (k + 1) (by omega)
    refine Ev.val ez ?_
    simp (dsimp := false) (implicitDefEqProofs := false) (disch := omega) only [gv_some, gr_some, gI_int, gB_bool, gS_str, gc_t, gc_f, gi_t, gi_f, gN_eq, gf_t, Option.bind_some, Option.bind_none, Option.map_some, acells_agg, acells_int, acells_bool, acells_str, acells_ptr, acells_sl, acells_nilsl, acells_nilptr, acells_iface, acells_niliface, aptr_ptr, anil_ptr, aextract_0, aextract_1, aextract_2, alenS_sl, alenS_nil, apartOf_agg, apart_t, apart_f, astore_ptr, hset_at0, hset_at, List.set_cons_zero, List.set_cons_succ, set_app, set_app0, aload_ptr, splice_eq, List.drop_nil, List.append_nil, isCell_int, isCell_bool, isCell_str, isCell_ptr, isCell_sl, isCell_nilsl, isCell_nilptr, isCell_iface, isCell_niliface, List.all_cons, List.all_nil, Bool.and_self, hget_at0, hget_at, len_app, List.length_cons, List.length_nil, get_app, get_app0, List.getElem?_cons_zero, List.getElem?_cons_succ, join_some, List.append_assoc, List.cons_append, List.nil_append, Nat.zero_add, Nat.add_zero, chkRd_eq, chkAl_blk, if_true, if_false, Bool.false_eq_true, List.drop_succ_cons, List.drop_zero, List.take_succ_cons, List.take_zero, Bool.and_true, Bool.true_and, decide_true, decide_false, wrap64_id, aixG_eq, Nat.reduceAdd, Nat.reduceSub, Nat.reduceMul, Nat.reduceLeDiff, Nat.reduceLT, Int.reduceAdd, Int.reduceSub, Int.reduceMul, Int.reduceNeg, Int.reduceLT, Int.reduceLE, Int.reduceGT, Int.reduceGE, Int.reduceToNat, ↓reduceIte, and_self, true_and, and_true, Cfg.g0, Cfg.g1, Cfg.g2, Cfg.g3, Cfg.g4, Cfg.g5, Cfg.g6, Cfg.g7, Cfg.g8, Cfg.g9, Cfg.g10, Cfg.len, Cfg.take, Cfg.drop, Cfg.s8, Cfg.s9, Cfg.s10, Cfg.s7, Cfg.zero, Nat.le_refl, oz.lenOf, oz.src Route.len]
    obtain ⟨y2, T, W, ea, hT, ow⟩ := aapp_own (by' := 16) (p := H ++ some (.cells false (c.cells p1 q1 r1)) :: some (.cells false (c.cells p2 q2 r2)) :: (s1 ++ (a1 ++ a2))) (u := s2 ++ (b1 ++ (b2 ++ b3))) (l2 := c.routes.drop (k + 1)) Route.len Route.isc oy (by simp; omega) (by simp; omega)
    try simp only [List.append_assoc, List.cons_append, List.nil_append] at ea
    have i3 : isCell y2 = true := by rcases ow with ⟨_, o⟩ | o <;> exact o.isc
    simp (dsimp := false) (implicitDefEqProofs := false) (disch := omega) only [gv_some, gr_some, gI_int, gB_bool, gS_str, gc_t, gc_f, gi_t, gi_f, gN_eq, gf_t, Option.bind_some, Option.bind_none, Option.map_some, acells_agg, acells_int, acells_bool, acells_str, acells_ptr, acells_sl, acells_nilsl, acells_nilptr, acells_iface, acells_niliface, aptr_ptr, anil_ptr, aextract_0, aextract_1, aextract_2, alenS_sl, alenS_nil, apartOf_agg, apart_t, apart_f, astore_ptr, hset_at0, hset_at, List.set_cons_zero, List.set_cons_succ, set_app, set_app0, aload_ptr, splice_eq, List.drop_nil, List.append_nil, isCell_int, isCell_bool, isCell_str, isCell_ptr, isCell_sl, isCell_nilsl, isCell_nilptr, isCell_iface, isCell_niliface, List.all_cons, List.all_nil, Bool.and_self, hget_at0, hget_at, len_app, List.length_cons, List.length_nil, get_app, get_app0, List.getElem?_cons_zero, List.getElem?_cons_succ, join_some, List.append_assoc, List.cons_append, List.nil_append, Nat.zero_add, Nat.add_zero, chkRd_eq, chkAl_blk, if_true, if_false, Bool.false_eq_true, List.drop_succ_cons, List.drop_zero, List.take_succ_cons, List.take_zero, Bool.and_true, Bool.true_and, decide_true, decide_false, wrap64_id, aixG_eq, Nat.reduceAdd, Nat.reduceSub, Nat.reduceMul, Nat.reduceLeDiff, Nat.reduceLT, Int.reduceAdd, Int.reduceSub, Int.reduceMul, Int.reduceNeg, Int.reduceLT, Int.reduceLE, Int.reduceGT, Int.reduceGE, Int.reduceToNat, ↓reduceIte, and_self, true_and, and_true, Cfg.g0, Cfg.g1, Cfg.g2, Cfg.g3, Cfg.g4, Cfg.g5, Cfg.g6, Cfg.g7, Cfg.g8, Cfg.g9, Cfg.g10, Cfg.len, Cfg.take, Cfg.drop, Cfg.s8, Cfg.s9, Cfg.s10, Cfg.s7, Cfg.zero, Nat.le_refl, ea, i3]
    refine go (without c.routes k) y2 T W (without_sub _ _) hT (fun D E B' W' hB => ?_)
    rcases ow with ⟨rfl, o⟩ | o
    · exact own_sl o (H ++ D :: E :: (s1 ++ (a1 ++ a2))) (s2 ++ (B' ++ (b2 ++ (b3 ++ ([] ++ W'))))) (by simp; omega) (by simp)
    · exact own_sl o (H ++ D :: E :: (s1 ++ (a1 ++ (a2 ++ (T ++ (s2 ++ (B' ++ (b2 ++ b3)))))))) W' (by simp; omega) (by simp)
  · have := go c.routes r1 a3 [] (List.Sublist.refl _) rfl (fun D E B' W' hB => own_sl w3 (H ++ D :: E :: (s1 ++ (a1 ++ a2))) (s2 ++ (B' ++ (b2 ++ (b3 ++ ([] ++ W'))))) (by simp; omega) (by simp))
    rw [List.append_nil] at this
    simp (dsimp := false) (implicitDefEqProofs := false) (disch := omega) only [gv_some, gr_some, gI_int, gB_bool, gS_str, gc_t, gc_f, gi_t, gi_f, gN_eq, gf_t, Option.bind_some, Option.bind_none, Option.map_some, acells_agg, acells_int, acells_bool, acells_str, acells_ptr, acells_sl, acells_nilsl, acells_nilptr, acells_iface, acells_niliface, aptr_ptr, anil_ptr, aextract_0, aextract_1, aextract_2, alenS_sl, alenS_nil, apartOf_agg, apart_t, apart_f, astore_ptr, hset_at0, hset_at, List.set_cons_zero, List.set_cons_succ, set_app, set_app0, aload_ptr, splice_eq, List.drop_nil, List.append_nil, isCell_int, isCell_bool, isCell_str, isCell_ptr, isCell_sl, isCell_nilsl, isCell_nilptr, isCell_iface, isCell_niliface, List.all_cons, List.all_nil, Bool.and_self, hget_at0, hget_at, len_app, List.length_cons, List.length_nil, get_app, get_app0, List.getElem?_cons_zero, List.getElem?_cons_succ, join_some, List.append_assoc, List.cons_append, List.nil_append, Nat.zero_add, Nat.add_zero, chkRd_eq, chkAl_blk, if_true, if_false, Bool.false_eq_true, List.drop_succ_cons, List.drop_zero, List.take_succ_cons, List.take_zero, Bool.and_true, Bool.true_and, decide_true, decide_false, wrap64_id, aixG_eq, Nat.reduceAdd, Nat.reduceSub, Nat.reduceMul, Nat.reduceLeDiff, Nat.reduceLT, Int.reduceAdd, Int.reduceSub, Int.reduceMul, Int.reduceNeg, Int.reduceLT, Int.reduceLE, Int.reduceGT, Int.reduceGE, Int.reduceToNat, ↓reduceIte, and_self, true_and, and_true]
    exact this
theorem soundMore : LawTrue Try.prog Nt 9 6 [26, 3] := by
  rintro h xs ⟨x, r, rfl, hx, x2, r2, rfl, hx2, hr⟩
  cases hr
  obtain ⟨c, hc⟩ := argvCfg hx
  obtain ⟨n, rfl, _⟩ := argvInt hx2
  have main : Ev (acall Try.prog Nt 6 [x, .int .i64 n] h) h fun v _ => v = .bool true := by
    have hc0 := hc
    obtain ⟨p, q, r, rfl, l⟩ := hc
    rw [E6]
    simp (dsimp := false) (implicitDefEqProofs := false) (disch := omega) only [gv_some, gr_some, gI_int, gB_bool, gS_str, gc_t, gc_f, gi_t, gi_f, gN_eq, gf_t, Option.bind_some, Option.bind_none, Option.map_some, acells_agg, acells_int, acells_bool, acells_str, acells_ptr, acells_sl, acells_nilsl, acells_nilptr, acells_iface, acells_niliface, aptr_ptr, anil_ptr, aextract_0, aextract_1, aextract_2, alenS_sl, alenS_nil, apartOf_agg, apart_t, apart_f, astore_ptr, hset_at0, hset_at, List.set_cons_zero, List.set_cons_succ, set_app, set_app0, aload_ptr, splice_eq, List.drop_nil, List.append_nil, isCell_int, isCell_bool, isCell_str, isCell_ptr, isCell_sl, isCell_nilsl, isCell_nilptr, isCell_iface, isCell_niliface, List.all_cons, List.all_nil, Bool.and_self, hget_at0, hget_at, len_app, List.length_cons, List.length_nil, get_app, get_app0, List.getElem?_cons_zero, List.getElem?_cons_succ, join_some, List.append_assoc, List.cons_append, List.nil_append, Nat.zero_add, Nat.add_zero, chkRd_eq, chkAl_blk, if_true, if_false, Bool.false_eq_true, List.drop_succ_cons, List.drop_zero, List.take_succ_cons, List.take_zero, Bool.and_true, Bool.true_and, decide_true, decide_false, wrap64_id, aixG_eq, Nat.reduceAdd, Nat.reduceSub, Nat.reduceMul, Nat.reduceLeDiff, Nat.reduceLT, Int.reduceAdd, Int.reduceSub, Int.reduceMul, Int.reduceNeg, Int.reduceLT, Int.reduceLE, Int.reduceGT, Int.reduceGE, Int.reduceToNat, ↓reduceIte, and_self, true_and, and_true, Cfg.g0, Cfg.g1, Cfg.g2, Cfg.g3, Cfg.g4, Cfg.g5, Cfg.g6, Cfg.g7, Cfg.g8, Cfg.g9, Cfg.g10, Cfg.len, Cfg.take, Cfg.drop, Cfg.s8, Cfg.s9, Cfg.s10, Cfg.s7, Cfg.zero, Nat.le_refl]
    refine Ev.call (c_awake _) fun v ga hv => ?_
    subst hv
    simp (dsimp := false) (implicitDefEqProofs := false) (disch := omega) only [gv_some, gr_some, gI_int, gB_bool, gS_str, gc_t, gc_f, gi_t, gi_f, gN_eq, gf_t, Option.bind_some, Option.bind_none, Option.map_some, acells_agg, acells_int, acells_bool, acells_str, acells_ptr, acells_sl, acells_nilsl, acells_nilptr, acells_iface, acells_niliface, aptr_ptr, anil_ptr, aextract_0, aextract_1, aextract_2, alenS_sl, alenS_nil, apartOf_agg, apart_t, apart_f, astore_ptr, hset_at0, hset_at, List.set_cons_zero, List.set_cons_succ, set_app, set_app0, aload_ptr, splice_eq, List.drop_nil, List.append_nil, isCell_int, isCell_bool, isCell_str, isCell_ptr, isCell_sl, isCell_nilsl, isCell_nilptr, isCell_iface, isCell_niliface, List.all_cons, List.all_nil, Bool.and_self, hget_at0, hget_at, len_app, List.length_cons, List.length_nil, get_app, get_app0, List.getElem?_cons_zero, List.getElem?_cons_succ, join_some, List.append_assoc, List.cons_append, List.nil_append, Nat.zero_add, Nat.add_zero, chkRd_eq, chkAl_blk, if_true, if_false, Bool.false_eq_true, List.drop_succ_cons, List.drop_zero, List.take_succ_cons, List.take_zero, Bool.and_true, Bool.true_and, decide_true, decide_false, wrap64_id, aixG_eq, Nat.reduceAdd, Nat.reduceSub, Nat.reduceMul, Nat.reduceLeDiff, Nat.reduceLT, Int.reduceAdd, Int.reduceSub, Int.reduceMul, Int.reduceNeg, Int.reduceLT, Int.reduceLE, Int.reduceGT, Int.reduceGE, Int.reduceToNat, ↓reduceIte, and_self, true_and, and_true, Cfg.g0, Cfg.g1, Cfg.g2, Cfg.g3, Cfg.g4, Cfg.g5, Cfg.g6, Cfg.g7, Cfg.g8, Cfg.g9, Cfg.g10, Cfg.len, Cfg.take, Cfg.drop, Cfg.s8, Cfg.s9, Cfg.s10, Cfg.s7, Cfg.zero, Nat.le_refl, Bool.not_true, J6_1_eq]
    refine Ev.call (c_works c _ _ (hc0.app _)) fun v gw hv => ?_
    obtain ⟨b, rfl, hb⟩ := hv
    simp (dsimp := false) (implicitDefEqProofs := false) (disch := omega) only [gv_some, gr_some, gI_int, gB_bool, gS_str, gc_t, gc_f, gi_t, gi_f, gN_eq, gf_t, Option.bind_some, Option.bind_none, Option.map_some, acells_agg, acells_int, acells_bool, acells_str, acells_ptr, acells_sl, acells_nilsl, acells_nilptr, acells_iface, acells_niliface, aptr_ptr, anil_ptr, aextract_0, aextract_1, aextract_2, alenS_sl, alenS_nil, apartOf_agg, apart_t, apart_f, astore_ptr, hset_at0, hset_at, List.set_cons_zero, List.set_cons_succ, set_app, set_app0, aload_ptr, splice_eq, List.drop_nil, List.append_nil, isCell_int, isCell_bool, isCell_str, isCell_ptr, isCell_sl, isCell_nilsl, isCell_nilptr, isCell_iface, isCell_niliface, List.all_cons, List.all_nil, Bool.and_self, hget_at0, hget_at, len_app, List.length_cons, List.length_nil, get_app, get_app0, List.getElem?_cons_zero, List.getElem?_cons_succ, join_some, List.append_assoc, List.cons_append, List.nil_append, Nat.zero_add, Nat.add_zero, chkRd_eq, chkAl_blk, if_true, if_false, Bool.false_eq_true, List.drop_succ_cons, List.drop_zero, List.take_succ_cons, List.take_zero, Bool.and_true, Bool.true_and, decide_true, decide_false, wrap64_id, aixG_eq, Nat.reduceAdd, Nat.reduceSub, Nat.reduceMul, Nat.reduceLeDiff, Nat.reduceLT, Int.reduceAdd, Int.reduceSub, Int.reduceMul, Int.reduceNeg, Int.reduceLT, Int.reduceLE, Int.reduceGT, Int.reduceGE, Int.reduceToNat, ↓reduceIte, and_self, true_and, and_true]
    refine Ev.cnd (fun h1 => by try simp only [List.append_assoc, List.cons_append, List.nil_append]; exact Ev.done rfl) fun h1 => ?_
    simp only [Bool.not_eq_false'] at h1
    obtain ⟨hf, hs⟩ := hb h1
    have := more2 c hf hs n (h ++ (some (.cells false (c.cells p q r)) :: (ga ++ gw))) h.length p q r (by rw [hget_at0]; rfl) (l.app _)
    have := Ev.base this
    simpa only [List.append_assoc, List.cons_append, List.nil_append] using this
  obtain ⟨v, g, e, rfl⟩ := main
  exact ⟨_, e⟩
end Go.Ab
end
section
/-
  Functions of the program as equations: written by program (wip/tools/prt.py).
-/
namespace Go.Ab
open Go.Proofs
/-! 18: escapement/sound.Reach -/
noncomputable def K18 : Kont := kend Try.prog 57 Try.f18.results.toList
noncomputable def K18_1 (lp : Loop) (jn : Join) : Kont := kseqJ jn (codeJ Try.prog Nt lp jn 57 (nat' [true, true, true] A18) (cat [true, true, true] C18)) (some [1, 2, 5]) K18
noncomputable def K18_2 (lp : Loop) (jn : Join) : Kont := kseqJ jn (codeJ Try.prog Nt lp jn 57 (nat' [true, true, true, true, true] A18) (cat [true, true, true, true, true] C18)) (some [5]) K18
noncomputable def K18_3 (lp : Loop) (jn : Join) : Kont := kblock 0 none (K18_2 lp jn)
noncomputable def K18_4 (lp : Loop) (jn : Join) : Kont := kloop (lp (some [2, 5, 25, 26]) (codeJ Try.prog Nt lp jn 57 (nat' [true, true, true, true, false, true, false, false] A18) (cat [true, true, true, true, false, true, false, false] C18))) (some [2, 5, 25, 26]) (K18_3 lp jn)
noncomputable def K18_5 (lp : Loop) (jn : Join) : Kont := kseqJ jn (codeJ Try.prog Nt lp jn 57 (nat' [true, true, true, true, false, true, false, false, true, true, true] A18) (cat [true, true, true, true, false, true, false, false, true, true, true] C18)) (some [2, 5, 25, 26]) (K18_4 lp jn)
noncomputable def K18_6 (lp : Loop) (jn : Join) : Kont := kblock 1 none (K18_5 lp jn)
noncomputable def K18_7 (lp : Loop) (jn : Join) : Kont := kblock 2 none (K18_6 lp jn)
noncomputable def K18_8 (lp : Loop) (jn : Join) : Kont := kloop (lp (some [2, 5, 25, 26, 29, 30, 31]) (codeJ Try.prog Nt lp jn 57 (nat' [true, true, true, true, false, true, false, false, true, true, false, false, true, false, false] A18) (cat [true, true, true, true, false, true, false, false, true, true, false, false, true, false, false] C18))) (some [2, 5, 25, 26, 29, 30, 31]) (K18_7 lp jn)
noncomputable def J18_1' (lp : Loop) (jn : Join) (x1 : Int) (x2 : Nat) (x5 : AV) (x19 : Bool) (h : AHeap) : Res := jn (codeJ Try.prog Nt lp jn 57 (nat' [true, true, false, true] A18) (cat [true, true, false, true] C18)) (envOf [(1, (.int .i64 x1)), (2, (.ptr x2 0)), (5, x5), (19, (.bool x19))]) h (K18_1 lp jn)
noncomputable def J18_1 (x1 : Int) (x2 : Nat) (x5 : AV) (x19 : Bool) (h : AHeap) : Res := J18_1' aloop (fun s => s) x1 x2 x5 x19 h
noncomputable def J18_2' (lp : Loop) (jn : Join) (x1 : Int) (x2 : Nat) (x5 : AV) (h : AHeap) : Res := jn (codeJ Try.prog Nt lp jn 57 (nat' [true, true, true] A18) (cat [true, true, true] C18)) (envOf [(1, (.int .i64 x1)), (2, (.ptr x2 0)), (5, x5)]) h K18
noncomputable def J18_2 (x1 : Int) (x2 : Nat) (x5 : AV) (h : AHeap) : Res := J18_2' aloop (fun s => s) x1 x2 x5 h
noncomputable def J18_3' (lp : Loop) (jn : Join) (x2 : Nat) (x5 : AV) (x25 : Int) (x26 : Int) (h : AHeap) : Res := lp (some [2, 5, 25, 26]) (codeJ Try.prog Nt lp jn 57 (nat' [true, true, true, true, false, true, false, false] A18) (cat [true, true, true, true, false, true, false, false] C18)) (envOf [(2, (.ptr x2 0)), (5, x5), (25, (.int .i64 x25)), (26, (.int .i64 x26))]) h (K18_3 lp jn)
noncomputable def J18_3 (x2 : Nat) (x5 : AV) (x25 : Int) (x26 : Int) (h : AHeap) : Res := J18_3' aloop (fun s => s) x2 x5 x25 x26 h
noncomputable def J18_4' (lp : Loop) (jn : Join) (x2 : Nat) (x5 : AV) (x25 : Int) (x26 : Int) (h : AHeap) : Res := jn (codeJ Try.prog Nt lp jn 57 (nat' [true, true, true, true, false, true, false, false, true, true] A18) (cat [true, true, true, true, false, true, false, false, true, true] C18)) (envOf [(2, (.ptr x2 0)), (5, x5), (25, (.int .i64 x25)), (26, (.int .i64 x26))]) h (K18_4 lp jn)
noncomputable def J18_4 (x2 : Nat) (x5 : AV) (x25 : Int) (x26 : Int) (h : AHeap) : Res := J18_4' aloop (fun s => s) x2 x5 x25 x26 h
noncomputable def J18_5' (lp : Loop) (jn : Join) (x5 : AV) (h : AHeap) : Res := jn (codeJ Try.prog Nt lp jn 57 (nat' [true, true, true, true, true] A18) (cat [true, true, true, true, true] C18)) (envOf [(5, x5)]) h K18
noncomputable def J18_5 (x5 : AV) (h : AHeap) : Res := J18_5' aloop (fun s => s) x5 h
noncomputable def J18_6' (lp : Loop) (jn : Join) (x2 : Nat) (x5 : AV) (x25 : Int) (x26 : Int) (x29 : AV) (x30 : Int) (x31 : Int) (h : AHeap) : Res := lp (some [2, 5, 25, 26, 29, 30, 31]) (codeJ Try.prog Nt lp jn 57 (nat' [true, true, true, true, false, true, false, false, true, true, false, false, true, false, false] A18) (cat [true, true, true, true, false, true, false, false, true, true, false, false, true, false, false] C18)) (envOf [(2, (.ptr x2 0)), (5, x5), (25, (.int .i64 x25)), (26, (.int .i64 x26)), (29, x29), (30, (.int .i64 x30)), (31, (.int .i64 x31))]) h (K18_7 lp jn)
noncomputable def J18_6 (x2 : Nat) (x5 : AV) (x25 : Int) (x26 : Int) (x29 : AV) (x30 : Int) (x31 : Int) (h : AHeap) : Res := J18_6' aloop (fun s => s) x2 x5 x25 x26 x29 x30 x31 h
noncomputable def J18_7' (lp : Loop) (jn : Join) (x2 : Nat) (x5 : AV) (x25 : Int) (x26 : Int) (x29 : AV) (x30 : Int) (x31 : Int) (h : AHeap) : Res := jn (codeJ Try.prog Nt lp jn 57 (nat' [true, true, true, true, false, true, false, false, true, true, false, false, true, false, false, true, true] A18) (cat [true, true, true, true, false, true, false, false, true, true, false, false, true, false, false, true, true] C18)) (envOf [(2, (.ptr x2 0)), (5, x5), (25, (.int .i64 x25)), (26, (.int .i64 x26)), (29, x29), (30, (.int .i64 x30)), (31, (.int .i64 x31))]) h (K18_8 lp jn)
noncomputable def J18_7 (x2 : Nat) (x5 : AV) (x25 : Int) (x26 : Int) (x29 : AV) (x30 : Int) (x31 : Int) (h : AHeap) : Res := J18_7' aloop (fun s => s) x2 x5 x25 x26 x29 x30 x31 h
noncomputable def J18_8' (lp : Loop) (jn : Join) (x2 : Nat) (x5 : AV) (x25 : Int) (x26 : Int) (h : AHeap) : Res := jn (codeJ Try.prog Nt lp jn 57 (nat' [true, true, true, true, false, true, false, false, true, true, true] A18) (cat [true, true, true, true, false, true, false, false, true, true, true] C18)) (envOf [(2, (.ptr x2 0)), (5, x5), (25, (.int .i64 x25)), (26, (.int .i64 x26))]) h (K18_4 lp jn)
noncomputable def J18_8 (x2 : Nat) (x5 : AV) (x25 : Int) (x26 : Int) (h : AHeap) : Res := J18_8' aloop (fun s => s) x2 x5 x25 x26 h
noncomputable def J18_9' (lp : Loop) (jn : Join) (x2 : Nat) (x5 : AV) (x25 : Int) (x26 : Int) (x29 : AV) (x30 : Int) (x31 : Int) (h : AHeap) : Res := jn (codeJ Try.prog Nt lp jn 57 (nat' [true, true, true, true, false, true, false, false, true, true, false, false, true, false, false, true, true, true] A18) (cat [true, true, true, true, false, true, false, false, true, true, false, false, true, false, false, true, true, true] C18)) (envOf [(2, (.ptr x2 0)), (5, x5), (25, (.int .i64 x25)), (26, (.int .i64 x26)), (29, x29), (30, (.int .i64 x30)), (31, (.int .i64 x31))]) h (K18_8 lp jn)
noncomputable def J18_9 (x2 : Nat) (x5 : AV) (x25 : Int) (x26 : Int) (x29 : AV) (x30 : Int) (x31 : Int) (h : AHeap) : Res := J18_9' aloop (fun s => s) x2 x5 x25 x26 x29 x30 x31 h
theorem J18_1_g (lp : Loop) (jn : Join) (x1 : Int) (x2 : Nat) (x5 : AV) (x19 : Bool) (h : AHeap) : codeJ Try.prog Nt lp jn 57 (nat' [true, true, false, true] A18) (cat [true, true, false, true] C18) (envOf [(1, (.int .i64 x1)), (2, (.ptr x2 0)), (5, x5), (19, (.bool x19))]) h (K18_1 lp jn) = (gc x19 (some (x5, h)) (J18_2' lp jn x1 x2 x5 h)) := by kernel_rfl
theorem J18_1_eq (x1 : Int) (x2 : Nat) (x5 : AV) (x19 : Bool) (h : AHeap) : J18_1 x1 x2 x5 x19 h = (gc x19 (some (x5, h)) (J18_2 x1 x2 x5 h)) := J18_1_g aloop (fun s => s) x1 x2 x5 x19 h
theorem J18_2_g (lp : Loop) (jn : Join) (x1 : Int) (x2 : Nat) (x5 : AV) (h : AHeap) : codeJ Try.prog Nt lp jn 57 (nat' [true, true, true] A18) (cat [true, true, true] C18) (envOf [(1, (.int .i64 x1)), (2, (.ptr x2 0)), (5, x5)]) h K18 = (gv (aixS 1 x5 x1) fun v9 => gv (astore false 1 v9 (.bool true) h) fun h10 => gv (alenS x5) fun m11 => J18_3' lp jn x2 x5 (m11 : Int) 0 h10) := by kernel_rfl
theorem J18_2_eq (x1 : Int) (x2 : Nat) (x5 : AV) (h : AHeap) : J18_2 x1 x2 x5 h = (gv (aixS 1 x5 x1) fun v9 => gv (astore false 1 v9 (.bool true) h) fun h10 => gv (alenS x5) fun m11 => J18_3 x2 x5 (m11 : Int) 0 h10) := J18_2_g aloop (fun s => s) x1 x2 x5 h
theorem J18_3_g (lp : Loop) (jn : Join) (x2 : Nat) (x5 : AV) (x25 : Int) (x26 : Int) (h : AHeap) : codeJ Try.prog Nt lp jn 57 (nat' [true, true, true, true, false, true, false, false] A18) (cat [true, true, true, true, false, true, false, false] C18) (envOf [(2, (.ptr x2 0)), (5, x5), (25, (.int .i64 x25)), (26, (.int .i64 x26))]) h (kloop (lp (some [2, 5, 25, 26]) (codeJ Try.prog Nt lp jn 57 (nat' [true, true, true, true, false, true, false, false] A18) (cat [true, true, true, true, false, true, false, false] C18))) (some [2, 5, 25, 26]) (K18_3 lp jn)) = (gc (decide (x26 < x25)) (J18_4' lp jn x2 x5 x25 x26 h) (J18_5' lp jn x5 h)) := by kernel_rfl
theorem J18_3_eq (x2 : Nat) (x5 : AV) (x25 : Int) (x26 : Int) (h : AHeap) : J18_3 x2 x5 x25 x26 h = (gc (decide (x26 < x25)) (J18_4 x2 x5 x25 x26 h) (J18_5 x5 h)) := (aloop_at (some [2, 5, 25, 26]) (nat' [true, true, true, true, false, true, false, false] A18) (cat [true, true, true, true, false, true, false, false] C18) (envOf [(2, (.ptr x2 0)), (5, x5), (25, (.int .i64 x25)), (26, (.int .i64 x26))]) h (K18_3 aloop (fun s => s))).trans (J18_3_g aloop (fun s => s) x2 x5 x25 x26 h)
theorem J18_4_g (lp : Loop) (jn : Join) (x2 : Nat) (x5 : AV) (x25 : Int) (x26 : Int) (h : AHeap) : codeJ Try.prog Nt lp jn 57 (nat' [true, true, true, true, false, true, false, false, true, true] A18) (cat [true, true, true, true, false, true, false, false, true, true] C18) (envOf [(2, (.ptr x2 0)), (5, x5), (25, (.int .i64 x25)), (26, (.int .i64 x26))]) h (K18_4 lp jn) = (gv (aload false 1 (.ptr x2 10) h) fun v12 => gv (alenS v12) fun m13 => J18_6' lp jn x2 x5 x25 x26 v12 (m13 : Int) 0 h) := by kernel_rfl
theorem J18_4_eq (x2 : Nat) (x5 : AV) (x25 : Int) (x26 : Int) (h : AHeap) : J18_4 x2 x5 x25 x26 h = (gv (aload false 1 (.ptr x2 10) h) fun v12 => gv (alenS v12) fun m13 => J18_6 x2 x5 x25 x26 v12 (m13 : Int) 0 h) := J18_4_g aloop (fun s => s) x2 x5 x25 x26 h
theorem J18_5_g (lp : Loop) (jn : Join) (x5 : AV) (h : AHeap) : codeJ Try.prog Nt lp jn 57 (nat' [true, true, true, true, true] A18) (cat [true, true, true, true, true] C18) (envOf [(5, x5)]) h K18 = (some (x5, h)) := by kernel_rfl
theorem J18_5_eq (x5 : AV) (h : AHeap) : J18_5 x5 h = (some (x5, h)) := J18_5_g aloop (fun s => s) x5 h
theorem J18_6_g (lp : Loop) (jn : Join) (x2 : Nat) (x5 : AV) (x25 : Int) (x26 : Int) (x29 : AV) (x30 : Int) (x31 : Int) (h : AHeap) : codeJ Try.prog Nt lp jn 57 (nat' [true, true, true, true, false, true, false, false, true, true, false, false, true, false, false] A18) (cat [true, true, true, true, false, true, false, false, true, true, false, false, true, false, false] C18) (envOf [(2, (.ptr x2 0)), (5, x5), (25, (.int .i64 x25)), (26, (.int .i64 x26)), (29, x29), (30, (.int .i64 x30)), (31, (.int .i64 x31))]) h (kloop (lp (some [2, 5, 25, 26, 29, 30, 31]) (codeJ Try.prog Nt lp jn 57 (nat' [true, true, true, true, false, true, false, false, true, true, false, false, true, false, false] A18) (cat [true, true, true, true, false, true, false, false, true, true, false, false, true, false, false] C18))) (some [2, 5, 25, 26, 29, 30, 31]) (K18_7 lp jn)) = (gc (decide (x31 < x30)) (J18_7' lp jn x2 x5 x25 x26 x29 x30 x31 h) (J18_8' lp jn x2 x5 x25 x26 h)) := by kernel_rfl
theorem J18_6_eq (x2 : Nat) (x5 : AV) (x25 : Int) (x26 : Int) (x29 : AV) (x30 : Int) (x31 : Int) (h : AHeap) : J18_6 x2 x5 x25 x26 x29 x30 x31 h = (gc (decide (x31 < x30)) (J18_7 x2 x5 x25 x26 x29 x30 x31 h) (J18_8 x2 x5 x25 x26 h)) := (aloop_at (some [2, 5, 25, 26, 29, 30, 31]) (nat' [true, true, true, true, false, true, false, false, true, true, false, false, true, false, false] A18) (cat [true, true, true, true, false, true, false, false, true, true, false, false, true, false, false] C18) (envOf [(2, (.ptr x2 0)), (5, x5), (25, (.int .i64 x25)), (26, (.int .i64 x26)), (29, x29), (30, (.int .i64 x30)), (31, (.int .i64 x31))]) h (K18_7 aloop (fun s => s))).trans (J18_6_g aloop (fun s => s) x2 x5 x25 x26 x29 x30 x31 h)
theorem J18_7_g (lp : Loop) (jn : Join) (x2 : Nat) (x5 : AV) (x25 : Int) (x26 : Int) (x29 : AV) (x30 : Int) (x31 : Int) (h : AHeap) : codeJ Try.prog Nt lp jn 57 (nat' [true, true, true, true, false, true, false, false, true, true, false, false, true, false, false, true, true] A18) (cat [true, true, true, true, false, true, false, false, true, true, false, false, true, false, false, true, true] C18) (envOf [(2, (.ptr x2 0)), (5, x5), (25, (.int .i64 x25)), (26, (.int .i64 x26)), (29, x29), (30, (.int .i64 x30)), (31, (.int .i64 x31))]) h (K18_8 lp jn) = (gv (aixS 2 x29 x31) fun v14 => gv (aload true 2 v14 h) fun v15 => gN h [(.int .i64 0), (.int .i64 0)] fun b16 h17 => gv (astore true 2 (.ptr b16 0) v15 h17) fun h18 => gv (aload false 1 (.ptr x2 9) h18) fun v19 => gv (aload false 1 (.ptr b16 0) h18) fun v20 => gI .i64 v20 fun n21 => gv (aixS 6 v19 n21) fun v22 => gv (aptr v22 0) fun v23 => gv (aload false 1 v23 h18) fun v24 => gI .i64 v24 fun n25 => gv (aixS 1 x5 n25) fun v26 => gv (aload false 1 v26 h18) fun v27 => gB v27 fun b28 => gc b28 (gv (aload false 1 (.ptr x2 9) h18) fun v29 => gv (aload false 1 (.ptr b16 1) h18) fun v30 => gI .i64 v30 fun n31 => gv (aixS 6 v29 n31) fun v32 => gv (aptr v32 0) fun v33 => gv (aload false 1 v33 h18) fun v34 => gI .i64 v34 fun n35 => gv (aixS 1 x5 n35) fun v36 => gv (astore false 1 v36 (.bool true) h18) fun h37 => J18_9' lp jn x2 x5 x25 x26 x29 x30 x31 h37) (J18_9' lp jn x2 x5 x25 x26 x29 x30 x31 h18)) := by kernel_rfl
theorem J18_7_eq (x2 : Nat) (x5 : AV) (x25 : Int) (x26 : Int) (x29 : AV) (x30 : Int) (x31 : Int) (h : AHeap) : J18_7 x2 x5 x25 x26 x29 x30 x31 h = (gv (aixS 2 x29 x31) fun v14 => gv (aload true 2 v14 h) fun v15 => gN h [(.int .i64 0), (.int .i64 0)] fun b16 h17 => gv (astore true 2 (.ptr b16 0) v15 h17) fun h18 => gv (aload false 1 (.ptr x2 9) h18) fun v19 => gv (aload false 1 (.ptr b16 0) h18) fun v20 => gI .i64 v20 fun n21 => gv (aixS 6 v19 n21) fun v22 => gv (aptr v22 0) fun v23 => gv (aload false 1 v23 h18) fun v24 => gI .i64 v24 fun n25 => gv (aixS 1 x5 n25) fun v26 => gv (aload false 1 v26 h18) fun v27 => gB v27 fun b28 => gc b28 (gv (aload false 1 (.ptr x2 9) h18) fun v29 => gv (aload false 1 (.ptr b16 1) h18) fun v30 => gI .i64 v30 fun n31 => gv (aixS 6 v29 n31) fun v32 => gv (aptr v32 0) fun v33 => gv (aload false 1 v33 h18) fun v34 => gI .i64 v34 fun n35 => gv (aixS 1 x5 n35) fun v36 => gv (astore false 1 v36 (.bool true) h18) fun h37 => J18_9 x2 x5 x25 x26 x29 x30 x31 h37) (J18_9 x2 x5 x25 x26 x29 x30 x31 h18)) := J18_7_g aloop (fun s => s) x2 x5 x25 x26 x29 x30 x31 h
theorem J18_8_g (lp : Loop) (jn : Join) (x2 : Nat) (x5 : AV) (x25 : Int) (x26 : Int) (h : AHeap) : codeJ Try.prog Nt lp jn 57 (nat' [true, true, true, true, false, true, false, false, true, true, true] A18) (cat [true, true, true, true, false, true, false, false, true, true, true] C18) (envOf [(2, (.ptr x2 0)), (5, x5), (25, (.int .i64 x25)), (26, (.int .i64 x26))]) h (K18_4 lp jn) = (J18_3' lp jn x2 x5 x25 (IntKind.i64.wrap (x26 + 1)) h) := by kernel_rfl
theorem J18_8_eq (x2 : Nat) (x5 : AV) (x25 : Int) (x26 : Int) (h : AHeap) : J18_8 x2 x5 x25 x26 h = (J18_3 x2 x5 x25 (IntKind.i64.wrap (x26 + 1)) h) := J18_8_g aloop (fun s => s) x2 x5 x25 x26 h
theorem J18_9_g (lp : Loop) (jn : Join) (x2 : Nat) (x5 : AV) (x25 : Int) (x26 : Int) (x29 : AV) (x30 : Int) (x31 : Int) (h : AHeap) : codeJ Try.prog Nt lp jn 57 (nat' [true, true, true, true, false, true, false, false, true, true, false, false, true, false, false, true, true, true] A18) (cat [true, true, true, true, false, true, false, false, true, true, false, false, true, false, false, true, true, true] C18) (envOf [(2, (.ptr x2 0)), (5, x5), (25, (.int .i64 x25)), (26, (.int .i64 x26)), (29, x29), (30, (.int .i64 x30)), (31, (.int .i64 x31))]) h (K18_8 lp jn) = (J18_6' lp jn x2 x5 x25 x26 x29 x30 (IntKind.i64.wrap (x31 + 1)) h) := by kernel_rfl
theorem J18_9_eq (x2 : Nat) (x5 : AV) (x25 : Int) (x26 : Int) (x29 : AV) (x30 : Int) (x31 : Int) (h : AHeap) : J18_9 x2 x5 x25 x26 x29 x30 x31 h = (J18_6 x2 x5 x25 x26 x29 x30 (IntKind.i64.wrap (x31 + 1)) h) := J18_9_g aloop (fun s => s) x2 x5 x25 x26 x29 x30 x31 h
theorem E18_g (lp : Loop) (jn : Join) (x0 : AV) (x1 : Int) (h : AHeap) : codeJ Try.prog Nt lp jn 57 (Nt 18) C18 (args [x0, (.int .i64 x1)]) h K18 = (gv (acells x0) fun cs1 => gN h cs1 fun b2 h3 => gv (aload false 1 (.ptr b2 8) h3) fun v4 => gv (alenS v4) fun m5 => gr (amkS 1 1 [(.bool false)] (m5 : Int) (m5 : Int) h3) fun r6 h7 => gi (decide (x1 < 0)) (J18_1' lp jn x1 b2 r6 true h7) (gv (alenS r6) fun m8 => J18_1' lp jn x1 b2 r6 (decide (x1 ≥ (m8 : Int))) h7)) := by kernel_rfl
theorem E18 (x0 : AV) (x1 : Int) (h : AHeap) : acall Try.prog Nt 18 [x0, (.int .i64 x1)] h = (gv (acells x0) fun cs1 => gN h cs1 fun b2 h3 => gv (aload false 1 (.ptr b2 8) h3) fun v4 => gv (alenS v4) fun m5 => gr (amkS 1 1 [(.bool false)] (m5 : Int) (m5 : Int) h3) fun r6 h7 => gi (decide (x1 < 0)) (J18_1 x1 b2 r6 true h7) (gv (alenS r6) fun m8 => J18_1 x1 b2 r6 (decide (x1 ≥ (m8 : Int))) h7)) := (acall_at Try.func18 _ h 57 rfl (c := C18) rfl).trans (E18_g aloop (fun s => s) x0 x1 h)
end Go.Ab
end
section
/-
  Functions of the program as equations: written by program (wip/tools/prt.py).
-/
namespace Go.Ab
open Go.Proofs
/-! 7: escapement/escapementlaw06.SoundReach -/
noncomputable def K7 : Kont := kend Try.prog 70 Try.f7.results.toList
noncomputable def K7_1 (lp : Loop) (jn : Join) : Kont := kseqJ jn (codeJ Try.prog Nt lp jn 70 (nat' [true, true, true] A7) (cat [true, true, true] C7)) (some [1, 2]) K7
noncomputable def K7_2 (lp : Loop) (jn : Join) : Kont := kseqJ jn (codeJ Try.prog Nt lp jn 70 (nat' [true, true, true, true, true] A7) (cat [true, true, true, true, true] C7)) (some [2, 5]) K7
noncomputable def K7_3 (lp : Loop) (jn : Join) : Kont := kseqJ jn (codeJ Try.prog Nt lp jn 70 (nat' [true, true, true, true, true, true] A7) (cat [true, true, true, true, true, true] C7)) (some []) K7
noncomputable def K7_4 (lp : Loop) (jn : Join) : Kont := kblock 0 none (K7_3 lp jn)
noncomputable def K7_5 (lp : Loop) (jn : Join) : Kont := kloop (lp (some [2, 5, 42, 43]) (codeJ Try.prog Nt lp jn 70 (nat' [true, true, true, true, true, false, true, false, false] A7) (cat [true, true, true, true, true, false, true, false, false] C7))) (some [2, 5, 42, 43]) (K7_4 lp jn)
noncomputable def K7_6 (lp : Loop) (jn : Join) : Kont := kseqJ jn (codeJ Try.prog Nt lp jn 70 (nat' [true, true, true, true, true, false, true, false, false, true, true, true] A7) (cat [true, true, true, true, true, false, true, false, false, true, true, true] C7)) (some [2, 5, 42, 43]) (K7_5 lp jn)
noncomputable def K7_7 (lp : Loop) (jn : Join) : Kont := kblock 1 none (K7_6 lp jn)
noncomputable def K7_8 (lp : Loop) (jn : Join) : Kont := kblock 2 none (K7_7 lp jn)
noncomputable def K7_9 (lp : Loop) (jn : Join) : Kont := kloop (lp (some [2, 5, 42, 43, 53, 54, 55]) (codeJ Try.prog Nt lp jn 70 (nat' [true, true, true, true, true, false, true, false, false, true, true, false, false, true, true, true, false, false] A7) (cat [true, true, true, true, true, false, true, false, false, true, true, false, false, true, true, true, false, false] C7))) (some [2, 5, 42, 43, 53, 54, 55]) (K7_8 lp jn)
noncomputable def K7_10 (lp : Loop) (jn : Join) : Kont := kseqJ jn (codeJ Try.prog Nt lp jn 70 (nat' [true, true, true, true, true, false, true, false, false, true, true, false, false, true, true, true, false, false, true, true, true] A7) (cat [true, true, true, true, true, false, true, false, false, true, true, false, false, true, true, true, false, false, true, true, true] C7)) (some [2, 5, 42, 43, 53, 54, 55]) (K7_9 lp jn)
noncomputable def K7_11 (lp : Loop) (jn : Join) : Kont := kblock 3 none (K7_10 lp jn)
noncomputable def J7_1' (lp : Loop) (jn : Join) (x1 : Int) (x2 : Nat) (h : AHeap) : Res := jn (codeJ Try.prog Nt lp jn 70 (nat' [true, true] A7) (cat [true, true] C7)) (envOf [(1, (.int .i64 x1)), (2, (.ptr x2 0))]) h K7
noncomputable def J7_1 (x1 : Int) (x2 : Nat) (h : AHeap) : Res := J7_1' aloop (fun s => s) x1 x2 h
noncomputable def J7_2' (lp : Loop) (jn : Join) (x1 : Int) (x2 : Nat) (x24 : Bool) (h : AHeap) : Res := jn (codeJ Try.prog Nt lp jn 70 (nat' [true, true, false, true] A7) (cat [true, true, false, true] C7)) (envOf [(1, (.int .i64 x1)), (2, (.ptr x2 0)), (24, (.bool x24))]) h (K7_1 lp jn)
noncomputable def J7_2 (x1 : Int) (x2 : Nat) (x24 : Bool) (h : AHeap) : Res := J7_2' aloop (fun s => s) x1 x2 x24 h
noncomputable def J7_3' (lp : Loop) (jn : Join) (x1 : Int) (x2 : Nat) (h : AHeap) : Res := jn (codeJ Try.prog Nt lp jn 70 (nat' [true, true, true] A7) (cat [true, true, true] C7)) (envOf [(1, (.int .i64 x1)), (2, (.ptr x2 0))]) h K7
noncomputable def J7_3 (x1 : Int) (x2 : Nat) (h : AHeap) : Res := J7_3' aloop (fun s => s) x1 x2 h
noncomputable def J7_4' (lp : Loop) (jn : Join) (x2 : Nat) (x5 : AV) (x40 : Bool) (h : AHeap) : Res := jn (codeJ Try.prog Nt lp jn 70 (nat' [true, true, true, true, false, true] A7) (cat [true, true, true, true, false, true] C7)) (envOf [(2, (.ptr x2 0)), (5, x5), (40, (.bool x40))]) h (K7_2 lp jn)
noncomputable def J7_4 (x2 : Nat) (x5 : AV) (x40 : Bool) (h : AHeap) : Res := J7_4' aloop (fun s => s) x2 x5 x40 h
noncomputable def J7_5' (lp : Loop) (jn : Join) (x2 : Nat) (x5 : AV) (h : AHeap) : Res := jn (codeJ Try.prog Nt lp jn 70 (nat' [true, true, true, true, true] A7) (cat [true, true, true, true, true] C7)) (envOf [(2, (.ptr x2 0)), (5, x5)]) h K7
noncomputable def J7_5 (x2 : Nat) (x5 : AV) (h : AHeap) : Res := J7_5' aloop (fun s => s) x2 x5 h
noncomputable def J7_6' (lp : Loop) (jn : Join) (x2 : Nat) (x5 : AV) (x42 : Int) (x43 : Int) (h : AHeap) : Res := lp (some [2, 5, 42, 43]) (codeJ Try.prog Nt lp jn 70 (nat' [true, true, true, true, true, false, true, false, false] A7) (cat [true, true, true, true, true, false, true, false, false] C7)) (envOf [(2, (.ptr x2 0)), (5, x5), (42, (.int .i64 x42)), (43, (.int .i64 x43))]) h (K7_4 lp jn)
noncomputable def J7_6 (x2 : Nat) (x5 : AV) (x42 : Int) (x43 : Int) (h : AHeap) : Res := J7_6' aloop (fun s => s) x2 x5 x42 x43 h
noncomputable def J7_7' (lp : Loop) (jn : Join) (x2 : Nat) (x5 : AV) (x42 : Int) (x43 : Int) (h : AHeap) : Res := jn (codeJ Try.prog Nt lp jn 70 (nat' [true, true, true, true, true, false, true, false, false, true, true] A7) (cat [true, true, true, true, true, false, true, false, false, true, true] C7)) (envOf [(2, (.ptr x2 0)), (5, x5), (42, (.int .i64 x42)), (43, (.int .i64 x43))]) h (K7_5 lp jn)
noncomputable def J7_7 (x2 : Nat) (x5 : AV) (x42 : Int) (x43 : Int) (h : AHeap) : Res := J7_7' aloop (fun s => s) x2 x5 x42 x43 h
noncomputable def J7_8' (lp : Loop) (jn : Join)  (h : AHeap) : Res := jn (codeJ Try.prog Nt lp jn 70 (nat' [true, true, true, true, true, true] A7) (cat [true, true, true, true, true, true] C7)) (envOf []) h K7
noncomputable def J7_8  (h : AHeap) : Res := J7_8' aloop (fun s => s)  h
noncomputable def J7_9' (lp : Loop) (jn : Join) (x2 : Nat) (x5 : AV) (x42 : Int) (x43 : Int) (h : AHeap) : Res := jn (codeJ Try.prog Nt lp jn 70 (nat' [true, true, true, true, true, false, true, false, false, true, true, true] A7) (cat [true, true, true, true, true, false, true, false, false, true, true, true] C7)) (envOf [(2, (.ptr x2 0)), (5, x5), (42, (.int .i64 x42)), (43, (.int .i64 x43))]) h (K7_5 lp jn)
noncomputable def J7_9 (x2 : Nat) (x5 : AV) (x42 : Int) (x43 : Int) (h : AHeap) : Res := J7_9' aloop (fun s => s) x2 x5 x42 x43 h
noncomputable def J7_10' (lp : Loop) (jn : Join) (x2 : Nat) (x5 : AV) (x6 : Int) (x42 : Int) (x43 : Int) (h : AHeap) : Res := jn (codeJ Try.prog Nt lp jn 70 (nat' [true, true, true, true, true, false, true, false, false, true, true, false, false, true, true] A7) (cat [true, true, true, true, true, false, true, false, false, true, true, false, false, true, true] C7)) (envOf [(2, (.ptr x2 0)), (5, x5), (6, (.int .i64 x6)), (42, (.int .i64 x42)), (43, (.int .i64 x43))]) h (K7_7 lp jn)
noncomputable def J7_10 (x2 : Nat) (x5 : AV) (x6 : Int) (x42 : Int) (x43 : Int) (h : AHeap) : Res := J7_10' aloop (fun s => s) x2 x5 x6 x42 x43 h
noncomputable def J7_11' (lp : Loop) (jn : Join) (x2 : Nat) (x5 : AV) (x42 : Int) (x43 : Int) (x53 : AV) (x54 : Int) (x55 : Int) (h : AHeap) : Res := lp (some [2, 5, 42, 43, 53, 54, 55]) (codeJ Try.prog Nt lp jn 70 (nat' [true, true, true, true, true, false, true, false, false, true, true, false, false, true, true, true, false, false] A7) (cat [true, true, true, true, true, false, true, false, false, true, true, false, false, true, true, true, false, false] C7)) (envOf [(2, (.ptr x2 0)), (5, x5), (42, (.int .i64 x42)), (43, (.int .i64 x43)), (53, x53), (54, (.int .i64 x54)), (55, (.int .i64 x55))]) h (K7_8 lp jn)
noncomputable def J7_11 (x2 : Nat) (x5 : AV) (x42 : Int) (x43 : Int) (x53 : AV) (x54 : Int) (x55 : Int) (h : AHeap) : Res := J7_11' aloop (fun s => s) x2 x5 x42 x43 x53 x54 x55 h
noncomputable def J7_12' (lp : Loop) (jn : Join) (x2 : Nat) (x5 : AV) (x42 : Int) (x43 : Int) (x53 : AV) (x54 : Int) (x55 : Int) (h : AHeap) : Res := jn (codeJ Try.prog Nt lp jn 70 (nat' [true, true, true, true, true, false, true, false, false, true, true, false, false, true, true, true, false, false, true, true] A7) (cat [true, true, true, true, true, false, true, false, false, true, true, false, false, true, true, true, false, false, true, true] C7)) (envOf [(2, (.ptr x2 0)), (5, x5), (42, (.int .i64 x42)), (43, (.int .i64 x43)), (53, x53), (54, (.int .i64 x54)), (55, (.int .i64 x55))]) h (K7_9 lp jn)
noncomputable def J7_12 (x2 : Nat) (x5 : AV) (x42 : Int) (x43 : Int) (x53 : AV) (x54 : Int) (x55 : Int) (h : AHeap) : Res := J7_12' aloop (fun s => s) x2 x5 x42 x43 x53 x54 x55 h
noncomputable def J7_13' (lp : Loop) (jn : Join) (x2 : Nat) (x5 : AV) (x42 : Int) (x43 : Int) (x53 : AV) (x54 : Int) (x55 : Int) (x67 : Bool) (h : AHeap) : Res := jn (codeJ Try.prog Nt lp jn 70 (nat' [true, true, true, true, true, false, true, false, false, true, true, false, false, true, true, true, false, false, true, true, false, false, true, true] A7) (cat [true, true, true, true, true, false, true, false, false, true, true, false, false, true, true, true, false, false, true, true, false, false, true, true] C7)) (envOf [(2, (.ptr x2 0)), (5, x5), (42, (.int .i64 x42)), (43, (.int .i64 x43)), (53, x53), (54, (.int .i64 x54)), (55, (.int .i64 x55)), (67, (.bool x67))]) h (K7_11 lp jn)
noncomputable def J7_13 (x2 : Nat) (x5 : AV) (x42 : Int) (x43 : Int) (x53 : AV) (x54 : Int) (x55 : Int) (x67 : Bool) (h : AHeap) : Res := J7_13' aloop (fun s => s) x2 x5 x42 x43 x53 x54 x55 x67 h
noncomputable def J7_14' (lp : Loop) (jn : Join) (x2 : Nat) (x5 : AV) (x42 : Int) (x43 : Int) (x53 : AV) (x54 : Int) (x55 : Int) (h : AHeap) : Res := jn (codeJ Try.prog Nt lp jn 70 (nat' [true, true, true, true, true, false, true, false, false, true, true, false, false, true, true, true, false, false, true, true, true] A7) (cat [true, true, true, true, true, false, true, false, false, true, true, false, false, true, true, true, false, false, true, true, true] C7)) (envOf [(2, (.ptr x2 0)), (5, x5), (42, (.int .i64 x42)), (43, (.int .i64 x43)), (53, x53), (54, (.int .i64 x54)), (55, (.int .i64 x55))]) h (K7_9 lp jn)
noncomputable def J7_14 (x2 : Nat) (x5 : AV) (x42 : Int) (x43 : Int) (x53 : AV) (x54 : Int) (x55 : Int) (h : AHeap) : Res := J7_14' aloop (fun s => s) x2 x5 x42 x43 x53 x54 x55 h
theorem J7_1_g (lp : Loop) (jn : Join) (x1 : Int) (x2 : Nat) (h : AHeap) : codeJ Try.prog Nt lp jn 70 (nat' [true, true] A7) (cat [true, true] C7) (envOf [(1, (.int .i64 x1)), (2, (.ptr x2 0))]) h K7 = (gv (aload true 11 (.ptr x2 0) h) fun v7 => gr (acall Try.prog Nt 17 [v7] h) fun r8 h9 => gB r8 fun b10 => gi (!b10) (J7_2' lp jn x1 x2 true h9) (gi (decide (x1 < 0)) (J7_2' lp jn x1 x2 true h9) (gv (aload false 1 (.ptr x2 8) h9) fun v11 => gv (alenS v11) fun m12 => J7_2' lp jn x1 x2 (decide (x1 ≥ (m12 : Int))) h9))) := by kernel_rfl
theorem J7_1_eq (x1 : Int) (x2 : Nat) (h : AHeap) : J7_1 x1 x2 h = (gv (aload true 11 (.ptr x2 0) h) fun v7 => gr (acall Try.prog Nt 17 [v7] h) fun r8 h9 => gB r8 fun b10 => gi (!b10) (J7_2 x1 x2 true h9) (gi (decide (x1 < 0)) (J7_2 x1 x2 true h9) (gv (aload false 1 (.ptr x2 8) h9) fun v11 => gv (alenS v11) fun m12 => J7_2 x1 x2 (decide (x1 ≥ (m12 : Int))) h9))) := J7_1_g aloop (fun s => s) x1 x2 h
theorem J7_2_g (lp : Loop) (jn : Join) (x1 : Int) (x2 : Nat) (x24 : Bool) (h : AHeap) : codeJ Try.prog Nt lp jn 70 (nat' [true, true, false, true] A7) (cat [true, true, false, true] C7) (envOf [(1, (.int .i64 x1)), (2, (.ptr x2 0)), (24, (.bool x24))]) h (K7_1 lp jn) = (gc x24 (some ((.bool true), h)) (J7_3' lp jn x1 x2 h)) := by kernel_rfl
theorem J7_2_eq (x1 : Int) (x2 : Nat) (x24 : Bool) (h : AHeap) : J7_2 x1 x2 x24 h = (gc x24 (some ((.bool true), h)) (J7_3 x1 x2 h)) := J7_2_g aloop (fun s => s) x1 x2 x24 h
theorem J7_3_g (lp : Loop) (jn : Join) (x1 : Int) (x2 : Nat) (h : AHeap) : codeJ Try.prog Nt lp jn 70 (nat' [true, true, true] A7) (cat [true, true, true] C7) (envOf [(1, (.int .i64 x1)), (2, (.ptr x2 0))]) h K7 = (gv (aload true 11 (.ptr x2 0) h) fun v13 => gr (acall Try.prog Nt 18 [v13, (.int .i64 x1)] h) fun r14 h15 => gv (alenS r14) fun m16 => gv (aload false 1 (.ptr x2 8) h15) fun v17 => gv (alenS v17) fun m18 => gi ((m16 : Int) != (m18 : Int)) (J7_4' lp jn x2 r14 true h15) (gv (aixS 1 r14 x1) fun v19 => gv (aload false 1 v19 h15) fun v20 => gB v20 fun b21 => J7_4' lp jn x2 r14 (!b21) h15)) := by kernel_rfl
theorem J7_3_eq (x1 : Int) (x2 : Nat) (h : AHeap) : J7_3 x1 x2 h = (gv (aload true 11 (.ptr x2 0) h) fun v13 => gr (acall Try.prog Nt 18 [v13, (.int .i64 x1)] h) fun r14 h15 => gv (alenS r14) fun m16 => gv (aload false 1 (.ptr x2 8) h15) fun v17 => gv (alenS v17) fun m18 => gi ((m16 : Int) != (m18 : Int)) (J7_4 x2 r14 true h15) (gv (aixS 1 r14 x1) fun v19 => gv (aload false 1 v19 h15) fun v20 => gB v20 fun b21 => J7_4 x2 r14 (!b21) h15)) := J7_3_g aloop (fun s => s) x1 x2 h
theorem J7_4_g (lp : Loop) (jn : Join) (x2 : Nat) (x5 : AV) (x40 : Bool) (h : AHeap) : codeJ Try.prog Nt lp jn 70 (nat' [true, true, true, true, false, true] A7) (cat [true, true, true, true, false, true] C7) (envOf [(2, (.ptr x2 0)), (5, x5), (40, (.bool x40))]) h (K7_2 lp jn) = (gc x40 (some ((.bool false), h)) (J7_5' lp jn x2 x5 h)) := by kernel_rfl
theorem J7_4_eq (x2 : Nat) (x5 : AV) (x40 : Bool) (h : AHeap) : J7_4 x2 x5 x40 h = (gc x40 (some ((.bool false), h)) (J7_5 x2 x5 h)) := J7_4_g aloop (fun s => s) x2 x5 x40 h
theorem J7_5_g (lp : Loop) (jn : Join) (x2 : Nat) (x5 : AV) (h : AHeap) : codeJ Try.prog Nt lp jn 70 (nat' [true, true, true, true, true] A7) (cat [true, true, true, true, true] C7) (envOf [(2, (.ptr x2 0)), (5, x5)]) h K7 = (gv (alenS x5) fun m22 => J7_6' lp jn x2 x5 (m22 : Int) 0 h) := by kernel_rfl
theorem J7_5_eq (x2 : Nat) (x5 : AV) (h : AHeap) : J7_5 x2 x5 h = (gv (alenS x5) fun m22 => J7_6 x2 x5 (m22 : Int) 0 h) := J7_5_g aloop (fun s => s) x2 x5 h
theorem J7_6_g (lp : Loop) (jn : Join) (x2 : Nat) (x5 : AV) (x42 : Int) (x43 : Int) (h : AHeap) : codeJ Try.prog Nt lp jn 70 (nat' [true, true, true, true, true, false, true, false, false] A7) (cat [true, true, true, true, true, false, true, false, false] C7) (envOf [(2, (.ptr x2 0)), (5, x5), (42, (.int .i64 x42)), (43, (.int .i64 x43))]) h (kloop (lp (some [2, 5, 42, 43]) (codeJ Try.prog Nt lp jn 70 (nat' [true, true, true, true, true, false, true, false, false] A7) (cat [true, true, true, true, true, false, true, false, false] C7))) (some [2, 5, 42, 43]) (K7_4 lp jn)) = (gc (decide (x43 < x42)) (J7_7' lp jn x2 x5 x42 x43 h) (J7_8' lp jn h)) := by kernel_rfl
theorem J7_6_eq (x2 : Nat) (x5 : AV) (x42 : Int) (x43 : Int) (h : AHeap) : J7_6 x2 x5 x42 x43 h = (gc (decide (x43 < x42)) (J7_7 x2 x5 x42 x43 h) (J7_8 h)) := (aloop_at (some [2, 5, 42, 43]) (nat' [true, true, true, true, true, false, true, false, false] A7) (cat [true, true, true, true, true, false, true, false, false] C7) (envOf [(2, (.ptr x2 0)), (5, x5), (42, (.int .i64 x42)), (43, (.int .i64 x43))]) h (K7_4 aloop (fun s => s))).trans (J7_6_g aloop (fun s => s) x2 x5 x42 x43 h)
theorem J7_7_g (lp : Loop) (jn : Join) (x2 : Nat) (x5 : AV) (x42 : Int) (x43 : Int) (h : AHeap) : codeJ Try.prog Nt lp jn 70 (nat' [true, true, true, true, true, false, true, false, false, true, true] A7) (cat [true, true, true, true, true, false, true, false, false, true, true] C7) (envOf [(2, (.ptr x2 0)), (5, x5), (42, (.int .i64 x42)), (43, (.int .i64 x43))]) h (K7_5 lp jn) = (gv (aixS 1 x5 x43) fun v23 => gv (aload false 1 v23 h) fun v24 => gB v24 fun b25 => gc (!b25) (J7_9' lp jn x2 x5 x42 x43 h) (J7_10' lp jn x2 x5 x43 x42 x43 h)) := by kernel_rfl
theorem J7_7_eq (x2 : Nat) (x5 : AV) (x42 : Int) (x43 : Int) (h : AHeap) : J7_7 x2 x5 x42 x43 h = (gv (aixS 1 x5 x43) fun v23 => gv (aload false 1 v23 h) fun v24 => gB v24 fun b25 => gc (!b25) (J7_9 x2 x5 x42 x43 h) (J7_10 x2 x5 x43 x42 x43 h)) := J7_7_g aloop (fun s => s) x2 x5 x42 x43 h
theorem J7_8_g (lp : Loop) (jn : Join)  (h : AHeap) : codeJ Try.prog Nt lp jn 70 (nat' [true, true, true, true, true, true] A7) (cat [true, true, true, true, true, true] C7) (envOf []) h K7 = (some ((.bool true), h)) := by kernel_rfl
theorem J7_8_eq  (h : AHeap) : J7_8  h = (some ((.bool true), h)) := J7_8_g aloop (fun s => s)  h
theorem J7_9_g (lp : Loop) (jn : Join) (x2 : Nat) (x5 : AV) (x42 : Int) (x43 : Int) (h : AHeap) : codeJ Try.prog Nt lp jn 70 (nat' [true, true, true, true, true, false, true, false, false, true, true, true] A7) (cat [true, true, true, true, true, false, true, false, false, true, true, true] C7) (envOf [(2, (.ptr x2 0)), (5, x5), (42, (.int .i64 x42)), (43, (.int .i64 x43))]) h (K7_5 lp jn) = (J7_6' lp jn x2 x5 x42 (IntKind.i64.wrap (x43 + 1)) h) := by kernel_rfl
theorem J7_9_eq (x2 : Nat) (x5 : AV) (x42 : Int) (x43 : Int) (h : AHeap) : J7_9 x2 x5 x42 x43 h = (J7_6 x2 x5 x42 (IntKind.i64.wrap (x43 + 1)) h) := J7_9_g aloop (fun s => s) x2 x5 x42 x43 h
theorem J7_10_g (lp : Loop) (jn : Join) (x2 : Nat) (x5 : AV) (x6 : Int) (x42 : Int) (x43 : Int) (h : AHeap) : codeJ Try.prog Nt lp jn 70 (nat' [true, true, true, true, true, false, true, false, false, true, true, false, false, true, true] A7) (cat [true, true, true, true, true, false, true, false, false, true, true, false, false, true, true] C7) (envOf [(2, (.ptr x2 0)), (5, x5), (6, (.int .i64 x6)), (42, (.int .i64 x42)), (43, (.int .i64 x43))]) h (K7_7 lp jn) = (gv (aload true 11 (.ptr x2 0) h) fun v26 => gr (acall Try.prog Nt 18 [v26, (.int .i64 x6)] h) fun r27 h28 => gv (alenS r27) fun m29 => J7_11' lp jn x2 x5 x42 x43 r27 (m29 : Int) 0 h28) := by kernel_rfl
theorem J7_10_eq (x2 : Nat) (x5 : AV) (x6 : Int) (x42 : Int) (x43 : Int) (h : AHeap) : J7_10 x2 x5 x6 x42 x43 h = (gv (aload true 11 (.ptr x2 0) h) fun v26 => gr (acall Try.prog Nt 18 [v26, (.int .i64 x6)] h) fun r27 h28 => gv (alenS r27) fun m29 => J7_11 x2 x5 x42 x43 r27 (m29 : Int) 0 h28) := J7_10_g aloop (fun s => s) x2 x5 x6 x42 x43 h
theorem J7_11_g (lp : Loop) (jn : Join) (x2 : Nat) (x5 : AV) (x42 : Int) (x43 : Int) (x53 : AV) (x54 : Int) (x55 : Int) (h : AHeap) : codeJ Try.prog Nt lp jn 70 (nat' [true, true, true, true, true, false, true, false, false, true, true, false, false, true, true, true, false, false] A7) (cat [true, true, true, true, true, false, true, false, false, true, true, false, false, true, true, true, false, false] C7) (envOf [(2, (.ptr x2 0)), (5, x5), (42, (.int .i64 x42)), (43, (.int .i64 x43)), (53, x53), (54, (.int .i64 x54)), (55, (.int .i64 x55))]) h (kloop (lp (some [2, 5, 42, 43, 53, 54, 55]) (codeJ Try.prog Nt lp jn 70 (nat' [true, true, true, true, true, false, true, false, false, true, true, false, false, true, true, true, false, false] A7) (cat [true, true, true, true, true, false, true, false, false, true, true, false, false, true, true, true, false, false] C7))) (some [2, 5, 42, 43, 53, 54, 55]) (K7_8 lp jn)) = (gc (decide (x55 < x54)) (J7_12' lp jn x2 x5 x42 x43 x53 x54 x55 h) (J7_9' lp jn x2 x5 x42 x43 h)) := by kernel_rfl
theorem J7_11_eq (x2 : Nat) (x5 : AV) (x42 : Int) (x43 : Int) (x53 : AV) (x54 : Int) (x55 : Int) (h : AHeap) : J7_11 x2 x5 x42 x43 x53 x54 x55 h = (gc (decide (x55 < x54)) (J7_12 x2 x5 x42 x43 x53 x54 x55 h) (J7_9 x2 x5 x42 x43 h)) := (aloop_at (some [2, 5, 42, 43, 53, 54, 55]) (nat' [true, true, true, true, true, false, true, false, false, true, true, false, false, true, true, true, false, false] A7) (cat [true, true, true, true, true, false, true, false, false, true, true, false, false, true, true, true, false, false] C7) (envOf [(2, (.ptr x2 0)), (5, x5), (42, (.int .i64 x42)), (43, (.int .i64 x43)), (53, x53), (54, (.int .i64 x54)), (55, (.int .i64 x55))]) h (K7_8 aloop (fun s => s))).trans (J7_11_g aloop (fun s => s) x2 x5 x42 x43 x53 x54 x55 h)
theorem J7_12_g (lp : Loop) (jn : Join) (x2 : Nat) (x5 : AV) (x42 : Int) (x43 : Int) (x53 : AV) (x54 : Int) (x55 : Int) (h : AHeap) : codeJ Try.prog Nt lp jn 70 (nat' [true, true, true, true, true, false, true, false, false, true, true, false, false, true, true, true, false, false, true, true] A7) (cat [true, true, true, true, true, false, true, false, false, true, true, false, false, true, true, true, false, false, true, true] C7) (envOf [(2, (.ptr x2 0)), (5, x5), (42, (.int .i64 x42)), (43, (.int .i64 x43)), (53, x53), (54, (.int .i64 x54)), (55, (.int .i64 x55))]) h (K7_9 lp jn) = (gv (aixS 1 x53 x55) fun v30 => gv (aload false 1 v30 h) fun v31 => gB v31 fun b32 => gi b32 (gv (aixS 1 x5 x55) fun v33 => gv (aload false 1 v33 h) fun v34 => gB v34 fun b35 => J7_13' lp jn x2 x5 x42 x43 x53 x54 x55 (!b35) h) (J7_13' lp jn x2 x5 x42 x43 x53 x54 x55 false h)) := by kernel_rfl
theorem J7_12_eq (x2 : Nat) (x5 : AV) (x42 : Int) (x43 : Int) (x53 : AV) (x54 : Int) (x55 : Int) (h : AHeap) : J7_12 x2 x5 x42 x43 x53 x54 x55 h = (gv (aixS 1 x53 x55) fun v30 => gv (aload false 1 v30 h) fun v31 => gB v31 fun b32 => gi b32 (gv (aixS 1 x5 x55) fun v33 => gv (aload false 1 v33 h) fun v34 => gB v34 fun b35 => J7_13 x2 x5 x42 x43 x53 x54 x55 (!b35) h) (J7_13 x2 x5 x42 x43 x53 x54 x55 false h)) := J7_12_g aloop (fun s => s) x2 x5 x42 x43 x53 x54 x55 h
theorem J7_13_g (lp : Loop) (jn : Join) (x2 : Nat) (x5 : AV) (x42 : Int) (x43 : Int) (x53 : AV) (x54 : Int) (x55 : Int) (x67 : Bool) (h : AHeap) : codeJ Try.prog Nt lp jn 70 (nat' [true, true, true, true, true, false, true, false, false, true, true, false, false, true, true, true, false, false, true, true, false, false, true, true] A7) (cat [true, true, true, true, true, false, true, false, false, true, true, false, false, true, true, true, false, false, true, true, false, false, true, true] C7) (envOf [(2, (.ptr x2 0)), (5, x5), (42, (.int .i64 x42)), (43, (.int .i64 x43)), (53, x53), (54, (.int .i64 x54)), (55, (.int .i64 x55)), (67, (.bool x67))]) h (K7_11 lp jn) = (gc x67 (some ((.bool false), h)) (J7_14' lp jn x2 x5 x42 x43 x53 x54 x55 h)) := by kernel_rfl
theorem J7_13_eq (x2 : Nat) (x5 : AV) (x42 : Int) (x43 : Int) (x53 : AV) (x54 : Int) (x55 : Int) (x67 : Bool) (h : AHeap) : J7_13 x2 x5 x42 x43 x53 x54 x55 x67 h = (gc x67 (some ((.bool false), h)) (J7_14 x2 x5 x42 x43 x53 x54 x55 h)) := J7_13_g aloop (fun s => s) x2 x5 x42 x43 x53 x54 x55 x67 h
theorem J7_14_g (lp : Loop) (jn : Join) (x2 : Nat) (x5 : AV) (x42 : Int) (x43 : Int) (x53 : AV) (x54 : Int) (x55 : Int) (h : AHeap) : codeJ Try.prog Nt lp jn 70 (nat' [true, true, true, true, true, false, true, false, false, true, true, false, false, true, true, true, false, false, true, true, true] A7) (cat [true, true, true, true, true, false, true, false, false, true, true, false, false, true, true, true, false, false, true, true, true] C7) (envOf [(2, (.ptr x2 0)), (5, x5), (42, (.int .i64 x42)), (43, (.int .i64 x43)), (53, x53), (54, (.int .i64 x54)), (55, (.int .i64 x55))]) h (K7_9 lp jn) = (J7_11' lp jn x2 x5 x42 x43 x53 x54 (IntKind.i64.wrap (x55 + 1)) h) := by kernel_rfl
theorem J7_14_eq (x2 : Nat) (x5 : AV) (x42 : Int) (x43 : Int) (x53 : AV) (x54 : Int) (x55 : Int) (h : AHeap) : J7_14 x2 x5 x42 x43 x53 x54 x55 h = (J7_11 x2 x5 x42 x43 x53 x54 (IntKind.i64.wrap (x55 + 1)) h) := J7_14_g aloop (fun s => s) x2 x5 x42 x43 x53 x54 x55 h
theorem E7_g (lp : Loop) (jn : Join) (x0 : AV) (x1 : Int) (h : AHeap) : codeJ Try.prog Nt lp jn 70 (Nt 7) C7 (args [x0, (.int .i64 x1)]) h K7 = (gv (acells x0) fun cs1 => gN h cs1 fun b2 h3 => gr (acall Try.prog Nt 10 [] h3) fun r4 h5 => gB r4 fun b6 => gc (!b6) (some ((.bool false), h5)) (J7_1' lp jn x1 b2 h5)) := by kernel_rfl
theorem E7 (x0 : AV) (x1 : Int) (h : AHeap) : acall Try.prog Nt 7 [x0, (.int .i64 x1)] h = (gv (acells x0) fun cs1 => gN h cs1 fun b2 h3 => gr (acall Try.prog Nt 10 [] h3) fun r4 h5 => gB r4 fun b6 => gc (!b6) (some ((.bool false), h5)) (J7_1 x1 b2 h5)) := (acall_at Try.func7 _ h 70 rfl (c := C7) rfl).trans (E7_g aloop (fun s => s) x0 x1 h)
end Go.Ab
end
section
/-
  SoundReach.
-/
namespace Go.Ab
open Go.Proofs

def bits (l : List Bool) : List AV := l.map .bool
def encB (b : Bool) : List AV := [.bool b]
theorem bits_eq : ∀ l : List Bool, bits l = l.flatMap encB
  | [] => rfl
  | b :: l => by simp only [bits, List.map_cons, List.flatMap_cons, encB, List.singleton_append]; rw [← bits_eq l]; rfl
theorem bits_get (l : List Bool) (k : Nat) (hk : k < l.length) : (bits l)[k]? = some (.bool l[k]) := by simp [bits, hk]
theorem bits_set (l : List Bool) (k : Nat) (b : Bool) : (bits l).set k (.bool b) = bits (l.set k b) := by simp [bits, List.map_set]
theorem bits_len (l : List Bool) : (bits l).length = l.length := by simp [bits]
theorem aixS_at {b o n sz i : Nat} (hi : i < n) : aixS sz (.sl b o n sz) (i : Int) = some (.ptr b (o + i * sz)) := by
  simp [aixS, hi]
/-- A port's partition, by the number. -/
def Cfg.at (c : Cfg) (i : Int) : Nat := (c.port i).part.toNat
theorem Cfg.at_lt {c : Cfg} (hg : Good c) {i : Int} (h1 : 0 ≤ i) (h2 : i ≤ (c.ports.length : Int) - 1) : (c.port i).part = (c.at i : Int) ∧ c.at i < c.parts.length := by
  obtain ⟨n, rfl⟩ : ∃ n : Nat, i = n := ⟨i.toNat, by omega⟩
  have hn : n < c.ports.length := by omega
  have e : c.port n = c.ports[n] := by
    unfold Cfg.port
    rw [Int.toNat_natCast]
    simp [List.getD, hn]
  have := hg.ports _ (List.getElem_mem hn)
  rw [← e] at this
  simp only [Port.ok, Bool.and_eq_true, decide_eq_true_eq] at this
  unfold Cfg.at
  omega
def pstep (c : Cfg) (out : List Bool) (r : Route) : List Bool := if out.getD (c.at r.src) false then out.set (c.at r.dst) true else out
def pass (c : Cfg) (l : List Route) (out : List Bool) : List Bool := l.foldl (pstep c) out
def passes (c : Cfg) : Nat → List Bool → List Bool
  | 0, out => out
  | k + 1, out => passes c k (pass c c.routes out)
def reach (c : Cfg) (p : Nat) : List Bool := passes c c.parts.length ((List.replicate c.parts.length false).set p true)
theorem pstep_len (c : Cfg) (out : List Bool) (r : Route) : (pstep c out r).length = out.length := by unfold pstep; split <;> simp
theorem pass_len (c : Cfg) : ∀ (l : List Route) (out : List Bool), (pass c l out).length = out.length
  | [], out => rfl
  | r :: l, out => by rw [pass, List.foldl_cons, ← pass, pass_len c l, pstep_len]
theorem passes_len (c : Cfg) : ∀ (k : Nat) (out : List Bool), (passes c k out).length = out.length
  | 0, out => rfl
  | k + 1, out => by rw [passes, passes_len c k, pass_len]

section
variable (c : Cfg) (hg : Good c) (h : AHeap) (p q r : AV) (l : Lists h c p q r)
include hg l
theorem reachIn (i : Nat) (Q : AV → AHeap → Prop) : ∀ (s : List Route) (j : Nat) (out : List Bool) (g : AHeap), out.length = c.parts.length → c.routes.drop j = s →
    (∀ g', Ev (J18_8 h.length (.sl (h.length + 1) 0 c.parts.length 1) (c.parts.length : Int) (i : Int) (h ++ some (.cells false (c.cells p q r)) :: some (.cells false (bits (pass c s out))) :: g')) h Q) →
    Ev (J18_6 h.length (.sl (h.length + 1) 0 c.parts.length 1) (c.parts.length : Int) (i : Int) r (c.routes.length : Int) (j : Int) (h ++ some (.cells false (c.cells p q r)) :: some (.cells false (bits out)) :: g)) h Q := by
  intro s
  induction s with
  | nil =>
    intro j out g ho hs next
    have := drop_nil hs
    rw [J18_6_eq, decide_eq_false (by omega)]
    simp (dsimp := false) (implicitDefEqProofs := false) (disch := omega) only [gv_some, gr_some, gI_int, gB_bool, gS_str, gc_t, gc_f, gi_t, gi_f, gN_eq, gf_t, Option.bind_some, Option.bind_none, Option.map_some, acells_agg, acells_int, acells_bool, acells_str, acells_ptr, acells_sl, acells_nilsl, acells_nilptr, acells_iface, acells_niliface, aptr_ptr, anil_ptr, aextract_0, aextract_1, aextract_2, alenS_sl, alenS_nil, apartOf_agg, apart_t, apart_f, astore_ptr, hset_at0, hset_at, List.set_cons_zero, List.set_cons_succ, set_app, set_app0, aload_ptr, splice_eq, List.drop_nil, List.append_nil, isCell_int, isCell_bool, isCell_str, isCell_ptr, isCell_sl, isCell_nilsl, isCell_nilptr, isCell_iface, isCell_niliface, List.all_cons, List.all_nil, Bool.and_self, hget_at0, hget_at, len_app, List.length_cons, List.length_nil, get_app, get_app0, List.getElem?_cons_zero, List.getElem?_cons_succ, join_some, List.append_assoc, List.cons_append, List.nil_append, Nat.zero_add, Nat.add_zero, chkRd_eq, chkAl_blk, if_true, if_false, Bool.false_eq_true, List.drop_succ_cons, List.drop_zero, List.take_succ_cons, List.take_zero, Bool.and_true, Bool.true_and, decide_true, decide_false, wrap64_id, aixG_eq, Nat.reduceAdd, Nat.reduceSub, Nat.reduceMul, Nat.reduceLeDiff, Nat.reduceLT, Int.reduceAdd, Int.reduceSub, Int.reduceMul, Int.reduceNeg, Int.reduceLT, Int.reduceLE, Int.reduceGT, Int.reduceGE, Int.reduceToNat, ↓reduceIte, and_self, true_and, and_true]
    exact next g
  | cons a s ih =>
    intro j out g ho hs next
    obtain ⟨hj, ha, hs'⟩ := drop_cons hs
    have hn := hg.nr
    obtain ⟨r1, r2, r3, r4⟩ := Route.rng (hg.routes a (by rw [← ha]; exact List.getElem_mem hj))
    obtain ⟨sp, sl⟩ := Cfg.at_lt hg r1 r2
    obtain ⟨tp, tl⟩ := Cfg.at_lt hg r3 r4
    obtain ⟨eb, eo, ix, ea⟩ := l.routes.elem Route.len j hj
    rw [ha] at ea
    obtain ⟨fb1, fo, fx, fa⟩ := portAt l.ports r1 r2
    obtain ⟨tb, to, tx, ta⟩ := portAt l.ports r3 r4
    rw [Port.stored] at fa ta
    rw [J18_6_eq, decide_eq_true (by omega)]
    simp (dsimp := false) (implicitDefEqProofs := false) (disch := omega) only [gv_some, gr_some, gI_int, gB_bool, gS_str, gc_t, gc_f, gi_t, gi_f, gN_eq, gf_t, Option.bind_some, Option.bind_none, Option.map_some, acells_agg, acells_int, acells_bool, acells_str, acells_ptr, acells_sl, acells_nilsl, acells_nilptr, acells_iface, acells_niliface, aptr_ptr, anil_ptr, aextract_0, aextract_1, aextract_2, alenS_sl, alenS_nil, apartOf_agg, apart_t, apart_f, astore_ptr, hset_at0, hset_at, List.set_cons_zero, List.set_cons_succ, set_app, set_app0, aload_ptr, splice_eq, List.drop_nil, List.append_nil, isCell_int, isCell_bool, isCell_str, isCell_ptr, isCell_sl, isCell_nilsl, isCell_nilptr, isCell_iface, isCell_niliface, List.all_cons, List.all_nil, Bool.and_self, hget_at0, hget_at, len_app, List.length_cons, List.length_nil, get_app, get_app0, List.getElem?_cons_zero, List.getElem?_cons_succ, join_some, List.append_assoc, List.cons_append, List.nil_append, Nat.zero_add, Nat.add_zero, chkRd_eq, chkAl_blk, if_true, if_false, Bool.false_eq_true, List.drop_succ_cons, List.drop_zero, List.take_succ_cons, List.take_zero, Bool.and_true, Bool.true_and, decide_true, decide_false, wrap64_id, aixG_eq, Nat.reduceAdd, Nat.reduceSub, Nat.reduceMul, Nat.reduceLeDiff, Nat.reduceLT, Int.reduceAdd, Int.reduceSub, Int.reduceMul, Int.reduceNeg, Int.reduceLT, Int.reduceLE, Int.reduceGT, Int.reduceGE, Int.reduceToNat, ↓reduceIte, and_self, true_and, and_true, J18_7_eq]
    refine Ev.val ix ?_
    refine Ev.val ((ea.app _).loadN 2 rfl) ?_
    simp (dsimp := false) (implicitDefEqProofs := false) (disch := omega) only [gv_some, gr_some, gI_int, gB_bool, gS_str, gc_t, gc_f, gi_t, gi_f, gN_eq, gf_t, Option.bind_some, Option.bind_none, Option.map_some, acells_agg, acells_int, acells_bool, acells_str, acells_ptr, acells_sl, acells_nilsl, acells_nilptr, acells_iface, acells_niliface, aptr_ptr, anil_ptr, aextract_0, aextract_1, aextract_2, alenS_sl, alenS_nil, apartOf_agg, apart_t, apart_f, astore_ptr, hset_at0, hset_at, List.set_cons_zero, List.set_cons_succ, set_app, set_app0, aload_ptr, splice_eq, List.drop_nil, List.append_nil, isCell_int, isCell_bool, isCell_str, isCell_ptr, isCell_sl, isCell_nilsl, isCell_nilptr, isCell_iface, isCell_niliface, List.all_cons, List.all_nil, Bool.and_self, hget_at0, hget_at, len_app, List.length_cons, List.length_nil, get_app, get_app0, List.getElem?_cons_zero, List.getElem?_cons_succ, join_some, List.append_assoc, List.cons_append, List.nil_append, Nat.zero_add, Nat.add_zero, chkRd_eq, chkAl_blk, if_true, if_false, Bool.false_eq_true, List.drop_succ_cons, List.drop_zero, List.take_succ_cons, List.take_zero, Bool.and_true, Bool.true_and, decide_true, decide_false, wrap64_id, aixG_eq, Nat.reduceAdd, Nat.reduceSub, Nat.reduceMul, Nat.reduceLeDiff, Nat.reduceLT, Int.reduceAdd, Int.reduceSub, Int.reduceMul, Int.reduceNeg, Int.reduceLT, Int.reduceLE, Int.reduceGT, Int.reduceGE, Int.reduceToNat, ↓reduceIte, and_self, true_and, and_true, Route.stored, Cfg.g0, Cfg.g1, Cfg.g2, Cfg.g3, Cfg.g4, Cfg.g5, Cfg.g6, Cfg.g7, Cfg.g8, Cfg.g9, Cfg.g10, Cfg.len, Cfg.take, Cfg.drop, Cfg.s8, Cfg.s9, Cfg.s10, Cfg.s7, Cfg.zero, Nat.le_refl]
    refine Ev.val fx ?_
    simp (dsimp := false) (implicitDefEqProofs := false) (disch := omega) only [gv_some, gr_some, gI_int, gB_bool, gS_str, gc_t, gc_f, gi_t, gi_f, gN_eq, gf_t, Option.bind_some, Option.bind_none, Option.map_some, acells_agg, acells_int, acells_bool, acells_str, acells_ptr, acells_sl, acells_nilsl, acells_nilptr, acells_iface, acells_niliface, aptr_ptr, anil_ptr, aextract_0, aextract_1, aextract_2, alenS_sl, alenS_nil, apartOf_agg, apart_t, apart_f, astore_ptr, hset_at0, hset_at, List.set_cons_zero, List.set_cons_succ, set_app, set_app0, aload_ptr, splice_eq, List.drop_nil, List.append_nil, isCell_int, isCell_bool, isCell_str, isCell_ptr, isCell_sl, isCell_nilsl, isCell_nilptr, isCell_iface, isCell_niliface, List.all_cons, List.all_nil, Bool.and_self, hget_at0, hget_at, len_app, List.length_cons, List.length_nil, get_app, get_app0, List.getElem?_cons_zero, List.getElem?_cons_succ, join_some, List.append_assoc, List.cons_append, List.nil_append, Nat.zero_add, Nat.add_zero, chkRd_eq, chkAl_blk, if_true, if_false, Bool.false_eq_true, List.drop_succ_cons, List.drop_zero, List.take_succ_cons, List.take_zero, Bool.and_true, Bool.true_and, decide_true, decide_false, wrap64_id, aixG_eq, Nat.reduceAdd, Nat.reduceSub, Nat.reduceMul, Nat.reduceLeDiff, Nat.reduceLT, Int.reduceAdd, Int.reduceSub, Int.reduceMul, Int.reduceNeg, Int.reduceLT, Int.reduceLE, Int.reduceGT, Int.reduceGE, Int.reduceToNat, ↓reduceIte, and_self, true_and, and_true]
    refine Ev.val ((fa.app _).load0 1) ?_
    simp (dsimp := false) (implicitDefEqProofs := false) (disch := omega) only [gv_some, gr_some, gI_int, gB_bool, gS_str, gc_t, gc_f, gi_t, gi_f, gN_eq, gf_t, Option.bind_some, Option.bind_none, Option.map_some, acells_agg, acells_int, acells_bool, acells_str, acells_ptr, acells_sl, acells_nilsl, acells_nilptr, acells_iface, acells_niliface, aptr_ptr, anil_ptr, aextract_0, aextract_1, aextract_2, alenS_sl, alenS_nil, apartOf_agg, apart_t, apart_f, astore_ptr, hset_at0, hset_at, List.set_cons_zero, List.set_cons_succ, set_app, set_app0, aload_ptr, splice_eq, List.drop_nil, List.append_nil, isCell_int, isCell_bool, isCell_str, isCell_ptr, isCell_sl, isCell_nilsl, isCell_nilptr, isCell_iface, isCell_niliface, List.all_cons, List.all_nil, Bool.and_self, hget_at0, hget_at, len_app, List.length_cons, List.length_nil, get_app, get_app0, List.getElem?_cons_zero, List.getElem?_cons_succ, join_some, List.append_assoc, List.cons_append, List.nil_append, Nat.zero_add, Nat.add_zero, chkRd_eq, chkAl_blk, if_true, if_false, Bool.false_eq_true, List.drop_succ_cons, List.drop_zero, List.take_succ_cons, List.take_zero, Bool.and_true, Bool.true_and, decide_true, decide_false, wrap64_id, aixG_eq, Nat.reduceAdd, Nat.reduceSub, Nat.reduceMul, Nat.reduceLeDiff, Nat.reduceLT, Int.reduceAdd, Int.reduceSub, Int.reduceMul, Int.reduceNeg, Int.reduceLT, Int.reduceLE, Int.reduceGT, Int.reduceGE, Int.reduceToNat, ↓reduceIte, and_self, true_and, and_true, sp]
    refine Ev.val (aixS_at sl) ?_
    simp (dsimp := false) (implicitDefEqProofs := false) (disch := omega) only [gv_some, gr_some, gI_int, gB_bool, gS_str, gc_t, gc_f, gi_t, gi_f, gN_eq, gf_t, Option.bind_some, Option.bind_none, Option.map_some, acells_agg, acells_int, acells_bool, acells_str, acells_ptr, acells_sl, acells_nilsl, acells_nilptr, acells_iface, acells_niliface, aptr_ptr, anil_ptr, aextract_0, aextract_1, aextract_2, alenS_sl, alenS_nil, apartOf_agg, apart_t, apart_f, astore_ptr, hset_at0, hset_at, List.set_cons_zero, List.set_cons_succ, set_app, set_app0, aload_ptr, splice_eq, List.drop_nil, List.append_nil, isCell_int, isCell_bool, isCell_str, isCell_ptr, isCell_sl, isCell_nilsl, isCell_nilptr, isCell_iface, isCell_niliface, List.all_cons, List.all_nil, Bool.and_self, hget_at0, hget_at, len_app, List.length_cons, List.length_nil, get_app, get_app0, List.getElem?_cons_zero, List.getElem?_cons_succ, join_some, List.append_assoc, List.cons_append, List.nil_append, Nat.zero_add, Nat.add_zero, chkRd_eq, chkAl_blk, if_true, if_false, Bool.false_eq_true, List.drop_succ_cons, List.drop_zero, List.take_succ_cons, List.take_zero, Bool.and_true, Bool.true_and, decide_true, decide_false, wrap64_id, aixG_eq, Nat.reduceAdd, Nat.reduceSub, Nat.reduceMul, Nat.reduceLeDiff, Nat.reduceLT, Int.reduceAdd, Int.reduceSub, Int.reduceMul, Int.reduceNeg, Int.reduceLT, Int.reduceLE, Int.reduceGT, Int.reduceGE, Int.reduceToNat, ↓reduceIte, and_self, true_and, and_true, Nat.mul_one, bits_get out _ (by omega : c.at a.src < out.length)]
    have fin : ∀ out' : List Bool, out' = pstep c out a → ∀ g, Ev (J18_9 h.length (.sl (h.length + 1) 0 c.parts.length 1) (c.parts.length : Int) (i : Int) r (c.routes.length : Int) (j : Int) (h ++ some (.cells false (c.cells p q r)) :: some (.cells false (bits out')) :: g)) h Q := by
      intro out' e g
      rw [J18_9_eq, wsucc (by omega)]
      refine ih (j + 1) out' g (by rw [e, pstep_len, ho]) hs' (fun g' => ?_)
      have := next g'
      rw [pass, List.foldl_cons, ← e] at this
      exact this
    have hgd : out.getD (c.at a.src) false = out[c.at a.src]'(by omega) := by simp [List.getD, show c.at a.src < out.length by omega]
    refine Ev.cnd (fun hb => ?_) fun hb => ?_
    · simp (dsimp := false) (implicitDefEqProofs := false) (disch := omega) only [gv_some, gr_some, gI_int, gB_bool, gS_str, gc_t, gc_f, gi_t, gi_f, gN_eq, gf_t, Option.bind_some, Option.bind_none, Option.map_some, acells_agg, acells_int, acells_bool, acells_str, acells_ptr, acells_sl, acells_nilsl, acells_nilptr, acells_iface, acells_niliface, aptr_ptr, anil_ptr, aextract_0, aextract_1, aextract_2, alenS_sl, alenS_nil, apartOf_agg, apart_t, apart_f, astore_ptr, hset_at0, hset_at, List.set_cons_zero, List.set_cons_succ, set_app, set_app0, aload_ptr, splice_eq, List.drop_nil, List.append_nil, isCell_int, isCell_bool, isCell_str, isCell_ptr, isCell_sl, isCell_nilsl, isCell_nilptr, isCell_iface, isCell_niliface, List.all_cons, List.all_nil, Bool.and_self, hget_at0, hget_at, len_app, List.length_cons, List.length_nil, get_app, get_app0, List.getElem?_cons_zero, List.getElem?_cons_succ, join_some, List.append_assoc, List.cons_append, List.nil_append, Nat.zero_add, Nat.add_zero, chkRd_eq, chkAl_blk, if_true, if_false, Bool.false_eq_true, List.drop_succ_cons, List.drop_zero, List.take_succ_cons, List.take_zero, Bool.and_true, Bool.true_and, decide_true, decide_false, wrap64_id, aixG_eq, Nat.reduceAdd, Nat.reduceSub, Nat.reduceMul, Nat.reduceLeDiff, Nat.reduceLT, Int.reduceAdd, Int.reduceSub, Int.reduceMul, Int.reduceNeg, Int.reduceLT, Int.reduceLE, Int.reduceGT, Int.reduceGE, Int.reduceToNat, ↓reduceIte, and_self, true_and, and_true, Cfg.g0, Cfg.g1, Cfg.g2, Cfg.g3, Cfg.g4, Cfg.g5, Cfg.g6, Cfg.g7, Cfg.g8, Cfg.g9, Cfg.g10, Cfg.len, Cfg.take, Cfg.drop, Cfg.s8, Cfg.s9, Cfg.s10, Cfg.s7, Cfg.zero, Nat.le_refl]
      refine Ev.val tx ?_
      simp (dsimp := false) (implicitDefEqProofs := false) (disch := omega) only [gv_some, gr_some, gI_int, gB_bool, gS_str, gc_t, gc_f, gi_t, gi_f, gN_eq, gf_t, Option.bind_some, Option.bind_none, Option.map_some, acells_agg, acells_int, acells_bool, acells_str, acells_ptr, acells_sl, acells_nilsl, acells_nilptr, acells_iface, acells_niliface, aptr_ptr, anil_ptr, aextract_0, aextract_1, aextract_2, alenS_sl, alenS_nil, apartOf_agg, apart_t, apart_f, astore_ptr, hset_at0, hset_at, List.set_cons_zero, List.set_cons_succ, set_app, set_app0, aload_ptr, splice_eq, List.drop_nil, List.append_nil, isCell_int, isCell_bool, isCell_str, isCell_ptr, isCell_sl, isCell_nilsl, isCell_nilptr, isCell_iface, isCell_niliface, List.all_cons, List.all_nil, Bool.and_self, hget_at0, hget_at, len_app, List.length_cons, List.length_nil, get_app, get_app0, List.getElem?_cons_zero, List.getElem?_cons_succ, join_some, List.append_assoc, List.cons_append, List.nil_append, Nat.zero_add, Nat.add_zero, chkRd_eq, chkAl_blk, if_true, if_false, Bool.false_eq_true, List.drop_succ_cons, List.drop_zero, List.take_succ_cons, List.take_zero, Bool.and_true, Bool.true_and, decide_true, decide_false, wrap64_id, aixG_eq, Nat.reduceAdd, Nat.reduceSub, Nat.reduceMul, Nat.reduceLeDiff, Nat.reduceLT, Int.reduceAdd, Int.reduceSub, Int.reduceMul, Int.reduceNeg, Int.reduceLT, Int.reduceLE, Int.reduceGT, Int.reduceGE, Int.reduceToNat, ↓reduceIte, and_self, true_and, and_true]
      refine Ev.val ((ta.app _).load0 1) ?_
      simp (dsimp := false) (implicitDefEqProofs := false) (disch := omega) only [gv_some, gr_some, gI_int, gB_bool, gS_str, gc_t, gc_f, gi_t, gi_f, gN_eq, gf_t, Option.bind_some, Option.bind_none, Option.map_some, acells_agg, acells_int, acells_bool, acells_str, acells_ptr, acells_sl, acells_nilsl, acells_nilptr, acells_iface, acells_niliface, aptr_ptr, anil_ptr, aextract_0, aextract_1, aextract_2, alenS_sl, alenS_nil, apartOf_agg, apart_t, apart_f, astore_ptr, hset_at0, hset_at, List.set_cons_zero, List.set_cons_succ, set_app, set_app0, aload_ptr, splice_eq, List.drop_nil, List.append_nil, isCell_int, isCell_bool, isCell_str, isCell_ptr, isCell_sl, isCell_nilsl, isCell_nilptr, isCell_iface, isCell_niliface, List.all_cons, List.all_nil, Bool.and_self, hget_at0, hget_at, len_app, List.length_cons, List.length_nil, get_app, get_app0, List.getElem?_cons_zero, List.getElem?_cons_succ, join_some, List.append_assoc, List.cons_append, List.nil_append, Nat.zero_add, Nat.add_zero, chkRd_eq, chkAl_blk, if_true, if_false, Bool.false_eq_true, List.drop_succ_cons, List.drop_zero, List.take_succ_cons, List.take_zero, Bool.and_true, Bool.true_and, decide_true, decide_false, wrap64_id, aixG_eq, Nat.reduceAdd, Nat.reduceSub, Nat.reduceMul, Nat.reduceLeDiff, Nat.reduceLT, Int.reduceAdd, Int.reduceSub, Int.reduceMul, Int.reduceNeg, Int.reduceLT, Int.reduceLE, Int.reduceGT, Int.reduceGE, Int.reduceToNat, ↓reduceIte, and_self, true_and, and_true, tp]
      refine Ev.val (aixS_at tl) ?_
      have hlt : c.at a.dst < (bits out).length := by rw [bits_len]; omega
      simp (dsimp := false) (implicitDefEqProofs := false) (disch := omega) only [gv_some, gr_some, gI_int, gB_bool, gS_str, gc_t, gc_f, gi_t, gi_f, gN_eq, gf_t, Option.bind_some, Option.bind_none, Option.map_some, acells_agg, acells_int, acells_bool, acells_str, acells_ptr, acells_sl, acells_nilsl, acells_nilptr, acells_iface, acells_niliface, aptr_ptr, anil_ptr, aextract_0, aextract_1, aextract_2, alenS_sl, alenS_nil, apartOf_agg, apart_t, apart_f, astore_ptr, hset_at0, hset_at, List.set_cons_zero, List.set_cons_succ, set_app, set_app0, aload_ptr, splice_eq, List.drop_nil, List.append_nil, isCell_int, isCell_bool, isCell_str, isCell_ptr, isCell_sl, isCell_nilsl, isCell_nilptr, isCell_iface, isCell_niliface, List.all_cons, List.all_nil, Bool.and_self, hget_at0, hget_at, len_app, List.length_cons, List.length_nil, get_app, get_app0, List.getElem?_cons_zero, List.getElem?_cons_succ, join_some, List.append_assoc, List.cons_append, List.nil_append, Nat.zero_add, Nat.add_zero, chkRd_eq, chkAl_blk, if_true, if_false, Bool.false_eq_true, List.drop_succ_cons, List.drop_zero, List.take_succ_cons, List.take_zero, Bool.and_true, Bool.true_and, decide_true, decide_false, wrap64_id, aixG_eq, Nat.reduceAdd, Nat.reduceSub, Nat.reduceMul, Nat.reduceLeDiff, Nat.reduceLT, Int.reduceAdd, Int.reduceSub, Int.reduceMul, Int.reduceNeg, Int.reduceLT, Int.reduceLE, Int.reduceGT, Int.reduceGE, Int.reduceToNat, ↓reduceIte, and_self, true_and, and_true, Nat.mul_one, hlt, bits_set]
      exact fin _ (by rw [pstep, hgd, hb]; rfl) _
    · exact fin _ (by rw [pstep, hgd, hb]; rfl) _
theorem reachOut (Q : AV → AHeap → Prop) : ∀ (k i : Nat) (out : List Bool) (g : AHeap), out.length = c.parts.length → i + k = c.parts.length →
    (∀ g', Ev (J18_5 (.sl (h.length + 1) 0 c.parts.length 1) (h ++ some (.cells false (c.cells p q r)) :: some (.cells false (bits (passes c k out))) :: g')) h Q) →
    Ev (J18_3 h.length (.sl (h.length + 1) 0 c.parts.length 1) (c.parts.length : Int) (i : Int) (h ++ some (.cells false (c.cells p q r)) :: some (.cells false (bits out)) :: g)) h Q := by
  intro k
  induction k with
  | zero =>
    intro i out g ho hi next
    rw [J18_3_eq, decide_eq_false (by omega)]
    simp (dsimp := false) (implicitDefEqProofs := false) (disch := omega) only [gv_some, gr_some, gI_int, gB_bool, gS_str, gc_t, gc_f, gi_t, gi_f, gN_eq, gf_t, Option.bind_some, Option.bind_none, Option.map_some, acells_agg, acells_int, acells_bool, acells_str, acells_ptr, acells_sl, acells_nilsl, acells_nilptr, acells_iface, acells_niliface, aptr_ptr, anil_ptr, aextract_0, aextract_1, aextract_2, alenS_sl, alenS_nil, apartOf_agg, apart_t, apart_f, astore_ptr, hset_at0, hset_at, List.set_cons_zero, List.set_cons_succ, set_app, set_app0, aload_ptr, splice_eq, List.drop_nil, List.append_nil, isCell_int, isCell_bool, isCell_str, isCell_ptr, isCell_sl, isCell_nilsl, isCell_nilptr, isCell_iface, isCell_niliface, List.all_cons, List.all_nil, Bool.and_self, hget_at0, hget_at, len_app, List.length_cons, List.length_nil, get_app, get_app0, List.getElem?_cons_zero, List.getElem?_cons_succ, join_some, List.append_assoc, List.cons_append, List.nil_append, Nat.zero_add, Nat.add_zero, chkRd_eq, chkAl_blk, if_true, if_false, Bool.false_eq_true, List.drop_succ_cons, List.drop_zero, List.take_succ_cons, List.take_zero, Bool.and_true, Bool.true_and, decide_true, decide_false, wrap64_id, aixG_eq, Nat.reduceAdd, Nat.reduceSub, Nat.reduceMul, Nat.reduceLeDiff, Nat.reduceLT, Int.reduceAdd, Int.reduceSub, Int.reduceMul, Int.reduceNeg, Int.reduceLT, Int.reduceLE, Int.reduceGT, Int.reduceGE, Int.reduceToNat, ↓reduceIte, and_self, true_and, and_true]
    exact next g
  | succ k ih =>
    intro i out g ho hi next
    have hn := hg.np
    rw [J18_3_eq, decide_eq_true (by omega)]
    simp (dsimp := false) (implicitDefEqProofs := false) (disch := omega) only [gv_some, gr_some, gI_int, gB_bool, gS_str, gc_t, gc_f, gi_t, gi_f, gN_eq, gf_t, Option.bind_some, Option.bind_none, Option.map_some, acells_agg, acells_int, acells_bool, acells_str, acells_ptr, acells_sl, acells_nilsl, acells_nilptr, acells_iface, acells_niliface, aptr_ptr, anil_ptr, aextract_0, aextract_1, aextract_2, alenS_sl, alenS_nil, apartOf_agg, apart_t, apart_f, astore_ptr, hset_at0, hset_at, List.set_cons_zero, List.set_cons_succ, set_app, set_app0, aload_ptr, splice_eq, List.drop_nil, List.append_nil, isCell_int, isCell_bool, isCell_str, isCell_ptr, isCell_sl, isCell_nilsl, isCell_nilptr, isCell_iface, isCell_niliface, List.all_cons, List.all_nil, Bool.and_self, hget_at0, hget_at, len_app, List.length_cons, List.length_nil, get_app, get_app0, List.getElem?_cons_zero, List.getElem?_cons_succ, join_some, List.append_assoc, List.cons_append, List.nil_append, Nat.zero_add, Nat.add_zero, chkRd_eq, chkAl_blk, if_true, if_false, Bool.false_eq_true, List.drop_succ_cons, List.drop_zero, List.take_succ_cons, List.take_zero, Bool.and_true, Bool.true_and, decide_true, decide_false, wrap64_id, aixG_eq, Nat.reduceAdd, Nat.reduceSub, Nat.reduceMul, Nat.reduceLeDiff, Nat.reduceLT, Int.reduceAdd, Int.reduceSub, Int.reduceMul, Int.reduceNeg, Int.reduceLT, Int.reduceLE, Int.reduceGT, Int.reduceGE, Int.reduceToNat, ↓reduceIte, and_self, true_and, and_true, J18_4_eq, Cfg.g0, Cfg.g1, Cfg.g2, Cfg.g3, Cfg.g4, Cfg.g5, Cfg.g6, Cfg.g7, Cfg.g8, Cfg.g9, Cfg.g10, Cfg.len, Cfg.take, Cfg.drop, Cfg.s8, Cfg.s9, Cfg.s10, Cfg.s7, Cfg.zero, Nat.le_refl, l.routes.len]
    refine reachIn c hg h p q r l i Q c.routes 0 out g ho rfl (fun g' => ?_)
    rw [J18_8_eq, wsucc (by omega)]
    exact ih (i + 1) _ g' (by rw [pass_len, ho]) (by omega) next
theorem c_reach (pt : Nat) (hp : pt < c.parts.length) : Ev (acall Try.prog Nt 18 [.agg (c.cells p q r), .int .i64 (pt : Int)] h) h fun v h' => Sl h' 1 encB (reach c pt) v := by
  have hn := hg.np
  rw [E18]
  have em : amkS 1 1 [.bool false] (c.parts.length : Int) (c.parts.length : Int) (h ++ [some (.cells false (c.cells p q r))]) = some (.sl (h.length + 1) 0 c.parts.length 1, h ++ [some (.cells false (c.cells p q r)), some (.cells false (bits (List.replicate c.parts.length false)))]) := by
    unfold amkS
    rw [if_pos (by simp; omega)]
    simp [hnew, bits]
  simp (dsimp := false) (implicitDefEqProofs := false) (disch := omega) only [gv_some, gr_some, gI_int, gB_bool, gS_str, gc_t, gc_f, gi_t, gi_f, gN_eq, gf_t, Option.bind_some, Option.bind_none, Option.map_some, acells_agg, acells_int, acells_bool, acells_str, acells_ptr, acells_sl, acells_nilsl, acells_nilptr, acells_iface, acells_niliface, aptr_ptr, anil_ptr, aextract_0, aextract_1, aextract_2, alenS_sl, alenS_nil, apartOf_agg, apart_t, apart_f, astore_ptr, hset_at0, hset_at, List.set_cons_zero, List.set_cons_succ, set_app, set_app0, aload_ptr, splice_eq, List.drop_nil, List.append_nil, isCell_int, isCell_bool, isCell_str, isCell_ptr, isCell_sl, isCell_nilsl, isCell_nilptr, isCell_iface, isCell_niliface, List.all_cons, List.all_nil, Bool.and_self, hget_at0, hget_at, len_app, List.length_cons, List.length_nil, get_app, get_app0, List.getElem?_cons_zero, List.getElem?_cons_succ, join_some, List.append_assoc, List.cons_append, List.nil_append, Nat.zero_add, Nat.add_zero, chkRd_eq, chkAl_blk, if_true, if_false, Bool.false_eq_true, List.drop_succ_cons, List.drop_zero, List.take_succ_cons, List.take_zero, Bool.and_true, Bool.true_and, decide_true, decide_false, wrap64_id, aixG_eq, Nat.reduceAdd, Nat.reduceSub, Nat.reduceMul, Nat.reduceLeDiff, Nat.reduceLT, Int.reduceAdd, Int.reduceSub, Int.reduceMul, Int.reduceNeg, Int.reduceLT, Int.reduceLE, Int.reduceGT, Int.reduceGE, Int.reduceToNat, ↓reduceIte, and_self, true_and, and_true, Cfg.g0, Cfg.g1, Cfg.g2, Cfg.g3, Cfg.g4, Cfg.g5, Cfg.g6, Cfg.g7, Cfg.g8, Cfg.g9, Cfg.g10, Cfg.len, Cfg.take, Cfg.drop, Cfg.s8, Cfg.s9, Cfg.s10, Cfg.s7, Cfg.zero, Nat.le_refl, l.parts.len, em]
  rw [decide_eq_false (by omega)]
  simp (dsimp := false) (implicitDefEqProofs := false) (disch := omega) only [gv_some, gr_some, gI_int, gB_bool, gS_str, gc_t, gc_f, gi_t, gi_f, gN_eq, gf_t, Option.bind_some, Option.bind_none, Option.map_some, acells_agg, acells_int, acells_bool, acells_str, acells_ptr, acells_sl, acells_nilsl, acells_nilptr, acells_iface, acells_niliface, aptr_ptr, anil_ptr, aextract_0, aextract_1, aextract_2, alenS_sl, alenS_nil, apartOf_agg, apart_t, apart_f, astore_ptr, hset_at0, hset_at, List.set_cons_zero, List.set_cons_succ, set_app, set_app0, aload_ptr, splice_eq, List.drop_nil, List.append_nil, isCell_int, isCell_bool, isCell_str, isCell_ptr, isCell_sl, isCell_nilsl, isCell_nilptr, isCell_iface, isCell_niliface, List.all_cons, List.all_nil, Bool.and_self, hget_at0, hget_at, len_app, List.length_cons, List.length_nil, get_app, get_app0, List.getElem?_cons_zero, List.getElem?_cons_succ, join_some, List.append_assoc, List.cons_append, List.nil_append, Nat.zero_add, Nat.add_zero, chkRd_eq, chkAl_blk, if_true, if_false, Bool.false_eq_true, List.drop_succ_cons, List.drop_zero, List.take_succ_cons, List.take_zero, Bool.and_true, Bool.true_and, decide_true, decide_false, wrap64_id, aixG_eq, Nat.reduceAdd, Nat.reduceSub, Nat.reduceMul, Nat.reduceLeDiff, Nat.reduceLT, Int.reduceAdd, Int.reduceSub, Int.reduceMul, Int.reduceNeg, Int.reduceLT, Int.reduceLE, Int.reduceGT, Int.reduceGE, Int.reduceToNat, ↓reduceIte, and_self, true_and, and_true]
  rw [decide_eq_false (by omega), J18_1_eq]
  simp (dsimp := false) (implicitDefEqProofs := false) (disch := omega) only [gv_some, gr_some, gI_int, gB_bool, gS_str, gc_t, gc_f, gi_t, gi_f, gN_eq, gf_t, Option.bind_some, Option.bind_none, Option.map_some, acells_agg, acells_int, acells_bool, acells_str, acells_ptr, acells_sl, acells_nilsl, acells_nilptr, acells_iface, acells_niliface, aptr_ptr, anil_ptr, aextract_0, aextract_1, aextract_2, alenS_sl, alenS_nil, apartOf_agg, apart_t, apart_f, astore_ptr, hset_at0, hset_at, List.set_cons_zero, List.set_cons_succ, set_app, set_app0, aload_ptr, splice_eq, List.drop_nil, List.append_nil, isCell_int, isCell_bool, isCell_str, isCell_ptr, isCell_sl, isCell_nilsl, isCell_nilptr, isCell_iface, isCell_niliface, List.all_cons, List.all_nil, Bool.and_self, hget_at0, hget_at, len_app, List.length_cons, List.length_nil, get_app, get_app0, List.getElem?_cons_zero, List.getElem?_cons_succ, join_some, List.append_assoc, List.cons_append, List.nil_append, Nat.zero_add, Nat.add_zero, chkRd_eq, chkAl_blk, if_true, if_false, Bool.false_eq_true, List.drop_succ_cons, List.drop_zero, List.take_succ_cons, List.take_zero, Bool.and_true, Bool.true_and, decide_true, decide_false, wrap64_id, aixG_eq, Nat.reduceAdd, Nat.reduceSub, Nat.reduceMul, Nat.reduceLeDiff, Nat.reduceLT, Int.reduceAdd, Int.reduceSub, Int.reduceMul, Int.reduceNeg, Int.reduceLT, Int.reduceLE, Int.reduceGT, Int.reduceGE, Int.reduceToNat, ↓reduceIte, and_self, true_and, and_true, J18_2_eq]
  refine Ev.val (aixS_at hp) ?_
  have hlt : pt < (bits (List.replicate c.parts.length false)).length := by rw [bits_len]; simpa using hp
  simp (dsimp := false) (implicitDefEqProofs := false) (disch := omega) only [gv_some, gr_some, gI_int, gB_bool, gS_str, gc_t, gc_f, gi_t, gi_f, gN_eq, gf_t, Option.bind_some, Option.bind_none, Option.map_some, acells_agg, acells_int, acells_bool, acells_str, acells_ptr, acells_sl, acells_nilsl, acells_nilptr, acells_iface, acells_niliface, aptr_ptr, anil_ptr, aextract_0, aextract_1, aextract_2, alenS_sl, alenS_nil, apartOf_agg, apart_t, apart_f, astore_ptr, hset_at0, hset_at, List.set_cons_zero, List.set_cons_succ, set_app, set_app0, aload_ptr, splice_eq, List.drop_nil, List.append_nil, isCell_int, isCell_bool, isCell_str, isCell_ptr, isCell_sl, isCell_nilsl, isCell_nilptr, isCell_iface, isCell_niliface, List.all_cons, List.all_nil, Bool.and_self, hget_at0, hget_at, len_app, List.length_cons, List.length_nil, get_app, get_app0, List.getElem?_cons_zero, List.getElem?_cons_succ, join_some, List.append_assoc, List.cons_append, List.nil_append, Nat.zero_add, Nat.add_zero, chkRd_eq, chkAl_blk, if_true, if_false, Bool.false_eq_true, List.drop_succ_cons, List.drop_zero, List.take_succ_cons, List.take_zero, Bool.and_true, Bool.true_and, decide_true, decide_false, wrap64_id, aixG_eq, Nat.reduceAdd, Nat.reduceSub, Nat.reduceMul, Nat.reduceLeDiff, Nat.reduceLT, Int.reduceAdd, Int.reduceSub, Int.reduceMul, Int.reduceNeg, Int.reduceLT, Int.reduceLE, Int.reduceGT, Int.reduceGE, Int.reduceToNat, ↓reduceIte, and_self, true_and, and_true, Nat.mul_one, hlt, bits_set]
  refine reachOut c hg h p q r l _ c.parts.length 0 _ [] (by simp) (by omega) (fun g' => ?_)
  rw [J18_5_eq]
  refine Ev.done ?_
  have e : (reach c pt).length = c.parts.length := by rw [reach, passes_len]; simp
  refine .inr ⟨h.length + 1, 0, by rw [e], ⟨false, bits (reach c pt), ?_, ?_, ?_⟩⟩
  · rw [hget_at]; rfl
  · rw [← bits_eq]; omega
  · rw [← bits_eq, List.drop_zero, List.take_length]
end

/-! What is reached, plainly. -/
def BLe (a b : List Bool) : Prop := ∀ k, a.getD k false = true → b.getD k false = true
theorem BLe.refl (a : List Bool) : BLe a a := fun _ h => h
theorem BLe.trans {a b d : List Bool} (h : BLe a b) (h' : BLe b d) : BLe a d := fun k e => h' k (h k e)
theorem bgetD_set (l : List Bool) (i k : Nat) : (l.set i true).getD k false = if i = k ∧ i < l.length then true else l.getD k false := by
  simp only [List.getD, List.getElem?_set]
  by_cases h : i = k
  · subst h
    by_cases h2 : i < l.length <;> simp [h2]
  · simp [h]
theorem pstep_le (c : Cfg) (out : List Bool) (r : Route) : BLe out (pstep c out r) := by
  intro k e
  unfold pstep
  split
  · rw [bgetD_set]
    split
    · rfl
    · exact e
  · exact e
theorem pass_le (c : Cfg) : ∀ (l : List Route) (out : List Bool), BLe out (pass c l out)
  | [], out => BLe.refl _
  | r :: l, out => (pstep_le c out r).trans (by rw [pass, List.foldl_cons, ← pass]; exact pass_le c l _)
theorem passes_le (c : Cfg) : ∀ (k : Nat) (out : List Bool), BLe out (passes c k out)
  | 0, out => BLe.refl _
  | k + 1, out => (pass_le c _ out).trans (passes_le c k _)
theorem BLe.eq {a b : List Bool} (h1 : BLe a b) (h2 : BLe b a) (hl : a.length = b.length) : a = b := by
  apply List.ext_getElem hl
  intro i h3 h4
  have e1 := h1 i
  have e2 := h2 i
  simp only [List.getD, List.getElem?_eq_getElem h3, List.getElem?_eq_getElem h4, Option.getD_some] at e1 e2
  cases ha : a[i] <;> cases hb : b[i] <;> simp_all
theorem ble_count : ∀ {a b : List Bool}, BLe a b → a.length = b.length → a.count true ≤ b.count true ∧ (a.count true = b.count true → a = b)
  | [], [], _, _ => by simp
  | [], _ :: _, _, hl => by simp at hl
  | _ :: _, [], _, hl => by simp at hl
  | x :: a, y :: b, h, hl => by
    have h' : BLe a b := fun k e => h (k + 1) e
    obtain ⟨i1, i2⟩ := ble_count h' (by simpa using hl)
    have h0 := h 0
    simp only [List.getD, List.getElem?_cons_zero, Option.getD_some] at h0
    cases x <;> cases y <;> simp_all
    all_goals first | omega | (constructor <;> omega)
def RClosed (c : Cfg) (out : List Bool) : Prop := ∀ r ∈ c.routes, out.getD (c.at r.src) false = true → out.getD (c.at r.dst) false = true
theorem pass_fix (c : Cfg) : ∀ (l : List Route) (out : List Bool), pass c l out = out → ∀ r ∈ l, pstep c out r = out
  | [], _, _, _, h => by cases h
  | a :: l, out, e, r, h => by
    rw [pass, List.foldl_cons, ← pass] at e
    have h1 : BLe (pstep c out a) out := by have := pass_le c l (pstep c out a); rwa [e] at this
    have h2 : pstep c out a = out := h1.eq (pstep_le c out a) (pstep_len c out a)
    rcases List.mem_cons.1 h with rfl | h
    · exact h2
    · rw [h2] at e; exact pass_fix c l out e r h
theorem closed_of {c : Cfg} {out : List Bool} (hlt : ∀ r ∈ c.routes, c.at r.dst < out.length) (e : pass c c.routes out = out) : RClosed c out := by
  intro r hr hs
  have := pass_fix c _ _ e r hr
  unfold pstep at this
  rw [if_pos hs] at this
  rw [← this, bgetD_set, if_pos ⟨rfl, hlt r hr⟩]
theorem passes_fix (c : Cfg) {out : List Bool} (e : pass c c.routes out = out) : ∀ k, passes c k out = out
  | 0 => rfl
  | k + 1 => by rw [passes, e, passes_fix c e k]
theorem passes_many (c : Cfg) : ∀ (k : Nat) (out : List Bool), out.count true + k ≤ (passes c k out).count true ∨ pass c c.routes (passes c k out) = passes c k out
  | 0, out => .inl (by simp [passes])
  | k + 1, out => by
    by_cases e : pass c c.routes out = out
    · right; rw [passes_fix c e, e]
    · have hc := ble_count (pass_le c c.routes out) (pass_len c _ _).symm
      have : out.count true < (pass c c.routes out).count true := by
        rcases Nat.lt_or_eq_of_le hc.1 with h | h
        · exact h
        · exact absurd (hc.2 h).symm e
      rw [passes]
      rcases passes_many c k (pass c c.routes out) with h | h
      · left; omega
      · right; exact h
theorem start_get {n p : Nat} (hp : p < n) : ((List.replicate n false).set p true).getD p false = true := by
  rw [bgetD_set, if_pos ⟨rfl, by simpa using hp⟩]
theorem start_only {n p k : Nat} (h : ((List.replicate n false).set p true).getD k false = true) : k = p := by
  rw [bgetD_set] at h
  split at h
  · omega
  · simp only [List.getD, List.getElem?_replicate] at h
    split at h <;> simp at h
theorem reach_closed {c : Cfg} (hg : Good c) {p : Nat} (hp : p < c.parts.length) : RClosed c (reach c p) := by
  have hl : (reach c p).length = c.parts.length := by rw [reach, passes_len]; simp
  refine closed_of (fun r hr => ?_) ?_
  · obtain ⟨_, _, h3, h4⟩ := Route.rng (hg.routes r hr)
    rw [hl]
    exact (Cfg.at_lt hg h3 h4).2
  · rcases passes_many c c.parts.length ((List.replicate c.parts.length false).set p true) with h | h
    · have h1 : 0 < ((List.replicate c.parts.length false).set p true).count true := by
        rw [List.count_pos_iff]
        have := start_get hp
        simp only [List.getD] at this
        rw [List.getElem?_eq_getElem (by simpa using hp)] at this
        simp only [Option.getD_some] at this
        have hm := List.getElem_mem (l := (List.replicate c.parts.length false).set p true) (n := p) (by simpa using hp)
        rw [this] at hm
        exact hm
      have h2 : (reach c p).count true ≤ (reach c p).length := List.count_le_length
      unfold reach at h2
      rw [← reach, hl] at h2
      unfold reach at h2
      omega
    · exact h
theorem reach_self {c : Cfg} {p : Nat} (hp : p < c.parts.length) : (reach c p).getD p false = true := passes_le c _ _ p (start_get hp)
theorem pass_sub {c : Cfg} {A : List Bool} (hA : RClosed c A) : ∀ (l : List Route) (out : List Bool), (∀ r ∈ l, r ∈ c.routes) → BLe out A → BLe (pass c l out) A
  | [], out, _, h => h
  | r :: l, out, hm, h => by
    rw [pass, List.foldl_cons, ← pass]
    refine pass_sub hA l _ (fun x hx => hm x (by simp [hx])) ?_
    intro k e
    unfold pstep at e
    split at e
    · rename_i hs
      rw [bgetD_set] at e
      split at e
      · rename_i hk
        rw [← hk.1]
        exact hA r (hm r (by simp)) (h _ hs)
      · exact h k e
    · exact h k e
theorem passes_sub {c : Cfg} {A : List Bool} (hA : RClosed c A) : ∀ (k : Nat) (out : List Bool), BLe out A → BLe (passes c k out) A
  | 0, _, h => h
  | k + 1, out, h => passes_sub hA k _ (pass_sub hA _ _ (fun _ h => h) h)
theorem reach_sub {c : Cfg} (hg : Good c) {p i : Nat} (hp : p < c.parts.length) (hi : (reach c p).getD i false = true) : BLe (reach c i) (reach c p) :=
  passes_sub (reach_closed hg hp) _ _ fun k e => by rw [start_only e]; exact hi

/-! The law. -/
theorem encB_len (b : Bool) : (encB b).length = 1 := rfl
theorem lawIn (x2 : Nat) (x5 x53 : AV) (a b : List Bool) (x42 x43 : Int) (hab : BLe b a) (hl : b.length = a.length) (hn : a.length ≤ 1000) : ∀ (s : List Bool) (k : Nat) (h : AHeap), Sl h 1 encB a x5 → Sl h 1 encB b x53 → b.drop k = s →
    (∀ h', Sl h' 1 encB a x5 → h' = h → Ev (J7_9 x2 x5 x42 x43 h') h fun v _ => v = .bool true) →
    Ev (J7_11 x2 x5 x42 x43 x53 (b.length : Int) (k : Int) h) h fun v _ => v = .bool true := by
  intro s
  induction s with
  | nil =>
    intro k h sa sb hs next
    have := drop_nil hs
    rw [J7_11_eq, decide_eq_false (by omega)]
    exact next h sa rfl
  | cons d s ih =>
    intro k h sa sb hs next
    obtain ⟨hk, hd, hs'⟩ := drop_cons hs
    rw [J7_11_eq, decide_eq_true (by omega)]
    obtain ⟨eb, eo, ix, ea⟩ := sb.elem encB_len k hk
    obtain ⟨fb1, fo, fx, fa⟩ := sa.elem encB_len k (by omega)
    rw [hd] at ea
    simp (dsimp := false) (implicitDefEqProofs := false) (disch := omega) only [gv_some, gr_some, gI_int, gB_bool, gS_str, gc_t, gc_f, gi_t, gi_f, gN_eq, gf_t, Option.bind_some, Option.bind_none, Option.map_some, acells_agg, acells_int, acells_bool, acells_str, acells_ptr, acells_sl, acells_nilsl, acells_nilptr, acells_iface, acells_niliface, aptr_ptr, anil_ptr, aextract_0, aextract_1, aextract_2, alenS_sl, alenS_nil, apartOf_agg, apart_t, apart_f, astore_ptr, hset_at0, hset_at, List.set_cons_zero, List.set_cons_succ, set_app, set_app0, aload_ptr, splice_eq, List.drop_nil, List.append_nil, isCell_int, isCell_bool, isCell_str, isCell_ptr, isCell_sl, isCell_nilsl, isCell_nilptr, isCell_iface, isCell_niliface, List.all_cons, List.all_nil, Bool.and_self, hget_at0, hget_at, len_app, List.length_cons, List.length_nil, get_app, get_app0, List.getElem?_cons_zero, List.getElem?_cons_succ, join_some, List.append_assoc, List.cons_append, List.nil_append, Nat.zero_add, Nat.add_zero, chkRd_eq, chkAl_blk, if_true, if_false, Bool.false_eq_true, List.drop_succ_cons, List.drop_zero, List.take_succ_cons, List.take_zero, Bool.and_true, Bool.true_and, decide_true, decide_false, wrap64_id, aixG_eq, Nat.reduceAdd, Nat.reduceSub, Nat.reduceMul, Nat.reduceLeDiff, Nat.reduceLT, Int.reduceAdd, Int.reduceSub, Int.reduceMul, Int.reduceNeg, Int.reduceLT, Int.reduceLE, Int.reduceGT, Int.reduceGE, Int.reduceToNat, ↓reduceIte, and_self, true_and, and_true, J7_12_eq]
    refine Ev.val ix ?_
    refine Ev.val (ea.load0 1) ?_
    have fin : Ev (J7_13 x2 x5 x42 x43 x53 (b.length : Int) (k : Int) false h) h fun v _ => v = .bool true := by
      rw [J7_13_eq]
      simp (dsimp := false) (implicitDefEqProofs := false) (disch := omega) only [gv_some, gr_some, gI_int, gB_bool, gS_str, gc_t, gc_f, gi_t, gi_f, gN_eq, gf_t, Option.bind_some, Option.bind_none, Option.map_some, acells_agg, acells_int, acells_bool, acells_str, acells_ptr, acells_sl, acells_nilsl, acells_nilptr, acells_iface, acells_niliface, aptr_ptr, anil_ptr, aextract_0, aextract_1, aextract_2, alenS_sl, alenS_nil, apartOf_agg, apart_t, apart_f, astore_ptr, hset_at0, hset_at, List.set_cons_zero, List.set_cons_succ, set_app, set_app0, aload_ptr, splice_eq, List.drop_nil, List.append_nil, isCell_int, isCell_bool, isCell_str, isCell_ptr, isCell_sl, isCell_nilsl, isCell_nilptr, isCell_iface, isCell_niliface, List.all_cons, List.all_nil, Bool.and_self, hget_at0, hget_at, len_app, List.length_cons, List.length_nil, get_app, get_app0, List.getElem?_cons_zero, List.getElem?_cons_succ, join_some, List.append_assoc, List.cons_append, List.nil_append, Nat.zero_add, Nat.add_zero, chkRd_eq, chkAl_blk, if_true, if_false, Bool.false_eq_true, List.drop_succ_cons, List.drop_zero, List.take_succ_cons, List.take_zero, Bool.and_true, Bool.true_and, decide_true, decide_false, wrap64_id, aixG_eq, Nat.reduceAdd, Nat.reduceSub, Nat.reduceMul, Nat.reduceLeDiff, Nat.reduceLT, Int.reduceAdd, Int.reduceSub, Int.reduceMul, Int.reduceNeg, Int.reduceLT, Int.reduceLE, Int.reduceGT, Int.reduceGE, Int.reduceToNat, ↓reduceIte, and_self, true_and, and_true]
      rw [J7_14_eq, wsucc (by omega)]
      exact ih (k + 1) h sa sb hs' next
    simp (dsimp := false) (implicitDefEqProofs := false) (disch := omega) only [gv_some, gr_some, gI_int, gB_bool, gS_str, gc_t, gc_f, gi_t, gi_f, gN_eq, gf_t, Option.bind_some, Option.bind_none, Option.map_some, acells_agg, acells_int, acells_bool, acells_str, acells_ptr, acells_sl, acells_nilsl, acells_nilptr, acells_iface, acells_niliface, aptr_ptr, anil_ptr, aextract_0, aextract_1, aextract_2, alenS_sl, alenS_nil, apartOf_agg, apart_t, apart_f, astore_ptr, hset_at0, hset_at, List.set_cons_zero, List.set_cons_succ, set_app, set_app0, aload_ptr, splice_eq, List.drop_nil, List.append_nil, isCell_int, isCell_bool, isCell_str, isCell_ptr, isCell_sl, isCell_nilsl, isCell_nilptr, isCell_iface, isCell_niliface, List.all_cons, List.all_nil, Bool.and_self, hget_at0, hget_at, len_app, List.length_cons, List.length_nil, get_app, get_app0, List.getElem?_cons_zero, List.getElem?_cons_succ, join_some, List.append_assoc, List.cons_append, List.nil_append, Nat.zero_add, Nat.add_zero, chkRd_eq, chkAl_blk, if_true, if_false, Bool.false_eq_true, List.drop_succ_cons, List.drop_zero, List.take_succ_cons, List.take_zero, Bool.and_true, Bool.true_and, decide_true, decide_false, wrap64_id, aixG_eq, Nat.reduceAdd, Nat.reduceSub, Nat.reduceMul, Nat.reduceLeDiff, Nat.reduceLT, Int.reduceAdd, Int.reduceSub, Int.reduceMul, Int.reduceNeg, Int.reduceLT, Int.reduceLE, Int.reduceGT, Int.reduceGE, Int.reduceToNat, ↓reduceIte, and_self, true_and, and_true]
    refine Ev.ite (fun hb => ?_) fun hb => fin
    refine Ev.val fx ?_
    refine Ev.val (fa.load0 1) ?_
    have : a[k]'(by omega) = true := by
      have := hab k (by simp [List.getD, hk, hd, hb])
      simpa [List.getD, show k < a.length by omega] using this
    rw [this]
    simp (dsimp := false) (implicitDefEqProofs := false) (disch := omega) only [gv_some, gr_some, gI_int, gB_bool, gS_str, gc_t, gc_f, gi_t, gi_f, gN_eq, gf_t, Option.bind_some, Option.bind_none, Option.map_some, acells_agg, acells_int, acells_bool, acells_str, acells_ptr, acells_sl, acells_nilsl, acells_nilptr, acells_iface, acells_niliface, aptr_ptr, anil_ptr, aextract_0, aextract_1, aextract_2, alenS_sl, alenS_nil, apartOf_agg, apart_t, apart_f, astore_ptr, hset_at0, hset_at, List.set_cons_zero, List.set_cons_succ, set_app, set_app0, aload_ptr, splice_eq, List.drop_nil, List.append_nil, isCell_int, isCell_bool, isCell_str, isCell_ptr, isCell_sl, isCell_nilsl, isCell_nilptr, isCell_iface, isCell_niliface, List.all_cons, List.all_nil, Bool.and_self, hget_at0, hget_at, len_app, List.length_cons, List.length_nil, get_app, get_app0, List.getElem?_cons_zero, List.getElem?_cons_succ, join_some, List.append_assoc, List.cons_append, List.nil_append, Nat.zero_add, Nat.add_zero, chkRd_eq, chkAl_blk, if_true, if_false, Bool.false_eq_true, List.drop_succ_cons, List.drop_zero, List.take_succ_cons, List.take_zero, Bool.and_true, Bool.true_and, decide_true, decide_false, wrap64_id, aixG_eq, Nat.reduceAdd, Nat.reduceSub, Nat.reduceMul, Nat.reduceLeDiff, Nat.reduceLT, Int.reduceAdd, Int.reduceSub, Int.reduceMul, Int.reduceNeg, Int.reduceLT, Int.reduceLE, Int.reduceGT, Int.reduceGE, Int.reduceToNat, ↓reduceIte, and_self, true_and, and_true, Bool.not_true]
    exact fin
theorem lawOut (c : Cfg) (hg : Good c) (pt : Nat) (hp : pt < c.parts.length) (x2 : Nat) (x5 : AV) : ∀ (s : List Bool) (i : Nat) (h : AHeap), CfgB h c x2 → Sl h 1 encB (reach c pt) x5 → (reach c pt).drop i = s →
    Ev (J7_6 x2 x5 ((reach c pt).length : Int) (i : Int) h) h fun v _ => v = .bool true := by
  have hl : ∀ p, (reach c p).length = c.parts.length := fun p => by rw [reach, passes_len]; simp
  have hn := hg.np
  intro s
  induction s with
  | nil =>
    intro i h hb sa hs
    have := drop_nil hs
    rw [J7_6_eq, decide_eq_false (by omega), J7_8_eq]
    exact Ev.here rfl
  | cons d s ih =>
    intro i h hb sa hs
    obtain ⟨hk, hd, hs'⟩ := drop_cons hs
    have hk' := hk
    rw [hl] at hk'
    rw [J7_6_eq, decide_eq_true (by omega)]
    obtain ⟨eb, eo, ix, ea⟩ := sa.elem encB_len i hk
    rw [hd] at ea
    simp (dsimp := false) (implicitDefEqProofs := false) (disch := omega) only [gv_some, gr_some, gI_int, gB_bool, gS_str, gc_t, gc_f, gi_t, gi_f, gN_eq, gf_t, Option.bind_some, Option.bind_none, Option.map_some, acells_agg, acells_int, acells_bool, acells_str, acells_ptr, acells_sl, acells_nilsl, acells_nilptr, acells_iface, acells_niliface, aptr_ptr, anil_ptr, aextract_0, aextract_1, aextract_2, alenS_sl, alenS_nil, apartOf_agg, apart_t, apart_f, astore_ptr, hset_at0, hset_at, List.set_cons_zero, List.set_cons_succ, set_app, set_app0, aload_ptr, splice_eq, List.drop_nil, List.append_nil, isCell_int, isCell_bool, isCell_str, isCell_ptr, isCell_sl, isCell_nilsl, isCell_nilptr, isCell_iface, isCell_niliface, List.all_cons, List.all_nil, Bool.and_self, hget_at0, hget_at, len_app, List.length_cons, List.length_nil, get_app, get_app0, List.getElem?_cons_zero, List.getElem?_cons_succ, join_some, List.append_assoc, List.cons_append, List.nil_append, Nat.zero_add, Nat.add_zero, chkRd_eq, chkAl_blk, if_true, if_false, Bool.false_eq_true, List.drop_succ_cons, List.drop_zero, List.take_succ_cons, List.take_zero, Bool.and_true, Bool.true_and, decide_true, decide_false, wrap64_id, aixG_eq, Nat.reduceAdd, Nat.reduceSub, Nat.reduceMul, Nat.reduceLeDiff, Nat.reduceLT, Int.reduceAdd, Int.reduceSub, Int.reduceMul, Int.reduceNeg, Int.reduceLT, Int.reduceLE, Int.reduceGT, Int.reduceGE, Int.reduceToNat, ↓reduceIte, and_self, true_and, and_true, J7_7_eq]
    refine Ev.val ix ?_
    refine Ev.val (ea.load0 1) ?_
    simp (dsimp := false) (implicitDefEqProofs := false) (disch := omega) only [gv_some, gr_some, gI_int, gB_bool, gS_str, gc_t, gc_f, gi_t, gi_f, gN_eq, gf_t, Option.bind_some, Option.bind_none, Option.map_some, acells_agg, acells_int, acells_bool, acells_str, acells_ptr, acells_sl, acells_nilsl, acells_nilptr, acells_iface, acells_niliface, aptr_ptr, anil_ptr, aextract_0, aextract_1, aextract_2, alenS_sl, alenS_nil, apartOf_agg, apart_t, apart_f, astore_ptr, hset_at0, hset_at, List.set_cons_zero, List.set_cons_succ, set_app, set_app0, aload_ptr, splice_eq, List.drop_nil, List.append_nil, isCell_int, isCell_bool, isCell_str, isCell_ptr, isCell_sl, isCell_nilsl, isCell_nilptr, isCell_iface, isCell_niliface, List.all_cons, List.all_nil, Bool.and_self, hget_at0, hget_at, len_app, List.length_cons, List.length_nil, get_app, get_app0, List.getElem?_cons_zero, List.getElem?_cons_succ, join_some, List.append_assoc, List.cons_append, List.nil_append, Nat.zero_add, Nat.add_zero, chkRd_eq, chkAl_blk, if_true, if_false, Bool.false_eq_true, List.drop_succ_cons, List.drop_zero, List.take_succ_cons, List.take_zero, Bool.and_true, Bool.true_and, decide_true, decide_false, wrap64_id, aixG_eq, Nat.reduceAdd, Nat.reduceSub, Nat.reduceMul, Nat.reduceLeDiff, Nat.reduceLT, Int.reduceAdd, Int.reduceSub, Int.reduceMul, Int.reduceNeg, Int.reduceLT, Int.reduceLE, Int.reduceGT, Int.reduceGE, Int.reduceToNat, ↓reduceIte, and_self, true_and, and_true]
    have fin : ∀ h', CfgB h' c x2 → Sl h' 1 encB (reach c pt) x5 → Ev (J7_9 x2 x5 ((reach c pt).length : Int) (i : Int) h') h' fun v _ => v = .bool true := by
      intro h' hb' sa'
      rw [J7_9_eq, wsucc (by omega)]
      exact ih (i + 1) h' hb' sa' hs'
    refine Ev.cnd (fun he => fin h hb sa) fun he => ?_
    simp only [Bool.not_eq_false'] at he
    rw [J7_10_eq]
    obtain ⟨ro, p, q, r, e, l⟩ := id hb
    simp (dsimp := false) (implicitDefEqProofs := false) (disch := omega) only [gv_some, gr_some, gI_int, gB_bool, gS_str, gc_t, gc_f, gi_t, gi_f, gN_eq, gf_t, Option.bind_some, Option.bind_none, Option.map_some, acells_agg, acells_int, acells_bool, acells_str, acells_ptr, acells_sl, acells_nilsl, acells_nilptr, acells_iface, acells_niliface, aptr_ptr, anil_ptr, aextract_0, aextract_1, aextract_2, alenS_sl, alenS_nil, apartOf_agg, apart_t, apart_f, astore_ptr, hset_at0, hset_at, List.set_cons_zero, List.set_cons_succ, set_app, set_app0, aload_ptr, splice_eq, List.drop_nil, List.append_nil, isCell_int, isCell_bool, isCell_str, isCell_ptr, isCell_sl, isCell_nilsl, isCell_nilptr, isCell_iface, isCell_niliface, List.all_cons, List.all_nil, Bool.and_self, hget_at0, hget_at, len_app, List.length_cons, List.length_nil, get_app, get_app0, List.getElem?_cons_zero, List.getElem?_cons_succ, join_some, List.append_assoc, List.cons_append, List.nil_append, Nat.zero_add, Nat.add_zero, chkRd_eq, chkAl_blk, if_true, if_false, Bool.false_eq_true, List.drop_succ_cons, List.drop_zero, List.take_succ_cons, List.take_zero, Bool.and_true, Bool.true_and, decide_true, decide_false, wrap64_id, aixG_eq, Nat.reduceAdd, Nat.reduceSub, Nat.reduceMul, Nat.reduceLeDiff, Nat.reduceLT, Int.reduceAdd, Int.reduceSub, Int.reduceMul, Int.reduceNeg, Int.reduceLT, Int.reduceLE, Int.reduceGT, Int.reduceGE, Int.reduceToNat, ↓reduceIte, and_self, true_and, and_true, Cfg.g0, Cfg.g1, Cfg.g2, Cfg.g3, Cfg.g4, Cfg.g5, Cfg.g6, Cfg.g7, Cfg.g8, Cfg.g9, Cfg.g10, Cfg.len, Cfg.take, Cfg.drop, Cfg.s8, Cfg.s9, Cfg.s10, Cfg.s7, Cfg.zero, Nat.le_refl, e]
    refine Ev.call (c_reach c hg h p q r l i hk') fun v g hv => ?_
    simp (dsimp := false) (implicitDefEqProofs := false) (disch := omega) only [gv_some, gr_some, gI_int, gB_bool, gS_str, gc_t, gc_f, gi_t, gi_f, gN_eq, gf_t, Option.bind_some, Option.bind_none, Option.map_some, acells_agg, acells_int, acells_bool, acells_str, acells_ptr, acells_sl, acells_nilsl, acells_nilptr, acells_iface, acells_niliface, aptr_ptr, anil_ptr, aextract_0, aextract_1, aextract_2, alenS_sl, alenS_nil, apartOf_agg, apart_t, apart_f, astore_ptr, hset_at0, hset_at, List.set_cons_zero, List.set_cons_succ, set_app, set_app0, aload_ptr, splice_eq, List.drop_nil, List.append_nil, isCell_int, isCell_bool, isCell_str, isCell_ptr, isCell_sl, isCell_nilsl, isCell_nilptr, isCell_iface, isCell_niliface, List.all_cons, List.all_nil, Bool.and_self, hget_at0, hget_at, len_app, List.length_cons, List.length_nil, get_app, get_app0, List.getElem?_cons_zero, List.getElem?_cons_succ, join_some, List.append_assoc, List.cons_append, List.nil_append, Nat.zero_add, Nat.add_zero, chkRd_eq, chkAl_blk, if_true, if_false, Bool.false_eq_true, List.drop_succ_cons, List.drop_zero, List.take_succ_cons, List.take_zero, Bool.and_true, Bool.true_and, decide_true, decide_false, wrap64_id, aixG_eq, Nat.reduceAdd, Nat.reduceSub, Nat.reduceMul, Nat.reduceLeDiff, Nat.reduceLT, Int.reduceAdd, Int.reduceSub, Int.reduceMul, Int.reduceNeg, Int.reduceLT, Int.reduceLE, Int.reduceGT, Int.reduceGE, Int.reduceToNat, ↓reduceIte, and_self, true_and, and_true, hv.len]
    refine Ev.base (lawIn x2 x5 v (reach c pt) (reach c i) _ _ (reach_sub hg hp (by simp [List.getD, hk, hd, he])) (by rw [hl, hl]) (by rw [hl]; omega) (reach c i) 0 _ (sa.app g) hv rfl (fun h' sa' e' => ?_))
    subst e'
    exact fin _ (hb.app g) sa'
theorem soundReach : LawTrue Try.prog Nt 9 7 [26, 3] := by
  rintro h xs ⟨x, r, rfl, hx, x2, r2, rfl, hx2, hr⟩
  cases hr
  obtain ⟨c, hc⟩ := argvCfg hx
  obtain ⟨n, rfl, _⟩ := argvInt hx2
  have main : Ev (acall Try.prog Nt 7 [x, .int .i64 n] h) h fun v _ => v = .bool true := by
    have hc0 := hc
    obtain ⟨p, q, r, rfl, l⟩ := hc
    rw [E7]
    simp (dsimp := false) (implicitDefEqProofs := false) (disch := omega) only [gv_some, gr_some, gI_int, gB_bool, gS_str, gc_t, gc_f, gi_t, gi_f, gN_eq, gf_t, Option.bind_some, Option.bind_none, Option.map_some, acells_agg, acells_int, acells_bool, acells_str, acells_ptr, acells_sl, acells_nilsl, acells_nilptr, acells_iface, acells_niliface, aptr_ptr, anil_ptr, aextract_0, aextract_1, aextract_2, alenS_sl, alenS_nil, apartOf_agg, apart_t, apart_f, astore_ptr, hset_at0, hset_at, List.set_cons_zero, List.set_cons_succ, set_app, set_app0, aload_ptr, splice_eq, List.drop_nil, List.append_nil, isCell_int, isCell_bool, isCell_str, isCell_ptr, isCell_sl, isCell_nilsl, isCell_nilptr, isCell_iface, isCell_niliface, List.all_cons, List.all_nil, Bool.and_self, hget_at0, hget_at, len_app, List.length_cons, List.length_nil, get_app, get_app0, List.getElem?_cons_zero, List.getElem?_cons_succ, join_some, List.append_assoc, List.cons_append, List.nil_append, Nat.zero_add, Nat.add_zero, chkRd_eq, chkAl_blk, if_true, if_false, Bool.false_eq_true, List.drop_succ_cons, List.drop_zero, List.take_succ_cons, List.take_zero, Bool.and_true, Bool.true_and, decide_true, decide_false, wrap64_id, aixG_eq, Nat.reduceAdd, Nat.reduceSub, Nat.reduceMul, Nat.reduceLeDiff, Nat.reduceLT, Int.reduceAdd, Int.reduceSub, Int.reduceMul, Int.reduceNeg, Int.reduceLT, Int.reduceLE, Int.reduceGT, Int.reduceGE, Int.reduceToNat, ↓reduceIte, and_self, true_and, and_true, Cfg.g0, Cfg.g1, Cfg.g2, Cfg.g3, Cfg.g4, Cfg.g5, Cfg.g6, Cfg.g7, Cfg.g8, Cfg.g9, Cfg.g10, Cfg.len, Cfg.take, Cfg.drop, Cfg.s8, Cfg.s9, Cfg.s10, Cfg.s7, Cfg.zero, Nat.le_refl]
    refine Ev.call (c_awake _) fun v ga hv => ?_
    subst hv
    simp (dsimp := false) (implicitDefEqProofs := false) (disch := omega) only [gv_some, gr_some, gI_int, gB_bool, gS_str, gc_t, gc_f, gi_t, gi_f, gN_eq, gf_t, Option.bind_some, Option.bind_none, Option.map_some, acells_agg, acells_int, acells_bool, acells_str, acells_ptr, acells_sl, acells_nilsl, acells_nilptr, acells_iface, acells_niliface, aptr_ptr, anil_ptr, aextract_0, aextract_1, aextract_2, alenS_sl, alenS_nil, apartOf_agg, apart_t, apart_f, astore_ptr, hset_at0, hset_at, List.set_cons_zero, List.set_cons_succ, set_app, set_app0, aload_ptr, splice_eq, List.drop_nil, List.append_nil, isCell_int, isCell_bool, isCell_str, isCell_ptr, isCell_sl, isCell_nilsl, isCell_nilptr, isCell_iface, isCell_niliface, List.all_cons, List.all_nil, Bool.and_self, hget_at0, hget_at, len_app, List.length_cons, List.length_nil, get_app, get_app0, List.getElem?_cons_zero, List.getElem?_cons_succ, join_some, List.append_assoc, List.cons_append, List.nil_append, Nat.zero_add, Nat.add_zero, chkRd_eq, chkAl_blk, if_true, if_false, Bool.false_eq_true, List.drop_succ_cons, List.drop_zero, List.take_succ_cons, List.take_zero, Bool.and_true, Bool.true_and, decide_true, decide_false, wrap64_id, aixG_eq, Nat.reduceAdd, Nat.reduceSub, Nat.reduceMul, Nat.reduceLeDiff, Nat.reduceLT, Int.reduceAdd, Int.reduceSub, Int.reduceMul, Int.reduceNeg, Int.reduceLT, Int.reduceLE, Int.reduceGT, Int.reduceGE, Int.reduceToNat, ↓reduceIte, and_self, true_and, and_true, Cfg.g0, Cfg.g1, Cfg.g2, Cfg.g3, Cfg.g4, Cfg.g5, Cfg.g6, Cfg.g7, Cfg.g8, Cfg.g9, Cfg.g10, Cfg.len, Cfg.take, Cfg.drop, Cfg.s8, Cfg.s9, Cfg.s10, Cfg.s7, Cfg.zero, Nat.le_refl, Bool.not_true, J7_1_eq]
    refine Ev.call (c_works c _ _ (hc0.app _)) fun v gw hv => ?_
    obtain ⟨b, rfl, hb⟩ := hv
    simp (dsimp := false) (implicitDefEqProofs := false) (disch := omega) only [gv_some, gr_some, gI_int, gB_bool, gS_str, gc_t, gc_f, gi_t, gi_f, gN_eq, gf_t, Option.bind_some, Option.bind_none, Option.map_some, acells_agg, acells_int, acells_bool, acells_str, acells_ptr, acells_sl, acells_nilsl, acells_nilptr, acells_iface, acells_niliface, aptr_ptr, anil_ptr, aextract_0, aextract_1, aextract_2, alenS_sl, alenS_nil, apartOf_agg, apart_t, apart_f, astore_ptr, hset_at0, hset_at, List.set_cons_zero, List.set_cons_succ, set_app, set_app0, aload_ptr, splice_eq, List.drop_nil, List.append_nil, isCell_int, isCell_bool, isCell_str, isCell_ptr, isCell_sl, isCell_nilsl, isCell_nilptr, isCell_iface, isCell_niliface, List.all_cons, List.all_nil, Bool.and_self, hget_at0, hget_at, len_app, List.length_cons, List.length_nil, get_app, get_app0, List.getElem?_cons_zero, List.getElem?_cons_succ, join_some, List.append_assoc, List.cons_append, List.nil_append, Nat.zero_add, Nat.add_zero, chkRd_eq, chkAl_blk, if_true, if_false, Bool.false_eq_true, List.drop_succ_cons, List.drop_zero, List.take_succ_cons, List.take_zero, Bool.and_true, Bool.true_and, decide_true, decide_false, wrap64_id, aixG_eq, Nat.reduceAdd, Nat.reduceSub, Nat.reduceMul, Nat.reduceLeDiff, Nat.reduceLT, Int.reduceAdd, Int.reduceSub, Int.reduceMul, Int.reduceNeg, Int.reduceLT, Int.reduceLE, Int.reduceGT, Int.reduceGE, Int.reduceToNat, ↓reduceIte, and_self, true_and, and_true]
    refine Ev.ite (fun h1 => by simp (dsimp := false) (implicitDefEqProofs := false) (disch := omega) only [gv_some, gr_some, gI_int, gB_bool, gS_str, gc_t, gc_f, gi_t, gi_f, gN_eq, gf_t, Option.bind_some, Option.bind_none, Option.map_some, acells_agg, acells_int, acells_bool, acells_str, acells_ptr, acells_sl, acells_nilsl, acells_nilptr, acells_iface, acells_niliface, aptr_ptr, anil_ptr, aextract_0, aextract_1, aextract_2, alenS_sl, alenS_nil, apartOf_agg, apart_t, apart_f, astore_ptr, hset_at0, hset_at, List.set_cons_zero, List.set_cons_succ, set_app, set_app0, aload_ptr, splice_eq, List.drop_nil, List.append_nil, isCell_int, isCell_bool, isCell_str, isCell_ptr, isCell_sl, isCell_nilsl, isCell_nilptr, isCell_iface, isCell_niliface, List.all_cons, List.all_nil, Bool.and_self, hget_at0, hget_at, len_app, List.length_cons, List.length_nil, get_app, get_app0, List.getElem?_cons_zero, List.getElem?_cons_succ, join_some, List.append_assoc, List.cons_append, List.nil_append, Nat.zero_add, Nat.add_zero, chkRd_eq, chkAl_blk, if_true, if_false, Bool.false_eq_true, List.drop_succ_cons, List.drop_zero, List.take_succ_cons, List.take_zero, Bool.and_true, Bool.true_and, decide_true, decide_false, wrap64_id, aixG_eq, Nat.reduceAdd, Nat.reduceSub, Nat.reduceMul, Nat.reduceLeDiff, Nat.reduceLT, Int.reduceAdd, Int.reduceSub, Int.reduceMul, Int.reduceNeg, Int.reduceLT, Int.reduceLE, Int.reduceGT, Int.reduceGE, Int.reduceToNat, ↓reduceIte, and_self, true_and, and_true, J7_2_eq]; exact Ev.done rfl) fun h1 => ?_
    simp only [Bool.not_eq_false'] at h1
    obtain ⟨hf, hs⟩ := hb h1
    have hg := (sErr_good hs).1
    refine Ev.itd (fun h2 => by simp (dsimp := false) (implicitDefEqProofs := false) (disch := omega) only [gv_some, gr_some, gI_int, gB_bool, gS_str, gc_t, gc_f, gi_t, gi_f, gN_eq, gf_t, Option.bind_some, Option.bind_none, Option.map_some, acells_agg, acells_int, acells_bool, acells_str, acells_ptr, acells_sl, acells_nilsl, acells_nilptr, acells_iface, acells_niliface, aptr_ptr, anil_ptr, aextract_0, aextract_1, aextract_2, alenS_sl, alenS_nil, apartOf_agg, apart_t, apart_f, astore_ptr, hset_at0, hset_at, List.set_cons_zero, List.set_cons_succ, set_app, set_app0, aload_ptr, splice_eq, List.drop_nil, List.append_nil, isCell_int, isCell_bool, isCell_str, isCell_ptr, isCell_sl, isCell_nilsl, isCell_nilptr, isCell_iface, isCell_niliface, List.all_cons, List.all_nil, Bool.and_self, hget_at0, hget_at, len_app, List.length_cons, List.length_nil, get_app, get_app0, List.getElem?_cons_zero, List.getElem?_cons_succ, join_some, List.append_assoc, List.cons_append, List.nil_append, Nat.zero_add, Nat.add_zero, chkRd_eq, chkAl_blk, if_true, if_false, Bool.false_eq_true, List.drop_succ_cons, List.drop_zero, List.take_succ_cons, List.take_zero, Bool.and_true, Bool.true_and, decide_true, decide_false, wrap64_id, aixG_eq, Nat.reduceAdd, Nat.reduceSub, Nat.reduceMul, Nat.reduceLeDiff, Nat.reduceLT, Int.reduceAdd, Int.reduceSub, Int.reduceMul, Int.reduceNeg, Int.reduceLT, Int.reduceLE, Int.reduceGT, Int.reduceGE, Int.reduceToNat, ↓reduceIte, and_self, true_and, and_true, J7_2_eq]; exact Ev.done rfl) fun h2 => ?_
    simp (dsimp := false) (implicitDefEqProofs := false) (disch := omega) only [gv_some, gr_some, gI_int, gB_bool, gS_str, gc_t, gc_f, gi_t, gi_f, gN_eq, gf_t, Option.bind_some, Option.bind_none, Option.map_some, acells_agg, acells_int, acells_bool, acells_str, acells_ptr, acells_sl, acells_nilsl, acells_nilptr, acells_iface, acells_niliface, aptr_ptr, anil_ptr, aextract_0, aextract_1, aextract_2, alenS_sl, alenS_nil, apartOf_agg, apart_t, apart_f, astore_ptr, hset_at0, hset_at, List.set_cons_zero, List.set_cons_succ, set_app, set_app0, aload_ptr, splice_eq, List.drop_nil, List.append_nil, isCell_int, isCell_bool, isCell_str, isCell_ptr, isCell_sl, isCell_nilsl, isCell_nilptr, isCell_iface, isCell_niliface, List.all_cons, List.all_nil, Bool.and_self, hget_at0, hget_at, len_app, List.length_cons, List.length_nil, get_app, get_app0, List.getElem?_cons_zero, List.getElem?_cons_succ, join_some, List.append_assoc, List.cons_append, List.nil_append, Nat.zero_add, Nat.add_zero, chkRd_eq, chkAl_blk, if_true, if_false, Bool.false_eq_true, List.drop_succ_cons, List.drop_zero, List.take_succ_cons, List.take_zero, Bool.and_true, Bool.true_and, decide_true, decide_false, wrap64_id, aixG_eq, Nat.reduceAdd, Nat.reduceSub, Nat.reduceMul, Nat.reduceLeDiff, Nat.reduceLT, Int.reduceAdd, Int.reduceSub, Int.reduceMul, Int.reduceNeg, Int.reduceLT, Int.reduceLE, Int.reduceGT, Int.reduceGE, Int.reduceToNat, ↓reduceIte, and_self, true_and, and_true, Cfg.g0, Cfg.g1, Cfg.g2, Cfg.g3, Cfg.g4, Cfg.g5, Cfg.g6, Cfg.g7, Cfg.g8, Cfg.g9, Cfg.g10, Cfg.len, Cfg.take, Cfg.drop, Cfg.s8, Cfg.s9, Cfg.s10, Cfg.s7, Cfg.zero, Nat.le_refl, l.parts.len, J7_2_eq]
    refine Ev.cdd (fun h3 => by (try simp only [List.append_assoc, List.cons_append, List.nil_append]); exact Ev.done rfl) fun h3 => ?_
    obtain ⟨pt, rfl⟩ : ∃ pt : Nat, n = pt := ⟨n.toNat, by omega⟩
    have hp : pt < c.parts.length := by omega
    simp (dsimp := false) (implicitDefEqProofs := false) (disch := omega) only [gv_some, gr_some, gI_int, gB_bool, gS_str, gc_t, gc_f, gi_t, gi_f, gN_eq, gf_t, Option.bind_some, Option.bind_none, Option.map_some, acells_agg, acells_int, acells_bool, acells_str, acells_ptr, acells_sl, acells_nilsl, acells_nilptr, acells_iface, acells_niliface, aptr_ptr, anil_ptr, aextract_0, aextract_1, aextract_2, alenS_sl, alenS_nil, apartOf_agg, apart_t, apart_f, astore_ptr, hset_at0, hset_at, List.set_cons_zero, List.set_cons_succ, set_app, set_app0, aload_ptr, splice_eq, List.drop_nil, List.append_nil, isCell_int, isCell_bool, isCell_str, isCell_ptr, isCell_sl, isCell_nilsl, isCell_nilptr, isCell_iface, isCell_niliface, List.all_cons, List.all_nil, Bool.and_self, hget_at0, hget_at, len_app, List.length_cons, List.length_nil, get_app, get_app0, List.getElem?_cons_zero, List.getElem?_cons_succ, join_some, List.append_assoc, List.cons_append, List.nil_append, Nat.zero_add, Nat.add_zero, chkRd_eq, chkAl_blk, if_true, if_false, Bool.false_eq_true, List.drop_succ_cons, List.drop_zero, List.take_succ_cons, List.take_zero, Bool.and_true, Bool.true_and, decide_true, decide_false, wrap64_id, aixG_eq, Nat.reduceAdd, Nat.reduceSub, Nat.reduceMul, Nat.reduceLeDiff, Nat.reduceLT, Int.reduceAdd, Int.reduceSub, Int.reduceMul, Int.reduceNeg, Int.reduceLT, Int.reduceLE, Int.reduceGT, Int.reduceGE, Int.reduceToNat, ↓reduceIte, and_self, true_and, and_true, Cfg.g0, Cfg.g1, Cfg.g2, Cfg.g3, Cfg.g4, Cfg.g5, Cfg.g6, Cfg.g7, Cfg.g8, Cfg.g9, Cfg.g10, Cfg.len, Cfg.take, Cfg.drop, Cfg.s8, Cfg.s9, Cfg.s10, Cfg.s7, Cfg.zero, Nat.le_refl, J7_3_eq]
    refine Ev.call (c_reach c hg _ p q r (l.app _) pt hp) fun v g hv => ?_
    have hl : (reach c pt).length = c.parts.length := by rw [reach, passes_len]; simp
    have e0 : ((c.parts.length : Int) != (c.parts.length : Int)) = false := by simp
    simp (dsimp := false) (implicitDefEqProofs := false) (disch := omega) only [gv_some, gr_some, gI_int, gB_bool, gS_str, gc_t, gc_f, gi_t, gi_f, gN_eq, gf_t, Option.bind_some, Option.bind_none, Option.map_some, acells_agg, acells_int, acells_bool, acells_str, acells_ptr, acells_sl, acells_nilsl, acells_nilptr, acells_iface, acells_niliface, aptr_ptr, anil_ptr, aextract_0, aextract_1, aextract_2, alenS_sl, alenS_nil, apartOf_agg, apart_t, apart_f, astore_ptr, hset_at0, hset_at, List.set_cons_zero, List.set_cons_succ, set_app, set_app0, aload_ptr, splice_eq, List.drop_nil, List.append_nil, isCell_int, isCell_bool, isCell_str, isCell_ptr, isCell_sl, isCell_nilsl, isCell_nilptr, isCell_iface, isCell_niliface, List.all_cons, List.all_nil, Bool.and_self, hget_at0, hget_at, len_app, List.length_cons, List.length_nil, get_app, get_app0, List.getElem?_cons_zero, List.getElem?_cons_succ, join_some, List.append_assoc, List.cons_append, List.nil_append, Nat.zero_add, Nat.add_zero, chkRd_eq, chkAl_blk, if_true, if_false, Bool.false_eq_true, List.drop_succ_cons, List.drop_zero, List.take_succ_cons, List.take_zero, Bool.and_true, Bool.true_and, decide_true, decide_false, wrap64_id, aixG_eq, Nat.reduceAdd, Nat.reduceSub, Nat.reduceMul, Nat.reduceLeDiff, Nat.reduceLT, Int.reduceAdd, Int.reduceSub, Int.reduceMul, Int.reduceNeg, Int.reduceLT, Int.reduceLE, Int.reduceGT, Int.reduceGE, Int.reduceToNat, ↓reduceIte, and_self, true_and, and_true, Cfg.g0, Cfg.g1, Cfg.g2, Cfg.g3, Cfg.g4, Cfg.g5, Cfg.g6, Cfg.g7, Cfg.g8, Cfg.g9, Cfg.g10, Cfg.len, Cfg.take, Cfg.drop, Cfg.s8, Cfg.s9, Cfg.s10, Cfg.s7, Cfg.zero, Nat.le_refl, hv.len, l.parts.len, hl, e0]
    obtain ⟨eb, eo, ix, ea⟩ := hv.elem encB_len pt (by omega)
    refine Ev.val ix ?_
    refine Ev.val (ea.load0 1) ?_
    try simp only [List.append_assoc, List.cons_append, List.nil_append] at hv
    have : (reach c pt)[pt]'(by omega) = true := by
      have := reach_self hp
      simpa [List.getD, show pt < (reach c pt).length by omega] using this
    rw [this]
    simp (dsimp := false) (implicitDefEqProofs := false) (disch := omega) only [gv_some, gr_some, gI_int, gB_bool, gS_str, gc_t, gc_f, gi_t, gi_f, gN_eq, gf_t, Option.bind_some, Option.bind_none, Option.map_some, acells_agg, acells_int, acells_bool, acells_str, acells_ptr, acells_sl, acells_nilsl, acells_nilptr, acells_iface, acells_niliface, aptr_ptr, anil_ptr, aextract_0, aextract_1, aextract_2, alenS_sl, alenS_nil, apartOf_agg, apart_t, apart_f, astore_ptr, hset_at0, hset_at, List.set_cons_zero, List.set_cons_succ, set_app, set_app0, aload_ptr, splice_eq, List.drop_nil, List.append_nil, isCell_int, isCell_bool, isCell_str, isCell_ptr, isCell_sl, isCell_nilsl, isCell_nilptr, isCell_iface, isCell_niliface, List.all_cons, List.all_nil, Bool.and_self, hget_at0, hget_at, len_app, List.length_cons, List.length_nil, get_app, get_app0, List.getElem?_cons_zero, List.getElem?_cons_succ, join_some, List.append_assoc, List.cons_append, List.nil_append, Nat.zero_add, Nat.add_zero, chkRd_eq, chkAl_blk, if_true, if_false, Bool.false_eq_true, List.drop_succ_cons, List.drop_zero, List.take_succ_cons, List.take_zero, Bool.and_true, Bool.true_and, decide_true, decide_false, wrap64_id, aixG_eq, Nat.reduceAdd, Nat.reduceSub, Nat.reduceMul, Nat.reduceLeDiff, Nat.reduceLT, Int.reduceAdd, Int.reduceSub, Int.reduceMul, Int.reduceNeg, Int.reduceLT, Int.reduceLE, Int.reduceGT, Int.reduceGE, Int.reduceToNat, ↓reduceIte, and_self, true_and, and_true, Bool.not_true, J7_4_eq, J7_5_eq, hv.len]
    have hb0 : CfgB (h ++ [some (.cells false (c.cells p q r))]) c h.length := ⟨false, p, q, r, by rw [hget_at0]; rfl, l.app _⟩
    have hb1 := ((hb0.app ga).app gw).app g
    try simp only [List.append_assoc, List.cons_append, List.nil_append] at hb1
    exact Ev.base (lawOut c hg pt hp h.length v (reach c pt) 0 _ hb1 hv rfl)
  obtain ⟨v, g, e, rfl⟩ := main
  exact ⟨_, e⟩
end Go.Ab
end
