/-
  Functions of the program as equations, and their contracts.
-/
import Derived.Test.YtfkpfopibppgkaaGa1
import Derived.Test.YtfkpfopibppgkaaGa2
import Derived.Test.YtfkpfopibppgkaaGa3
import Derived.Test.YtfkpfopibppgkaaGSoundMore1
import Derived.Test.YtfkpfopibppgkaaGSoundMore2
import Derived.Test.YtfkpfopibppgkaaGSoundMore3
import Derived.Test.YtfkpfopibppgkaaGSoundMore4
set_option linter.all false
section
/-
  SoundMore.
-/
namespace Go.Ab
open Go.Proofs

theorem fbi_none {α : Type} {f : Nat → α → Bool} : ∀ {l : List α} {k : Nat}, fbi f l k = none ↔ ∀ i (hi : i < l.length), f (k + i) l[i] = false
  | [], k => by simp [fbi]
  | a :: l, k => by
    unfold fbi
    constructor
    · intro e i hi
      by_cases ha : f k a = true
      · rw [if_pos ha] at e; cases e
      · rw [if_neg ha] at e
        cases i with
        | zero => simpa using ha
        | succ i =>
          have := fbi_none.1 e i (by simpa using hi)
          rw [show k + (i + 1) = k + 1 + i by omega]
          exact this
    · intro h
      have h0 := h 0 (by simp)
      simp only [Nat.add_zero, List.getElem_cons_zero] at h0
      rw [h0]
      refine fbi_none.2 fun i hi => ?_
      have := h (i + 1) (by simpa using hi)
      rw [show k + (i + 1) = k + 1 + i by omega] at this
      exact this
/-- Windows that lie in the round and do not meet. -/
theorem fbi_w {c : Cfg} : fbi (wbad c) c.parts 0 = none ↔ (∀ p ∈ c.parts, p.start + p.length ≤ c.nodes * c.slot) ∧ c.parts.Pairwise (fun q p => meets p q = false) := by
  rw [fbi_none]
  constructor
  · intro h
    constructor
    · intro p hp
      obtain ⟨i, hi, rfl⟩ := List.getElem_of_mem hp
      have := h i hi
      simp only [wbad, Bool.or_eq_false_iff, decide_eq_false_iff_not] at this
      omega
    · rw [List.pairwise_iff_getElem]
      intro i j hi hj hij
      have := h j hj
      simp only [wbad, Bool.or_eq_false_iff, Nat.zero_add, List.any_eq_false] at this
      have := this.2 c.parts[i] (List.mem_take_iff_getElem.2 ⟨i, by omega, rfl⟩)
      simpa using this
  · rintro ⟨h1, h2⟩ i hi
    rw [List.pairwise_iff_getElem] at h2
    simp only [wbad, Bool.or_eq_false_iff, decide_eq_false_iff_not, Nat.zero_add, List.any_eq_false]
    refine ⟨by have := h1 c.parts[i] (List.getElem_mem hi); omega, fun q hq => ?_⟩
    obtain ⟨j, hj, rfl⟩ := List.mem_take_iff_getElem.1 hq
    simpa using h2 j i (by omega) hi (by omega)
/-- Routes that fit, and lead to ports that no other leads to. -/
theorem fbi_r {c : Cfg} : fbi (rbad c) c.routes 0 = none ↔ (∀ r ∈ c.routes, unfit (c.port r.src) (c.port r.dst) = false) ∧ c.routes.Pairwise (fun q r => (q.dst == r.dst) = false) := by
  rw [fbi_none]
  constructor
  · intro h
    constructor
    · intro p hp
      obtain ⟨i, hi, rfl⟩ := List.getElem_of_mem hp
      have := h i hi
      simp only [rbad, Bool.or_eq_false_iff] at this
      exact this.1
    · rw [List.pairwise_iff_getElem]
      intro i j hi hj hij
      have := h j hj
      simp only [rbad, Bool.or_eq_false_iff, Nat.zero_add, List.any_eq_false] at this
      have := this.2 c.routes[i] (List.mem_take_iff_getElem.2 ⟨i, by omega, rfl⟩)
      simpa using this
  · rintro ⟨h1, h2⟩ i hi
    rw [List.pairwise_iff_getElem] at h2
    simp only [rbad, Bool.or_eq_false_iff, Nat.zero_add, List.any_eq_false]
    refine ⟨h1 _ (List.getElem_mem hi), fun q hq => ?_⟩
    obtain ⟨j, hj, rfl⟩ := List.mem_take_iff_getElem.1 hq
    simpa using h2 j i (by omega) hi (by omega)

def moreA (c : Cfg) (l : List Route) : Cfg := { c with routes := l }
def moreB (c : Cfg) (l : List Part) : Cfg := { c with parts := l, ports := [], routes := [] }
theorem moreA_ok {c : Cfg} (h : sErr c = []) {l : List Route} (hl : l.Sublist c.routes) : sErr (moreA c l) = [] := by
  obtain ⟨g, q1, q2, q3, q4, q5, q6⟩ := sErr_good h
  have hr := fbi_r.1 q6
  obtain ⟨hi, np, nq, nr, gp, gq, gr⟩ := g
  refine good_sErr ⟨⟨hi.n1, hi.n2, hi.f1, hi.f2, hi.s1, hi.s2, hi.g1, hi.g2, hi.r1, hi.r2, hi.x1, hi.x2, hi.d1, hi.d2, hi.m1, hi.m2⟩, np, nq, ?_, gp, gq, ?_⟩ q1 q2 q3 q4 q5 ?_
  · have := hl.length_le
    show l.length ≤ 24
    omega
  · exact fun r hr => gr r (hl.subset hr)
  · exact fbi_r.2 ⟨fun r h => hr.1 r (hl.subset h), hr.2.sublist hl⟩
theorem moreB_ok {c : Cfg} (h : sErr c = []) {l : List Part} (hl : l.Sublist c.parts) : sErr (moreB c l) = [] := by
  obtain ⟨g, q1, q2, q3, q4, q5, q6⟩ := sErr_good h
  have hr := fbi_w.1 q5
  obtain ⟨hi, np, nq, nr, gp, gq, gr⟩ := g
  refine good_sErr ⟨⟨hi.n1, hi.n2, hi.f1, hi.f2, hi.s1, hi.s2, hi.g1, hi.g2, hi.r1, hi.r2, hi.x1, hi.x2, hi.d1, hi.d2, hi.m1, hi.m2⟩, ?_, by simp [moreB], by simp [moreB], ?_, by simp [moreB], by simp [moreB]⟩ q1 q2 q3 q4 ?_ rfl
  · have := hl.length_le
    show l.length ≤ 12
    omega
  · exact fun r hr => gp r (hl.subset hr)
  · exact fbi_w.2 ⟨fun r h => hr.1 r (hl.subset h), hr.2.sublist hl⟩
theorem u64_id {m : Nat} (h : m ≤ 100000) : IntKind.u64.wrap (m : Int) = m := wrapu64_id (by omega) (by omega)
theorem remU (x : Int) (m : Nat) (h0 : 0 < m) (h : m ≤ 100000) : ∃ k : Nat, k < m ∧ aint .rem .u64 .u64 (IntKind.u64.wrap x) (IntKind.u64.wrap (m : Int)) = some (.int .u64 (k : Int)) := by
  have hx : 0 ≤ IntKind.u64.wrap x := by
    unfold IntKind.wrap
    simp only [IntKind.bits, IntKind.signed]
    simp; omega
  refine ⟨(IntKind.u64.wrap x % (m : Int)).toNat, ?_, ?_⟩
  · have := Int.emod_lt_of_pos (IntKind.u64.wrap x) (show (0 : Int) < m by omega)
    have := Int.emod_nonneg (IntKind.u64.wrap x) (show (m : Int) ≠ 0 by omega)
    omega
  · have := Int.emod_nonneg (IntKind.u64.wrap x) (show (m : Int) ≠ 0 by omega)
    rw [u64_id h]
    simp only [aint, if_true]
    rw [if_neg (by omega), Int.tmod_eq_emod_of_nonneg hx]
    congr 2
    omega
/-- Without one element. -/
def without {α : Type} (l : List α) (k : Nat) : List α := l.take k ++ l.drop (k + 1)
theorem without_sub {α : Type} (l : List α) (k : Nat) : (without l k).Sublist l := by
  unfold without
  conv => rhs; rw [← List.take_append_drop k l]
  refine List.Sublist.append (List.Sublist.refl _) ?_
  rw [← List.drop_drop]
  exact List.drop_sublist _ _
theorem own_sl {α : Type} {o sz : Nat} {t : AHeap} {enc : α → List AV} {l : List α} {x : AV} (h : Own o t sz enc l x) {H : AHeap} (p w : AHeap) (hp : p.length = o) (e : H = p ++ (t ++ w)) : Sl H sz enc l x := by
  subst e
  exact h.sl p w hp
theorem more3 (c : Cfg) (hf : c.few) (hs : sErr c = []) (n : Int) (H S A T S2 B R W : AHeap) (p1 q1 yr p2 q2 r2 : AV) (la : List Route) (hla : la.Sublist c.routes)
    (ha : ∀ E B' W', B'.length = B.length → Lists (H ++ some (.cells false ((moreA c la).cells p1 q1 yr)) :: E :: (S ++ (A ++ (T ++ (S2 ++ (B' ++ (R ++ (W ++ W')))))))) (moreA c la) p1 q1 yr)
    (hp2 : Own (H.length + 2 + S.length + A.length + T.length + S2.length) B 9 Part.cells c.parts p2) :
    Ev (J6_3 n H.length (H.length + 1) (H ++ some (.cells false ((moreA c la).cells p1 q1 yr)) :: some (.cells false (c.cells p2 q2 r2)) :: (S ++ (A ++ (T ++ (S2 ++ (B ++ (R ++ W)))))))) H fun v _ => v = .bool true := by
  obtain ⟨f1, f2, f3⟩ := id hf
  have i2 := hp2.isc
  have fin : ∀ (lb : List Part) (yp : AV) (B' W' : AHeap), lb.Sublist c.parts → B'.length = B.length →
      Sl (H ++ some (.cells false ((moreA c la).cells p1 q1 yr)) :: some (.cells false (c.cells yp .nilsl .nilsl)) :: (S ++ (A ++ (T ++ (S2 ++ (B' ++ (R ++ (W ++ W')))))))) 9 Part.cells lb yp →
      Ev (J6_4 H.length (H.length + 1) (H ++ some (.cells false ((moreA c la).cells p1 q1 yr)) :: some (.cells false (c.cells yp .nilsl .nilsl)) :: (S ++ (A ++ (T ++ (S2 ++ (B' ++ (R ++ (W ++ W')))))))) ) H fun v _ => v = .bool true := by
    intro lb yp B' W' hlb hB hyp
    rw [J6_4_eq]
    simp (dsimp := false) (implicitDefEqProofs := false) (disch := omega) only [gv_some, gr_some, gI_int, gB_bool, gS_str, gc_t, gc_f, gi_t, gi_f, gN_eq, gf_t, Option.bind_some, Option.bind_none, Option.map_some, acells_agg, acells_int, acells_bool, acells_str, acells_ptr, acells_sl, acells_nilsl, acells_nilptr, acells_iface, acells_niliface, aptr_ptr, anil_ptr, aextract_0, aextract_1, aextract_2, alenS_sl, alenS_nil, apartOf_agg, apart_t, apart_f, astore_ptr, hset_at0, hset_at, List.set_cons_zero, List.set_cons_succ, set_app, set_app0, aload_ptr, splice_eq, List.drop_nil, List.append_nil, isCell_int, isCell_bool, isCell_str, isCell_ptr, isCell_sl, isCell_nilsl, isCell_nilptr, isCell_iface, isCell_niliface, List.all_cons, List.all_nil, Bool.and_self, hget_at0, hget_at, len_app, List.length_cons, List.length_nil, get_app, get_app0, List.getElem?_cons_zero, List.getElem?_cons_succ, join_some, List.append_assoc, List.cons_append, List.nil_append, Nat.zero_add, Nat.add_zero, chkRd_eq, chkAl_blk, if_true, if_false, Bool.false_eq_true, List.drop_succ_cons, List.drop_zero, List.take_succ_cons, List.take_zero, Bool.and_true, Bool.true_and, decide_true, decide_false, wrap64_id, aixG_eq, Nat.reduceAdd, Nat.reduceSub, Nat.reduceMul, Nat.reduceLeDiff, Nat.reduceLT, Int.reduceAdd, Int.reduceSub, Int.reduceMul, Int.reduceNeg, Int.reduceLT, Int.reduceLE, Int.reduceGT, Int.reduceGE, Int.reduceToNat, ↓reduceIte, and_self, true_and, and_true, Cfg.g0, Cfg.g1, Cfg.g2, Cfg.g3, Cfg.g4, Cfg.g5, Cfg.g6, Cfg.g7, Cfg.g8, Cfg.g9, Cfg.g10, Cfg.len, Cfg.take, Cfg.drop, Cfg.s8, Cfg.s9, Cfg.s10, Cfg.s7, Cfg.zero, Nat.le_refl]
    refine Ev.call (c_scheck (moreA c la) ⟨f1, f2, by have := hla.length_le; show la.length ≤ 1000; omega⟩ _ _ ⟨_, _, _, rfl, ha _ B' W' hB⟩) fun v g hv => ?_
    rw [moreA_ok hs hla] at hv
    cases hv
    simp (dsimp := false) (implicitDefEqProofs := false) (disch := omega) only [gv_some, gr_some, gI_int, gB_bool, gS_str, gc_t, gc_f, gi_t, gi_f, gN_eq, gf_t, Option.bind_some, Option.bind_none, Option.map_some, acells_agg, acells_int, acells_bool, acells_str, acells_ptr, acells_sl, acells_nilsl, acells_nilptr, acells_iface, acells_niliface, aptr_ptr, anil_ptr, aextract_0, aextract_1, aextract_2, alenS_sl, alenS_nil, apartOf_agg, apart_t, apart_f, astore_ptr, hset_at0, hset_at, List.set_cons_zero, List.set_cons_succ, set_app, set_app0, aload_ptr, splice_eq, List.drop_nil, List.append_nil, isCell_int, isCell_bool, isCell_str, isCell_ptr, isCell_sl, isCell_nilsl, isCell_nilptr, isCell_iface, isCell_niliface, List.all_cons, List.all_nil, Bool.and_self, hget_at0, hget_at, len_app, List.length_cons, List.length_nil, get_app, get_app0, List.getElem?_cons_zero, List.getElem?_cons_succ, join_some, List.append_assoc, List.cons_append, List.nil_append, Nat.zero_add, Nat.add_zero, chkRd_eq, chkAl_blk, if_true, if_false, Bool.false_eq_true, List.drop_succ_cons, List.drop_zero, List.take_succ_cons, List.take_zero, Bool.and_true, Bool.true_and, decide_true, decide_false, wrap64_id, aixG_eq, Nat.reduceAdd, Nat.reduceSub, Nat.reduceMul, Nat.reduceLeDiff, Nat.reduceLT, Int.reduceAdd, Int.reduceSub, Int.reduceMul, Int.reduceNeg, Int.reduceLT, Int.reduceLE, Int.reduceGT, Int.reduceGE, Int.reduceToNat, ↓reduceIte, and_self, true_and, and_true, err_eq_nil, Cfg.g0, Cfg.g1, Cfg.g2, Cfg.g3, Cfg.g4, Cfg.g5, Cfg.g6, Cfg.g7, Cfg.g8, Cfg.g9, Cfg.g10, Cfg.len, Cfg.take, Cfg.drop, Cfg.s8, Cfg.s9, Cfg.s10, Cfg.s7, Cfg.zero, Nat.le_refl]
    refine Ev.call (c_scheck (moreB c lb) ⟨by have := hlb.length_le; show lb.length ≤ 1000; omega, by simp [moreB], by simp [moreB]⟩ _ _ ⟨yp, .nilsl, .nilsl, rfl, ⟨?_, .inl ⟨rfl, rfl⟩, .inl ⟨rfl, rfl⟩⟩⟩) fun v g2 hv => ?_
    · have := hyp.app g
      try simp only [List.append_assoc, List.cons_append, List.nil_append] at this
      exact this
    rw [moreB_ok hs hlb] at hv
    cases hv
    simp (dsimp := false) (implicitDefEqProofs := false) (disch := omega) only [gv_some, gr_some, gI_int, gB_bool, gS_str, gc_t, gc_f, gi_t, gi_f, gN_eq, gf_t, Option.bind_some, Option.bind_none, Option.map_some, acells_agg, acells_int, acells_bool, acells_str, acells_ptr, acells_sl, acells_nilsl, acells_nilptr, acells_iface, acells_niliface, aptr_ptr, anil_ptr, aextract_0, aextract_1, aextract_2, alenS_sl, alenS_nil, apartOf_agg, apart_t, apart_f, astore_ptr, hset_at0, hset_at, List.set_cons_zero, List.set_cons_succ, set_app, set_app0, aload_ptr, splice_eq, List.drop_nil, List.append_nil, isCell_int, isCell_bool, isCell_str, isCell_ptr, isCell_sl, isCell_nilsl, isCell_nilptr, isCell_iface, isCell_niliface, List.all_cons, List.all_nil, Bool.and_self, hget_at0, hget_at, len_app, List.length_cons, List.length_nil, get_app, get_app0, List.getElem?_cons_zero, List.getElem?_cons_succ, join_some, List.append_assoc, List.cons_append, List.nil_append, Nat.zero_add, Nat.add_zero, chkRd_eq, chkAl_blk, if_true, if_false, Bool.false_eq_true, List.drop_succ_cons, List.drop_zero, List.take_succ_cons, List.take_zero, Bool.and_true, Bool.true_and, decide_true, decide_false, wrap64_id, aixG_eq, Nat.reduceAdd, Nat.reduceSub, Nat.reduceMul, Nat.reduceLeDiff, Nat.reduceLT, Int.reduceAdd, Int.reduceSub, Int.reduceMul, Int.reduceNeg, Int.reduceLT, Int.reduceLE, Int.reduceGT, Int.reduceGE, Int.reduceToNat, ↓reduceIte, and_self, true_and, and_true, err_eq_nil]
    exact Ev.done rfl
  rw [J6_3_eq]
  simp (dsimp := false) (implicitDefEqProofs := false) (disch := omega) only [gv_some, gr_some, gI_int, gB_bool, gS_str, gc_t, gc_f, gi_t, gi_f, gN_eq, gf_t, Option.bind_some, Option.bind_none, Option.map_some, acells_agg, acells_int, acells_bool, acells_str, acells_ptr, acells_sl, acells_nilsl, acells_nilptr, acells_iface, acells_niliface, aptr_ptr, anil_ptr, aextract_0, aextract_1, aextract_2, alenS_sl, alenS_nil, apartOf_agg, apart_t, apart_f, astore_ptr, hset_at0, hset_at, List.set_cons_zero, List.set_cons_succ, set_app, set_app0, aload_ptr, splice_eq, List.drop_nil, List.append_nil, isCell_int, isCell_bool, isCell_str, isCell_ptr, isCell_sl, isCell_nilsl, isCell_nilptr, isCell_iface, isCell_niliface, List.all_cons, List.all_nil, Bool.and_self, hget_at0, hget_at, len_app, List.length_cons, List.length_nil, get_app, get_app0, List.getElem?_cons_zero, List.getElem?_cons_succ, join_some, List.append_assoc, List.cons_append, List.nil_append, Nat.zero_add, Nat.add_zero, chkRd_eq, chkAl_blk, if_true, if_false, Bool.false_eq_true, List.drop_succ_cons, List.drop_zero, List.take_succ_cons, List.take_zero, Bool.and_true, Bool.true_and, decide_true, decide_false, wrap64_id, aixG_eq, Nat.reduceAdd, Nat.reduceSub, Nat.reduceMul, Nat.reduceLeDiff, Nat.reduceLT, Int.reduceAdd, Int.reduceSub, Int.reduceMul, Int.reduceNeg, Int.reduceLT, Int.reduceLE, Int.reduceGT, Int.reduceGE, Int.reduceToNat, ↓reduceIte, and_self, true_and, and_true, Cfg.g0, Cfg.g1, Cfg.g2, Cfg.g3, Cfg.g4, Cfg.g5, Cfg.g6, Cfg.g7, Cfg.g8, Cfg.g9, Cfg.g10, Cfg.len, Cfg.take, Cfg.drop, Cfg.s8, Cfg.s9, Cfg.s10, Cfg.s7, Cfg.zero, Nat.le_refl, hp2.len]
  refine Ev.cdd (fun h0 => ?_) fun h0 => ?_
  · obtain ⟨k, hk, ek⟩ := remU n c.parts.length (by omega) (by omega)
    refine Ev.val ek ?_
    simp (dsimp := false) (implicitDefEqProofs := false) (disch := omega) only [gv_some, gr_some, gI_int, gB_bool, gS_str, gc_t, gc_f, gi_t, gi_f, gN_eq, gf_t, Option.bind_some, Option.bind_none, Option.map_some, acells_agg, acells_int, acells_bool, acells_str, acells_ptr, acells_sl, acells_nilsl, acells_nilptr, acells_iface, acells_niliface, aptr_ptr, anil_ptr, aextract_0, aextract_1, aextract_2, alenS_sl, alenS_nil, apartOf_agg, apart_t, apart_f, astore_ptr, hset_at0, hset_at, List.set_cons_zero, List.set_cons_succ, set_app, set_app0, aload_ptr, splice_eq, List.drop_nil, List.append_nil, isCell_int, isCell_bool, isCell_str, isCell_ptr, isCell_sl, isCell_nilsl, isCell_nilptr, isCell_iface, isCell_niliface, List.all_cons, List.all_nil, Bool.and_self, hget_at0, hget_at, len_app, List.length_cons, List.length_nil, get_app, get_app0, List.getElem?_cons_zero, List.getElem?_cons_succ, join_some, List.append_assoc, List.cons_append, List.nil_append, Nat.zero_add, Nat.add_zero, chkRd_eq, chkAl_blk, if_true, if_false, Bool.false_eq_true, List.drop_succ_cons, List.drop_zero, List.take_succ_cons, List.take_zero, Bool.and_true, Bool.true_and, decide_true, decide_false, wrap64_id, aixG_eq, Nat.reduceAdd, Nat.reduceSub, Nat.reduceMul, Nat.reduceLeDiff, Nat.reduceLT, Int.reduceAdd, Int.reduceSub, Int.reduceMul, Int.reduceNeg, Int.reduceLT, Int.reduceLE, Int.reduceGT, Int.reduceGE, Int.reduceToNat, ↓reduceIte, and_self, true_and, and_true, Cfg.g0, Cfg.g1, Cfg.g2, Cfg.g3, Cfg.g4, Cfg.g5, Cfg.g6, Cfg.g7, Cfg.g8, Cfg.g9, Cfg.g10, Cfg.len, Cfg.take, Cfg.drop, Cfg.s8, Cfg.s9, Cfg.s10, Cfg.s7, Cfg.zero, Nat.le_refl]
    obtain ⟨y, ey, oy⟩ := hp2.take .i64 k (by omega)
    refine Ev.val ey ?_
    simp (dsimp := false) (implicitDefEqProofs := false) (disch := omega) only [gv_some, gr_some, gI_int, gB_bool, gS_str, gc_t, gc_f, gi_t, gi_f, gN_eq, gf_t, Option.bind_some, Option.bind_none, Option.map_some, acells_agg, acells_int, acells_bool, acells_str, acells_ptr, acells_sl, acells_nilsl, acells_nilptr, acells_iface, acells_niliface, aptr_ptr, anil_ptr, aextract_0, aextract_1, aextract_2, alenS_sl, alenS_nil, apartOf_agg, apart_t, apart_f, astore_ptr, hset_at0, hset_at, List.set_cons_zero, List.set_cons_succ, set_app, set_app0, aload_ptr, splice_eq, List.drop_nil, List.append_nil, isCell_int, isCell_bool, isCell_str, isCell_ptr, isCell_sl, isCell_nilsl, isCell_nilptr, isCell_iface, isCell_niliface, List.all_cons, List.all_nil, Bool.and_self, hget_at0, hget_at, len_app, List.length_cons, List.length_nil, get_app, get_app0, List.getElem?_cons_zero, List.getElem?_cons_succ, join_some, List.append_assoc, List.cons_append, List.nil_append, Nat.zero_add, Nat.add_zero, chkRd_eq, chkAl_blk, if_true, if_false, Bool.false_eq_true, List.drop_succ_cons, List.drop_zero, List.take_succ_cons, List.take_zero, Bool.and_true, Bool.true_and, decide_true, decide_false, wrap64_id, aixG_eq, Nat.reduceAdd, Nat.reduceSub, Nat.reduceMul, Nat.reduceLeDiff, Nat.reduceLT, Int.reduceAdd, Int.reduceSub, Int.reduceMul, Int.reduceNeg, Int.reduceLT, Int.reduceLE, Int.reduceGT, Int.reduceGE, Int.reduceToNat, ↓reduceIte, and_self, true_and, and_true, Cfg.g0, Cfg.g1, Cfg.g2, Cfg.g3, Cfg.g4, Cfg.g5, Cfg.g6, Cfg.g7, Cfg.g8, Cfg.g9, Cfg.g10, Cfg.len, Cfg.take, Cfg.drop, Cfg.s8, Cfg.s9, Cfg.s10, Cfg.s7, Cfg.zero, Nat.le_refl]
    have sl := own_sl hp2 (H := H ++ some (.cells false ((moreA c la).cells p1 q1 yr)) :: some (.cells false (c.cells p2 .nilsl .nilsl)) :: (S ++ (A ++ (T ++ (S2 ++ (B ++ (R ++ W))))))) (H ++ some (.cells false ((moreA c la).cells p1 q1 yr)) :: some (.cells false (c.cells p2 .nilsl .nilsl)) :: (S ++ (A ++ (T ++ S2)))) (R ++ W) (by simp; omega) (by simp)
    obtain ⟨z, ez, oz⟩ := sl.drop Part.len .i64 (k + 1) (by omega)
    refine Ev.val ez ?_
    simp (dsimp := false) (implicitDefEqProofs := false) (disch := omega) only [gv_some, gr_some, gI_int, gB_bool, gS_str, gc_t, gc_f, gi_t, gi_f, gN_eq, gf_t, Option.bind_some, Option.bind_none, Option.map_some, acells_agg, acells_int, acells_bool, acells_str, acells_ptr, acells_sl, acells_nilsl, acells_nilptr, acells_iface, acells_niliface, aptr_ptr, anil_ptr, aextract_0, aextract_1, aextract_2, alenS_sl, alenS_nil, apartOf_agg, apart_t, apart_f, astore_ptr, hset_at0, hset_at, List.set_cons_zero, List.set_cons_succ, set_app, set_app0, aload_ptr, splice_eq, List.drop_nil, List.append_nil, isCell_int, isCell_bool, isCell_str, isCell_ptr, isCell_sl, isCell_nilsl, isCell_nilptr, isCell_iface, isCell_niliface, List.all_cons, List.all_nil, Bool.and_self, hget_at0, hget_at, len_app, List.length_cons, List.length_nil, get_app, get_app0, List.getElem?_cons_zero, List.getElem?_cons_succ, join_some, List.append_assoc, List.cons_append, List.nil_append, Nat.zero_add, Nat.add_zero, chkRd_eq, chkAl_blk, if_true, if_false, Bool.false_eq_true, List.drop_succ_cons, List.drop_zero, List.take_succ_cons, List.take_zero, Bool.and_true, Bool.true_and, decide_true, decide_false, wrap64_id, aixG_eq, Nat.reduceAdd, Nat.reduceSub, Nat.reduceMul, Nat.reduceLeDiff, Nat.reduceLT, Int.reduceAdd, Int.reduceSub, Int.reduceMul, Int.reduceNeg, Int.reduceLT, Int.reduceLE, Int.reduceGT, Int.reduceGE, Int.reduceToNat, ↓reduceIte, and_self, true_and, and_true, Cfg.g0, Cfg.g1, Cfg.g2, Cfg.g3, Cfg.g4, Cfg.g5, Cfg.g6, Cfg.g7, Cfg.g8, Cfg.g9, Cfg.g10, Cfg.len, Cfg.take, Cfg.drop, Cfg.s8, Cfg.s9, Cfg.s10, Cfg.s7, Cfg.zero, Nat.le_refl, oz.lenOf, oz.src Part.len]
    obtain ⟨y2, B', W', ea, hB, ow⟩ := aapp_own (by' := 48) (p := H ++ some (.cells false ((moreA c la).cells p1 q1 yr)) :: some (.cells false (c.cells p2 .nilsl .nilsl)) :: (S ++ (A ++ (T ++ S2)))) (u := R ++ W) (l2 := c.parts.drop (k + 1)) Part.len Part.isc oy (by simp; omega) (by simp; omega)
    try simp only [List.append_assoc, List.cons_append, List.nil_append] at ea
    have i3 : isCell y2 = true := by rcases ow with ⟨_, o⟩ | o <;> exact o.isc
    simp (dsimp := false) (implicitDefEqProofs := false) (disch := omega) only [gv_some, gr_some, gI_int, gB_bool, gS_str, gc_t, gc_f, gi_t, gi_f, gN_eq, gf_t, Option.bind_some, Option.bind_none, Option.map_some, acells_agg, acells_int, acells_bool, acells_str, acells_ptr, acells_sl, acells_nilsl, acells_nilptr, acells_iface, acells_niliface, aptr_ptr, anil_ptr, aextract_0, aextract_1, aextract_2, alenS_sl, alenS_nil, apartOf_agg, apart_t, apart_f, astore_ptr, hset_at0, hset_at, List.set_cons_zero, List.set_cons_succ, set_app, set_app0, aload_ptr, splice_eq, List.drop_nil, List.append_nil, isCell_int, isCell_bool, isCell_str, isCell_ptr, isCell_sl, isCell_nilsl, isCell_nilptr, isCell_iface, isCell_niliface, List.all_cons, List.all_nil, Bool.and_self, hget_at0, hget_at, len_app, List.length_cons, List.length_nil, get_app, get_app0, List.getElem?_cons_zero, List.getElem?_cons_succ, join_some, List.append_assoc, List.cons_append, List.nil_append, Nat.zero_add, Nat.add_zero, chkRd_eq, chkAl_blk, if_true, if_false, Bool.false_eq_true, List.drop_succ_cons, List.drop_zero, List.take_succ_cons, List.take_zero, Bool.and_true, Bool.true_and, decide_true, decide_false, wrap64_id, aixG_eq, Nat.reduceAdd, Nat.reduceSub, Nat.reduceMul, Nat.reduceLeDiff, Nat.reduceLT, Int.reduceAdd, Int.reduceSub, Int.reduceMul, Int.reduceNeg, Int.reduceLT, Int.reduceLE, Int.reduceGT, Int.reduceGE, Int.reduceToNat, ↓reduceIte, and_self, true_and, and_true, Cfg.g0, Cfg.g1, Cfg.g2, Cfg.g3, Cfg.g4, Cfg.g5, Cfg.g6, Cfg.g7, Cfg.g8, Cfg.g9, Cfg.g10, Cfg.len, Cfg.take, Cfg.drop, Cfg.s8, Cfg.s9, Cfg.s10, Cfg.s7, Cfg.zero, Nat.le_refl, ea, i3]
    refine fin (without c.parts k) y2 B' W' (without_sub _ _) hB ?_
    rcases ow with ⟨rfl, o⟩ | o
    · exact own_sl o (H ++ some (.cells false ((moreA c la).cells p1 q1 yr)) :: some (.cells false (c.cells y2 .nilsl .nilsl)) :: (S ++ (A ++ (T ++ S2)))) (R ++ (W ++ [])) (by simp; omega) (by simp)
    · exact own_sl o (H ++ some (.cells false ((moreA c la).cells p1 q1 yr)) :: some (.cells false (c.cells y2 .nilsl .nilsl)) :: (S ++ (A ++ (T ++ (S2 ++ (B' ++ (R ++ W))))))) [] (by simp; omega) (by simp)
  · have := fin c.parts p2 B [] (List.Sublist.refl _) rfl (own_sl hp2 (H ++ some (.cells false ((moreA c la).cells p1 q1 yr)) :: some (.cells false (c.cells p2 .nilsl .nilsl)) :: (S ++ (A ++ (T ++ S2)))) (R ++ (W ++ [])) (by simp; omega) (by simp))
    rw [List.append_nil] at this
    exact this
theorem more2 (c : Cfg) (hf : c.few) (hs : sErr c = []) (n : Int) (H : AHeap) (x2 : Nat) (p q r : AV) (hb : hget H x2 = some (.cells false (c.cells p q r))) (hl : Lists H c p q r) :
    Ev (J6_2 n x2 H) H fun v _ => v = .bool true := by
  obtain ⟨f1, f2, f3⟩ := id hf
  have hc0 : CfgV H c (.agg (c.cells p q r)) := ⟨p, q, r, rfl, hl⟩
  have hb' := fun g => hget_app (g := g) hb
  rw [J6_2_eq]
  simp (dsimp := false) (implicitDefEqProofs := false) (disch := omega) only [gv_some, gr_some, gI_int, gB_bool, gS_str, gc_t, gc_f, gi_t, gi_f, gN_eq, gf_t, Option.bind_some, Option.bind_none, Option.map_some, acells_agg, acells_int, acells_bool, acells_str, acells_ptr, acells_sl, acells_nilsl, acells_nilptr, acells_iface, acells_niliface, aptr_ptr, anil_ptr, aextract_0, aextract_1, aextract_2, alenS_sl, alenS_nil, apartOf_agg, apart_t, apart_f, astore_ptr, hset_at0, hset_at, List.set_cons_zero, List.set_cons_succ, set_app, set_app0, aload_ptr, splice_eq, List.drop_nil, List.append_nil, isCell_int, isCell_bool, isCell_str, isCell_ptr, isCell_sl, isCell_nilsl, isCell_nilptr, isCell_iface, isCell_niliface, List.all_cons, List.all_nil, Bool.and_self, hget_at0, hget_at, len_app, List.length_cons, List.length_nil, get_app, get_app0, List.getElem?_cons_zero, List.getElem?_cons_succ, join_some, List.append_assoc, List.cons_append, List.nil_append, Nat.zero_add, Nat.add_zero, chkRd_eq, chkAl_blk, if_true, if_false, Bool.false_eq_true, List.drop_succ_cons, List.drop_zero, List.take_succ_cons, List.take_zero, Bool.and_true, Bool.true_and, decide_true, decide_false, wrap64_id, aixG_eq, Nat.reduceAdd, Nat.reduceSub, Nat.reduceMul, Nat.reduceLeDiff, Nat.reduceLT, Int.reduceAdd, Int.reduceSub, Int.reduceMul, Int.reduceNeg, Int.reduceLT, Int.reduceLE, Int.reduceGT, Int.reduceGE, Int.reduceToNat, ↓reduceIte, and_self, true_and, and_true, Cfg.g0, Cfg.g1, Cfg.g2, Cfg.g3, Cfg.g4, Cfg.g5, Cfg.g6, Cfg.g7, Cfg.g8, Cfg.g9, Cfg.g10, Cfg.len, Cfg.take, Cfg.drop, Cfg.s8, Cfg.s9, Cfg.s10, Cfg.s7, Cfg.zero, Nat.le_refl, hb, hb']
  refine Ev.call (c_copied2 c hf _ _ (hc0.app _)) fun v gc1 hv => ?_
  obtain ⟨p1, q1, r1, s1, a1, a2, a3, rfl, eh, w1, w2, w3⟩ := hv
  have il := Cfg.all (c := c) w1.isc w2.isc w3.isc
  rw [eh]
  simp (dsimp := false) (implicitDefEqProofs := false) (disch := omega) only [gv_some, gr_some, gI_int, gB_bool, gS_str, gc_t, gc_f, gi_t, gi_f, gN_eq, gf_t, Option.bind_some, Option.bind_none, Option.map_some, acells_agg, acells_int, acells_bool, acells_str, acells_ptr, acells_sl, acells_nilsl, acells_nilptr, acells_iface, acells_niliface, aptr_ptr, anil_ptr, aextract_0, aextract_1, aextract_2, alenS_sl, alenS_nil, apartOf_agg, apart_t, apart_f, astore_ptr, hset_at0, hset_at, List.set_cons_zero, List.set_cons_succ, set_app, set_app0, aload_ptr, splice_eq, List.drop_nil, List.append_nil, isCell_int, isCell_bool, isCell_str, isCell_ptr, isCell_sl, isCell_nilsl, isCell_nilptr, isCell_iface, isCell_niliface, List.all_cons, List.all_nil, Bool.and_self, hget_at0, hget_at, len_app, List.length_cons, List.length_nil, get_app, get_app0, List.getElem?_cons_zero, List.getElem?_cons_succ, join_some, List.append_assoc, List.cons_append, List.nil_append, Nat.zero_add, Nat.add_zero, chkRd_eq, chkAl_blk, if_true, if_false, Bool.false_eq_true, List.drop_succ_cons, List.drop_zero, List.take_succ_cons, List.take_zero, Bool.and_true, Bool.true_and, decide_true, decide_false, wrap64_id, aixG_eq, Nat.reduceAdd, Nat.reduceSub, Nat.reduceMul, Nat.reduceLeDiff, Nat.reduceLT, Int.reduceAdd, Int.reduceSub, Int.reduceMul, Int.reduceNeg, Int.reduceLT, Int.reduceLE, Int.reduceGT, Int.reduceGE, Int.reduceToNat, ↓reduceIte, and_self, true_and, and_true, Cfg.g0, Cfg.g1, Cfg.g2, Cfg.g3, Cfg.g4, Cfg.g5, Cfg.g6, Cfg.g7, Cfg.g8, Cfg.g9, Cfg.g10, Cfg.len, Cfg.take, Cfg.drop, Cfg.s8, Cfg.s9, Cfg.s10, Cfg.s7, Cfg.zero, Nat.le_refl, il, hb']
  refine Ev.call (c_copied2 c hf _ _ (hc0.app _)) fun v gc2 hv => ?_
  obtain ⟨p2, q2, r2, s2, b1, b2, b3, rfl, eh2, v1, v2, v3⟩ := hv
  have il2 := Cfg.all (c := c) v1.isc v2.isc v3.isc
  rw [eh2]
  clear eh eh2
  simp only [List.length_append, List.length_cons, List.length_nil] at w1 w2 w3 v1 v2 v3
  simp (dsimp := false) (implicitDefEqProofs := false) (disch := omega) only [gv_some, gr_some, gI_int, gB_bool, gS_str, gc_t, gc_f, gi_t, gi_f, gN_eq, gf_t, Option.bind_some, Option.bind_none, Option.map_some, acells_agg, acells_int, acells_bool, acells_str, acells_ptr, acells_sl, acells_nilsl, acells_nilptr, acells_iface, acells_niliface, aptr_ptr, anil_ptr, aextract_0, aextract_1, aextract_2, alenS_sl, alenS_nil, apartOf_agg, apart_t, apart_f, astore_ptr, hset_at0, hset_at, List.set_cons_zero, List.set_cons_succ, set_app, set_app0, aload_ptr, splice_eq, List.drop_nil, List.append_nil, isCell_int, isCell_bool, isCell_str, isCell_ptr, isCell_sl, isCell_nilsl, isCell_nilptr, isCell_iface, isCell_niliface, List.all_cons, List.all_nil, Bool.and_self, hget_at0, hget_at, len_app, List.length_cons, List.length_nil, get_app, get_app0, List.getElem?_cons_zero, List.getElem?_cons_succ, join_some, List.append_assoc, List.cons_append, List.nil_append, Nat.zero_add, Nat.add_zero, chkRd_eq, chkAl_blk, if_true, if_false, Bool.false_eq_true, List.drop_succ_cons, List.drop_zero, List.take_succ_cons, List.take_zero, Bool.and_true, Bool.true_and, decide_true, decide_false, wrap64_id, aixG_eq, Nat.reduceAdd, Nat.reduceSub, Nat.reduceMul, Nat.reduceLeDiff, Nat.reduceLT, Int.reduceAdd, Int.reduceSub, Int.reduceMul, Int.reduceNeg, Int.reduceLT, Int.reduceLE, Int.reduceGT, Int.reduceGE, Int.reduceToNat, ↓reduceIte, and_self, true_and, and_true, Cfg.g0, Cfg.g1, Cfg.g2, Cfg.g3, Cfg.g4, Cfg.g5, Cfg.g6, Cfg.g7, Cfg.g8, Cfg.g9, Cfg.g10, Cfg.len, Cfg.take, Cfg.drop, Cfg.s8, Cfg.s9, Cfg.s10, Cfg.s7, Cfg.zero, Nat.le_refl, il, il2, w3.len]
  have go : ∀ (la : List Route) (yr : AV) (T W : AHeap), la.Sublist c.routes → T.length = a3.length →
      (∀ D E B' W', B'.length = b1.length → Sl (H ++ D :: E :: (s1 ++ (a1 ++ (a2 ++ (T ++ (s2 ++ (B' ++ (b2 ++ (b3 ++ (W ++ W')))))))))) 2 Route.cells la yr) →
      Ev (J6_3 n H.length (H.length + 1) (H ++ some (.cells false (c.cells p1 q1 yr)) :: some (.cells false (c.cells p2 q2 r2)) :: (s1 ++ (a1 ++ (a2 ++ (T ++ (s2 ++ (b1 ++ (b2 ++ (b3 ++ W)))))))))) H fun v _ => v = .bool true := by
    intro la yr T W hla hT hyr
    have := more3 c hf hs n H s1 (a1 ++ a2) T s2 b1 (b2 ++ b3) W p1 q1 yr p2 q2 r2 la hla (fun E B' W' hB => ⟨?_, ?_, ?_⟩) (by
      simp only [List.length_append, hT]
      rw [show H.length + 2 + s1.length + (a1.length + a2.length) + a3.length + s2.length = H.length + (s1.length + (a1.length + (a2.length + a3.length)) + 1 + 1) + s2.length by omega]
      exact v1)
    · have em : ∀ a b d, (moreA c la).cells a b d = c.cells a b d := fun _ _ _ => rfl
      simpa [em] using this
    · exact own_sl w1 (H ++ some (.cells false ((moreA c la).cells p1 q1 yr)) :: E :: s1) (a2 ++ (T ++ (s2 ++ (B' ++ (b2 ++ b3 ++ (W ++ W')))))) (by simp; omega) (by simp)
    · exact own_sl w2 (H ++ some (.cells false ((moreA c la).cells p1 q1 yr)) :: E :: (s1 ++ a1)) (T ++ (s2 ++ (B' ++ (b2 ++ b3 ++ (W ++ W'))))) (by simp; omega) (by simp)
    · have := hyr (some (.cells false ((moreA c la).cells p1 q1 yr))) E B' W' hB
      show Sl _ 2 Route.cells la yr
      simpa using this
  refine Ev.cdd (fun h0 => ?_) fun h0 => ?_
  · obtain ⟨k, hk, ek⟩ := remU n c.routes.length (by omega) (by omega)
    refine Ev.val ek ?_
    simp (dsimp := false) (implicitDefEqProofs := false) (disch := omega) only [gv_some, gr_some, gI_int, gB_bool, gS_str, gc_t, gc_f, gi_t, gi_f, gN_eq, gf_t, Option.bind_some, Option.bind_none, Option.map_some, acells_agg, acells_int, acells_bool, acells_str, acells_ptr, acells_sl, acells_nilsl, acells_nilptr, acells_iface, acells_niliface, aptr_ptr, anil_ptr, aextract_0, aextract_1, aextract_2, alenS_sl, alenS_nil, apartOf_agg, apart_t, apart_f, astore_ptr, hset_at0, hset_at, List.set_cons_zero, List.set_cons_succ, set_app, set_app0, aload_ptr, splice_eq, List.drop_nil, List.append_nil, isCell_int, isCell_bool, isCell_str, isCell_ptr, isCell_sl, isCell_nilsl, isCell_nilptr, isCell_iface, isCell_niliface, List.all_cons, List.all_nil, Bool.and_self, hget_at0, hget_at, len_app, List.length_cons, List.length_nil, get_app, get_app0, List.getElem?_cons_zero, List.getElem?_cons_succ, join_some, List.append_assoc, List.cons_append, List.nil_append, Nat.zero_add, Nat.add_zero, chkRd_eq, chkAl_blk, if_true, if_false, Bool.false_eq_true, List.drop_succ_cons, List.drop_zero, List.take_succ_cons, List.take_zero, Bool.and_true, Bool.true_and, decide_true, decide_false, wrap64_id, aixG_eq, Nat.reduceAdd, Nat.reduceSub, Nat.reduceMul, Nat.reduceLeDiff, Nat.reduceLT, Int.reduceAdd, Int.reduceSub, Int.reduceMul, Int.reduceNeg, Int.reduceLT, Int.reduceLE, Int.reduceGT, Int.reduceGE, Int.reduceToNat, ↓reduceIte, and_self, true_and, and_true, Cfg.g0, Cfg.g1, Cfg.g2, Cfg.g3, Cfg.g4, Cfg.g5, Cfg.g6, Cfg.g7, Cfg.g8, Cfg.g9, Cfg.g10, Cfg.len, Cfg.take, Cfg.drop, Cfg.s8, Cfg.s9, Cfg.s10, Cfg.s7, Cfg.zero, Nat.le_refl]
    obtain ⟨y, ey, oy⟩ := w3.take .i64 k (by omega)
    refine Ev.val ey ?_
    simp (dsimp := false) (implicitDefEqProofs := false) (disch := omega) only [gv_some, gr_some, gI_int, gB_bool, gS_str, gc_t, gc_f, gi_t, gi_f, gN_eq, gf_t, Option.bind_some, Option.bind_none, Option.map_some, acells_agg, acells_int, acells_bool, acells_str, acells_ptr, acells_sl, acells_nilsl, acells_nilptr, acells_iface, acells_niliface, aptr_ptr, anil_ptr, aextract_0, aextract_1, aextract_2, alenS_sl, alenS_nil, apartOf_agg, apart_t, apart_f, astore_ptr, hset_at0, hset_at, List.set_cons_zero, List.set_cons_succ, set_app, set_app0, aload_ptr, splice_eq, List.drop_nil, List.append_nil, isCell_int, isCell_bool, isCell_str, isCell_ptr, isCell_sl, isCell_nilsl, isCell_nilptr, isCell_iface, isCell_niliface, List.all_cons, List.all_nil, Bool.and_self, hget_at0, hget_at, len_app, List.length_cons, List.length_nil, get_app, get_app0, List.getElem?_cons_zero, List.getElem?_cons_succ, join_some, List.append_assoc, List.cons_append, List.nil_append, Nat.zero_add, Nat.add_zero, chkRd_eq, chkAl_blk, if_true, if_false, Bool.false_eq_true, List.drop_succ_cons, List.drop_zero, List.take_succ_cons, List.take_zero, Bool.and_true, Bool.true_and, decide_true, decide_false, wrap64_id, aixG_eq, Nat.reduceAdd, Nat.reduceSub, Nat.reduceMul, Nat.reduceLeDiff, Nat.reduceLT, Int.reduceAdd, Int.reduceSub, Int.reduceMul, Int.reduceNeg, Int.reduceLT, Int.reduceLE, Int.reduceGT, Int.reduceGE, Int.reduceToNat, ↓reduceIte, and_self, true_and, and_true, Cfg.g0, Cfg.g1, Cfg.g2, Cfg.g3, Cfg.g4, Cfg.g5, Cfg.g6, Cfg.g7, Cfg.g8, Cfg.g9, Cfg.g10, Cfg.len, Cfg.take, Cfg.drop, Cfg.s8, Cfg.s9, Cfg.s10, Cfg.s7, Cfg.zero, Nat.le_refl]
    have sl := own_sl w3 (H := H ++ some (.cells false (c.cells p1 q1 r1)) :: some (.cells false (c.cells p2 q2 r2)) :: (s1 ++ (a1 ++ (a2 ++ (a3 ++ (s2 ++ (b1 ++ (b2 ++ b3)))))))) (H ++ some (.cells false (c.cells p1 q1 r1)) :: some (.cells false (c.cells p2 q2 r2)) :: (s1 ++ (a1 ++ a2))) (s2 ++ (b1 ++ (b2 ++ b3))) (by simp; omega) (by simp)
    obtain ⟨z, ez, oz⟩ := sl.drop Route.len .i64 (k + 1) (by omega)
    refine Ev.val ez ?_
    simp (dsimp := false) (implicitDefEqProofs := false) (disch := omega) only [gv_some, gr_some, gI_int, gB_bool, gS_str, gc_t, gc_f, gi_t, gi_f, gN_eq, gf_t, Option.bind_some, Option.bind_none, Option.map_some, acells_agg, acells_int, acells_bool, acells_str, acells_ptr, acells_sl, acells_nilsl, acells_nilptr, acells_iface, acells_niliface, aptr_ptr, anil_ptr, aextract_0, aextract_1, aextract_2, alenS_sl, alenS_nil, apartOf_agg, apart_t, apart_f, astore_ptr, hset_at0, hset_at, List.set_cons_zero, List.set_cons_succ, set_app, set_app0, aload_ptr, splice_eq, List.drop_nil, List.append_nil, isCell_int, isCell_bool, isCell_str, isCell_ptr, isCell_sl, isCell_nilsl, isCell_nilptr, isCell_iface, isCell_niliface, List.all_cons, List.all_nil, Bool.and_self, hget_at0, hget_at, len_app, List.length_cons, List.length_nil, get_app, get_app0, List.getElem?_cons_zero, List.getElem?_cons_succ, join_some, List.append_assoc, List.cons_append, List.nil_append, Nat.zero_add, Nat.add_zero, chkRd_eq, chkAl_blk, if_true, if_false, Bool.false_eq_true, List.drop_succ_cons, List.drop_zero, List.take_succ_cons, List.take_zero, Bool.and_true, Bool.true_and, decide_true, decide_false, wrap64_id, aixG_eq, Nat.reduceAdd, Nat.reduceSub, Nat.reduceMul, Nat.reduceLeDiff, Nat.reduceLT, Int.reduceAdd, Int.reduceSub, Int.reduceMul, Int.reduceNeg, Int.reduceLT, Int.reduceLE, Int.reduceGT, Int.reduceGE, Int.reduceToNat, ↓reduceIte, and_self, true_and, and_true, Cfg.g0, Cfg.g1, Cfg.g2, Cfg.g3, Cfg.g4, Cfg.g5, Cfg.g6, Cfg.g7, Cfg.g8, Cfg.g9, Cfg.g10, Cfg.len, Cfg.take, Cfg.drop, Cfg.s8, Cfg.s9, Cfg.s10, Cfg.s7, Cfg.zero, Nat.le_refl, oz.lenOf, oz.src Route.len]
    obtain ⟨y2, T, W, ea, hT, ow⟩ := aapp_own (by' := 16) (p := H ++ some (.cells false (c.cells p1 q1 r1)) :: some (.cells false (c.cells p2 q2 r2)) :: (s1 ++ (a1 ++ a2))) (u := s2 ++ (b1 ++ (b2 ++ b3))) (l2 := c.routes.drop (k + 1)) Route.len Route.isc oy (by simp; omega) (by simp; omega)
    try simp only [List.append_assoc, List.cons_append, List.nil_append] at ea
    have i3 : isCell y2 = true := by rcases ow with ⟨_, o⟩ | o <;> exact o.isc
    simp (dsimp := false) (implicitDefEqProofs := false) (disch := omega) only [gv_some, gr_some, gI_int, gB_bool, gS_str, gc_t, gc_f, gi_t, gi_f, gN_eq, gf_t, Option.bind_some, Option.bind_none, Option.map_some, acells_agg, acells_int, acells_bool, acells_str, acells_ptr, acells_sl, acells_nilsl, acells_nilptr, acells_iface, acells_niliface, aptr_ptr, anil_ptr, aextract_0, aextract_1, aextract_2, alenS_sl, alenS_nil, apartOf_agg, apart_t, apart_f, astore_ptr, hset_at0, hset_at, List.set_cons_zero, List.set_cons_succ, set_app, set_app0, aload_ptr, splice_eq, List.drop_nil, List.append_nil, isCell_int, isCell_bool, isCell_str, isCell_ptr, isCell_sl, isCell_nilsl, isCell_nilptr, isCell_iface, isCell_niliface, List.all_cons, List.all_nil, Bool.and_self, hget_at0, hget_at, len_app, List.length_cons, List.length_nil, get_app, get_app0, List.getElem?_cons_zero, List.getElem?_cons_succ, join_some, List.append_assoc, List.cons_append, List.nil_append, Nat.zero_add, Nat.add_zero, chkRd_eq, chkAl_blk, if_true, if_false, Bool.false_eq_true, List.drop_succ_cons, List.drop_zero, List.take_succ_cons, List.take_zero, Bool.and_true, Bool.true_and, decide_true, decide_false, wrap64_id, aixG_eq, Nat.reduceAdd, Nat.reduceSub, Nat.reduceMul, Nat.reduceLeDiff, Nat.reduceLT, Int.reduceAdd, Int.reduceSub, Int.reduceMul, Int.reduceNeg, Int.reduceLT, Int.reduceLE, Int.reduceGT, Int.reduceGE, Int.reduceToNat, ↓reduceIte, and_self, true_and, and_true, Cfg.g0, Cfg.g1, Cfg.g2, Cfg.g3, Cfg.g4, Cfg.g5, Cfg.g6, Cfg.g7, Cfg.g8, Cfg.g9, Cfg.g10, Cfg.len, Cfg.take, Cfg.drop, Cfg.s8, Cfg.s9, Cfg.s10, Cfg.s7, Cfg.zero, Nat.le_refl, ea, i3]
    refine go (without c.routes k) y2 T W (without_sub _ _) hT (fun D E B' W' hB => ?_)
    rcases ow with ⟨rfl, o⟩ | o
    · exact own_sl o (H ++ D :: E :: (s1 ++ (a1 ++ a2))) (s2 ++ (B' ++ (b2 ++ (b3 ++ ([] ++ W'))))) (by simp; omega) (by simp)
    · exact own_sl o (H ++ D :: E :: (s1 ++ (a1 ++ (a2 ++ (T ++ (s2 ++ (B' ++ (b2 ++ b3)))))))) W' (by simp; omega) (by simp)
  · have := go c.routes r1 a3 [] (List.Sublist.refl _) rfl (fun D E B' W' hB => own_sl w3 (H ++ D :: E :: (s1 ++ (a1 ++ a2))) (s2 ++ (B' ++ (b2 ++ (b3 ++ ([] ++ W'))))) (by simp; omega) (by simp))
    rw [List.append_nil] at this
    simp (dsimp := false) (implicitDefEqProofs := false) (disch := omega) only [gv_some, gr_some, gI_int, gB_bool, gS_str, gc_t, gc_f, gi_t, gi_f, gN_eq, gf_t, Option.bind_some, Option.bind_none, Option.map_some, acells_agg, acells_int, acells_bool, acells_str, acells_ptr, acells_sl, acells_nilsl, acells_nilptr, acells_iface, acells_niliface, aptr_ptr, anil_ptr, aextract_0, aextract_1, aextract_2, alenS_sl, alenS_nil, apartOf_agg, apart_t, apart_f, astore_ptr, hset_at0, hset_at, List.set_cons_zero, List.set_cons_succ, set_app, set_app0, aload_ptr, splice_eq, List.drop_nil, List.append_nil, isCell_int, isCell_bool, isCell_str, isCell_ptr, isCell_sl, isCell_nilsl, isCell_nilptr, isCell_iface, isCell_niliface, List.all_cons, List.all_nil, Bool.and_self, hget_at0, hget_at, len_app, List.length_cons, List.length_nil, get_app, get_app0, List.getElem?_cons_zero, List.getElem?_cons_succ, join_some, List.append_assoc, List.cons_append, List.nil_append, Nat.zero_add, Nat.add_zero, chkRd_eq, chkAl_blk, if_true, if_false, Bool.false_eq_true, List.drop_succ_cons, List.drop_zero, List.take_succ_cons, List.take_zero, Bool.and_true, Bool.true_and, decide_true, decide_false, wrap64_id, aixG_eq, Nat.reduceAdd, Nat.reduceSub, Nat.reduceMul, Nat.reduceLeDiff, Nat.reduceLT, Int.reduceAdd, Int.reduceSub, Int.reduceMul, Int.reduceNeg, Int.reduceLT, Int.reduceLE, Int.reduceGT, Int.reduceGE, Int.reduceToNat, ↓reduceIte, and_self, true_and, and_true]
    exact this
theorem soundMore : LawTrue Try.prog Nt 9 6 [26, 3] := by
  rintro h xs ⟨x, r, rfl, hx, x2, r2, rfl, hx2, hr⟩
  cases hr
  obtain ⟨c, hc⟩ := argvCfg hx
  obtain ⟨n, rfl, _⟩ := argvInt hx2
  have main : Ev (acall Try.prog Nt 6 [x, .int .i64 n] h) h fun v _ => v = .bool true := by
    have hc0 := hc
    obtain ⟨p, q, r, rfl, l⟩ := hc
    rw [E6]
    simp (dsimp := false) (implicitDefEqProofs := false) (disch := omega) only [gv_some, gr_some, gI_int, gB_bool, gS_str, gc_t, gc_f, gi_t, gi_f, gN_eq, gf_t, Option.bind_some, Option.bind_none, Option.map_some, acells_agg, acells_int, acells_bool, acells_str, acells_ptr, acells_sl, acells_nilsl, acells_nilptr, acells_iface, acells_niliface, aptr_ptr, anil_ptr, aextract_0, aextract_1, aextract_2, alenS_sl, alenS_nil, apartOf_agg, apart_t, apart_f, astore_ptr, hset_at0, hset_at, List.set_cons_zero, List.set_cons_succ, set_app, set_app0, aload_ptr, splice_eq, List.drop_nil, List.append_nil, isCell_int, isCell_bool, isCell_str, isCell_ptr, isCell_sl, isCell_nilsl, isCell_nilptr, isCell_iface, isCell_niliface, List.all_cons, List.all_nil, Bool.and_self, hget_at0, hget_at, len_app, List.length_cons, List.length_nil, get_app, get_app0, List.getElem?_cons_zero, List.getElem?_cons_succ, join_some, List.append_assoc, List.cons_append, List.nil_append, Nat.zero_add, Nat.add_zero, chkRd_eq, chkAl_blk, if_true, if_false, Bool.false_eq_true, List.drop_succ_cons, List.drop_zero, List.take_succ_cons, List.take_zero, Bool.and_true, Bool.true_and, decide_true, decide_false, wrap64_id, aixG_eq, Nat.reduceAdd, Nat.reduceSub, Nat.reduceMul, Nat.reduceLeDiff, Nat.reduceLT, Int.reduceAdd, Int.reduceSub, Int.reduceMul, Int.reduceNeg, Int.reduceLT, Int.reduceLE, Int.reduceGT, Int.reduceGE, Int.reduceToNat, ↓reduceIte, and_self, true_and, and_true, Cfg.g0, Cfg.g1, Cfg.g2, Cfg.g3, Cfg.g4, Cfg.g5, Cfg.g6, Cfg.g7, Cfg.g8, Cfg.g9, Cfg.g10, Cfg.len, Cfg.take, Cfg.drop, Cfg.s8, Cfg.s9, Cfg.s10, Cfg.s7, Cfg.zero, Nat.le_refl]
    refine Ev.call (c_awake _) fun v ga hv => ?_
    subst hv
    simp (dsimp := false) (implicitDefEqProofs := false) (disch := omega) only [gv_some, gr_some, gI_int, gB_bool, gS_str, gc_t, gc_f, gi_t, gi_f, gN_eq, gf_t, Option.bind_some, Option.bind_none, Option.map_some, acells_agg, acells_int, acells_bool, acells_str, acells_ptr, acells_sl, acells_nilsl, acells_nilptr, acells_iface, acells_niliface, aptr_ptr, anil_ptr, aextract_0, aextract_1, aextract_2, alenS_sl, alenS_nil, apartOf_agg, apart_t, apart_f, astore_ptr, hset_at0, hset_at, List.set_cons_zero, List.set_cons_succ, set_app, set_app0, aload_ptr, splice_eq, List.drop_nil, List.append_nil, isCell_int, isCell_bool, isCell_str, isCell_ptr, isCell_sl, isCell_nilsl, isCell_nilptr, isCell_iface, isCell_niliface, List.all_cons, List.all_nil, Bool.and_self, hget_at0, hget_at, len_app, List.length_cons, List.length_nil, get_app, get_app0, List.getElem?_cons_zero, List.getElem?_cons_succ, join_some, List.append_assoc, List.cons_append, List.nil_append, Nat.zero_add, Nat.add_zero, chkRd_eq, chkAl_blk, if_true, if_false, Bool.false_eq_true, List.drop_succ_cons, List.drop_zero, List.take_succ_cons, List.take_zero, Bool.and_true, Bool.true_and, decide_true, decide_false, wrap64_id, aixG_eq, Nat.reduceAdd, Nat.reduceSub, Nat.reduceMul, Nat.reduceLeDiff, Nat.reduceLT, Int.reduceAdd, Int.reduceSub, Int.reduceMul, Int.reduceNeg, Int.reduceLT, Int.reduceLE, Int.reduceGT, Int.reduceGE, Int.reduceToNat, ↓reduceIte, and_self, true_and, and_true, Cfg.g0, Cfg.g1, Cfg.g2, Cfg.g3, Cfg.g4, Cfg.g5, Cfg.g6, Cfg.g7, Cfg.g8, Cfg.g9, Cfg.g10, Cfg.len, Cfg.take, Cfg.drop, Cfg.s8, Cfg.s9, Cfg.s10, Cfg.s7, Cfg.zero, Nat.le_refl, Bool.not_true, J6_1_eq]
    refine Ev.call (c_works c _ _ (hc0.app _)) fun v gw hv => ?_
    obtain ⟨b, rfl, hb⟩ := hv
    simp (dsimp := false) (implicitDefEqProofs := false) (disch := omega) only [gv_some, gr_some, gI_int, gB_bool, gS_str, gc_t, gc_f, gi_t, gi_f, gN_eq, gf_t, Option.bind_some, Option.bind_none, Option.map_some, acells_agg, acells_int, acells_bool, acells_str, acells_ptr, acells_sl, acells_nilsl, acells_nilptr, acells_iface, acells_niliface, aptr_ptr, anil_ptr, aextract_0, aextract_1, aextract_2, alenS_sl, alenS_nil, apartOf_agg, apart_t, apart_f, astore_ptr, hset_at0, hset_at, List.set_cons_zero, List.set_cons_succ, set_app, set_app0, aload_ptr, splice_eq, List.drop_nil, List.append_nil, isCell_int, isCell_bool, isCell_str, isCell_ptr, isCell_sl, isCell_nilsl, isCell_nilptr, isCell_iface, isCell_niliface, List.all_cons, List.all_nil, Bool.and_self, hget_at0, hget_at, len_app, List.length_cons, List.length_nil, get_app, get_app0, List.getElem?_cons_zero, List.getElem?_cons_succ, join_some, List.append_assoc, List.cons_append, List.nil_append, Nat.zero_add, Nat.add_zero, chkRd_eq, chkAl_blk, if_true, if_false, Bool.false_eq_true, List.drop_succ_cons, List.drop_zero, List.take_succ_cons, List.take_zero, Bool.and_true, Bool.true_and, decide_true, decide_false, wrap64_id, aixG_eq, Nat.reduceAdd, Nat.reduceSub, Nat.reduceMul, Nat.reduceLeDiff, Nat.reduceLT, Int.reduceAdd, Int.reduceSub, Int.reduceMul, Int.reduceNeg, Int.reduceLT, Int.reduceLE, Int.reduceGT, Int.reduceGE, Int.reduceToNat, ↓reduceIte, and_self, true_and, and_true]
    refine Ev.cnd (fun h1 => by try simp only [List.append_assoc, List.cons_append, List.nil_append]; exact Ev.done rfl) fun h1 => ?_
    simp only [Bool.not_eq_false'] at h1
    obtain ⟨hf, hs⟩ := hb h1
    have := more2 c hf hs n (h ++ (some (.cells false (c.cells p q r)) :: (ga ++ gw))) h.length p q r (by rw [hget_at0]; rfl) (l.app _)
    have := Ev.base this
    simpa only [List.append_assoc, List.cons_append, List.nil_append] using this
  obtain ⟨v, g, e, rfl⟩ := main
  exact ⟨_, e⟩
end Go.Ab
end
