/-
  Functions of the program as equations, and their contracts.
-/
import Derived.Test.YtdkfchbonlffeaaGa1
import Derived.Test.YtdkfchbonlffeaaGa2
import Derived.Test.YtdkfchbonlffeaaGa3
import Derived.Test.YtdkfchbonlffeaaGHealthKinds1
set_option linter.all false
section
/-
  Health: the monitor.
-/
namespace Go.Ab
open Go.Proofs

structure Mon where
  node : Int
  parts : List Part
  last : List Int
  again : List Int
  out : List Rcd
/-- A monitor at a block. -/
def MonAt (kl : IntKind) (h : AHeap) (b : Nat) (m : Mon) (F : List Nat) : Prop :=
  ∃ p o bl ba Fp Fo, hget h b = some (.cells false [.int .i64 m.node, p, .sl bl 0 m.parts.length 1, .sl ba 0 m.parts.length 1, o]) ∧ SlB h 9 Part.cells m.parts p Fp ∧
    hget h bl = some (.cells false (ints kl m.last)) ∧ hget h ba = some (.cells false (ints .i64 m.again)) ∧ OwB h 5 Rcd.cells m.out o Fo ∧
    m.last.length = m.parts.length ∧ m.again.length = m.parts.length ∧ m.out.length ≤ 4 ∧ F = b :: bl :: ba :: (Fo ++ Fp) ∧ b ≠ bl ∧ b ≠ ba ∧ bl ≠ ba ∧ b ∉ Fo ∧ bl ∉ Fo ∧ ba ∉ Fo ∧ b ∉ Fp ∧ bl ∉ Fp ∧ ba ∉ Fp ∧ (∀ x ∈ Fo, x ∉ Fp)
theorem MonAt.lt {kl : IntKind} {h : AHeap} {b : Nat} {m : Mon} {F : List Nat} (a : MonAt kl h b m F) : ∀ x ∈ F, x < h.length := by
  obtain ⟨p, o, bl, ba, Fp, Fo, h1, h2, h3, h4, h5, _, _, _, rfl, _⟩ := a
  intro x hx
  simp only [List.mem_cons, List.mem_append] at hx
  rcases hx with rfl | rfl | rfl | hx | hx
  · exact hget_lt h1
  · exact hget_lt h3
  · exact hget_lt h4
  · exact h5.slb.lt x hx
  · exact h2.lt x hx
theorem MonAt.keep {kl : IntKind} {h h' : AHeap} {b : Nat} {m : Mon} {F : List Nat} (a : MonAt kl h b m F) (hk : ∀ x ∈ F, hget h' x = hget h x) : MonAt kl h' b m F := by
  obtain ⟨p, o, bl, ba, Fp, Fo, h1, h2, h3, h4, h5, e1, e2, e3, rfl, r⟩ := a
  refine ⟨p, o, bl, ba, Fp, Fo, by rw [hk b (by simp), h1], h2.keep fun x hx => hk x (by simp [hx]), by rw [hk bl (by simp), h3], by rw [hk ba (by simp), h4], h5.keep fun x hx => hk x (by simp [hx]), e1, e2, e3, rfl, r⟩
/-- What an error does to a partition's row, and what is done of it. -/
def Mon.row (m : Mon) (round : Int) (p : Nat) : Int := if m.last.getD p 0 ≠ 0 ∧ round ≤ m.last.getD p 0 then m.again.getD p 0 + 1 else 1
def Mon.act (m : Mon) (p k : Nat) : Int := (m.parts.getD p ⟨0, 0, 0, 0, 0, 0, 0, 0, 0⟩).rc k
def Mon.did (m : Mon) (round : Int) (p k : Nat) : Int := if m.act p k = 1 then (if m.row round p ≥ 3 then 2 else 1) else m.act p k
def Mon.turn (m : Mon) (round : Int) (p k : Nat) : Mon := if m.act p k = 1 then { m with last := m.last.set p (round + 1), again := m.again.set p (m.row round p) } else m
def Mon.push (m : Mon) (r : Rcd) : Mon := if m.out.length < 4 then { m with out := m.out ++ [r] } else m
def Mon.rcd (m : Mon) (round : Int) (p k : Nat) (d : Int) : Rcd := ⟨round, IntKind.u8.wrap m.node, IntKind.u8.wrap p, k, d⟩
def Mon.rep (m : Mon) (round : Int) (p k : Nat) : Mon := (m.turn round p k).push (m.rcd round p k (m.did round p k))
/-- Is a report one that is taken? -/
def Mon.takes (m : Mon) (round p k : Int) : Bool := decide (0 ≤ p) && decide (p < (m.parts.length : Int)) && decide (k ≤ 3) && decide (round < 1048576)

theorem mon_eq_ptr (a b : Operand) (c o : Nat) : abin Try.prog .eql 32 (aeqOk Try.prog 32 a b (.ptr c o) .nilptr) (.ptr c o) .nilptr = some (.bool false) := by
  rw [aeqOk_ptr, abin_eq_ptr (e := 80) (by kernel_rfl)]

/-- The record is put. -/
theorem repPush (h : AHeap) (b : Nat) (m : Mon) (F : List Nat) (hm : MonAt .u32 h b m F) (round : Int) (p k : Nat) (d : Int) :
    Post (J16_4 (.ptr b 0) round (p : Int) (k : Int) d h) fun v h' => v = .tuple [.int .u8 d, .niliface] ∧ ∃ F', MonAt .u32 h' b (m.push (m.rcd round p k d)) F' ∧ Fr F h F' h' := by
  obtain ⟨q, o, bl, ba, Fp, Fo, h1, h2, h3, h4, h5, e1, e2, e3, rfl, n1, n2, n3, n4, n5, n6, n7, n8, n9, n10⟩ := id hm
  rw [J16_4_eq]
  have h1' := fun g => hget_app (g := g) h1
  simp (dsimp := false) (implicitDefEqProofs := false) (disch := omega) only [gv_some, gr_some, gI_int, gB_bool, gS_str, gc_t, gc_f, gi_t, gi_f, gN_eq, gf_t, Option.bind_some, Option.bind_none, Option.map_some, acells_agg, acells_int, acells_bool, acells_str, acells_ptr, acells_sl, acells_nilsl, acells_nilptr, acells_iface, acells_niliface, aptr_ptr, anil_ptr, aextract_0, aextract_1, aextract_2, alenS_sl, alenS_nil, alenOf_sl, alenOf_nil, apartOf_agg, apart_t, apart_f, astore_ptr, hset_at0, hset_at, hs_same, hs_ne, len_hset, List.set_cons_zero, List.set_cons_succ, set_app, set_app0, aload_ptr, splice_eq, List.drop_nil, List.append_nil, isCell_int, isCell_bool, isCell_str, isCell_ptr, isCell_sl, isCell_nilsl, isCell_nilptr, isCell_iface, isCell_niliface, List.all_cons, List.all_nil, Bool.and_self, hget_at0, hget_at, len_app, List.length_cons, List.length_nil, get_app, get_app0, List.getElem?_cons_zero, List.getElem?_cons_succ, join_some, List.append_assoc, List.cons_append, List.nil_append, Nat.zero_add, Nat.add_zero, Nat.mul_one, chkRd_eq, chkAl_blk, if_true, if_false, Bool.false_eq_true, List.drop_succ_cons, List.drop_zero, List.take_succ_cons, List.take_zero, Bool.and_true, Bool.true_and, decide_true, decide_false, wrap64_id, aixG_eq, Nat.reduceAdd, Nat.reduceSub, Nat.reduceMul, Nat.reduceLeDiff, Nat.reduceLT, Int.reduceAdd, Int.reduceSub, Int.reduceMul, Int.reduceNeg, Int.reduceLT, Int.reduceLE, Int.reduceGT, Int.reduceGE, Int.reduceToNat, ↓reduceIte, and_self, true_and, and_true, h1, h5.slb.sl.len]
  refine Post.cdd (fun hc => ?_) fun hc => ?_
  · simp (dsimp := false) (implicitDefEqProofs := false) (disch := omega) only [gv_some, gr_some, gI_int, gB_bool, gS_str, gc_t, gc_f, gi_t, gi_f, gN_eq, gf_t, Option.bind_some, Option.bind_none, Option.map_some, acells_agg, acells_int, acells_bool, acells_str, acells_ptr, acells_sl, acells_nilsl, acells_nilptr, acells_iface, acells_niliface, aptr_ptr, anil_ptr, aextract_0, aextract_1, aextract_2, alenS_sl, alenS_nil, alenOf_sl, alenOf_nil, apartOf_agg, apart_t, apart_f, astore_ptr, hset_at0, hset_at, hs_same, hs_ne, len_hset, List.set_cons_zero, List.set_cons_succ, set_app, set_app0, aload_ptr, splice_eq, List.drop_nil, List.append_nil, isCell_int, isCell_bool, isCell_str, isCell_ptr, isCell_sl, isCell_nilsl, isCell_nilptr, isCell_iface, isCell_niliface, List.all_cons, List.all_nil, Bool.and_self, hget_at0, hget_at, len_app, List.length_cons, List.length_nil, get_app, get_app0, List.getElem?_cons_zero, List.getElem?_cons_succ, join_some, List.append_assoc, List.cons_append, List.nil_append, Nat.zero_add, Nat.add_zero, Nat.mul_one, chkRd_eq, chkAl_blk, if_true, if_false, Bool.false_eq_true, List.drop_succ_cons, List.drop_zero, List.take_succ_cons, List.take_zero, Bool.and_true, Bool.true_and, decide_true, decide_false, wrap64_id, aixG_eq, Nat.reduceAdd, Nat.reduceSub, Nat.reduceMul, Nat.reduceLeDiff, Nat.reduceLT, Int.reduceAdd, Int.reduceSub, Int.reduceMul, Int.reduceNeg, Int.reduceLT, Int.reduceLE, Int.reduceGT, Int.reduceGE, Int.reduceToNat, ↓reduceIte, and_self, true_and, and_true, h1, h1']
    have es : asrc 5 (.sl h.length 0 1 5) (h ++ [some (.cells false [.int .u32 round, .int .u8 (IntKind.u8.wrap m.node), .int .u8 (IntKind.u8.wrap (p : Int)), .int .u8 (k : Int), .int .u8 d])]) = some (Rcd.cells (m.rcd round p k d)) := by
      simp [asrc, hget_at0]; rfl
    refine Post.val es ?_
    have h5' := h5.keep (h' := h ++ [some (.cells false [.int .u32 round, .int .u8 (IntKind.u8.wrap m.node), .int .u8 (IntKind.u8.wrap (p : Int)), .int .u8 (k : Int), .int .u8 d])]) (fun x hx => hget_old _ (h5.slb.lt x hx))
    obtain ⟨y, H, ea, oy, fr, hl⟩ := h5'.push (by' := 8) Rcd.len Rcd.isc (m.rcd round p k d) (by omega)
    have hlt := hget_lt h1
    have eb := fr.keep (h1' _) n4
    refine Post.bind (Q := fun v h' => v = y ∧ h' = H) ⟨y, H, ea, rfl, rfl⟩ ?_
    rintro v h' ⟨rfl, rfl⟩
    have iy := oy.slb.isc
    simp (dsimp := false) (implicitDefEqProofs := false) (disch := omega) only [gv_some, gr_some, gI_int, gB_bool, gS_str, gc_t, gc_f, gi_t, gi_f, gN_eq, gf_t, Option.bind_some, Option.bind_none, Option.map_some, acells_agg, acells_int, acells_bool, acells_str, acells_ptr, acells_sl, acells_nilsl, acells_nilptr, acells_iface, acells_niliface, aptr_ptr, anil_ptr, aextract_0, aextract_1, aextract_2, alenS_sl, alenS_nil, alenOf_sl, alenOf_nil, apartOf_agg, apart_t, apart_f, astore_ptr, hset_at0, hset_at, hs_same, hs_ne, len_hset, List.set_cons_zero, List.set_cons_succ, set_app, set_app0, aload_ptr, splice_eq, List.drop_nil, List.append_nil, isCell_int, isCell_bool, isCell_str, isCell_ptr, isCell_sl, isCell_nilsl, isCell_nilptr, isCell_iface, isCell_niliface, List.all_cons, List.all_nil, Bool.and_self, hget_at0, hget_at, len_app, List.length_cons, List.length_nil, get_app, get_app0, List.getElem?_cons_zero, List.getElem?_cons_succ, join_some, List.append_assoc, List.cons_append, List.nil_append, Nat.zero_add, Nat.add_zero, Nat.mul_one, chkRd_eq, chkAl_blk, if_true, if_false, Bool.false_eq_true, List.drop_succ_cons, List.drop_zero, List.take_succ_cons, List.take_zero, Bool.and_true, Bool.true_and, decide_true, decide_false, wrap64_id, aixG_eq, Nat.reduceAdd, Nat.reduceSub, Nat.reduceMul, Nat.reduceLeDiff, Nat.reduceLT, Int.reduceAdd, Int.reduceSub, Int.reduceMul, Int.reduceNeg, Int.reduceLT, Int.reduceLE, Int.reduceGT, Int.reduceGE, Int.reduceToNat, ↓reduceIte, and_self, true_and, and_true, eb, iy]
    rw [J16_6_eq]
    refine Post.done ⟨rfl, ?_⟩
    have fr' : ∀ x, x < h.length → x ∉ Fo → hget h' x = hget h x := fun x hx hn => by rw [fr.old x (by simp; omega) hn, hget_old _ hx]
    have l1 : bl < h.length := hget_lt h3
    have l2 : ba < h.length := hget_lt h4
    have hc' : m.out.length < 4 := by omega
    simp only [List.length_append, List.length_cons, List.length_nil] at hl oy
    refine ⟨b :: bl :: ba :: ([h.length + (0 + 1)] ++ Fp), ⟨q, v, bl, ba, Fp, [h.length + (0 + 1)], ?_, ?_, ?_, ?_, ?_, ?_⟩, ?_, ?_, ?_⟩
    · rw [hs_same (by omega)]; simp [Mon.push, hc']
    · have : (m.push (m.rcd round p k d)).parts = m.parts := by simp [Mon.push, hc']
      rw [this]
      exact h2.keep fun x hx => by
        have := h2.lt x hx
        rw [hs_ne (fun e : b = x => n7 (by rw [e]; exact hx)), fr' x this (fun hf => n10 x hf hx)]
    · rw [hs_ne n1, fr' bl l1 n5, h3]; simp [Mon.push, hc']
    · rw [hs_ne n2, fr' ba l2 n6, h4]; simp [Mon.push, hc']
    · have : (m.push (m.rcd round p k d)).out = m.out ++ [m.rcd round p k d] := by simp [Mon.push, hc']
      rw [this]
      exact oy.keep fun x hx => by
        simp only [List.mem_singleton] at hx
        rw [hs_ne (by omega)]
    · refine ⟨by simp [Mon.push, hc', e1], by simp [Mon.push, hc', e2], by simp [Mon.push, hc']; omega, rfl, n1, n2, n3, by simp; omega, by simp; omega, by simp; omega, n7, n8, n9, ?_⟩
      intro x hx hp
      simp only [List.mem_singleton] at hx
      have := h2.lt x hp
      omega
    · rw [len_hset]; omega
    · intro x hx hn
      simp only [List.mem_cons, List.mem_append, not_or] at hn
      rw [hs_ne (fun e => hn.1 e.symm), fr' x hx hn.2.2.2.1]
    · intro x hx
      simp only [List.mem_cons, List.mem_append, List.not_mem_nil, or_false] at hx ⊢
      rcases hx with rfl | rfl | rfl | rfl | hx
      · simp
      · simp
      · simp
      · right; omega
      · simp [hx]
  · rw [J16_6_eq]
    have : m.push (m.rcd round p k d) = m := by simp [Mon.push]; omega
    rw [this]
    exact Post.done ⟨rfl, _, hm, Fr.refl _ _⟩
theorem ints_getD (k : IntKind) (l : List Int) (i : Nat) (hi : i < l.length) : (ints k l)[i]? = some (.int k (l.getD i 0)) := by
  rw [ints_get k l i hi]; simp [List.getD, hi]
/-- Numbers that do not run over. -/
structure Mon.ok (m : Mon) (N : Int) : Prop where
  last : ∀ x ∈ m.last, 0 ≤ x ∧ x ≤ 1048576
  again : ∀ x ∈ m.again, 0 ≤ x ∧ x ≤ N
theorem getD_all {l : List Int} {P : Int → Prop} (h : ∀ x ∈ l, P x) (i : Nat) (hi : i < l.length) : P (l.getD i 0) := by
  have : l.getD i 0 = l[i] := by simp [List.getD, hi]
  rw [this]; exact h _ (List.getElem_mem hi)
theorem set_all {l : List Int} {P : Int → Prop} (h : ∀ x ∈ l, P x) (i : Nat) (n : Int) (hn : P n) : ∀ x ∈ l.set i n, P x := by
  intro x hx
  rcases List.mem_or_eq_of_mem_set hx with h1 | h1
  · exact h x h1
  · rw [h1]; exact hn
theorem Mon.row_le {m : Mon} {N : Int} (hk : m.ok N) (round : Int) (p : Nat) (hp : p < m.again.length) : 0 ≤ m.row round p ∧ m.row round p ≤ max N 0 + 1 := by
  have := getD_all hk.again p hp
  unfold Mon.row
  split <;> omega
theorem Mon.rep_ok {m : Mon} {N : Int} (hk : m.ok N) (h0 : 0 ≤ N) (round : Int) (h1 : 0 ≤ round) (h2 : round < 1048576) (p k : Nat) (hp : p < m.again.length) : (m.rep round p k).ok (N + 1) := by
  have hr := Mon.row_le hk round p hp
  have base : m.ok (N + 1) := ⟨hk.last, fun x hx => by have := hk.again x hx; omega⟩
  have ht : (m.turn round p k).ok (N + 1) := by
    unfold Mon.turn
    split
    · exact ⟨set_all hk.last _ _ (by omega), set_all base.again _ _ (by omega)⟩
    · exact base
  unfold Mon.rep Mon.push
  split
  · exact ⟨ht.last, ht.again⟩
  · exact ht
theorem turn_parts (m : Mon) (round : Int) (p k : Nat) : (m.turn round p k).parts = m.parts ∧ (m.turn round p k).out = m.out ∧ (m.turn round p k).node = m.node := by
  unfold Mon.turn; split <;> exact ⟨rfl, rfl, rfl⟩
/-- Two lists of numbers are set anew. -/
theorem MonAt.set {kl : IntKind} {h : AHeap} {b : Nat} {m : Mon} {F : List Nat} (hm : MonAt kl h b m F) {bl ba : Nat} {q o : AV} (hb : hget h b = some (.cells false [.int .i64 m.node, q, .sl bl 0 m.parts.length 1, .sl ba 0 m.parts.length 1, o])) (la ag : List Int) (e1 : la.length = m.last.length) (e2 : ag.length = m.again.length) :
    MonAt kl (hset (hset h ba (ints .i64 ag)) bl (ints kl la)) b { m with last := la, again := ag } F ∧ Fr F h F (hset (hset h ba (ints .i64 ag)) bl (ints kl la)) := by
  obtain ⟨q', o', bl', ba', Fp, Fo, h1, h2, h3, h4, h5, l1, l2, l3, rfl, n1, n2, n3, n4, n5, n6, n7, n8, n9, n10⟩ := hm
  rw [hb] at h1
  simp only [Option.some.injEq, ABlk.cells.injEq, List.cons.injEq, AV.sl.injEq, and_true, true_and] at h1
  obtain ⟨rfl, rfl, rfl, rfl⟩ := h1
  have t1 := hget_lt h3
  have t2 := hget_lt h4
  refine ⟨⟨q, o, bl, ba, Fp, Fo, ?_, ?_, ?_, ?_, ?_, by simpa [e1] using l1, by simpa [e2] using l2, l3, rfl, n1, n2, n3, n4, n5, n6, n7, n8, n9, n10⟩, (Fr.hset (by simp) _).trans (Fr.hset (by simp) _)⟩
  · rw [hs_ne (Ne.symm n1), hs_ne (Ne.symm n2), hb]
  · exact h2.keep fun x hx => by rw [hs_ne (fun e : bl = x => n8 (by rw [e]; exact hx)), hs_ne (fun e : ba = x => n9 (by rw [e]; exact hx))]
  · rw [hs_same (by rw [len_hset]; exact t1)]
  · rw [hs_ne n3, hs_same t2]
  · exact h5.keep fun x hx => by rw [hs_ne (fun e : bl = x => n5 (by rw [e]; exact hx)), hs_ne (fun e : ba = x => n6 (by rw [e]; exact hx))]
theorem repTurn (h : AHeap) (b : Nat) (m : Mon) (F : List Nat) (hm : MonAt .u32 h b m F) (N : Int) (hk : m.ok N) (hN : N ≤ 1000000000) (round : Int) (r0 : 0 ≤ round) (r1 : round < 1048576) (p k : Nat) (hp : p < m.parts.length) (hk4 : k < 4) :
    Post (J16_2 (.ptr b 0) round (p : Int) (k : Int) h) fun v h' => v = .tuple [.int .u8 (m.did round p k), .niliface] ∧ ∃ F', MonAt .u32 h' b (m.rep round p k) F' ∧ Fr F h F' h' := by
  obtain ⟨q, o, bl, ba, Fp, Fo, h1, h2, h3, h4, h5, e1, e2, e3, eF, n1, n2, n3, n4, n5, n6, n7, n8, n9, n10⟩ := id hm
  have t1 := hget_lt h3
  have t2 := hget_lt h4
  have t0 := hget_lt h1
  obtain ⟨eb, eo, ix, ea⟩ := h2.sl.elem Part.len p hp
  have act : m.act p k = m.parts[p].rc k := by simp [Mon.act, List.getD, hp]
  have iA : aixA 1 4 (.ptr eb (eo + 5)) (k : Int) = some (.ptr eb (eo + (5 + k))) := by
    unfold aixA
    rw [if_pos (by omega)]
    simp [aptr]; omega
  have lA : aload false 1 (.ptr eb (eo + (5 + k))) h = some (.int .u8 (m.act p k)) := by
    have := ea.load1 (5 + k) (by rw [Part.len]; omega) 1
    rw [this, act]
    have h' := Part.rc_get m.parts[p] k hk4
    rw [List.getElem?_eq_getElem (by rw [Part.len]; omega)] at h'
    exact h'
  have gl := ints_getD .u32 m.last p (by omega)
  have ga := ints_getD .i64 m.again p (by omega)
  have xl := aixS_at (b := bl) (o := 0) (sz := 1) hp
  have xa := aixS_at (b := ba) (o := 0) (sz := 1) hp
  have hrow := Mon.row_le hk round p (by omega)
  have hla := getD_all hk.last p (by omega)
  have hag := getD_all hk.again p (by omega)
  rw [J16_2_eq]
  simp (dsimp := false) (implicitDefEqProofs := false) (disch := omega) only [gv_some, gr_some, gI_int, gB_bool, gS_str, gc_t, gc_f, gi_t, gi_f, gN_eq, gf_t, Option.bind_some, Option.bind_none, Option.map_some, acells_agg, acells_int, acells_bool, acells_str, acells_ptr, acells_sl, acells_nilsl, acells_nilptr, acells_iface, acells_niliface, aptr_ptr, anil_ptr, aextract_0, aextract_1, aextract_2, alenS_sl, alenS_nil, alenOf_sl, alenOf_nil, apartOf_agg, apart_t, apart_f, astore_ptr, hset_at0, hset_at, hs_same, hs_ne, len_hset, List.set_cons_zero, List.set_cons_succ, set_app, set_app0, aload_ptr, splice_eq, List.drop_nil, List.append_nil, isCell_int, isCell_bool, isCell_str, isCell_ptr, isCell_sl, isCell_nilsl, isCell_nilptr, isCell_iface, isCell_niliface, List.all_cons, List.all_nil, Bool.and_self, hget_at0, hget_at, len_app, List.length_cons, List.length_nil, get_app, get_app0, List.getElem?_cons_zero, List.getElem?_cons_succ, join_some, List.append_assoc, List.cons_append, List.nil_append, Nat.zero_add, Nat.add_zero, Nat.mul_one, chkRd_eq, chkAl_blk, if_true, if_false, Bool.false_eq_true, List.drop_succ_cons, List.drop_zero, List.take_succ_cons, List.take_zero, Bool.and_true, Bool.true_and, decide_true, decide_false, wrap64_id, aixG_eq, Nat.reduceAdd, Nat.reduceSub, Nat.reduceMul, Nat.reduceLeDiff, Nat.reduceLT, Int.reduceAdd, Int.reduceSub, Int.reduceMul, Int.reduceNeg, Int.reduceLT, Int.reduceLE, Int.reduceGT, Int.reduceGE, Int.reduceToNat, ↓reduceIte, and_self, true_and, and_true, h1, ix]
  refine Post.val iA ?_
  refine Post.val lA ?_
  simp (dsimp := false) (implicitDefEqProofs := false) (disch := omega) only [gv_some, gr_some, gI_int, gB_bool, gS_str, gc_t, gc_f, gi_t, gi_f, gN_eq, gf_t, Option.bind_some, Option.bind_none, Option.map_some, acells_agg, acells_int, acells_bool, acells_str, acells_ptr, acells_sl, acells_nilsl, acells_nilptr, acells_iface, acells_niliface, aptr_ptr, anil_ptr, aextract_0, aextract_1, aextract_2, alenS_sl, alenS_nil, alenOf_sl, alenOf_nil, apartOf_agg, apart_t, apart_f, astore_ptr, hset_at0, hset_at, hs_same, hs_ne, len_hset, List.set_cons_zero, List.set_cons_succ, set_app, set_app0, aload_ptr, splice_eq, List.drop_nil, List.append_nil, isCell_int, isCell_bool, isCell_str, isCell_ptr, isCell_sl, isCell_nilsl, isCell_nilptr, isCell_iface, isCell_niliface, List.all_cons, List.all_nil, Bool.and_self, hget_at0, hget_at, len_app, List.length_cons, List.length_nil, get_app, get_app0, List.getElem?_cons_zero, List.getElem?_cons_succ, join_some, List.append_assoc, List.cons_append, List.nil_append, Nat.zero_add, Nat.add_zero, Nat.mul_one, chkRd_eq, chkAl_blk, if_true, if_false, Bool.false_eq_true, List.drop_succ_cons, List.drop_zero, List.take_succ_cons, List.take_zero, Bool.and_true, Bool.true_and, decide_true, decide_false, wrap64_id, aixG_eq, Nat.reduceAdd, Nat.reduceSub, Nat.reduceMul, Nat.reduceLeDiff, Nat.reduceLT, Int.reduceAdd, Int.reduceSub, Int.reduceMul, Int.reduceNeg, Int.reduceLT, Int.reduceLE, Int.reduceGT, Int.reduceGE, Int.reduceToNat, ↓reduceIte, and_self, true_and, and_true]
  refine Post.cnd (fun ha => ?_) fun ha => ?_
  · simp only [beq_iff_eq] at ha
    have did : m.did round p k = if m.row round p ≥ 3 then 2 else 1 := by simp [Mon.did, ha]
    have fin : ∀ x : Bool, x = decide (m.last.getD p 0 ≠ 0 ∧ round ≤ m.last.getD p 0) → Post (J16_3 (.ptr b 0) round (p : Int) (k : Int) (m.act p k) x h) fun v h' => v = .tuple [.int .u8 (m.did round p k), .niliface] ∧ ∃ F', MonAt .u32 h' b (m.rep round p k) F' ∧ Fr F h F' h' := by
      intro x hx
      have last : ∀ n, n = m.row round p → Post (J16_5 (.ptr b 0) round (p : Int) (k : Int) (m.act p k) (hset h ba (ints .i64 (m.again.set p n)))) fun v h' => v = .tuple [.int .u8 (m.did round p k), .niliface] ∧ ∃ F', MonAt .u32 h' b (m.rep round p k) F' ∧ Fr F h F' h' := by
        intro n hn
        subst hn
        have hl1 : p < (ints .u32 m.last).length := by rw [ints_len]; omega
        obtain ⟨mt, ft⟩ := hm.set h1 (m.last.set p (round + 1)) (m.again.set p (m.row round p)) (by simp) (by simp)
        have em : ({ m with last := m.last.set p (round + 1), again := m.again.set p (m.row round p) } : Mon) = m.turn round p k := by simp [Mon.turn, ha]
        rw [em] at mt
        have ga2 := ints_getD .i64 (m.again.set p (m.row round p)) p (by simp; omega)
        have ga3 : (m.again.set p (m.row round p)).getD p 0 = m.row round p := by simp [List.getD, List.getElem?_set, show p < m.again.length by omega]
        rw [ga3] at ga2
        rw [J16_5_eq]
        simp (dsimp := false) (implicitDefEqProofs := false) (disch := omega) only [gv_some, gr_some, gI_int, gB_bool, gS_str, gc_t, gc_f, gi_t, gi_f, gN_eq, gf_t, Option.bind_some, Option.bind_none, Option.map_some, acells_agg, acells_int, acells_bool, acells_str, acells_ptr, acells_sl, acells_nilsl, acells_nilptr, acells_iface, acells_niliface, aptr_ptr, anil_ptr, aextract_0, aextract_1, aextract_2, alenS_sl, alenS_nil, alenOf_sl, alenOf_nil, apartOf_agg, apart_t, apart_f, astore_ptr, hset_at0, hset_at, hs_same, hs_ne, len_hset, List.set_cons_zero, List.set_cons_succ, set_app, set_app0, aload_ptr, splice_eq, List.drop_nil, List.append_nil, isCell_int, isCell_bool, isCell_str, isCell_ptr, isCell_sl, isCell_nilsl, isCell_nilptr, isCell_iface, isCell_niliface, List.all_cons, List.all_nil, Bool.and_self, hget_at0, hget_at, len_app, List.length_cons, List.length_nil, get_app, get_app0, List.getElem?_cons_zero, List.getElem?_cons_succ, join_some, List.append_assoc, List.cons_append, List.nil_append, Nat.zero_add, Nat.add_zero, Nat.mul_one, chkRd_eq, chkAl_blk, if_true, if_false, Bool.false_eq_true, List.drop_succ_cons, List.drop_zero, List.take_succ_cons, List.take_zero, Bool.and_true, Bool.true_and, decide_true, decide_false, wrap64_id, aixG_eq, Nat.reduceAdd, Nat.reduceSub, Nat.reduceMul, Nat.reduceLeDiff, Nat.reduceLT, Int.reduceAdd, Int.reduceSub, Int.reduceMul, Int.reduceNeg, Int.reduceLT, Int.reduceLE, Int.reduceGT, Int.reduceGE, Int.reduceToNat, ↓reduceIte, and_self, true_and, and_true, h1, h3, xl, xa, Nat.mul_one, hl1, ints_set, wrapu32_id, ga2]
        have go : ∀ d, d = m.did round p k → Post (J16_4 (.ptr b 0) round (p : Int) (k : Int) d (hset (hset h ba (ints .i64 (m.again.set p (m.row round p)))) bl (ints .u32 (m.last.set p (round + 1))))) fun v h' => v = .tuple [.int .u8 (m.did round p k), .niliface] ∧ ∃ F', MonAt .u32 h' b (m.rep round p k) F' ∧ Fr F h F' h' := by
          intro d hd
          refine (repPush _ b (m.turn round p k) F mt round p k d).mono ?_
          rintro v h' ⟨hv, F', q1, q2⟩
          refine ⟨by rw [hv, hd], F', ?_, ft.trans q2⟩
          have : (m.turn round p k).rcd round p k d = m.rcd round p k (m.did round p k) := by rw [hd]; simp [Mon.rcd, (turn_parts m round p k).2.2]
          rw [this] at q1
          exact q1
        refine Post.cdd (fun hc => go 2 (by rw [did, if_pos hc])) fun hc => go _ (by rw [did, if_neg hc, ha])
      rw [J16_3_eq]
      refine Post.cnd (fun hc => ?_) fun hc => ?_
      · have hrw : m.row round p = m.again.getD p 0 + 1 := by
          rw [hc] at hx; unfold Mon.row; rw [if_pos (of_decide_eq_true hx.symm)]
        have hl2 : p < (ints .i64 m.again).length := by rw [ints_len]; omega
        simp (dsimp := false) (implicitDefEqProofs := false) (disch := omega) only [gv_some, gr_some, gI_int, gB_bool, gS_str, gc_t, gc_f, gi_t, gi_f, gN_eq, gf_t, Option.bind_some, Option.bind_none, Option.map_some, acells_agg, acells_int, acells_bool, acells_str, acells_ptr, acells_sl, acells_nilsl, acells_nilptr, acells_iface, acells_niliface, aptr_ptr, anil_ptr, aextract_0, aextract_1, aextract_2, alenS_sl, alenS_nil, alenOf_sl, alenOf_nil, apartOf_agg, apart_t, apart_f, astore_ptr, hset_at0, hset_at, hs_same, hs_ne, len_hset, List.set_cons_zero, List.set_cons_succ, set_app, set_app0, aload_ptr, splice_eq, List.drop_nil, List.append_nil, isCell_int, isCell_bool, isCell_str, isCell_ptr, isCell_sl, isCell_nilsl, isCell_nilptr, isCell_iface, isCell_niliface, List.all_cons, List.all_nil, Bool.and_self, hget_at0, hget_at, len_app, List.length_cons, List.length_nil, get_app, get_app0, List.getElem?_cons_zero, List.getElem?_cons_succ, join_some, List.append_assoc, List.cons_append, List.nil_append, Nat.zero_add, Nat.add_zero, Nat.mul_one, chkRd_eq, chkAl_blk, if_true, if_false, Bool.false_eq_true, List.drop_succ_cons, List.drop_zero, List.take_succ_cons, List.take_zero, Bool.and_true, Bool.true_and, decide_true, decide_false, wrap64_id, aixG_eq, Nat.reduceAdd, Nat.reduceSub, Nat.reduceMul, Nat.reduceLeDiff, Nat.reduceLT, Int.reduceAdd, Int.reduceSub, Int.reduceMul, Int.reduceNeg, Int.reduceLT, Int.reduceLE, Int.reduceGT, Int.reduceGE, Int.reduceToNat, ↓reduceIte, and_self, true_and, and_true, h1, h4, xa, Nat.mul_one, ga, hl2, ints_set]
        exact last _ hrw.symm
      · have hrw : m.row round p = 1 := by
          rw [hc] at hx; unfold Mon.row; rw [if_neg (of_decide_eq_false hx.symm)]
        have hl2 : p < (ints .i64 m.again).length := by rw [ints_len]; omega
        simp (dsimp := false) (implicitDefEqProofs := false) (disch := omega) only [gv_some, gr_some, gI_int, gB_bool, gS_str, gc_t, gc_f, gi_t, gi_f, gN_eq, gf_t, Option.bind_some, Option.bind_none, Option.map_some, acells_agg, acells_int, acells_bool, acells_str, acells_ptr, acells_sl, acells_nilsl, acells_nilptr, acells_iface, acells_niliface, aptr_ptr, anil_ptr, aextract_0, aextract_1, aextract_2, alenS_sl, alenS_nil, alenOf_sl, alenOf_nil, apartOf_agg, apart_t, apart_f, astore_ptr, hset_at0, hset_at, hs_same, hs_ne, len_hset, List.set_cons_zero, List.set_cons_succ, set_app, set_app0, aload_ptr, splice_eq, List.drop_nil, List.append_nil, isCell_int, isCell_bool, isCell_str, isCell_ptr, isCell_sl, isCell_nilsl, isCell_nilptr, isCell_iface, isCell_niliface, List.all_cons, List.all_nil, Bool.and_self, hget_at0, hget_at, len_app, List.length_cons, List.length_nil, get_app, get_app0, List.getElem?_cons_zero, List.getElem?_cons_succ, join_some, List.append_assoc, List.cons_append, List.nil_append, Nat.zero_add, Nat.add_zero, Nat.mul_one, chkRd_eq, chkAl_blk, if_true, if_false, Bool.false_eq_true, List.drop_succ_cons, List.drop_zero, List.take_succ_cons, List.take_zero, Bool.and_true, Bool.true_and, decide_true, decide_false, wrap64_id, aixG_eq, Nat.reduceAdd, Nat.reduceSub, Nat.reduceMul, Nat.reduceLeDiff, Nat.reduceLT, Int.reduceAdd, Int.reduceSub, Int.reduceMul, Int.reduceNeg, Int.reduceLT, Int.reduceLE, Int.reduceGT, Int.reduceGE, Int.reduceToNat, ↓reduceIte, and_self, true_and, and_true, h1, h4, xa, Nat.mul_one, ga, hl2, ints_set]
        exact last _ hrw.symm
    simp (dsimp := false) (implicitDefEqProofs := false) (disch := omega) only [gv_some, gr_some, gI_int, gB_bool, gS_str, gc_t, gc_f, gi_t, gi_f, gN_eq, gf_t, Option.bind_some, Option.bind_none, Option.map_some, acells_agg, acells_int, acells_bool, acells_str, acells_ptr, acells_sl, acells_nilsl, acells_nilptr, acells_iface, acells_niliface, aptr_ptr, anil_ptr, aextract_0, aextract_1, aextract_2, alenS_sl, alenS_nil, alenOf_sl, alenOf_nil, apartOf_agg, apart_t, apart_f, astore_ptr, hset_at0, hset_at, hs_same, hs_ne, len_hset, List.set_cons_zero, List.set_cons_succ, set_app, set_app0, aload_ptr, splice_eq, List.drop_nil, List.append_nil, isCell_int, isCell_bool, isCell_str, isCell_ptr, isCell_sl, isCell_nilsl, isCell_nilptr, isCell_iface, isCell_niliface, List.all_cons, List.all_nil, Bool.and_self, hget_at0, hget_at, len_app, List.length_cons, List.length_nil, get_app, get_app0, List.getElem?_cons_zero, List.getElem?_cons_succ, join_some, List.append_assoc, List.cons_append, List.nil_append, Nat.zero_add, Nat.add_zero, Nat.mul_one, chkRd_eq, chkAl_blk, if_true, if_false, Bool.false_eq_true, List.drop_succ_cons, List.drop_zero, List.take_succ_cons, List.take_zero, Bool.and_true, Bool.true_and, decide_true, decide_false, wrap64_id, aixG_eq, Nat.reduceAdd, Nat.reduceSub, Nat.reduceMul, Nat.reduceLeDiff, Nat.reduceLT, Int.reduceAdd, Int.reduceSub, Int.reduceMul, Int.reduceNeg, Int.reduceLT, Int.reduceLE, Int.reduceGT, Int.reduceGE, Int.reduceToNat, ↓reduceIte, and_self, true_and, and_true, h1, h3, xl, Nat.mul_one, gl]
    refine Post.ite (fun hz => ?_) fun hz => fin _ ?_
    · simp (dsimp := false) (implicitDefEqProofs := false) (disch := omega) only [gv_some, gr_some, gI_int, gB_bool, gS_str, gc_t, gc_f, gi_t, gi_f, gN_eq, gf_t, Option.bind_some, Option.bind_none, Option.map_some, acells_agg, acells_int, acells_bool, acells_str, acells_ptr, acells_sl, acells_nilsl, acells_nilptr, acells_iface, acells_niliface, aptr_ptr, anil_ptr, aextract_0, aextract_1, aextract_2, alenS_sl, alenS_nil, alenOf_sl, alenOf_nil, apartOf_agg, apart_t, apart_f, astore_ptr, hset_at0, hset_at, hs_same, hs_ne, len_hset, List.set_cons_zero, List.set_cons_succ, set_app, set_app0, aload_ptr, splice_eq, List.drop_nil, List.append_nil, isCell_int, isCell_bool, isCell_str, isCell_ptr, isCell_sl, isCell_nilsl, isCell_nilptr, isCell_iface, isCell_niliface, List.all_cons, List.all_nil, Bool.and_self, hget_at0, hget_at, len_app, List.length_cons, List.length_nil, get_app, get_app0, List.getElem?_cons_zero, List.getElem?_cons_succ, join_some, List.append_assoc, List.cons_append, List.nil_append, Nat.zero_add, Nat.add_zero, Nat.mul_one, chkRd_eq, chkAl_blk, if_true, if_false, Bool.false_eq_true, List.drop_succ_cons, List.drop_zero, List.take_succ_cons, List.take_zero, Bool.and_true, Bool.true_and, decide_true, decide_false, wrap64_id, aixG_eq, Nat.reduceAdd, Nat.reduceSub, Nat.reduceMul, Nat.reduceLeDiff, Nat.reduceLT, Int.reduceAdd, Int.reduceSub, Int.reduceMul, Int.reduceNeg, Int.reduceLT, Int.reduceLE, Int.reduceGT, Int.reduceGE, Int.reduceToNat, ↓reduceIte, and_self, true_and, and_true, h1, h3, xl, Nat.mul_one, gl]
      refine fin _ ?_
      have hz : m.last.getD p 0 ≠ 0 := bne_iff_ne.1 hz
      exact decide_eq_decide.2 ⟨fun h => ⟨hz, h⟩, fun h => h.2⟩
    · have hz : m.last.getD p 0 = 0 := by simpa only [bne_eq_false_iff_eq] using hz
      exact (decide_eq_false (fun h => h.1 hz)).symm
  · have ha : m.act p k ≠ 1 := by simpa using ha
    have did : m.did round p k = m.act p k := by simp [Mon.did, ha]
    have em : m.turn round p k = m := by simp [Mon.turn, ha]
    rw [did]
    refine (repPush h b m F hm round p k _).mono ?_
    rintro v h' ⟨hv, F', q1, q2⟩
    refine ⟨hv, F', ?_, q2⟩
    unfold Mon.rep
    rw [em, did]
    exact q1
/-- Report. -/
theorem c_report (h : AHeap) (b : Nat) (m : Mon) (F : List Nat) (hm : MonAt .u32 h b m F) (N : Int) (hk : m.ok N) (hN : N ≤ 1000000000) (round : Int) (r0 : 0 ≤ round) (p k : Int) (k0 : 0 ≤ k) :
    Post (acall Try.prog Nt 16 [.ptr b 0, .int .u32 round, .int .i64 p, .int .u8 k] h) fun v h' =>
      if m.takes round p k then v = .tuple [.int .u8 (m.did round p.toNat k.toNat), .niliface] ∧ ∃ F', MonAt .u32 h' b (m.rep round p.toNat k.toNat) F' ∧ Fr F h F' h'
      else v = .tuple [.int .u8 0, .iface 71 (.int .i64 2)] ∧ h' = h := by
  obtain ⟨q, o, bl, ba, Fp, Fo, h1, h2, _⟩ := id hm
  rw [E16]
  simp (dsimp := false) (implicitDefEqProofs := false) (disch := omega) only [gv_some, gr_some, gI_int, gB_bool, gS_str, gc_t, gc_f, gi_t, gi_f, gN_eq, gf_t, Option.bind_some, Option.bind_none, Option.map_some, acells_agg, acells_int, acells_bool, acells_str, acells_ptr, acells_sl, acells_nilsl, acells_nilptr, acells_iface, acells_niliface, aptr_ptr, anil_ptr, aextract_0, aextract_1, aextract_2, alenS_sl, alenS_nil, alenOf_sl, alenOf_nil, apartOf_agg, apart_t, apart_f, astore_ptr, hset_at0, hset_at, hs_same, hs_ne, len_hset, List.set_cons_zero, List.set_cons_succ, set_app, set_app0, aload_ptr, splice_eq, List.drop_nil, List.append_nil, isCell_int, isCell_bool, isCell_str, isCell_ptr, isCell_sl, isCell_nilsl, isCell_nilptr, isCell_iface, isCell_niliface, List.all_cons, List.all_nil, Bool.and_self, hget_at0, hget_at, len_app, List.length_cons, List.length_nil, get_app, get_app0, List.getElem?_cons_zero, List.getElem?_cons_succ, join_some, List.append_assoc, List.cons_append, List.nil_append, Nat.zero_add, Nat.add_zero, Nat.mul_one, chkRd_eq, chkAl_blk, if_true, if_false, Bool.false_eq_true, List.drop_succ_cons, List.drop_zero, List.take_succ_cons, List.take_zero, Bool.and_true, Bool.true_and, decide_true, decide_false, wrap64_id, aixG_eq, Nat.reduceAdd, Nat.reduceSub, Nat.reduceMul, Nat.reduceLeDiff, Nat.reduceLT, Int.reduceAdd, Int.reduceSub, Int.reduceMul, Int.reduceNeg, Int.reduceLT, Int.reduceLE, Int.reduceGT, Int.reduceGE, Int.reduceToNat, ↓reduceIte, and_self, true_and, and_true, mon_eq_ptr]
  have bad : m.takes round p k = false → Post (J16_1 (.ptr b 0) round p k true h) fun v h' =>
      if m.takes round p k then v = .tuple [.int .u8 (m.did round p.toNat k.toNat), .niliface] ∧ ∃ F', MonAt .u32 h' b (m.rep round p.toNat k.toNat) F' ∧ Fr F h F' h'
      else v = .tuple [.int .u8 0, .iface 71 (.int .i64 2)] ∧ h' = h := by
    intro e
    rw [J16_1_eq, e]
    exact Post.done ⟨rfl, rfl⟩
  refine Post.itd (fun c1 => bad (by simp [Mon.takes]; omega)) fun c1 => ?_
  simp (dsimp := false) (implicitDefEqProofs := false) (disch := omega) only [gv_some, gr_some, gI_int, gB_bool, gS_str, gc_t, gc_f, gi_t, gi_f, gN_eq, gf_t, Option.bind_some, Option.bind_none, Option.map_some, acells_agg, acells_int, acells_bool, acells_str, acells_ptr, acells_sl, acells_nilsl, acells_nilptr, acells_iface, acells_niliface, aptr_ptr, anil_ptr, aextract_0, aextract_1, aextract_2, alenS_sl, alenS_nil, alenOf_sl, alenOf_nil, apartOf_agg, apart_t, apart_f, astore_ptr, hset_at0, hset_at, hs_same, hs_ne, len_hset, List.set_cons_zero, List.set_cons_succ, set_app, set_app0, aload_ptr, splice_eq, List.drop_nil, List.append_nil, isCell_int, isCell_bool, isCell_str, isCell_ptr, isCell_sl, isCell_nilsl, isCell_nilptr, isCell_iface, isCell_niliface, List.all_cons, List.all_nil, Bool.and_self, hget_at0, hget_at, len_app, List.length_cons, List.length_nil, get_app, get_app0, List.getElem?_cons_zero, List.getElem?_cons_succ, join_some, List.append_assoc, List.cons_append, List.nil_append, Nat.zero_add, Nat.add_zero, Nat.mul_one, chkRd_eq, chkAl_blk, if_true, if_false, Bool.false_eq_true, List.drop_succ_cons, List.drop_zero, List.take_succ_cons, List.take_zero, Bool.and_true, Bool.true_and, decide_true, decide_false, wrap64_id, aixG_eq, Nat.reduceAdd, Nat.reduceSub, Nat.reduceMul, Nat.reduceLeDiff, Nat.reduceLT, Int.reduceAdd, Int.reduceSub, Int.reduceMul, Int.reduceNeg, Int.reduceLT, Int.reduceLE, Int.reduceGT, Int.reduceGE, Int.reduceToNat, ↓reduceIte, and_self, true_and, and_true, h1, h2.sl.len]
  refine Post.itd (fun c2 => bad (by simp [Mon.takes]; omega)) fun c2 => ?_
  refine Post.itd (fun c3 => bad (by simp [Mon.takes]; omega)) fun c3 => ?_
  by_cases c4 : round ≥ 1048576
  · rw [decide_eq_true c4]; exact bad (by simp [Mon.takes]; omega)
  rw [decide_eq_false c4, J16_1_eq]
  simp (dsimp := false) (implicitDefEqProofs := false) (disch := omega) only [gv_some, gr_some, gI_int, gB_bool, gS_str, gc_t, gc_f, gi_t, gi_f, gN_eq, gf_t, Option.bind_some, Option.bind_none, Option.map_some, acells_agg, acells_int, acells_bool, acells_str, acells_ptr, acells_sl, acells_nilsl, acells_nilptr, acells_iface, acells_niliface, aptr_ptr, anil_ptr, aextract_0, aextract_1, aextract_2, alenS_sl, alenS_nil, alenOf_sl, alenOf_nil, apartOf_agg, apart_t, apart_f, astore_ptr, hset_at0, hset_at, hs_same, hs_ne, len_hset, List.set_cons_zero, List.set_cons_succ, set_app, set_app0, aload_ptr, splice_eq, List.drop_nil, List.append_nil, isCell_int, isCell_bool, isCell_str, isCell_ptr, isCell_sl, isCell_nilsl, isCell_nilptr, isCell_iface, isCell_niliface, List.all_cons, List.all_nil, Bool.and_self, hget_at0, hget_at, len_app, List.length_cons, List.length_nil, get_app, get_app0, List.getElem?_cons_zero, List.getElem?_cons_succ, join_some, List.append_assoc, List.cons_append, List.nil_append, Nat.zero_add, Nat.add_zero, Nat.mul_one, chkRd_eq, chkAl_blk, if_true, if_false, Bool.false_eq_true, List.drop_succ_cons, List.drop_zero, List.take_succ_cons, List.take_zero, Bool.and_true, Bool.true_and, decide_true, decide_false, wrap64_id, aixG_eq, Nat.reduceAdd, Nat.reduceSub, Nat.reduceMul, Nat.reduceLeDiff, Nat.reduceLT, Int.reduceAdd, Int.reduceSub, Int.reduceMul, Int.reduceNeg, Int.reduceLT, Int.reduceLE, Int.reduceGT, Int.reduceGE, Int.reduceToNat, ↓reduceIte, and_self, true_and, and_true]
  have e : m.takes round p k = true := by simp [Mon.takes]; omega
  obtain ⟨pn, rfl⟩ : ∃ n : Nat, p = n := ⟨p.toNat, by omega⟩
  obtain ⟨kn, rfl⟩ : ∃ n : Nat, k = n := ⟨k.toNat, by omega⟩
  simp only [e, if_true, Int.toNat_natCast]
  exact repTurn h b m F hm N hk hN round r0 (by omega) pn kn (by omega) (by omega)
/-- Seal. -/
theorem c_seal (h : AHeap) (b : Nat) (m : Mon) (F : List Nat) (hm : MonAt .u32 h b m F) :
    Post (acall Try.prog Nt 14 [.ptr b 0] h) fun v h' => ∃ Fo F', MonAt .u32 h' b { m with out := [] } F' ∧ OwB h' 5 Rcd.cells m.out v Fo ∧ (∀ x ∈ Fo, x ∉ F') ∧ (∀ x ∈ Fo, x ∈ F) ∧ Fr F h F' h' := by
  obtain ⟨q, o, bl, ba, Fp, Fo, h1, h2, h3, h4, h5, e1, e2, e3, rfl, n1, n2, n3, n4, n5, n6, n7, n8, n9, n10⟩ := id hm
  have t0 := hget_lt h1
  rw [E14]
  simp (dsimp := false) (implicitDefEqProofs := false) (disch := omega) only [gv_some, gr_some, gI_int, gB_bool, gS_str, gc_t, gc_f, gi_t, gi_f, gN_eq, gf_t, Option.bind_some, Option.bind_none, Option.map_some, acells_agg, acells_int, acells_bool, acells_str, acells_ptr, acells_sl, acells_nilsl, acells_nilptr, acells_iface, acells_niliface, aptr_ptr, anil_ptr, aextract_0, aextract_1, aextract_2, alenS_sl, alenS_nil, alenOf_sl, alenOf_nil, apartOf_agg, apart_t, apart_f, astore_ptr, hset_at0, hset_at, hs_same, hs_ne, len_hset, List.set_cons_zero, List.set_cons_succ, set_app, set_app0, aload_ptr, splice_eq, List.drop_nil, List.append_nil, isCell_int, isCell_bool, isCell_str, isCell_ptr, isCell_sl, isCell_nilsl, isCell_nilptr, isCell_iface, isCell_niliface, List.all_cons, List.all_nil, Bool.and_self, hget_at0, hget_at, len_app, List.length_cons, List.length_nil, get_app, get_app0, List.getElem?_cons_zero, List.getElem?_cons_succ, join_some, List.append_assoc, List.cons_append, List.nil_append, Nat.zero_add, Nat.add_zero, Nat.mul_one, chkRd_eq, chkAl_blk, if_true, if_false, Bool.false_eq_true, List.drop_succ_cons, List.drop_zero, List.take_succ_cons, List.take_zero, Bool.and_true, Bool.true_and, decide_true, decide_false, wrap64_id, aixG_eq, Nat.reduceAdd, Nat.reduceSub, Nat.reduceMul, Nat.reduceLeDiff, Nat.reduceLT, Int.reduceAdd, Int.reduceSub, Int.reduceMul, Int.reduceNeg, Int.reduceLT, Int.reduceLE, Int.reduceGT, Int.reduceGE, Int.reduceToNat, ↓reduceIte, and_self, true_and, and_true, mon_eq_ptr, J14_1_eq, h1]
  refine Post.done ⟨Fo, b :: bl :: ba :: ([] ++ Fp), ⟨q, .nilsl, bl, ba, Fp, [], by rw [hs_same t0], ?_, by rw [hs_ne n1, h3], by rw [hs_ne n2, h4], .inl ⟨rfl, rfl, rfl⟩, e1, e2, by simp, rfl, n1, n2, n3, by simp, by simp, by simp, n7, n8, n9, by simp⟩, ?_, ?_, ?_, ?_⟩
  · exact h2.keep fun x hx => by rw [hs_ne (fun e : b = x => n7 (by rw [e]; exact hx))]
  · exact h5.keep fun x hx => by rw [hs_ne (fun e : b = x => n4 (by rw [e]; exact hx))]
  · intro x hx hn
    simp only [List.nil_append, List.mem_cons] at hn
    rcases hn with rfl | rfl | rfl | hn
    · exact n4 hx
    · exact n5 hx
    · exact n6 hx
    · exact n10 x hx hn
  · intro x hx; simp [hx]
  · refine ⟨by rw [len_hset]; exact Nat.le_refl _, fun x _ hn => ?_, fun x hx => .inl ?_⟩
    · simp only [List.mem_cons, not_or] at hn
      exact hs_ne (Ne.symm hn.1) _
    · simp only [List.nil_append, List.mem_cons, List.mem_append] at hx ⊢
      rcases hx with hx | hx | hx | hx
      · exact .inl hx
      · exact .inr (.inl hx)
      · exact .inr (.inr (.inl hx))
      · exact .inr (.inr (.inr (.inr hx)))
end Go.Ab
end
section
/-
  Functions of the program as equations: written by program (wip/tools/prt.py).
-/
namespace Go.Ab
open Go.Proofs
/-! 19: escapement/health.Of -/
noncomputable def K19 : Kont := kend Try.prog 15 Try.f19.results.toList
noncomputable def K19_1 (lp : Loop) (jn : Join) : Kont := kseqJ jn (codeJ Try.prog Nt lp jn 15 (nat' [true, true, true] A19) (cat [true, true, true] C19)) (some [2, 3]) K19
noncomputable def K19_2 (lp : Loop) (jn : Join) : Kont := kblock 0 none (K19_1 lp jn)
noncomputable def K19_3 (lp : Loop) (jn : Join) : Kont := kseqJ jn (codeJ Try.prog Nt lp jn 15 (nat' [true, true, false, true, false, true] A19) (cat [true, true, false, true, false, true] C19)) (some [2, 3]) (K19_2 lp jn)
noncomputable def K19_4 (lp : Loop) (jn : Join) : Kont := kblock 3 none (K19_3 lp jn)
noncomputable def K19_5 (lp : Loop) (jn : Join) : Kont := kseqJ jn (codeJ Try.prog Nt lp jn 15 (nat' [true, true, false, true, false, false, false, true] A19) (cat [true, true, false, true, false, false, false, true] C19)) (some [2, 3]) (K19_4 lp jn)
noncomputable def K19_6 (lp : Loop) (jn : Join) : Kont := kblock 2 none (K19_5 lp jn)
noncomputable def K19_7 (lp : Loop) (jn : Join) : Kont := kseqJ jn (codeJ Try.prog Nt lp jn 15 (nat' [true, true, false, true, false, false, false, false, false, true] A19) (cat [true, true, false, true, false, false, false, false, false, true] C19)) (some [2, 3]) (K19_6 lp jn)
noncomputable def K19_8 (lp : Loop) (jn : Join) : Kont := kblock 1 none (K19_7 lp jn)
noncomputable def K19_9 (lp : Loop) (jn : Join) : Kont := kseqJ jn (codeJ Try.prog Nt lp jn 15 (nat' [true, true, false, true, false, false, false, false, false, false, false, true] A19) (cat [true, true, false, true, false, false, false, false, false, false, false, true] C19)) none (K19_8 lp jn)
noncomputable def J19_1' (lp : Loop) (jn : Join) (x2 : Nat) (x3 : Nat) (h : AHeap) : Res := jn (codeJ Try.prog Nt lp jn 15 (nat' [true, true, false, true, false, false, false, false, false, true] A19) (cat [true, true, false, true, false, false, false, false, false, true] C19)) (envOf [(2, (.ptr x2 0)), (3, (.ptr x3 0))]) h (K19_6 lp jn)
noncomputable def J19_1 (x2 : Nat) (x3 : Nat) (h : AHeap) : Res := J19_1' aloop (fun s => s) x2 x3 h
noncomputable def J19_2' (lp : Loop) (jn : Join) (x2 : Nat) (x3 : Nat) (x4 : Int) (h : AHeap) : Res := jn (codeJ Try.prog Nt lp jn 15 (nat' [true, true, false, true, false, false, false, false, false, false, false, false, true] A19) (cat [true, true, false, true, false, false, false, false, false, false, false, false, true] C19)) (envOf [(2, (.ptr x2 0)), (3, (.ptr x3 0)), (4, (.int .u8 x4))]) h (K19_9 lp jn)
noncomputable def J19_2 (x2 : Nat) (x3 : Nat) (x4 : Int) (h : AHeap) : Res := J19_2' aloop (fun s => s) x2 x3 x4 h
noncomputable def J19_3' (lp : Loop) (jn : Join) (x2 : Nat) (x3 : Nat) (h : AHeap) : Res := jn (codeJ Try.prog Nt lp jn 15 (nat' [true, true, false, true, false, false, false, true] A19) (cat [true, true, false, true, false, false, false, true] C19)) (envOf [(2, (.ptr x2 0)), (3, (.ptr x3 0))]) h (K19_4 lp jn)
noncomputable def J19_3 (x2 : Nat) (x3 : Nat) (h : AHeap) : Res := J19_3' aloop (fun s => s) x2 x3 h
noncomputable def J19_4' (lp : Loop) (jn : Join) (x2 : Nat) (x3 : Nat) (x4 : Int) (h : AHeap) : Res := jn (codeJ Try.prog Nt lp jn 15 (nat' [true, true, false, true, false, false, false, false, false, false, false, false, true, true] A19) (cat [true, true, false, true, false, false, false, false, false, false, false, false, true, true] C19)) (envOf [(2, (.ptr x2 0)), (3, (.ptr x3 0)), (4, (.int .u8 x4))]) h (K19_9 lp jn)
noncomputable def J19_4 (x2 : Nat) (x3 : Nat) (x4 : Int) (h : AHeap) : Res := J19_4' aloop (fun s => s) x2 x3 x4 h
noncomputable def J19_5' (lp : Loop) (jn : Join) (x2 : Nat) (x3 : Nat) (h : AHeap) : Res := jn (codeJ Try.prog Nt lp jn 15 (nat' [true, true, false, true, false, true] A19) (cat [true, true, false, true, false, true] C19)) (envOf [(2, (.ptr x2 0)), (3, (.ptr x3 0))]) h (K19_2 lp jn)
noncomputable def J19_5 (x2 : Nat) (x3 : Nat) (h : AHeap) : Res := J19_5' aloop (fun s => s) x2 x3 h
noncomputable def J19_6' (lp : Loop) (jn : Join) (x2 : Nat) (x3 : Nat) (h : AHeap) : Res := jn (codeJ Try.prog Nt lp jn 15 (nat' [true, true, true] A19) (cat [true, true, true] C19)) (envOf [(2, (.ptr x2 0)), (3, (.ptr x3 0))]) h K19
noncomputable def J19_6 (x2 : Nat) (x3 : Nat) (h : AHeap) : Res := J19_6' aloop (fun s => s) x2 x3 h
theorem J19_1_g (lp : Loop) (jn : Join) (x2 : Nat) (x3 : Nat) (h : AHeap) : codeJ Try.prog Nt lp jn 15 (nat' [true, true, false, true, false, false, false, false, false, true] A19) (cat [true, true, false, true, false, false, false, false, false, true] C19) (envOf [(2, (.ptr x2 0)), (3, (.ptr x3 0))]) h (K19_6 lp jn) = (gv (astore false 1 (.ptr x3 2) (.bool true) h) fun h5 => J19_3' lp jn x2 x3 h5) := by kernel_rfl
theorem J19_1_eq (x2 : Nat) (x3 : Nat) (h : AHeap) : J19_1 x2 x3 h = (gv (astore false 1 (.ptr x3 2) (.bool true) h) fun h5 => J19_3 x2 x3 h5) := J19_1_g aloop (fun s => s) x2 x3 h
theorem J19_2_g (lp : Loop) (jn : Join) (x2 : Nat) (x3 : Nat) (x4 : Int) (h : AHeap) : codeJ Try.prog Nt lp jn 15 (nat' [true, true, false, true, false, false, false, false, false, false, false, false, true] A19) (cat [true, true, false, true, false, false, false, false, false, false, false, false, true] C19) (envOf [(2, (.ptr x2 0)), (3, (.ptr x3 0)), (4, (.int .u8 x4))]) h (K19_9 lp jn) = (gc (x4 == 2) (J19_3' lp jn x2 x3 h) (J19_4' lp jn x2 x3 x4 h)) := by kernel_rfl
theorem J19_2_eq (x2 : Nat) (x3 : Nat) (x4 : Int) (h : AHeap) : J19_2 x2 x3 x4 h = (gc (x4 == 2) (J19_3 x2 x3 h) (J19_4 x2 x3 x4 h)) := J19_2_g aloop (fun s => s) x2 x3 x4 h
theorem J19_3_g (lp : Loop) (jn : Join) (x2 : Nat) (x3 : Nat) (h : AHeap) : codeJ Try.prog Nt lp jn 15 (nat' [true, true, false, true, false, false, false, true] A19) (cat [true, true, false, true, false, false, false, true] C19) (envOf [(2, (.ptr x2 0)), (3, (.ptr x3 0))]) h (K19_4 lp jn) = (gv (astore false 1 (.ptr x3 1) (.bool true) h) fun h6 => J19_5' lp jn x2 x3 h6) := by kernel_rfl
theorem J19_3_eq (x2 : Nat) (x3 : Nat) (h : AHeap) : J19_3 x2 x3 h = (gv (astore false 1 (.ptr x3 1) (.bool true) h) fun h6 => J19_5 x2 x3 h6) := J19_3_g aloop (fun s => s) x2 x3 h
theorem J19_4_g (lp : Loop) (jn : Join) (x2 : Nat) (x3 : Nat) (x4 : Int) (h : AHeap) : codeJ Try.prog Nt lp jn 15 (nat' [true, true, false, true, false, false, false, false, false, false, false, false, true, true] A19) (cat [true, true, false, true, false, false, false, false, false, false, false, false, true, true] C19) (envOf [(2, (.ptr x2 0)), (3, (.ptr x3 0)), (4, (.int .u8 x4))]) h (K19_9 lp jn) = (gc (x4 == 1) (J19_5' lp jn x2 x3 h) (J19_6' lp jn x2 x3 h)) := by kernel_rfl
theorem J19_4_eq (x2 : Nat) (x3 : Nat) (x4 : Int) (h : AHeap) : J19_4 x2 x3 x4 h = (gc (x4 == 1) (J19_5 x2 x3 h) (J19_6 x2 x3 h)) := J19_4_g aloop (fun s => s) x2 x3 x4 h
theorem J19_5_g (lp : Loop) (jn : Join) (x2 : Nat) (x3 : Nat) (h : AHeap) : codeJ Try.prog Nt lp jn 15 (nat' [true, true, false, true, false, true] A19) (cat [true, true, false, true, false, true] C19) (envOf [(2, (.ptr x2 0)), (3, (.ptr x3 0))]) h (K19_2 lp jn) = (gv (astore false 1 (.ptr x3 0) (.bool true) h) fun h7 => J19_6' lp jn x2 x3 h7) := by kernel_rfl
theorem J19_5_eq (x2 : Nat) (x3 : Nat) (h : AHeap) : J19_5 x2 x3 h = (gv (astore false 1 (.ptr x3 0) (.bool true) h) fun h7 => J19_6 x2 x3 h7) := J19_5_g aloop (fun s => s) x2 x3 h
theorem J19_6_g (lp : Loop) (jn : Join) (x2 : Nat) (x3 : Nat) (h : AHeap) : codeJ Try.prog Nt lp jn 15 (nat' [true, true, true] A19) (cat [true, true, true] C19) (envOf [(2, (.ptr x2 0)), (3, (.ptr x3 0))]) h K19 = (gv (aload true 3 (.ptr x3 0) h) fun v8 => gv (astore true 3 (.ptr x2 0) v8 h) fun h9 => gv (gv (aload true 3 (.ptr x2 0) h9) fun v10 => some [v10]) fun l => some (aone l, h9)) := by kernel_rfl
theorem J19_6_eq (x2 : Nat) (x3 : Nat) (h : AHeap) : J19_6 x2 x3 h = (gv (aload true 3 (.ptr x3 0) h) fun v8 => gv (astore true 3 (.ptr x2 0) v8 h) fun h9 => gv (gv (aload true 3 (.ptr x2 0) h9) fun v10 => some [v10]) fun l => some (aone l, h9)) := J19_6_g aloop (fun s => s) x2 x3 h
theorem E19_g (lp : Loop) (jn : Join) (x0 : Int) (h : AHeap) : codeJ Try.prog Nt lp jn 15 (Nt 19) C19 (args [(.int .u8 x0)]) h K19 = (gN h [(.bool false), (.bool false), (.bool false)] fun b1 h2 => gN h2 [(.bool false), (.bool false), (.bool false)] fun b3 h4 => gc (x0 == 3) (J19_1' lp jn b1 b3 h4) (J19_2' lp jn b1 b3 x0 h4)) := by kernel_rfl
theorem E19 (x0 : Int) (h : AHeap) : acall Try.prog Nt 19 [(.int .u8 x0)] h = (gN h [(.bool false), (.bool false), (.bool false)] fun b1 h2 => gN h2 [(.bool false), (.bool false), (.bool false)] fun b3 h4 => gc (x0 == 3) (J19_1 b1 b3 h4) (J19_2 b1 b3 x0 h4)) := (acall_at rfl Try.func19 _ h 15 rfl (c := C19) rfl).trans (E19_g aloop (fun s => s) x0 h)
end Go.Ab
end
section
/-
  Functions of the program as equations: written by program (wip/tools/prt.py).
-/
namespace Go.Ab
open Go.Proofs
/-! 10: escapement/escapementlaw15.Awake -/
noncomputable def K10 : Kont := kend Try.prog 44 Try.f10.results.toList
theorem E10_g (lp : Loop) (jn : Join)  (h : AHeap) : codeJ Try.prog Nt lp jn 44 (Nt 10) C10 (args []) h K10 = (gr (acall Try.prog Nt 24 [(.int .i64 17), (.int .i64 3), (.iface 71 (.int .i64 10))] h) fun r1 h2 => gr (acall Try.prog Nt 26 [r1] h2) fun r3 h4 => gv (aextract r3 0) fun v5 => gI .u8 v5 fun n6 => gv (aextract r3 1) fun v7 => gB v7 fun b8 => gN h4 [(.int .i64 0), (.int .i64 0), (.int .i64 0), (.int .i64 0), (.int .i64 0), (.int .u8 0), (.int .u8 0), (.int .u8 1), (.int .u8 0)] fun b9 h10 => gr (acall Try.prog Nt 11 [(.int .i64 1), (.sl b9 0 1 9)] h10) fun r11 h12 => gr (acall Try.prog Nt 16 [r11, (.int .u32 4), (.int .i64 0), (.int .u8 2)] h12) fun r13 h14 => gr (acall Try.prog Nt 16 [r11, (.int .u32 5), (.int .i64 0), (.int .u8 2)] h14) fun r15 h16 => gr (acall Try.prog Nt 16 [r11, (.int .u32 6), (.int .i64 0), (.int .u8 2)] h16) fun r17 h18 => gv (aextract r17 0) fun v19 => gI .u8 v19 fun n20 => gv (aextract r17 1) fun v21 => gi (n6 == 3) (gi b8 (gv (abin Try.prog .eql 43 (aeqOk Try.prog 43 (.tmp 31) (.const .nilIface) v21 .niliface) v21 .niliface) fun v22 => gB v22 fun b23 => gi b23 (gi (n20 == 2) (gr (acall Try.prog Nt 14 [r11] h18) fun r24 h25 => gv (alenS r24) fun m26 => some ((.bool ((m26 : Int) == 3)), h25)) (some ((.bool false), h18))) (some ((.bool false), h18))) (some ((.bool false), h18))) (some ((.bool false), h18))) := by kernel_rfl
theorem E10  (h : AHeap) : acall Try.prog Nt 10 [] h = (gr (acall Try.prog Nt 24 [(.int .i64 17), (.int .i64 3), (.iface 71 (.int .i64 10))] h) fun r1 h2 => gr (acall Try.prog Nt 26 [r1] h2) fun r3 h4 => gv (aextract r3 0) fun v5 => gI .u8 v5 fun n6 => gv (aextract r3 1) fun v7 => gB v7 fun b8 => gN h4 [(.int .i64 0), (.int .i64 0), (.int .i64 0), (.int .i64 0), (.int .i64 0), (.int .u8 0), (.int .u8 0), (.int .u8 1), (.int .u8 0)] fun b9 h10 => gr (acall Try.prog Nt 11 [(.int .i64 1), (.sl b9 0 1 9)] h10) fun r11 h12 => gr (acall Try.prog Nt 16 [r11, (.int .u32 4), (.int .i64 0), (.int .u8 2)] h12) fun r13 h14 => gr (acall Try.prog Nt 16 [r11, (.int .u32 5), (.int .i64 0), (.int .u8 2)] h14) fun r15 h16 => gr (acall Try.prog Nt 16 [r11, (.int .u32 6), (.int .i64 0), (.int .u8 2)] h16) fun r17 h18 => gv (aextract r17 0) fun v19 => gI .u8 v19 fun n20 => gv (aextract r17 1) fun v21 => gi (n6 == 3) (gi b8 (gv (abin Try.prog .eql 43 (aeqOk Try.prog 43 (.tmp 31) (.const .nilIface) v21 .niliface) v21 .niliface) fun v22 => gB v22 fun b23 => gi b23 (gi (n20 == 2) (gr (acall Try.prog Nt 14 [r11] h18) fun r24 h25 => gv (alenS r24) fun m26 => some ((.bool ((m26 : Int) == 3)), h25)) (some ((.bool false), h18))) (some ((.bool false), h18))) (some ((.bool false), h18))) (some ((.bool false), h18))) := (acall_at rfl Try.func10 _ h 44 rfl (c := C10) rfl).trans (E10_g aloop (fun s => s)  h)
end Go.Ab
end
section
/-
  Health: New, Of, Awake.
-/
namespace Go.Ab
open Go.Proofs

theorem amkS_1 (by' : Nat) (v : AV) (n : Nat) (h : AHeap) (hb : n * by' ≤ 70368744177664) (hn : n ≤ 70368744177664) : amkS 1 by' [v] (n : Int) (n : Int) h = some (.sl h.length 0 n 1, h ++ [some (.cells false (List.replicate n v))]) := by
  unfold amkS
  rw [if_pos ⟨by omega, by omega, by omega, by omega, rfl, by omega⟩]
  have : (List.replicate n [v]).flatten = List.replicate n v := by
    clear hb hn
    induction n with
    | zero => rfl
    | succ n ih => simp [List.replicate_succ, ih]
  simp only [hnew, Int.toNat_natCast, this]
theorem Own.slb {α : Type} {o sz : Nat} {t : AHeap} {enc : α → List AV} {l : List α} {x : AV} (h : Own o t sz enc l x) (p w : AHeap) (hp : p.length = o) : ∃ F, SlB (p ++ (t ++ w)) sz enc l x F ∧ ∀ y ∈ F, o ≤ y ∧ y < o + t.length := by
  rcases h with ⟨e1, e2⟩ | ⟨b, rest, e, hb, a⟩
  · exact ⟨[], .inl ⟨e1, e2, rfl⟩, by simp⟩
  · have := hget_lt a
    subst hp
    refine ⟨[b], .inr ⟨b, 0, e, rfl, false, _, hget_mid hb a, by rw [Nat.zero_add, List.length_append]; omega, by rw [List.drop_zero, List.take_left]⟩, ?_⟩
    intro y hy
    simp only [List.mem_singleton] at hy
    omega
theorem acells_isc {x : AV} (h : isCell x = true) : acells x = some [x] := by
  cases x <;> simp_all [isCell, acells]
theorem ints_rep (k : IntKind) (n : Nat) : List.replicate n (AV.int k 0) = ints k (List.replicate n 0) := by simp [ints]
def Mon.new (node : Int) (parts : List Part) : Mon := ⟨node, parts, List.replicate parts.length 0, List.replicate parts.length 0, []⟩
theorem Mon.new_ok (node : Int) (parts : List Part) : (Mon.new node parts).ok 0 := ⟨fun x hx => by simp only [Mon.new] at hx; rw [List.eq_of_mem_replicate hx]; omega, fun x hx => by simp only [Mon.new] at hx; rw [List.eq_of_mem_replicate hx]; omega⟩
/-- New. -/
theorem c_newmon (node : Int) (parts : List Part) (x : AV) (h : AHeap) (hx : Sl h 9 Part.cells parts x) (hn : parts.length ≤ 1000000) :
    Ev (acall Try.prog Nt 11 [.int .i64 node, x] h) h fun v h' => ∃ b F, v = .ptr b 0 ∧ MonAt .u32 h' b (Mon.new node parts) F ∧ ∀ y ∈ F, h.length ≤ y := by
  rw [E11]
  have m1 := fun H => amkS_1 4 (.int .u32 0) parts.length H (by omega) (by omega)
  have m2 := fun H => amkS_1 8 (.int .i64 0) parts.length H (by omega) (by omega)
  have sr := fun g => (hx.app g).src Part.len
  simp (dsimp := false) (implicitDefEqProofs := false) (disch := omega) only [gv_some, gr_some, gI_int, gB_bool, gS_str, gc_t, gc_f, gi_t, gi_f, gN_eq, gf_t, Option.bind_some, Option.bind_none, Option.map_some, acells_agg, acells_int, acells_bool, acells_str, acells_ptr, acells_sl, acells_nilsl, acells_nilptr, acells_iface, acells_niliface, aptr_ptr, anil_ptr, aextract_0, aextract_1, aextract_2, alenS_sl, alenS_nil, alenOf_sl, alenOf_nil, apartOf_agg, apart_t, apart_f, astore_ptr, hset_at0, hset_at, hs_same, hs_ne, len_hset, List.set_cons_zero, List.set_cons_succ, set_app, set_app0, aload_ptr, splice_eq, List.drop_nil, List.append_nil, isCell_int, isCell_bool, isCell_str, isCell_ptr, isCell_sl, isCell_nilsl, isCell_nilptr, isCell_iface, isCell_niliface, List.all_cons, List.all_nil, Bool.and_self, hget_at0, hget_at, len_app, List.length_cons, List.length_nil, get_app, get_app0, List.getElem?_cons_zero, List.getElem?_cons_succ, join_some, List.append_assoc, List.cons_append, List.nil_append, Nat.zero_add, Nat.add_zero, Nat.mul_one, chkRd_eq, chkAl_blk, if_true, if_false, Bool.false_eq_true, List.drop_succ_cons, List.drop_zero, List.take_succ_cons, List.take_zero, Bool.and_true, Bool.true_and, decide_true, decide_false, wrap64_id, aixG_eq, Nat.reduceAdd, Nat.reduceSub, Nat.reduceMul, Nat.reduceLeDiff, Nat.reduceLT, Int.reduceAdd, Int.reduceSub, Int.reduceMul, Int.reduceNeg, Int.reduceLT, Int.reduceLE, Int.reduceGT, Int.reduceGE, Int.reduceToNat, ↓reduceIte, and_self, true_and, and_true, hx.len, hx.lenOf, m1, m2, sr]
  obtain ⟨y, t', w, ea, ht, ow⟩ := aapp_own (by' := 48) (p := h) (t := [some (.cells false [])]) (u := [some (.cells false (List.replicate parts.length (.int .u32 0))), some (.cells false (List.replicate parts.length (.int .i64 0)))]) (l := ([] : List Part)) (l2 := parts) Part.len Part.isc (.inr ⟨h.length, [], rfl, Nat.le_refl _, by simp [hget]⟩) rfl (by simp; omega)
  obtain ⟨z, rfl⟩ : ∃ z, t' = [z] := List.length_eq_one_iff.1 (by simpa using ht)
  have iy : isCell y = true := by rcases ow with ⟨_, o⟩ | o <;> exact o.isc
  simp only [List.nil_append, List.cons_append, List.length_cons, List.length_nil, Nat.zero_add] at ea ow
  have ef : afillS [(0, 1), (1, 1), (2, 1), (3, 1), (4, 1)] [.int .i64 0, .nilsl, .nilsl, .nilsl, .nilsl] [(0, .int .i64 node), (1, y), (2, .sl (h.length + 1) 0 parts.length 1), (3, .sl (h.length + 2) 0 parts.length 1)] = some (.agg [.int .i64 node, y, .sl (h.length + 1) 0 parts.length 1, .sl (h.length + 2) 0 parts.length 1, .nilsl]) := by
    have := acells_isc iy
    simp [afillS, afill, this, splice, acells_int, acells_sl]
  simp (dsimp := false) (implicitDefEqProofs := false) (disch := omega) only [gv_some, gr_some, gI_int, gB_bool, gS_str, gc_t, gc_f, gi_t, gi_f, gN_eq, gf_t, Option.bind_some, Option.bind_none, Option.map_some, acells_agg, acells_int, acells_bool, acells_str, acells_ptr, acells_sl, acells_nilsl, acells_nilptr, acells_iface, acells_niliface, aptr_ptr, anil_ptr, aextract_0, aextract_1, aextract_2, alenS_sl, alenS_nil, alenOf_sl, alenOf_nil, apartOf_agg, apart_t, apart_f, astore_ptr, hset_at0, hset_at, hs_same, hs_ne, len_hset, List.set_cons_zero, List.set_cons_succ, set_app, set_app0, aload_ptr, splice_eq, List.drop_nil, List.append_nil, isCell_int, isCell_bool, isCell_str, isCell_ptr, isCell_sl, isCell_nilsl, isCell_nilptr, isCell_iface, isCell_niliface, List.all_cons, List.all_nil, Bool.and_self, hget_at0, hget_at, len_app, List.length_cons, List.length_nil, get_app, get_app0, List.getElem?_cons_zero, List.getElem?_cons_succ, join_some, List.append_assoc, List.cons_append, List.nil_append, Nat.zero_add, Nat.add_zero, Nat.mul_one, chkRd_eq, chkAl_blk, if_true, if_false, Bool.false_eq_true, List.drop_succ_cons, List.drop_zero, List.take_succ_cons, List.take_zero, Bool.and_true, Bool.true_and, decide_true, decide_false, wrap64_id, aixG_eq, Nat.reduceAdd, Nat.reduceSub, Nat.reduceMul, Nat.reduceLeDiff, Nat.reduceLT, Int.reduceAdd, Int.reduceSub, Int.reduceMul, Int.reduceNeg, Int.reduceLT, Int.reduceLE, Int.reduceGT, Int.reduceGE, Int.reduceToNat, ↓reduceIte, and_self, true_and, and_true, ea, ef]
  have pb : ∃ Fp, SlB (h ++ z :: some (.cells false (List.replicate parts.length (.int .u32 0))) :: some (.cells false (List.replicate parts.length (.int .i64 0))) :: (w ++ [some (.cells false [.int .i64 node, y, .sl (h.length + 1) 0 parts.length 1, .sl (h.length + 2) 0 parts.length 1, .nilsl])])) 9 Part.cells parts y Fp ∧ ∀ x ∈ Fp, h.length ≤ x ∧ x ≠ h.length + 1 ∧ x ≠ h.length + 2 ∧ x < h.length + (w.length + 3) := by
    rcases ow with ⟨rfl, o⟩ | o
    · obtain ⟨F, s, hF⟩ := o.slb h (some (.cells false (List.replicate parts.length (.int .u32 0))) :: some (.cells false (List.replicate parts.length (.int .i64 0))) :: ([] ++ [some (.cells false [.int .i64 node, y, .sl (h.length + 1) 0 parts.length 1, .sl (h.length + 2) 0 parts.length 1, .nilsl])])) rfl
      exact ⟨F, by simpa using s, fun x hx => by have := hF x hx; simp at this; omega⟩
    · obtain ⟨F, s, hF⟩ := o.slb (h ++ [z, some (.cells false (List.replicate parts.length (.int .u32 0))), some (.cells false (List.replicate parts.length (.int .i64 0)))]) [some (.cells false [.int .i64 node, y, .sl (h.length + 1) 0 parts.length 1, .sl (h.length + 2) 0 parts.length 1, .nilsl])] (by simp)
      exact ⟨F, by simpa using s, fun x hx => by have := hF x hx; omega⟩
  obtain ⟨Fp, ps, hF⟩ := pb
  refine Ev.done ⟨h.length + (w.length + 3), (h.length + (w.length + 3)) :: (h.length + 1) :: (h.length + 2) :: ([] ++ Fp), rfl, ⟨y, .nilsl, h.length + 1, h.length + 2, Fp, [], ?_, ps, ?_, ?_, .inl ⟨rfl, rfl, rfl⟩, by simp [Mon.new], by simp [Mon.new], by simp [Mon.new], rfl, by omega, by omega, by omega, by simp, by simp, by simp, ?_, ?_, ?_, by simp⟩, ?_⟩
  · rw [hget_at]
    simp [Mon.new]
  · rw [hget_at, Mon.new, ← ints_rep]; rfl
  · rw [hget_at, Mon.new, ← ints_rep]; rfl
  · intro hx; have := hF _ hx; omega
  · intro hx; have := hF _ hx; omega
  · intro hx; have := hF _ hx; omega
  · intro x hx
    simp only [List.nil_append, List.mem_cons] at hx
    rcases hx with rfl | rfl | rfl | hx
    · omega
    · omega
    · omega
    · have := hF x hx; omega

/-- Of. -/
theorem c_of (a : Int) (h : AHeap) : Ev (acall Try.prog Nt 19 [.int .u8 a] h) h fun v _ => v = .agg [.bool (a == 1 || a == 2 || a == 3), .bool (a == 2 || a == 3), .bool (a == 3)] := by
  rw [E19]
  simp (dsimp := false) (implicitDefEqProofs := false) (disch := omega) only [gv_some, gr_some, gI_int, gB_bool, gS_str, gc_t, gc_f, gi_t, gi_f, gN_eq, gf_t, Option.bind_some, Option.bind_none, Option.map_some, acells_agg, acells_int, acells_bool, acells_str, acells_ptr, acells_sl, acells_nilsl, acells_nilptr, acells_iface, acells_niliface, aptr_ptr, anil_ptr, aextract_0, aextract_1, aextract_2, alenS_sl, alenS_nil, alenOf_sl, alenOf_nil, apartOf_agg, apart_t, apart_f, astore_ptr, hset_at0, hset_at, hs_same, hs_ne, len_hset, List.set_cons_zero, List.set_cons_succ, set_app, set_app0, aload_ptr, splice_eq, List.drop_nil, List.append_nil, isCell_int, isCell_bool, isCell_str, isCell_ptr, isCell_sl, isCell_nilsl, isCell_nilptr, isCell_iface, isCell_niliface, List.all_cons, List.all_nil, Bool.and_self, hget_at0, hget_at, len_app, List.length_cons, List.length_nil, get_app, get_app0, List.getElem?_cons_zero, List.getElem?_cons_succ, join_some, List.append_assoc, List.cons_append, List.nil_append, Nat.zero_add, Nat.add_zero, Nat.mul_one, chkRd_eq, chkAl_blk, if_true, if_false, Bool.false_eq_true, List.drop_succ_cons, List.drop_zero, List.take_succ_cons, List.take_zero, Bool.and_true, Bool.true_and, decide_true, decide_false, wrap64_id, aixG_eq, Nat.reduceAdd, Nat.reduceSub, Nat.reduceMul, Nat.reduceLeDiff, Nat.reduceLT, Int.reduceAdd, Int.reduceSub, Int.reduceMul, Int.reduceNeg, Int.reduceLT, Int.reduceLE, Int.reduceGT, Int.reduceGE, Int.reduceToNat, ↓reduceIte, and_self, true_and, and_true]
  refine Ev.cnd (fun c => ?_) fun c => ?_
  · have : a = 3 := by simpa using c
    subst this
    simp (dsimp := false) (implicitDefEqProofs := false) (disch := omega) only [gv_some, gr_some, gI_int, gB_bool, gS_str, gc_t, gc_f, gi_t, gi_f, gN_eq, gf_t, Option.bind_some, Option.bind_none, Option.map_some, acells_agg, acells_int, acells_bool, acells_str, acells_ptr, acells_sl, acells_nilsl, acells_nilptr, acells_iface, acells_niliface, aptr_ptr, anil_ptr, aextract_0, aextract_1, aextract_2, alenS_sl, alenS_nil, alenOf_sl, alenOf_nil, apartOf_agg, apart_t, apart_f, astore_ptr, hset_at0, hset_at, hs_same, hs_ne, len_hset, List.set_cons_zero, List.set_cons_succ, set_app, set_app0, aload_ptr, splice_eq, List.drop_nil, List.append_nil, isCell_int, isCell_bool, isCell_str, isCell_ptr, isCell_sl, isCell_nilsl, isCell_nilptr, isCell_iface, isCell_niliface, List.all_cons, List.all_nil, Bool.and_self, hget_at0, hget_at, len_app, List.length_cons, List.length_nil, get_app, get_app0, List.getElem?_cons_zero, List.getElem?_cons_succ, join_some, List.append_assoc, List.cons_append, List.nil_append, Nat.zero_add, Nat.add_zero, Nat.mul_one, chkRd_eq, chkAl_blk, if_true, if_false, Bool.false_eq_true, List.drop_succ_cons, List.drop_zero, List.take_succ_cons, List.take_zero, Bool.and_true, Bool.true_and, decide_true, decide_false, wrap64_id, aixG_eq, Nat.reduceAdd, Nat.reduceSub, Nat.reduceMul, Nat.reduceLeDiff, Nat.reduceLT, Int.reduceAdd, Int.reduceSub, Int.reduceMul, Int.reduceNeg, Int.reduceLT, Int.reduceLE, Int.reduceGT, Int.reduceGE, Int.reduceToNat, ↓reduceIte, and_self, true_and, and_true, J19_1_eq, J19_3_eq, J19_5_eq, J19_6_eq]
    exact Ev.done rfl
  rw [J19_2_eq]
  refine Ev.cnd (fun c2 => ?_) fun c2 => ?_
  · have : a = 2 := by simpa using c2
    subst this
    simp (dsimp := false) (implicitDefEqProofs := false) (disch := omega) only [gv_some, gr_some, gI_int, gB_bool, gS_str, gc_t, gc_f, gi_t, gi_f, gN_eq, gf_t, Option.bind_some, Option.bind_none, Option.map_some, acells_agg, acells_int, acells_bool, acells_str, acells_ptr, acells_sl, acells_nilsl, acells_nilptr, acells_iface, acells_niliface, aptr_ptr, anil_ptr, aextract_0, aextract_1, aextract_2, alenS_sl, alenS_nil, alenOf_sl, alenOf_nil, apartOf_agg, apart_t, apart_f, astore_ptr, hset_at0, hset_at, hs_same, hs_ne, len_hset, List.set_cons_zero, List.set_cons_succ, set_app, set_app0, aload_ptr, splice_eq, List.drop_nil, List.append_nil, isCell_int, isCell_bool, isCell_str, isCell_ptr, isCell_sl, isCell_nilsl, isCell_nilptr, isCell_iface, isCell_niliface, List.all_cons, List.all_nil, Bool.and_self, hget_at0, hget_at, len_app, List.length_cons, List.length_nil, get_app, get_app0, List.getElem?_cons_zero, List.getElem?_cons_succ, join_some, List.append_assoc, List.cons_append, List.nil_append, Nat.zero_add, Nat.add_zero, Nat.mul_one, chkRd_eq, chkAl_blk, if_true, if_false, Bool.false_eq_true, List.drop_succ_cons, List.drop_zero, List.take_succ_cons, List.take_zero, Bool.and_true, Bool.true_and, decide_true, decide_false, wrap64_id, aixG_eq, Nat.reduceAdd, Nat.reduceSub, Nat.reduceMul, Nat.reduceLeDiff, Nat.reduceLT, Int.reduceAdd, Int.reduceSub, Int.reduceMul, Int.reduceNeg, Int.reduceLT, Int.reduceLE, Int.reduceGT, Int.reduceGE, Int.reduceToNat, ↓reduceIte, and_self, true_and, and_true, J19_1_eq, J19_3_eq, J19_5_eq, J19_6_eq]
    exact Ev.done rfl
  rw [J19_4_eq]
  refine Ev.cnd (fun c3 => ?_) fun c3 => ?_
  · have : a = 1 := by simpa using c3
    subst this
    simp (dsimp := false) (implicitDefEqProofs := false) (disch := omega) only [gv_some, gr_some, gI_int, gB_bool, gS_str, gc_t, gc_f, gi_t, gi_f, gN_eq, gf_t, Option.bind_some, Option.bind_none, Option.map_some, acells_agg, acells_int, acells_bool, acells_str, acells_ptr, acells_sl, acells_nilsl, acells_nilptr, acells_iface, acells_niliface, aptr_ptr, anil_ptr, aextract_0, aextract_1, aextract_2, alenS_sl, alenS_nil, alenOf_sl, alenOf_nil, apartOf_agg, apart_t, apart_f, astore_ptr, hset_at0, hset_at, hs_same, hs_ne, len_hset, List.set_cons_zero, List.set_cons_succ, set_app, set_app0, aload_ptr, splice_eq, List.drop_nil, List.append_nil, isCell_int, isCell_bool, isCell_str, isCell_ptr, isCell_sl, isCell_nilsl, isCell_nilptr, isCell_iface, isCell_niliface, List.all_cons, List.all_nil, Bool.and_self, hget_at0, hget_at, len_app, List.length_cons, List.length_nil, get_app, get_app0, List.getElem?_cons_zero, List.getElem?_cons_succ, join_some, List.append_assoc, List.cons_append, List.nil_append, Nat.zero_add, Nat.add_zero, Nat.mul_one, chkRd_eq, chkAl_blk, if_true, if_false, Bool.false_eq_true, List.drop_succ_cons, List.drop_zero, List.take_succ_cons, List.take_zero, Bool.and_true, Bool.true_and, decide_true, decide_false, wrap64_id, aixG_eq, Nat.reduceAdd, Nat.reduceSub, Nat.reduceMul, Nat.reduceLeDiff, Nat.reduceLT, Int.reduceAdd, Int.reduceSub, Int.reduceMul, Int.reduceNeg, Int.reduceLT, Int.reduceLE, Int.reduceGT, Int.reduceGE, Int.reduceToNat, ↓reduceIte, and_self, true_and, and_true, J19_5_eq, J19_6_eq]
    exact Ev.done rfl
  simp (dsimp := false) (implicitDefEqProofs := false) (disch := omega) only [gv_some, gr_some, gI_int, gB_bool, gS_str, gc_t, gc_f, gi_t, gi_f, gN_eq, gf_t, Option.bind_some, Option.bind_none, Option.map_some, acells_agg, acells_int, acells_bool, acells_str, acells_ptr, acells_sl, acells_nilsl, acells_nilptr, acells_iface, acells_niliface, aptr_ptr, anil_ptr, aextract_0, aextract_1, aextract_2, alenS_sl, alenS_nil, alenOf_sl, alenOf_nil, apartOf_agg, apart_t, apart_f, astore_ptr, hset_at0, hset_at, hs_same, hs_ne, len_hset, List.set_cons_zero, List.set_cons_succ, set_app, set_app0, aload_ptr, splice_eq, List.drop_nil, List.append_nil, isCell_int, isCell_bool, isCell_str, isCell_ptr, isCell_sl, isCell_nilsl, isCell_nilptr, isCell_iface, isCell_niliface, List.all_cons, List.all_nil, Bool.and_self, hget_at0, hget_at, len_app, List.length_cons, List.length_nil, get_app, get_app0, List.getElem?_cons_zero, List.getElem?_cons_succ, join_some, List.append_assoc, List.cons_append, List.nil_append, Nat.zero_add, Nat.add_zero, Nat.mul_one, chkRd_eq, chkAl_blk, if_true, if_false, Bool.false_eq_true, List.drop_succ_cons, List.drop_zero, List.take_succ_cons, List.take_zero, Bool.and_true, Bool.true_and, decide_true, decide_false, wrap64_id, aixG_eq, Nat.reduceAdd, Nat.reduceSub, Nat.reduceMul, Nat.reduceLeDiff, Nat.reduceLT, Int.reduceAdd, Int.reduceSub, Int.reduceMul, Int.reduceNeg, Int.reduceLT, Int.reduceLE, Int.reduceGT, Int.reduceGE, Int.reduceToNat, ↓reduceIte, and_self, true_and, and_true, J19_6_eq]
  exact Ev.done (by simp [aone, c, c2, c3])
theorem num_two : num 2 = [50] := by decide +kernel
/-- Awake. -/
def p2 : Part := ⟨0, 0, 0, 0, 0, 0, 0, 1, 0⟩
theorem c_awake (h : AHeap) : Post (acall Try.prog Nt 10 [] h) fun v h' => v = .bool true ∧ ∃ g, h' = h ++ g := by
  rw [E10]
  refine Post.call (c_wrap 17 3 [(10, none)] (.iface 71 (.int .i64 10)) h ⟨by omega, by omega⟩ (by omega) ⟨by omega, by omega⟩ ⟨rfl, ⟨by omega, by omega⟩, rfl⟩) fun v g1 hv => ?_
  have hv' : ErrV (h ++ g1) [(17, some (place 3)), (10, none)] v := hv
  simp (dsimp := false) (implicitDefEqProofs := false) (disch := omega) only [gv_some, gr_some, gI_int, gB_bool, gS_str, gc_t, gc_f, gi_t, gi_f, gN_eq, gf_t, Option.bind_some, Option.bind_none, Option.map_some, acells_agg, acells_int, acells_bool, acells_str, acells_ptr, acells_sl, acells_nilsl, acells_nilptr, acells_iface, acells_niliface, aptr_ptr, anil_ptr, aextract_0, aextract_1, aextract_2, alenS_sl, alenS_nil, alenOf_sl, alenOf_nil, apartOf_agg, apart_t, apart_f, astore_ptr, hset_at0, hset_at, hs_same, hs_ne, len_hset, List.set_cons_zero, List.set_cons_succ, set_app, set_app0, aload_ptr, splice_eq, List.drop_nil, List.append_nil, isCell_int, isCell_bool, isCell_str, isCell_ptr, isCell_sl, isCell_nilsl, isCell_nilptr, isCell_iface, isCell_niliface, List.all_cons, List.all_nil, Bool.and_self, hget_at0, hget_at, len_app, List.length_cons, List.length_nil, get_app, get_app0, List.getElem?_cons_zero, List.getElem?_cons_succ, join_some, List.append_assoc, List.cons_append, List.nil_append, Nat.zero_add, Nat.add_zero, Nat.mul_one, chkRd_eq, chkAl_blk, if_true, if_false, Bool.false_eq_true, List.drop_succ_cons, List.drop_zero, List.take_succ_cons, List.take_zero, Bool.and_true, Bool.true_and, decide_true, decide_false, wrap64_id, aixG_eq, Nat.reduceAdd, Nat.reduceSub, Nat.reduceMul, Nat.reduceLeDiff, Nat.reduceLT, Int.reduceAdd, Int.reduceSub, Int.reduceMul, Int.reduceNeg, Int.reduceLT, Int.reduceLE, Int.reduceGT, Int.reduceGE, Int.reduceToNat, ↓reduceIte, and_self, true_and, and_true, c_kind _ _ _ hv']
  have e1 : kindOf [(17, some (place 3)), (10, none)] = (3, true) := by decide +kernel
  rw [e1]
  have sp : Sl (h ++ (g1 ++ [some (.cells false p2.cells)])) 9 Part.cells [p2] (.sl (h.length + g1.length) 0 1 9) := .inr ⟨h.length + g1.length, 0, rfl, false, p2.cells, by rw [hget_at, get_app0]; rfl, by simp [Part.cells], by simp [Part.cells]⟩
  refine Post.call (c_newmon 1 [p2] _ _ sp (by simp)) fun v g2 hv => ?_
  obtain ⟨b, F, rfl, hm, hF⟩ := hv
  refine Post.bind (c_report _ b _ F hm 0 (Mon.new_ok _ _) (by omega) 4 (by omega) 0 2 (by omega)) ?_
  intro v h1 q1
  have t1 : (Mon.new 1 [p2]).takes 4 0 2 = true := by decide +kernel
  rw [t1, if_pos rfl] at q1
  obtain ⟨rfl, F1, hm1, f1⟩ := q1
  refine Post.bind (c_report _ b _ F1 hm1 1 (Mon.rep_ok (Mon.new_ok _ _) (by omega) 4 (by omega) (by omega) _ _ (by decide)) (by omega) 5 (by omega) 0 2 (by omega)) ?_
  intro v h2 q2
  have t2 : ((Mon.new 1 [p2]).rep 4 (Int.toNat 0) (Int.toNat 2)).takes 5 0 2 = true := by decide +kernel
  rw [t2, if_pos rfl] at q2
  obtain ⟨rfl, F2, hm2, f2⟩ := q2
  refine Post.bind (c_report _ b _ F2 hm2 2 (Mon.rep_ok (Mon.rep_ok (Mon.new_ok _ _) (by omega) 4 (by omega) (by omega) _ _ (by decide)) (by omega) 5 (by omega) (by omega) _ _ (by decide)) (by omega) 6 (by omega) 0 2 (by omega)) ?_
  intro v h3 q3
  have t3 : (((Mon.new 1 [p2]).rep 4 (Int.toNat 0) (Int.toNat 2)).rep 5 (Int.toNat 0) (Int.toNat 2)).takes 6 0 2 = true := by decide +kernel
  rw [t3, if_pos rfl] at q3
  obtain ⟨rfl, F3, hm3, f3⟩ := q3
  have d3 : (((Mon.new 1 [p2]).rep 4 (Int.toNat 0) (Int.toNat 2)).rep 5 (Int.toNat 0) (Int.toNat 2)).did 6 (Int.toNat 0) (Int.toNat 2) = 2 := by decide +kernel
  rw [d3]
  have k1 : ((3 : Int) == 3) = true := rfl
  have k2 : ((2 : Int) == 2) = true := rfl
  simp (dsimp := false) (implicitDefEqProofs := false) (disch := omega) only [gv_some, gr_some, gI_int, gB_bool, gS_str, gc_t, gc_f, gi_t, gi_f, gN_eq, gf_t, Option.bind_some, Option.bind_none, Option.map_some, acells_agg, acells_int, acells_bool, acells_str, acells_ptr, acells_sl, acells_nilsl, acells_nilptr, acells_iface, acells_niliface, aptr_ptr, anil_ptr, aextract_0, aextract_1, aextract_2, alenS_sl, alenS_nil, alenOf_sl, alenOf_nil, apartOf_agg, apart_t, apart_f, astore_ptr, hset_at0, hset_at, hs_same, hs_ne, len_hset, List.set_cons_zero, List.set_cons_succ, set_app, set_app0, aload_ptr, splice_eq, List.drop_nil, List.append_nil, isCell_int, isCell_bool, isCell_str, isCell_ptr, isCell_sl, isCell_nilsl, isCell_nilptr, isCell_iface, isCell_niliface, List.all_cons, List.all_nil, Bool.and_self, hget_at0, hget_at, len_app, List.length_cons, List.length_nil, get_app, get_app0, List.getElem?_cons_zero, List.getElem?_cons_succ, join_some, List.append_assoc, List.cons_append, List.nil_append, Nat.zero_add, Nat.add_zero, Nat.mul_one, chkRd_eq, chkAl_blk, if_true, if_false, Bool.false_eq_true, List.drop_succ_cons, List.drop_zero, List.take_succ_cons, List.take_zero, Bool.and_true, Bool.true_and, decide_true, decide_false, wrap64_id, aixG_eq, Nat.reduceAdd, Nat.reduceSub, Nat.reduceMul, Nat.reduceLeDiff, Nat.reduceLT, Int.reduceAdd, Int.reduceSub, Int.reduceMul, Int.reduceNeg, Int.reduceLT, Int.reduceLE, Int.reduceGT, Int.reduceGE, Int.reduceToNat, ↓reduceIte, and_self, true_and, and_true, err_eq_nil, k1, k2]
  refine Post.bind (c_seal _ b _ F3 hm3) ?_
  rintro v h4 ⟨Fo, F4, hm4, ho, _, _, f4⟩
  have l4 := ho.slb.sl.len
  have k3 : ((((Mon.new 1 [p2]).rep 4 (Int.toNat 0) (Int.toNat 2)).rep 5 (Int.toNat 0) (Int.toNat 2)).rep 6 (Int.toNat 0) (Int.toNat 2)).out.length = 3 := by decide +kernel
  rw [k3] at l4
  simp (dsimp := false) (implicitDefEqProofs := false) (disch := omega) only [gv_some, gr_some, gI_int, gB_bool, gS_str, gc_t, gc_f, gi_t, gi_f, gN_eq, gf_t, Option.bind_some, Option.bind_none, Option.map_some, acells_agg, acells_int, acells_bool, acells_str, acells_ptr, acells_sl, acells_nilsl, acells_nilptr, acells_iface, acells_niliface, aptr_ptr, anil_ptr, aextract_0, aextract_1, aextract_2, alenS_sl, alenS_nil, alenOf_sl, alenOf_nil, apartOf_agg, apart_t, apart_f, astore_ptr, hset_at0, hset_at, hs_same, hs_ne, len_hset, List.set_cons_zero, List.set_cons_succ, set_app, set_app0, aload_ptr, splice_eq, List.drop_nil, List.append_nil, isCell_int, isCell_bool, isCell_str, isCell_ptr, isCell_sl, isCell_nilsl, isCell_nilptr, isCell_iface, isCell_niliface, List.all_cons, List.all_nil, Bool.and_self, hget_at0, hget_at, len_app, List.length_cons, List.length_nil, get_app, get_app0, List.getElem?_cons_zero, List.getElem?_cons_succ, join_some, List.append_assoc, List.cons_append, List.nil_append, Nat.zero_add, Nat.add_zero, Nat.mul_one, chkRd_eq, chkAl_blk, if_true, if_false, Bool.false_eq_true, List.drop_succ_cons, List.drop_zero, List.take_succ_cons, List.take_zero, Bool.and_true, Bool.true_and, decide_true, decide_false, wrap64_id, aixG_eq, Nat.reduceAdd, Nat.reduceSub, Nat.reduceMul, Nat.reduceLeDiff, Nat.reduceLT, Int.reduceAdd, Int.reduceSub, Int.reduceMul, Int.reduceNeg, Int.reduceLT, Int.reduceLE, Int.reduceGT, Int.reduceGE, Int.reduceToNat, ↓reduceIte, and_self, true_and, and_true, l4]
  refine Post.done ⟨rfl, ?_⟩
  exact (((f1.trans f2).trans f3).trans f4).ext (List.append_assoc _ _ _) (fun x hx => by have := hF x hx; simp at this; omega)
end Go.Ab
end
section
/-
  Functions of the program as equations: written by program (wip/tools/prt.py).
-/
namespace Go.Ab
open Go.Proofs
/-! 7: escapement/escapementlaw15.HealthOf -/
noncomputable def K7 : Kont := kend Try.prog 56 Try.f7.results.toList
noncomputable def J7_1' (lp : Loop) (jn : Join) (x0 : Int) (x1 : Int) (h : AHeap) : Res := jn (codeJ Try.prog Nt lp jn 56 (nat' [true, true] A7) (cat [true, true] C7)) (envOf [(0, (.int .u8 x0)), (1, (.int .u8 x1))]) h K7
noncomputable def J7_1 (x0 : Int) (x1 : Int) (h : AHeap) : Res := J7_1' aloop (fun s => s) x0 x1 h
noncomputable def J7_2' (lp : Loop) (jn : Join) (x0 : Int) (x1 : Int) (h : AHeap) : Res := jn (codeJ Try.prog Nt lp jn 56 (nat' [true, true, true, true] A7) (cat [true, true, true, true] C7)) (envOf [(0, (.int .u8 x0)), (1, (.int .u8 x1))]) h K7
noncomputable def J7_2 (x0 : Int) (x1 : Int) (h : AHeap) : Res := J7_2' aloop (fun s => s) x0 x1 h
theorem J7_1_g (lp : Loop) (jn : Join) (x0 : Int) (x1 : Int) (h : AHeap) : codeJ Try.prog Nt lp jn 56 (nat' [true, true] A7) (cat [true, true] C7) (envOf [(0, (.int .u8 x0)), (1, (.int .u8 x1))]) h K7 = (gc (decide ((x0.tmod 4) > (x1.tmod 4))) (J7_2' lp jn (x1.tmod 4) (x0.tmod 4) h) (J7_2' lp jn (x0.tmod 4) (x1.tmod 4) h)) := by kernel_rfl
theorem J7_1_eq (x0 : Int) (x1 : Int) (h : AHeap) : J7_1 x0 x1 h = (gc (decide ((x0.tmod 4) > (x1.tmod 4))) (J7_2 (x1.tmod 4) (x0.tmod 4) h) (J7_2 (x0.tmod 4) (x1.tmod 4) h)) := J7_1_g aloop (fun s => s) x0 x1 h
theorem J7_2_g (lp : Loop) (jn : Join) (x0 : Int) (x1 : Int) (h : AHeap) : codeJ Try.prog Nt lp jn 56 (nat' [true, true, true, true] A7) (cat [true, true, true, true] C7) (envOf [(0, (.int .u8 x0)), (1, (.int .u8 x1))]) h K7 = (gr (acall Try.prog Nt 19 [(.int .u8 x0)] h) fun r4 h5 => gr (acall Try.prog Nt 19 [(.int .u8 x1)] h5) fun r6 h7 => gN h7 [(.bool false), (.bool false), (.bool false)] fun b8 h9 => gN h9 [(.bool false), (.bool false), (.bool false)] fun b10 h11 => gv (astore true 3 (.ptr b8 0) r4 h11) fun h12 => gv (astore true 3 (.ptr b10 0) r6 h12) fun h13 => gv (aload false 1 (.ptr b8 0) h13) fun v14 => gB v14 fun b15 => gi (!b15) (gv (aload false 1 (.ptr b8 1) h13) fun v16 => gB v16 fun b17 => gi (!b17) (gv (aload false 1 (.ptr b8 2) h13) fun v18 => gB v18 fun b19 => gi (!b19) (gv (aload true 3 (.ptr b8 0) h13) fun v20 => gv (aload true 3 (.ptr b10 0) h13) fun v21 => gv (abin Try.prog .eql 59 (aeqOk Try.prog 59 (.tmp 51) (.tmp 52) v20 v21) v20 v21) fun v22 => gB v22 fun b23 => some ((.bool ((x0 == x1) == b23)), h13)) (gv (aload false 1 (.ptr b10 2) h13) fun v24 => gB v24 fun b25 => gi b25 (gv (aload true 3 (.ptr b8 0) h13) fun v26 => gv (aload true 3 (.ptr b10 0) h13) fun v27 => gv (abin Try.prog .eql 59 (aeqOk Try.prog 59 (.tmp 51) (.tmp 52) v26 v27) v26 v27) fun v28 => gB v28 fun b29 => some ((.bool ((x0 == x1) == b29)), h13)) (some ((.bool false), h13)))) (gv (aload false 1 (.ptr b10 1) h13) fun v30 => gB v30 fun b31 => gi b31 (gv (aload false 1 (.ptr b8 2) h13) fun v32 => gB v32 fun b33 => gi (!b33) (gv (aload true 3 (.ptr b8 0) h13) fun v34 => gv (aload true 3 (.ptr b10 0) h13) fun v35 => gv (abin Try.prog .eql 59 (aeqOk Try.prog 59 (.tmp 51) (.tmp 52) v34 v35) v34 v35) fun v36 => gB v36 fun b37 => some ((.bool ((x0 == x1) == b37)), h13)) (gv (aload false 1 (.ptr b10 2) h13) fun v38 => gB v38 fun b39 => gi b39 (gv (aload true 3 (.ptr b8 0) h13) fun v40 => gv (aload true 3 (.ptr b10 0) h13) fun v41 => gv (abin Try.prog .eql 59 (aeqOk Try.prog 59 (.tmp 51) (.tmp 52) v40 v41) v40 v41) fun v42 => gB v42 fun b43 => some ((.bool ((x0 == x1) == b43)), h13)) (some ((.bool false), h13)))) (some ((.bool false), h13)))) (gv (aload false 1 (.ptr b10 0) h13) fun v44 => gB v44 fun b45 => gi b45 (gv (aload false 1 (.ptr b8 1) h13) fun v46 => gB v46 fun b47 => gi (!b47) (gv (aload false 1 (.ptr b8 2) h13) fun v48 => gB v48 fun b49 => gi (!b49) (gv (aload true 3 (.ptr b8 0) h13) fun v50 => gv (aload true 3 (.ptr b10 0) h13) fun v51 => gv (abin Try.prog .eql 59 (aeqOk Try.prog 59 (.tmp 51) (.tmp 52) v50 v51) v50 v51) fun v52 => gB v52 fun b53 => some ((.bool ((x0 == x1) == b53)), h13)) (gv (aload false 1 (.ptr b10 2) h13) fun v54 => gB v54 fun b55 => gi b55 (gv (aload true 3 (.ptr b8 0) h13) fun v56 => gv (aload true 3 (.ptr b10 0) h13) fun v57 => gv (abin Try.prog .eql 59 (aeqOk Try.prog 59 (.tmp 51) (.tmp 52) v56 v57) v56 v57) fun v58 => gB v58 fun b59 => some ((.bool ((x0 == x1) == b59)), h13)) (some ((.bool false), h13)))) (gv (aload false 1 (.ptr b10 1) h13) fun v60 => gB v60 fun b61 => gi b61 (gv (aload false 1 (.ptr b8 2) h13) fun v62 => gB v62 fun b63 => gi (!b63) (gv (aload true 3 (.ptr b8 0) h13) fun v64 => gv (aload true 3 (.ptr b10 0) h13) fun v65 => gv (abin Try.prog .eql 59 (aeqOk Try.prog 59 (.tmp 51) (.tmp 52) v64 v65) v64 v65) fun v66 => gB v66 fun b67 => some ((.bool ((x0 == x1) == b67)), h13)) (gv (aload false 1 (.ptr b10 2) h13) fun v68 => gB v68 fun b69 => gi b69 (gv (aload true 3 (.ptr b8 0) h13) fun v70 => gv (aload true 3 (.ptr b10 0) h13) fun v71 => gv (abin Try.prog .eql 59 (aeqOk Try.prog 59 (.tmp 51) (.tmp 52) v70 v71) v70 v71) fun v72 => gB v72 fun b73 => some ((.bool ((x0 == x1) == b73)), h13)) (some ((.bool false), h13)))) (some ((.bool false), h13)))) (some ((.bool false), h13)))) := by kernel_rfl
theorem J7_2_eq (x0 : Int) (x1 : Int) (h : AHeap) : J7_2 x0 x1 h = (gr (acall Try.prog Nt 19 [(.int .u8 x0)] h) fun r4 h5 => gr (acall Try.prog Nt 19 [(.int .u8 x1)] h5) fun r6 h7 => gN h7 [(.bool false), (.bool false), (.bool false)] fun b8 h9 => gN h9 [(.bool false), (.bool false), (.bool false)] fun b10 h11 => gv (astore true 3 (.ptr b8 0) r4 h11) fun h12 => gv (astore true 3 (.ptr b10 0) r6 h12) fun h13 => gv (aload false 1 (.ptr b8 0) h13) fun v14 => gB v14 fun b15 => gi (!b15) (gv (aload false 1 (.ptr b8 1) h13) fun v16 => gB v16 fun b17 => gi (!b17) (gv (aload false 1 (.ptr b8 2) h13) fun v18 => gB v18 fun b19 => gi (!b19) (gv (aload true 3 (.ptr b8 0) h13) fun v20 => gv (aload true 3 (.ptr b10 0) h13) fun v21 => gv (abin Try.prog .eql 59 (aeqOk Try.prog 59 (.tmp 51) (.tmp 52) v20 v21) v20 v21) fun v22 => gB v22 fun b23 => some ((.bool ((x0 == x1) == b23)), h13)) (gv (aload false 1 (.ptr b10 2) h13) fun v24 => gB v24 fun b25 => gi b25 (gv (aload true 3 (.ptr b8 0) h13) fun v26 => gv (aload true 3 (.ptr b10 0) h13) fun v27 => gv (abin Try.prog .eql 59 (aeqOk Try.prog 59 (.tmp 51) (.tmp 52) v26 v27) v26 v27) fun v28 => gB v28 fun b29 => some ((.bool ((x0 == x1) == b29)), h13)) (some ((.bool false), h13)))) (gv (aload false 1 (.ptr b10 1) h13) fun v30 => gB v30 fun b31 => gi b31 (gv (aload false 1 (.ptr b8 2) h13) fun v32 => gB v32 fun b33 => gi (!b33) (gv (aload true 3 (.ptr b8 0) h13) fun v34 => gv (aload true 3 (.ptr b10 0) h13) fun v35 => gv (abin Try.prog .eql 59 (aeqOk Try.prog 59 (.tmp 51) (.tmp 52) v34 v35) v34 v35) fun v36 => gB v36 fun b37 => some ((.bool ((x0 == x1) == b37)), h13)) (gv (aload false 1 (.ptr b10 2) h13) fun v38 => gB v38 fun b39 => gi b39 (gv (aload true 3 (.ptr b8 0) h13) fun v40 => gv (aload true 3 (.ptr b10 0) h13) fun v41 => gv (abin Try.prog .eql 59 (aeqOk Try.prog 59 (.tmp 51) (.tmp 52) v40 v41) v40 v41) fun v42 => gB v42 fun b43 => some ((.bool ((x0 == x1) == b43)), h13)) (some ((.bool false), h13)))) (some ((.bool false), h13)))) (gv (aload false 1 (.ptr b10 0) h13) fun v44 => gB v44 fun b45 => gi b45 (gv (aload false 1 (.ptr b8 1) h13) fun v46 => gB v46 fun b47 => gi (!b47) (gv (aload false 1 (.ptr b8 2) h13) fun v48 => gB v48 fun b49 => gi (!b49) (gv (aload true 3 (.ptr b8 0) h13) fun v50 => gv (aload true 3 (.ptr b10 0) h13) fun v51 => gv (abin Try.prog .eql 59 (aeqOk Try.prog 59 (.tmp 51) (.tmp 52) v50 v51) v50 v51) fun v52 => gB v52 fun b53 => some ((.bool ((x0 == x1) == b53)), h13)) (gv (aload false 1 (.ptr b10 2) h13) fun v54 => gB v54 fun b55 => gi b55 (gv (aload true 3 (.ptr b8 0) h13) fun v56 => gv (aload true 3 (.ptr b10 0) h13) fun v57 => gv (abin Try.prog .eql 59 (aeqOk Try.prog 59 (.tmp 51) (.tmp 52) v56 v57) v56 v57) fun v58 => gB v58 fun b59 => some ((.bool ((x0 == x1) == b59)), h13)) (some ((.bool false), h13)))) (gv (aload false 1 (.ptr b10 1) h13) fun v60 => gB v60 fun b61 => gi b61 (gv (aload false 1 (.ptr b8 2) h13) fun v62 => gB v62 fun b63 => gi (!b63) (gv (aload true 3 (.ptr b8 0) h13) fun v64 => gv (aload true 3 (.ptr b10 0) h13) fun v65 => gv (abin Try.prog .eql 59 (aeqOk Try.prog 59 (.tmp 51) (.tmp 52) v64 v65) v64 v65) fun v66 => gB v66 fun b67 => some ((.bool ((x0 == x1) == b67)), h13)) (gv (aload false 1 (.ptr b10 2) h13) fun v68 => gB v68 fun b69 => gi b69 (gv (aload true 3 (.ptr b8 0) h13) fun v70 => gv (aload true 3 (.ptr b10 0) h13) fun v71 => gv (abin Try.prog .eql 59 (aeqOk Try.prog 59 (.tmp 51) (.tmp 52) v70 v71) v70 v71) fun v72 => gB v72 fun b73 => some ((.bool ((x0 == x1) == b73)), h13)) (some ((.bool false), h13)))) (some ((.bool false), h13)))) (some ((.bool false), h13)))) := J7_2_g aloop (fun s => s) x0 x1 h
theorem E7_g (lp : Loop) (jn : Join) (x0 : Int) (x1 : Int) (h : AHeap) : codeJ Try.prog Nt lp jn 56 (Nt 7) C7 (args [(.int .u8 x0), (.int .u8 x1)]) h K7 = (gr (acall Try.prog Nt 10 [] h) fun r1 h2 => gB r1 fun b3 => gc (!b3) (some ((.bool false), h2)) (J7_1' lp jn x0 x1 h2)) := by kernel_rfl
theorem E7 (x0 : Int) (x1 : Int) (h : AHeap) : acall Try.prog Nt 7 [(.int .u8 x0), (.int .u8 x1)] h = (gr (acall Try.prog Nt 10 [] h) fun r1 h2 => gB r1 fun b3 => gc (!b3) (some ((.bool false), h2)) (J7_1 x0 x1 h2)) := (acall_at rfl Try.func7 _ h 56 rfl (c := C7) rfl).trans (E7_g aloop (fun s => s) x0 x1 h)
end Go.Ab
end
section
/-
  HealthOf.
-/
namespace Go.Ab
open Go.Proofs

theorem eqEff (o1 o2 : Operand) (a b c a' b' c' : Bool) : abin Try.prog .eql 59 (aeqOk Try.prog 59 o1 o2 (.agg [.bool a, .bool b, .bool c]) (.agg [.bool a', .bool b', .bool c'])) (.agg [.bool a, .bool b, .bool c]) (.agg [.bool a', .bool b', .bool c']) = some (.bool ((a == a') && ((b == b') && (c == c')))) := by
  cases a <;> cases b <;> cases c <;> cases a' <;> cases b' <;> cases c' <;> kernel_rfl
theorem ofPair (p q : Int) (h : AHeap) (p0 : 0 ≤ p) (pq : p ≤ q) (q3 : q ≤ 3) : Ev (J7_2 p q h) h fun v _ => v = .bool true := by
  rw [J7_2_eq]
  refine Ev.call (c_of p h) fun v g hv => ?_
  subst hv
  refine Ev.call (c_of q _) fun v g2 hv => ?_
  subst hv
  have hp : p = 0 ∨ p = 1 ∨ p = 2 ∨ p = 3 := by omega
  have hq : q = 0 ∨ q = 1 ∨ q = 2 ∨ q = 3 := by omega
  rcases hp with rfl | rfl | rfl | rfl <;> rcases hq with rfl | rfl | rfl | rfl <;> first | omega | (simp (dsimp := false) (implicitDefEqProofs := false) (disch := omega) only [gv_some, gr_some, gI_int, gB_bool, gS_str, gc_t, gc_f, gi_t, gi_f, gN_eq, gf_t, Option.bind_some, Option.bind_none, Option.map_some, acells_agg, acells_int, acells_bool, acells_str, acells_ptr, acells_sl, acells_nilsl, acells_nilptr, acells_iface, acells_niliface, aptr_ptr, anil_ptr, aextract_0, aextract_1, aextract_2, alenS_sl, alenS_nil, alenOf_sl, alenOf_nil, apartOf_agg, apart_t, apart_f, astore_ptr, hset_at0, hset_at, hs_same, hs_ne, len_hset, List.set_cons_zero, List.set_cons_succ, set_app, set_app0, aload_ptr, splice_eq, List.drop_nil, List.append_nil, isCell_int, isCell_bool, isCell_str, isCell_ptr, isCell_sl, isCell_nilsl, isCell_nilptr, isCell_iface, isCell_niliface, List.all_cons, List.all_nil, Bool.and_self, hget_at0, hget_at, len_app, List.length_cons, List.length_nil, get_app, get_app0, List.getElem?_cons_zero, List.getElem?_cons_succ, join_some, List.append_assoc, List.cons_append, List.nil_append, Nat.zero_add, Nat.add_zero, Nat.mul_one, chkRd_eq, chkAl_blk, if_true, if_false, Bool.false_eq_true, List.drop_succ_cons, List.drop_zero, List.take_succ_cons, List.take_zero, Bool.and_true, Bool.true_and, decide_true, decide_false, wrap64_id, aixG_eq, Nat.reduceAdd, Nat.reduceSub, Nat.reduceMul, Nat.reduceLeDiff, Nat.reduceLT, Int.reduceAdd, Int.reduceSub, Int.reduceMul, Int.reduceNeg, Int.reduceLT, Int.reduceLE, Int.reduceGT, Int.reduceGE, Int.reduceToNat, ↓reduceIte, and_self, true_and, and_true, eqEff, Int.reduceBEq, Bool.or_false, Bool.false_or, Bool.or_true, Bool.true_or, Bool.not_true, Bool.not_false, beq_self_eq_true]; exact Ev.done rfl)
theorem argvU8 {h : AHeap} {f : Nat} {x : AV} (q : ArgV Try.prog h (f + 1) 5 x) : ∃ n, x = .int .u8 n ∧ 0 ≤ n ∧ n ≤ 255 := by
  unfold ArgV at q
  have hu : (Try.prog).underlying 5 = some (.int .u8) := by kernel_rfl
  rw [hu] at q
  obtain ⟨n, e, w⟩ := q.int hu
  cases e
  exact ⟨n, rfl, wfu8 w⟩
theorem healthOf : LawTrue Try.prog Nt 9 7 [5, 5] := by
  rintro h xs ⟨x, r, rfl, hx, x2, r2, rfl, hx2, hr⟩
  cases hr
  obtain ⟨a, rfl, a0, a1⟩ := argvU8 (f := 8) hx
  obtain ⟨b, rfl, b0, b1⟩ := argvU8 (f := 8) hx2
  have main : Post (acall Try.prog Nt 7 [.int .u8 a, .int .u8 b] h) fun v _ => v = .bool true := by
    rw [E7]
    refine Post.bind (c_awake h) ?_
    rintro v h1 ⟨rfl, g, rfl⟩
    have ma := Int.emod_nonneg a (show (4 : Int) ≠ 0 by omega)
    have mb := Int.emod_nonneg b (show (4 : Int) ≠ 0 by omega)
    have la := Int.emod_lt_of_pos a (show (0 : Int) < 4 by omega)
    have lb := Int.emod_lt_of_pos b (show (0 : Int) < 4 by omega)
    have ta := Int.tmod_eq_emod_of_nonneg (b := 4) a0
    have tb := Int.tmod_eq_emod_of_nonneg (b := 4) b0
    simp (dsimp := false) (implicitDefEqProofs := false) (disch := omega) only [gv_some, gr_some, gI_int, gB_bool, gS_str, gc_t, gc_f, gi_t, gi_f, gN_eq, gf_t, Option.bind_some, Option.bind_none, Option.map_some, acells_agg, acells_int, acells_bool, acells_str, acells_ptr, acells_sl, acells_nilsl, acells_nilptr, acells_iface, acells_niliface, aptr_ptr, anil_ptr, aextract_0, aextract_1, aextract_2, alenS_sl, alenS_nil, alenOf_sl, alenOf_nil, apartOf_agg, apart_t, apart_f, astore_ptr, hset_at0, hset_at, hs_same, hs_ne, len_hset, List.set_cons_zero, List.set_cons_succ, set_app, set_app0, aload_ptr, splice_eq, List.drop_nil, List.append_nil, isCell_int, isCell_bool, isCell_str, isCell_ptr, isCell_sl, isCell_nilsl, isCell_nilptr, isCell_iface, isCell_niliface, List.all_cons, List.all_nil, Bool.and_self, hget_at0, hget_at, len_app, List.length_cons, List.length_nil, get_app, get_app0, List.getElem?_cons_zero, List.getElem?_cons_succ, join_some, List.append_assoc, List.cons_append, List.nil_append, Nat.zero_add, Nat.add_zero, Nat.mul_one, chkRd_eq, chkAl_blk, if_true, if_false, Bool.false_eq_true, List.drop_succ_cons, List.drop_zero, List.take_succ_cons, List.take_zero, Bool.and_true, Bool.true_and, decide_true, decide_false, wrap64_id, aixG_eq, Nat.reduceAdd, Nat.reduceSub, Nat.reduceMul, Nat.reduceLeDiff, Nat.reduceLT, Int.reduceAdd, Int.reduceSub, Int.reduceMul, Int.reduceNeg, Int.reduceLT, Int.reduceLE, Int.reduceGT, Int.reduceGE, Int.reduceToNat, ↓reduceIte, and_self, true_and, and_true, Bool.not_true, J7_1_eq]
    refine Post.cdd (fun c => (ofPair _ _ _ (by omega) (by omega) (by omega)).post) fun c => (ofPair _ _ _ (by omega) (by omega) (by omega)).post
  obtain ⟨v, g, e, rfl⟩ := main
  exact ⟨_, e⟩
end Go.Ab
end
section
/-
  Functions of the program as equations: written by program (wip/tools/prt.py).
-/
namespace Go.Ab
open Go.Proofs
/-! 4: escapement/escapementlaw15.HealthRow -/
noncomputable def K4 : Kont := kend Try.prog 74 Try.f4.results.toList
noncomputable def K4_1 (lp : Loop) (jn : Join) : Kont := kseqJ jn (codeJ Try.prog Nt lp jn 74 (nat' [true, true, true, true, true, true] A4) (cat [true, true, true, true, true, true] C4)) (some []) K4
noncomputable def K4_2 (lp : Loop) (jn : Join) : Kont := kblock 0 none (K4_1 lp jn)
noncomputable def K4_3 (lp : Loop) (jn : Join) : Kont := kloop (lp (some [1, 5, 6, 7, 8]) (codeJ Try.prog Nt lp jn 74 (nat' [true, true, true, true, true, false, true, false, false] A4) (cat [true, true, true, true, true, false, true, false, false] C4))) (some [1, 5, 6, 7, 8]) (K4_2 lp jn)
noncomputable def K4_4 (lp : Loop) (jn : Join) : Kont := kseqJ jn (codeJ Try.prog Nt lp jn 74 (nat' [true, true, true, true, true, false, true, false, false, true] A4) (cat [true, true, true, true, true, false, true, false, false, true] C4)) (some [1, 5, 6, 7, 8]) (K4_3 lp jn)
noncomputable def K4_5 (lp : Loop) (jn : Join) : Kont := kseqJ jn (codeJ Try.prog Nt lp jn 74 (nat' [true, true, true, true, true, false, true, false, false, true, true] A4) (cat [true, true, true, true, true, false, true, false, false, true, true] C4)) (some [1, 5, 6, 7, 8]) (K4_3 lp jn)
noncomputable def K4_6 (lp : Loop) (jn : Join) : Kont := kblock 1 none (K4_5 lp jn)
noncomputable def K4_7 (lp : Loop) (jn : Join) : Kont := kseqJ jn (codeJ Try.prog Nt lp jn 74 (nat' [true, true, true, true, true, false, true, false, false, true, false, false, true, true] A4) (cat [true, true, true, true, true, false, true, false, false, true, false, false, true, true] C4)) (some [1, 5, 6, 7, 8, 9]) (K4_6 lp jn)
noncomputable def J4_1' (lp : Loop) (jn : Join) (x0 : Int) (x1 : AV) (h : AHeap) : Res := jn (codeJ Try.prog Nt lp jn 74 (nat' [true, true] A4) (cat [true, true] C4)) (envOf [(0, (.int .u32 x0)), (1, x1)]) h K4
noncomputable def J4_1 (x0 : Int) (x1 : AV) (h : AHeap) : Res := J4_1' aloop (fun s => s) x0 x1 h
noncomputable def J4_2' (lp : Loop) (jn : Join) (x1 : AV) (x5 : AV) (x6 : Int) (x7 : Int) (x8 : Int) (h : AHeap) : Res := lp (some [1, 5, 6, 7, 8]) (codeJ Try.prog Nt lp jn 74 (nat' [true, true, true, true, true, false, true, false, false] A4) (cat [true, true, true, true, true, false, true, false, false] C4)) (envOf [(1, x1), (5, x5), (6, (.int .u32 x6)), (7, (.int .i64 x7)), (8, (.int .i64 x8))]) h (K4_2 lp jn)
noncomputable def J4_2 (x1 : AV) (x5 : AV) (x6 : Int) (x7 : Int) (x8 : Int) (h : AHeap) : Res := J4_2' aloop (fun s => s) x1 x5 x6 x7 x8 h
noncomputable def J4_3' (lp : Loop) (jn : Join) (x1 : AV) (x5 : AV) (x6 : Int) (x7 : Int) (x8 : Int) (x28 : Bool) (h : AHeap) : Res := jn (codeJ Try.prog Nt lp jn 74 (nat' [true, true, true, true, true, false, true, false, false, false, true] A4) (cat [true, true, true, true, true, false, true, false, false, false, true] C4)) (envOf [(1, x1), (5, x5), (6, (.int .u32 x6)), (7, (.int .i64 x7)), (8, (.int .i64 x8)), (28, (.bool x28))]) h (K4_4 lp jn)
noncomputable def J4_3 (x1 : AV) (x5 : AV) (x6 : Int) (x7 : Int) (x8 : Int) (x28 : Bool) (h : AHeap) : Res := J4_3' aloop (fun s => s) x1 x5 x6 x7 x8 x28 h
noncomputable def J4_4' (lp : Loop) (jn : Join) (x1 : AV) (x5 : AV) (x6 : Int) (x7 : Int) (x8 : Int) (h : AHeap) : Res := jn (codeJ Try.prog Nt lp jn 74 (nat' [true, true, true, true, true, false, true, false, false, true] A4) (cat [true, true, true, true, true, false, true, false, false, true] C4)) (envOf [(1, x1), (5, x5), (6, (.int .u32 x6)), (7, (.int .i64 x7)), (8, (.int .i64 x8))]) h (K4_3 lp jn)
noncomputable def J4_4 (x1 : AV) (x5 : AV) (x6 : Int) (x7 : Int) (x8 : Int) (h : AHeap) : Res := J4_4' aloop (fun s => s) x1 x5 x6 x7 x8 h
noncomputable def J4_5' (lp : Loop) (jn : Join)  (h : AHeap) : Res := jn (codeJ Try.prog Nt lp jn 74 (nat' [true, true, true, true, true, true] A4) (cat [true, true, true, true, true, true] C4)) (envOf []) h K4
noncomputable def J4_5  (h : AHeap) : Res := J4_5' aloop (fun s => s)  h
noncomputable def J4_6' (lp : Loop) (jn : Join) (x1 : AV) (x5 : AV) (x6 : Int) (x7 : Int) (x8 : Int) (x9 : Int) (x43 : Bool) (h : AHeap) : Res := jn (codeJ Try.prog Nt lp jn 74 (nat' [true, true, true, true, true, false, true, false, false, true, false, false, true, false, true] A4) (cat [true, true, true, true, true, false, true, false, false, true, false, false, true, false, true] C4)) (envOf [(1, x1), (5, x5), (6, (.int .u32 x6)), (7, (.int .i64 x7)), (8, (.int .i64 x8)), (9, (.int .u32 x9)), (43, (.bool x43))]) h (K4_7 lp jn)
noncomputable def J4_6 (x1 : AV) (x5 : AV) (x6 : Int) (x7 : Int) (x8 : Int) (x9 : Int) (x43 : Bool) (h : AHeap) : Res := J4_6' aloop (fun s => s) x1 x5 x6 x7 x8 x9 x43 h
noncomputable def J4_7' (lp : Loop) (jn : Join) (x1 : AV) (x5 : AV) (x6 : Int) (x7 : Int) (x8 : Int) (x9 : Int) (h : AHeap) : Res := jn (codeJ Try.prog Nt lp jn 74 (nat' [true, true, true, true, true, false, true, false, false, true, false, false, true, true] A4) (cat [true, true, true, true, true, false, true, false, false, true, false, false, true, true] C4)) (envOf [(1, x1), (5, x5), (6, (.int .u32 x6)), (7, (.int .i64 x7)), (8, (.int .i64 x8)), (9, (.int .u32 x9))]) h (K4_6 lp jn)
noncomputable def J4_7 (x1 : AV) (x5 : AV) (x6 : Int) (x7 : Int) (x8 : Int) (x9 : Int) (h : AHeap) : Res := J4_7' aloop (fun s => s) x1 x5 x6 x7 x8 x9 h
noncomputable def J4_8' (lp : Loop) (jn : Join) (x1 : AV) (x5 : AV) (x6 : Int) (x7 : Int) (x8 : Int) (h : AHeap) : Res := jn (codeJ Try.prog Nt lp jn 74 (nat' [true, true, true, true, true, false, true, false, false, true, false, false, true, true, true] A4) (cat [true, true, true, true, true, false, true, false, false, true, false, false, true, true, true] C4)) (envOf [(1, x1), (5, x5), (6, (.int .u32 x6)), (7, (.int .i64 x7)), (8, (.int .i64 x8))]) h (K4_6 lp jn)
noncomputable def J4_8 (x1 : AV) (x5 : AV) (x6 : Int) (x7 : Int) (x8 : Int) (h : AHeap) : Res := J4_8' aloop (fun s => s) x1 x5 x6 x7 x8 h
noncomputable def J4_9' (lp : Loop) (jn : Join) (x1 : AV) (x5 : AV) (x6 : Int) (x7 : Int) (x8 : Int) (x73 : Bool) (h : AHeap) : Res := jn (codeJ Try.prog Nt lp jn 74 (nat' [true, true, true, true, true, false, true, false, false, true, false, false, true, true, true, true, true, true] A4) (cat [true, true, true, true, true, false, true, false, false, true, false, false, true, true, true, true, true, true] C4)) (envOf [(1, x1), (5, x5), (6, (.int .u32 x6)), (7, (.int .i64 x7)), (8, (.int .i64 x8)), (73, (.bool x73))]) h (K4_6 lp jn)
noncomputable def J4_9 (x1 : AV) (x5 : AV) (x6 : Int) (x7 : Int) (x8 : Int) (x73 : Bool) (h : AHeap) : Res := J4_9' aloop (fun s => s) x1 x5 x6 x7 x8 x73 h
noncomputable def J4_10' (lp : Loop) (jn : Join) (x1 : AV) (x5 : AV) (x6 : Int) (x7 : Int) (x8 : Int) (h : AHeap) : Res := jn (codeJ Try.prog Nt lp jn 74 (nat' [true, true, true, true, true, false, true, false, false, true, true] A4) (cat [true, true, true, true, true, false, true, false, false, true, true] C4)) (envOf [(1, x1), (5, x5), (6, (.int .u32 x6)), (7, (.int .i64 x7)), (8, (.int .i64 x8))]) h (K4_3 lp jn)
noncomputable def J4_10 (x1 : AV) (x5 : AV) (x6 : Int) (x7 : Int) (x8 : Int) (h : AHeap) : Res := J4_10' aloop (fun s => s) x1 x5 x6 x7 x8 h
theorem J4_1_g (lp : Loop) (jn : Join) (x0 : Int) (x1 : AV) (h : AHeap) : codeJ Try.prog Nt lp jn 74 (nat' [true, true] A4) (cat [true, true] C4) (envOf [(0, (.int .u32 x0)), (1, x1)]) h K4 = (gN h [(.int .i64 0), (.int .i64 0), (.int .i64 0), (.int .i64 0), (.int .i64 0), (.int .u8 0), (.int .u8 0), (.int .u8 1), (.int .u8 0)] fun b4 h5 => gr (acall Try.prog Nt 11 [(.int .i64 0), (.sl b4 0 1 9)] h5) fun r6 h7 => J4_2' lp jn x1 r6 (x0.tmod 1000) 0 0 h7) := by kernel_rfl
theorem J4_1_eq (x0 : Int) (x1 : AV) (h : AHeap) : J4_1 x0 x1 h = (gN h [(.int .i64 0), (.int .i64 0), (.int .i64 0), (.int .i64 0), (.int .i64 0), (.int .u8 0), (.int .u8 0), (.int .u8 1), (.int .u8 0)] fun b4 h5 => gr (acall Try.prog Nt 11 [(.int .i64 0), (.sl b4 0 1 9)] h5) fun r6 h7 => J4_2 x1 r6 (x0.tmod 1000) 0 0 h7) := J4_1_g aloop (fun s => s) x0 x1 h
theorem J4_2_g (lp : Loop) (jn : Join) (x1 : AV) (x5 : AV) (x6 : Int) (x7 : Int) (x8 : Int) (h : AHeap) : codeJ Try.prog Nt lp jn 74 (nat' [true, true, true, true, true, false, true, false, false] A4) (cat [true, true, true, true, true, false, true, false, false] C4) (envOf [(1, x1), (5, x5), (6, (.int .u32 x6)), (7, (.int .i64 x7)), (8, (.int .i64 x8))]) h (kloop (lp (some [1, 5, 6, 7, 8]) (codeJ Try.prog Nt lp jn 74 (nat' [true, true, true, true, true, false, true, false, false] A4) (cat [true, true, true, true, true, false, true, false, false] C4))) (some [1, 5, 6, 7, 8]) (K4_2 lp jn)) = (gv (alenS x1) fun m8 => gi (decide (x8 < (m8 : Int))) (J4_3' lp jn x1 x5 x6 x7 x8 (decide (x8 < 60)) h) (J4_3' lp jn x1 x5 x6 x7 x8 false h)) := by kernel_rfl
theorem J4_2_eq (x1 : AV) (x5 : AV) (x6 : Int) (x7 : Int) (x8 : Int) (h : AHeap) : J4_2 x1 x5 x6 x7 x8 h = (gv (alenS x1) fun m8 => gi (decide (x8 < (m8 : Int))) (J4_3 x1 x5 x6 x7 x8 (decide (x8 < 60)) h) (J4_3 x1 x5 x6 x7 x8 false h)) := (aloop_at (some [1, 5, 6, 7, 8]) (nat' [true, true, true, true, true, false, true, false, false] A4) (cat [true, true, true, true, true, false, true, false, false] C4) (envOf [(1, x1), (5, x5), (6, (.int .u32 x6)), (7, (.int .i64 x7)), (8, (.int .i64 x8))]) h (K4_2 aloop (fun s => s))).trans (J4_2_g aloop (fun s => s) x1 x5 x6 x7 x8 h)
theorem J4_3_g (lp : Loop) (jn : Join) (x1 : AV) (x5 : AV) (x6 : Int) (x7 : Int) (x8 : Int) (x28 : Bool) (h : AHeap) : codeJ Try.prog Nt lp jn 74 (nat' [true, true, true, true, true, false, true, false, false, false, true] A4) (cat [true, true, true, true, true, false, true, false, false, false, true] C4) (envOf [(1, x1), (5, x5), (6, (.int .u32 x6)), (7, (.int .i64 x7)), (8, (.int .i64 x8)), (28, (.bool x28))]) h (K4_4 lp jn) = (gc x28 (J4_4' lp jn x1 x5 x6 x7 x8 h) (J4_5' lp jn h)) := by kernel_rfl
theorem J4_3_eq (x1 : AV) (x5 : AV) (x6 : Int) (x7 : Int) (x8 : Int) (x28 : Bool) (h : AHeap) : J4_3 x1 x5 x6 x7 x8 x28 h = (gc x28 (J4_4 x1 x5 x6 x7 x8 h) (J4_5 h)) := J4_3_g aloop (fun s => s) x1 x5 x6 x7 x8 x28 h
theorem J4_4_g (lp : Loop) (jn : Join) (x1 : AV) (x5 : AV) (x6 : Int) (x7 : Int) (x8 : Int) (h : AHeap) : codeJ Try.prog Nt lp jn 74 (nat' [true, true, true, true, true, false, true, false, false, true] A4) (cat [true, true, true, true, true, false, true, false, false, true] C4) (envOf [(1, x1), (5, x5), (6, (.int .u32 x6)), (7, (.int .i64 x7)), (8, (.int .i64 x8))]) h (K4_3 lp jn) = (gv (aixS 1 x1 x8) fun v9 => gv (aload false 1 v9 h) fun v10 => gI .i64 v10 fun n11 => gi (x8 == 0) (J4_6' lp jn x1 x5 x6 x7 x8 (IntKind.u32.wrap ((IntKind.u64.wrap n11).tmod 3)) true h) (J4_6' lp jn x1 x5 x6 x7 x8 (IntKind.u32.wrap ((IntKind.u64.wrap n11).tmod 3)) ((IntKind.u32.wrap ((IntKind.u64.wrap n11).tmod 3)) == 2) h)) := by kernel_rfl
theorem J4_4_eq (x1 : AV) (x5 : AV) (x6 : Int) (x7 : Int) (x8 : Int) (h : AHeap) : J4_4 x1 x5 x6 x7 x8 h = (gv (aixS 1 x1 x8) fun v9 => gv (aload false 1 v9 h) fun v10 => gI .i64 v10 fun n11 => gi (x8 == 0) (J4_6 x1 x5 x6 x7 x8 (IntKind.u32.wrap ((IntKind.u64.wrap n11).tmod 3)) true h) (J4_6 x1 x5 x6 x7 x8 (IntKind.u32.wrap ((IntKind.u64.wrap n11).tmod 3)) ((IntKind.u32.wrap ((IntKind.u64.wrap n11).tmod 3)) == 2) h)) := J4_4_g aloop (fun s => s) x1 x5 x6 x7 x8 h
theorem J4_5_g (lp : Loop) (jn : Join)  (h : AHeap) : codeJ Try.prog Nt lp jn 74 (nat' [true, true, true, true, true, true] A4) (cat [true, true, true, true, true, true] C4) (envOf []) h K4 = (some ((.bool true), h)) := by kernel_rfl
theorem J4_5_eq  (h : AHeap) : J4_5  h = (some ((.bool true), h)) := J4_5_g aloop (fun s => s)  h
theorem J4_6_g (lp : Loop) (jn : Join) (x1 : AV) (x5 : AV) (x6 : Int) (x7 : Int) (x8 : Int) (x9 : Int) (x43 : Bool) (h : AHeap) : codeJ Try.prog Nt lp jn 74 (nat' [true, true, true, true, true, false, true, false, false, true, false, false, true, false, true] A4) (cat [true, true, true, true, true, false, true, false, false, true, false, false, true, false, true] C4) (envOf [(1, x1), (5, x5), (6, (.int .u32 x6)), (7, (.int .i64 x7)), (8, (.int .i64 x8)), (9, (.int .u32 x9)), (43, (.bool x43))]) h (K4_7 lp jn) = (gc x43 (J4_7' lp jn x1 x5 x6 0 x8 x9 h) (J4_7' lp jn x1 x5 x6 x7 x8 x9 h)) := by kernel_rfl
theorem J4_6_eq (x1 : AV) (x5 : AV) (x6 : Int) (x7 : Int) (x8 : Int) (x9 : Int) (x43 : Bool) (h : AHeap) : J4_6 x1 x5 x6 x7 x8 x9 x43 h = (gc x43 (J4_7 x1 x5 x6 0 x8 x9 h) (J4_7 x1 x5 x6 x7 x8 x9 h)) := J4_6_g aloop (fun s => s) x1 x5 x6 x7 x8 x9 x43 h
theorem J4_7_g (lp : Loop) (jn : Join) (x1 : AV) (x5 : AV) (x6 : Int) (x7 : Int) (x8 : Int) (x9 : Int) (h : AHeap) : codeJ Try.prog Nt lp jn 74 (nat' [true, true, true, true, true, false, true, false, false, true, false, false, true, true] A4) (cat [true, true, true, true, true, false, true, false, false, true, false, false, true, true] C4) (envOf [(1, x1), (5, x5), (6, (.int .u32 x6)), (7, (.int .i64 x7)), (8, (.int .i64 x8)), (9, (.int .u32 x9))]) h (K4_6 lp jn) = (gc (decide (x8 > 0)) (J4_8' lp jn x1 x5 (IntKind.u32.wrap (x6 + x9)) x7 x8 h) (J4_8' lp jn x1 x5 x6 x7 x8 h)) := by kernel_rfl
theorem J4_7_eq (x1 : AV) (x5 : AV) (x6 : Int) (x7 : Int) (x8 : Int) (x9 : Int) (h : AHeap) : J4_7 x1 x5 x6 x7 x8 x9 h = (gc (decide (x8 > 0)) (J4_8 x1 x5 (IntKind.u32.wrap (x6 + x9)) x7 x8 h) (J4_8 x1 x5 x6 x7 x8 h)) := J4_7_g aloop (fun s => s) x1 x5 x6 x7 x8 x9 h
theorem J4_8_g (lp : Loop) (jn : Join) (x1 : AV) (x5 : AV) (x6 : Int) (x7 : Int) (x8 : Int) (h : AHeap) : codeJ Try.prog Nt lp jn 74 (nat' [true, true, true, true, true, false, true, false, false, true, false, false, true, true, true] A4) (cat [true, true, true, true, true, false, true, false, false, true, false, false, true, true, true] C4) (envOf [(1, x1), (5, x5), (6, (.int .u32 x6)), (7, (.int .i64 x7)), (8, (.int .i64 x8))]) h (K4_6 lp jn) = (gr (acall Try.prog Nt 16 [x5, (.int .u32 x6), (.int .i64 0), (.int .u8 2)] h) fun r12 h13 => gv (aextract r12 0) fun v14 => gI .u8 v14 fun n15 => gv (aextract r12 1) fun v16 => gv (abin Try.prog .neq 43 (aeqOk Try.prog 43 (.tmp 57) (.const .nilIface) v16 .niliface) v16 .niliface) fun v17 => gB v17 fun b18 => gi b18 (J4_9' lp jn x1 x5 x6 (IntKind.i64.wrap (x7 + 1)) x8 true h13) (gi (!((n15 == 2) == (decide ((IntKind.i64.wrap (x7 + 1)) ≥ 3)))) (J4_9' lp jn x1 x5 x6 (IntKind.i64.wrap (x7 + 1)) x8 true h13) (gi (n15 != 2) (J4_9' lp jn x1 x5 x6 (IntKind.i64.wrap (x7 + 1)) x8 (n15 != 1) h13) (J4_9' lp jn x1 x5 x6 (IntKind.i64.wrap (x7 + 1)) x8 false h13)))) := by kernel_rfl
theorem J4_8_eq (x1 : AV) (x5 : AV) (x6 : Int) (x7 : Int) (x8 : Int) (h : AHeap) : J4_8 x1 x5 x6 x7 x8 h = (gr (acall Try.prog Nt 16 [x5, (.int .u32 x6), (.int .i64 0), (.int .u8 2)] h) fun r12 h13 => gv (aextract r12 0) fun v14 => gI .u8 v14 fun n15 => gv (aextract r12 1) fun v16 => gv (abin Try.prog .neq 43 (aeqOk Try.prog 43 (.tmp 57) (.const .nilIface) v16 .niliface) v16 .niliface) fun v17 => gB v17 fun b18 => gi b18 (J4_9 x1 x5 x6 (IntKind.i64.wrap (x7 + 1)) x8 true h13) (gi (!((n15 == 2) == (decide ((IntKind.i64.wrap (x7 + 1)) ≥ 3)))) (J4_9 x1 x5 x6 (IntKind.i64.wrap (x7 + 1)) x8 true h13) (gi (n15 != 2) (J4_9 x1 x5 x6 (IntKind.i64.wrap (x7 + 1)) x8 (n15 != 1) h13) (J4_9 x1 x5 x6 (IntKind.i64.wrap (x7 + 1)) x8 false h13)))) := J4_8_g aloop (fun s => s) x1 x5 x6 x7 x8 h
theorem J4_9_g (lp : Loop) (jn : Join) (x1 : AV) (x5 : AV) (x6 : Int) (x7 : Int) (x8 : Int) (x73 : Bool) (h : AHeap) : codeJ Try.prog Nt lp jn 74 (nat' [true, true, true, true, true, false, true, false, false, true, false, false, true, true, true, true, true, true] A4) (cat [true, true, true, true, true, false, true, false, false, true, false, false, true, true, true, true, true, true] C4) (envOf [(1, x1), (5, x5), (6, (.int .u32 x6)), (7, (.int .i64 x7)), (8, (.int .i64 x8)), (73, (.bool x73))]) h (K4_6 lp jn) = (gc x73 (some ((.bool false), h)) (J4_10' lp jn x1 x5 x6 x7 x8 h)) := by kernel_rfl
theorem J4_9_eq (x1 : AV) (x5 : AV) (x6 : Int) (x7 : Int) (x8 : Int) (x73 : Bool) (h : AHeap) : J4_9 x1 x5 x6 x7 x8 x73 h = (gc x73 (some ((.bool false), h)) (J4_10 x1 x5 x6 x7 x8 h)) := J4_9_g aloop (fun s => s) x1 x5 x6 x7 x8 x73 h
theorem J4_10_g (lp : Loop) (jn : Join) (x1 : AV) (x5 : AV) (x6 : Int) (x7 : Int) (x8 : Int) (h : AHeap) : codeJ Try.prog Nt lp jn 74 (nat' [true, true, true, true, true, false, true, false, false, true, true] A4) (cat [true, true, true, true, true, false, true, false, false, true, true] C4) (envOf [(1, x1), (5, x5), (6, (.int .u32 x6)), (7, (.int .i64 x7)), (8, (.int .i64 x8))]) h (K4_3 lp jn) = (J4_2' lp jn x1 x5 x6 x7 (IntKind.i64.wrap (x8 + 1)) h) := by kernel_rfl
theorem J4_10_eq (x1 : AV) (x5 : AV) (x6 : Int) (x7 : Int) (x8 : Int) (h : AHeap) : J4_10 x1 x5 x6 x7 x8 h = (J4_2 x1 x5 x6 x7 (IntKind.i64.wrap (x8 + 1)) h) := J4_10_g aloop (fun s => s) x1 x5 x6 x7 x8 h
theorem E4_g (lp : Loop) (jn : Join) (x0 : Int) (x1 : AV) (h : AHeap) : codeJ Try.prog Nt lp jn 74 (Nt 4) C4 (args [(.int .u32 x0), x1]) h K4 = (gr (acall Try.prog Nt 10 [] h) fun r1 h2 => gB r1 fun b3 => gc (!b3) (some ((.bool false), h2)) (J4_1' lp jn x0 x1 h2)) := by kernel_rfl
theorem E4 (x0 : Int) (x1 : AV) (h : AHeap) : acall Try.prog Nt 4 [(.int .u32 x0), x1] h = (gr (acall Try.prog Nt 10 [] h) fun r1 h2 => gB r1 fun b3 => gc (!b3) (some ((.bool false), h2)) (J4_1 x0 x1 h2)) := (acall_at rfl Try.func4 _ h 74 rfl (c := C4) rfl).trans (E4_g aloop (fun s => s) x0 x1 h)
end Go.Ab
end
section
/-
  HealthRow.
-/
namespace Go.Ab
open Go.Proofs

def encI (n : Int) : List AV := [.int .i64 n]
theorem encI_len (n : Int) : (encI n).length = 1 := rfl
theorem argvInts {h : AHeap} {f : Nat} {x : AV} (q : ArgV Try.prog h (f + 2) 51 x) : ∃ l : List Int, Sl h 1 encI l x ∧ l.length ≤ maxLen := by
  unfold ArgV at q
  have hu : ∃ u, (Try.prog).underlying 51 = some (.slice u) := ⟨3, by kernel_rfl⟩
  obtain ⟨u, hu⟩ := hu
  rw [hu] at q
  obtain ⟨y, l, e, s, _, hl⟩ := q.list (u := 3) (sz := 1) (enc := encI) (R := fun _ => True) (by kernel_rfl) (by kernel_rfl) (fun ws q => by
    obtain ⟨n, rfl, _⟩ := q.int (k := .i64) (by kernel_rfl)
    exact ⟨n, rfl, trivial⟩)
  cases e
  exact ⟨l, s, hl⟩
theorem argvU32 {h : AHeap} {f : Nat} {x : AV} (q : ArgV Try.prog h (f + 1) 36 x) : ∃ n, x = .int .u32 n ∧ 0 ≤ n ∧ n ≤ 4294967295 := by
  unfold ArgV at q
  have hu : (Try.prog).underlying 36 = some (.int .u32) := by kernel_rfl
  rw [hu] at q
  obtain ⟨n, e, w⟩ := q.int hu
  cases e
  exact ⟨n, rfl, wfu32 w⟩
theorem rep_parts (m : Mon) (r : Int) (p k : Nat) : (m.rep r p k).parts = m.parts ∧ (m.rep r p k).node = m.node := by
  have := turn_parts m r p k
  unfold Mon.rep Mon.push
  split
  · exact ⟨this.1, this.2.2⟩
  · exact ⟨this.1, this.2.2⟩
theorem rep_last (m : Mon) (r : Int) (p k : Nat) (ha : m.act p k = 1) : (m.rep r p k).last = m.last.set p (r + 1) ∧ (m.rep r p k).again = m.again.set p (m.row r p) := by
  unfold Mon.rep Mon.push Mon.turn
  rw [if_pos ha]
  split <;> exact ⟨rfl, rfl⟩
theorem rep_same (m : Mon) (r : Int) (p k : Nat) (ha : m.act p k ≠ 1) : (m.rep r p k).last = m.last ∧ (m.rep r p k).again = m.again := by
  unfold Mon.rep Mon.push Mon.turn
  rw [if_neg ha]
  split <;> exact ⟨rfl, rfl⟩
theorem Fr.grow {F F' : List Nat} {h0 g : AHeap} {h' : AHeap} (f : Fr F (h0 ++ g) F' h') (hF : ∀ x ∈ F, h0.length ≤ x) : (∃ g', h' = h0 ++ g') ∧ ∀ x ∈ F', h0.length ≤ x :=
  ⟨f.ext rfl hF, fun x hx => (f.own x hx).elim (hF x) (fun h => by simp at h; omega)⟩
theorem u64nn (n : Int) : 0 ≤ IntKind.u64.wrap n := by
  unfold IntKind.wrap
  simp only [IntKind.bits, IntKind.signed]
  simp; omega
theorem u64tmod (n m : Int) (hm : 0 < m) : 0 ≤ (IntKind.u64.wrap n).tmod m ∧ (IntKind.u64.wrap n).tmod m < m := by
  rw [Int.tmod_eq_emod_of_nonneg (u64nn n)]
  exact ⟨Int.emod_nonneg _ (by omega), Int.emod_lt_of_pos _ hm⟩
theorem rowLoop (h0 : AHeap) (l : List Int) (x1 : AV) (sx : Sl h0 1 encI l x1) : ∀ (s : List Int) (i : Nat) (round row L A : Int) (b : Nat) (m : Mon) (F : List Nat) (g : AHeap), l.drop i = s → i ≤ 60 → MonAt .u32 (h0 ++ g) b m F → (∀ x ∈ F, h0.length ≤ x) → m.parts = [p2] → m.last = [L] → m.again = [A] →
    0 ≤ round → round ≤ 1000 + 2 * i → 0 ≤ A → A ≤ i → 0 ≤ L → L ≤ 1048576 → (i = 0 → L = 0) → (0 < i → L = round + 1 ∧ A = row) →
    Post (J4_2 x1 (.ptr b 0) round row (i : Int) (h0 ++ g)) fun v _ => v = .bool true := by
  intro s
  induction s with
  | nil =>
    intro i round row L A b m F g hs hi hm hF hp hL hA r0 r1 a0 a1 l0 l1 z0 z1
    have := drop_nil hs
    rw [J4_2_eq]
    simp (dsimp := false) (implicitDefEqProofs := false) (disch := omega) only [gv_some, gr_some, gI_int, gB_bool, gS_str, gc_t, gc_f, gi_t, gi_f, gN_eq, gf_t, Option.bind_some, Option.bind_none, Option.map_some, acells_agg, acells_int, acells_bool, acells_str, acells_ptr, acells_sl, acells_nilsl, acells_nilptr, acells_iface, acells_niliface, aptr_ptr, anil_ptr, aextract_0, aextract_1, aextract_2, alenS_sl, alenS_nil, alenOf_sl, alenOf_nil, apartOf_agg, apart_t, apart_f, astore_ptr, hset_at0, hset_at, hs_same, hs_ne, len_hset, List.set_cons_zero, List.set_cons_succ, set_app, set_app0, aload_ptr, splice_eq, List.drop_nil, List.append_nil, isCell_int, isCell_bool, isCell_str, isCell_ptr, isCell_sl, isCell_nilsl, isCell_nilptr, isCell_iface, isCell_niliface, List.all_cons, List.all_nil, Bool.and_self, hget_at0, hget_at, len_app, List.length_cons, List.length_nil, get_app, get_app0, List.getElem?_cons_zero, List.getElem?_cons_succ, join_some, List.append_assoc, List.cons_append, List.nil_append, Nat.zero_add, Nat.add_zero, Nat.mul_one, chkRd_eq, chkAl_blk, if_true, if_false, Bool.false_eq_true, List.drop_succ_cons, List.drop_zero, List.take_succ_cons, List.take_zero, Bool.and_true, Bool.true_and, decide_true, decide_false, wrap64_id, aixG_eq, Nat.reduceAdd, Nat.reduceSub, Nat.reduceMul, Nat.reduceLeDiff, Nat.reduceLT, Int.reduceAdd, Int.reduceSub, Int.reduceMul, Int.reduceNeg, Int.reduceLT, Int.reduceLE, Int.reduceGT, Int.reduceGE, Int.reduceToNat, ↓reduceIte, and_self, true_and, and_true, (sx.app g).len]
    rw [decide_eq_false (by omega)]
    simp (dsimp := false) (implicitDefEqProofs := false) (disch := omega) only [gv_some, gr_some, gI_int, gB_bool, gS_str, gc_t, gc_f, gi_t, gi_f, gN_eq, gf_t, Option.bind_some, Option.bind_none, Option.map_some, acells_agg, acells_int, acells_bool, acells_str, acells_ptr, acells_sl, acells_nilsl, acells_nilptr, acells_iface, acells_niliface, aptr_ptr, anil_ptr, aextract_0, aextract_1, aextract_2, alenS_sl, alenS_nil, alenOf_sl, alenOf_nil, apartOf_agg, apart_t, apart_f, astore_ptr, hset_at0, hset_at, hs_same, hs_ne, len_hset, List.set_cons_zero, List.set_cons_succ, set_app, set_app0, aload_ptr, splice_eq, List.drop_nil, List.append_nil, isCell_int, isCell_bool, isCell_str, isCell_ptr, isCell_sl, isCell_nilsl, isCell_nilptr, isCell_iface, isCell_niliface, List.all_cons, List.all_nil, Bool.and_self, hget_at0, hget_at, len_app, List.length_cons, List.length_nil, get_app, get_app0, List.getElem?_cons_zero, List.getElem?_cons_succ, join_some, List.append_assoc, List.cons_append, List.nil_append, Nat.zero_add, Nat.add_zero, Nat.mul_one, chkRd_eq, chkAl_blk, if_true, if_false, Bool.false_eq_true, List.drop_succ_cons, List.drop_zero, List.take_succ_cons, List.take_zero, Bool.and_true, Bool.true_and, decide_true, decide_false, wrap64_id, aixG_eq, Nat.reduceAdd, Nat.reduceSub, Nat.reduceMul, Nat.reduceLeDiff, Nat.reduceLT, Int.reduceAdd, Int.reduceSub, Int.reduceMul, Int.reduceNeg, Int.reduceLT, Int.reduceLE, Int.reduceGT, Int.reduceGE, Int.reduceToNat, ↓reduceIte, and_self, true_and, and_true, J4_3_eq, J4_5_eq]
    exact Post.done rfl
  | cons n s ih =>
    intro i round row L A b m F g hs hi hm hF hp hL hA r0 r1 a0 a1 l0 l1 z0 z1
    obtain ⟨hk, hn, hs'⟩ := drop_cons hs
    rw [J4_2_eq]
    simp (dsimp := false) (implicitDefEqProofs := false) (disch := omega) only [gv_some, gr_some, gI_int, gB_bool, gS_str, gc_t, gc_f, gi_t, gi_f, gN_eq, gf_t, Option.bind_some, Option.bind_none, Option.map_some, acells_agg, acells_int, acells_bool, acells_str, acells_ptr, acells_sl, acells_nilsl, acells_nilptr, acells_iface, acells_niliface, aptr_ptr, anil_ptr, aextract_0, aextract_1, aextract_2, alenS_sl, alenS_nil, alenOf_sl, alenOf_nil, apartOf_agg, apart_t, apart_f, astore_ptr, hset_at0, hset_at, hs_same, hs_ne, len_hset, List.set_cons_zero, List.set_cons_succ, set_app, set_app0, aload_ptr, splice_eq, List.drop_nil, List.append_nil, isCell_int, isCell_bool, isCell_str, isCell_ptr, isCell_sl, isCell_nilsl, isCell_nilptr, isCell_iface, isCell_niliface, List.all_cons, List.all_nil, Bool.and_self, hget_at0, hget_at, len_app, List.length_cons, List.length_nil, get_app, get_app0, List.getElem?_cons_zero, List.getElem?_cons_succ, join_some, List.append_assoc, List.cons_append, List.nil_append, Nat.zero_add, Nat.add_zero, Nat.mul_one, chkRd_eq, chkAl_blk, if_true, if_false, Bool.false_eq_true, List.drop_succ_cons, List.drop_zero, List.take_succ_cons, List.take_zero, Bool.and_true, Bool.true_and, decide_true, decide_false, wrap64_id, aixG_eq, Nat.reduceAdd, Nat.reduceSub, Nat.reduceMul, Nat.reduceLeDiff, Nat.reduceLT, Int.reduceAdd, Int.reduceSub, Int.reduceMul, Int.reduceNeg, Int.reduceLT, Int.reduceLE, Int.reduceGT, Int.reduceGE, Int.reduceToNat, ↓reduceIte, and_self, true_and, and_true, (sx.app g).len]
    rw [decide_eq_true (by omega)]
    simp (dsimp := false) (implicitDefEqProofs := false) (disch := omega) only [gv_some, gr_some, gI_int, gB_bool, gS_str, gc_t, gc_f, gi_t, gi_f, gN_eq, gf_t, Option.bind_some, Option.bind_none, Option.map_some, acells_agg, acells_int, acells_bool, acells_str, acells_ptr, acells_sl, acells_nilsl, acells_nilptr, acells_iface, acells_niliface, aptr_ptr, anil_ptr, aextract_0, aextract_1, aextract_2, alenS_sl, alenS_nil, alenOf_sl, alenOf_nil, apartOf_agg, apart_t, apart_f, astore_ptr, hset_at0, hset_at, hs_same, hs_ne, len_hset, List.set_cons_zero, List.set_cons_succ, set_app, set_app0, aload_ptr, splice_eq, List.drop_nil, List.append_nil, isCell_int, isCell_bool, isCell_str, isCell_ptr, isCell_sl, isCell_nilsl, isCell_nilptr, isCell_iface, isCell_niliface, List.all_cons, List.all_nil, Bool.and_self, hget_at0, hget_at, len_app, List.length_cons, List.length_nil, get_app, get_app0, List.getElem?_cons_zero, List.getElem?_cons_succ, join_some, List.append_assoc, List.cons_append, List.nil_append, Nat.zero_add, Nat.add_zero, Nat.mul_one, chkRd_eq, chkAl_blk, if_true, if_false, Bool.false_eq_true, List.drop_succ_cons, List.drop_zero, List.take_succ_cons, List.take_zero, Bool.and_true, Bool.true_and, decide_true, decide_false, wrap64_id, aixG_eq, Nat.reduceAdd, Nat.reduceSub, Nat.reduceMul, Nat.reduceLeDiff, Nat.reduceLT, Int.reduceAdd, Int.reduceSub, Int.reduceMul, Int.reduceNeg, Int.reduceLT, Int.reduceLE, Int.reduceGT, Int.reduceGE, Int.reduceToNat, ↓reduceIte, and_self, true_and, and_true, J4_3_eq]
    refine Post.cdd (fun h60 => ?_) fun h60 => ?_
    rotate_left
    · rw [J4_5_eq]; exact Post.done rfl
    obtain ⟨eb, eo, ix, ea⟩ := (sx.app g).elem encI_len i hk
    rw [hn] at ea
    rw [J4_4_eq]
    refine Post.val ix ?_
    refine Post.val (ea.load0 1) ?_
    obtain ⟨g0, g3⟩ := u64tmod n 3 (by omega)
    obtain ⟨G, eg, g0, g3⟩ : ∃ G, IntKind.u32.wrap ((IntKind.u64.wrap n).tmod 3) = G ∧ 0 ≤ G ∧ G < 3 := ⟨_, wrapu32_id (by omega) (by omega), g0, g3⟩
    simp (dsimp := false) (implicitDefEqProofs := false) (disch := omega) only [gv_some, gr_some, gI_int, gB_bool, gS_str, gc_t, gc_f, gi_t, gi_f, gN_eq, gf_t, Option.bind_some, Option.bind_none, Option.map_some, acells_agg, acells_int, acells_bool, acells_str, acells_ptr, acells_sl, acells_nilsl, acells_nilptr, acells_iface, acells_niliface, aptr_ptr, anil_ptr, aextract_0, aextract_1, aextract_2, alenS_sl, alenS_nil, alenOf_sl, alenOf_nil, apartOf_agg, apart_t, apart_f, astore_ptr, hset_at0, hset_at, hs_same, hs_ne, len_hset, List.set_cons_zero, List.set_cons_succ, set_app, set_app0, aload_ptr, splice_eq, List.drop_nil, List.append_nil, isCell_int, isCell_bool, isCell_str, isCell_ptr, isCell_sl, isCell_nilsl, isCell_nilptr, isCell_iface, isCell_niliface, List.all_cons, List.all_nil, Bool.and_self, hget_at0, hget_at, len_app, List.length_cons, List.length_nil, get_app, get_app0, List.getElem?_cons_zero, List.getElem?_cons_succ, join_some, List.append_assoc, List.cons_append, List.nil_append, Nat.zero_add, Nat.add_zero, Nat.mul_one, chkRd_eq, chkAl_blk, if_true, if_false, Bool.false_eq_true, List.drop_succ_cons, List.drop_zero, List.take_succ_cons, List.take_zero, Bool.and_true, Bool.true_and, decide_true, decide_false, wrap64_id, aixG_eq, Nat.reduceAdd, Nat.reduceSub, Nat.reduceMul, Nat.reduceLeDiff, Nat.reduceLT, Int.reduceAdd, Int.reduceSub, Int.reduceMul, Int.reduceNeg, Int.reduceLT, Int.reduceLE, Int.reduceGT, Int.reduceGE, Int.reduceToNat, ↓reduceIte, and_self, true_and, and_true]
    rw [eg]
    have ok : m.ok (i : Int) := ⟨fun x hx => by rw [hL] at hx; simp at hx; omega, fun x hx => by rw [hA] at hx; simp at hx; omega⟩
    have act : m.act 0 2 = 1 := by simp [Mon.act, hp, p2, Part.rc]
    have fin : ∀ (round' row0 : Int), 0 ≤ round' → round' ≤ 1000 + 2 * ((i + 1 : Nat) : Int) → (if L ≠ 0 ∧ round' ≤ L then A + 1 else 1) = row0 + 1 → -1 ≤ row0 → row0 ≤ i → Post (J4_8 x1 (.ptr b 0) round' row0 (i : Int) (h0 ++ g)) fun v _ => v = .bool true := by
      intro round' row0 q0 q1 qr w0 w1
      rw [J4_8_eq]
      refine Post.bind (c_report _ b m F hm i ok (by omega) round' q0 0 2 (by omega)) ?_
      intro v h' hv
      have tk : m.takes round' 0 2 = true := by simp [Mon.takes, hp]; omega
      rw [tk, if_pos rfl] at hv
      obtain ⟨rfl, F', hm', fr⟩ := hv
      obtain ⟨⟨g', rfl⟩, hF'⟩ := fr.grow hF
      have er : m.row round' 0 = row0 + 1 := by
        rw [← qr]; simp [Mon.row, hL, hA]
      have ed : m.did round' (Int.toNat 0) (Int.toNat 2) = if row0 + 1 ≥ 3 then 2 else 1 := by
        show m.did round' 0 2 = _
        simp [Mon.did, act, er]
      obtain ⟨rl, ra⟩ := rep_last m round' 0 2 act
      have next : Post (J4_9 x1 (.ptr b 0) round' (row0 + 1) (i : Int) false (h0 ++ g')) fun v _ => v = .bool true := by
        rw [J4_9_eq]
        simp (dsimp := false) (implicitDefEqProofs := false) (disch := omega) only [gv_some, gr_some, gI_int, gB_bool, gS_str, gc_t, gc_f, gi_t, gi_f, gN_eq, gf_t, Option.bind_some, Option.bind_none, Option.map_some, acells_agg, acells_int, acells_bool, acells_str, acells_ptr, acells_sl, acells_nilsl, acells_nilptr, acells_iface, acells_niliface, aptr_ptr, anil_ptr, aextract_0, aextract_1, aextract_2, alenS_sl, alenS_nil, alenOf_sl, alenOf_nil, apartOf_agg, apart_t, apart_f, astore_ptr, hset_at0, hset_at, hs_same, hs_ne, len_hset, List.set_cons_zero, List.set_cons_succ, set_app, set_app0, aload_ptr, splice_eq, List.drop_nil, List.append_nil, isCell_int, isCell_bool, isCell_str, isCell_ptr, isCell_sl, isCell_nilsl, isCell_nilptr, isCell_iface, isCell_niliface, List.all_cons, List.all_nil, Bool.and_self, hget_at0, hget_at, len_app, List.length_cons, List.length_nil, get_app, get_app0, List.getElem?_cons_zero, List.getElem?_cons_succ, join_some, List.append_assoc, List.cons_append, List.nil_append, Nat.zero_add, Nat.add_zero, Nat.mul_one, chkRd_eq, chkAl_blk, if_true, if_false, Bool.false_eq_true, List.drop_succ_cons, List.drop_zero, List.take_succ_cons, List.take_zero, Bool.and_true, Bool.true_and, decide_true, decide_false, wrap64_id, aixG_eq, Nat.reduceAdd, Nat.reduceSub, Nat.reduceMul, Nat.reduceLeDiff, Nat.reduceLT, Int.reduceAdd, Int.reduceSub, Int.reduceMul, Int.reduceNeg, Int.reduceLT, Int.reduceLE, Int.reduceGT, Int.reduceGE, Int.reduceToNat, ↓reduceIte, and_self, true_and, and_true]
        rw [J4_10_eq, wsucc (by omega)]
        exact ih (i + 1) round' (row0 + 1) (round' + 1) (row0 + 1) b _ F' g' hs' (by omega) hm' hF' (by rw [(rep_parts _ _ _ _).1, hp]) (by show (m.rep round' 0 2).last = _; rw [rl, hL]; rfl) (by show (m.rep round' 0 2).again = _; rw [ra, hA, er]; rfl) q0 q1 (by omega) (by omega) (by omega) (by omega) (by omega) (fun _ => ⟨rfl, rfl⟩)
      rw [ed]
      have ew : IntKind.i64.wrap (row0 + 1) = row0 + 1 := wrap64_id (by omega) (by omega)
      by_cases h3 : row0 + 1 ≥ 3
      · rw [if_pos h3]
        have c1 : (!(((2 : Int) == 2) == decide (row0 + 1 ≥ 3))) = false := by rw [decide_eq_true h3]; rfl
        have c2 : ((2 : Int) != 2) = false := rfl
        simp (dsimp := false) (implicitDefEqProofs := false) (disch := omega) only [gv_some, gr_some, gI_int, gB_bool, gS_str, gc_t, gc_f, gi_t, gi_f, gN_eq, gf_t, Option.bind_some, Option.bind_none, Option.map_some, acells_agg, acells_int, acells_bool, acells_str, acells_ptr, acells_sl, acells_nilsl, acells_nilptr, acells_iface, acells_niliface, aptr_ptr, anil_ptr, aextract_0, aextract_1, aextract_2, alenS_sl, alenS_nil, alenOf_sl, alenOf_nil, apartOf_agg, apart_t, apart_f, astore_ptr, hset_at0, hset_at, hs_same, hs_ne, len_hset, List.set_cons_zero, List.set_cons_succ, set_app, set_app0, aload_ptr, splice_eq, List.drop_nil, List.append_nil, isCell_int, isCell_bool, isCell_str, isCell_ptr, isCell_sl, isCell_nilsl, isCell_nilptr, isCell_iface, isCell_niliface, List.all_cons, List.all_nil, Bool.and_self, hget_at0, hget_at, len_app, List.length_cons, List.length_nil, get_app, get_app0, List.getElem?_cons_zero, List.getElem?_cons_succ, join_some, List.append_assoc, List.cons_append, List.nil_append, Nat.zero_add, Nat.add_zero, Nat.mul_one, chkRd_eq, chkAl_blk, if_true, if_false, Bool.false_eq_true, List.drop_succ_cons, List.drop_zero, List.take_succ_cons, List.take_zero, Bool.and_true, Bool.true_and, decide_true, decide_false, wrap64_id, aixG_eq, Nat.reduceAdd, Nat.reduceSub, Nat.reduceMul, Nat.reduceLeDiff, Nat.reduceLT, Int.reduceAdd, Int.reduceSub, Int.reduceMul, Int.reduceNeg, Int.reduceLT, Int.reduceLE, Int.reduceGT, Int.reduceGE, Int.reduceToNat, ↓reduceIte, and_self, true_and, and_true, err_ne_nil, ew, c1, c2]
        exact next
      · rw [if_neg h3]
        have c1 : (!(((1 : Int) == 2) == decide (row0 + 1 ≥ 3))) = false := by rw [decide_eq_false h3]; rfl
        have c2 : ((1 : Int) != 2) = true := rfl
        have c3 : ((1 : Int) != 1) = false := rfl
        simp (dsimp := false) (implicitDefEqProofs := false) (disch := omega) only [gv_some, gr_some, gI_int, gB_bool, gS_str, gc_t, gc_f, gi_t, gi_f, gN_eq, gf_t, Option.bind_some, Option.bind_none, Option.map_some, acells_agg, acells_int, acells_bool, acells_str, acells_ptr, acells_sl, acells_nilsl, acells_nilptr, acells_iface, acells_niliface, aptr_ptr, anil_ptr, aextract_0, aextract_1, aextract_2, alenS_sl, alenS_nil, alenOf_sl, alenOf_nil, apartOf_agg, apart_t, apart_f, astore_ptr, hset_at0, hset_at, hs_same, hs_ne, len_hset, List.set_cons_zero, List.set_cons_succ, set_app, set_app0, aload_ptr, splice_eq, List.drop_nil, List.append_nil, isCell_int, isCell_bool, isCell_str, isCell_ptr, isCell_sl, isCell_nilsl, isCell_nilptr, isCell_iface, isCell_niliface, List.all_cons, List.all_nil, Bool.and_self, hget_at0, hget_at, len_app, List.length_cons, List.length_nil, get_app, get_app0, List.getElem?_cons_zero, List.getElem?_cons_succ, join_some, List.append_assoc, List.cons_append, List.nil_append, Nat.zero_add, Nat.add_zero, Nat.mul_one, chkRd_eq, chkAl_blk, if_true, if_false, Bool.false_eq_true, List.drop_succ_cons, List.drop_zero, List.take_succ_cons, List.take_zero, Bool.and_true, Bool.true_and, decide_true, decide_false, wrap64_id, aixG_eq, Nat.reduceAdd, Nat.reduceSub, Nat.reduceMul, Nat.reduceLeDiff, Nat.reduceLT, Int.reduceAdd, Int.reduceSub, Int.reduceMul, Int.reduceNeg, Int.reduceLT, Int.reduceLE, Int.reduceGT, Int.reduceGE, Int.reduceToNat, ↓reduceIte, and_self, true_and, and_true, err_ne_nil, ew, c1, c2, c3]
        exact next
    have mid : ∀ row1 : Int, (if i = 0 ∨ G = 2 then row1 = 0 else row1 = row) → Post (J4_7 x1 (.ptr b 0) round row1 (i : Int) G (h0 ++ g)) fun v _ => v = .bool true := by
      intro row1 h1
      rw [J4_7_eq]
      refine Post.cdd (fun hp0 => ?_) fun hp0 => ?_
      · have eu : IntKind.u32.wrap (round + G) = round + G := wrapu32_id (by omega) (by omega)
        rw [eu]
        obtain ⟨z2, z3⟩ := z1 (by omega)
        refine fin _ _ (by omega) (by omega) ?_ ?_ ?_
        · split at h1
          · rw [if_neg (by omega)]; omega
          · rw [if_pos (by omega)]; omega
        · split at h1 <;> omega
        · split at h1 <;> omega
      · have i0 : i = 0 := by omega
        rw [if_pos (.inl i0)] at h1
        have := z0 i0
        exact fin _ _ (by omega) (by omega) (by rw [if_neg (by omega)]; omega) (by omega) (by omega)
    refine Post.ite (fun hz => ?_) fun hz => ?_
    · have hz : i = 0 := by simpa using hz
      rw [J4_6_eq]
      simp (dsimp := false) (implicitDefEqProofs := false) (disch := omega) only [gv_some, gr_some, gI_int, gB_bool, gS_str, gc_t, gc_f, gi_t, gi_f, gN_eq, gf_t, Option.bind_some, Option.bind_none, Option.map_some, acells_agg, acells_int, acells_bool, acells_str, acells_ptr, acells_sl, acells_nilsl, acells_nilptr, acells_iface, acells_niliface, aptr_ptr, anil_ptr, aextract_0, aextract_1, aextract_2, alenS_sl, alenS_nil, alenOf_sl, alenOf_nil, apartOf_agg, apart_t, apart_f, astore_ptr, hset_at0, hset_at, hs_same, hs_ne, len_hset, List.set_cons_zero, List.set_cons_succ, set_app, set_app0, aload_ptr, splice_eq, List.drop_nil, List.append_nil, isCell_int, isCell_bool, isCell_str, isCell_ptr, isCell_sl, isCell_nilsl, isCell_nilptr, isCell_iface, isCell_niliface, List.all_cons, List.all_nil, Bool.and_self, hget_at0, hget_at, len_app, List.length_cons, List.length_nil, get_app, get_app0, List.getElem?_cons_zero, List.getElem?_cons_succ, join_some, List.append_assoc, List.cons_append, List.nil_append, Nat.zero_add, Nat.add_zero, Nat.mul_one, chkRd_eq, chkAl_blk, if_true, if_false, Bool.false_eq_true, List.drop_succ_cons, List.drop_zero, List.take_succ_cons, List.take_zero, Bool.and_true, Bool.true_and, decide_true, decide_false, wrap64_id, aixG_eq, Nat.reduceAdd, Nat.reduceSub, Nat.reduceMul, Nat.reduceLeDiff, Nat.reduceLT, Int.reduceAdd, Int.reduceSub, Int.reduceMul, Int.reduceNeg, Int.reduceLT, Int.reduceLE, Int.reduceGT, Int.reduceGE, Int.reduceToNat, ↓reduceIte, and_self, true_and, and_true]
      exact mid 0 (by rw [if_pos (.inl hz)])
    · have hz : i ≠ 0 := by simpa using hz
      rw [J4_6_eq]
      refine Post.cnd (fun h2 => ?_) fun h2 => ?_
      · have h2 : G = 2 := by simpa using h2
        exact mid 0 (by rw [if_pos (.inr h2)])
      · have h2 : G ≠ 2 := by simpa using h2
        exact mid row (by rw [if_neg (by omega)])
theorem healthRow : LawTrue Try.prog Nt 9 4 [36, 51] := by
  rintro h xs ⟨x, r, rfl, hx, x2, r2, rfl, hx2, hr⟩
  cases hr
  obtain ⟨a, rfl, a0, a1⟩ := argvU32 hx
  obtain ⟨l, sl, _⟩ := argvInts hx2
  have main : Post (acall Try.prog Nt 4 [.int .u32 a, x2] h) fun v _ => v = .bool true := by
    rw [E4]
    refine Post.bind (c_awake h) ?_
    rintro v h1 ⟨rfl, g, rfl⟩
    simp (dsimp := false) (implicitDefEqProofs := false) (disch := omega) only [gv_some, gr_some, gI_int, gB_bool, gS_str, gc_t, gc_f, gi_t, gi_f, gN_eq, gf_t, Option.bind_some, Option.bind_none, Option.map_some, acells_agg, acells_int, acells_bool, acells_str, acells_ptr, acells_sl, acells_nilsl, acells_nilptr, acells_iface, acells_niliface, aptr_ptr, anil_ptr, aextract_0, aextract_1, aextract_2, alenS_sl, alenS_nil, alenOf_sl, alenOf_nil, apartOf_agg, apart_t, apart_f, astore_ptr, hset_at0, hset_at, hs_same, hs_ne, len_hset, List.set_cons_zero, List.set_cons_succ, set_app, set_app0, aload_ptr, splice_eq, List.drop_nil, List.append_nil, isCell_int, isCell_bool, isCell_str, isCell_ptr, isCell_sl, isCell_nilsl, isCell_nilptr, isCell_iface, isCell_niliface, List.all_cons, List.all_nil, Bool.and_self, hget_at0, hget_at, len_app, List.length_cons, List.length_nil, get_app, get_app0, List.getElem?_cons_zero, List.getElem?_cons_succ, join_some, List.append_assoc, List.cons_append, List.nil_append, Nat.zero_add, Nat.add_zero, Nat.mul_one, chkRd_eq, chkAl_blk, if_true, if_false, Bool.false_eq_true, List.drop_succ_cons, List.drop_zero, List.take_succ_cons, List.take_zero, Bool.and_true, Bool.true_and, decide_true, decide_false, wrap64_id, aixG_eq, Nat.reduceAdd, Nat.reduceSub, Nat.reduceMul, Nat.reduceLeDiff, Nat.reduceLT, Int.reduceAdd, Int.reduceSub, Int.reduceMul, Int.reduceNeg, Int.reduceLT, Int.reduceLE, Int.reduceGT, Int.reduceGE, Int.reduceToNat, ↓reduceIte, and_self, true_and, and_true, Bool.not_true, J4_1_eq]
    have sp : Sl (h ++ (g ++ [some (.cells false p2.cells)])) 9 Part.cells [p2] (.sl (h.length + g.length) 0 1 9) := .inr ⟨h.length + g.length, 0, rfl, false, p2.cells, by rw [hget_at, get_app0]; rfl, by simp [Part.cells], by simp [Part.cells]⟩
    refine Post.call (c_newmon 0 [p2] _ _ sp (by simp)) fun v g2 hv => ?_
    obtain ⟨b, F, rfl, hm, hF⟩ := hv
    have m4 := Int.tmod_eq_emod_of_nonneg (b := 1000) a0
    rw [List.append_assoc] at hm ⊢
    exact rowLoop h l x2 sl l 0 _ 0 0 0 b _ F _ rfl (by omega) hm (fun x hx => by have := hF x hx; simp at this; omega) rfl rfl rfl (by omega) (by omega) (by omega) (by omega) (by omega) (by omega) (fun _ => rfl) (fun h => by omega)
  obtain ⟨v, g, e, rfl⟩ := main
  exact ⟨_, e⟩
end Go.Ab
end
section
/-
  Functions of the program as equations: written by program (wip/tools/prt.py).
-/
namespace Go.Ab
open Go.Proofs
/-! 5: escapement/escapementlaw15.HealthSeals -/
noncomputable def K5 : Kont := kend Try.prog 85 Try.f5.results.toList
noncomputable def K5_1 (lp : Loop) (jn : Join) : Kont := kseqJ jn (codeJ Try.prog Nt lp jn 85 (nat' [true, true, true, true] A5) (cat [true, true, true, true] C5)) (some [0, 3]) K5
noncomputable def K5_2 (lp : Loop) (jn : Join) : Kont := kblock 0 none (K5_1 lp jn)
noncomputable def K5_3 (lp : Loop) (jn : Join) : Kont := kloop (lp (some [0, 3, 4]) (codeJ Try.prog Nt lp jn 85 (nat' [true, true, true, false, true, false, false] A5) (cat [true, true, true, false, true, false, false] C5))) (some [0, 3, 4]) (K5_2 lp jn)
noncomputable def K5_4 (lp : Loop) (jn : Join) : Kont := kseqJ jn (codeJ Try.prog Nt lp jn 85 (nat' [true, true, true, false, true, false, false, true] A5) (cat [true, true, true, false, true, false, false, true] C5)) (some [0, 3, 4]) (K5_3 lp jn)
noncomputable def K5_5 (lp : Loop) (jn : Join) : Kont := kseqJ jn (codeJ Try.prog Nt lp jn 85 (nat' [true, true, true, true, true, true] A5) (cat [true, true, true, true, true, true] C5)) (some [0, 3, 7]) K5
noncomputable def K5_6 (lp : Loop) (jn : Join) : Kont := kblock 2 none (K5_5 lp jn)
noncomputable def K5_7 (lp : Loop) (jn : Join) : Kont := kloop (lp (some [0, 3, 7, 44, 45, 46]) (codeJ Try.prog Nt lp jn 85 (nat' [true, true, true, true, true, false, true, false, false] A5) (cat [true, true, true, true, true, false, true, false, false] C5))) (some [0, 3, 7, 44, 45, 46]) (K5_6 lp jn)
noncomputable def J5_1' (lp : Loop) (jn : Join) (x0 : AV) (h : AHeap) : Res := jn (codeJ Try.prog Nt lp jn 85 (nat' [true, true] A5) (cat [true, true] C5)) (envOf [(0, x0)]) h K5
noncomputable def J5_1 (x0 : AV) (h : AHeap) : Res := J5_1' aloop (fun s => s) x0 h
noncomputable def J5_2' (lp : Loop) (jn : Join) (x0 : AV) (x3 : AV) (x4 : Int) (h : AHeap) : Res := lp (some [0, 3, 4]) (codeJ Try.prog Nt lp jn 85 (nat' [true, true, true, false, true, false, false] A5) (cat [true, true, true, false, true, false, false] C5)) (envOf [(0, x0), (3, x3), (4, (.int .i64 x4))]) h (K5_2 lp jn)
noncomputable def J5_2 (x0 : AV) (x3 : AV) (x4 : Int) (h : AHeap) : Res := J5_2' aloop (fun s => s) x0 x3 x4 h
noncomputable def J5_3' (lp : Loop) (jn : Join) (x0 : AV) (x3 : AV) (x4 : Int) (x23 : Bool) (h : AHeap) : Res := jn (codeJ Try.prog Nt lp jn 85 (nat' [true, true, true, false, true, false, false, false, true] A5) (cat [true, true, true, false, true, false, false, false, true] C5)) (envOf [(0, x0), (3, x3), (4, (.int .i64 x4)), (23, (.bool x23))]) h (K5_4 lp jn)
noncomputable def J5_3 (x0 : AV) (x3 : AV) (x4 : Int) (x23 : Bool) (h : AHeap) : Res := J5_3' aloop (fun s => s) x0 x3 x4 x23 h
noncomputable def J5_4' (lp : Loop) (jn : Join) (x0 : AV) (x3 : AV) (x4 : Int) (h : AHeap) : Res := jn (codeJ Try.prog Nt lp jn 85 (nat' [true, true, true, false, true, false, false, true] A5) (cat [true, true, true, false, true, false, false, true] C5)) (envOf [(0, x0), (3, x3), (4, (.int .i64 x4))]) h (K5_3 lp jn)
noncomputable def J5_4 (x0 : AV) (x3 : AV) (x4 : Int) (h : AHeap) : Res := J5_4' aloop (fun s => s) x0 x3 x4 h
noncomputable def J5_5' (lp : Loop) (jn : Join) (x0 : AV) (x3 : AV) (h : AHeap) : Res := jn (codeJ Try.prog Nt lp jn 85 (nat' [true, true, true, true] A5) (cat [true, true, true, true] C5)) (envOf [(0, x0), (3, x3)]) h K5
noncomputable def J5_5 (x0 : AV) (x3 : AV) (h : AHeap) : Res := J5_5' aloop (fun s => s) x0 x3 h
noncomputable def J5_6' (lp : Loop) (jn : Join) (x0 : AV) (x3 : AV) (x4 : Int) (h : AHeap) : Res := jn (codeJ Try.prog Nt lp jn 85 (nat' [true, true, true, false, true, false, false, true, true] A5) (cat [true, true, true, false, true, false, false, true, true] C5)) (envOf [(0, x0), (3, x3), (4, (.int .i64 x4))]) h (K5_3 lp jn)
noncomputable def J5_6 (x0 : AV) (x3 : AV) (x4 : Int) (h : AHeap) : Res := J5_6' aloop (fun s => s) x0 x3 x4 h
noncomputable def J5_7' (lp : Loop) (jn : Join) (x0 : AV) (x3 : AV) (x7 : AV) (x44 : AV) (x45 : Int) (x46 : Int) (h : AHeap) : Res := lp (some [0, 3, 7, 44, 45, 46]) (codeJ Try.prog Nt lp jn 85 (nat' [true, true, true, true, true, false, true, false, false] A5) (cat [true, true, true, true, true, false, true, false, false] C5)) (envOf [(0, x0), (3, x3), (7, x7), (44, x44), (45, (.int .i64 x45)), (46, (.int .i64 x46))]) h (K5_6 lp jn)
noncomputable def J5_7 (x0 : AV) (x3 : AV) (x7 : AV) (x44 : AV) (x45 : Int) (x46 : Int) (h : AHeap) : Res := J5_7' aloop (fun s => s) x0 x3 x7 x44 x45 x46 h
noncomputable def J5_8' (lp : Loop) (jn : Join) (x0 : AV) (x3 : AV) (x7 : AV) (x44 : AV) (x45 : Int) (x46 : Int) (h : AHeap) : Res := jn (codeJ Try.prog Nt lp jn 85 (nat' [true, true, true, true, true, false, true, false, false, true, true] A5) (cat [true, true, true, true, true, false, true, false, false, true, true] C5)) (envOf [(0, x0), (3, x3), (7, x7), (44, x44), (45, (.int .i64 x45)), (46, (.int .i64 x46))]) h (K5_7 lp jn)
noncomputable def J5_8 (x0 : AV) (x3 : AV) (x7 : AV) (x44 : AV) (x45 : Int) (x46 : Int) (h : AHeap) : Res := J5_8' aloop (fun s => s) x0 x3 x7 x44 x45 x46 h
noncomputable def J5_9' (lp : Loop) (jn : Join) (x0 : AV) (x3 : AV) (x7 : AV) (h : AHeap) : Res := jn (codeJ Try.prog Nt lp jn 85 (nat' [true, true, true, true, true, true] A5) (cat [true, true, true, true, true, true] C5)) (envOf [(0, x0), (3, x3), (7, x7)]) h K5
noncomputable def J5_9 (x0 : AV) (x3 : AV) (x7 : AV) (h : AHeap) : Res := J5_9' aloop (fun s => s) x0 x3 x7 h
noncomputable def J5_10' (lp : Loop) (jn : Join) (x0 : AV) (x3 : AV) (x7 : AV) (x44 : AV) (x45 : Int) (x46 : Int) (h : AHeap) : Res := jn (codeJ Try.prog Nt lp jn 85 (nat' [true, true, true, true, true, false, true, false, false, true, true, true] A5) (cat [true, true, true, true, true, false, true, false, false, true, true, true] C5)) (envOf [(0, x0), (3, x3), (7, x7), (44, x44), (45, (.int .i64 x45)), (46, (.int .i64 x46))]) h (K5_7 lp jn)
noncomputable def J5_10 (x0 : AV) (x3 : AV) (x7 : AV) (x44 : AV) (x45 : Int) (x46 : Int) (h : AHeap) : Res := J5_10' aloop (fun s => s) x0 x3 x7 x44 x45 x46 h
theorem J5_1_g (lp : Loop) (jn : Join) (x0 : AV) (h : AHeap) : codeJ Try.prog Nt lp jn 85 (nat' [true, true] A5) (cat [true, true] C5) (envOf [(0, x0)]) h K5 = (gN h [(.int .i64 0), (.int .i64 0), (.int .i64 0), (.int .i64 0), (.int .i64 0), (.int .u8 0), (.int .u8 0), (.int .u8 0), (.int .u8 0)] fun b4 h5 => gr (acall Try.prog Nt 11 [(.int .i64 3), (.sl b4 0 1 9)] h5) fun r6 h7 => J5_2' lp jn x0 r6 0 h7) := by kernel_rfl
theorem J5_1_eq (x0 : AV) (h : AHeap) : J5_1 x0 h = (gN h [(.int .i64 0), (.int .i64 0), (.int .i64 0), (.int .i64 0), (.int .i64 0), (.int .u8 0), (.int .u8 0), (.int .u8 0), (.int .u8 0)] fun b4 h5 => gr (acall Try.prog Nt 11 [(.int .i64 3), (.sl b4 0 1 9)] h5) fun r6 h7 => J5_2 x0 r6 0 h7) := J5_1_g aloop (fun s => s) x0 h
theorem J5_2_g (lp : Loop) (jn : Join) (x0 : AV) (x3 : AV) (x4 : Int) (h : AHeap) : codeJ Try.prog Nt lp jn 85 (nat' [true, true, true, false, true, false, false] A5) (cat [true, true, true, false, true, false, false] C5) (envOf [(0, x0), (3, x3), (4, (.int .i64 x4))]) h (kloop (lp (some [0, 3, 4]) (codeJ Try.prog Nt lp jn 85 (nat' [true, true, true, false, true, false, false] A5) (cat [true, true, true, false, true, false, false] C5))) (some [0, 3, 4]) (K5_2 lp jn)) = (gv (alenS x0) fun m8 => gi (decide (x4 < (m8 : Int))) (J5_3' lp jn x0 x3 x4 (decide (x4 < 30)) h) (J5_3' lp jn x0 x3 x4 false h)) := by kernel_rfl
theorem J5_2_eq (x0 : AV) (x3 : AV) (x4 : Int) (h : AHeap) : J5_2 x0 x3 x4 h = (gv (alenS x0) fun m8 => gi (decide (x4 < (m8 : Int))) (J5_3 x0 x3 x4 (decide (x4 < 30)) h) (J5_3 x0 x3 x4 false h)) := (aloop_at (some [0, 3, 4]) (nat' [true, true, true, false, true, false, false] A5) (cat [true, true, true, false, true, false, false] C5) (envOf [(0, x0), (3, x3), (4, (.int .i64 x4))]) h (K5_2 aloop (fun s => s))).trans (J5_2_g aloop (fun s => s) x0 x3 x4 h)
theorem J5_3_g (lp : Loop) (jn : Join) (x0 : AV) (x3 : AV) (x4 : Int) (x23 : Bool) (h : AHeap) : codeJ Try.prog Nt lp jn 85 (nat' [true, true, true, false, true, false, false, false, true] A5) (cat [true, true, true, false, true, false, false, false, true] C5) (envOf [(0, x0), (3, x3), (4, (.int .i64 x4)), (23, (.bool x23))]) h (K5_4 lp jn) = (gc x23 (J5_4' lp jn x0 x3 x4 h) (J5_5' lp jn x0 x3 h)) := by kernel_rfl
theorem J5_3_eq (x0 : AV) (x3 : AV) (x4 : Int) (x23 : Bool) (h : AHeap) : J5_3 x0 x3 x4 x23 h = (gc x23 (J5_4 x0 x3 x4 h) (J5_5 x0 x3 h)) := J5_3_g aloop (fun s => s) x0 x3 x4 x23 h
theorem J5_4_g (lp : Loop) (jn : Join) (x0 : AV) (x3 : AV) (x4 : Int) (h : AHeap) : codeJ Try.prog Nt lp jn 85 (nat' [true, true, true, false, true, false, false, true] A5) (cat [true, true, true, false, true, false, false, true] C5) (envOf [(0, x0), (3, x3), (4, (.int .i64 x4))]) h (K5_3 lp jn) = (gv (aixS 1 x0 x4) fun v9 => gv (aload false 1 v9 h) fun v10 => gI .i64 v10 fun n11 => gr (acall Try.prog Nt 16 [x3, (.int .u32 (IntKind.u32.wrap x4)), (.int .i64 0), (.int .u8 (IntKind.u8.wrap ((IntKind.u64.wrap n11).tmod 4)))] h) fun r12 h13 => gv (aextract r12 0) fun v14 => gI .u8 v14 fun n15 => gv (aextract r12 1) fun v16 => gv (abin Try.prog .neq 43 (aeqOk Try.prog 43 (.tmp 40) (.const .nilIface) v16 .niliface) v16 .niliface) fun v17 => gB v17 fun b18 => gc b18 (some ((.bool false), h13)) (J5_6' lp jn x0 x3 x4 h13)) := by kernel_rfl
theorem J5_4_eq (x0 : AV) (x3 : AV) (x4 : Int) (h : AHeap) : J5_4 x0 x3 x4 h = (gv (aixS 1 x0 x4) fun v9 => gv (aload false 1 v9 h) fun v10 => gI .i64 v10 fun n11 => gr (acall Try.prog Nt 16 [x3, (.int .u32 (IntKind.u32.wrap x4)), (.int .i64 0), (.int .u8 (IntKind.u8.wrap ((IntKind.u64.wrap n11).tmod 4)))] h) fun r12 h13 => gv (aextract r12 0) fun v14 => gI .u8 v14 fun n15 => gv (aextract r12 1) fun v16 => gv (abin Try.prog .neq 43 (aeqOk Try.prog 43 (.tmp 40) (.const .nilIface) v16 .niliface) v16 .niliface) fun v17 => gB v17 fun b18 => gc b18 (some ((.bool false), h13)) (J5_6 x0 x3 x4 h13)) := J5_4_g aloop (fun s => s) x0 x3 x4 h
theorem J5_5_g (lp : Loop) (jn : Join) (x0 : AV) (x3 : AV) (h : AHeap) : codeJ Try.prog Nt lp jn 85 (nat' [true, true, true, true] A5) (cat [true, true, true, true] C5) (envOf [(0, x0), (3, x3)]) h K5 = (gr (acall Try.prog Nt 14 [x3] h) fun r19 h20 => gv (alenS r19) fun m21 => J5_7' lp jn x0 x3 r19 r19 (m21 : Int) 0 h20) := by kernel_rfl
theorem J5_5_eq (x0 : AV) (x3 : AV) (h : AHeap) : J5_5 x0 x3 h = (gr (acall Try.prog Nt 14 [x3] h) fun r19 h20 => gv (alenS r19) fun m21 => J5_7 x0 x3 r19 r19 (m21 : Int) 0 h20) := J5_5_g aloop (fun s => s) x0 x3 h
theorem J5_6_g (lp : Loop) (jn : Join) (x0 : AV) (x3 : AV) (x4 : Int) (h : AHeap) : codeJ Try.prog Nt lp jn 85 (nat' [true, true, true, false, true, false, false, true, true] A5) (cat [true, true, true, false, true, false, false, true, true] C5) (envOf [(0, x0), (3, x3), (4, (.int .i64 x4))]) h (K5_3 lp jn) = (J5_2' lp jn x0 x3 (IntKind.i64.wrap (x4 + 1)) h) := by kernel_rfl
theorem J5_6_eq (x0 : AV) (x3 : AV) (x4 : Int) (h : AHeap) : J5_6 x0 x3 x4 h = (J5_2 x0 x3 (IntKind.i64.wrap (x4 + 1)) h) := J5_6_g aloop (fun s => s) x0 x3 x4 h
theorem J5_7_g (lp : Loop) (jn : Join) (x0 : AV) (x3 : AV) (x7 : AV) (x44 : AV) (x45 : Int) (x46 : Int) (h : AHeap) : codeJ Try.prog Nt lp jn 85 (nat' [true, true, true, true, true, false, true, false, false] A5) (cat [true, true, true, true, true, false, true, false, false] C5) (envOf [(0, x0), (3, x3), (7, x7), (44, x44), (45, (.int .i64 x45)), (46, (.int .i64 x46))]) h (kloop (lp (some [0, 3, 7, 44, 45, 46]) (codeJ Try.prog Nt lp jn 85 (nat' [true, true, true, true, true, false, true, false, false] A5) (cat [true, true, true, true, true, false, true, false, false] C5))) (some [0, 3, 7, 44, 45, 46]) (K5_6 lp jn)) = (gc (decide (x46 < x45)) (J5_8' lp jn x0 x3 x7 x44 x45 x46 h) (J5_9' lp jn x0 x3 x7 h)) := by kernel_rfl
theorem J5_7_eq (x0 : AV) (x3 : AV) (x7 : AV) (x44 : AV) (x45 : Int) (x46 : Int) (h : AHeap) : J5_7 x0 x3 x7 x44 x45 x46 h = (gc (decide (x46 < x45)) (J5_8 x0 x3 x7 x44 x45 x46 h) (J5_9 x0 x3 x7 h)) := (aloop_at (some [0, 3, 7, 44, 45, 46]) (nat' [true, true, true, true, true, false, true, false, false] A5) (cat [true, true, true, true, true, false, true, false, false] C5) (envOf [(0, x0), (3, x3), (7, x7), (44, x44), (45, (.int .i64 x45)), (46, (.int .i64 x46))]) h (K5_6 aloop (fun s => s))).trans (J5_7_g aloop (fun s => s) x0 x3 x7 x44 x45 x46 h)
theorem J5_8_g (lp : Loop) (jn : Join) (x0 : AV) (x3 : AV) (x7 : AV) (x44 : AV) (x45 : Int) (x46 : Int) (h : AHeap) : codeJ Try.prog Nt lp jn 85 (nat' [true, true, true, true, true, false, true, false, false, true, true] A5) (cat [true, true, true, true, true, false, true, false, false, true, true] C5) (envOf [(0, x0), (3, x3), (7, x7), (44, x44), (45, (.int .i64 x45)), (46, (.int .i64 x46))]) h (K5_7 lp jn) = (gv (aixS 5 x44 x46) fun v22 => gv (aload true 5 v22 h) fun v23 => gN h [(.int .u32 0), (.int .u8 0), (.int .u8 0), (.int .u8 0), (.int .u8 0)] fun b24 h25 => gv (astore true 5 (.ptr b24 0) v23 h25) fun h26 => gv (aload true 5 (.ptr b24 0) h26) fun v27 => gv (aixS 1 x0 x46) fun v28 => gv (aload false 1 v28 h26) fun v29 => gI .i64 v29 fun n30 => gv (abin Try.prog .neq 54 (aeqOk Try.prog 54 (.tmp 51) (.tmp 61) v27 (.agg [(.int .u32 (IntKind.u32.wrap x46)), (.int .u8 3), (.int .u8 0), (.int .u8 (IntKind.u8.wrap ((IntKind.u64.wrap n30).tmod 4))), (.int .u8 0)])) v27 (.agg [(.int .u32 (IntKind.u32.wrap x46)), (.int .u8 3), (.int .u8 0), (.int .u8 (IntKind.u8.wrap ((IntKind.u64.wrap n30).tmod 4))), (.int .u8 0)])) fun v31 => gB v31 fun b32 => gc b32 (some ((.bool false), h26)) (J5_10' lp jn x0 x3 x7 x44 x45 x46 h26)) := by kernel_rfl
theorem J5_8_eq (x0 : AV) (x3 : AV) (x7 : AV) (x44 : AV) (x45 : Int) (x46 : Int) (h : AHeap) : J5_8 x0 x3 x7 x44 x45 x46 h = (gv (aixS 5 x44 x46) fun v22 => gv (aload true 5 v22 h) fun v23 => gN h [(.int .u32 0), (.int .u8 0), (.int .u8 0), (.int .u8 0), (.int .u8 0)] fun b24 h25 => gv (astore true 5 (.ptr b24 0) v23 h25) fun h26 => gv (aload true 5 (.ptr b24 0) h26) fun v27 => gv (aixS 1 x0 x46) fun v28 => gv (aload false 1 v28 h26) fun v29 => gI .i64 v29 fun n30 => gv (abin Try.prog .neq 54 (aeqOk Try.prog 54 (.tmp 51) (.tmp 61) v27 (.agg [(.int .u32 (IntKind.u32.wrap x46)), (.int .u8 3), (.int .u8 0), (.int .u8 (IntKind.u8.wrap ((IntKind.u64.wrap n30).tmod 4))), (.int .u8 0)])) v27 (.agg [(.int .u32 (IntKind.u32.wrap x46)), (.int .u8 3), (.int .u8 0), (.int .u8 (IntKind.u8.wrap ((IntKind.u64.wrap n30).tmod 4))), (.int .u8 0)])) fun v31 => gB v31 fun b32 => gc b32 (some ((.bool false), h26)) (J5_10 x0 x3 x7 x44 x45 x46 h26)) := J5_8_g aloop (fun s => s) x0 x3 x7 x44 x45 x46 h
theorem J5_9_g (lp : Loop) (jn : Join) (x0 : AV) (x3 : AV) (x7 : AV) (h : AHeap) : codeJ Try.prog Nt lp jn 85 (nat' [true, true, true, true, true, true] A5) (cat [true, true, true, true, true, true] C5) (envOf [(0, x0), (3, x3), (7, x7)]) h K5 = (gr (acall Try.prog Nt 14 [x3] h) fun r33 h34 => gv (alenS r33) fun m35 => gr (acall Try.prog Nt 16 [x3, (.int .u32 9), (.int .i64 0), (.int .u8 0)] h34) fun r36 h37 => gv (alenS x7) fun m38 => gv (alenS x0) fun m39 => gi ((m38 : Int) == (if 4 < (if 30 < (m39 : Int) then 30 else (m39 : Int)) then 4 else (if 30 < (m39 : Int) then 30 else (m39 : Int)))) (gi ((m35 : Int) == 0) (gr (acall Try.prog Nt 14 [x3] h37) fun r40 h41 => gv (alenS r40) fun m42 => some ((.bool ((m42 : Int) == 1)), h41)) (some ((.bool false), h37))) (some ((.bool false), h37))) := by kernel_rfl
theorem J5_9_eq (x0 : AV) (x3 : AV) (x7 : AV) (h : AHeap) : J5_9 x0 x3 x7 h = (gr (acall Try.prog Nt 14 [x3] h) fun r33 h34 => gv (alenS r33) fun m35 => gr (acall Try.prog Nt 16 [x3, (.int .u32 9), (.int .i64 0), (.int .u8 0)] h34) fun r36 h37 => gv (alenS x7) fun m38 => gv (alenS x0) fun m39 => gi ((m38 : Int) == (if 4 < (if 30 < (m39 : Int) then 30 else (m39 : Int)) then 4 else (if 30 < (m39 : Int) then 30 else (m39 : Int)))) (gi ((m35 : Int) == 0) (gr (acall Try.prog Nt 14 [x3] h37) fun r40 h41 => gv (alenS r40) fun m42 => some ((.bool ((m42 : Int) == 1)), h41)) (some ((.bool false), h37))) (some ((.bool false), h37))) := J5_9_g aloop (fun s => s) x0 x3 x7 h
theorem J5_10_g (lp : Loop) (jn : Join) (x0 : AV) (x3 : AV) (x7 : AV) (x44 : AV) (x45 : Int) (x46 : Int) (h : AHeap) : codeJ Try.prog Nt lp jn 85 (nat' [true, true, true, true, true, false, true, false, false, true, true, true] A5) (cat [true, true, true, true, true, false, true, false, false, true, true, true] C5) (envOf [(0, x0), (3, x3), (7, x7), (44, x44), (45, (.int .i64 x45)), (46, (.int .i64 x46))]) h (K5_7 lp jn) = (J5_7' lp jn x0 x3 x7 x44 x45 (IntKind.i64.wrap (x46 + 1)) h) := by kernel_rfl
theorem J5_10_eq (x0 : AV) (x3 : AV) (x7 : AV) (x44 : AV) (x45 : Int) (x46 : Int) (h : AHeap) : J5_10 x0 x3 x7 x44 x45 x46 h = (J5_7 x0 x3 x7 x44 x45 (IntKind.i64.wrap (x46 + 1)) h) := J5_10_g aloop (fun s => s) x0 x3 x7 x44 x45 x46 h
theorem E5_g (lp : Loop) (jn : Join) (x0 : AV) (h : AHeap) : codeJ Try.prog Nt lp jn 85 (Nt 5) C5 (args [x0]) h K5 = (gr (acall Try.prog Nt 10 [] h) fun r1 h2 => gB r1 fun b3 => gc (!b3) (some ((.bool false), h2)) (J5_1' lp jn x0 h2)) := by kernel_rfl
theorem E5 (x0 : AV) (h : AHeap) : acall Try.prog Nt 5 [x0] h = (gr (acall Try.prog Nt 10 [] h) fun r1 h2 => gB r1 fun b3 => gc (!b3) (some ((.bool false), h2)) (J5_1 x0 h2)) := (acall_at rfl Try.func5 _ h 85 rfl (c := C5) rfl).trans (E5_g aloop (fun s => s) x0 h)
end Go.Ab
end
section
/-
  HealthSeals.
-/
namespace Go.Ab
open Go.Proofs

def p0 : Part := ⟨0, 0, 0, 0, 0, 0, 0, 0, 0⟩
def kd (n : Int) : Int := (IntKind.u64.wrap n).tmod 4
theorem kd_lt (n : Int) : 0 ≤ kd n ∧ kd n < 4 := u64tmod n 4 (by omega)
theorem kd_w (n : Int) : IntKind.u8.wrap ((IntKind.u64.wrap n).tmod 4) = kd n := wrapu8_id (kd_lt n).1 (by have := (kd_lt n).2; unfold kd at this; omega)
/-- The records of the first reports. -/
def recs (l : List Int) (i : Nat) : List Rcd := (List.range (min i 4)).map fun j : Nat => ⟨(j : Int), 3, 0, kd (l.getD j 0), 0⟩
theorem recs_step (l : List Int) (i : Nat) (h : i < 4) : recs l (i + 1) = recs l i ++ [⟨i, 3, 0, kd (l.getD i 0), 0⟩] := by
  unfold recs
  rw [Nat.min_eq_left (by omega), Nat.min_eq_left (by omega), List.range_succ, List.map_append]
  rfl
theorem recs_stay (l : List Int) (i : Nat) (h : 4 ≤ i) : recs l (i + 1) = recs l i := by
  unfold recs
  rw [Nat.min_eq_right (by omega), Nat.min_eq_right (by omega)]
theorem recs_len (l : List Int) (i : Nat) : (recs l i).length = min i 4 := by simp [recs]
theorem ne_rcd' (o1 o2 : Operand) (a b c d e a' b' c' d' e' : Int) : abin Try.prog .neq 54 (aeqOk Try.prog 54 o1 o2 (.agg [.int .u32 a, .int .u8 b, .int .u8 c, .int .u8 d, .int .u8 e]) (.agg [.int .u32 a', .int .u8 b', .int .u8 c', .int .u8 d', .int .u8 e'])) (.agg [.int .u32 a, .int .u8 b, .int .u8 c, .int .u8 d, .int .u8 e]) (.agg [.int .u32 a', .int .u8 b', .int .u8 c', .int .u8 d', .int .u8 e'])
    = (if (a == a') = true then (if (b == b') = true then (if (c == c') = true then (if (d == d') = true then (if (e == e') = true then some true else some false) else some false) else some false) else some false) else some false).map fun b => AV.bool !b := by kernel_rfl
theorem ne_rcd (o1 o2 : Operand) (r s : Rcd) : abin Try.prog .neq 54 (aeqOk Try.prog 54 o1 o2 (.agg r.cells) (.agg s.cells)) (.agg r.cells) (.agg s.cells) = some (.bool (decide (r ≠ s))) := by
  obtain ⟨a, b, c, d, e⟩ := r
  obtain ⟨a', b', c', d', e'⟩ := s
  simp only [Rcd.cells]
  rw [ne_rcd']
  by_cases h1 : a = a'
  · by_cases h2 : b = b'
    · by_cases h3 : c = c'
      · by_cases h4 : d = d'
        · by_cases h5 : e = e' <;> simp [h1, h2, h3, h4, h5]
        · simp [h1, h2, h3, h4]
      · simp [h1, h2, h3]
    · simp [h1, h2]
  · simp [h1]
theorem p0_act (m : Mon) (hp : m.parts = [p0]) (k : Nat) : m.act 0 k = 0 := by
  rw [Mon.act, hp]
  show p0.rc k = 0
  match k with
  | 0 => rfl
  | 1 => rfl
  | 2 => rfl
  | 3 => rfl
  | k + 4 => rfl
theorem p0_rep (m : Mon) (hp : m.parts = [p0]) (r : Int) (k : Nat) : (m.rep r 0 k).out = if m.out.length < 4 then m.out ++ [⟨r, IntKind.u8.wrap m.node, 0, k, 0⟩] else m.out := by
  have ha := p0_act m hp k
  have et : m.turn r 0 k = m := by unfold Mon.turn; rw [if_neg (by rw [ha]; omega)]
  have ed : m.did r 0 k = 0 := by unfold Mon.did; rw [if_neg (by rw [ha]; omega), ha]
  unfold Mon.rep Mon.push
  rw [et, ed]
  split <;> rfl
section
variable (h0 : AHeap) (l : List Int) (x0 : AV) (sx : Sl h0 1 encI l x0)
include sx
/-- The second half: what was sealed is looked through. -/
theorem sealsLook (n : Nat) (hn : n = min l.length 30) (b : Nat) (m : Mon) (x7 : AV) (hp : m.parts = [p0]) (ho : m.out = []) (hok : m.ok 0) : ∀ (s : List Rcd) (j : Nat) (F Fo : List Nat) (g : AHeap), (recs l n).drop j = s →
    MonAt .u32 (h0 ++ g) b m F → OwB (h0 ++ g) 5 Rcd.cells (recs l n) x7 Fo → (∀ x ∈ Fo, x ∉ F) → (∀ x ∈ F, h0.length ≤ x) → (∀ x ∈ Fo, h0.length ≤ x) →
    Post (J5_7 x0 (.ptr b 0) x7 x7 ((recs l n).length : Int) (j : Int) (h0 ++ g)) fun v _ => v = .bool true := by
  intro s
  induction s with
  | nil =>
    intro j F Fo g hs hm hl hd hF hFo
    have := drop_nil hs
    rw [J5_7_eq, decide_eq_false (by omega), J5_9_eq]
    simp (dsimp := false) (implicitDefEqProofs := false) (disch := omega) only [gv_some, gr_some, gI_int, gB_bool, gS_str, gc_t, gc_f, gi_t, gi_f, gN_eq, gf_t, Option.bind_some, Option.bind_none, Option.map_some, acells_agg, acells_int, acells_bool, acells_str, acells_ptr, acells_sl, acells_nilsl, acells_nilptr, acells_iface, acells_niliface, aptr_ptr, anil_ptr, aextract_0, aextract_1, aextract_2, alenS_sl, alenS_nil, alenOf_sl, alenOf_nil, apartOf_agg, apart_t, apart_f, astore_ptr, hset_at0, hset_at, hs_same, hs_ne, len_hset, List.set_cons_zero, List.set_cons_succ, set_app, set_app0, aload_ptr, splice_eq, List.drop_nil, List.append_nil, isCell_int, isCell_bool, isCell_str, isCell_ptr, isCell_sl, isCell_nilsl, isCell_nilptr, isCell_iface, isCell_niliface, List.all_cons, List.all_nil, Bool.and_self, hget_at0, hget_at, len_app, List.length_cons, List.length_nil, get_app, get_app0, List.getElem?_cons_zero, List.getElem?_cons_succ, join_some, List.append_assoc, List.cons_append, List.nil_append, Nat.zero_add, Nat.add_zero, Nat.mul_one, chkRd_eq, chkAl_blk, if_true, if_false, Bool.false_eq_true, List.drop_succ_cons, List.drop_zero, List.take_succ_cons, List.take_zero, Bool.and_true, Bool.true_and, decide_true, decide_false, wrap64_id, aixG_eq, Nat.reduceAdd, Nat.reduceSub, Nat.reduceMul, Nat.reduceLeDiff, Nat.reduceLT, Int.reduceAdd, Int.reduceSub, Int.reduceMul, Int.reduceNeg, Int.reduceLT, Int.reduceLE, Int.reduceGT, Int.reduceGE, Int.reduceToNat, ↓reduceIte, and_self, true_and, and_true]
    refine Post.bind (c_seal _ b m F hm) ?_
    rintro v h1 ⟨F1, F2, m2, o2, _, _, f2⟩
    rw [ho] at o2
    refine Post.val o2.slb.sl.len ?_
    refine Post.bind (c_report _ b _ F2 m2 0 ⟨hok.last, hok.again⟩ (by omega) 9 (by omega) 0 0 (by omega)) ?_
    intro v h2 hv
    have tk : Mon.takes { m with out := [] } 9 0 0 = true := by simp [Mon.takes, hp]
    rw [tk, if_pos rfl] at hv
    obtain ⟨rfl, F3, m3, f3⟩ := hv
    refine Post.val hl.slb.sl.len ?_
    have fx := (f2.trans f3).grow hF
    obtain ⟨⟨g', rfl⟩, hF'⟩ := fx
    refine Post.val (sx.app g').len ?_
    have c1 : ((((recs l n).length : Int) == (if 4 < (if 30 < (l.length : Int) then 30 else (l.length : Int)) then 4 else (if 30 < (l.length : Int) then 30 else (l.length : Int))))) = true := by
      rw [recs_len]
      simp only [beq_iff_eq]
      split <;> split <;> omega
    have c2 : ((([] : List Rcd).length : Int) == 0) = true := rfl
    simp (dsimp := false) (implicitDefEqProofs := false) (disch := omega) only [gv_some, gr_some, gI_int, gB_bool, gS_str, gc_t, gc_f, gi_t, gi_f, gN_eq, gf_t, Option.bind_some, Option.bind_none, Option.map_some, acells_agg, acells_int, acells_bool, acells_str, acells_ptr, acells_sl, acells_nilsl, acells_nilptr, acells_iface, acells_niliface, aptr_ptr, anil_ptr, aextract_0, aextract_1, aextract_2, alenS_sl, alenS_nil, alenOf_sl, alenOf_nil, apartOf_agg, apart_t, apart_f, astore_ptr, hset_at0, hset_at, hs_same, hs_ne, len_hset, List.set_cons_zero, List.set_cons_succ, set_app, set_app0, aload_ptr, splice_eq, List.drop_nil, List.append_nil, isCell_int, isCell_bool, isCell_str, isCell_ptr, isCell_sl, isCell_nilsl, isCell_nilptr, isCell_iface, isCell_niliface, List.all_cons, List.all_nil, Bool.and_self, hget_at0, hget_at, len_app, List.length_cons, List.length_nil, get_app, get_app0, List.getElem?_cons_zero, List.getElem?_cons_succ, join_some, List.append_assoc, List.cons_append, List.nil_append, Nat.zero_add, Nat.add_zero, Nat.mul_one, chkRd_eq, chkAl_blk, if_true, if_false, Bool.false_eq_true, List.drop_succ_cons, List.drop_zero, List.take_succ_cons, List.take_zero, Bool.and_true, Bool.true_and, decide_true, decide_false, wrap64_id, aixG_eq, Nat.reduceAdd, Nat.reduceSub, Nat.reduceMul, Nat.reduceLeDiff, Nat.reduceLT, Int.reduceAdd, Int.reduceSub, Int.reduceMul, Int.reduceNeg, Int.reduceLT, Int.reduceLE, Int.reduceGT, Int.reduceGE, Int.reduceToNat, ↓reduceIte, and_self, true_and, and_true, c1]
    have c2' : (((0 : Nat) : Int) == 0) = true := rfl
    rw [c2']
    simp (dsimp := false) (implicitDefEqProofs := false) (disch := omega) only [gv_some, gr_some, gI_int, gB_bool, gS_str, gc_t, gc_f, gi_t, gi_f, gN_eq, gf_t, Option.bind_some, Option.bind_none, Option.map_some, acells_agg, acells_int, acells_bool, acells_str, acells_ptr, acells_sl, acells_nilsl, acells_nilptr, acells_iface, acells_niliface, aptr_ptr, anil_ptr, aextract_0, aextract_1, aextract_2, alenS_sl, alenS_nil, alenOf_sl, alenOf_nil, apartOf_agg, apart_t, apart_f, astore_ptr, hset_at0, hset_at, hs_same, hs_ne, len_hset, List.set_cons_zero, List.set_cons_succ, set_app, set_app0, aload_ptr, splice_eq, List.drop_nil, List.append_nil, isCell_int, isCell_bool, isCell_str, isCell_ptr, isCell_sl, isCell_nilsl, isCell_nilptr, isCell_iface, isCell_niliface, List.all_cons, List.all_nil, Bool.and_self, hget_at0, hget_at, len_app, List.length_cons, List.length_nil, get_app, get_app0, List.getElem?_cons_zero, List.getElem?_cons_succ, join_some, List.append_assoc, List.cons_append, List.nil_append, Nat.zero_add, Nat.add_zero, Nat.mul_one, chkRd_eq, chkAl_blk, if_true, if_false, Bool.false_eq_true, List.drop_succ_cons, List.drop_zero, List.take_succ_cons, List.take_zero, Bool.and_true, Bool.true_and, decide_true, decide_false, wrap64_id, aixG_eq, Nat.reduceAdd, Nat.reduceSub, Nat.reduceMul, Nat.reduceLeDiff, Nat.reduceLT, Int.reduceAdd, Int.reduceSub, Int.reduceMul, Int.reduceNeg, Int.reduceLT, Int.reduceLE, Int.reduceGT, Int.reduceGE, Int.reduceToNat, ↓reduceIte, and_self, true_and, and_true]
    refine Post.bind (c_seal _ b _ F3 m3) ?_
    rintro v h4 ⟨F5, F6, m6, o6, _, _, _⟩
    have e1 : (({ m with out := [] } : Mon).rep 9 0 0).out.length = 1 := by
      rw [p0_rep { m with out := [] } hp 9 0]; rfl
    refine Post.val o6.slb.sl.len ?_
    have e1' : (Mon.rep { m with out := [] } 9 (Int.toNat 0) (Int.toNat 0)).out.length = 1 := e1
    rw [e1']
    exact Post.done rfl
  | cons a s ih =>
    intro j F Fo g hs hm hl hd hF hFo
    obtain ⟨hk, ha, hs'⟩ := drop_cons hs
    have hj : j < n ∧ j < 4 := by rw [recs_len] at hk; omega
    have ea : a = ⟨(j : Int), 3, 0, kd (l.getD j 0), 0⟩ := by
      rw [← ha]; simp [recs]
    rw [J5_7_eq, decide_eq_true (by omega)]
    obtain ⟨eb, eo, ix, at1⟩ := hl.slb.sl.elem Rcd.len j hk
    rw [ha] at at1
    obtain ⟨kb, ko, kx, ka⟩ := sx.elem encI_len j (by omega)
    simp (dsimp := false) (implicitDefEqProofs := false) (disch := omega) only [gv_some, gr_some, gI_int, gB_bool, gS_str, gc_t, gc_f, gi_t, gi_f, gN_eq, gf_t, Option.bind_some, Option.bind_none, Option.map_some, acells_agg, acells_int, acells_bool, acells_str, acells_ptr, acells_sl, acells_nilsl, acells_nilptr, acells_iface, acells_niliface, aptr_ptr, anil_ptr, aextract_0, aextract_1, aextract_2, alenS_sl, alenS_nil, alenOf_sl, alenOf_nil, apartOf_agg, apart_t, apart_f, astore_ptr, hset_at0, hset_at, hs_same, hs_ne, len_hset, List.set_cons_zero, List.set_cons_succ, set_app, set_app0, aload_ptr, splice_eq, List.drop_nil, List.append_nil, isCell_int, isCell_bool, isCell_str, isCell_ptr, isCell_sl, isCell_nilsl, isCell_nilptr, isCell_iface, isCell_niliface, List.all_cons, List.all_nil, Bool.and_self, hget_at0, hget_at, len_app, List.length_cons, List.length_nil, get_app, get_app0, List.getElem?_cons_zero, List.getElem?_cons_succ, join_some, List.append_assoc, List.cons_append, List.nil_append, Nat.zero_add, Nat.add_zero, Nat.mul_one, chkRd_eq, chkAl_blk, if_true, if_false, Bool.false_eq_true, List.drop_succ_cons, List.drop_zero, List.take_succ_cons, List.take_zero, Bool.and_true, Bool.true_and, decide_true, decide_false, wrap64_id, aixG_eq, Nat.reduceAdd, Nat.reduceSub, Nat.reduceMul, Nat.reduceLeDiff, Nat.reduceLT, Int.reduceAdd, Int.reduceSub, Int.reduceMul, Int.reduceNeg, Int.reduceLT, Int.reduceLE, Int.reduceGT, Int.reduceGE, Int.reduceToNat, ↓reduceIte, and_self, true_and, and_true, J5_8_eq]
    refine Post.val ix ?_
    refine Post.val (at1.loadN 5 rfl) ?_
    have ec : a.cells = [.int .u32 a.round, .int .u8 a.node, .int .u8 a.part, .int .u8 a.kind, .int .u8 a.did] := rfl
    simp (dsimp := false) (implicitDefEqProofs := false) (disch := omega) only [gv_some, gr_some, gI_int, gB_bool, gS_str, gc_t, gc_f, gi_t, gi_f, gN_eq, gf_t, Option.bind_some, Option.bind_none, Option.map_some, acells_agg, acells_int, acells_bool, acells_str, acells_ptr, acells_sl, acells_nilsl, acells_nilptr, acells_iface, acells_niliface, aptr_ptr, anil_ptr, aextract_0, aextract_1, aextract_2, alenS_sl, alenS_nil, alenOf_sl, alenOf_nil, apartOf_agg, apart_t, apart_f, astore_ptr, hset_at0, hset_at, hs_same, hs_ne, len_hset, List.set_cons_zero, List.set_cons_succ, set_app, set_app0, aload_ptr, splice_eq, List.drop_nil, List.append_nil, isCell_int, isCell_bool, isCell_str, isCell_ptr, isCell_sl, isCell_nilsl, isCell_nilptr, isCell_iface, isCell_niliface, List.all_cons, List.all_nil, Bool.and_self, hget_at0, hget_at, len_app, List.length_cons, List.length_nil, get_app, get_app0, List.getElem?_cons_zero, List.getElem?_cons_succ, join_some, List.append_assoc, List.cons_append, List.nil_append, Nat.zero_add, Nat.add_zero, Nat.mul_one, chkRd_eq, chkAl_blk, if_true, if_false, Bool.false_eq_true, List.drop_succ_cons, List.drop_zero, List.take_succ_cons, List.take_zero, Bool.and_true, Bool.true_and, decide_true, decide_false, wrap64_id, aixG_eq, Nat.reduceAdd, Nat.reduceSub, Nat.reduceMul, Nat.reduceLeDiff, Nat.reduceLT, Int.reduceAdd, Int.reduceSub, Int.reduceMul, Int.reduceNeg, Int.reduceLT, Int.reduceLE, Int.reduceGT, Int.reduceGE, Int.reduceToNat, ↓reduceIte, and_self, true_and, and_true, ec]
    refine Post.val kx ?_
    refine Post.val ((ka.app _).load0 1) ?_
    have ew : IntKind.u32.wrap (j : Int) = j := wrapu32_id (by omega) (by omega)
    simp (dsimp := false) (implicitDefEqProofs := false) (disch := omega) only [gv_some, gr_some, gI_int, gB_bool, gS_str, gc_t, gc_f, gi_t, gi_f, gN_eq, gf_t, Option.bind_some, Option.bind_none, Option.map_some, acells_agg, acells_int, acells_bool, acells_str, acells_ptr, acells_sl, acells_nilsl, acells_nilptr, acells_iface, acells_niliface, aptr_ptr, anil_ptr, aextract_0, aextract_1, aextract_2, alenS_sl, alenS_nil, alenOf_sl, alenOf_nil, apartOf_agg, apart_t, apart_f, astore_ptr, hset_at0, hset_at, hs_same, hs_ne, len_hset, List.set_cons_zero, List.set_cons_succ, set_app, set_app0, aload_ptr, splice_eq, List.drop_nil, List.append_nil, isCell_int, isCell_bool, isCell_str, isCell_ptr, isCell_sl, isCell_nilsl, isCell_nilptr, isCell_iface, isCell_niliface, List.all_cons, List.all_nil, Bool.and_self, hget_at0, hget_at, len_app, List.length_cons, List.length_nil, get_app, get_app0, List.getElem?_cons_zero, List.getElem?_cons_succ, join_some, List.append_assoc, List.cons_append, List.nil_append, Nat.zero_add, Nat.add_zero, Nat.mul_one, chkRd_eq, chkAl_blk, if_true, if_false, Bool.false_eq_true, List.drop_succ_cons, List.drop_zero, List.take_succ_cons, List.take_zero, Bool.and_true, Bool.true_and, decide_true, decide_false, wrap64_id, aixG_eq, Nat.reduceAdd, Nat.reduceSub, Nat.reduceMul, Nat.reduceLeDiff, Nat.reduceLT, Int.reduceAdd, Int.reduceSub, Int.reduceMul, Int.reduceNeg, Int.reduceLT, Int.reduceLE, Int.reduceGT, Int.reduceGE, Int.reduceToNat, ↓reduceIte, and_self, true_and, and_true, ew, kd_w]
    have lj : l[j]'(by omega) = l.getD j 0 := by simp [List.getD, show j < l.length by omega]
    have ne := ne_rcd (.tmp 51) (.tmp 61) a ⟨(j : Int), 3, 0, kd (l.getD j 0), 0⟩
    rw [lj]
    refine Post.val ne ?_
    have e0 : decide (a ≠ ⟨(j : Int), 3, 0, kd (l.getD j 0), 0⟩) = false := by simp [ea]
    rw [e0]
    simp (dsimp := false) (implicitDefEqProofs := false) (disch := omega) only [gv_some, gr_some, gI_int, gB_bool, gS_str, gc_t, gc_f, gi_t, gi_f, gN_eq, gf_t, Option.bind_some, Option.bind_none, Option.map_some, acells_agg, acells_int, acells_bool, acells_str, acells_ptr, acells_sl, acells_nilsl, acells_nilptr, acells_iface, acells_niliface, aptr_ptr, anil_ptr, aextract_0, aextract_1, aextract_2, alenS_sl, alenS_nil, alenOf_sl, alenOf_nil, apartOf_agg, apart_t, apart_f, astore_ptr, hset_at0, hset_at, hs_same, hs_ne, len_hset, List.set_cons_zero, List.set_cons_succ, set_app, set_app0, aload_ptr, splice_eq, List.drop_nil, List.append_nil, isCell_int, isCell_bool, isCell_str, isCell_ptr, isCell_sl, isCell_nilsl, isCell_nilptr, isCell_iface, isCell_niliface, List.all_cons, List.all_nil, Bool.and_self, hget_at0, hget_at, len_app, List.length_cons, List.length_nil, get_app, get_app0, List.getElem?_cons_zero, List.getElem?_cons_succ, join_some, List.append_assoc, List.cons_append, List.nil_append, Nat.zero_add, Nat.add_zero, Nat.mul_one, chkRd_eq, chkAl_blk, if_true, if_false, Bool.false_eq_true, List.drop_succ_cons, List.drop_zero, List.take_succ_cons, List.take_zero, Bool.and_true, Bool.true_and, decide_true, decide_false, wrap64_id, aixG_eq, Nat.reduceAdd, Nat.reduceSub, Nat.reduceMul, Nat.reduceLeDiff, Nat.reduceLT, Int.reduceAdd, Int.reduceSub, Int.reduceMul, Int.reduceNeg, Int.reduceLT, Int.reduceLE, Int.reduceGT, Int.reduceGE, Int.reduceToNat, ↓reduceIte, and_self, true_and, and_true]
    rw [J5_10_eq, wsucc (by omega)]
    refine ih (j + 1) F Fo _ hs' ?_ ?_ hd hF hFo
    · rw [← List.append_assoc]; exact hm.keep fun x hx => hget_old _ (hm.lt x hx)
    · rw [← List.append_assoc]; exact hl.keep fun x hx => hget_old _ (hl.slb.lt x hx)
theorem sealsLoop : ∀ (s : List Int) (i : Nat) (b : Nat) (m : Mon) (F : List Nat) (g : AHeap), l.drop i = s → i ≤ 30 → i ≤ l.length → MonAt .u32 (h0 ++ g) b m F → (∀ x ∈ F, h0.length ≤ x) → m.parts = [p0] → m.node = 3 → m.out = recs l i → m.ok 0 →
    Post (J5_2 x0 (.ptr b 0) (i : Int) (h0 ++ g)) fun v _ => v = .bool true := by
  intro s
  have look : ∀ (i b : Nat) (m : Mon) (F : List Nat) (g : AHeap), i = min l.length 30 → MonAt .u32 (h0 ++ g) b m F → (∀ x ∈ F, h0.length ≤ x) → m.parts = [p0] → m.out = recs l i → m.ok 0 → Post (J5_5 x0 (.ptr b 0) (h0 ++ g)) fun v _ => v = .bool true := by
    intro i b m F g hi hm hF hp ho hok
    rw [J5_5_eq]
    refine Post.bind (c_seal _ b m F hm) ?_
    rintro v h1 ⟨Fo, F', hm', hl, hd, hs, fr⟩
    obtain ⟨⟨g', rfl⟩, hF'⟩ := fr.grow hF
    refine Post.val hl.slb.sl.len ?_
    rw [ho] at hl ⊢
    exact sealsLook h0 l x0 sx i hi b { m with out := [] } v hp rfl ⟨hok.last, hok.again⟩ _ 0 F' Fo g' rfl hm' hl hd hF' (fun x hx => hF x (hs x hx))
  induction s with
  | nil =>
    intro i b m F g hs hi hi2 hm hF hp hnode ho hok
    have := drop_nil hs
    rw [J5_2_eq]
    simp (dsimp := false) (implicitDefEqProofs := false) (disch := omega) only [gv_some, gr_some, gI_int, gB_bool, gS_str, gc_t, gc_f, gi_t, gi_f, gN_eq, gf_t, Option.bind_some, Option.bind_none, Option.map_some, acells_agg, acells_int, acells_bool, acells_str, acells_ptr, acells_sl, acells_nilsl, acells_nilptr, acells_iface, acells_niliface, aptr_ptr, anil_ptr, aextract_0, aextract_1, aextract_2, alenS_sl, alenS_nil, alenOf_sl, alenOf_nil, apartOf_agg, apart_t, apart_f, astore_ptr, hset_at0, hset_at, hs_same, hs_ne, len_hset, List.set_cons_zero, List.set_cons_succ, set_app, set_app0, aload_ptr, splice_eq, List.drop_nil, List.append_nil, isCell_int, isCell_bool, isCell_str, isCell_ptr, isCell_sl, isCell_nilsl, isCell_nilptr, isCell_iface, isCell_niliface, List.all_cons, List.all_nil, Bool.and_self, hget_at0, hget_at, len_app, List.length_cons, List.length_nil, get_app, get_app0, List.getElem?_cons_zero, List.getElem?_cons_succ, join_some, List.append_assoc, List.cons_append, List.nil_append, Nat.zero_add, Nat.add_zero, Nat.mul_one, chkRd_eq, chkAl_blk, if_true, if_false, Bool.false_eq_true, List.drop_succ_cons, List.drop_zero, List.take_succ_cons, List.take_zero, Bool.and_true, Bool.true_and, decide_true, decide_false, wrap64_id, aixG_eq, Nat.reduceAdd, Nat.reduceSub, Nat.reduceMul, Nat.reduceLeDiff, Nat.reduceLT, Int.reduceAdd, Int.reduceSub, Int.reduceMul, Int.reduceNeg, Int.reduceLT, Int.reduceLE, Int.reduceGT, Int.reduceGE, Int.reduceToNat, ↓reduceIte, and_self, true_and, and_true, (sx.app g).len]
    rw [decide_eq_false (by omega)]
    simp (dsimp := false) (implicitDefEqProofs := false) (disch := omega) only [gv_some, gr_some, gI_int, gB_bool, gS_str, gc_t, gc_f, gi_t, gi_f, gN_eq, gf_t, Option.bind_some, Option.bind_none, Option.map_some, acells_agg, acells_int, acells_bool, acells_str, acells_ptr, acells_sl, acells_nilsl, acells_nilptr, acells_iface, acells_niliface, aptr_ptr, anil_ptr, aextract_0, aextract_1, aextract_2, alenS_sl, alenS_nil, alenOf_sl, alenOf_nil, apartOf_agg, apart_t, apart_f, astore_ptr, hset_at0, hset_at, hs_same, hs_ne, len_hset, List.set_cons_zero, List.set_cons_succ, set_app, set_app0, aload_ptr, splice_eq, List.drop_nil, List.append_nil, isCell_int, isCell_bool, isCell_str, isCell_ptr, isCell_sl, isCell_nilsl, isCell_nilptr, isCell_iface, isCell_niliface, List.all_cons, List.all_nil, Bool.and_self, hget_at0, hget_at, len_app, List.length_cons, List.length_nil, get_app, get_app0, List.getElem?_cons_zero, List.getElem?_cons_succ, join_some, List.append_assoc, List.cons_append, List.nil_append, Nat.zero_add, Nat.add_zero, Nat.mul_one, chkRd_eq, chkAl_blk, if_true, if_false, Bool.false_eq_true, List.drop_succ_cons, List.drop_zero, List.take_succ_cons, List.take_zero, Bool.and_true, Bool.true_and, decide_true, decide_false, wrap64_id, aixG_eq, Nat.reduceAdd, Nat.reduceSub, Nat.reduceMul, Nat.reduceLeDiff, Nat.reduceLT, Int.reduceAdd, Int.reduceSub, Int.reduceMul, Int.reduceNeg, Int.reduceLT, Int.reduceLE, Int.reduceGT, Int.reduceGE, Int.reduceToNat, ↓reduceIte, and_self, true_and, and_true, J5_3_eq]
    exact look i b m F g (by omega) hm hF hp ho hok
  | cons n s ih =>
    intro i b m F g hs hi hi2 hm hF hp hnode ho hok
    obtain ⟨hk, hn, hs'⟩ := drop_cons hs
    rw [J5_2_eq]
    simp (dsimp := false) (implicitDefEqProofs := false) (disch := omega) only [gv_some, gr_some, gI_int, gB_bool, gS_str, gc_t, gc_f, gi_t, gi_f, gN_eq, gf_t, Option.bind_some, Option.bind_none, Option.map_some, acells_agg, acells_int, acells_bool, acells_str, acells_ptr, acells_sl, acells_nilsl, acells_nilptr, acells_iface, acells_niliface, aptr_ptr, anil_ptr, aextract_0, aextract_1, aextract_2, alenS_sl, alenS_nil, alenOf_sl, alenOf_nil, apartOf_agg, apart_t, apart_f, astore_ptr, hset_at0, hset_at, hs_same, hs_ne, len_hset, List.set_cons_zero, List.set_cons_succ, set_app, set_app0, aload_ptr, splice_eq, List.drop_nil, List.append_nil, isCell_int, isCell_bool, isCell_str, isCell_ptr, isCell_sl, isCell_nilsl, isCell_nilptr, isCell_iface, isCell_niliface, List.all_cons, List.all_nil, Bool.and_self, hget_at0, hget_at, len_app, List.length_cons, List.length_nil, get_app, get_app0, List.getElem?_cons_zero, List.getElem?_cons_succ, join_some, List.append_assoc, List.cons_append, List.nil_append, Nat.zero_add, Nat.add_zero, Nat.mul_one, chkRd_eq, chkAl_blk, if_true, if_false, Bool.false_eq_true, List.drop_succ_cons, List.drop_zero, List.take_succ_cons, List.take_zero, Bool.and_true, Bool.true_and, decide_true, decide_false, wrap64_id, aixG_eq, Nat.reduceAdd, Nat.reduceSub, Nat.reduceMul, Nat.reduceLeDiff, Nat.reduceLT, Int.reduceAdd, Int.reduceSub, Int.reduceMul, Int.reduceNeg, Int.reduceLT, Int.reduceLE, Int.reduceGT, Int.reduceGE, Int.reduceToNat, ↓reduceIte, and_self, true_and, and_true, (sx.app g).len]
    rw [decide_eq_true (by omega)]
    simp (dsimp := false) (implicitDefEqProofs := false) (disch := omega) only [gv_some, gr_some, gI_int, gB_bool, gS_str, gc_t, gc_f, gi_t, gi_f, gN_eq, gf_t, Option.bind_some, Option.bind_none, Option.map_some, acells_agg, acells_int, acells_bool, acells_str, acells_ptr, acells_sl, acells_nilsl, acells_nilptr, acells_iface, acells_niliface, aptr_ptr, anil_ptr, aextract_0, aextract_1, aextract_2, alenS_sl, alenS_nil, alenOf_sl, alenOf_nil, apartOf_agg, apart_t, apart_f, astore_ptr, hset_at0, hset_at, hs_same, hs_ne, len_hset, List.set_cons_zero, List.set_cons_succ, set_app, set_app0, aload_ptr, splice_eq, List.drop_nil, List.append_nil, isCell_int, isCell_bool, isCell_str, isCell_ptr, isCell_sl, isCell_nilsl, isCell_nilptr, isCell_iface, isCell_niliface, List.all_cons, List.all_nil, Bool.and_self, hget_at0, hget_at, len_app, List.length_cons, List.length_nil, get_app, get_app0, List.getElem?_cons_zero, List.getElem?_cons_succ, join_some, List.append_assoc, List.cons_append, List.nil_append, Nat.zero_add, Nat.add_zero, Nat.mul_one, chkRd_eq, chkAl_blk, if_true, if_false, Bool.false_eq_true, List.drop_succ_cons, List.drop_zero, List.take_succ_cons, List.take_zero, Bool.and_true, Bool.true_and, decide_true, decide_false, wrap64_id, aixG_eq, Nat.reduceAdd, Nat.reduceSub, Nat.reduceMul, Nat.reduceLeDiff, Nat.reduceLT, Int.reduceAdd, Int.reduceSub, Int.reduceMul, Int.reduceNeg, Int.reduceLT, Int.reduceLE, Int.reduceGT, Int.reduceGE, Int.reduceToNat, ↓reduceIte, and_self, true_and, and_true, J5_3_eq]
    refine Post.cdd (fun h30 => ?_) fun h30 => look i b m F g (by omega) hm hF hp ho hok
    obtain ⟨eb, eo, ix, ea⟩ := (sx.app g).elem encI_len i hk
    rw [hn] at ea
    rw [J5_4_eq]
    refine Post.val ix ?_
    refine Post.val (ea.load0 1) ?_
    have ew : IntKind.u32.wrap (i : Int) = i := wrapu32_id (by omega) (by omega)
    simp (dsimp := false) (implicitDefEqProofs := false) (disch := omega) only [gv_some, gr_some, gI_int, gB_bool, gS_str, gc_t, gc_f, gi_t, gi_f, gN_eq, gf_t, Option.bind_some, Option.bind_none, Option.map_some, acells_agg, acells_int, acells_bool, acells_str, acells_ptr, acells_sl, acells_nilsl, acells_nilptr, acells_iface, acells_niliface, aptr_ptr, anil_ptr, aextract_0, aextract_1, aextract_2, alenS_sl, alenS_nil, alenOf_sl, alenOf_nil, apartOf_agg, apart_t, apart_f, astore_ptr, hset_at0, hset_at, hs_same, hs_ne, len_hset, List.set_cons_zero, List.set_cons_succ, set_app, set_app0, aload_ptr, splice_eq, List.drop_nil, List.append_nil, isCell_int, isCell_bool, isCell_str, isCell_ptr, isCell_sl, isCell_nilsl, isCell_nilptr, isCell_iface, isCell_niliface, List.all_cons, List.all_nil, Bool.and_self, hget_at0, hget_at, len_app, List.length_cons, List.length_nil, get_app, get_app0, List.getElem?_cons_zero, List.getElem?_cons_succ, join_some, List.append_assoc, List.cons_append, List.nil_append, Nat.zero_add, Nat.add_zero, Nat.mul_one, chkRd_eq, chkAl_blk, if_true, if_false, Bool.false_eq_true, List.drop_succ_cons, List.drop_zero, List.take_succ_cons, List.take_zero, Bool.and_true, Bool.true_and, decide_true, decide_false, wrap64_id, aixG_eq, Nat.reduceAdd, Nat.reduceSub, Nat.reduceMul, Nat.reduceLeDiff, Nat.reduceLT, Int.reduceAdd, Int.reduceSub, Int.reduceMul, Int.reduceNeg, Int.reduceLT, Int.reduceLE, Int.reduceGT, Int.reduceGE, Int.reduceToNat, ↓reduceIte, and_self, true_and, and_true, ew, kd_w]
    obtain ⟨k0, k4⟩ := kd_lt n
    refine Post.bind (c_report _ b m F hm 0 hok (by omega) i (by omega) 0 (kd n) k0) ?_
    intro v h' hv
    have tk : m.takes i 0 (kd n) = true := by simp [Mon.takes, hp]; omega
    rw [tk, if_pos rfl] at hv
    obtain ⟨rfl, F', hm', fr⟩ := hv
    obtain ⟨⟨g', rfl⟩, hF'⟩ := fr.grow hF
    simp (dsimp := false) (implicitDefEqProofs := false) (disch := omega) only [gv_some, gr_some, gI_int, gB_bool, gS_str, gc_t, gc_f, gi_t, gi_f, gN_eq, gf_t, Option.bind_some, Option.bind_none, Option.map_some, acells_agg, acells_int, acells_bool, acells_str, acells_ptr, acells_sl, acells_nilsl, acells_nilptr, acells_iface, acells_niliface, aptr_ptr, anil_ptr, aextract_0, aextract_1, aextract_2, alenS_sl, alenS_nil, alenOf_sl, alenOf_nil, apartOf_agg, apart_t, apart_f, astore_ptr, hset_at0, hset_at, hs_same, hs_ne, len_hset, List.set_cons_zero, List.set_cons_succ, set_app, set_app0, aload_ptr, splice_eq, List.drop_nil, List.append_nil, isCell_int, isCell_bool, isCell_str, isCell_ptr, isCell_sl, isCell_nilsl, isCell_nilptr, isCell_iface, isCell_niliface, List.all_cons, List.all_nil, Bool.and_self, hget_at0, hget_at, len_app, List.length_cons, List.length_nil, get_app, get_app0, List.getElem?_cons_zero, List.getElem?_cons_succ, join_some, List.append_assoc, List.cons_append, List.nil_append, Nat.zero_add, Nat.add_zero, Nat.mul_one, chkRd_eq, chkAl_blk, if_true, if_false, Bool.false_eq_true, List.drop_succ_cons, List.drop_zero, List.take_succ_cons, List.take_zero, Bool.and_true, Bool.true_and, decide_true, decide_false, wrap64_id, aixG_eq, Nat.reduceAdd, Nat.reduceSub, Nat.reduceMul, Nat.reduceLeDiff, Nat.reduceLT, Int.reduceAdd, Int.reduceSub, Int.reduceMul, Int.reduceNeg, Int.reduceLT, Int.reduceLE, Int.reduceGT, Int.reduceGE, Int.reduceToNat, ↓reduceIte, and_self, true_and, and_true, err_ne_nil]
    rw [J5_6_eq, wsucc (by omega)]
    obtain ⟨rp, rn⟩ := rep_parts m i 0 (kd n).toNat
    obtain ⟨rl, ra⟩ := rep_same m i 0 (kd n).toNat (by rw [p0_act m hp]; omega)
    refine ih (i + 1) b _ F' g' hs' (by omega) (by omega) hm' hF' (by show (m.rep i 0 _).parts = _; rw [rp, hp]) (by show (m.rep i 0 _).node = _; rw [rn, hnode]) ?_ ⟨by show ∀ x ∈ (m.rep i 0 _).last, _; rw [rl]; exact hok.last, by show ∀ x ∈ (m.rep i 0 _).again, _; rw [ra]; exact hok.again⟩
    show (m.rep i 0 (kd n).toNat).out = _
    rw [p0_rep m hp, ho, hnode, recs_len]
    have gi : l.getD i 0 = n := by simp [List.getD, hk, hn]
    by_cases h4 : i < 4
    · rw [if_pos (by omega), recs_step l i h4, gi]
      have : ((kd n).toNat : Int) = kd n := by omega
      rw [this]; rfl
    · rw [if_neg (by omega), recs_stay l i (by omega)]
end
theorem healthSeals : LawTrue Try.prog Nt 9 5 [51] := by
  rintro h xs ⟨x2, r2, rfl, hx2, hr⟩
  cases hr
  obtain ⟨l, sl, _⟩ := argvInts hx2
  have main : Post (acall Try.prog Nt 5 [x2] h) fun v _ => v = .bool true := by
    rw [E5]
    refine Post.bind (c_awake h) ?_
    rintro v h1 ⟨rfl, g, rfl⟩
    simp (dsimp := false) (implicitDefEqProofs := false) (disch := omega) only [gv_some, gr_some, gI_int, gB_bool, gS_str, gc_t, gc_f, gi_t, gi_f, gN_eq, gf_t, Option.bind_some, Option.bind_none, Option.map_some, acells_agg, acells_int, acells_bool, acells_str, acells_ptr, acells_sl, acells_nilsl, acells_nilptr, acells_iface, acells_niliface, aptr_ptr, anil_ptr, aextract_0, aextract_1, aextract_2, alenS_sl, alenS_nil, alenOf_sl, alenOf_nil, apartOf_agg, apart_t, apart_f, astore_ptr, hset_at0, hset_at, hs_same, hs_ne, len_hset, List.set_cons_zero, List.set_cons_succ, set_app, set_app0, aload_ptr, splice_eq, List.drop_nil, List.append_nil, isCell_int, isCell_bool, isCell_str, isCell_ptr, isCell_sl, isCell_nilsl, isCell_nilptr, isCell_iface, isCell_niliface, List.all_cons, List.all_nil, Bool.and_self, hget_at0, hget_at, len_app, List.length_cons, List.length_nil, get_app, get_app0, List.getElem?_cons_zero, List.getElem?_cons_succ, join_some, List.append_assoc, List.cons_append, List.nil_append, Nat.zero_add, Nat.add_zero, Nat.mul_one, chkRd_eq, chkAl_blk, if_true, if_false, Bool.false_eq_true, List.drop_succ_cons, List.drop_zero, List.take_succ_cons, List.take_zero, Bool.and_true, Bool.true_and, decide_true, decide_false, wrap64_id, aixG_eq, Nat.reduceAdd, Nat.reduceSub, Nat.reduceMul, Nat.reduceLeDiff, Nat.reduceLT, Int.reduceAdd, Int.reduceSub, Int.reduceMul, Int.reduceNeg, Int.reduceLT, Int.reduceLE, Int.reduceGT, Int.reduceGE, Int.reduceToNat, ↓reduceIte, and_self, true_and, and_true, Bool.not_true, J5_1_eq]
    have sp : Sl (h ++ (g ++ [some (.cells false p0.cells)])) 9 Part.cells [p0] (.sl (h.length + g.length) 0 1 9) := .inr ⟨h.length + g.length, 0, rfl, false, p0.cells, by rw [hget_at, get_app0]; rfl, by simp [Part.cells], by simp [Part.cells]⟩
    refine Post.call (c_newmon 3 [p0] _ _ sp (by simp)) fun v g2 hv => ?_
    obtain ⟨b, F, rfl, hm, hF⟩ := hv
    rw [List.append_assoc] at hm ⊢
    exact sealsLoop h l x2 sl l 0 b _ F _ rfl (by omega) (by omega) hm (fun x hx => by have := hF x hx; simp at this; omega) rfl rfl rfl (Mon.new_ok _ _)
  obtain ⟨v, g, e, rfl⟩ := main
  exact ⟨_, e⟩
end Go.Ab
end
section
/-
  Functions of the program as equations: written by program (wip/tools/prt.py).
-/
namespace Go.Ab
open Go.Proofs
/-! 6: escapement/escapementlaw15.HealthParts -/
noncomputable def K6 : Kont := kend Try.prog 80 Try.f6.results.toList
noncomputable def K6_1 (lp : Loop) (jn : Join) : Kont := kseqJ jn (codeJ Try.prog Nt lp jn 80 (nat' [true, true, true, true, true] A6) (cat [true, true, true, true, true] C6)) (some []) K6
noncomputable def K6_2 (lp : Loop) (jn : Join) : Kont := kblock 0 none (K6_1 lp jn)
noncomputable def K6_3 (lp : Loop) (jn : Join) : Kont := kloop (lp (some [0, 1, 6, 7, 8]) (codeJ Try.prog Nt lp jn 80 (nat' [true, true, true, true, false, true, false, false] A6) (cat [true, true, true, true, false, true, false, false] C6))) (some [0, 1, 6, 7, 8]) (K6_2 lp jn)
noncomputable def K6_4 (lp : Loop) (jn : Join) : Kont := kseqJ jn (codeJ Try.prog Nt lp jn 80 (nat' [true, true, true, true, false, true, false, false, true] A6) (cat [true, true, true, true, false, true, false, false, true] C6)) (some [0, 1, 6, 7, 8]) (K6_3 lp jn)
noncomputable def K6_5 (lp : Loop) (jn : Join) : Kont := kseqJ jn (codeJ Try.prog Nt lp jn 80 (nat' [true, true, true, true, false, true, false, false, true, true] A6) (cat [true, true, true, true, false, true, false, false, true, true] C6)) (some [0, 1, 6, 7, 8]) (K6_3 lp jn)
noncomputable def K6_6 (lp : Loop) (jn : Join) : Kont := kblock 1 none (K6_5 lp jn)
noncomputable def J6_1' (lp : Loop) (jn : Join) (x0 : AV) (x1 : AV) (h : AHeap) : Res := jn (codeJ Try.prog Nt lp jn 80 (nat' [true, true] A6) (cat [true, true] C6)) (envOf [(0, x0), (1, x1)]) h K6
noncomputable def J6_1 (x0 : AV) (x1 : AV) (h : AHeap) : Res := J6_1' aloop (fun s => s) x0 x1 h
noncomputable def J6_2' (lp : Loop) (jn : Join) (x0 : AV) (x1 : AV) (x6 : AV) (x7 : AV) (x8 : Int) (h : AHeap) : Res := lp (some [0, 1, 6, 7, 8]) (codeJ Try.prog Nt lp jn 80 (nat' [true, true, true, true, false, true, false, false] A6) (cat [true, true, true, true, false, true, false, false] C6)) (envOf [(0, x0), (1, x1), (6, x6), (7, x7), (8, (.int .i64 x8))]) h (K6_2 lp jn)
noncomputable def J6_2 (x0 : AV) (x1 : AV) (x6 : AV) (x7 : AV) (x8 : Int) (h : AHeap) : Res := J6_2' aloop (fun s => s) x0 x1 x6 x7 x8 h
noncomputable def J6_3' (lp : Loop) (jn : Join) (x0 : AV) (x1 : AV) (x6 : AV) (x7 : AV) (x8 : Int) (x39 : Bool) (h : AHeap) : Res := jn (codeJ Try.prog Nt lp jn 80 (nat' [true, true, true, true, false, true, false, false, false, true] A6) (cat [true, true, true, true, false, true, false, false, false, true] C6)) (envOf [(0, x0), (1, x1), (6, x6), (7, x7), (8, (.int .i64 x8)), (39, (.bool x39))]) h (K6_4 lp jn)
noncomputable def J6_3 (x0 : AV) (x1 : AV) (x6 : AV) (x7 : AV) (x8 : Int) (x39 : Bool) (h : AHeap) : Res := J6_3' aloop (fun s => s) x0 x1 x6 x7 x8 x39 h
noncomputable def J6_4' (lp : Loop) (jn : Join) (x0 : AV) (x1 : AV) (x6 : AV) (x7 : AV) (x8 : Int) (h : AHeap) : Res := jn (codeJ Try.prog Nt lp jn 80 (nat' [true, true, true, true, false, true, false, false, true] A6) (cat [true, true, true, true, false, true, false, false, true] C6)) (envOf [(0, x0), (1, x1), (6, x6), (7, x7), (8, (.int .i64 x8))]) h (K6_3 lp jn)
noncomputable def J6_4 (x0 : AV) (x1 : AV) (x6 : AV) (x7 : AV) (x8 : Int) (h : AHeap) : Res := J6_4' aloop (fun s => s) x0 x1 x6 x7 x8 h
noncomputable def J6_5' (lp : Loop) (jn : Join)  (h : AHeap) : Res := jn (codeJ Try.prog Nt lp jn 80 (nat' [true, true, true, true, true] A6) (cat [true, true, true, true, true] C6)) (envOf []) h K6
noncomputable def J6_5  (h : AHeap) : Res := J6_5' aloop (fun s => s)  h
noncomputable def J6_6' (lp : Loop) (jn : Join) (x0 : AV) (x1 : AV) (x6 : AV) (x7 : AV) (x8 : Int) (h : AHeap) : Res := jn (codeJ Try.prog Nt lp jn 80 (nat' [true, true, true, true, false, true, false, false, true, true] A6) (cat [true, true, true, true, false, true, false, false, true, true] C6)) (envOf [(0, x0), (1, x1), (6, x6), (7, x7), (8, (.int .i64 x8))]) h (K6_3 lp jn)
noncomputable def J6_6 (x0 : AV) (x1 : AV) (x6 : AV) (x7 : AV) (x8 : Int) (h : AHeap) : Res := J6_6' aloop (fun s => s) x0 x1 x6 x7 x8 h
noncomputable def J6_7' (lp : Loop) (jn : Join) (x0 : AV) (x1 : AV) (x6 : AV) (x7 : AV) (x8 : Int) (x10 : Int) (x11 : AV) (h : AHeap) : Res := jn (codeJ Try.prog Nt lp jn 80 (nat' [true, true, true, true, false, true, false, false, true, false, false, true, true, true] A6) (cat [true, true, true, true, false, true, false, false, true, false, false, true, true, true] C6)) (envOf [(0, x0), (1, x1), (6, x6), (7, x7), (8, (.int .i64 x8)), (10, (.int .u8 x10)), (11, x11)]) h (K6_6 lp jn)
noncomputable def J6_7 (x0 : AV) (x1 : AV) (x6 : AV) (x7 : AV) (x8 : Int) (x10 : Int) (x11 : AV) (h : AHeap) : Res := J6_7' aloop (fun s => s) x0 x1 x6 x7 x8 x10 x11 h
noncomputable def J6_8' (lp : Loop) (jn : Join) (x0 : AV) (x1 : AV) (x6 : AV) (x7 : AV) (x8 : Int) (x79 : Bool) (h : AHeap) : Res := jn (codeJ Try.prog Nt lp jn 80 (nat' [true, true, true, true, false, true, false, false, true, false, false, true, true, true, true, true] A6) (cat [true, true, true, true, false, true, false, false, true, false, false, true, true, true, true, true] C6)) (envOf [(0, x0), (1, x1), (6, x6), (7, x7), (8, (.int .i64 x8)), (79, (.bool x79))]) h (K6_6 lp jn)
noncomputable def J6_8 (x0 : AV) (x1 : AV) (x6 : AV) (x7 : AV) (x8 : Int) (x79 : Bool) (h : AHeap) : Res := J6_8' aloop (fun s => s) x0 x1 x6 x7 x8 x79 h
theorem J6_1_g (lp : Loop) (jn : Join) (x0 : AV) (x1 : AV) (h : AHeap) : codeJ Try.prog Nt lp jn 80 (nat' [true, true] A6) (cat [true, true] C6) (envOf [(0, x0), (1, x1)]) h K6 = (gN h [(.int .i64 0), (.int .i64 0), (.int .i64 0), (.int .i64 0), (.int .i64 0), (.int .u8 0), (.int .u8 0), (.int .u8 0), (.int .u8 0)] fun b4 h5 => gv (astore true 9 (.ptr b4 0) (.agg [(.int .i64 0), (.int .i64 0), (.int .i64 0), (.int .i64 0), (.int .i64 0), (.int .u8 1), (.int .u8 1), (.int .u8 1), (.int .u8 1)]) h5) fun h6 => gv (aload true 9 (.ptr b4 0) h6) fun v7 => gv (aload true 9 (.ptr b4 0) h6) fun v8 => gr (abslS 9 2 [(.int .i64 0), (.int .i64 0), (.int .i64 0), (.int .i64 0), (.int .i64 0), (.int .u8 0), (.int .u8 0), (.int .u8 0), (.int .u8 0), (.int .i64 0), (.int .i64 0), (.int .i64 0), (.int .i64 0), (.int .i64 0), (.int .u8 0), (.int .u8 0), (.int .u8 0), (.int .u8 0)] [(0, v7), (1, v8)] h6) fun r9 h10 => gv (aload true 9 (.ptr b4 0) h10) fun v11 => gv (aload true 9 (.ptr b4 0) h10) fun v12 => gr (abslS 9 2 [(.int .i64 0), (.int .i64 0), (.int .i64 0), (.int .i64 0), (.int .i64 0), (.int .u8 0), (.int .u8 0), (.int .u8 0), (.int .u8 0), (.int .i64 0), (.int .i64 0), (.int .i64 0), (.int .i64 0), (.int .i64 0), (.int .u8 0), (.int .u8 0), (.int .u8 0), (.int .u8 0)] [(0, v11), (1, v12)] h10) fun r13 h14 => gr (acall Try.prog Nt 11 [(.int .i64 0), r9] h14) fun r15 h16 => gf ((chkAl (hget h14 h10.length) (hget h16 h10.length)) && ((chkRd (gv (aload true 9 (.ptr b4 0) h16) fun v17 => some v17) v12) && ((chkRd (gv (aload true 9 (.ptr b4 0) h16) fun v18 => some v18) v11) && true))) (gr (acall Try.prog Nt 11 [(.int .i64 0), r13] h16) fun r19 h20 => J6_2' lp jn x0 x1 r15 r19 0 h20)) := by kernel_rfl
theorem J6_1_eq (x0 : AV) (x1 : AV) (h : AHeap) : J6_1 x0 x1 h = (gN h [(.int .i64 0), (.int .i64 0), (.int .i64 0), (.int .i64 0), (.int .i64 0), (.int .u8 0), (.int .u8 0), (.int .u8 0), (.int .u8 0)] fun b4 h5 => gv (astore true 9 (.ptr b4 0) (.agg [(.int .i64 0), (.int .i64 0), (.int .i64 0), (.int .i64 0), (.int .i64 0), (.int .u8 1), (.int .u8 1), (.int .u8 1), (.int .u8 1)]) h5) fun h6 => gv (aload true 9 (.ptr b4 0) h6) fun v7 => gv (aload true 9 (.ptr b4 0) h6) fun v8 => gr (abslS 9 2 [(.int .i64 0), (.int .i64 0), (.int .i64 0), (.int .i64 0), (.int .i64 0), (.int .u8 0), (.int .u8 0), (.int .u8 0), (.int .u8 0), (.int .i64 0), (.int .i64 0), (.int .i64 0), (.int .i64 0), (.int .i64 0), (.int .u8 0), (.int .u8 0), (.int .u8 0), (.int .u8 0)] [(0, v7), (1, v8)] h6) fun r9 h10 => gv (aload true 9 (.ptr b4 0) h10) fun v11 => gv (aload true 9 (.ptr b4 0) h10) fun v12 => gr (abslS 9 2 [(.int .i64 0), (.int .i64 0), (.int .i64 0), (.int .i64 0), (.int .i64 0), (.int .u8 0), (.int .u8 0), (.int .u8 0), (.int .u8 0), (.int .i64 0), (.int .i64 0), (.int .i64 0), (.int .i64 0), (.int .i64 0), (.int .u8 0), (.int .u8 0), (.int .u8 0), (.int .u8 0)] [(0, v11), (1, v12)] h10) fun r13 h14 => gr (acall Try.prog Nt 11 [(.int .i64 0), r9] h14) fun r15 h16 => gf ((chkAl (hget h14 h10.length) (hget h16 h10.length)) && ((chkRd (gv (aload true 9 (.ptr b4 0) h16) fun v17 => some v17) v12) && ((chkRd (gv (aload true 9 (.ptr b4 0) h16) fun v18 => some v18) v11) && true))) (gr (acall Try.prog Nt 11 [(.int .i64 0), r13] h16) fun r19 h20 => J6_2 x0 x1 r15 r19 0 h20)) := J6_1_g aloop (fun s => s) x0 x1 h
theorem J6_2_g (lp : Loop) (jn : Join) (x0 : AV) (x1 : AV) (x6 : AV) (x7 : AV) (x8 : Int) (h : AHeap) : codeJ Try.prog Nt lp jn 80 (nat' [true, true, true, true, false, true, false, false] A6) (cat [true, true, true, true, false, true, false, false] C6) (envOf [(0, x0), (1, x1), (6, x6), (7, x7), (8, (.int .i64 x8))]) h (kloop (lp (some [0, 1, 6, 7, 8]) (codeJ Try.prog Nt lp jn 80 (nat' [true, true, true, true, false, true, false, false] A6) (cat [true, true, true, true, false, true, false, false] C6))) (some [0, 1, 6, 7, 8]) (K6_2 lp jn)) = (gv (alenS x0) fun m21 => gi (decide (x8 < (m21 : Int))) (gv (alenS x1) fun m22 => gi (decide (x8 < (m22 : Int))) (J6_3' lp jn x0 x1 x6 x7 x8 (decide (x8 < 60)) h) (J6_3' lp jn x0 x1 x6 x7 x8 false h)) (J6_3' lp jn x0 x1 x6 x7 x8 false h)) := by kernel_rfl
theorem J6_2_eq (x0 : AV) (x1 : AV) (x6 : AV) (x7 : AV) (x8 : Int) (h : AHeap) : J6_2 x0 x1 x6 x7 x8 h = (gv (alenS x0) fun m21 => gi (decide (x8 < (m21 : Int))) (gv (alenS x1) fun m22 => gi (decide (x8 < (m22 : Int))) (J6_3 x0 x1 x6 x7 x8 (decide (x8 < 60)) h) (J6_3 x0 x1 x6 x7 x8 false h)) (J6_3 x0 x1 x6 x7 x8 false h)) := (aloop_at (some [0, 1, 6, 7, 8]) (nat' [true, true, true, true, false, true, false, false] A6) (cat [true, true, true, true, false, true, false, false] C6) (envOf [(0, x0), (1, x1), (6, x6), (7, x7), (8, (.int .i64 x8))]) h (K6_2 aloop (fun s => s))).trans (J6_2_g aloop (fun s => s) x0 x1 x6 x7 x8 h)
theorem J6_3_g (lp : Loop) (jn : Join) (x0 : AV) (x1 : AV) (x6 : AV) (x7 : AV) (x8 : Int) (x39 : Bool) (h : AHeap) : codeJ Try.prog Nt lp jn 80 (nat' [true, true, true, true, false, true, false, false, false, true] A6) (cat [true, true, true, true, false, true, false, false, false, true] C6) (envOf [(0, x0), (1, x1), (6, x6), (7, x7), (8, (.int .i64 x8)), (39, (.bool x39))]) h (K6_4 lp jn) = (gc x39 (J6_4' lp jn x0 x1 x6 x7 x8 h) (J6_5' lp jn h)) := by kernel_rfl
theorem J6_3_eq (x0 : AV) (x1 : AV) (x6 : AV) (x7 : AV) (x8 : Int) (x39 : Bool) (h : AHeap) : J6_3 x0 x1 x6 x7 x8 x39 h = (gc x39 (J6_4 x0 x1 x6 x7 x8 h) (J6_5 h)) := J6_3_g aloop (fun s => s) x0 x1 x6 x7 x8 x39 h
theorem J6_4_g (lp : Loop) (jn : Join) (x0 : AV) (x1 : AV) (x6 : AV) (x7 : AV) (x8 : Int) (h : AHeap) : codeJ Try.prog Nt lp jn 80 (nat' [true, true, true, true, false, true, false, false, true] A6) (cat [true, true, true, true, false, true, false, false, true] C6) (envOf [(0, x0), (1, x1), (6, x6), (7, x7), (8, (.int .i64 x8))]) h (K6_3 lp jn) = (gv (aixS 1 x1 x8) fun v23 => gv (aload false 1 v23 h) fun v24 => gI .i64 v24 fun n25 => gv (aixS 1 x0 x8) fun v26 => gv (aload false 1 v26 h) fun v27 => gI .u32 v27 fun n28 => gr (acall Try.prog Nt 16 [x6, (.int .u32 n28), (.int .i64 (IntKind.i64.wrap ((IntKind.u64.wrap n25).tmod 2))), (.int .u8 0)] h) fun r29 h30 => gv (aextract r29 0) fun v31 => gI .u8 v31 fun n32 => gv (aextract r29 1) fun v33 => gc ((IntKind.i64.wrap ((IntKind.u64.wrap n25).tmod 2)) != 0) (J6_6' lp jn x0 x1 x6 x7 x8 h30) (J6_7' lp jn x0 x1 x6 x7 x8 n32 v33 h30)) := by kernel_rfl
theorem J6_4_eq (x0 : AV) (x1 : AV) (x6 : AV) (x7 : AV) (x8 : Int) (h : AHeap) : J6_4 x0 x1 x6 x7 x8 h = (gv (aixS 1 x1 x8) fun v23 => gv (aload false 1 v23 h) fun v24 => gI .i64 v24 fun n25 => gv (aixS 1 x0 x8) fun v26 => gv (aload false 1 v26 h) fun v27 => gI .u32 v27 fun n28 => gr (acall Try.prog Nt 16 [x6, (.int .u32 n28), (.int .i64 (IntKind.i64.wrap ((IntKind.u64.wrap n25).tmod 2))), (.int .u8 0)] h) fun r29 h30 => gv (aextract r29 0) fun v31 => gI .u8 v31 fun n32 => gv (aextract r29 1) fun v33 => gc ((IntKind.i64.wrap ((IntKind.u64.wrap n25).tmod 2)) != 0) (J6_6 x0 x1 x6 x7 x8 h30) (J6_7 x0 x1 x6 x7 x8 n32 v33 h30)) := J6_4_g aloop (fun s => s) x0 x1 x6 x7 x8 h
theorem J6_5_g (lp : Loop) (jn : Join)  (h : AHeap) : codeJ Try.prog Nt lp jn 80 (nat' [true, true, true, true, true] A6) (cat [true, true, true, true, true] C6) (envOf []) h K6 = (some ((.bool true), h)) := by kernel_rfl
theorem J6_5_eq  (h : AHeap) : J6_5  h = (some ((.bool true), h)) := J6_5_g aloop (fun s => s)  h
theorem J6_6_g (lp : Loop) (jn : Join) (x0 : AV) (x1 : AV) (x6 : AV) (x7 : AV) (x8 : Int) (h : AHeap) : codeJ Try.prog Nt lp jn 80 (nat' [true, true, true, true, false, true, false, false, true, true] A6) (cat [true, true, true, true, false, true, false, false, true, true] C6) (envOf [(0, x0), (1, x1), (6, x6), (7, x7), (8, (.int .i64 x8))]) h (K6_3 lp jn) = (J6_2' lp jn x0 x1 x6 x7 (IntKind.i64.wrap (x8 + 1)) h) := by kernel_rfl
theorem J6_6_eq (x0 : AV) (x1 : AV) (x6 : AV) (x7 : AV) (x8 : Int) (h : AHeap) : J6_6 x0 x1 x6 x7 x8 h = (J6_2 x0 x1 x6 x7 (IntKind.i64.wrap (x8 + 1)) h) := J6_6_g aloop (fun s => s) x0 x1 x6 x7 x8 h
theorem J6_7_g (lp : Loop) (jn : Join) (x0 : AV) (x1 : AV) (x6 : AV) (x7 : AV) (x8 : Int) (x10 : Int) (x11 : AV) (h : AHeap) : codeJ Try.prog Nt lp jn 80 (nat' [true, true, true, true, false, true, false, false, true, false, false, true, true, true] A6) (cat [true, true, true, true, false, true, false, false, true, false, false, true, true, true] C6) (envOf [(0, x0), (1, x1), (6, x6), (7, x7), (8, (.int .i64 x8)), (10, (.int .u8 x10)), (11, x11)]) h (K6_6 lp jn) = (gv (aixS 1 x0 x8) fun v34 => gv (aload false 1 v34 h) fun v35 => gI .u32 v35 fun n36 => gr (acall Try.prog Nt 16 [x7, (.int .u32 n36), (.int .i64 0), (.int .u8 0)] h) fun r37 h38 => gv (aextract r37 0) fun v39 => gI .u8 v39 fun n40 => gv (aextract r37 1) fun v41 => gi (x10 != n40) (J6_8' lp jn x0 x1 x6 x7 x8 true h38) (gr (acall Try.prog Nt 18 [x11] h38) fun r42 h43 => gS r42 fun s44 => gr (acall Try.prog Nt 18 [v41] h43) fun r45 h46 => gS r45 fun s47 => J6_8' lp jn x0 x1 x6 x7 x8 (!(s44 == s47)) h46)) := by kernel_rfl
theorem J6_7_eq (x0 : AV) (x1 : AV) (x6 : AV) (x7 : AV) (x8 : Int) (x10 : Int) (x11 : AV) (h : AHeap) : J6_7 x0 x1 x6 x7 x8 x10 x11 h = (gv (aixS 1 x0 x8) fun v34 => gv (aload false 1 v34 h) fun v35 => gI .u32 v35 fun n36 => gr (acall Try.prog Nt 16 [x7, (.int .u32 n36), (.int .i64 0), (.int .u8 0)] h) fun r37 h38 => gv (aextract r37 0) fun v39 => gI .u8 v39 fun n40 => gv (aextract r37 1) fun v41 => gi (x10 != n40) (J6_8 x0 x1 x6 x7 x8 true h38) (gr (acall Try.prog Nt 18 [x11] h38) fun r42 h43 => gS r42 fun s44 => gr (acall Try.prog Nt 18 [v41] h43) fun r45 h46 => gS r45 fun s47 => J6_8 x0 x1 x6 x7 x8 (!(s44 == s47)) h46)) := J6_7_g aloop (fun s => s) x0 x1 x6 x7 x8 x10 x11 h
theorem J6_8_g (lp : Loop) (jn : Join) (x0 : AV) (x1 : AV) (x6 : AV) (x7 : AV) (x8 : Int) (x79 : Bool) (h : AHeap) : codeJ Try.prog Nt lp jn 80 (nat' [true, true, true, true, false, true, false, false, true, false, false, true, true, true, true, true] A6) (cat [true, true, true, true, false, true, false, false, true, false, false, true, true, true, true, true] C6) (envOf [(0, x0), (1, x1), (6, x6), (7, x7), (8, (.int .i64 x8)), (79, (.bool x79))]) h (K6_6 lp jn) = (gc x79 (some ((.bool false), h)) (J6_6' lp jn x0 x1 x6 x7 x8 h)) := by kernel_rfl
theorem J6_8_eq (x0 : AV) (x1 : AV) (x6 : AV) (x7 : AV) (x8 : Int) (x79 : Bool) (h : AHeap) : J6_8 x0 x1 x6 x7 x8 x79 h = (gc x79 (some ((.bool false), h)) (J6_6 x0 x1 x6 x7 x8 h)) := J6_8_g aloop (fun s => s) x0 x1 x6 x7 x8 x79 h
theorem E6_g (lp : Loop) (jn : Join) (x0 : AV) (x1 : AV) (h : AHeap) : codeJ Try.prog Nt lp jn 80 (Nt 6) C6 (args [x0, x1]) h K6 = (gr (acall Try.prog Nt 10 [] h) fun r1 h2 => gB r1 fun b3 => gc (!b3) (some ((.bool false), h2)) (J6_1' lp jn x0 x1 h2)) := by kernel_rfl
theorem E6 (x0 : AV) (x1 : AV) (h : AHeap) : acall Try.prog Nt 6 [x0, x1] h = (gr (acall Try.prog Nt 10 [] h) fun r1 h2 => gB r1 fun b3 => gc (!b3) (some ((.bool false), h2)) (J6_1 x0 x1 h2)) := (acall_at rfl Try.func6 _ h 80 rfl (c := C6) rfl).trans (E6_g aloop (fun s => s) x0 x1 h)
end Go.Ab
end
