/-
  Functions of the program as equations, and their contracts.
-/
import Derived.Test.YtgcpchdmgjiejaaGa1
import Derived.Test.YtgcpchdmgjiejaaGa2
import Derived.Test.YtgcpchdmgjiejaaGa3
import Derived.Test.YtgcpchdmgjiejaaGFrameWrites1
import Derived.Test.YtgcpchdmgjiejaaGFrameWrites2
import Derived.Test.YtgcpchdmgjiejaaGFrameWrites3
set_option linter.all false
section
/-
  The document's encoder of frames, the whole.
-/
namespace Go.Ab
open Go.Proofs

theorem reGood (f : Frm) (ok : FrmOk f) (p r : AV) (h0 : AHeap) (x1 : Nat) (hx : hget h0 x1 = some (.cells false (f.cells p r))) (L : FrmL h0 f p r) (hm : f.msgs.length ≤ 96) (hr : f.recs.length ≤ 4) (mi : MsgsIn f.msgs) :
    Post (J7_1 x1 h0) fun v h' => ∃ y g', v = .tuple [y, .str []] ∧ h' = h0 ++ g' ∧ Ow h0.length h' 1 encB (frmB f ++ crcTail (frmB f)) y := by
  have hxl := hget_lt hx
  have fl : ∀ (k : Nat) (w : AV) g, (f.cells p r)[k]? = some w → aload false 1 (.ptr x1 k) (h0 ++ g) = some w := fun k w g e => by
    rw [aload_ptr, hget_app hx]
    exact e
  have f0 := fun g => fl 0 _ g rfl
  have f1 := fun g => fl 1 _ g rfl
  have f2 := fun g => fl 2 _ g rfl
  have f3 := fun g => fl 3 _ g rfl
  have f4 := fun g => fl 4 _ g rfl
  have f5 := fun g => fl 5 _ g rfl
  have f6 := fun g => fl 6 _ g rfl
  have f7 := fun g => fl 7 _ g rfl
  have f8 := fun g => fl 8 _ g rfl
  have n1 := L.msgs.len
  have n2 := L.recs.len
  have f0' := f0 []
  rw [List.append_nil] at f0'
  have wl1 : IntKind.u8.wrap (f.msgs.length : Int) = (f.msgs.length : Int) := wrapu8_id (by omega) (by omega)
  have wl2 : IntKind.u8.wrap (f.recs.length : Int) = (f.recs.length : Int) := wrapu8_id (by omega) (by omega)
  have wv : IntKind.u32.wrap f.val = f.val := wrapu32_id (by have := ok.val; omega) (by have := ok.val; omega)
  have wo : IntKind.u32.wrap f.old = f.old := wrapu32_id (by have := ok.old; omega) (by have := ok.old; omega)
  rw [J7_1_eq, f0', gv_some, gI_int, gN_eq, f1, gv_some, gI_int]
  have o0 : Ow h0.length (h0 ++ [some (.cells false [.int .u8 f.sender])]) 1 encB [f.sender] (.sl h0.length 0 1 1) := .inr ⟨h0.length, [], rfl, Nat.le_refl _, by rw [hget_at0]; rfl⟩
  refine Post.call (c_num f.round 4 (.inr rfl) _ rfl) fun v g2 on => ?_
  have o2 := o0.app g2
  have s2 := on.sl
  rw [List.append_assoc] at o2 s2 ⊢
  refine rapp o2 s2 (by simp [bN4_len]) fun x3 g3 o3 => ?_
  rw [f2, gv_some, gI_int, f3, gv_some, n1, gv_some, gN_eq, wl1]
  refine rlit o3 [f.members, (f.msgs.length : Int)] (by simp [bN4_len]) rfl rfl (by rw [len_app]) (by rw [List.append_assoc]; rfl) fun x4 g4 o4 => ?_
  have ml := msgs_len _ mi
  have z : (0 : Int) = ((0 : Nat) : Int) := rfl
  rw [z]
  refine reMsgs f ok p r h0 x1 hx L _ f.msgs 0 _ g4 x4 rfl (by omega) mi o4 (by simp [bN4_len]; omega) fun g5 x5 o5 => ?_
  rw [J7_4_eq, f4, gv_some, gI_int, f5, gv_some, gI_int, gN_eq]
  refine rlit o5 [f.kind, f.key] (by simp only [List.length_append, bN4_len, List.length_cons, List.length_nil]; omega) rfl rfl (by rw [len_app]) (by rw [List.append_assoc]; rfl) fun x6 g6 o6 => ?_
  rw [f6, gv_some, gI_int, wv]
  refine Post.call (c_num f.val 2 (.inl rfl) _ rfl) fun v g7 on => ?_
  have o7 := o6.app g7
  have s7 := on.sl
  rw [List.append_assoc] at o7 s7 ⊢
  refine rapp o7 s7 (by simp only [List.length_append, bN4_len, bN2_len, List.length_cons, List.length_nil]; omega) fun x8 g8 o8 => ?_
  rw [f7, gv_some, gI_int, wo]
  refine Post.call (c_num f.old 2 (.inl rfl) _ rfl) fun v g9 on => ?_
  have o9 := o8.app g9
  have s9 := on.sl
  rw [List.append_assoc] at o9 s9 ⊢
  refine rapp o9 s9 (by simp only [List.length_append, bN4_len, bN2_len, List.length_cons, List.length_nil]; omega) fun x10 g10 o10 => ?_
  rw [f8, gv_some, n2, gv_some, wl2, gN_eq]
  refine rlit o10 [(f.recs.length : Int)] (by simp only [List.length_append, bN4_len, bN2_len, List.length_cons, List.length_nil]; omega) rfl rfl (by rw [len_app]) (by rw [List.append_assoc]; rfl) fun x11 g11 o11 => ?_
  rw [z]
  refine reRecs f ok p r h0 x1 hx L _ f.recs 0 _ g11 x11 rfl (by omega) o11 (by simp only [List.length_append, bN4_len, bN2_len, List.length_cons, List.length_nil]; omega) fun g12 x12 o12 => ?_
  rw [J7_8_eq]
  have bl := frmB_len f hm hr mi
  have o13 : Ow h0.length (h0 ++ g12) 1 encB (frmB f) x12 := by simpa [frmB] using o12
  refine Post.call (c_rfseal _ (by omega) (frmB_ok f ok hm hr mi) x12 _ o13.sl) fun v2 g13 ow2 => ?_
  exact Post.done ⟨v2, g12 ++ g13, rfl, by simp, ow2.le (by simp)⟩
theorem fErr_len (f : Frm) : (fErr f).length ≤ 1 := by
  have rl : ∀ (s : List Rcd) k, (rcErr s k).length ≤ 1 := by
    intro s
    induction s with
    | nil => simp [rcErr]
    | cons a s ih => intro k; unfold rcErr; split; simp; exact ih _
  have tl : (tailErr f).length ≤ 1 := by
    unfold tailErr cmdErr
    repeat' split
    all_goals first | exact rl _ _ | simp
  have ml : ∀ (s : List Msg) k, (msErr f s k).length ≤ 1 := by
    intro s
    induction s with
    | nil => intro k; exact tl
    | cons a s ih => intro k; unfold msErr; repeat' split; all_goals first | exact ih _ | simp
  unfold fErr
  repeat' split
  all_goals first | exact ml _ _ | simp
/-- Encode. -/
theorem c_frencode (f : Frm) (ok : FrmOk f) (p r : AV) (h0 : AHeap) (L : FrmL h0 f p r) (hm : f.msgs.length ≤ 1000) (hr : f.recs.length ≤ 1000) :
    Post (acall Try.prog Nt 7 [.agg (f.cells p r)] h0) fun v h' => ∃ g', h' = h0 ++ g' ∧ ((fErr f ≠ [] ∧ v = .tuple [.nilsl, .str (errTxt ((40, some (-1)) :: fErr f))]) ∨
      (fErr f = [] ∧ ∃ y, v = .tuple [y, .str []] ∧ Ow h0.length h' 1 encB (frmB f ++ crcTail (frmB f)) y)) := by
  rw [E7]
  have cl : (f.cells p r).length = 9 := rfl
  have ct : (f.cells p r).take 9 = f.cells p r := rfl
  simp (dsimp := false) (implicitDefEqProofs := false) (disch := omega) only [gv_some, gr_some, gI_int, gB_bool, gS_str, gc_t, gc_f, gi_t, gi_f, gN_eq, gf_t, Option.bind_some, Option.bind_none, Option.map_some, acells_agg, acells_int, acells_bool, acells_str, acells_ptr, acells_sl, acells_nilsl, acells_nilptr, acells_iface, acells_niliface, aptr_ptr, anil_ptr, aextract_0, aextract_1, aextract_2, alenS_sl, alenS_nil, alenOf_sl, alenOf_nil, apartOf_agg, apart_t, apart_f, astore_ptr, hset_at0, hset_at, hs_same, hs_ne, len_hset, List.set_cons_zero, List.set_cons_succ, set_app, set_app0, aload_ptr, splice_eq, List.drop_nil, List.append_nil, isCell_int, isCell_bool, isCell_str, isCell_ptr, isCell_sl, isCell_nilsl, isCell_nilptr, isCell_iface, isCell_niliface, List.all_cons, List.all_nil, Bool.and_self, hget_at0, hget_at, len_app, List.length_cons, List.length_nil, get_app, get_app0, List.getElem?_cons_zero, List.getElem?_cons_succ, join_some, List.append_assoc, List.cons_append, List.nil_append, Nat.zero_add, Nat.add_zero, Nat.mul_one, chkRd_eq, chkAl_blk, if_true, if_false, Bool.false_eq_true, List.drop_succ_cons, List.drop_zero, List.take_succ_cons, List.take_zero, Bool.and_true, Bool.true_and, decide_true, decide_false, wrap64_id, aixG_eq, Nat.reduceAdd, Nat.reduceSub, Nat.reduceMul, Nat.reduceLeDiff, Nat.reduceLT, Int.reduceAdd, Int.reduceSub, Int.reduceMul, Int.reduceNeg, Int.reduceLT, Int.reduceLE, Int.reduceGT, Int.reduceGE, Int.reduceToNat, ↓reduceIte, and_self, true_and, and_true, cl, ct, Nat.le_refl]
  refine Post.call (c_frcheck f hr hm p r _ (L.app _)) fun v g hv => ?_
  subst hv
  by_cases e0 : fErr f = []
  · have t0 : (!(errTxt (fErr f) == [])) = false := by rw [e0]; rfl
    simp (dsimp := false) (implicitDefEqProofs := false) (disch := omega) only [gv_some, gr_some, gI_int, gB_bool, gS_str, gc_t, gc_f, gi_t, gi_f, gN_eq, gf_t, Option.bind_some, Option.bind_none, Option.map_some, acells_agg, acells_int, acells_bool, acells_str, acells_ptr, acells_sl, acells_nilsl, acells_nilptr, acells_iface, acells_niliface, aptr_ptr, anil_ptr, aextract_0, aextract_1, aextract_2, alenS_sl, alenS_nil, alenOf_sl, alenOf_nil, apartOf_agg, apart_t, apart_f, astore_ptr, hset_at0, hset_at, hs_same, hs_ne, len_hset, List.set_cons_zero, List.set_cons_succ, set_app, set_app0, aload_ptr, splice_eq, List.drop_nil, List.append_nil, isCell_int, isCell_bool, isCell_str, isCell_ptr, isCell_sl, isCell_nilsl, isCell_nilptr, isCell_iface, isCell_niliface, List.all_cons, List.all_nil, Bool.and_self, hget_at0, hget_at, len_app, List.length_cons, List.length_nil, get_app, get_app0, List.getElem?_cons_zero, List.getElem?_cons_succ, join_some, List.append_assoc, List.cons_append, List.nil_append, Nat.zero_add, Nat.add_zero, Nat.mul_one, chkRd_eq, chkAl_blk, if_true, if_false, Bool.false_eq_true, List.drop_succ_cons, List.drop_zero, List.take_succ_cons, List.take_zero, Bool.and_true, Bool.true_and, decide_true, decide_false, wrap64_id, aixG_eq, Nat.reduceAdd, Nat.reduceSub, Nat.reduceMul, Nat.reduceLeDiff, Nat.reduceLT, Int.reduceAdd, Int.reduceSub, Int.reduceMul, Int.reduceNeg, Int.reduceLT, Int.reduceLE, Int.reduceGT, Int.reduceGE, Int.reduceToNat, ↓reduceIte, and_self, true_and, and_true, t0]
    obtain ⟨m1, m2, m3⟩ := fErr_nil f e0
    have := reGood f ok p r (h0 ++ [some (.cells false (f.cells p r))] ++ g) h0.length (hget_app (by rw [hget_at0]; rfl)) ((L.app _).app _) m1 m2 m3
    obtain ⟨v, h', e, y, g', rfl, rfl, ow⟩ := this
    rw [List.append_assoc] at e
    refine ⟨_, _, e, [some (.cells false (f.cells p r))] ++ g ++ g', by simp, .inr ⟨e0, y, rfl, ?_⟩⟩
    have := ow.le (m := h0.length) (by simp only [List.length_append]; omega)
    rw [List.append_assoc, List.append_assoc] at this ⊢
    simpa using this
  · have t0 : (!(errTxt (fErr f) == [])) = true := by simp [errTxt_ne e0]
    simp (dsimp := false) (implicitDefEqProofs := false) (disch := omega) only [gv_some, gr_some, gI_int, gB_bool, gS_str, gc_t, gc_f, gi_t, gi_f, gN_eq, gf_t, Option.bind_some, Option.bind_none, Option.map_some, acells_agg, acells_int, acells_bool, acells_str, acells_ptr, acells_sl, acells_nilsl, acells_nilptr, acells_iface, acells_niliface, aptr_ptr, anil_ptr, aextract_0, aextract_1, aextract_2, alenS_sl, alenS_nil, alenOf_sl, alenOf_nil, apartOf_agg, apart_t, apart_f, astore_ptr, hset_at0, hset_at, hs_same, hs_ne, len_hset, List.set_cons_zero, List.set_cons_succ, set_app, set_app0, aload_ptr, splice_eq, List.drop_nil, List.append_nil, isCell_int, isCell_bool, isCell_str, isCell_ptr, isCell_sl, isCell_nilsl, isCell_nilptr, isCell_iface, isCell_niliface, List.all_cons, List.all_nil, Bool.and_self, hget_at0, hget_at, len_app, List.length_cons, List.length_nil, get_app, get_app0, List.getElem?_cons_zero, List.getElem?_cons_succ, join_some, List.append_assoc, List.cons_append, List.nil_append, Nat.zero_add, Nat.add_zero, Nat.mul_one, chkRd_eq, chkAl_blk, if_true, if_false, Bool.false_eq_true, List.drop_succ_cons, List.drop_zero, List.take_succ_cons, List.take_zero, Bool.and_true, Bool.true_and, decide_true, decide_false, wrap64_id, aixG_eq, Nat.reduceAdd, Nat.reduceSub, Nat.reduceMul, Nat.reduceLeDiff, Nat.reduceLT, Int.reduceAdd, Int.reduceSub, Int.reduceMul, Int.reduceNeg, Int.reduceLT, Int.reduceLE, Int.reduceGT, Int.reduceGE, Int.reduceToNat, ↓reduceIte, and_self, true_and, and_true, t0]
    have el : (errTxt (fErr f)).length ≤ 100000 := by
      have one := fErr_len f
      match fErr f, one with
      | [], _ => simp [errTxt]
      | [k], _ =>
        have := lnkTxt_len k
        simp [errTxt, tailTxt]
        omega
      | _ :: _ :: _, h => simp at h
    refine Post.call (c_over 40 (-1) (errTxt (fErr f)) _ ⟨by omega, by omega⟩ ⟨by omega, by omega⟩ el) fun v2 g2 hv2 => ?_
    rw [if_neg (errTxt_ne e0)] at hv2
    subst hv2
    simp (dsimp := false) (implicitDefEqProofs := false) (disch := omega) only [gv_some, gr_some, gI_int, gB_bool, gS_str, gc_t, gc_f, gi_t, gi_f, gN_eq, gf_t, Option.bind_some, Option.bind_none, Option.map_some, acells_agg, acells_int, acells_bool, acells_str, acells_ptr, acells_sl, acells_nilsl, acells_nilptr, acells_iface, acells_niliface, aptr_ptr, anil_ptr, aextract_0, aextract_1, aextract_2, alenS_sl, alenS_nil, alenOf_sl, alenOf_nil, apartOf_agg, apart_t, apart_f, astore_ptr, hset_at0, hset_at, hs_same, hs_ne, len_hset, List.set_cons_zero, List.set_cons_succ, set_app, set_app0, aload_ptr, splice_eq, List.drop_nil, List.append_nil, isCell_int, isCell_bool, isCell_str, isCell_ptr, isCell_sl, isCell_nilsl, isCell_nilptr, isCell_iface, isCell_niliface, List.all_cons, List.all_nil, Bool.and_self, hget_at0, hget_at, len_app, List.length_cons, List.length_nil, get_app, get_app0, List.getElem?_cons_zero, List.getElem?_cons_succ, join_some, List.append_assoc, List.cons_append, List.nil_append, Nat.zero_add, Nat.add_zero, Nat.mul_one, chkRd_eq, chkAl_blk, if_true, if_false, Bool.false_eq_true, List.drop_succ_cons, List.drop_zero, List.take_succ_cons, List.take_zero, Bool.and_true, Bool.true_and, decide_true, decide_false, wrap64_id, aixG_eq, Nat.reduceAdd, Nat.reduceSub, Nat.reduceMul, Nat.reduceLeDiff, Nat.reduceLT, Int.reduceAdd, Int.reduceSub, Int.reduceMul, Int.reduceNeg, Int.reduceLT, Int.reduceLE, Int.reduceGT, Int.reduceGE, Int.reduceToNat, ↓reduceIte, and_self, true_and, and_true]
    refine Post.done ⟨[some (.cells false (f.cells p r))] ++ g ++ g2, by simp, .inl ⟨e0, ?_⟩⟩
    have : ∀ l : List Lnk, l ≠ [] → atTxt 40 (-1) ++ [62] ++ errTxt l = errTxt ((40, some (-1)) :: l) := by
      intro l hl
      match l, hl with
      | k :: l, _ => simp [errTxt, lnkTxt, tailTxt]
    rw [← this _ e0]
    simp
end Go.Ab
end
section
/-
  Functions of the program as equations: written by program (wip/tools/prt.py).
-/
namespace Go.Ab
open Go.Proofs
/-! 5: escapement/escapementref04.Copied -/
noncomputable def K5 : Kont := kend Try.prog 35 Try.f5.results.toList
noncomputable def K5_1 (lp : Loop) (jn : Join) : Kont := kseqJ jn (codeJ Try.prog Nt lp jn 35 (nat' [true, true, true] A5) (cat [true, true, true] C5)) (some [1, 2]) K5
noncomputable def K5_2 (lp : Loop) (jn : Join) : Kont := kblock 0 none (K5_1 lp jn)
noncomputable def K5_3 (lp : Loop) (jn : Join) : Kont := kloop (lp (some [1, 2, 3]) (codeJ Try.prog Nt lp jn 35 (nat' [true, true, false, true, false, false] A5) (cat [true, true, false, true, false, false] C5))) (some [1, 2, 3]) (K5_2 lp jn)
noncomputable def J5_1' (lp : Loop) (jn : Join) (x1 : Nat) (x2 : Nat) (x3 : Int) (h : AHeap) : Res := lp (some [1, 2, 3]) (codeJ Try.prog Nt lp jn 35 (nat' [true, true, false, true, false, false] A5) (cat [true, true, false, true, false, false] C5)) (envOf [(1, (.ptr x1 0)), (2, (.ptr x2 0)), (3, (.int .i64 x3))]) h (K5_2 lp jn)
noncomputable def J5_1 (x1 : Nat) (x2 : Nat) (x3 : Int) (h : AHeap) : Res := J5_1' aloop (fun s => s) x1 x2 x3 h
noncomputable def J5_2' (lp : Loop) (jn : Join) (x1 : Nat) (x2 : Nat) (x3 : Int) (h : AHeap) : Res := jn (codeJ Try.prog Nt lp jn 35 (nat' [true, true, false, true, false, false, true] A5) (cat [true, true, false, true, false, false, true] C5)) (envOf [(1, (.ptr x1 0)), (2, (.ptr x2 0)), (3, (.int .i64 x3))]) h (K5_3 lp jn)
noncomputable def J5_2 (x1 : Nat) (x2 : Nat) (x3 : Int) (h : AHeap) : Res := J5_2' aloop (fun s => s) x1 x2 x3 h
noncomputable def J5_3' (lp : Loop) (jn : Join) (x1 : Nat) (x2 : Nat) (h : AHeap) : Res := jn (codeJ Try.prog Nt lp jn 35 (nat' [true, true, true] A5) (cat [true, true, true] C5)) (envOf [(1, (.ptr x1 0)), (2, (.ptr x2 0))]) h K5
noncomputable def J5_3 (x1 : Nat) (x2 : Nat) (h : AHeap) : Res := J5_3' aloop (fun s => s) x1 x2 h
noncomputable def J5_4' (lp : Loop) (jn : Join) (x1 : Nat) (x2 : Nat) (x3 : Int) (h : AHeap) : Res := jn (codeJ Try.prog Nt lp jn 35 (nat' [true, true, false, true, false, false, true, true] A5) (cat [true, true, false, true, false, false, true, true] C5)) (envOf [(1, (.ptr x1 0)), (2, (.ptr x2 0)), (3, (.int .i64 x3))]) h (K5_3 lp jn)
noncomputable def J5_4 (x1 : Nat) (x2 : Nat) (x3 : Int) (h : AHeap) : Res := J5_4' aloop (fun s => s) x1 x2 x3 h
theorem J5_1_g (lp : Loop) (jn : Join) (x1 : Nat) (x2 : Nat) (x3 : Int) (h : AHeap) : codeJ Try.prog Nt lp jn 35 (nat' [true, true, false, true, false, false] A5) (cat [true, true, false, true, false, false] C5) (envOf [(1, (.ptr x1 0)), (2, (.ptr x2 0)), (3, (.int .i64 x3))]) h (kloop (lp (some [1, 2, 3]) (codeJ Try.prog Nt lp jn 35 (nat' [true, true, false, true, false, false] A5) (cat [true, true, false, true, false, false] C5))) (some [1, 2, 3]) (K5_2 lp jn)) = (gv (aload false 1 (.ptr x1 3) h) fun v14 => gv (alenS v14) fun m15 => gc (decide (x3 < (m15 : Int))) (J5_2' lp jn x1 x2 x3 h) (J5_3' lp jn x1 x2 h)) := by kernel_rfl
theorem J5_1_eq (x1 : Nat) (x2 : Nat) (x3 : Int) (h : AHeap) : J5_1 x1 x2 x3 h = (gv (aload false 1 (.ptr x1 3) h) fun v14 => gv (alenS v14) fun m15 => gc (decide (x3 < (m15 : Int))) (J5_2 x1 x2 x3 h) (J5_3 x1 x2 h)) := (aloop_at (some [1, 2, 3]) (nat' [true, true, false, true, false, false] A5) (cat [true, true, false, true, false, false] C5) (envOf [(1, (.ptr x1 0)), (2, (.ptr x2 0)), (3, (.int .i64 x3))]) h (K5_2 aloop (fun s => s))).trans (J5_1_g aloop (fun s => s) x1 x2 x3 h)
theorem J5_2_g (lp : Loop) (jn : Join) (x1 : Nat) (x2 : Nat) (x3 : Int) (h : AHeap) : codeJ Try.prog Nt lp jn 35 (nat' [true, true, false, true, false, false, true] A5) (cat [true, true, false, true, false, false, true] C5) (envOf [(1, (.ptr x1 0)), (2, (.ptr x2 0)), (3, (.int .i64 x3))]) h (K5_3 lp jn) = (gv (aload false 1 (.ptr x1 3) h) fun v16 => gN h [] fun b17 h18 => gv (aload false 1 (.ptr x1 3) h18) fun v19 => gv (aixS 2 v19 x3) fun v20 => gv (aptr v20 1) fun v21 => gv (aload false 1 v21 h18) fun v22 => gv (alenOf v22) fun m23 => gv (asrc 1 v22 h18) fun xs24 => gr (aapp 1 1 (.sl b17 0 0 1) m23 xs24 h18) fun r25 h26 => gf ((chkRd (gv (aload false 1 (.ptr x1 3) h26) fun v27 => some v27) v16) && true) (gv (aixS 2 v16 x3) fun v28 => gv (aptr v28 1) fun v29 => gv (astore false 1 v29 r25 h26) fun h30 => J5_4' lp jn x1 x2 x3 h30)) := by kernel_rfl
theorem J5_2_eq (x1 : Nat) (x2 : Nat) (x3 : Int) (h : AHeap) : J5_2 x1 x2 x3 h = (gv (aload false 1 (.ptr x1 3) h) fun v16 => gN h [] fun b17 h18 => gv (aload false 1 (.ptr x1 3) h18) fun v19 => gv (aixS 2 v19 x3) fun v20 => gv (aptr v20 1) fun v21 => gv (aload false 1 v21 h18) fun v22 => gv (alenOf v22) fun m23 => gv (asrc 1 v22 h18) fun xs24 => gr (aapp 1 1 (.sl b17 0 0 1) m23 xs24 h18) fun r25 h26 => gf ((chkRd (gv (aload false 1 (.ptr x1 3) h26) fun v27 => some v27) v16) && true) (gv (aixS 2 v16 x3) fun v28 => gv (aptr v28 1) fun v29 => gv (astore false 1 v29 r25 h26) fun h30 => J5_4 x1 x2 x3 h30)) := J5_2_g aloop (fun s => s) x1 x2 x3 h
theorem J5_3_g (lp : Loop) (jn : Join) (x1 : Nat) (x2 : Nat) (h : AHeap) : codeJ Try.prog Nt lp jn 35 (nat' [true, true, true] A5) (cat [true, true, true] C5) (envOf [(1, (.ptr x1 0)), (2, (.ptr x2 0))]) h K5 = (gN h [] fun b31 h32 => gv (aload false 1 (.ptr x1 8) h32) fun v33 => gv (alenOf v33) fun m34 => gv (asrc 5 v33 h32) fun xs35 => gr (aapp 5 8 (.sl b31 0 0 5) m34 xs35 h32) fun r36 h37 => gv (astore false 1 (.ptr x1 8) r36 h37) fun h38 => gv (aload true 9 (.ptr x1 0) h38) fun v39 => gv (astore true 9 (.ptr x2 0) v39 h38) fun h40 => gv (gv (aload true 9 (.ptr x2 0) h40) fun v41 => some [v41]) fun l => some (aone l, h40)) := by kernel_rfl
theorem J5_3_eq (x1 : Nat) (x2 : Nat) (h : AHeap) : J5_3 x1 x2 h = (gN h [] fun b31 h32 => gv (aload false 1 (.ptr x1 8) h32) fun v33 => gv (alenOf v33) fun m34 => gv (asrc 5 v33 h32) fun xs35 => gr (aapp 5 8 (.sl b31 0 0 5) m34 xs35 h32) fun r36 h37 => gv (astore false 1 (.ptr x1 8) r36 h37) fun h38 => gv (aload true 9 (.ptr x1 0) h38) fun v39 => gv (astore true 9 (.ptr x2 0) v39 h38) fun h40 => gv (gv (aload true 9 (.ptr x2 0) h40) fun v41 => some [v41]) fun l => some (aone l, h40)) := J5_3_g aloop (fun s => s) x1 x2 h
theorem J5_4_g (lp : Loop) (jn : Join) (x1 : Nat) (x2 : Nat) (x3 : Int) (h : AHeap) : codeJ Try.prog Nt lp jn 35 (nat' [true, true, false, true, false, false, true, true] A5) (cat [true, true, false, true, false, false, true, true] C5) (envOf [(1, (.ptr x1 0)), (2, (.ptr x2 0)), (3, (.int .i64 x3))]) h (K5_3 lp jn) = (J5_1' lp jn x1 x2 (IntKind.i64.wrap (x3 + 1)) h) := by kernel_rfl
theorem J5_4_eq (x1 : Nat) (x2 : Nat) (x3 : Int) (h : AHeap) : J5_4 x1 x2 x3 h = (J5_1 x1 x2 (IntKind.i64.wrap (x3 + 1)) h) := J5_4_g aloop (fun s => s) x1 x2 x3 h
theorem E5_g (lp : Loop) (jn : Join) (x0 : AV) (h : AHeap) : codeJ Try.prog Nt lp jn 35 (Nt 5) C5 (args [x0]) h K5 = (gv (acells x0) fun cs1 => gN h cs1 fun b2 h3 => gN h3 [(.int .u8 0), (.int .u32 0), (.int .u8 0), .nilsl, (.int .u8 0), (.int .u8 0), (.int .u16 0), (.int .u16 0), .nilsl] fun b4 h5 => gN h5 [] fun b6 h7 => gv (aload false 1 (.ptr b2 3) h7) fun v8 => gv (alenOf v8) fun m9 => gv (asrc 2 v8 h7) fun xs10 => gr (aapp 2 32 (.sl b6 0 0 2) m9 xs10 h7) fun r11 h12 => gv (astore false 1 (.ptr b2 3) r11 h12) fun h13 => J5_1' lp jn b2 b4 0 h13) := by kernel_rfl
theorem E5 (x0 : AV) (h : AHeap) : acall Try.prog Nt 5 [x0] h = (gv (acells x0) fun cs1 => gN h cs1 fun b2 h3 => gN h3 [(.int .u8 0), (.int .u32 0), (.int .u8 0), .nilsl, (.int .u8 0), (.int .u8 0), (.int .u16 0), (.int .u16 0), .nilsl] fun b4 h5 => gN h5 [] fun b6 h7 => gv (aload false 1 (.ptr b2 3) h7) fun v8 => gv (alenOf v8) fun m9 => gv (asrc 2 v8 h7) fun xs10 => gr (aapp 2 32 (.sl b6 0 0 2) m9 xs10 h7) fun r11 h12 => gv (astore false 1 (.ptr b2 3) r11 h12) fun h13 => J5_1 b2 b4 0 h13) := (acall_at rfl Try.func5 _ h 35 rfl (c := C5) rfl).trans (E5_g aloop (fun s => s) x0 h)
end Go.Ab
end
section
/-
  Copied.
-/
namespace Go.Ab
open Go.Proofs

theorem Ow.slb {α : Type} {n sz : Nat} {h : AHeap} {enc : α → List AV} {l : List α} {x : AV} (o : Ow n h sz enc l x) : ∃ F, SlB h sz enc l x F ∧ ∀ y ∈ F, n ≤ y ∧ y < h.length := by
  rcases o with ⟨e1, e2⟩ | ⟨b, rest, e, hb, a⟩
  · exact ⟨[], .inl ⟨e1, e2, rfl⟩, by simp⟩
  · have := hget_lt a
    exact ⟨[b], .inr ⟨b, 0, e, rfl, false, _, a, by rw [Nat.zero_add, List.length_append]; omega, by rw [List.drop_zero, List.take_left]⟩, by simp; omega⟩
def Msg.sig (m : Msg) : Int × List Int := (m.port, m.bs)
theorem msErr_same (f f' : Frm) (ht : tailErr f' = tailErr f) : ∀ (s s' : List Msg) (k : Nat), s'.map Msg.sig = s.map Msg.sig → msErr f' s' k = msErr f s k
  | [], [], _, _ => ht
  | [], _ :: _, _, h => by simp at h
  | _ :: _, [], _, h => by simp at h
  | a :: s, b :: s', k, h => by
    simp only [List.map_cons, List.cons.injEq, Msg.sig, Prod.mk.injEq] at h
    obtain ⟨⟨h1, h2⟩, h3⟩ := h
    unfold msErr
    rw [h1, h2, msErr_same f f' ht s s' (k + 1) h3]
theorem msgB_same : ∀ (s s' : List Msg), s'.map Msg.sig = s.map Msg.sig → s'.flatMap msgB = s.flatMap msgB
  | [], [], _ => rfl
  | [], _ :: _, h => by simp at h
  | _ :: _, [], h => by simp at h
  | a :: s, b :: s', h => by
    simp only [List.map_cons, List.cons.injEq, Msg.sig, Prod.mk.injEq] at h
    obtain ⟨⟨h1, h2⟩, h3⟩ := h
    simp only [List.flatMap_cons, msgB, h1, h2, msgB_same s s' h3]
def Frm.wi (f : Frm) (ms : List Msg) : Frm := { f with msgs := ms }
theorem fErr_same (f : Frm) (ms : List Msg) (h : ms.map Msg.sig = f.msgs.map Msg.sig) : fErr (f.wi ms) = fErr f := by
  have hl : ms.length = f.msgs.length := by have := congrArg List.length h; simpa using this
  have := msErr_same f (f.wi ms) rfl f.msgs ms 0 h
  unfold fErr
  have e1 : (f.wi ms).msgs = ms := rfl
  have e2 : (f.wi ms).recs = f.recs := rfl
  have e3 : (f.wi ms).sender = f.sender := rfl
  rw [e1, e2, e3, this, hl]
theorem frmB_same (f : Frm) (ms : List Msg) (h : ms.map Msg.sig = f.msgs.map Msg.sig) : frmB (f.wi ms) = frmB f := by
  have hl : ms.length = f.msgs.length := by have := congrArg List.length h; simpa using this
  have := msgB_same f.msgs ms h
  have e1 : (f.wi ms).msgs = ms := rfl
  unfold frmB
  rw [e1, this, hl]
  rfl
theorem set_msg (z : AV) : ∀ (ms : List Msg) (i : Nat) (hi : i < ms.length), (ms.flatMap Msg.cells).set (0 + i * 2 + 1) z = (ms.set i { ms[i] with x := z }).flatMap Msg.cells
  | [], _, h => by simp at h
  | a :: s, 0, _ => by simp [Msg.cells]
  | a :: s, i + 1, h => by
    have ih := set_msg z s i (by simpa using h)
    have e : 0 + (i + 1) * 2 + 1 = (0 + i * 2 + 1) + 1 + 1 := by omega
    rw [List.flatMap_cons, e]
    simp only [Msg.cells, List.cons_append, List.nil_append, List.set_cons_succ, List.getElem_cons_succ, List.flatMap_cons]
    rw [ih]
    try simp [Msg.cells]
theorem set_sig (z : AV) (ms : List Msg) (i : Nat) (hi : i < ms.length) : (ms.set i { ms[i] with x := z }).map Msg.sig = ms.map Msg.sig := by
  rw [List.map_set]
  have : Msg.sig { ms[i] with x := z } = (ms.map Msg.sig)[i]'(by simpa using hi) := by simp [Msg.sig]
  rw [this, List.set_getElem_self]
section
variable (f : Frm) (r : AV) (h0 : AHeap) (b2 b4 c : Nat) (Q : AV → AHeap → Prop) (n2 : h0.length ≤ b2) (nc : h0.length ≤ c) (c2 : c ≠ b2) (c4 : c ≠ b4)
include n2 nc c2 c4
theorem cpLoop : ∀ (n i : Nat) (ms : List Msg) (g : AHeap) (Z : ABlk), n + i = ms.length → ms.length ≤ 1000 → hget (h0 ++ g) b2 = some (.cells false (f.cells (.sl c 0 ms.length 2) r)) → hget (h0 ++ g) b4 = some Z → hget (h0 ++ g) c = some (.cells false (ms.flatMap Msg.cells)) →
    (∀ m ∈ ms, ∃ F, SlB (h0 ++ g) 1 encB m.bs m.x F ∧ c ∉ F ∧ b2 ∉ F ∧ b4 ∉ F) → (∀ m ∈ ms, m.bs.length ≤ 140737488351232) →
    (∀ (g' : AHeap) (ms' : List Msg), ms'.map Msg.sig = ms.map Msg.sig → hget (h0 ++ g') b2 = some (.cells false (f.cells (.sl c 0 ms'.length 2) r)) → hget (h0 ++ g') b4 = some Z → hget (h0 ++ g') c = some (.cells false (ms'.flatMap Msg.cells)) → (∀ m ∈ ms', ∃ F, SlB (h0 ++ g') 1 encB m.bs m.x F ∧ c ∉ F ∧ b2 ∉ F ∧ b4 ∉ F) → Post (J5_3 b2 b4 (h0 ++ g')) Q) →
    Post (J5_1 b2 b4 (i : Int) (h0 ++ g)) Q := by
  intro n
  induction n with
  | zero =>
    intro i ms g Z hi hl hb hb4 hc hm hbs K
    have fl : aload false 1 (.ptr b2 3) (h0 ++ g) = some (.sl c 0 ms.length 2) := by rw [aload_ptr, hb]; rfl
    rw [J5_1_eq, fl, gv_some, alenS_sl, gv_some, decide_eq_false (by omega), gc_f]
    exact K g ms rfl hb hb4 hc hm
  | succ n ih =>
    intro i ms g Z hi hl hb hb4 hc hm hbs K
    have hk : i < ms.length := by omega
    have fl : ∀ w, aload false 1 (.ptr b2 3) (h0 ++ g ++ w) = some (.sl c 0 ms.length 2) := fun w => by rw [aload_ptr, hget_app hb]; rfl
    have fl0 := fl []
    rw [List.append_nil] at fl0
    obtain ⟨F, sF, cF⟩ := hm ms[i] (List.getElem_mem hk)
    have hcl := hget_lt hc
    have hbl := hget_lt hb
    have hb4l := hget_lt hb4
    have sc : Sl (h0 ++ g) 2 Msg.cells ms (.sl c 0 ms.length 2) := .inr ⟨c, 0, rfl, false, _, hc, by rw [Nat.zero_add]; exact Nat.le_refl _, by rw [List.drop_zero, List.take_length]⟩
    have ix : aixS 2 (.sl c 0 ms.length 2) (i : Int) = some (.ptr c (0 + i * 2)) := aixS_at hk
    have l1 : aload false 1 (.ptr c (0 + i * 2 + 1)) (h0 ++ g ++ [some (.cells false [])]) = some ms[i].x := by
      obtain ⟨eb, eo, ix', ea⟩ := (sc.app [some (.cells false [])]).elem Msg.len i hk
      rw [ix] at ix'
      cases ix'
      exact ea.load1 1 (by simp [Msg.cells]) 1
    obtain ⟨z, t', ea, oz⟩ := aapp_ow (by' := 1) (pre := h0 ++ g) (t := [some (.cells false [])]) (x := .sl (h0 ++ g).length 0 0 1) (l := ([] : List Int)) (l2 := ms[i].bs) encB_len encB_isc (.inr ⟨(h0 ++ g).length, [], rfl, Nat.le_refl _, by rw [hget_at0]; rfl⟩) (by have := hbs ms[i] (List.getElem_mem hk); simp; omega)
    rw [List.nil_append] at oz
    have hct : hget (h0 ++ g ++ t') c = some (.cells false (ms.flatMap Msg.cells)) := hget_app hc
    have iz : isCell z = true := oz.sl.isc
    have ln : (ms.flatMap Msg.cells).length = ms.length * 2 := flatMap_len Msg.len _
    have est : astore false 1 (.ptr c (0 + i * 2 + 1)) z (h0 ++ g ++ t') = some (hset (h0 ++ g ++ t') c ((ms.set i { ms[i] with x := z }).flatMap Msg.cells)) := by
      have cond : 0 + i * 2 + 1 < (ms.flatMap Msg.cells).length := by omega
      rw [astore_ptr, hct]
      simp only [cond, iz, Bool.false_eq_true, if_false, and_self, if_true, set_msg z ms i hk]
    rw [J5_1_eq, fl0, gv_some, alenS_sl, gv_some, decide_eq_true (by omega), gc_t, J5_2_eq]
    rw [fl0, gv_some, gN_eq, fl, gv_some, ix, gv_some, aptr_ptr, gv_some, l1, gv_some, sF.sl.lenOf, gv_some, (sF.sl.app _).src encB_len, gv_some, ea, gr_some, fl, gv_some, chkRd_eq, Bool.and_self, gf_t, gv_some, aptr_ptr, gv_some, est, gv_some]
    rw [J5_4_eq, wsucc (by omega)]
    have lh : c < (h0 ++ g ++ t').length := hget_lt hct
    have e2 : hset (h0 ++ g ++ t') c ((ms.set i { ms[i] with x := z }).flatMap Msg.cells) = h0 ++ ((g ++ t').set (c - h0.length) (some (.cells false ((ms.set i { ms[i] with x := z }).flatMap Msg.cells)))) := by
      rw [List.append_assoc]
      exact List.set_append_right _ _ nc
    have k1 : ∀ d X, d ≠ c → hget (h0 ++ g) d = some X → hget (hset (h0 ++ g ++ t') c ((ms.set i { ms[i] with x := z }).flatMap Msg.cells)) d = some X := fun d X hd e => by
      rw [hs_ne (fun e => hd e.symm)]
      exact hget_app e
    have k3 := hs_same lh ((ms.set i { ms[i] with x := z }).flatMap Msg.cells)
    have k2 := k1 b2 _ (Ne.symm c2) hb
    have k4 := k1 b4 _ (Ne.symm c4) hb4
    have hm2 : ∀ m ∈ ms.set i { ms[i] with x := z }, ∃ F, SlB (hset (h0 ++ g ++ t') c ((ms.set i { ms[i] with x := z }).flatMap Msg.cells)) 1 encB m.bs m.x F ∧ c ∉ F ∧ b2 ∉ F ∧ b4 ∉ F := by
      intro m hm'
      rcases List.mem_or_eq_of_mem_set hm' with hm' | rfl
      · obtain ⟨F, s, cF, oF⟩ := hm m hm'
        refine ⟨F, s.keep fun d hd => ?_, cF, oF⟩
        rw [hs_ne (fun e => cF (by rw [e]; exact hd))]
        exact hget_old _ (s.lt d hd)
      · obtain ⟨F, s, hF⟩ := oz.slb
        have cF : c ∉ F := fun h => by have := (hF c h).1; omega
        exact ⟨F, s.keep fun d hd => hs_ne (fun e => cF (by rw [e]; exact hd)) _, cF, fun h => by have := (hF b2 h).1; omega, fun h => by have := (hF b4 h).1; omega⟩
    have hlen : (ms.set i { ms[i] with x := z }).length = ms.length := List.length_set
    rw [← hlen] at k2
    rw [e2] at k2 k3 k4 hm2 ⊢
    refine ih (i + 1) (ms.set i { ms[i] with x := z }) _ Z (by rw [hlen]; omega) (by rw [hlen]; exact hl) k2 k4 k3 hm2 (fun m hm' => ?_) fun g' ms' hs => K g' ms' (hs.trans (set_sig z ms i hk))
    rcases List.mem_or_eq_of_mem_set hm' with hm' | rfl
    · exact hbs m hm'
    · exact hbs ms[i] (List.getElem_mem hk)
end
end Go.Ab
end
section
/-
  Copied, the whole.
-/
namespace Go.Ab
open Go.Proofs

theorem cpEnd (f : Frm) (r : AV) (h0 : AHeap) (b2 b4 c : Nat) (n2 : h0.length ≤ b2) (n4 : h0.length ≤ b4) (nc : h0.length ≤ c) (c2 : c ≠ b2) (c4 : c ≠ b4) (b24 : b2 ≠ b4) (g : AHeap) (ms : List Msg)
    (hb : hget (h0 ++ g) b2 = some (.cells false (f.cells (.sl c 0 ms.length 2) r))) (Z : List AV) (hZ : Z.length = 9) (hb4 : hget (h0 ++ g) b4 = some (.cells false Z)) (hc : hget (h0 ++ g) c = some (.cells false (ms.flatMap Msg.cells)))
    (hm : ∀ m ∈ ms, ∃ F, SlB (h0 ++ g) 1 encB m.bs m.x F ∧ c ∉ F ∧ b2 ∉ F ∧ b4 ∉ F) (sr : Sl h0 5 Rcd.cells f.recs r) (hr : f.recs.length ≤ 1000) :
    Post (J5_3 b2 b4 (h0 ++ g)) fun v h' => ∃ y z g', v = .agg ((f.wi ms).cells y z) ∧ h' = h0 ++ g' ∧ FrmL h' (f.wi ms) y z := by
  have f8 : aload false 1 (.ptr b2 8) (h0 ++ g ++ [some (.cells false [])]) = some r := by rw [aload_ptr, hget_app hb]; rfl
  have sr1 : Sl (h0 ++ g ++ [some (.cells false [])]) 5 Rcd.cells f.recs r := (sr.app g).app _
  obtain ⟨z, t', ea, oz⟩ := aapp_ow (by' := 8) (pre := h0 ++ g) (t := [some (.cells false [])]) (x := .sl (h0 ++ g).length 0 0 5) (l := ([] : List Rcd)) (l2 := f.recs) Rcd.len Rcd.isc (.inr ⟨(h0 ++ g).length, [], rfl, Nat.le_refl _, by rw [hget_at0]; rfl⟩) (by simp; omega)
  rw [List.nil_append] at oz
  have iz : isCell z = true := oz.sl.isc
  have hbl := hget_lt hb
  have hb4l := hget_lt hb4
  obtain ⟨H, hH⟩ : ∃ H, H = h0 ++ g ++ t' := ⟨_, rfl⟩
  obtain ⟨y, hy⟩ : ∃ y, y = AV.sl c 0 ms.length 2 := ⟨_, rfl⟩
  rw [← hy] at hb
  have iy : isCell y = true := by rw [hy]; rfl
  have kb : hget H b2 = some (.cells false (f.cells y r)) := by rw [hH]; exact hget_app hb
  have kb4 : hget H b4 = some (.cells false Z) := by rw [hH]; exact hget_app hb4
  have kc : hget H c = some (.cells false (ms.flatMap Msg.cells)) := by rw [hH]; exact hget_app hc
  have es : astore false 1 (.ptr b2 8) z H = some (hset H b2 (f.cells y z)) := by
    rw [astore_ptr, kb]
    simp [iz, Frm.cells]
  obtain ⟨H1, hH1⟩ : ∃ H1, H1 = hset H b2 (f.cells y z) := ⟨_, rfl⟩
  have el : aload true 9 (.ptr b2 0) H1 = some (.agg (f.cells y z)) := by
    rw [aload_ptr, hH1, hs_same (hget_lt kb)]
    rfl
  have es4 : astore true 9 (.ptr b4 0) (.agg (f.cells y z)) H1 = some (hset H1 b4 (f.cells y z)) := by
    have e4 : hget H1 b4 = some (.cells false Z) := by rw [hH1, hs_ne b24]; exact kb4
    have al : (f.cells y z).all isCell = true := by simp only [Frm.cells, List.all_cons, List.all_nil, isCell_int, iy, iz, Bool.and_self]
    have sp : splice Z 0 (f.cells y z) = f.cells y z := splice_all (by rw [hZ]; exact Nat.le_refl _)
    rw [astore_ptr, e4]
    have cond : 0 + 9 ≤ Z.length ∧ (f.cells y z).length = 9 ∧ (f.cells y z).all isCell = true := ⟨by omega, rfl, al⟩
    simp only [if_true, cond, sp, and_self]
  have l1 : H1.length = H.length := by rw [hH1, len_hset]
  have el4 : aload true 9 (.ptr b4 0) (hset H1 b4 (f.cells y z)) = some (.agg (f.cells y z)) := by
    rw [aload_ptr, hs_same (by rw [l1]; exact hget_lt kb4)]
    rfl
  rw [J5_3_eq, gN_eq, f8, gv_some, sr1.lenOf, gv_some, sr1.src Rcd.len, gv_some, ea, gr_some, ← hH, es, gv_some, ← hH1, el, gv_some, es4, gv_some, el4]
  have keep : ∀ d, d ≠ b2 → d ≠ b4 → hget (hset H1 b4 (f.cells y z)) d = hget H d := fun d d2 d4 => by
    rw [hs_ne (Ne.symm d4), hH1, hs_ne (Ne.symm d2)]
  have eg : hset H1 b4 (f.cells y z) = h0 ++ (((g ++ t').set (b2 - h0.length) (some (.cells false (f.cells y z)))).set (b4 - h0.length) (some (.cells false (f.cells y z)))) := by
    rw [hH1, hH, List.append_assoc]
    unfold hset
    rw [List.set_append_right _ _ n2, List.set_append_right _ _ n4]
  refine ⟨.agg (f.cells y z), hset H1 b4 (f.cells y z), rfl, y, z, _, rfl, eg, ?_, ?_, ?_⟩
  · have : Sl (hset H1 b4 (f.cells y z)) 2 Msg.cells ms (.sl c 0 ms.length 2) := .inr ⟨c, 0, rfl, false, _, by rw [keep c c2 c4]; exact kc, by rw [Nat.zero_add]; exact Nat.le_refl _, by rw [List.drop_zero]; exact List.take_length⟩
    rw [← hy] at this
    exact this
  · obtain ⟨F, s, hF⟩ := oz.slb
    rw [← hH] at s
    refine (s.keep fun d hd => keep d (fun e => ?_) (fun e => ?_)).sl
    · have := (hF d hd).1; omega
    · have := (hF d hd).1; omega
  · intro m hm'
    obtain ⟨F, s, _, f2, f4⟩ := hm m hm'
    refine (s.keep fun d hd => ?_).sl
    rw [keep d (fun e => f2 (by rw [← e]; exact hd)) (fun e => f4 (by rw [← e]; exact hd)), hH]
    exact hget_old _ (s.lt d hd)
theorem Sl.slb {α : Type} {h : AHeap} {sz : Nat} {enc : α → List AV} {l : List α} {x : AV} (s : Sl h sz enc l x) : ∃ F, SlB h sz enc l x F := by
  rcases s with ⟨e1, e2⟩ | ⟨b, o, e, a⟩
  · exact ⟨[], .inl ⟨e1, e2, rfl⟩⟩
  · exact ⟨[b], .inr ⟨b, o, e, rfl, a⟩⟩
theorem app00 (H : AHeap) (b n sz by' : Nat) (cs : List AV) (hb : hget H b = some (.cells false [])) (hn : n * by' ≤ 140737488355328) (hc : cs.all isCell = true) (h0 : n = 0 → cs = []) :
    ∃ c H2, aapp sz by' (.sl b 0 0 sz) n cs H = some (.sl c 0 n sz, H2) ∧ hget H2 c = some (.cells false cs) ∧ (c = b ∨ c = H.length) ∧ (∀ d, d < H.length → d ≠ b → hget H2 d = hget H d) ∧ H.length ≤ H2.length := by
  by_cases e : n = 0
  · subst e
    rw [h0 rfl]
    exact ⟨b, H, by simp [aapp], hb, .inl rfl, fun _ _ _ => rfl, Nat.le_refl _⟩
  · have hlt := hget_lt hb
    refine ⟨H.length, hnew (H.set b none) cs, ?_, ?_, .inr rfl, fun d hd hne => ?_, by simp [hnew]⟩
    · simp only [aapp, if_true, hb]
      rw [if_neg e, if_pos ⟨by simp, by rw [Nat.zero_add]; exact hn, hc⟩]
      simp
    · have : H.length = (H.set b none).length := by simp
      unfold hnew; rw [this, hget_at0]; rfl
    · unfold hnew
      rw [hget_old _ (by simpa using hd)]
      unfold hget
      rw [List.getElem?_set_ne (Ne.symm hne)]
/-- Copied. -/
theorem c_fcopied (f : Frm) (p r : AV) (h : AHeap) (L : FrmL h f p r) (hm : f.msgs.length ≤ 1000) (hr : f.recs.length ≤ 1000) (hbs : ∀ m ∈ f.msgs, m.bs.length ≤ 140737488351232) :
    Post (acall Try.prog Nt 5 [.agg (f.cells p r)] h) fun v h' => ∃ ms y z g', v = .agg ((f.wi ms).cells y z) ∧ h' = h ++ g' ∧ FrmL h' (f.wi ms) y z ∧ ms.map Msg.sig = f.msgs.map Msg.sig := by
  obtain ⟨Z, hZ⟩ : ∃ Z : List AV, Z = [.int .u8 0, .int .u32 0, .int .u8 0, .nilsl, .int .u8 0, .int .u8 0, .int .u16 0, .int .u16 0, .nilsl] := ⟨_, rfl⟩
  rw [E5, acells_agg, gv_some, gN_eq, gN_eq, gN_eq, ← hZ]
  obtain ⟨b2, h2⟩ : ∃ b, b = h.length := ⟨_, rfl⟩
  obtain ⟨b4, h4⟩ : ∃ b, b = (h ++ [some (ABlk.cells false (f.cells p r))]).length := ⟨_, rfl⟩
  obtain ⟨b6, h6⟩ : ∃ b, b = (h ++ [some (ABlk.cells false (f.cells p r))] ++ [some (ABlk.cells false Z)]).length := ⟨_, rfl⟩
  obtain ⟨H, hH⟩ : ∃ H, H = h ++ [some (ABlk.cells false (f.cells p r))] ++ [some (ABlk.cells false Z)] ++ [some (ABlk.cells false [])] := ⟨_, rfl⟩
  have e4 : b4 = h.length + 1 := by rw [h4]; simp
  have e6 : b6 = h.length + 2 := by rw [h6]; simp
  have k2 : hget H b2 = some (.cells false (f.cells p r)) := by rw [hH, h2]; exact hget_app (hget_app (by rw [hget_at0]; rfl))
  have k4 : hget H b4 = some (.cells false Z) := by rw [hH, h4]; exact hget_app (by rw [hget_at0]; rfl)
  have k6 : hget H b6 = some (.cells false []) := by rw [hH, h6, hget_at0]; rfl
  have hHl : H.length = h.length + 3 := by rw [hH]; simp
  rw [← h2, ← h4, ← h6, ← hH]
  have f3 : aload false 1 (.ptr b2 3) H = some p := by rw [aload_ptr, k2]; rfl
  have LH : FrmL H f p r := by rw [hH]; exact ((L.app _).app _).app _
  have hcs : (f.msgs.flatMap Msg.cells).all isCell = true := by
    rw [List.all_eq_true]
    intro w hw
    obtain ⟨m, hm1, hw⟩ := List.mem_flatMap.1 hw
    simp only [Msg.cells, List.mem_cons, List.not_mem_nil, or_false] at hw
    rcases hw with rfl | rfl
    · rfl
    · exact Sl.isc (L.each m hm1)
  obtain ⟨c, H2, ea, kc, hc, old, len⟩ := app00 H b6 f.msgs.length 2 32 (f.msgs.flatMap Msg.cells) k6 (by omega) hcs (fun e => by rw [List.eq_nil_of_length_eq_zero e]; rfl)
  have cn : h.length + 2 ≤ c := by rcases hc with rfl | rfl <;> omega
  have j2 : hget H2 b2 = some (.cells false (f.cells p r)) := by rw [old b2 (by omega) (by omega)]; exact k2
  have j4 : hget H2 b4 = some (.cells false Z) := by rw [old b4 (by omega) (by omega)]; exact k4
  have hH2 : ∃ g2, H2 = h ++ g2 := ext_of (by omega) fun d hd => by
    rw [old d (by omega) (by omega), hH]
    rw [hget_old _ (by simp; omega), hget_old _ (by simp; omega), hget_old _ hd]
  obtain ⟨g2, rfl⟩ := hH2
  have es : astore false 1 (.ptr b2 3) (.sl c 0 f.msgs.length 2) (h ++ g2) = some (hset (h ++ g2) b2 (f.cells (.sl c 0 f.msgs.length 2) r)) := by
    rw [astore_ptr, j2]
    rfl
  have eg : hset (h ++ g2) b2 (f.cells (.sl c 0 f.msgs.length 2) r) = h ++ g2.set (b2 - h.length) (some (.cells false (f.cells (.sl c 0 f.msgs.length 2) r))) := List.set_append_right _ _ (by omega)
  have m2 := hs_same (hget_lt j2) (f.cells (.sl c 0 f.msgs.length 2) r)
  have m4 : hget (hset (h ++ g2) b2 (f.cells (.sl c 0 f.msgs.length 2) r)) b4 = some (.cells false Z) := by rw [hs_ne (by omega)]; exact j4
  have mc : hget (hset (h ++ g2) b2 (f.cells (.sl c 0 f.msgs.length 2) r)) c = some (.cells false (f.msgs.flatMap Msg.cells)) := by rw [hs_ne (by omega)]; exact kc
  rw [f3, gv_some, LH.msgs.lenOf, gv_some, LH.msgs.src Msg.len, gv_some, ea, gr_some, es, gv_some]
  rw [eg] at m2 m4 mc ⊢
  have z0 : (0 : Int) = ((0 : Nat) : Int) := rfl
  rw [z0]
  refine cpLoop f r h b2 b4 c _ (by omega) (by omega) (by omega) (by omega) f.msgs.length 0 f.msgs _ _ rfl hm m2 m4 mc (fun m hm' => ?_) hbs fun g' ms' hsig q2 q4 qc qm => ?_
  · obtain ⟨F, s⟩ := Sl.slb (L.each m hm')
    have lt := s.lt
    exact ⟨F, s.keep fun d hd => hget_old _ (lt d hd), fun h => by have := lt _ h; omega, fun h => by have := lt _ h; omega, fun h => by have := lt _ h; omega⟩
  · obtain ⟨v, h', e, y, z, g3, rfl, rfl, LL⟩ := cpEnd f r h b2 b4 c (by omega) (by omega) (by omega) (by omega) (by omega) (by omega) g' ms' q2 Z (by rw [hZ]; rfl) q4 qc qm L.recs hr
    exact ⟨_, _, e, ms', y, z, g3, rfl, rfl, LL, hsig⟩
end Go.Ab
end
section
/-
  Functions of the program as equations: written by program (wip/tools/prt.py).
-/
namespace Go.Ab
open Go.Proofs
/-! 11: escapement/escapementref04.Same -/
noncomputable def K11 : Kont := kend Try.prog 37 Try.f11.results.toList
noncomputable def K11_1 (lp : Loop) (jn : Join) : Kont := kseqJ jn (codeJ Try.prog Nt lp jn 37 (nat' [true, true] A11) (cat [true, true] C11)) (some [2, 3]) K11
noncomputable def J11_1' (lp : Loop) (jn : Join) (x2 : Nat) (x3 : Nat) (x31 : Bool) (h : AHeap) : Res := jn (codeJ Try.prog Nt lp jn 37 (nat' [true, false, true] A11) (cat [true, false, true] C11)) (envOf [(2, (.ptr x2 0)), (3, (.ptr x3 0)), (31, (.bool x31))]) h (K11_1 lp jn)
noncomputable def J11_1 (x2 : Nat) (x3 : Nat) (x31 : Bool) (h : AHeap) : Res := J11_1' aloop (fun s => s) x2 x3 x31 h
noncomputable def J11_2' (lp : Loop) (jn : Join) (x2 : Nat) (x3 : Nat) (h : AHeap) : Res := jn (codeJ Try.prog Nt lp jn 37 (nat' [true, true] A11) (cat [true, true] C11)) (envOf [(2, (.ptr x2 0)), (3, (.ptr x3 0))]) h K11
noncomputable def J11_2 (x2 : Nat) (x3 : Nat) (h : AHeap) : Res := J11_2' aloop (fun s => s) x2 x3 h
theorem J11_1_g (lp : Loop) (jn : Join) (x2 : Nat) (x3 : Nat) (x31 : Bool) (h : AHeap) : codeJ Try.prog Nt lp jn 37 (nat' [true, false, true] A11) (cat [true, false, true] C11) (envOf [(2, (.ptr x2 0)), (3, (.ptr x3 0)), (31, (.bool x31))]) h (K11_1 lp jn) = (gc x31 (some ((.bool false), h)) (J11_2' lp jn x2 x3 h)) := by kernel_rfl
theorem J11_1_eq (x2 : Nat) (x3 : Nat) (x31 : Bool) (h : AHeap) : J11_1 x2 x3 x31 h = (gc x31 (some ((.bool false), h)) (J11_2 x2 x3 h)) := J11_1_g aloop (fun s => s) x2 x3 x31 h
theorem J11_2_g (lp : Loop) (jn : Join) (x2 : Nat) (x3 : Nat) (h : AHeap) : codeJ Try.prog Nt lp jn 37 (nat' [true, true] A11) (cat [true, true] C11) (envOf [(2, (.ptr x2 0)), (3, (.ptr x3 0))]) h K11 = (gv (aload false 1 (.ptr x2 8) h) fun v24 => gv (aload false 1 (.ptr x3 8) h) fun v25 => gr (acall Try.prog Nt 26 [v24, v25] h) fun r26 h27 => gB r26 fun b28 => some ((.bool b28), h27)) := by kernel_rfl
theorem J11_2_eq (x2 : Nat) (x3 : Nat) (h : AHeap) : J11_2 x2 x3 h = (gv (aload false 1 (.ptr x2 8) h) fun v24 => gv (aload false 1 (.ptr x3 8) h) fun v25 => gr (acall Try.prog Nt 26 [v24, v25] h) fun r26 h27 => gB r26 fun b28 => some ((.bool b28), h27)) := J11_2_g aloop (fun s => s) x2 x3 h
theorem E11_g (lp : Loop) (jn : Join) (x0 : AV) (x1 : AV) (h : AHeap) : codeJ Try.prog Nt lp jn 37 (Nt 11) C11 (args [x0, x1]) h K11 = (gv (acells x0) fun cs1 => gN h cs1 fun b2 h3 => gv (acells x1) fun cs4 => gN h3 cs4 fun b5 h6 => gv (aload false 1 (.ptr b2 0) h6) fun v7 => gI .u8 v7 fun n8 => gv (aload false 1 (.ptr b5 0) h6) fun v9 => gI .u8 v9 fun n10 => gi (n8 != n10) (J11_1' lp jn b2 b5 true h6) (gv (aload true 2 (.ptr b2 1) h6) fun v11 => gv (aload true 2 (.ptr b5 1) h6) fun v12 => gv (abin Try.prog .neq 24 (aeqOk Try.prog 24 (.tmp 12) (.tmp 14) v11 v12) v11 v12) fun v13 => gB v13 fun b14 => gi b14 (J11_1' lp jn b2 b5 true h6) (gv (aload true 4 (.ptr b2 4) h6) fun v15 => gv (aload true 4 (.ptr b5 4) h6) fun v16 => gv (abin Try.prog .neq 29 (aeqOk Try.prog 29 (.tmp 19) (.tmp 21) v15 v16) v15 v16) fun v17 => gB v17 fun b18 => gi b18 (J11_1' lp jn b2 b5 true h6) (gv (aload false 1 (.ptr b2 3) h6) fun v19 => gv (aload false 1 (.ptr b5 3) h6) fun v20 => gr (acall Try.prog Nt 25 [v19, v20] h6) fun r21 h22 => gB r21 fun b23 => J11_1' lp jn b2 b5 (!b23) h22)))) := by kernel_rfl
theorem E11 (x0 : AV) (x1 : AV) (h : AHeap) : acall Try.prog Nt 11 [x0, x1] h = (gv (acells x0) fun cs1 => gN h cs1 fun b2 h3 => gv (acells x1) fun cs4 => gN h3 cs4 fun b5 h6 => gv (aload false 1 (.ptr b2 0) h6) fun v7 => gI .u8 v7 fun n8 => gv (aload false 1 (.ptr b5 0) h6) fun v9 => gI .u8 v9 fun n10 => gi (n8 != n10) (J11_1 b2 b5 true h6) (gv (aload true 2 (.ptr b2 1) h6) fun v11 => gv (aload true 2 (.ptr b5 1) h6) fun v12 => gv (abin Try.prog .neq 24 (aeqOk Try.prog 24 (.tmp 12) (.tmp 14) v11 v12) v11 v12) fun v13 => gB v13 fun b14 => gi b14 (J11_1 b2 b5 true h6) (gv (aload true 4 (.ptr b2 4) h6) fun v15 => gv (aload true 4 (.ptr b5 4) h6) fun v16 => gv (abin Try.prog .neq 29 (aeqOk Try.prog 29 (.tmp 19) (.tmp 21) v15 v16) v15 v16) fun v17 => gB v17 fun b18 => gi b18 (J11_1 b2 b5 true h6) (gv (aload false 1 (.ptr b2 3) h6) fun v19 => gv (aload false 1 (.ptr b5 3) h6) fun v20 => gr (acall Try.prog Nt 25 [v19, v20] h6) fun r21 h22 => gB r21 fun b23 => J11_1 b2 b5 (!b23) h22)))) := (acall_at rfl Try.func11 _ h 37 rfl (c := C11) rfl).trans (E11_g aloop (fun s => s) x0 x1 h)
end Go.Ab
end
section
/-
  Functions of the program as equations: written by program (wip/tools/prt.py).
-/
namespace Go.Ab
open Go.Proofs
/-! 25: escapement/escapementref04.SameMessages -/
noncomputable def K25 : Kont := kend Try.prog 43 Try.f25.results.toList
noncomputable def K25_1 (lp : Loop) (jn : Join) : Kont := kseqJ jn (codeJ Try.prog Nt lp jn 43 (nat' [true, true, true] A25) (cat [true, true, true] C25)) (some []) K25
noncomputable def K25_2 (lp : Loop) (jn : Join) : Kont := kblock 0 none (K25_1 lp jn)
noncomputable def K25_3 (lp : Loop) (jn : Join) : Kont := kloop (lp (some [0, 1, 5]) (codeJ Try.prog Nt lp jn 43 (nat' [true, true, false, true, false, false] A25) (cat [true, true, false, true, false, false] C25))) (some [0, 1, 5]) (K25_2 lp jn)
noncomputable def K25_4 (lp : Loop) (jn : Join) : Kont := kseqJ jn (codeJ Try.prog Nt lp jn 43 (nat' [true, true, false, true, false, false, true, true] A25) (cat [true, true, false, true, false, false, true, true] C25)) (some [0, 1, 5]) (K25_3 lp jn)
noncomputable def K25_5 (lp : Loop) (jn : Join) : Kont := kblock 1 none (K25_4 lp jn)
noncomputable def J25_1' (lp : Loop) (jn : Join) (x0 : AV) (x1 : AV) (h : AHeap) : Res := jn (codeJ Try.prog Nt lp jn 43 (nat' [true, true] A25) (cat [true, true] C25)) (envOf [(0, x0), (1, x1)]) h K25
noncomputable def J25_1 (x0 : AV) (x1 : AV) (h : AHeap) : Res := J25_1' aloop (fun s => s) x0 x1 h
noncomputable def J25_2' (lp : Loop) (jn : Join) (x0 : AV) (x1 : AV) (x5 : Int) (h : AHeap) : Res := lp (some [0, 1, 5]) (codeJ Try.prog Nt lp jn 43 (nat' [true, true, false, true, false, false] A25) (cat [true, true, false, true, false, false] C25)) (envOf [(0, x0), (1, x1), (5, (.int .i64 x5))]) h (K25_2 lp jn)
noncomputable def J25_2 (x0 : AV) (x1 : AV) (x5 : Int) (h : AHeap) : Res := J25_2' aloop (fun s => s) x0 x1 x5 h
noncomputable def J25_3' (lp : Loop) (jn : Join) (x0 : AV) (x1 : AV) (x5 : Int) (h : AHeap) : Res := jn (codeJ Try.prog Nt lp jn 43 (nat' [true, true, false, true, false, false, true] A25) (cat [true, true, false, true, false, false, true] C25)) (envOf [(0, x0), (1, x1), (5, (.int .i64 x5))]) h (K25_3 lp jn)
noncomputable def J25_3 (x0 : AV) (x1 : AV) (x5 : Int) (h : AHeap) : Res := J25_3' aloop (fun s => s) x0 x1 x5 h
noncomputable def J25_4' (lp : Loop) (jn : Join)  (h : AHeap) : Res := jn (codeJ Try.prog Nt lp jn 43 (nat' [true, true, true] A25) (cat [true, true, true] C25)) (envOf []) h K25
noncomputable def J25_4  (h : AHeap) : Res := J25_4' aloop (fun s => s)  h
noncomputable def J25_5' (lp : Loop) (jn : Join) (x0 : AV) (x1 : AV) (x5 : Int) (x42 : Bool) (h : AHeap) : Res := jn (codeJ Try.prog Nt lp jn 43 (nat' [true, true, false, true, false, false, true, false, false, true] A25) (cat [true, true, false, true, false, false, true, false, false, true] C25)) (envOf [(0, x0), (1, x1), (5, (.int .i64 x5)), (42, (.bool x42))]) h (K25_5 lp jn)
noncomputable def J25_5 (x0 : AV) (x1 : AV) (x5 : Int) (x42 : Bool) (h : AHeap) : Res := J25_5' aloop (fun s => s) x0 x1 x5 x42 h
noncomputable def J25_6' (lp : Loop) (jn : Join) (x0 : AV) (x1 : AV) (x5 : Int) (h : AHeap) : Res := jn (codeJ Try.prog Nt lp jn 43 (nat' [true, true, false, true, false, false, true, true] A25) (cat [true, true, false, true, false, false, true, true] C25)) (envOf [(0, x0), (1, x1), (5, (.int .i64 x5))]) h (K25_3 lp jn)
noncomputable def J25_6 (x0 : AV) (x1 : AV) (x5 : Int) (h : AHeap) : Res := J25_6' aloop (fun s => s) x0 x1 x5 h
theorem J25_1_g (lp : Loop) (jn : Join) (x0 : AV) (x1 : AV) (h : AHeap) : codeJ Try.prog Nt lp jn 43 (nat' [true, true] A25) (cat [true, true] C25) (envOf [(0, x0), (1, x1)]) h K25 = (J25_2' lp jn x0 x1 0 h) := by kernel_rfl
theorem J25_1_eq (x0 : AV) (x1 : AV) (h : AHeap) : J25_1 x0 x1 h = (J25_2 x0 x1 0 h) := J25_1_g aloop (fun s => s) x0 x1 h
theorem J25_2_g (lp : Loop) (jn : Join) (x0 : AV) (x1 : AV) (x5 : Int) (h : AHeap) : codeJ Try.prog Nt lp jn 43 (nat' [true, true, false, true, false, false] A25) (cat [true, true, false, true, false, false] C25) (envOf [(0, x0), (1, x1), (5, (.int .i64 x5))]) h (kloop (lp (some [0, 1, 5]) (codeJ Try.prog Nt lp jn 43 (nat' [true, true, false, true, false, false] A25) (cat [true, true, false, true, false, false] C25))) (some [0, 1, 5]) (K25_2 lp jn)) = (gv (alenS x0) fun m3 => gc (decide (x5 < (m3 : Int))) (J25_3' lp jn x0 x1 x5 h) (J25_4' lp jn h)) := by kernel_rfl
theorem J25_2_eq (x0 : AV) (x1 : AV) (x5 : Int) (h : AHeap) : J25_2 x0 x1 x5 h = (gv (alenS x0) fun m3 => gc (decide (x5 < (m3 : Int))) (J25_3 x0 x1 x5 h) (J25_4 h)) := (aloop_at (some [0, 1, 5]) (nat' [true, true, false, true, false, false] A25) (cat [true, true, false, true, false, false] C25) (envOf [(0, x0), (1, x1), (5, (.int .i64 x5))]) h (K25_2 aloop (fun s => s))).trans (J25_2_g aloop (fun s => s) x0 x1 x5 h)
theorem J25_3_g (lp : Loop) (jn : Join) (x0 : AV) (x1 : AV) (x5 : Int) (h : AHeap) : codeJ Try.prog Nt lp jn 43 (nat' [true, true, false, true, false, false, true] A25) (cat [true, true, false, true, false, false, true] C25) (envOf [(0, x0), (1, x1), (5, (.int .i64 x5))]) h (K25_3 lp jn) = (gv (aixS 2 x0 x5) fun v4 => gv (aptr v4 0) fun v5 => gv (aload false 1 v5 h) fun v6 => gI .i64 v6 fun n7 => gv (aixS 2 x1 x5) fun v8 => gv (aptr v8 0) fun v9 => gv (aload false 1 v9 h) fun v10 => gI .i64 v10 fun n11 => gi (n7 != n11) (J25_5' lp jn x0 x1 x5 true h) (gv (aixS 2 x0 x5) fun v12 => gv (aptr v12 1) fun v13 => gv (aload false 1 v13 h) fun v14 => gv (astrOf v14 h) fun v15 => gS v15 fun s16 => gv (aixS 2 x1 x5) fun v17 => gv (aptr v17 1) fun v18 => gv (aload false 1 v18 h) fun v19 => gv (astrOf v19 h) fun v20 => gS v20 fun s21 => J25_5' lp jn x0 x1 x5 (!(s16 == s21)) h)) := by kernel_rfl
theorem J25_3_eq (x0 : AV) (x1 : AV) (x5 : Int) (h : AHeap) : J25_3 x0 x1 x5 h = (gv (aixS 2 x0 x5) fun v4 => gv (aptr v4 0) fun v5 => gv (aload false 1 v5 h) fun v6 => gI .i64 v6 fun n7 => gv (aixS 2 x1 x5) fun v8 => gv (aptr v8 0) fun v9 => gv (aload false 1 v9 h) fun v10 => gI .i64 v10 fun n11 => gi (n7 != n11) (J25_5 x0 x1 x5 true h) (gv (aixS 2 x0 x5) fun v12 => gv (aptr v12 1) fun v13 => gv (aload false 1 v13 h) fun v14 => gv (astrOf v14 h) fun v15 => gS v15 fun s16 => gv (aixS 2 x1 x5) fun v17 => gv (aptr v17 1) fun v18 => gv (aload false 1 v18 h) fun v19 => gv (astrOf v19 h) fun v20 => gS v20 fun s21 => J25_5 x0 x1 x5 (!(s16 == s21)) h)) := J25_3_g aloop (fun s => s) x0 x1 x5 h
theorem J25_4_g (lp : Loop) (jn : Join)  (h : AHeap) : codeJ Try.prog Nt lp jn 43 (nat' [true, true, true] A25) (cat [true, true, true] C25) (envOf []) h K25 = (some ((.bool true), h)) := by kernel_rfl
theorem J25_4_eq  (h : AHeap) : J25_4  h = (some ((.bool true), h)) := J25_4_g aloop (fun s => s)  h
theorem J25_5_g (lp : Loop) (jn : Join) (x0 : AV) (x1 : AV) (x5 : Int) (x42 : Bool) (h : AHeap) : codeJ Try.prog Nt lp jn 43 (nat' [true, true, false, true, false, false, true, false, false, true] A25) (cat [true, true, false, true, false, false, true, false, false, true] C25) (envOf [(0, x0), (1, x1), (5, (.int .i64 x5)), (42, (.bool x42))]) h (K25_5 lp jn) = (gc x42 (some ((.bool false), h)) (J25_6' lp jn x0 x1 x5 h)) := by kernel_rfl
theorem J25_5_eq (x0 : AV) (x1 : AV) (x5 : Int) (x42 : Bool) (h : AHeap) : J25_5 x0 x1 x5 x42 h = (gc x42 (some ((.bool false), h)) (J25_6 x0 x1 x5 h)) := J25_5_g aloop (fun s => s) x0 x1 x5 x42 h
theorem J25_6_g (lp : Loop) (jn : Join) (x0 : AV) (x1 : AV) (x5 : Int) (h : AHeap) : codeJ Try.prog Nt lp jn 43 (nat' [true, true, false, true, false, false, true, true] A25) (cat [true, true, false, true, false, false, true, true] C25) (envOf [(0, x0), (1, x1), (5, (.int .i64 x5))]) h (K25_3 lp jn) = (J25_2' lp jn x0 x1 (IntKind.i64.wrap (x5 + 1)) h) := by kernel_rfl
theorem J25_6_eq (x0 : AV) (x1 : AV) (x5 : Int) (h : AHeap) : J25_6 x0 x1 x5 h = (J25_2 x0 x1 (IntKind.i64.wrap (x5 + 1)) h) := J25_6_g aloop (fun s => s) x0 x1 x5 h
theorem E25_g (lp : Loop) (jn : Join) (x0 : AV) (x1 : AV) (h : AHeap) : codeJ Try.prog Nt lp jn 43 (Nt 25) C25 (args [x0, x1]) h K25 = (gv (alenS x0) fun m1 => gv (alenS x1) fun m2 => gc ((m1 : Int) != (m2 : Int)) (some ((.bool false), h)) (J25_1' lp jn x0 x1 h)) := by kernel_rfl
theorem E25 (x0 : AV) (x1 : AV) (h : AHeap) : acall Try.prog Nt 25 [x0, x1] h = (gv (alenS x0) fun m1 => gv (alenS x1) fun m2 => gc ((m1 : Int) != (m2 : Int)) (some ((.bool false), h)) (J25_1 x0 x1 h)) := (acall_at rfl Try.func25 _ h 43 rfl (c := C25) rfl).trans (E25_g aloop (fun s => s) x0 x1 h)
end Go.Ab
end
section
/-
  Functions of the program as equations: written by program (wip/tools/prt.py).
-/
namespace Go.Ab
open Go.Proofs
/-! 26: escapement/escapementref04.SameRecords -/
noncomputable def K26 : Kont := kend Try.prog 26 Try.f26.results.toList
noncomputable def K26_1 (lp : Loop) (jn : Join) : Kont := kseqJ jn (codeJ Try.prog Nt lp jn 26 (nat' [true, true, true] A26) (cat [true, true, true] C26)) (some []) K26
noncomputable def K26_2 (lp : Loop) (jn : Join) : Kont := kblock 0 none (K26_1 lp jn)
noncomputable def K26_3 (lp : Loop) (jn : Join) : Kont := kloop (lp (some [0, 1, 5]) (codeJ Try.prog Nt lp jn 26 (nat' [true, true, false, true, false, false] A26) (cat [true, true, false, true, false, false] C26))) (some [0, 1, 5]) (K26_2 lp jn)
noncomputable def J26_1' (lp : Loop) (jn : Join) (x0 : AV) (x1 : AV) (h : AHeap) : Res := jn (codeJ Try.prog Nt lp jn 26 (nat' [true, true] A26) (cat [true, true] C26)) (envOf [(0, x0), (1, x1)]) h K26
noncomputable def J26_1 (x0 : AV) (x1 : AV) (h : AHeap) : Res := J26_1' aloop (fun s => s) x0 x1 h
noncomputable def J26_2' (lp : Loop) (jn : Join) (x0 : AV) (x1 : AV) (x5 : Int) (h : AHeap) : Res := lp (some [0, 1, 5]) (codeJ Try.prog Nt lp jn 26 (nat' [true, true, false, true, false, false] A26) (cat [true, true, false, true, false, false] C26)) (envOf [(0, x0), (1, x1), (5, (.int .i64 x5))]) h (K26_2 lp jn)
noncomputable def J26_2 (x0 : AV) (x1 : AV) (x5 : Int) (h : AHeap) : Res := J26_2' aloop (fun s => s) x0 x1 x5 h
noncomputable def J26_3' (lp : Loop) (jn : Join) (x0 : AV) (x1 : AV) (x5 : Int) (h : AHeap) : Res := jn (codeJ Try.prog Nt lp jn 26 (nat' [true, true, false, true, false, false, true] A26) (cat [true, true, false, true, false, false, true] C26)) (envOf [(0, x0), (1, x1), (5, (.int .i64 x5))]) h (K26_3 lp jn)
noncomputable def J26_3 (x0 : AV) (x1 : AV) (x5 : Int) (h : AHeap) : Res := J26_3' aloop (fun s => s) x0 x1 x5 h
noncomputable def J26_4' (lp : Loop) (jn : Join)  (h : AHeap) : Res := jn (codeJ Try.prog Nt lp jn 26 (nat' [true, true, true] A26) (cat [true, true, true] C26)) (envOf []) h K26
noncomputable def J26_4  (h : AHeap) : Res := J26_4' aloop (fun s => s)  h
noncomputable def J26_5' (lp : Loop) (jn : Join) (x0 : AV) (x1 : AV) (x5 : Int) (h : AHeap) : Res := jn (codeJ Try.prog Nt lp jn 26 (nat' [true, true, false, true, false, false, true, true] A26) (cat [true, true, false, true, false, false, true, true] C26)) (envOf [(0, x0), (1, x1), (5, (.int .i64 x5))]) h (K26_3 lp jn)
noncomputable def J26_5 (x0 : AV) (x1 : AV) (x5 : Int) (h : AHeap) : Res := J26_5' aloop (fun s => s) x0 x1 x5 h
theorem J26_1_g (lp : Loop) (jn : Join) (x0 : AV) (x1 : AV) (h : AHeap) : codeJ Try.prog Nt lp jn 26 (nat' [true, true] A26) (cat [true, true] C26) (envOf [(0, x0), (1, x1)]) h K26 = (J26_2' lp jn x0 x1 0 h) := by kernel_rfl
theorem J26_1_eq (x0 : AV) (x1 : AV) (h : AHeap) : J26_1 x0 x1 h = (J26_2 x0 x1 0 h) := J26_1_g aloop (fun s => s) x0 x1 h
theorem J26_2_g (lp : Loop) (jn : Join) (x0 : AV) (x1 : AV) (x5 : Int) (h : AHeap) : codeJ Try.prog Nt lp jn 26 (nat' [true, true, false, true, false, false] A26) (cat [true, true, false, true, false, false] C26) (envOf [(0, x0), (1, x1), (5, (.int .i64 x5))]) h (kloop (lp (some [0, 1, 5]) (codeJ Try.prog Nt lp jn 26 (nat' [true, true, false, true, false, false] A26) (cat [true, true, false, true, false, false] C26))) (some [0, 1, 5]) (K26_2 lp jn)) = (gv (alenS x0) fun m3 => gc (decide (x5 < (m3 : Int))) (J26_3' lp jn x0 x1 x5 h) (J26_4' lp jn h)) := by kernel_rfl
theorem J26_2_eq (x0 : AV) (x1 : AV) (x5 : Int) (h : AHeap) : J26_2 x0 x1 x5 h = (gv (alenS x0) fun m3 => gc (decide (x5 < (m3 : Int))) (J26_3 x0 x1 x5 h) (J26_4 h)) := (aloop_at (some [0, 1, 5]) (nat' [true, true, false, true, false, false] A26) (cat [true, true, false, true, false, false] C26) (envOf [(0, x0), (1, x1), (5, (.int .i64 x5))]) h (K26_2 aloop (fun s => s))).trans (J26_2_g aloop (fun s => s) x0 x1 x5 h)
theorem J26_3_g (lp : Loop) (jn : Join) (x0 : AV) (x1 : AV) (x5 : Int) (h : AHeap) : codeJ Try.prog Nt lp jn 26 (nat' [true, true, false, true, false, false, true] A26) (cat [true, true, false, true, false, false, true] C26) (envOf [(0, x0), (1, x1), (5, (.int .i64 x5))]) h (K26_3 lp jn) = (gv (aixS 5 x0 x5) fun v4 => gv (aload true 5 v4 h) fun v5 => gv (aixS 5 x1 x5) fun v6 => gv (aload true 5 v6 h) fun v7 => gv (abin Try.prog .neq 58 (aeqOk Try.prog 58 (.tmp 20) (.tmp 24) v5 v7) v5 v7) fun v8 => gB v8 fun b9 => gc b9 (some ((.bool false), h)) (J26_5' lp jn x0 x1 x5 h)) := by kernel_rfl
theorem J26_3_eq (x0 : AV) (x1 : AV) (x5 : Int) (h : AHeap) : J26_3 x0 x1 x5 h = (gv (aixS 5 x0 x5) fun v4 => gv (aload true 5 v4 h) fun v5 => gv (aixS 5 x1 x5) fun v6 => gv (aload true 5 v6 h) fun v7 => gv (abin Try.prog .neq 58 (aeqOk Try.prog 58 (.tmp 20) (.tmp 24) v5 v7) v5 v7) fun v8 => gB v8 fun b9 => gc b9 (some ((.bool false), h)) (J26_5 x0 x1 x5 h)) := J26_3_g aloop (fun s => s) x0 x1 x5 h
theorem J26_4_g (lp : Loop) (jn : Join)  (h : AHeap) : codeJ Try.prog Nt lp jn 26 (nat' [true, true, true] A26) (cat [true, true, true] C26) (envOf []) h K26 = (some ((.bool true), h)) := by kernel_rfl
theorem J26_4_eq  (h : AHeap) : J26_4  h = (some ((.bool true), h)) := J26_4_g aloop (fun s => s)  h
theorem J26_5_g (lp : Loop) (jn : Join) (x0 : AV) (x1 : AV) (x5 : Int) (h : AHeap) : codeJ Try.prog Nt lp jn 26 (nat' [true, true, false, true, false, false, true, true] A26) (cat [true, true, false, true, false, false, true, true] C26) (envOf [(0, x0), (1, x1), (5, (.int .i64 x5))]) h (K26_3 lp jn) = (J26_2' lp jn x0 x1 (IntKind.i64.wrap (x5 + 1)) h) := by kernel_rfl
theorem J26_5_eq (x0 : AV) (x1 : AV) (x5 : Int) (h : AHeap) : J26_5 x0 x1 x5 h = (J26_2 x0 x1 (IntKind.i64.wrap (x5 + 1)) h) := J26_5_g aloop (fun s => s) x0 x1 x5 h
theorem E26_g (lp : Loop) (jn : Join) (x0 : AV) (x1 : AV) (h : AHeap) : codeJ Try.prog Nt lp jn 26 (Nt 26) C26 (args [x0, x1]) h K26 = (gv (alenS x0) fun m1 => gv (alenS x1) fun m2 => gc ((m1 : Int) != (m2 : Int)) (some ((.bool false), h)) (J26_1' lp jn x0 x1 h)) := by kernel_rfl
theorem E26 (x0 : AV) (x1 : AV) (h : AHeap) : acall Try.prog Nt 26 [x0, x1] h = (gv (alenS x0) fun m1 => gv (alenS x1) fun m2 => gc ((m1 : Int) != (m2 : Int)) (some ((.bool false), h)) (J26_1 x0 x1 h)) := (acall_at rfl Try.func26 _ h 26 rfl (c := C26) rfl).trans (E26_g aloop (fun s => s) x0 x1 h)
end Go.Ab
end
section
/-
  Functions of the program as equations: written by program (wip/tools/prt.py).
-/
namespace Go.Ab
open Go.Proofs
/-! 4: escapement/escapementlaw04.Awake -/
noncomputable def K4 : Kont := kend Try.prog 15 Try.f4.results.toList
theorem E4_g (lp : Loop) (jn : Join)  (h : AHeap) : codeJ Try.prog Nt lp jn 15 (Nt 4) C4 (args []) h K4 = (gr (acall Try.prog Nt 6 [(.agg [(.int .u8 0), (.int .u32 0), (.int .u8 0), .nilsl, (.int .u8 0), (.int .u8 0), (.int .u16 0), (.int .u16 0), .nilsl])] h) fun r1 h2 => gv (aextract r1 0) fun v3 => gv (aextract r1 1) fun v4 => gv (abin Try.prog .eql 37 (aeqOk Try.prog 37 (.tmp 8) (.const .nilIface) v4 .niliface) v4 .niliface) fun v5 => gB v5 fun b6 => gi b6 (gv (astrOf v3 h2) fun v7 => gS v7 fun s8 => some ((.bool (s8 == [0, 0, 0, 0, 0, 0, 0, 0, 0, 0, 0, 0, 0, 0, 199, 121, 187, 209])), h2)) (some ((.bool false), h2))) := by kernel_rfl
theorem E4  (h : AHeap) : acall Try.prog Nt 4 [] h = (gr (acall Try.prog Nt 6 [(.agg [(.int .u8 0), (.int .u32 0), (.int .u8 0), .nilsl, (.int .u8 0), (.int .u8 0), (.int .u16 0), (.int .u16 0), .nilsl])] h) fun r1 h2 => gv (aextract r1 0) fun v3 => gv (aextract r1 1) fun v4 => gv (abin Try.prog .eql 37 (aeqOk Try.prog 37 (.tmp 8) (.const .nilIface) v4 .niliface) v4 .niliface) fun v5 => gB v5 fun b6 => gi b6 (gv (astrOf v3 h2) fun v7 => gS v7 fun s8 => some ((.bool (s8 == [0, 0, 0, 0, 0, 0, 0, 0, 0, 0, 0, 0, 0, 0, 199, 121, 187, 209])), h2)) (some ((.bool false), h2))) := (acall_at rfl Try.func4 _ h 15 rfl (c := C4) rfl).trans (E4_g aloop (fun s => s)  h)
end Go.Ab
end
section
/-
  Same, Awake.
-/
namespace Go.Ab
open Go.Proofs

def strOf (bs : List Int) : List UInt8 := bs.map fun n => UInt8.ofNat n.toNat
theorem abytes_B : ∀ bs : List Int, abytes (bs.flatMap encB) = some (strOf bs)
  | [] => rfl
  | n :: bs => by
    have := abytes_B bs
    simp only [List.flatMap_cons, encB, List.cons_append, List.nil_append, abytes]
    rw [this]
    rfl
theorem astr_B {h : AHeap} {bs : List Int} {x : AV} (s : Sl h 1 encB bs x) : astrOf x h = some (.str (strOf bs)) := by
  have e := s.src encB_len
  have b := abytes_B bs
  rcases s with ⟨rfl, rfl⟩ | ⟨c, o, rfl, _⟩
  · rfl
  · simp only [astrOf, e, Option.bind_some, b, Option.map_some]
theorem smLoop (h : AHeap) (l k : List Msg) (x y : AV) (hx : Sl h 2 Msg.cells l x) (hy : Sl h 2 Msg.cells k y) (ml : ∀ m ∈ l, MsgOk h m) (mk : ∀ m ∈ k, MsgOk h m) (hn : l.length ≤ 1000) : ∀ (s t : List Msg) (i : Nat), l.drop i = s → k.drop i = t → s.map Msg.sig = t.map Msg.sig → J25_2 x y (i : Int) h = some (.bool true, h)
  | [], t, i, hs, ht, _ => by
    have := drop_nil hs
    rw [J25_2_eq, hx.len, gv_some, decide_eq_false (by omega), gc_f, J25_4_eq]
  | a :: s, [], i, hs, ht, e => by simp at e
  | a :: s, b :: t, i, hs, ht, e => by
    simp only [List.map_cons, List.cons.injEq, Msg.sig, Prod.mk.injEq] at e
    obtain ⟨⟨e1, e2⟩, e3⟩ := e
    obtain ⟨hk, ha, hs'⟩ := drop_cons hs
    obtain ⟨hk2, hb, ht'⟩ := drop_cons ht
    obtain ⟨eb, eo, ix, ea⟩ := hx.elem Msg.len i hk
    obtain ⟨fb1, fo, fx, fa⟩ := hy.elem Msg.len i hk2
    rw [ha] at ea
    rw [hb] at fa
    have oa : Sl h 1 encB a.bs a.x := ml a (by rw [← ha]; exact List.getElem_mem hk)
    have ob : Sl h 1 encB b.bs b.x := mk b (by rw [← hb]; exact List.getElem_mem hk2)
    have l0 : aload false 1 (.ptr eb eo) h = some (.int .i64 a.port) := ea.load0 (v := .int .i64 a.port) (vs := [a.x]) 1
    have l1 : aload false 1 (.ptr eb (eo + 1)) h = some a.x := ea.load1 1 (by simp [Msg.cells]) 1
    have k0 : aload false 1 (.ptr fb1 fo) h = some (.int .i64 b.port) := fa.load0 (v := .int .i64 b.port) (vs := [b.x]) 1
    have k1 : aload false 1 (.ptr fb1 (fo + 1)) h = some b.x := fa.load1 1 (by simp [Msg.cells]) 1
    have n0 : (a.port != b.port) = false := by simp [e1]
    have n1 : (!(strOf a.bs == strOf b.bs)) = false := by simp [e2]
    rw [J25_2_eq, hx.len, gv_some, decide_eq_true (by omega), gc_t, J25_3_eq]
    rw [ix, gv_some, aptr_ptr, gv_some, Nat.add_zero, l0, gv_some, gI_int, fx, gv_some, aptr_ptr, gv_some, Nat.add_zero, k0, gv_some, gI_int, n0, gi_f, gv_some, aptr_ptr, gv_some, l1, gv_some, astr_B oa, gv_some, gS_str, gv_some, aptr_ptr, gv_some, k1, gv_some, astr_B ob, gv_some, gS_str, n1]
    rw [J25_5_eq, gc_f, J25_6_eq, wsucc (by omega)]
    exact smLoop h l k x y hx hy ml mk hn s t (i + 1) hs' ht' e3
theorem c_sameM (h : AHeap) (l k : List Msg) (x y : AV) (hx : Sl h 2 Msg.cells l x) (hy : Sl h 2 Msg.cells k y) (ml : ∀ m ∈ l, MsgOk h m) (mk : ∀ m ∈ k, MsgOk h m) (hn : l.length ≤ 1000) (e : l.map Msg.sig = k.map Msg.sig) : acall Try.prog Nt 25 [x, y] h = some (.bool true, h) := by
  have hl : l.length = k.length := by have := congrArg List.length e; simpa using this
  have n0 : ((l.length : Int) != (k.length : Int)) = false := by simp [hl]
  rw [E25, hx.len, gv_some, hy.len, gv_some, n0, gc_f, J25_1_eq]
  exact smLoop h l k x y hx hy ml mk hn l k 0 rfl rfl e
theorem ne_rcd' (o1 o2 : Operand) (a b c d e a' b' c' d' e' : Int) : abin Try.prog .neq 58 (aeqOk Try.prog 58 o1 o2 (.agg [.int .u32 a, .int .u8 b, .int .u8 c, .int .u8 d, .int .u8 e]) (.agg [.int .u32 a', .int .u8 b', .int .u8 c', .int .u8 d', .int .u8 e'])) (.agg [.int .u32 a, .int .u8 b, .int .u8 c, .int .u8 d, .int .u8 e]) (.agg [.int .u32 a', .int .u8 b', .int .u8 c', .int .u8 d', .int .u8 e'])
    = (if (a == a') = true then (if (b == b') = true then (if (c == c') = true then (if (d == d') = true then (if (e == e') = true then some true else some false) else some false) else some false) else some false) else some false).map fun b => AV.bool !b := by kernel_rfl
theorem rcd_self (o1 o2 : Operand) (r : Rcd) : abin Try.prog .neq 58 (aeqOk Try.prog 58 o1 o2 (.agg r.cells) (.agg r.cells)) (.agg r.cells) (.agg r.cells) = some (.bool false) := by
  obtain ⟨a, b, c, d, e⟩ := r
  simp only [Rcd.cells]
  rw [ne_rcd']
  simp
theorem srLoop (h : AHeap) (l : List Rcd) (x y : AV) (hx : Sl h 5 Rcd.cells l x) (hy : Sl h 5 Rcd.cells l y) (hn : l.length ≤ 1000) : ∀ (s : List Rcd) (i : Nat), l.drop i = s → J26_2 x y (i : Int) h = some (.bool true, h)
  | [], i, hs => by
    have := drop_nil hs
    rw [J26_2_eq]
    simp (dsimp := false) (implicitDefEqProofs := false) (disch := omega) only [gv_some, gr_some, gI_int, gB_bool, gS_str, gc_t, gc_f, gi_t, gi_f, gN_eq, gf_t, Option.bind_some, Option.bind_none, Option.map_some, acells_agg, acells_int, acells_bool, acells_str, acells_ptr, acells_sl, acells_nilsl, acells_nilptr, acells_iface, acells_niliface, aptr_ptr, anil_ptr, aextract_0, aextract_1, aextract_2, alenS_sl, alenS_nil, alenOf_sl, alenOf_nil, apartOf_agg, apart_t, apart_f, astore_ptr, hset_at0, hset_at, hs_same, hs_ne, len_hset, List.set_cons_zero, List.set_cons_succ, set_app, set_app0, aload_ptr, splice_eq, List.drop_nil, List.append_nil, isCell_int, isCell_bool, isCell_str, isCell_ptr, isCell_sl, isCell_nilsl, isCell_nilptr, isCell_iface, isCell_niliface, List.all_cons, List.all_nil, Bool.and_self, hget_at0, hget_at, len_app, List.length_cons, List.length_nil, get_app, get_app0, List.getElem?_cons_zero, List.getElem?_cons_succ, join_some, List.append_assoc, List.cons_append, List.nil_append, Nat.zero_add, Nat.add_zero, Nat.mul_one, chkRd_eq, chkAl_blk, if_true, if_false, Bool.false_eq_true, List.drop_succ_cons, List.drop_zero, List.take_succ_cons, List.take_zero, Bool.and_true, Bool.true_and, decide_true, decide_false, wrap64_id, aixG_eq, Nat.reduceAdd, Nat.reduceSub, Nat.reduceMul, Nat.reduceLeDiff, Nat.reduceLT, Int.reduceAdd, Int.reduceSub, Int.reduceMul, Int.reduceNeg, Int.reduceLT, Int.reduceLE, Int.reduceGT, Int.reduceGE, Int.reduceToNat, ↓reduceIte, and_self, true_and, and_true, hx.len]
    rw [decide_eq_false (by omega)]
    simp (dsimp := false) (implicitDefEqProofs := false) (disch := omega) only [gv_some, gr_some, gI_int, gB_bool, gS_str, gc_t, gc_f, gi_t, gi_f, gN_eq, gf_t, Option.bind_some, Option.bind_none, Option.map_some, acells_agg, acells_int, acells_bool, acells_str, acells_ptr, acells_sl, acells_nilsl, acells_nilptr, acells_iface, acells_niliface, aptr_ptr, anil_ptr, aextract_0, aextract_1, aextract_2, alenS_sl, alenS_nil, alenOf_sl, alenOf_nil, apartOf_agg, apart_t, apart_f, astore_ptr, hset_at0, hset_at, hs_same, hs_ne, len_hset, List.set_cons_zero, List.set_cons_succ, set_app, set_app0, aload_ptr, splice_eq, List.drop_nil, List.append_nil, isCell_int, isCell_bool, isCell_str, isCell_ptr, isCell_sl, isCell_nilsl, isCell_nilptr, isCell_iface, isCell_niliface, List.all_cons, List.all_nil, Bool.and_self, hget_at0, hget_at, len_app, List.length_cons, List.length_nil, get_app, get_app0, List.getElem?_cons_zero, List.getElem?_cons_succ, join_some, List.append_assoc, List.cons_append, List.nil_append, Nat.zero_add, Nat.add_zero, Nat.mul_one, chkRd_eq, chkAl_blk, if_true, if_false, Bool.false_eq_true, List.drop_succ_cons, List.drop_zero, List.take_succ_cons, List.take_zero, Bool.and_true, Bool.true_and, decide_true, decide_false, wrap64_id, aixG_eq, Nat.reduceAdd, Nat.reduceSub, Nat.reduceMul, Nat.reduceLeDiff, Nat.reduceLT, Int.reduceAdd, Int.reduceSub, Int.reduceMul, Int.reduceNeg, Int.reduceLT, Int.reduceLE, Int.reduceGT, Int.reduceGE, Int.reduceToNat, ↓reduceIte, and_self, true_and, and_true, J26_4_eq]
  | a :: s, i, hs => by
    obtain ⟨hk, ha, hs'⟩ := drop_cons hs
    obtain ⟨eb, eo, ix, ea⟩ := hx.elem Rcd.len i hk
    obtain ⟨fb1, fo, fx, fa⟩ := hy.elem Rcd.len i hk
    rw [ha] at ea fa
    have l1 := ea.loadN 5 rfl
    have l2 := fa.loadN 5 rfl
    rw [J26_2_eq]
    simp (dsimp := false) (implicitDefEqProofs := false) (disch := omega) only [gv_some, gr_some, gI_int, gB_bool, gS_str, gc_t, gc_f, gi_t, gi_f, gN_eq, gf_t, Option.bind_some, Option.bind_none, Option.map_some, acells_agg, acells_int, acells_bool, acells_str, acells_ptr, acells_sl, acells_nilsl, acells_nilptr, acells_iface, acells_niliface, aptr_ptr, anil_ptr, aextract_0, aextract_1, aextract_2, alenS_sl, alenS_nil, alenOf_sl, alenOf_nil, apartOf_agg, apart_t, apart_f, astore_ptr, hset_at0, hset_at, hs_same, hs_ne, len_hset, List.set_cons_zero, List.set_cons_succ, set_app, set_app0, aload_ptr, splice_eq, List.drop_nil, List.append_nil, isCell_int, isCell_bool, isCell_str, isCell_ptr, isCell_sl, isCell_nilsl, isCell_nilptr, isCell_iface, isCell_niliface, List.all_cons, List.all_nil, Bool.and_self, hget_at0, hget_at, len_app, List.length_cons, List.length_nil, get_app, get_app0, List.getElem?_cons_zero, List.getElem?_cons_succ, join_some, List.append_assoc, List.cons_append, List.nil_append, Nat.zero_add, Nat.add_zero, Nat.mul_one, chkRd_eq, chkAl_blk, if_true, if_false, Bool.false_eq_true, List.drop_succ_cons, List.drop_zero, List.take_succ_cons, List.take_zero, Bool.and_true, Bool.true_and, decide_true, decide_false, wrap64_id, aixG_eq, Nat.reduceAdd, Nat.reduceSub, Nat.reduceMul, Nat.reduceLeDiff, Nat.reduceLT, Int.reduceAdd, Int.reduceSub, Int.reduceMul, Int.reduceNeg, Int.reduceLT, Int.reduceLE, Int.reduceGT, Int.reduceGE, Int.reduceToNat, ↓reduceIte, and_self, true_and, and_true, hx.len]
    rw [decide_eq_true (by omega)]
    simp (dsimp := false) (implicitDefEqProofs := false) (disch := omega) only [gv_some, gr_some, gI_int, gB_bool, gS_str, gc_t, gc_f, gi_t, gi_f, gN_eq, gf_t, Option.bind_some, Option.bind_none, Option.map_some, acells_agg, acells_int, acells_bool, acells_str, acells_ptr, acells_sl, acells_nilsl, acells_nilptr, acells_iface, acells_niliface, aptr_ptr, anil_ptr, aextract_0, aextract_1, aextract_2, alenS_sl, alenS_nil, alenOf_sl, alenOf_nil, apartOf_agg, apart_t, apart_f, astore_ptr, hset_at0, hset_at, hs_same, hs_ne, len_hset, List.set_cons_zero, List.set_cons_succ, set_app, set_app0, splice_eq, List.drop_nil, List.append_nil, isCell_int, isCell_bool, isCell_str, isCell_ptr, isCell_sl, isCell_nilsl, isCell_nilptr, isCell_iface, isCell_niliface, List.all_cons, List.all_nil, Bool.and_self, hget_at0, hget_at, len_app, List.length_cons, List.length_nil, get_app, get_app0, List.getElem?_cons_zero, List.getElem?_cons_succ, join_some, List.append_assoc, List.cons_append, List.nil_append, Nat.zero_add, Nat.add_zero, Nat.mul_one, chkRd_eq, chkAl_blk, if_true, if_false, Bool.false_eq_true, List.drop_succ_cons, List.drop_zero, List.take_succ_cons, List.take_zero, Bool.and_true, Bool.true_and, decide_true, decide_false, wrap64_id, aixG_eq, Nat.reduceAdd, Nat.reduceSub, Nat.reduceMul, Nat.reduceLeDiff, Nat.reduceLT, Int.reduceAdd, Int.reduceSub, Int.reduceMul, Int.reduceNeg, Int.reduceLT, Int.reduceLE, Int.reduceGT, Int.reduceGE, Int.reduceToNat, ↓reduceIte, and_self, true_and, and_true, J26_3_eq, ix, fx, l1, l2, rcd_self]
    rw [J26_5_eq, wsucc (by omega), srLoop h l x y hx hy hn s (i + 1) hs']
theorem c_sameR (h : AHeap) (l : List Rcd) (x y : AV) (hx : Sl h 5 Rcd.cells l x) (hy : Sl h 5 Rcd.cells l y) (hn : l.length ≤ 1000) : acall Try.prog Nt 26 [x, y] h = some (.bool true, h) := by
  have n0 : ((l.length : Int) != (l.length : Int)) = false := by simp
  rw [E26, hx.len, gv_some, hy.len, gv_some, n0, gc_f, J26_1_eq]
  exact srLoop h l x y hx hy hn l 0 rfl
theorem st_ne' (o1 o2 : Operand) (a b a' b' : Int) : abin Try.prog .neq 24 (aeqOk Try.prog 24 o1 o2 (.agg [.int .u32 a, .int .u8 b]) (.agg [.int .u32 a', .int .u8 b'])) (.agg [.int .u32 a, .int .u8 b]) (.agg [.int .u32 a', .int .u8 b'])
    = (if (a == a') = true then (if (b == b') = true then some true else some false) else some false).map fun b => AV.bool !b := by kernel_rfl
theorem st_ne (o1 o2 : Operand) (a b : Int) : abin Try.prog .neq 24 (aeqOk Try.prog 24 o1 o2 (.agg [.int .u32 a, .int .u8 b]) (.agg [.int .u32 a, .int .u8 b])) (.agg [.int .u32 a, .int .u8 b]) (.agg [.int .u32 a, .int .u8 b]) = some (.bool false) := by
  rw [st_ne']
  simp
theorem c_sameF (f : Frm) (ms : List Msg) (p r y z : AV) (h : AHeap) (L : FrmL h f p r) (LL : FrmL h (f.wi ms) y z) (e : ms.map Msg.sig = f.msgs.map Msg.sig) (hm : f.msgs.length ≤ 1000) (hr : f.recs.length ≤ 1000) : Ev (acall Try.prog Nt 11 [.agg ((f.wi ms).cells y z), .agg (f.cells p r)] h) h fun v _ => v = .bool true := by
  have hl : ms.length = f.msgs.length := by have := congrArg List.length e; simpa using this
  have q1 := fun g => c_sameM (h ++ g) ms f.msgs y p (LL.msgs.app g) (L.msgs.app g) (LL.app g).each (L.app g).each (by omega) e
  have q2 := fun g => c_sameR (h ++ g) f.recs z r (LL.recs.app g) (L.recs.app g) hr
  have e1 : (f.wi ms).cells y z = [.int .u8 f.sender, .int .u32 f.round, .int .u8 f.members, y, .int .u8 f.kind, .int .u8 f.key, .int .u16 f.val, .int .u16 f.old, z] := rfl
  have e2 : f.cells p r = [.int .u8 f.sender, .int .u32 f.round, .int .u8 f.members, p, .int .u8 f.kind, .int .u8 f.key, .int .u16 f.val, .int .u16 f.old, r] := rfl
  have s0 : (f.sender != f.sender) = false := by simp
  have c0 : (!((f.kind == f.kind) && ((f.key == f.key) && ((f.val == f.val) && (f.old == f.old))))) = false := by simp
  rw [E11]
  simp (dsimp := false) (implicitDefEqProofs := false) (disch := omega) only [gv_some, gr_some, gI_int, gB_bool, gS_str, gc_t, gc_f, gi_t, gi_f, gN_eq, gf_t, Option.bind_some, Option.bind_none, Option.map_some, acells_agg, acells_int, acells_bool, acells_str, acells_ptr, acells_sl, acells_nilsl, acells_nilptr, acells_iface, acells_niliface, aptr_ptr, anil_ptr, aextract_0, aextract_1, aextract_2, alenS_sl, alenS_nil, alenOf_sl, alenOf_nil, apartOf_agg, apart_t, apart_f, astore_ptr, hset_at0, hset_at, hs_same, hs_ne, len_hset, List.set_cons_zero, List.set_cons_succ, set_app, set_app0, aload_ptr, splice_eq, List.drop_nil, List.append_nil, isCell_int, isCell_bool, isCell_str, isCell_ptr, isCell_sl, isCell_nilsl, isCell_nilptr, isCell_iface, isCell_niliface, List.all_cons, List.all_nil, Bool.and_self, hget_at0, hget_at, len_app, List.length_cons, List.length_nil, get_app, get_app0, List.getElem?_cons_zero, List.getElem?_cons_succ, join_some, List.append_assoc, List.cons_append, List.nil_append, Nat.zero_add, Nat.add_zero, Nat.mul_one, chkRd_eq, chkAl_blk, if_true, if_false, Bool.false_eq_true, List.drop_succ_cons, List.drop_zero, List.take_succ_cons, List.take_zero, Bool.and_true, Bool.true_and, decide_true, decide_false, wrap64_id, aixG_eq, Nat.reduceAdd, Nat.reduceSub, Nat.reduceMul, Nat.reduceLeDiff, Nat.reduceLT, Int.reduceAdd, Int.reduceSub, Int.reduceMul, Int.reduceNeg, Int.reduceLT, Int.reduceLE, Int.reduceGT, Int.reduceGE, Int.reduceToNat, ↓reduceIte, and_self, true_and, and_true, e1, e2]
  rw [s0]
  simp (dsimp := false) (implicitDefEqProofs := false) (disch := omega) only [gv_some, gr_some, gI_int, gB_bool, gS_str, gc_t, gc_f, gi_t, gi_f, gN_eq, gf_t, Option.bind_some, Option.bind_none, Option.map_some, acells_agg, acells_int, acells_bool, acells_str, acells_ptr, acells_sl, acells_nilsl, acells_nilptr, acells_iface, acells_niliface, aptr_ptr, anil_ptr, aextract_0, aextract_1, aextract_2, alenS_sl, alenS_nil, alenOf_sl, alenOf_nil, apartOf_agg, apart_t, apart_f, astore_ptr, hset_at0, hset_at, hs_same, hs_ne, len_hset, List.set_cons_zero, List.set_cons_succ, set_app, set_app0, aload_ptr, splice_eq, List.drop_nil, List.append_nil, isCell_int, isCell_bool, isCell_str, isCell_ptr, isCell_sl, isCell_nilsl, isCell_nilptr, isCell_iface, isCell_niliface, List.all_cons, List.all_nil, Bool.and_self, hget_at0, hget_at, len_app, List.length_cons, List.length_nil, get_app, get_app0, List.getElem?_cons_zero, List.getElem?_cons_succ, join_some, List.append_assoc, List.cons_append, List.nil_append, Nat.zero_add, Nat.add_zero, Nat.mul_one, chkRd_eq, chkAl_blk, if_true, if_false, Bool.false_eq_true, List.drop_succ_cons, List.drop_zero, List.take_succ_cons, List.take_zero, Bool.and_true, Bool.true_and, decide_true, decide_false, wrap64_id, aixG_eq, Nat.reduceAdd, Nat.reduceSub, Nat.reduceMul, Nat.reduceLeDiff, Nat.reduceLT, Int.reduceAdd, Int.reduceSub, Int.reduceMul, Int.reduceNeg, Int.reduceLT, Int.reduceLE, Int.reduceGT, Int.reduceGE, Int.reduceToNat, ↓reduceIte, and_self, true_and, and_true, st_ne]
  simp (dsimp := false) (implicitDefEqProofs := false) (disch := omega) only [gv_some, gr_some, gI_int, gB_bool, gS_str, gc_t, gc_f, gi_t, gi_f, gN_eq, gf_t, Option.bind_some, Option.bind_none, Option.map_some, acells_agg, acells_int, acells_bool, acells_str, acells_ptr, acells_sl, acells_nilsl, acells_nilptr, acells_iface, acells_niliface, aptr_ptr, anil_ptr, aextract_0, aextract_1, aextract_2, alenS_sl, alenS_nil, alenOf_sl, alenOf_nil, apartOf_agg, apart_t, apart_f, astore_ptr, hset_at0, hset_at, hs_same, hs_ne, len_hset, List.set_cons_zero, List.set_cons_succ, set_app, set_app0, aload_ptr, splice_eq, List.drop_nil, List.append_nil, isCell_int, isCell_bool, isCell_str, isCell_ptr, isCell_sl, isCell_nilsl, isCell_nilptr, isCell_iface, isCell_niliface, List.all_cons, List.all_nil, Bool.and_self, hget_at0, hget_at, len_app, List.length_cons, List.length_nil, get_app, get_app0, List.getElem?_cons_zero, List.getElem?_cons_succ, join_some, List.append_assoc, List.cons_append, List.nil_append, Nat.zero_add, Nat.add_zero, Nat.mul_one, chkRd_eq, chkAl_blk, if_true, if_false, Bool.false_eq_true, List.drop_succ_cons, List.drop_zero, List.take_succ_cons, List.take_zero, Bool.and_true, Bool.true_and, decide_true, decide_false, wrap64_id, aixG_eq, Nat.reduceAdd, Nat.reduceSub, Nat.reduceMul, Nat.reduceLeDiff, Nat.reduceLT, Int.reduceAdd, Int.reduceSub, Int.reduceMul, Int.reduceNeg, Int.reduceLT, Int.reduceLE, Int.reduceGT, Int.reduceGE, Int.reduceToNat, ↓reduceIte, and_self, true_and, and_true, cmd_ne, c0]
  simp (dsimp := false) (implicitDefEqProofs := false) (disch := omega) only [gv_some, gr_some, gI_int, gB_bool, gS_str, gc_t, gc_f, gi_t, gi_f, gN_eq, gf_t, Option.bind_some, Option.bind_none, Option.map_some, acells_agg, acells_int, acells_bool, acells_str, acells_ptr, acells_sl, acells_nilsl, acells_nilptr, acells_iface, acells_niliface, aptr_ptr, anil_ptr, aextract_0, aextract_1, aextract_2, alenS_sl, alenS_nil, alenOf_sl, alenOf_nil, apartOf_agg, apart_t, apart_f, astore_ptr, hset_at0, hset_at, hs_same, hs_ne, len_hset, List.set_cons_zero, List.set_cons_succ, set_app, set_app0, aload_ptr, splice_eq, List.drop_nil, List.append_nil, isCell_int, isCell_bool, isCell_str, isCell_ptr, isCell_sl, isCell_nilsl, isCell_nilptr, isCell_iface, isCell_niliface, List.all_cons, List.all_nil, Bool.and_self, hget_at0, hget_at, len_app, List.length_cons, List.length_nil, get_app, get_app0, List.getElem?_cons_zero, List.getElem?_cons_succ, join_some, List.append_assoc, List.cons_append, List.nil_append, Nat.zero_add, Nat.add_zero, Nat.mul_one, chkRd_eq, chkAl_blk, if_true, if_false, Bool.false_eq_true, List.drop_succ_cons, List.drop_zero, List.take_succ_cons, List.take_zero, Bool.and_true, Bool.true_and, decide_true, decide_false, wrap64_id, aixG_eq, Nat.reduceAdd, Nat.reduceSub, Nat.reduceMul, Nat.reduceLeDiff, Nat.reduceLT, Int.reduceAdd, Int.reduceSub, Int.reduceMul, Int.reduceNeg, Int.reduceLT, Int.reduceLE, Int.reduceGT, Int.reduceGE, Int.reduceToNat, ↓reduceIte, and_self, true_and, and_true, q1, Bool.not_true]
  rw [J11_1_eq, gc_f, J11_2_eq]
  simp (dsimp := false) (implicitDefEqProofs := false) (disch := omega) only [gv_some, gr_some, gI_int, gB_bool, gS_str, gc_t, gc_f, gi_t, gi_f, gN_eq, gf_t, Option.bind_some, Option.bind_none, Option.map_some, acells_agg, acells_int, acells_bool, acells_str, acells_ptr, acells_sl, acells_nilsl, acells_nilptr, acells_iface, acells_niliface, aptr_ptr, anil_ptr, aextract_0, aextract_1, aextract_2, alenS_sl, alenS_nil, alenOf_sl, alenOf_nil, apartOf_agg, apart_t, apart_f, astore_ptr, hset_at0, hset_at, hs_same, hs_ne, len_hset, List.set_cons_zero, List.set_cons_succ, set_app, set_app0, aload_ptr, splice_eq, List.drop_nil, List.append_nil, isCell_int, isCell_bool, isCell_str, isCell_ptr, isCell_sl, isCell_nilsl, isCell_nilptr, isCell_iface, isCell_niliface, List.all_cons, List.all_nil, Bool.and_self, hget_at0, hget_at, len_app, List.length_cons, List.length_nil, get_app, get_app0, List.getElem?_cons_zero, List.getElem?_cons_succ, join_some, List.append_assoc, List.cons_append, List.nil_append, Nat.zero_add, Nat.add_zero, Nat.mul_one, chkRd_eq, chkAl_blk, if_true, if_false, Bool.false_eq_true, List.drop_succ_cons, List.drop_zero, List.take_succ_cons, List.take_zero, Bool.and_true, Bool.true_and, decide_true, decide_false, wrap64_id, aixG_eq, Nat.reduceAdd, Nat.reduceSub, Nat.reduceMul, Nat.reduceLeDiff, Nat.reduceLT, Int.reduceAdd, Int.reduceSub, Int.reduceMul, Int.reduceNeg, Int.reduceLT, Int.reduceLE, Int.reduceGT, Int.reduceGE, Int.reduceToNat, ↓reduceIte, and_self, true_and, and_true, q2]
  exact Ev.done rfl
def fz : Frm := ⟨0, 0, 0, [], 0, 0, 0, 0, []⟩
theorem fz_str : strOf (frmB fz ++ crcTail (frmB fz)) = [0, 0, 0, 0, 0, 0, 0, 0, 0, 0, 0, 0, 0, 0, 199, 121, 187, 209] := by decide +kernel
theorem c_awake4 (h : AHeap) : Post (acall Try.prog Nt 4 [] h) fun v h' => v = .bool true ∧ ∃ g, h' = h ++ g := by
  have ok : FrmOk fz := ⟨⟨by decide, by decide⟩, ⟨by decide, by decide⟩, ⟨by decide, by decide⟩, ⟨by decide, by decide⟩, ⟨by decide, by decide⟩, ⟨by decide, by decide⟩, ⟨by decide, by decide⟩, (by intro r hr; cases hr), (by intro r hr; cases hr)⟩
  have L : FrmL h fz .nilsl .nilsl := ⟨.inl ⟨rfl, rfl⟩, .inl ⟨rfl, rfl⟩, by intro m hm; cases hm⟩
  have e0 : fErr fz = [] := by decide
  rw [E4]
  refine Post.bind (c_fencode fz ok .nilsl .nilsl h L (by decide) (by decide)) ?_
  rintro v h1 ⟨g, rfl, ⟨hne, _⟩ | ⟨_, y, rfl, oy⟩⟩
  · exact absurd e0 hne
  have es := astr_B oy.sl
  rw [fz_str] at es
  simp (dsimp := false) (implicitDefEqProofs := false) (disch := omega) only [gv_some, gr_some, gI_int, gB_bool, gS_str, gc_t, gc_f, gi_t, gi_f, gN_eq, gf_t, Option.bind_some, Option.bind_none, Option.map_some, acells_agg, acells_int, acells_bool, acells_str, acells_ptr, acells_sl, acells_nilsl, acells_nilptr, acells_iface, acells_niliface, aptr_ptr, anil_ptr, aextract_0, aextract_1, aextract_2, alenS_sl, alenS_nil, alenOf_sl, alenOf_nil, apartOf_agg, apart_t, apart_f, astore_ptr, hset_at0, hset_at, hs_same, hs_ne, len_hset, List.set_cons_zero, List.set_cons_succ, set_app, set_app0, aload_ptr, splice_eq, List.drop_nil, List.append_nil, isCell_int, isCell_bool, isCell_str, isCell_ptr, isCell_sl, isCell_nilsl, isCell_nilptr, isCell_iface, isCell_niliface, List.all_cons, List.all_nil, Bool.and_self, hget_at0, hget_at, len_app, List.length_cons, List.length_nil, get_app, get_app0, List.getElem?_cons_zero, List.getElem?_cons_succ, join_some, List.append_assoc, List.cons_append, List.nil_append, Nat.zero_add, Nat.add_zero, Nat.mul_one, chkRd_eq, chkAl_blk, if_true, if_false, Bool.false_eq_true, List.drop_succ_cons, List.drop_zero, List.take_succ_cons, List.take_zero, Bool.and_true, Bool.true_and, decide_true, decide_false, wrap64_id, aixG_eq, Nat.reduceAdd, Nat.reduceSub, Nat.reduceMul, Nat.reduceLeDiff, Nat.reduceLT, Int.reduceAdd, Int.reduceSub, Int.reduceMul, Int.reduceNeg, Int.reduceLT, Int.reduceLE, Int.reduceGT, Int.reduceGE, Int.reduceToNat, ↓reduceIte, and_self, true_and, and_true, err_eq_nil]
  rw [es]
  simp (dsimp := false) (implicitDefEqProofs := false) (disch := omega) only [gv_some, gr_some, gI_int, gB_bool, gS_str, gc_t, gc_f, gi_t, gi_f, gN_eq, gf_t, Option.bind_some, Option.bind_none, Option.map_some, acells_agg, acells_int, acells_bool, acells_str, acells_ptr, acells_sl, acells_nilsl, acells_nilptr, acells_iface, acells_niliface, aptr_ptr, anil_ptr, aextract_0, aextract_1, aextract_2, alenS_sl, alenS_nil, alenOf_sl, alenOf_nil, apartOf_agg, apart_t, apart_f, astore_ptr, hset_at0, hset_at, hs_same, hs_ne, len_hset, List.set_cons_zero, List.set_cons_succ, set_app, set_app0, aload_ptr, splice_eq, List.drop_nil, List.append_nil, isCell_int, isCell_bool, isCell_str, isCell_ptr, isCell_sl, isCell_nilsl, isCell_nilptr, isCell_iface, isCell_niliface, List.all_cons, List.all_nil, Bool.and_self, hget_at0, hget_at, len_app, List.length_cons, List.length_nil, get_app, get_app0, List.getElem?_cons_zero, List.getElem?_cons_succ, join_some, List.append_assoc, List.cons_append, List.nil_append, Nat.zero_add, Nat.add_zero, Nat.mul_one, chkRd_eq, chkAl_blk, if_true, if_false, Bool.false_eq_true, List.drop_succ_cons, List.drop_zero, List.take_succ_cons, List.take_zero, Bool.and_true, Bool.true_and, decide_true, decide_false, wrap64_id, aixG_eq, Nat.reduceAdd, Nat.reduceSub, Nat.reduceMul, Nat.reduceLeDiff, Nat.reduceLT, Int.reduceAdd, Int.reduceSub, Int.reduceMul, Int.reduceNeg, Int.reduceLT, Int.reduceLE, Int.reduceGT, Int.reduceGE, Int.reduceToNat, ↓reduceIte, and_self, true_and, and_true, beq_self_eq_true]
  exact Post.done ⟨rfl, g, rfl⟩
end Go.Ab
end
section
/-
  Functions of the program as equations: written by program (wip/tools/prt.py).
-/
namespace Go.Ab
open Go.Proofs
/-! 3: escapement/escapementlaw04.FrameWrites -/
noncomputable def K3 : Kont := kend Try.prog 56 Try.f3.results.toList
noncomputable def K3_1 (lp : Loop) (jn : Join) : Kont := kseqJ jn (codeJ Try.prog Nt lp jn 56 (nat' [true, true, true] A3) (cat [true, true, true] C3)) (some [1]) K3
noncomputable def J3_1' (lp : Loop) (jn : Join) (x1 : Nat) (h : AHeap) : Res := jn (codeJ Try.prog Nt lp jn 56 (nat' [true, true] A3) (cat [true, true] C3)) (envOf [(1, (.ptr x1 0))]) h K3
noncomputable def J3_1 (x1 : Nat) (h : AHeap) : Res := J3_1' aloop (fun s => s) x1 h
noncomputable def J3_2' (lp : Loop) (jn : Join) (x1 : Nat) (x19 : Bool) (h : AHeap) : Res := jn (codeJ Try.prog Nt lp jn 56 (nat' [true, true, false, true] A3) (cat [true, true, false, true] C3)) (envOf [(1, (.ptr x1 0)), (19, (.bool x19))]) h (K3_1 lp jn)
noncomputable def J3_2 (x1 : Nat) (x19 : Bool) (h : AHeap) : Res := J3_2' aloop (fun s => s) x1 x19 h
noncomputable def J3_3' (lp : Loop) (jn : Join) (x1 : Nat) (h : AHeap) : Res := jn (codeJ Try.prog Nt lp jn 56 (nat' [true, true, true] A3) (cat [true, true, true] C3)) (envOf [(1, (.ptr x1 0))]) h K3
noncomputable def J3_3 (x1 : Nat) (h : AHeap) : Res := J3_3' aloop (fun s => s) x1 h
theorem J3_1_g (lp : Loop) (jn : Join) (x1 : Nat) (h : AHeap) : codeJ Try.prog Nt lp jn 56 (nat' [true, true] A3) (cat [true, true] C3) (envOf [(1, (.ptr x1 0))]) h K3 = (gv (aload false 1 (.ptr x1 3) h) fun v7 => gv (alenS v7) fun m8 => gi (decide ((m8 : Int) > 300)) (J3_2' lp jn x1 true h) (gv (aload false 1 (.ptr x1 8) h) fun v9 => gv (alenS v9) fun m10 => J3_2' lp jn x1 (decide ((m10 : Int) > 300)) h)) := by kernel_rfl
theorem J3_1_eq (x1 : Nat) (h : AHeap) : J3_1 x1 h = (gv (aload false 1 (.ptr x1 3) h) fun v7 => gv (alenS v7) fun m8 => gi (decide ((m8 : Int) > 300)) (J3_2 x1 true h) (gv (aload false 1 (.ptr x1 8) h) fun v9 => gv (alenS v9) fun m10 => J3_2 x1 (decide ((m10 : Int) > 300)) h)) := J3_1_g aloop (fun s => s) x1 h
theorem J3_2_g (lp : Loop) (jn : Join) (x1 : Nat) (x19 : Bool) (h : AHeap) : codeJ Try.prog Nt lp jn 56 (nat' [true, true, false, true] A3) (cat [true, true, false, true] C3) (envOf [(1, (.ptr x1 0)), (19, (.bool x19))]) h (K3_1 lp jn) = (gc x19 (some ((.bool true), h)) (J3_3' lp jn x1 h)) := by kernel_rfl
theorem J3_2_eq (x1 : Nat) (x19 : Bool) (h : AHeap) : J3_2 x1 x19 h = (gc x19 (some ((.bool true), h)) (J3_3 x1 h)) := J3_2_g aloop (fun s => s) x1 x19 h
theorem J3_3_g (lp : Loop) (jn : Join) (x1 : Nat) (h : AHeap) : codeJ Try.prog Nt lp jn 56 (nat' [true, true, true] A3) (cat [true, true, true] C3) (envOf [(1, (.ptr x1 0))]) h K3 = (gv (aload true 9 (.ptr x1 0) h) fun v11 => gr (acall Try.prog Nt 5 [v11] h) fun r12 h13 => gN h13 [(.int .u8 0), (.int .u32 0), (.int .u8 0), .nilsl, (.int .u8 0), (.int .u8 0), (.int .u16 0), (.int .u16 0), .nilsl] fun b14 h15 => gv (astore true 9 (.ptr b14 0) r12 h15) fun h16 => gv (aload true 9 (.ptr b14 0) h16) fun v17 => gr (acall Try.prog Nt 6 [v17] h16) fun r18 h19 => gv (aextract r18 0) fun v20 => gv (aextract r18 1) fun v21 => gv (aload true 9 (.ptr x1 0) h19) fun v22 => gr (acall Try.prog Nt 7 [v22] h19) fun r23 h24 => gv (aextract r23 0) fun v25 => gv (aextract r23 1) fun v26 => gS v26 fun s27 => gv (aload true 9 (.ptr b14 0) h24) fun v28 => gv (aload true 9 (.ptr x1 0) h24) fun v29 => gr (acall Try.prog Nt 9 [v28] h24) fun r30 h31 => gf ((chkRd (gv (aload true 9 (.ptr x1 0) h31) fun v32 => some v32) v29) && true) (gr (acall Try.prog Nt 8 [r30] h31) fun r33 h34 => gS r33 fun s35 => gf ((chkRd (gv (aload true 9 (.ptr x1 0) h34) fun v36 => some v36) v29) && true) (gr (acall Try.prog Nt 10 [v29] h34) fun r37 h38 => gS r37 fun s39 => gi (s35 == s39) (gv (astrOf v20 h38) fun v40 => gS v40 fun s41 => gv (astrOf v25 h38) fun v42 => gS v42 fun s43 => gi (s41 == s43) (gr (acall Try.prog Nt 8 [v21] h38) fun r44 h45 => gS r44 fun s46 => gi (s46 == s27) (gv (aload true 9 (.ptr b14 0) h45) fun v47 => gv (aload true 9 (.ptr x1 0) h45) fun v48 => gr (acall Try.prog Nt 11 [v47, v48] h45) fun r49 h50 => gB r49 fun b51 => some ((.bool b51), h50)) (some ((.bool false), h45))) (some ((.bool false), h38))) (some ((.bool false), h38))))) := by kernel_rfl
theorem J3_3_eq (x1 : Nat) (h : AHeap) : J3_3 x1 h = (gv (aload true 9 (.ptr x1 0) h) fun v11 => gr (acall Try.prog Nt 5 [v11] h) fun r12 h13 => gN h13 [(.int .u8 0), (.int .u32 0), (.int .u8 0), .nilsl, (.int .u8 0), (.int .u8 0), (.int .u16 0), (.int .u16 0), .nilsl] fun b14 h15 => gv (astore true 9 (.ptr b14 0) r12 h15) fun h16 => gv (aload true 9 (.ptr b14 0) h16) fun v17 => gr (acall Try.prog Nt 6 [v17] h16) fun r18 h19 => gv (aextract r18 0) fun v20 => gv (aextract r18 1) fun v21 => gv (aload true 9 (.ptr x1 0) h19) fun v22 => gr (acall Try.prog Nt 7 [v22] h19) fun r23 h24 => gv (aextract r23 0) fun v25 => gv (aextract r23 1) fun v26 => gS v26 fun s27 => gv (aload true 9 (.ptr b14 0) h24) fun v28 => gv (aload true 9 (.ptr x1 0) h24) fun v29 => gr (acall Try.prog Nt 9 [v28] h24) fun r30 h31 => gf ((chkRd (gv (aload true 9 (.ptr x1 0) h31) fun v32 => some v32) v29) && true) (gr (acall Try.prog Nt 8 [r30] h31) fun r33 h34 => gS r33 fun s35 => gf ((chkRd (gv (aload true 9 (.ptr x1 0) h34) fun v36 => some v36) v29) && true) (gr (acall Try.prog Nt 10 [v29] h34) fun r37 h38 => gS r37 fun s39 => gi (s35 == s39) (gv (astrOf v20 h38) fun v40 => gS v40 fun s41 => gv (astrOf v25 h38) fun v42 => gS v42 fun s43 => gi (s41 == s43) (gr (acall Try.prog Nt 8 [v21] h38) fun r44 h45 => gS r44 fun s46 => gi (s46 == s27) (gv (aload true 9 (.ptr b14 0) h45) fun v47 => gv (aload true 9 (.ptr x1 0) h45) fun v48 => gr (acall Try.prog Nt 11 [v47, v48] h45) fun r49 h50 => gB r49 fun b51 => some ((.bool b51), h50)) (some ((.bool false), h45))) (some ((.bool false), h38))) (some ((.bool false), h38))))) := J3_3_g aloop (fun s => s) x1 h
theorem E3_g (lp : Loop) (jn : Join) (x0 : AV) (h : AHeap) : codeJ Try.prog Nt lp jn 56 (Nt 3) C3 (args [x0]) h K3 = (gv (acells x0) fun cs1 => gN h cs1 fun b2 h3 => gr (acall Try.prog Nt 4 [] h3) fun r4 h5 => gB r4 fun b6 => gc (!b6) (some ((.bool false), h5)) (J3_1' lp jn b2 h5)) := by kernel_rfl
theorem E3 (x0 : AV) (h : AHeap) : acall Try.prog Nt 3 [x0] h = (gv (acells x0) fun cs1 => gN h cs1 fun b2 h3 => gr (acall Try.prog Nt 4 [] h3) fun r4 h5 => gB r4 fun b6 => gc (!b6) (some ((.bool false), h5)) (J3_1 b2 h5)) := (acall_at rfl Try.func3 _ h 56 rfl (c := C3) rfl).trans (E3_g aloop (fun s => s) x0 h)
end Go.Ab
end
section
/-
  FrameWrites.
-/
namespace Go.Ab
open Go.Proofs

theorem argvFrm {h : AHeap} {g : Nat} {x : AV} (q : ArgV Try.prog h (g + 7) 32 x) : ∃ (f : Frm) (p r : AV), x = .agg (f.cells p r) ∧ FrmL h f p r ∧ FrmOk f ∧ ∀ m ∈ f.msgs, m.bs.length ≤ 140737488351232 := by
  unfold ArgV at q
  have hu : ∃ fs, (Try.prog).underlying 32 = some (.struct fs) := ⟨(match (Try.prog).underlying 32 with | some (.struct fs) => fs | _ => #[]), by kernel_rfl⟩
  obtain ⟨fs, hu⟩ := hu
  rw [hu] at q
  obtain ⟨ws, rfl, q⟩ := q
  have q := q.struct (ts := [5, 24, 25, 29, 30]) (by kernel_rfl)
  obtain ⟨_, _, rfl, q1, q⟩ := catQ_cons q
  obtain ⟨_, _, rfl, q2, q⟩ := catQ_cons q
  obtain ⟨_, _, rfl, q3, q⟩ := catQ_cons q
  obtain ⟨_, _, rfl, q4, q⟩ := catQ_cons q
  obtain ⟨_, _, rfl, q5, q⟩ := catQ_cons q
  cases catQ_nil q
  obtain ⟨n1, rfl, w1⟩ := q1.int (k := .u8) (by kernel_rfl)
  have s2 := q2.struct (ts := [22, 5]) (by kernel_rfl)
  obtain ⟨_, _, rfl, a1, s2⟩ := catQ_cons s2
  obtain ⟨_, _, rfl, a2, s2⟩ := catQ_cons s2
  cases catQ_nil s2
  obtain ⟨n2, rfl, w2⟩ := a1.int (k := .u32) (by kernel_rfl)
  obtain ⟨n3, rfl, w3⟩ := a2.int (k := .u8) (by kernel_rfl)
  have s4 := q4.struct (ts := [26, 5, 27, 27]) (by kernel_rfl)
  obtain ⟨_, _, rfl, b1, s4⟩ := catQ_cons s4
  obtain ⟨_, _, rfl, b2, s4⟩ := catQ_cons s4
  obtain ⟨_, _, rfl, b3, s4⟩ := catQ_cons s4
  obtain ⟨_, _, rfl, b4, s4⟩ := catQ_cons s4
  cases catQ_nil s4
  obtain ⟨n4, rfl, w4⟩ := b1.int (k := .u8) (by kernel_rfl)
  obtain ⟨n5, rfl, w5⟩ := b2.int (k := .u8) (by kernel_rfl)
  obtain ⟨n6, rfl, w6⟩ := b3.int (k := .u16) (by kernel_rfl)
  obtain ⟨n7, rfl, w7⟩ := b4.int (k := .u16) (by kernel_rfl)
  obtain ⟨p, ps, rfl, lp, rp, _⟩ := q3.list (u := 48) (sz := 2) (enc := Msg.cells) (R := fun m => MsgOk h m ∧ BytesOk m.bs ∧ m.bs.length ≤ 140737488351232) (by kernel_rfl) (by kernel_rfl) (fun ws q => by
    have q := q.struct (ts := [3, 35]) (by kernel_rfl)
    obtain ⟨_, _, rfl, c1, q⟩ := catQ_cons q
    obtain ⟨_, _, rfl, c2, q⟩ := catQ_cons q
    cases catQ_nil q
    obtain ⟨m1, rfl, _⟩ := c1.int (k := .i64) (by kernel_rfl)
    obtain ⟨y, bs, rfl, sl, rb, _, lb⟩ := c2.listB (u := 5) (sz := 1) (enc := encB) (R := fun n => 0 ≤ n ∧ n < 256) (by kernel_rfl) (by kernel_rfl) (fun ws q => by
      obtain ⟨n, rfl, w⟩ := q.int (k := .u8) (by kernel_rfl)
      have := wfu8 w
      exact ⟨n, rfl, by omega, by omega⟩)
    have b1 : (Try.prog).bytesOf 5 = 1 := by kernel_rfl
    rw [b1, Nat.mul_one] at lb
    exact ⟨⟨m1, y, bs⟩, rfl, sl, rb, lb⟩)
  obtain ⟨r, rs, rfl, lr, rr, _⟩ := q5.list (u := 58) (sz := 5) (enc := Rcd.cells) (R := RcdOk) (by kernel_rfl) (by kernel_rfl) (fun ws q => by
    have q := q.struct (ts := [22, 5, 5, 55, 56]) (by kernel_rfl)
    obtain ⟨_, _, rfl, p1, q⟩ := catQ_cons q
    obtain ⟨_, _, rfl, p2, q⟩ := catQ_cons q
    obtain ⟨_, _, rfl, p3, q⟩ := catQ_cons q
    obtain ⟨_, _, rfl, p4, q⟩ := catQ_cons q
    obtain ⟨_, _, rfl, p5, q⟩ := catQ_cons q
    cases catQ_nil q
    obtain ⟨m1, rfl, x1⟩ := p1.int (k := .u32) (by kernel_rfl)
    obtain ⟨m2, rfl, x2⟩ := p2.int (k := .u8) (by kernel_rfl)
    obtain ⟨m3, rfl, x3⟩ := p3.int (k := .u8) (by kernel_rfl)
    obtain ⟨m4, rfl, x4⟩ := p4.int (k := .u8) (by kernel_rfl)
    obtain ⟨m5, rfl, x5⟩ := p5.int (k := .u8) (by kernel_rfl)
    have y1 := wfu32 x1
    have y2 := wfu8 x2
    have y3 := wfu8 x3
    have y4 := wfu8 x4
    have y5 := wfu8 x5
    exact ⟨⟨m1, m2, m3, m4, m5⟩, rfl, ⟨by simp only; omega, ⟨by simp only; omega, by simp only; omega⟩, ⟨by simp only; omega, by simp only; omega⟩, ⟨by simp only; omega, by simp only; omega⟩, ⟨by simp only; omega, by simp only; omega⟩⟩⟩)
  have v1 := wfu8 w1
  have v2 := wfu32 w2
  have v3 := wfu8 w3
  have v4 := wfu8 w4
  have v5 := wfu8 w5
  have v6 := wfu16 w6
  have v7 := wfu16 w7
  exact ⟨⟨n1, n2, n3, ps, n4, n5, n6, n7, rs⟩, p, r, rfl, ⟨lp, lr, fun m hm => (rp m hm).1⟩, ⟨⟨by simp only; omega, by simp only; omega⟩, by simp only; omega, ⟨by simp only; omega, by simp only; omega⟩, ⟨by simp only; omega, by simp only; omega⟩, ⟨by simp only; omega, by simp only; omega⟩, by simp only; omega, by simp only; omega, rr, fun m hm => (rp m hm).2.1⟩, fun m hm => (rp m hm).2.2⟩
end Go.Ab
end
section
/-
  FrameWrites, the law.
-/
namespace Go.Ab
open Go.Proofs

theorem frameMain (f : Frm) (p r : AV) (h : AHeap) (L : FrmL h f p r) (ok : FrmOk f) (hb : ∀ m ∈ f.msgs, m.bs.length ≤ 140737488351232) : Post (acall Try.prog Nt 3 [.agg (f.cells p r)] h) fun v _ => v = .bool true := by
    have ec : f.cells p r = [.int .u8 f.sender, .int .u32 f.round, .int .u8 f.members, p, .int .u8 f.kind, .int .u8 f.key, .int .u16 f.val, .int .u16 f.old, r] := rfl
    rw [E3, acells_agg, gv_some, gN_eq]
    refine Post.bind (c_awake4 _) ?_
    rintro v h1 ⟨rfl, g, rfl⟩
    obtain ⟨x1, e1⟩ : ∃ b, b = h.length := ⟨_, rfl⟩
    obtain ⟨H, hH⟩ : ∃ H, H = h ++ [some (ABlk.cells false (f.cells p r))] ++ g := ⟨_, rfl⟩
    have kx : hget H x1 = some (.cells false (f.cells p r)) := by rw [hH, e1]; exact hget_app (by rw [hget_at0]; rfl)
    have LH : FrmL H f p r := by rw [hH]; exact (L.app _).app _
    rw [← e1, ← hH, gB_bool, Bool.not_true, gc_f, J3_1_eq]
    have lx : ∀ w, aload true 9 (.ptr x1 0) (H ++ w) = some (.agg (f.cells p r)) := fun w => by
      rw [aload_ptr, hget_app kx]
      rfl
    have lx0 := lx []
    rw [List.append_nil] at lx0
    have l3 : aload false 1 (.ptr x1 3) H = some p := by rw [aload_ptr, kx]; rfl
    have l8 : aload false 1 (.ptr x1 8) H = some r := by rw [aload_ptr, kx]; rfl
    have two : ∀ b, (b = false → f.msgs.length ≤ 300 ∧ f.recs.length ≤ 300) → Post (J3_2 x1 b H) fun v _ => v = .bool true := by
      intro b hbb
      rw [J3_2_eq]
      cases b
      rotate_left
      · exact Post.done rfl
      obtain ⟨hm, hr⟩ := hbb rfl
      rw [gc_f, J3_3_eq, lx0, gv_some]
      refine Post.bind (c_fcopied f p r H LH (by omega) (by omega) hb) ?_
      rintro v h2 ⟨ms, y, z, g2, rfl, rfl, LC, sg⟩
      have hl : ms.length = f.msgs.length := by have := congrArg List.length sg; simpa using this
      have okc : FrmOk (f.wi ms) := ⟨ok.sender, ok.round, ok.members, ok.kind, ok.key, ok.val, ok.old, ok.recs, fun m hm' => by
        have : m.sig ∈ f.msgs.map Msg.sig := by rw [← sg]; exact List.mem_map_of_mem hm'
        obtain ⟨m', hm2, e⟩ := List.mem_map.1 this
        have e2 : m'.bs = m.bs := congrArg Prod.snd e
        rw [← e2]
        exact ok.msgs m' hm2⟩
      have fe := fErr_same f ms sg
      have fb := frmB_same f ms sg
      have one := fErr_len f
      rw [gN_eq]
      obtain ⟨b14, e14⟩ : ∃ b, b = (H ++ g2).length := ⟨_, rfl⟩
      have cl : ((f.wi ms).cells y z).length = 9 := rfl
      have iy := LC.msgs.isc
      have iz := LC.recs.isc
      have al : ((f.wi ms).cells y z).all isCell = true := by simp only [Frm.cells, List.all_cons, List.all_nil, isCell_int, iy, iz, Bool.and_self]
      have st : ∀ Z : List AV, Z.length = 9 → astore true 9 (.ptr b14 0) (.agg ((f.wi ms).cells y z)) (H ++ g2 ++ [some (.cells false Z)]) = some (H ++ (g2 ++ [some (.cells false ((f.wi ms).cells y z))])) := fun Z hZ => by
        have sp : splice Z 0 ((f.wi ms).cells y z) = (f.wi ms).cells y z := splice_all (by rw [hZ]; exact Nat.le_refl _)
        have cond : 0 + 9 ≤ Z.length ∧ ((f.wi ms).cells y z).length = 9 ∧ ((f.wi ms).cells y z).all isCell = true := ⟨by omega, rfl, al⟩
        have hg : hget (H ++ g2 ++ [some (.cells false Z)]) b14 = some (.cells false Z) := by rw [e14, hget_at0]; rfl
        rw [astore_ptr, hg]
        simp only [if_true, cond, sp, and_self]
        rw [e14, hset_at0, List.append_assoc]
        rfl
      rw [← e14, st _ rfl, gv_some]
      have k14 : hget (H ++ (g2 ++ [some (.cells false ((f.wi ms).cells y z))])) b14 = some (.cells false ((f.wi ms).cells y z)) := by rw [← List.append_assoc, e14, hget_at0]; rfl
      have l14 : ∀ w, aload true 9 (.ptr b14 0) (H ++ (g2 ++ [some (.cells false ((f.wi ms).cells y z))]) ++ w) = some (.agg ((f.wi ms).cells y z)) := fun w => by
        rw [aload_ptr, hget_app k14]
        rfl
      have l14' := l14 []
      rw [List.append_nil] at l14'
      have LC2 : FrmL (H ++ (g2 ++ [some (.cells false ((f.wi ms).cells y z))])) (f.wi ms) y z := by rw [← List.append_assoc]; exact LC.app _
      have LH2 : FrmL (H ++ (g2 ++ [some (.cells false ((f.wi ms).cells y z))])) f p r := LH.app _
      have lx2 := lx (g2 ++ [some (.cells false ((f.wi ms).cells y z))])
      have kxK : hget (H ++ (g2 ++ [some (.cells false ((f.wi ms).cells y z))])) x1 = some (.cells false (f.cells p r)) := hget_app kx
      generalize H ++ (g2 ++ [some (.cells false ((f.wi ms).cells y z))]) = K at l14 l14' LC2 LH2 k14 lx2 kxK ⊢
      have lxk : ∀ w, aload true 9 (.ptr x1 0) (K ++ w) = some (.agg (f.cells p r)) := fun w => by
        rw [aload_ptr, hget_app kxK]
        rfl
      rw [l14', gv_some]
      refine Post.bind (c_fencode (f.wi ms) okc y z K LC2 (by show ms.length ≤ 1000; omega) (by show f.recs.length ≤ 1000; omega)) ?_
      rintro v h3 ⟨g3, rfl, alt⟩
      obtain ⟨V, E, el, hE, imgA⟩ : ∃ V E, v = .tuple [V, E] ∧ ErrV (K ++ g3) (if fErr f = [] then [] else (40, some (-1)) :: fErr f) E ∧ Sl (K ++ g3) 1 encB (if fErr f = [] then frmB f ++ crcTail (frmB f) else []) V := by
        rcases alt with ⟨hne, e, rfl, he⟩ | ⟨e0, y2, rfl, oy⟩
        · rw [fe] at hne he
          exact ⟨.nilsl, e, rfl, by rw [if_neg hne]; exact he, by rw [if_neg hne]; exact .inl ⟨rfl, rfl⟩⟩
        · rw [fe] at e0
          rw [fb] at oy
          exact ⟨y2, .niliface, rfl, by rw [if_pos e0]; rfl, by rw [if_pos e0]; exact oy.sl⟩
      subst el
      rw [aextract_0, gv_some, aextract_1, gv_some, lxk, gv_some]
      refine Post.bind (c_frencode f ok p r (K ++ g3) (LH2.app _) (by omega) (by omega)) ?_
      rintro v h4 ⟨g4, rfl, alt2⟩
      obtain ⟨V2, T2, el, hT, imgB⟩ : ∃ V2 T2, v = .tuple [V2, .str T2] ∧ T2 = errTxt (if fErr f = [] then [] else (40, some (-1)) :: fErr f) ∧ Sl (K ++ g3 ++ g4) 1 encB (if fErr f = [] then frmB f ++ crcTail (frmB f) else []) V2 := by
        rcases alt2 with ⟨hne, rfl⟩ | ⟨e0, y2, rfl, oy⟩
        · exact ⟨.nilsl, _, rfl, by rw [if_neg hne], by rw [if_neg hne]; exact .inl ⟨rfl, rfl⟩⟩
        · exact ⟨y2, _, rfl, by rw [if_pos e0]; rfl, by rw [if_pos e0]; exact oy.sl⟩
      subst el hT
      rw [List.append_assoc] at imgB ⊢
      rw [aextract_0, gv_some, aextract_1, gv_some, gS_str, l14, gv_some, lxk, gv_some]
      refine Post.call (c_fcheck (f.wi ms) (by show f.recs.length ≤ 1000; omega) (by show ms.length ≤ 1000; omega) y z _ (LC2.app _)) fun v g5 he => ?_
      rw [fe] at he
      rw [List.append_assoc] at he ⊢
      rw [lxk, gv_some, chkRd_eq, Bool.and_self, gf_t]
      refine Post.call (c_read _ _ _ he (by omega)) fun v2 g6 hv => ?_
      subst hv
      rw [List.append_assoc, gS_str, lxk, gv_some, chkRd_eq, Bool.and_self, gf_t]
      refine Post.call (c_frcheck f (by omega) (by omega) p r _ (LH2.app _)) fun v3 g7 hv => ?_
      subst hv
      rw [List.append_assoc, gS_str, beq_self_eq_true, gi_t]
      have iA := (imgA.app (g4 ++ (g5 ++ (g6 ++ g7))))
      have iB := (imgB.app (g5 ++ (g6 ++ g7)))
      have hE2 := hE.app (g4 ++ (g5 ++ (g6 ++ g7)))
      have eA : K ++ g3 ++ (g4 ++ (g5 ++ (g6 ++ g7))) = K ++ (g3 ++ g4 ++ g5 ++ g6 ++ g7) := by simp
      have eB : K ++ (g3 ++ g4) ++ (g5 ++ (g6 ++ g7)) = K ++ (g3 ++ g4 ++ g5 ++ g6 ++ g7) := by simp
      have eC : K ++ (g3 ++ g4 ++ g5 ++ (g6 ++ g7)) = K ++ (g3 ++ g4 ++ g5 ++ g6 ++ g7) := by simp
      have eD : K ++ (g3 ++ g4 ++ g5 ++ g6 ++ g7) = K ++ (g3 ++ g4 ++ g5 ++ g6 ++ g7) := rfl
      rw [eA] at iA hE2
      rw [eB] at iB
      rw [astr_B iA, gv_some, gS_str, astr_B iB, gv_some, gS_str, beq_self_eq_true, gi_t]
      refine Post.call (c_read _ _ _ hE2 (by split <;> simp; omega)) fun v4 g8 hv => ?_
      subst hv
      rw [List.append_assoc, gS_str, beq_self_eq_true, gi_t, l14, gv_some, lxk, gv_some]
      refine Post.call (c_sameF f ms p r y z _ (LH2.app _) (LC2.app _) sg (by omega) (by omega)) fun v5 g9 hv => ?_
      subst hv
      exact Post.done rfl
    rw [l3, gv_some, LH.msgs.len, gv_some]
    refine Post.itd (fun c => two true (by intro h; cases h)) fun c => ?_
    rw [l8, gv_some, LH.recs.len, gv_some]
    refine two _ fun e => ?_
    have := of_decide_eq_false e
    omega
theorem frameWrites : LawTrue Try.prog Nt 9 3 [32] := by
  rintro h xs ⟨x, r', rfl, hx, hr'⟩
  cases hr'
  obtain ⟨f, p, r, rfl, L, ok, hb⟩ := argvFrm (g := 2) hx
  obtain ⟨v, g, e, rfl⟩ := frameMain f p r h L ok hb
  exact ⟨_, e⟩
end Go.Ab
end
