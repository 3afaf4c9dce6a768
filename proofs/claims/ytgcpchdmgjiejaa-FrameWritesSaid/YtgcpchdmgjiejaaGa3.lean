/-
  The abstract evaluator: what it answers the machine comes to.
-/
import Derived.Test.YtgcpchdmgjiejaaGa1
import Derived.Test.YtgcpchdmgjiejaaGa2
set_option linter.all false
section
/-
  From the evaluator's answer to the machine's call, and to the row's contract.
-/
namespace Go.Ab
open Go.RowKit Go.ChangeShapes

/-- A law answers true, whatever the arguments. -/
def LawTrue (P : Program) (Nt : Notes) (F : Nat) (f : FuncId) (ts : List TypeId) : Prop :=
  ∀ (h : AHeap) (xs : List AV), ArgsV P h F ts xs → ∃ h', acall P Nt f xs h = some (.bool true, h')

theorem St.empty (W : World) : St W (fun _ => none) [] :=
  ⟨⟨Nat.le_refl _, (fun _ _ _ _ e => by cases e), (fun _ _ _ _ e => by cases e), (fun _ _ _ e => by cases e), (fun _ _ _ e => by cases e), fun _ _ _ _ _ _ _ e => by cases e⟩, fun _ _ => rfl⟩

theorem calls_true {P : Program} {Nt : Notes} {F base : Nat} {f : FuncId} {fn : Func} {H : Type} {enc : TypeId × Value → H} {W : World} {args : Array Value} {ds : List (DataW H)} {p : List MemPlace}
    (hX : ExtSim P Nt) (hm : P.follows .mixedOrders = true) (hlaw : LawTrue P Nt F f fn.params.toList) (hp : ∀ t ∈ fn.params.toList, plainT P F t = true)
    (hval : ∀ (j : Nat) t v, fn.params[j]? = some t → args[j]? = some v → Value.okWide P W .any base t v)
    (hA : DataW.TrodAll enc P W 0 (fun _ => true) true fn.params.toList args.toList ds p) (hw : ∀ w ∈ DataW.weightsEach P fn.params.toList ds, w ≤ reachBytes) :
    Calls P f args W fun e W' => e = .returned (.bool true) ∧ Below W.heap.size W W' := by
  obtain ⟨ρ, h, xs, st, _, hv, hx⟩ := open_all (F := F) _ _ _ _ _ _ (St.empty W) hA (fun j t v h1 h2 => hval j t v (by simpa using h1) (by simpa using h2)) hp hw
  obtain ⟨h', hr⟩ := hlaw h xs hx
  obtain ⟨m, hm'⟩ := acall_some.1 hr
  have := acallN_sim (Nt := Nt) hX hm W.heap.size m f xs h _ hm' ρ W args.toList st.rep hv fun id h1 _ => st.fresh id h1
  simp only [Array.toArray_toList] at this
  refine this.mono fun e W' ⟨ρ', v, he, hv', _, ev⟩ => ?_
  rw [VRel.bool_iff] at hv'
  subst hv'
  exact ⟨he, ev.below⟩
/-- Two closed facts of a law's parameters. -/
def paramsOk (P : Program) (F : Nat) (ts : List TypeId) : Bool := ts.all fun t => plainT P F t && P.readableRec t && decide (t < P.types.size)
theorem paramsOk_plain {P : Program} {F : Nat} {ts : List TypeId} (h : paramsOk P F ts = true) : ∀ t ∈ ts, plainT P F t = true := fun t ht => by
  have := List.all_eq_true.1 h t ht
  simp only [Bool.and_eq_true] at this
  exact this.1.1
theorem paramsOk_read {P : Program} {F : Nat} {ts : List TypeId} (h : paramsOk P F ts = true) : ∀ t ∈ ts, P.readableRec t = true ∧ t < P.types.size := fun t ht => by
  have := List.all_eq_true.1 h t ht
  simp only [Bool.and_eq_true, decide_eq_true_eq] at this
  exact ⟨this.1.2, this.2⟩
end Go.Ab
end
section
/-
  Heaps as an old heap and what is new: rules for the proofs of contracts.
-/
namespace Go.Ab

theorem hget_at0 (h l : AHeap) : hget (h ++ l) h.length = (l[0]?).join := by
  unfold hget
  rw [List.getElem?_append_right (Nat.le_refl _), Nat.sub_self]
theorem hget_at (h l : AHeap) (i : Nat) : hget (h ++ l) (h.length + i) = (l[i]?).join := by
  unfold hget
  rw [List.getElem?_append_right (by omega), Nat.add_sub_cancel_left]
theorem hget_old {h : AHeap} (l : AHeap) {b : Nat} (hb : b < h.length) : hget (h ++ l) b = hget h b := by
  unfold hget
  rw [List.getElem?_append_left hb]
theorem newB_eq {R : Type} (h : AHeap) (cs : List AV) (K : Nat → AHeap → Option R) : newB h cs K = K h.length (h ++ [some (.cells false cs)]) := rfl
theorem aload_ptr (ag : Bool) (sz b o : Nat) (h : AHeap) : aload ag sz (.ptr b o) h = match hget h b with | some (.cells _ cs) => if ag then (if o + sz ≤ cs.length then some (.agg ((cs.drop o).take sz)) else none) else cs[o]? | _ => none := rfl
theorem acond_eq (b : Bool) (A B : Res) : acond (.bool b) A B = if b then A else B := by cases b <;> rfl
theorem asI_eq {R : Type} (k : IntKind) (n : Int) (f : Int → Option R) : asI k (.int k n) f = f n := by simp [asI]
theorem asB_eq {R : Type} (b : Bool) (f : Bool → Option R) : asB (.bool b) f = f b := rfl
theorem asS_eq {R : Type} (s : List UInt8) (f : List UInt8 → Option R) : asS (.str s) f = f s := rfl
mutual
theorem AV.beq_self : ∀ x : AV, AV.beq x x = true
  | .junk => rfl
  | .bool b => by simp [AV.beq]
  | .int k n => by simp [AV.beq]
  | .str s => by simp [AV.beq]
  | .nilptr => rfl
  | .ptr a b => by simp [AV.beq]
  | .nilsl => rfl
  | .sl a b c d => by simp [AV.beq]
  | .nilmap => rfl
  | .map a => by simp [AV.beq]
  | .nilfunc => rfl
  | .func f a b => by simp [AV.beq, AV.beqs_self a, AV.beqs_self b]
  | .niliface => rfl
  | .iface t x => by simp [AV.beq, AV.beq_self x]
  | .agg a => by simp [AV.beq, AV.beqs_self a]
  | .tuple a => by simp [AV.beq, AV.beqs_self a]
theorem AV.beqs_self : ∀ x : List AV, AV.beqs x x = true
  | [] => rfl
  | a :: as => by simp [AV.beqs, AV.beq_self a, AV.beqs_self as]
end
theorem chkRd_eq (v : AV) : chkRd (some v) v = true := by simp [chkRd, AV.beq_self]
theorem chkAl_blk (ro : Bool) (cs : List AV) : chkAl (some (.cells ro cs)) (some (.cells ro cs)) = true := by simp [chkAl, AV.beqs_self]
theorem aif_true {R : Type} (A : Option R) : aif true A = A := rfl
end Go.Ab
end
section
/-
  Cells at a place, and slices of elements: rules for reading.
-/
namespace Go.Ab

/-- Cells at a place. -/
def At (h : AHeap) (b o : Nat) (vs : List AV) : Prop := ∃ ro cs, hget h b = some (.cells ro cs) ∧ o + vs.length ≤ cs.length ∧ (cs.drop o).take vs.length = vs
theorem At.app {h : AHeap} {b o : Nat} {vs : List AV} (g : AHeap) (a : At h b o vs) : At (h ++ g) b o vs := by
  obtain ⟨ro, cs, h1, h2, h3⟩ := a
  exact ⟨ro, cs, hget_app h1, h2, h3⟩
theorem At.sub {h : AHeap} {b o : Nat} {vs : List AV} (a : At h b o vs) (j n : Nat) (hj : j + n ≤ vs.length) : At h b (o + j) ((vs.drop j).take n) := by
  obtain ⟨ro, cs, h1, h2, h3⟩ := a
  have hl : ((vs.drop j).take n).length = n := by simp; omega
  refine ⟨ro, cs, h1, by rw [hl]; omega, ?_⟩
  rw [hl]
  conv => rhs; rw [← h3]
  rw [List.drop_take, List.take_take, List.drop_drop]
  congr 1; omega
theorem At.load1 {h : AHeap} {b o : Nat} {vs : List AV} (a : At h b o vs) (j : Nat) (hj : j < vs.length) (sz : Nat) : aload false sz (.ptr b (o + j)) h = some vs[j] := by
  obtain ⟨ro, cs, h1, h2, h3⟩ := a
  rw [aload_ptr, h1]
  have : vs[j]? = some vs[j] := by simp [hj]
  rw [← this]
  conv => rhs; rw [← h3]
  simp [List.getElem?_take, List.getElem?_drop, hj]
theorem At.load0 {h : AHeap} {b o : Nat} {v : AV} {vs : List AV} (a : At h b o (v :: vs)) (sz : Nat) : aload false sz (.ptr b o) h = some v := by
  have := a.load1 0 (by simp) sz
  simpa using this
theorem At.loadN {h : AHeap} {b o : Nat} {vs : List AV} (a : At h b o vs) (sz : Nat) (hs : sz = vs.length) : aload true sz (.ptr b o) h = some (.agg vs) := by
  obtain ⟨ro, cs, h1, h2, h3⟩ := a
  rw [aload_ptr, h1]
  subst hs
  simp [h2, h3]
theorem At.new (h : AHeap) (ro : Bool) (vs : List AV) (g : AHeap) : At (h ++ some (.cells ro vs) :: g) h.length 0 vs :=
  ⟨ro, vs, by rw [hget_at0]; rfl, by simp, by simp⟩

/-- A slice of elements, each of sz cells. -/
def Sl {α : Type} (h : AHeap) (sz : Nat) (enc : α → List AV) (l : List α) (x : AV) : Prop :=
  (x = .nilsl ∧ l = []) ∨ ∃ b o, x = .sl b o l.length sz ∧ At h b o (l.flatMap enc)
section
variable {α : Type} {h : AHeap} {sz : Nat} {enc : α → List AV} {l : List α} {x : AV}
theorem Sl.app (g : AHeap) (s : Sl h sz enc l x) : Sl (h ++ g) sz enc l x := by
  rcases s with s | ⟨b, o, e, a⟩
  · exact .inl s
  · exact .inr ⟨b, o, e, a.app g⟩
theorem Sl.len (s : Sl h sz enc l x) : alenS x = some l.length := by
  rcases s with ⟨rfl, rfl⟩ | ⟨b, o, rfl, _⟩ <;> rfl
theorem Sl.lenOf (s : Sl h sz enc l x) : alenOf x = some l.length := by
  rcases s with ⟨rfl, rfl⟩ | ⟨b, o, rfl, _⟩ <;> rfl
theorem flatMap_len (he : ∀ a, (enc a).length = sz) : ∀ l : List α, (l.flatMap enc).length = l.length * sz
  | [] => by simp
  | a :: l => by
    rw [List.flatMap_cons, List.length_append, he, flatMap_len he l, List.length_cons, Nat.succ_mul]; omega
theorem flatMap_at (he : ∀ a, (enc a).length = sz) : ∀ (l : List α) (i : Nat) (hi : i < l.length), ((l.flatMap enc).drop (i * sz)).take sz = enc l[i]
  | a :: l, 0, _ => by
    rw [List.flatMap_cons, Nat.zero_mul, List.drop_zero, List.take_append_of_le_length (by rw [he]; exact Nat.le_refl _), List.take_of_length_le (by rw [he]; exact Nat.le_refl _)]
    rfl
  | a :: l, i + 1, hi => by
    have hi' : i < l.length := by simpa using hi
    rw [List.flatMap_cons, Nat.succ_mul, Nat.add_comm, ← List.drop_drop]
    have : (enc a ++ l.flatMap enc).drop sz = l.flatMap enc := by
      conv => lhs; rw [← he a]
      exact List.drop_left
    rw [this, flatMap_at he l i hi']
    simp
theorem flatMap_take (he : ∀ a, (enc a).length = sz) : ∀ (l : List α) (i : Nat), (l.flatMap enc).take (i * sz) = (l.take i).flatMap enc
  | [], i => by simp
  | a :: l, 0 => by simp
  | a :: l, i + 1 => by
    rw [List.flatMap_cons, Nat.succ_mul, Nat.add_comm, List.take_succ_cons, List.flatMap_cons, ← flatMap_take he l i, ← he a, List.take_length_add_append]
theorem flatMap_drop (he : ∀ a, (enc a).length = sz) : ∀ (l : List α) (i : Nat), (l.flatMap enc).drop (i * sz) = (l.drop i).flatMap enc
  | [], i => by simp
  | a :: l, 0 => by simp
  | a :: l, i + 1 => by
    rw [List.flatMap_cons, Nat.succ_mul, Nat.add_comm, List.drop_succ_cons, ← flatMap_drop he l i, ← he a, List.drop_length_add_append]
/-- An element's place. -/
theorem Sl.elem (s : Sl h sz enc l x) (he : ∀ a, (enc a).length = sz) (i : Nat) (hi : i < l.length) : ∃ b o, aixS sz x (i : Int) = some (.ptr b o) ∧ At h b o (enc l[i]) := by
  rcases s with ⟨_, rfl⟩ | ⟨b, o, rfl, a⟩
  · simp at hi
  · refine ⟨b, o + i * sz, ?_, ?_⟩
    · simp [aixS, hi]
    · have := a.sub (i * sz) sz (by rw [flatMap_len he]; rw [← Nat.succ_mul]; exact Nat.mul_le_mul_right _ hi)
      rwa [flatMap_at he l i hi] at this
theorem Sl.take (s : Sl h sz enc l x) (he : ∀ a, (enc a).length = sz) (k : IntKind) (i : Nat) (hi : i ≤ l.length) : ∃ y, aslS sz x none (some (.int k (i : Int))) = some y ∧ Sl h sz enc (l.take i) y := by
  rcases s with ⟨rfl, rfl⟩ | ⟨b, o, rfl, a⟩
  · simp only [List.length_nil, Nat.le_zero_eq] at hi
    subst hi
    exact ⟨.nilsl, by simp [aslS, abound], .inl ⟨rfl, rfl⟩⟩
  · refine ⟨.sl b o i sz, by simp [aslS, abound, hi], .inr ⟨b, o, by simp [Nat.min_eq_left hi], ?_⟩⟩
    have := a.sub 0 (i * sz) (by rw [flatMap_len he, Nat.zero_add]; exact Nat.mul_le_mul_right _ hi)
    rw [List.drop_zero, flatMap_take he] at this
    simpa using this
theorem Sl.drop (s : Sl h sz enc l x) (he : ∀ a, (enc a).length = sz) (k : IntKind) (i : Nat) (hi : i ≤ l.length) : ∃ y, aslS sz x (some (.int k (i : Int))) none = some y ∧ Sl h sz enc (l.drop i) y := by
  rcases s with ⟨rfl, rfl⟩ | ⟨b, o, rfl, a⟩
  · simp only [List.length_nil, Nat.le_zero_eq] at hi
    subst hi
    exact ⟨.nilsl, by simp [aslS, abound], .inl ⟨rfl, rfl⟩⟩
  · refine ⟨.sl b (o + i * sz) (l.length - i) sz, by simp [aslS, abound, hi], .inr ⟨b, o + i * sz, by simp, ?_⟩⟩
    have := a.sub (i * sz) ((l.length - i) * sz) (by rw [flatMap_len he, ← Nat.add_mul]; exact Nat.mul_le_mul_right _ (by omega))
    rw [flatMap_drop he, List.take_of_length_le (by rw [flatMap_len he]; simp)] at this
    exact this
/-- What an append reads. -/
theorem Sl.src (s : Sl h sz enc l x) (he : ∀ a, (enc a).length = sz) : asrc sz x h = some (l.flatMap enc) := by
  rcases s with ⟨rfl, rfl⟩ | ⟨b, o, rfl, a⟩
  · rfl
  · obtain ⟨ro, cs, h1, h2, h3⟩ := a
    rw [flatMap_len he] at h2 h3
    simp [asrc, h1, h2, h3]
end
/-- The first element that is bad, from a number on. -/
def fb {α : Type} (f : α → Bool) : List α → Nat → Option Nat
  | [], _ => none
  | a :: l, k => if f a then some k else fb f l (k + 1)
theorem drop_cons {α : Type} {l s : List α} {a : α} {k : Nat} (e : l.drop k = a :: s) : ∃ hk : k < l.length, l[k] = a ∧ l.drop (k + 1) = s := by
  have hk : k < l.length := by
    rcases Nat.lt_or_ge k l.length with h | h
    · exact h
    · rw [List.drop_eq_nil_of_le h] at e; cases e
  refine ⟨hk, ?_, ?_⟩
  · rw [List.drop_eq_getElem_cons hk] at e; exact (List.cons.inj e).1
  · rw [List.drop_eq_getElem_cons hk] at e; exact (List.cons.inj e).2
theorem drop_nil {α : Type} {l : List α} {k : Nat} (e : l.drop k = []) : l.length ≤ k := List.drop_eq_nil_iff.1 e
end Go.Ab
end
section
/-
  Rules for going through a function's text from its head on.
-/
namespace Go.Ab

/-- It comes to a value and a heap with Q. -/
def Post (x : Res) (Q : AV → AHeap → Prop) : Prop := ∃ v h', x = some (v, h') ∧ Q v h'
/-- It comes to a value with Q, and only makes memory. -/
def Ev (x : Res) (h : AHeap) (Q : AV → AHeap → Prop) : Prop := ∃ v g, x = some (v, h ++ g) ∧ Q v (h ++ g)
section
variable {x A B : Res} {v : AV} {h g : AHeap} {Q Q' : AV → AHeap → Prop} {b : Bool} {f : AV → AHeap → Res}
theorem Post.mono (p : Post x Q) (hq : ∀ v h, Q v h → Q' v h) : Post x Q' := by
  obtain ⟨v, h, e, q⟩ := p
  exact ⟨v, h, e, hq v h q⟩
theorem Ev.mono (p : Ev x h Q) (hq : ∀ v g, Q v (h ++ g) → Q' v (h ++ g)) : Ev x h Q' := by
  obtain ⟨v, g, e, q⟩ := p
  exact ⟨v, g, e, hq v g q⟩
theorem Post.done (q : Q v h) : Post (some (v, h)) Q := ⟨v, h, rfl, q⟩
theorem Ev.done (q : Q v (h ++ g)) : Ev (some (v, h ++ g)) h Q := ⟨v, g, rfl, q⟩
theorem Ev.here (q : Q v h) : Ev (some (v, h)) h Q := ⟨v, [], by simp, by simpa using q⟩
theorem Ev.base (p : Ev x (h ++ g) Q) : Ev x h Q := by
  obtain ⟨v, g', e, q⟩ := p
  exact ⟨v, g ++ g', by rw [e]; simp, by simpa using q⟩
theorem Ev.post (p : Ev x h Q) : Post x Q := by
  obtain ⟨v, g, e, q⟩ := p
  exact ⟨v, _, e, q⟩
theorem Post.bind (p : Post x Q) (k : ∀ v h, Q v h → Post (f v h) Q') : Post (gr x f) Q' := by
  obtain ⟨v, h, rfl, q⟩ := p
  exact k v h q
theorem Post.call (p : Ev x h Q) (k : ∀ v g, Q v (h ++ g) → Post (f v (h ++ g)) Q') : Post (gr x f) Q' := by
  obtain ⟨v, g, rfl, q⟩ := p
  exact k v g q
theorem Ev.call {h0 : AHeap} (p : Ev x h Q) (k : ∀ v g, Q v (h ++ g) → Ev (f v (h ++ g)) h0 Q') : Ev (gr x f) h0 Q' := by
  obtain ⟨v, g, rfl, q⟩ := p
  exact k v g q
theorem Ev.bind {h0 : AHeap} (p : Post x Q) (k : ∀ v h, Q v h → Ev (f v h) h0 Q') : Ev (gr x f) h0 Q' := by
  obtain ⟨v, h, rfl, q⟩ := p
  exact k v h q
theorem Post.cnd (ht : b = true → Post A Q) (hf : b = false → Post B Q) : Post (gc b A B) Q := by
  cases b
  · exact hf rfl
  · exact ht rfl
theorem Ev.cnd (ht : b = true → Ev A h Q) (hf : b = false → Ev B h Q) : Ev (gc b A B) h Q := by
  cases b
  · exact hf rfl
  · exact ht rfl
theorem Post.cdd {p : Prop} [Decidable p] (ht : p → Post A Q) (hf : ¬ p → Post B Q) : Post (gc (decide p) A B) Q :=
  Post.cnd (fun e => ht (of_decide_eq_true e)) (fun e => hf (of_decide_eq_false e))
theorem Ev.cdd {p : Prop} [Decidable p] (ht : p → Ev A h Q) (hf : ¬ p → Ev B h Q) : Ev (gc (decide p) A B) h Q :=
  Ev.cnd (fun e => ht (of_decide_eq_true e)) (fun e => hf (of_decide_eq_false e))
theorem Post.ite (ht : b = true → Post A Q) (hf : b = false → Post B Q) : Post (gi b A B) Q := by
  cases b
  · exact hf rfl
  · exact ht rfl
theorem Ev.ite (ht : b = true → Ev A h Q) (hf : b = false → Ev B h Q) : Ev (gi b A B) h Q := by
  cases b
  · exact hf rfl
  · exact ht rfl
theorem Post.itd {p : Prop} [Decidable p] (ht : p → Post A Q) (hf : ¬ p → Post B Q) : Post (gi (decide p) A B) Q :=
  Post.ite (fun e => ht (of_decide_eq_true e)) (fun e => hf (of_decide_eq_false e))
theorem Ev.itd {p : Prop} [Decidable p] (ht : p → Ev A h Q) (hf : ¬ p → Ev B h Q) : Ev (gi (decide p) A B) h Q :=
  Ev.ite (fun e => ht (of_decide_eq_true e)) (fun e => hf (of_decide_eq_false e))
theorem Post.val {α : Type} {x : Option α} {a : α} {f : α → Res} (e : x = some a) (k : Post (f a) Q) : Post (gv x f) Q := by
  subst e; exact k
theorem Ev.val {α : Type} {x : Option α} {a : α} {f : α → Res} (e : x = some a) (k : Ev (f a) h Q) : Ev (gv x f) h Q := by
  subst e; exact k
end

theorem gi_cond {R : Type} (b : Bool) (x y : R) : gi b (some x) (some y) = some (if b then x else y) := by cases b <;> rfl
theorem acells_agg (cs : List AV) : acells (.agg cs) = some cs := rfl
theorem acells_int (k : IntKind) (n : Int) : acells (.int k n) = some [.int k n] := rfl
theorem acells_bool (b : Bool) : acells (.bool b) = some [.bool b] := rfl
theorem acells_str (s : List UInt8) : acells (.str s) = some [.str s] := rfl
theorem acells_ptr (a b : Nat) : acells (.ptr a b) = some [.ptr a b] := rfl
theorem acells_sl (a b c d : Nat) : acells (.sl a b c d) = some [.sl a b c d] := rfl
theorem acells_nilsl : acells .nilsl = some [.nilsl] := rfl
theorem acells_nilptr : acells .nilptr = some [.nilptr] := rfl
theorem acells_iface (t : TypeId) (v : AV) : acells (.iface t v) = some [.iface t v] := rfl
theorem acells_niliface : acells .niliface = some [.niliface] := rfl
theorem aptr_ptr (b o k : Nat) : aptr (.ptr b o) k = some (.ptr b (o + k)) := rfl
theorem anil_ptr (b o : Nat) : anil (.ptr b o) = some (.ptr b o) := rfl
theorem aextract_0 (a : AV) (l : List AV) : aextract (.tuple (a :: l)) 0 = some a := rfl
theorem aextract_1 (a b : AV) (l : List AV) : aextract (.tuple (a :: b :: l)) 1 = some b := rfl
theorem aextract_2 (a b c : AV) (l : List AV) : aextract (.tuple (a :: b :: c :: l)) 2 = some c := rfl
theorem alenS_sl (b o n sz : Nat) : alenS (.sl b o n sz) = some n := rfl
theorem alenOf_sl (b o n sz : Nat) : alenOf (.sl b o n sz) = some n := rfl
theorem alenOf_nil : alenOf .nilsl = some 0 := rfl
theorem aixA_ptr (sz len b o : Nat) (i : Int) : aixA sz len (.ptr b o) i = if 0 ≤ i ∧ i.toNat < len then some (.ptr b (o + i.toNat * sz)) else none := by
  unfold aixA aptr
  by_cases h : 0 ≤ i ∧ i < (len : Int)
  · rw [if_pos h, if_pos (by omega)]
  · rw [if_neg h, if_neg (by omega)]
theorem alenS_nil : alenS .nilsl = some 0 := rfl
theorem apartOf_agg (ag : Bool) (sz off : Nat) (cs : List AV) : apartOf ag sz off (.agg cs) = apart ag sz off cs := rfl
theorem apart_t (sz off : Nat) (cs : List AV) : apart true sz off cs = some (.agg ((cs.drop off).take sz)) := rfl
theorem apart_f (sz off : Nat) (cs : List AV) : apart false sz off cs = cs[off]? := rfl

theorem len_app (h l : AHeap) : (h ++ l).length = h.length + l.length := List.length_append
theorem get_app (g l : AHeap) (i : Nat) : (g ++ l)[g.length + i]? = l[i]? := by
  rw [List.getElem?_append_right (by omega), Nat.add_sub_cancel_left]
theorem get_app0 (g l : AHeap) : (g ++ l)[g.length]? = l[0]? := by
  rw [List.getElem?_append_right (by omega), Nat.sub_self]
theorem set_app (g l : AHeap) (i : Nat) (x : Option ABlk) : (g ++ l).set (g.length + i) x = g ++ l.set i x := by
  rw [List.set_append_right _ _ (by omega), Nat.add_sub_cancel_left]
theorem set_app0 (g l : AHeap) (x : Option ABlk) : (g ++ l).set g.length x = g ++ l.set 0 x := by
  rw [List.set_append_right _ _ (by omega), Nat.sub_self]
theorem hset_at0 (h l : AHeap) (cs : List AV) : hset (h ++ l) h.length cs = h ++ l.set 0 (some (.cells false cs)) := set_app0 h l _
theorem hset_at (h l : AHeap) (i : Nat) (cs : List AV) : hset (h ++ l) (h.length + i) cs = h ++ l.set i (some (.cells false cs)) := set_app h l i _
theorem hs_same {h : AHeap} {b : Nat} (hb : b < h.length) (cs : List AV) : hget (hset h b cs) b = some (.cells false cs) := by
  unfold hget hset
  rw [List.getElem?_set_self hb]; rfl
theorem hs_ne {h : AHeap} {b c : Nat} (hb : b ≠ c) (cs : List AV) : hget (hset h b cs) c = hget h c := by
  unfold hget hset
  rw [List.getElem?_set_ne hb]
theorem len_hset (h : AHeap) (b : Nat) (cs : List AV) : (hset h b cs).length = h.length := by simp [hset]
theorem astore_ptr (ag : Bool) (sz b o : Nat) (v : AV) (h : AHeap) : astore ag sz (.ptr b o) v h = match hget h b with
    | some (.cells false cs) =>
      if ag then
        match v with
        | .agg vs => if o + sz ≤ cs.length ∧ vs.length = sz ∧ vs.all isCell = true then some (hset h b (splice cs o vs)) else none
        | _ => none
      else if o < cs.length ∧ isCell v = true then some (hset h b (cs.set o v)) else none
    | _ => none := by
  cases v <;> rfl
theorem aload_ptr2 (b o : Nat) (ag : Bool) (sz : Nat) (h : AHeap) : aload ag sz (.ptr b o) h = match hget h b with | some (.cells _ cs) => if ag then (if o + sz ≤ cs.length then some (.agg ((cs.drop o).take sz)) else none) else cs[o]? | _ => none := aload_ptr ag sz b o h
theorem splice_all {cs vs : List AV} (h : cs.length ≤ vs.length) : splice cs 0 vs = vs := by
  unfold splice
  rw [List.drop_eq_nil_of_le (by omega)]; simp
theorem splice_eq (cs vs : List AV) (o : Nat) : splice cs o vs = cs.take o ++ vs ++ cs.drop (o + vs.length) := rfl
theorem isCell_int (k : IntKind) (n : Int) : isCell (.int k n) = true := rfl
theorem isCell_bool (b : Bool) : isCell (.bool b) = true := rfl
theorem isCell_str (s : List UInt8) : isCell (.str s) = true := rfl
theorem isCell_ptr (a b : Nat) : isCell (.ptr a b) = true := rfl
theorem isCell_sl (a b c d : Nat) : isCell (.sl a b c d) = true := rfl
theorem isCell_nilsl : isCell .nilsl = true := rfl
theorem isCell_nilptr : isCell .nilptr = true := rfl
theorem isCell_iface (t : TypeId) (v : AV) : isCell (.iface t v) = true := rfl
theorem isCell_niliface : isCell .niliface = true := rfl
theorem join_some (x : Option ABlk) : (some x).join = x := rfl

/-- Reading out of a block of known cells. -/
theorem aload_cells {h : AHeap} {b : Nat} {ro : Bool} {cs : List AV} (hb : hget h b = some (.cells ro cs)) (sz o : Nat) : aload false sz (.ptr b o) h = cs[o]? := by
  rw [aload_ptr, hb]; rfl
theorem astr_add {a b : List UInt8} (h : a.length + b.length ≤ 9223372036854775807) : astr .add a b = some (.str (a ++ b)) := by
  simp only [astr]; rw [if_pos h]
theorem wrap64_id {n : Int} (h1 : -9223372036854775808 ≤ n) (h2 : n ≤ 9223372036854775807) : IntKind.i64.wrap n = n := by
  show (if (true && decide (n % 18446744073709551616 ≥ 9223372036854775808)) = true then n % 18446744073709551616 - 18446744073709551616 else n % 18446744073709551616) = n
  by_cases hc : n % 18446744073709551616 ≥ 9223372036854775808
  · rw [decide_eq_true hc]; simp only [Bool.and_self, if_true]; omega
  · rw [decide_eq_false hc]; simp only [Bool.and_false, Bool.false_eq_true, if_false]; omega
theorem wrapu8_id {n : Int} (h1 : 0 ≤ n) (h2 : n < 256) : IntKind.u8.wrap n = n := by
  unfold IntKind.wrap
  simp only [IntKind.bits, IntKind.signed]
  simp; omega
theorem wrapu16_id {n : Int} (h1 : 0 ≤ n) (h2 : n < 65536) : IntKind.u16.wrap n = n := by
  unfold IntKind.wrap
  simp only [IntKind.bits, IntKind.signed]
  simp; omega
theorem wrapu32_id {n : Int} (h1 : 0 ≤ n) (h2 : n < 4294967296) : IntKind.u32.wrap n = n := by
  unfold IntKind.wrap
  simp only [IntKind.bits, IntKind.signed]
  simp; omega
theorem wrapu64_id {n : Int} (h1 : 0 ≤ n) (h2 : n < 18446744073709551616) : IntKind.u64.wrap n = n := by
  unfold IntKind.wrap
  simp only [IntKind.bits, IntKind.signed]
  simp; omega

/-! Elements of arrays that are values. -/
theorem aindex_arr {P : Program} {t e : TypeId} {n sz : Nat} {ag : Bool} (hu : P.underlying t = some (.array n e)) (ha : tagg P e = some ag) (hs : tsz P e = some sz) (cs : List AV) (k : IntKind) (i : Int) :
    aindex P t (.agg cs) (.int k i) = aixG ag sz n cs i := by
  simp [aindex, hu, ha, hs, aixG]
theorem aixG_eq (ag : Bool) (sz len : Nat) (cs : List AV) (i : Int) : aixG ag sz len cs i = if 0 ≤ i ∧ i.toNat < len then apart ag sz (i.toNat * sz) cs else none := by
  unfold aixG
  by_cases h1 : 0 ≤ i <;> by_cases h2 : i.toNat < len
  · rw [if_pos ⟨h1, by omega⟩, if_pos ⟨h1, h2⟩]
  · rw [if_neg (by omega), if_neg (by omega)]
  · rw [if_neg (by omega), if_neg (by omega)]
  · rw [if_neg (by omega), if_neg (by omega)]
/-! Comparisons with nil. -/
theorem aeqOk_iface (P : Program) (t : TypeId) (x y : Operand) (a : TypeId) (v : AV) : aeqOk P t x y (.iface a v) .niliface = true := rfl
theorem aeqOk_niliface (P : Program) (t : TypeId) (x : Operand) (c : Value) : aeqOk P t x (.const c) .niliface .niliface = true := by
  cases x <;> rfl
theorem aeqOk_ptr (P : Program) (t : TypeId) (x y : Operand) (b o : Nat) : aeqOk P t x y (.ptr b o) .nilptr = true := rfl
theorem aeqOk_nilptr (P : Program) (t : TypeId) (x y : Operand) : aeqOk P t x y .nilptr .nilptr = true := rfl
theorem aeqOk_sl (P : Program) (t : TypeId) (x y : Operand) (b o n s : Nat) : aeqOk P t x y (.sl b o n s) .nilsl = true := rfl
theorem aeqOk_nilsl (P : Program) (t : TypeId) (x y : Operand) : aeqOk P t x y .nilsl .nilsl = true := rfl
section
variable {P : Program} {t : TypeId}
theorem abin_ne_iface {ms : Array (String × TypeId)} (hu : P.underlying t = some (.interface ms)) (a : TypeId) (v : AV) : abin P .neq t true (.iface a v) .niliface = some (.bool true) := by
  simp [abin, aeqIn, Op.maxDepth, hu]
theorem abin_ne_niliface {ms : Array (String × TypeId)} (hu : P.underlying t = some (.interface ms)) : abin P .neq t true .niliface .niliface = some (.bool false) := by
  simp [abin, aeqIn, Op.maxDepth, hu]
theorem abin_eq_iface {ms : Array (String × TypeId)} (hu : P.underlying t = some (.interface ms)) (a : TypeId) (v : AV) : abin P .eql t true (.iface a v) .niliface = some (.bool false) := by
  simp [abin, aeqIn, Op.maxDepth, hu]
theorem abin_eq_niliface {ms : Array (String × TypeId)} (hu : P.underlying t = some (.interface ms)) : abin P .eql t true .niliface .niliface = some (.bool true) := by
  simp [abin, aeqIn, Op.maxDepth, hu]
theorem abin_eq_ptr {e : TypeId} (hu : P.underlying t = some (.pointer e)) (b o : Nat) : abin P .eql t true (.ptr b o) .nilptr = some (.bool false) := by
  simp [abin, aeqIn, Op.maxDepth, hu]
theorem abin_eq_nilptr {e : TypeId} (hu : P.underlying t = some (.pointer e)) : abin P .eql t true .nilptr .nilptr = some (.bool true) := by
  simp [abin, aeqIn, Op.maxDepth, hu]
theorem abin_ne_ptr {e : TypeId} (hu : P.underlying t = some (.pointer e)) (b o : Nat) : abin P .neq t true (.ptr b o) .nilptr = some (.bool true) := by
  simp [abin, aeqIn, Op.maxDepth, hu]
theorem abin_ne_nilptr {e : TypeId} (hu : P.underlying t = some (.pointer e)) : abin P .neq t true .nilptr .nilptr = some (.bool false) := by
  simp [abin, aeqIn, Op.maxDepth, hu]
end
end Go.Ab
end
section
/-
  Slices of one's own: appends.
-/
namespace Go.Ab

/-- A slice of one's own: its block stands at n or behind, may be written, and holds its elements first. -/
def Ow {α : Type} (n : Nat) (h : AHeap) (sz : Nat) (enc : α → List AV) (l : List α) (x : AV) : Prop :=
  (x = .nilsl ∧ l = []) ∨ ∃ b rest, x = .sl b 0 l.length sz ∧ n ≤ b ∧ hget h b = some (.cells false (l.flatMap enc ++ rest))
section
variable {α : Type} {n sz by' : Nat} {h pre t : AHeap} {enc : α → List AV} {l l2 : List α} {x : AV}
theorem Ow.sl (o : Ow n h sz enc l x) : Sl h sz enc l x := by
  rcases o with o | ⟨b, rest, e, _, a⟩
  · exact .inl o
  · exact .inr ⟨b, 0, e, false, _, a, by rw [Nat.zero_add, List.length_append]; omega, by rw [List.drop_zero, List.take_left]⟩
theorem Ow.app (g : AHeap) (o : Ow n h sz enc l x) : Ow n (h ++ g) sz enc l x := by
  rcases o with o | ⟨b, rest, e, hn, a⟩
  · exact .inl o
  · exact .inr ⟨b, rest, e, hn, hget_app a⟩
theorem Ow.le {m : Nat} (o : Ow n h sz enc l x) (hm : m ≤ n) : Ow m h sz enc l x := by
  rcases o with o | ⟨b, rest, e, hn, a⟩
  · exact .inl o
  · exact .inr ⟨b, rest, e, by omega, a⟩
theorem Ow.nil : Ow n h sz enc ([] : List α) .nilsl := .inl ⟨rfl, rfl⟩
theorem Ow.empty {vs : List AV} : Ow pre.length (pre ++ some (.cells false vs) :: t) sz enc ([] : List α) (.sl pre.length 0 0 sz) :=
  .inr ⟨pre.length, vs, rfl, Nat.le_refl _, by rw [hget_at0]; rfl⟩
theorem Ow.new {vs : List AV} (e : vs = l.flatMap enc) : Ow pre.length (pre ++ some (.cells false vs) :: t) sz enc l (.sl pre.length 0 l.length sz) :=
  .inr ⟨pre.length, [], rfl, Nat.le_refl _, by rw [hget_at0, e, List.append_nil]; rfl⟩
/-- The first of one's own. -/
theorem Ow.take (o : Ow n h sz enc l x) (k : IntKind) (i : Nat) (hi : i ≤ l.length) : ∃ y, aslS sz x none (some (.int k (i : Int))) = some y ∧ Ow n h sz enc (l.take i) y := by
  rcases o with ⟨rfl, rfl⟩ | ⟨b, rest, rfl, hn, a⟩
  · simp only [List.length_nil, Nat.le_zero_eq] at hi
    subst hi
    exact ⟨.nilsl, by simp [aslS, abound], .inl ⟨rfl, rfl⟩⟩
  · refine ⟨.sl b 0 i sz, by simp [aslS, abound, hi], .inr ⟨b, (l.drop i).flatMap enc ++ rest, by simp [Nat.min_eq_left hi], hn, ?_⟩⟩
    rw [a, ← List.append_assoc, ← List.flatMap_append, List.take_append_drop]
theorem all_cells (hc : ∀ a, (enc a).all isCell = true) : ∀ l : List α, (l.flatMap enc).all isCell = true
  | [] => rfl
  | a :: l => by rw [List.flatMap_cons, List.all_append, hc, all_cells hc l]; rfl
/-- append to a slice of one's own. -/
theorem aapp_ow (he : ∀ a, (enc a).length = sz) (hc : ∀ a, (enc a).all isCell = true) (o : Ow pre.length (pre ++ t) sz enc l x) (hb : (l.length + l2.length) * by' ≤ 140737488355328) :
    ∃ y t', aapp sz by' x l2.length (l2.flatMap enc) (pre ++ t) = some (y, pre ++ t') ∧ Ow pre.length (pre ++ t') sz enc (l ++ l2) y := by
  by_cases h0 : l2.length = 0
  · have h2 : l2 = [] := List.eq_nil_of_length_eq_zero h0
    subst h2
    refine ⟨x, t, ?_, by simpa using o⟩
    rcases o with ⟨rfl, _⟩ | ⟨b, rest, rfl, _, _⟩ <;> simp [aapp]
  · rcases o with ⟨rfl, rfl⟩ | ⟨b, rest, rfl, hn, hg⟩
    · refine ⟨.sl (pre ++ t).length 0 l2.length sz, t ++ [some (.cells false (l2.flatMap enc))], ?_, .inr ⟨(pre ++ t).length, [], by simp, by simp, ?_⟩⟩
      · simp only [List.length_nil, Nat.zero_add] at hb
        simp only [aapp, if_neg h0]
        rw [if_pos ⟨hb, all_cells hc l2⟩]
        simp [hnew]
      · rw [← List.append_assoc, hget_at0]; simp
    · have hset : (pre ++ t).set b none = pre ++ t.set (b - pre.length) none := by rw [List.set_append_right _ _ hn]
      refine ⟨.sl (pre ++ t).length 0 (l.length + l2.length) sz, t.set (b - pre.length) none ++ [some (.cells false (l.flatMap enc ++ l2.flatMap enc))], ?_, .inr ⟨(pre ++ t).length, [], by simp, by simp, ?_⟩⟩
      · simp only [aapp, if_neg h0, if_true, hg]
        rw [if_pos ⟨by rw [List.length_append, flatMap_len he]; omega, hb, all_cells hc l2⟩]
        rw [hset, List.drop_zero, ← flatMap_len he, List.take_left]
        simp [hnew]
      · have : (pre ++ t).length = (pre ++ t.set (b - pre.length) none).length := by simp
        rw [← List.append_assoc, this, hget_at0]
        simp
end
/-- A slice of one's own whose block lies in a stretch t of the heap that begins at o. -/
def Own {α : Type} (o : Nat) (t : AHeap) (sz : Nat) (enc : α → List AV) (l : List α) (x : AV) : Prop :=
  (x = .nilsl ∧ l = []) ∨ ∃ b rest, x = .sl b 0 l.length sz ∧ o ≤ b ∧ hget t (b - o) = some (.cells false (l.flatMap enc ++ rest))
theorem hget_mid {p t w : AHeap} {b : Nat} {x : ABlk} (hb : p.length ≤ b) (e : hget t (b - p.length) = some x) : hget (p ++ (t ++ w)) b = some x := by
  have := hget_lt e
  unfold hget at e ⊢
  rw [List.getElem?_append_right hb, List.getElem?_append_left this]
  exact e
section
variable {α : Type} {o sz by' : Nat} {p t u w : AHeap} {enc : α → List AV} {l l2 : List α} {x : AV}
theorem Own.ow (h : Own o t sz enc l x) (p w : AHeap) (hp : p.length = o) : Ow o (p ++ (t ++ w)) sz enc l x := by
  rcases h with h | ⟨b, rest, e, hb, a⟩
  · exact .inl h
  · subst hp
    exact .inr ⟨b, rest, e, hb, hget_mid hb a⟩
theorem Own.sl (h : Own o t sz enc l x) (p w : AHeap) (hp : p.length = o) : Sl (p ++ (t ++ w)) sz enc l x := (h.ow p w hp).sl
theorem Own.isc (h : Own o t sz enc l x) : isCell x = true := by
  rcases h with ⟨rfl, _⟩ | ⟨b, rest, rfl, _⟩ <;> rfl
theorem Own.len (h : Own o t sz enc l x) : alenS x = some l.length := by
  rcases h with ⟨rfl, rfl⟩ | ⟨b, rest, rfl, _⟩ <;> rfl
theorem Own.of (h : Ow p.length (p ++ t) sz enc l x) : Own p.length t sz enc l x := by
  rcases h with h | ⟨b, rest, e, hb, a⟩
  · exact .inl h
  · refine .inr ⟨b, rest, e, hb, ?_⟩
    unfold hget at a ⊢
    rwa [List.getElem?_append_right hb] at a
theorem Own.take (h : Own o t sz enc l x) (k : IntKind) (i : Nat) (hi : i ≤ l.length) : ∃ y, aslS sz x none (some (.int k (i : Int))) = some y ∧ Own o t sz enc (l.take i) y := by
  rcases h with ⟨rfl, rfl⟩ | ⟨b, rest, rfl, hn, a⟩
  · simp only [List.length_nil, Nat.le_zero_eq] at hi
    subst hi
    exact ⟨.nilsl, by simp [aslS, abound], .inl ⟨rfl, rfl⟩⟩
  · refine ⟨.sl b 0 i sz, by simp [aslS, abound, hi], .inr ⟨b, (l.drop i).flatMap enc ++ rest, by simp [Nat.min_eq_left hi], hn, ?_⟩⟩
    rw [a, ← List.append_assoc, ← List.flatMap_append, List.take_append_drop]
/-- append to a slice of one's own, and what was made behind it stays. -/
theorem aapp_own (he : ∀ a, (enc a).length = sz) (hc : ∀ a, (enc a).all isCell = true) (h : Own o t sz enc l x) (hp : p.length = o) (hb : (l.length + l2.length) * by' ≤ 140737488355328) :
    ∃ y t' w, aapp sz by' x l2.length (l2.flatMap enc) (p ++ (t ++ u)) = some (y, p ++ (t' ++ (u ++ w))) ∧ t'.length = t.length ∧ ((w = [] ∧ Own o t' sz enc (l ++ l2) y) ∨ Own (o + t.length + u.length) w sz enc (l ++ l2) y) := by
  subst hp
  by_cases h0 : l2.length = 0
  · have h2 : l2 = [] := List.eq_nil_of_length_eq_zero h0
    subst h2
    refine ⟨x, t, [], ?_, rfl, .inl ⟨rfl, by simpa using h⟩⟩
    rcases h with ⟨rfl, _⟩ | ⟨b, rest, rfl, _, _⟩ <;> simp [aapp]
  · rcases h with ⟨rfl, rfl⟩ | ⟨b, rest, rfl, hn, hg⟩
    · refine ⟨.sl (p ++ (t ++ u)).length 0 l2.length sz, t, [some (.cells false (l2.flatMap enc))], ?_, rfl, .inr (.inr ⟨(p ++ (t ++ u)).length, [], by simp, by simp; omega, ?_⟩)⟩
      · simp only [List.length_nil, Nat.zero_add] at hb
        simp only [aapp, if_neg h0]
        rw [if_pos ⟨hb, all_cells hc l2⟩]
        simp [hnew]
      · have : (p ++ (t ++ u)).length - (p.length + t.length + u.length) = 0 := by simp only [List.length_append]; omega
        rw [this]; simp [hget]
    · have hlt := hget_lt hg
      have hg2 := hget_mid (p := p) (t := t) (w := u) hn hg
      have hset : (p ++ (t ++ u)).set b none = p ++ (t.set (b - p.length) none ++ u) := by
        rw [List.set_append_right _ _ hn, List.set_append_left _ _ (by omega)]
      refine ⟨.sl (p ++ (t ++ u)).length 0 (l.length + l2.length) sz, t.set (b - p.length) none, [some (.cells false (l.flatMap enc ++ l2.flatMap enc))], ?_, by simp, .inr (.inr ⟨(p ++ (t ++ u)).length, [], by simp, by simp; omega, ?_⟩)⟩
      · simp only [aapp, if_neg h0, if_true, hg2]
        rw [if_pos ⟨by rw [List.length_append, flatMap_len he]; omega, hb, all_cells hc l2⟩]
        rw [hset, List.drop_zero, ← flatMap_len he, List.take_left]
        simp [hnew]
      · have : (p ++ (t ++ u)).length - (p.length + t.length + u.length) = 0 := by simp only [List.length_append]; omega
        rw [this]; simp [hget]
end
theorem hget_tail {pre pre' t g : AHeap} {b : Nat} {x : ABlk} (hl : pre.length = pre'.length) (hb : pre.length ≤ b) (e : hget (pre ++ t) b = some x) : hget (pre' ++ (t ++ g)) b = some x := by
  have := hget_lt e
  rw [List.length_append] at this
  unfold hget at e ⊢
  rw [List.getElem?_append_right (by omega)] at e ⊢
  rw [← hl, List.getElem?_append_left (by omega)]
  exact e
/-- What stands ahead may change. -/
theorem Ow.pre {α : Type} {n sz : Nat} {enc : α → List AV} {l : List α} {x : AV} {pre pre' t : AHeap} (g : AHeap) (o : Ow n (pre ++ t) sz enc l x) (hn : pre.length ≤ n) (hl : pre.length = pre'.length) : Ow n (pre' ++ (t ++ g)) sz enc l x := by
  rcases o with o | ⟨b, rest, e, hb, a⟩
  · exact .inl o
  · exact .inr ⟨b, rest, e, hb, hget_tail hl (by omega) a⟩
theorem Sl.srcE {α : Type} {h : AHeap} {sz : Nat} {enc : α → List AV} {l : List α} {x : AV} (s : Sl h sz enc l x) (he : ∀ a, (enc a).length = sz) : asrc sz x h = some (l.flatMap enc) := s.src he
end Go.Ab
end
section
/-
  Arguments by their types.
-/
namespace Go.Ab
section
variable {P : Program} {h : AHeap} {f : Nat} {t : TypeId} {as : List AV}
def sTypes (P : Program) (t : TypeId) : Option (List TypeId) := match P.underlying t with | some (.struct fs) => some (fs.toList.map (·.type)) | _ => none
def aType (P : Program) (t : TypeId) : Option (Nat × TypeId) := match P.underlying t with | some (.array n e) => some (n, e) | _ => none
theorem Arg.struct {ts : List TypeId} (e : sTypes P t = some ts) (q : Arg P h (f + 1) t as) : catQ (Arg P h f) ts as := by
  unfold sTypes at e
  unfold Arg at q
  split at e
  · rename_i fs hu
    rw [hu] at q
    cases e
    exact q
  · cases e
theorem Arg.array {n : Nat} {u : TypeId} (e : aType P t = some (n, u)) (q : Arg P h (f + 1) t as) : catQ (Arg P h f) (List.replicate n u) as := by
  unfold aType at e
  unfold Arg at q
  split at e
  · rename_i fs hu
    rw [hu] at q
    cases e
    exact q
  · cases e
theorem Arg.int {k : IntKind} (e : P.underlying t = some (.int k)) (q : Arg P h (f + 1) t as) : ∃ n, as = [.int k n] ∧ (Lit.int k n).wf = true := by
  unfold Arg at q
  rw [e] at q
  exact q
theorem Arg.bool (e : P.underlying t = some .bool) (q : Arg P h (f + 1) t as) : ∃ b, as = [.bool b] := by
  unfold Arg at q
  rw [e] at q
  exact q
theorem Arg.slice {u : TypeId} (e : telem P t = some u) (q : Arg P h (f + 1) t as) : as = [.nilsl] ∨ ∃ b n cs, as = [.sl b 0 n (P.cellsOf u)] ∧ n ≤ maxLen ∧ n * P.bytesOf u ≤ reachBytes ∧ hget h b = some (.cells true cs) ∧ catQ (Arg P h f) (List.replicate n u) cs := by
  unfold telem at e
  unfold Arg at q
  cases hu : P.underlying t with
  | none => rw [hu] at e; cases e
  | some d =>
    rw [hu] at e q
    cases d <;> simp at e
    subst e
    exact q
theorem catQ_cons {Q : TypeId → List AV → Prop} {ts : List TypeId} (q : catQ Q (t :: ts) as) : ∃ a b, as = a ++ b ∧ Q t a ∧ catQ Q ts b := q
theorem catQ_nil {Q : TypeId → List AV → Prop} (q : catQ Q [] as) : as = [] := q
theorem catQ_list {α : Type} {Q : TypeId → List AV → Prop} {enc : α → List AV} {R : α → Prop} (hq : ∀ as, Q t as → ∃ a, as = enc a ∧ R a) : ∀ (n : Nat) (cs : List AV), catQ Q (List.replicate n t) cs → ∃ l : List α, l.length = n ∧ cs = l.flatMap enc ∧ ∀ a ∈ l, R a
  | 0, cs, q => ⟨[], rfl, q, by simp⟩
  | n + 1, cs, ⟨a, b, e, qa, qb⟩ => by
    obtain ⟨x, rfl, rx⟩ := hq a qa
    obtain ⟨l, hl, rfl, rl⟩ := catQ_list hq n b qb
    exact ⟨x :: l, by simp [hl], by simp [e], by simpa using ⟨rx, rl⟩⟩
/-- A slice of elements. -/
theorem Arg.list {α : Type} {u : TypeId} {enc : α → List AV} {R : α → Prop} {sz : Nat} (e : telem P t = some u) (hs : P.cellsOf u = sz) (hq : ∀ as, Arg P h f u as → ∃ a, as = enc a ∧ R a) (q : Arg P h (f + 1) t as) : ∃ (x : AV) (l : List α), as = [x] ∧ Sl h sz enc l x ∧ (∀ a ∈ l, R a) ∧ l.length ≤ maxLen := by
  rcases q.slice e with rfl | ⟨b, n, cs, rfl, hn, hnb, hg, hc⟩
  · exact ⟨.nilsl, [], rfl, .inl ⟨rfl, rfl⟩, by simp, by simp⟩
  · obtain ⟨l, hl, rfl, hr⟩ := catQ_list hq n cs hc
    exact ⟨_, l, rfl, .inr ⟨b, 0, by rw [hl, hs], true, _, hg, by rw [Nat.zero_add]; exact Nat.le_refl _, by rw [List.drop_zero, List.take_length]⟩, hr, by omega⟩
theorem Arg.listB {α : Type} {u : TypeId} {enc : α → List AV} {R : α → Prop} {sz : Nat} (e : telem P t = some u) (hs : P.cellsOf u = sz) (hq : ∀ as, Arg P h f u as → ∃ a, as = enc a ∧ R a) (q : Arg P h (f + 1) t as) : ∃ (x : AV) (l : List α), as = [x] ∧ Sl h sz enc l x ∧ (∀ a ∈ l, R a) ∧ l.length ≤ maxLen ∧ l.length * P.bytesOf u ≤ reachBytes := by
  rcases q.slice e with rfl | ⟨b, n, cs, rfl, hn, hnb, hg, hc⟩
  · exact ⟨.nilsl, [], rfl, .inl ⟨rfl, rfl⟩, by simp, by simp, by simp⟩
  · obtain ⟨l, hl, rfl, hr⟩ := catQ_list hq n cs hc
    exact ⟨_, l, rfl, .inr ⟨b, 0, by rw [hl, hs], true, _, hg, by rw [Nat.zero_add]; exact Nat.le_refl _, by rw [List.drop_zero, List.take_length]⟩, hr, by omega, by rw [hl]; exact hnb⟩
theorem wf64 {n : Int} (h : (Lit.int .i64 n).wf = true) : -9223372036854775808 ≤ n ∧ n ≤ 9223372036854775807 := by
  simp [Lit.wf, IntKind.min, IntKind.max, IntKind.signed, IntKind.bits] at h
  omega
theorem wfu8 {n : Int} (h : (Lit.int .u8 n).wf = true) : 0 ≤ n ∧ n ≤ 255 := by
  simp [Lit.wf, IntKind.min, IntKind.max, IntKind.signed, IntKind.bits] at h
  omega
theorem wfu16 {n : Int} (h : (Lit.int .u16 n).wf = true) : 0 ≤ n ∧ n ≤ 65535 := by
  simp [Lit.wf, IntKind.min, IntKind.max, IntKind.signed, IntKind.bits] at h
  omega
theorem wfu32 {n : Int} (h : (Lit.int .u32 n).wf = true) : 0 ≤ n ∧ n ≤ 4294967295 := by
  simp [Lit.wf, IntKind.min, IntKind.max, IntKind.signed, IntKind.bits] at h
  omega
end
end Go.Ab
end
section
/-
  What changes of a heap, by the blocks that something owns.
-/
namespace Go.Ab
/-- Only blocks of F change; what is owned then was owned before, or is new. -/
structure Fr (F : List Nat) (h : AHeap) (F' : List Nat) (h' : AHeap) : Prop where
  len : h.length ≤ h'.length
  old : ∀ x, x < h.length → x ∉ F → hget h' x = hget h x
  own : ∀ x ∈ F', x ∈ F ∨ h.length ≤ x
theorem Fr.refl (F : List Nat) (h : AHeap) : Fr F h F h := ⟨Nat.le_refl _, fun _ _ _ => rfl, fun _ hx => .inl hx⟩
theorem Fr.trans {F F1 F2 : List Nat} {h h1 h2 : AHeap} (a : Fr F h F1 h1) (b : Fr F1 h1 F2 h2) : Fr F h F2 h2 := by
  refine ⟨Nat.le_trans a.len b.len, fun x hx hn => ?_, fun x hx => ?_⟩
  · rw [b.old x (Nat.lt_of_lt_of_le hx a.len) (fun h1 => (a.own x h1).elim hn (fun h2 => by omega)), a.old x hx hn]
  · rcases b.own x hx with h1 | h1
    · exact a.own x h1
    · exact .inr (Nat.le_trans a.len h1)
theorem Fr.hset {F : List Nat} {h : AHeap} {b : Nat} (hb : b ∈ F) (cs : List AV) : Fr F h F (hset h b cs) :=
  ⟨by rw [len_hset]; exact Nat.le_refl _, fun x _ hn => hs_ne (fun e : b = x => hn (by rw [← e]; exact hb)) cs, fun _ hx => .inl hx⟩
theorem Fr.app {F : List Nat} {h : AHeap} (g : AHeap) : Fr F h F (h ++ g) :=
  ⟨by simp, fun x hx _ => hget_old g hx, fun _ hx => .inl hx⟩
/-- What was there is there still: something is behind it. -/
theorem ext_of {h h' : AHeap} (hl : h.length ≤ h'.length) (ho : ∀ x, x < h.length → hget h' x = hget h x) : ∃ g, h' = h ++ g := by
  refine ⟨h'.drop h.length, ?_⟩
  apply List.ext_getElem?
  intro i
  by_cases hi : i < h.length
  · have := ho i hi
    unfold hget at this
    rw [List.getElem?_append_left hi]
    rw [List.getElem?_eq_getElem hi, List.getElem?_eq_getElem (by omega)] at this ⊢
    exact congrArg some this
  · rw [List.getElem?_append_right (by omega), List.getElem?_drop]
    congr 1; omega
theorem Fr.ext {F F' : List Nat} {h h' : AHeap} (f : Fr F h F' h') {p g : AHeap} (e : h = p ++ g) (hF : ∀ x ∈ F, p.length ≤ x) : ∃ g', h' = p ++ g' := by
  subst e
  refine ext_of (by have := f.len; simp at this; omega) fun x hx => ?_
  rw [f.old x (by simp; omega) (fun hm => by have := hF x hm; omega), hget_old _ hx]
/-- A fact on a block that is not owned stays. -/
theorem Fr.keep {F F' : List Nat} {h h' : AHeap} (f : Fr F h F' h') {b : Nat} {x : ABlk} (e : hget h b = some x) (hn : b ∉ F) : hget h' b = some x := by
  rw [f.old b (hget_lt e) hn, e]
/-- Two that are apart stay apart. -/
theorem Fr.apart {F F' G : List Nat} {h h' : AHeap} (f : Fr F h F' h') (hg : ∀ x ∈ G, x < h.length) (ha : ∀ x ∈ F, x ∉ G) : ∀ x ∈ F', x ∉ G := by
  intro x hx hxg
  rcases f.own x hx with h1 | h1
  · exact ha x h1 hxg
  · have := hg x hxg; omega

/-- A slice and its block. -/
def SlB {α : Type} (h : AHeap) (sz : Nat) (enc : α → List AV) (l : List α) (x : AV) (F : List Nat) : Prop :=
  (x = .nilsl ∧ l = [] ∧ F = []) ∨ ∃ b o, x = .sl b o l.length sz ∧ F = [b] ∧ At h b o (l.flatMap enc)
theorem SlB.sl {α : Type} {h : AHeap} {sz : Nat} {enc : α → List AV} {l : List α} {x : AV} {F : List Nat} (s : SlB h sz enc l x F) : Sl h sz enc l x := by
  rcases s with ⟨e, e2, _⟩ | ⟨b, o, e, _, a⟩
  · exact .inl ⟨e, e2⟩
  · exact .inr ⟨b, o, e, a⟩
theorem SlB.keep {α : Type} {h h' : AHeap} {sz : Nat} {enc : α → List AV} {l : List α} {x : AV} {F : List Nat} (s : SlB h sz enc l x F) (hk : ∀ b ∈ F, hget h' b = hget h b) : SlB h' sz enc l x F := by
  rcases s with s | ⟨b, o, e, rfl, ro, cs, h1, h2, h3⟩
  · exact .inl s
  · exact .inr ⟨b, o, e, rfl, ro, cs, by rw [hk b (by simp), h1], h2, h3⟩
theorem SlB.lt {α : Type} {h : AHeap} {sz : Nat} {enc : α → List AV} {l : List α} {x : AV} {F : List Nat} (s : SlB h sz enc l x F) : ∀ b ∈ F, b < h.length := by
  rcases s with ⟨_, _, rfl⟩ | ⟨b, o, e, rfl, ro, cs, h1, _⟩
  · simp
  · simpa using hget_lt h1
theorem SlB.isc {α : Type} {h : AHeap} {sz : Nat} {enc : α → List AV} {l : List α} {x : AV} {F : List Nat} (s : SlB h sz enc l x F) : isCell x = true := by
  rcases s with ⟨rfl, _⟩ | ⟨b, o, rfl, _⟩ <;> rfl
/-- A slice of one's own that fills its block. -/
def OwB {α : Type} (h : AHeap) (sz : Nat) (enc : α → List AV) (l : List α) (x : AV) (F : List Nat) : Prop :=
  (x = .nilsl ∧ l = [] ∧ F = []) ∨ ∃ b, x = .sl b 0 l.length sz ∧ F = [b] ∧ hget h b = some (.cells false (l.flatMap enc))
section
variable {α : Type} {h h' : AHeap} {sz by' : Nat} {enc : α → List AV} {l : List α} {x : AV} {F : List Nat}
theorem OwB.slb (s : OwB h sz enc l x F) : SlB h sz enc l x F := by
  rcases s with s | ⟨b, e, rfl, a⟩
  · exact .inl s
  · exact .inr ⟨b, 0, e, rfl, false, _, a, by rw [Nat.zero_add]; exact Nat.le_refl _, by rw [List.drop_zero, List.take_length]⟩
theorem OwB.keep (s : OwB h sz enc l x F) (hk : ∀ b ∈ F, hget h' b = hget h b) : OwB h' sz enc l x F := by
  rcases s with s | ⟨b, e, rfl, a⟩
  · exact .inl s
  · exact .inr ⟨b, e, rfl, by rw [hk b (by simp), a]⟩
/-- One element more. -/
theorem OwB.push (s : OwB h sz enc l x F) (he : ∀ a, (enc a).length = sz) (hc : ∀ a, (enc a).all isCell = true) (a : α) (hb : (l.length + 1) * by' ≤ 140737488355328) :
    ∃ y h', aapp sz by' x 1 (enc a) h = some (y, h') ∧ OwB h' sz enc (l ++ [a]) y [h.length] ∧ Fr F h [h.length] h' ∧ h'.length = h.length + 1 := by
  rcases s with ⟨rfl, rfl, rfl⟩ | ⟨b, rfl, rfl, hg⟩
  · refine ⟨.sl h.length 0 1 sz, hnew h (enc a), ?_, .inr ⟨h.length, rfl, rfl, ?_⟩, ⟨by simp [hnew], fun x hx _ => hget_old _ hx, fun x hx => .inr (by simp at hx; omega)⟩, by simp [hnew]⟩
    · simp only [List.length_nil, Nat.zero_add] at hb
      simp only [aapp]
      rw [if_neg (by omega), if_pos ⟨hb, hc a⟩]
    · unfold hnew; rw [hget_at0]; simp
  · have hlt := hget_lt hg
    refine ⟨.sl h.length 0 (l.length + 1) sz, hnew (h.set b none) (l.flatMap enc ++ enc a), ?_, .inr ⟨h.length, by simp, rfl, ?_⟩, ⟨by simp [hnew], fun x hx hn => ?_, fun x hx => .inr (by simp at hx; omega)⟩, by simp [hnew]⟩
    · simp only [aapp, if_true, hg]
      rw [if_neg (by omega), if_pos ⟨by rw [flatMap_len he]; omega, hb, hc a⟩]
      rw [List.drop_zero, List.take_of_length_le (by rw [flatMap_len he]; exact Nat.le_refl _)]
      try simp
    · have : h.length = (h.set b none).length := by simp
      unfold hnew; rw [this, hget_at0]; simp
    · unfold hnew
      rw [hget_old _ (by simpa using hx)]
      unfold hget
      rw [List.getElem?_set_ne (by simp at hn; omega)]
end
end Go.Ab
end
section
/-
  Partitions, ports, routes as cells.
-/
namespace Go.Ab
/-- A partition. -/
structure Part where
  node : Int
  start : Int
  length : Int
  budget : Int
  words : Int
  r0 : Int
  r1 : Int
  r2 : Int
  r3 : Int
  deriving DecidableEq
def Part.cells (p : Part) : List AV := [.int .i64 p.node, .int .i64 p.start, .int .i64 p.length, .int .i64 p.budget, .int .i64 p.words, .int .u8 p.r0, .int .u8 p.r1, .int .u8 p.r2, .int .u8 p.r3]
/-- A port. -/
structure Port where
  part : Int
  kind : Int
  out : Bool
  size : Int
  depth : Int
  fresh : Int
  deriving DecidableEq
def Port.cells (p : Port) : List AV := [.int .i64 p.part, .int .u8 p.kind, .bool p.out, .int .i64 p.size, .int .i64 p.depth, .int .i64 p.fresh]
/-- A route. -/
structure Route where
  src : Int
  dst : Int
  deriving DecidableEq
def Route.cells (r : Route) : List AV := [.int .i64 r.src, .int .i64 r.dst]
theorem Part.len (p : Part) : p.cells.length = 9 := rfl
theorem Port.len (p : Port) : p.cells.length = 6 := rfl
theorem Route.len (r : Route) : r.cells.length = 2 := rfl
theorem Part.isc (p : Part) : p.cells.all isCell = true := rfl
theorem Port.isc (p : Port) : p.cells.all isCell = true := rfl
theorem Route.isc (p : Route) : p.cells.all isCell = true := rfl
theorem wsucc {k : Nat} (h : k ≤ 100000) : IntKind.i64.wrap ((k : Int) + 1) = ((k + 1 : Nat) : Int) := by
  rw [wrap64_id (by omega) (by omega)]; rfl
/-- What is done of a kind of error. -/
def Part.rc (p : Part) (k : Nat) : Int := ([p.r0, p.r1, p.r2, p.r3] : List Int).getD k 0
theorem Part.rc_get (p : Part) (k : Nat) (hk : k < 4) : p.cells[5 + k]? = some (.int .u8 (p.rc k)) := by
  match k, hk with
  | 0, _ => rfl
  | 1, _ => rfl
  | 2, _ => rfl
  | 3, _ => rfl
/-- A record. -/
structure Rcd where
  round : Int
  node : Int
  part : Int
  kind : Int
  did : Int
  deriving DecidableEq
def Rcd.cells (r : Rcd) : List AV := [.int .u32 r.round, .int .u8 r.node, .int .u8 r.part, .int .u8 r.kind, .int .u8 r.did]
theorem Rcd.len (r : Rcd) : r.cells.length = 5 := rfl
theorem Rcd.isc (r : Rcd) : r.cells.all isCell = true := rfl
def ints (k : IntKind) (l : List Int) : List AV := l.map (.int k)
theorem ints_len (k : IntKind) (l : List Int) : (ints k l).length = l.length := by simp [ints]
theorem ints_get (k : IntKind) (l : List Int) (i : Nat) (hi : i < l.length) : (ints k l)[i]? = some (.int k l[i]) := by simp [ints, hi]
theorem ints_set (k : IntKind) (l : List Int) (i : Nat) (n : Int) : (ints k l).set i (.int k n) = ints k (l.set i n) := by simp [ints, List.map_set]
theorem aixS_at {b o n sz i : Nat} (hi : i < n) : aixS sz (.sl b o n sz) (i : Int) = some (.ptr b (o + i * sz)) := by
  simp [aixS, hi]
end Go.Ab
end
