/-
  The abstract evaluator: what it answers the machine comes to.
-/
import Derived.LoopN
import Derived.Orders
import Derived.OpenShut
import Derived.SizedLaws
import Derived.WalkKit
import Derived.ProofKit
import Derived.Test.YtgcpchdmgjiejaaGa1
set_option linter.all false
section
/-
  Regions in the order of their text, and code: what the evaluator says of it is what the machine does.
-/
namespace Go.Ab
open Go.RowKit

/-- Calls make the heap no shorter. -/
def CallLen (call : FuncId → List AV → AHeap → Res) : Prop := ∀ (f : FuncId) (xs : List AV) (h : AHeap) (r : AV × AHeap), call f xs h = some r → h.length ≤ r.2.length

set_option maxHeartbeats 1000000 in
theorem aop_out {P : Program} {call : FuncId → List AV → AHeap → Res} (hcall : CallLen call) {R : Type} {o : Oper} {e : Operand → AV} {h : AHeap} {K : AV → AHeap → Option R} {r : R}
    (hrun : aop P call o e h K = some r) : ∃ v h', K v h' = some r ∧ h.length ≤ h'.length := by
  obtain ⟨dst, op, ty, pos, after, guard⟩ := o
  have b1 : ∀ {α : Type} {x : Option α} {f : α → Option R}, x.bind f = some r → ∃ a, x = some a ∧ f a = some r := fun h => Option.bind_eq_some_iff.1 h
  cases op with
  | move x => exact ⟨_, _, hrun, Nat.le_refl _⟩
  | assign x => exact ⟨_, _, hrun, Nat.le_refl _⟩
  | pick c x y => obtain ⟨_, _, q⟩ := b1 hrun; exact ⟨_, _, q, Nat.le_refl _⟩
  | alloc t => obtain ⟨_, _, q⟩ := b1 hrun; exact ⟨_, _, q, by simp⟩
  | box t x => obtain ⟨_, _, q⟩ := b1 hrun; exact ⟨_, _, q, by simp⟩
  | build t ps => obtain ⟨_, _, q⟩ := b1 hrun; exact ⟨_, _, q, Nat.le_refl _⟩
  | buildSlice t n ps =>
    obtain ⟨_, _, q⟩ := b1 hrun
    obtain ⟨⟨v, h'⟩, h3, q⟩ := b1 q
    refine ⟨_, _, q, ?_⟩
    unfold abuildSlice at h3
    obtain ⟨_, _, h3⟩ := Option.bind_eq_some_iff.1 h3
    obtain ⟨_, _, h3⟩ := Option.bind_eq_some_iff.1 h3
    split at h3
    · obtain ⟨_, _, h3⟩ := Option.map_eq_some_iff.1 h3
      cases h3; simp
    · cases h3
  | load t x =>
    obtain ⟨_, _, q⟩ := b1 hrun
    obtain ⟨_, _, q⟩ := b1 q
    obtain ⟨_, _, q⟩ := b1 q
    exact ⟨_, _, q, Nat.le_refl _⟩
  | store t x y =>
    obtain ⟨_, _, q⟩ := b1 hrun
    obtain ⟨_, _, q⟩ := b1 q
    split at q
    · obtain ⟨h', h3, q⟩ := b1 q
      refine ⟨_, _, q, ?_⟩
      unfold astore at h3
      split at h3
      · split at h3
        · split at h3
          · split at h3
            · split at h3
              · cases h3; simp
              · cases h3
            · cases h3
          · split at h3
            · cases h3; simp
            · cases h3
        · cases h3
      · cases h3
    · cases q
  | nilCheck x => obtain ⟨_, _, q⟩ := b1 hrun; exact ⟨_, _, q, Nat.le_refl _⟩
  | binOp op t x y u => obtain ⟨_, _, q⟩ := b1 hrun; exact ⟨_, _, q, Nat.le_refl _⟩
  | unOp op t x => obtain ⟨_, _, q⟩ := b1 hrun; exact ⟨_, _, q, Nat.le_refl _⟩
  | convert s d x => obtain ⟨_, _, q⟩ := b1 hrun; exact ⟨_, _, q, Nat.le_refl _⟩
  | makeInterface t x =>
    simp only [aop] at hrun
    split at hrun
    · cases hrun
    · exact ⟨_, _, hrun, Nat.le_refl _⟩
    · cases hrun
  | makeFunc fn first caps =>
    cases fn with
    | func f => exact ⟨_, _, hrun, Nat.le_refl _⟩
    | _ => simp [aop] at hrun
  | makeSlice t l c =>
    obtain ⟨_, _, q⟩ := b1 hrun
    obtain ⟨⟨v, h'⟩, h3, q⟩ := b1 q
    refine ⟨_, _, q, ?_⟩
    unfold amake at h3
    obtain ⟨_, _, h3⟩ := Option.bind_eq_some_iff.1 h3
    obtain ⟨_, _, h3⟩ := Option.bind_eq_some_iff.1 h3
    obtain ⟨_, _, h3⟩ := Option.bind_eq_some_iff.1 h3
    split at h3
    · split at h3
      · cases h3; simp
      · cases h3
    · cases h3
  | slice t x lo hi mx =>
    cases mx with
    | some _ => simp [aop] at hrun
    | none => obtain ⟨_, _, q⟩ := b1 hrun; exact ⟨_, _, q, Nat.le_refl _⟩
  | fieldAddr t x f =>
    obtain ⟨_, _, q⟩ := b1 hrun
    obtain ⟨_, _, q⟩ := b1 q
    split at q
    · cases q
    · obtain ⟨_, _, q⟩ := b1 q
      exact ⟨_, _, q, Nat.le_refl _⟩
  | field t x f => obtain ⟨_, _, q⟩ := b1 hrun; exact ⟨_, _, q, Nat.le_refl _⟩
  | indexAddr t x i => obtain ⟨_, _, q⟩ := b1 hrun; exact ⟨_, _, q, Nat.le_refl _⟩
  | index t x i => obtain ⟨_, _, q⟩ := b1 hrun; exact ⟨_, _, q, Nat.le_refl _⟩
  | typeAssert x t u ok => obtain ⟨_, _, q⟩ := b1 hrun; exact ⟨_, _, q, Nat.le_refl _⟩
  | extract x i => obtain ⟨_, _, q⟩ := b1 hrun; exact ⟨_, _, q, Nat.le_refl _⟩
  | call c =>
    obtain ⟨callee, cargs, ctypes⟩ := c
    cases callee with
    | value f =>
      simp only [aop] at hrun
      split at hrun
      · split at hrun
        · obtain ⟨_, h1, q⟩ := b1 hrun
          exact ⟨_, _, q, hcall _ _ _ _ h1⟩
        · cases hrun
      · cases hrun
    | invoke f name =>
      simp only [aop] at hrun
      split at hrun
      · obtain ⟨_, _, q⟩ := b1 hrun
        split at q
        · obtain ⟨_, h1, q⟩ := b1 q
          exact ⟨_, _, q, hcall _ _ _ _ h1⟩
        · cases q
      · cases hrun
    | builtin b =>
      cases b with
      | len =>
        simp only [aop] at hrun
        split at hrun
        · obtain ⟨_, _, q⟩ := b1 hrun; exact ⟨_, _, q, Nat.le_refl _⟩
        · cases hrun
      | append =>
        simp only [aop] at hrun
        split at hrun
        · obtain ⟨_, _, q⟩ := b1 hrun
          obtain ⟨_, _, q⟩ := b1 q
          obtain ⟨_, _, q⟩ := b1 q
          obtain ⟨_, _, q⟩ := b1 q
          have main : ∀ {c : Prop} [Decidable c] {f : AV → AHeap → Option R} {x s : AV} {sz by' : Nat}, (if c then none else (alenOf x).bind fun m => (asrc sz x h).bind fun xs => (aapp sz by' s m xs h).bind fun r => f r.1 r.2) = some r →
              ∃ v h', f v h' = some r ∧ h.length ≤ h'.length := by
            intro c _ f x s sz by' q
            split at q
            · cases q
            · obtain ⟨_, _, q⟩ := b1 q
              obtain ⟨_, _, q⟩ := b1 q
              obtain ⟨⟨v, h'⟩, h7, q⟩ := b1 q
              refine ⟨_, _, q, ?_⟩
              rcases aapp_some h7 with ⟨_, _, rfl, _⟩ | ⟨_, _, _, _, _, rfl⟩ | ⟨_, _, _, _, _, _, _, _, _, _, _, rfl⟩
              · exact Nat.le_refl _
              · simp
              · simp
          split at q
          · exact main q
          · exact main q
          · cases q
        · cases hrun
      | copy =>
        simp only [aop] at hrun
        split at hrun
        · obtain ⟨_, _, q⟩ := b1 hrun
          obtain ⟨_, _, q⟩ := b1 q
          split at q
          · cases q
          · obtain ⟨⟨v, h'⟩, h3, q⟩ := b1 q
            refine ⟨_, _, q, ?_⟩
            unfold acopy at h3
            obtain ⟨_, _, h3⟩ := Option.bind_eq_some_iff.1 h3
            obtain ⟨_, _, h3⟩ := Option.bind_eq_some_iff.1 h3
            split at h3
            · cases h3; exact Nat.le_refl _
            · split at h3
              · split at h3
                · split at h3
                  · cases h3; simp
                  · cases h3
                · cases h3
              · cases h3
            · cases h3
        · cases hrun
      | min =>
        simp only [aop] at hrun
        split at hrun
        · obtain ⟨_, _, q⟩ := b1 hrun; exact ⟨_, _, q, Nat.le_refl _⟩
        · cases hrun
      | max =>
        simp only [aop] at hrun
        split at hrun
        · obtain ⟨_, _, q⟩ := b1 hrun; exact ⟨_, _, q, Nat.le_refl _⟩
        · cases hrun
      | _ => simp [aop] at hrun
  | _ => simp [aop] at hrun

/-- The frame. -/
def ERel (ρ : RMap) (n : Nat) (env : Env) (a : Act) : Prop := a.tmps.size = n ∧ ∀ t, t < n → VRel ρ (env t) (a.tmps.getD t undef)

theorem undef_rel (ρ : RMap) : VRel ρ (.tuple []) undef := by simp [VRel, VRels, undef]
theorem ev_rel {ρ : RMap} {n : Nat} {env : Env} {a : Act} (h : ERel ρ n env a) (x : Operand) : VRel ρ (ev n env x) (a.eval x) := by
  cases x with
  | tmp t =>
    simp only [ev, Act.eval]
    split
    · rename_i ht; exact h.2 t ht
    · rename_i ht
      have : a.tmps.getD t undef = undef := by
        simp [Array.getD, h.1, ht]
      rw [this]; exact undef_rel ρ
  | const v => exact ofConst_rel ρ v
  | global g => simp [ev, VRel]
  | func f => simp [ev, Act.eval, VRel, VRels]
theorem getD_set (ts : Array Value) (d t : Nat) (v : Value) (ht : t < ts.size) : (ts.setIfInBounds d v).getD t undef = if t = d then v else ts.getD t undef := by
  rw [Array.getD_eq_getD_getElem?, Array.getD_eq_getD_getElem?, Array.getElem?_setIfInBounds]
  by_cases h : d = t
  · subst h; simp [ht]
  · rw [if_neg h, if_neg (fun e => h e.symm)]
theorem put_rel {ρ : RMap} {n : Nat} {env : Env} {a : Act} {d : Option Tmp} {v : AV} {v' : Value} (h : ERel ρ n env a) (hv : VRel ρ v v') : ERel ρ n (aput n env d v) (a.put d v') := by
  cases d with
  | none => exact h
  | some d =>
    refine ⟨by simp [Act.put, h.1], fun t ht => ?_⟩
    simp only [aput, Act.put]
    rw [getD_set _ _ _ _ (by rw [h.1]; exact ht)]
    by_cases hd : d < n
    · rw [if_pos hd]
      show VRel ρ (if t = d then v else env t) _
      by_cases e : t = d
      · rw [if_pos e, if_pos e]; exact hv
      · rw [if_neg e, if_neg e]; exact h.2 t ht
    · rw [if_neg hd, if_neg (fun q : t = d => hd (q ▸ ht))]
      exact h.2 t ht
theorem put_same {ρ : RMap} {n : Nat} {env : Env} {a : Act} {d : Tmp} {v : AV} (h : ERel ρ n env a) (hv : VRel ρ v (a.tmps.getD d undef)) : ERel ρ n (aput n env (some d) v) a := by
  refine ⟨h.1, fun t ht => ?_⟩
  simp only [aput]
  split
  · show VRel ρ (if t = d then v else env t) _
    by_cases e : t = d
    · subst e; rw [if_pos rfl]; exact hv
    · rw [if_neg e]; exact h.2 t ht
  · exact h.2 t ht
theorem ERel.evo {B : Nat} {ρ ρ' : RMap} {h h' : AHeap} {w w' : World} (e : Evo B ρ h w ρ' h' w') {n : Nat} {env : Env} {a : Act} (r : ERel ρ n env a) : ERel ρ' n env a := ⟨r.1, fun t ht => e.vrel (r.2 t ht)⟩
theorem era_rel {ρ : RMap} {n : Nat} {env : Env} {a : Act} (k : Option (List Nat)) (h : ERel ρ n env a) : ERel ρ n (era k env) a := by
  cases k with
  | none => exact h
  | some l =>
    refine ⟨h.1, fun t ht => ?_⟩
    simp only [era]
    have key : ∀ l : List Nat, envOf (l.map fun i => (i, env i)) t = env t ∨ envOf (l.map fun i => (i, env i)) t = .junk := by
      intro l
      induction l with
      | nil => right; simp [envOf]
      | cons i l ih =>
        simp only [List.map_cons, envOf]
        by_cases e : t = i
        · left; rw [if_pos e, e]
        · rw [if_neg e]; exact ih
    rcases key l with e | e
    · rw [e]; exact h.2 t ht
    · rw [e]; simp [VRel]

/-- A guard: it is seen as the machine sees it. -/
theorem aguard_sim {R : Type} {n : Nat} {ops : Array Oper} {o : Oper} {env : Env} {yes no : Env → Option R} {r : R} {ρ : RMap} {a : Act} (h : aguard n ops o env yes no = some r) (he : ERel ρ n env a) :
    ∃ env', ERel ρ n env' a ∧ ((Region.wanted o (yielded ops a.tmps) = true ∧ yes env' = some r) ∨ (Region.wanted o (yielded ops a.tmps) = false ∧ no env' = some r)) := by
  unfold aguard at h
  unfold Region.wanted
  cases hg : o.guard with
  | none => rw [hg] at h; exact ⟨env, he, .inl ⟨rfl, h⟩⟩
  | some jw =>
    obtain ⟨j, want⟩ := jw
    rw [hg] at h
    simp only at h ⊢
    cases hd : (ops[j]?).bind (·.dst) with
    | none =>
      rw [hd] at h
      refine ⟨env, he, .inr ⟨?_, h⟩⟩
      simp only [yielded, hd]; rfl
    | some d =>
      rw [hd] at h
      simp only at h
      have hy : yielded ops a.tmps j = match a.tmps[d]? with | some (.bool b) => some b | _ => none := by simp only [yielded, hd]; rfl
      split at h
      · rename_i hdn
        have hts : d < a.tmps.size := by rw [he.1]; exact hdn
        have hv := he.2 d hdn
        have hget : a.tmps[d]? = some (a.tmps.getD d undef) := by simp [Array.getD, hts]
        split at h
        · rename_i b hb
          rw [hb, VRel.bool_iff] at hv
          have hyb : yielded ops a.tmps j = some b := by rw [hy, hget, hv]
          have same : ∀ c, c = b → ERel ρ n (aput n env (some d) (.bool c)) a := fun c hc => put_same he (by rw [hv, hc]; exact VRel.bool_iff.2 rfl)
          rw [hyb]
          cases b <;> cases want <;> simp only [if_true, Bool.false_eq_true, if_false] at h
          · exact ⟨_, same _ rfl, .inl ⟨rfl, h⟩⟩
          · exact ⟨_, same _ rfl, .inr ⟨rfl, h⟩⟩
          · exact ⟨_, same _ rfl, .inr ⟨rfl, h⟩⟩
          · exact ⟨_, same _ rfl, .inl ⟨rfl, h⟩⟩
        · rename_i hb
          rw [hb] at hv
          obtain ⟨xs, e, hx⟩ := VRel.tuple_iff.1 hv
          refine ⟨env, he, .inr ⟨?_, h⟩⟩
          have : yielded ops a.tmps j = none := by rw [hy, hget, e]
          rw [this]; rfl
        · cases h
      · rename_i hdn
        have hnone : a.tmps[d]? = none := by
          rw [Array.getElem?_eq_none_iff, he.1]; exact Nat.not_lt.1 hdn
        refine ⟨env, he, .inr ⟨?_, h⟩⟩
        have : yielded ops a.tmps j = none := by rw [hy, hnone]
        rw [this]; rfl
theorem aguard_out {R : Type} {n : Nat} {ops : Array Oper} {o : Oper} {env : Env} {yes no : Env → Option R} {r : R} (h : aguard n ops o env yes no = some r) : ∃ env', yes env' = some r ∨ no env' = some r := by
  unfold aguard at h
  split at h
  · exact ⟨_, .inl h⟩
  · split at h
    · exact ⟨_, .inr h⟩
    · split at h
      · split at h
        · split at h <;> split at h <;> first | exact ⟨_, .inl h⟩ | exact ⟨_, .inr h⟩
        · exact ⟨_, .inr h⟩
        · cases h
      · exact ⟨_, .inr h⟩

theorem aops_out {P : Program} {call : FuncId → List AV → AHeap → Res} (hcall : CallLen call) {R : Type} {n : Nat} {all : Array Oper} {K : Env → AHeap → Option R} {r : R} : ∀ (l : List Oper) (env : Env) (h : AHeap),
    aops P call n all l env h K = some r → ∃ env' h', K env' h' = some r ∧ h.length ≤ h'.length
  | [], env, h, hr => ⟨env, h, hr, Nat.le_refl _⟩
  | o :: l, env, h, hr => by
    simp only [aops] at hr
    obtain ⟨env', hy | hn⟩ := aguard_out hr
    · obtain ⟨v, h', h1, h2⟩ := aop_out hcall hy
      obtain ⟨e2, h3, h4, h5⟩ := aops_out hcall l _ _ (asT_some h1)
      exact ⟨e2, h3, h4, Nat.le_trans h2 h5⟩
    · exact aops_out hcall l _ _ hn

theorem fresh_step {B N : Nat} {ρ ρ' : RMap} {h h' : AHeap} {w w' : World} (e : Evo B ρ h w ρ' h' w') (hf : ∀ id, h.length ≤ id → id < N → ρ id = none) : ∀ id, h'.length ≤ id → id < N → ρ' id = none := by
  intro id h1 h2
  have h0 := hf id (Nat.le_trans e.len h1) h2
  by_cases hn : ρ' id = none
  · exact hn
  · have := e.new id h0 hn; omega

theorem aops_sim {P : Program} {B N : Nat} {call : FuncId → List AV → AHeap → Res} (hcall : CallSim P B call) (hlen : CallLen call) {R : Type} {n : Nat} {all : Array Oper} {K : Env → AHeap → Option R} {r : R}
    (hK : ∀ env h', K env h' = some r → h'.length ≤ N) {Q : Exit → Act → World → Prop} : ∀ (l : List Oper) (k : Nat) (env : Env) (h : AHeap) (ρ : RMap) (a : Act) (w : World), (∀ j, l[j]? = all[k + j]?) →
    aops P call n all l env h K = some r → Rep B ρ h w → ERel ρ n env a → (∀ id, h.length ≤ id → id < N → ρ id = none) →
    (∀ ρ' env' h' a' w', K env' h' = some r → Rep B ρ' h' w' → ERel ρ' n env' a' → Evo B ρ h w ρ' h' w' → a'.defers = a.defers → Q .normal a' w') →
    wpOps P all Q (List.range' k l.length) a w
  | [], k, env, h, ρ, a, w, _, hr, R1, E1, _, hq => by
    simp only [List.length_nil, List.range'_zero, wpOps]
    exact hq ρ env h a w hr R1 E1 (Evo.refl _ _ _ _) rfl
  | o :: l, k, env, h, ρ, a, w, hl, hr, R1, E1, hf, hq => by
    have ho : all[k]? = some o := by have := hl 0; simpa using this.symm
    have hl' : ∀ j, l[j]? = all[k + 1 + j]? := by
      intro j
      have := hl (j + 1)
      rw [show k + 1 + j = k + (j + 1) from by omega]
      simpa using this
    simp only [aops] at hr
    rw [List.length_cons, List.range'_succ]
    simp only [wpOps, ho]
    obtain ⟨env', E2, ⟨hw, hy⟩ | ⟨hw, hy⟩⟩ := aguard_sim hr E1
    · rw [hw]
      simp only [if_true]
      left
      have hKo : ∀ v h', (asT P o.type v fun v => aops P call n all l (aput n env' o.dst v) h' K) = some r → h'.length ≤ N := by
        intro v h' hh
        replace hh := asT_some hh
        obtain ⟨e2, h3, h4, h5⟩ := aops_out hlen l _ _ hh
        exact Nat.le_trans h5 (hK _ _ h4)
      have := aop_sim hcall hy hKo R1 hf (ev_rel E2) Q
      refine Oper.wp_mono ?_ this
      rintro a' w' ⟨ρ', v, v', h', hk, rfl, hv, R2, EV⟩
      exact aops_sim hcall hlen hK l (k + 1) _ h' ρ' _ w' hl' (asT_some hk) R2 (put_rel (E2.evo EV) hv) (fresh_step EV hf)
        fun ρ2 env2 h2 a2 w2 q1 q2 q3 q4 q5 => hq ρ2 env2 h2 a2 w2 q1 q2 q3 (EV.trans q4) (by rw [q5]; cases o.dst <;> rfl)
    · rw [hw]
      simp only [Bool.false_eq_true, if_false]
      exact aops_sim hcall hlen hK l (k + 1) _ h ρ _ w hl' hy R1 (put_rel E2 (undef_rel ρ)) hf
        fun ρ2 env2 h2 a2 w2 q1 q2 q3 q4 q5 => hq ρ2 env2 h2 a2 w2 q1 q2 q3 q4 (by rw [q5]; cases o.dst <;> rfl)
end Go.Ab
end
section
/-
  Regions whose order is open: small laws.
-/
namespace Go.Ab
open Go.RowKit

mutual
theorem beq_eq : ∀ (x y : AV), AV.beq x y = true → x = y
  | .junk, y, h => by cases y <;> simp [AV.beq] at h ⊢
  | .bool a, y, h => by cases y <;> simp [AV.beq] at h ⊢; exact h
  | .int k a, y, h => by cases y <;> simp [AV.beq] at h ⊢; exact h
  | .str a, y, h => by cases y <;> simp [AV.beq] at h ⊢; exact h
  | .nilptr, y, h => by cases y <;> simp [AV.beq] at h ⊢
  | .ptr a b, y, h => by cases y <;> simp [AV.beq] at h ⊢; exact h
  | .nilsl, y, h => by cases y <;> simp [AV.beq] at h ⊢
  | .sl a b c d, y, h => by cases y <;> simp [AV.beq] at h ⊢; exact ⟨h.1.1.1, h.1.1.2, h.1.2, h.2⟩
  | .nilmap, y, h => by cases y <;> simp [AV.beq] at h ⊢
  | .map a, y, h => by cases y <;> simp [AV.beq] at h ⊢; exact h
  | .nilfunc, y, h => by cases y <;> simp [AV.beq] at h ⊢
  | .func f a b, y, h => by
    cases y <;> simp [AV.beq] at h ⊢
    exact ⟨h.1.1, beqs_eq _ _ h.1.2, beqs_eq _ _ h.2⟩
  | .niliface, y, h => by cases y <;> simp [AV.beq] at h ⊢
  | .iface t x, y, h => by
    cases y <;> simp [AV.beq] at h ⊢
    exact ⟨h.1, beq_eq _ _ h.2⟩
  | .agg a, y, h => by
    cases y <;> simp [AV.beq] at h ⊢
    exact beqs_eq _ _ h
  | .tuple a, y, h => by
    cases y <;> simp [AV.beq] at h ⊢
    exact beqs_eq _ _ h
theorem beqs_eq : ∀ (x y : List AV), AV.beqs x y = true → x = y
  | [], y, h => by cases y <;> simp [AV.beqs] at h ⊢
  | a :: as, y, h => by
    cases y <;> simp [AV.beqs] at h ⊢
    exact ⟨beq_eq _ _ h.1, beqs_eq _ _ h.2⟩
end
mutual
theorem beq_refl : ∀ (x : AV), AV.beq x x = true
  | .junk => by simp [AV.beq]
  | .bool a => by simp [AV.beq]
  | .int k a => by simp [AV.beq]
  | .str a => by simp [AV.beq]
  | .nilptr => by simp [AV.beq]
  | .ptr a b => by simp [AV.beq]
  | .nilsl => by simp [AV.beq]
  | .sl a b c d => by simp [AV.beq]
  | .nilmap => by simp [AV.beq]
  | .map a => by simp [AV.beq]
  | .nilfunc => by simp [AV.beq]
  | .func f a b => by simp [AV.beq, beqs_refl a, beqs_refl b]
  | .niliface => by simp [AV.beq]
  | .iface t x => by simp [AV.beq, beq_refl x]
  | .agg a => by simp [AV.beq, beqs_refl a]
  | .tuple a => by simp [AV.beq, beqs_refl a]
theorem beqs_refl : ∀ (x : List AV), AV.beqs x x = true
  | [] => by simp [AV.beqs]
  | a :: as => by simp [AV.beqs, beq_refl a, beqs_refl as]
end
theorem chkRd_some {x : Option AV} {v : AV} (h : chkRd x v = true) : x = some v := by
  unfold chkRd at h
  split at h
  · rw [beq_eq _ _ h]
  · cases h
theorem chkRd_self (v : AV) : chkRd (some v) v = true := beq_refl v
theorem chkAl_eq {x y : Option ABlk} (h : chkAl x y = true) : x = y := by
  unfold chkAl at h
  split at h
  · simp at h; rw [h.1, beqs_eq _ _ h.2]
  · cases h
theorem chkAl_self (ro : Bool) (cs : List AV) : chkAl (some (.cells ro cs)) (some (.cells ro cs)) = true := by simp [chkAl, beqs_refl]
theorem aif_some {R : Type} {b : Bool} {A : Option R} {r : R} (h : aif b A = some r) : b = true ∧ A = some r := by
  cases b with
  | true => exact ⟨rfl, h⟩
  | false => cases h

section
variable {P : Program} {call : FuncId → List AV → AHeap → Res}

/-- An operation's answer: its value and the heap behind it. -/
def aopR (P : Program) (call : FuncId → List AV → AHeap → Res) (o : Oper) (e : Operand → AV) (h : AHeap) : Option (AV × AHeap) := aop P call o e h fun v h' => some (v, h')

set_option maxHeartbeats 1000000 in
theorem aop_nat {R : Type} (o : Oper) (e : Operand → AV) (h : AHeap) (K : AV → AHeap → Option R) : aop P call o e h K = (aopR P call o e h).bind fun p => K p.1 p.2 := by
  obtain ⟨dst, op, ty, pos, after, guard⟩ := o
  have b1 : ∀ {α β : Type} (x : Option α) (f : α → AV × AHeap) (g : AV × AHeap → Option R), (x.bind fun a => some (f a)).bind g = x.bind fun a => g (f a) := by
    intro α β x f g; cases x <;> rfl
  cases op with
  | call c =>
    obtain ⟨callee, cargs, ctypes⟩ := c
    cases callee with
    | value f =>
      simp only [aop, aopR]
      split
      · split
        · rw [Option.bind_assoc]; rfl
        · rfl
      · rfl
    | invoke f name =>
      simp only [aop, aopR]
      split
      · rw [Option.bind_assoc]
        congr 1; funext g
        split
        · rw [Option.bind_assoc]; rfl
        · rfl
      · rfl
    | builtin b =>
      cases b with
      | len =>
        simp only [aop, aopR]
        split
        · rw [Option.bind_assoc]; rfl
        · rfl
      | min =>
        simp only [aop, aopR]
        split
        · rw [Option.bind_assoc]; rfl
        · rfl
      | max =>
        simp only [aop, aopR]
        split
        · rw [Option.bind_assoc]; rfl
        · rfl
      | copy =>
        simp only [aop, aopR]
        split
        · simp only [Option.bind_assoc]
          congr 1; funext el; congr 1; funext sz
          split
          · rfl
          · rw [Option.bind_assoc]; rfl
        · rfl
      | append =>
        simp only [aop, aopR]
        have key : ∀ (s x : Operand) (u : TypeId) (sz by' : Nat) (z : List AV),
            (match P.underlying u with
              | some (.slice _) => if sz = 0 ∨ by' = 0 ∨ z.length ≠ sz then none else (alenOf (e x)).bind fun m => (asrc sz (e x) h).bind fun xs => (aapp sz by' (e s) m xs h).bind fun r => K r.1 r.2
              | some .string => if sz = 0 ∨ by' = 0 ∨ z.length ≠ sz then none else (alenOf (e x)).bind fun m => (asrc sz (e x) h).bind fun xs => (aapp sz by' (e s) m xs h).bind fun r => K r.1 r.2
              | _ => none) =
            (match P.underlying u with
              | some (.slice _) => if sz = 0 ∨ by' = 0 ∨ z.length ≠ sz then none else (alenOf (e x)).bind fun m => (asrc sz (e x) h).bind fun xs => (aapp sz by' (e s) m xs h).bind fun r => some (r.1, r.2)
              | some .string => if sz = 0 ∨ by' = 0 ∨ z.length ≠ sz then none else (alenOf (e x)).bind fun m => (asrc sz (e x) h).bind fun xs => (aapp sz by' (e s) m xs h).bind fun r => some (r.1, r.2)
              | _ => none).bind fun p => K p.1 p.2 := by
          intro s x u sz by' z
          cases P.underlying u with
          | none => rfl
          | some d =>
            cases d <;> first
              | rfl
              | (simp only
                 by_cases hc : sz = 0 ∨ by' = 0 ∨ z.length ≠ sz
                 · simp only [if_pos hc]; rfl
                 · simp only [if_neg hc, Option.bind_assoc]; rfl)
        match cargs.toList, ctypes.toList with
        | [s, x], [t, u] =>
          simp only [Option.bind_assoc]
          congr 1; funext el; congr 1; funext sz; congr 1; funext by'; congr 1; funext z
          exact key s x u sz by' z
        | [], _ => rfl
        | [_], _ => rfl
        | _ :: _ :: _ :: _, _ => rfl
        | [_, _], [] => rfl
        | [_, _], [_] => rfl
        | [_, _], _ :: _ :: _ :: _ => rfl
      | _ => rfl
  | load t x => simp only [aop, aopR, Option.bind_assoc]; rfl
  | store t x y =>
    simp only [aop, aopR, Option.bind_assoc]
    congr 1; funext ag; congr 1; funext sz
    split
    · rw [Option.bind_assoc]; rfl
    · rfl
  | makeInterface t x => simp only [aop, aopR]; split <;> rfl
  | makeFunc fn a b => cases fn <;> rfl
  | slice t x lo hi mx => cases mx <;> simp only [aop, aopR, Option.bind_assoc] <;> rfl
  | fieldAddr t x f =>
    simp only [aop, aopR, Option.bind_assoc]
    congr 1; funext p; congr 1; funext sz
    split
    · rfl
    · rw [Option.bind_assoc]; rfl
  | _ => simp only [aop, aopR, Option.bind_assoc] <;> rfl
end
end Go.Ab
end
section
/-
  Regions whose order is open: what each kind of operation hangs on.
-/
namespace Go.Ab
open Go.RowKit

section
variable {P : Program} {call : FuncId → List AV → AHeap → Res}

/-- A guard's word. -/
def gd (n : Nat) (ops : Array Oper) (o : Oper) (env : Env) : Option Bool :=
  match o.guard with
  | none => some true
  | some (j, want) =>
    match (ops[j]?).bind (·.dst) with
    | none => some false
    | some d => if d < n then (match env d with | .bool b => some (b == want) | .tuple [] => some false | _ => none) else some false
theorem aput_self {n : Nat} {env : Env} {d : Tmp} {v : AV} (h : env d = v) : aput n env (some d) v = env := by
  show (if d < n then (fun i => if i = d then v else env i) else env) = env
  by_cases hd : d < n
  · rw [if_pos hd]
    funext i
    by_cases hi : i = d
    · rw [if_pos hi, hi, h]
    · rw [if_neg hi]
  · rw [if_neg hd]
theorem aguard_gd {R : Type} {n : Nat} {ops : Array Oper} {o : Oper} {env : Env} {yes no : Env → Option R} {r : R} (h : aguard n ops o env yes no = some r) :
    (gd n ops o env = some true ∧ yes env = some r) ∨ (gd n ops o env = some false ∧ no env = some r) := by
  unfold aguard at h
  unfold gd
  cases hg : o.guard with
  | none => rw [hg] at h; exact .inl ⟨rfl, h⟩
  | some jw =>
    obtain ⟨j, want⟩ := jw
    rw [hg] at h
    simp only at h ⊢
    cases hd : (ops[j]?).bind (·.dst) with
    | none => rw [hd] at h; exact .inr ⟨rfl, h⟩
    | some d =>
      rw [hd] at h
      simp only at h ⊢
      split at h
      · rename_i hdn
        rw [if_pos hdn]
        split at h
        · rename_i b hb
          rw [hb]
          simp only
          cases b <;> cases want <;> simp only [if_true, Bool.false_eq_true, if_false] at h <;> rw [aput_self hb] at h
          · exact .inl ⟨rfl, h⟩
          · exact .inr ⟨rfl, h⟩
          · exact .inr ⟨rfl, h⟩
          · exact .inl ⟨rfl, h⟩
        · rename_i hb; rw [hb]; exact .inr ⟨rfl, h⟩
        · cases h
      · rename_i hdn
        rw [if_neg hdn]; exact .inr ⟨rfl, h⟩
/-- The machine sees the same guard. -/
theorem gd_wanted {n : Nat} {ops : Array Oper} {o : Oper} {env : Env} {b : Bool} {ρ : RMap} {a : Act} (h : gd n ops o env = some b) (hs : a.tmps.size = n)
    (he : ∀ d, (match o.guard with | some (j, _) => (ops[j]?).bind (·.dst) | none => none) = some d → d < n → VRel ρ (env d) (a.tmps.getD d undef)) : Region.wanted o (yielded ops a.tmps) = b := by
  unfold gd at h
  unfold Region.wanted
  cases hg : o.guard with
  | none => rw [hg] at h; cases h; rfl
  | some jw =>
    obtain ⟨j, want⟩ := jw
    rw [hg] at h he
    simp only at h he ⊢
    cases hd : (ops[j]?).bind (·.dst) with
    | none =>
      rw [hd] at h; cases h
      simp only [yielded, hd]; rfl
    | some d =>
      rw [hd] at h
      simp only at h
      have hy : yielded ops a.tmps j = match a.tmps[d]? with | some (.bool b) => some b | _ => none := by simp only [yielded, hd]; rfl
      split at h
      · rename_i hdn
        have hts : d < a.tmps.size := by rw [hs]; exact hdn
        have hv := he d hd hdn
        have hget : a.tmps[d]? = some (a.tmps.getD d undef) := by simp [Array.getD, hts]
        split at h
        · rename_i c hb
          cases h
          rw [hb, VRel.bool_iff] at hv
          rw [hy, hget, hv]
          cases c <;> cases want <;> rfl
        · rename_i hb
          cases h
          rw [hb] at hv
          obtain ⟨xs, e, hx⟩ := VRel.tuple_iff.1 hv
          rw [hy, hget, e]; rfl
        · cases h
      · rename_i hdn
        cases h
        have hnone : a.tmps[d]? = none := by
          rw [Array.getElem?_eq_none_iff, hs]; exact Nat.not_lt.1 hdn
        rw [hy, hnone]; rfl

/-- An operation looks at its operands alone. -/
theorem aop_congr {R : Type} {o : Oper} {e f : Operand → AV} (h : ∀ x ∈ o.op.operands.toList, e x = f x) (hp : AHeap) (K : AV → AHeap → Option R) : aop P call o e hp K = aop P call o f hp K := by
  obtain ⟨dst, op, ty, pos, after, guard⟩ := o
  have hmap : ∀ (l : List Operand), (∀ x ∈ l, e x = f x) → l.map e = l.map f := fun l hl => List.map_congr_left hl
  have hps : ∀ (ps : List (Nat × Operand)), (∀ x ∈ ps.map (·.2), e x = f x) → (ps.map fun p => (p.1, e p.2)) = ps.map fun p => (p.1, f p.2) := by
    intro ps hl
    apply List.map_congr_left
    intro p hp
    rw [hl p.2 (List.mem_map_of_mem hp)]
  have hopt : ∀ (o : Option Operand), (∀ x ∈ o.toArray.toList, e x = f x) → o.map e = o.map f := by
    intro o ho
    cases o with
    | none => rfl
    | some x => simp [ho x (by simp)]
  cases op with
  | move x => simp only [Op.operands] at h; simp only [aop]; rw [h x (by simp)]
  | assign x => simp only [Op.operands] at h; simp only [aop]; rw [h x (by simp)]
  | pick a b c => simp only [Op.operands] at h; simp only [aop]; rw [h a (by simp), h b (by simp), h c (by simp)]
  | alloc t => rfl
  | box t x => simp only [Op.operands] at h; simp only [aop]; rw [h x (by simp)]
  | build t ps => simp only [Op.operands] at h; simp only [aop]; rw [hps _ (by simpa using h)]
  | buildSlice t n ps => simp only [Op.operands] at h; simp only [aop]; rw [hps _ (by simpa using h)]
  | load t x => simp only [Op.operands] at h; simp only [aop]; rw [h x (by simp)]
  | store t x y => simp only [Op.operands] at h; simp only [aop]; rw [h x (by simp), h y (by simp)]
  | nilCheck x => simp only [Op.operands] at h; simp only [aop]; rw [h x (by simp)]
  | binOp op t x y u => simp only [Op.operands] at h; simp only [aop]; rw [h x (by simp), h y (by simp)]
  | unOp op t x => simp only [Op.operands] at h; simp only [aop]; rw [h x (by simp)]
  | convert s d x => simp only [Op.operands] at h; simp only [aop]; rw [h x (by simp)]
  | makeInterface t x => simp only [Op.operands] at h; simp only [aop]; rw [h x (by simp)]
  | makeFunc fn a b =>
    cases fn with
    | func g =>
      simp only [Op.operands] at h; simp only [aop]
      rw [hmap _ (fun x hx => h x (by simp only [Array.toList_append]; exact List.mem_append_left _ hx)), hmap _ (fun x hx => h x (by simp only [Array.toList_append]; exact List.mem_append_right _ hx))]
    | _ => rfl
  | makeSlice t x y => simp only [Op.operands] at h; simp only [aop]; rw [h x (by simp), h y (by simp)]
  | slice t x lo hi mx =>
    cases mx with
    | some _ => rfl
    | none =>
      simp only [Op.operands] at h; simp only [aop]
      rw [h x (by simp), hopt lo (fun y hy => h y (by simp only [Array.toList_append]; simp at hy ⊢; simp [hy])), hopt hi (fun y hy => h y (by simp only [Array.toList_append]; simp at hy ⊢; simp [hy]))]
  | fieldAddr t x i => simp only [Op.operands] at h; simp only [aop]; rw [h x (by simp)]
  | field t x i => simp only [Op.operands] at h; simp only [aop]; rw [h x (by simp)]
  | indexAddr t x i => simp only [Op.operands] at h; simp only [aop]; rw [h x (by simp), h i (by simp)]
  | index t x i => simp only [Op.operands] at h; simp only [aop]; rw [h x (by simp), h i (by simp)]
  | typeAssert x t u ok => simp only [Op.operands] at h; simp only [aop]; rw [h x (by simp)]
  | extract x i => simp only [Op.operands] at h; simp only [aop]; rw [h x (by simp)]
  | call c =>
    obtain ⟨callee, cargs, ctypes⟩ := c
    simp only [Op.operands, Call.operands, Array.toList_append] at h
    have ha : ∀ x ∈ cargs.toList, e x = f x := fun x hx => h x (List.mem_append_right _ hx)
    have hm := hmap _ ha
    cases callee with
    | value g =>
      have hg : e g = f g := h g (by simp)
      simp only [aop]; rw [hg, hm]
    | invoke g name =>
      have hg : e g = f g := h g (by simp)
      simp only [aop]; rw [hg, hm]
    | builtin b =>
      cases b with
      | len =>
        simp only [aop]
        split
        · rename_i x t hx ht; rw [ha x (by rw [hx]; simp)]
        · rfl
      | append =>
        simp only [aop]
        split
        · rename_i x y t u hx ht; rw [ha x (by rw [hx]; simp), ha y (by rw [hx]; simp)]
        · rfl
      | copy =>
        simp only [aop]
        split
        · rename_i x y t u hx ht; rw [ha x (by rw [hx]; simp), ha y (by rw [hx]; simp)]
        · rfl
      | min =>
        simp only [aop]
        split
        · rename_i x r hx
          rw [ha x (by rw [hx]; simp), hmap r (fun y hy => ha y (by rw [hx]; simp [hy]))]
        · rfl
      | max =>
        simp only [aop]
        split
        · rename_i x r hx
          rw [ha x (by rw [hx]; simp), hmap r (fun y hy => ha y (by rw [hx]; simp [hy]))]
        · rfl
      | _ => rfl
  | _ => rfl

/-- What is pure hangs on no heap. -/
theorem aop_pure {o : Oper} (hc : cls o.op = .pure) {e : Operand → AV} {h h' : AHeap} {v : AV} (hr : aopR P call o e h = some (v, h')) : h' = h ∧ ∀ h2, aopR P call o e h2 = some (v, h2) := by
  have one : ∀ {x : Option AV}, (x.bind fun u => some (u, h)) = some (v, h') → h' = h ∧ ∀ h2 : AHeap, (x.bind fun u => some (u, h2)) = some (v, h2) := by
    intro x hx
    obtain ⟨u, hu, q⟩ := Option.bind_eq_some_iff.1 hx
    cases q
    exact ⟨rfl, fun h2 => by rw [hu]; rfl⟩
  obtain ⟨dst, op, ty, pos, after, guard⟩ := o
  cases op with
  | move x => simp only [aopR, aop] at hr ⊢; cases hr; exact ⟨rfl, fun _ => rfl⟩
  | assign x => simp only [aopR, aop] at hr ⊢; cases hr; exact ⟨rfl, fun _ => rfl⟩
  | pick a b c => simp only [aopR, aop] at hr ⊢; exact one hr
  | build t ps => simp only [aopR, aop] at hr ⊢; exact one hr
  | nilCheck x => simp only [aopR, aop] at hr ⊢; exact one hr
  | binOp op t x y u => simp only [aopR, aop] at hr ⊢; exact one hr
  | unOp op t x => simp only [aopR, aop] at hr ⊢; exact one hr
  | makeInterface t x =>
    simp only [aopR, aop] at hr ⊢
    split at hr
    · cases hr
    · cases hr; exact ⟨rfl, fun _ => rfl⟩
    · cases hr
  | makeFunc fn a b =>
    cases fn with
    | func g => simp only [aopR, aop] at hr ⊢; cases hr; exact ⟨rfl, fun _ => rfl⟩
    | _ => simp [aopR, aop] at hr
  | fieldAddr t x i =>
    simp only [aopR, aop] at hr ⊢
    obtain ⟨p, h1, q⟩ := Option.bind_eq_some_iff.1 hr
    obtain ⟨sz, h2, q⟩ := Option.bind_eq_some_iff.1 q
    split at q
    · cases q
    · rename_i h0
      obtain ⟨a, b⟩ := one q
      exact ⟨a, fun hh => by rw [h1, Option.bind_some, h2, Option.bind_some, if_neg h0]; exact b hh⟩
  | field t x i => simp only [aopR, aop] at hr ⊢; exact one hr
  | indexAddr t x i => simp only [aopR, aop] at hr ⊢; exact one hr
  | index t x i => simp only [aopR, aop] at hr ⊢; exact one hr
  | typeAssert x t u ok => simp only [aopR, aop] at hr ⊢; exact one hr
  | extract x i => simp only [aopR, aop] at hr ⊢; exact one hr
  | call c =>
    obtain ⟨callee, cargs, ctypes⟩ := c
    cases callee with
    | value g => simp [cls] at hc
    | invoke g name => simp [cls] at hc
    | builtin b =>
      cases b with
      | len =>
        simp only [aopR, aop] at hr ⊢
        split at hr
        · obtain ⟨u, hu, q⟩ := Option.bind_eq_some_iff.1 hr
          cases q
          exact ⟨rfl, fun h2 => by rw [hu]; rfl⟩
        · cases hr
      | min =>
        simp only [aopR, aop] at hr ⊢
        split at hr
        · exact one hr
        · cases hr
      | max =>
        simp only [aopR, aop] at hr ⊢
        split at hr
        · exact one hr
        · cases hr
      | _ => simp [cls] at hc
  | _ => simp [cls] at hc

theorem hget_append {h : AHeap} {b : Nat} {x : ABlk} (e : hget h b = some x) (bs : AHeap) : hget (h ++ bs) b = some x := by
  have hb := hget_lt e
  unfold hget at e ⊢
  rw [List.getElem?_append_left hb]; exact e
theorem aload_append {ag : Bool} {sz : Nat} {x v : AV} {h : AHeap} (e : aload ag sz x h = some v) (bs : AHeap) : aload ag sz x (h ++ bs) = some v := by
  unfold aload at e ⊢
  split at e
  · split at e
    · rename_i hg
      simp only [hget_append hg]
      exact e
    · cases e
  · cases e
theorem asrc_append {sz : Nat} {x : AV} {cs : List AV} {h : AHeap} (e : asrc sz x h = some cs) (bs : AHeap) : asrc sz x (h ++ bs) = some cs := by
  unfold asrc at e ⊢
  split at e
  · exact e
  · split at e
    · rename_i hs
      rw [if_pos hs]
      split at e
      · rename_i hg
        simp only [hget_append hg]
        exact e
      · cases e
    · cases e
  · exact e
  · cases e
theorem aconv_append {s d : TypeId} {x v : AV} {h : AHeap} (e : aconv P s d x h = some v) (bs : AHeap) : aconv P s d x (h ++ bs) = some v := by
  unfold aconv at e ⊢
  split at e
  · exact e
  · exact e
  · split at e
    · obtain ⟨cs, h1, q⟩ := Option.bind_eq_some_iff.1 e
      rw [asrc_append h1]; exact q
    · cases e
  · cases e
theorem aslice_append {t : TypeId} {x v : AV} {lo hi : Option AV} {h : AHeap} (e : aslice P t x lo hi h = some v) (bs : AHeap) : aslice P t x lo hi (h ++ bs) = some v := by
  unfold aslice at e ⊢
  split at e
  · exact e
  · exact e
  · obtain ⟨sz, h1, q⟩ := Option.bind_eq_some_iff.1 e
    rw [h1, Option.bind_some]
    split at q
    · split at q
      · rename_i hg
        simp only [hget_append hg]
        exact q
      · cases q
    · cases q
  · cases e

/-- What reads keeps the heap, and reads the same where blocks have come behind. -/
theorem aop_read {o : Oper} (hc : cls o.op = .read) {e : Operand → AV} {h h' : AHeap} {v : AV} (hr : aopR P call o e h = some (v, h')) : h' = h ∧ ∀ bs, aopR P call o e (h ++ bs) = some (v, h ++ bs) := by
  obtain ⟨dst, op, ty, pos, after, guard⟩ := o
  cases op with
  | load t x =>
    simp only [aopR, aop] at hr ⊢
    obtain ⟨ag, h1, q⟩ := Option.bind_eq_some_iff.1 hr
    obtain ⟨sz, h2, q⟩ := Option.bind_eq_some_iff.1 q
    obtain ⟨u, h3, q⟩ := Option.bind_eq_some_iff.1 q
    cases q
    exact ⟨rfl, fun bs => by rw [h1, Option.bind_some, h2, Option.bind_some, aload_append h3]; rfl⟩
  | convert s d x =>
    simp only [aopR, aop] at hr ⊢
    obtain ⟨u, h3, q⟩ := Option.bind_eq_some_iff.1 hr
    cases q
    exact ⟨rfl, fun bs => by rw [aconv_append h3]; rfl⟩
  | slice t x lo hi mx =>
    cases mx with
    | some _ => simp [aopR, aop] at hr
    | none =>
      simp only [aopR, aop] at hr ⊢
      obtain ⟨u, h3, q⟩ := Option.bind_eq_some_iff.1 hr
      cases q
      exact ⟨rfl, fun bs => by rw [aslice_append h3]; rfl⟩
  | call c =>
    obtain ⟨callee, cargs, ctypes⟩ := c
    cases callee with
    | builtin b => cases b <;> simp [cls] at hc
    | _ => simp [cls] at hc
  | _ => simp [cls] at hc
/-- The answer of what was asked again. -/
theorem aop_again {o : Oper} (hc : cls o.op = .read) {e : Operand → AV} {h : AHeap} {v : AV} (hr : aop P call o e h (fun v _ => some v) = some v) : aopR P call o e h = some (v, h) := by
  rw [aop_nat] at hr
  obtain ⟨⟨u, h'⟩, h1, h2⟩ := Option.bind_eq_some_iff.1 hr
  cases h2
  obtain ⟨rfl, _⟩ := aop_read hc h1
  exact h1

/-- A new block, whenever it is made: the heap has it already. -/
theorem Rep.late {B : Nat} {ρ : RMap} {H : AHeap} {w : World} (r : Rep B ρ H w) {c : Nat} (hn : ρ c = none) {cs : List AV} (hg : hget H c = some (.cells false cs)) (arr : Array Value) (t : TypeId) (hv : VRels ρ cs arr.toList) :
    Rep B (rset ρ c ⟨w.heap.size, 0, arr.size⟩) H (w.alloc (.cells arr t)) := by
  have hm := rset_mono (i := ⟨w.heap.size, 0, arr.size⟩) hn
  have hl := hv.length
  simp at hl
  have key : ∀ b i blk, rset ρ c ⟨w.heap.size, 0, arr.size⟩ b = some i → hget H b = some blk →
      (b = c ∧ i = ⟨w.heap.size, 0, arr.size⟩ ∧ blk = .cells false cs) ∨ (b ≠ c ∧ ρ b = some i ∧ hget H b = some blk) := by
    intro b i blk h1 h2
    unfold rset at h1
    by_cases hb : b = c
    · rw [if_pos hb] at h1
      cases h1
      subst hb
      rw [hg] at h2; cases h2
      exact .inl ⟨rfl, rfl, rfl⟩
    · rw [if_neg hb] at h1
      exact .inr ⟨hb, h1, h2⟩
  have oldlt : ∀ b i cs', ρ b = some i → hget H b = some (.cells false cs') → ∀ j, j < i.ext → i.blk < w.heap.size := by
    intro b i cs' h1 h2 j hj
    obtain ⟨v, hc, _⟩ := (r.rw' b i cs' h1 h2).2 j hj
    exact World.block_lt_of_cell? w ⟨i.blk, i.off + j, none⟩ hc
  refine ⟨?_, ?_, ?_, ?_, ?_, ?_⟩
  · simpa using Nat.le_succ_of_le r.base
  · intro b i ro d h1 h2
    rcases key b i _ h1 h2 with ⟨_, hi, hc⟩ | ⟨_, h1', h2'⟩
    · cases hc; subst hi; simp; omega
    · exact r.len b i ro d h1' h2'
  · intro b i ro d h1 h2 j x hx
    rcases key b i _ h1 h2 with ⟨_, hi, hc⟩ | ⟨_, h1', h2'⟩
    · cases hc; subst hi
      obtain ⟨v, e, hr⟩ := hv.get j x hx
      exact ⟨v, by simpa using e, VRel.mono hm _ _ hr⟩
    · obtain ⟨v, e, hr⟩ := r.get b i ro d h1' h2' j x hx
      have hlt := World.block_lt_of_cell? w ⟨i.blk, i.off + j, none⟩ e
      exact ⟨v, by rw [World.cell?_alloc_lt _ _ _ hlt]; exact e, VRel.mono hm _ _ hr⟩
  · intro b i d h1 h2
    rcases key b i _ h1 h2 with ⟨_, hi, hc⟩ | ⟨_, h1', h2'⟩
    · subst hi
      refine ⟨r.base, fun j hj => ?_⟩
      have hj' : j < arr.size := hj
      refine ⟨arr[j], by simp [hj'], ?_⟩
      exact World.frozen?_alloc_new w arr t (0 + j)
    · refine ⟨(r.rw' b i d h1' h2').1, fun j hj => ?_⟩
      obtain ⟨v, e, hf⟩ := (r.rw' b i d h1' h2').2 j hj
      have hlt := World.block_lt_of_cell? w ⟨i.blk, i.off + j, none⟩ e
      exact ⟨v, by rw [World.cell?_alloc_lt _ _ _ hlt]; exact e, by rw [World.frozen?_alloc_old _ _ _ (Nat.ne_of_lt hlt)]; exact hf⟩
  · intro b i d h1 h2
    rcases key b i _ h1 h2 with ⟨_, hi, hc⟩ | ⟨_, h1', h2'⟩
    · cases hc
    · exact r.low b i d h1' h2'
  · intro b b' i i' d d' hne h1 h1' h2 h2' he p p1 p2 p3 p4
    rcases key b i _ h1 h2 with ⟨hb, hi, hc⟩ | ⟨_, g1, g2⟩ <;> rcases key b' i' _ h1' h2' with ⟨hb', hi', hc'⟩ | ⟨_, g1', g2'⟩
    · exact absurd (hb.trans hb'.symm) hne
    · subst hi
      have := oldlt b' i' d' g1' g2' (p - i'.off) (by omega)
      simp only at he
      omega
    · subst hi'
      have := oldlt b i d g1 g2 (p - i.off) (by omega)
      simp only at he
      omega
    · exact r.disj b b' i i' d d' hne g1 g1' g2 g2' he p p1 p2 p3 p4
theorem Evo.late {B : Nat} {ρ0 ρ : RMap} {h0 H : AHeap} {w0 w : World} (e : Evo B ρ0 h0 w0 ρ H w) (hb : B ≤ w.heap.size) {c : Nat} (hn : ρ c = none) (h1 : h0.length ≤ c) (h2 : c < H.length) (arr : Array Value) (t : TypeId) :
    Evo B ρ0 h0 w0 (rset ρ c ⟨w.heap.size, 0, arr.size⟩) H (w.alloc (.cells arr t)) where
  below := e.below.alloc hb _
  cell bi off hbi ho := by
    have hlt : bi < w.heap.size := Nat.lt_of_lt_of_le hbi e.below.size
    have := e.cell bi off hbi ho
    exact ⟨(World.cell?_alloc_lt _ _ ⟨bi, off, none⟩ hlt).trans this.1, (World.frozen?_alloc_old _ _ ⟨bi, off, none⟩ (Nat.ne_of_lt hlt)).trans this.2⟩
  own bi off hbi := by
    rintro ⟨b, i, cs, g1, g2, g3, g4, g5⟩
    unfold rset at g1
    by_cases hbc : b = c
    · rw [if_pos hbc] at g1; cases g1
      have := e.below.size
      simp only at g3; omega
    · rw [if_neg hbc] at g1
      exact e.own bi off hbi ⟨b, i, cs, g1, g2, g3, g4, g5⟩
  rho b i g := rset_mono hn _ _ (e.rho b i g)
  new b g1 g2 := by
    unfold rset at g2
    by_cases hbc : b = c
    · subst hbc; exact ⟨h1, h2⟩
    · rw [if_neg hbc] at g2; exact e.new b g1 g2
  len := e.len

/-- What makes memory makes one block, at the end, and may be run later. -/
theorem aop_alloc {o : Oper} (hc : cls o.op = .alloc) {e : Operand → AV} {h h' : AHeap} {v : AV} (hr : aopR P call o e h = some (v, h')) :
    ∃ cs, h' = hnew h cs ∧ ∀ (ρ : RMap) (w : World) (a : Act), (∀ x, VRel ρ (e x) (a.eval x)) →
      ∃ (v' : Value) (arr : Array Value) (t : TypeId), (execOp a.eval o).run P w = .ok (.value v') (w.alloc (.cells arr t)) ∧ VRels ρ cs arr.toList ∧
        ∀ ρ' : RMap, ρ' h.length = some ⟨w.heap.size, 0, arr.size⟩ → VRel ρ' v v' := by
  obtain ⟨dst, op, ty, pos, after, guard⟩ := o
  cases op with
  | alloc t =>
    simp only [aopR, aop] at hr
    obtain ⟨z, hz, q⟩ := Option.bind_eq_some_iff.1 hr
    cases q
    obtain ⟨i, zv, hi, hzv, rfl⟩ := tzero_some hz
    refine ⟨_, rfl, fun ρ w a he => ⟨.pointer (some ⟨w.heap.size, 0, none⟩), zv.cells, t, ?_, scals_rel ρ _, fun ρ' hρ => VRel.ptr_iff.2 ⟨_, hρ, rfl⟩⟩⟩
    simp [execOp, Instr.alloc, newVar, newRow, run_zeroValue' hi hzv]
  | box t x =>
    simp only [aopR, aop] at hr
    obtain ⟨z, hz, q⟩ := Option.bind_eq_some_iff.1 hr
    cases q
    refine ⟨_, rfl, fun ρ w a he => ⟨.pointer (some ⟨w.heap.size, 0, none⟩), (a.eval x).cells, t, ?_, acells_rel hz (he x), fun ρ' hρ => VRel.ptr_iff.2 ⟨_, hρ, rfl⟩⟩⟩
    simp [execOp, Instr.box, newVar, newRow]
  | buildSlice t n ps =>
    simp only [aopR, aop] at hr
    obtain ⟨el, h1, q⟩ := Option.bind_eq_some_iff.1 hr
    obtain ⟨⟨u, h''⟩, h3, q⟩ := Option.bind_eq_some_iff.1 q
    cases q
    have hcs : ∃ cs, h'' = hnew h cs := by
      unfold abuildSlice at h3
      obtain ⟨_, _, h3⟩ := Option.bind_eq_some_iff.1 h3
      obtain ⟨_, _, h3⟩ := Option.bind_eq_some_iff.1 h3
      split at h3
      · obtain ⟨cs, _, h3⟩ := Option.map_eq_some_iff.1 h3
        cases h3; exact ⟨cs, rfl⟩
      · cases h3
    obtain ⟨cs, rfl⟩ := hcs
    refine ⟨cs, rfl, fun ρ w a he => ?_⟩
    obtain ⟨cs', arr, v', hh, e1, r, q9⟩ := run_abuildSlice_arr (w := w) (ρ := ρ) (qs := ps.map fun p => (p.1, a.eval p.2)) h1 h3 (by rw [Array.toList_map]; exact PRels.map _ _ _ he)
    have : cs' = cs := by
      simp only [hnew] at hh
      have := (List.append_cancel_left hh)
      simpa using this.symm
    subst this
    exact ⟨v', arr, el, by simp [execOp, e1], r, q9⟩
  | makeSlice t l c =>
    simp only [aopR, aop] at hr
    obtain ⟨el, h1, q⟩ := Option.bind_eq_some_iff.1 hr
    obtain ⟨⟨u, h''⟩, h3, q⟩ := Option.bind_eq_some_iff.1 q
    cases q
    have hcs : ∃ cs, h'' = hnew h cs := by
      unfold amake at h3
      obtain ⟨_, _, h3⟩ := Option.bind_eq_some_iff.1 h3
      obtain ⟨_, _, h3⟩ := Option.bind_eq_some_iff.1 h3
      obtain ⟨_, _, h3⟩ := Option.bind_eq_some_iff.1 h3
      split at h3
      · split at h3
        · cases h3; exact ⟨_, rfl⟩
        · cases h3
      · cases h3
    obtain ⟨cs, rfl⟩ := hcs
    refine ⟨cs, rfl, fun ρ w a he => ?_⟩
    obtain ⟨cs', arr, v', hh, e1, r, q9⟩ := run_amake_arr (w := w) (ρ := ρ) h1 h3 (he l) (he c)
    have : cs' = cs := by
      simp only [hnew] at hh
      have := (List.append_cancel_left hh)
      simpa using this.symm
    subst this
    exact ⟨v', arr, el, by simp [execOp, e1], r, q9⟩
  | call c =>
    obtain ⟨callee, cargs, ctypes⟩ := c
    cases callee with
    | builtin b => cases b <;> simp [cls] at hc
    | _ => simp [cls] at hc
  | _ => simp [cls] at hc
end
end Go.Ab
end
section
/-
  Regions whose order is open: whatever order is drawn, the end is the evaluator's.
-/
namespace Go.Ab
open Go.RowKit

/-- A step of the evaluator's own run. -/
structure Rec where
  i : Nat
  o : Oper
  env : Env
  h : AHeap
  tk : Bool
  v : AV
  h' : AHeap

def pdNext (i : Nat) (o : Oper) (env : Env) (v : AV) (h : AHeap) (pd : List (Nat × Pend)) : List (Nat × Pend) :=
  match cls o.op with
  | .read => (i, .rd o env v) :: pd
  | .alloc => (i, .al h.length) :: pd
  | _ => pd

section
variable {P : Program} {call : FuncId → List AV → AHeap → Res} {n : Nat} {ops : Array Oper} {ms : List Nat}

inductive Run (P : Program) (call : FuncId → List AV → AHeap → Res) (n : Nat) (ops : Array Oper) (ms : List Nat) : List Nat → List (Nat × Pend) → Env → AHeap → List Rec → Env → AHeap → Prop
  | nil {pd : List (Nat × Pend)} {env : Env} {h : AHeap} : Run P call n ops ms [] pd env h [] env h
  | skip {i : Nat} {l : List Nat} {pd : List (Nat × Pend)} {env env' : Env} {h h' : AHeap} {o : Oper} {T : List Rec} (ho : ops[i]? = some o) (hg : gd n ops o env = some false)
      (hr : Run P call n ops ms l pd (aput n env o.dst (.tuple [])) h T env' h') : Run P call n ops ms (i :: l) pd env h (⟨i, o, env, h, false, .tuple [], h⟩ :: T) env' h'
  | take {i : Nat} {l : List Nat} {pd : List (Nat × Pend)} {env env' : Env} {h h1 h' : AHeap} {o : Oper} {v : AV} {T : List Rec} (ho : ops[i]? = some o) (hg : gd n ops o env = some true)
      (ha : aopR P call o (ev n env) h = some (v, h1)) (hc : cls o.op = .chain → pd.all (pendOk P call n (ms.getD i 0) h h1) = true)
      (hr : Run P call n ops ms l (pdNext i o env v h pd) (aput n env o.dst v) h1 T env' h') : Run P call n ops ms (i :: l) pd env h (⟨i, o, env, h, true, v, h1⟩ :: T) env' h'

theorem run_of {R : Type} {K : Env → AHeap → Option R} {r : R} : ∀ (l : List Nat) (pd : List (Nat × Pend)) (env : Env) (h : AHeap), adrawGo P call n ops ms l pd env h K = some r →
    ∃ T env' h', Run P call n ops ms l pd env h T env' h' ∧ K env' h' = some r
  | [], pd, env, h, hr => ⟨[], env, h, .nil, hr⟩
  | i :: l, pd, env, h, hr => by
    simp only [adrawGo] at hr
    split at hr
    · cases hr
    · rename_i o ho
      rcases aguard_gd hr with ⟨hg, hy⟩ | ⟨hg, hy⟩
      · cases hc : cls o.op with
        | pure =>
          simp only [hc] at hy
          rw [aop_nat] at hy
          obtain ⟨⟨v, h1⟩, h2, h3⟩ := Option.bind_eq_some_iff.1 hy
          obtain ⟨T, env', h', q1, q2⟩ := run_of l _ _ _ (asT_some h3)
          exact ⟨_, env', h', .take ho hg h2 (by rw [hc]; simp) (by simp only [pdNext, hc]; exact q1), q2⟩
        | read =>
          simp only [hc] at hy
          rw [aop_nat] at hy
          obtain ⟨⟨v, h1⟩, h2, h3⟩ := Option.bind_eq_some_iff.1 hy
          obtain ⟨T, env', h', q1, q2⟩ := run_of l _ _ _ (asT_some h3)
          exact ⟨_, env', h', .take ho hg h2 (by rw [hc]; simp) (by simp only [pdNext, hc]; exact q1), q2⟩
        | alloc =>
          simp only [hc] at hy
          rw [aop_nat] at hy
          obtain ⟨⟨v, h1⟩, h2, h3⟩ := Option.bind_eq_some_iff.1 hy
          obtain ⟨T, env', h', q1, q2⟩ := run_of l _ _ _ (asT_some h3)
          exact ⟨_, env', h', .take ho hg h2 (by rw [hc]; simp) (by simp only [pdNext, hc]; exact q1), q2⟩
        | chain =>
          simp only [hc] at hy
          rw [aop_nat] at hy
          obtain ⟨⟨v, h1⟩, h2, h3⟩ := Option.bind_eq_some_iff.1 hy
          obtain ⟨h4, h5⟩ := aif_some (asT_some h3)
          obtain ⟨T, env', h', q1, q2⟩ := run_of l _ _ _ h5
          exact ⟨_, env', h', .take ho hg h2 (fun _ => h4) (by simp only [pdNext, hc]; exact q1), q2⟩
      · obtain ⟨T, env', h', q1, q2⟩ := run_of l _ _ _ hy
        exact ⟨_, env', h', .skip ho hg q1, q2⟩

/-- The frame behind a set of steps. -/
def eS (n : Nat) (S : Nat → Bool) : List Rec → Env → Env
  | [], env => env
  | s :: T, env => eS n S T (if S s.i then aput n env s.o.dst s.v else env)
def allS : Nat → Bool := fun _ => true
theorem aput_ne {env : Env} {d : Option Tmp} {v : AV} {t : Nat} (h : d ≠ some t) : aput n env d v t = env t := by
  cases d with
  | none => rfl
  | some d =>
    show (if d < n then (fun i => if i = d then v else env i) else env) t = env t
    split
    · show (if t = d then v else env t) = env t
      rw [if_neg (fun e => h (by rw [e]))]
    · rfl
theorem aput_agree {env env' : Env} {d : Option Tmp} {v : AV} {t : Nat} (h : env t = env' t) : aput n env d v t = aput n env' d v t := by
  cases d with
  | none => exact h
  | some d =>
    show (if d < n then (fun i => if i = d then v else env i) else env) t = (if d < n then (fun i => if i = d then v else env' i) else env') t
    split
    · show (if t = d then v else env t) = (if t = d then v else env' t)
      rw [h]
    · exact h
theorem eS_append (S : Nat → Bool) : ∀ (T1 T2 : List Rec) (env : Env), eS n S (T1 ++ T2) env = eS n S T2 (eS n S T1 env)
  | [], _, _ => rfl
  | s :: T1, T2, env => by simp only [List.cons_append, eS]; exact eS_append S T1 T2 _
theorem eS_congr {S S' : Nat → Bool} {t : Nat} : ∀ (T : List Rec) (env env' : Env), (∀ s ∈ T, s.o.dst = some t → S s.i = S' s.i) → env t = env' t → eS n S T env t = eS n S' T env' t
  | [], _, _, _, h => h
  | s :: T, env, env', hs, h => by
    simp only [eS]
    apply eS_congr T _ _ (fun s' h' => hs s' (by simp [h']))
    by_cases hd : s.o.dst = some t
    · rw [hs s (by simp) hd]
      split
      · exact aput_agree h
      · exact h
    · have e1 : (if S s.i then aput n env s.o.dst s.v else env) t = env t := by
        split
        · exact aput_ne hd
        · rfl
      have e2 : (if S' s.i then aput n env' s.o.dst s.v else env') t = env' t := by
        split
        · exact aput_ne hd
        · rfl
      rw [e1, e2]; exact h
theorem eS_none {S : Nat → Bool} {t : Nat} : ∀ (T : List Rec) (env : Env), (∀ s ∈ T, s.o.dst = some t → S s.i = false) → eS n S T env t = env t
  | [], _, _ => rfl
  | s :: T, env, hs => by
    simp only [eS]
    rw [eS_none T _ (fun s' h' => hs s' (by simp [h']))]
    by_cases hd : s.o.dst = some t
    · rw [hs s (by simp) hd]; rfl
    · split
      · exact aput_ne hd
      · rfl

/-- What stands in a step. -/
def Info (P : Program) (call : FuncId → List AV → AHeap → Res) (n : Nat) (ops : Array Oper) (s : Rec) : Prop :=
  ops[s.i]? = some s.o ∧ gd n ops s.o s.env = some s.tk ∧ (s.tk = true → aopR P call s.o (ev n s.env) s.h = some (s.v, s.h')) ∧ (s.tk = false → s.v = .tuple [] ∧ s.h' = s.h)

theorem Run.idx {l : List Nat} {pd : List (Nat × Pend)} {env env' : Env} {h h' : AHeap} {T : List Rec} (r : Run P call n ops ms l pd env h T env' h') : T.map (·.i) = l := by
  induction r with
  | nil => rfl
  | skip ho hg hr ih => simp [ih]
  | take ho hg ha hc hr ih => simp [ih]
theorem Run.last {l : List Nat} {pd : List (Nat × Pend)} {env env' : Env} {h h' : AHeap} {T : List Rec} (r : Run P call n ops ms l pd env h T env' h') : env' = eS n allS T env := by
  induction r with
  | nil => rfl
  | skip ho hg hr ih => rw [ih]; rfl
  | take ho hg ha hc hr ih => rw [ih]; rfl
theorem Run.info {l : List Nat} {pd : List (Nat × Pend)} {env env' : Env} {h h' : AHeap} {T : List Rec} (r : Run P call n ops ms l pd env h T env' h') :
    ∀ T1 s T2, T = T1 ++ s :: T2 → s.env = eS n allS T1 env ∧ Info P call n ops s := by
  induction r with
  | nil => intro T1 s T2 e; simp at e
  | skip ho hg hr ih =>
    intro T1 s T2 e
    cases T1 with
    | nil =>
      simp at e
      obtain ⟨rfl, _⟩ := e
      exact ⟨rfl, ho, hg, fun q => by simp at q, fun _ => ⟨rfl, rfl⟩⟩
    | cons s1 T1 =>
      simp at e
      obtain ⟨rfl, e⟩ := e
      exact ih T1 s T2 e
  | take ho hg ha hc hr ih =>
    intro T1 s T2 e
    cases T1 with
    | nil =>
      simp at e
      obtain ⟨rfl, _⟩ := e
      exact ⟨rfl, ho, hg, fun _ => ha, fun q => by simp at q⟩
    | cons s1 T1 =>
      simp at e
      obtain ⟨rfl, e⟩ := e
      exact ih T1 s T2 e
theorem aopR_len (hlen : CallLen call) {o : Oper} {e : Operand → AV} {h h' : AHeap} {v : AV} (hr : aopR P call o e h = some (v, h')) : h.length ≤ h'.length := by
  obtain ⟨v', h1, h2, h3⟩ := aop_out hlen hr
  cases h2; exact h3
theorem Run.len (hlen : CallLen call) {l : List Nat} {pd : List (Nat × Pend)} {env env' : Env} {h h' : AHeap} {T : List Rec} (r : Run P call n ops ms l pd env h T env' h') : h.length ≤ h'.length := by
  induction r with
  | nil => exact Nat.le_refl _
  | skip ho hg hr ih => exact ih
  | take ho hg ha hc hr ih => exact Nat.le_trans (aopR_len hlen ha) ih

theorem testBit_fold (l : List Edge) (i : Nat) : ∀ (s : Nat), (l.foldl (fun s e => if Region.binds .any e then s ||| 2 ^ e.on ||| ms.getD e.on 0 else s) s).testBit i = true →
    s.testBit i = true ∨ ∃ e ∈ l, Region.binds .any e = true ∧ (i = e.on ∨ (ms.getD e.on 0).testBit i = true) := by
  induction l with
  | nil => intro s h; exact .inl h
  | cons e l ih =>
    intro s h
    rw [List.foldl_cons] at h
    rcases ih _ h with h | ⟨e', h1, h2, h3⟩
    · by_cases hb : Region.binds .any e = true
      · rw [if_pos hb] at h
        simp only [Nat.testBit_or, Bool.or_eq_true] at h
        rcases h with (h | h) | h
        · exact .inl h
        · refine .inr ⟨e, by simp, hb, .inl ?_⟩
          rw [Nat.testBit_two_pow] at h
          exact (by simpa using h : e.on = i).symm
        · exact .inr ⟨e, by simp, hb, .inr h⟩
      · rw [if_neg hb] at h; exact .inl h
    · exact .inr ⟨e', by simp [h1], h2, h3⟩
theorem edgesOk_spec : ∀ (l : List Oper) (k : Nat), edgesOk ms l k = true → ∀ j o, l[j]? = some o → (∀ e ∈ o.after.toList, Region.binds .any e = true → e.on < k + j) ∧ ms.getD (k + j) 0 = maskOf ms o
  | [], k, _, j, o, ho => by simp at ho
  | x :: l, k, h, j, o, ho => by
    simp only [edgesOk, Bool.and_eq_true] at h
    obtain ⟨⟨h1, h2⟩, h3⟩ := h
    cases j with
    | zero =>
      simp at ho; subst ho
      refine ⟨fun e he hb => ?_, by simpa using h2⟩
      have := List.all_eq_true.1 h1 e he
      simpa [hb] using this
    | succ j =>
      have := edgesOk_spec l (k + 1) h3 j o (by simpa using ho)
      rw [show k + (j + 1) = k + 1 + j from by omega]
      exact this
/-- All that an operation stands behind, over and over. -/
theorem before_step (hm : edgesOk ms ops.toList 0 = true) {i j : Nat} {o : Oper} (ho : ops[j]? = some o) (hb : (ms.getD j 0).testBit i = true) :
    ∃ e ∈ o.after.toList, Region.binds .any e = true ∧ e.on < j ∧ (i = e.on ∨ (ms.getD e.on 0).testBit i = true) := by
  obtain ⟨h1, h2⟩ := edgesOk_spec ops.toList 0 hm j o (by simpa using ho)
  rw [Nat.zero_add] at h1 h2
  rw [h2] at hb
  rcases testBit_fold _ _ _ hb with h | ⟨e, h3, h4, h5⟩
  · simp at h
  · exact ⟨e, h3, h4, h1 e h3 h4, h5⟩
/-- A set that no edge leaves. -/
def Closed (ops : Array Oper) (L : Nat → Bool) : Prop := ∀ j o, ops[j]? = some o → L j = true → ∀ e ∈ o.after.toList, Region.binds .any e = true → L e.on = true
theorem closed_before (hm : edgesOk ms ops.toList 0 = true) {L : Nat → Bool} (hc : Closed ops L) : ∀ (j i : Nat) (o : Oper), ops[j]? = some o → L j = true → (ms.getD j 0).testBit i = true → L i = true := by
  intro j
  induction j using Nat.strongRecOn with
  | _ j ih =>
    intro i o ho hj hb
    obtain ⟨e, h1, h2, h3, h4⟩ := before_step hm ho hb
    have he := hc j o ho hj e h1 h2
    rcases h4 with rfl | h4
    · exact he
    · have hjs := (Array.getElem?_eq_some_iff.1 ho).1
      exact ih e.on h3 i ops[e.on] (by simp [Nat.lt_trans h3 hjs]) he h4
theorem ready_before (hm : edgesOk ms ops.toList 0 = true) {L : Nat → Bool} (hc : Closed ops L) {j i : Nat} {o : Oper} (ho : ops[j]? = some o)
    (hr : ∀ e ∈ o.after.toList, Region.binds .any e = true → L e.on = true) (hb : (ms.getD j 0).testBit i = true) : L i = true := by
  obtain ⟨e, h1, h2, h3, h4⟩ := before_step hm ho hb
  have he := hr e h1 h2
  rcases h4 with rfl | h4
  · exact he
  · have hjs := (Array.getElem?_eq_some_iff.1 ho).1
    exact closed_before hm hc e.on i ops[e.on] (by simp [Nat.lt_trans h3 hjs]) he h4
theorem pairsOk_spec : ∀ (l : List Nat), pairsOk ops ms l = true → ∀ l1 i l2, l = l1 ++ i :: l2 → ∀ j ∈ l2, pairOk ops ms i j = true
  | [], _, l1, i, l2, e => by simp at e
  | x :: l, h, l1, i, l2, e => by
    simp only [pairsOk, Bool.and_eq_true] at h
    cases l1 with
    | nil =>
      simp at e
      obtain ⟨rfl, rfl⟩ := e
      exact List.all_eq_true.1 h.1
    | cons y l1 =>
      simp at e
      exact pairsOk_spec l h.2 l1 i l2 e.2
end
end Go.Ab
end
section
/-
  Regions whose order is open: the state while an order is gone through, and its steps.
-/
namespace Go.Ab
open Go.RowKit

section
variable {P : Program} {call : FuncId → List AV → AHeap → Res} {n : Nat} {ops : Array Oper} {ms : List Nat} {B N : Nat}

/-- What an operation that waits is to find. -/
def Lag (P : Program) (call : FuncId → List AV → AHeap → Res) (n : Nat) (ρ : RMap) (hp : AHeap) (s : Rec) : Prop :=
  (cls s.o.op = .read → aopR P call s.o (ev n s.env) hp = some (s.v, hp)) ∧
  (cls s.o.op = .alloc → ρ s.h.length = none ∧ ∃ cs, hget hp s.h.length = some (.cells false cs) ∧ s.h' = hnew s.h cs)

structure J (P : Program) (call : FuncId → List AV → AHeap → Res) (n : Nat) (ops : Array Oper) (ms : List Nat) (B N : Nat) (env0 : Env) (ρ0 : RMap) (h0 : AHeap) (w0 : World) (ds : List Deferred)
    (T : List Rec) (envF : Env) (hF : AHeap) (L : Nat → Bool) (ρ : RMap) (a : Act) (w : World) (done todo : List Rec) (lt : List Nat) (pd : List (Nat × Pend)) (hp : AHeap) : Prop where
  parts : T = done ++ todo
  closed : Closed ops L
  hdone : ∀ s ∈ done, cls s.o.op = .chain → L s.i = true
  htodo : ∀ s ∈ todo, L s.i = false
  run : Run P call n ops ms lt pd (eS n allS done env0) hp todo envF hF
  pend : ∀ s ∈ done, s.tk = true → (cls s.o.op = .read → (s.i, .rd s.o s.env s.v) ∈ pd) ∧ (cls s.o.op = .alloc → (s.i, .al s.h.length) ∈ pd)
  lag : ∀ s ∈ done, L s.i = false → s.tk = true → Lag P call n ρ hp s
  rep : Rep B ρ hp w
  env : ERel ρ n (eS n L T env0) a
  evo : Evo B ρ0 h0 w0 ρ hp w
  defers : a.defers = ds
  fresh : ∀ id, hp.length ≤ id → id < N → ρ id = none

/-- What is known of the whole run. -/
structure Whole (P : Program) (call : FuncId → List AV → AHeap → Res) (n : Nat) (ops : Array Oper) (ms : List Nat) (env0 : Env) (T : List Rec) : Prop where
  edges : edgesOk ms ops.toList 0 = true
  info : ∀ T1 s T2, T = T1 ++ s :: T2 → s.env = eS n allS T1 env0 ∧ Info P call n ops s
  pairs : ∀ T1 s T2, T = T1 ++ s :: T2 → ∀ s' ∈ T2, pairOk ops ms s.i s'.i = true
  all : ∀ i, i < ops.size → ∃ s ∈ T, s.i = i

theorem Whole.infoOf {env0 : Env} {T : List Rec} (W : Whole P call n ops ms env0 T) {s : Rec} (hs : s ∈ T) : Info P call n ops s := by
  obtain ⟨T1, T2, rfl⟩ := List.append_of_mem hs
  exact (W.info T1 s T2 rfl).2
theorem Whole.uniq {env0 : Env} {T : List Rec} (W : Whole P call n ops ms env0 T) {s s' : Rec} (hs : s ∈ T) (hs' : s' ∈ T) (h : s.i = s'.i) : s = s' := by
  obtain ⟨T1, T2, e⟩ := List.append_of_mem hs
  rw [e] at hs'
  rcases List.mem_append.1 hs' with h1 | h1
  · exfalso
    obtain ⟨U1, U2, e2⟩ := List.append_of_mem h1
    have := W.pairs U1 s' (U2 ++ s :: T2) (by rw [e, e2]; simp) s (by simp)
    simp [pairOk, h] at this
  · rcases List.mem_cons.1 h1 with h2 | h2
    · exact h2.symm
    · exfalso
      have := W.pairs T1 s T2 e s' h2
      simp [pairOk, h] at this

theorem pairOk_cases {i j : Nat} {x y : Oper} (h : pairOk ops ms i j = true) (hx : ops[i]? = some x) (hy : ops[j]? = some y) : (ms.getD j 0).testBit i = true ∨ (cls x.op ≠ .chain ∧ x.apart ops y = true) := by
  simp only [pairOk, hx, hy, Bool.and_eq_true, Bool.or_eq_true] at h
  rcases h.2 with h | h
  · exact .inl h
  · exact .inr ⟨by simpa using h.1, h.2⟩

/-- An operation that may go now finds its operands as the evaluator found them. -/
theorem agree {env0 : Env} {T : List Rec} (W : Whole P call n ops ms env0 T) {L : Nat → Bool} (hc : Closed ops L) {T1 T2 : List Rec} {s : Rec} (e : T = T1 ++ s :: T2) (hL : L s.i = false)
    (hr : ∀ e ∈ s.o.after.toList, Region.binds .any e = true → L e.on = true) {t : Nat} (ht : t ∈ s.o.looksAt ops) : eS n L T env0 t = s.env t := by
  obtain ⟨h1, h2⟩ := W.info T1 s T2 e
  rw [h1, e, eS_append]
  have ho := h2.1
  rw [eS_none (s :: T2)]
  · apply eS_congr T1 _ _ _ rfl
    intro s1 hs1 hd
    show L s1.i = true
    obtain ⟨U1, U2, e2⟩ := List.append_of_mem hs1
    have hp := W.pairs U1 s1 (U2 ++ s :: T2) (by rw [e, e2]; simp) s (by simp)
    have ho1 := (W.infoOf (s := s1) (by rw [e]; simp [hs1])).1
    rcases pairOk_cases hp ho1 ho with hb | ⟨_, hap⟩
    · exact ready_before W.edges hc ho hr hb
    · exact absurd ht ((Oper.apart_spec hap).1 t hd)
  · intro s2 hs2 hd
    rcases List.mem_cons.1 hs2 with rfl | hs2
    · exact hL
    · have hp := W.pairs T1 s T2 e s2 hs2
      have ho2 := (W.infoOf (s := s2) (by rw [e]; simp [hs2])).1
      rcases pairOk_cases hp ho ho2 with hb | ⟨_, hap⟩
      · cases hl : L s2.i with
        | false => rfl
        | true =>
          have := closed_before W.edges hc _ _ _ ho2 hl hb
          rw [hL] at this; cases this
      · exact absurd ht ((Oper.apart_spec hap).2.2 t hd)

theorem aput_at {env : Env} {v : AV} {t : Nat} (h : t < n) : aput n env (some t) v t = v := by
  show (if t < n then (fun i => if i = t then v else env i) else env) t = v
  rw [if_pos h]
  show (if t = t then v else env t) = v
  rw [if_pos rfl]
/-- The frame behind one step more. -/
theorem env_next {env0 : Env} {T : List Rec} (W : Whole P call n ops ms env0 T) {L L' : Nat → Bool} (hc : Closed ops L) {s : Rec} (hs : s ∈ T) (hL' : ∀ s' ∈ T, L' s'.i = (L s'.i || s'.i == s.i)) (hL : L s.i = false) {t : Nat} (htn : t < n) :
    eS n L' T env0 t = aput n (eS n L T env0) s.o.dst s.v t := by
  obtain ⟨T1, T2, e⟩ := List.append_of_mem hs
  have hne : ∀ s' ∈ T, s' ≠ s → L' s'.i = L s'.i := by
    intro s' h' hn
    rw [hL' s' h']
    have : (s'.i == s.i) = false := by simpa using fun q => hn (W.uniq h' hs q)
    rw [this, Bool.or_false]
  have hself : L' s.i = true := by rw [hL' s hs]; simp
  by_cases hd : s.o.dst = some t
  · rw [hd, aput_at htn, e, eS_append]
    simp only [eS, hself, if_true]
    rw [eS_none T2, hd, aput_at htn]
    intro s2 hs2 hd2
    have hp := W.pairs T1 s T2 e s2 hs2
    have ho := (W.infoOf hs).1
    have hm2 : s2 ∈ T := by rw [e]; simp [hs2]
    have ho2 := (W.infoOf hm2).1
    have hns : s2 ≠ s := by
      intro q
      subst q
      simp [pairOk] at hp
    rcases pairOk_cases hp ho ho2 with hb | ⟨_, hap⟩
    · rw [hne s2 hm2 hns]
      cases hl : L s2.i with
      | false => rfl
      | true =>
        have := closed_before W.edges hc _ _ _ ho2 hl hb
        rw [hL] at this; cases this
    · exact absurd hd2 ((Oper.apart_spec hap).2.1 t hd)
  · rw [aput_ne hd]
    apply eS_congr T _ _ _ rfl
    intro s' hs' hd'
    exact hne s' hs' (fun q => hd (by rw [← q]; exact hd'))

/-- What holds behind one step more, for the frame of the machine. -/
theorem erel_next {env0 : Env} {T : List Rec} (W : Whole P call n ops ms env0 T) {L L' : Nat → Bool} (hc : Closed ops L) {s : Rec} (hs : s ∈ T) (hL' : ∀ s' ∈ T, L' s'.i = (L s'.i || s'.i == s.i)) (hL : L s.i = false)
    {ρ : RMap} {a : Act} {v' : Value} (he : ERel ρ n (eS n L T env0) a) (hv : VRel ρ s.v v') : ERel ρ n (eS n L' T env0) (a.put s.o.dst v') := by
  have := put_rel (d := s.o.dst) he hv
  exact ⟨this.1, fun t ht => by rw [env_next W hc hs hL' hL ht]; exact this.2 t ht⟩

/-- The set with one step more is closed. -/
theorem closed_next {L L' : Nat → Bool} (hc : Closed ops L) {i : Nat} {o : Oper} (ho : ops[i]? = some o) (hr : ∀ e ∈ o.after.toList, Region.binds .any e = true → L e.on = true) (hsub : ∀ j, L j = true → L' j = true)
    (hL' : ∀ j, j < ops.size → L' j = (L j || j == i)) : Closed ops L' := by
  intro j o' ho' hj e he hb
  have hjs := (Array.getElem?_eq_some_iff.1 ho').1
  rw [hL' j hjs] at hj
  rcases Bool.or_eq_true _ _ ▸ hj with h | h
  · exact hsub _ (hc j o' ho' h e he hb)
  · have : j = i := by simpa using h
    subst this
    rw [ho] at ho'; cases ho'
    exact hsub _ (hr e he hb)

variable {env0 : Env} {ρ0 : RMap} {h0 : AHeap} {w0 : World} {ds : List Deferred} {T : List Rec} {envF : Env} {hF : AHeap} {L : Nat → Bool} {ρ : RMap} {a : Act} {w : World} {done todo : List Rec} {lt : List Nat} {pd : List (Nat × Pend)} {hp : AHeap}

theorem rep_append {B : Nat} {ρ : RMap} {h : AHeap} {w : World} (r : Rep B ρ h w) (bs : AHeap) (hn : ∀ id, h.length ≤ id → id < (h ++ bs).length → ρ id = none) : Rep B ρ (h ++ bs) w := by
  have key : ∀ b i blk, ρ b = some i → hget (h ++ bs) b = some blk → hget h b = some blk := by
    intro b i blk h1 h2
    have hb := hget_lt h2
    by_cases hl : b < h.length
    · unfold hget at h2 ⊢
      rw [List.getElem?_append_left hl] at h2; exact h2
    · rw [hn b (by omega) hb] at h1; cases h1
  exact ⟨r.base, fun b i ro cs g1 g2 => r.len b i ro cs g1 (key _ _ _ g1 g2), fun b i ro cs g1 g2 => r.get b i ro cs g1 (key _ _ _ g1 g2), fun b i cs g1 g2 => r.rw' b i cs g1 (key _ _ _ g1 g2),
    fun b i cs g1 g2 => r.low b i cs g1 (key _ _ _ g1 g2), fun b b' i i' cs cs' hne g1 g1' g2 g2' => r.disj b b' i i' cs cs' hne g1 g1' (key _ _ _ g1 g2) (key _ _ _ g1' g2')⟩
theorem evo_append {B : Nat} {ρ0 ρ : RMap} {h0 h : AHeap} {w0 w : World} (e : Evo B ρ0 h0 w0 ρ h w) (bs : AHeap) (hn : ∀ id, h.length ≤ id → id < (h ++ bs).length → ρ id = none) : Evo B ρ0 h0 w0 ρ (h ++ bs) w := by
  refine ⟨e.below, e.cell, ?_, e.rho, ?_, by simp; have := e.len; omega⟩
  · rintro bi off hbi ⟨b, i, cs, g1, g2, g3⟩
    refine e.own bi off hbi ⟨b, i, cs, g1, ?_, g3⟩
    have hb := hget_lt g2
    by_cases hl : b < h.length
    · unfold hget at g2 ⊢
      rw [List.getElem?_append_left hl] at g2; exact g2
    · rw [hn b (by omega) hb] at g1; cases g1
  · intro b g1 g2
    have := e.new b g1 g2
    exact ⟨this.1, by simp; omega⟩

theorem Lag.append {s : Rec} (h : Lag P call n ρ hp s) (bs : AHeap) : Lag P call n ρ (hp ++ bs) s := by
  refine ⟨fun hc => (aop_read hc (h.1 hc)).2 bs, fun hc => ?_⟩
  obtain ⟨h1, cs, h2, h3⟩ := h.2 hc
  exact ⟨h1, cs, hget_append h2 bs, h3⟩

/-- The place moves over what is no link of the chain. -/
theorem J.advance (hlen : CallLen call) (hN : hF.length ≤ N) {s : Rec} {todo' : List Rec} (j : J P call n ops ms B N env0 ρ0 h0 w0 ds T envF hF L ρ a w done (s :: todo') lt pd hp) (hs : cls s.o.op ≠ .chain) :
    ∃ lt' pd' hp', J P call n ops ms B N env0 ρ0 h0 w0 ds T envF hF L ρ a w (done ++ [s]) todo' lt' pd' hp' := by
  obtain ⟨j1, j2, j3, j4, j5, j6, j7, j8, j9, j10, j11, j12⟩ := j
  have parts : T = (done ++ [s]) ++ todo' := by rw [j1]; simp
  have hdone : ∀ q ∈ done ++ [s], cls q.o.op = .chain → L q.i = true := by
    intro q hq hc
    rcases List.mem_append.1 hq with h | h
    · exact j3 q h hc
    · simp at h; subst h; exact absurd hc hs
  have htodo : ∀ q ∈ todo', L q.i = false := fun q hq => j4 q (by simp [hq])
  have henv : eS n allS (done ++ [s]) env0 = aput n (eS n allS done env0) s.o.dst s.v := by rw [eS_append]; rfl
  cases j5 with
  | skip ho hg hr =>
    refine ⟨_, _, _, parts, j2, hdone, htodo, by rw [henv]; exact hr, ?_, ?_, j8, j9, j10, j11, j12⟩
    · intro q hq htk
      rcases List.mem_append.1 hq with h | h
      · exact j6 q h htk
      · simp at h; subst h; simp at htk
    · intro q hq hL htk
      rcases List.mem_append.1 hq with h | h
      · exact j7 q h hL htk
      · simp at h; subst h; simp at htk
  | @take i l _ _ _ _ h1 _ o v _ ho hg ha hc hr =>
    have hsame : ∃ bs, h1 = hp ++ bs ∧ ((cls o.op = .pure ∨ cls o.op = .read) → bs = []) ∧ (cls o.op = .alloc → ∃ cs, bs = [some (.cells false cs)]) := by
      cases hco : cls o.op with
      | pure => exact ⟨[], by simpa using (aop_pure hco ha).1, fun _ => rfl, by simp⟩
      | read => exact ⟨[], by simpa using (aop_read hco ha).1, fun _ => rfl, by simp⟩
      | alloc =>
        obtain ⟨cs, e, _⟩ := aop_alloc hco ha
        exact ⟨[some (.cells false cs)], e, by simp, fun _ => ⟨cs, rfl⟩⟩
      | chain => exact absurd hco hs
    obtain ⟨bs, rfl, hb1, hb2⟩ := hsame
    have hle := hr.len hlen
    have hnone : ∀ id, hp.length ≤ id → id < (hp ++ bs).length → ρ id = none := fun id g1 g2 => j12 id g1 (by omega)
    refine ⟨_, _, hp ++ bs, parts, j2, hdone, htodo, by rw [henv]; exact hr, ?_, ?_, rep_append j8 bs hnone, j9, evo_append j10 bs hnone, j11, fun id g1 g2 => j12 id (by simp at g1; omega) g2⟩
    · intro q hq htk
      rcases List.mem_append.1 hq with h | h
      · obtain ⟨g1, g2⟩ := j6 q h htk
        refine ⟨fun hc => ?_, fun hc => ?_⟩
        · have := g1 hc
          unfold pdNext
          split
          · exact List.mem_cons_of_mem _ this
          · exact List.mem_cons_of_mem _ this
          · exact this
        · have := g2 hc
          unfold pdNext
          split
          · exact List.mem_cons_of_mem _ this
          · exact List.mem_cons_of_mem _ this
          · exact this
      · simp at h; subst h
        refine ⟨fun hc => ?_, fun hc => ?_⟩
        · simp only at hc
          simp only [pdNext, hc]
          exact List.mem_cons_self ..
        · simp only at hc
          simp only [pdNext, hc]
          exact List.mem_cons_self ..
    · intro q hq hL htk
      rcases List.mem_append.1 hq with h | h
      · exact (j7 q h hL htk).append bs
      · simp at h; subst h
        refine ⟨fun hc => ?_, fun hc => ?_⟩
        · simp only at hc
          exact (aop_read hc ha).1 ▸ (aop_read hc ha).2 bs
        · simp only at hc
          obtain ⟨cs, rfl⟩ := hb2 hc
          refine ⟨j12 _ (Nat.le_refl _) (by simp at hle; simp; omega), cs, ?_, rfl⟩
          have := hget_new hp cs hp.length
          rw [if_pos rfl] at this
          exact this
theorem J.norm (hlen : CallLen call) (hN : hF.length ≤ N) : ∀ (todo done : List Rec) (lt : List Nat) (pd : List (Nat × Pend)) (hp : AHeap), J P call n ops ms B N env0 ρ0 h0 w0 ds T envF hF L ρ a w done todo lt pd hp →
    ∃ done' todo' lt' pd' hp', J P call n ops ms B N env0 ρ0 h0 w0 ds T envF hF L ρ a w done' todo' lt' pd' hp' ∧ ∀ s ∈ todo'.head?, cls s.o.op = .chain
  | [], done, lt, pd, hp, j => ⟨done, [], lt, pd, hp, j, by simp⟩
  | s :: todo, done, lt, pd, hp, j => by
    by_cases hc : cls s.o.op = .chain
    · exact ⟨done, s :: todo, lt, pd, hp, j, by simp [hc]⟩
    · obtain ⟨lt', pd', hp', j'⟩ := j.advance hlen hN hc
      exact J.norm hlen hN todo _ lt' pd' hp' j'
end
end Go.Ab
end
section
/-
  Regions whose order is open: the steps, and the whole.
-/
namespace Go.Ab
open Go.RowKit

section
variable {P : Program} {call : FuncId → List AV → AHeap → Res} {n : Nat} {ops : Array Oper} {ms : List Nat} {B N : Nat}
variable {env0 : Env} {ρ0 : RMap} {h0 : AHeap} {w0 : World} {ds : List Deferred} {T : List Rec} {envF : Env} {hF : AHeap} {L : Nat → Bool} {ρ : RMap} {a : Act} {w : World} {done todo : List Rec} {lt : List Nat} {pd : List (Nat × Pend)} {hp : AHeap}

theorem Run.first (hlen : CallLen call) {l : List Nat} {pd : List (Nat × Pend)} {env env' : Env} {h h' : AHeap} {T : List Rec} (r : Run P call n ops ms l pd env h T env' h') : ∀ s ∈ T, h.length ≤ s.h.length := by
  induction r with
  | nil => intro s hs; simp at hs
  | skip ho hg hr ih =>
    intro s hs
    rcases List.mem_cons.1 hs with rfl | hs
    · exact Nat.le_refl _
    · exact ih s hs
  | take ho hg ha hc hr ih =>
    intro s hs
    rcases List.mem_cons.1 hs with rfl | hs
    · exact Nat.le_refl _
    · exact Nat.le_trans (aopR_len hlen ha) (ih s hs)
theorem Run.mono (hlen : CallLen call) {l : List Nat} {pd : List (Nat × Pend)} {env env' : Env} {h h' : AHeap} {T : List Rec} (r : Run P call n ops ms l pd env h T env' h') :
    ∀ T1 s T2, T = T1 ++ s :: T2 → ∀ s' ∈ T2, s.h'.length ≤ s'.h.length := by
  induction r with
  | nil => intro T1 s T2 e; simp at e
  | skip ho hg hr ih =>
    intro T1 s T2 e s' hs'
    cases T1 with
    | nil =>
      simp at e
      obtain ⟨rfl, rfl⟩ := e
      exact hr.first hlen s' hs'
    | cons s1 T1 =>
      simp at e
      obtain ⟨rfl, e⟩ := e
      exact ih T1 s T2 e s' hs'
  | take ho hg ha hc hr ih =>
    intro T1 s T2 e s' hs'
    cases T1 with
    | nil =>
      simp at e
      obtain ⟨rfl, rfl⟩ := e
      exact hr.first hlen s' hs'
    | cons s1 T1 =>
      simp at e
      obtain ⟨rfl, e⟩ := e
      exact ih T1 s T2 e s' hs'

/-- Two that make memory make different blocks. -/
theorem other_block (W : Whole P call n ops ms env0 T) (hm : ∀ T1 s T2, T = T1 ++ s :: T2 → ∀ s' ∈ T2, s.h'.length ≤ s'.h.length) {s q : Rec} (hs : s ∈ T) (hq : q ∈ T) (hne : q ≠ s)
    {cs ds' : List AV} (h1 : s.h' = hnew s.h cs) (h2 : q.h' = hnew q.h ds') : q.h.length ≠ s.h.length := by
  obtain ⟨T1, T2, e⟩ := List.append_of_mem hs
  rw [e] at hq
  rcases List.mem_append.1 hq with h | h
  · obtain ⟨U1, U2, e2⟩ := List.append_of_mem h
    have := hm U1 q (U2 ++ s :: T2) (by rw [e, e2]; simp) s (by simp)
    rw [h2] at this
    simp at this; omega
  · rcases List.mem_cons.1 h with h | h
    · exact absurd h hne
    · have := hm T1 s T2 e q h
      rw [h1] at this
      simp at this; omega

theorem ops_agree (W : Whole P call n ops ms env0 T) (hc : Closed ops L) {s : Rec} (hs : s ∈ T) (hL : L s.i = false) (hr : ∀ e ∈ s.o.after.toList, Region.binds .any e = true → L e.on = true) :
    (∀ x ∈ s.o.op.operands.toList, ev n s.env x = ev n (eS n L T env0) x) ∧ (∀ d, (match s.o.guard with | some (j, _) => (ops[j]?).bind (·.dst) | none => none) = some d → eS n L T env0 d = s.env d) := by
  obtain ⟨T1, T2, e⟩ := List.append_of_mem hs
  have ag := fun t ht => agree W hc e hL hr (t := t) ht
  refine ⟨fun x hx => ?_, fun d hd => ?_⟩
  · cases x with
    | tmp t =>
      have : t ∈ s.o.looksAt ops := by
        unfold Oper.looksAt
        exact List.mem_append_left _ (List.mem_filterMap.2 ⟨.tmp t, hx, rfl⟩)
      simp only [ev]
      rw [ag t this]
    | _ => rfl
  · refine ag d ?_
    unfold Oper.looksAt
    refine List.mem_append_right _ ?_
    cases hg : s.o.guard with
    | none => rw [hg] at hd; cases hd
    | some jw =>
      obtain ⟨j, want⟩ := jw
      rw [hg] at hd
      simp only at hd ⊢
      rw [hd]; simp

theorem wanted_of (W : Whole P call n ops ms env0 T) (hc : Closed ops L) {s : Rec} (hs : s ∈ T) (hL : L s.i = false) (hr : ∀ e ∈ s.o.after.toList, Region.binds .any e = true → L e.on = true) (he : ERel ρ n (eS n L T env0) a) :
    Region.wanted s.o (yielded ops a.tmps) = s.tk := by
  refine gd_wanted (ρ := ρ) (W.infoOf hs).2.1 he.1 fun d hd hdn => ?_
  rw [← (ops_agree W hc hs hL hr).2 d hd]
  exact he.2 d hdn

theorem put_defers (a : Act) (d : Option Tmp) (v : Value) : (a.put d v).defers = a.defers := by cases d <;> rfl
/-- What holds behind a step. -/
def Then (P : Program) (call : FuncId → List AV → AHeap → Res) (n : Nat) (ops : Array Oper) (ms : List Nat) (B N : Nat) (env0 : Env) (ρ0 : RMap) (h0 : AHeap) (w0 : World) (ds : List Deferred)
    (T : List Rec) (envF : Env) (hF : AHeap) (L' : Nat → Bool) : Act → World → Prop :=
  fun a w => ∃ ρ done todo lt pd hp, J P call n ops ms B N env0 ρ0 h0 w0 ds T envF hF L' ρ a w done todo lt pd hp

theorem J.chain (hcall : CallSim P B call) (hlen : CallLen call) (hN : hF.length ≤ N) (W : Whole P call n ops ms env0 T) {s : Rec} {todo' : List Rec} (j : J P call n ops ms B N env0 ρ0 h0 w0 ds T envF hF L ρ a w done (s :: todo') lt pd hp)
    (hs : cls s.o.op = .chain) (hr : ∀ e ∈ s.o.after.toList, Region.binds .any e = true → L e.on = true) {L' : Nat → Bool} (hsub : ∀ q, L q = true → L' q = true) (hL' : ∀ q, q < ops.size → L' q = (L q || q == s.i)) (Q : Exit → Act → World → Prop) :
    wpOp P ops Q s.i (Then P call n ops ms B N env0 ρ0 h0 w0 ds T envF hF L') a w := by
  obtain ⟨j1, j2, j3, j4, j5, j6, j7, j8, j9, j10, j11, j12⟩ := j
  have hsT : s ∈ T := by rw [j1]; simp
  have hL := j4 s (by simp)
  have hinfo := W.infoOf hsT
  have hlt : ∀ q ∈ T, q.i < ops.size := fun q hq => (Array.getElem?_eq_some_iff.1 (W.infoOf hq).1).1
  have hL'' : ∀ q ∈ T, L' q.i = (L q.i || q.i == s.i) := fun q hq => hL' _ (hlt q hq)
  have hcl' := closed_next j2 hinfo.1 hr hsub hL'
  have parts : T = (done ++ [s]) ++ todo' := by rw [j1]; simp
  have hdone : ∀ q ∈ done ++ [s], cls q.o.op = .chain → L' q.i = true := by
    intro q hq hc
    rcases List.mem_append.1 hq with h | h
    · exact hsub _ (j3 q h hc)
    · simp at h; subst h; rw [hL'' q hsT]; simp
  have htodo : ∀ q ∈ todo', L' q.i = false := by
    intro q hq
    have hqT : q ∈ T := by rw [j1]; simp [hq]
    rw [hL'' q hqT, j4 q (by simp [hq])]
    have : q ≠ s := by
      intro e
      subst e
      have := W.pairs done q todo' j1 q hq
      simp [pairOk] at this
    simpa using fun e => this (W.uniq hqT hsT e)
  have henv : eS n allS (done ++ [s]) env0 = aput n (eS n allS done env0) s.o.dst s.v := by rw [eS_append]; rfl
  have hwant := wanted_of W j2 hsT hL hr j9
  have hLd : ∀ q ∈ done, L' q.i = false → L q.i = false := by
    intro q hq h
    cases hl : L q.i with
    | false => rfl
    | true => rw [hsub _ hl] at h; cases h
  unfold wpOp
  rw [hinfo.1]
  simp only
  cases j5 with
  | skip ho hg hrn =>
    rw [hwant]
    simp only [Bool.false_eq_true, if_false]
    refine ⟨ρ, done ++ [_], todo', _, _, hp, parts, hcl', hdone, htodo, by rw [henv]; exact hrn, ?_, ?_, j8, erel_next W j2 hsT hL'' hL j9 (undef_rel ρ), j10, ?_, j12⟩
    · intro q hq htk
      rcases List.mem_append.1 hq with h | h
      · exact j6 q h htk
      · simp at h; subst h; simp at htk
    · intro q hq hLq htk
      rcases List.mem_append.1 hq with h | h
      · exact j7 q h (hLd q h hLq) htk
      · simp at h; subst h; simp at htk
    · rw [← j11]; exact put_defers _ _ _
  | @take i l _ _ _ _ h1 _ o v _ ho hg ha hc hrn =>
    rw [hwant]
    simp only [if_true]
    left
    have hag := ops_agree W j2 hsT hL hr
    have ha' : aop P call o (ev n (eS n L T env0)) hp (fun v h' => some (v, h')) = some (v, h1) := by
      rw [← aop_congr hag.1]; exact ha
    have hle := hrn.len hlen
    have hsim := aop_sim hcall ha' (N := N) (by intro v' h' e; cases e; omega) j8 j12 (ev_rel j9) Q
    refine Oper.wp_mono ?_ hsim
    rintro a' w' ⟨ρ', v1, v', h', hk, rfl, hv, R', EV⟩
    cases hk
    have hchk := hc hs
    have hlag : ∀ q ∈ done, L q.i = false → q.tk = true → Lag P call n ρ' h1 q := by
      intro q hq hLq htk
      have hqT : q ∈ T := by rw [j1]; simp [hq]
      have hnb : (ms.getD i 0).testBit q.i = false := by
        cases hb : (ms.getD i 0).testBit q.i with
        | false => rfl
        | true =>
          have := ready_before W.edges j2 hinfo.1 hr hb
          rw [hLq] at this; cases this
      obtain ⟨p1, p2⟩ := j6 q hq htk
      obtain ⟨l1, l2⟩ := j7 q hq hLq htk
      refine ⟨fun hcq => ?_, fun hcq => ?_⟩
      · have := List.all_eq_true.1 hchk _ (p1 hcq)
        simp only [pendOk, hnb, Bool.false_or] at this
        exact aop_again hcq (chkRd_some this)
      · have := List.all_eq_true.1 hchk _ (p2 hcq)
        simp only [pendOk, hnb, Bool.false_or] at this
        obtain ⟨g1, cs, g2, g3⟩ := l2 hcq
        refine ⟨?_, cs, ?_, g3⟩
        · by_cases hn : ρ' q.h.length = none
          · exact hn
          · have := EV.new _ g1 hn
            have := hget_lt g2
            omega
        · rw [← chkAl_eq this]; exact g2
    refine ⟨ρ', done ++ [_], todo', _, _, h1, parts, hcl', hdone, htodo, by rw [henv]; exact hrn, ?_, ?_, R', erel_next W j2 hsT hL'' hL (j9.evo EV) hv, j10.trans EV, ?_, fresh_step EV j12⟩
    · have hpd : pdNext i o (eS n allS done env0) v hp pd = pd := by simp only [pdNext]; simp only at hs; rw [hs]
      rw [hpd]
      intro q hq htk
      rcases List.mem_append.1 hq with h | h
      · exact j6 q h htk
      · simp at h; subst h
        simp only at hs
        exact ⟨fun q => absurd (hs.symm.trans q) (by decide), fun q => absurd (hs.symm.trans q) (by decide)⟩
    · intro q hq hLq htk
      rcases List.mem_append.1 hq with h | h
      · exact hlag q h (hLd q h hLq) htk
      · simp at h; subst h
        simp only at hs
        exact ⟨fun q => absurd (hs.symm.trans q) (by decide), fun q => absurd (hs.symm.trans q) (by decide)⟩
    · rw [← j11]; exact put_defers _ _ _

theorem J.late (hcall : CallSim P B call) (hlen : CallLen call) (hN : hF.length ≤ N) (W : Whole P call n ops ms env0 T) (hm : ∀ T1 s T2, T = T1 ++ s :: T2 → ∀ s' ∈ T2, s.h'.length ≤ s'.h.length) (hfst : ∀ s ∈ T, h0.length ≤ s.h.length)
    (j : J P call n ops ms B N env0 ρ0 h0 w0 ds T envF hF L ρ a w done todo lt pd hp)
    {s : Rec} (hsd : s ∈ done) (hL : L s.i = false) (hr : ∀ e ∈ s.o.after.toList, Region.binds .any e = true → L e.on = true) {L' : Nat → Bool} (hsub : ∀ q, L q = true → L' q = true) (hL' : ∀ q, q < ops.size → L' q = (L q || q == s.i)) (Q : Exit → Act → World → Prop) :
    wpOp P ops Q s.i (Then P call n ops ms B N env0 ρ0 h0 w0 ds T envF hF L') a w := by
  obtain ⟨j1, j2, j3, j4, j5, j6, j7, j8, j9, j10, j11, j12⟩ := j
  have hsT : s ∈ T := by rw [j1]; simp [hsd]
  have hinfo := W.infoOf hsT
  have hlt : ∀ q ∈ T, q.i < ops.size := fun q hq => (Array.getElem?_eq_some_iff.1 (W.infoOf hq).1).1
  have hL'' : ∀ q ∈ T, L' q.i = (L q.i || q.i == s.i) := fun q hq => hL' _ (hlt q hq)
  have hcl' := closed_next j2 hinfo.1 hr hsub hL'
  have hdone : ∀ q ∈ done, cls q.o.op = .chain → L' q.i = true := fun q hq hc => hsub _ (j3 q hq hc)
  have htodo : ∀ q ∈ todo, L' q.i = false := by
    intro q hq
    have hqT : q ∈ T := by rw [j1]; simp [hq]
    rw [hL'' q hqT, j4 q hq]
    have : q ≠ s := by
      intro e
      subst e
      obtain ⟨U1, U2, e2⟩ := List.append_of_mem hsd
      have := W.pairs U1 q (U2 ++ todo) (by rw [j1, e2]; simp) q (by simp [hq])
      simp [pairOk] at this
    simpa using fun e => this (W.uniq hqT hsT e)
  have hwant := wanted_of W j2 hsT hL hr j9
  have hLd : ∀ q ∈ done, L' q.i = false → L q.i = false ∧ q ≠ s := by
    intro q hq h
    refine ⟨?_, ?_⟩
    · cases hl : L q.i with
      | false => rfl
      | true => rw [hsub _ hl] at h; cases h
    · intro e; subst e; rw [hL'' q hsT] at h; simp at h
  have hnc : cls s.o.op ≠ .chain := fun hc => by rw [j3 s hsd hc] at hL; cases hL
  unfold wpOp
  rw [hinfo.1]
  simp only
  rw [hwant]
  cases htk : s.tk with
  | false =>
    simp only [Bool.false_eq_true, if_false]
    have hv : s.v = .tuple [] := (hinfo.2.2.2 htk).1
    refine ⟨ρ, done, todo, lt, pd, hp, j1, hcl', hdone, htodo, j5, j6, fun q hq hLq => j7 q hq (hLd q hq hLq).1, j8, erel_next W j2 hsT hL'' hL j9 (by rw [hv]; exact undef_rel ρ), j10, ?_, j12⟩
    rw [← j11]; exact put_defers _ _ _
  | true =>
    simp only [if_true]
    left
    have hag := ops_agree W j2 hsT hL hr
    have hans := hinfo.2.2.1 htk
    have hlag := j7 s hsd hL htk
    -- what only computes or reads
    have quiet : aopR P call s.o (ev n s.env) hp = some (s.v, hp) → s.o.wp P a w (Then P call n ops ms B N env0 ρ0 h0 w0 ds T envF hF L') Q := by
      intro hq
      have ha' : aop P call s.o (ev n (eS n L T env0)) hp (fun v h' => some (v, h')) = some (s.v, hp) := by
        rw [← aop_congr hag.1]; exact hq
      have hle := j5.len hlen
      have hsim := aop_sim hcall ha' (N := N) (by intro v' h' e; cases e; omega) j8 j12 (ev_rel j9) Q
      refine Oper.wp_mono ?_ hsim
      rintro a' w' ⟨ρ', v1, v', h', hk, rfl, hv, R', EV⟩
      cases hk
      refine ⟨ρ', done, todo, lt, pd, hp, j1, hcl', hdone, htodo, j5, j6, ?_, R', erel_next W j2 hsT hL'' hL (j9.evo EV) hv, j10.trans EV, ?_, fresh_step EV j12⟩
      · intro q hq hLq htq
        obtain ⟨l1, l2⟩ := j7 q hq (hLd q hq hLq).1 htq
        refine ⟨l1, fun hcq => ?_⟩
        obtain ⟨g1, cs, g2, g3⟩ := l2 hcq
        refine ⟨?_, cs, g2, g3⟩
        by_cases hn : ρ' q.h.length = none
        · exact hn
        · have := EV.new _ g1 hn; omega
      · rw [← j11]; exact put_defers _ _ _
    cases hc : cls s.o.op with
    | pure => exact quiet ((aop_pure hc hans).2 hp)
    | read => exact quiet (hlag.1 hc)
    | chain => exact absurd hc hnc
    | alloc =>
      obtain ⟨g1, cs, g2, g3⟩ := hlag.2 hc
      have ha' : aopR P call s.o (ev n (eS n L T env0)) s.h = some (s.v, s.h') := by
        unfold aopR; rw [← aop_congr hag.1]; exact hans
      obtain ⟨cs', e', hrun⟩ := aop_alloc hc ha'
      have : cs' = cs := by
        rw [g3] at e'
        simp only [hnew] at e'
        simpa using (List.append_cancel_left e').symm
      subst this
      obtain ⟨v', arr, t, q1, q2, q3⟩ := hrun ρ w a (ev_rel j9)
      have hR := j8.late g1 g2 arr t q2
      have hE := j10.late j8.base g1 (hfst s hsT) (hget_lt g2) arr t
      refine wp_value q1 ?_
      have hmono := rset_mono (i := ⟨w.heap.size, 0, arr.size⟩) g1
      have hER : ERel (rset ρ s.h.length ⟨w.heap.size, 0, arr.size⟩) n (eS n L T env0) a := ⟨j9.1, fun t ht => VRel.mono hmono _ _ (j9.2 t ht)⟩
      refine ⟨_, done, todo, lt, pd, hp, j1, hcl', hdone, htodo, j5, j6, ?_, hR, erel_next W j2 hsT hL'' hL hER (q3 _ (by simp [rset])), hE, ?_, ?_⟩
      · intro q hq hLq htq
        obtain ⟨hLq', hqs⟩ := hLd q hq hLq
        obtain ⟨l1, l2⟩ := j7 q hq hLq' htq
        refine ⟨l1, fun hcq => ?_⟩
        obtain ⟨k1, ds', k2, k3⟩ := l2 hcq
        refine ⟨?_, ds', k2, k3⟩
        have := other_block W hm hsT (by rw [j1]; simp [hq] : q ∈ T) hqs g3 k3
        unfold rset
        rw [if_neg this]; exact k1
      · rw [← j11]; exact put_defers _ _ _
      · intro id i1 i2
        unfold rset
        rw [if_neg (by have := hget_lt g2; omega)]
        exact j12 id i1 i2
end
end Go.Ab
end
section
/-
  Regions whose order is open: the whole region.
-/
namespace Go.Ab
open Go.RowKit

section
variable {P : Program} {call : FuncId → List AV → AHeap → Res} {n : Nat} {ops : Array Oper} {ms : List Nat} {B N : Nat}

theorem countP_drop (p : Nat → Bool) (i : Nat) (hp : p i = true) : ∀ (l : List Nat), l.Nodup → i ∈ l → l.countP (fun j => p j && j != i) + 1 = l.countP p
  | [], _, h => by simp at h
  | x :: l, hn, h => by
    rw [List.nodup_cons] at hn
    by_cases hx : x = i
    · subst hx
      have e : l.countP (fun j => p j && j != x) = l.countP p := by
        apply List.countP_congr
        intro j hj
        have : j ≠ x := fun e => hn.1 (e ▸ hj)
        simp [this]
      rw [List.countP_cons_of_neg (by simp), List.countP_cons_of_pos hp, e]
    · have hi : i ∈ l := by
        rcases List.mem_cons.1 h with h | h
        · exact absurd h.symm hx
        · exact h
      have ih := countP_drop p i hp l hn.2 hi
      by_cases hpx : p x = true
      · rw [List.countP_cons_of_pos (by simp [hpx, hx]), List.countP_cons_of_pos hpx]; omega
      · rw [List.countP_cons_of_neg (by simp [hpx]), List.countP_cons_of_neg hpx]; omega

/-- How many are not gone through. -/
def left (ops : Array Oper) (listed : Array Bool) : Nat := (List.range ops.size).countP fun j => !listed.getD j true

theorem ready_iff {listed : Array Bool} {i : Nat} : i ∈ Region.ready .any ops listed ↔ i < ops.size ∧ listed.getD i true = false ∧ ∀ o, ops[i]? = some o → ∀ e ∈ o.after.toList, Region.binds .any e = true → listed.getD e.on false = true := by
  unfold Region.ready
  rw [List.mem_filter, List.mem_range]
  constructor
  · rintro ⟨h1, h2⟩
    refine ⟨h1, by simp at h2; simpa using h2.1, fun o ho e he hb => ?_⟩
    rw [ho] at h2
    simp only [Option.map_some, Option.getD_some, Bool.and_eq_true, Array.all_eq_true_iff_forall_mem] at h2
    have := h2.2 e (by simpa using he)
    simpa [hb] using this
  · rintro ⟨h1, h2, h3⟩
    refine ⟨h1, ?_⟩
    have ho : ops[i]? = some ops[i] := by simp [h1]
    rw [ho]
    simp only [h2, Option.map_some, Option.getD_some, Bool.and_eq_true, Array.all_eq_true_iff_forall_mem]
    refine ⟨rfl, fun e he => ?_⟩
    cases hb : Region.binds .any e with
    | false => rfl
    | true => simpa using h3 _ ho e (by simpa using he) hb

theorem getD_set' (listed : Array Bool) (i j : Nat) (hj : j < listed.size) (d : Bool) : (listed.setIfInBounds i true).getD j d = (listed.getD j d || j == i) := by
  rw [Array.getD_eq_getD_getElem?, Array.getD_eq_getD_getElem?, Array.getElem?_setIfInBounds]
  by_cases h : i = j
  · subst h; simp [hj]
  · rw [if_neg h]
    have : (j == i) = false := by simpa using fun e => h e.symm
    rw [this, Bool.or_false]

variable {env0 : Env} {ρ0 : RMap} {h0 : AHeap} {w0 : World} {ds : List Deferred} {T : List Rec} {envF : Env} {hF : AHeap}

theorem any_of (hcall : CallSim P B call) (hlen : CallLen call) (hN : hF.length ≤ N) (W : Whole P call n ops ms env0 T) (hm : ∀ T1 s T2, T = T1 ++ s :: T2 → ∀ s' ∈ T2, s.h'.length ≤ s'.h.length) (hfst : ∀ s ∈ T, h0.length ≤ s.h.length)
    {Q : Exit → Act → World → Prop} (hq : ∀ ρ a w, Rep B ρ hF w → ERel ρ n envF a → Evo B ρ0 h0 w0 ρ hF w → a.defers = ds → Q .normal a w) :
    ∀ (fuel : Nat) (listed : Array Bool) (a : Act) (w : World), listed.size = ops.size → left ops listed ≤ fuel → Then P call n ops ms B N env0 ρ0 h0 w0 ds T envF hF (fun i => listed.getD i false) a w →
      wpAny P .any ops Q fuel listed a w := by
  -- when nothing is ready, all is done
  have fin : ∀ (listed : Array Bool) (a : Act) (w : World), listed.size = ops.size → Then P call n ops ms B N env0 ρ0 h0 w0 ds T envF hF (fun i => listed.getD i false) a w → Region.ready .any ops listed = [] → Q .normal a w := by
    intro listed a w hs hT hr
    have hall : ∀ i, i < ops.size → listed.getD i false = true := by
      intro i
      induction i using Nat.strongRecOn with
      | _ i ih =>
        intro hi
        cases hl : listed.getD i false with
        | true => rfl
        | false =>
          exfalso
          have : i ∈ Region.ready .any ops listed := by
            refine ready_iff.2 ⟨hi, ?_, fun o ho e he hb => ?_⟩
            · rw [Array.getD_eq_getD_getElem?] at hl ⊢
              have : listed[i]? = some listed[i] := by simp [hs, hi]
              rw [this] at hl ⊢
              exact hl
            · have := (edgesOk_spec ops.toList 0 W.edges i o (by simpa using ho)).1 e he hb
              exact ih e.on (by omega) (by omega)
          rw [hr] at this; simp at this
    obtain ⟨ρ, done, todo, lt, pd, hp, j1, j2, j3, j4, j5, j6, j7, j8, j9, j10, j11, j12⟩ := hT
    have hlt : ∀ q ∈ T, q.i < ops.size := fun q hq => (Array.getElem?_eq_some_iff.1 (W.infoOf hq).1).1
    have htodo : todo = [] := by
      cases todo with
      | nil => rfl
      | cons s todo =>
        have h1 := j4 s (by simp)
        have h2 := hall s.i (hlt s (by rw [j1]; simp))
        rw [show listed.getD s.i false = false from h1] at h2; cases h2
    subst htodo
    have hi := j5.idx
    have hl := j5.last
    simp at hi
    subst hi
    cases j5
    refine hq ρ a w j8 ⟨j9.1, fun t ht => ?_⟩ j10 j11
    have e := eS_congr (n := n) (S := fun i => listed.getD i false) (S' := allS) (t := t) T env0 env0 (fun s hs _ => hall s.i (hlt s hs)) rfl
    have := j9.2 t ht
    rw [e] at this
    rw [j1] at this
    simpa using this
  intro fuel
  induction fuel with
  | zero =>
    intro listed a w hs hl hT
    have hr : Region.ready .any ops listed = [] := by
      cases hr : Region.ready .any ops listed with
      | nil => rfl
      | cons i r =>
        exfalso
        have : i ∈ Region.ready .any ops listed := by rw [hr]; simp
        obtain ⟨h1, h2, _⟩ := ready_iff.1 this
        have hp := countP_drop (fun j => !listed.getD j true) i (by simp [h2]) (List.range ops.size) List.nodup_range (List.mem_range.2 h1)
        unfold left at hl
        omega
    exact ⟨hr, fin listed a w hs hT hr⟩
  | succ fuel ih =>
    intro listed a w hs hl hT
    refine ⟨fin listed a w hs hT, fun i hi => ?_⟩
    obtain ⟨h1, h2, h3⟩ := ready_iff.1 hi
    obtain ⟨ρ, done, todo, lt, pd, hp, j⟩ := hT
    obtain ⟨done, todo, lt, pd, hp, j, hhead⟩ := J.norm hlen hN todo done lt pd hp j
    obtain ⟨s, hsT, rfl⟩ := W.all i h1
    have hinfo := W.infoOf hsT
    have hr : ∀ e ∈ s.o.after.toList, Region.binds .any e = true → listed.getD e.on false = true := h3 s.o hinfo.1
    have hLf : listed.getD s.i false = false := by
      rw [Array.getD_eq_getD_getElem?] at h2 ⊢
      have : listed[s.i]? = some listed[s.i] := by simp [hs, h1]
      rw [this] at h2 ⊢
      exact h2
    have hset : ∀ q, q < ops.size → (listed.setIfInBounds s.i true).getD q false = (listed.getD q false || q == s.i) := fun q hq => getD_set' listed s.i q (by omega) false
    have hsub : ∀ q, listed.getD q false = true → (listed.setIfInBounds s.i true).getD q false = true := by
      intro q hq
      by_cases hqs : q < listed.size
      · rw [getD_set' listed s.i q hqs, hq]; rfl
      · rw [Array.getD_eq_getD_getElem?] at hq
        have : listed[q]? = none := by simp; omega
        rw [this] at hq; cases hq
    have hleft : left ops (listed.setIfInBounds s.i true) ≤ fuel := by
      have hp := countP_drop (fun j => !listed.getD j true) s.i (by simp [h2]) (List.range ops.size) List.nodup_range (List.mem_range.2 h1)
      have e : left ops (listed.setIfInBounds s.i true) = (List.range ops.size).countP (fun j => !listed.getD j true && j != s.i) := by
        unfold left
        apply List.countP_congr
        intro j hj
        rw [getD_set' listed s.i j (by rw [hs]; exact List.mem_range.1 hj)]
        simp [Bool.not_or, bne]
      unfold left at hl e ⊢
      omega
    have hgo : wpOp P ops Q s.i (Then P call n ops ms B N env0 ρ0 h0 w0 ds T envF hF (fun i => (listed.setIfInBounds s.i true).getD i false)) a w := by
      have hmem : s ∈ done ++ todo := by rw [← j.parts]; exact hsT
      rcases List.mem_append.1 hmem with hd | hd
      · exact j.late hcall hlen hN W hm hfst hd hLf hr hsub hset Q
      · cases todo with
        | nil => simp at hd
        | cons t0 rest =>
          have hc0 : cls t0.o.op = .chain := hhead t0 (by simp)
          rcases List.mem_cons.1 hd with rfl | hd'
          · exact j.chain hcall hlen hN W hc0 hr hsub hset Q
          · exfalso
            have hp := W.pairs done t0 rest j.parts s hd'
            have ht0 : t0 ∈ T := by rw [j.parts]; simp
            rcases pairOk_cases hp (W.infoOf ht0).1 hinfo.1 with hb | ⟨hne, _⟩
            · have := ready_before W.edges j.closed hinfo.1 hr hb
              rw [j.htodo t0 (by simp)] at this; cases this
            · exact hne hc0
    exact wpOp_mono (fun a' w' hT' => ih _ a' w' (by simp [hs]) hleft hT') hgo

theorem ordOk_spec {ord : List Nat} (h : ordOk ops ms ord = true) : edgesOk ms ops.toList 0 = true ∧ (∀ i, i < ops.size → i ∈ ord) ∧ pairsOk ops ms ord = true := by
  simp only [ordOk, Bool.and_eq_true] at h
  obtain ⟨⟨⟨h1, h2⟩, _⟩, h4⟩ := h
  exact ⟨h1, fun i hi => by simpa using List.all_eq_true.1 h2 i (List.mem_range.2 hi), h4⟩

theorem adraw_out {R : Type} (hlen : CallLen call) {K : Env → AHeap → Option R} {r : R} {env : Env} {h : AHeap} (hr : adraw P call n ops env h K = some r) : ∃ env' h', K env' h' = some r ∧ h.length ≤ h'.length := by
  obtain ⟨_, h2⟩ := aif_some hr
  obtain ⟨T, env', h', q1, q2⟩ := run_of _ _ _ _ h2
  exact ⟨env', h', q2, q1.len hlen⟩

theorem adraw_sim (hm : P.follows .mixedOrders = true) (hcall : CallSim P B call) (hlen : CallLen call) {R : Type} {id : Nat} {K : Env → AHeap → Option R} {r : R}
    (hK : ∀ env h', K env h' = some r → h'.length ≤ N) {Q : Exit → Act → World → Prop} {env : Env} {h : AHeap} {ρ : RMap} {a : Act} {w : World}
    (hr : adraw P call n ops env h K = some r) (R1 : Rep B ρ h w) (E1 : ERel ρ n env a) (hf : ∀ id, h.length ≤ id → id < N → ρ id = none)
    (hq : ∀ ρ' env' h' a' w', K env' h' = some r → Rep B ρ' h' w' → ERel ρ' n env' a' → Evo B ρ h w ρ' h' w' → a'.defers = a.defers → Q .normal a' w') :
    (Code.region id ops true).wp P Q a w := by
  obtain ⟨h1, h2⟩ := aif_some hr
  obtain ⟨o1, o2, o3⟩ := ordOk_spec h1
  obtain ⟨T, envF, hF, q1, q2⟩ := run_of _ _ _ _ h2
  have hidx := q1.idx
  have W : Whole P call n ops (masks ops.toList []) env T := by
    refine ⟨o1, fun T1 s T2 e => q1.info T1 s T2 e, ?_, ?_⟩
    · intro T1 s T2 e s' hs'
      have := pairsOk_spec _ o3 (T1.map (·.i)) s.i (T2.map (·.i)) (by rw [← hidx, e]; simp) s'.i (List.mem_map_of_mem hs')
      exact this
    · intro i hi
      have := o2 i hi
      rw [← hidx] at this
      obtain ⟨s, hs, e⟩ := List.mem_map.1 this
      exact ⟨s, hs, e⟩
  refine wp_region_any hm ?_
  refine any_of (N := N) (ds := a.defers) (env0 := env) (ρ0 := ρ) (h0 := h) (w0 := w) hcall hlen (hK _ _ q2) W (fun T1 s T2 e => q1.mono hlen T1 s T2 e) (q1.first hlen)
    (fun ρ' a' w' g1 g2 g3 g4 => hq ρ' envF hF a' w' q2 g1 g2 g3 g4) ops.size _ a _ (by simp) ?_ ?_
  · unfold left
    exact Nat.le_trans List.countP_le_length (by simp)
  · have hfalse : ∀ i, (Array.replicate ops.size false).getD i false = false := by
      intro i
      rw [Array.getD_eq_getD_getElem?, Array.getElem?_replicate]
      split <;> rfl
    refine ⟨ρ, [], T, _, [], h, rfl, ?_, by simp, fun s _ => hfalse _, q1, by simp, by simp, R1.drew, ?_, Evo.drew' (Evo.refl _ _ _ _), rfl, hf⟩
    · intro j o ho hj
      simp only [hfalse] at hj; cases hj
    · have : ∀ t, eS n (fun i => (Array.replicate ops.size false).getD i false) T env t = env t := fun t => eS_none T env fun s _ _ => hfalse _
      exact ⟨E1.1, fun t ht => by rw [this]; exact E1.2 t ht⟩
end
end Go.Ab
end
section
/-
  Code, functions: what the evaluator says of them is what the machine does.
-/
namespace Go.Ab
open Go.RowKit

def toExit : AExit → Exit
  | .normal => .normal
  | .brk i => .exit i
  | .ret => .ret

section
variable {P : Program} {B N : Nat} {call : FuncId → List AV → AHeap → Res} {n m : Nat}

theorem acode_out (hlen : CallLen call) : ∀ (c : Code) (an : AN) (env : Env) (h : AHeap) (K : Kont) (r : AV × AHeap), acode P call (fun k st => aiter k st m) n an c env h K = some r →
    ∃ e env' h', K e env' h' = some r ∧ h.length ≤ h'.length := by
  intro c
  induction c with
  | skip => intro an env h K r hr; simp only [acode] at hr; exact ⟨_, _, _, hr, Nat.le_refl _⟩
  | region id ops draw =>
    intro an env h K r hr
    simp only [acode] at hr
    split at hr
    · obtain ⟨_, _, h1, h2⟩ := adraw_out hlen hr; exact ⟨_, _, _, h1, h2⟩
    · obtain ⟨_, _, h1, h2⟩ := aops_out hlen _ _ _ hr; exact ⟨_, _, _, h1, h2⟩
  | seq a b iha ihb =>
    intro an env h K r hr
    simp only [acode] at hr
    obtain ⟨e, env', h', h1, h2⟩ := iha _ _ _ _ _ hr
    cases e with
    | normal =>
      obtain ⟨e2, env2, h3, h4, h5⟩ := ihb _ _ _ _ _ h1
      exact ⟨e2, env2, h3, h4, Nat.le_trans h2 h5⟩
    | brk i => exact ⟨_, _, _, h1, h2⟩
    | ret => exact ⟨_, _, _, h1, h2⟩
  | cond c a b iha ihb =>
    intro an env h K r hr
    simp only [acode] at hr
    unfold acond at hr
    split at hr
    · exact iha _ _ _ _ _ hr
    · exact ihb _ _ _ _ _ hr
    · cases hr
  | block id b ih =>
    intro an env h K r hr
    simp only [acode] at hr
    obtain ⟨e, env', h', h1, h2⟩ := ih _ _ _ _ _ hr
    cases e with
    | normal => exact ⟨_, _, _, h1, h2⟩
    | brk i =>
      simp only [kblock] at h1
      split at h1
      · exact ⟨_, _, _, h1, h2⟩
      · exact ⟨_, _, _, h1, h2⟩
    | ret => exact ⟨_, _, _, h1, h2⟩
  | loop b ih =>
    intro an env h K r hr
    simp only [acode] at hr
    have key : ∀ (j : Nat) (env : Env) (h : AHeap), aiter an.keep (acode P call (fun k st => aiter k st m) n an.l b) j env h K = some r → ∃ e env' h', K e env' h' = some r ∧ h.length ≤ h'.length := by
      intro j
      induction j with
      | zero => intro env h hr; simp [aiter] at hr
      | succ j ihj =>
        intro env h hr
        simp only [aiter] at hr
        obtain ⟨e, env', h', h1, h2⟩ := ih _ _ _ _ _ hr
        cases e with
        | normal =>
          obtain ⟨e2, env2, h3, h4, h5⟩ := ihj _ _ h1
          exact ⟨e2, env2, h3, h4, Nat.le_trans h2 h5⟩
        | brk i => exact ⟨_, _, _, h1, h2⟩
        | ret => exact ⟨_, _, _, h1, h2⟩
    exact key m _ _ hr
  | exit id => intro an env h K r hr; simp only [acode] at hr; exact ⟨_, _, _, hr, Nat.le_refl _⟩
  | ret => intro an env h K r hr; simp only [acode] at hr; exact ⟨_, _, _, hr, Nat.le_refl _⟩
  | rangeFunc => intro an env h K r hr; simp [acode] at hr
  | scope => intro an env h K r hr; simp [acode] at hr
  | label => intro an env h K r hr; simp [acode] at hr
  | goto => intro an env h K r hr; simp [acode] at hr
  | refuse => intro an env h K r hr; simp [acode] at hr

/-- What a piece of code leaves. -/
def Left (B n : Nat) (ρ : RMap) (h : AHeap) (w : World) (ds : List Deferred) (K : Kont) (r : AV × AHeap) (Q : Exit → Act → World → Prop) : Prop :=
  ∀ (e : AExit) (ρ' : RMap) (env' : Env) (h' : AHeap) (a' : Act) (w' : World), K e env' h' = some r → Rep B ρ' h' w' → ERel ρ' n env' a' → Evo B ρ h w ρ' h' w' → a'.defers = ds → Q (toExit e) a' w'

theorem acode_sim (hm : P.follows .mixedOrders = true) (hcall : CallSim P B call) (hlen : CallLen call) : ∀ (c : Code) (an : AN) (env : Env) (h : AHeap) (K : Kont) (r : AV × AHeap) (ρ : RMap) (a : Act) (w : World) (Q : Exit → Act → World → Prop),
    acode P call (fun k st => aiter k st m) n an c env h K = some r → (∀ e env' h', K e env' h' = some r → h'.length ≤ N) → Rep B ρ h w → ERel ρ n env a → (∀ id, h.length ≤ id → id < N → ρ id = none) →
    Left B n ρ h w a.defers K r Q → c.wp P Q a w := by
  intro c
  induction c with
  | skip => intro an env h K r ρ a w Q hr hK R1 E1 hf hq; exact wp_skip (hq .normal ρ env h a w hr R1 E1 (Evo.refl _ _ _ _) rfl)
  | region id ops draw =>
    intro an env h K r ρ a w Q hr hK R1 E1 hf hq
    simp only [acode] at hr
    cases draw with
    | true =>
      simp only [if_true] at hr
      exact adraw_sim hm hcall hlen (fun env h' q => hK _ _ _ q) hr R1 E1 hf fun ρ' env' h' a' w' q1 q2 q3 q4 q5 => hq .normal ρ' env' h' a' w' q1 q2 q3 q4 q5
    | false =>
      simp only [Bool.false_eq_true, if_false] at hr
      refine wp_region ?_
      have := aops_sim (Q := Q) (N := N) hcall hlen (fun env h' q => hK _ _ _ q) ops.toList 0 env h ρ a w (by intro j; simp) hr R1 E1 hf
        fun ρ' env' h' a' w' q1 q2 q3 q4 q5 => hq .normal ρ' env' h' a' w' q1 q2 q3 q4 q5
      rw [List.range_eq_range']
      simpa using this
  | seq x y ihx ihy =>
    intro an env h K r ρ a w Q hr hK R1 E1 hf hq
    simp only [acode] at hr
    have hKs : ∀ e env' h', kseq (acode P call (fun k st => aiter k st m) n an.r y) an.keep K e env' h' = some r → h'.length ≤ N := by
      intro e env' h' q
      cases e with
      | normal =>
        obtain ⟨e2, env2, h3, h4, h5⟩ := acode_out hlen y _ _ _ _ _ q
        exact Nat.le_trans h5 (hK _ _ _ h4)
      | brk i => exact hK _ _ _ q
      | ret => exact hK _ _ _ q
    refine wp_seq (ihx _ _ _ _ _ _ _ _ _ hr hKs R1 E1 hf ?_)
    intro e ρ' env' h' a' w' q1 q2 q3 q4 q5
    cases e with
    | normal =>
      exact ihy _ _ _ _ _ ρ' a' w' Q q1 hK q2 (era_rel _ q3) (fresh_step q4 hf)
        fun e2 ρ2 env2 h2 a2 w2 p1 p2 p3 p4 p5 => hq e2 ρ2 env2 h2 a2 w2 p1 p2 p3 (q4.trans p4) (p5.trans q5)
    | brk i => exact hq (.brk i) ρ' env' h' a' w' q1 q2 q3 q4 q5
    | ret => exact hq .ret ρ' env' h' a' w' q1 q2 q3 q4 q5
  | cond c x y ihx ihy =>
    intro an env h K r ρ a w Q hr hK R1 E1 hf hq
    simp only [acode] at hr
    have hv := ev_rel E1 c
    unfold acond at hr
    split at hr
    · rename_i hc; rw [hc, VRel.bool_iff] at hv
      exact wp_cond_true hv (ihx _ _ _ _ _ _ _ _ _ hr hK R1 E1 hf hq)
    · rename_i hc; rw [hc, VRel.bool_iff] at hv
      exact wp_cond_false hv (ihy _ _ _ _ _ _ _ _ _ hr hK R1 E1 hf hq)
    · cases hr
  | block id b ih =>
    intro an env h K r ρ a w Q hr hK R1 E1 hf hq
    simp only [acode] at hr
    have hKs : ∀ e env' h', kblock id an.keep K e env' h' = some r → h'.length ≤ N := by
      intro e env' h' q
      cases e with
      | normal => exact hK _ _ _ q
      | brk i =>
        simp only [kblock] at q
        split at q
        · exact hK _ _ _ q
        · exact hK _ _ _ q
      | ret => exact hK _ _ _ q
    refine wp_block (ih _ _ _ _ _ _ _ _ _ hr hKs R1 E1 hf ?_)
    intro e ρ' env' h' a' w' q1 q2 q3 q4 q5
    cases e with
    | normal => exact hq .normal ρ' _ h' a' w' q1 q2 (era_rel _ q3) q4 q5
    | brk i =>
      simp only [kblock] at q1
      simp only [toExit, Exit.inBlock]
      split at q1
      · rename_i hi
        rw [if_pos hi]
        exact hq .normal ρ' _ h' a' w' q1 q2 (era_rel _ q3) q4 q5
      · rename_i hi
        rw [if_neg hi]
        exact hq (.brk i) ρ' env' h' a' w' q1 q2 q3 q4 q5
    | ret => exact hq .ret ρ' env' h' a' w' q1 q2 q3 q4 q5
  | loop b ih =>
    intro an env h K r ρ a w Q hr hK R1 E1 hf hq
    simp only [acode] at hr
    refine wp_loop_rounds m ?_
    have key : ∀ (j : Nat) (env : Env) (h : AHeap) (ρ : RMap) (a : Act) (w : World), aiter an.keep (acode P call (fun k st => aiter k st m) n an.l b) j env h K = some r → Rep B ρ h w → ERel ρ n env a →
        (∀ id, h.length ≤ id → id < N → ρ id = none) → Left B n ρ h w a.defers K r Q → Code.rounds P b Q j a w := by
      intro j
      induction j with
      | zero => intro env h ρ a w hr; simp [aiter] at hr
      | succ j ihj =>
        intro env h ρ a w hr R1 E1 hf hq
        simp only [aiter] at hr
        rw [rounds_succ]
        have hKs : ∀ e env' h', kloop (aiter an.keep (acode P call (fun k st => aiter k st m) n an.l b) j) an.keep K e env' h' = some r → h'.length ≤ N := by
          intro e env' h' q
          cases e with
          | normal =>
            have : ∃ e env'' h'', K e env'' h'' = some r ∧ h'.length ≤ h''.length := by
              simp only [kloop] at q
              clear hr ihj hq hf
              revert q
              generalize era an.keep env' = env0
              intro q
              have gen : ∀ (j : Nat) (env : Env) (h : AHeap), aiter an.keep (acode P call (fun k st => aiter k st m) n an.l b) j env h K = some r → ∃ e env' h', K e env' h' = some r ∧ h.length ≤ h'.length := by
                intro j
                induction j with
                | zero => intro env h hr; simp [aiter] at hr
                | succ j ihj =>
                  intro env h hr
                  simp only [aiter] at hr
                  obtain ⟨e, env', h', h1, h2⟩ := acode_out hlen b _ _ _ _ _ hr
                  cases e with
                  | normal =>
                    obtain ⟨e2, env2, h3, h4, h5⟩ := ihj _ _ h1
                    exact ⟨e2, env2, h3, h4, Nat.le_trans h2 h5⟩
                  | brk i => exact ⟨_, _, _, h1, h2⟩
                  | ret => exact ⟨_, _, _, h1, h2⟩
              exact gen j _ _ q
            obtain ⟨e2, env2, h3, h4, h5⟩ := this
            exact Nat.le_trans h5 (hK _ _ _ h4)
          | brk i => exact hK _ _ _ q
          | ret => exact hK _ _ _ q
        refine ih _ _ _ _ _ _ _ _ _ hr hKs R1 E1 hf ?_
        intro e ρ' env' h' a' w' q1 q2 q3 q4 q5
        cases e with
        | normal =>
          exact ihj _ _ ρ' a' w' q1 q2 (era_rel _ q3) (fresh_step q4 hf)
            fun e2 ρ2 env2 h2 a2 w2 p1 p2 p3 p4 p5 => hq e2 ρ2 env2 h2 a2 w2 p1 p2 p3 (q4.trans p4) (p5.trans q5)
        | brk i => exact hq (.brk i) ρ' env' h' a' w' q1 q2 q3 q4 q5
        | ret => exact hq .ret ρ' env' h' a' w' q1 q2 q3 q4 q5
    exact key m _ _ ρ a w hr R1 (era_rel _ E1) hf hq
  | exit id => intro an env h K r ρ a w Q hr hK R1 E1 hf hq; exact wp_exit (hq (.brk id) ρ env h a w hr R1 E1 (Evo.refl _ _ _ _) rfl)
  | ret => intro an env h K r ρ a w Q hr hK R1 E1 hf hq; exact wp_ret (hq .ret ρ env h a w hr R1 E1 (Evo.refl _ _ _ _) rfl)
  | rangeFunc => intro an env h K r ρ a w Q hr; simp [acode] at hr
  | scope => intro an env h K r ρ a w Q hr; simp [acode] at hr
  | label => intro an env h K r ρ a w Q hr; simp [acode] at hr
  | goto => intro an env h K r ρ a w Q hr; simp [acode] at hr
  | refuse => intro an env h K r ρ a w Q hr; simp [acode] at hr

def resOne (ts : Array Value) : ResultVar → Sem Value
  | .tmp t => pure (ts.getD t undef)
  | .cell a t => do loadVar t (← asAddr (ts.getD a undef))
theorem results_eq (fn : Func) (ts : Array Value) : results fn ts = (do
    let vs ← fn.results.mapM (resOne ts)
    pure (if h : vs.size = 1 then vs[0] else .tuple vs)) := by
  unfold results
  congr 1
theorem aresult_rel {ρ : RMap} {h : AHeap} {w : World} {env : Env} {a : Act} (hr : Rep B ρ h w) (he : ERel ρ n env a) : ∀ (rs : List ResultVar) (l : List AV), aresult P n env h rs = some l →
    ∃ vs : List Value, (rs.mapM (resOne a.tmps)).run P w = .ok vs w ∧ VRels ρ l vs
  | [], l, hl => by simp [aresult] at hl; subst hl; exact ⟨[], by simp, VRels.nil_iff.2 rfl⟩
  | .tmp t :: rs, l, hl => by
    simp only [aresult] at hl
    obtain ⟨l', h1, h2⟩ := Option.bind_eq_some_iff.1 hl
    cases h2
    obtain ⟨vs, e, q⟩ := aresult_rel hr he rs l' h1
    exact ⟨a.tmps.getD t undef :: vs, by simp only [List.mapM_cons, resOne, Sem.run_bind, Sem.run_pure, Result.andThen_ok, e], VRels.cons (ev_rel he (.tmp t)) q⟩
  | .cell c t :: rs, l, hl => by
    simp only [aresult] at hl
    obtain ⟨ag, h1, hl1⟩ := Option.bind_eq_some_iff.1 hl
    obtain ⟨sz, h2, hl2⟩ := Option.bind_eq_some_iff.1 hl1
    obtain ⟨v, h3, hl3⟩ := Option.bind_eq_some_iff.1 hl2
    obtain ⟨l', h4, hl4⟩ := Option.bind_eq_some_iff.1 hl3
    cases hl4
    obtain ⟨vs, e, q⟩ := aresult_rel hr he rs l' h4
    have hv := ev_rel he (.tmp c)
    obtain ⟨v', e1, q1⟩ := run_aload (P := P) hr h1 h2 h3 hv
    have hp : ∃ x, a.eval (.tmp c) = .pointer (some x) := by
      unfold aload at h3
      split at h3
      · rename_i b o hx
        rw [hx] at hv
        obtain ⟨i, _, e⟩ := VRel.ptr_iff.1 hv
        exact ⟨_, e⟩
      · cases h3
    obtain ⟨x, hx⟩ := hp
    have hx' : a.tmps.getD c undef = .pointer (some x) := hx
    refine ⟨v' :: vs, ?_, VRels.cons q1 q⟩
    rw [hx] at e1
    simp only [Instr.loadAt, Instr.sureAddr, Sem.run_bind, Sem.run_pure, Result.andThen_ok] at e1
    have ha : (asAddr (a.tmps.getD c undef)).run P w = .ok x w := by rw [hx']; rfl
    simp only [List.mapM_cons, resOne, Sem.run_bind, ha, Sem.run_pure, Result.andThen_ok, e1, e]

theorem aone_rel {ρ : RMap} {l : List AV} {vs : List Value} (h : VRels ρ l vs) : VRel ρ (aone l) (if h : vs.toArray.size = 1 then vs.toArray[0] else .tuple vs.toArray) := by
  match l, vs, h with
  | [], vs, h => rw [VRels.nil_iff] at h; subst h; exact undef_rel ρ
  | [x], vs, h =>
    obtain ⟨v, vs', rfl, hv, hs⟩ := VRels.cons_iff.1 h
    rw [VRels.nil_iff] at hs; subst hs
    exact hv
  | x :: y :: l, vs, h =>
    have hl := h.length
    simp only [List.length_cons] at hl
    rw [dif_neg (by simp; omega)]
    exact VRel.tuple_iff.2 ⟨_, rfl, by simpa using h⟩
end

theorem acallN_len {P : Program} {Nt : Notes} : ∀ (m : Nat), CallLen (acallN P Nt m)
  | 0 => fun f xs h r hr => by simp [acallN] at hr
  | m + 1 => fun f xs h r hr => by
    simp only [acallN] at hr
    split at hr
    · rename_i x _
      exact x.len _ (acallN_len m) xs h r hr
    · split at hr
      · split at hr
        · obtain ⟨e, env', h', h1, h2⟩ := acode_out (acallN_len m) _ _ _ _ _ _ hr
          cases e with
          | brk i => simp [kend] at h1
          | normal =>
            simp only [kend] at h1
            obtain ⟨l, _, h4⟩ := Option.bind_eq_some_iff.1 h1
            cases h4; exact h2
          | ret =>
            simp only [kend] at h1
            obtain ⟨l, _, h4⟩ := Option.bind_eq_some_iff.1 h1
            cases h4; exact h2
        · cases hr
      · cases hr

theorem args_rel {ρ : RMap} {xs : List AV} {vs : List Value} (h : VRels ρ xs vs) (k : Nat) : ERel ρ (xs.length + (k - xs.length)) (args xs) { tmps := vs.toArray ++ Array.replicate (k - vs.toArray.size) undef, defers := [] } := by
  have hl := h.length
  refine ⟨by simp [hl], fun t ht => ?_⟩
  simp only [args]
  rw [Array.getD_eq_getD_getElem?]
  by_cases h1 : t < xs.length
  · have hx : xs[t]? = some xs[t] := by simp [h1]
    obtain ⟨v, e, q⟩ := h.get t _ hx
    rw [hx, Array.getElem?_append_left (by simp; omega)]
    have : vs.toArray[t]? = some v := by simpa using e
    rw [this]; exact q
  · have hx : xs[t]? = none := by simp; omega
    rw [hx, Array.getElem?_append_right (by simp; omega)]
    have : (Array.replicate (k - vs.toArray.size) undef)[t - vs.toArray.size]? = some undef := by
      rw [Array.getElem?_replicate, if_pos (by simp; omega)]
    rw [this]; exact undef_rel ρ

/-- The given answers are what the machine comes to. -/
def ExtSim (P : Program) (Nt : Notes) : Prop :=
  ∀ (f : FuncId) (x : Given), Nt.ext f = some x → ∀ (B : Nat) (call : FuncId → List AV → AHeap → Res), CallSim P B call → CallLen call → ∀ (xs : List AV) (h : AHeap) (r : AV × AHeap), x.run call xs h = some r →
    ∀ (ρ : RMap) (w : World) (vs : List Value), Rep B ρ h w → VRels ρ xs vs → (∀ id, h.length ≤ id → id < r.2.length → ρ id = none) →
    Calls P f vs.toArray w fun e w' => ∃ (ρ' : RMap) (v : Value), e = .returned v ∧ VRel ρ' r.1 v ∧ Rep B ρ' r.2 w' ∧ Evo B ρ h w ρ' r.2 w'
theorem ExtSim.none {P : Program} {Nt : Notes} (h : ∀ f, Nt.ext f = none) : ExtSim P Nt := fun f x e => by rw [h f] at e; cases e
theorem acallN_sim {P : Program} {Nt : Notes} (hX : ExtSim P Nt) (hm : P.follows .mixedOrders = true) (B : Nat) : ∀ (m : Nat), CallSim P B (acallN P Nt m)
  | 0 => fun f xs h r hr => by simp [acallN] at hr
  | m + 1 => fun f xs h r hr ρ w vs R1 hv hf => by
    have ih := acallN_sim (Nt := Nt) hX hm B m
    simp only [acallN] at hr
    split at hr
    · rename_i x hx
      exact hX f x hx B _ ih (acallN_len m) xs h r hr ρ w vs R1 hv hf
    split at hr
    · rename_i fn hfn
      split at hr
      · rename_i c hc
        refine calls_of_wp hfn hc ?_
        refine acode_sim (N := r.2.length) hm ih (acallN_len m) c _ _ _ _ _ ρ _ w _ hr ?_ R1 (args_rel hv _) hf ?_
        · intro e env' h' q
          cases e with
          | brk i => simp [kend] at q
          | normal => simp only [kend] at q; obtain ⟨l, _, h4⟩ := Option.bind_eq_some_iff.1 q; cases h4; exact Nat.le_refl _
          | ret => simp only [kend] at q; obtain ⟨l, _, h4⟩ := Option.bind_eq_some_iff.1 q; cases h4; exact Nat.le_refl _
        · have fin : ∀ (ρ' : RMap) (env' : Env) (h' : AHeap) (a' : Act) (w' : World), ((aresult P (xs.length + (fn.ntmps - xs.length)) env' h' fn.results.toList).bind fun l => some (aone l, h')) = some r → Rep B ρ' h' w' →
              ERel ρ' (xs.length + (fn.ntmps - xs.length)) env' a' → Evo B ρ h w ρ' h' w' → a'.defers = [] →
              a'.defers = [] ∧ ∃ v, (results fn a'.tmps).run P w' = .ok v w' ∧ ∃ (ρ' : RMap) (v_1 : Value), Ending.returned v = .returned v_1 ∧ VRel ρ' r.1 v_1 ∧ Rep B ρ' r.2 w' ∧ Evo B ρ h w ρ' r.2 w' := by
            intro ρ' env' h' a' w' q1 q2 q3 q4 q5
            obtain ⟨l, h3, h4⟩ := Option.bind_eq_some_iff.1 q1
            cases h4
            obtain ⟨us, e, q⟩ := aresult_rel (P := P) q2 q3 _ _ h3
            refine ⟨q5, _, ?_, ρ', _, rfl, aone_rel q, q2, q4⟩
            rw [results_eq]
            simp only [Sem.run_bind]
            rw [Array.mapM_eq_mapM_toList, Sem.run_map]
            rw [e]
            rfl
          intro e ρ' env' h' a' w' q1 q2 q3 q4 q5
          cases e with
          | brk i => simp [kend] at q1
          | normal => exact fin ρ' env' h' a' w' q1 q2 q3 q4 q5
          | ret => exact fin ρ' env' h' a' w' q1 q2 q3 q4 q5
      · cases hr
    · cases hr
end Go.Ab
end
section
/-
  The evaluator without a bound on its steps: the limit, and its equations.
-/
namespace Go.Ab

/-- One answers wherever the other does, and the same. -/
def Le {R : Type} (x y : Option R) : Prop := ∀ r, x = some r → y = some r
def CallLe (c d : FuncId → List AV → AHeap → Res) : Prop := ∀ f xs h, Le (c f xs h) (d f xs h)
def KLe (K K' : Kont) : Prop := ∀ e env h, Le (K e env h) (K' e env h)
def StLe (s t : Env → AHeap → Kont → Res) : Prop := ∀ env h K K', KLe K K' → Le (s env h K) (t env h K')
abbrev Loop := Option (List Nat) → (Env → AHeap → Kont → Res) → Env → AHeap → Kont → Res
def LoopLe (l m : Loop) : Prop := ∀ k s t, StLe t t → StLe s t → StLe (l k s) (m k t)
theorem Le.refl {R : Type} (x : Option R) : Le x x := fun _ h => h
theorem KLe.refl (K : Kont) : KLe K K := fun _ _ _ _ h => h
theorem Le.bind {α R : Type} {x y : Option α} {f g : α → Option R} (h : Le x y) (k : ∀ a, Le (f a) (g a)) : Le (x.bind f) (y.bind g) := by
  intro r hr
  obtain ⟨a, h1, h2⟩ := Option.bind_eq_some_iff.1 hr
  exact Option.bind_eq_some_iff.2 ⟨a, h a h1, k a r h2⟩

section
variable {P : Program} {n : Nat}

theorem aopR_le {c d : FuncId → List AV → AHeap → Res} (hc : CallLe c d) (o : Oper) (e : Operand → AV) (h : AHeap) : Le (aopR P c o e h) (aopR P d o e h) := by
  obtain ⟨dst, op, ty, pos, after, guard⟩ := o
  cases op with
  | call cc =>
    obtain ⟨callee, cargs, ctypes⟩ := cc
    cases callee with
    | value f =>
      simp only [aopR, aop]
      split
      · split
        · exact (hc _ _ _).bind fun _ => Le.refl _
        · exact Le.refl _
      · exact Le.refl _
    | invoke f name =>
      simp only [aopR, aop]
      split
      · refine (Le.refl _).bind fun g => ?_
        split
        · exact (hc _ _ _).bind fun _ => Le.refl _
        · exact Le.refl _
      · exact Le.refl _
    | builtin b => cases b <;> exact Le.refl _
  | makeFunc fn a b => cases fn <;> exact Le.refl _
  | slice t x lo hi mx => cases mx <;> exact Le.refl _
  | _ => exact Le.refl _
theorem aop_le {R : Type} {c d : FuncId → List AV → AHeap → Res} (hc : CallLe c d) (o : Oper) (e : Operand → AV) (h : AHeap) {K K' : AV → AHeap → Option R} (hk : ∀ v h, Le (K v h) (K' v h)) : Le (aop P c o e h K) (aop P d o e h K') := by
  rw [aop_nat, aop_nat]
  exact (aopR_le hc o e h).bind fun p => hk p.1 p.2
theorem asT_le {R : Type} {t : TypeId} {v : AV} {K K' : AV → Option R} (h : Le (K v) (K' v)) : Le (asT P t v K) (asT P t v K') := by
  rw [asT_eq, asT_eq]
  split
  · exact h
  · exact Le.refl _
theorem aguard_le {R : Type} {ops : Array Oper} {o : Oper} {env : Env} {y y' z z' : Env → Option R} (hy : ∀ env, Le (y env) (y' env)) (hz : ∀ env, Le (z env) (z' env)) : Le (aguard n ops o env y z) (aguard n ops o env y' z') := by
  unfold aguard
  split
  · exact hy _
  · split
    · exact hz _
    · split
      · split
        · split <;> split <;> first | exact hy _ | exact hz _
        · exact hz _
        · exact Le.refl _
      · exact hz _
theorem aops_le {R : Type} {c d : FuncId → List AV → AHeap → Res} (hc : CallLe c d) {all : Array Oper} {K K' : Env → AHeap → Option R} (hk : ∀ env h, Le (K env h) (K' env h)) : ∀ (l : List Oper) (env : Env) (h : AHeap), Le (aops P c n all l env h K) (aops P d n all l env h K')
  | [], env, h => hk env h
  | o :: l, env, h => aguard_le (fun _ => aop_le hc o _ h fun _ h' => asT_le (aops_le hc hk l _ h')) fun _ => aops_le hc hk l _ h
theorem pendOk_le {c d : FuncId → List AV → AHeap → Res} (hc : CallLe c d) {m : Nat} {h h' : AHeap} {p : Nat × Pend} (hp : pendOk P c n m h h' p = true) : pendOk P d n m h h' p = true := by
  unfold pendOk at hp ⊢
  rcases Bool.or_eq_true _ _ ▸ hp with q | q
  · rw [q]; rfl
  · obtain ⟨i, p⟩ := p
    cases p with
    | al _ => simp only at q ⊢; rw [q, Bool.or_true]
    | rd o env v =>
      simp only at q ⊢
      have h1 := aop_le (P := P) hc o (ev n env) h' (K := fun v _ => some v) (K' := fun v _ => some v) (fun _ _ => Le.refl _) v (chkRd_some q)
      rw [h1, chkRd_self, Bool.or_true]
theorem aif_le {R : Type} {a b : Bool} {x y : Option R} (h : a = true → b = true) (hx : Le x y) : Le (aif a x) (aif b y) := by
  intro r hr
  obtain ⟨h1, h2⟩ := aif_some hr
  rw [h h1]; exact hx r h2
theorem adrawGo_le {R : Type} {c d : FuncId → List AV → AHeap → Res} (hc : CallLe c d) {ops : Array Oper} {ms : List Nat} {K K' : Env → AHeap → Option R} (hk : ∀ env h, Le (K env h) (K' env h)) : ∀ (l : List Nat) (pd : List (Nat × Pend)) (env : Env) (h : AHeap),
    Le (adrawGo P c n ops ms l pd env h K) (adrawGo P d n ops ms l pd env h K')
  | [], pd, env, h => hk env h
  | i :: l, pd, env, h => by
    simp only [adrawGo]
    split
    · exact Le.refl _
    · rename_i o ho
      refine aguard_le (fun env => ?_) fun env => adrawGo_le hc hk l _ _ h
      split
      · exact aop_le hc o _ h fun v h' => asT_le (adrawGo_le hc hk l _ _ h')
      · exact aop_le hc o _ h fun v h' => asT_le (adrawGo_le hc hk l _ _ h')
      · exact aop_le hc o _ h fun v h' => asT_le (adrawGo_le hc hk l _ _ h')
      · exact aop_le hc o _ h fun v h' => asT_le (aif_le (fun q => List.all_eq_true.2 fun p hp => pendOk_le hc (List.all_eq_true.1 q p hp)) (adrawGo_le hc hk l _ _ h'))
theorem acode_le' {c d : FuncId → List AV → AHeap → Res} (hc : CallLe c d) {l l' : Loop} (hl : LoopLe l l') (hs : (∀ x an, StLe (acode P d l' n an x) (acode P d l' n an x)) ∨ (c = d ∧ l = l')) : ∀ (x : Code) (an : AN), StLe (acode P c l n an x) (acode P d l' n an x) := by
  intro x
  induction x with
  | skip => intro an env h K K' hk r hr; simp only [acode] at hr ⊢; exact hk _ _ _ r hr
  | region id ops draw =>
    intro an env h K K' hk
    simp only [acode]
    split
    · unfold adraw
      exact aif_le (fun q => q) (adrawGo_le hc (fun env h => hk .normal env h) _ _ _ _)
    · exact aops_le hc (fun env h => hk .normal env h) _ _ _
  | seq a b iha ihb =>
    intro an env h K K' hk
    simp only [acode]
    refine iha _ _ _ _ _ fun e env h => ?_
    cases e with
    | normal => exact ihb _ _ _ _ _ hk
    | brk i => exact hk _ _ _
    | ret => exact hk _ _ _
  | cond v a b iha ihb =>
    intro an env h K K' hk
    simp only [acode]
    unfold acond
    split
    · exact iha _ _ _ _ _ hk
    · exact ihb _ _ _ _ _ hk
    · exact Le.refl _
  | block id b ih =>
    intro an env h K K' hk
    simp only [acode]
    refine ih _ _ _ _ _ fun e env h => ?_
    cases e with
    | normal => exact hk _ _ _
    | brk i => simp only [kblock]; split <;> exact hk _ _ _
    | ret => exact hk _ _ _
  | loop b ih =>
    intro an env h K K' hk
    simp only [acode]
    have hself : StLe (acode P d l' n an.l b) (acode P d l' n an.l b) := by
      rcases hs with hs | ⟨rfl, rfl⟩
      · exact hs _ _
      · exact ih _
    exact hl _ _ _ hself (ih _) _ _ _ _ hk
  | exit id => intro an env h K K' hk r hr; simp only [acode] at hr ⊢; exact hk _ _ _ r hr
  | ret => intro an env h K K' hk r hr; simp only [acode] at hr ⊢; exact hk _ _ _ r hr
  | rangeFunc => intro an env h K K' hk r hr; simp [acode] at hr
  | scope => intro an env h K K' hk r hr; simp [acode] at hr
  | label => intro an env h K K' hk r hr; simp [acode] at hr
  | goto => intro an env h K K' hk r hr; simp [acode] at hr
  | refuse => intro an env h K K' hk r hr; simp [acode] at hr
theorem acode_self {c : FuncId → List AV → AHeap → Res} {l : Loop} (hl : LoopLe l l) (x : Code) (an : AN) : StLe (acode P c l n an x) (acode P c l n an x) :=
  acode_le' (fun _ _ _ => Le.refl _) hl (.inr ⟨rfl, rfl⟩) x an
theorem acode_le {c d : FuncId → List AV → AHeap → Res} (hc : CallLe c d) {l l' : Loop} (hl : LoopLe l l') (hl' : LoopLe l' l') (x : Code) (an : AN) : StLe (acode P c l n an x) (acode P d l' n an x) :=
  acode_le' hc hl (.inl fun x an => acode_self hl' x an) x an
end

theorem kloop_le {a b : Env → AHeap → Kont → Res} {k : Option (List Nat)} {K K' : Kont} (h : StLe a b) (hk : KLe K K') : KLe (kloop a k K) (kloop b k K') := by
  intro e env hp
  cases e with
  | normal => exact h _ _ _ _ hk
  | brk i => exact hk _ _ _
  | ret => exact hk _ _ _
theorem aiter_le {k : Option (List Nat)} {s t : Env → AHeap → Kont → Res} (h : StLe s t) : ∀ (i j : Nat), i ≤ j → StLe (aiter k s i) (aiter k t j)
  | 0, _, _ => fun env hp K K' hk r hr => by simp [aiter] at hr
  | i + 1, 0, h0 => absurd h0 (by omega)
  | i + 1, j + 1, h0 => fun env hp K K' hk => by
    simp only [aiter]
    exact h _ _ _ _ (kloop_le (aiter_le h i j (by omega)) hk)
theorem loop_le {i j : Nat} (h : i ≤ j) : LoopLe (fun k st => aiter k st i) (fun k st => aiter k st j) := fun _ _ _ _ hs => aiter_le hs i j h

theorem acallN_le {P : Program} {Nt : Notes} : ∀ (i j : Nat), i ≤ j → CallLe (acallN P Nt i) (acallN P Nt j)
  | 0, _, _ => fun f xs h r hr => by simp [acallN] at hr
  | i + 1, 0, h0 => absurd h0 (by omega)
  | i + 1, j + 1, h0 => fun f xs h r hr => by
    simp only [acallN] at hr ⊢
    split at hr
    · rename_i x _
      exact x.mono _ _ (acallN_le i j (by omega)) xs h r hr
    split at hr
    · split at hr
      · exact acode_le (acallN_le i j (by omega)) (loop_le (by omega)) (loop_le (Nat.le_refl _)) _ _ _ _ _ _ (KLe.refl _) r hr
      · cases hr
    · cases hr

open Classical in
/-- The answer that is come to with steps enough. -/
noncomputable def lim {R : Type} (f : Nat → Option R) : Option R := if h : ∃ r n, f n = some r then some h.choose else none
theorem lim_some {R : Type} {f : Nat → Option R} (hm : ∀ i j, i ≤ j → Le (f i) (f j)) {r : R} : lim f = some r ↔ ∃ n, f n = some r := by
  unfold lim
  constructor
  · intro h
    split at h
    · rename_i hx
      obtain ⟨n, hn⟩ := hx.choose_spec
      cases h
      exact ⟨n, hn⟩
    · cases h
  · rintro ⟨n, hn⟩
    have hx : ∃ r n, f n = some r := ⟨r, n, hn⟩
    rw [dif_pos hx]
    obtain ⟨m, hm'⟩ := hx.choose_spec
    have h1 := hm n (max n m) (Nat.le_max_left _ _) _ hn
    have h2 := hm m (max n m) (Nat.le_max_right _ _) _ hm'
    rw [h1] at h2
    exact h2.symm

noncomputable def acall (P : Program) (Nt : Notes) (f : FuncId) (xs : List AV) (h : AHeap) : Res := lim fun m => acallN P Nt m f xs h
noncomputable def aloop : Loop := fun k st env h K => lim fun m => aiter k st m env h K
theorem acall_some {P : Program} {Nt : Notes} {f : FuncId} {xs : List AV} {h : AHeap} {r : AV × AHeap} : acall P Nt f xs h = some r ↔ ∃ m, acallN P Nt m f xs h = some r :=
  lim_some fun i j hij => acallN_le i j hij f xs h
theorem acallN_acall {P : Program} {Nt : Notes} (m : Nat) : CallLe (acallN P Nt m) (acall P Nt) := fun _ _ _ _ hr => acall_some.2 ⟨m, hr⟩
theorem aloop_some {k : Option (List Nat)} {s : Env → AHeap → Kont → Res} (hs : StLe s s) {env : Env} {h : AHeap} {K : Kont} {r : AV × AHeap} : aloop k s env h K = some r ↔ ∃ m, aiter k s m env h K = some r :=
  lim_some fun i j hij => aiter_le hs i j hij env h K K (KLe.refl K)
theorem aiter_aloop (m : Nat) : LoopLe (fun k st => aiter k st m) aloop := by
  intro k s t ht hs env h K K' hk r hr
  exact (aloop_some ht).2 ⟨m, aiter_le hs m m (Nat.le_refl _) env h K K' hk r hr⟩
theorem aloop_self : LoopLe aloop aloop := by
  intro k s t ht hs env h K K' hk r hr
  have hx : ∃ m, aiter k s m env h K = some r := by
    unfold aloop lim at hr
    split at hr
    · rename_i hx
      obtain ⟨n, hn⟩ := hx.choose_spec
      cases hr
      exact ⟨n, hn⟩
    · cases hr
  obtain ⟨m, hm⟩ := hx
  exact (aloop_some ht).2 ⟨m, aiter_le hs m m (Nat.le_refl _) env h K K' hk r hm⟩

/-! Down: what the limit answers is come to with steps enough. -/
section
variable {P : Program} {Nt : Notes} {n : Nat}
/-- A chain of continuations, and its limit. -/
structure Kc {A R : Type} (Ks : Nat → A → Option R) (K : A → Option R) : Prop where
  mono : ∀ i j, i ≤ j → ∀ a, Le (Ks i a) (Ks j a)
  lim : ∀ a r, K a = some r → ∃ m, Ks m a = some r
theorem Kc.const {A R : Type} (K : A → Option R) : Kc (fun _ => K) K := ⟨fun _ _ _ _ => Le.refl _, fun _ _ h => ⟨0, h⟩⟩

theorem aopR_down (o : Oper) (e : Operand → AV) (h : AHeap) (r : AV × AHeap) (hr : aopR P (acall P Nt) o e h = some r) : ∃ m, aopR P (acallN P Nt m) o e h = some r := by
  obtain ⟨dst, op, ty, pos, after, guard⟩ := o
  have one : ∀ {f : FuncId} {xs : List AV}, ((acall P Nt f xs h).bind fun r => some (r.1, r.2)) = some r → ∃ m, ((acallN P Nt m f xs h).bind fun r => some (r.1, r.2)) = some r := by
    intro f xs q
    obtain ⟨a, h1, h2⟩ := Option.bind_eq_some_iff.1 q
    obtain ⟨m, hm⟩ := acall_some.1 h1
    exact ⟨m, by rw [hm]; exact h2⟩
  cases op with
  | call cc =>
    obtain ⟨callee, cargs, ctypes⟩ := cc
    cases callee with
    | value f =>
      simp only [aopR, aop] at hr ⊢
      split at hr
      · split at hr
        · rename_i hcb
          simp only [if_pos hcb]
          exact one hr
        · cases hr
      · cases hr
    | invoke f name =>
      simp only [aopR, aop] at hr ⊢
      split at hr
      · obtain ⟨g, h1, h2⟩ := Option.bind_eq_some_iff.1 hr
        split at h2
        · rename_i hcb
          obtain ⟨m, hm⟩ := one h2
          exact ⟨m, by rw [h1, Option.bind_some, if_pos hcb]; exact hm⟩
        · cases h2
      · cases hr
    | builtin b => cases b <;> exact ⟨0, hr⟩
  | makeFunc fn a b => cases fn <;> exact ⟨0, hr⟩
  | slice t x lo hi mx => cases mx <;> exact ⟨0, hr⟩
  | _ => exact ⟨0, hr⟩
theorem aop_down {R : Type} {Ks : Nat → AV × AHeap → Option R} {K : AV × AHeap → Option R} (hk : Kc Ks K) (o : Oper) (e : Operand → AV) (h : AHeap) (r : R) (hr : aop P (acall P Nt) o e h (fun v h => K (v, h)) = some r) :
    ∃ m, aop P (acallN P Nt m) o e h (fun v h => Ks m (v, h)) = some r := by
  rw [aop_nat] at hr
  obtain ⟨p, h1, h2⟩ := Option.bind_eq_some_iff.1 hr
  obtain ⟨m1, e1⟩ := aopR_down o e h p h1
  obtain ⟨m2, e2⟩ := hk.lim _ _ h2
  refine ⟨max m1 m2, ?_⟩
  rw [aop_nat, aopR_le (acallN_le m1 (max m1 m2) (Nat.le_max_left _ _)) o e h p e1]
  exact hk.mono m2 _ (Nat.le_max_right _ _) _ r e2
/-- The chain behind an operation. -/
theorem aop_kc {R A : Type} {f : A → Oper} {e : A → Operand → AV} {g : A → AHeap} {Ks : Nat → A → AV → AHeap → Option R} {K : A → AV → AHeap → Option R}
    (hk : ∀ a, Kc (fun m (p : AV × AHeap) => Ks m a p.1 p.2) (fun p => K a p.1 p.2)) : Kc (fun m a => aop P (acallN P Nt m) (f a) (e a) (g a) (Ks m a)) (fun a => aop P (acall P Nt) (f a) (e a) (g a) (K a)) := by
  refine ⟨fun i j hij a => aop_le (acallN_le i j hij) _ _ _ fun v h => (hk a).mono i j hij (v, h), fun a r hr => ?_⟩
  exact aop_down (hk a) (f a) (e a) (g a) r hr
theorem asT_kc {R A : Type} {f : A → TypeId} {g : A → AV} {Ks : Nat → A → AV → Option R} {K : A → AV → Option R} (hk : Kc (fun m (a : A) => Ks m a (g a)) (fun a => K a (g a))) :
    Kc (fun m a => asT P (f a) (g a) (Ks m a)) (fun a => asT P (f a) (g a) (K a)) := by
  refine ⟨fun i j hij a => asT_le (hk.mono i j hij a), fun a r hr => ?_⟩
  rw [asT_eq] at hr
  split at hr
  · rename_i ht
    obtain ⟨m, hm⟩ := hk.lim a r hr
    exact ⟨m, by rw [asT_eq, if_pos ht]; exact hm⟩
  · cases hr
theorem aguard_eq {R : Type} {ops : Array Oper} {o : Oper} {env : Env} {yes no : Env → Option R} : aguard n ops o env yes no = match gd n ops o env with | some true => yes env | some false => no env | none => none := by
  unfold aguard gd
  cases o.guard with
  | none => rfl
  | some jw =>
    obtain ⟨j, want⟩ := jw
    simp only
    cases (ops[j]?).bind (·.dst) with
    | none => rfl
    | some d =>
      simp only
      by_cases hdn : d < n
      · rw [if_pos hdn, if_pos hdn]
        cases hb : env d with
        | bool b =>
          simp only
          cases b <;> cases want <;> simp only [if_true, Bool.false_eq_true, if_false] <;> rw [aput_self hb] <;> rfl
        | tuple l => cases l <;> rfl
        | _ => rfl
      · rw [if_neg hdn, if_neg hdn]
theorem aguard_kc {R : Type} {ops : Array Oper} {o : Oper} {Y Z : Nat → Env → Option R} {y z : Env → Option R} (hy : Kc Y y) (hz : Kc Z z) : Kc (fun m env => aguard n ops o env (Y m) (Z m)) (fun env => aguard n ops o env y z) := by
  refine ⟨fun i j hij env => aguard_le (hy.mono i j hij) (hz.mono i j hij), fun env r hr => ?_⟩
  rw [aguard_eq] at hr
  simp only [aguard_eq]
  split at hr
  · exact hy.lim _ _ hr
  · exact hz.lim _ _ hr
  · cases hr
theorem aops_kc {R : Type} {all : Array Oper} {Ks : Nat → Env × AHeap → Option R} {K : Env × AHeap → Option R} (hk : Kc Ks K) : ∀ (l : List Oper),
    Kc (fun m (p : Env × AHeap) => aops P (acallN P Nt m) n all l p.1 p.2 fun env h => Ks m (env, h)) (fun p => aops P (acall P Nt) n all l p.1 p.2 fun env h => K (env, h))
  | [] => hk
  | o :: l => by
    have ih := aops_kc (all := all) hk l
    refine ⟨fun i j hij p => aops_le (acallN_le i j hij) (fun env h => hk.mono i j hij (env, h)) _ _ _, fun p r hr => ?_⟩
    simp only [aops] at hr ⊢
    have hg := aguard_kc (n := n) (ops := all) (o := o) (Y := fun m env => aop P (acallN P Nt m) o (ev n env) p.2 fun v h => asT P o.type v fun v => aops P (acallN P Nt m) n all l (aput n env o.dst v) h fun env h => Ks m (env, h))
      (y := fun env => aop P (acall P Nt) o (ev n env) p.2 fun v h => asT P o.type v fun v => aops P (acall P Nt) n all l (aput n env o.dst v) h fun env h => K (env, h))
      (Z := fun m env => aops P (acallN P Nt m) n all l (aput n env o.dst (.tuple [])) p.2 fun env h => Ks m (env, h)) (z := fun env => aops P (acall P Nt) n all l (aput n env o.dst (.tuple [])) p.2 fun env h => K (env, h))
      (aop_kc (f := fun _ => o) (e := fun env => ev n env) (g := fun _ => p.2) (Ks := fun m env v h => asT P o.type v fun v => aops P (acallN P Nt m) n all l (aput n env o.dst v) h fun env h => Ks m (env, h))
        (K := fun env v h => asT P o.type v fun v => aops P (acall P Nt) n all l (aput n env o.dst v) h fun env h => K (env, h)) fun env =>
          asT_kc (f := fun _ => o.type) (g := fun (q : AV × AHeap) => q.1) (Ks := fun m q v => aops P (acallN P Nt m) n all l (aput n env o.dst v) q.2 fun env h => Ks m (env, h)) (K := fun q v => aops P (acall P Nt) n all l (aput n env o.dst v) q.2 fun env h => K (env, h))
            ⟨fun i j hij q => ih.mono i j hij (aput n env o.dst q.1, q.2), fun q r hr => ih.lim (aput n env o.dst q.1, q.2) r hr⟩)
      ⟨fun i j hij env => ih.mono i j hij (aput n env o.dst (.tuple []), p.2), fun env r hr => ih.lim (aput n env o.dst (.tuple []), p.2) r hr⟩
    exact hg.lim p.1 r hr
end
end Go.Ab
end
section
/-
  The limit's equations: a function is its code; a loop is a round and the loop again.
-/
namespace Go.Ab

section
variable {P : Program} {Nt : Notes} {n : Nat}

theorem pendOk_down {m0 : Nat} {h h' : AHeap} {p : Nat × Pend} (hp : pendOk P (acall P Nt) n m0 h h' p = true) : ∃ m, pendOk P (acallN P Nt m) n m0 h h' p = true := by
  unfold pendOk at hp ⊢
  rcases Bool.or_eq_true _ _ ▸ hp with q | q
  · exact ⟨0, by rw [q]; rfl⟩
  · obtain ⟨i, p⟩ := p
    cases p with
    | al _ => exact ⟨0, by simp only at q ⊢; rw [q, Bool.or_true]⟩
    | rd o env v =>
      simp only at q ⊢
      obtain ⟨m, hm⟩ := aop_down (P := P) (Nt := Nt) (Ks := fun _ (p : AV × AHeap) => some p.1) (K := fun p => some p.1) (Kc.const _) o (ev n env) h' v (chkRd_some q)
      exact ⟨m, by rw [hm, chkRd_self, Bool.or_true]⟩
theorem pends_down {m0 : Nat} {h h' : AHeap} : ∀ (pd : List (Nat × Pend)), pd.all (pendOk P (acall P Nt) n m0 h h') = true → ∃ m, pd.all (pendOk P (acallN P Nt m) n m0 h h') = true
  | [], _ => ⟨0, rfl⟩
  | p :: pd, hp => by
    simp only [List.all_cons, Bool.and_eq_true] at hp
    obtain ⟨m1, e1⟩ := pendOk_down hp.1
    obtain ⟨m2, e2⟩ := pends_down pd hp.2
    refine ⟨max m1 m2, ?_⟩
    simp only [List.all_cons, Bool.and_eq_true]
    exact ⟨pendOk_le (acallN_le m1 _ (Nat.le_max_left _ _)) e1, List.all_eq_true.2 fun p hp => pendOk_le (acallN_le m2 _ (Nat.le_max_right _ _)) (List.all_eq_true.1 e2 p hp)⟩

theorem adrawGo_kc {R : Type} {ops : Array Oper} {ms : List Nat} {Ks : Nat → Env × AHeap → Option R} {K : Env × AHeap → Option R} (hk : Kc Ks K) : ∀ (l : List Nat) (pd : List (Nat × Pend)),
    Kc (fun m (p : Env × AHeap) => adrawGo P (acallN P Nt m) n ops ms l pd p.1 p.2 fun env h => Ks m (env, h)) (fun p => adrawGo P (acall P Nt) n ops ms l pd p.1 p.2 fun env h => K (env, h))
  | [], _ => hk
  | i :: l, pd => by
    refine ⟨fun i j hij p => adrawGo_le (acallN_le i j hij) (fun env h => hk.mono i j hij (env, h)) _ _ _ _, fun p r hr => ?_⟩
    simp only [adrawGo] at hr ⊢
    split at hr
    · cases hr
    · rename_i o ho
      have step : ∀ (f : Oper → Env → AV → AHeap → List (Nat × Pend)), Kc (fun m env => aop P (acallN P Nt m) o (ev n env) p.2 fun v h => asT P o.type v fun v => adrawGo P (acallN P Nt m) n ops ms l (f o env v h) (aput n env o.dst v) h fun env h => Ks m (env, h))
          (fun env => aop P (acall P Nt) o (ev n env) p.2 fun v h => asT P o.type v fun v => adrawGo P (acall P Nt) n ops ms l (f o env v h) (aput n env o.dst v) h fun env h => K (env, h)) := by
        intro f
        exact aop_kc (f := fun _ => o) (e := fun env => ev n env) (g := fun _ => p.2) (Ks := fun m env v h => asT P o.type v fun v => adrawGo P (acallN P Nt m) n ops ms l (f o env v h) (aput n env o.dst v) h fun env h => Ks m (env, h))
          (K := fun env v h => asT P o.type v fun v => adrawGo P (acall P Nt) n ops ms l (f o env v h) (aput n env o.dst v) h fun env h => K (env, h))
          fun env => asT_kc (f := fun _ => o.type) (g := fun (q : AV × AHeap) => q.1) (Ks := fun m q v => adrawGo P (acallN P Nt m) n ops ms l (f o env v q.2) (aput n env o.dst v) q.2 fun env h => Ks m (env, h))
            (K := fun q v => adrawGo P (acall P Nt) n ops ms l (f o env v q.2) (aput n env o.dst v) q.2 fun env h => K (env, h))
            ⟨fun i j hij q => (adrawGo_kc hk l (f o env q.1 q.2)).mono i j hij (aput n env o.dst q.1, q.2), fun q r hr => (adrawGo_kc hk l (f o env q.1 q.2)).lim (aput n env o.dst q.1, q.2) r hr⟩
      have hz : Kc (fun m env => adrawGo P (acallN P Nt m) n ops ms l pd (aput n env o.dst (.tuple [])) p.2 fun env h => Ks m (env, h)) (fun env => adrawGo P (acall P Nt) n ops ms l pd (aput n env o.dst (.tuple [])) p.2 fun env h => K (env, h)) :=
        ⟨fun i j hij env => (adrawGo_kc hk l pd).mono i j hij (aput n env o.dst (.tuple []), p.2), fun env r hr => (adrawGo_kc hk l pd).lim (aput n env o.dst (.tuple []), p.2) r hr⟩
      cases hc : cls o.op with
      | pure => simp only [hc] at hr ⊢; exact (aguard_kc (step fun _ _ _ _ => pd) hz).lim p.1 r hr
      | read => simp only [hc] at hr ⊢; exact (aguard_kc (step fun o env v _ => (i, .rd o env v) :: pd) hz).lim p.1 r hr
      | alloc => simp only [hc] at hr ⊢; exact (aguard_kc (step fun _ _ _ _ => (i, .al p.2.length) :: pd) hz).lim p.1 r hr
      | chain =>
        simp only [hc] at hr ⊢
        refine (aguard_kc (n := n) ?_ hz).lim p.1 r hr
        refine aop_kc (f := fun _ => o) (e := fun env => ev n env) (g := fun _ => p.2) (Ks := fun m env v h => asT P o.type v fun v => aif (pd.all (pendOk P (acallN P Nt m) n (ms.getD i 0) p.2 h)) (adrawGo P (acallN P Nt m) n ops ms l pd (aput n env o.dst v) h fun env h => Ks m (env, h)))
          (K := fun env v h => asT P o.type v fun v => aif (pd.all (pendOk P (acall P Nt) n (ms.getD i 0) p.2 h)) (adrawGo P (acall P Nt) n ops ms l pd (aput n env o.dst v) h fun env h => K (env, h))) fun env =>
          asT_kc (f := fun _ => o.type) (g := fun (q : AV × AHeap) => q.1) (Ks := fun m q v => aif (pd.all (pendOk P (acallN P Nt m) n (ms.getD i 0) p.2 q.2)) (adrawGo P (acallN P Nt m) n ops ms l pd (aput n env o.dst v) q.2 fun env h => Ks m (env, h)))
            (K := fun q v => aif (pd.all (pendOk P (acall P Nt) n (ms.getD i 0) p.2 q.2)) (adrawGo P (acall P Nt) n ops ms l pd (aput n env o.dst v) q.2 fun env h => K (env, h))) ⟨fun i' j hij q => ?_, fun q r hr => ?_⟩
        · exact aif_le (fun q' => List.all_eq_true.2 fun p hp => pendOk_le (acallN_le i' j hij) (List.all_eq_true.1 q' p hp)) ((adrawGo_kc hk l pd).mono i' j hij (aput n env o.dst q.1, q.2))
        · obtain ⟨g1, g2⟩ := aif_some hr
          obtain ⟨m1, e1⟩ := pends_down pd g1
          obtain ⟨m2, e2⟩ := (adrawGo_kc hk l pd).lim (aput n env o.dst q.1, q.2) r g2
          refine ⟨max m1 m2, ?_⟩
          have h1 : pd.all (pendOk P (acallN P Nt (max m1 m2)) n (ms.getD i 0) p.2 q.2) = true := List.all_eq_true.2 fun p hp => pendOk_le (acallN_le m1 _ (Nat.le_max_left _ _)) (List.all_eq_true.1 e1 p hp)
          have h2 := (adrawGo_kc hk l pd).mono m2 (max m1 m2) (Nat.le_max_right _ _) _ r e2
          simp only [h1]
          exact h2

/-- The code with so many steps, and without a bound. -/
abbrev codeN (P : Program) (Nt : Notes) (n m : Nat) (an : AN) (c : Code) : Env → AHeap → Kont → Res := acode P (acallN P Nt m) (fun k st => aiter k st m) n an c
noncomputable abbrev codeL (P : Program) (Nt : Notes) (n : Nat) (an : AN) (c : Code) : Env → AHeap → Kont → Res := acode P (acall P Nt) aloop n an c
theorem codeN_le (i j : Nat) (h : i ≤ j) (an : AN) (c : Code) : StLe (codeN P Nt n i an c) (codeN P Nt n j an c) := acode_le (acallN_le i j h) (loop_le h) (loop_le (Nat.le_refl _)) c an
theorem codeN_codeL (m : Nat) (an : AN) (c : Code) : StLe (codeN P Nt n m an c) (codeL P Nt n an c) := acode_le (acallN_acall m) (aiter_aloop m) aloop_self c an
theorem codeL_self (an : AN) (c : Code) : StLe (codeL P Nt n an c) (codeL P Nt n an c) := acode_self aloop_self c an

abbrev KA := AExit × Env × AHeap
theorem acode_kc : ∀ (c : Code) (an : AN) {Ks : Nat → KA → Res} {K : KA → Res} (_ : Kc Ks K),
    Kc (fun m (p : Env × AHeap) => codeN P Nt n m an c p.1 p.2 fun e env h => Ks m (e, env, h)) (fun p => codeL P Nt n an c p.1 p.2 fun e env h => K (e, env, h)) := by
  intro c
  have mono : ∀ (c : Code) (an : AN) {Ks : Nat → KA → Res} {K : KA → Res} (_ : Kc Ks K), ∀ i j, i ≤ j → ∀ p : Env × AHeap, Le (codeN P Nt n i an c p.1 p.2 fun e env h => Ks i (e, env, h)) (codeN P Nt n j an c p.1 p.2 fun e env h => Ks j (e, env, h)) :=
    fun c an Ks K hk i j hij p => codeN_le i j hij an c _ _ _ _ fun e env h => hk.mono i j hij (e, env, h)
  induction c with
  | skip => intro an Ks K hk; exact ⟨mono _ _ hk, fun p r hr => by simp only [codeL, codeN, acode] at hr ⊢; exact hk.lim _ _ hr⟩
  | region id ops draw =>
    intro an Ks K hk
    have hk1 : Kc (fun m (p : Env × AHeap) => Ks m (.normal, p.1, p.2)) (fun p => K (.normal, p.1, p.2)) := ⟨fun i j hij p => hk.mono i j hij _, fun p r hr => hk.lim _ r hr⟩
    refine ⟨mono _ _ hk, fun p r hr => ?_⟩
    simp only [codeL, codeN, acode] at hr ⊢
    split at hr
    · rename_i hd
      simp only [hd, if_true]
      obtain ⟨g1, g2⟩ := aif_some hr
      obtain ⟨m, hm⟩ := (adrawGo_kc (n := n) hk1 (canon ops.toList (masks ops.toList [])) []).lim p r g2
      refine ⟨m, ?_⟩
      unfold adraw
      rw [g1]
      exact hm
    · rename_i hd
      simp only [hd, if_false]
      exact (aops_kc (n := n) hk1 ops.toList).lim p r hr
  | seq a b iha ihb =>
    intro an Ks K hk
    refine ⟨mono _ _ hk, fun p r hr => ?_⟩
    simp only [codeL, codeN, acode] at hr ⊢
    have hb := ihb an.r hk
    refine (iha an.l (Ks := fun m q => kseq (codeN P Nt n m an.r b) an.keep (fun e env h => Ks m (e, env, h)) q.1 q.2.1 q.2.2) (K := fun q => kseq (codeL P Nt n an.r b) an.keep (fun e env h => K (e, env, h)) q.1 q.2.1 q.2.2)
      ⟨fun i j hij q => ?_, fun q r hr => ?_⟩).lim p r hr
    · obtain ⟨e, env, h⟩ := q
      cases e with
      | normal => exact hb.mono i j hij (_, _)
      | brk k => exact hk.mono i j hij _
      | ret => exact hk.mono i j hij _
    · obtain ⟨e, env, h⟩ := q
      cases e with
      | normal => exact hb.lim (_, _) r hr
      | brk k => exact hk.lim _ r hr
      | ret => exact hk.lim _ r hr
  | cond v a b iha ihb =>
    intro an Ks K hk
    refine ⟨mono _ _ hk, fun p r hr => ?_⟩
    simp only [codeL, codeN, acode] at hr ⊢
    unfold acond at hr ⊢
    split at hr
    · exact (iha an.l hk).lim p r hr
    · exact (ihb an.r hk).lim p r hr
    · cases hr
  | block id b ih =>
    intro an Ks K hk
    refine ⟨mono _ _ hk, fun p r hr => ?_⟩
    simp only [codeL, codeN, acode] at hr ⊢
    refine (ih an.l (Ks := fun m q => kblock id an.keep (fun e env h => Ks m (e, env, h)) q.1 q.2.1 q.2.2) (K := fun q => kblock id an.keep (fun e env h => K (e, env, h)) q.1 q.2.1 q.2.2) ⟨fun i j hij q => ?_, fun q r hr => ?_⟩).lim p r hr
    · obtain ⟨e, env, h⟩ := q
      cases e with
      | normal => exact hk.mono i j hij _
      | brk k =>
        simp only [kblock]
        split
        · exact hk.mono i j hij _
        · exact hk.mono i j hij _
      | ret => exact hk.mono i j hij _
    · obtain ⟨e, env, h⟩ := q
      cases e with
      | normal => exact hk.lim _ r hr
      | brk k =>
        simp only [kblock] at hr ⊢
        split at hr
        · rename_i hk'; simp only [hk', if_true]; exact hk.lim _ r hr
        · rename_i hk'; simp only [hk', if_false]; exact hk.lim _ r hr
      | ret => exact hk.lim _ r hr
  | loop b ih =>
    intro an Ks K hk
    refine ⟨mono _ _ hk, fun p r hr => ?_⟩
    simp only [codeL, codeN, acode] at hr ⊢
    have fixed : ∀ j, Kc (fun m (p : Env × AHeap) => aiter an.keep (codeN P Nt n m an.l b) j p.1 p.2 fun e env h => Ks m (e, env, h)) (fun p => aiter an.keep (codeL P Nt n an.l b) j p.1 p.2 fun e env h => K (e, env, h)) := by
      intro j
      induction j with
      | zero => exact ⟨fun _ _ _ _ => Le.refl _, fun p r hr => by simp [aiter] at hr⟩
      | succ j ihj =>
        refine ⟨fun i i' hij p => aiter_le (codeN_le i i' hij _ _) _ _ (Nat.le_refl _) _ _ _ _ fun e env h => hk.mono i i' hij (e, env, h), fun p r hr => ?_⟩
        simp only [aiter] at hr ⊢
        refine (ih an.l (Ks := fun m q => kloop (aiter an.keep (codeN P Nt n m an.l b) j) an.keep (fun e env h => Ks m (e, env, h)) q.1 q.2.1 q.2.2) (K := fun q => kloop (aiter an.keep (codeL P Nt n an.l b) j) an.keep (fun e env h => K (e, env, h)) q.1 q.2.1 q.2.2)
          ⟨fun i i' hij q => ?_, fun q r hr => ?_⟩).lim p r hr
        · obtain ⟨e, env, h⟩ := q
          cases e with
          | normal => exact ihj.mono i i' hij (_, _)
          | brk k => exact hk.mono i i' hij _
          | ret => exact hk.mono i i' hij _
        · obtain ⟨e, env, h⟩ := q
          cases e with
          | normal => exact ihj.lim (_, _) r hr
          | brk k => exact hk.lim _ r hr
          | ret => exact hk.lim _ r hr
    obtain ⟨j, hj⟩ := (aloop_some (codeL_self an.l b)).1 hr
    obtain ⟨m, hm⟩ := (fixed j).lim (era an.keep p.1, p.2) r hj
    refine ⟨max j m, ?_⟩
    exact aiter_le (codeN_le m (max j m) (Nat.le_max_right _ _) _ _) j (max j m) (Nat.le_max_left _ _) _ _ _ _ (fun e env h => hk.mono m _ (Nat.le_max_right _ _) (e, env, h)) r hm
  | exit id => intro an Ks K hk; exact ⟨mono _ _ hk, fun p r hr => by simp only [codeL, codeN, acode] at hr ⊢; exact hk.lim _ _ hr⟩
  | ret => intro an Ks K hk; exact ⟨mono _ _ hk, fun p r hr => by simp only [codeL, codeN, acode] at hr ⊢; exact hk.lim _ _ hr⟩
  | rangeFunc => intro an Ks K hk; exact ⟨mono _ _ hk, fun p r hr => by simp [codeL, acode] at hr⟩
  | scope => intro an Ks K hk; exact ⟨mono _ _ hk, fun p r hr => by simp [codeL, acode] at hr⟩
  | label => intro an Ks K hk; exact ⟨mono _ _ hk, fun p r hr => by simp [codeL, acode] at hr⟩
  | goto => intro an Ks K hk; exact ⟨mono _ _ hk, fun p r hr => by simp [codeL, acode] at hr⟩
  | refuse => intro an Ks K hk; exact ⟨mono _ _ hk, fun p r hr => by simp [codeL, acode] at hr⟩

/-- A function is its code. -/
theorem acall_eq {f : FuncId} {fn : Func} {c : Code} (hx : Nt.ext f = none) (hf : P.funcs[f]? = some fn) (hc : fn.body = some c) (xs : List AV) (h : AHeap) :
    acall P Nt f xs h = codeL P Nt (xs.length + (fn.ntmps - xs.length)) (Nt f) c (args xs) h (kend P (xs.length + (fn.ntmps - xs.length)) fn.results.toList) := by
  have hN : ∀ m, acallN P Nt (m + 1) f xs h = codeN P Nt (xs.length + (fn.ntmps - xs.length)) m (Nt f) c (args xs) h (kend P (xs.length + (fn.ntmps - xs.length)) fn.results.toList) := by
    intro m; simp only [acallN, hx, hf, hc]
  have fwd : ∀ r, acall P Nt f xs h = some r → codeL P Nt (xs.length + (fn.ntmps - xs.length)) (Nt f) c (args xs) h (kend P (xs.length + (fn.ntmps - xs.length)) fn.results.toList) = some r := by
    intro r hr
    obtain ⟨m, hm⟩ := acall_some.1 hr
    cases m with
    | zero => simp [acallN] at hm
    | succ m => rw [hN] at hm; exact codeN_codeL m _ _ _ _ _ _ (KLe.refl _) r hm
  have bwd : ∀ r, codeL P Nt (xs.length + (fn.ntmps - xs.length)) (Nt f) c (args xs) h (kend P (xs.length + (fn.ntmps - xs.length)) fn.results.toList) = some r → acall P Nt f xs h = some r := by
    intro r hr
    obtain ⟨m, hm⟩ := (acode_kc (n := xs.length + (fn.ntmps - xs.length)) c (Nt f) (Kc.const fun q : KA => kend P (xs.length + (fn.ntmps - xs.length)) fn.results.toList q.1 q.2.1 q.2.2)).lim (args xs, h) r hr
    exact acall_some.2 ⟨m + 1, by rw [hN]; exact hm⟩
  cases hx : acall P Nt f xs h with
  | some r => exact (fwd r hx).symm
  | none =>
    cases hy : codeL P Nt (xs.length + (fn.ntmps - xs.length)) (Nt f) c (args xs) h (kend P (xs.length + (fn.ntmps - xs.length)) fn.results.toList) with
    | none => rfl
    | some r => rw [bwd r hy] at hx; cases hx
/-- A function whose answer is given. -/
theorem acall_ext {f : FuncId} {x : Given} (hx : Nt.ext f = some x) (xs : List AV) (h : AHeap) : acall P Nt f xs h = x.run (acall P Nt) xs h := by
  have hN : ∀ m, acallN P Nt (m + 1) f xs h = x.run (acallN P Nt m) xs h := by intro m; simp only [acallN, hx]
  have fwd : ∀ r, acall P Nt f xs h = some r → x.run (acall P Nt) xs h = some r := by
    intro r hr
    obtain ⟨m, hm⟩ := acall_some.1 hr
    cases m with
    | zero => simp [acallN] at hm
    | succ m => rw [hN] at hm; exact x.mono _ _ (acallN_acall m) xs h r hm
  have bwd : ∀ r, x.run (acall P Nt) xs h = some r → acall P Nt f xs h = some r := by
    intro r hr
    obtain ⟨m, hm⟩ := x.down (acallN P Nt) (acall P Nt) (fun i j hij => acallN_le i j hij) (fun f xs h r e => acall_some.1 e) xs h r hr
    exact acall_some.2 ⟨m + 1, by rw [hN]; exact hm⟩
  cases hx : acall P Nt f xs h with
  | some r => exact (fwd r hx).symm
  | none =>
    cases hy : x.run (acall P Nt) xs h with
    | none => rfl
    | some r => rw [bwd r hy] at hx; cases hx
/-- A loop is a round, and the loop again. -/
theorem aloop_eq (k : Option (List Nat)) (an : AN) (b : Code) (env : Env) (h : AHeap) (K : Kont) :
    aloop k (codeL P Nt n an b) env h K = codeL P Nt n an b env h (kloop (aloop k (codeL P Nt n an b)) k K) := by
  have self := codeL_self (P := P) (Nt := Nt) (n := n) an b
  have fwd : ∀ r, aloop k (codeL P Nt n an b) env h K = some r → codeL P Nt n an b env h (kloop (aloop k (codeL P Nt n an b)) k K) = some r := by
    intro r hr
    obtain ⟨m, hm⟩ := (aloop_some self).1 hr
    cases m with
    | zero => simp [aiter] at hm
    | succ m =>
      simp only [aiter] at hm
      refine self _ _ _ _ (kloop_le ?_ (KLe.refl K)) r hm
      intro env h K K' hk r hr
      exact aiter_aloop m k _ _ self self env h K K' hk r hr
  have bwd : ∀ r, codeL P Nt n an b env h (kloop (aloop k (codeL P Nt n an b)) k K) = some r → aloop k (codeL P Nt n an b) env h K = some r := by
    intro r hr
    have hkc : Kc (fun m (q : KA) => kloop (aiter k (codeL P Nt n an b) m) k K q.1 q.2.1 q.2.2) (fun q => kloop (aloop k (codeL P Nt n an b)) k K q.1 q.2.1 q.2.2) := by
      refine ⟨fun i j hij q => kloop_le (aiter_le self i j hij) (KLe.refl K) _ _ _, fun q r hr => ?_⟩
      obtain ⟨e, env, h⟩ := q
      cases e with
      | normal => exact (aloop_some self).1 hr
      | brk i => exact ⟨0, hr⟩
      | ret => exact ⟨0, hr⟩
    obtain ⟨m, hm⟩ := (acode_kc b an hkc).lim (env, h) r hr
    exact (aloop_some self).2 ⟨m + 1, codeN_codeL m an b _ _ _ _ (KLe.refl _) r hm⟩
  cases hx : aloop k (codeL P Nt n an b) env h K with
  | some r => exact (fwd r hx).symm
  | none =>
    cases hy : codeL P Nt n an b env h (kloop (aloop k (codeL P Nt n an b)) k K) with
    | none => rfl
    | some r => rw [bwd r hy] at hx; cases hx
end
end Go.Ab
end
section
/-
  For the print of functions: positions in code, operations without the program's tables.
-/
namespace Go.Ab

/-- A position in code: at a sequence or a condition left (false) or right (true). -/
def cat : List Bool → Code → Code
  | [], c => c
  | p :: r, .seq a b => cat r (if p then b else a)
  | p :: r, .cond _ a b => cat r (if p then b else a)
  | _ :: r, .block _ b => cat r b
  | _ :: r, .loop b => cat r b
  | _, c => c
def nat' : List Bool → AN → AN
  | [], a => a
  | p :: r, a => nat' r (if p then a.r else a.l)

/-! Code with the joins and the loops left open: so that a text of it can be checked piece by piece. -/
abbrev Join := (Env → AHeap → Kont → Res) → Env → AHeap → Kont → Res
def kseqJ (jn : Join) (b : Env → AHeap → Kont → Res) (k : Option (List Nat)) (K : Kont) : Kont := fun e env h =>
  match e with
  | .normal => match k with | none => b env h K | some l => jn b (envOf (l.map fun i => (i, env i))) h K
  | .brk i => K (.brk i) env h
  | .ret => K .ret env h
def acodeJ (P : Program) (call : FuncId → List AV → AHeap → Res) (loop : Loop) (jn : Join) (n : Nat) : AN → Code → Env → AHeap → Kont → Res
  | _, .skip, env, h, K => K .normal env h
  | _, .region _ ops draw, env, h, K =>
    if draw then adraw P call n ops env h (fun env h => K .normal env h) else aops P call n ops ops.toList env h (fun env h => K .normal env h)
  | an, .seq a b, env, h, K => acodeJ P call loop jn n an.l a env h (kseqJ jn (acodeJ P call loop jn n an.r b) an.keep K)
  | an, .cond c a b, env, h, K => acond (ev n env c) (acodeJ P call loop jn n an.l a env h K) (acodeJ P call loop jn n an.r b env h K)
  | an, .block id b, env, h, K => acodeJ P call loop jn n an.l b env h (kblock id an.keep K)
  | an, .loop b, env, h, K => loop an.keep (acodeJ P call loop jn n an.l b) (era an.keep env) h K
  | _, .exit id, env, h, K => K (.brk id) env h
  | _, .ret, env, h, K => K .ret env h
  | _, _, _, _, _ => none
theorem kseqJ_eq (b : Env → AHeap → Kont → Res) (k : Option (List Nat)) (K : Kont) : kseqJ (fun s => s) b k K = kseq b k K := by
  funext e env h
  cases e with
  | normal => cases k <;> rfl
  | brk i => rfl
  | ret => rfl
theorem acodeJ_eq (P : Program) (call : FuncId → List AV → AHeap → Res) (loop : Loop) (n : Nat) : ∀ (c : Code) (an : AN), acodeJ P call loop (fun s => s) n an c = acode P call loop n an c
  | .skip, _ => by funext env h K; simp only [acodeJ, acode]
  | .region _ _ _, _ => by funext env h K; simp only [acodeJ, acode]
  | .seq a b, an => by funext env h K; simp only [acodeJ, acode]; rw [acodeJ_eq P call loop n a, acodeJ_eq P call loop n b, kseqJ_eq]
  | .cond _ a b, an => by funext env h K; simp only [acodeJ, acode]; rw [acodeJ_eq P call loop n a, acodeJ_eq P call loop n b]
  | .block _ b, an => by funext env h K; simp only [acodeJ, acode]; rw [acodeJ_eq P call loop n b]
  | .loop b, an => by funext env h K; simp only [acodeJ, acode]; rw [acodeJ_eq P call loop n b]
  | .exit _, _ => by funext env h K; simp only [acodeJ, acode]
  | .ret, _ => by funext env h K; simp only [acodeJ, acode]
  | .rangeFunc .., _ => by funext env h K; simp only [acodeJ, acode]
  | .scope .., _ => by funext env h K; simp only [acodeJ, acode]
  | .label .., _ => by funext env h K; simp only [acodeJ, acode]
  | .goto .., _ => by funext env h K; simp only [acodeJ, acode]
  | .refuse .., _ => by funext env h K; simp only [acodeJ, acode]
noncomputable abbrev codeJ (P : Program) (Nt : Notes) (lp : Loop) (jn : Join) (n : Nat) (an : AN) (c : Code) : Env → AHeap → Kont → Res := acodeJ P (acall P Nt) lp jn n an c
theorem acall_at {P : Program} {Nt : Notes} {f : FuncId} {fn : Func} {c : Code} (hx : Nt.ext f = none) (hf : P.funcs[f]? = some fn) (xs : List AV) (h : AHeap) (n : Nat) (hn : xs.length + (fn.ntmps - xs.length) = n) (hc : fn.body = some c) :
    acall P Nt f xs h = codeJ P Nt aloop (fun s => s) n (Nt f) c (args xs) h (kend P n fn.results.toList) := by
  rw [acall_eq hx hf hc, hn]
  simp only [codeJ, codeL]
  rw [acodeJ_eq]
theorem aloop_at {P : Program} {Nt : Notes} {n : Nat} (k : Option (List Nat)) (an : AN) (b : Code) (env : Env) (h : AHeap) (K : Kont) :
    aloop k (codeJ P Nt aloop (fun s => s) n an b) env h K = codeJ P Nt aloop (fun s => s) n an b env h (kloop (aloop k (codeJ P Nt aloop (fun s => s) n an b)) k K) := by
  simp only [codeJ]
  rw [acodeJ_eq]
  exact aloop_eq k an b env h K

def newB {R : Type} (h : AHeap) (cs : List AV) (K : Nat → AHeap → Option R) : Option R := K h.length (hnew h cs)
def iand (k : IntKind) (a b : Int) : Int := k.wrap (BitVec.ofInt k.bits a &&& BitVec.ofInt k.bits b).toNat
def ior (k : IntKind) (a b : Int) : Int := k.wrap (BitVec.ofInt k.bits a ||| BitVec.ofInt k.bits b).toNat
def ixor (k : IntKind) (a b : Int) : Int := k.wrap (BitVec.ofInt k.bits a ^^^ BitVec.ofInt k.bits b).toNat
def iandNot (k : IntKind) (a b : Int) : Int := k.wrap (BitVec.ofInt k.bits a &&& ~~~ (BitVec.ofInt k.bits b)).toNat
def inot (k : IntKind) (n : Int) : Int := k.wrap (BitVec.ofInt k.bits (if k.signed then -1 else k.max) ^^^ BitVec.ofInt k.bits n).toNat
def ishl (k : IntKind) (a b : Int) : Int := k.wrap (a * 2 ^ (min b.toNat k.bits))
def ishr (k : IntKind) (a b : Int) : Int := a.fdiv (2 ^ (min b.toNat k.bits))
/-- An element's place. -/
def aixS (sz : Nat) (x : AV) (i : Int) : Option AV :=
  match x with
  | .sl b o n sz' => if sz' = sz ∧ 0 ≤ i ∧ i < n then some (.ptr b (o + i.toNat * sz)) else none
  | _ => none
def aixA (sz len : Nat) (x : AV) (i : Int) : Option AV := if 0 ≤ i ∧ i < len then aptr x (i.toNat * sz) else none
def aixG (ag : Bool) (sz len : Nat) (cs : List AV) (i : Int) : Option AV := if 0 ≤ i ∧ i < len then apart ag sz (i.toNat * sz) cs else none
def aixStr (s : List UInt8) (i : Int) : Option AV := if 0 ≤ i then (s[i.toNat]?).map fun b => .int .u8 b.toNat else none
def alenS (x : AV) : Option Nat :=
  match x with
  | .nilsl => some 0
  | .sl _ _ n _ => some n
  | _ => none
def aslS (sz : Nat) (x : AV) (lo hi : Option AV) : Option AV :=
  match x with
  | .nilsl => (abound hi 0 0).bind fun j => (abound lo 0 j).bind fun _ => some .nilsl
  | .sl b o n sz' => if sz' = sz then (abound hi n n).bind fun j => (abound lo 0 j).bind fun i => some (.sl b (o + i * sz) (j - i) sz) else none
  | _ => none
def aslStr (s : List UInt8) (lo hi : Option AV) : Option AV := (abound hi s.length s.length).bind fun j => (abound lo 0 j).bind fun i => some (.str ((s.take j).drop i))
def aslA (sz n : Nat) (x : AV) (lo hi : Option AV) (h : AHeap) : Option AV :=
  match x with
  | .ptr b o =>
    match hget h b with
    | some (.cells _ cs) =>
      if o + n * sz ≤ cs.length ∧ 0 < sz then (abound hi n n).bind fun j => (abound lo 0 j).bind fun i => some (.sl b (o + i * sz) (j - i) sz) else none
    | _ => none
  | _ => none
def afillS (ps : List (Nat × Nat)) (z : List AV) (parts : List (Nat × AV)) : Option AV := (afill (fun i => ps[i]?) z parts).map .agg
def afillA (sz : Nat) (z : List AV) (parts : List (Nat × AV)) : Option AV := (afill (fun i => some (i * sz, sz)) z parts).map .agg
def abslS (sz len : Nat) (z : List AV) (parts : List (Nat × AV)) (h : AHeap) : Option (AV × AHeap) :=
  (afill (fun i => some (i * sz, sz)) z parts).map fun cs => (.sl h.length 0 len sz, hnew h cs)
def amkS (sz by' : Nat) (z : List AV) (l c : Int) (h : AHeap) : Option (AV × AHeap) :=
  if 0 ≤ l ∧ l ≤ c ∧ c * by' ≤ 70368744177664 ∧ c ≤ 70368744177664 ∧ z.length = sz ∧ 0 < sz then
    some (.sl h.length 0 l.toNat sz, hnew h (List.flatten (List.replicate c.toNat z))) else none
def astrOf (x : AV) (h : AHeap) : Option AV :=
  match x with
  | .str s => some (.str s)
  | x => (asrc 1 x h).bind fun cs => (abytes cs).map .str
def apartOf (ag : Bool) (sz off : Nat) (x : AV) : Option AV := match x with | .agg cs => apart ag sz off cs | _ => none
/-- A method's call. -/
def ainv (P : Program) (call : FuncId → List AV → AHeap → Res) {R : Type} (v : AV) (name : String) (as : List AV) (h : AHeap) (K : AV → AHeap → Option R) : Option R :=
  match v with
  | .iface t v => (amethod P t name).bind fun g => if callable P g then (call g (v :: as) h).bind fun r => K r.1 r.2 else none
  | _ => none
def acal (P : Program) (call : FuncId → List AV → AHeap → Res) {R : Type} (v : AV) (as : List AV) (h : AHeap) (K : AV → AHeap → Option R) : Option R :=
  match v with
  | .func g first caps => if callable P g then (call g (first ++ as ++ caps) h).bind fun r => K r.1 r.2 else none
  | _ => none
end Go.Ab
end
section
/-
  The words of the printed texts: what stands behind a step is held back till the step is done (a simplifier goes from the head on).
-/
namespace Go.Ab

universe u
/-- The type R; that it names a is what holds a back. -/
abbrev Out {A : Sort u} (_ : A) (R : Type) : Type := R
def gv {α R : Type} (x : Option α) (f : α → Option R) : Out f (Option R) := Option.bind x f
def gr {R : Type} (x : Res) (f : AV → AHeap → Option R) : Out f (Option R) := Option.bind x fun r => f r.1 r.2
def gI {R : Type} (k : IntKind) (v : AV) (f : Int → Option R) : Out f (Option R) := asI k v f
def gB {R : Type} (v : AV) (f : Bool → Option R) : Out f (Option R) := asB v f
def gS {R : Type} (v : AV) (f : List UInt8 → Option R) : Out f (Option R) := asS v f
def gc (b : Bool) (A B : Res) : Out A (Out B Res) := acond (.bool b) A B
def gi {R : Type} (b : Bool) (A B : Option R) : Out A (Out B (Option R)) := if b then A else B
def gN {R : Type} (h : AHeap) (cs : List AV) (K : Nat → AHeap → Option R) : Out K (Option R) := newB h cs K
def gf {R : Type} (b : Bool) (A : Option R) : Out A (Option R) := aif b A
def gcal {R : Type} (P : Program) (call : FuncId → List AV → AHeap → Res) (v : AV) (as : List AV) (h : AHeap) (K : AV → AHeap → Option R) : Out K (Option R) := acal P call v as h K
def ginv {R : Type} (P : Program) (call : FuncId → List AV → AHeap → Res) (v : AV) (name : String) (as : List AV) (h : AHeap) (K : AV → AHeap → Option R) : Out K (Option R) := ainv P call v name as h K

section
variable {α R : Type}
theorem gv_some (a : α) (f : α → Option R) : gv (some a) f = f a := rfl
theorem gr_some (v : AV) (h : AHeap) (f : AV → AHeap → Option R) : gr (some (v, h)) f = f v h := rfl
theorem gI_int (k : IntKind) (n : Int) (f : Int → Option R) : gI k (.int k n) f = f n := by simp [gI, asI]
theorem gB_bool (b : Bool) (f : Bool → Option R) : gB (.bool b) f = f b := rfl
theorem gS_str (s : List UInt8) (f : List UInt8 → Option R) : gS (.str s) f = f s := rfl
theorem gc_t (A B : Res) : gc true A B = A := rfl
theorem gc_f (A B : Res) : gc false A B = B := rfl
theorem gi_t (A B : Option R) : gi true A B = A := rfl
theorem gi_f (A B : Option R) : gi false A B = B := rfl
theorem gN_eq (h : AHeap) (cs : List AV) (K : Nat → AHeap → Option R) : gN h cs K = K h.length (h ++ [some (.cells false cs)]) := rfl
theorem gf_t (A : Option R) : gf true A = A := rfl
end
end Go.Ab
end
section
/-
  Arguments, opened: what an argument reads as, as abstract values and blocks that are not to be written.
-/
namespace Go.Ab
open Go.RowKit

/-- A list of cells that falls into values of these types. -/
def catQ (Q : TypeId → List AV → Prop) : List TypeId → List AV → Prop
  | [], as => as = []
  | t :: ts, as => ∃ a b, as = a ++ b ∧ Q t a ∧ catQ Q ts b
/-- The cells of an argument of this type. -/
def Arg (P : Program) (h : AHeap) : Nat → TypeId → List AV → Prop
  | 0, _, _ => False
  | f + 1, t, as =>
    match P.underlying t with
    | some .bool => ∃ b, as = [.bool b]
    | some (.int k) => ∃ n, as = [.int k n] ∧ (Lit.int k n).wf = true
    | some .string => ∃ s : List UInt8, as = [.str s] ∧ s.length ≤ maxLen
    | some (.slice e) => as = [.nilsl] ∨ ∃ b n cs, as = [.sl b 0 n (P.cellsOf e)] ∧ n ≤ maxLen ∧ n * P.bytesOf e ≤ reachBytes ∧ hget h b = some (.cells true cs) ∧ catQ (Arg P h f) (List.replicate n e) cs
    | some (.struct fs) => catQ (Arg P h f) (fs.toList.map (·.type)) as
    | some (.array n e) => catQ (Arg P h f) (List.replicate n e) as
    | _ => False
/-- Are fields laid end to end? -/
def endToEnd (P : Program) : List Field → Nat → Nat → Bool
  | [], o, n => o == n
  | f :: fs, o, n => f.offset == o && endToEnd P fs (o + P.cellsOf f.type) n
/-- A type of numbers, bools, strings, slices, structs and arrays. -/
def plainT (P : Program) : Nat → TypeId → Bool
  | 0, _ => false
  | f + 1, t =>
    match P.underlying t with
    | some .bool => true
    | some (.int _) => true
    | some .string => true
    | some (.slice e) => plainT P f e && decide (0 < P.cellsOf e)
    | some (.struct fs) => fs.toList.all (fun x => plainT P f x.type) && endToEnd P fs.toList 0 (P.cellsOf t)
    | some (.array n e) => plainT P f e && P.cellsOf t == n * P.cellsOf e
    | _ => false

theorem hget_app {h g : AHeap} {b : Nat} {x : ABlk} (e : hget h b = some x) : hget (h ++ g) b = some x := by
  have := hget_lt e
  unfold hget at e ⊢
  rw [List.getElem?_append_left this]; exact e
theorem catQ_mono {Q Q' : TypeId → List AV → Prop} (h : ∀ t as, Q t as → Q' t as) : ∀ (ts : List TypeId) (as : List AV), catQ Q ts as → catQ Q' ts as
  | [], _, e => e
  | t :: ts, as, ⟨a, b, e, q, r⟩ => ⟨a, b, e, h _ _ q, catQ_mono h ts b r⟩
theorem Arg_app {P : Program} {h : AHeap} (g : AHeap) : ∀ (f : Nat) (t : TypeId) (as : List AV), Arg P h f t as → Arg P (h ++ g) f t as
  | 0, _, _, q => q
  | f + 1, _, _, q => by
    unfold Arg at q ⊢
    split at q
    · exact q
    · exact q
    · exact q
    · rcases q with q | ⟨b, n, cs, e, hn, hnb, hg, hc⟩
      · exact .inl q
      · exact .inr ⟨b, n, cs, e, hn, hnb, hget_app hg, catQ_mono (Arg_app g f) _ _ hc⟩
    · exact catQ_mono (Arg_app g f) _ _ q
    · exact catQ_mono (Arg_app g f) _ _ q
    · exact q

/-- The state of the opening. -/
structure St (W : World) (ρ : RMap) (h : AHeap) : Prop where
  rep : Rep W.heap.size ρ h W
  fresh : ∀ id, h.length ≤ id → ρ id = none
structure Ext (ρ : RMap) (h : AHeap) (ρ' : RMap) (h' : AHeap) : Prop where
  rho : ∀ b i, ρ b = some i → ρ' b = some i
  heap : ∃ g, h' = h ++ g
theorem Ext.refl (ρ : RMap) (h : AHeap) : Ext ρ h ρ h := ⟨fun _ _ e => e, [], by simp⟩
theorem Ext.trans {ρ ρ' ρ'' : RMap} {h h' h'' : AHeap} (a : Ext ρ h ρ' h') (b : Ext ρ' h' ρ'' h'') : Ext ρ h ρ'' h'' := by
  obtain ⟨g, rfl⟩ := a.heap
  obtain ⟨g', rfl⟩ := b.heap
  exact ⟨fun _ _ e => b.rho _ _ (a.rho _ _ e), g ++ g', by simp⟩

section
variable {H : Type} {enc : TypeId × Value → H} {P : Program} {W : World}

/-- No slice of it is longer than the form's reach. -/
def Light (P : Program) (t : TypeId) (d : DataW H) : Prop := ∀ w ∈ d.weights P t, w ≤ reachBytes
theorem weights_mem_all {e : TypeId} : ∀ {ds : List (DataW H)} {d : DataW H}, d ∈ ds → ∀ w ∈ d.weights P e, w ∈ DataW.weightsAll P e ds
  | c :: ds, d, h, w, hw => by
    unfold DataW.weightsAll
    rcases List.mem_cons.1 h with rfl | h
    · simp [hw]
    · simp [weights_mem_all h w hw]
def Opens (enc : TypeId × Value → H) (P : Program) (W : World) (f : Nat) : Prop :=
  ∀ (t : TypeId) (cs : List Value) (x : DataW H × List MemPlace) (ρ : RMap) (h : AHeap), St W ρ h → DataW.trod enc P W 0 (fun _ => true) true f t cs = some x → Light P t x.1 → plainT P f t = true →
    ∃ ρ' h' as, St W ρ' h' ∧ Ext ρ h ρ' h' ∧ VRels ρ' as cs ∧ Arg P h' f t as

theorem open_list {f : Nat} (ih : Opens enc P W f) : ∀ (l : List (TypeId × List Value)) (ρ : RMap) (h : AHeap), St W ρ h →
    (∀ p ∈ l, ∃ x, DataW.trod enc P W 0 (fun _ => true) true f p.1 p.2 = some x ∧ Light P p.1 x.1) → (∀ p ∈ l, plainT P f p.1 = true) →
    ∃ ρ' h' as, St W ρ' h' ∧ Ext ρ h ρ' h' ∧ VRels ρ' as (l.flatMap (·.2)) ∧ catQ (Arg P h' f) (l.map (·.1)) as
  | [], ρ, h, st, _, _ => ⟨ρ, h, [], st, Ext.refl _ _, VRels.nil_iff.2 rfl, rfl⟩
  | p :: l, ρ, h, st, hx, hp => by
    obtain ⟨x, e, lt⟩ := hx p (by simp)
    obtain ⟨ρ1, h1, a, st1, e1, v1, q1⟩ := ih p.1 p.2 x ρ h st e lt (hp p (by simp))
    obtain ⟨ρ2, h2, b, st2, e2, v2, q2⟩ := open_list ih l ρ1 h1 st1 (fun q hq => hx q (by simp [hq])) (fun q hq => hp q (by simp [hq]))
    refine ⟨ρ2, h2, a ++ b, st2, e1.trans e2, ?_, a, b, rfl, ?_, q2⟩
    · simpa using (VRels.mono e2.rho _ _ v1).append v2
    · obtain ⟨g, rfl⟩ := e2.heap
      exact Arg_app g f _ _ q1

theorem endToEnd_cells (cs : List Value) : ∀ (fs : List Field) (o : Nat), endToEnd P fs o cs.length = true → fs.flatMap (fun f => (cs.drop f.offset).take (P.cellsOf f.type)) = cs.drop o
  | [], o, h => by
    simp only [endToEnd, beq_iff_eq] at h
    subst h; simp
  | f :: fs, o, h => by
    simp only [endToEnd, Bool.and_eq_true, beq_iff_eq] at h
    obtain ⟨rfl, h⟩ := h
    rw [List.flatMap_cons, endToEnd_cells cs fs _ h, ← List.drop_drop, List.take_append_drop]
theorem chunks (cs : List Value) (s : Nat) : ∀ (n o : Nat), cs.length = (o + n) * s → (List.range' o n).flatMap (fun i => (cs.drop (i * s)).take s) = cs.drop (o * s)
  | 0, o, h => by simp [h]
  | n + 1, o, h => by
    rw [List.range'_succ, List.flatMap_cons, chunks cs s n (o + 1) (by rw [h]; congr 1; omega), Nat.succ_mul, ← List.drop_drop, List.take_append_drop]

/-- A block that is not to be written. -/
theorem St.add {ρ : RMap} {h : AHeap} (st : St W ρ h) (i : BInfo) (as : List AV) (hl : as.length ≤ i.ext) (hv : ∀ (j : Nat) (x : AV), as[j]? = some x → ∃ v, W.cell? ⟨i.blk, i.off + j, none⟩ = some v ∧ VRel ρ x v) (hb : 0 < i.ext → i.blk < W.heap.size) :
    St W (rset ρ h.length i) (h ++ [some (.cells true as)]) ∧ Ext ρ h (rset ρ h.length i) (h ++ [some (.cells true as)]) := by
  have hn := st.fresh h.length (Nat.le_refl _)
  have hm := rset_mono (i := i) hn
  have hgn : ∀ b, hget (h ++ [some (ABlk.cells true as)]) b = if b = h.length then some (.cells true as) else hget h b := by
    intro b
    unfold hget
    rcases Nat.lt_trichotomy b h.length with hb | hb | hb
    · rw [List.getElem?_append_left hb, if_neg (by omega)]
    · subst hb; simp
    · rw [if_neg (by omega), List.getElem?_append_right (by omega), List.getElem?_eq_none (by simp; omega), List.getElem?_eq_none (by omega)]
  have key : ∀ b j blk, rset ρ h.length i b = some j → hget (h ++ [some (ABlk.cells true as)]) b = some blk → (j = i ∧ blk = .cells true as) ∨ (ρ b = some j ∧ hget h b = some blk) := by
    intro b j blk h1 h2
    rw [hgn] at h2
    unfold rset at h1
    by_cases hb : b = h.length
    · rw [if_pos hb] at h1 h2; cases h1; cases h2; exact .inl ⟨rfl, rfl⟩
    · rw [if_neg hb] at h1 h2; exact .inr ⟨h1, h2⟩
  refine ⟨⟨⟨st.rep.base, ?_, ?_, ?_, ?_, ?_⟩, ?_⟩, hm, _, rfl⟩
  · intro b j ro c h1 h2
    rcases key b j _ h1 h2 with ⟨rfl, e⟩ | ⟨h1', h2'⟩
    · cases e; exact hl
    · exact st.rep.len b j ro c h1' h2'
  · intro b j ro c h1 h2 k x hx
    rcases key b j _ h1 h2 with ⟨rfl, e⟩ | ⟨h1', h2'⟩
    · cases e
      obtain ⟨v, e, q⟩ := hv k x hx
      exact ⟨v, e, VRel.mono hm _ _ q⟩
    · obtain ⟨v, e, q⟩ := st.rep.get b j ro c h1' h2' k x hx
      exact ⟨v, e, VRel.mono hm _ _ q⟩
  · intro b j c h1 h2
    rcases key b j _ h1 h2 with ⟨_, e⟩ | ⟨h1', h2'⟩
    · cases e
    · exact st.rep.rw' b j c h1' h2'
  · intro b j c h1 h2 he
    rcases key b j _ h1 h2 with ⟨rfl, e⟩ | ⟨h1', h2'⟩
    · exact hb he
    · exact st.rep.low b j c h1' h2' he
  · intro b b' j j' c c' hne h1 h1' h2 h2'
    rcases key b j _ h1 h2 with ⟨_, e⟩ | ⟨g1, g2⟩
    · cases e
    · rcases key b' j' _ h1' h2' with ⟨_, e⟩ | ⟨g1', g2'⟩
      · cases e
      · exact st.rep.disj b b' j j' c c' hne g1 g1' g2 g2'
  · intro id hid
    simp only [List.length_append, List.length_singleton] at hid
    unfold rset
    rw [if_neg (by omega)]
    exact st.fresh id (by omega)

theorem add_add' (a : Addr) (m n : Nat) : (a.add m).add n = a.add (m + n) := by
  unfold Addr.add
  by_cases h : m = 0 <;> by_cases h' : n = 0 <;> simp [h, h', Nat.add_assoc]
theorem flat_get {α : Type} (s : Nat) (c : Nat → List α) (g : Nat → Option α) : ∀ (n o : Nat), (∀ i, o ≤ i → i < o + n → (c i).length = s ∧ ∀ j, j < s → g (i * s + j) = (c i)[j]?) → ((List.range' o n).flatMap c).length = n * s ∧ ∀ k, k < n * s → ((List.range' o n).flatMap c)[k]? = g (o * s + k)
  | 0, o, _ => by simp
  | n + 1, o, h => by
    obtain ⟨i1, i2⟩ := flat_get s c g n (o + 1) fun i h1 h2 => h i (by omega) (by omega)
    obtain ⟨l1, l2⟩ := h o (Nat.le_refl _) (by omega)
    rw [List.range'_succ, List.flatMap_cons]
    refine ⟨by rw [List.length_append, i1, l1, Nat.succ_mul]; omega, fun k hk => ?_⟩
    by_cases hks : k < s
    · rw [List.getElem?_append_left (by omega), ← l2 k hks]
    · rw [List.getElem?_append_right (by omega), l1, i2 (k - s) (by rw [Nat.succ_mul] at hk; omega), Nat.succ_mul]
      congr 1; omega
theorem drop_take_take {α : Type} (cs : List α) (o s n : Nat) (h : o + s ≤ n) : ((cs.take n).drop o).take s = (cs.drop o).take s := by
  rw [List.drop_take, List.take_take]
  congr 1; omega
theorem opens : ∀ (f : Nat), Opens enc P W f
  | 0 => fun t cs x ρ h st hx hlt hp => by simp [plainT] at hp
  | f + 1 => fun t cs x ρ h st hx hlt hp => by
    have ih := opens f
    unfold plainT at hp
    split at hp
    · rename_i hu
      obtain ⟨b, rfl, _⟩ := DataW.trod_bool hu hx
      exact ⟨ρ, h, [.bool b], st, Ext.refl _ _, VRels.cons (VRel.bool_iff.2 rfl) (VRels.nil_iff.2 rfl), by unfold Arg; rw [hu]; exact ⟨_, rfl⟩⟩
    · rename_i k hu
      obtain ⟨n, rfl, _, hw⟩ := DataW.trod_int hu hx
      exact ⟨ρ, h, [.int _ n], st, Ext.refl _ _, VRels.cons (VRel.int_iff.2 rfl) (VRels.nil_iff.2 rfl), by unfold Arg; rw [hu]; exact ⟨n, rfl, hw⟩⟩
    · rename_i hu
      obtain ⟨s, rfl, _, hs⟩ := DataW.trod_string hu hx
      exact ⟨ρ, h, [.str s.data.toList], st, Ext.refl _ _, VRels.cons (VRel.str_iff.2 (by cases s; rfl)) (VRels.nil_iff.2 rfl), by unfold Arg; rw [hu]; exact ⟨_, rfl, by simpa using hs⟩⟩
    · rename_i e hu
      simp only [Bool.and_eq_true, decide_eq_true_eq] at hp
      rcases DataW.trod_slice hu hx with ⟨rfl, _⟩ | ⟨a, len, cap, elems, rest, n, hn, rfl, rfl, _, hlc, hcap, hel, he, hr, _⟩
      · exact ⟨ρ, h, [.nilsl], st, Ext.refl _ _, VRels.cons (by simp [VRel]) (VRels.nil_iff.2 rfl), by unfold Arg; rw [hu]; exact .inl rfl⟩
      · cases hn
        obtain ⟨hrl, hr⟩ := hr rfl
        have hw : DataW.weights P t (.slice (elems.map (·.1)) (rest.map (·.1))) = ((elems.map (·.1)).length + (rest.map (·.1)).length) * P.bytesOf e :: (DataW.weightsAll P e (elems.map (·.1)) ++ DataW.weightsAll P e (rest.map (·.1))) := by
          simp [DataW.weights, hu]
        have hb : len * P.bytesOf e ≤ reachBytes := by
          have := hlt _ (by rw [hw]; exact List.mem_cons_self)
          refine Nat.le_trans (Nat.mul_le_mul_right _ ?_) this
          simp; omega
        have hle1 : ∀ d ∈ elems, Light P e d.1 := fun d hd w hw' => hlt w (by rw [hw]; exact List.mem_cons_of_mem _ (List.mem_append_left _ (weights_mem_all (List.mem_map_of_mem hd) w hw')))
        have hle2 : ∀ d ∈ rest, Light P e d.1 := fun d hd w hw' => hlt w (by rw [hw]; exact List.mem_cons_of_mem _ (List.mem_append_right _ (weights_mem_all (List.mem_map_of_mem hd) w hw')))
        -- every element's cells
        have hcell : ∀ i, i < cap → ∃ cs x, W.cells? 0 (a.add (i * P.cellsOf e)) (P.cellsOf e) = some cs ∧ DataW.trod enc P W 0 (fun _ => true) true f e cs = some x ∧ Light P e x.1 := by
          intro i hi
          by_cases h1 : i < len
          · have h2 := he i h1
            have h3 : elems[i]? = some (elems[i]'(by omega)) := by simp [show i < elems.length from by omega]
            rw [h3] at h2
            obtain ⟨cs, q1, q2⟩ := Option.bind_eq_some_iff.1 h2
            exact ⟨cs, _, q1, q2, hle1 _ (List.getElem_mem _)⟩
          · have h2 := hr (i - len) (by omega)
            have h3 : rest[i - len]? = some (rest[i - len]'(by omega)) := by simp [show i - len < rest.length from by omega]
            rw [h3, show len + (i - len) = i from by omega] at h2
            obtain ⟨cs, q1, q2⟩ := Option.bind_eq_some_iff.1 h2
            exact ⟨cs, _, q1, q2, hle2 _ (List.getElem_mem _)⟩
        -- the cells, all in a row
        have hone : ∀ i j, i < cap → j < P.cellsOf e → ∃ v, W.cell? (a.add (i * P.cellsOf e + j)) = some v := by
          intro i j hi hj
          obtain ⟨cs, x, q1, _⟩ := hcell i hi
          obtain ⟨_, hl, hc⟩ := World.cells?_some q1
          refine ⟨cs[j]'(by omega), ?_⟩
          have := hc j hj
          rw [add_add'] at this
          rw [this]; simp [show j < cs.length from by omega]
        have hspot : 0 < cap → a = ⟨a.block, a.off, none⟩ ∧ a.block < W.heap.size := by
          intro h0
          obtain ⟨v, hv⟩ := hone 0 0 h0 hp.2
          have ha : a.add (0 * P.cellsOf e + 0) = a := by simp [Addr.add]
          rw [ha] at hv
          have h1 := World.cell?_spot hv
          obtain ⟨b, o, s⟩ := a
          simp only at h1
          subst h1
          exact ⟨rfl, World.block_lt_of_cell? W _ hv⟩
        obtain ⟨ρ1, h1, as, st1, e1, v1, q1⟩ := open_list ih ((List.range len).map fun i => (e, ((W.cells? 0 (a.add (i * P.cellsOf e)) (P.cellsOf e)).getD []))) ρ h st
          (by
            intro p hp'
            obtain ⟨i, hi, rfl⟩ := List.mem_map.1 hp'
            obtain ⟨cs, x, g1, g2⟩ := hcell i (by have := List.mem_range.1 hi; omega)
            exact ⟨x, by simpa [g1] using g2⟩)
          (by
            intro p hp'
            obtain ⟨i, hi, rfl⟩ := List.mem_map.1 hp'
            exact hp.1)
        rw [List.flatMap_map] at v1
        simp only at v1
        have hc : ∀ i, 0 ≤ i → i < 0 + len → ((W.cells? 0 (a.add (i * P.cellsOf e)) (P.cellsOf e)).getD []).length = P.cellsOf e ∧
            ∀ j, j < P.cellsOf e → (fun k => W.cell? (a.add k)) (i * P.cellsOf e + j) = ((W.cells? 0 (a.add (i * P.cellsOf e)) (P.cellsOf e)).getD [])[j]? := by
          intro i _ hi
          obtain ⟨cs, x, g1, _⟩ := hcell i (by omega)
          obtain ⟨_, hl, hcs⟩ := World.cells?_some g1
          rw [g1]
          refine ⟨hl, fun j hj => ?_⟩
          rw [Option.getD_some, ← hcs j hj, add_add']
        obtain ⟨fl, fg⟩ := flat_get (P.cellsOf e) (fun i => (W.cells? 0 (a.add (i * P.cellsOf e)) (P.cellsOf e)).getD []) (fun k => W.cell? (a.add k)) len 0 hc
        rw [← List.range_eq_range'] at fl fg
        have hasl : as.length = len * P.cellsOf e := by rw [v1.length]; exact fl
        have hadd : ∀ k, k < cap * P.cellsOf e → a.add k = ⟨a.block, a.off + k, none⟩ := by
          intro k hk
          have h0 : 0 < cap := by
            rcases Nat.eq_zero_or_pos cap with h0 | h0
            · rw [h0] at hk; omega
            · exact h0
          rw [(hspot h0).1]
          unfold Addr.add
          by_cases hk0 : k = 0
          · rw [if_pos hk0]; simp [hk0]
          · rw [if_neg hk0]
        have hle : len * P.cellsOf e ≤ cap * P.cellsOf e := Nat.mul_le_mul_right _ hlc
        obtain ⟨st2, e2⟩ := st1.add ⟨a.block, a.off, cap * P.cellsOf e⟩ as (by simp only; omega)
          (by
            intro j x hx
            obtain ⟨v, g1, g2⟩ := v1.get j x hx
            have hj : j < as.length := (List.getElem?_eq_some_iff.1 hx).1
            rw [fg j (by omega), Nat.zero_mul, Nat.zero_add, hadd j (by omega)] at g1
            exact ⟨v, g1, g2⟩)
          (by
            intro h0
            simp only at h0
            refine (hspot ?_).2
            rcases Nat.eq_zero_or_pos cap with h1 | h1
            · rw [h1] at h0; omega
            · exact h1)
        refine ⟨_, _, [.sl h1.length 0 len (P.cellsOf e)], st2, e1.trans e2, VRels.cons (VRel.sl_iff.2 ⟨⟨a.block, a.off, cap * P.cellsOf e⟩, a, cap, ?_, rfl, hlc, hp.2, ?_⟩) (VRels.nil_iff.2 rfl), ?_⟩
        · unfold rset; rw [if_pos rfl]
        · intro h0
          exact ⟨by simpa using (hspot h0).1, by simp⟩
        · unfold Arg; rw [hu]
          refine .inr ⟨h1.length, len, as, rfl, by omega, hb, by simp [hget], ?_⟩
          have : List.map (fun x => x.1) (List.map (fun i => (e, ((W.cells? 0 (a.add (i * P.cellsOf e)) (P.cellsOf e)).getD []))) (List.range len)) = List.replicate len e := by
            rw [List.map_map]
            apply List.ext_getElem <;> simp
          rw [this] at q1
          exact catQ_mono (fun t as q => Arg_app _ f t as q) _ _ q1
    · rename_i fs hu
      simp only [Bool.and_eq_true, List.all_eq_true] at hp
      obtain ⟨xs, n, hn, hxe, hl, hxl, hf⟩ := DataW.trod_struct hu hx
      cases hn
      obtain ⟨ρ1, h1, as, st1, e1, v1, q1⟩ := open_list ih (fs.toList.map fun x => (x.type, (cs.drop x.offset).take (P.cellsOf x.type))) ρ h st
        (by
          intro p hp'
          obtain ⟨x, hx', rfl⟩ := List.mem_map.1 hp'
          obtain ⟨i, hi, rfl⟩ := List.getElem_of_mem hx'
          have := hf i (fs.toList[i]) (by simpa using hi)
          have hi' : i < xs.length := by simpa [hxl] using hi
          exact ⟨xs[i], by rw [this]; simp [hi'], fun w hw' => hlt w (by rw [hxe]; simp only [DataW.weights, hu]; exact DataW.weights_mem_each (j := i) (by have := hi; simp at this; simp [this]) (by simp [hi']) w hw')⟩)
        (by
          intro p hp'
          obtain ⟨x, hx', rfl⟩ := List.mem_map.1 hp'
          exact hp.1 x hx')
      refine ⟨ρ1, h1, as, st1, e1, ?_, ?_⟩
      · rw [List.flatMap_map] at v1
        rw [endToEnd_cells cs fs.toList 0 (by rw [hl]; exact hp.2)] at v1
        simpa using v1
      · unfold Arg; rw [hu]
        simpa [List.map_map, Function.comp_def] using q1
    · rename_i n e hu
      simp only [Bool.and_eq_true, beq_iff_eq] at hp
      obtain ⟨xs, m, hm, hxe, hl, hxl, hf⟩ := DataW.trod_array hu hx
      cases hm
      obtain ⟨ρ1, h1, as, st1, e1, v1, q1⟩ := open_list ih ((List.range n).map fun i => (e, (cs.drop (i * P.cellsOf e)).take (P.cellsOf e))) ρ h st
        (by
          intro p hp'
          obtain ⟨i, hi, rfl⟩ := List.mem_map.1 hp'
          have hi := List.mem_range.1 hi
          have := hf i hi
          exact ⟨xs[i], by rw [this]; simp [show i < xs.length from by omega], fun w hw' => hlt w (by rw [hxe]; simp only [DataW.weights, hu]; exact weights_mem_all (List.mem_map_of_mem (List.getElem_mem _)) w hw')⟩)
        (by
          intro p hp'
          obtain ⟨i, hi, rfl⟩ := List.mem_map.1 hp'
          exact hp.1)
      refine ⟨ρ1, h1, as, st1, e1, ?_, ?_⟩
      · rw [List.flatMap_map] at v1
        have := chunks cs (P.cellsOf e) n 0 (by rw [hl, hp.2]; simp)
        rw [← List.range_eq_range'] at this
        simp only at v1
        rw [this] at v1
        simpa using v1
      · unfold Arg; rw [hu]
        have : List.map (fun x => x.1) (List.map (fun i => (e, (cs.drop (i * P.cellsOf e)).take (P.cellsOf e))) (List.range n)) = List.replicate n e := by
          rw [List.map_map]
          apply List.ext_getElem <;> simp
        rw [this] at q1
        exact q1
    · cases hp
end
end Go.Ab
end
section
/-
  A law's row from an answer of the evaluator: whatever the arguments, true.
-/
namespace Go.Ab
open Go.RowKit Go.ChangeShapes

/-- An argument as one abstract value. -/
def ArgV (P : Program) (h : AHeap) (f : Nat) (t : TypeId) (x : AV) : Prop :=
  match P.underlying t with
  | some (.struct _) => ∃ as, x = .agg as ∧ Arg P h f t as
  | some (.array _ _) => ∃ as, x = .agg as ∧ Arg P h f t as
  | _ => Arg P h f t [x]
def ArgsV (P : Program) (h : AHeap) (f : Nat) : List TypeId → List AV → Prop
  | [], xs => xs = []
  | t :: ts, xs => ∃ x r, xs = x :: r ∧ ArgV P h f t x ∧ ArgsV P h f ts r

theorem ArgV_app {P : Program} {h : AHeap} (g : AHeap) {f : Nat} {t : TypeId} {x : AV} (q : ArgV P h f t x) : ArgV P (h ++ g) f t x := by
  unfold ArgV at q ⊢
  split at q
  · obtain ⟨as, e, q⟩ := q; exact ⟨as, e, Arg_app g f t as q⟩
  · obtain ⟨as, e, q⟩ := q; exact ⟨as, e, Arg_app g f t as q⟩
  · exact Arg_app g f t _ q

section
variable {H : Type} {enc : TypeId × Value → H} {P : Program} {W : World}

theorem trod_more {f f' : Nat} {t : TypeId} {cs : List Value} {x : DataW H × List MemPlace} (h : DataW.trod enc P W 0 (fun _ => true) true f t cs = some x) (hf : f ≤ f') : DataW.trod enc P W 0 (fun _ => true) true f' t cs = some x :=
  DataW.trod_le hf h

theorem plainT_le {P : Program} : ∀ (f f' : Nat) (t : TypeId), f ≤ f' → plainT P f t = true → plainT P f' t = true
  | 0, _, _, _, h => by simp [plainT] at h
  | f + 1, 0, _, hf, _ => absurd hf (by omega)
  | f + 1, f' + 1, t, hf, h => by
    have ih := fun t => plainT_le (P := P) f f' t (by omega)
    unfold plainT at h ⊢
    split at h
    · rfl
    · rfl
    · rfl
    · simp only [Bool.and_eq_true] at h ⊢; exact ⟨ih _ h.1, h.2⟩
    · simp only [Bool.and_eq_true, List.all_eq_true] at h ⊢; exact ⟨fun x hx => ih _ (h.1 x hx), h.2⟩
    · simp only [Bool.and_eq_true] at h ⊢; exact ⟨ih _ h.1, h.2⟩
    · exact absurd h (by simp)
theorem catQ_mono' {Q Q' : TypeId → List AV → Prop} : ∀ (ts : List TypeId) (as : List AV), (∀ t ∈ ts, ∀ as, Q t as → Q' t as) → catQ Q ts as → catQ Q' ts as
  | [], _, _, e => e
  | t :: ts, as, h, ⟨a, b, e, q, r⟩ => ⟨a, b, e, h t (by simp) _ q, catQ_mono' ts b (fun t ht => h t (by simp [ht])) r⟩
/-- More fuel than the type's depth gives nothing more. -/
theorem Arg_fuel {P : Program} {h : AHeap} : ∀ (f f' : Nat) (t : TypeId) (as : List AV), plainT P f t = true → f ≤ f' → Arg P h f' t as → Arg P h f t as
  | 0, _, _, _, h, _, _ => by simp [plainT] at h
  | f + 1, 0, _, _, _, hf, _ => absurd hf (by omega)
  | f + 1, f' + 1, t, as, hp, hf, q => by
    have ih := fun t as hp => Arg_fuel (P := P) (h := h) f f' t as hp (by omega)
    unfold plainT at hp
    unfold Arg at q ⊢
    cases hu : P.underlying t with
    | none => rw [hu] at q; exact q.elim
    | some d =>
      rw [hu] at q hp
      cases d with
      | slice e =>
        simp only [Bool.and_eq_true] at hp
        rcases q with q | ⟨b, n, cs, e1, hn, hnb, hg, hc⟩
        · exact .inl q
        · exact .inr ⟨b, n, cs, e1, hn, hnb, hg, catQ_mono' _ _ (fun t ht as q => ih t as (by rw [(List.mem_replicate.1 ht).2]; exact hp.1) q) hc⟩
      | struct fs =>
        simp only [Bool.and_eq_true, List.all_eq_true] at hp
        exact catQ_mono' _ _ (fun t ht as q => ih t as (by obtain ⟨x, hx, rfl⟩ := List.mem_map.1 ht; exact hp.1 x hx) q) q
      | array n e =>
        simp only [Bool.and_eq_true] at hp
        exact catQ_mono' _ _ (fun t ht as q => ih t as (by rw [(List.mem_replicate.1 ht).2]; exact hp.1) q) q
      | _ => exact q

theorem open_all {F base : Nat} : ∀ (ts : List TypeId) (vs : List Value) (ds : List (DataW H)) (ps : List MemPlace) (ρ : RMap) (h : AHeap), St W ρ h → DataW.TrodAll enc P W 0 (fun _ => true) true ts vs ds ps →
    (∀ (j : Nat) t v, ts[j]? = some t → vs[j]? = some v → Value.okWide P W .any base t v) → (∀ t ∈ ts, plainT P F t = true) → (∀ w ∈ DataW.weightsEach P ts ds, w ≤ reachBytes) →
    ∃ ρ' h' xs, St W ρ' h' ∧ Ext ρ h ρ' h' ∧ VRels ρ' xs vs ∧ ArgsV P h' F ts xs
  | [], vs, ds, ps, ρ, h, st, hA, _, _, _ => by
    obtain ⟨rfl, _, _⟩ := trodAll_nil hA
    exact ⟨ρ, h, [], st, Ext.refl _ _, VRels.nil_iff.2 rfl, rfl⟩
  | t :: ts, vs, ds, ps, ρ, h, st, hA, hok, hp, hw => by
    obtain ⟨v, vs', d, ds', a, b, rfl, rfl, rfl, ⟨f0, h1⟩, h2⟩ := trodAll_cons hA
    have h1' := trod_more h1 (Nat.le_max_right F f0)
    obtain ⟨ρ1, g1, as, st1, e1, v1, q1⟩ := opens (enc := enc) (P := P) (max F f0) t _ _ ρ h st h1' (fun w hw' => hw w (DataW.weights_mem_each (j := 0) (by simp) (by simp) w hw')) (plainT_le _ _ _ (Nat.le_max_left _ _) (hp t (by simp)))
    have q1' := Arg_fuel _ _ t as (hp t (by simp)) (Nat.le_max_left F f0) q1
    obtain ⟨ρ2, g2, xs, st2, e2, v2, q2⟩ := open_all ts vs' ds' b ρ1 g1 st1 h2 (fun j t' v' ht hv => hok (j + 1) t' v' (by simpa using ht) (by simpa using hv)) (fun t' ht => hp t' (by simp [ht])) (fun w hw' => hw w (by unfold DataW.weightsEach; simp [hw']))
    have hokv := hok 0 t v (by simp) (by simp)
    obtain ⟨g, hg⟩ := e2.heap
    have key : ∃ x, VRel ρ2 x v ∧ ArgV P g2 F t x := by
      have agg : ∀ cs : Array Value, v = .agg cs → VRel ρ2 (.agg as) v := by
        rintro cs rfl
        exact VRel.agg_iff.2 ⟨cs, rfl, VRels.mono e2.rho _ _ (by simpa [Value.cells] using v1)⟩
      have one : (∀ x, as = [x] → Arg P g1 F t [x]) → v.cells.toList = [v] → (∃ x, as = [x]) → ∃ x, VRel ρ2 x v ∧ Arg P g2 F t [x] := by
        rintro ha hc ⟨x, rfl⟩
        rw [hc] at v1
        obtain ⟨v', vs'', e, hv, _⟩ := VRels.cons_iff.1 v1
        cases e
        refine ⟨x, VRel.mono e2.rho _ _ hv, ?_⟩
        rw [hg]; exact Arg_app g F t _ (ha x rfl)
      cases hu : P.underlying t with
      | none => 
        obtain ⟨n, hn⟩ : ∃ n, F = n + 1 := by cases F with | zero => simpa [plainT] using hp t (by simp) | succ n => exact ⟨n, rfl⟩
        rw [hn] at q1'; unfold Arg at q1'; rw [hu] at q1'; exact q1'.elim
      | some d =>
        obtain ⟨n, hn⟩ : ∃ n, F = n + 1 := by cases F with | zero => simpa [plainT] using hp t (by simp) | succ n => exact ⟨n, rfl⟩
        have q1'' := q1'
        rw [hn] at q1''; unfold Arg at q1''; rw [hu] at q1''
        unfold Value.okWide at hokv
        rw [hu] at hokv
        unfold ArgV
        simp only [hu]
        cases d with
        | struct fs =>
          obtain ⟨cs, rfl, _⟩ := hokv
          exact ⟨.agg as, agg cs rfl, as, rfl, by rw [hg]; exact Arg_app g F t _ q1'⟩
        | array n e =>
          obtain ⟨cs, rfl, _⟩ := hokv
          exact ⟨.agg as, agg cs rfl, as, rfl, by rw [hg]; exact Arg_app g F t _ q1'⟩
        | bool =>
          cases v with
          | agg cs => simp [Cell.okWide, Cell.ok, hu] at hokv
          | _ => exact one (fun x e => e ▸ q1') rfl (by obtain ⟨b, rfl⟩ := q1''; exact ⟨_, rfl⟩)
        | int k =>
          cases v with
          | agg cs => simp [Cell.okWide, Cell.ok, hu] at hokv
          | _ => exact one (fun x e => e ▸ q1') rfl (by obtain ⟨b, rfl, _⟩ := q1''; exact ⟨_, rfl⟩)
        | string =>
          cases v with
          | agg cs => simp [Cell.okWide, Cell.ok, hu] at hokv
          | _ => exact one (fun x e => e ▸ q1') rfl (by obtain ⟨b, rfl, _⟩ := q1''; exact ⟨_, rfl⟩)
        | slice e =>
          cases v with
          | agg cs => simp [Cell.okWide, Cell.ok, hu] at hokv
          | _ => exact one (fun x e => e ▸ q1') rfl (by rcases q1'' with rfl | ⟨b, n, cs, rfl, _⟩ <;> exact ⟨_, rfl⟩)
        | _ => exact q1''.elim
    obtain ⟨x, hx, qx⟩ := key
    exact ⟨ρ2, g2, x :: xs, st2, e1.trans e2, VRels.cons hx v2, x, xs, rfl, qx, q2⟩

/-- The row's last word, where below the heap's old size nothing has turned. -/
theorem post_below {f : Func} {s : ChangeSpec} {apart fresh : Bool} {W' : World} {args : Array Value} {ds gs : List (DataW H)} {before : List MemPlace} {tb : TypeId} (hl : laidOutB P = true)
    (hts : ∀ t ∈ f.params.toList, P.readableRec t = true ∧ t < P.types.size) (hsv : s.vars = []) (hrt : f.resultTypes = #[tb]) (htb : P.underlying tb = some .bool)
    (hs1 : (s.fn H ds).results = [.lit (.bool true)]) (hs2 : (s.fn H ds).args = ds) (hs3 : (s.fn H ds).vars = [])
    (hW : DataW.Whole enc P f.params.toList s.vars apart W args.toList ds gs before) (hb : Below W.heap.size W W') : s.post enc P f apart fresh false false W args (.bool true) W' := by
  have hW0 := hW
  obtain ⟨p, q, hA, hV, rfl, hfz, hnd⟩ := hW
  rw [hsv] at hV
  obtain ⟨rfl, rfl⟩ := trodVars_none hV
  simp only [List.append_nil] at hW0
  have hlt := fun x hx => hW0.lt x hx
  have all : ∀ (ts : List TypeId) (vs : List Value) (ds : List (DataW H)) (p : List MemPlace), (∀ t ∈ ts, P.readableRec t = true ∧ t < P.types.size) → (∀ x ∈ p, x.block < W.heap.size) → DataW.TrodAll enc P W 0 (fun _ => true) true ts vs ds p →
      DataW.TrodAll enc P W' 0 (fun b => decide (b < W.heap.size)) true ts vs ds p := by
    intro ts
    induction ts with
    | nil =>
      intro vs ds p _ _ h
      obtain ⟨rfl, rfl, rfl⟩ := trodAll_nil h
      rfl
    | cons t ts ih =>
      intro vs ds p ht hp h
      obtain ⟨v, vs', d, ds', a, b, rfl, rfl, rfl, h1, h2⟩ := trodAll_cons h
      exact trodAll_cons_mk (Below.trod hl (ht t (by simp)).1 (ht t (by simp)).2 h1 hb fun x hx => hp x (by simp [hx])) (ih _ _ _ (fun t' h' => ht t' (by simp [h'])) (fun x hx => hp x (by simp [hx])) h2)
  refine ⟨ds, [], p, [], p, [], hW0, ?_, ?_, ?_, hb.frame _, fun h => by cases h⟩
  · rw [List.append_nil, hs1, hrt]
    exact trodAll_cons_mk (shut_bool htb _) trodAll_mk0
  · rw [List.append_nil, hs2]
    exact all _ _ _ _ hts hlt hA
  · rw [hsv, List.append_nil, hs3]
    rfl
end
attribute [irreducible] ArgV
end Go.Ab
end
