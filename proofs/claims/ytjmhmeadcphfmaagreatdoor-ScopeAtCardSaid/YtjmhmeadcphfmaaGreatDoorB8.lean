import Derived.Test.YtjmhmeadcphfmaaGreatDoorB7
namespace Go.Proofs.YtjmhmeadcphfmaaGreatDoor.Pl
set_option linter.unusedVariables false
set_option linter.unusedSimpArgs false
open Go.RowKit
set_option linter.unusedSectionVars false
abbrev VP (Ω : Type) := Value → Ω → Prop
class Kpo (Ω : Type) where
  kp : Ω → Ω → Prop
  refl : ∀ w, kp w w
  trans : ∀ a b c, kp a b → kp b c → kp a c
variable {Ω : Type} [Kpo Ω]
def lk : List (Option Tmp × VP Ω) → Tmp → Option (VP Ω)
  | [], _ => none
  | (d, V) :: r, t => if d = some t then some V else lk r t
def Rds (env : List (Option Tmp × VP Ω)) (a0 : Act) : List Tmp → Act → Ω → Prop
  | [], _, _ => True
  | t :: ts, a, w => (match lk env t with | some V => ∃ u, RdEq a t u ∧ V u w | none => RdEq a t (a0.tmps.getD t undef)) ∧ Rds env a0 ts a w
def headOk (opw : Oper → Act → Ω → (Act → Ω → Prop) → Prop) (a0 : Act) (w0 : Ω) (C : Ω → Prop) (env : List (Option Tmp × VP Ω)) (o : Oper) (V : VP Ω) : Prop :=
  ∀ a w, C w → Kpo.kp w0 w → Rds env a0 (rdsO o) a w → ∀ K : Act → Ω → Prop, (∀ u w', Kpo.kp w w' → C w' → V u w' → K (a.put o.dst u) w') → opw o a w K
def isV (env : List (Option Tmp × VP Ω)) (j : Nat) (x : Value) : Prop := match env[j]? with | some (_, V) => ∀ u w, V u w → u = x | none => False
def stepOk (opw : Oper → Act → Ω → (Act → Ω → Prop) → Prop) (a0 : Act) (w0 : Ω) (C : Ω → Prop) (env : List (Option Tmp × VP Ω)) (o : Oper) (V : VP Ω) : Prop :=
  match o.guard with
  | none => headOk opw a0 w0 C env o V
  | some (j, b) => (isV env j (.bool b) ∧ headOk opw a0 w0 C env o V) ∨ ((isV env j (.bool !b) ∨ isV env j undef) ∧ V = fun u _ => u = undef)
def finG (F : Act → Ω → Prop) (w : Ω) : List (Option Tmp × VP Ω) → Act → Prop
  | [], a => F a w
  | (none, _) :: r, a => finG F w r a
  | (some d, V) :: r, a => ∀ u, V u w → finG F w r (a.put (some d) u)
def walkG (opw : Oper → Act → Ω → (Act → Ω → Prop) → Prop) (a0 : Act) (w0 : Ω) (C : Ω → Prop) (F : Act → Ω → Prop) : List Oper → List (Option Tmp × VP Ω) → Prop
  | [], env => ∀ w, C w → Kpo.kp w0 w → finG F w env a0
  | o :: l, env => ∃ V : VP Ω, (∀ u w w', V u w → Kpo.kp w w' → V u w') ∧ stepOk opw a0 w0 C env o V ∧ walkG opw a0 w0 C F l (env ++ [(o.dst, V)])
structure GI (ops : Array Oper) (nh : Nat) (a0 : Act) (w0 : Ω) (C : Ω → Prop) (env : List (Option Tmp × VP Ω)) (listed : Array Bool) (a : Act) (w : Ω) : Prop where
  size : listed.size = ops.size
  closed : ∀ i j, listed.getD i false = true → edge ops i j = true → listed.getD j false = true
  heads : ∀ i, listed.getD i false = true → i < nh
  c : C w
  keep : Kpo.kp w0 w
  vals : ∀ j d V, listed.getD j false = true → env[j]? = some (some d, V) → V (a.tmps.getD d undef) w
  rest : ∀ t, (∀ j, listed.getD j false = true → dstO ops j ≠ some t) → a.tmps.getD t undef = a0.tmps.getD t undef
  tsize : a.tmps.size = a0.tmps.size
  defers : a.defers = a0.defers
section
variable {ops : Array Oper} {nh : Nat} {a0 : Act} {w0 : Ω} {C : Ω → Prop}
theorem lk_some {env : List (Option Tmp × VP Ω)} {t : Tmp} {V : VP Ω} (h : lk env t = some V) : ∃ j : Nat, env[j]? = some (some t, V) := by
  induction env with
  | nil => cases h
  | cons x r ih =>
    obtain ⟨d, V'⟩ := x
    unfold lk at h
    split at h
    · rename_i e; cases h; exact ⟨0, by simp [e]⟩
    · obtain ⟨j, hj⟩ := ih h; exact ⟨j + 1, by simpa using hj⟩
theorem lk_none {env : List (Option Tmp × VP Ω)} {t : Tmp} (h : lk env t = none) : ∀ (j : Nat) V, env[j]? ≠ some (some t, V) := by
  induction env with
  | nil => intro j V; simp
  | cons x r ih =>
    obtain ⟨d, V'⟩ := x
    unfold lk at h
    split at h
    · cases h
    · rename_i e
      intro j V
      cases j with
      | zero => simp; intro h1; exact absurd h1 e
      | succ j => simpa using ih h j V
def ChkR (ops : Array Oper) (nh nt : Nat) : Prop := ∀ i, i < nh → ∃ o, ops[i]? = some o ∧ (∀ t ∈ rdsO o, chkRead ops nh i t = true) ∧
    (∀ j b, o.guard = some (j, b) → j < i ∧ edge ops i j = true ∧ (dstO ops j).isSome) ∧ (∀ d, o.dst = some d → d < nt ∧ ∀ j, j < nh → dstO ops j = some d → j = i)
omit [Kpo Ω] in
theorem chkR_of {nt : Nat} (h : chkG ops nh nt = true) : ChkR ops nh nt := fun i hi => by
  obtain ⟨o, h1, h2, h3, h4, _⟩ := chk_at h hi
  exact ⟨o, h1, h2, h3, h4⟩
theorem GI.rds {nt i : Nat} {o : Oper} {env env' : List (Option Tmp × VP Ω)} {listed : Array Bool} {a : Act} {w : Ω} (hg : GI ops nh a0 w0 C env' listed a w) (hchk : ChkR ops nh nt)
    (hi : i < nh) (ho : ops[i]? = some o) (hun : listed.getD i false = false) (hready : ∀ j, edge ops i j = true → listed.getD j false = true)
    (hlen : env.length = i) (hpre : ∀ j : Nat, j < i → env'[j]? = env[j]?) (hdst : ∀ (j : Nat) x, env[j]? = some x → dstO ops j = x.1) :
    ∀ ts : List Tmp, (∀ t ∈ ts, chkRead ops nh i t = true) → Rds env a0 ts a w := by
  intro ts
  induction ts with
  | nil => intro _; trivial
  | cons t ts ih =>
    intro hts
    refine ⟨?_, ih fun t' h' => hts t' (by simp [h'])⟩
    have hct := hts t (by simp)
    unfold chkRead at hct
    cases hl : lk env t with
    | some V =>
      obtain ⟨j, hj⟩ := lk_some hl
      have hji : j < i := by rw [← hlen]; exact (List.getElem?_eq_some_iff.1 hj).1
      have hdj := hdst j _ hj
      obtain ⟨j', hw⟩ := writer_of (nh := nh) (show j < nh by omega) hdj
      obtain ⟨w1, w2⟩ := writer_some hw
      obtain ⟨oj, hoj, _, _, hd⟩ := hchk j (show j < nh by omega)
      have : j' = j := (hd t (by unfold dstO at hdj; rw [hoj] at hdj; exact hdj)).2 j' w1 w2
      subst this
      simp only [hw, if_pos hji] at hct
      have := hg.vals j' t V (hready j' hct) (by rw [hpre j' hji]; exact hj)
      exact ⟨_, RdEq.of rfl, this⟩
    | none =>
      refine RdEq.of (hg.rest t fun j hlj hdj => ?_)
      have hjn := hg.heads j hlj
      obtain ⟨j', hw⟩ := writer_of hjn hdj
      obtain ⟨w1, w2⟩ := writer_some hw
      obtain ⟨oj, hoj, _, _, hd⟩ := hchk _ hjn
      have : j' = j := (hd t (by unfold dstO at hdj; rw [hoj] at hdj; exact hdj)).2 j' w1 w2
      subst this
      simp only [hw] at hct
      by_cases h1 : j' < i
      · have hjl : j' < env.length := by omega
        have := hdst j' _ (List.getElem?_eq_getElem hjl)
        rw [hdj] at this
        exact lk_none hl j' env[j'].2 (by rw [List.getElem?_eq_getElem hjl]; congr 1; exact Prod.ext this.symm rfl)
      · rw [if_neg h1] at hct
        by_cases h2 : i < j'
        · rw [if_pos h2] at hct
          have := hg.closed j' i hlj hct
          rw [hun] at this; cases this
        · have : j' = i := by omega
          subst this
          rw [hun] at hlj; cases hlj
theorem GI.step {nt i : Nat} {o : Oper} {V : VP Ω} {env : List (Option Tmp × VP Ω)} {listed : Array Bool} {a : Act} {w w' : Ω} {u : Value} (hg : GI ops nh a0 w0 C env listed a w) (hchk : ChkR ops nh nt)
    (hnt : a0.tmps.size = nt) (hi : i < nh) (ho : ops[i]? = some o) (hun : listed.getD i true = false) (hready : ∀ j, edge ops i j = true → listed.getD j false = true)
    (hst : ∀ (j : Nat) d V, env[j]? = some (d, V) → ∀ u w w', V u w → Kpo.kp w w' → V u w') (hdst : ∀ (j : Nat) x, env[j]? = some x → dstO ops j = x.1)
    (hV : env[i]? = some (o.dst, V)) (hk : Kpo.kp w w') (hc : C w') (hu : V u w') : GI ops nh a0 w0 C env (listed.setIfInBounds i true) (a.put o.dst u) w' := by
  obtain ⟨hf, hlt⟩ := getD_ff hun
  have hl : ∀ j, (listed.setIfInBounds i true).getD j false = true → j = i ∨ listed.getD j false = true := fun j hj => by
    by_cases e : j = i
    · exact .inl e
    · exact .inr (by rwa [getD_set_other e] at hj)
  have hl' : ∀ j, listed.getD j false = true → (listed.setIfInBounds i true).getD j false = true := fun j hj => by
    by_cases e : j = i
    · subst e; exact getD_set_same hlt
    · rwa [getD_set_other e]
  obtain ⟨o', ho', _, _, hd⟩ := hchk _ hi
  obtain rfl : o' = o := Option.some.inj (ho'.symm.trans ho)
  refine ⟨by simp [hg.size], ?_, ?_, hc, Kpo.trans _ _ _ hg.keep hk, ?_, ?_, ?_, ?_⟩
  · intro j k hj he
    rcases hl j hj with rfl | hj
    · exact hl' _ (hready k he)
    · exact hl' _ (hg.closed j k hj he)
  · intro j hj
    rcases hl j hj with rfl | hj
    · exact hi
    · exact hg.heads j hj
  · intro j d V' hj hV'
    have hdj := hdst j _ hV'
    rcases hl j hj with rfl | hj2
    · have hVV := hV.symm.trans hV'
      simp only [Option.some.injEq, Prod.mk.injEq] at hVV
      obtain ⟨hd0, rfl⟩ := hVV
      rw [hd0, put_getD_same (by rw [hg.tsize, hnt]; exact (hd d hd0).1)]
      exact hu
    · have := hst j _ _ hV' _ _ _ (hg.vals j d V' hj2 hV') hk
      cases hod : o'.dst with
      | none => exact this
      | some d' =>
        rw [put_getD_other]
        · exact this
        · intro e
          subst e
          have hjn := hg.heads j hj2
          have := (hd d hod).2 j hjn hdj
          subst this
          rw [hf] at hj2; cases hj2
  · intro t ht
    cases hod : o'.dst with
    | none => exact hg.rest t fun j hj => ht j (hl' j hj)
    | some d' =>
      rw [put_getD_other]
      · exact hg.rest t fun j hj => ht j (hl' j hj)
      · intro e
        subst e
        exact ht i (getD_set_same hlt) (by unfold dstO; rw [ho]; exact hod)
  · rw [← hg.tsize]; cases o'.dst <;> simp [Act.put]
  · rw [← hg.defers]; cases o'.dst <;> simp [Act.put]
def fillA (a : Act) (b : Act) (x : Option Tmp × VP Ω) : Act := match x.1 with | none => b | some d => b.put (some d) (a.tmps.getD d undef)
theorem finG_fill {F : Act → Ω → Prop} {w : Ω} {a : Act} : ∀ (env : List (Option Tmp × VP Ω)) (b : Act), finG F w env b → (∀ d V, (some d, V) ∈ env → V (a.tmps.getD d undef) w) → F (env.foldl (fillA a) b) w
  | [], _, h, _ => h
  | (none, _) :: r, b, h, hv => finG_fill r b h fun d V hm => hv d V (by simp [hm])
  | (some d, V) :: r, b, h, hv => finG_fill r _ (h _ (hv d V (by simp))) fun d V hm => hv d V (by simp [hm])
theorem fill_getD {a : Act} (t : Tmp) : ∀ (env : List (Option Tmp × VP Ω)) (b : Act), t < b.tmps.size → ((∃ V, (some t, V) ∈ env) ∨ b.tmps.getD t undef = a.tmps.getD t undef) →
    (env.foldl (fillA a) b).tmps.getD t undef = a.tmps.getD t undef
  | [], b, _, h => h.resolve_left (by rintro ⟨V, hV⟩; cases hV)
  | (none, V) :: r, b, hs, h => fill_getD t r b hs (by
      rcases h with ⟨V', hV⟩ | h
      · simp at hV; exact .inl ⟨V', hV⟩
      · exact .inr h)
  | (some d, V) :: r, b, hs, h => fill_getD t r (b.put (some d) (a.tmps.getD d undef)) (by simpa [Act.put] using hs) (by
      by_cases e : t = d
      · subst e; exact .inr (put_getD_same hs)
      · rcases h with ⟨V', hV⟩ | h
        · simp [e] at hV; exact .inl ⟨V', hV⟩
        · exact .inr ((put_getD_other e).trans h))
theorem fill_size {a : Act} : ∀ (env : List (Option Tmp × VP Ω)) (b : Act), (env.foldl (fillA a) b).tmps.size = b.tmps.size ∧ (env.foldl (fillA a) b).defers = b.defers
  | [], _ => ⟨rfl, rfl⟩
  | (none, _) :: r, b => fill_size r b
  | (some d, V) :: r, b => by
    have := fill_size (a := a) r (b.put (some d) (a.tmps.getD d undef))
    exact ⟨this.1.trans (by simp [Act.put]), this.2.trans (by simp [Act.put])⟩
theorem GI.fin {F : Act → Ω → Prop} {env : List (Option Tmp × VP Ω)} {listed : Array Bool} {a : Act} {w : Ω} (hg : GI ops nh a0 w0 C env listed a w) (hlen : env.length = nh)
    (hdst : ∀ (j : Nat) x, env[j]? = some x → dstO ops j = x.1) (hall : ∀ i, i < nh → listed.getD i false = true)
    (hf : finG F w env a0) : F a w := by
  have h1 := finG_fill (a := a) env a0 hf fun d V hm => by
    obtain ⟨j, hj⟩ := List.getElem?_of_mem hm
    exact hg.vals j d V (hall j (by rw [← hlen]; exact (List.getElem?_eq_some_iff.1 hj).1)) hj
  have h2 : env.foldl (fillA a) a0 = a := by
    obtain ⟨s1, s2⟩ := fill_size (a := a) env a0
    refine Act.ext' (s1.trans hg.tsize.symm) (s2.trans hg.defers.symm) fun t ht => fill_getD t env a0 (by rw [← hg.tsize]; exact ht) ?_
    by_cases hw : ∃ j, listed.getD j false = true ∧ dstO ops j = some t
    · obtain ⟨j, hj, hd⟩ := hw
      have hjn := hg.heads j hj
      have hjl : j < env.length := by omega
      have := hdst j _ (List.getElem?_eq_getElem hjl)
      rw [hd] at this
      exact .inl ⟨env[j].2, by rw [show (some t, env[j].2) = env[j] from Prod.ext this rfl]; exact List.getElem_mem hjl⟩
    · exact .inr (hg.rest t fun j hj hd => hw ⟨j, hj, hd⟩).symm
  rwa [h2] at h1
theorem isV_of {env env' : List (Option Tmp × VP Ω)} {i j : Nat} {x : Value} (h : isV env j x) (hpre : ∀ j : Nat, j < i → env'[j]? = env[j]?) (hj : j < i) : isV env' j x := by
  unfold isV at *
  rw [hpre j hj]; exact h
theorem gcore {nt : Nat} (opw : Oper → Act → Ω → (Act → Ω → Prop) → Prop) (step : Nat → (Act → Ω → Prop) → Act → Ω → Prop) (W : Nat → Array Bool → Act → Ω → Prop) (Qn : Act → Ω → Prop) (T : Nat → Act → Ω → Prop)
    (hstep : ∀ i o K a w, ops[i]? = some o → (if Region.wanted o (yielded ops a.tmps) then opw o a w K else K (a.put o.dst undef) w) → step i K a w)
    (hmono : ∀ i K K' a w, (∀ a w, K a w → K' a w) → step i K a w → step i K' a w)
    (hW0 : ∀ listed a w, Region.ready .any ops listed = [] → Qn a w → W 0 listed a w)
    (hW : ∀ fuel listed a w, (Region.ready .any ops listed = [] → Qn a w) → (∀ i ∈ Region.ready .any ops listed, step i (W fuel (listed.setIfInBounds i true)) a w) → W (fuel + 1) listed a w)
    (hT : ∀ k a w, k < ops.size → T k a w → step k (T (k + 1)) a w) (hT0 : ∀ a w, T ops.size a w → Qn a w)
    (hchk : chkG ops nh nt = true) (hct : chkT ops nh = true) (hnh : nh ≤ ops.size) (hnt : a0.tmps.size = nt) (env : List (Option Tmp × VP Ω)) (hlen : env.length = nh)
    (hst : ∀ (j : Nat) d V, env[j]? = some (d, V) → ∀ u w w', V u w → Kpo.kp w w' → V u w') (hdst : ∀ (j : Nat) x, env[j]? = some x → dstO ops j = x.1)
    (hok : ∀ (i : Nat) o V, ops[i]? = some o → env[i]? = some (o.dst, V) → stepOk opw a0 w0 C (env.take i) o V)
    (hfin : ∀ w, C w → Kpo.kp w0 w → finG (T nh) w env a0) :
    ∀ (fuel : Nat) (listed : Array Bool) (a : Act) (w : Ω) (S : List Nat), GI ops nh a0 w0 C env listed a w → (∀ i, i < ops.size → listed.getD i false = false → i ∈ S) → S.length ≤ fuel → W fuel listed a w := by
  -- the tail
  have tail : ∀ (fuel k : Nat) (listed : Array Bool) (a : Act) (w : Ω), listed.size = ops.size → (∀ i, listed.getD i false = true ↔ i < k) → nh ≤ k → k ≤ ops.size → ops.size - k ≤ fuel → T k a w → W fuel listed a w := by
    intro fuel
    induction fuel with
    | zero =>
      intro k listed a w hs hl _ hk hf ht
      obtain rfl : k = ops.size := by omega
      refine hW0 _ _ _ ?_ (hT0 _ _ ht)
      refine List.eq_nil_iff_forall_not_mem.2 fun i hi => ?_
      obtain ⟨h1, h2, _⟩ := ready_edges hi
      have := (getD_ff h1).1
      rw [(hl i).2 h2] at this; cases this
    | succ fuel ih =>
      intro k listed a w hs hl hn hk hf ht
      by_cases hkk : k = ops.size
      · subst hkk
        have hnil : Region.ready .any ops listed = [] := List.eq_nil_iff_forall_not_mem.2 fun i hi => by
          obtain ⟨h1, h2, _⟩ := ready_edges hi
          have := (getD_ff h1).1
          rw [(hl i).2 h2] at this; cases this
        exact hW _ _ _ _ (fun _ => hT0 _ _ ht) fun i hi => by rw [hnil] at hi; cases hi
      · refine hW _ _ _ _ (fun h0 => ?_) fun i hi => ?_
        · exfalso
          have hu : listed.getD k false = false := by
            cases h : listed.getD k false with
            | false => rfl
            | true => have := (hl k).1 h; omega
          obtain ⟨j, hj⟩ := ready_some hct hs k (by omega) hu
          rw [h0] at hj; cases hj
        · obtain ⟨h1, h2, _, h3⟩ := ready_edges hi
          have hik : ¬ i < k := fun h => by have := (getD_ff h1).1; rw [(hl i).2 h] at this; cases this
          have : i = k := by
            rcases (chkT_at hct h2).1 with h | h
            · omega
            · have := (hl _).1 (h3 _ h); omega
          subst this
          refine hmono _ _ _ _ _ (fun a' w' ht' => ih (i + 1) _ _ _ (by simp [hs]) (fun j => ?_) (by omega) (by omega) (by omega) ht') (hT i a w h2 ht)
          by_cases e : j = i
          · subst e; simp [getD_set_same (getD_ff h1).2]
          · rw [getD_set_other e, hl]; omega
  intro fuel
  have sink : ∀ (listed : Array Bool) (a : Act) (w : Ω), GI ops nh a0 w0 C env listed a w → nh ∈ Region.ready .any ops listed → ∀ (n i : Nat), nh - i = n → i < nh → listed.getD i false = true := by
    intro listed a w hg hr n
    obtain ⟨h1, h2, _, h3⟩ := ready_edges hr
    induction n using Nat.strongRecOn with
    | _ n ih =>
      intro i hn hi
      obtain ⟨_, _, _, _, _, h4⟩ := chk_at hchk hi
      rcases h4 with h4 | ⟨j, hj, hij, he⟩
      · omega
      · by_cases e : j = nh
        · subst e; exact h3 i he
        · exact hg.closed j i (ih (nh - j) (by omega) j rfl (by omega)) he
  have full : ∀ (fuel : Nat) (listed : Array Bool) (a : Act) (w : Ω), GI ops nh a0 w0 C env listed a w → (∀ i, i < nh → listed.getD i false = true) → ops.size - nh ≤ fuel → W fuel listed a w := by
    intro fuel listed a w hg hall hf
    exact tail fuel nh listed a w hg.size (fun i => ⟨hg.heads i, hall i⟩) (Nat.le_refl _) hnh hf (hg.fin hlen hdst hall (hfin w hg.c hg.keep))
  induction fuel with
  | zero =>
    intro listed a w S hg hS hf
    have hall : ∀ i, i < ops.size → listed.getD i false = true := fun i hi => by
      cases h : listed.getD i false with
      | true => rfl
      | false => have := hS i hi h; rw [List.eq_nil_of_length_eq_zero (by omega : S.length = 0)] at this; cases this
    have : nh = ops.size := by
      apply Classical.byContradiction
      intro hne
      have := hg.heads nh (hall nh (by omega)); omega
    exact full 0 listed a w hg (fun i hi => hall i (by omega)) (by omega)
  | succ fuel ih =>
    intro listed a w S hg hS hf
    by_cases hall : ∀ i, i < nh → listed.getD i false = true
    · -- all of the head has come
      refine full _ listed a w hg hall ?_
      have hsub : (List.range' nh (ops.size - nh)) ⊆ S := fun i hi => by
        simp only [List.mem_range'_1] at hi
        refine hS i (by omega) ?_
        cases h : listed.getD i false with
        | false => rfl
        | true => have := hg.heads i h; omega
      have hnd : (List.range' nh (ops.size - nh)).Nodup := List.nodup_range'
      have := nodup_sub _ _ hnd hsub
      simp at this
      omega
    · have hun : ∃ i, i < nh ∧ listed.getD i false = false := by
        apply Classical.byContradiction
        intro hn
        refine hall fun i hi => ?_
        cases h : listed.getD i false with
        | true => rfl
        | false => exact absurd ⟨i, hi, h⟩ hn
      refine hW _ _ _ _ (fun h0 => ?_) fun i hi => ?_
      · exfalso
        obtain ⟨i, hi, hu⟩ := hun
        obtain ⟨j, hj⟩ := ready_some hct hg.size i (by omega) hu
        rw [h0] at hj; cases hj
      · obtain ⟨h1, h2, ⟨o, ho⟩, h3⟩ := ready_edges hi
        have hin : i < nh := by
          apply Classical.byContradiction
          intro hge
          have hnn : i = nh := by
            rcases (chkT_at hct h2).1 with h | h
            · omega
            · have := hg.heads _ (h3 _ h); omega
          subst hnn
          obtain ⟨j, hj, hu⟩ := hun
          rw [sink listed a w hg hi _ j rfl hj] at hu; cases hu
        obtain ⟨o', ho', hrd, hgd, _, _⟩ := chk_at hchk hin
        obtain rfl : o' = o := Option.some.inj (ho'.symm.trans ho)
        have hil : i < env.length := by omega
        have hei : env[i]? = some (o'.dst, env[i].2) := by
          have := hdst i _ (List.getElem?_eq_getElem hil)
          unfold dstO at this
          rw [ho] at this
          rw [List.getElem?_eq_getElem hil]
          exact congrArg some (Prod.ext this.symm rfl)
        have hpre : ∀ j : Nat, j < i → env[j]? = (env.take i)[j]? := fun j hj => by rw [List.getElem?_take, if_pos hj]
        have hrds := hg.rds (env := env.take i) (chkR_of hchk) hin ho (getD_ff h1).1 h3 (by simp; omega) hpre (fun j x hx => hdst j x (by rw [List.getElem?_take] at hx; split at hx; exact hx; cases hx)) (rdsO o') hrd
        have hsk := hok i o' _ ho hei
        have hgo : ∀ u w', Kpo.kp w w' → C w' → env[i].2 u w' → W fuel (listed.setIfInBounds i true) (a.put o'.dst u) w' := fun u w' hk hc hu =>
          ih _ _ _ (S.erase i) (hg.step (chkR_of hchk) hnt hin ho h1 h3 hst hdst hei hk hc hu) (fun j hj hu' => by
            have hji : j ≠ i := fun e => by subst e; rw [getD_set_same (getD_ff h1).2] at hu'; cases hu'
            rw [getD_set_other hji] at hu'
            exact (List.mem_erase_of_ne hji).2 (hS j hj hu')) (by rw [List.length_erase_of_mem (hS i h2 (getD_ff h1).1)]; omega)
        refine hstep i o' _ a w ho ?_
        unfold stepOk at hsk
        cases hgu : o'.guard with
        | none =>
          simp only [hgu] at hsk
          rw [if_pos (by simp [Region.wanted, hgu])]
          exact hsk a w hg.c hg.keep hrds _ hgo
        | some jb =>
          obtain ⟨j, b⟩ := jb
          simp only [hgu] at hsk
          obtain ⟨hji, hje, hjd⟩ := hgd j b hgu
          obtain ⟨d, hd⟩ := Option.isSome_iff_exists.1 hjd
          have hjl : j < env.length := by omega
          have hej := hdst j _ (List.getElem?_eq_getElem hjl)
          rw [hd] at hej
          have hvj := hg.vals j d env[j].2 (h3 j hje) (by rw [List.getElem?_eq_getElem hjl]; exact congrArg some (Prod.ext hej.symm rfl))
          obtain ⟨oj, hoj, _, _, hdj, _⟩ := chk_at hchk (show j < nh by omega)
          have hds : d < a.tmps.size := by rw [hg.tsize, hnt]; exact (hdj d (by unfold dstO at hd; rw [hoj] at hd; exact hd)).1
          have hy := yielded_at (tmps := a.tmps) hd hds
          have hval : ∀ x, isV (env.take i) j x → a.tmps.getD d undef = x := fun x hx => by
            have := isV_of hx hpre hji
            unfold isV at this
            rw [List.getElem?_eq_getElem hjl] at this
            exact this _ _ hvj
          rcases hsk with ⟨hx, hh⟩ | ⟨hx, hVu⟩
          · have := hval _ hx
            rw [this] at hy
            rw [if_pos (by simp [Region.wanted, hgu, hy])]
            exact hh a w hg.c hg.keep hrds _ hgo
          · have hyb : yielded ops a.tmps j ≠ some b := by
              rcases hx with hx | hx
              · have := hval _ hx
                rw [this] at hy
                rw [hy]; cases b <;> simp
              · have := hval _ hx
                rw [this] at hy
                rw [hy]; simp [undef]
            rw [if_neg (by simp [Region.wanted, hgu]; exact hyb)]
            exact hgo undef w (Kpo.refl _) hg.c (by rw [hVu])
theorem gcoreF {nt : Nat} (opw : Oper → Act → Ω → (Act → Ω → Prop) → Prop) (step : Nat → (Act → Ω → Prop) → Act → Ω → Prop) (W : Nat → Array Bool → Act → Ω → Prop) (Qn : Act → Ω → Prop) (T : Nat → Act → Ω → Prop)
    (hstep : ∀ i o K a w, ops[i]? = some o → (if Region.wanted o (yielded ops a.tmps) then opw o a w K else K (a.put o.dst undef) w) → step i K a w)
    (hmono : ∀ i K K' a w, (∀ a w, K a w → K' a w) → step i K a w → step i K' a w)
    (hW0 : ∀ listed a w, Region.ready .any ops listed = [] → Qn a w → W 0 listed a w)
    (hW : ∀ fuel listed a w, (Region.ready .any ops listed = [] → Qn a w) → (∀ i ∈ Region.ready .any ops listed, step i (W fuel (listed.setIfInBounds i true)) a w) → W (fuel + 1) listed a w)
    (hT : ∀ k a w, k < ops.size → T k a w → step k (T (k + 1)) a w) (hT0 : ∀ a w, T ops.size a w → Qn a w)
    (hchk : ChkR ops (nh + 1) nt) (hlead : ∀ i, i < nh → ∃ j, j ≤ nh + 1 ∧ i < j ∧ j ≠ nh ∧ edge ops j i = true) (hback : nh + 2 < ops.size → edge ops (nh + 2) nh = true) (hct : chkT ops (nh + 1) = true) (hnh : nh + 2 ≤ ops.size) (hnt : a0.tmps.size = nt) (env : List (Option Tmp × VP Ω)) (hlen : env.length = nh + 1)
    (hst : ∀ (j : Nat) d V, env[j]? = some (d, V) → ∀ u w w', V u w → Kpo.kp w w' → V u w') (hdst : ∀ (j : Nat) x, env[j]? = some x → dstO ops j = x.1)
    (hok : ∀ (i : Nat) o V, ops[i]? = some o → env[i]? = some (o.dst, V) → stepOk opw a0 w0 C (env.take i) o V)
    (hfin : ∀ w, C w → Kpo.kp w0 w → finG (T (nh + 1)) w env a0) (hfinB : ∀ w, C w → Kpo.kp w0 w → finG (fun a w => step (nh + 1) (fun a w => step nh (T (nh + 2)) a w) a w) w (env.take nh) a0) :
    ∀ (fuel : Nat) (listed : Array Bool) (a : Act) (w : Ω) (S : List Nat), GI ops (nh + 1) a0 w0 C env listed a w → (∀ i, i < ops.size → listed.getD i false = false → i ∈ S) → S.length ≤ fuel → W fuel listed a w := by
  -- the tail
  have tail : ∀ (fuel k : Nat) (listed : Array Bool) (a : Act) (w : Ω), listed.size = ops.size → (∀ i, listed.getD i false = true ↔ i < k) → nh + 1 ≤ k → k ≤ ops.size → ops.size - k ≤ fuel → T k a w → W fuel listed a w := by
    intro fuel
    induction fuel with
    | zero =>
      intro k listed a w hs hl _ hk hf ht
      obtain rfl : k = ops.size := by omega
      refine hW0 _ _ _ ?_ (hT0 _ _ ht)
      refine List.eq_nil_iff_forall_not_mem.2 fun i hi => ?_
      obtain ⟨h1, h2, _⟩ := ready_edges hi
      have := (getD_ff h1).1
      rw [(hl i).2 h2] at this; cases this
    | succ fuel ih =>
      intro k listed a w hs hl hn hk hf ht
      by_cases hkk : k = ops.size
      · subst hkk
        have hnil : Region.ready .any ops listed = [] := List.eq_nil_iff_forall_not_mem.2 fun i hi => by
          obtain ⟨h1, h2, _⟩ := ready_edges hi
          have := (getD_ff h1).1
          rw [(hl i).2 h2] at this; cases this
        exact hW _ _ _ _ (fun _ => hT0 _ _ ht) fun i hi => by rw [hnil] at hi; cases hi
      · refine hW _ _ _ _ (fun h0 => ?_) fun i hi => ?_
        · exfalso
          have hu : listed.getD k false = false := by
            cases h : listed.getD k false with
            | false => rfl
            | true => have := (hl k).1 h; omega
          obtain ⟨j, hj⟩ := ready_some hct hs k (by omega) hu
          rw [h0] at hj; cases hj
        · obtain ⟨h1, h2, _, h3⟩ := ready_edges hi
          have hik : ¬ i < k := fun h => by have := (getD_ff h1).1; rw [(hl i).2 h] at this; cases this
          have : i = k := by
            rcases (chkT_at hct h2).1 with h | h
            · omega
            · have := (hl _).1 (h3 _ h); omega
          subst this
          refine hmono _ _ _ _ _ (fun a' w' ht' => ih (i + 1) _ _ _ (by simp [hs]) (fun j => ?_) (by omega) (by omega) (by omega) ht') (hT i a w h2 ht)
          by_cases e : j = i
          · subst e; simp [getD_set_same (getD_ff h1).2]
          · rw [getD_set_other e, hl]; omega
  intro fuel
  have sink : ∀ (listed : Array Bool) (a : Act) (w : Ω), GI ops (nh + 1) a0 w0 C env listed a w → nh + 1 ∈ Region.ready .any ops listed → ∀ (n i : Nat), nh + 1 - i = n → i < nh → listed.getD i false = true := by
    intro listed a w hg hr n
    obtain ⟨h1, h2, _, h3⟩ := ready_edges hr
    induction n using Nat.strongRecOn with
    | _ n ih =>
      intro i hn hi
      obtain ⟨j, hj, hij, hjn, he⟩ := hlead i hi
      by_cases e : j = nh + 1
      · subst e; exact h3 i he
      · exact hg.closed j i (ih (nh + 1 - j) (by omega) j rfl (by omega)) he
  have full : ∀ (fuel : Nat) (listed : Array Bool) (a : Act) (w : Ω), GI ops (nh + 1) a0 w0 C env listed a w → (∀ i, i < nh + 1 → listed.getD i false = true) → ops.size - (nh + 1) ≤ fuel → W fuel listed a w := by
    intro fuel listed a w hg hall hf
    exact tail fuel (nh + 1) listed a w hg.size (fun i => ⟨hg.heads i, hall i⟩) (Nat.le_refl _) (by omega) hf (hg.fin hlen hdst hall (hfin w hg.c hg.keep))
  induction fuel with
  | zero =>
    intro listed a w S hg hS hf
    have hall : ∀ i, i < ops.size → listed.getD i false = true := fun i hi => by
      cases h : listed.getD i false with
      | true => rfl
      | false => have := hS i hi h; rw [List.eq_nil_of_length_eq_zero (by omega : S.length = 0)] at this; cases this
    exfalso
    have := hg.heads (nh + 1) (hall (nh + 1) (by omega))
    omega
  | succ fuel ih =>
    intro listed a w S hg hS hf
    by_cases hall : ∀ i, i < nh + 1 → listed.getD i false = true
    · -- all of the head has come
      refine full _ listed a w hg hall ?_
      have hsub : (List.range' (nh + 1) (ops.size - (nh + 1))) ⊆ S := fun i hi => by
        simp only [List.mem_range'_1] at hi
        refine hS i (by omega) ?_
        cases h : listed.getD i false with
        | false => rfl
        | true => have := hg.heads i h; omega
      have hnd : (List.range' (nh + 1) (ops.size - (nh + 1))).Nodup := List.nodup_range'
      have := nodup_sub _ _ hnd hsub
      simp at this
      omega
    · have hun : ∃ i, i < nh + 1 ∧ listed.getD i false = false := by
        apply Classical.byContradiction
        intro hn
        refine hall fun i hi => ?_
        cases h : listed.getD i false with
        | true => rfl
        | false => exact absurd ⟨i, hi, h⟩ hn
      refine hW _ _ _ _ (fun h0 => ?_) fun i hi => ?_
      · exfalso
        obtain ⟨i, hi, hu⟩ := hun
        obtain ⟨j, hj⟩ := ready_some hct hg.size i (by omega) hu
        rw [h0] at hj; cases hj
      · obtain ⟨h1, h2, ⟨o, ho⟩, h3⟩ := ready_edges hi
        by_cases hin0 : ¬ i < nh + 1
        · -- the tail begins before the floating operation
          have hnn : i = nh + 1 := by
            rcases (chkT_at hct h2).1 with h | h
            · omega
            · have := hg.heads _ (h3 _ h); omega
          subst hnn
          have hs := sink listed a w hg hi
          have hph : listed.getD nh false = false := by
            obtain ⟨j, hj, hu⟩ := hun
            by_cases e : j = nh
            · subst e; exact hu
            · rw [hs _ j rfl (by omega)] at hu; cases hu
          have hlow : ∀ j, listed.getD j false = true → j < nh := fun j hj => by
            have := hg.heads j hj
            by_cases e : j = nh
            · rw [e, hph] at hj; cases hj
            · omega
          have hgB : GI ops nh a0 w0 C (env.take nh) listed a w := ⟨hg.size, hg.closed, hlow, hg.c, hg.keep, fun j d V hj hV => hg.vals j d V hj (by rw [List.getElem?_take] at hV; split at hV; exact hV; cases hV), hg.rest, hg.tsize, hg.defers⟩
          have hB := hgB.fin (by simp; omega) (fun j x hx => hdst j x (by rw [List.getElem?_take] at hx; split at hx; exact hx; cases hx)) (fun j hj => hs _ j rfl hj) (hfinB w hg.c hg.keep)
          have hl1 : listed.getD (nh + 1) false = false := (getD_ff h1).1
          refine hmono _ _ _ _ _ (fun a' w' h' => ?_) hB
          have hm1 : nh ∈ S := hS nh (by omega) hph
          have hm2 : nh + 1 ∈ S := hS (nh + 1) h2 hl1
          have hlS : 2 + (ops.size - (nh + 2)) ≤ S.length := by
            have hsub : (nh :: List.range' (nh + 1) (ops.size - (nh + 1))) ⊆ S := fun i hi => by
              rcases List.mem_cons.1 hi with rfl | hi
              · exact hm1
              · simp only [List.mem_range'_1] at hi
                refine hS i (by omega) ?_
                cases h : listed.getD i false with
                | false => rfl
                | true => have := hg.heads i h; omega
            have hnd : (nh :: List.range' (nh + 1) (ops.size - (nh + 1))).Nodup := List.nodup_cons.2 ⟨fun h => by simp only [List.mem_range'_1] at h; omega, List.nodup_range'⟩
            have := nodup_sub _ _ hnd hsub
            simp at this
            omega
          obtain ⟨f', rfl⟩ : ∃ f', fuel = f' + 1 := ⟨fuel - 1, by omega⟩
          have hsz' : (listed.setIfInBounds (nh + 1) true).size = ops.size := by simp [hg.size]
          have hph' : (listed.setIfInBounds (nh + 1) true).getD nh false = false := by rw [getD_set_other (by omega)]; exact hph
          refine hW _ _ _ _ (fun h0 => ?_) fun i hi => ?_
          · exfalso
            obtain ⟨j, hj⟩ := ready_some hct hsz' nh (by omega) hph'
            rw [h0] at hj; cases hj
          · obtain ⟨k1, k2, _, k3⟩ := ready_edges hi
            have hin : i = nh := by
              have hu := (getD_ff k1).1
              rcases Nat.lt_trichotomy i nh with h | h | h
              · rw [getD_set_other (by omega), hs _ i rfl h] at hu; cases hu
              · exact h
              · exfalso
                by_cases e : i = nh + 1
                · subst e; rw [getD_set_same (by rw [hg.size]; exact h2)] at hu; cases hu
                · by_cases e2 : i = nh + 2
                  · subst e2
                    have := k3 nh (hback k2)
                    rw [hph'] at this; cases this
                  · rcases (chkT_at hct k2).1 with h4 | h4
                    · omega
                    · have h5 := k3 _ h4
                      rw [getD_set_other (by omega)] at h5
                      have := hg.heads _ h5; omega
            subst hin
            refine hmono _ _ _ _ _ (fun a2 w2 ht => tail f' (i + 2) _ _ _ (by simp [hg.size]) (fun j => ?_) (by omega) hnh (by omega) ht) h'
            by_cases e : j = i
            · subst e; rw [getD_set_same (by rw [hsz']; omega)]; simp
            · rw [getD_set_other e]
              by_cases e2 : j = i + 1
              · subst e2; rw [getD_set_same (by rw [hg.size]; exact h2)]; simp
              · rw [getD_set_other e2]
                constructor
                · intro h; have := hg.heads j h; omega
                · intro h; exact hs _ j rfl (by omega)
        have hin : i < nh + 1 := by omega
        obtain ⟨o', ho', hrd, hgd, _⟩ := hchk _ hin
        obtain rfl : o' = o := Option.some.inj (ho'.symm.trans ho)
        have hil : i < env.length := by omega
        have hei : env[i]? = some (o'.dst, env[i].2) := by
          have := hdst i _ (List.getElem?_eq_getElem hil)
          unfold dstO at this
          rw [ho] at this
          rw [List.getElem?_eq_getElem hil]
          exact congrArg some (Prod.ext this.symm rfl)
        have hpre : ∀ j : Nat, j < i → env[j]? = (env.take i)[j]? := fun j hj => by rw [List.getElem?_take, if_pos hj]
        have hrds := hg.rds (env := env.take i) hchk hin ho (getD_ff h1).1 h3 (by simp; omega) hpre (fun j x hx => hdst j x (by rw [List.getElem?_take] at hx; split at hx; exact hx; cases hx)) (rdsO o') hrd
        have hsk := hok i o' _ ho hei
        have hgo : ∀ u w', Kpo.kp w w' → C w' → env[i].2 u w' → W fuel (listed.setIfInBounds i true) (a.put o'.dst u) w' := fun u w' hk hc hu =>
          ih _ _ _ (S.erase i) (hg.step hchk hnt hin ho h1 h3 hst hdst hei hk hc hu) (fun j hj hu' => by
            have hji : j ≠ i := fun e => by subst e; rw [getD_set_same (getD_ff h1).2] at hu'; cases hu'
            rw [getD_set_other hji] at hu'
            exact (List.mem_erase_of_ne hji).2 (hS j hj hu')) (by rw [List.length_erase_of_mem (hS i h2 (getD_ff h1).1)]; omega)
        refine hstep i o' _ a w ho ?_
        unfold stepOk at hsk
        cases hgu : o'.guard with
        | none =>
          simp only [hgu] at hsk
          rw [if_pos (by simp [Region.wanted, hgu])]
          exact hsk a w hg.c hg.keep hrds _ hgo
        | some jb =>
          obtain ⟨j, b⟩ := jb
          simp only [hgu] at hsk
          obtain ⟨hji, hje, hjd⟩ := hgd j b hgu
          obtain ⟨d, hd⟩ := Option.isSome_iff_exists.1 hjd
          have hjl : j < env.length := by omega
          have hej := hdst j _ (List.getElem?_eq_getElem hjl)
          rw [hd] at hej
          have hvj := hg.vals j d env[j].2 (h3 j hje) (by rw [List.getElem?_eq_getElem hjl]; exact congrArg some (Prod.ext hej.symm rfl))
          obtain ⟨oj, hoj, _, _, hdj⟩ := hchk j (show j < nh + 1 by omega)
          have hds : d < a.tmps.size := by rw [hg.tsize, hnt]; exact (hdj d (by unfold dstO at hd; rw [hoj] at hd; exact hd)).1
          have hy := yielded_at (tmps := a.tmps) hd hds
          have hval : ∀ x, isV (env.take i) j x → a.tmps.getD d undef = x := fun x hx => by
            have := isV_of hx hpre hji
            unfold isV at this
            rw [List.getElem?_eq_getElem hjl] at this
            exact this _ _ hvj
          rcases hsk with ⟨hx, hh⟩ | ⟨hx, hVu⟩
          · have := hval _ hx
            rw [this] at hy
            rw [if_pos (by simp [Region.wanted, hgu, hy])]
            exact hh a w hg.c hg.keep hrds _ hgo
          · have hyb : yielded ops a.tmps j ≠ some b := by
              rcases hx with hx | hx
              · have := hval _ hx
                rw [this] at hy
                rw [hy]; cases b <;> simp
              · have := hval _ hx
                rw [this] at hy
                rw [hy]; simp [undef]
            rw [if_neg (by simp [Region.wanted, hgu]; exact hyb)]
            exact hgo undef w (Kpo.refl _) hg.c (by rw [hVu])
theorem walkG_env {opw : Oper → Act → Ω → (Act → Ω → Prop) → Prop} {F : Act → Ω → Prop} : ∀ (l : List Oper) (env : List (Option Tmp × VP Ω)), walkG opw a0 w0 C F l env →
    ∃ r : List (Option Tmp × VP Ω), r.length = l.length ∧ (∀ (i : Nat) o, l[i]? = some o → ∃ V, r[i]? = some (o.dst, V) ∧ (∀ u w w', V u w → Kpo.kp w w' → V u w') ∧ stepOk opw a0 w0 C (env ++ r.take i) o V) ∧
      (∀ w, C w → Kpo.kp w0 w → finG F w (env ++ r) a0)
  | [], env, h => ⟨[], rfl, (fun i o ho => by simp at ho), by rw [List.append_nil]; exact h⟩
  | o :: l, env, ⟨V, hs, hk, hw⟩ => by
    obtain ⟨r, h1, h2, h3⟩ := walkG_env l _ hw
    refine ⟨(o.dst, V) :: r, by simp [h1], fun i o' ho' => ?_, by simpa using h3⟩
    cases i with
    | zero =>
      obtain rfl : o = o' := by simpa using ho'
      exact ⟨V, rfl, hs, by simpa using hk⟩
    | succ i =>
      obtain ⟨V', g1, g2, g3⟩ := h2 i o' (by simpa using ho')
      exact ⟨V', by simpa using g1, g2, by simpa using g3⟩
theorem gcoreC {nt r : Nat} (opw : Oper → Act → Ω → (Act → Ω → Prop) → Prop) (step : Nat → (Act → Ω → Prop) → Act → Ω → Prop) (W : Nat → Array Bool → Act → Ω → Prop) (Qn : Act → Ω → Prop) (T : Nat → Act → Ω → Prop)
    (hstep : ∀ i o K a w, ops[i]? = some o → (if Region.wanted o (yielded ops a.tmps) then opw o a w K else K (a.put o.dst undef) w) → step i K a w)
    (hmono : ∀ i K K' a w, (∀ a w, K a w → K' a w) → step i K a w → step i K' a w)
    (hW0 : ∀ listed a w, Region.ready .any ops listed = [] → Qn a w → W 0 listed a w)
    (hW : ∀ fuel listed a w, (Region.ready .any ops listed = [] → Qn a w) → (∀ i ∈ Region.ready .any ops listed, step i (W fuel (listed.setIfInBounds i true)) a w) → W (fuel + 1) listed a w)
    (hT : ∀ k a w, k < ops.size → T k a w → step k (T (k + 1)) a w) (hT0 : ∀ a w, T ops.size a w → Qn a w)
    (hr0 : 1 ≤ r) (hchk : ChkR ops (nh + r) nt) (hlead : ∀ i, i < nh → ∃ j, j ≤ nh + r ∧ i < j ∧ ¬ (nh ≤ j ∧ j < nh + r) ∧ edge ops j i = true) (hchain : ∀ i, nh ≤ i → i + 1 < nh + r → edge ops (i + 1) i = true) (hback : nh + r + 1 < ops.size → edge ops (nh + r + 1) (nh + r - 1) = true) (hct : chkT ops (nh + r) = true) (hnh : nh + r + 1 ≤ ops.size)
    (CT : Nat → Act → Ω → Prop) (hCT : ∀ c a w, c < r → CT c a w → step (nh + c) (CT (c + 1)) a w) (hCTr : ∀ a w, CT r a w → T (nh + r + 1) a w) (hnt : a0.tmps.size = nt) (env : List (Option Tmp × VP Ω)) (hlen : env.length = nh + r)
    (hst : ∀ (j : Nat) d V, env[j]? = some (d, V) → ∀ u w w', V u w → Kpo.kp w w' → V u w') (hdst : ∀ (j : Nat) x, env[j]? = some x → dstO ops j = x.1)
    (hok : ∀ (i : Nat) o V, ops[i]? = some o → env[i]? = some (o.dst, V) → stepOk opw a0 w0 C (env.take i) o V)
    (hfin : ∀ w, C w → Kpo.kp w0 w → finG (T (nh + r)) w env a0) (hfinB : ∀ c, c < r → ∀ w, C w → Kpo.kp w0 w → finG (fun a w => step (nh + r) (CT c) a w) w (env.take (nh + c)) a0) :
    ∀ (fuel : Nat) (listed : Array Bool) (a : Act) (w : Ω) (S : List Nat), GI ops (nh + r) a0 w0 C env listed a w → (∀ i, i < ops.size → listed.getD i false = false → i ∈ S) → S.length ≤ fuel → W fuel listed a w := by
  -- the tail
  have tail : ∀ (fuel k : Nat) (listed : Array Bool) (a : Act) (w : Ω), listed.size = ops.size → (∀ i, listed.getD i false = true ↔ i < k) → nh + r ≤ k → k ≤ ops.size → ops.size - k ≤ fuel → T k a w → W fuel listed a w := by
    intro fuel
    induction fuel with
    | zero =>
      intro k listed a w hs hl _ hk hf ht
      obtain rfl : k = ops.size := by omega
      refine hW0 _ _ _ ?_ (hT0 _ _ ht)
      refine List.eq_nil_iff_forall_not_mem.2 fun i hi => ?_
      obtain ⟨h1, h2, _⟩ := ready_edges hi
      have := (getD_ff h1).1
      rw [(hl i).2 h2] at this; cases this
    | succ fuel ih =>
      intro k listed a w hs hl hn hk hf ht
      by_cases hkk : k = ops.size
      · subst hkk
        have hnil : Region.ready .any ops listed = [] := List.eq_nil_iff_forall_not_mem.2 fun i hi => by
          obtain ⟨h1, h2, _⟩ := ready_edges hi
          have := (getD_ff h1).1
          rw [(hl i).2 h2] at this; cases this
        exact hW _ _ _ _ (fun _ => hT0 _ _ ht) fun i hi => by rw [hnil] at hi; cases hi
      · refine hW _ _ _ _ (fun h0 => ?_) fun i hi => ?_
        · exfalso
          have hu : listed.getD k false = false := by
            cases h : listed.getD k false with
            | false => rfl
            | true => have := (hl k).1 h; omega
          obtain ⟨j, hj⟩ := ready_some hct hs k (by omega) hu
          rw [h0] at hj; cases hj
        · obtain ⟨h1, h2, _, h3⟩ := ready_edges hi
          have hik : ¬ i < k := fun h => by have := (getD_ff h1).1; rw [(hl i).2 h] at this; cases this
          have : i = k := by
            rcases (chkT_at hct h2).1 with h | h
            · omega
            · have := (hl _).1 (h3 _ h); omega
          subst this
          refine hmono _ _ _ _ _ (fun a' w' ht' => ih (i + 1) _ _ _ (by simp [hs]) (fun j => ?_) (by omega) (by omega) (by omega) ht') (hT i a w h2 ht)
          by_cases e : j = i
          · subst e; simp [getD_set_same (getD_ff h1).2]
          · rw [getD_set_other e, hl]; omega
  intro fuel
  have sink : ∀ (listed : Array Bool) (a : Act) (w : Ω), GI ops (nh + r) a0 w0 C env listed a w → nh + r ∈ Region.ready .any ops listed → ∀ (n i : Nat), nh + r - i = n → i < nh → listed.getD i false = true := by
    intro listed a w hg hr n
    obtain ⟨h1, h2, _, h3⟩ := ready_edges hr
    induction n using Nat.strongRecOn with
    | _ n ih =>
      intro i hn hi
      obtain ⟨j, hj, hij, hjn, he⟩ := hlead i hi
      by_cases e : j = nh + r
      · subst e; exact h3 i he
      · exact hg.closed j i (ih (nh + r - j) (by omega) j rfl (by omega)) he
  -- what floats, behind the first of the tail
  have phase : ∀ (n c fuel : Nat) (listed : Array Bool) (a : Act) (w : Ω), r - c = n → c ≤ r → listed.size = ops.size → (∀ i, listed.getD i false = true ↔ i < nh + c ∨ i = nh + r) → (r - c) + (ops.size - (nh + r + 1)) ≤ fuel → CT c a w → W fuel listed a w := by
    intro n
    induction n with
    | zero =>
      intro c fuel listed a w hn hc hs hl hf ht
      obtain rfl : c = r := by omega
      exact tail fuel (nh + c + 1) listed a w hs (fun i => by rw [hl]; omega) (by omega) (by omega) (by omega) (hCTr a w ht)
    | succ n ih =>
      intro c fuel listed a w hn hc hs hl hf ht
      obtain ⟨f', rfl⟩ : ∃ f', fuel = f' + 1 := ⟨fuel - 1, by omega⟩
      have hun : listed.getD (nh + c) false = false := by
        cases h : listed.getD (nh + c) false with
        | false => rfl
        | true => have := (hl _).1 h; omega
      refine hW _ _ _ _ (fun h0 => ?_) fun i hi => ?_
      · exfalso
        obtain ⟨j, hj⟩ := ready_some hct hs (nh + c) (by omega) hun
        rw [h0] at hj; cases hj
      · obtain ⟨k1, k2, _, k3⟩ := ready_edges hi
        have hu := (getD_ff k1).1
        have hin : i = nh + c := by
          have hnl : ¬ (i < nh + c ∨ i = nh + r) := fun h => by rw [(hl i).2 h] at hu; cases hu
          rcases Nat.lt_trichotomy i (nh + c) with h | h | h
          · omega
          · exact h
          · exfalso
            by_cases e : i < nh + r
            · have := (hl _).1 (k3 (i - 1) (by have := hchain (i - 1) (by omega) (by omega); rwa [show i - 1 + 1 = i by omega] at this))
              omega
            · by_cases e2 : i = nh + r + 1
              · subst e2
                have := (hl _).1 (k3 _ (hback k2))
                omega
              · rcases (chkT_at hct k2).1 with h4 | h4
                · omega
                · have := (hl _).1 (k3 _ h4); omega
        subst hin
        refine hmono _ _ _ _ _ (fun a2 w2 ht2 => ih (c + 1) f' _ _ _ (by omega) (by omega) (by simp [hs]) (fun j => ?_) (by omega) ht2) (hCT c a w (by omega) ht)
        by_cases e : j = nh + c
        · subst e; rw [getD_set_same (by rw [hs]; omega)]; simp
        · rw [getD_set_other e, hl]; omega
  have full : ∀ (fuel : Nat) (listed : Array Bool) (a : Act) (w : Ω), GI ops (nh + r) a0 w0 C env listed a w → (∀ i, i < nh + r → listed.getD i false = true) → ops.size - (nh + r) ≤ fuel → W fuel listed a w := by
    intro fuel listed a w hg hall hf
    exact tail fuel (nh + r) listed a w hg.size (fun i => ⟨hg.heads i, hall i⟩) (Nat.le_refl _) (by omega) hf (hg.fin hlen hdst hall (hfin w hg.c hg.keep))
  induction fuel with
  | zero =>
    intro listed a w S hg hS hf
    have hall : ∀ i, i < ops.size → listed.getD i false = true := fun i hi => by
      cases h : listed.getD i false with
      | true => rfl
      | false => have := hS i hi h; rw [List.eq_nil_of_length_eq_zero (by omega : S.length = 0)] at this; cases this
    exfalso
    have := hg.heads (nh + r) (hall (nh + r) (by omega))
    omega
  | succ fuel ih =>
    intro listed a w S hg hS hf
    by_cases hall : ∀ i, i < nh + r → listed.getD i false = true
    · -- all of the head has come
      refine full _ listed a w hg hall ?_
      have hsub : (List.range' (nh + r) (ops.size - (nh + r))) ⊆ S := fun i hi => by
        simp only [List.mem_range'_1] at hi
        refine hS i (by omega) ?_
        cases h : listed.getD i false with
        | false => rfl
        | true => have := hg.heads i h; omega
      have hnd : (List.range' (nh + r) (ops.size - (nh + r))).Nodup := List.nodup_range'
      have := nodup_sub _ _ hnd hsub
      simp at this
      omega
    · have hun : ∃ i, i < nh + r ∧ listed.getD i false = false := by
        apply Classical.byContradiction
        intro hn
        refine hall fun i hi => ?_
        cases h : listed.getD i false with
        | true => rfl
        | false => exact absurd ⟨i, hi, h⟩ hn
      refine hW _ _ _ _ (fun h0 => ?_) fun i hi => ?_
      · exfalso
        obtain ⟨i, hi, hu⟩ := hun
        obtain ⟨j, hj⟩ := ready_some hct hg.size i (by omega) hu
        rw [h0] at hj; cases hj
      · obtain ⟨h1, h2, ⟨o, ho⟩, h3⟩ := ready_edges hi
        by_cases hin0 : ¬ i < nh + r
        · -- the tail begins before what floats
          have hnn : i = nh + r := by
            rcases (chkT_at hct h2).1 with h | h
            · omega
            · have := hg.heads _ (h3 _ h); omega
          subst hnn
          have hs := sink listed a w hg hi
          -- how much of it has come
          have least : ∃ c, c < r ∧ listed.getD (nh + c) false = false ∧ ∀ i, i < nh + c → listed.getD i false = true := by
            obtain ⟨j, hj, hu⟩ := hun
            have : ∀ n c, c + n = r → (∀ i, i < nh + c → listed.getD i false = true) → ∃ c, c < r ∧ listed.getD (nh + c) false = false ∧ ∀ i, i < nh + c → listed.getD i false = true := by
              intro n
              induction n with
              | zero => intro c hc hl; rw [hl j (by omega)] at hu; cases hu
              | succ n ih =>
                intro c hc hl
                cases h : listed.getD (nh + c) false with
                | false => exact ⟨c, by omega, h, hl⟩
                | true =>
                  refine ih (c + 1) (by omega) fun i hi => ?_
                  by_cases e : i = nh + c
                  · rw [e]; exact h
                  · exact hl i (by omega)
            exact this r 0 (by omega) fun i hi => hs _ i rfl (by omega)
          obtain ⟨c, hc, hph, hlo⟩ := least
          have hhi : ∀ k, nh + c + k < nh + r → listed.getD (nh + c + k) false = false := by
            intro k
            induction k with
            | zero => intro _; exact hph
            | succ k ih =>
              intro hk
              cases h : listed.getD (nh + c + (k + 1)) false with
              | false => rfl
              | true =>
                have := hg.closed _ _ h (hchain (nh + c + k) (by omega) (by omega))
                rw [ih (by omega)] at this; cases this
          have hlow : ∀ j, listed.getD j false = true → j < nh + c := fun j hj => by
            have := hg.heads j hj
            apply Classical.byContradiction
            intro hge
            have := hhi (j - (nh + c)) (by omega)
            rw [show nh + c + (j - (nh + c)) = j by omega, hj] at this; cases this
          have hgB : GI ops (nh + c) a0 w0 C (env.take (nh + c)) listed a w := ⟨hg.size, hg.closed, hlow, hg.c, hg.keep, fun j d V hj hV => hg.vals j d V hj (by rw [List.getElem?_take] at hV; split at hV; exact hV; cases hV), hg.rest, hg.tsize, hg.defers⟩
          have hB := hgB.fin (by simp; omega) (fun j x hx => hdst j x (by rw [List.getElem?_take] at hx; split at hx; exact hx; cases hx)) hlo (hfinB c hc w hg.c hg.keep)
          refine hmono _ _ _ _ _ (fun a' w' h' => ?_) hB
          have hlS : (r - c) + (ops.size - (nh + r)) ≤ S.length := by
            have hsub : (List.range' (nh + c) (ops.size - (nh + c))) ⊆ S := fun i hi => by
              simp only [List.mem_range'_1] at hi
              refine hS i (by omega) ?_
              cases h : listed.getD i false with
              | false => rfl
              | true => have := hlow i h; omega
            have hnd : (List.range' (nh + c) (ops.size - (nh + c))).Nodup := List.nodup_range'
            have := nodup_sub _ _ hnd hsub
            simp at this
            omega
          refine phase (r - c) c fuel _ a' w' rfl (by omega) (by simp [hg.size]) (fun j => ?_) (by omega) h'
          by_cases e : j = nh + r
          · subst e; rw [getD_set_same (by rw [hg.size]; exact h2)]; simp
          · rw [getD_set_other e]
            constructor
            · intro h; exact .inl (hlow j h)
            · intro h; exact hlo j (by omega)
        have hin : i < nh + r := by omega
        obtain ⟨o', ho', hrd, hgd, _⟩ := hchk _ hin
        obtain rfl : o' = o := Option.some.inj (ho'.symm.trans ho)
        have hil : i < env.length := by omega
        have hei : env[i]? = some (o'.dst, env[i].2) := by
          have := hdst i _ (List.getElem?_eq_getElem hil)
          unfold dstO at this
          rw [ho] at this
          rw [List.getElem?_eq_getElem hil]
          exact congrArg some (Prod.ext this.symm rfl)
        have hpre : ∀ j : Nat, j < i → env[j]? = (env.take i)[j]? := fun j hj => by rw [List.getElem?_take, if_pos hj]
        have hrds := hg.rds (env := env.take i) hchk hin ho (getD_ff h1).1 h3 (by simp; omega) hpre (fun j x hx => hdst j x (by rw [List.getElem?_take] at hx; split at hx; exact hx; cases hx)) (rdsO o') hrd
        have hsk := hok i o' _ ho hei
        have hgo : ∀ u w', Kpo.kp w w' → C w' → env[i].2 u w' → W fuel (listed.setIfInBounds i true) (a.put o'.dst u) w' := fun u w' hk hc hu =>
          ih _ _ _ (S.erase i) (hg.step hchk hnt hin ho h1 h3 hst hdst hei hk hc hu) (fun j hj hu' => by
            have hji : j ≠ i := fun e => by subst e; rw [getD_set_same (getD_ff h1).2] at hu'; cases hu'
            rw [getD_set_other hji] at hu'
            exact (List.mem_erase_of_ne hji).2 (hS j hj hu')) (by rw [List.length_erase_of_mem (hS i h2 (getD_ff h1).1)]; omega)
        refine hstep i o' _ a w ho ?_
        unfold stepOk at hsk
        cases hgu : o'.guard with
        | none =>
          simp only [hgu] at hsk
          rw [if_pos (by simp [Region.wanted, hgu])]
          exact hsk a w hg.c hg.keep hrds _ hgo
        | some jb =>
          obtain ⟨j, b⟩ := jb
          simp only [hgu] at hsk
          obtain ⟨hji, hje, hjd⟩ := hgd j b hgu
          obtain ⟨d, hd⟩ := Option.isSome_iff_exists.1 hjd
          have hjl : j < env.length := by omega
          have hej := hdst j _ (List.getElem?_eq_getElem hjl)
          rw [hd] at hej
          have hvj := hg.vals j d env[j].2 (h3 j hje) (by rw [List.getElem?_eq_getElem hjl]; exact congrArg some (Prod.ext hej.symm rfl))
          obtain ⟨oj, hoj, _, _, hdj⟩ := hchk j (show j < nh + r by omega)
          have hds : d < a.tmps.size := by rw [hg.tsize, hnt]; exact (hdj d (by unfold dstO at hd; rw [hoj] at hd; exact hd)).1
          have hy := yielded_at (tmps := a.tmps) hd hds
          have hval : ∀ x, isV (env.take i) j x → a.tmps.getD d undef = x := fun x hx => by
            have := isV_of hx hpre hji
            unfold isV at this
            rw [List.getElem?_eq_getElem hjl] at this
            exact this _ _ hvj
          rcases hsk with ⟨hx, hh⟩ | ⟨hx, hVu⟩
          · have := hval _ hx
            rw [this] at hy
            rw [if_pos (by simp [Region.wanted, hgu, hy])]
            exact hh a w hg.c hg.keep hrds _ hgo
          · have hyb : yielded ops a.tmps j ≠ some b := by
              rcases hx with hx | hx
              · have := hval _ hx
                rw [this] at hy
                rw [hy]; cases b <;> simp
              · have := hval _ hx
                rw [this] at hy
                rw [hy]; simp [undef]
            rw [if_neg (by simp [Region.wanted, hgu]; exact hyb)]
            exact hgo undef w (Kpo.refl _) hg.c (by rw [hVu])
def walkE (opw : Oper → Act → Ω → (Act → Ω → Prop) → Prop) (a0 : Act) (w0 : Ω) (C : Ω → Prop) (E : List (Option Tmp × VP Ω) → Prop) : List Oper → List (Option Tmp × VP Ω) → Prop
  | [], env => E env
  | o :: l, env => ∃ V : VP Ω, (∀ u w w', V u w → Kpo.kp w w' → V u w') ∧ stepOk opw a0 w0 C env o V ∧ walkE opw a0 w0 C E l (env ++ [(o.dst, V)])
theorem walkG_of {opw : Oper → Act → Ω → (Act → Ω → Prop) → Prop} {F : Act → Ω → Prop} : ∀ (l : List Oper) (env : List (Option Tmp × VP Ω)), walkE opw a0 w0 C (fun env => ∀ w, C w → Kpo.kp w0 w → finG F w env a0) l env → walkG opw a0 w0 C F l env
  | [], env, h => h
  | o :: l, env, ⟨V, h1, h2, h3⟩ => ⟨V, h1, h2, walkG_of l _ h3⟩
theorem walkE_env {opw : Oper → Act → Ω → (Act → Ω → Prop) → Prop} {E : List (Option Tmp × VP Ω) → Prop} : ∀ (l : List Oper) (env : List (Option Tmp × VP Ω)), walkE opw a0 w0 C E l env →
    ∃ r : List (Option Tmp × VP Ω), r.length = l.length ∧ (∀ (i : Nat) o, l[i]? = some o → ∃ V, r[i]? = some (o.dst, V) ∧ (∀ u w w', V u w → Kpo.kp w w' → V u w') ∧ stepOk opw a0 w0 C (env ++ r.take i) o V) ∧
      E (env ++ r)
  | [], env, h => ⟨[], rfl, (fun i o ho => by simp at ho), by rw [List.append_nil]; exact h⟩
  | o :: l, env, ⟨V, hs, hk, hw⟩ => by
    obtain ⟨r, h1, h2, h3⟩ := walkE_env l _ hw
    refine ⟨(o.dst, V) :: r, by simp [h1], fun i o' ho' => ?_, by simpa using h3⟩
    cases i with
    | zero =>
      obtain rfl : o = o' := by simpa using ho'
      exact ⟨V, rfl, hs, by simpa using hk⟩
    | succ i =>
      obtain ⟨V', g1, g2, g3⟩ := h2 i o' (by simpa using ho')
      exact ⟨V', by simpa using g1, g2, by simpa using g3⟩
theorem gready {nt : Nat} {l : List Oper} (hO : ops = l.toArray) (opw : Oper → Act → Ω → (Act → Ω → Prop) → Prop) (step : Nat → (Act → Ω → Prop) → Act → Ω → Prop) (W : Nat → Array Bool → Act → Ω → Prop) (Qn : Act → Ω → Prop) (T : Nat → Act → Ω → Prop)
    (hstep : ∀ i o K a w, ops[i]? = some o → (if Region.wanted o (yielded ops a.tmps) then opw o a w K else K (a.put o.dst undef) w) → step i K a w)
    (hmono : ∀ i K K' a w, (∀ a w, K a w → K' a w) → step i K a w → step i K' a w)
    (hW0 : ∀ listed a w, Region.ready .any ops listed = [] → Qn a w → W 0 listed a w)
    (hW : ∀ fuel listed a w, (Region.ready .any ops listed = [] → Qn a w) → (∀ i ∈ Region.ready .any ops listed, step i (W fuel (listed.setIfInBounds i true)) a w) → W (fuel + 1) listed a w)
    (hT : ∀ k a w, k < ops.size → T k a w → step k (T (k + 1)) a w) (hT0 : ∀ a w, T ops.size a w → Qn a w)
    (hchk : chkG ops nh nt = true) (hct : chkT ops nh = true) (hnt : a0.tmps.size = nt) (hC : C w0)
    (h : walkG opw a0 w0 C (T nh) (l.take nh) []) : W ops.size (Array.replicate ops.size false) a0 w0 := by
  subst hO
  have hnh : nh ≤ l.toArray.size := by
    unfold chkG at hchk
    simp only [Bool.and_eq_true, decide_eq_true_eq] at hchk
    exact hchk.1
  have hnl : nh ≤ l.length := by simpa using hnh
  obtain ⟨env, h1, h2, h3⟩ := walkG_env _ _ h
  have hlen : env.length = nh := by rw [h1]; simp; omega
  have get : ∀ i : Nat, i < nh → ∃ o V, l[i]? = some o ∧ env[i]? = some (o.dst, V) ∧ (∀ u w w', V u w → Kpo.kp w w' → V u w') ∧ stepOk opw a0 w0 C (env.take i) o V := fun i hi => by
    have hil : i < l.length := by omega
    obtain ⟨V, g⟩ := h2 i l[i] (by rw [List.getElem?_take, if_pos hi]; exact List.getElem?_eq_getElem hil)
    exact ⟨l[i], V, List.getElem?_eq_getElem hil, by simpa using g⟩
  refine gcore (nt := nt) opw step W Qn T hstep hmono hW0 hW hT hT0 hchk hct hnh hnt env hlen (fun j d V hj => ?_) (fun j x hj => ?_) (fun i o V ho hV => ?_) (by simpa using h3) _ _ _ _ (List.range l.toArray.size) ?_ (fun i hi _ => by simpa using hi) (by simp)
  · obtain ⟨o, V', g1, g2, g3, g4⟩ := get j (by rw [← hlen]; exact (List.getElem?_eq_some_iff.1 hj).1)
    rw [g2] at hj
    cases hj
    exact g3
  · obtain ⟨o, V', g1, g2, g3, g4⟩ := get j (by rw [← hlen]; exact (List.getElem?_eq_some_iff.1 hj).1)
    rw [g2] at hj
    cases hj
    unfold dstO
    simp [g1]
  · obtain ⟨o', V', g1, g2, g3, g4⟩ := get i (by rw [← hlen]; exact (List.getElem?_eq_some_iff.1 hV).1)
    have e1 : o' = o := by have : l[i]? = some o := by simpa using ho
                           rw [g1] at this; exact Option.some.inj this
    subst e1
    rw [g2] at hV
    simp only [Option.some.injEq, Prod.mk.injEq, true_and] at hV
    subst hV
    exact g4
  · have hf : ∀ i : Nat, (Array.replicate l.toArray.size false).getD i false = false := fun i => by
      simp only [Array.getD_eq_getD_getElem?, Array.getElem?_replicate]
      split <;> rfl
    exact ⟨by simp, (fun i j hi => by rw [hf] at hi; cases hi), (fun i hi => by rw [hf] at hi; cases hi), hC, Kpo.refl _, (fun j d V hj => by rw [hf] at hj; cases hj), fun _ _ => rfl, rfl, rfl⟩
theorem greadyF {nt : Nat} {l : List Oper} (hO : ops = l.toArray) (opw : Oper → Act → Ω → (Act → Ω → Prop) → Prop) (step : Nat → (Act → Ω → Prop) → Act → Ω → Prop) (W : Nat → Array Bool → Act → Ω → Prop) (Qn : Act → Ω → Prop) (T : Nat → Act → Ω → Prop)
    (hstep : ∀ i o K a w, ops[i]? = some o → (if Region.wanted o (yielded ops a.tmps) then opw o a w K else K (a.put o.dst undef) w) → step i K a w)
    (hmono : ∀ i K K' a w, (∀ a w, K a w → K' a w) → step i K a w → step i K' a w)
    (hW0 : ∀ listed a w, Region.ready .any ops listed = [] → Qn a w → W 0 listed a w)
    (hW : ∀ fuel listed a w, (Region.ready .any ops listed = [] → Qn a w) → (∀ i ∈ Region.ready .any ops listed, step i (W fuel (listed.setIfInBounds i true)) a w) → W (fuel + 1) listed a w)
    (hT : ∀ k a w, k < ops.size → T k a w → step k (T (k + 1)) a w) (hT0 : ∀ a w, T ops.size a w → Qn a w)
    (hchk : ChkR ops (nh + 1) nt) (hlead : ∀ i, i < nh → ∃ j, j ≤ nh + 1 ∧ i < j ∧ j ≠ nh ∧ edge ops j i = true) (hback : nh + 2 < ops.size → edge ops (nh + 2) nh = true) (hct : chkT ops (nh + 1) = true) (hnh : nh + 2 ≤ ops.size) (hnt : a0.tmps.size = nt) (hC : C w0)
    (h : walkE opw a0 w0 C (fun env => (∀ w, C w → Kpo.kp w0 w → finG (T (nh + 1)) w env a0) ∧ ∀ w, C w → Kpo.kp w0 w → finG (fun a w => step (nh + 1) (fun a w => step nh (T (nh + 2)) a w) a w) w (env.take nh) a0) (l.take (nh + 1)) []) : W ops.size (Array.replicate ops.size false) a0 w0 := by
  subst hO
  have hnl : nh + 2 ≤ l.length := by simpa using hnh
  obtain ⟨env, h1, h2, h3⟩ := walkE_env _ _ h
  have hlen : env.length = nh + 1 := by rw [h1]; simp; omega
  have get : ∀ i : Nat, i < nh + 1 → ∃ o V, l[i]? = some o ∧ env[i]? = some (o.dst, V) ∧ (∀ u w w', V u w → Kpo.kp w w' → V u w') ∧ stepOk opw a0 w0 C (env.take i) o V := fun i hi => by
    have hil : i < l.length := by omega
    obtain ⟨V, g⟩ := h2 i l[i] (by rw [List.getElem?_take, if_pos hi]; exact List.getElem?_eq_getElem hil)
    exact ⟨l[i], V, List.getElem?_eq_getElem hil, by simpa using g⟩
  refine gcoreF (nt := nt) opw step W Qn T hstep hmono hW0 hW hT hT0 hchk hlead hback hct hnh hnt env hlen (fun j d V hj => ?_) (fun j x hj => ?_) (fun i o V ho hV => ?_) (by simpa using h3.1) (by simpa using h3.2) _ _ _ _ (List.range l.toArray.size) ?_ (fun i hi _ => by simpa using hi) (by simp)
  · obtain ⟨o, V', g1, g2, g3, g4⟩ := get j (by rw [← hlen]; exact (List.getElem?_eq_some_iff.1 hj).1)
    rw [g2] at hj
    cases hj
    exact g3
  · obtain ⟨o, V', g1, g2, g3, g4⟩ := get j (by rw [← hlen]; exact (List.getElem?_eq_some_iff.1 hj).1)
    rw [g2] at hj
    cases hj
    unfold dstO
    simp [g1]
  · obtain ⟨o', V', g1, g2, g3, g4⟩ := get i (by rw [← hlen]; exact (List.getElem?_eq_some_iff.1 hV).1)
    have e1 : o' = o := by have : l[i]? = some o := by simpa using ho
                           rw [g1] at this; exact Option.some.inj this
    subst e1
    rw [g2] at hV
    simp only [Option.some.injEq, Prod.mk.injEq, true_and] at hV
    subst hV
    exact g4
  · have hf : ∀ i : Nat, (Array.replicate l.toArray.size false).getD i false = false := fun i => by
      simp only [Array.getD_eq_getD_getElem?, Array.getElem?_replicate]
      split <;> rfl
    exact ⟨by simp, (fun i j hi => by rw [hf] at hi; cases hi), (fun i hi => by rw [hf] at hi; cases hi), hC, Kpo.refl _, (fun j d V hj => by rw [hf] at hj; cases hj), fun _ _ => rfl, rfl, rfl⟩
theorem greadyC {nt r : Nat} {l : List Oper} (hO : ops = l.toArray) (opw : Oper → Act → Ω → (Act → Ω → Prop) → Prop) (step : Nat → (Act → Ω → Prop) → Act → Ω → Prop) (W : Nat → Array Bool → Act → Ω → Prop) (Qn : Act → Ω → Prop) (T : Nat → Act → Ω → Prop)
    (hstep : ∀ i o K a w, ops[i]? = some o → (if Region.wanted o (yielded ops a.tmps) then opw o a w K else K (a.put o.dst undef) w) → step i K a w)
    (hmono : ∀ i K K' a w, (∀ a w, K a w → K' a w) → step i K a w → step i K' a w)
    (hW0 : ∀ listed a w, Region.ready .any ops listed = [] → Qn a w → W 0 listed a w)
    (hW : ∀ fuel listed a w, (Region.ready .any ops listed = [] → Qn a w) → (∀ i ∈ Region.ready .any ops listed, step i (W fuel (listed.setIfInBounds i true)) a w) → W (fuel + 1) listed a w)
    (hT : ∀ k a w, k < ops.size → T k a w → step k (T (k + 1)) a w) (hT0 : ∀ a w, T ops.size a w → Qn a w)
    (hr0 : 1 ≤ r) (hchk : ChkR ops (nh + r) nt) (hlead : ∀ i, i < nh → ∃ j, j ≤ nh + r ∧ i < j ∧ ¬ (nh ≤ j ∧ j < nh + r) ∧ edge ops j i = true) (hchain : ∀ i, nh ≤ i → i + 1 < nh + r → edge ops (i + 1) i = true) (hback : nh + r + 1 < ops.size → edge ops (nh + r + 1) (nh + r - 1) = true) (hct : chkT ops (nh + r) = true) (hnh : nh + r + 1 ≤ ops.size)
    (CT : Nat → Act → Ω → Prop) (hCT : ∀ c a w, c < r → CT c a w → step (nh + c) (CT (c + 1)) a w) (hCTr : ∀ a w, CT r a w → T (nh + r + 1) a w) (hnt : a0.tmps.size = nt) (hC : C w0)
    (h : walkE opw a0 w0 C (fun env => (∀ w, C w → Kpo.kp w0 w → finG (T (nh + r)) w env a0) ∧ ∀ c, c < r → ∀ w, C w → Kpo.kp w0 w → finG (fun a w => step (nh + r) (CT c) a w) w (env.take (nh + c)) a0) (l.take (nh + r)) []) : W ops.size (Array.replicate ops.size false) a0 w0 := by
  subst hO
  have hnl : nh + r + 1 ≤ l.length := by simpa using hnh
  obtain ⟨env, h1, h2, h3⟩ := walkE_env _ _ h
  have hlen : env.length = nh + r := by rw [h1]; simp; omega
  have get : ∀ i : Nat, i < nh + r → ∃ o V, l[i]? = some o ∧ env[i]? = some (o.dst, V) ∧ (∀ u w w', V u w → Kpo.kp w w' → V u w') ∧ stepOk opw a0 w0 C (env.take i) o V := fun i hi => by
    have hil : i < l.length := by omega
    obtain ⟨V, g⟩ := h2 i l[i] (by rw [List.getElem?_take, if_pos hi]; exact List.getElem?_eq_getElem hil)
    exact ⟨l[i], V, List.getElem?_eq_getElem hil, by simpa using g⟩
  refine gcoreC (nt := nt) opw step W Qn T hstep hmono hW0 hW hT hT0 hr0 hchk hlead hchain hback hct hnh CT hCT hCTr hnt env hlen (fun j d V hj => ?_) (fun j x hj => ?_) (fun i o V ho hV => ?_) (by simpa using h3.1) (by simpa using h3.2) _ _ _ _ (List.range l.toArray.size) ?_ (fun i hi _ => by simpa using hi) (by simp)
  · obtain ⟨o, V', g1, g2, g3, g4⟩ := get j (by rw [← hlen]; exact (List.getElem?_eq_some_iff.1 hj).1)
    rw [g2] at hj
    cases hj
    exact g3
  · obtain ⟨o, V', g1, g2, g3, g4⟩ := get j (by rw [← hlen]; exact (List.getElem?_eq_some_iff.1 hj).1)
    rw [g2] at hj
    cases hj
    unfold dstO
    simp [g1]
  · obtain ⟨o', V', g1, g2, g3, g4⟩ := get i (by rw [← hlen]; exact (List.getElem?_eq_some_iff.1 hV).1)
    have e1 : o' = o := by have : l[i]? = some o := by simpa using ho
                           rw [g1] at this; exact Option.some.inj this
    subst e1
    rw [g2] at hV
    simp only [Option.some.injEq, Prod.mk.injEq, true_and] at hV
    subst hV
    exact g4
  · have hf : ∀ i : Nat, (Array.replicate l.toArray.size false).getD i false = false := fun i => by
      simp only [Array.getD_eq_getD_getElem?, Array.getElem?_replicate]
      split <;> rfl
    exact ⟨by simp, (fun i j hi => by rw [hf] at hi; cases hi), (fun i hi => by rw [hf] at hi; cases hi), hC, Kpo.refl _, (fun j d V hj => by rw [hf] at hj; cases hj), fun _ _ => rfl, rfl, rfl⟩
end
end Go.Proofs.YtjmhmeadcphfmaaGreatDoor.Pl
namespace Go.Proofs.YtjmhmeadcphfmaaGreatDoor
set_option linter.unusedVariables false
set_option linter.unusedSimpArgs false
open Go.RowKit
theorem wrap_top : IntKind.u64.wrap (((M64 - 1 : Nat) : Int) + 1) = 0 := by decide
theorem wrap_sub {x y : Nat} (h : y ≤ x) (hx : x < M64) : IntKind.u64.wrap ((x : Int) - y) = ((x - y : Nat) : Int) := by
  rw [show ((x : Int) - y) = ((x - y : Nat) : Int) from by omega]; exact wrap_lt (by omega)
theorem wrap_sub1 {x : Nat} (h : 1 ≤ x) (hx : x < M64) : IntKind.u64.wrap ((x : Int) - 1) = ((x - 1 : Nat) : Int) := wrap_sub (y := 1) h hx
theorem wrap_add1 {x : Nat} (hx : x + 1 < M64) : IntKind.u64.wrap ((x : Int) + 1) = (x : Int) + 1 := by
  have := wrap_lt (x := x + 1) hx; push_cast at this; exact this
theorem wordNext_yes (x : Nat) (w : World) (h : x + 1 < M64) : Calls Tryz.prog 222 #[.int .u64 x] w fun e w' => e = .returned (.tuple #[.int .u64 ((x : Int) + 1), .bool true]) ∧ w = w' := by
  have h1 := wrap_add1 h
  have h2 : ((x : Int) + 1 != 0) = true := by simp; omega
  go_enter Tryz.func222, Tryz.ntmps222
  go_wp2
  go_ret2
  exact ⟨rfl, rfl⟩
theorem wordNext_no (w : World) : Calls Tryz.prog 222 #[.int .u64 ((M64 - 1 : Nat) : Int)] w fun e w' => e = .returned (.tuple #[.int .u64 0, .bool false]) ∧ w = w' := by
  have h1 := wrap_top
  generalize ((M64 - 1 : Nat) : Int) = m at *
  go_enter Tryz.func222, Tryz.ntmps222
  go_wp2
  go_ret2
  exact ⟨rfl, rfl⟩
theorem between_no (a b : Nat) (w : World) (h : b ≤ a) : Calls Tryz.prog 189 #[.int .u64 a, .int .u64 b] w fun e w' => e = .returned (.tuple #[.int .u64 0, .bool false]) ∧ w = w' := by
  go_enter Tryz.func189, Tryz.ntmps189
  go_wp2
  go_ret2
  exact ⟨rfl, rfl⟩
theorem between_yes (a b : Nat) (w : World) (h : a < b) (hb : b < M64) : Calls Tryz.prog 189 #[.int .u64 a, .int .u64 b] w fun e w' => e = .returned (.tuple #[.int .u64 ((b - a - 1 : Nat) : Int), .bool true]) ∧ w = w' := by
  have h1 := wrap_sub (x := b) (y := a) (by omega) hb
  have h2 := wrap_sub1 (x := b - a) (by omega) (by omega)
  generalize b - a = d at *
  have H2 := Lib.hid h2
  clear h2
  go_enter Tryz.func189, Tryz.ntmps189
  go_wp2
  rw [H2.out]
  go_ret2
  exact ⟨rfl, rfl⟩
def relate (s t : Iv) : Nat := if s.hi < t.lo then (if s.hi + 1 = t.lo then 1 else 0) else if t.hi < s.lo then (if t.hi + 1 = s.lo then 3 else 4) else 2
theorem relate_any (s t : Iv) (w : World) (hs : s.lo ≤ s.hi) (ht : t.lo ≤ t.hi) (h1 : s.hi < M64) (h2 : t.hi < M64) :
    Calls Tryz.prog 142 #[.agg #[.int .u64 s.lo, .int .u64 s.hi], .agg #[.int .u64 t.lo, .int .u64 t.hi]] w fun e w' => e = .returned (.int .i64 (relate s t)) ∧ Below w.heap.size w w' := by
  have H : ∀ n : Nat, relate s t = n → Hid (relate s t = n) := fun _ h => h
  by_cases c1 : s.hi < t.lo
  · by_cases c3 : s.hi + 1 = t.lo
    · have c3' := Lib.hid c3
      clear c3
      have R := H 1 (by unfold relate; rw [if_pos c1, if_pos c3'.out])
      have C4 := Lib.hid (show t.lo - s.hi - 1 = 0 by have := c3'.out; omega)
      clear H
      go_enter Tryz.func142, Tryz.ntmps142
      go_wp2_with (first | (go_at_call 189; with_reducible refine (between_yes s.hi t.lo _ (by omega) (by omega)).mono ?_; rw [C4.out]; rintro e w' ⟨rfl, rfl⟩) | (go_at_call 189; with_reducible refine (between_no t.hi s.lo _ (by omega)).mono ?_; rintro e w' ⟨rfl, rfl⟩))
      go_ret
      rw [R.out]
      exact ⟨rfl, ((Below.refl _ _).alloc (Nat.le_refl _) _).alloc (by simp) _⟩
    · have R := H 0 (by unfold relate; rw [if_pos c1, if_neg c3])
      obtain ⟨g, hg0⟩ : ∃ g, t.lo - s.hi - 1 = g := ⟨_, rfl⟩
      have hg : 0 < g := by omega
      have C4 := Lib.hid hg0
      clear hg0
      clear H
      go_enter Tryz.func142, Tryz.ntmps142
      go_wp2_with (first | (go_at_call 189; with_reducible refine (between_yes s.hi t.lo _ (by omega) (by omega)).mono ?_; rw [C4.out]; rintro e w' ⟨rfl, rfl⟩) | (go_at_call 189; with_reducible refine (between_no t.hi s.lo _ (by omega)).mono ?_; rintro e w' ⟨rfl, rfl⟩))
      go_ret
      rw [R.out]
      exact ⟨rfl, ((Below.refl _ _).alloc (Nat.le_refl _) _).alloc (by simp) _⟩
  · by_cases c2 : t.hi < s.lo
    · by_cases c3 : t.hi + 1 = s.lo
      · have c3' := Lib.hid c3
        clear c3
        have R := H 3 (by unfold relate; rw [if_neg c1, if_pos c2, if_pos c3'.out])
        have C4 := Lib.hid (show s.lo - t.hi - 1 = 0 by have := c3'.out; omega)
        clear H
        go_enter Tryz.func142, Tryz.ntmps142
        go_wp2_with (first | (go_at_call 189; with_reducible refine (between_no s.hi t.lo _ (by omega)).mono ?_; rintro e w' ⟨rfl, rfl⟩) | (go_at_call 189; with_reducible refine (between_yes t.hi s.lo _ (by omega) (by omega)).mono ?_; rw [C4.out]; rintro e w' ⟨rfl, rfl⟩))
        go_ret
        rw [R.out]
        exact ⟨rfl, ((Below.refl _ _).alloc (Nat.le_refl _) _).alloc (by simp) _⟩
      · have R := H 4 (by unfold relate; rw [if_neg c1, if_pos c2, if_neg c3])
        obtain ⟨g, hg0⟩ : ∃ g, s.lo - t.hi - 1 = g := ⟨_, rfl⟩
        have hg : 0 < g := by omega
        have C4 := Lib.hid hg0
        clear hg0
        clear H
        go_enter Tryz.func142, Tryz.ntmps142
        go_wp2_with (first | (go_at_call 189; with_reducible refine (between_no s.hi t.lo _ (by omega)).mono ?_; rintro e w' ⟨rfl, rfl⟩) | (go_at_call 189; with_reducible refine (between_yes t.hi s.lo _ (by omega) (by omega)).mono ?_; rw [C4.out]; rintro e w' ⟨rfl, rfl⟩))
        go_ret
        rw [R.out]
        exact ⟨rfl, ((Below.refl _ _).alloc (Nat.le_refl _) _).alloc (by simp) _⟩
    · have R := H 2 (by unfold relate; rw [if_neg c1, if_neg c2])
      clear H
      go_enter Tryz.func142, Tryz.ntmps142
      go_wp2_with (first | (go_at_call 189; with_reducible refine (between_no s.hi t.lo _ (by omega)).mono ?_; rintro e w' ⟨rfl, rfl⟩) | (go_at_call 189; with_reducible refine (between_no t.hi s.lo _ (by omega)).mono ?_; rintro e w' ⟨rfl, rfl⟩))
      go_ret
      rw [R.out]
      exact ⟨rfl, ((Below.refl _ _).alloc (Nat.le_refl _) _).alloc (by simp) _⟩
end Go.Proofs.YtjmhmeadcphfmaaGreatDoor
namespace Go.Proofs.YtjmhmeadcphfmaaGreatDoor
set_option linter.unusedVariables false
set_option linter.unusedSimpArgs false
open Go.RowKit
variable {P : Program} {s : PS}
def Det {α : Type} (H : (α → Prop) → Prop) : Prop := ∀ K, H K → ∃ x, K x ∧ H fun y => y = x
theorem Det.pure {α : Type} (x : α) : Det fun K : α → Prop => K x := fun K h => ⟨x, h, rfl⟩
theorem Det.false {α : Type} : Det fun _ : α → Prop => False := fun _ h => h.elim
theorem Det.and {α : Type} {H : (α → Prop) → Prop} (p : Prop) (h : Det H) : Det fun K => p ∧ H K := fun K hk => by
  obtain ⟨x, h1, h2⟩ := h K hk.2
  exact ⟨x, h1, hk.1, h2⟩
theorem qCells_det {α : Type} {p : PV} {H : List PV → (α → Prop) → Prop} (h : ∀ cs, Det (H cs)) : Det fun K => qCells p fun cs => H cs K := by
  intro K hk
  unfold qCells at hk ⊢
  split at hk <;> first | exact h _ K hk | exact Det.and _ (h _) K hk | exact hk.elim
theorem qBool_det {α : Type} {p : PV} {H : Bool → (α → Prop) → Prop} (h : ∀ b, Det (H b)) : Det fun K => qBool p fun b => H b K := by
  intro K hk
  unfold qBool at hk ⊢
  split at hk
  · exact h _ K hk
  · exact hk.elim
theorem qInt_det {α : Type} {p : PV} {H : IntKind → Int → (α → Prop) → Prop} (h : ∀ k n, Det (H k n)) : Det fun K => qInt p fun k n => H k n K := by
  intro K hk
  unfold qInt at hk ⊢
  split at hk
  · exact h _ _ K hk
  · exact hk.elim
theorem qSl_det {α : Type} {p : PV} {H : List (List PV) → (α → Prop) → Prop} (h : ∀ es, Det (H es)) : Det fun K => qSl p fun es => H es K := by
  intro K hk
  unfold qSl at hk ⊢
  split at hk
  · exact h _ K hk
  · exact hk.elim
theorem qar_det (k : IntKind) (n : Int) : Det (qar k n) := by
  intro K hk
  unfold qar at hk ⊢
  split at hk
  · exact ⟨_, hk.2, hk.1, rfl⟩
  · exact ⟨_, hk, rfl⟩
theorem qint_det (op : BinOp) (k : IntKind) (a b : Int) : Det (qint op k a b) := by
  intro K hk
  unfold qint at hk ⊢
  split at hk <;> first | exact qar_det _ _ K hk | exact Det.and _ (qar_det _ _) K hk | exact Det.and _ (Det.pure _) K hk | exact ⟨_, hk, rfl⟩ | exact hk.elim
theorem qbin_det (op : BinOp) (p q : PV) : Det (qbin op p q) := by
  intro K hk
  unfold qbin at hk ⊢
  split at hk
  · exact Det.and _ (qint_det _ _ _ _) K hk
  · exact hk.elim
theorem qeq2_det (n : Bool) (p q : PV) : Det (qeq2 n p q) := by
  intro K hk
  unfold qeq2 at hk ⊢
  split at hk
  · exact ⟨_, hk.2.2, hk.1, hk.2.1, rfl⟩
  · exact hk.elim
theorem qAt_det (cs : List PV) (o : Nat) (ag : Bool) (n : Nat) : Det (qAt cs o ag n) := by
  intro K hk
  unfold qAt at hk ⊢
  split at hk
  · exact ⟨_, hk.2, hk.1, rfl⟩
  · split at hk
    · exact ⟨_, hk, rfl⟩
    · exact hk.elim
theorem qAt_det' {α : Type} (cs : List PV) (o : Nat) (ag : Bool) (n : Nat) (f : PV → α) : Det fun K : α → Prop => qAt cs o ag n fun p => K (f p) := by
  intro K hk
  obtain ⟨x, h1, h2⟩ := qAt_det cs o ag n _ hk
  refine ⟨f x, h1, ?_⟩
  unfold qAt at h2 ⊢
  split at h2
  · exact ⟨h2.1, by rw [h2.2]⟩
  · split at h2
    · rw [h2]
    · exact h2.elim
theorem qParts_det {α : Type} (f : List PV → α) : ∀ (ps : List (Nat × Nat × PO)) (zs : List PV), Det fun K : α → Prop => qParts s ps zs fun cs => K (f cs)
  | [], zs => Det.pure _
  | (off, n, x) :: r, zs => qCells_det fun cs => Det.and _ (Det.and _ (Det.and _ (qParts_det f r _)))
theorem qElems_det {α : Type} (sz : Nat) : ∀ (ps : List PO) (f : List (List PV) → α), Det fun K : α → Prop => qElems s sz ps fun es => K (f es)
  | [], f => Det.pure _
  | x :: r, f => qCells_det fun cs => Det.and _ (Det.and _ (qElems_det sz r fun es => f (cs.map PV.sh :: es)))
theorem qBd_det {α : Type} (y : Option PO) (n : Nat) {H : Nat → (α → Prop) → Prop} (h : ∀ n, Det (H n)) : Det fun K => qBd s y n fun m => H m K := by
  cases y with
  | none => exact h n
  | some y => exact qInt_det fun _ _ => Det.and _ (h _)
theorem q_det (k : PK) : Det (k.q P s) := by
  cases k with
  | mv x => cases x <;> exact Det.pure _
  | bin op x y => exact qbin_det _ _ _
  | beq n x y => exact qBool_det fun a => qBool_det fun b => Det.pure _
  | eq2 n x y => exact qeq2_det _ _ _
  | nil n x =>
    intro K hk
    simp only [PK.q] at hk ⊢
    split at hk <;> first | exact ⟨_, hk, rfl⟩ | exact hk.elim
  | not x => exact qBool_det fun a => Det.pure _
  | cv k x => exact qInt_det fun a b => Det.pure _
  | fa x off =>
    intro K hk
    simp only [PK.q] at hk ⊢
    split at hk <;> first | exact ⟨_, hk, rfl⟩ | exact hk.elim
  | ia x y sz =>
    refine qSl_det fun es => qInt_det fun _ n => Det.and _ fun K hk => ?_
    split at hk
    · exact ⟨_, hk.2, hk.1, rfl⟩
    · exact hk.elim
  | aa x y n sz =>
    refine qInt_det fun _ m => Det.and _ fun K hk => ?_
    split at hk <;> first | exact ⟨_, hk, rfl⟩ | exact hk.elim
  | ix x y n ag sz =>
    refine qInt_det fun _ m => Det.and _ fun K hk => ?_
    split at hk
    · exact qAt_det' _ _ _ _ _ K hk
    · exact hk.elim
  | fl x off ag n =>
    intro K hk
    simp only [PK.q] at hk ⊢
    split at hk
    · exact qAt_det' _ _ _ _ _ K hk
    · exact hk.elim
  | ld x ag n =>
    intro K hk
    simp only [PK.q] at hk ⊢
    split at hk
    · exact qAt_det' _ _ _ _ _ K hk
    · split at hk
      · exact Det.and _ (qAt_det' _ _ _ _ _) K hk
      · exact hk.elim
    · exact hk.elim
  | nc x =>
    intro K hk
    simp only [PK.q] at hk ⊢
    split at hk <;> first | exact ⟨_, hk, rfl⟩ | exact hk.elim
  | bd zs ps => exact qParts_det _ _ _
  | bs sz ps => exact qElems_det _ _ _
  | ln x => exact qSl_det fun _ => Det.pure _
  | ex x i =>
    intro K hk
    simp only [PK.q] at hk ⊢
    split at hk
    · split at hk
      · exact ⟨_, hk, rfl⟩
      · exact hk.elim
    · exact hk.elim
  | mf f fs cs => exact Det.and _ (Det.pure _)
  | mi t x =>
    intro K hk
    simp only [PK.q] at hk ⊢
    split at hk
    · exact ⟨_, hk, rfl⟩
    · exact hk.elim
  | pk c x y =>
    refine qBool_det fun b => ?_
    intro K hk
    cases b with
    | true => exact ⟨_, hk.1 rfl, fun _ => rfl, nofun⟩
    | false => exact ⟨_, hk.2 rfl, nofun, fun _ => rfl⟩
  | sc x lo hi sz => exact qSl_det fun es => qBd_det _ _ fun h => qBd_det _ _ fun l => Det.and _ (Det.and _ (Det.and _ (Det.pure _)))
  | ap x y sz b =>
    intro K hk
    simp only [PK.q] at hk ⊢
    split at hk
    · exact qSl_det (fun es' => Det.and _ (Det.and _ (Det.and _ (Det.pure _)))) K hk
    · exact hk.elim
  | mm m x y => exact qInt_det fun _ _ => qInt_det fun _ _ => Det.and _ (Det.pure _)
  | ca f xs =>
    intro K hk
    obtain ⟨r, h1, h2, h3⟩ := hk
    exact ⟨_, h3, r, h1, h2, rfl⟩
  | cl y xs =>
    intro K hk
    simp only [PK.q] at hk ⊢
    split at hk
    · obtain ⟨r, h1, h2, h3⟩ := hk
      exact ⟨_, h3, r, h1, h2, rfl⟩
    · exact hk.elim
  | al zs => exact Det.false
  | bo x => exact Det.false
  | st x y n => exact Det.false
end Go.Proofs.YtjmhmeadcphfmaaGreatDoor
namespace Go.Proofs.YtjmhmeadcphfmaaGreatDoor
set_option linter.unusedVariables false
set_option linter.unusedSimpArgs false
open Go.RowKit
attribute [local go_sem] Oper.semAt_some
def slt (a : Act) : Nat → Value := fun t => a.tmps.getD t undef
theorem ofC_dat (D : Nat → Nat → Prop) (w : World) (v : Value) : Dat D w v (ofC v) := by
  unfold ofC
  split
  · exact .sl none 0 1 [] .sh 0 0 (fun _ => undef) (Nat.le_refl _) (fun h => by cases h) (Nat.zero_le _) (fun h => absurd rfl h) (fun i e h => by simp at h) (fun j h => absurd h (by simp)) (fun i e j p h => by simp at h)
  · exact .v _
theorem ofV_dat (D : Nat → Nat → Prop) (w : World) (v : Value) : Dat D w v (ofV v) := by
  unfold ofV
  split
  · exact .sl none 0 1 [] .z 0 0 (fun _ => undef) (Nat.le_refl _) (fun _ => rfl) (Nat.zero_le _) (fun h => absurd rfl h) (fun i e h => by simp at h) (fun j h => absurd h (by simp)) (fun i e j p h => by simp at h)
  · rename_i vs
    split
    · rename_i hall
      refine .agg vs _ (by simp) (fun i hi => ?_) fun i p hp => ?_
      · rw [List.all_eq_true] at hall
        have hi' : i < vs.size := by simpa using hi
        exact hall _ (by simp [hi'])
      · simp only [List.getElem?_map, Option.map_eq_some_iff] at hp
        obtain ⟨v, hv, rfl⟩ := hp
        have : vs.getD i undef = v := by simp at hv; simp [hv]
        rw [this]; exact ofC_dat D w v
    · exact .v _
  · exact .v _
structure Rd (D : Nat → Nat → Prop) (ρ : Nat → Nat) (s : PS) (x : Nat → Value) (ts : List Nat) (w : World) : Prop where
  slots : ∀ t ∈ ts, Rel D ρ s.b.length w (x t) (s.get t)
  boxes : ∀ (i : Nat) cs, s.b[i]? = some cs → BoxR ⟨D, ρ⟩ s.b.length w i cs
  gl : GL D w
def News (x0 : Nat → Value) (n0 : Nat) (s : PS) (x : Nat → Value) (ts : List Nat) (w : World) : Prop :=
  n0 ≤ w.heap.size ∧ ∀ t ∈ ts, NewOk x0 n0 w (x t) (s.get t) ∧ ((s.get t).own ≠ none → x0 t = x t)
def Qok (P : Program) (o : Oper) (s : PS) (ρ : Nat → Nat) (D : Nat → Nat → Prop) (a : Act) (w : World) (p : PV) : Prop :=
  ∀ (next : Act → World → Prop) (Q : Exit → Act → World → Prop), (∀ u w', Below w.heap.size w w' → Rel (fun b o => D b o ∨ w.heap.size ≤ b) ρ s.b.length w' u p → (∀ x0 n0, News x0 n0 s (slt a) (rdsO o) w → NewOk x0 n0 w' u p) → next (a.put o.dst u) w') → o.wp P a w next Q
variable {P : Program} {o : Oper} {D : Nat → Nat → Prop} {ρ : Nat → Nat} {nb : Nat} {s : PS} {a : Act} {w : World}
theorem qdet {u : Value} {p : PV} (hr : (execOp a.eval o).run P w = .ok (.value u) w) (h : Rel D ρ s.b.length w u p) (hN : ∀ x0 n0, News x0 n0 s (slt a) (rdsO o) w → NewOk x0 n0 w u p) : Qok P o s ρ D a w p := by
  intro next Q hn
  show o.upon P a next Q ((execOp a.eval o).run P w)
  rw [hr]
  exact hn u w (Below.refl _ _) (h.mono (fun _ _ h => .inl h) (fun _ _ _ _ h => h) (Nat.le_refl _) fun _ _ => rfl) hN
theorem qnew {u : Value} {p : PV} {w' : World} (hr : (execOp a.eval o).run P w = .ok (.value u) w') (hb : Below w.heap.size w w') (h : Rel (fun b o => D b o ∨ w.heap.size ≤ b) ρ s.b.length w' u p) (hN : ∀ x0 n0, News x0 n0 s (slt a) (rdsO o) w → NewOk x0 n0 w' u p) : Qok P o s ρ D a w p := by
  intro next Q hn
  show o.upon P a next Q ((execOp a.eval o).run P w)
  rw [hr]
  exact hn u w' hb h hN
theorem po_rel {y : Operand} {y' : PO} (hy : po y = some y') (h : ∀ t, y = .tmp t → Rel D ρ nb w (slt a t) (s.get t)) : Rel D ρ nb w (a.eval y) (s.ev y') := by
  cases y with
  | tmp t => cases hy; exact h t rfl
  | const v => cases hy; exact .dat (ofV_dat D w v)
  | func f => cases hy; exact .dat (.fn (.func f) #[] #[] [] [] rfl rfl (fun i p h => by simp at h) (fun i p h => by simp at h))
  | global g => cases hy
theorem Rd.at {ts : List Nat} (h : Rd D ρ s (slt a) ts w) {y : Operand} {y' : PO} (hy : po y = some y') (ht : ∀ t, y = .tmp t → t ∈ ts) : Rel D ρ s.b.length w (a.eval y) (s.ev y') :=
  po_rel hy fun t e => h.slots t (ht t e)
theorem Rel.inv_agg {u : Value} {cs : List PV} (h : Rel D ρ nb w u (.agg cs)) : ∃ vs : Array Value, u = .agg vs ∧ vs.size = cs.length ∧ (∀ i, i < cs.length → (vs.getD i undef).oneCell' = true) ∧ ∀ (i : Nat) p, cs[i]? = some p → Dat D w (vs.getD i undef) p := by
  rcases h with (h | ⟨i, o, h, _⟩) | ⟨f, va, vb, fs, cs, h, _⟩
  · cases h with | agg vs cs hs h1 h => exact ⟨vs, rfl, hs, h1, h⟩
  · cases h
  · cases h
theorem Rel.inv_tup {u : Value} {cs : List PV} (h : Rel D ρ nb w u (.tup cs)) : ∃ vs : Array Value, u = .tuple vs ∧ vs.size = cs.length ∧ ∀ (i : Nat) p, cs[i]? = some p → Dat D w (vs.getD i undef) p := by
  rcases h with (h | ⟨i, o, h, _⟩) | ⟨f, va, vb, fs, cs, h, _⟩
  · cases h with | tup vs cs hs h => exact ⟨vs, rfl, hs, h⟩
  · cases h
  · cases h
theorem Rel.inv_ifc {u : Value} {t : TypeId} {p : PV} (h : Rel D ρ nb w u (.ifc t p)) : ∃ x, u = .iface t x ∧ Dat D w x p := by
  rcases h with (h | ⟨i, o, h, _⟩) | ⟨f, va, vb, fs, cs, h, _⟩
  · cases h with | ifc t x p h => exact ⟨x, rfl, h⟩
  · cases h
  · cases h
theorem Rel.inv_bx {u : Value} {i o : Nat} (h : Rel D ρ nb w u (.bx i o)) : i < nb ∧ u = .pointer (some ⟨ρ i, o, none⟩) := by
  rcases h with (h | ⟨i, o, h, hi, hu⟩) | ⟨f, va, vb, fs, cs, h, _⟩
  · cases h
  · cases h; exact ⟨hi, hu⟩
  · cases h
theorem Rel.inv_cp {u : Value} {cs : List PV} {k : Nat} (h : Rel D ρ nb w u (.cp cs k)) : ∃ (b off : Nat) (f : Nat → Value), u = .pointer (some ⟨b, off + k, none⟩) ∧ (∀ j, j < cs.length → D b (off + j) ∧ w.cell? ⟨b, off + j, none⟩ = some (f j) ∧ (f j).oneCell' = true) ∧ ∀ (j : Nat) p, cs[j]? = some p → Dat D w (f j) p := by
  rcases h with (h | ⟨i, o, h, _⟩) | ⟨f, va, vb, fs, cs, h, _⟩
  · cases h with | cp b off cs o u h1 h2 => exact ⟨b, off, u, rfl, h1, h2⟩
  · cases h
  · cases h
theorem Rel.inv_sl {u : Value} {es : List (List PV)} {k : Ow} (h : Rel D ρ nb w u (.sl es k)) : ∃ (ad : Option Addr) (cap sz b off : Nat) (f : Nat → Value), u = .slice ad es.length cap ∧ es.length ≤ cap ∧ (k = .z → cap = es.length) ∧ cap ≤ maxLen ∧ (es ≠ [] → ad = some ⟨b, off, none⟩) ∧
    (∀ (i : Nat) e, es[i]? = some e → e.length = sz) ∧ (∀ j, j < es.length * sz → D b (off + j) ∧ w.cell? ⟨b, off + j, none⟩ = some (f j) ∧ (f j).oneCell' = true) ∧ ∀ (i : Nat) e (j : Nat) p, es[i]? = some e → e[j]? = some p → Dat D w (f (i * sz + j)) p := by
  rcases h with (h | ⟨i, o, h, _⟩) | ⟨f, va, vb, fs, cs, h, _⟩
  · cases h with | sl a cap sz es o b off u hc hz hm ha hsz hD h => exact ⟨a, cap, sz, b, off, u, rfl, hc, hz, hm, ha, hsz, hD, h⟩
  · cases h
  · cases h
theorem qBool_inv {p : PV} {K : Bool → Prop} {u : Value} (h : qBool p K) (hr : Rel D ρ nb w u p) : ∃ b, u = .bool b ∧ p = .v (.bool b) ∧ K b := by
  unfold qBool at h
  split at h
  · exact ⟨_, hr.v_inv, rfl, h⟩
  · exact h.elim
theorem qInt_inv {p : PV} {K : IntKind → Int → Prop} {u : Value} (h : qInt p K) (hr : Rel D ρ nb w u p) : ∃ k n, u = .int k n ∧ p = .v (.int k n) ∧ K k n := by
  unfold qInt at h
  split at h
  · exact ⟨_, _, hr.v_inv, rfl, h⟩
  · exact h.elim
theorem qSl_inv {p : PV} {K : List (List PV) → Prop} (h : qSl p K) : ∃ es k, p = .sl es k ∧ K es := by
  unfold qSl at h
  split at h
  · exact ⟨_, _, rfl, h⟩
  · exact h.elim
theorem qar_run {k : IntKind} {n : Int} {K : PV → Prop} (h : qar k n K) : K (.v (.int k (k.wrap n))) := by
  unfold qar at h
  split at h
  · obtain ⟨⟨h1, h2⟩, h3⟩ := h
    have : IntKind.i64.wrap n = n := IntWalk.i64_in _ ⟨h1, by omega⟩
    rw [this]; exact h3
  · exact h
theorem qint_run {op : BinOp} {k : IntKind} {x y : Int} {K : PV → Prop} (t : TypeId) (h : qint op k x y K) : ∃ u, (binOp op t (.int k x) (.int k y)).run P w = .ok u w ∧ K (.v u) := by
  unfold qint at h
  split at h
  case h_1 => exact ⟨_, by simp [binOp, Op.intArith], qar_run h⟩
  case h_2 => exact ⟨_, by simp [binOp, Op.intArith], qar_run h⟩
  case h_3 => exact ⟨_, by simp [binOp, Op.intArith], qar_run h⟩
  case h_4 => exact ⟨_, by simp [binOp, Op.intDiv, h.1], qar_run h.2⟩
  case h_5 => exact ⟨_, by simp [binOp, Op.intDiv, h.1], h.2⟩
  case h_6 => exact ⟨.bool (decide (x = y)), by simp [binOp, Op.intCmp]; rfl, h⟩
  case h_7 => exact ⟨.bool (!decide (x = y)), by simp [binOp, Op.intCmp]; rfl, h⟩
  case h_8 => exact ⟨_, by simp [binOp, Op.intCmp], h⟩
  case h_9 => exact ⟨_, by simp [binOp, Op.intCmp], h⟩
  case h_10 => exact ⟨_, by simp [binOp, Op.intCmp], h⟩
  case h_11 => exact ⟨_, by simp [binOp, Op.intCmp], h⟩
  case h_12 => exact ⟨_, by simp [binOp, Op.shift, Int.not_lt.2 h.1]; rfl, h.2⟩
  case h_13 => exact h.elim
theorem eqGuard_int (op : BinOp) (t : TypeId) (x y : Operand) (k k' : IntKind) (m n : Int) : (eqGuard op t x y (.int k m) (.int k' n)).run P w = .ok () w := by
  unfold eqGuard; split <;> simp
theorem qbin_run {op : BinOp} {p q : PV} {K : PV → Prop} {u v : Value} (t : TypeId) (x y : Operand) (h : qbin op p q K) (hu : Rel D ρ nb w u p) (hv : Rel D ρ nb w v q) :
    ∃ r, (do eqGuard op t x y u v; binOp op t u v : Sem Value).run P w = .ok r w ∧ K (.v r) := by
  unfold qbin at h
  split at h
  · obtain rfl := hu.v_inv
    obtain rfl := hv.v_inv
    obtain ⟨rfl, h⟩ := h
    obtain ⟨r, h1, h2⟩ := qint_run (P := P) (w := w) t h
    exact ⟨r, by simp [eqGuard_int, h1], h2⟩
  · exact h.elim
theorem eqGuard_bool (op : BinOp) (t : TypeId) (x y : Operand) (m n : Bool) : (eqGuard op t x y (.bool m) (.bool n)).run P w = .ok () w := by
  unfold eqGuard; split <;> simp
theorem equal_bool {t : TypeId} (ht : P.underlying t = some .bool) (m n : Bool) : (Op.equal t (.bool m) (.bool n)).run P w = .ok (m == n) w := by
  unfold Op.equal Op.maxDepth
  rw [show (10000 : Nat) = 9999 + 1 from rfl]
  unfold Op.equalIn
  simp [run_underlying ht]
theorem eqGuard_nil (op : BinOp) (t : TypeId) (x : Operand) : (eqGuard op t x (.const .nilIface) .nilIface .nilIface).run P w = .ok () w := by
  unfold eqGuard; cases op <;> cases x <;> simp
theorem eqGuard_nil' (op : BinOp) (t t' : TypeId) (x y : Operand) (v : Value) : (eqGuard op t x y (.iface t' v) .nilIface).run P w = .ok () w := by
  unfold eqGuard; cases op <;> simp
theorem equal_nil {t : TypeId} {ms} (ht : P.underlying t = some (.interface ms)) : (Op.equal t .nilIface .nilIface).run P w = .ok true w := by
  unfold Op.equal Op.maxDepth
  rw [show (10000 : Nat) = 9999 + 1 from rfl]
  unfold Op.equalIn
  simp [run_underlying ht]
theorem equal_nil' {t : TypeId} {ms} (ht : P.underlying t = some (.interface ms)) (t' : TypeId) (v : Value) : (Op.equal t (.iface t' v) .nilIface).run P w = .ok false w := by
  unfold Op.equal Op.maxDepth
  rw [show (10000 : Nat) = 9999 + 1 from rfl]
  unfold Op.equalIn
  simp [run_underlying ht]
theorem getD_lt {l : List PV} {vs : Array Value} {i : Nat} {p : PV} (hs : vs.size = l.length) (hp : l[i]? = some p) : i < vs.size := by rw [hs]; exact (List.getElem?_eq_some_iff.1 hp).1
def CellsR (D : Nat → Nat → Prop) (ρ : Nat → Nat) (nb : Nat) (w : World) (u : Value) (cs : List PV) : Prop :=
  u.cells.size = cs.length ∧ ∀ (i : Nat) p, cs[i]? = some p → Rel D ρ nb w (u.cells.getD i undef) p ∧ (u.cells.getD i undef).oneCell' = true
theorem cells_one {u : Value} {p : PV} (h : Rel D ρ nb w u p) (hu : u.oneCell' = true) : CellsR D ρ nb w u [p] := by
  have e : u.cells = #[u] := by cases u <;> first | rfl | cases hu
  refine ⟨by rw [e]; rfl, fun i q hq => ?_⟩
  have hi : i = 0 := by have := (List.getElem?_eq_some_iff.1 hq).1; simpa using this
  subst hi
  simp at hq
  subst hq
  rw [e]
  exact ⟨h, hu⟩
theorem qCells_inv {p : PV} {K : List PV → Prop} {u : Value} (h : qCells p K) (hr : Rel D ρ nb w u p) : ∃ cs, K cs ∧ CellsR D ρ nb w u cs := by
  unfold qCells at h
  split at h
  · obtain ⟨vs, rfl, hs, h1, h2⟩ := hr.inv_agg
    exact ⟨_, h, hs, fun i p hp => ⟨.dat (h2 i p hp), h1 i (List.getElem?_eq_some_iff.1 hp).1⟩⟩
  · obtain rfl := hr.v_inv
    exact ⟨_, h.2, cells_one hr h.1⟩
  · obtain ⟨_, _, _, _, _, _, rfl, _⟩ := hr.inv_sl
    exact ⟨_, h, cells_one hr rfl⟩
  · obtain ⟨_, _, _, rfl, _⟩ := hr.inv_cp
    exact ⟨_, h, cells_one hr rfl⟩
  · obtain ⟨_, rfl⟩ := hr.inv_bx
    exact ⟨_, h, cells_one hr rfl⟩
  · refine ⟨_, h, cells_one hr ?_⟩
    rcases hr with (hr | ⟨i, o, hr, _⟩) | ⟨f, va, vb, fs, cs, _, rfl, _⟩
    · cases hr; rfl
    · cases hr
    · rfl
  · obtain ⟨_, rfl, _⟩ := hr.inv_ifc
    exact ⟨_, h, cells_one hr rfl⟩
  · exact h.elim
theorem isAgg_run {t : TypeId} {d : TypeDesc} (h : P.underlying t = some d) : (isAgg t).run P w = .ok (isAggD d) w := by
  unfold isAgg
  simp only [Sem.run_bind, run_underlying h, Result.andThen_ok]
  cases d <;> simp [isAggD]
theorem sizeOf_run {t : TypeId} {i : TypeInfo} (h : P.info? t = some i) : (sizeOf t).run P w = .ok i.size w := by simp [sizeOf, typeInfo, h]
theorem shp_some {t : TypeId} {ag : Bool} {n : Nat} (h : shp P t = some (ag, n)) : ∃ i d, P.info? t = some i ∧ P.underlying t = some d ∧ isAggD d = ag ∧ i.size = n := by
  unfold shp at h
  simp only [Option.bind_eq_some_iff, Option.map_eq_some_iff] at h
  obtain ⟨i, hi, d, hd, e⟩ := h
  cases e
  exact ⟨i, d, hi, hd, rfl, rfl⟩
theorem loadVar_one {t : TypeId} {n : Nat} {ad : Addr} {v : Value} (h : shp P t = some (false, n)) (hc : w.cell? ad = some v) : (loadVar t ad).run P w = .ok v w := by
  obtain ⟨i, d, h1, h2, h3, h4⟩ := shp_some h
  simp [loadVar, isAgg_run h2, h3, hc]
theorem loadVar_agg {t : TypeId} {n : Nat} {ad : Addr} {f : Nat → Value} (h : shp P t = some (true, n)) (hc : ∀ j, j < n → w.cell? (ad.add j) = some (f j)) : (loadVar t ad).run P w = .ok (.agg ((List.range n).map f).toArray) w := by
  obtain ⟨i, d, h1, h2, h3, h4⟩ := shp_some h
  subst h4
  simp [loadVar, isAgg_run h2, h3, sizeOf_run h1, run_loadCells w ad i.size f hc]
theorem add_none (b o j : Nat) : (⟨b, o, none⟩ : Addr).add j = ⟨b, o + j, none⟩ := by unfold Addr.add; split <;> simp_all
theorem qAt_load {t : TypeId} {ag : Bool} {n b off o : Nat} {cs : List PV} {f : Nat → Value} {K : PV → Prop} (hs : shp P t = some (ag, n)) (hq : qAt cs o ag n K)
    (hc : ∀ j, j < cs.length → w.cell? ⟨b, off + j, none⟩ = some (f j) ∧ (f j).oneCell' = true) (hr : ∀ (j : Nat) p, cs[j]? = some p → Rel D ρ nb w (f j) p) (hd : ag = true → allD ((cs.drop o).take n) = true) :
    ∃ u p, (loadVar t ⟨b, off + o, none⟩).run P w = .ok u w ∧ Rel D ρ nb w u p ∧ K p := by
  unfold qAt at hq
  cases ag with
  | true =>
    obtain ⟨h1, h2⟩ := hq
    refine ⟨_, _, loadVar_agg (f := fun j => f (o + j)) hs (fun j hj => ?_), ?_, h2⟩
    · rw [add_none, Nat.add_assoc]; exact (hc _ (by omega)).1
    · refine .dat (.agg _ _ (by simp; omega) (fun i hi => ?_) fun i p hp => ?_)
      · have hi' : i < n := by simp at hi; omega
        have : ((List.range n).map fun j => f (o + j)).toArray.getD i undef = f (o + i) := by simp [hi']
        rw [this]; exact (hc _ (by omega)).2
      · have hi : i < n := by have := (List.getElem?_eq_some_iff.1 hp).1; simp at this; omega
        have : ((List.range n).map fun j => f (o + j)).toArray.getD i undef = f (o + i) := by simp [hi]
        rw [this]
        have hD := hd rfl
        unfold allD at hD
        rw [List.all_eq_true] at hD
        refine (hr _ _ ?_).data (hD p (List.mem_of_getElem? hp))
        rw [List.getElem?_take, if_pos hi, List.getElem?_drop] at hp
        exact hp
  | false =>
    simp only at hq
    split at hq
    · rename_i p hp
      exact ⟨_, p, loadVar_one hs (hc o (List.getElem?_eq_some_iff.1 hp).1).1, hr _ _ hp, hq⟩
    · exact hq.elim
theorem qAt_part {t : TypeId} {ag : Bool} {n o : Nat} {cs : List PV} {vs : Array Value} {K : PV → Prop} (hs : shp P t = some (ag, n)) (hq : qAt cs o ag n K) (hz : vs.size = cs.length) (h1 : ∀ i, i < cs.length → (vs.getD i undef).oneCell' = true)
    (hr : ∀ (j : Nat) p, cs[j]? = some p → Dat D w (vs.getD j undef) p) : ∃ u p, (part t vs o).run P w = .ok u w ∧ Dat D w u p ∧ K p := by
  obtain ⟨i, d, e1, e2, e3, e4⟩ := shp_some hs
  unfold qAt at hq
  subst e4
  cases ag with
  | true =>
    obtain ⟨g1, g2⟩ := hq
    refine ⟨.agg (vs.extract o (o + i.size)), _, by simp [part, isAgg_run e2, e3, sizeOf_run e1], ?_, g2⟩
    have key : ∀ j, j < i.size → (vs.extract o (o + i.size)).getD j undef = vs.getD (o + j) undef := fun j hj => by
      have : o + j < vs.size := by omega
      have h2 : j < (vs.extract o (o + i.size)).size := by simp; omega
      simp [Array.getD_eq_getD_getElem?, Array.getElem?_eq_getElem h2, Array.getElem?_eq_getElem this]
    refine .agg _ _ (by simp; omega) (fun j hj => ?_) fun j p hp => ?_
    · have hj' : j < i.size := by simp at hj; omega
      rw [key j hj']; exact h1 _ (by omega)
    · have hj : j < i.size := by have := (List.getElem?_eq_some_iff.1 hp).1; simp at this; omega
      rw [key j hj]
      rw [List.getElem?_take, if_pos hj, List.getElem?_drop] at hp
      exact hr _ _ hp
  | false =>
    simp only at hq
    split at hq
    · rename_i p hp
      have ho : o < vs.size := getD_lt hz hp
      refine ⟨vs.getD o undef, p, ?_, hr _ _ hp, hq⟩
      simp [part, isAgg_run e2, e3, ho]
    · exact hq.elim
end Go.Proofs.YtjmhmeadcphfmaaGreatDoor
namespace Go.Proofs.YtjmhmeadcphfmaaGreatDoor
set_option linter.unusedVariables false
set_option linter.unusedSimpArgs false
open Go.RowKit
attribute [local go_sem] Oper.semAt_some
def nxtV : Option Nat → Value
  | some y => .tuple #[.int .u64 (y : Int), .bool true]
  | none => .tuple #[.int .u64 0, .bool false]
theorem nxt_step {l : List Iv} {k x : Nat} (h : k < l.length) : nxt (l.drop k) x = if x < l[k].lo then some l[k].lo else if l[k].hi + 1 < M64 ∧ x < l[k].hi + 1 then some (l[k].hi + 1) else nxt (l.drop (k + 1)) x := by
  rw [List.drop_eq_getElem_cons h]; rfl
set_option maxHeartbeats 1000000 in
theorem next_any (l : List Iv) (v : Value) (x : Nat) (w : World) (hl : RdR 0 w.heap.size w v l) :
    Calls Tryz.prog 217 #[v, .int .u64 x] w fun e w' => e = .returned (nxtV (nxt l x)) ∧ Below w.heap.size w w' := by
  obtain ⟨a, cap, rfl, hlc, hcm, hc⟩ := hl
  unfold maxLen at hcm
  go_enter Tryz.func217, Tryz.ntmps217
  go_wp2_with fail
  go_loopw [12] (fun i wr => ∃ k : Nat, k ≤ l.length ∧ i = .int .i64 k ∧ Hid (nxt l x = nxt (l.drop k) x) ∧ Below w.heap.size w wr) (fun i _ => l.length - (intOf i).toNat)
  case atStart => exact ⟨0, Nat.zero_le _, rfl, rfl, Below.refl _ _⟩
  case round =>
    obtain ⟨k, hk, rfl, hn, hB⟩ := hrel
    by_cases hlt : k < l.length
    · obtain ⟨b, off, rfl, _, hb, hcell⟩ := hc (by intro e; subst e; simp at hlt)
      obtain ⟨g1, g2, g3, g4⟩ := hcell k hlt
      have hs := nxt_step (x := x) hlt
      obtain ⟨lo, hlo⟩ : ∃ lo, lo = l[k].lo := ⟨_, rfl⟩
      obtain ⟨hi, hhi⟩ : ∃ hi, hi = l[k].hi := ⟨_, rfl⟩
      rw [← hlo] at g1 g3 hs
      rw [← hhi] at g2 g4 hs
      clear hlo hhi hcell hc
      have c1 : wr.cell? ⟨b, off + k * 2, none⟩ = some (.int .u64 lo) := (hB.cell (p := ⟨b, _, none⟩) hb).trans g1
      have c2 : wr.cell? ⟨b, off + k * 2 + 1, none⟩ = some (.int .u64 hi) := (hB.cell (p := ⟨b, _, none⟩) hb).trans g2
      clear g1 g2
      have hsz := hB.size
      by_cases t1 : x < lo
      · have HV : Hid (nxt l x = some lo) := by rw [hn.out, hs, if_pos t1]; rfl
        clear hs hn
        go_wp2
        go_ret2
        rw [HV.out]
        exact ⟨rfl, hB.alloc hsz _⟩
      · by_cases t2 : hi + 1 < M64
        · by_cases t3 : x < hi + 1
          · have HV : Hid (nxt l x = some (hi + 1)) := by rw [hn.out, hs, if_neg t1, if_pos ⟨t2, t3⟩]; rfl
            clear hs hn
            go_wp2_with (go_at_call 222; with_reducible refine (wordNext_yes _ _ t2).mono ?_; rintro e w' ⟨rfl, rfl⟩)
            go_ret2
            rw [HV.out]
            exact ⟨by simp [nxtV], hB.alloc hsz _⟩
          · have HV : Hid (nxt l x = nxt (l.drop (k + 1)) x) := by rw [hn.out, hs, if_neg t1, if_neg (by omega)]; rfl
            clear hs hn
            go_wp2_with (go_at_call 222; with_reducible refine (wordNext_yes _ _ t2).mono ?_; rintro e w' ⟨rfl, rfl⟩)
            go_roundw
            case rel => exact ⟨k + 1, by omega, by go_num, HV, hB.alloc hsz _⟩
            case measure => simp [intOf]; omega
        · have HV : Hid (nxt l x = nxt (l.drop (k + 1)) x) := by rw [hn.out, hs, if_neg t1, if_neg (by omega)]; rfl
          clear hs hn
          obtain rfl : hi = M64 - 1 := by omega
          go_wp2_with (go_at_call 222; with_reducible refine (wordNext_no _).mono ?_; rintro e w' ⟨rfl, rfl⟩)
          go_roundw
          case rel => exact ⟨k + 1, by omega, by go_num, HV, hB.alloc hsz _⟩
          case measure => simp [intOf]; omega
    · have hkl : k = l.length := by omega
      have HV : Hid (nxt l x = none) := by rw [hn.out, hkl, List.drop_length]; rfl
      clear hn
      go_wp2
      go_ret2
      rw [HV.out]
      exact ⟨rfl, hB⟩
theorem next_two (l : List Iv) (v : Value) (x : Nat) (w : World) (hl : RdR 0 w.heap.size w v l) :
    Calls Tryz.prog 217 #[v, .int .u64 x] w fun e w' => ∃ (n : Nat) (m : Bool), e = .returned (.tuple #[.int .u64 n, .bool m]) ∧ Hid (nxt l x = if m = true then some n else none) ∧ Below w.heap.size w w' :=
  (next_any l v x w hl).mono fun e w' ⟨he, hb⟩ => by
    cases h : nxt l x with
    | none => exact ⟨0, false, by rw [he, h]; rfl, rfl, hb⟩
    | some y => exact ⟨y, true, by rw [he, h]; rfl, rfl, hb⟩
theorem take_union (p q : Bool) (w : World) : Calls Tryz.prog 139 #[.agg #[.bool p, .bool q]] w fun e w' => e = .returned (.bool (p || q)) ∧ Below w.heap.size w w' := by
  cases p <;> cases q <;>
    (go_enter Tryz.func139, Tryz.ntmps139
     go_wp2
     go_ret
     exact ⟨rfl, (Below.refl _ _).alloc (Nat.le_refl _) _⟩)
theorem take_minus (p q : Bool) (w : World) : Calls Tryz.prog 203 #[.agg #[.bool p, .bool q]] w fun e w' => e = .returned (.bool (p && !q)) ∧ Below w.heap.size w w' := by
  cases p <;> cases q <;>
    (go_enter Tryz.func203, Tryz.ntmps203
     go_wp2
     go_ret
     exact ⟨rfl, (Below.refl _ _).alloc (Nat.le_refl _) _⟩)
theorem pieces_calls (a1 a2 : Option Addr) (n1 n2 c1 c2 : Nat) (w : World) : Calls Tryz.prog 185 #[.slice a1 n1 c1, .slice a2 n2 c2] w fun e w' =>
    e = .returned (.func (.func 216) #[] #[.pointer (some ⟨w.heap.size, 0, none⟩), .pointer (some ⟨w.heap.size + 1, 0, none⟩)]) ∧
      w' = (w.alloc (.cells #[.slice a1 n1 c1] 32)).alloc (.cells #[.slice a2 n2 c2] 32) := by
  go_enter Tryz.func185, Tryz.ntmps185
  go_wp2
  go_ret
  exact ⟨rfl, rfl⟩
end Go.Proofs.YtjmhmeadcphfmaaGreatDoor
