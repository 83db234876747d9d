/- A function keeps its contract if what is asked of its text holds; and what a contract says of the machine. No condition. -/
import Derived.Test.YtcedofkenfddkaaDoorPc
namespace Go.Proofs.YtcedofkenfddkaaDoor
set_option linter.unusedVariables false
set_option linter.unusedSimpArgs false
open Go.RowKit
variable {P : Program}

def enumP : Nat → List PV → List (Nat × PV)
  | _, [] => []
  | k, p :: ps => (k, p) :: enumP (k + 1) ps
theorem lkp_enum : ∀ (ps : List PV) (k i : Nat), lkp (enumP k ps) i = if k ≤ i then ps.getD (i - k) .und else .und
  | [], k, i => by simp [enumP, lkp]
  | p :: ps, k, i => by
    simp only [enumP, lkp]
    by_cases h : k = i
    · subst h; simp
    · rw [if_neg h, lkp_enum ps (k + 1) i]
      by_cases h2 : k + 1 ≤ i
      · rw [if_pos h2, if_pos (by omega)]
        obtain ⟨d, hd⟩ : ∃ d, i - k = d + 1 := ⟨i - k - 1, by omega⟩
        rw [hd, show i - (k + 1) = d from by omega]
        rfl
      · rw [if_neg h2, if_neg (by omega)]
def PV.resD : PV → Bool
  | .agg cs => allD cs
  | p => p.isD
def tupV : List Value → Value
  | [u] => u
  | us => .tuple us.toArray
/-- Where a result lies: in a slot, or in a variable of the call's own (whether a struct, its cells). -/
inductive RV where
  | t (i : Nat)
  | c (i : Nat) (ag : Bool) (n : Nat)
def RV.get (s : PS) : RV → Option PV
  | .t i => some (s.get i)
  | .c i ag n => match s.get i with
    | .bx j o => match s.b[j]? with
      | some cs => match ag with
        | true => if o + n ≤ cs.length then some (.agg ((cs.drop o).take n)) else none
        | false => cs[o]?
      | none => none
    | _ => none
def rvs (s : PS) : List RV → Option (List PV)
  | [] => some []
  | r :: l => (r.get s).bind fun p => (rvs s l).map fun ps => p :: ps
/-- What a function returns. -/
def RetOk (rs : List RV) (s : PS) (r : PV) : Prop := match rs with
  | [.t t] => SubP 0 (s.get t) r
  | [x] => match x.get s with
    | some p => p.resD = true ∧ SubP 0 p.sh r ∧ r.own = none
    | none => False
  | rs => match rvs s rs with
    | some ps => ps.all PV.resD = true ∧ SubP 0 (.tup (ps.map PV.sh)) r
    | none => False
def postF (rs : List RV) (r : PV) : PX → PS → Prop
  | .x _, _ => False
  | _, s => RetOk rs s r
def compR (P : Program) : ResultVar → Option RV
  | .tmp t => some (.t t)
  | .cell a t => (shp P t).bind fun (ag, n) => if ag || n == 1 then some (.c a ag n) else none
def compRs (P : Program) : List ResultVar → Option (List RV)
  | [] => some []
  | r :: l => (compR P r).bind fun x => (compRs P l).map fun xs => x :: xs
section
variable {B : Bs} {nt : Nat} {g : Gh} {s : PS} {a : Act} {w : World}
def resRun (tmps : Array Value) : ResultVar → Sem Value
  | .tmp t => pure (tmps.getD t undef)
  | .cell a t => do loadVar t (← asAddr (tmps.getD a undef))
/-- A result's value. -/
theorem rv_one (h : R B g s (slt a) w) {rv : ResultVar} {x : RV} {p : PV} (hc : compR P rv = some x) (hg : x.get s = some p) (hd : p.resD = true) : ∃ u, (resRun a.tmps rv).run P w = .ok u w ∧ Dat g.D w u p.sh := by
  cases rv with
  | tmp t =>
    cases hc
    simp only [RV.get, Option.some.injEq] at hg
    subst hg
    have hD : (s.get t).isD = true := by
      revert hd
      cases s.get t <;> intro hd <;> first | exact hd | rfl
    exact ⟨_, rfl, ((h.slots t).data hD).sh⟩
  | cell i t =>
    simp only [compR, Option.bind_eq_some_iff] at hc
    obtain ⟨⟨ag, n⟩, hs, hc⟩ := hc
    simp only at hc
    split at hc
    · rename_i hcond
      cases hc
      simp only [RV.get] at hg
      split at hg
      · rename_i j o e
        have hr := h.slots i
        rw [e] at hr
        obtain ⟨hj, e1⟩ := hr.inv_bx
        split at hg
        · rename_i cs hcs
          obtain ⟨hW, vs, e', hv, hz, hb⟩ := h.boxes j cs hcs
          have hcell : ∀ k, k < cs.length → w.cell? ⟨g.ρ j, 0 + k, none⟩ = some (vs.getD k undef) ∧ (vs.getD k undef).oneCell' = true := fun k hk => by
            refine ⟨?_, (hb k _ (List.getElem?_eq_getElem hk)).2⟩
            simp only [World.cell?, hv]
            simp [show k < vs.size by omega]
          have hq : qAt cs o ag n fun y => y = p := by
            unfold qAt
            cases ag with
            | true =>
              simp only at hg ⊢
              split at hg
              · rename_i hle; cases hg; exact ⟨hle, rfl⟩
              · cases hg
            | false =>
              simp only at hg ⊢
              rw [hg]
          have hall : ag = true → allD ((cs.drop o).take n) = true := fun e => by
            subst e
            simp only at hg
            split at hg
            · cases hg; exact hd
            · cases hg
          obtain ⟨u, p', g1, g2, rfl⟩ := qAt_load (P := P) (D := g.D) (ρ := g.ρ) (nb := s.b.length) hs hq hcell (fun k q hq => (hb k q hq).1) hall
          refine ⟨u, ?_, (g2.data ?_).sh⟩
          · rw [Nat.zero_add] at g1
            have e2 : a.tmps.getD i undef = .pointer (some ⟨g.ρ j, o, none⟩) := e1
            simp only [resRun, e2, asAddr, Sem.run_bind, Sem.run_pure, Result.andThen_ok, g1]
          · revert hd
            cases p' <;> intro hd <;> first | exact hd | rfl
        · cases hg
      · cases hg
    · cases hc
theorem rv_all (h : R B g s (slt a) w) : ∀ {l : List ResultVar} {rs : List RV} {ps : List PV}, compRs P l = some rs → rvs s rs = some ps → ps.all PV.resD = true →
    ∃ us : List Value, (l.mapM (resRun a.tmps)).run P w = .ok us w ∧ us.length = ps.length ∧ l.length = rs.length ∧ ∀ (i : Nat) p, ps[i]? = some p → Dat g.D w (us.getD i undef) p.sh
  | [], rs, ps, hc, hp, _ => by cases hc; cases hp; exact ⟨[], rfl, rfl, rfl, fun i p h => by simp at h⟩
  | r :: l, rs, ps, hc, hp, hd => by
    simp only [compRs, Option.bind_eq_some_iff, Option.map_eq_some_iff] at hc
    obtain ⟨x, hx, xs, hxs, rfl⟩ := hc
    simp only [rvs, Option.bind_eq_some_iff, Option.map_eq_some_iff] at hp
    obtain ⟨p, hp, qs, hq, rfl⟩ := hp
    simp only [List.all_cons, Bool.and_eq_true] at hd
    obtain ⟨u, h1, h2⟩ := rv_one h hx hp hd.1
    obtain ⟨us, h3, h4, h5, h6⟩ := rv_all h hxs hq hd.2
    refine ⟨u :: us, by simp only [List.mapM_cons, Sem.run_bind, h1, Result.andThen_ok, h3, Sem.run_pure], by simp [h4], by simp [h5], fun i q hi => ?_⟩
    cases i with
    | zero => simp at hi; subst hi; exact h2
    | succ i => simpa using h6 i q (by simpa using hi)
theorem results_eq (fn : Func) (tmps : Array Value) {us : List Value} (h : (fn.results.toList.mapM (resRun tmps)).run P w = .ok us w) : (results fn tmps).run P w = .ok (tupV us) w := by
  unfold results
  rw [Array.mapM_eq_mapM_toList]
  simp only [Sem.run_bind, Sem.run_map]
  erw [h]
  simp only [Result.andThen_ok, Sem.run_pure]
  match us with
  | [] => rfl
  | [u] => rfl
  | u :: v :: l => simp [tupV]
end
theorem dat0 {D : Nat → Nat → Prop} {ρ : Nat → Nat} {w : World} {u : Value} {p : PV} (h : Rel D ρ 0 w u p) : Dat D w u p := by
  have h1 : ∀ {u p}, Rel1 D ρ 0 w u p → Dat D w u p := fun h => by
    rcases h with h | ⟨i, o, _, hi, _⟩
    · exact h
    · omega
  rcases h with h | ⟨f, va, vb, fs, cs, rfl, rfl, h3, h4, h5, h6⟩
  · exact h1 h
  · exact .fn f va vb fs cs h3 h4 (fun i p hp => h1 (h5 i p hp)) (fun i p hp => h1 (h6 i p hp))
theorem enters_fn {f : FuncId} {fn : Func} {c : Code} (hf : P.funcs[f]? = some fn) (hn : (fn.name == "runtime.NumGoroutine") = false) (hb : fn.body = some c) : ∀ args w, (callFunc f args).run P w = .ok (.enter f args) w := by
  intro args w
  have hn' : ¬ fn.name = "runtime.NumGoroutine" := by simpa using hn
  simp [callFunc, hf, hn', hb]
theorem cn_of {f : FuncId} {fn : Func} {c : Code} {pc : PC} (ms : List Nat) (hf : P.funcs[f]? = some fn) (hn : (fn.name == "runtime.NumGoroutine") = false) (hb : fn.body = some c) (rs : List RV) (hr : compRs P fn.results.toList = some rs) (nt : Nat) (hnt : fn.ntmps = nt) (hc : compC P nt ms c = some pc) {ps : List PV} {r : PV}
    (hps : ∀ p ∈ ps, p.own = none) (hl : ps.length ≤ nt) (hvc : pW P nt True pc (postF rs r) ⟨enumP 0 ps, []⟩) : Cn P f ps r := by
  refine ⟨enters_fn hf hn hb, fun D w vs hgl hD hsz hd => calls_of_wp hf hb ?_⟩
  subst hnt
  obtain ⟨a, ha⟩ : ∃ a : Act, ({ tmps := vs ++ Array.replicate (fn.ntmps - vs.size) undef, defers := [] } : Act) = a := ⟨_, rfl⟩
  rw [ha]
  have hR : RA ⟨w, D, fun _ => False, hgl⟩ fn.ntmps ⟨D, fun _ => 0⟩ ⟨enumP 0 ps, []⟩ a w := by
    have hget : ∀ t, (⟨enumP 0 ps, []⟩ : PS).get t = ps.getD t .und := fun t => by
      show lkp (enumP 0 ps) t = _
      rw [lkp_enum]; simp
    have hown : ∀ u p, Slot ⟨D, fun _ => 0⟩ ⟨enumP 0 ps, []⟩ (slt a) w u p → p.own = none := by
      rintro u p (⟨t, rfl, rfl⟩ | ⟨i, j, cs, h1, _⟩)
      · rw [hget, List.getD_eq_getElem?_getD]
        cases h : ps[t]? with
        | none => rfl
        | some p => exact hps p (List.mem_of_getElem? h)
      · simp at h1
    refine ⟨⟨fun t => ?_, fun i cs h => by simp at h, fun i j h => by simp at h, fun u p h => ownOk_none (hown u p h), fun u p u' p' b h _ ho => absurd (hown u p h) ho, fun u p b i h ho => absurd (hown u p h) ho, hD, fun i h => by simp at h, ⟨rfl, rfl, rfl, Nat.le_refl _, fun _ _ _ => rfl, fun _ _ h => h, fun _ _ _ _ h => h, fun _ _ h => .inl h, hD⟩⟩, by rw [← ha], by rw [← ha]; simp; omega⟩
    rw [hget, List.getD_eq_getElem?_getD]
    cases h : ps[t]? with
    | none => exact .dat (.und _)
    | some p =>
      have := hd t p h
      have ht : t < vs.size := by rw [hsz]; exact (List.getElem?_eq_some_iff.1 h).1
      have e : slt a t = vs.getD t undef := by
        rw [← ha]
        simp [slt, Array.getElem?_append_left ht]
      rw [e]; exact .dat this
  refine wp_mono (pW_sound (B := ⟨w, D, fun _ => False, hgl⟩) (fun _ _ h => h) c pc hc _ _ _ a w hvc hR) fun e a' w' he => ?_
  have fin : ∀ s g, RA ⟨w, D, fun _ => False, hgl⟩ fn.ntmps g s a' w' → RetOk rs s r → bodyPost P fn (fun e w' => ∃ v D', e = .returned v ∧ Below w.heap.size w w' ∧ (∀ b o, D b o → D' b o) ∧ (∀ b o, D' b o → D b o ∨ w.heap.size ≤ b) ∧ (∀ b o, D' b o → b < w'.heap.size) ∧ Dat D' w' v r ∧ OwnOk D' (fun k => w.heap.size ≤ k) w' v r) .ret a' w' := by
    intro s g h hret
    obtain ⟨hR, hdf, _⟩ := h
    have hbel : Below w.heap.size w w' := ⟨hR.fr.os, hR.fr.tape, hR.fr.output, hR.fr.size, fun k hk => hR.fr.block k hk fun h => h⟩
    have hnew : ∀ b o, g.D b o → D b o ∨ w.heap.size ≤ b := fun b o h => by
      rcases hR.fr.new b o h with h' | h' | h'
      · exact .inl h'
      · exact .inr h'
      · exact h'.elim
    have many : ∀ ps', rvs s rs = some ps' → ps'.all PV.resD = true → ∃ us : List Value, (results fn a'.tmps).run P w' = .ok (tupV us) w' ∧ us.length = ps'.length ∧ ∀ (i : Nat) p, ps'[i]? = some p → Dat g.D w' (us.getD i undef) p.sh := fun ps' h1 h2 => by
      obtain ⟨us, k1, k2, _, k3⟩ := rv_all hR hr h1 h2
      exact ⟨us, results_eq fn _ k1, k2, k3⟩
    unfold RetOk at hret
    split at hret
    · rename_i t
      have hres : fn.results.toList = [.tmp t] := by
        revert hr
        cases fn.results.toList with
        | nil => intro h; cases h
        | cons x l =>
          intro h
          simp only [compRs, Option.bind_eq_some_iff, Option.map_eq_some_iff] at h
          obtain ⟨y, hy, ys, hys, e⟩ := h
          cases e
          cases l with
          | nil =>
            cases x with
            | tmp t => cases hy; rfl
            | cell a t =>
              simp only [compR, Option.bind_eq_some_iff] at hy
              obtain ⟨⟨ag, n⟩, _, hy⟩ := hy
              simp only at hy
              split at hy <;> cases hy
          | cons z l =>
            simp only [compRs, Option.bind_eq_some_iff, Option.map_eq_some_iff] at hys
            obtain ⟨_, _, _, _, e⟩ := hys
            cases e
      have hrun := results_eq (P := P) (w := w') fn a'.tmps (us := [a'.tmps.getD t undef]) (by rw [hres]; rfl)
      refine ⟨hdf, _, hrun, _, g.D, rfl, hbel, hR.fr.d0, hnew, hR.dlt, dat0 (SubP.rel hret (hR.slots t)), ?_⟩
      by_cases ho : r.own = none
      · exact ownOk_none ho
      · rcases SubP.own hret (hR.slots t) ho with rfl | ⟨_, hk⟩
        · have := hR.owns _ _ (hR.slot t)
          revert this ho
          cases s.get t <;> try (intros; trivial)
          rename_i es ow
          cases ow <;> try (intros; trivial)
          intro _ h
          rcases h with hn | ⟨gg, cap, cur, e, h1, hW, h2⟩
          · exact .inl hn
          · exact .inr ⟨gg, cap, cur, e, h1, hW.resolve_right (fun h => h), h2⟩
        · exact hk _ _ _
    · rename_i x _
      split at hret
      · rename_i p hp
        obtain ⟨h1, h2, h3⟩ := hret
        obtain ⟨us, k1, k2, k3⟩ := many [p] (by simp [rvs, hp]) (by simpa using h1)
        match us, k2 with
        | [u], _ =>
          refine ⟨hdf, _, k1, _, g.D, rfl, hbel, hR.fr.d0, hnew, hR.dlt, ?_, ownOk_none h3⟩
          exact dat0 (ρ := g.ρ) (SubP.rel h2 (nb := 0) (.dat (k3 0 p rfl)))
      · exact hret.elim
    · split at hret
      · rename_i hne1 hne2 _ ps' hp
        obtain ⟨h1, h2⟩ := hret
        obtain ⟨us, k1, k2, k3⟩ := many ps' hp h1
        have hlen : us.length ≠ 1 := by
          intro e
          rw [k2] at e
          have hl2 : ∀ {rs ps'}, rvs s rs = some ps' → ps'.length = rs.length := by
            intro rs
            induction rs with
            | nil => intro ps' h; cases h; rfl
            | cons x l ih =>
              intro ps' h
              simp only [rvs, Option.bind_eq_some_iff, Option.map_eq_some_iff] at h
              obtain ⟨p, _, qs, hq, rfl⟩ := h
              simp [ih hq]
          rw [hl2 hp] at e
          match rs, e with
          | [x], _ => exact hne2 x rfl
        have ev : tupV us = .tuple us.toArray := by
          revert hlen
          match us with
          | [] => intro _; rfl
          | [u] => intro h; exact absurd rfl h
          | u :: v :: l => intro _; rfl
        rw [ev] at k1
        have : r.own = none := by cases h2 <;> rfl
        refine ⟨hdf, _, k1, _, g.D, rfl, hbel, hR.fr.d0, hnew, hR.dlt, ?_, ownOk_none this⟩
        refine dat0 (ρ := g.ρ) (SubP.rel h2 (nb := 0) (.dat (.tup _ _ (by simp [k2]) fun i p hp => ?_)))
        simp only [List.getElem?_map, Option.map_eq_some_iff] at hp
        obtain ⟨q, hq, rfl⟩ := hp
        have := k3 i q hq
        simpa [List.getD_eq_getElem?_getD] using this
      · exact hret.elim
  cases e with
  | normal => obtain ⟨s, g, h1, h2⟩ := he; exact fin s g h1 h2
  | ret => obtain ⟨s, g, h1, h2⟩ := he; exact fin s g h1 h2
  | exit id => obtain ⟨s, g, h1, h2⟩ := he; exact h2.elim
  | goto l => exact he.elim
  | panic ch => exact he.elim
  | outgrown => exact he.elim

/-! ### A function that takes over a slice -/
/-- What it returns: the successor, whatever its name. -/
def postO (t : Nat) (rs : List (List PV)) (sz : Nat) : PX → PS → Prop
  | .x _, _ => False
  | _, s => match s.get t with
    | .sl es (.r _ sz') => es = rs ∧ sz' = sz
    | _ => False
theorem ocn_of {f : FuncId} {fn : Func} {c : Code} {pc : PC} (ms : List Nat) (hf : P.funcs[f]? = some fn) (hn : (fn.name == "runtime.NumGoroutine") = false) (hb : fn.body = some c) (t : Nat) (hr : compRs P fn.results.toList = some [.t t]) (nt : Nat) (hnt : fn.ntmps = nt) (hc : compC P nt ms c = some pc) {es rs : List (List PV)} {sz : Nat} {ps : List PV}
    (hps : ∀ p ∈ ps, p.own = none) (hl : ps.length + 1 ≤ nt) (hvc : pW P nt False pc (postO t rs sz) ⟨enumP 0 (.sl es (.r 0 sz) :: ps), []⟩) : OCn P f es sz ps rs := by
  refine ⟨enters_fn hf hn hb, fun D w v vs hgl hD hsz hd hv hvo => calls_of_wp hf hb ?_⟩
  subst hnt
  obtain ⟨a, ha⟩ : ∃ a : Act, ({ tmps := (#[v] ++ vs) ++ Array.replicate (fn.ntmps - (#[v] ++ vs).size) undef, defers := [] } : Act) = a := ⟨_, rfl⟩
  rw [ha]
  have hget : ∀ i, (⟨enumP 0 (.sl es (.r 0 sz) :: ps), []⟩ : PS).get i = (PV.sl es (.r 0 sz) :: ps).getD i .und := fun i => by
    show lkp (enumP 0 _) i = _
    rw [lkp_enum]; simp
  have hslt0 : slt a 0 = v := by
    rw [← ha]
    simp only [slt, Array.getD_eq_getD_getElem?]
    rw [Array.getElem?_append_left (by simp; omega), Array.getElem?_append_left (by simp)]
    rfl
  have hs : ∀ u p, Slot ⟨D, fun _ => 0⟩ ⟨enumP 0 (.sl es (.r 0 sz) :: ps), []⟩ (slt a) w u p → p.own ≠ none → u = v ∧ p = .sl es (.r 0 sz) := by
    rintro u p (⟨i, rfl, rfl⟩ | ⟨i, j, cs, h1, _⟩) ho
    · rw [hget] at ho ⊢
      cases i with
      | zero => exact ⟨hslt0, rfl⟩
      | succ i =>
        exfalso
        simp only [List.getD_eq_getElem?_getD, List.getElem?_cons_succ] at ho
        cases h : ps[i]? with
        | none => rw [h] at ho; exact ho rfl
        | some p => rw [h] at ho; exact ho (hps p (List.mem_of_getElem? h))
    · simp at h1
  have hvo' : OwnOk D (Bs.W ⟨w, D, fun k => blk v = some k, hgl⟩) w v (.sl es (.r 0 sz)) := by
    rcases hvo with hn | ⟨gg, cap, cur, e, h1, h2, h3⟩
    · exact .inl hn
    · cases cap with
      | zero =>
        by_cases hes : es = []
        · subst hes; exact .inl ⟨_, by rw [h1]; rfl, rfl⟩
        · have := sl_cap (ρ := fun _ => 0) (nb := 0) (.dat (h1 ▸ hv))
          exact absurd (List.eq_nil_of_length_eq_zero (Nat.le_zero.1 this.1)) hes
      | succ cap => exact .inr ⟨gg, _, cur, e, h1, .inr (by rw [h1]; rfl), h3⟩
  have hR : RA ⟨w, D, fun k => blk v = some k, hgl⟩ fn.ntmps ⟨D, fun _ => 0⟩ ⟨enumP 0 (.sl es (.r 0 sz) :: ps), []⟩ a w := by
    refine ⟨⟨fun i => ?_, fun i cs h => by simp at h, fun i j h => by simp at h, fun u p h => ?_, fun u p u' p' b h h' ho ho' _ _ => by rw [(hs u p h ho).2, (hs u' p' h' ho').2], fun u p b i h ho _ hi => by simp at hi, hD, fun i h => by simp at h, ⟨rfl, rfl, rfl, Nat.le_refl _, fun _ _ _ => rfl, fun _ _ h => h, fun _ _ _ _ h => h, fun _ _ h => .inl h, hD⟩⟩, by rw [← ha], by rw [← ha]; simp; omega⟩
    · rw [hget]
      cases i with
      | zero => rw [hslt0]; exact .dat (hv.owned _ _)
      | succ i =>
        simp only [List.getD_eq_getElem?_getD, List.getElem?_cons_succ]
        cases h : ps[i]? with
        | none => exact .dat (.und _)
        | some p =>
          have := hd i p h
          have ht : i < vs.size := by rw [hsz]; exact (List.getElem?_eq_some_iff.1 h).1
          have e : slt a (i + 1) = vs.getD i undef := by
            rw [← ha]
            simp only [slt, Array.getD_eq_getD_getElem?]
            rw [Array.getElem?_append_left (by simp; omega), Array.getElem?_append_right (by simp)]
            simp
          rw [e]; exact .dat this
    · by_cases ho : p.own = none
      · exact ownOk_none ho
      · obtain ⟨rfl, rfl⟩ := hs u p h ho
        exact hvo'
  refine wp_mono (pW_sound (B := ⟨w, D, fun k => blk v = some k, hgl⟩) (fun h => h.elim) c pc hc _ _ _ a w hvc hR) fun e a' w' he => ?_
  have hres : fn.results.toList = [.tmp t] := by
    revert hr
    cases fn.results.toList with
    | nil => intro h; cases h
    | cons x l =>
      intro h
      simp only [compRs, Option.bind_eq_some_iff, Option.map_eq_some_iff] at h
      obtain ⟨y, hy, ys, hys, e⟩ := h
      cases e
      cases l with
      | nil =>
        cases x with
        | tmp t => cases hy; rfl
        | cell a t =>
          simp only [compR, Option.bind_eq_some_iff] at hy
          obtain ⟨⟨ag, n⟩, _, hy⟩ := hy
          simp only at hy
          split at hy <;> cases hy
      | cons z l =>
        simp only [compRs, Option.bind_eq_some_iff, Option.map_eq_some_iff] at hys
        obtain ⟨_, _, _, _, e⟩ := hys
        cases e
  have fin : ∀ s g, RA ⟨w, D, fun k => blk v = some k, hgl⟩ fn.ntmps g s a' w' → (match s.get t with | .sl es (.r _ sz') => es = rs ∧ sz' = sz | _ => False) → bodyPost P fn (fun e w' => ∃ u D', e = .returned u ∧ (w'.os = w.os ∧ w'.tape = w.tape ∧ w'.output = w.output ∧ w.heap.size ≤ w'.heap.size) ∧ (∀ k, k < w.heap.size → blk v ≠ some k → w'.heap[k]? = w.heap[k]?) ∧
      (∀ b o y, D b o → w.cell? ⟨b, o, none⟩ = some y → w'.cell? ⟨b, o, none⟩ = some y) ∧ (∀ b o, D b o → D' b o) ∧ (∀ b o, D' b o → D b o ∨ w.heap.size ≤ b ∨ blk v = some b) ∧ (∀ b o, D' b o → b < w'.heap.size) ∧
      Dat D' w' u (.sl rs .sh) ∧ OwnOk D' (fun k => w.heap.size ≤ k ∨ blk v = some k) w' u (.sl rs (.r 0 sz))) .ret a' w' := by
    intro s g h hret
    obtain ⟨hZ, hdf, _⟩ := h
    split at hret
    · rename_i es' m sz' e
      obtain ⟨rfl, rfl⟩ := hret
      have hrun := results_eq (P := P) (w := w') fn a'.tmps (us := [a'.tmps.getD t undef]) (by rw [hres]; rfl)
      have h1 := hZ.slots t
      have h2 := hZ.owns _ _ (hZ.slot t)
      rw [e] at h1 h2
      have hd1 : Dat g.D w' (slt a' t) (.sl es' .sh) := by
        rcases h1 with (hr | ⟨_, _, hh, _⟩) | ⟨_, _, _, _, _, hh, _⟩
        · exact hr.sh
        · cases hh
        · cases hh
      refine ⟨hdf, _, hrun, _, g.D, rfl, ⟨hZ.fr.os, hZ.fr.tape, hZ.fr.output, hZ.fr.size⟩, fun k hk hn => hZ.fr.block k hk hn, fun b o y hD hy => hZ.fr.cell b o y hD hy, hZ.fr.d0, fun b o hD => hZ.fr.new b o hD, hZ.dlt, hd1, ?_⟩
      rcases h2 with hn | ⟨gg, cap, cur, e, q1, q2, q3⟩
      · exact .inl hn
      · exact .inr ⟨gg, cap, cur, e, q1, q2, q3⟩
    · exact hret.elim
  cases e with
  | normal => obtain ⟨s, g, h1, h2⟩ := he; exact fin s g h1 h2
  | ret => obtain ⟨s, g, h1, h2⟩ := he; exact fin s g h1 h2
  | exit id => obtain ⟨s, g, h1, h2⟩ := he; exact h2.elim
  | goto l => exact he.elim
  | panic ch => exact he.elim
  | outgrown => exact he.elim

/-! ### By the function's own text -/
def codeOf (fn : Func) : Code := match fn.body with
  | some c => c
  | none => .skip
def okFn (P : Program) (fn : Func) (ms : List Nat) (n : Nat) : Bool := !(fn.name == "runtime.NumGoroutine") && fn.body.isSome && (compRs P fn.results.toList).isSome && (compC P fn.ntmps ms (codeOf fn)).isSome && decide (n ≤ fn.ntmps)
def pcOf (P : Program) (fn : Func) (ms : List Nat) : PC := (compC P fn.ntmps ms (codeOf fn)).getD .sk
def rsOf (P : Program) (fn : Func) : List RV := (compRs P fn.results.toList).getD []
theorem cn_go {f : FuncId} {fn : Func} (hf : P.funcs[f]? = some fn) (ms : List Nat) {ps : List PV} {r : PV} (n : Nat) (hok : okFn P fn ms n = true) (hl : ps.length = n) (hps : ∀ p ∈ ps, p.own = none) (hvc : pW P fn.ntmps True (pcOf P fn ms) (postF (rsOf P fn) r) ⟨enumP 0 ps, []⟩) : Cn P f ps r := by
  unfold okFn at hok
  simp only [Bool.and_eq_true, Bool.not_eq_true', decide_eq_true_eq] at hok
  obtain ⟨⟨⟨⟨h1, h2⟩, h3⟩, h4⟩, h5⟩ := hok
  obtain ⟨c, hc⟩ := Option.isSome_iff_exists.1 h2
  obtain ⟨rs, hrs⟩ := Option.isSome_iff_exists.1 h3
  obtain ⟨pc, hpc⟩ := Option.isSome_iff_exists.1 h4
  unfold pcOf rsOf at hvc
  rw [hpc, hrs] at hvc
  have e : codeOf fn = c := by unfold codeOf; rw [hc]
  rw [e] at hpc
  exact cn_of ms hf h1 hc rs hrs fn.ntmps rfl hpc hps (by omega) hvc
theorem ocn_go {f : FuncId} {fn : Func} (hf : P.funcs[f]? = some fn) (ms : List Nat) {es rs : List (List PV)} {sz : Nat} {ps : List PV} (n t : Nat) (hok : okFn P fn ms n = true) (hrs : compRs P fn.results.toList = some [.t t]) (hl : ps.length + 1 = n) (hps : ∀ p ∈ ps, p.own = none) (hvc : pW P fn.ntmps False (pcOf P fn ms) (postO t rs sz) ⟨enumP 0 (.sl es (.r 0 sz) :: ps), []⟩) : OCn P f es sz ps rs := by
  unfold okFn at hok
  simp only [Bool.and_eq_true, Bool.not_eq_true', decide_eq_true_eq] at hok
  obtain ⟨⟨⟨⟨h1, h2⟩, h3⟩, h4⟩, h5⟩ := hok
  obtain ⟨c, hc⟩ := Option.isSome_iff_exists.1 h2
  obtain ⟨pc, hpc⟩ := Option.isSome_iff_exists.1 h4
  unfold pcOf at hvc
  rw [hpc] at hvc
  have e : codeOf fn = c := by unfold codeOf; rw [hc]
  rw [e] at hpc
  exact ocn_of ms hf h1 hc t hrs fn.ntmps rfl hpc hps (by omega) hvc
end Go.Proofs.YtcedofkenfddkaaDoor
