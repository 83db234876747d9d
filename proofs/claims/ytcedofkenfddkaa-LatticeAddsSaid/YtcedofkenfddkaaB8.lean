/- Texts of this claim, bound together: Q8 Rde RefA Num Pf Q10 Nun Pb Q11 Rk. -/
import Derived.BigQuiet
import Derived.Deep.QuietTactic
import Derived.Deep.LoopGhost
import Derived.Deep.DeepCutAuto
import Derived.Deep.CutBlock
import Derived.Test.YtcedofkenfddkaaB7
/- The operations on entries: what their results know, and the laws of chapter 8, without program. No condition. -/
namespace Go.Proofs.Ytcedofkenfddkaa
set_option linter.unusedVariables false
set_option linter.unusedSimpArgs false
variable {f : Bool → Bool → Bool} {a b c : En}
/-- What is known by an entry with another counter. -/
def below (c : Nat) : List Iv := if c = 0 then [] else [⟨0, c - 1⟩]
/-! ### the algebra -/
end Go.Proofs.Ytcedofkenfddkaa
/- A vector's reading in memory: the cells. No condition. -/
namespace Go.Proofs.Ytcedofkenfddkaa
set_option linter.unusedVariables false
set_option linter.unusedSimpArgs false
open Go.RowKit
set_option maxRecDepth 100000
/-- The cells of an entry. -/
def rdE (n0 : Nat) (w : World) (b o : Nat) (e : En) : Prop := w.cell? ⟨b, o, none⟩ = some (.int .u64 e.rep) ∧ w.cell? ⟨b, o + 1, none⟩ = some (.int .u64 e.max) ∧ (∃ hv, w.cell? ⟨b, o + 2, none⟩ = some hv ∧ RdR 0 n0 w hv e.holes) ∧ e.rep < M64 ∧ e.max < M64
def RdV (n0 : Nat) (w : World) (v : Value) (l : List En) : Prop := RdSl 3 (rdE n0) 0 n0 w v l
theorem RdV.keep {n0 : Nat} {w w' : World} {v : Value} {l : List En} (h : RdV n0 w v l) (hb : ∀ k, k < n0 → w'.heap[k]? = w.heap[k]?) : RdV n0 w' v l :=
  RdSl.keep h (Nat.le_refl _) (Nat.le_refl _) fun b o x _ h2 ⟨c0, c1, ⟨hv, c2, c3⟩, c4⟩ =>
    ⟨(World.cell?_of_block (a := ⟨b, o, none⟩) (hb b h2)).trans c0, (World.cell?_of_block (a := ⟨b, o + 1, none⟩) (hb b h2)).trans c1, ⟨hv, (World.cell?_of_block (a := ⟨b, o + 2, none⟩) (hb b h2)).trans c2, c3.keep (Nat.le_refl _) (Nat.le_refl _) fun b _ h => hb b h⟩, c4⟩
end Go.Proofs.Ytcedofkenfddkaa
/- The contracts of the references of the layers 3 and 4: Right, Relate, Check, Same. No condition but that the numbers are of 64 bits. -/
namespace Go.Proofs.Ytcedofkenfddkaa
set_option linter.unusedVariables false
set_option linter.unusedSimpArgs false
open Go.RowKit



/-- The error and the index of a list's check. -/
def chkL : Option Iv → List Iv → Nat → Nat × Int
  | _, [], _ => (0, -1)
  | p, s :: l, i => if s.lo ≤ s.hi then (if (match p with | none => 0 | some q => relate q s) = 0 then chkL (some s) l (i + 1) else (3, (i : Int))) else (2, (i : Int))
def chk (l : List Iv) : Nat × Int := chkL none l 0
theorem chkL_nf : ∀ (l : List Iv) (p : Option Iv) (i : Nat), (∀ s ∈ l, s.hi < M64) → ((chkL p l i).1 = 0 ↔ match p with | none => NF 0 l | some q => (∀ s ∈ l, s.lo ≤ s.hi → relate q s = 0 ∨ True) ∧ (l = [] ∨ ∃ s r, l = s :: r ∧ s.lo ≤ s.hi ∧ relate q s = 0 ∧ NF (s.hi + 2) r))
  | [], p, i, _ => by cases p <;> simp [chkL, NF]
  | s :: l, p, i, hb => by
    have ih := chkL_nf l (some s) (i + 1) (fun t ht => hb t (by simp [ht]))
    have hs := hb s (by simp)
    have key : (chkL (some s) l (i + 1)).1 = 0 ↔ NF (s.hi + 2) l := by
      rw [ih]
      constructor
      · rintro ⟨_, rfl | ⟨t, r, rfl, h1, h2, h3⟩⟩
        · trivial
        · refine ⟨?_, h1, hb t (by simp), h3⟩
          unfold relate at h2
          split at h2
          · split at h2
            · cases h2
            · omega
          · split at h2
            · split at h2 <;> cases h2
            · cases h2
      · intro h
        refine ⟨fun _ _ _ => .inr trivial, ?_⟩
        cases l with
        | nil => exact .inl rfl
        | cons t r =>
          have := h.1
          exact .inr ⟨t, r, rfl, h.2.1, by unfold relate; rw [if_pos (by omega), if_neg (by omega)], h.2.2.2⟩
    unfold chkL
    by_cases h1 : s.lo ≤ s.hi
    · rw [if_pos h1]
      cases p with
      | none =>
        simp only [if_true]
        rw [key]
        exact ⟨fun h => ⟨Nat.zero_le _, h1, hs, h⟩, fun h => h.2.2.2⟩
      | some q =>
        simp only
        by_cases h2 : relate q s = 0
        · rw [if_pos h2, key]
          exact ⟨fun h => ⟨fun _ _ _ => .inr trivial, .inr ⟨s, l, rfl, h1, h2, h⟩⟩, fun h => by
            rcases h.2 with h | ⟨t, r, e, _, _, h⟩
            · cases h
            · cases e; exact h⟩
        · rw [if_neg h2]
          simp
          intro _ h; exact absurd h h2
    · rw [if_neg h1]
      cases p with
      | none => simp [NF, h1]
      | some q =>
        simp
        intro h; exact absurd h h1
theorem chk_nrm {l : List Iv} (h : ∀ s ∈ l, s.hi < M64) : (chk l).1 = 0 ↔ Nrm l := chkL_nf l none 0 h
theorem chkL_step {l : List Iv} {k : Nat} {p : Option Iv} (h : k < l.length) : chkL p (l.drop k) k = if l[k].lo ≤ l[k].hi then (if (match p with | none => 0 | some q => relate q l[k]) = 0 then chkL (some l[k]) (l.drop (k + 1)) (k + 1) else (3, (k : Int))) else (2, (k : Int)) := by
  rw [List.drop_eq_getElem_cons h]; rfl


end Go.Proofs.Ytcedofkenfddkaa
/- The contract of the closure that vector.numbers returns: it hands over the numbers of a vector, in order. -/
namespace Go.Proofs.Ytcedofkenfddkaa
set_option linter.unusedVariables false
set_option linter.unusedSimpArgs false
open Go.RowKit
set_option maxRecDepth 100000
end Go.Proofs.Ytcedofkenfddkaa
/- A function keeps its contract if what is asked of its text holds; and what a contract says of the machine. No condition. -/
namespace Go.Proofs.Ytcedofkenfddkaa
set_option linter.unusedVariables false
set_option linter.unusedSimpArgs false
open Go.RowKit
variable {P : Program}

def enumP : Nat → List PV → List (Nat × PV)
  | _, [] => []
  | k, p :: ps => (k, p) :: enumP (k + 1) ps
theorem lkp_enum : ∀ (ps : List PV) (k i : Nat), lkp (enumP k ps) i = if k ≤ i then ps.getD (i - k) .und else .und
  | [], k, i => by simp [enumP, lkp]
  | p :: ps, k, i => by
    simp only [enumP, lkp]
    by_cases h : k = i
    · subst h; simp
    · rw [if_neg h, lkp_enum ps (k + 1) i]
      by_cases h2 : k + 1 ≤ i
      · rw [if_pos h2, if_pos (by omega)]
        obtain ⟨d, hd⟩ : ∃ d, i - k = d + 1 := ⟨i - k - 1, by omega⟩
        rw [hd, show i - (k + 1) = d from by omega]
        rfl
      · rw [if_neg h2, if_neg (by omega)]
def PV.resD : PV → Bool
  | .agg cs => allD cs
  | p => p.isD
def tupV : List Value → Value
  | [u] => u
  | us => .tuple us.toArray
/-- Where a result lies: in a slot, or in a variable of the call's own (whether a struct, its cells). -/
inductive RV where
  | t (i : Nat)
  | c (i : Nat) (ag : Bool) (n : Nat)
def RV.get (s : PS) : RV → Option PV
  | .t i => some (s.get i)
  | .c i ag n => match s.get i with
    | .bx j o => match s.b[j]? with
      | some cs => match ag with
        | true => if o + n ≤ cs.length then some (.agg ((cs.drop o).take n)) else none
        | false => cs[o]?
      | none => none
    | _ => none
def rvs (s : PS) : List RV → Option (List PV)
  | [] => some []
  | r :: l => (r.get s).bind fun p => (rvs s l).map fun ps => p :: ps
/-- What a function returns. -/
def RetOk (rs : List RV) (s : PS) (r : PV) : Prop := match rs with
  | [.t t] => SubP 0 (s.get t) r
  | [x] => match x.get s with
    | some p => p.resD = true ∧ SubP 0 p.sh r ∧ r.own = none
    | none => False
  | rs => match rvs s rs with
    | some ps => ps.all PV.resD = true ∧ SubP 0 (.tup (ps.map PV.sh)) r
    | none => False
def postF (rs : List RV) (r : PV) : PX → PS → Prop
  | .x _, _ => False
  | _, s => RetOk rs s r
def compR (P : Program) : ResultVar → Option RV
  | .tmp t => some (.t t)
  | .cell a t => (shp P t).bind fun (ag, n) => if ag || n == 1 then some (.c a ag n) else none
def compRs (P : Program) : List ResultVar → Option (List RV)
  | [] => some []
  | r :: l => (compR P r).bind fun x => (compRs P l).map fun xs => x :: xs
section
variable {B : Bs} {nt : Nat} {g : Gh} {s : PS} {a : Act} {w : World}
def resRun (tmps : Array Value) : ResultVar → Sem Value
  | .tmp t => pure (tmps.getD t undef)
  | .cell a t => do loadVar t (← asAddr (tmps.getD a undef))
/-- A result's value. -/
theorem rv_one (h : R B g s (slt a) w) {rv : ResultVar} {x : RV} {p : PV} (hc : compR P rv = some x) (hg : x.get s = some p) (hd : p.resD = true) : ∃ u, (resRun a.tmps rv).run P w = .ok u w ∧ Dat g.D w u p.sh := by
  cases rv with
  | tmp t =>
    cases hc
    simp only [RV.get, Option.some.injEq] at hg
    subst hg
    have hD : (s.get t).isD = true := by
      revert hd
      cases s.get t <;> intro hd <;> first | exact hd | rfl
    exact ⟨_, rfl, ((h.slots t).data hD).sh⟩
  | cell i t =>
    simp only [compR, Option.bind_eq_some_iff] at hc
    obtain ⟨⟨ag, n⟩, hs, hc⟩ := hc
    simp only at hc
    split at hc
    · rename_i hcond
      cases hc
      simp only [RV.get] at hg
      split at hg
      · rename_i j o e
        have hr := h.slots i
        rw [e] at hr
        obtain ⟨hj, e1⟩ := hr.inv_bx
        split at hg
        · rename_i cs hcs
          obtain ⟨hW, vs, e', hv, hz, hb⟩ := h.boxes j cs hcs
          have hcell : ∀ k, k < cs.length → w.cell? ⟨g.ρ j, 0 + k, none⟩ = some (vs.getD k undef) ∧ (vs.getD k undef).oneCell' = true := fun k hk => by
            refine ⟨?_, (hb k _ (List.getElem?_eq_getElem hk)).2⟩
            simp only [World.cell?, hv]
            simp [show k < vs.size by omega]
          have hq : qAt cs o ag n fun y => y = p := by
            unfold qAt
            cases ag with
            | true =>
              simp only at hg ⊢
              split at hg
              · rename_i hle; cases hg; exact ⟨hle, rfl⟩
              · cases hg
            | false =>
              simp only at hg ⊢
              rw [hg]
          have hall : ag = true → allD ((cs.drop o).take n) = true := fun e => by
            subst e
            simp only at hg
            split at hg
            · cases hg; exact hd
            · cases hg
          obtain ⟨u, p', g1, g2, rfl⟩ := qAt_load (P := P) (D := g.D) (ρ := g.ρ) (nb := s.b.length) hs hq hcell (fun k q hq => (hb k q hq).1) hall
          refine ⟨u, ?_, (g2.data ?_).sh⟩
          · rw [Nat.zero_add] at g1
            have e2 : a.tmps.getD i undef = .pointer (some ⟨g.ρ j, o, none⟩) := e1
            simp only [resRun, e2, asAddr, Sem.run_bind, Sem.run_pure, Result.andThen_ok, g1]
          · revert hd
            cases p' <;> intro hd <;> first | exact hd | rfl
        · cases hg
      · cases hg
    · cases hc
theorem rv_all (h : R B g s (slt a) w) : ∀ {l : List ResultVar} {rs : List RV} {ps : List PV}, compRs P l = some rs → rvs s rs = some ps → ps.all PV.resD = true →
    ∃ us : List Value, (l.mapM (resRun a.tmps)).run P w = .ok us w ∧ us.length = ps.length ∧ l.length = rs.length ∧ ∀ (i : Nat) p, ps[i]? = some p → Dat g.D w (us.getD i undef) p.sh
  | [], rs, ps, hc, hp, _ => by cases hc; cases hp; exact ⟨[], rfl, rfl, rfl, fun i p h => by simp at h⟩
  | r :: l, rs, ps, hc, hp, hd => by
    simp only [compRs, Option.bind_eq_some_iff, Option.map_eq_some_iff] at hc
    obtain ⟨x, hx, xs, hxs, rfl⟩ := hc
    simp only [rvs, Option.bind_eq_some_iff, Option.map_eq_some_iff] at hp
    obtain ⟨p, hp, qs, hq, rfl⟩ := hp
    simp only [List.all_cons, Bool.and_eq_true] at hd
    obtain ⟨u, h1, h2⟩ := rv_one h hx hp hd.1
    obtain ⟨us, h3, h4, h5, h6⟩ := rv_all h hxs hq hd.2
    refine ⟨u :: us, by simp only [List.mapM_cons, Sem.run_bind, h1, Result.andThen_ok, h3, Sem.run_pure], by simp [h4], by simp [h5], fun i q hi => ?_⟩
    cases i with
    | zero => simp at hi; subst hi; exact h2
    | succ i => simpa using h6 i q (by simpa using hi)
theorem results_eq (fn : Func) (tmps : Array Value) {us : List Value} (h : (fn.results.toList.mapM (resRun tmps)).run P w = .ok us w) : (results fn tmps).run P w = .ok (tupV us) w := by
  unfold results
  rw [Array.mapM_eq_mapM_toList]
  simp only [Sem.run_bind, Sem.run_map]
  erw [h]
  simp only [Result.andThen_ok, Sem.run_pure]
  match us with
  | [] => rfl
  | [u] => rfl
  | u :: v :: l => simp [tupV]
end
theorem dat0 {D : Nat → Nat → Prop} {ρ : Nat → Nat} {w : World} {u : Value} {p : PV} (h : Rel D ρ 0 w u p) : Dat D w u p := by
  have h1 : ∀ {u p}, Rel1 D ρ 0 w u p → Dat D w u p := fun h => by
    rcases h with h | ⟨i, o, _, hi, _⟩
    · exact h
    · omega
  rcases h with h | ⟨f, va, vb, fs, cs, rfl, rfl, h3, h4, h5, h6⟩
  · exact h1 h
  · exact .fn f va vb fs cs h3 h4 (fun i p hp => h1 (h5 i p hp)) (fun i p hp => h1 (h6 i p hp))
theorem enters_fn {f : FuncId} {fn : Func} {c : Code} (hf : P.funcs[f]? = some fn) (hn : (fn.name == "runtime.NumGoroutine") = false) (hb : fn.body = some c) : ∀ args w, (callFunc f args).run P w = .ok (.enter f args) w := by
  intro args w
  have hn' : ¬ fn.name = "runtime.NumGoroutine" := by simpa using hn
  simp [callFunc, hf, hn', hb]
theorem cn_of {f : FuncId} {fn : Func} {c : Code} {pc : PC} (ms : List Nat) (hf : P.funcs[f]? = some fn) (hn : (fn.name == "runtime.NumGoroutine") = false) (hb : fn.body = some c) (rs : List RV) (hr : compRs P fn.results.toList = some rs) (nt : Nat) (hnt : fn.ntmps = nt) (hc : compC P nt ms c = some pc) {ps : List PV} {r : PV}
    (hps : ∀ p ∈ ps, p.own = none) (hl : ps.length ≤ nt) (hvc : pW P nt True pc (postF rs r) ⟨enumP 0 ps, []⟩) : Cn P f ps r := by
  refine ⟨enters_fn hf hn hb, fun D w vs hgl hD hsz hd => calls_of_wp hf hb ?_⟩
  subst hnt
  obtain ⟨a, ha⟩ : ∃ a : Act, ({ tmps := vs ++ Array.replicate (fn.ntmps - vs.size) undef, defers := [] } : Act) = a := ⟨_, rfl⟩
  rw [ha]
  have hR : RA ⟨w, D, fun _ => False, hgl⟩ fn.ntmps ⟨D, fun _ => 0⟩ ⟨enumP 0 ps, []⟩ a w := by
    have hget : ∀ t, (⟨enumP 0 ps, []⟩ : PS).get t = ps.getD t .und := fun t => by
      show lkp (enumP 0 ps) t = _
      rw [lkp_enum]; simp
    have hown : ∀ u p, Slot ⟨D, fun _ => 0⟩ ⟨enumP 0 ps, []⟩ (slt a) w u p → p.own = none := by
      rintro u p (⟨t, rfl, rfl⟩ | ⟨i, j, cs, h1, _⟩)
      · rw [hget, List.getD_eq_getElem?_getD]
        cases h : ps[t]? with
        | none => rfl
        | some p => exact hps p (List.mem_of_getElem? h)
      · simp at h1
    refine ⟨⟨fun t => ?_, fun i cs h => by simp at h, fun i j h => by simp at h, fun u p h => ownOk_none (hown u p h), fun u p u' p' b h _ ho => absurd (hown u p h) ho, fun u p b i h ho => absurd (hown u p h) ho, hD, fun i h => by simp at h, ⟨rfl, rfl, rfl, Nat.le_refl _, fun _ _ _ => rfl, fun _ _ h => h, fun _ _ _ _ h => h, fun _ _ h => .inl h, hD⟩⟩, by rw [← ha], by rw [← ha]; simp; omega⟩
    rw [hget, List.getD_eq_getElem?_getD]
    cases h : ps[t]? with
    | none => exact .dat (.und _)
    | some p =>
      have := hd t p h
      have ht : t < vs.size := by rw [hsz]; exact (List.getElem?_eq_some_iff.1 h).1
      have e : slt a t = vs.getD t undef := by
        rw [← ha]
        simp [slt, Array.getElem?_append_left ht]
      rw [e]; exact .dat this
  refine wp_mono (pW_sound (B := ⟨w, D, fun _ => False, hgl⟩) (fun _ _ h => h) c pc hc _ _ _ a w hvc hR) fun e a' w' he => ?_
  have fin : ∀ s g, RA ⟨w, D, fun _ => False, hgl⟩ fn.ntmps g s a' w' → RetOk rs s r → bodyPost P fn (fun e w' => ∃ v D', e = .returned v ∧ Below w.heap.size w w' ∧ (∀ b o, D b o → D' b o) ∧ (∀ b o, D' b o → D b o ∨ w.heap.size ≤ b) ∧ (∀ b o, D' b o → b < w'.heap.size) ∧ Dat D' w' v r ∧ OwnOk D' (fun k => w.heap.size ≤ k) w' v r) .ret a' w' := by
    intro s g h hret
    obtain ⟨hR, hdf, _⟩ := h
    have hbel : Below w.heap.size w w' := ⟨hR.fr.os, hR.fr.tape, hR.fr.output, hR.fr.size, fun k hk => hR.fr.block k hk fun h => h⟩
    have hnew : ∀ b o, g.D b o → D b o ∨ w.heap.size ≤ b := fun b o h => by
      rcases hR.fr.new b o h with h' | h' | h'
      · exact .inl h'
      · exact .inr h'
      · exact h'.elim
    have many : ∀ ps', rvs s rs = some ps' → ps'.all PV.resD = true → ∃ us : List Value, (results fn a'.tmps).run P w' = .ok (tupV us) w' ∧ us.length = ps'.length ∧ ∀ (i : Nat) p, ps'[i]? = some p → Dat g.D w' (us.getD i undef) p.sh := fun ps' h1 h2 => by
      obtain ⟨us, k1, k2, _, k3⟩ := rv_all hR hr h1 h2
      exact ⟨us, results_eq fn _ k1, k2, k3⟩
    unfold RetOk at hret
    split at hret
    · rename_i t
      have hres : fn.results.toList = [.tmp t] := by
        revert hr
        cases fn.results.toList with
        | nil => intro h; cases h
        | cons x l =>
          intro h
          simp only [compRs, Option.bind_eq_some_iff, Option.map_eq_some_iff] at h
          obtain ⟨y, hy, ys, hys, e⟩ := h
          cases e
          cases l with
          | nil =>
            cases x with
            | tmp t => cases hy; rfl
            | cell a t =>
              simp only [compR, Option.bind_eq_some_iff] at hy
              obtain ⟨⟨ag, n⟩, _, hy⟩ := hy
              simp only at hy
              split at hy <;> cases hy
          | cons z l =>
            simp only [compRs, Option.bind_eq_some_iff, Option.map_eq_some_iff] at hys
            obtain ⟨_, _, _, _, e⟩ := hys
            cases e
      have hrun := results_eq (P := P) (w := w') fn a'.tmps (us := [a'.tmps.getD t undef]) (by rw [hres]; rfl)
      refine ⟨hdf, _, hrun, _, g.D, rfl, hbel, hR.fr.d0, hnew, hR.dlt, dat0 (SubP.rel hret (hR.slots t)), ?_⟩
      by_cases ho : r.own = none
      · exact ownOk_none ho
      · rcases SubP.own hret (hR.slots t) ho with rfl | ⟨_, hk⟩
        · have := hR.owns _ _ (hR.slot t)
          revert this ho
          cases s.get t <;> try (intros; trivial)
          rename_i es ow
          cases ow <;> try (intros; trivial)
          intro _ h
          rcases h with hn | ⟨gg, cap, cur, e, h1, hW, h2⟩
          · exact .inl hn
          · exact .inr ⟨gg, cap, cur, e, h1, hW.resolve_right (fun h => h), h2⟩
        · exact hk _ _ _
    · rename_i x _
      split at hret
      · rename_i p hp
        obtain ⟨h1, h2, h3⟩ := hret
        obtain ⟨us, k1, k2, k3⟩ := many [p] (by simp [rvs, hp]) (by simpa using h1)
        match us, k2 with
        | [u], _ =>
          refine ⟨hdf, _, k1, _, g.D, rfl, hbel, hR.fr.d0, hnew, hR.dlt, ?_, ownOk_none h3⟩
          exact dat0 (ρ := g.ρ) (SubP.rel h2 (nb := 0) (.dat (k3 0 p rfl)))
      · exact hret.elim
    · split at hret
      · rename_i hne1 hne2 _ ps' hp
        obtain ⟨h1, h2⟩ := hret
        obtain ⟨us, k1, k2, k3⟩ := many ps' hp h1
        have hlen : us.length ≠ 1 := by
          intro e
          rw [k2] at e
          have hl2 : ∀ {rs ps'}, rvs s rs = some ps' → ps'.length = rs.length := by
            intro rs
            induction rs with
            | nil => intro ps' h; cases h; rfl
            | cons x l ih =>
              intro ps' h
              simp only [rvs, Option.bind_eq_some_iff, Option.map_eq_some_iff] at h
              obtain ⟨p, _, qs, hq, rfl⟩ := h
              simp [ih hq]
          rw [hl2 hp] at e
          match rs, e with
          | [x], _ => exact hne2 x rfl
        have ev : tupV us = .tuple us.toArray := by
          revert hlen
          match us with
          | [] => intro _; rfl
          | [u] => intro h; exact absurd rfl h
          | u :: v :: l => intro _; rfl
        rw [ev] at k1
        have : r.own = none := by cases h2 <;> rfl
        refine ⟨hdf, _, k1, _, g.D, rfl, hbel, hR.fr.d0, hnew, hR.dlt, ?_, ownOk_none this⟩
        refine dat0 (ρ := g.ρ) (SubP.rel h2 (nb := 0) (.dat (.tup _ _ (by simp [k2]) fun i p hp => ?_)))
        simp only [List.getElem?_map, Option.map_eq_some_iff] at hp
        obtain ⟨q, hq, rfl⟩ := hp
        have := k3 i q hq
        simpa [List.getD_eq_getElem?_getD] using this
      · exact hret.elim
  cases e with
  | normal => obtain ⟨s, g, h1, h2⟩ := he; exact fin s g h1 h2
  | ret => obtain ⟨s, g, h1, h2⟩ := he; exact fin s g h1 h2
  | exit id => obtain ⟨s, g, h1, h2⟩ := he; exact h2.elim
  | goto l => exact he.elim
  | panic ch => exact he.elim
  | outgrown => exact he.elim

/-! ### A function that takes over a slice -/
/-- What it returns: the successor, whatever its name. -/
def postO (t : Nat) (rs : List (List PV)) (sz : Nat) : PX → PS → Prop
  | .x _, _ => False
  | _, s => match s.get t with
    | .sl es (.r _ sz') => es = rs ∧ sz' = sz
    | _ => False
theorem ocn_of {f : FuncId} {fn : Func} {c : Code} {pc : PC} (ms : List Nat) (hf : P.funcs[f]? = some fn) (hn : (fn.name == "runtime.NumGoroutine") = false) (hb : fn.body = some c) (t : Nat) (hr : compRs P fn.results.toList = some [.t t]) (nt : Nat) (hnt : fn.ntmps = nt) (hc : compC P nt ms c = some pc) {es rs : List (List PV)} {sz : Nat} {ps : List PV}
    (hps : ∀ p ∈ ps, p.own = none) (hl : ps.length + 1 ≤ nt) (hvc : pW P nt False pc (postO t rs sz) ⟨enumP 0 (.sl es (.r 0 sz) :: ps), []⟩) : OCn P f es sz ps rs := by
  refine ⟨enters_fn hf hn hb, fun D w v vs hgl hD hsz hd hv hvo => calls_of_wp hf hb ?_⟩
  subst hnt
  obtain ⟨a, ha⟩ : ∃ a : Act, ({ tmps := (#[v] ++ vs) ++ Array.replicate (fn.ntmps - (#[v] ++ vs).size) undef, defers := [] } : Act) = a := ⟨_, rfl⟩
  rw [ha]
  have hget : ∀ i, (⟨enumP 0 (.sl es (.r 0 sz) :: ps), []⟩ : PS).get i = (PV.sl es (.r 0 sz) :: ps).getD i .und := fun i => by
    show lkp (enumP 0 _) i = _
    rw [lkp_enum]; simp
  have hslt0 : slt a 0 = v := by
    rw [← ha]
    simp only [slt, Array.getD_eq_getD_getElem?]
    rw [Array.getElem?_append_left (by simp; omega), Array.getElem?_append_left (by simp)]
    rfl
  have hs : ∀ u p, Slot ⟨D, fun _ => 0⟩ ⟨enumP 0 (.sl es (.r 0 sz) :: ps), []⟩ (slt a) w u p → p.own ≠ none → u = v ∧ p = .sl es (.r 0 sz) := by
    rintro u p (⟨i, rfl, rfl⟩ | ⟨i, j, cs, h1, _⟩) ho
    · rw [hget] at ho ⊢
      cases i with
      | zero => exact ⟨hslt0, rfl⟩
      | succ i =>
        exfalso
        simp only [List.getD_eq_getElem?_getD, List.getElem?_cons_succ] at ho
        cases h : ps[i]? with
        | none => rw [h] at ho; exact ho rfl
        | some p => rw [h] at ho; exact ho (hps p (List.mem_of_getElem? h))
    · simp at h1
  have hvo' : OwnOk D (Bs.W ⟨w, D, fun k => blk v = some k, hgl⟩) w v (.sl es (.r 0 sz)) := by
    rcases hvo with hn | ⟨gg, cap, cur, e, h1, h2, h3⟩
    · exact .inl hn
    · cases cap with
      | zero =>
        by_cases hes : es = []
        · subst hes; exact .inl ⟨_, by rw [h1]; rfl, rfl⟩
        · have := sl_cap (ρ := fun _ => 0) (nb := 0) (.dat (h1 ▸ hv))
          exact absurd (List.eq_nil_of_length_eq_zero (Nat.le_zero.1 this.1)) hes
      | succ cap => exact .inr ⟨gg, _, cur, e, h1, .inr (by rw [h1]; rfl), h3⟩
  have hR : RA ⟨w, D, fun k => blk v = some k, hgl⟩ fn.ntmps ⟨D, fun _ => 0⟩ ⟨enumP 0 (.sl es (.r 0 sz) :: ps), []⟩ a w := by
    refine ⟨⟨fun i => ?_, fun i cs h => by simp at h, fun i j h => by simp at h, fun u p h => ?_, fun u p u' p' b h h' ho ho' _ _ => by rw [(hs u p h ho).2, (hs u' p' h' ho').2], fun u p b i h ho _ hi => by simp at hi, hD, fun i h => by simp at h, ⟨rfl, rfl, rfl, Nat.le_refl _, fun _ _ _ => rfl, fun _ _ h => h, fun _ _ _ _ h => h, fun _ _ h => .inl h, hD⟩⟩, by rw [← ha], by rw [← ha]; simp; omega⟩
    · rw [hget]
      cases i with
      | zero => rw [hslt0]; exact .dat (hv.owned _ _)
      | succ i =>
        simp only [List.getD_eq_getElem?_getD, List.getElem?_cons_succ]
        cases h : ps[i]? with
        | none => exact .dat (.und _)
        | some p =>
          have := hd i p h
          have ht : i < vs.size := by rw [hsz]; exact (List.getElem?_eq_some_iff.1 h).1
          have e : slt a (i + 1) = vs.getD i undef := by
            rw [← ha]
            simp only [slt, Array.getD_eq_getD_getElem?]
            rw [Array.getElem?_append_left (by simp; omega), Array.getElem?_append_right (by simp)]
            simp
          rw [e]; exact .dat this
    · by_cases ho : p.own = none
      · exact ownOk_none ho
      · obtain ⟨rfl, rfl⟩ := hs u p h ho
        exact hvo'
  refine wp_mono (pW_sound (B := ⟨w, D, fun k => blk v = some k, hgl⟩) (fun h => h.elim) c pc hc _ _ _ a w hvc hR) fun e a' w' he => ?_
  have hres : fn.results.toList = [.tmp t] := by
    revert hr
    cases fn.results.toList with
    | nil => intro h; cases h
    | cons x l =>
      intro h
      simp only [compRs, Option.bind_eq_some_iff, Option.map_eq_some_iff] at h
      obtain ⟨y, hy, ys, hys, e⟩ := h
      cases e
      cases l with
      | nil =>
        cases x with
        | tmp t => cases hy; rfl
        | cell a t =>
          simp only [compR, Option.bind_eq_some_iff] at hy
          obtain ⟨⟨ag, n⟩, _, hy⟩ := hy
          simp only at hy
          split at hy <;> cases hy
      | cons z l =>
        simp only [compRs, Option.bind_eq_some_iff, Option.map_eq_some_iff] at hys
        obtain ⟨_, _, _, _, e⟩ := hys
        cases e
  have fin : ∀ s g, RA ⟨w, D, fun k => blk v = some k, hgl⟩ fn.ntmps g s a' w' → (match s.get t with | .sl es (.r _ sz') => es = rs ∧ sz' = sz | _ => False) → bodyPost P fn (fun e w' => ∃ u D', e = .returned u ∧ (w'.os = w.os ∧ w'.tape = w.tape ∧ w'.output = w.output ∧ w.heap.size ≤ w'.heap.size) ∧ (∀ k, k < w.heap.size → blk v ≠ some k → w'.heap[k]? = w.heap[k]?) ∧
      (∀ b o y, D b o → w.cell? ⟨b, o, none⟩ = some y → w'.cell? ⟨b, o, none⟩ = some y) ∧ (∀ b o, D b o → D' b o) ∧ (∀ b o, D' b o → D b o ∨ w.heap.size ≤ b ∨ blk v = some b) ∧ (∀ b o, D' b o → b < w'.heap.size) ∧
      Dat D' w' u (.sl rs .sh) ∧ OwnOk D' (fun k => w.heap.size ≤ k ∨ blk v = some k) w' u (.sl rs (.r 0 sz))) .ret a' w' := by
    intro s g h hret
    obtain ⟨hZ, hdf, _⟩ := h
    split at hret
    · rename_i es' m sz' e
      obtain ⟨rfl, rfl⟩ := hret
      have hrun := results_eq (P := P) (w := w') fn a'.tmps (us := [a'.tmps.getD t undef]) (by rw [hres]; rfl)
      have h1 := hZ.slots t
      have h2 := hZ.owns _ _ (hZ.slot t)
      rw [e] at h1 h2
      have hd1 : Dat g.D w' (slt a' t) (.sl es' .sh) := by
        rcases h1 with (hr | ⟨_, _, hh, _⟩) | ⟨_, _, _, _, _, hh, _⟩
        · exact hr.sh
        · cases hh
        · cases hh
      refine ⟨hdf, _, hrun, _, g.D, rfl, ⟨hZ.fr.os, hZ.fr.tape, hZ.fr.output, hZ.fr.size⟩, fun k hk hn => hZ.fr.block k hk hn, fun b o y hD hy => hZ.fr.cell b o y hD hy, hZ.fr.d0, fun b o hD => hZ.fr.new b o hD, hZ.dlt, hd1, ?_⟩
      rcases h2 with hn | ⟨gg, cap, cur, e, q1, q2, q3⟩
      · exact .inl hn
      · exact .inr ⟨gg, cap, cur, e, q1, q2, q3⟩
    · exact hret.elim
  cases e with
  | normal => obtain ⟨s, g, h1, h2⟩ := he; exact fin s g h1 h2
  | ret => obtain ⟨s, g, h1, h2⟩ := he; exact fin s g h1 h2
  | exit id => obtain ⟨s, g, h1, h2⟩ := he; exact h2.elim
  | goto l => exact he.elim
  | panic ch => exact he.elim
  | outgrown => exact he.elim

/-! ### By the function's own text -/
def codeOf (fn : Func) : Code := match fn.body with
  | some c => c
  | none => .skip
def okFn (P : Program) (fn : Func) (ms : List Nat) (n : Nat) : Bool := !(fn.name == "runtime.NumGoroutine") && fn.body.isSome && (compRs P fn.results.toList).isSome && (compC P fn.ntmps ms (codeOf fn)).isSome && decide (n ≤ fn.ntmps)
def pcOf (P : Program) (fn : Func) (ms : List Nat) : PC := (compC P fn.ntmps ms (codeOf fn)).getD .sk
def rsOf (P : Program) (fn : Func) : List RV := (compRs P fn.results.toList).getD []
theorem cn_go {f : FuncId} {fn : Func} (hf : P.funcs[f]? = some fn) (ms : List Nat) {ps : List PV} {r : PV} (n : Nat) (hok : okFn P fn ms n = true) (hl : ps.length = n) (hps : ∀ p ∈ ps, p.own = none) (hvc : pW P fn.ntmps True (pcOf P fn ms) (postF (rsOf P fn) r) ⟨enumP 0 ps, []⟩) : Cn P f ps r := by
  unfold okFn at hok
  simp only [Bool.and_eq_true, Bool.not_eq_true', decide_eq_true_eq] at hok
  obtain ⟨⟨⟨⟨h1, h2⟩, h3⟩, h4⟩, h5⟩ := hok
  obtain ⟨c, hc⟩ := Option.isSome_iff_exists.1 h2
  obtain ⟨rs, hrs⟩ := Option.isSome_iff_exists.1 h3
  obtain ⟨pc, hpc⟩ := Option.isSome_iff_exists.1 h4
  unfold pcOf rsOf at hvc
  rw [hpc, hrs] at hvc
  have e : codeOf fn = c := by unfold codeOf; rw [hc]
  rw [e] at hpc
  exact cn_of ms hf h1 hc rs hrs fn.ntmps rfl hpc hps (by omega) hvc
theorem ocn_go {f : FuncId} {fn : Func} (hf : P.funcs[f]? = some fn) (ms : List Nat) {es rs : List (List PV)} {sz : Nat} {ps : List PV} (n t : Nat) (hok : okFn P fn ms n = true) (hrs : compRs P fn.results.toList = some [.t t]) (hl : ps.length + 1 = n) (hps : ∀ p ∈ ps, p.own = none) (hvc : pW P fn.ntmps False (pcOf P fn ms) (postO t rs sz) ⟨enumP 0 (.sl es (.r 0 sz) :: ps), []⟩) : OCn P f es sz ps rs := by
  unfold okFn at hok
  simp only [Bool.and_eq_true, Bool.not_eq_true', decide_eq_true_eq] at hok
  obtain ⟨⟨⟨⟨h1, h2⟩, h3⟩, h4⟩, h5⟩ := hok
  obtain ⟨c, hc⟩ := Option.isSome_iff_exists.1 h2
  obtain ⟨pc, hpc⟩ := Option.isSome_iff_exists.1 h4
  unfold pcOf at hvc
  rw [hpc] at hvc
  have e : codeOf fn = c := by unfold codeOf; rw [hc]
  rw [e] at hpc
  exact ocn_of ms hf h1 hc t hrs fn.ntmps rfl hpc hps (by omega) hvc
end Go.Proofs.Ytcedofkenfddkaa
/- Vectors: what is known, canonical vectors, the operations of the lattice, without program. No condition. -/
namespace Go.Proofs.Ytcedofkenfddkaa
set_option linter.unusedVariables false
set_option linter.unusedSimpArgs false
/-- What a vector knows of a replica. -/
def knV (v : List En) (r : Nat) : List Iv := match v.find? (fun e => e.rep == r) with
  | some e => kn e
  | none => []
def RightV (v : List En) : Prop := (∀ e ∈ v, RightE e) ∧ v.Pairwise (fun a b => a.rep < b.rep)
def CanV (v : List En) : Prop := (∀ e ∈ v, CanE e) ∧ v.Pairwise (fun a b => a.rep < b.rep)
theorem CanV.right {v : List En} (h : CanV v) : RightV v := ⟨fun e he => (h.1 e he).1, h.2⟩
theorem knV_nil (r : Nat) : knV [] r = [] := rfl
theorem knV_cons (e : En) (v : List En) (r : Nat) : knV (e :: v) r = if e.rep = r then kn e else knV v r := by
  unfold knV
  by_cases h : e.rep = r
  · simp [h]
  · simp [h]
theorem knV_none {v : List En} {r : Nat} (h : ∀ e ∈ v, e.rep ≠ r) : knV v r = [] := by
  induction v with
  | nil => rfl
  | cons e v ih => rw [knV_cons, if_neg (h e (by simp)), ih fun e' h' => h e' (by simp [h'])]
theorem knV_mem {v : List En} (h : v.Pairwise fun a b => a.rep < b.rep) {e : En} (he : e ∈ v) : knV v e.rep = kn e := by
  induction v with
  | nil => cases he
  | cons x v ih =>
    have h' := List.pairwise_cons.1 h
    rw [knV_cons]
    rcases List.mem_cons.1 he with rfl | he'
    · rw [if_pos rfl]
    · have := h'.1 e he'
      rw [if_neg (by omega), ih h'.2 he']
theorem knV_nrm {v : List En} (h : RightV v) (r : Nat) : Nrm (knV v r) := by
  unfold knV
  split
  · rename_i e he; exact kn_nrm (h.1 e (List.mem_of_find?_eq_some he))
  · trivial
theorem canV_unique : ∀ {a b : List En}, CanV a → CanV b → (∀ r, knV a r = knV b r) → a = b
  | [], [], _, _, _ => rfl
  | [], y :: b, _, hb, h => by
    have := h y.rep
    rw [knV_nil, knV_cons, if_pos rfl] at this
    exact absurd this.symm (can_kn (hb.1 y (by simp))).1
  | x :: a, [], ha, _, h => by
    have := h x.rep
    rw [knV_nil, knV_cons, if_pos rfl] at this
    exact absurd this (can_kn (ha.1 x (by simp))).1
  | x :: a, y :: b, ha, hb, h => by
    have pa := List.pairwise_cons.1 ha.2
    have pb := List.pairwise_cons.1 hb.2
    have cx := ha.1 x (by simp)
    have cy := hb.1 y (by simp)
    have hr : x.rep = y.rep := by
      rcases Nat.lt_trichotomy x.rep y.rep with h1 | h1 | h1
      · have := h x.rep
        rw [knV_cons, if_pos rfl, knV_none fun e he => by rcases List.mem_cons.1 he with rfl | he; omega; have := pb.1 e he; omega] at this
        exact absurd this (can_kn cx).1
      · exact h1
      · have := h y.rep
        rw [knV_cons (e := y), if_pos rfl, knV_none fun e he => by rcases List.mem_cons.1 he with rfl | he; omega; have := pa.1 e he; omega] at this
        exact absurd this.symm (can_kn cy).1
    have hk := h x.rep
    rw [knV_cons, knV_cons, if_pos rfl, if_pos hr.symm] at hk
    have e1 := can_ofS cx
    have e2 := can_ofS cy
    rw [hk, hr, e2] at e1
    have hxy : x = y := by injection e1 with e1; exact e1.symm
    subst hxy
    congr 1
    refine canV_unique ⟨fun e he => ha.1 e (by simp [he]), pa.2⟩ ⟨fun e he => hb.1 e (by simp [he]), pb.2⟩ fun r => ?_
    by_cases h1 : x.rep = r
    · rw [knV_none fun e he => by have := pa.1 e he; omega, knV_none fun e he => by have := pb.1 e he; omega]
    · have := h r
      rw [knV_cons, knV_cons, if_neg h1, if_neg h1] at this
      exact this
/-- The entry of an operation at a replica. -/
def latE (f : Bool → Bool → Bool) (a b : List En) (r : Nat) : En × Bool := ofS r (opS f (knV a r) (knV b r))
def latO (f : Bool → Bool → Bool) (a b : List En) (r : Nat) : Option En := if (latE f a b r).2 then some (latE f a b r).1 else none
def reps (v : List En) : List Nat := v.map En.rep
noncomputable def lat (f : Bool → Bool → Bool) (a b : List En) : List En := (srt (reps a ++ reps b)).filterMap (latO f a b)
theorem latO_some {f : Bool → Bool → Bool} {a b : List En} {r : Nat} {e : En} (h : latO f a b r = some e) : opS f (knV a r) (knV b r) ≠ [] ∧ e = (latE f a b r).1 ∧ e.rep = r := by
  unfold latO latE at h
  split at h
  · rename_i h1
    rw [ofS_2] at h1
    simp at h1
    cases h
    exact ⟨h1, rfl, by rw [ofS_cons h1]⟩
  · cases h
theorem latO_of {f : Bool → Bool → Bool} {a b : List En} {r : Nat} (h : opS f (knV a r) (knV b r) ≠ []) : latO f a b r = some (latE f a b r).1 := by
  unfold latO
  rw [if_pos]
  unfold latE
  rw [ofS_2]; simpa using h
theorem rep_lt {a b : List En} (ha : RightV a) (hb : RightV b) : ∀ r ∈ srt (reps a ++ reps b), r < M64 := fun r hr => by
  have := srt_mem.1 hr
  simp only [reps, List.mem_append, List.mem_map] at this
  rcases this with ⟨e, he, rfl⟩ | ⟨e, he, rfl⟩
  · exact (ha.1 e he).2.2.2
  · exact (hb.1 e he).2.2.2
theorem asc_filterMap {g : Nat → Option En} (hg : ∀ r e, g r = some e → e.rep = r) : ∀ {l : List Nat}, Asc l → (l.filterMap g).Pairwise fun a b => a.rep < b.rep
  | [], _ => List.Pairwise.nil
  | r :: l, h => by
    have h' := List.pairwise_cons.1 h
    rw [List.filterMap_cons]
    cases e : g r with
    | none => exact asc_filterMap hg h'.2
    | some x =>
      refine List.pairwise_cons.2 ⟨fun y hy => ?_, asc_filterMap hg h'.2⟩
      obtain ⟨r', hr', e'⟩ := List.mem_filterMap.1 hy
      rw [hg _ _ e, hg _ _ e']
      exact h'.1 r' hr'
theorem lat_can (f : Bool → Bool → Bool) {a b : List En} (ha : RightV a) (hb : RightV b) : CanV (lat f a b) := by
  refine ⟨fun e he => ?_, asc_filterMap (fun r e h => (latO_some h).2.2) (srt_asc _)⟩
  obtain ⟨r, hr, e'⟩ := List.mem_filterMap.1 he
  obtain ⟨h1, rfl, _⟩ := latO_some e'
  exact ofS_can (rep_lt ha hb r hr) (opS_nrm (knV_nrm ha r) (knV_nrm hb r)) h1
theorem opS_none {f : Bool → Bool → Bool} (hf : f false false = false) : opS f [] [] = [] :=
  opS_eq (a := []) (b := []) trivial trivial trivial fun x hx => by simp [hf]
theorem lat_kn {f : Bool → Bool → Bool} (hf : f false false = false) {a b : List En} (ha : RightV a) (hb : RightV b) (r : Nat) : knV (lat f a b) r = opS f (knV a r) (knV b r) := by
  by_cases h : opS f (knV a r) (knV b r) = []
  · rw [h]
    refine knV_none fun e he hr => ?_
    obtain ⟨r', hr', e'⟩ := List.mem_filterMap.1 he
    obtain ⟨h1, _, h3⟩ := latO_some e'
    rw [hr] at h3
    subst h3
    exact h1 h
  · have hm : r ∈ srt (reps a ++ reps b) := by
      refine srt_mem.2 (List.mem_append.2 ?_)
      rcases Classical.em (r ∈ reps a) with h1 | h1
      · exact .inl h1
      · rcases Classical.em (r ∈ reps b) with h2 | h2
        · exact .inr h2
        · refine absurd ?_ h
          rw [knV_none (v := a) fun e he hr => h1 (List.mem_map.2 ⟨e, he, hr⟩), knV_none (v := b) fun e he hr => h2 (List.mem_map.2 ⟨e, he, hr⟩)]
          exact opS_none hf
    have he : (latE f a b r).1 ∈ lat f a b := List.mem_filterMap.2 ⟨r, hm, latO_of h⟩
    have h3 : (latE f a b r).1.rep = r := (latO_some (latO_of h)).2.2
    have := knV_mem (lat_can f ha hb).2 he
    rw [h3] at this
    rw [this]
    exact kn_ofS (rep_lt ha hb r hm) (opS_nrm (knV_nrm ha r) (knV_nrm hb r)) h
theorem lat_eq {f : Bool → Bool → Bool} (hf : f false false = false) {a b c : List En} (ha : RightV a) (hb : RightV b) (hc : CanV c) (h : ∀ r, knV c r = opS f (knV a r) (knV b r)) : lat f a b = c :=
  canV_unique (lat_can f ha hb) hc fun r => by rw [lat_kn hf ha hb, h]
/-! ### the algebra -/
section
variable {a b c : List En}
theorem fU0 : fUnion false false = false := rfl
theorem fI0 : fMeet false false = false := rfl
theorem fM0 : fMinus false false = false := rfl
/-- A part of a vector. -/
theorem lat_minus_nil (ha : RightV a) (hb : RightV b) : lat fMinus a b = [] ↔ ∀ r, opS fMinus (knV a r) (knV b r) = [] := by
  constructor
  · intro h r
    have := lat_kn fM0 ha hb r
    rw [h] at this
    exact this.symm
  · intro h
    exact lat_eq fM0 ha hb ⟨fun e h => (by cases h), List.Pairwise.nil⟩ fun r => by rw [h r]; rfl
theorem sub_union (ha : RightV a) (hb : RightV b) : lat fMinus a (lat fUnion a b) = [] := by
  rw [lat_minus_nil ha (lat_can _ ha hb).right]
  intro r
  have na := knV_nrm ha r
  have nb := knV_nrm hb r
  rw [lat_kn fU0 ha hb]
  exact opS_eq na (opS_nrm na nb) trivial fun t ht => by rw [opS_mem na nb ht]; simp only [fMinus, fUnion, mem_nil]; cases mem (knV a r) t <;> simp
end
theorem lat_len (f : Bool → Bool → Bool) (a b : List En) : (lat f a b).length ≤ a.length + b.length := by
  have h1 := List.length_filterMap_le (latO f a b) (srt (reps a ++ reps b))
  have h2 := srt_len (reps a ++ reps b)
  simp only [reps, List.length_append, List.length_map] at h2
  unfold lat
  simp only [reps] at h1 ⊢
  omega
end Go.Proofs.Ytcedofkenfddkaa
/- The contract of vector.Numbers: it returns, in memory of its own, the numbers of a vector. -/
namespace Go.Proofs.Ytcedofkenfddkaa
set_option linter.unusedVariables false
set_option linter.unusedSimpArgs false
open Go.RowKit
attribute [local go_sem] Oper.semAt_some
set_option maxRecDepth 100000
/-- A list of numbers that the call itself has made. -/
def OwnN (base : Nat) (w : World) (v : Value) (xs : List Nat) : Prop := w.ownsRow base 28 1 v xs.length (xs.map fun x => .int .u64 (x : Nat))
theorem OwnN.nil (base : Nat) (w : World) : OwnN base w (.slice none 0 0) [] := World.ownsRow_nil _ _ _ _
theorem OwnN.keep {base : Nat} {S : Nat → Prop} {w w' : World} {v : Value} {l : List Nat} (h : OwnN base w v l) (hb : Keep S w w') (hs : ∀ g, base ≤ g → g < w.heap.size → ¬ S g) : OwnN base w' v l :=
  hb.ownsRow h fun g hg => hs g (h.lt g hg).1 (h.lt g hg).2
theorem OwnN.mono {base base' : Nat} {w : World} {v : Value} {l : List Nat} (h : OwnN base w v l) (hb : base' ≤ base) : OwnN base' w v l := by
  refine ⟨h.1, ?_⟩
  rcases h.2 with hn | ⟨g, cap, cur, hv, hg, r⟩
  · exact .inl hn
  · exact .inr ⟨g, cap, cur, hv, Nat.le_trans hb hg, r⟩
theorem Try.infoU : (Try.prog.info? 28).map (fun i => (i.zero, i.size, i.bytes)) = some (some (Value.int .u64 0), 1, 8) := by kernel_rfl
end Go.Proofs.Ytcedofkenfddkaa
/- A function's pure text, part by part: for functions whose text is long. No condition. -/
namespace Go.Proofs.Ytcedofkenfddkaa
set_option linter.unusedVariables false
set_option linter.unusedSimpArgs false
open Go.RowKit
def leafC (P : Program) (nt : Nat) (ms : List Nat) (id : Nat) (ops : Array Oper) (draw : Bool) : PC := (compC P nt ms (.region id ops draw)).getD .sk
def leafP (c : Operand) : PO := (po c).getD (.c .und)
/-- The same, one region's text given. -/
def pcT (P : Program) (nt : Nat) (ms : List Nat) (k : Nat) (X : PC) : Code → PC
  | .region id ops draw => if id = k then X else leafC P nt ms id ops draw
  | .seq a b => .sq (pcT P nt ms k X a) (pcT P nt ms k X b)
  | .cond c a b => .cd (leafP c) (pcT P nt ms k X a) (pcT P nt ms k X b)
  | .block id a => .bk id (pcT P nt ms k X a)
  | .loop a => .lp [] (pcT P nt ms k X a)
  | .exit id => .ex id
  | .ret => .rt
  | .scope a => pcT P nt ms k X a
  | _ => .sk
theorem cn_goT {P : Program} {f : FuncId} {fn : Func} (hf : P.funcs[f]? = some fn) (ms : List Nat) {ps : List PV} {r : PV} (n : Nat) (hok : okFn P fn ms n = true) (hl : ps.length = n) (hps : ∀ p ∈ ps, p.own = none) (k : Nat) (X : PC) {c : Code} (hc : codeOf fn = c) (hx : compC P fn.ntmps ms c = some (pcT P fn.ntmps ms k X c)) (hvc : pW P fn.ntmps True (pcT P fn.ntmps ms k X c) (postF (rsOf P fn) r) ⟨enumP 0 ps, []⟩) : Cn P f ps r := by
  refine cn_go hf ms n hok hl hps ?_
  unfold pcOf
  rw [hc, hx, Option.getD_some]
  exact hvc
end Go.Proofs.Ytcedofkenfddkaa
/- How many numbers a list holds, and how many versions a vector. No condition. -/
namespace Go.Proofs.Ytcedofkenfddkaa
set_option linter.unusedVariables false
set_option linter.unusedSimpArgs false
def cntN (p : Nat → Bool) : Nat → Nat
  | 0 => 0
  | n + 1 => cntN p n + (if p n = true then 1 else 0)
theorem cntN_le (p : Nat → Bool) : ∀ n, cntN p n ≤ n
  | 0 => Nat.le_refl _
  | n + 1 => by have := cntN_le p n; rw [cntN]; split <;> omega
theorem cntN_none {p : Nat → Bool} : ∀ {n : Nat}, (∀ x, x < n → p x = false) → cntN p n = 0
  | 0, _ => rfl
  | n + 1, h => by rw [cntN, cntN_none fun x hx => h x (by omega), h n (by omega)]; rfl
theorem cntN_or_and (p q : Nat → Bool) : ∀ n, cntN (fun x => p x || q x) n + cntN (fun x => p x && q x) n = cntN p n + cntN q n
  | 0 => rfl
  | n + 1 => by
    have := cntN_or_and p q n
    simp only [cntN]
    rcases Bool.eq_false_or_eq_true (p n) with hp | hp <;> rcases Bool.eq_false_or_eq_true (q n) with hq | hq <;> simp [hp, hq] <;> omega
theorem cntN_iv {lo hi : Nat} (h : lo ≤ hi) : ∀ n, cntN (fun x => decide (lo ≤ x) && decide (x ≤ hi)) n = min n (hi + 1) - min n lo
  | 0 => by simp [cntN]
  | n + 1 => by
    rw [cntN, cntN_iv h n]
    by_cases h1 : lo ≤ n
    · by_cases h2 : n ≤ hi
      · rw [decide_eq_true h1, decide_eq_true h2]; simp only [Bool.and_self, if_true]; omega
      · rw [decide_eq_false h2]; simp only [Bool.and_false, Bool.false_eq_true, if_false]; omega
    · rw [decide_eq_false h1]; simp only [Bool.false_and, Bool.false_eq_true, if_false]; omega
def card : List Iv → Nat
  | [] => 0
  | s :: l => (s.hi - s.lo + 1) + card l
theorem card_cnt : ∀ {l : List Iv} {n : Nat}, NF n l → card l = cntN (mem l) M64
  | [], _, _ => (cntN_none fun x _ => rfl).symm
  | s :: l, n, h => by
    have h1 := cntN_or_and (fun x => decide (s.lo ≤ x) && decide (x ≤ s.hi)) (mem l) M64
    rw [cntN_iv h.2.1, ← card_cnt h.2.2.2] at h1
    have h2 : cntN (fun x => (decide (s.lo ≤ x) && decide (x ≤ s.hi)) && mem l x) M64 = 0 := cntN_none fun x _ => by
      cases e : mem l x with
      | false => simp
      | true =>
        have := (h.2.2.2.mem_ge e).1
        rw [decide_eq_false (show ¬ x ≤ s.hi by omega)]
        simp
    rw [h2] at h1
    have h3 : cntN (mem (s :: l)) M64 = cntN (fun x => (decide (s.lo ≤ x) && decide (x ≤ s.hi)) || mem l x) M64 := rfl
    have h4 := h.2.2.1
    have h5 := h.2.1
    rw [card, h3]
    omega
theorem card_le {l : List Iv} (h : Nrm l) : card l ≤ M64 := by
  rw [card_cnt h]
  exact cntN_le _ _
def cardV : List En → Nat
  | [] => 0
  | e :: v => card (kn e) + cardV v
/-- A correct vector of a size. -/
def BV (n h : Nat) (v : List En) : Prop := RightV v ∧ v.length ≤ n ∧ ∀ e ∈ v, e.holes.length ≤ h
theorem knV_len {n h : Nat} {v : List En} (hv : BV n h v) (r : Nat) : (knV v r).length ≤ 2 * h + 3 := by
  unfold knV
  cases hf : v.find? (fun e => e.rep == r) with
  | none => simp
  | some e =>
    have h1 := hv.2.2 e (List.mem_of_find?_eq_some hf)
    have h2 := kn_length e
    simp only
    omega
theorem lat_bv {f : Bool → Bool → Bool} {n h m k : Nat} {a b : List En} (ha : BV n h a) (hb : BV m k b) : BV (n + m) (8 * h + 8 * k + 29) (lat f a b) := by
  refine ⟨(lat_can f ha.1 hb.1).right, ?_, fun e he => ?_⟩
  · have h1 := lat_len f a b
    have h2 := ha.2.1
    have h3 := hb.2.1
    omega
  · unfold lat at he
    obtain ⟨r, hr, h⟩ := List.mem_filterMap.1 he
    rw [(latO_some h).2.1]
    have h1 := ofS_length r (opS f (knV a r) (knV b r))
    have h2 := opS_length f (knV a r) (knV b r)
    have h3 := knV_len ha r
    have h4 := knV_len hb r
    unfold latE
    omega
theorem BV.mono {n h m k : Nat} {v : List En} (hv : BV n h v) (h1 : n ≤ m) (h2 : h ≤ k) : BV m k v := ⟨hv.1, Nat.le_trans hv.2.1 h1, fun e he => Nat.le_trans (hv.2.2 e he) h2⟩
/-- The vector of one version. -/
def oneV (r c : Nat) : List En := [(ofS r [⟨c, c⟩]).1]
theorem oneC_nrm {c : Nat} (hc : c < M64) : Nrm [⟨c, c⟩] := ⟨Nat.zero_le _, Nat.le_refl _, hc, trivial⟩
theorem oneV_can {r c : Nat} (hr : r < M64) (hc : c < M64) : CanV (oneV r c) := ⟨fun e he => by
  simp only [oneV, List.mem_singleton] at he
  subst he
  exact ofS_can hr (oneC_nrm hc) (by simp), by simp [oneV]⟩
theorem oneV_bv {r c : Nat} (hr : r < M64) (hc : c < M64) : BV 1 5 (oneV r c) := ⟨(oneV_can hr hc).right, Nat.le_refl _, fun e he => by
  simp only [oneV, List.mem_singleton] at he
  subst he
  have := ofS_length r [⟨c, c⟩]
  simpa using this⟩
theorem oneV_kn {r c : Nat} (hr : r < M64) (hc : c < M64) (x : Nat) : knV (oneV r c) x = if r = x then [⟨c, c⟩] else [] := by
  have h1 : (ofS r [⟨c, c⟩]).1.rep = r := by rw [ofS_cons (by simp)]
  unfold oneV
  rw [knV_cons, h1, knV_nil, kn_ofS hr (oneC_nrm hc) (by simp)]
theorem add_has {v : List En} {r c : Nat} (hv : RightV v) (hr : r < M64) (hc : c < M64) : mem (knV (lat fUnion v (oneV r c)) r) c = true := by
  rw [lat_kn fU0 hv (oneV_can hr hc).right, opS_mem (knV_nrm hv r) (knV_nrm (oneV_can hr hc).right r) hc, oneV_kn hr hc, if_pos rfl]
  simp [fUnion, mem]
theorem opS_uu {x y : List Iv} (hx : Nrm x) (hy : Nrm y) : opS fUnion (opS fUnion x y) y = opS fUnion x y :=
  opS_eq (opS_nrm hx hy) hy (opS_nrm hx hy) fun t ht => by
    rw [opS_mem hx hy ht]
    simp only [fUnion]
    cases mem x t <;> cases mem y t <;> rfl
theorem add_twice {v w : List En} (hv : RightV v) (hw : RightV w) : lat fUnion (lat fUnion v w) w = lat fUnion v w :=
  lat_eq fU0 (lat_can fUnion hv hw).right hw (lat_can fUnion hv hw) fun r => by
    rw [lat_kn fU0 hv hw, opS_uu (knV_nrm hv r) (knV_nrm hw r)]
end Go.Proofs.Ytcedofkenfddkaa
/- measure.Count: how many numbers a list holds; the iterator measure.ranks. Condition: the list is correct, and shorter than 2^30. -/
namespace Go.Proofs.Ytcedofkenfddkaa
set_option linter.unusedVariables false
set_option linter.unusedSimpArgs false
open Go.RowKit
attribute [local go_sem] Oper.semAt_some
set_option maxRecDepth 100000
def cwV (n : Nat) : Value := .agg #[.int .u64 (n / M64 : Nat), .int .u64 (n % M64 : Nat)]
/-- The intervals of a list, and how many numbers stand ahead of each. -/
def rkL : Nat → List Iv → List (Nat × Iv)
  | _, [] => []
  | n, s :: l => (n, s) :: rkL (n + (s.hi - s.lo + 1)) l
theorem rkL_len : ∀ (n : Nat) (l : List Iv), (rkL n l).length = l.length
  | _, [] => rfl
  | n, s :: l => by simp [rkL, rkL_len]
theorem rkL_take : ∀ (n : Nat) {l : List Iv} {k : Nat} (h : k < l.length), (rkL n l).take k ++ [(n + card (l.take k), l[k])] = (rkL n l).take (k + 1)
  | n, s :: l, 0, _ => by simp [rkL, card]
  | n, s :: l, k + 1, h => by
    have h' : k < l.length := by simpa using h
    have := rkL_take (n + (s.hi - s.lo + 1)) h'
    simp only [rkL, List.take_succ_cons, List.cons_append, List.getElem_cons_succ, card]
    rw [← this]
    simp only [List.cons_append, List.cons.injEq, true_and, List.append_cancel_left_eq, Prod.mk.injEq, and_true]
    omega
theorem rkL_pre {n : Nat} {l : List Iv} {k : Nat} (h : k < l.length) : (rkL n l).take k ++ [(n + card (l.take k), l[k])] <+: rkL n l := by
  rw [rkL_take n h]
  exact List.take_prefix _ _
theorem card_lt {l : List Iv} (h : ∀ s ∈ l, s.lo ≤ s.hi ∧ s.hi < M64) : card l ≤ l.length * M64 := by
  induction l with
  | nil => simp [card]
  | cons s l ih =>
    have h1 := h s (by simp)
    have h2 := ih fun t ht => h t (by simp [ht])
    rw [card, List.length_cons, Nat.succ_mul]
    omega
def encR (x : Nat × Iv) : Array Value := #[cwV x.1, .agg #[.int .u64 x.2.lo, .int .u64 x.2.hi]]
theorem ranks_any (a : Option Addr) (n c : Nat) (w : World) : Calls Try.prog 106 #[.slice a n c] w fun e w' => e = .returned (.func (.func 120) #[] #[.pointer (some ⟨w.heap.size, 0, none⟩)]) ∧ w' = w.alloc (.cells #[.slice a n c] 23) := by
  go_enter Try.func106, Try.ntmps106
  go_wp2
  go_ret
  exact ⟨rfl, rfl⟩
theorem cells_at {w : World} {g : Nat} {cs : Array Value} {t : TypeId} (h : w.heap[g]? = some (.cells cs t (0, 0))) (i : Nat) (v : Value) (hv : cs[i]? = some v) : w.cell? ⟨g, i, none⟩ = some v ∧ w.frozen? ⟨g, i, none⟩ = false := by
  constructor
  · simp [World.cell?, h, hv]
  · simp [World.frozen?, h]
theorem card_takeR {l : List Iv} {k : Nat} (h : k < l.length) : card (l.take (k + 1)) = card (l.take k) + (l[k].hi - l[k].lo + 1) := by
  induction l generalizing k with
  | nil => simp at h
  | cons s l ih =>
    cases k with
    | zero => simp [card]
    | succ k =>
      simp only [List.length_cons, Nat.add_lt_add_iff_right] at h
      simp only [List.take_succ_cons, card, List.getElem_cons_succ]
      rw [ih h]
      omega
theorem set_at {w : World} {g : Nat} {cs : Array Value} {T : TypeId} (h : w.heap[g]? = some (.cells cs T (0, 0))) (i : Nat) (v : Value) : (w.setCell ⟨g, i, none⟩ v).heap[g]? = some (.cells (cs.setIfInBounds i v) T (0, 0)) := by
  obtain ⟨hlt, hk⟩ := Array.getElem?_eq_some_iff.1 h
  show (w.heap.modify g _)[g]? = _
  rw [Array.getElem?_eq_getElem (by rw [Array.size_modify]; exact hlt), Array.getElem_modify_self, hk]
  simp
theorem set2 {w : World} {g : Nat} {x y a b : Value} {T : TypeId} (h : w.heap[g]? = some (.cells #[x, y] T (0, 0))) : ((w.setCell ⟨g, 0, none⟩ a).setCell ⟨g, 1, none⟩ b).heap[g]? = some (.cells #[a, b] T (0, 0)) := by
  have := set_at (set_at h 0 a) 1 b
  simpa using this
/-- What word.Width and word.Plus are asked for. -/
def WidthOk (C : Nat → Nat → Prop) : Prop := ∀ (w : World) (lo hi : Nat), (∀ b o, C b o → b < w.heap.size) → GL C w → lo ≤ hi → hi < M64 → Calls Try.prog 107 #[.int .u64 (lo : Nat), .int .u64 (hi : Nat)] w fun e w' => e = .returned (cwV (hi - lo + 1)) ∧ Below w.heap.size w w'
def PlusOk (C : Nat → Nat → Prop) : Prop := ∀ (w : World) (m n : Nat), (∀ b o, C b o → b < w.heap.size) → GL C w → m < M64 * M64 / 4 → n < M64 * M64 / 4 → Calls Try.prog 58 #[cwV m, cwV n] w fun e w' => e = .returned (cwV (m + n)) ∧ Below w.heap.size w w'
set_option maxHeartbeats 4000000 in
theorem ranks1_at (C : Nat → Nat → Prop) (Sp : Nat → Prop) (s : List Iv) (va : Value) (Bv n0 : Nat) (W0 : World) (hs : ∀ t ∈ s, t.lo ≤ t.hi ∧ t.hi < M64) (hsl : s.length ≤ 1073741824) (hv : RdR 0 n0 W0 va s) (hb : Boxed W0 Bv 23 va) (hn0 : n0 ≤ W0.heap.size)
    (hS : ∀ k, Sp k → n0 ≤ k ∧ k ≠ Bv ∧ k < W0.heap.size) (hC : ∀ b o, C b o → b < n0) (hG : GL C W0) (hWi : WidthOk C) (hPl : PlusOk C) :
    IterAt2 Try.prog 120 #[.pointer (some ⟨Bv, 0, none⟩)] encR (fun k => W0.heap.size ≤ k) (Keep Sp) (rkL 0 s) W0 := by
  intro l J Jx hJ hJx hY h0
  refine callsIn_wide.2 ?_
  show Calls Try.prog 120 #[.func (.yield l) #[] #[], .pointer (some ⟨Bv, 0, none⟩)] W0 _
  have HJ := Lib.hid hJ
  have HJx := Lib.hid hJx
  have HY := Lib.hid hY
  have HV := Lib.hid hv
  have HS := Lib.hid hS
  have HSS := Lib.hid hs
  have HGL := Lib.hid hG
  have HWI := Lib.hid hWi
  have HPL := Lib.hid hPl
  clear hJ hJx hY hS hs hG hWi hPl
  obtain ⟨av, cap, rfl, hlc, hcm, hcell⟩ := hv
  have HCell := Lib.hid hcell
  unfold maxLen at hcm
  have hc0 : (W0.alloc (.cells #[.int .u64 0, .int .u64 0] 60)).cell? ⟨Bv, 0, none⟩ = some (.slice av s.length cap) := ((hb.alloc _).cell)
  have hbl := hb.lt
  clear hcell
  go_enter Try.func120, Try.ntmps120
  go_wp2_with fail
  go_loopg [8] s.length (fun g x wr => ∃ k, k ≤ s.length ∧ g = s.length - k ∧ x = .int .i64 k ∧ wr.heap[W0.heap.size]? = some (.cells #[.int .u64 (card (s.take k) / M64 : Nat), .int .u64 (card (s.take k) % M64 : Nat)] 60 (0, 0)) ∧ J ((rkL 0 s).take k) wr ∧ (∀ j, j < n0 → wr.heap[j]? = W0.heap[j]?) ∧ W0.heap.size < wr.heap.size)
  case atStart =>
    refine ⟨0, Nat.zero_le _, rfl, rfl, ?_, HJ.out _ _ _ h0 ((Keep.refl _ _).alloc _), fun j hj => Below.heap_alloc _ _ _ (by omega), by simp⟩
    simp only [List.take_zero, card, Nat.zero_div, Nat.zero_mod]
    exact World.alloc_heap_new W0 _
  case round =>
    obtain ⟨k, hk, rfl, rfl, hbn, hJk, hlow, hlt0⟩ := hrel
    clear h0 hc0
    by_cases hlt : k < s.length
    · obtain ⟨b, off, hab, _, hbn0, hcel⟩ := HCell.out (fun e => by rw [e] at hlt; simp at hlt)
      subst hab
      have hcard := card_lt (l := s.take k) (fun t ht => HSS.out t (List.mem_of_mem_take ht))
      have hcard2 : card (s.take k) ≤ 1073741824 * M64 := Nat.le_trans hcard (Nat.mul_le_mul_right _ (by simp; omega))
      have hct := card_takeR hlt
      have hsk := HSS.out s[k] (List.getElem_mem hlt)
      have hpre := rkL_pre (n := 0) hlt
      rw [Nat.zero_add] at hpre
      have htk := rkL_take 0 hlt
      rw [Nat.zero_add] at htk
      obtain ⟨c0, c1, _, _⟩ := hcel k hlt
      obtain ⟨t, ht⟩ : ∃ t, t = s[k] := ⟨_, rfl⟩
      obtain ⟨m, hm⟩ : ∃ m, m = card (s.take k) := ⟨_, rfl⟩
      rw [← ht] at c0 c1 hct hsk hpre htk
      rw [← hm] at hcard2 hct hpre htk hbn
      have d0 : wr.cell? ⟨b, off + k * 2, none⟩ = some (.int .u64 t.lo) := (World.cell?_of_block (a := ⟨b, off + k * 2, none⟩) (hlow b hbn0)).trans c0
      have d1 : wr.cell? ⟨b, off + k * 2 + 1, none⟩ = some (.int .u64 t.hi) := (World.cell?_of_block (a := ⟨b, off + k * 2 + 1, none⟩) (hlow b hbn0)).trans c1
      have hb1 : (wr.alloc (.cells #[.int .u64 t.lo, .int .u64 t.hi] 30)).heap[W0.heap.size]? = some (.cells #[.int .u64 (m / M64 : Nat), .int .u64 (m % M64 : Nat)] 60 (0, 0)) := (Below.heap_alloc _ _ _ hlt0).trans hbn
      obtain ⟨qd, hqd⟩ : ∃ q, q = m / M64 := ⟨_, rfl⟩
      obtain ⟨rd, hrd⟩ : ∃ q, q = m % M64 := ⟨_, rfl⟩
      rw [← hqd, ← hrd] at hb1
      have hcm2 : cwV m = .agg #[.int .u64 qd, .int .u64 rd] := by rw [hqd, hrd]; rfl
      have e0 := (cells_at hb1 0 _ rfl).1
      have e1 := (cells_at hb1 1 _ rfl).1
      obtain ⟨fn, tmps, assign, body, hy, hR⟩ := HY.out ((rkL 0 s).take k) (m, t) (wr.alloc (.cells #[.int .u64 t.lo, .int .u64 t.hi] 30)) (HJ.out _ _ _ hJk ((Keep.refl _ _).alloc _)) hpre
      simp only [encR] at hy
      rw [hcm2] at hy
      have HCM := Lib.hid hcm2
      have HQ := Lib.hid hqd
      have HR := Lib.hid hrd
      have HPre := Lib.hid hpre
      have HTK := Lib.hid htk
      have HCT := Lib.hid hct
      have HB1 := Lib.hid hb1
      have HLow := Lib.hid hlow
      clear hcel hcard hJk hpre htk hct hbn c0 c1 hlow hb1 ht hm hcm2 hqd hrd
      go_upto_region 4 with fail
      refine (wpIn_wide (n := 8)).1 ?_
      gi_wp2
      refine hR.mono ?_
      rintro e w3 (⟨rfl, hJ3, hk3⟩ | ⟨rfl, hJx3⟩)
      · gi_wp2
        have hn1 : ∀ j, W0.heap.size ≤ j → ¬ Sp j := fun j hj h => by have := (HS.out j h).2.2; omega
        have hn2 : ∀ j, j < n0 → ¬ Sp j := fun j hj h => by have := (HS.out j h).1; omega
        have hb3 := hk3.obj HB1.out (hn1 _ (Nat.le_refl _))
        have hb4 := hk3.obj (World.alloc_heap_new wr (.cells #[.int .u64 t.lo, .int .u64 t.hi] 30)) (hn1 _ (by omega))
        have hl3 : ∀ j, j < n0 → w3.heap[j]? = W0.heap[j]? := fun j hj => (hk3.block j (by simp; omega) (hn2 j hj)).trans ((Below.heap_alloc _ _ _ (by omega)).trans (HLow.out j hj))
        have f0 := (cells_at hb3 0 _ rfl).1
        have f1 := (cells_at hb3 1 _ rfl).1
        have g0 := (cells_at hb4 0 _ rfl).1
        have g1 := (cells_at hb4 1 _ rfl).1
        have hz3 : wr.heap.size < w3.heap.size := by have := hk3.size; simp at this; omega
        have HB3 := Lib.hid hb3
        have HL3 := Lib.hid hl3
        have HJ3 := Lib.hid hJ3
        clear hy hR hk3 hn1 hn2 hb3 hb4 hl3 hJ3 d0 d1 e0 e1
        go_wp2_with fail
        have hgl : ∀ w, Keep NoB w3 w → GL C w ∧ ∀ b o, C b o → b < w.heap.size := fun w hk => ⟨HGL.out.mono (fun _ _ h => h) fun j o x hj hx => (World.cell?_of_block (a := ⟨j, o, none⟩) ((hk.block j (by have := hC j o hj; omega) id).trans (HL3.out j (hC j o hj)))).trans hx, fun b o h => by have := hC b o h; have := hk.size; omega⟩
        have HGK := Lib.hid hgl
        clear hgl
        refine regG 7 25 (fun w' => w'.cell? ⟨W0.heap.size, 0, none⟩ = some (.int .u64 (qd : Nat)) ∧ w'.cell? ⟨W0.heap.size, 1, none⟩ = some (.int .u64 (rd : Nat)) ∧ w'.cell? ⟨wr.heap.size, 0, none⟩ = some (.int .u64 (t.lo : Nat)) ∧ w'.cell? ⟨wr.heap.size, 1, none⟩ = some (.int .u64 (t.hi : Nat))) (by kernel_rfl) (by kernel_rfl) rfl ⟨f0, f1, g0, g1⟩ ?_
        simp only [List.take_succ_cons, List.take_zero]
        repeat (first
          | (refine wdet ?_ rfl (fun a w hc _ hr => ?_) ?_; rotate_left; (simp [Rds, rdsO, lk, Op.operands, Call.operands, RdEq] at hr; go_simp; with_reducible rfl); dsimp only [List.nil_append, List.cons_append])
          | (refine wskip rfl ?_ ?_; (first | exact .inl (isV_eq rfl rfl) | exact .inr (isV_eq rfl rfl)); dsimp only [List.nil_append, List.cons_append])
          | (refine wdetg rfl ?_ ?_ (fun a w hc _ hr => ?_) ?_; exact (isV_eq rfl rfl); rotate_left; (simp [Rds, rdsO, lk, Op.operands, Call.operands, RdEq] at hr; go_simp; with_reducible rfl); dsimp only [List.nil_append, List.cons_append]))
        refine wgen (fun u _ => u = (cwV (t.hi - t.lo + 1))) (eqV_stab _) rfl ?_ ?_
        · intro a2 w2 hc hk hr K hK
          have HK := Lib.hid hK
          clear hK
          simp [Rds, rdsO, lk, Op.operands, Call.operands, RdEq] at hr
          go_simp
          have hkw := ((Keep.refl NoB w3).drew).trans hk
          refine (HWI.out w2 t.lo t.hi (HGK.out _ hkw).2 (HGK.out _ hkw).1 hsk.1 hsk.2).mono ?_
          rintro e w4 ⟨rfl, hb⟩
          have hkb : Keep NoB w2 w4 := Keep.of_below' hb (Nat.le_refl _)
          exact HK.out _ _ hkb ⟨hkb.cell_some hc.1 id, hkb.cell_some hc.2.1 id, hkb.cell_some hc.2.2.1 id, hkb.cell_some hc.2.2.2 id⟩ rfl
        dsimp only [List.nil_append, List.cons_append]
        repeat (first
          | (refine wdet ?_ rfl (fun a w hc _ hr => ?_) ?_; rotate_left; (simp [Rds, rdsO, lk, Op.operands, Call.operands, RdEq] at hr; go_simp; with_reducible rfl); dsimp only [List.nil_append, List.cons_append])
          | (refine wskip rfl ?_ ?_; (first | exact .inl (isV_eq rfl rfl) | exact .inr (isV_eq rfl rfl)); dsimp only [List.nil_append, List.cons_append])
          | (refine wdetg rfl ?_ ?_ (fun a w hc _ hr => ?_) ?_; exact (isV_eq rfl rfl); rotate_left; (simp [Rds, rdsO, lk, Op.operands, Call.operands, RdEq] at hr; go_simp; with_reducible rfl); dsimp only [List.nil_append, List.cons_append]))
        obtain ⟨q2, hq2⟩ : ∃ q, q = (m + (t.hi - t.lo + 1)) / M64 := ⟨_, rfl⟩
        obtain ⟨r2, hr2⟩ : ∃ q, q = (m + (t.hi - t.lo + 1)) % M64 := ⟨_, rfl⟩
        have hcm3 : cwV (m + (t.hi - t.lo + 1)) = .agg #[.int .u64 q2, .int .u64 r2] := by rw [hq2, hr2]; rfl
        have HC3 := Lib.hid hcm3
        have HQ2 := Lib.hid hq2
        have HR2 := Lib.hid hr2
        clear hcm3 hq2 hr2
        refine wgen (fun u _ => u = (.agg #[.int .u64 (q2 : Nat), .int .u64 (r2 : Nat)])) (eqV_stab _) rfl ?_ ?_
        · intro a2 w2 hc hk hr K hK
          have HK := Lib.hid hK
          clear hK
          simp [Rds, rdsO, lk, Op.operands, Call.operands, RdEq] at hr
          go_simp
          have hkw := ((Keep.refl NoB w3).drew).trans hk
          have hp := HPL.out w2 m (t.hi - t.lo + 1) (HGK.out _ hkw).2 (HGK.out _ hkw).1 (by simp only [M64_val] at *; omega) (by simp only [M64_val] at *; omega)
          rw [HCM.out, HC3.out] at hp
          refine hp.mono ?_
          rintro e w4 ⟨rfl, hb⟩
          have hkb : Keep NoB w2 w4 := Keep.of_below' hb (Nat.le_refl _)
          exact HK.out _ _ hkb ⟨hkb.cell_some hc.1 id, hkb.cell_some hc.2.1 id, hkb.cell_some hc.2.2.1 id, hkb.cell_some hc.2.2.2 id⟩ rfl
        dsimp only [List.nil_append, List.cons_append]
        repeat (first
          | (refine wdet ?_ rfl (fun a w hc _ hr => ?_) ?_; rotate_left; (simp [Rds, rdsO, lk, Op.operands, Call.operands, RdEq] at hr; go_simp; with_reducible rfl); dsimp only [List.nil_append, List.cons_append])
          | (refine wskip rfl ?_ ?_; (first | exact .inl (isV_eq rfl rfl) | exact .inr (isV_eq rfl rfl)); dsimp only [List.nil_append, List.cons_append])
          | (refine wdetg rfl ?_ ?_ (fun a w hc _ hr => ?_) ?_; exact (isV_eq rfl rfl); rotate_left; (simp [Rds, rdsO, lk, Op.operands, Call.operands, RdEq] at hr; go_simp; with_reducible rfl); dsimp only [List.nil_append, List.cons_append]))
        intro w5 hc5 hk5
        simp only [finG, forall_eq, List.nil_append, List.cons_append, List.drop_succ_cons, List.drop_zero, List.drop_nil]
        simp only [Act.put, List.setIfInBounds_toArray, List.set_cons_succ, List.set_cons_zero]
        have hkw := ((Keep.refl NoB w3).drew).trans hk5
        have hb5 := hkw.obj HB3.out id
        have k0 := (cells_at hb5 0 _ rfl).1
        have k1 := (cells_at hb5 1 _ rfl).1
        have z0 := (cells_at hb5 0 _ rfl).2
        have z1 := (cells_at hb5 1 _ rfl).2
        have HKW := Lib.hid hkw
        have HB5 := Lib.hid hb5
        clear hc5 hk5 hkw hb5 f0 f1 g0 g1
        go_wp2_with fail
        go_roundg (s.length - (k + 1))
        case measure => omega
        case rel =>
          have hs5 := HKW.out.size
          have hkT : ∀ a b, Keep (fun j => W0.heap.size ≤ j) w3 ((w5.setCell ⟨W0.heap.size, 0, none⟩ a).setCell ⟨W0.heap.size, 1, none⟩ b) := fun a b => (((HKW.out.mono (S' := fun j => W0.heap.size ≤ j) fun _ _ h => h.elim).setCell (p := ⟨W0.heap.size, 0, none⟩) (fun _ => Nat.le_refl _) _).setCell (p := ⟨W0.heap.size, 1, none⟩) (fun _ => Nat.le_refl _) _)
          refine ⟨k + 1, hlt, rfl, by simp, ?_, ?_, fun j hj => ?_, ?_⟩
          · rw [HCT.out, ← HQ2.out, ← HR2.out]
            exact set2 HB5.out
          · rw [← HTK.out]
            exact HJ.out _ _ _ HJ3.out (hkT _ _)
          · exact ((hkT _ _).block j (by omega) (by omega)).trans (HL3.out j hj)
          · have := (hkT (.int .u64 q2) (.int .u64 r2)).size
            omega
      · gi_wp2
        go_wp2
        refine bodyPost_ret (results_none rfl _ _ _) rfl ?_
        exact ⟨⟨_, rfl⟩, .inr ⟨_, HPre.out, hJx3⟩⟩
    · obtain rfl : k = s.length := by omega
      go_wp2_with fail
      go_end0
      rw [List.take_of_length_le (by rw [rkL_len]; exact Nat.le_refl _)] at hJk
      exact ⟨⟨_, rfl⟩, .inl hJk⟩
theorem rkL_get : ∀ (n : Nat) (l : List Iv) (k : Nat), (rkL n l)[k]? = l[k]?.map fun s => (n + card (l.take k), s)
  | _, [], _ => by simp [rkL]
  | n, s :: l, 0 => by simp [rkL, card]
  | n, s :: l, k + 1 => by
    have := rkL_get (n + (s.hi - s.lo + 1)) l k
    simp only [rkL, List.getElem?_cons_succ, this, List.take_succ_cons, card]
    congr 1
    funext t
    simp only [Prod.mk.injEq, and_true]
    omega
theorem rkL_last {l : List Iv} {pre : List (Nat × Iv)} {x : Nat × Iv} (h : pre ++ [x] <+: rkL 0 l) : ∃ hk : pre.length < l.length, x = (card (l.take pre.length), l[pre.length]) := by
  obtain ⟨r, hr⟩ := h
  have h1 : (rkL 0 l)[pre.length]? = some x := by rw [← hr]; simp
  rw [rkL_get] at h1
  obtain ⟨s, hs, hx⟩ := Option.map_eq_some_iff.1 h1
  obtain ⟨hk, rfl⟩ := List.getElem?_eq_some_iff.1 hs
  exact ⟨hk, by rw [← hx, Nat.zero_add]⟩
set_option maxHeartbeats 4000000 in
theorem mcount_calls (C : Nat → Nat → Prop) (l : List Iv) (va : Value) (w : World) (hs : ∀ t ∈ l, t.lo ≤ t.hi ∧ t.hi < M64) (hll : l.length ≤ 1073741824) (hv : RdR 0 w.heap.size w va l) (hC : ∀ b o, C b o → b < w.heap.size) (hG : GL C w) (hWi : WidthOk C) (hPl : PlusOk C) :
    Calls Try.prog 90 #[va] w fun e w' => e = .returned (cwV (card l)) ∧ Below w.heap.size w w' := by
  have HV := Lib.hid hv
  have HSS := Lib.hid hs
  have HGL := Lib.hid hG
  have HWI := Lib.hid hWi
  have HPL := Lib.hid hPl
  obtain ⟨av, cap, rfl, _⟩ := hv
  clear hs hG hWi hPl
  refine callsIn_wide.1 (callsIn_of_wp_marks (n := 9) Try.func90 rfl trivial ?_ rfl)
  simp only [Try.ntmps90, List.size_toArray, List.length_cons, List.length_nil, Nat.reduceAdd, Nat.reduceSub, Array.replicate_succ, Array.replicate_zero, List.push_toArray, List.append_toArray, List.nil_append, List.cons_append]
  gi_wp2_with (refine ⟨trivial, ?_⟩; gi_at_call 106; refine (callsIn_wide.2 (ranks_any _ _ _ _)).mono ?_; rintro e w' ⟨rfl, rfl⟩)
  obtain ⟨W0, hW0⟩ : ∃ W0, (((w.alloc (Obj.cells #[Value.int IntKind.u64 0, Value.int IntKind.u64 0] 60)).alloc (Obj.cells #[Value.int IntKind.u64 0, Value.int IntKind.u64 0] 60)).alloc (Obj.cells #[Value.slice av l.length cap] 23)) = W0 := ⟨_, rfl⟩
  have hsz : W0.heap.size = w.heap.size + 3 := by rw [← hW0]; simp
  have b0 : W0.heap[w.heap.size]? = some (.cells #[Value.int IntKind.u64 0, Value.int IntKind.u64 0] 60 (0, 0)) := by rw [← hW0, Below.heap_alloc _ _ _ (by simp; omega), Below.heap_alloc _ _ _ (by simp)]; exact World.alloc_heap_new w _
  have b1 : W0.heap[w.heap.size + 1]? = some (.cells #[Value.int IntKind.u64 0, Value.int IntKind.u64 0] 60 (0, 0)) := by
    rw [← hW0, Below.heap_alloc _ _ _ (by simp)]
    have := World.alloc_heap_new (w.alloc (Obj.cells #[Value.int IntKind.u64 0, Value.int IntKind.u64 0] 60)) (Obj.cells #[Value.int IntKind.u64 0, Value.int IntKind.u64 0] 60)
    rwa [World.size_alloc] at this
  have b2 : Boxed W0 (w.heap.size + 1 + 1) 23 (Value.slice av l.length cap) := by
    rw [← hW0]
    have := Boxed.new ((w.alloc (Obj.cells #[Value.int IntKind.u64 0, Value.int IntKind.u64 0] 60)).alloc (Obj.cells #[Value.int IntKind.u64 0, Value.int IntKind.u64 0] 60)) 23 (Value.slice av l.length cap)
    simp only [World.size_alloc] at this
    exact this
  have hB0 : Below w.heap.size w W0 := by rw [← hW0]; exact (((Below.refl _ _).alloc (Nat.le_refl _) _).alloc (by simp) _).alloc (by simp; omega) _
  try simp only [World.size_alloc]
  rw [hW0]
  clear hW0
  refine rf_law2 (w := W0) 120 #[.pointer (some ⟨w.heap.size + 1 + 1, 0, none⟩)] rfl (enters_of Try.func120 (by kernel_rfl) rfl) encR (fun _ => rfl)
    (fun k => W0.heap.size + 2 ≤ k) (Keep (fun k => k = w.heap.size + 1 ∨ k = W0.heap.size + 1)) (rkL 0 l) ?hit
    (Keep (fun k => k = w.heap.size + 1)) (fun A B h k hk hlt => h.block k hlt (by omega)) (fun A B h => h.mono fun k _ h => .inl h)
    (fun A B C h1 h2 => h1.trans h2) (fun A B h _ => h.mono fun k _ h => .inr h) ⟨by omega, by omega⟩
    (fun pre W => W.heap[w.heap.size + 1]? = some (.cells #[.int .u64 (card (l.take pre.length) / M64 : Nat), .int .u64 (card (l.take pre.length) % M64 : Nat)] 60 (0, 0)) ∧ W.heap[w.heap.size]? = some (.cells #[.int .u64 0, .int .u64 0] 60 (0, 0)) ∧ Below w.heap.size w W)
    (fun _ _ _ => False) ?hI (fun _ _ _ _ h _ => h) ⟨by simpa [card] using b1, b0, hB0⟩
    (fun pre x a' W => (W.heap[w.heap.size + 1]? = some (.cells #[.int .u64 (card (l.take pre.length) / M64 : Nat), .int .u64 (card (l.take pre.length) % M64 : Nat)] 60 (0, 0)) ∧ W.heap[w.heap.size]? = some (.cells #[.int .u64 0, .int .u64 0] 60 (0, 0)) ∧ Below w.heap.size w W) ∧
      ∃ B4 B5, W.heap[B4]? = some (.cells #[.int .u64 (x.1 / M64 : Nat), .int .u64 (x.1 % M64 : Nat)] 60 (0, 0)) ∧ W.heap[B5]? = some (.cells #[.int .u64 (x.2.lo : Nat), .int .u64 (x.2.hi : Nat)] 30 (0, 0)) ∧ W0.heap.size + 2 ≤ B4 ∧ W0.heap.size + 2 ≤ B5 ∧
      a' = { tmps := #[Value.slice av l.length cap, undef, Value.pointer (some ⟨w.heap.size, 0, none⟩), Value.pointer (some ⟨w.heap.size + 1, 0, none⟩), Value.pointer (some ⟨B4, 0, none⟩), Value.pointer (some ⟨B5, 0, none⟩), Value.slice av l.length cap, Value.func (Fn.func 120) #[] #[Value.pointer (some ⟨w.heap.size + 1 + 1, 0, none⟩)], cwV x.1, .agg #[.int .u64 x.2.lo, .int .u64 x.2.hi], undef, undef, undef, undef, undef, undef, undef, undef], defers := [] })
    ?hAx ?hassign ?hbody ?hdone (fun _ _ _ _ h _ => h.elim)
  case hit =>
    intro W hk hWs
    have h := ranks1_at C (fun k => k = w.heap.size + 1 ∨ k = W0.heap.size + 1) l _ (w.heap.size + 1 + 1) w.heap.size W HSS.out hll (RdR.keep HV.out (Nat.le_refl _) (Nat.le_refl _) fun j _ hj => (hB0.trans (hk.below (by omega) fun _ _ => id)).block j hj) (hk.boxed b2 id) (by omega) (fun k hk => by omega) hC
      (HGL.out.mono (fun _ _ h => h) fun j o x hj hx => (World.cell?_of_block (a := ⟨j, o, none⟩) ((hB0.trans (hk.below (by omega) fun _ _ => id)).block j (hC j o hj))).trans hx) HWI.out HPL.out
    rw [hWs] at h
    exact h
  case hI =>
    rintro pre A B ⟨h1, h2, h3⟩ hk
    exact ⟨hk.obj h1 (by omega), hk.obj h2 (by omega), h3.trans (hk.below h3.size fun k hk => by omega)⟩
  case hAx =>
    rintro pre x a' A B ⟨⟨h1, h2, h3⟩, B4, B5, h4, h5, h6, h7, rfl⟩ hk
    exact ⟨⟨hk.obj h1 (by omega), hk.obj h2 (by omega), h3.trans (hk.below h3.size fun k hk => by omega)⟩, B4, B5, hk.obj h4 (by omega), hk.obj h5 (by omega), h6, h7, rfl⟩
  case hassign =>
    rintro lp pre ⟨n, s⟩ W hpx hlt ⟨h1, h2, h3⟩
    clear hpx
    dsimp only [encR, cwV]
    obtain ⟨qd, hqd⟩ : ∃ q, q = n / M64 := ⟨_, rfl⟩
    obtain ⟨rd, hrd⟩ : ∃ q, q = n % M64 := ⟨_, rfl⟩
    rw [← hqd, ← hrd]
    have HI := Lib.hid (And.intro h1 (And.intro h2 h3))
    clear h1 h2 h3 hqd hrd
    gi_wp2
    obtain ⟨h1, h2, h3⟩ := HI.out
    have hka : ∀ o1 o2 S, Keep S W ((W.alloc o1).alloc o2) := fun o1 o2 S => ((Keep.refl _ _).alloc _).alloc _
    refine ⟨hka _ _ _, ⟨(hka _ _ (fun _ => False)).obj h1 id, (hka _ _ (fun _ => False)).obj h2 id, (h3.alloc h3.size _).alloc (by simp; have := h3.size; omega) _⟩, W.heap.size, W.heap.size + 1, ?_, ?_, by omega, by omega, rfl⟩
    · exact (Below.heap_alloc _ _ _ (by simp)).trans (World.alloc_heap_new W _)
    · have := World.alloc_heap_new (W.alloc (.cells #[.int .u64 qd, .int .u64 rd] 60)) (.cells #[.int .u64 s.lo, .int .u64 s.hi] 30)
      rwa [World.size_alloc] at this
  case hbody =>
    rintro lp pre ⟨n, t⟩ a' W hpx hlt ⟨⟨h1, h2, h3⟩, B4, B5, h4, h5, h6, h7, rfl⟩
    obtain ⟨hk, hx⟩ := rkL_last hpx
    have ht : t = l[pre.length] := (Prod.mk.inj hx).2
    have hm : n = card (l.take pre.length) := (Prod.mk.inj hx).1
    dsimp only at h4 h5
    have hsk := HSS.out t (by rw [ht]; exact List.getElem_mem hk)
    have hcard := card_lt (l := l.take pre.length) (fun t ht => HSS.out t (List.mem_of_mem_take ht))
    have hcard2 : n ≤ 1073741824 * M64 := by rw [hm]; exact Nat.le_trans hcard (Nat.mul_le_mul_right _ (by simp; omega))
    have hct := card_takeR hk
    rw [← ht, ← hm] at hct
    obtain ⟨qd, hqd⟩ : ∃ q, q = n / M64 := ⟨_, rfl⟩
    obtain ⟨rd, hrd⟩ : ∃ q, q = n % M64 := ⟨_, rfl⟩
    have hcm2 : cwV n = .agg #[.int .u64 qd, .int .u64 rd] := by rw [hqd, hrd]; rfl
    rw [← hqd, ← hrd] at h4
    rw [hcm2]
    have f0 := (cells_at h4 0 _ rfl).1
    have f1 := (cells_at h4 1 _ rfl).1
    have g0 := (cells_at h5 0 _ rfl).1
    have g1 := (cells_at h5 1 _ rfl).1
    have HI := Lib.hid (And.intro h1 (And.intro h2 h3))
    have HCM := Lib.hid hcm2
    have HCT := Lib.hid hct
    have hszW := h3.size
    have hgl : ∀ w', Keep NoB W w' → GL C w' ∧ ∀ b o, C b o → b < w'.heap.size := fun w' hk' => ⟨HGL.out.mono (fun _ _ h => h) fun j o x hj hx => (World.cell?_of_block (a := ⟨j, o, none⟩) ((hk'.block j (by have := hC j o hj; omega) id).trans (h3.block j (hC j o hj)))).trans hx, fun b o h => by have := hC b o h; have := hk'.size; omega⟩
    have HGK := Lib.hid hgl
    clear h1 h2 h3 h4 h5 hpx hx ht hm hcard hct hqd hrd hcm2 hgl
    gi_wp2_with fail
    refine regGIn (fun _ => trivial) 7 18 (fun w' => w'.cell? ⟨B4, 0, none⟩ = some (.int .u64 (qd : Nat)) ∧ w'.cell? ⟨B4, 1, none⟩ = some (.int .u64 (rd : Nat)) ∧ w'.cell? ⟨B5, 0, none⟩ = some (.int .u64 (t.lo : Nat)) ∧ w'.cell? ⟨B5, 1, none⟩ = some (.int .u64 (t.hi : Nat))) (by kernel_rfl) (by kernel_rfl) rfl ⟨f0, f1, g0, g1⟩ ?_
    simp only [List.take_succ_cons, List.take_zero]
    repeat (first
      | (refine wdetI (fun _ => trivial) ?_ rfl (fun a w hc _ hr => ?_) ?_; rotate_left; (simp [Rds, rdsO, lk, Op.operands, Call.operands, RdEq] at hr; go_simp; with_reducible rfl); dsimp only [List.nil_append, List.cons_append])
      | (refine wskip rfl ?_ ?_; (first | exact .inl (isV_eq rfl rfl) | exact .inr (isV_eq rfl rfl)); dsimp only [List.nil_append, List.cons_append])
      | (refine wdetgI (fun _ => trivial) rfl ?_ ?_ (fun a w hc _ hr => ?_) ?_; exact (isV_eq rfl rfl); rotate_left; (simp [Rds, rdsO, lk, Op.operands, Call.operands, RdEq] at hr; go_simp; with_reducible rfl); dsimp only [List.nil_append, List.cons_append]))
    refine wgen (fun u _ => u = (cwV (t.hi - t.lo + 1))) (eqV_stab _) rfl ?_ ?_
    · intro a2 w2 hc hk hr K hK
      have HK := Lib.hid hK
      clear hK
      simp [Rds, rdsO, lk, Op.operands, Call.operands, RdEq] at hr
      refine ⟨fun _ _ => trivial, ?_⟩
      go_simp
      have hkw := ((Keep.refl NoB W).drew).trans hk
      refine CallsIn.mono (CallsIn.inRound lp (callsIn_wide.2 (HWI.out w2 t.lo t.hi (HGK.out _ hkw).2 (HGK.out _ hkw).1 hsk.1 hsk.2))) ?_
      rintro e w4 ⟨rfl, hb⟩
      have hkb : Keep NoB w2 w4 := Keep.of_below' hb (Nat.le_refl _)
      exact HK.out _ _ hkb ⟨hkb.cell_some hc.1 id, hkb.cell_some hc.2.1 id, hkb.cell_some hc.2.2.1 id, hkb.cell_some hc.2.2.2 id⟩ rfl
    dsimp only [List.nil_append, List.cons_append]
    repeat (first
      | (refine wdetI (fun _ => trivial) ?_ rfl (fun a w hc _ hr => ?_) ?_; rotate_left; (simp [Rds, rdsO, lk, Op.operands, Call.operands, RdEq] at hr; go_simp; with_reducible rfl); dsimp only [List.nil_append, List.cons_append])
      | (refine wskip rfl ?_ ?_; (first | exact .inl (isV_eq rfl rfl) | exact .inr (isV_eq rfl rfl)); dsimp only [List.nil_append, List.cons_append])
      | (refine wdetgI (fun _ => trivial) rfl ?_ ?_ (fun a w hc _ hr => ?_) ?_; exact (isV_eq rfl rfl); rotate_left; (simp [Rds, rdsO, lk, Op.operands, Call.operands, RdEq] at hr; go_simp; with_reducible rfl); dsimp only [List.nil_append, List.cons_append]))
    obtain ⟨q2, hq2⟩ : ∃ q, q = (n + (t.hi - t.lo + 1)) / M64 := ⟨_, rfl⟩
    obtain ⟨r2, hr2⟩ : ∃ q, q = (n + (t.hi - t.lo + 1)) % M64 := ⟨_, rfl⟩
    have hcm3 : cwV (n + (t.hi - t.lo + 1)) = .agg #[.int .u64 q2, .int .u64 r2] := by rw [hq2, hr2]; rfl
    have HC3 := Lib.hid hcm3
    have HQ2 := Lib.hid hq2
    have HR2 := Lib.hid hr2
    clear hcm3 hq2 hr2
    refine wgen (fun u _ => u = (.agg #[.int .u64 (q2 : Nat), .int .u64 (r2 : Nat)])) (eqV_stab _) rfl ?_ ?_
    · intro a2 w2 hc hk hr K hK
      have HK := Lib.hid hK
      clear hK
      simp [Rds, rdsO, lk, Op.operands, Call.operands, RdEq] at hr
      refine ⟨fun _ _ => trivial, ?_⟩
      go_simp
      have hkw := ((Keep.refl NoB W).drew).trans hk
      have hp := HPL.out w2 n (t.hi - t.lo + 1) (HGK.out _ hkw).2 (HGK.out _ hkw).1 (by simp only [M64_val] at *; omega) (by simp only [M64_val] at *; omega)
      rw [HCM.out, HC3.out] at hp
      refine CallsIn.mono (CallsIn.inRound lp (callsIn_wide.2 hp)) ?_
      rintro e w4 ⟨rfl, hb⟩
      have hkb : Keep NoB w2 w4 := Keep.of_below' hb (Nat.le_refl _)
      exact HK.out _ _ hkb ⟨hkb.cell_some hc.1 id, hkb.cell_some hc.2.1 id, hkb.cell_some hc.2.2.1 id, hkb.cell_some hc.2.2.2 id⟩ rfl
    dsimp only [List.nil_append, List.cons_append]
    repeat (first
      | (refine wdetI (fun _ => trivial) ?_ rfl (fun a w hc _ hr => ?_) ?_; rotate_left; (simp [Rds, rdsO, lk, Op.operands, Call.operands, RdEq] at hr; go_simp; with_reducible rfl); dsimp only [List.nil_append, List.cons_append])
      | (refine wskip rfl ?_ ?_; (first | exact .inl (isV_eq rfl rfl) | exact .inr (isV_eq rfl rfl)); dsimp only [List.nil_append, List.cons_append])
      | (refine wdetgI (fun _ => trivial) rfl ?_ ?_ (fun a w hc _ hr => ?_) ?_; exact (isV_eq rfl rfl); rotate_left; (simp [Rds, rdsO, lk, Op.operands, Call.operands, RdEq] at hr; go_simp; with_reducible rfl); dsimp only [List.nil_append, List.cons_append]))
    intro w5 hc5 hk5
    simp only [finG, forall_eq, List.nil_append, List.cons_append, List.drop_succ_cons, List.drop_zero, List.drop_nil]
    simp only [Act.put, List.setIfInBounds_toArray, List.set_cons_succ, List.set_cons_zero]
    have hkw := ((Keep.refl NoB W).drew).trans hk5
    have hb5 := hkw.obj HI.out.1 id
    have k0 := (cells_at hb5 0 _ rfl).1
    have k1 := (cells_at hb5 1 _ rfl).1
    have z0 := (cells_at hb5 0 _ rfl).2
    have z1 := (cells_at hb5 1 _ rfl).2
    have HKW := Lib.hid hkw
    have HB5 := Lib.hid hb5
    clear hc5 hk5 hkw hb5 f0 f1 g0 g1
    gi_wp2
    have hkT : ∀ a b, Keep (fun j => j = w.heap.size + 1) W ((w5.setCell ⟨w.heap.size + 1, 0, none⟩ a).setCell ⟨w.heap.size + 1, 1, none⟩ b) := fun a b => (((HKW.out.mono (S' := fun j => j = w.heap.size + 1) fun _ _ h => h.elim).setCell (p := ⟨w.heap.size + 1, 0, none⟩) (fun _ => rfl) _).setCell (p := ⟨w.heap.size + 1, 1, none⟩) (fun _ => rfl) _)
    refine ⟨hkT _ _, ?_, (hkT _ _).obj HI.out.2.1 (by omega), HI.out.2.2.trans ((hkT _ _).below hszW fun k hk => by omega)⟩
    rw [List.length_append, List.length_singleton, HCT.out, ← HQ2.out, ← HR2.out]
    exact set2 HB5.out
  case hdone =>
    rintro W ⟨h1, h2, h3⟩ hD
    rw [rkL_len, List.take_length] at h1
    obtain ⟨qd, hqd⟩ : ∃ q, q = card l / M64 := ⟨_, rfl⟩
    obtain ⟨rd, hrd⟩ : ∃ q, q = card l % M64 := ⟨_, rfl⟩
    have hcv : cwV (card l) = .agg #[.int .u64 qd, .int .u64 rd] := by rw [hqd, hrd]; rfl
    have HCV := Lib.hid hcv
    rw [← hqd, ← hrd] at h1
    clear hqd hrd hcv
    have c0 := (cells_at h1 0 _ rfl).1
    have c1 := (cells_at h1 1 _ rfl).1
    have d0 := (cells_at h2 0 _ rfl).1
    have d1 := (cells_at h2 1 _ rfl).1
    have z0 := (cells_at h2 0 _ rfl).2
    have z1 := (cells_at h2 1 _ rfl).2
    gi_wp2
    have hw2 := set2 (a := .int .u64 (qd : Nat)) (b := .int .u64 (rd : Nat)) h2
    have hD2 : ((W.setCell ⟨w.heap.size, 0, none⟩ (.int .u64 (qd : Nat))).setCell ⟨w.heap.size, 1, none⟩ (.int .u64 (rd : Nat))).heap[W0.heap.size]? = some (.deferred (some [])) := by
      rw [Below.heap_setCell _ _ _ _ (by show W0.heap.size ≠ w.heap.size; omega), Below.heap_setCell _ _ _ _ (by show W0.heap.size ≠ w.heap.size; omega)]
      exact hD
    refine ⟨by simp, .inl ⟨_, _, rfl, run_takeDeferred hD2, ?_⟩⟩
    have hkD := (((Keep.refl (fun k => w.heap.size ≤ k) W).setCell (p := ⟨w.heap.size, 0, none⟩) (fun _ => Nat.le_refl _) (.int .u64 (qd : Nat))).setCell (p := ⟨w.heap.size, 1, none⟩) (fun _ => Nat.le_refl _) (.int .u64 (rd : Nat))).putObj (l := W0.heap.size) (fun _ => by omega) (.deferred none)
    rw [HCV.out]
    exact ⟨_, results_cell_row rfl _ _ w.heap.size _ _ _ _ rfl ((World.putObj_heap_other (by omega)).trans hw2) Try.underlying60 rfl (by kernel_rfl), rfl, h3.trans (hkD.below h3.size fun k hk => by omega)⟩
end Go.Proofs.Ytcedofkenfddkaa
