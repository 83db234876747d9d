/- Texts of this claim, bound together: Q8 RefA Nun Pf Q10 Px. -/
import Derived.BigQuiet
import Derived.Deep.QuietTactic
import Derived.Test.YtcedofkenfddkaaDoorB6
/- The operations on entries: what their results know, and the laws of chapter 8, without program. No condition. -/
namespace Go.Proofs.YtcedofkenfddkaaDoor
set_option linter.unusedVariables false
set_option linter.unusedSimpArgs false
variable {f : Bool → Bool → Bool} {a b c : En}
/-- What is known by an entry with another counter. -/
def below (c : Nat) : List Iv := if c = 0 then [] else [⟨0, c - 1⟩]
/-! ### the algebra -/
end Go.Proofs.YtcedofkenfddkaaDoor
/- The contracts of the references of the layers 3 and 4: Right, Relate, Check, Same. No condition but that the numbers are of 64 bits. -/
namespace Go.Proofs.YtcedofkenfddkaaDoor
set_option linter.unusedVariables false
set_option linter.unusedSimpArgs false
open Go.RowKit



/-- The error and the index of a list's check. -/
def chkL : Option Iv → List Iv → Nat → Nat × Int
  | _, [], _ => (0, -1)
  | p, s :: l, i => if s.lo ≤ s.hi then (if (match p with | none => 0 | some q => relate q s) = 0 then chkL (some s) l (i + 1) else (3, (i : Int))) else (2, (i : Int))
def chk (l : List Iv) : Nat × Int := chkL none l 0
theorem chkL_nf : ∀ (l : List Iv) (p : Option Iv) (i : Nat), (∀ s ∈ l, s.hi < M64) → ((chkL p l i).1 = 0 ↔ match p with | none => NF 0 l | some q => (∀ s ∈ l, s.lo ≤ s.hi → relate q s = 0 ∨ True) ∧ (l = [] ∨ ∃ s r, l = s :: r ∧ s.lo ≤ s.hi ∧ relate q s = 0 ∧ NF (s.hi + 2) r))
  | [], p, i, _ => by cases p <;> simp [chkL, NF]
  | s :: l, p, i, hb => by
    have ih := chkL_nf l (some s) (i + 1) (fun t ht => hb t (by simp [ht]))
    have hs := hb s (by simp)
    have key : (chkL (some s) l (i + 1)).1 = 0 ↔ NF (s.hi + 2) l := by
      rw [ih]
      constructor
      · rintro ⟨_, rfl | ⟨t, r, rfl, h1, h2, h3⟩⟩
        · trivial
        · refine ⟨?_, h1, hb t (by simp), h3⟩
          unfold relate at h2
          split at h2
          · split at h2
            · cases h2
            · omega
          · split at h2
            · split at h2 <;> cases h2
            · cases h2
      · intro h
        refine ⟨fun _ _ _ => .inr trivial, ?_⟩
        cases l with
        | nil => exact .inl rfl
        | cons t r =>
          have := h.1
          exact .inr ⟨t, r, rfl, h.2.1, by unfold relate; rw [if_pos (by omega), if_neg (by omega)], h.2.2.2⟩
    unfold chkL
    by_cases h1 : s.lo ≤ s.hi
    · rw [if_pos h1]
      cases p with
      | none =>
        simp only [if_true]
        rw [key]
        exact ⟨fun h => ⟨Nat.zero_le _, h1, hs, h⟩, fun h => h.2.2.2⟩
      | some q =>
        simp only
        by_cases h2 : relate q s = 0
        · rw [if_pos h2, key]
          exact ⟨fun h => ⟨fun _ _ _ => .inr trivial, .inr ⟨s, l, rfl, h1, h2, h⟩⟩, fun h => by
            rcases h.2 with h | ⟨t, r, e, _, _, h⟩
            · cases h
            · cases e; exact h⟩
        · rw [if_neg h2]
          simp
          intro _ h; exact absurd h h2
    · rw [if_neg h1]
      cases p with
      | none => simp [NF, h1]
      | some q =>
        simp
        intro h; exact absurd h h1
theorem chk_nrm {l : List Iv} (h : ∀ s ∈ l, s.hi < M64) : (chk l).1 = 0 ↔ Nrm l := chkL_nf l none 0 h
theorem chkL_step {l : List Iv} {k : Nat} {p : Option Iv} (h : k < l.length) : chkL p (l.drop k) k = if l[k].lo ≤ l[k].hi then (if (match p with | none => 0 | some q => relate q l[k]) = 0 then chkL (some l[k]) (l.drop (k + 1)) (k + 1) else (3, (k : Int))) else (2, (k : Int)) := by
  rw [List.drop_eq_getElem_cons h]; rfl


end Go.Proofs.YtcedofkenfddkaaDoor
/- The contract of vector.Numbers: it returns, in memory of its own, the numbers of a vector. -/
namespace Go.Proofs.YtcedofkenfddkaaDoor
set_option linter.unusedVariables false
set_option linter.unusedSimpArgs false
open Go.RowKit
attribute [local go_sem] Oper.semAt_some
set_option maxRecDepth 100000
theorem numbers_any (a : Option Addr) (n c : Nat) (w : World) : Calls Tryd.prog 94 #[.slice a n c] w fun e w' => e = .returned (.func (.func 117) #[] #[.pointer (some ⟨w.heap.size, 0, none⟩)]) ∧ w' = w.alloc (.cells #[.slice a n c] 54) := by
  go_enter Tryd.func94, Tryd.ntmps94
  go_wp2
  go_ret
  exact ⟨rfl, rfl⟩
/-- A list of numbers that the call itself has made. -/
def OwnN (base : Nat) (w : World) (v : Value) (xs : List Nat) : Prop := w.ownsRow base 24 1 v xs.length (xs.map fun x => .int .u64 (x : Nat))
theorem OwnN.nil (base : Nat) (w : World) : OwnN base w (.slice none 0 0) [] := World.ownsRow_nil _ _ _ _
theorem OwnN.keep {base : Nat} {S : Nat → Prop} {w w' : World} {v : Value} {l : List Nat} (h : OwnN base w v l) (hb : Keep S w w') (hs : ∀ g, base ≤ g → g < w.heap.size → ¬ S g) : OwnN base w' v l :=
  hb.ownsRow h fun g hg => hs g (h.lt g hg).1 (h.lt g hg).2
theorem OwnN.mono {base base' : Nat} {w : World} {v : Value} {l : List Nat} (h : OwnN base w v l) (hb : base' ≤ base) : OwnN base' w v l := by
  refine ⟨h.1, ?_⟩
  rcases h.2 with hn | ⟨g, cap, cur, hv, hg, r⟩
  · exact .inl hn
  · exact .inr ⟨g, cap, cur, hv, Nat.le_trans hb hg, r⟩
/-- What a round may touch: the variable of the result, and rows of numbers. -/
def SN (n0 : Nat) (A B : World) : Prop := (∃ v, Boxed A n0 60 v) ∧ Keep (fun k => k = n0 ∨ (n0 + 4 ≤ k ∧ ∃ cs f, A.heap[k]? = some (.cells cs 24 f))) A B
theorem SN.pt {n0 : Nat} {A B : World} (h : SN n0 A B) : PtE n0 (n0 + 1) A B := by
  obtain ⟨⟨v, hv⟩, hk⟩ := h
  refine ⟨hk.size, fun k hlt hc => hk.block k hlt ?_⟩
  rintro (rfl | ⟨h4, cs, f, hcs⟩)
  · rcases hc with hc | hc | ⟨cs, f, t, hc, ht⟩
    · omega
    · omega
    · have hv' : A.heap[k]? = some (.cells #[v] 60 (0, 0)) := hv
      rw [hv'] at hc
      cases hc
      rcases ht with ht | ht <;> cases ht
  · rcases hc with hc | hc | ⟨cs2, f2, t, hc, ht⟩
    · omega
    · omega
    · rw [hcs] at hc
      cases hc
      rcases ht with ht | ht <;> cases ht
theorem nums_appended {W w1 : World} {n0 : Nat} {v v' : Value} {xs ys : List Nat} {tmp : Obj}
    (hv : Boxed W n0 60 v) (hrow : OwnN (n0 + 4) W v xs) (hown' : w1.ownsRow (n0 + 4) 24 1 v' ys.length (ys.map fun x => .int .u64 (x : Nat))) (hgrow : (W.alloc tmp).grownBy w1 v.ownBlock) :
    Boxed (w1.setCell ⟨n0, 0, none⟩ v') n0 60 v' ∧ OwnN (n0 + 4) (w1.setCell ⟨n0, 0, none⟩ v') v' ys ∧ SN n0 W (w1.setCell ⟨n0, 0, none⟩ v') := by
  have hte : 60 ≠ 24 := by decide
  obtain ⟨h1, h2, h3, h4⟩ := box_appended hv hte hrow hown' hgrow
  refine ⟨h2, h3, ⟨v, hv⟩, ?_⟩
  refine Keep.setCell (p := ⟨n0, 0, none⟩) ?_ (fun _ => .inl rfl) _
  refine ((Keep.refl _ W).alloc tmp).grown hgrow fun j ej _ => .inr ⟨(hrow.lt j ej).1, ?_⟩
  rcases hrow.2 with ⟨rfl, _⟩ | ⟨g, cap, cur, rfl, hg, hh, _⟩
  · cases ej
  · have : g = j := by simpa [Value.ownBlock] using ej
    subst this
    exact ⟨_, _, hh⟩
theorem Tryd.infoU : (Tryd.prog.info? 24).map (fun i => (i.zero, i.size, i.bytes)) = some (some (Value.int .u64 0), 1, 8) := by kernel_rfl
set_option maxHeartbeats 4000000 in
theorem numbers_calls (v : List En) (va : Value) (w : World) (hv : RdV w.heap.size w va v) (hlen : (nums v).length ≤ 1073741824) :
    Calls Tryd.prog 53 #[va] w fun e w' => ∃ u, e = .returned u ∧ OwnN w.heap.size w' u (nums v) ∧ Below w.heap.size w w' := by
  have HV := Lib.hid hv
  obtain ⟨av, cap, rfl, _⟩ := hv
  refine callsIn_wide.1 (callsIn_of_wp_marks (n := 9) Tryd.func53 rfl trivial ?_ rfl)
  simp only [Tryd.ntmps53, List.size_toArray, List.length_cons, List.length_nil, Nat.reduceAdd, Nat.reduceSub, Array.replicate_succ, Array.replicate_zero, List.push_toArray, List.append_toArray, List.nil_append, List.cons_append]
  gi_wp2_with (refine ⟨trivial, ?_⟩; gi_at_call 94; refine (callsIn_wide.2 (numbers_any _ _ _ _)).mono ?_; rintro e w' ⟨rfl, rfl⟩)
  obtain ⟨W0, hW0⟩ : ∃ W0, ((w.alloc (Obj.cells #[Value.slice none 0 0] 60)).alloc (Obj.cells #[Value.slice av v.length cap] 54)) = W0 := ⟨_, rfl⟩
  have hsz : W0.heap.size = w.heap.size + 2 := by rw [← hW0]; simp
  have b0 : Boxed W0 w.heap.size 60 (Value.slice none 0 0) := by rw [← hW0]; exact (Boxed.new w _ _).alloc _
  have b1 : Boxed W0 (w.heap.size + 1) 54 (Value.slice av v.length cap) := by rw [← hW0]; have := Boxed.new (w.alloc (Obj.cells #[Value.slice none 0 0] 60)) 54 (Value.slice av v.length cap); rw [World.size_alloc] at this; exact this
  have hB0 : Below w.heap.size w W0 := by rw [← hW0]; exact ((Below.refl _ _).alloc (Nat.le_refl _) _).alloc (by simp) _
  try simp only [World.size_alloc]
  rw [hW0]
  clear hW0
  refine rf_law2 (w := W0) 117 #[.pointer (some ⟨w.heap.size + 1, 0, none⟩)] rfl (enters_of Tryd.func117 (by kernel_rfl) rfl) (fun x : Nat => #[.int .u64 x]) (fun _ => rfl)
    (fun _ => False) (PtE w.heap.size (w.heap.size + 1)) (nums v) ?hit
    (SN w.heap.size) (fun A B h k hk hlt => h.2.block k hlt (by rintro (e | ⟨e, _⟩) <;> omega)) (fun A B h => h.pt)
    ?hPt ?hPt0 ⟨id, id⟩
    (fun pre W => (∃ u, Boxed W w.heap.size 60 u ∧ OwnN (w.heap.size + 4) W u pre) ∧ Below w.heap.size w W)
    (fun _ _ _ => False) ?hI (fun _ _ _ _ h _ => h) ⟨⟨_, b0, OwnN.nil _ _⟩, hB0⟩
    (fun pre x a' W => ((∃ u, Boxed W w.heap.size 60 u ∧ OwnN (w.heap.size + 4) W u pre) ∧ Below w.heap.size w W) ∧
      a' = { tmps := #[Value.slice av v.length cap, undef, Value.slice none 0 0, Value.pointer (some ⟨w.heap.size, 0, none⟩), .int .u64 (x : Nat), Value.slice av v.length cap, Value.func (Fn.func 117) #[] #[Value.pointer (some ⟨w.heap.size + 1, 0, none⟩)], .int .u64 (x : Nat), undef, undef, undef, undef, undef], defers := [] })
    ?hAx ?hassign ?hbody ?hdone (fun _ _ _ _ h _ => h.elim)
  case hit =>
    intro W hk _
    exact numbers1_at v _ (w.heap.size + 1) w.heap.size W (RdV.keep HV.out fun k hk2 => ((hB0.trans (hk.below (by omega) fun _ _ => id)).block k hk2)) (hk.boxed b1 id) (by have := hk.size; omega)
  case hPt =>
    rintro A B C ⟨h1, h2⟩ ⟨h3, h4⟩
    refine ⟨Nat.le_trans h1 h3, fun k hk hc => ?_⟩
    have e1 := h2 k hk hc
    refine (h4 k (by omega) ?_).trans e1
    rcases hc with hc | hc | ⟨cs, f, t, hc, ht⟩
    · exact .inl hc
    · exact .inr (.inl hc)
    · exact .inr (.inr ⟨cs, f, t, by rw [e1]; exact hc, ht⟩)
  case hPt0 =>
    rintro A B hk ⟨o, ho⟩
    refine ⟨hk.size, fun k hlt hc => hk.block k hlt ?_⟩
    rintro rfl
    rcases hc with hc | hc | ⟨cs, f, t, hc, ht⟩
    · omega
    · omega
    · rw [ho] at hc; cases hc
  case hI =>
    rintro pre A B ⟨⟨u, h1, h2⟩, h3⟩ hk0
    have hk : Keep (fun k => k = W0.heap.size ∨ k = W0.heap.size + 1) A B := hk0.mono fun _ _ h => h.elim False.elim id
    exact ⟨⟨u, hk.boxed h1 (by omega), h2.keep hk (fun g hg _ => by omega)⟩, h3.trans (hk.below h3.size fun k hk => by omega)⟩
  case hAx =>
    rintro pre x a' A B ⟨⟨⟨u, h1, h2⟩, h3⟩, rfl⟩ hk
    exact ⟨⟨⟨u, hk.boxed h1 (by omega), h2.keep hk (fun g hg _ => by omega)⟩, h3.trans (hk.below h3.size fun k hk => by omega)⟩, rfl⟩
  case hassign =>
    rintro l pre x W hpx hlt ⟨⟨u, h1, h2⟩, h3⟩
    clear hpx
    gi_wp2
    exact ⟨⟨⟨u, h1⟩, Keep.refl _ _⟩, ⟨⟨u, h1, h2⟩, h3⟩, trivial⟩
  case hbody =>
    rintro l pre x a' W hpx hlt ⟨⟨⟨u, h1, h2⟩, h3⟩, rfl⟩
    have hc := h1.cell
    have hf := h1.frozen
    obtain ⟨i0, hi0, hz0, hz1, hz2⟩ := info_parts Tryd.infoU
    have hl : pre.length + 1 ≤ (nums v).length := by have := hpx.length_le; simpa using this
    gi_wp2_with (gi_at_builtin; refine wpListIn_append_own _ rfl _ _ 60 rfl (w.heap.size + 4) 24 i0 (.int .u64 0) 1 8 Tryd.underlying60 hi0 hz0 hz1 hz2 rfl (by decide) _ _ _ rfl (h2.alloc _) ⟨W.heap.size, 0, none⟩ 1 1 [.int .u64 (x : Nat)] rfl rfl (news_at (cs := #[.int .u64 (x : Nat)]) (t := 24) (fr := (0, 0)) (World.alloc_heap_new W _)) (by simp [Value.oneCell']) (by unfold maxLen; omega) (by omega) (by rw [World.size_alloc]; omega) ?_; intro v' w3 hown' hgrow _; obtain ⟨g', cap', rfl⟩ := ownsRow_succ hown'; obtain ⟨q2, q3, q4⟩ := nums_appended (ys := pre ++ [x]) h1 h2 (by simpa using hown') hgrow; have q1c := (box_appended h1 (by decide) h2 hown' hgrow).1.cell; have q1f := (box_appended h1 (by decide) h2 hown' hgrow).1.frozen)

    exact ⟨q4, ⟨_, q2, q3⟩, h3.trans (q4.2.below h3.size fun k hk => by rintro (e | ⟨e, _⟩) <;> omega)⟩
  case hdone =>
    rintro W ⟨⟨u, h1, h2⟩, h3⟩ hD
    have hc := h1.cell
    gi_wp2
    refine ⟨by simp, .inl ⟨_, _, rfl, run_takeDeferred hD, ?_⟩⟩
    have hkD : Keep (fun k => k = W0.heap.size) W (W.putObj W0.heap.size (.deferred none)) := (Keep.refl (fun k => k = W0.heap.size) W).putObj (fun _ => rfl) _
    exact ⟨_, results_tmp rfl _ _ _, u, rfl, OwnN.mono (h2.keep hkD fun g hg _ => by omega) (by omega), h3.trans (hkD.below h3.size fun k hk => by omega)⟩
end Go.Proofs.YtcedofkenfddkaaDoor
/- A function keeps its contract if what is asked of its text holds; and what a contract says of the machine. No condition. -/
namespace Go.Proofs.YtcedofkenfddkaaDoor
set_option linter.unusedVariables false
set_option linter.unusedSimpArgs false
open Go.RowKit
variable {P : Program}

def enumP : Nat → List PV → List (Nat × PV)
  | _, [] => []
  | k, p :: ps => (k, p) :: enumP (k + 1) ps
theorem lkp_enum : ∀ (ps : List PV) (k i : Nat), lkp (enumP k ps) i = if k ≤ i then ps.getD (i - k) .und else .und
  | [], k, i => by simp [enumP, lkp]
  | p :: ps, k, i => by
    simp only [enumP, lkp]
    by_cases h : k = i
    · subst h; simp
    · rw [if_neg h, lkp_enum ps (k + 1) i]
      by_cases h2 : k + 1 ≤ i
      · rw [if_pos h2, if_pos (by omega)]
        obtain ⟨d, hd⟩ : ∃ d, i - k = d + 1 := ⟨i - k - 1, by omega⟩
        rw [hd, show i - (k + 1) = d from by omega]
        rfl
      · rw [if_neg h2, if_neg (by omega)]
def PV.resD : PV → Bool
  | .agg cs => allD cs
  | p => p.isD
def tupV : List Value → Value
  | [u] => u
  | us => .tuple us.toArray
/-- Where a result lies: in a slot, or in a variable of the call's own (whether a struct, its cells). -/
inductive RV where
  | t (i : Nat)
  | c (i : Nat) (ag : Bool) (n : Nat)
def RV.get (s : PS) : RV → Option PV
  | .t i => some (s.get i)
  | .c i ag n => match s.get i with
    | .bx j o => match s.b[j]? with
      | some cs => match ag with
        | true => if o + n ≤ cs.length then some (.agg ((cs.drop o).take n)) else none
        | false => cs[o]?
      | none => none
    | _ => none
def rvs (s : PS) : List RV → Option (List PV)
  | [] => some []
  | r :: l => (r.get s).bind fun p => (rvs s l).map fun ps => p :: ps
/-- What a function returns. -/
def RetOk (rs : List RV) (s : PS) (r : PV) : Prop := match rs with
  | [.t t] => SubP 0 (s.get t) r
  | [x] => match x.get s with
    | some p => p.resD = true ∧ SubP 0 p.sh r ∧ r.own = none
    | none => False
  | rs => match rvs s rs with
    | some ps => ps.all PV.resD = true ∧ SubP 0 (.tup (ps.map PV.sh)) r
    | none => False
def postF (rs : List RV) (r : PV) : PX → PS → Prop
  | .x _, _ => False
  | _, s => RetOk rs s r
def compR (P : Program) : ResultVar → Option RV
  | .tmp t => some (.t t)
  | .cell a t => (shp P t).bind fun (ag, n) => if ag || n == 1 then some (.c a ag n) else none
def compRs (P : Program) : List ResultVar → Option (List RV)
  | [] => some []
  | r :: l => (compR P r).bind fun x => (compRs P l).map fun xs => x :: xs
section
variable {B : Bs} {nt : Nat} {g : Gh} {s : PS} {a : Act} {w : World}
def resRun (tmps : Array Value) : ResultVar → Sem Value
  | .tmp t => pure (tmps.getD t undef)
  | .cell a t => do loadVar t (← asAddr (tmps.getD a undef))
/-- A result's value. -/
theorem rv_one (h : R B g s (slt a) w) {rv : ResultVar} {x : RV} {p : PV} (hc : compR P rv = some x) (hg : x.get s = some p) (hd : p.resD = true) : ∃ u, (resRun a.tmps rv).run P w = .ok u w ∧ Dat g.D w u p.sh := by
  cases rv with
  | tmp t =>
    cases hc
    simp only [RV.get, Option.some.injEq] at hg
    subst hg
    have hD : (s.get t).isD = true := by
      revert hd
      cases s.get t <;> intro hd <;> first | exact hd | rfl
    exact ⟨_, rfl, ((h.slots t).data hD).sh⟩
  | cell i t =>
    simp only [compR, Option.bind_eq_some_iff] at hc
    obtain ⟨⟨ag, n⟩, hs, hc⟩ := hc
    simp only at hc
    split at hc
    · rename_i hcond
      cases hc
      simp only [RV.get] at hg
      split at hg
      · rename_i j o e
        have hr := h.slots i
        rw [e] at hr
        obtain ⟨hj, e1⟩ := hr.inv_bx
        split at hg
        · rename_i cs hcs
          obtain ⟨hW, vs, e', hv, hz, hb⟩ := h.boxes j cs hcs
          have hcell : ∀ k, k < cs.length → w.cell? ⟨g.ρ j, 0 + k, none⟩ = some (vs.getD k undef) ∧ (vs.getD k undef).oneCell' = true := fun k hk => by
            refine ⟨?_, (hb k _ (List.getElem?_eq_getElem hk)).2⟩
            simp only [World.cell?, hv]
            simp [show k < vs.size by omega]
          have hq : qAt cs o ag n fun y => y = p := by
            unfold qAt
            cases ag with
            | true =>
              simp only at hg ⊢
              split at hg
              · rename_i hle; cases hg; exact ⟨hle, rfl⟩
              · cases hg
            | false =>
              simp only at hg ⊢
              rw [hg]
          have hall : ag = true → allD ((cs.drop o).take n) = true := fun e => by
            subst e
            simp only at hg
            split at hg
            · cases hg; exact hd
            · cases hg
          obtain ⟨u, p', g1, g2, rfl⟩ := qAt_load (P := P) (D := g.D) (ρ := g.ρ) (nb := s.b.length) hs hq hcell (fun k q hq => (hb k q hq).1) hall
          refine ⟨u, ?_, (g2.data ?_).sh⟩
          · rw [Nat.zero_add] at g1
            have e2 : a.tmps.getD i undef = .pointer (some ⟨g.ρ j, o, none⟩) := e1
            simp only [resRun, e2, asAddr, Sem.run_bind, Sem.run_pure, Result.andThen_ok, g1]
          · revert hd
            cases p' <;> intro hd <;> first | exact hd | rfl
        · cases hg
      · cases hg
    · cases hc
theorem rv_all (h : R B g s (slt a) w) : ∀ {l : List ResultVar} {rs : List RV} {ps : List PV}, compRs P l = some rs → rvs s rs = some ps → ps.all PV.resD = true →
    ∃ us : List Value, (l.mapM (resRun a.tmps)).run P w = .ok us w ∧ us.length = ps.length ∧ l.length = rs.length ∧ ∀ (i : Nat) p, ps[i]? = some p → Dat g.D w (us.getD i undef) p.sh
  | [], rs, ps, hc, hp, _ => by cases hc; cases hp; exact ⟨[], rfl, rfl, rfl, fun i p h => by simp at h⟩
  | r :: l, rs, ps, hc, hp, hd => by
    simp only [compRs, Option.bind_eq_some_iff, Option.map_eq_some_iff] at hc
    obtain ⟨x, hx, xs, hxs, rfl⟩ := hc
    simp only [rvs, Option.bind_eq_some_iff, Option.map_eq_some_iff] at hp
    obtain ⟨p, hp, qs, hq, rfl⟩ := hp
    simp only [List.all_cons, Bool.and_eq_true] at hd
    obtain ⟨u, h1, h2⟩ := rv_one h hx hp hd.1
    obtain ⟨us, h3, h4, h5, h6⟩ := rv_all h hxs hq hd.2
    refine ⟨u :: us, by simp only [List.mapM_cons, Sem.run_bind, h1, Result.andThen_ok, h3, Sem.run_pure], by simp [h4], by simp [h5], fun i q hi => ?_⟩
    cases i with
    | zero => simp at hi; subst hi; exact h2
    | succ i => simpa using h6 i q (by simpa using hi)
theorem results_eq (fn : Func) (tmps : Array Value) {us : List Value} (h : (fn.results.toList.mapM (resRun tmps)).run P w = .ok us w) : (results fn tmps).run P w = .ok (tupV us) w := by
  unfold results
  rw [Array.mapM_eq_mapM_toList]
  simp only [Sem.run_bind, Sem.run_map]
  erw [h]
  simp only [Result.andThen_ok, Sem.run_pure]
  match us with
  | [] => rfl
  | [u] => rfl
  | u :: v :: l => simp [tupV]
end
theorem dat0 {D : Nat → Nat → Prop} {ρ : Nat → Nat} {w : World} {u : Value} {p : PV} (h : Rel D ρ 0 w u p) : Dat D w u p := by
  have h1 : ∀ {u p}, Rel1 D ρ 0 w u p → Dat D w u p := fun h => by
    rcases h with h | ⟨i, o, _, hi, _⟩
    · exact h
    · omega
  rcases h with h | ⟨f, va, vb, fs, cs, rfl, rfl, h3, h4, h5, h6⟩
  · exact h1 h
  · exact .fn f va vb fs cs h3 h4 (fun i p hp => h1 (h5 i p hp)) (fun i p hp => h1 (h6 i p hp))
theorem enters_fn {f : FuncId} {fn : Func} {c : Code} (hf : P.funcs[f]? = some fn) (hn : (fn.name == "runtime.NumGoroutine") = false) (hb : fn.body = some c) : ∀ args w, (callFunc f args).run P w = .ok (.enter f args) w := by
  intro args w
  have hn' : ¬ fn.name = "runtime.NumGoroutine" := by simpa using hn
  simp [callFunc, hf, hn', hb]
theorem cn_of {f : FuncId} {fn : Func} {c : Code} {pc : PC} (ms : List Nat) (hf : P.funcs[f]? = some fn) (hn : (fn.name == "runtime.NumGoroutine") = false) (hb : fn.body = some c) (rs : List RV) (hr : compRs P fn.results.toList = some rs) (nt : Nat) (hnt : fn.ntmps = nt) (hc : compC P nt ms c = some pc) {ps : List PV} {r : PV}
    (hps : ∀ p ∈ ps, p.own = none) (hl : ps.length ≤ nt) (hvc : pW P nt True pc (postF rs r) ⟨enumP 0 ps, []⟩) : Cn P f ps r := by
  refine ⟨enters_fn hf hn hb, fun D w vs hgl hD hsz hd => calls_of_wp hf hb ?_⟩
  subst hnt
  obtain ⟨a, ha⟩ : ∃ a : Act, ({ tmps := vs ++ Array.replicate (fn.ntmps - vs.size) undef, defers := [] } : Act) = a := ⟨_, rfl⟩
  rw [ha]
  have hR : RA ⟨w, D, fun _ => False, hgl⟩ fn.ntmps ⟨D, fun _ => 0⟩ ⟨enumP 0 ps, []⟩ a w := by
    have hget : ∀ t, (⟨enumP 0 ps, []⟩ : PS).get t = ps.getD t .und := fun t => by
      show lkp (enumP 0 ps) t = _
      rw [lkp_enum]; simp
    have hown : ∀ u p, Slot ⟨D, fun _ => 0⟩ ⟨enumP 0 ps, []⟩ (slt a) w u p → p.own = none := by
      rintro u p (⟨t, rfl, rfl⟩ | ⟨i, j, cs, h1, _⟩)
      · rw [hget, List.getD_eq_getElem?_getD]
        cases h : ps[t]? with
        | none => rfl
        | some p => exact hps p (List.mem_of_getElem? h)
      · simp at h1
    refine ⟨⟨fun t => ?_, fun i cs h => by simp at h, fun i j h => by simp at h, fun u p h => ownOk_none (hown u p h), fun u p u' p' b h _ ho => absurd (hown u p h) ho, fun u p b i h ho => absurd (hown u p h) ho, hD, fun i h => by simp at h, ⟨rfl, rfl, rfl, Nat.le_refl _, fun _ _ _ => rfl, fun _ _ h => h, fun _ _ _ _ h => h, fun _ _ h => .inl h, hD⟩⟩, by rw [← ha], by rw [← ha]; simp; omega⟩
    rw [hget, List.getD_eq_getElem?_getD]
    cases h : ps[t]? with
    | none => exact .dat (.und _)
    | some p =>
      have := hd t p h
      have ht : t < vs.size := by rw [hsz]; exact (List.getElem?_eq_some_iff.1 h).1
      have e : slt a t = vs.getD t undef := by
        rw [← ha]
        simp [slt, Array.getElem?_append_left ht]
      rw [e]; exact .dat this
  refine wp_mono (pW_sound (B := ⟨w, D, fun _ => False, hgl⟩) (fun _ _ h => h) c pc hc _ _ _ a w hvc hR) fun e a' w' he => ?_
  have fin : ∀ s g, RA ⟨w, D, fun _ => False, hgl⟩ fn.ntmps g s a' w' → RetOk rs s r → bodyPost P fn (fun e w' => ∃ v D', e = .returned v ∧ Below w.heap.size w w' ∧ (∀ b o, D b o → D' b o) ∧ (∀ b o, D' b o → D b o ∨ w.heap.size ≤ b) ∧ (∀ b o, D' b o → b < w'.heap.size) ∧ Dat D' w' v r ∧ OwnOk D' (fun k => w.heap.size ≤ k) w' v r) .ret a' w' := by
    intro s g h hret
    obtain ⟨hR, hdf, _⟩ := h
    have hbel : Below w.heap.size w w' := ⟨hR.fr.os, hR.fr.tape, hR.fr.output, hR.fr.size, fun k hk => hR.fr.block k hk fun h => h⟩
    have hnew : ∀ b o, g.D b o → D b o ∨ w.heap.size ≤ b := fun b o h => by
      rcases hR.fr.new b o h with h' | h' | h'
      · exact .inl h'
      · exact .inr h'
      · exact h'.elim
    have many : ∀ ps', rvs s rs = some ps' → ps'.all PV.resD = true → ∃ us : List Value, (results fn a'.tmps).run P w' = .ok (tupV us) w' ∧ us.length = ps'.length ∧ ∀ (i : Nat) p, ps'[i]? = some p → Dat g.D w' (us.getD i undef) p.sh := fun ps' h1 h2 => by
      obtain ⟨us, k1, k2, _, k3⟩ := rv_all hR hr h1 h2
      exact ⟨us, results_eq fn _ k1, k2, k3⟩
    unfold RetOk at hret
    split at hret
    · rename_i t
      have hres : fn.results.toList = [.tmp t] := by
        revert hr
        cases fn.results.toList with
        | nil => intro h; cases h
        | cons x l =>
          intro h
          simp only [compRs, Option.bind_eq_some_iff, Option.map_eq_some_iff] at h
          obtain ⟨y, hy, ys, hys, e⟩ := h
          cases e
          cases l with
          | nil =>
            cases x with
            | tmp t => cases hy; rfl
            | cell a t =>
              simp only [compR, Option.bind_eq_some_iff] at hy
              obtain ⟨⟨ag, n⟩, _, hy⟩ := hy
              simp only at hy
              split at hy <;> cases hy
          | cons z l =>
            simp only [compRs, Option.bind_eq_some_iff, Option.map_eq_some_iff] at hys
            obtain ⟨_, _, _, _, e⟩ := hys
            cases e
      have hrun := results_eq (P := P) (w := w') fn a'.tmps (us := [a'.tmps.getD t undef]) (by rw [hres]; rfl)
      refine ⟨hdf, _, hrun, _, g.D, rfl, hbel, hR.fr.d0, hnew, hR.dlt, dat0 (SubP.rel hret (hR.slots t)), ?_⟩
      by_cases ho : r.own = none
      · exact ownOk_none ho
      · rcases SubP.own hret (hR.slots t) ho with rfl | ⟨_, hk⟩
        · have := hR.owns _ _ (hR.slot t)
          revert this ho
          cases s.get t <;> try (intros; trivial)
          rename_i es ow
          cases ow <;> try (intros; trivial)
          intro _ h
          rcases h with hn | ⟨gg, cap, cur, e, h1, hW, h2⟩
          · exact .inl hn
          · exact .inr ⟨gg, cap, cur, e, h1, hW.resolve_right (fun h => h), h2⟩
        · exact hk _ _ _
    · rename_i x _
      split at hret
      · rename_i p hp
        obtain ⟨h1, h2, h3⟩ := hret
        obtain ⟨us, k1, k2, k3⟩ := many [p] (by simp [rvs, hp]) (by simpa using h1)
        match us, k2 with
        | [u], _ =>
          refine ⟨hdf, _, k1, _, g.D, rfl, hbel, hR.fr.d0, hnew, hR.dlt, ?_, ownOk_none h3⟩
          exact dat0 (ρ := g.ρ) (SubP.rel h2 (nb := 0) (.dat (k3 0 p rfl)))
      · exact hret.elim
    · split at hret
      · rename_i hne1 hne2 _ ps' hp
        obtain ⟨h1, h2⟩ := hret
        obtain ⟨us, k1, k2, k3⟩ := many ps' hp h1
        have hlen : us.length ≠ 1 := by
          intro e
          rw [k2] at e
          have hl2 : ∀ {rs ps'}, rvs s rs = some ps' → ps'.length = rs.length := by
            intro rs
            induction rs with
            | nil => intro ps' h; cases h; rfl
            | cons x l ih =>
              intro ps' h
              simp only [rvs, Option.bind_eq_some_iff, Option.map_eq_some_iff] at h
              obtain ⟨p, _, qs, hq, rfl⟩ := h
              simp [ih hq]
          rw [hl2 hp] at e
          match rs, e with
          | [x], _ => exact hne2 x rfl
        have ev : tupV us = .tuple us.toArray := by
          revert hlen
          match us with
          | [] => intro _; rfl
          | [u] => intro h; exact absurd rfl h
          | u :: v :: l => intro _; rfl
        rw [ev] at k1
        have : r.own = none := by cases h2 <;> rfl
        refine ⟨hdf, _, k1, _, g.D, rfl, hbel, hR.fr.d0, hnew, hR.dlt, ?_, ownOk_none this⟩
        refine dat0 (ρ := g.ρ) (SubP.rel h2 (nb := 0) (.dat (.tup _ _ (by simp [k2]) fun i p hp => ?_)))
        simp only [List.getElem?_map, Option.map_eq_some_iff] at hp
        obtain ⟨q, hq, rfl⟩ := hp
        have := k3 i q hq
        simpa [List.getD_eq_getElem?_getD] using this
      · exact hret.elim
  cases e with
  | normal => obtain ⟨s, g, h1, h2⟩ := he; exact fin s g h1 h2
  | ret => obtain ⟨s, g, h1, h2⟩ := he; exact fin s g h1 h2
  | exit id => obtain ⟨s, g, h1, h2⟩ := he; exact h2.elim
  | goto l => exact he.elim
  | panic ch => exact he.elim
  | outgrown => exact he.elim

/-! ### A function that takes over a slice -/
/-- What it returns: the successor, whatever its name. -/
def postO (t : Nat) (rs : List (List PV)) (sz : Nat) : PX → PS → Prop
  | .x _, _ => False
  | _, s => match s.get t with
    | .sl es (.r _ sz') => es = rs ∧ sz' = sz
    | _ => False

/-! ### By the function's own text -/
def codeOf (fn : Func) : Code := match fn.body with
  | some c => c
  | none => .skip
def okFn (P : Program) (fn : Func) (ms : List Nat) (n : Nat) : Bool := !(fn.name == "runtime.NumGoroutine") && fn.body.isSome && (compRs P fn.results.toList).isSome && (compC P fn.ntmps ms (codeOf fn)).isSome && decide (n ≤ fn.ntmps)
def pcOf (P : Program) (fn : Func) (ms : List Nat) : PC := (compC P fn.ntmps ms (codeOf fn)).getD .sk
def rsOf (P : Program) (fn : Func) : List RV := (compRs P fn.results.toList).getD []
theorem cn_go {f : FuncId} {fn : Func} (hf : P.funcs[f]? = some fn) (ms : List Nat) {ps : List PV} {r : PV} (n : Nat) (hok : okFn P fn ms n = true) (hl : ps.length = n) (hps : ∀ p ∈ ps, p.own = none) (hvc : pW P fn.ntmps True (pcOf P fn ms) (postF (rsOf P fn) r) ⟨enumP 0 ps, []⟩) : Cn P f ps r := by
  unfold okFn at hok
  simp only [Bool.and_eq_true, Bool.not_eq_true', decide_eq_true_eq] at hok
  obtain ⟨⟨⟨⟨h1, h2⟩, h3⟩, h4⟩, h5⟩ := hok
  obtain ⟨c, hc⟩ := Option.isSome_iff_exists.1 h2
  obtain ⟨rs, hrs⟩ := Option.isSome_iff_exists.1 h3
  obtain ⟨pc, hpc⟩ := Option.isSome_iff_exists.1 h4
  unfold pcOf rsOf at hvc
  rw [hpc, hrs] at hvc
  have e : codeOf fn = c := by unfold codeOf; rw [hc]
  rw [e] at hpc
  exact cn_of ms hf h1 hc rs hrs fn.ntmps rfl hpc hps (by omega) hvc
end Go.Proofs.YtcedofkenfddkaaDoor
/- Vectors: what is known, canonical vectors, the operations of the lattice, without program. No condition. -/
namespace Go.Proofs.YtcedofkenfddkaaDoor
set_option linter.unusedVariables false
set_option linter.unusedSimpArgs false
/-- What a vector knows of a replica. -/
def knV (v : List En) (r : Nat) : List Iv := match v.find? (fun e => e.rep == r) with
  | some e => kn e
  | none => []
def RightV (v : List En) : Prop := (∀ e ∈ v, RightE e) ∧ v.Pairwise (fun a b => a.rep < b.rep)
def CanV (v : List En) : Prop := (∀ e ∈ v, CanE e) ∧ v.Pairwise (fun a b => a.rep < b.rep)
theorem CanV.right {v : List En} (h : CanV v) : RightV v := ⟨fun e he => (h.1 e he).1, h.2⟩
theorem knV_cons (e : En) (v : List En) (r : Nat) : knV (e :: v) r = if e.rep = r then kn e else knV v r := by
  unfold knV
  by_cases h : e.rep = r
  · simp [h]
  · simp [h]
theorem knV_none {v : List En} {r : Nat} (h : ∀ e ∈ v, e.rep ≠ r) : knV v r = [] := by
  induction v with
  | nil => rfl
  | cons e v ih => rw [knV_cons, if_neg (h e (by simp)), ih fun e' h' => h e' (by simp [h'])]
theorem knV_mem {v : List En} (h : v.Pairwise fun a b => a.rep < b.rep) {e : En} (he : e ∈ v) : knV v e.rep = kn e := by
  induction v with
  | nil => cases he
  | cons x v ih =>
    have h' := List.pairwise_cons.1 h
    rw [knV_cons]
    rcases List.mem_cons.1 he with rfl | he'
    · rw [if_pos rfl]
    · have := h'.1 e he'
      rw [if_neg (by omega), ih h'.2 he']
/-! ### the algebra -/
section
variable {a b c : List En}
end
end Go.Proofs.YtcedofkenfddkaaDoor
/- The walk without memory, step by step: equations by which a text is read. No condition. -/
namespace Go.Proofs.YtcedofkenfddkaaDoor
set_option linter.unusedVariables false
set_option linter.unusedSimpArgs false
open Go.RowKit
section
variable {P : Program} {nt : Nat} {fr : Prop} {d : Option Nat} {t : List (Nat × PV)} {b : List (List PV)} {s : PS} {K : PS → Prop} {Q : PX → PS → Prop} {l : List PI}
theorem put_some (i : Nat) (p : PV) : PS.put ⟨t, b⟩ (some i) p = ⟨(i, p) :: t, b⟩ := Eq.trans rfl rfl
theorem put_none (p : PV) : PS.put ⟨t, b⟩ none p = ⟨t, b⟩ := Eq.trans rfl rfl
theorem get_mk (i : Nat) : PS.get ⟨t, b⟩ i = lkp t i := Eq.trans rfl rfl
theorem ev_t (i : Nat) : PS.ev ⟨t, b⟩ (.t i) = lkp t i := Eq.trans rfl rfl
theorem ev_c (p : PV) : PS.ev s (.c p) = p := Eq.trans rfl rfl
theorem ev_f (f : FuncId) : PS.ev s (.f f) = .fn (.func f) [] [] := Eq.trans rfl rfl
theorem lkp_cons (j i : Nat) (p : PV) (r : List (Nat × PV)) : lkp ((j, p) :: r) i = if j = i then p else lkp r i := Eq.trans rfl rfl
theorem lkp_nil (i : Nat) : lkp [] i = .und := Eq.trans rfl rfl
theorem down_mk (n : Nat) : PS.down n ⟨t, b⟩ = ⟨t.map fun y => (y.1, y.2.down n), b.map fun cs => cs.map (PV.down n)⟩ := Eq.trans rfl rfl
theorem pW_sk : pW P nt fr .sk Q s = Q .n s := Eq.trans rfl rfl
theorem pW_rg (l : List PI) : pW P nt fr (.rg l) Q s = pList P l (Q .n) s := Eq.trans rfl rfl
theorem pW_dr (h l : List PI) : pW P nt fr (.dr h l) Q s = pHead P h (pTail P fr h s.clean l (Q .n)) s.clean := Eq.trans rfl rfl
theorem pW_sq (x y : PC) : pW P nt fr (.sq x y) Q s = pW P nt fr x (thenX (pW P nt fr y Q) Q) s := Eq.trans rfl rfl
theorem pW_bk (id : Nat) (x : PC) : pW P nt fr (.bk id x) Q s = pW P nt fr x (blockX id Q) s := Eq.trans rfl rfl
theorem pW_ex (id : Nat) : pW P nt fr (.ex id) Q s = Q (.x id) s := Eq.trans rfl rfl
theorem pW_rt : pW P nt fr .rt Q s = Q .r s := Eq.trans rfl rfl
theorem pW_lp (w : List Nat) (x : PC) : pW P nt fr (.lp w x) Q s = pLoop (pW P nt fr x) Q s := Eq.trans rfl rfl
theorem pList_nil : pList P [] K s = K s := Eq.trans rfl rfl
theorem pHead_nil : pHead P [] K s = K s := Eq.trans rfl rfl
theorem pTail_nil (h : List PI) (s0 : PS) : pTail P fr h s0 [] K s = K s := Eq.trans rfl rfl
theorem pTail_st (h : List PI) (s0 : PS) (d : Option Nat) (x y : PO) (n : Nat) (l : List PI) : pTail P fr h s0 (⟨d, none, .st x y n⟩ :: l) K s = pList P (⟨d, none, .st x y n⟩ :: l) K s := by cases d <;> rfl
theorem pTail_al (h : List PI) (s0 : PS) (d : Option Nat) (zs : List PV) (l : List PI) : pTail P fr h s0 (⟨d, none, .al zs⟩ :: l) K s = pList P (⟨d, none, .al zs⟩ :: l) K s := by cases d <;> rfl
theorem pTail_bo (h : List PI) (s0 : PS) (d : Option Nat) (x : PO) (l : List PI) : pTail P fr h s0 (⟨d, none, .bo x⟩ :: l) K s = pList P (⟨d, none, .bo x⟩ :: l) K s := by cases d <;> rfl
theorem thenX_n (K : PS → Prop) : thenX K Q .n s = K s := Eq.trans rfl rfl
theorem thenX_x (K : PS → Prop) (i : Nat) : thenX K Q (.x i) s = Q (.x i) s := Eq.trans rfl rfl
theorem thenX_r (K : PS → Prop) : thenX K Q .r s = Q .r s := Eq.trans rfl rfl
theorem blockX_n (id : Nat) : blockX id Q .n s = Q .n s := Eq.trans rfl rfl
theorem blockX_r (id : Nat) : blockX id Q .r s = Q .r s := Eq.trans rfl rfl
theorem blockX_x (id i : Nat) : blockX id Q (.x i) s = if i = id then Q .n s else Q (.x i) s := Eq.trans rfl rfl
theorem postF_n (rs : List RV) (r : PV) : postF rs r .n s = RetOk rs s r := Eq.trans rfl rfl
theorem postF_r (rs : List RV) (r : PV) : postF rs r .r s = RetOk rs s r := Eq.trans rfl rfl
theorem postF_x (rs : List RV) (r : PV) (i : Nat) : postF rs r (.x i) s = False := Eq.trans rfl rfl
theorem ret_one (i : Nat) (r : PV) : RetOk [.t i] s r = SubP 0 (s.get i) r := Eq.trans rfl rfl
def postOV (rs : List (List PV)) (sz : Nat) : PV → Prop
  | .sl es (.r _ sz') => es = rs ∧ sz' = sz
  | _ => False
theorem postO_n (i sz : Nat) (rs : List (List PV)) : postO i rs sz .n s = postOV rs sz (s.get i) := by
  show (match s.get i with | .sl es (.r _ sz') => es = rs ∧ sz' = sz | _ => False) = _
  cases s.get i <;> rfl
theorem postO_r (i sz : Nat) (rs : List (List PV)) : postO i rs sz .r s = postOV rs sz (s.get i) := by
  show (match s.get i with | .sl es (.r _ sz') => es = rs ∧ sz' = sz | _ => False) = _
  cases s.get i <;> rfl
theorem postOV_r (es rs : List (List PV)) (n m sz : Nat) : postOV rs sz (.sl es (.r n m)) = (es = rs ∧ m = sz) := Eq.trans rfl rfl
def ret1 : Option PV → PV → Prop
  | some p, r => p.resD = true ∧ SubP 0 p.sh r ∧ r.own = none
  | none, _ => False
def retM : Option (List PV) → PV → Prop
  | some ps, r => ps.all PV.resD = true ∧ SubP 0 (.tup (ps.map PV.sh)) r
  | none, _ => False
def rvC : Option PV → Option (List PV) → Option (List PV)
  | some p, some ps => some (p :: ps)
  | _, _ => none
def rvB : Option (List PV) → Nat → Bool → Nat → Option PV
  | some cs, o, true, n => if o + n ≤ cs.length then some (.agg ((cs.drop o).take n)) else none
  | some cs, o, false, _ => cs[o]?
  | none, _, _, _ => none
def rvA : PV → List (List PV) → Bool → Nat → Option PV
  | .bx j o, b, ag, n => rvB b[j]? o ag n
  | _, _, _, _ => none
theorem ret_c (i : Nat) (ag : Bool) (n : Nat) (r : PV) : RetOk [.c i ag n] s r = ret1 (RV.get s (.c i ag n)) r := by
  show (match RV.get s (.c i ag n) with | some p => _ | none => False) = _
  cases RV.get s (.c i ag n) <;> rfl
theorem ret_m (x y : RV) (l : List RV) (r : PV) : RetOk (x :: y :: l) s r = retM (rvs s (x :: y :: l)) r := by
  have : RetOk (x :: y :: l) s r = (match rvs s (x :: y :: l) with | some ps => ps.all PV.resD = true ∧ SubP 0 (.tup (ps.map PV.sh)) r | none => False) := by cases x <;> rfl
  rw [this]
  cases rvs s (x :: y :: l) <;> rfl
theorem ret1_s (p r : PV) : ret1 (some p) r = (p.resD = true ∧ SubP 0 p.sh r ∧ r.own = none) := Eq.trans rfl rfl
theorem retM_s (ps : List PV) (r : PV) : retM (some ps) r = (ps.all PV.resD = true ∧ SubP 0 (.tup (ps.map PV.sh)) r) := Eq.trans rfl rfl
theorem rvs_nil : rvs s [] = some [] := Eq.trans rfl rfl
theorem rvs_cons (x : RV) (l : List RV) : rvs s (x :: l) = rvC (x.get s) (rvs s l) := by
  show ((x.get s).bind fun p => (rvs s l).map fun ps => p :: ps) = _
  cases x.get s <;> cases rvs s l <;> rfl
theorem rvC_s (p : PV) (ps : List PV) : rvC (some p) (some ps) = some (p :: ps) := Eq.trans rfl rfl
theorem rvg_t (i : Nat) : RV.get ⟨t, b⟩ (.t i) = some (lkp t i) := Eq.trans rfl rfl
theorem rvg_c (i : Nat) (ag : Bool) (n : Nat) : RV.get ⟨t, b⟩ (.c i ag n) = rvA (lkp t i) b ag n := by
  unfold RV.get
  simp only [get_mk]
  cases lkp t i <;> try rfl
  dsimp only [rvA]
  rename_i j o
  generalize b[j]? = c
  cases c <;> cases ag <;> rfl
theorem rvA_b (j o : Nat) (ag : Bool) (n : Nat) : rvA (.bx j o) b ag n = rvB b[j]? o ag n := Eq.trans rfl rfl
theorem rvB_t (cs : List PV) (o n : Nat) : rvB (some cs) o true n = if o + n ≤ cs.length then some (.agg ((cs.drop o).take n)) else none := Eq.trans rfl rfl
theorem rvB_f (cs : List PV) (o n : Nat) : rvB (some cs) o false n = cs[o]? := Eq.trans rfl rfl
def anyD (h : List PI) (x : Nat) : Bool := h.any fun i => i.d == some x
/-- An append to the first part of an owner's slice: the slots that are kept are chosen. -/
def cutP (P : Program) (h : List PI) (s0 : PS) (n d : Nat) (p : PV) (l : List PI) (K : PS → Prop) (F : Prop) : Prop := (∃ keep, keepOk h n s0 keep ∧ pList P l K ⟨(d, p) :: keep.map (fun j => (j, s0.get j)), []⟩) ∨ F
def fullP (P : Program) (h : List PI) (s0 : PS) (d n sz i x : Nat) (es0 es : List (List PV)) (y : PO) (l : List PI) (K : PS → Prop) (p : PV) (s : PS) : Prop :=
  (h.all fun y => !(y.d == some i)) = true ∧ s.get i = s0.get i ∧ es0 = es ∧ (s.put (some x) (.sl es (.r n sz))).ev y = s.ev y ∧ pList P l K (((s.put (some x) (.sl es (.r n sz))).down n).put (some d) p)
def keepL (s : PS) : List Nat → List (Nat × PV)
  | [] => []
  | j :: r => (j, s.get j) :: keepL s r
theorem keepL_eq (s : PS) : ∀ l, keepL s l = l.map fun j => (j, s.get j)
  | [] => rfl
  | j :: r => by simp [keepL, keepL_eq s r]
theorem keepL_nil (s : PS) : keepL s [] = [] := rfl
theorem keepL_cons (s : PS) (j : Nat) (r : List Nat) : keepL s (j :: r) = (j, s.get j) :: keepL s r := rfl
theorem cutP.mk {h : List PI} {s0 : PS} {n d : Nat} {p : PV} {F : Prop} (keep : List Nat) (hk : keepOk h n s0 keep) (hl : pList P l K ⟨(d, p) :: keepL s0 keep, []⟩) : cutP P h s0 n d p l K F := .inl ⟨keep, hk, by rw [← keepL_eq]; exact hl⟩
/-- The whole of an owner's slice: nothing is cut short. -/
theorem cutP.full {h : List PI} {s0 : PS} {n d i x : Nat} {p : PV} {y : PO} {es0 es : List (List PV)} {sz : Nat} (h1 : (h.all fun y => !(y.d == some i)) = true) (h2 : s.get i = s0.get i) (h3 : es0 = es) (h4 : (s.put (some x) (.sl es (.r n sz))).ev y = s.ev y) (hl : pList P l K (((s.put (some x) (.sl es (.r n sz))).down n).put (some d) p)) :
    cutP P h s0 n d p l K (fullP P h s0 d n sz i x es0 es y l K p s) := .inr ⟨h1, h2, h3, h4, hl⟩
theorem simple1_v (n : Nat) (x : Value) : simple1 n (.v x) = True := rfl
theorem simple1_r (n m sz : Nat) (es : List (List PV)) : simple1 n (.sl es (.r m sz)) = (m ≠ n ∧ flatE es ∧ ∀ e ∈ es, e.length = sz) := rfl
theorem own_r (es : List (List PV)) (n m : Nat) : PV.own (.sl es (.r n m)) = some n := rfl
def pCut (P : Program) (h : List PI) (s0 : PS) (d i x sz by_ : Nat) (y : PO) (es : List (List PV)) (q : PV) (l : List PI) (K : PS → Prop) (s : PS) : PV → Prop
  | .sl es0 (.r n sz') => sz' = sz ∧ qSl q fun es' => flatE es ∧ flatE es' ∧ (∀ e ∈ es, e.length = sz) ∧ (∀ e ∈ es', e.length = sz) ∧ (es.length + es'.length) * by_ ≤ 140737488355328 ∧ es' ≠ [] ∧ cutP P h s0 n d (.sl (es ++ es') (.r n sz)) l K (fullP P h s0 d n sz i x es0 es y l K (.sl (es ++ es') (.r n sz)) s)
  | _ => False
def pApT (P : Program) (fr : Prop) (h : List PI) (s0 : PS) (d x sz by_ : Nat) (y : PO) (q : PV) (l : List PI) (K : PS → Prop) (s : PS) : PV → Prop
  | .sl es (.n sz') => sz' = sz ∧ anyD h x = true ∧ qSl q fun es' => flatE es ∧ flatE es' ∧ (∀ e ∈ es, e.length = sz) ∧ (∀ e ∈ es', e.length = sz) ∧ (es.length + es'.length) * by_ ≤ 140737488355328 ∧ es' ≠ [] ∧ pList P l K ((forget h s0).put (some d) (.sl (es ++ es') (.r d sz)))
  | .sl es (.p i) => fr ∧ anyD h x = true ∧ pCut P h s0 d i x sz by_ y es q l K s (s0.get i)
  | _ => pList P (⟨some d, none, .ap (.t x) y sz by_⟩ :: l) K s
theorem pTail_ap (h : List PI) (s0 : PS) (d x sz by_ : Nat) (y : PO) (l : List PI) : pTail P fr h s0 (⟨some d, none, .ap (.t x) y sz by_⟩ :: l) K s = pApT P fr h s0 d x sz by_ y (s.ev y) l K s (s.get x) := by
  unfold pTail pApT
  simp only
  cases s.get x <;> rfl
theorem pApT_n (h : List PI) (s0 : PS) (d x sz by_ sz' : Nat) (y : PO) (q : PV) (l : List PI) (es : List (List PV)) : pApT P fr h s0 d x sz by_ y q l K s (.sl es (.n sz')) = (sz' = sz ∧ anyD h x = true ∧ qSl q fun es' => flatE es ∧ flatE es' ∧ (∀ e ∈ es, e.length = sz) ∧ (∀ e ∈ es', e.length = sz) ∧ (es.length + es'.length) * by_ ≤ 140737488355328 ∧ es' ≠ [] ∧ pList P l K ((forget h s0).put (some d) (.sl (es ++ es') (.r d sz)))) := rfl
theorem pApT_p (h : List PI) (s0 : PS) (d x sz by_ i : Nat) (y : PO) (q : PV) (l : List PI) (es : List (List PV)) : pApT P fr h s0 d x sz by_ y q l K s (.sl es (.p i)) = (fr ∧ anyD h x = true ∧ pCut P h s0 d i x sz by_ y es q l K s (s0.get i)) := rfl
theorem pApT_r (h : List PI) (s0 : PS) (d x sz by_ n m : Nat) (y : PO) (q : PV) (l : List PI) (es : List (List PV)) : pApT P fr h s0 d x sz by_ y q l K s (.sl es (.r n m)) = pList P (⟨some d, none, .ap (.t x) y sz by_⟩ :: l) K s := rfl
theorem pApT_z (h : List PI) (s0 : PS) (d x sz by_ : Nat) (y : PO) (q : PV) (l : List PI) (es : List (List PV)) : pApT P fr h s0 d x sz by_ y q l K s (.sl es .z) = pList P (⟨some d, none, .ap (.t x) y sz by_⟩ :: l) K s := rfl
theorem pCut_r (h : List PI) (s0 : PS) (d i x sz by_ n sz' : Nat) (y : PO) (es es0 : List (List PV)) (q : PV) (l : List PI) : pCut P h s0 d i x sz by_ y es q l K s (.sl es0 (.r n sz')) = (sz' = sz ∧ qSl q fun es' => flatE es ∧ flatE es' ∧ (∀ e ∈ es, e.length = sz) ∧ (∀ e ∈ es', e.length = sz) ∧ (es.length + es'.length) * by_ ≤ 140737488355328 ∧ es' ≠ [] ∧ cutP P h s0 n d (.sl (es ++ es') (.r n sz)) l K (fullP P h s0 d n sz i x es0 es y l K (.sl (es ++ es') (.r n sz)) s)) := rfl

/-! what an operation asks, and its value -/
def bCt : Option PV → Prop
  | some _ => True
  | none => False
theorem bCt_some (p : PV) : bCt (some p) = True := Eq.trans rfl rfl
theorem bCt_none : bCt none = False := Eq.trans rfl rfl
def intOp (op : BinOp) (k : IntKind) (m n : Int) : PV := match op with
  | .add => match k with | .i64 => .v (.int .i64 (m + n)) | k => .v (.int k (k.wrap (m + n)))
  | .sub => match k with | .i64 => .v (.int .i64 (m - n)) | k => .v (.int k (k.wrap (m - n)))
  | .mul => match k with | .i64 => .v (.int .i64 (m * n)) | k => .v (.int k (k.wrap (m * n)))
  | .quo => match k with | .i64 => .v (.int .i64 (m.tdiv n)) | k => .v (.int k (k.wrap (m.tdiv n)))
  | .rem => .v (.int k (m.tmod n))
  | .eql => .v (.bool (decide (m = n)))
  | .neq => .v (.bool (!decide (m = n)))
  | .lss => .v (.bool (decide (m < n)))
  | .leq => .v (.bool (decide (m ≤ n)))
  | .gtr => .v (.bool (decide (n < m)))
  | .geq => .v (.bool (decide (n ≤ m)))
  | .shr => .v (.int k (shrI k m n))
  | _ => .und
def rng (k : IntKind) (n : Int) : Prop := match k with
  | .i64 => -9223372036854775808 ≤ n ∧ n < 9223372036854775808
  | _ => True
def intC (op : BinOp) (k : IntKind) (m n : Int) : Prop := match op with
  | .add => rng k (m + n)
  | .sub => rng k (m - n)
  | .mul => rng k (m * n)
  | .quo => n ≠ 0 ∧ rng k (m.tdiv n)
  | .rem => n ≠ 0
  | .shr => 0 ≤ n
  | .eql | .neq | .lss | .leq | .gtr | .geq => True
  | _ => False
def binC (op : BinOp) (p q : PV) : Prop := match p, q with
  | .v (.int k a), .v (.int k' b) => k = k' ∧ intC op k a b
  | _, _ => False
def binV (op : BinOp) (p q : PV) : PV := match p, q with
  | .v (.int k a), .v (.int _ b) => intOp op k a b
  | _, _ => .und
theorem qar_iff {k : IntKind} {n : Int} {K : PV → Prop} : qar k n K = (rng k n ∧ K (match k with | .i64 => .v (.int .i64 n) | k => .v (.int k (k.wrap n)))) := by
  cases k <;> simp [qar, rng]
theorem qbin_iff {op : BinOp} {p q : PV} {K : PV → Prop} : qbin op p q K = (binC op p q ∧ K (binV op p q)) := by
  unfold qbin binC binV
  split
  · rename_i k a k' b
    by_cases e : k = k'
    · subst e
      cases op <;> simp [qint, intC, intOp, qar_iff, and_assoc]
    · simp [e]
  · simp
def isBl' : PV → Prop
  | .v (.bool _) => True
  | _ => False
def bV : PV → Bool
  | .v (.bool c) => c
  | _ => false
theorem qBool_iff {p : PV} {K : Bool → Prop} : qBool p K = (isBl' p ∧ K (bV p)) := by
  unfold qBool isBl' bV
  split <;> simp
def isInt' : PV → Prop
  | .v (.int _ _) => True
  | _ => False
def iK : PV → IntKind
  | .v (.int k _) => k
  | _ => .i64
def iV : PV → Int
  | .v (.int _ n) => n
  | _ => 0
theorem qInt_iff {p : PV} {K : IntKind → Int → Prop} : qInt p K = (isInt' p ∧ K (iK p) (iV p)) := by
  unfold qInt isInt' iK iV
  split <;> simp
def isSl' : PV → Prop
  | .sl _ _ => True
  | _ => False
def eV : PV → List (List PV)
  | .sl es _ => es
  | _ => []
theorem qSl_iff {p : PV} {K : List (List PV) → Prop} : qSl p K = (isSl' p ∧ K (eV p)) := by
  unfold qSl isSl' eV
  split <;> simp
theorem isBl_v (c : Bool) : isBl' (.v (.bool c)) = True := Eq.trans rfl rfl
theorem bV_v (c : Bool) : bV (.v (.bool c)) = c := Eq.trans rfl rfl
theorem isInt_v (k : IntKind) (n : Int) : isInt' (.v (.int k n)) = True := Eq.trans rfl rfl
theorem iK_v (k : IntKind) (n : Int) : iK (.v (.int k n)) = k := Eq.trans rfl rfl
theorem iV_v (k : IntKind) (n : Int) : iV (.v (.int k n)) = n := Eq.trans rfl rfl
theorem isSl_s (es : List (List PV)) (o : Ow) : isSl' (.sl es o) = True := Eq.trans rfl rfl
theorem eV_s (es : List (List PV)) (o : Ow) : eV (.sl es o) = es := Eq.trans rfl rfl
theorem binC_v (op : BinOp) (k k' : IntKind) (m n : Int) : binC op (.v (.int k m)) (.v (.int k' n)) = (k = k' ∧ intC op k m n) := Eq.trans rfl rfl
theorem binV_v (op : BinOp) (k k' : IntKind) (m n : Int) : binV op (.v (.int k m)) (.v (.int k' n)) = intOp op k m n := Eq.trans rfl rfl
theorem rng_u (n : Int) : rng .u64 n = True := Eq.trans rfl rfl
/-- An address, moved. -/
def faC : PV → Prop
  | .bx _ _ => True
  | .cp _ _ => True
  | _ => False
def faV (off : Nat) : PV → PV
  | .bx i o => .bx i (o + off)
  | .cp cs o => .cp cs (o + off)
  | _ => .und
theorem faC_b (i o : Nat) : faC (.bx i o) = True := Eq.trans rfl rfl
theorem faC_c (cs : List PV) (o : Nat) : faC (.cp cs o) = True := Eq.trans rfl rfl
theorem faV_b (n i o : Nat) : faV n (.bx i o) = .bx i (o + n) := Eq.trans rfl rfl
theorem faV_c (n : Nat) (cs : List PV) (o : Nat) : faV n (.cp cs o) = .cp cs (o + n) := Eq.trans rfl rfl
def atC (cs : List PV) (o : Nat) (ag : Bool) (n : Nat) : Prop := match ag with
  | true => o + n ≤ cs.length
  | false => cs[o]?.isSome = true
def atV (cs : List PV) (o : Nat) (ag : Bool) (n : Nat) : PV := match ag with
  | true => .agg ((cs.drop o).take n)
  | false => cs[o]?.getD .und
theorem qAt_iff {cs : List PV} {o : Nat} {ag : Bool} {n : Nat} {K : PV → Prop} : qAt cs o ag n K = (atC cs o ag n ∧ K (atV cs o ag n)) := by
  cases ag
  · simp only [qAt, atC, atV]; cases cs[o]? <;> simp
  · simp [qAt, atC, atV]
theorem atC_t (cs : List PV) (o n : Nat) : atC cs o true n = (o + n ≤ cs.length) := Eq.trans rfl rfl
theorem atC_f (cs : List PV) (o n : Nat) : atC cs o false n = (cs[o]?.isSome = true) := Eq.trans rfl rfl
theorem atV_t (cs : List PV) (o n : Nat) : atV cs o true n = .agg ((cs.drop o).take n) := Eq.trans rfl rfl
theorem atV_f (cs : List PV) (o n : Nat) : atV cs o false n = cs[o]?.getD .und := Eq.trans rfl rfl
def ldC (bs : List (List PV)) (p : PV) (ag : Bool) (n : Nat) : Prop := match p with
  | .cp cs o => atC cs o ag n
  | .bx i o => bs[i]?.isSome = true ∧ allD (((bs[i]?.getD []).drop o).take n) = true ∧ atC (bs[i]?.getD []) o ag n
  | _ => False
def ldF (bs : List (List PV)) (p : PV) : Prop := match p with
  | .cp cs o => atC cs o false 1
  | .bx i o => bs[i]?.isSome = true ∧ atC (bs[i]?.getD []) o false 1
  | _ => False
theorem ldF_c (bs : List (List PV)) (cs : List PV) (o : Nat) : ldF bs (.cp cs o) = atC cs o false 1 := Eq.trans rfl rfl
theorem ldF_b (bs : List (List PV)) (i o : Nat) : ldF bs (.bx i o) = (bs[i]?.isSome = true ∧ atC (bs[i]?.getD []) o false 1) := Eq.trans rfl rfl
def ldV (bs : List (List PV)) (p : PV) (ag : Bool) (n : Nat) : PV := match p with
  | .cp cs o => atV cs o ag n
  | .bx i o => atV (bs[i]?.getD []) o ag n
  | _ => .und
theorem ldC_c (bs : List (List PV)) (cs : List PV) (o : Nat) (ag : Bool) (n : Nat) : ldC bs (.cp cs o) ag n = atC cs o ag n := Eq.trans rfl rfl
theorem ldC_b (bs : List (List PV)) (i o n : Nat) (ag : Bool) : ldC bs (.bx i o) ag n = (bs[i]?.isSome = true ∧ allD (((bs[i]?.getD []).drop o).take n) = true ∧ atC (bs[i]?.getD []) o ag n) := Eq.trans rfl rfl
theorem ldV_c (bs : List (List PV)) (cs : List PV) (o : Nat) (ag : Bool) (n : Nat) : ldV bs (.cp cs o) ag n = atV cs o ag n := Eq.trans rfl rfl
theorem ldV_b (bs : List (List PV)) (i o : Nat) (ag : Bool) (n : Nat) : ldV bs (.bx i o) ag n = atV (bs[i]?.getD []) o ag n := Eq.trans rfl rfl
def cellsC : PV → Prop
  | .agg _ => True
  | .v x => x.oneCell' = true
  | .sl _ _ => True
  | .cp _ _ => True
  | .bx _ _ => True
  | .fn _ _ _ => True
  | .ifc _ _ => True
  | _ => False
def cellsV : PV → List PV
  | .agg cs => cs
  | p => [p]
theorem qCells_iff {p : PV} {K : List PV → Prop} : qCells p K = (cellsC p ∧ K (cellsV p)) := by
  cases p <;> simp [qCells, cellsC, cellsV]
theorem cellsC_agg (cs : List PV) : cellsC (.agg cs) = True := Eq.trans rfl rfl
theorem cellsC_i (k : IntKind) (n : Int) : cellsC (.v (.int k n)) = True := by simp [cellsC, Value.oneCell']
theorem cellsC_b (c : Bool) : cellsC (.v (.bool c)) = True := by simp [cellsC, Value.oneCell']
theorem cellsC_nil : cellsC (.v .nilIface) = True := by simp [cellsC, Value.oneCell']
theorem cellsC_s (es : List (List PV)) (o : Ow) : cellsC (.sl es o) = True := Eq.trans rfl rfl
theorem cellsC_bx (i o : Nat) : cellsC (.bx i o) = True := Eq.trans rfl rfl
theorem cellsC_fn (f : Fn) (x y : List PV) : cellsC (.fn f x y) = True := Eq.trans rfl rfl
theorem cellsC_ifc (t : TypeId) (x : PV) : cellsC (.ifc t x) = True := Eq.trans rfl rfl
theorem cellsV_agg (cs : List PV) : cellsV (.agg cs) = cs := Eq.trans rfl rfl
theorem cellsV_v (x : Value) : cellsV (.v x) = [.v x] := Eq.trans rfl rfl
theorem cellsV_s (es : List (List PV)) (o : Ow) : cellsV (.sl es o) = [.sl es o] := Eq.trans rfl rfl
theorem cellsV_bx (i o : Nat) : cellsV (.bx i o) = [.bx i o] := Eq.trans rfl rfl
theorem cellsV_fn (f : Fn) (x y : List PV) : cellsV (.fn f x y) = [.fn f x y] := Eq.trans rfl rfl
theorem cellsV_ifc (t : TypeId) (x : PV) : cellsV (.ifc t x) = [.ifc t x] := Eq.trans rfl rfl
def partsC (s : PS) : List (Nat × Nat × PO) → List PV → Prop
  | [], _ => True
  | (off, n, x) :: r, zs => cellsC (s.ev x) ∧ (cellsV (s.ev x)).length = n ∧ off + n ≤ zs.length ∧ allD (cellsV (s.ev x)) = true ∧ partsC s r (spl zs ((cellsV (s.ev x)).map PV.sh) off)
def partsV (s : PS) : List (Nat × Nat × PO) → List PV → List PV
  | [], zs => zs
  | (off, _, x) :: r, zs => partsV s r (spl zs ((cellsV (s.ev x)).map PV.sh) off)
theorem qParts_iff {K : List PV → Prop} : ∀ (ps : List (Nat × Nat × PO)) (zs : List PV), qParts s ps zs K = (partsC s ps zs ∧ K (partsV s ps zs))
  | [], zs => by simp [qParts, partsC, partsV]
  | (off, n, x) :: r, zs => by simp [qParts, partsC, partsV, qCells_iff, qParts_iff r, and_assoc]
def elemsC (s : PS) (sz : Nat) : List PO → Prop
  | [] => True
  | x :: r => cellsC (s.ev x) ∧ (cellsV (s.ev x)).length = sz ∧ allD (cellsV (s.ev x)) = true ∧ elemsC s sz r
def elemsV (s : PS) : List PO → List (List PV)
  | [] => []
  | x :: r => (cellsV (s.ev x)).map PV.sh :: elemsV s r
theorem qElems_iff {sz : Nat} : ∀ (ps : List PO) (K : List (List PV) → Prop), qElems s sz ps K = (elemsC s sz ps ∧ K (elemsV s ps))
  | [], K => by simp [qElems, elemsC, elemsV]
  | x :: r, K => by simp [qElems, elemsC, elemsV, qCells_iff, qElems_iff r, and_assoc]
def bdC (s : PS) : Option PO → Prop
  | none => True
  | some y => isInt' (s.ev y) ∧ 0 ≤ iV (s.ev y)
def bdV (s : PS) (n : Nat) : Option PO → Nat
  | none => n
  | some y => (iV (s.ev y)).toNat
theorem qBd_iff {y : Option PO} {n : Nat} {K : Nat → Prop} : qBd s y n K = (bdC s y ∧ K (bdV s n y)) := by
  cases y <;> simp [qBd, bdC, bdV, qInt_iff, and_assoc]
/-- A call that is met: it waits for its contract. -/
def callP (P : Program) (f : FuncId) (xs : List PV) (K : PS → Prop) (d : Option Nat) (s : PS) : Prop := ∃ r, Cn P f xs r ∧ allD xs = true ∧ K (s.put d r)
def callQ (P : Program) (f : FuncId) (xs : List PV) (K : PS → Prop) (d : Option Nat) (s : PS) : Prop := ∃ r, Cn P f xs r ∧ allD xs = true ∧ K (s.put d r.strip)
def callO (P : Program) (f : FuncId) (es : List (List PV)) (n sz : Nat) (xs : List PV) (K : PS → Prop) (d : Option Nat) (s : PS) : Prop := callP P f (.sl es .sh :: xs) K d s ∨ ∃ rs, OCn P f es sz xs rs ∧ allD xs = true ∧ K ((s.down n).put d (.sl rs (.r n sz)))
theorem callP.mk {f : FuncId} {xs : List PV} {r : PV} (h : Cn P f xs r) (hd : allD xs = true) (hk : K (s.put d r)) : callP P f xs K d s := ⟨r, h, hd, hk⟩
theorem callQ.mk {f : FuncId} {xs : List PV} {r : PV} (h : Cn P f xs r) (hd : allD xs = true) (hk : K (s.put d r.strip)) : callQ P f xs K d s := ⟨r, h, hd, hk⟩
theorem callO.mk {f : FuncId} {es rs : List (List PV)} {n sz : Nat} {xs : List PV} (h : OCn P f es sz xs rs) (hd : allD xs = true) (hk : K ((s.down n).put d (.sl rs (.r n sz)))) : callO P f es n sz xs K d s := .inr ⟨rs, h, hd, hk⟩
theorem callO.rd {f : FuncId} {es : List (List PV)} {n sz : Nat} {xs : List PV} {r : PV} (h : Cn P f (.sl es .sh :: xs) r) (hd : allD xs = true) (hk : K (s.put d r)) : callO P f es n sz xs K d s := .inl ⟨r, h, by simpa [allD, PV.isD] using hd, hk⟩
def evs (s : PS) (xs : List PO) : List PV := xs.map fun x => (s.ev x).sh
theorem evs_nil : evs s [] = [] := Eq.trans rfl rfl
theorem evs_cons (x : PO) (xs : List PO) : evs s (x :: xs) = (s.ev x).sh :: evs s xs := Eq.trans rfl rfl
/-- The first argument may be an owner's slice. -/
def caD (P : Program) (f : FuncId) (p : PV) (xs : List PV) (K : PS → Prop) (d : Option Nat) (s : PS) : Prop := match p with
  | .sl es (.r n sz) => callO P f es n sz xs K d s
  | p => callP P f (p.sh :: xs) K d s
/-- A branch: the walk halts before it. -/
def brP (c : PV) (X Y : PS → Prop) (s : PS) : Prop := isBl' c ∧ if bV c = true then X s else Y s
theorem pW_cd (c : PO) (x y : PC) : pW P nt fr (.cd c x y) Q s = brP (s.ev c) (pW P nt fr x Q) (pW P nt fr y Q) s := by
  show qBool _ _ = _
  rw [qBool_iff]
  unfold brP
  cases bV (s.ev c) <;> simp
theorem brP_t (X Y : PS → Prop) : brP (.v (.bool true)) X Y s = X s := by simp [brP, isBl', bV]
theorem brP_f (X Y : PS → Prop) : brP (.v (.bool false)) X Y s = Y s := by simp [brP, isBl', bV]
theorem brP.mk {c : Bool} {X Y : PS → Prop} (h1 : c = true → X s) (h2 : c = false → Y s) : brP (.v (.bool c)) X Y s := by
  refine ⟨trivial, ?_⟩
  cases c
  · exact h2 rfl
  · exact h1 rfl
theorem brP.yes {c : Bool} {X Y : PS → Prop} (h : c = true) (h1 : X s) : brP (.v (.bool c)) X Y s := by subst h; rw [brP_t]; exact h1
theorem brP.no {c : Bool} {X Y : PS → Prop} (h : c = false) (h1 : Y s) : brP (.v (.bool c)) X Y s := by subst h; rw [brP_f]; exact h1
/-! guards -/
def okG : PV → Prop
  | .v (.bool _) => True
  | .v (.tuple vs) => vs = #[]
  | _ => False
def wq (p : PV) (b : Bool) : Prop := match p with
  | .v (.bool c) => c = b
  | _ => False
instance (p : PV) (b : Bool) : Decidable (wq p b) := by unfold wq; split <;> infer_instance
def noS (s : PS) (i : Nat) (b : Bool) : PV → PS
  | .v (.bool _) => s.put (some i) (.v (.bool !b))
  | _ => s
theorem okG_b (c : Bool) : okG (.v (.bool c)) = True := Eq.trans rfl rfl
theorem okG_u : okG (.v undef) = True := by simp [okG, undef]
theorem wq_b (c b : Bool) : wq (.v (.bool c)) b = (c = b) := Eq.trans rfl rfl
theorem wq_u (b : Bool) : wq (.v undef) b = False := by simp [wq, undef]
theorem noS_b (i : Nat) (b c : Bool) : noS s i b (.v (.bool c)) = s.put (some i) (.v (.bool !b)) := Eq.trans rfl rfl
theorem noS_u (i : Nat) (b : Bool) : noS s i b (.v undef) = s := Eq.trans rfl rfl
theorem guard_iff {i : Nat} {b : Bool} {k : PK} {yes no : PS → Prop} : PI.guard ⟨d, some (i, b), k⟩ s yes no = (okG (s.get i) ∧ if wq (s.get i) b then yes (s.put (some i) (.v (.bool b))) else no (noS s i b (s.get i))) := by
  unfold PI.guard
  simp only
  cases h : s.get i with
  | v x =>
    cases x <;> try (simp [okG]; done)
    · rename_i c
      simp only [okG, wq, noS, true_and]
      cases c <;> cases b <;> simp
    · simp [okG, wq, noS]
  | _ => simp [okG]
def gdP (g : PV) (i : Nat) (b : Bool) (d : Option Nat) (X Y : PS → Prop) (s : PS) : Prop := okG g ∧ if wq g b then X (s.put (some i) (.v (.bool b))) else Y ((noS s i b g).put d (.v undef))
theorem pList_some (i : Nat) (b : Bool) (k : PK) : pList P (⟨d, some (i, b), k⟩ :: l) K s = gdP (s.get i) i b d (pList P (⟨d, none, k⟩ :: l) K) (pList P l K) s := guard_iff
theorem pHead_some (i : Nat) (b : Bool) (k : PK) : pHead P (⟨d, some (i, b), k⟩ :: l) K s = gdP (s.get i) i b d (pHead P (⟨d, none, k⟩ :: l) K) (pHead P l K) s := guard_iff
theorem gdP_tt (i : Nat) (X Y : PS → Prop) : gdP (.v (.bool true)) i true d X Y s = X (s.put (some i) (.v (.bool true))) := by simp [gdP, okG, wq]
theorem gdP_ff (i : Nat) (X Y : PS → Prop) : gdP (.v (.bool false)) i false d X Y s = X (s.put (some i) (.v (.bool false))) := by simp [gdP, okG, wq]
theorem gdP_tf (i : Nat) (X Y : PS → Prop) : gdP (.v (.bool true)) i false d X Y s = Y ((s.put (some i) (.v (.bool true))).put d (.v undef)) := by simp [gdP, okG, wq, noS]
theorem gdP_ft (i : Nat) (X Y : PS → Prop) : gdP (.v (.bool false)) i true d X Y s = Y ((s.put (some i) (.v (.bool false))).put d (.v undef)) := by simp [gdP, okG, wq, noS]
theorem gdP_u (i : Nat) (b : Bool) (X Y : PS → Prop) : gdP (.v undef) i b d X Y s = Y (s.put d (.v undef)) := by simp [gdP, okG, wq, noS, undef]
theorem gdP.mkt {c : Bool} {i : Nat} {X Y : PS → Prop} (h1 : c = true → X (s.put (some i) (.v (.bool true)))) (h2 : c = false → Y ((s.put (some i) (.v (.bool false))).put d (.v undef))) : gdP (.v (.bool c)) i true d X Y s := by
  refine ⟨trivial, ?_⟩
  cases c <;> simp [wq, noS] <;> first | exact h1 rfl | exact h2 rfl
theorem gdP.mkf {c : Bool} {i : Nat} {X Y : PS → Prop} (h1 : c = true → Y ((s.put (some i) (.v (.bool true))).put d (.v undef))) (h2 : c = false → X (s.put (some i) (.v (.bool false)))) : gdP (.v (.bool c)) i false d X Y s := by
  refine ⟨trivial, ?_⟩
  cases c <;> simp [wq, noS] <;> first | exact h1 rfl | exact h2 rfl
theorem q_bin' (op : BinOp) (x y : PO) {Kv : PV → Prop} : PK.q P s (.bin op x y) Kv = (binC op (s.ev x) (s.ev y) ∧ Kv (binV op (s.ev x) (s.ev y))) := by
  simp only [PK.q, qbin_iff]
theorem q_beq' (n : Bool) (x y : PO) {Kv : PV → Prop} : PK.q P s (.beq n x y) Kv = ((isBl' (s.ev x) ∧ isBl' (s.ev y)) ∧ Kv (.v (.bool (n != (bV (s.ev x) == bV (s.ev y)))))) := by
  simp only [PK.q, qBool_iff, and_assoc]
theorem q_not' (x : PO) {Kv : PV → Prop} : PK.q P s (.not x) Kv = (isBl' (s.ev x) ∧ Kv (.v (.bool (!bV (s.ev x))))) := by
  simp only [PK.q, qBool_iff]
theorem q_cv' (k : IntKind) (x : PO) {Kv : PV → Prop} : PK.q P s (.cv k x) Kv = (isInt' (s.ev x) ∧ Kv (.v (.int k (k.wrap (iV (s.ev x)))))) := by
  simp only [PK.q, qInt_iff]
theorem q_fa' (x : PO) (o : Nat) {Kv : PV → Prop} : PK.q P s (.fa x o) Kv = (faC (s.ev x) ∧ Kv (faV o (s.ev x))) := by
  simp only [PK.q]
  cases s.ev x <;> simp [faC, faV]
theorem q_ia' (x y : PO) (n : Nat) {Kv : PV → Prop} : PK.q P s (.ia x y n) Kv = ((isSl' (s.ev x) ∧ isInt' (s.ev y) ∧ 0 ≤ iV (s.ev y) ∧ (eV (s.ev x))[(iV (s.ev y)).toNat]?.map List.length = some n) ∧ Kv (.cp ((eV (s.ev x))[(iV (s.ev y)).toNat]?.getD []) 0)) := by
  simp only [PK.q, qSl_iff, qInt_iff, and_assoc]
  cases h : (eV (s.ev x))[(iV (s.ev y)).toNat]? <;> simp [h]
theorem q_ld' (x : PO) (ag : Bool) (n : Nat) {Kv : PV → Prop} : PK.q P s (.ld x ag n) Kv = (ldC s.b (s.ev x) ag n ∧ Kv ((ldV s.b (s.ev x) ag n).strip)) := by
  simp only [PK.q]
  cases s.ev x <;> simp only [ldC, ldV, qAt_iff, false_and]
  rename_i i o
  cases s.b[i]? <;> simp [and_assoc]
theorem q_ln' (x : PO) {Kv : PV → Prop} : PK.q P s (.ln x) Kv = (isSl' (s.ev x) ∧ Kv (.v (.int .i64 (eV (s.ev x)).length))) := by
  simp only [PK.q, qSl_iff]
theorem q_bd' (zs : List PV) (ps : List (Nat × Nat × PO)) {Kv : PV → Prop} : PK.q P s (.bd zs ps) Kv = (partsC s ps zs ∧ Kv (.agg (partsV s ps zs))) := by
  simp only [PK.q, qParts_iff]
theorem q_bs' (n : Nat) (ps : List PO) {Kv : PV → Prop} : PK.q P s (.bs n ps) Kv = (elemsC s n ps ∧ Kv (.sl (elemsV s ps) .z)) := by
  simp only [PK.q, qElems_iff]
theorem l_bin (op : BinOp) (x y : PO) : pList P (⟨d, none, .bin op x y⟩ :: l) K s = (binC op (s.ev x) (s.ev y) ∧ pList P l K (s.put d (binV op (s.ev x) (s.ev y)))) := q_bin' (P := P) (s := s) op x y (Kv := fun p => pList P l K (s.put d p))
theorem h_bin (op : BinOp) (x y : PO) : pHead P (⟨d, none, .bin op x y⟩ :: l) K s = (binC op (s.ev x) (s.ev y) ∧ PV.own (binV op (s.ev x) (s.ev y)) = none ∧ pHead P l K (s.put d (binV op (s.ev x) (s.ev y)))) := q_bin' (P := P) (s := s) op x y (Kv := fun p => p.own = none ∧ pHead P l K (s.put d p))
theorem l_beq (n : Bool) (x y : PO) : pList P (⟨d, none, .beq n x y⟩ :: l) K s = ((isBl' (s.ev x) ∧ isBl' (s.ev y)) ∧ pList P l K (s.put d (.v (.bool (n != (bV (s.ev x) == bV (s.ev y))))))) := q_beq' (P := P) (s := s) n x y (Kv := fun p => pList P l K (s.put d p))
theorem h_beq (n : Bool) (x y : PO) : pHead P (⟨d, none, .beq n x y⟩ :: l) K s = ((isBl' (s.ev x) ∧ isBl' (s.ev y)) ∧ PV.own (.v (.bool (n != (bV (s.ev x) == bV (s.ev y))))) = none ∧ pHead P l K (s.put d (.v (.bool (n != (bV (s.ev x) == bV (s.ev y))))))) := q_beq' (P := P) (s := s) n x y (Kv := fun p => p.own = none ∧ pHead P l K (s.put d p))
theorem l_not (x : PO) : pList P (⟨d, none, .not x⟩ :: l) K s = (isBl' (s.ev x) ∧ pList P l K (s.put d (.v (.bool (!bV (s.ev x)))))) := q_not' (P := P) (s := s) x (Kv := fun p => pList P l K (s.put d p))
theorem h_not (x : PO) : pHead P (⟨d, none, .not x⟩ :: l) K s = (isBl' (s.ev x) ∧ PV.own (.v (.bool (!bV (s.ev x)))) = none ∧ pHead P l K (s.put d (.v (.bool (!bV (s.ev x)))))) := q_not' (P := P) (s := s) x (Kv := fun p => p.own = none ∧ pHead P l K (s.put d p))
theorem l_cv (k : IntKind) (x : PO) : pList P (⟨d, none, .cv k x⟩ :: l) K s = (isInt' (s.ev x) ∧ pList P l K (s.put d (.v (.int k (k.wrap (iV (s.ev x))))))) := q_cv' (P := P) (s := s) k x (Kv := fun p => pList P l K (s.put d p))
theorem h_cv (k : IntKind) (x : PO) : pHead P (⟨d, none, .cv k x⟩ :: l) K s = (isInt' (s.ev x) ∧ PV.own (.v (.int k (k.wrap (iV (s.ev x))))) = none ∧ pHead P l K (s.put d (.v (.int k (k.wrap (iV (s.ev x))))))) := q_cv' (P := P) (s := s) k x (Kv := fun p => p.own = none ∧ pHead P l K (s.put d p))
theorem l_fa (x : PO) (o : Nat) : pList P (⟨d, none, .fa x o⟩ :: l) K s = (faC (s.ev x) ∧ pList P l K (s.put d (faV o (s.ev x)))) := q_fa' (P := P) (s := s) x o (Kv := fun p => pList P l K (s.put d p))
theorem h_fa (x : PO) (o : Nat) : pHead P (⟨d, none, .fa x o⟩ :: l) K s = (faC (s.ev x) ∧ PV.own (faV o (s.ev x)) = none ∧ pHead P l K (s.put d (faV o (s.ev x)))) := q_fa' (P := P) (s := s) x o (Kv := fun p => p.own = none ∧ pHead P l K (s.put d p))
theorem l_ia (x y : PO) (n : Nat) : pList P (⟨d, none, .ia x y n⟩ :: l) K s = ((isSl' (s.ev x) ∧ isInt' (s.ev y) ∧ 0 ≤ iV (s.ev y) ∧ (eV (s.ev x))[(iV (s.ev y)).toNat]?.map List.length = some n) ∧ pList P l K (s.put d (.cp ((eV (s.ev x))[(iV (s.ev y)).toNat]?.getD []) 0))) := q_ia' (P := P) (s := s) x y n (Kv := fun p => pList P l K (s.put d p))
theorem h_ia (x y : PO) (n : Nat) : pHead P (⟨d, none, .ia x y n⟩ :: l) K s = ((isSl' (s.ev x) ∧ isInt' (s.ev y) ∧ 0 ≤ iV (s.ev y) ∧ (eV (s.ev x))[(iV (s.ev y)).toNat]?.map List.length = some n) ∧ PV.own (.cp ((eV (s.ev x))[(iV (s.ev y)).toNat]?.getD []) 0) = none ∧ pHead P l K (s.put d (.cp ((eV (s.ev x))[(iV (s.ev y)).toNat]?.getD []) 0))) := q_ia' (P := P) (s := s) x y n (Kv := fun p => p.own = none ∧ pHead P l K (s.put d p))
theorem h_ld (x : PO) (ag : Bool) (n : Nat) : pHead P (⟨d, none, .ld x ag n⟩ :: l) K s = (ldC s.b (s.ev x) ag n ∧ PV.own ((ldV s.b (s.ev x) ag n).strip) = none ∧ pHead P l K (s.put d ((ldV s.b (s.ev x) ag n).strip))) := q_ld' (P := P) (s := s) x ag n (Kv := fun p => p.own = none ∧ pHead P l K (s.put d p))
theorem l_ln (x : PO) : pList P (⟨d, none, .ln x⟩ :: l) K s = (isSl' (s.ev x) ∧ pList P l K (s.put d (.v (.int .i64 (eV (s.ev x)).length)))) := q_ln' (P := P) (s := s) x (Kv := fun p => pList P l K (s.put d p))
theorem h_ln (x : PO) : pHead P (⟨d, none, .ln x⟩ :: l) K s = (isSl' (s.ev x) ∧ PV.own (.v (.int .i64 (eV (s.ev x)).length)) = none ∧ pHead P l K (s.put d (.v (.int .i64 (eV (s.ev x)).length)))) := q_ln' (P := P) (s := s) x (Kv := fun p => p.own = none ∧ pHead P l K (s.put d p))
theorem l_bd (zs : List PV) (ps : List (Nat × Nat × PO)) : pList P (⟨d, none, .bd zs ps⟩ :: l) K s = (partsC s ps zs ∧ pList P l K (s.put d (.agg (partsV s ps zs)))) := q_bd' (P := P) (s := s) zs ps (Kv := fun p => pList P l K (s.put d p))
theorem h_bd (zs : List PV) (ps : List (Nat × Nat × PO)) : pHead P (⟨d, none, .bd zs ps⟩ :: l) K s = (partsC s ps zs ∧ PV.own (.agg (partsV s ps zs)) = none ∧ pHead P l K (s.put d (.agg (partsV s ps zs)))) := q_bd' (P := P) (s := s) zs ps (Kv := fun p => p.own = none ∧ pHead P l K (s.put d p))
theorem l_bs (i n : Nat) (ps : List PO) : pList P (⟨some i, none, .bs n ps⟩ :: l) K s = (elemsC s n ps ∧ pList P l K (s.put (some i) (.sl (elemsV s ps) (.r i n)))) := by
  show PK.e P (.bs n ps) (some i) s (pList P l K) = _
  simp only [PK.e, qElems_iff]
theorem h_bs (n : Nat) (ps : List PO) : pHead P (⟨d, none, .bs n ps⟩ :: l) K s = (elemsC s n ps ∧ PV.own (.sl (elemsV s ps) .z) = none ∧ pHead P l K (s.put d (.sl (elemsV s ps) .z))) := q_bs' (P := P) (s := s) n ps (Kv := fun p => p.own = none ∧ pHead P l K (s.put d p))

theorem l_ldt (x : PO) (n : Nat) : pList P (⟨d, none, .ld x true n⟩ :: l) K s = (ldC s.b (s.ev x) true n ∧ pList P l K (s.put d (ldV s.b (s.ev x) true n).strip)) := q_ld' (P := P) (s := s) x true n (Kv := fun p => pList P l K (s.put d p))
def ldW (bs : List (List PV)) (p : PV) : PV := match p with
  | .cp cs o => (atV cs o false 1).strip
  | .bx i o => atV (bs[i]?.getD []) o false 1
  | _ => .und
theorem ldW_c (bs : List (List PV)) (cs : List PV) (o : Nat) : ldW bs (.cp cs o) = (atV cs o false 1).strip := Eq.trans rfl rfl
theorem ldW_b (bs : List (List PV)) (i o : Nat) : ldW bs (.bx i o) = atV (bs[i]?.getD []) o false 1 := Eq.trans rfl rfl
theorem l_ldf (x : PO) : pList P (⟨d, none, .ld x false 1⟩ :: l) K s = (ldF s.b (s.ev x) ∧ pList P l K (s.put d (ldW s.b (s.ev x)))) := by
  show PK.e P (.ld x false 1) d s (pList P l K) = _
  simp only [PK.e]
  split
  · rename_i i o h
    rw [h]
    simp only [ldF, ldW, atC, atV]
    cases s.b[i]? with
    | none => simp
    | some cs => cases hc : cs[o]? <;> simp [hc]
  · rename_i h
    rw [q_ld']
    cases hx : s.ev x <;> first | rfl | exact absurd hx (h _ _) | (simp [ldC, ldF]; done)
theorem l_mv_t (i : Nat) : pList P (⟨d, none, .mv (.t i)⟩ :: l) K s = pList P l K (s.put d (s.get i)) := Eq.trans rfl rfl
theorem l_mv_c (p : PV) : pList P (⟨d, none, .mv (.c p)⟩ :: l) K s = pList P l K (s.put d p.strip) := Eq.trans rfl rfl
theorem l_mv_f (f : FuncId) : pList P (⟨d, none, .mv (.f f)⟩ :: l) K s = pList P l K (s.put d (.fn (.func f) [] [])) := Eq.trans rfl rfl
theorem h_mv_t (i : Nat) : pHead P (⟨d, none, .mv (.t i)⟩ :: l) K s = (((s.get i).pre i).own = none ∧ pHead P l K (s.put d ((s.get i).pre i))) := Eq.trans rfl rfl
theorem h_mv_c (p : PV) : pHead P (⟨d, none, .mv (.c p)⟩ :: l) K s = (p.strip.own = none ∧ pHead P l K (s.put d p.strip)) := Eq.trans rfl rfl
theorem h_mv_f (f : FuncId) : pHead P (⟨d, none, .mv (.f f)⟩ :: l) K s = pHead P l K (s.put d (.fn (.func f) [] [])) := by
  show (_ = none ∧ _) = _
  simp only [PS.ev, PV.strip, PV.own, true_and]
/-- A choice between two values: by a truth that is known. -/
def pkP (c : PV) (X Y : PS → Prop) (s : PS) : Prop := isBl' c ∧ if bV c = true then X s else Y s
theorem l_pk (c x y : PO) : pList P (⟨d, none, .pk c x y⟩ :: l) K s = pkP (s.ev c) (fun s' => pList P l K (s'.put d (s'.ev x).strip)) (fun s' => pList P l K (s'.put d (s'.ev y).strip)) s := by
  show qBool _ _ = _
  rw [qBool_iff]
  unfold pkP
  cases bV (s.ev c) <;> simp
theorem h_pk (c x y : PO) : pHead P (⟨d, none, .pk c x y⟩ :: l) K s = pkP (s.ev c) (fun s' => pHead P l K (s'.put d (s'.ev x).strip)) (fun s' => pHead P l K (s'.put d (s'.ev y).strip)) s := by
  show qBool _ _ = _
  rw [qBool_iff]
  unfold pkP
  cases bV (s.ev c) <;> simp [PV.strip_own]
theorem pkP_t (X Y : PS → Prop) : pkP (.v (.bool true)) X Y s = X s := by simp [pkP, isBl', bV]
theorem pkP_f (X Y : PS → Prop) : pkP (.v (.bool false)) X Y s = Y s := by simp [pkP, isBl', bV]
theorem pkP.mk {c : Bool} {X Y : PS → Prop} (h1 : c = true → X s) (h2 : c = false → Y s) : pkP (.v (.bool c)) X Y s := by
  refine ⟨trivial, ?_⟩
  cases c
  · exact h2 rfl
  · exact h1 rfl
/-! the other instructions -/
def eqC (p q : PV) : Prop := match p, q with
  | .agg [.v (.int k _), .v (.int l _)], .agg [.v (.int k' _), .v (.int l' _)] => k = k' ∧ l = l'
  | _, _ => False
def eqB (p q : PV) : Bool := match p, q with
  | .agg [.v (.int _ a), .v (.int _ b)], .agg [.v (.int _ a'), .v (.int _ b')] => decide (a = a') && decide (b = b')
  | _, _ => false
theorem eqC_v (k l k' l' : IntKind) (a b a' b' : Int) : eqC (.agg [.v (.int k a), .v (.int l b)]) (.agg [.v (.int k' a'), .v (.int l' b')]) = (k = k' ∧ l = l') := Eq.trans rfl rfl
theorem eqB_v (k l k' l' : IntKind) (a b a' b' : Int) : eqB (.agg [.v (.int k a), .v (.int l b)]) (.agg [.v (.int k' a'), .v (.int l' b')]) = (decide (a = a') && decide (b = b')) := Eq.trans rfl rfl
theorem q_eq2' (n : Bool) (x y : PO) {Kv : PV → Prop} : PK.q P s (.eq2 n x y) Kv = (eqC (s.ev x) (s.ev y) ∧ Kv (.v (.bool (n != eqB (s.ev x) (s.ev y))))) := by
  simp only [PK.q]
  generalize s.ev x = p
  generalize s.ev y = q
  unfold qeq2 eqC eqB
  split
  · simp [and_assoc]
  · rename_i h
    split
    · exact (h _ _ _ _ _ _ _ _ rfl rfl).elim
    · simp
def nlC : PV → Prop
  | .v .nilIface => True
  | .ifc _ _ => True
  | _ => False
def nlB : PV → Bool
  | .v .nilIface => true
  | _ => false
theorem nlC_n : nlC (.v .nilIface) = True := Eq.trans rfl rfl
theorem nlC_i (t : TypeId) (x : PV) : nlC (.ifc t x) = True := Eq.trans rfl rfl
theorem nlB_n : nlB (.v .nilIface) = true := Eq.trans rfl rfl
theorem nlB_i (t : TypeId) (x : PV) : nlB (.ifc t x) = false := Eq.trans rfl rfl
theorem q_nil' (n : Bool) (x : PO) {Kv : PV → Prop} : PK.q P s (.nil n x) Kv = (nlC (s.ev x) ∧ Kv (.v (.bool (n != nlB (s.ev x))))) := by
  simp only [PK.q]
  cases s.ev x <;> simp [nlC, nlB]
  rename_i v
  cases v <;> simp [nlC, nlB]
theorem q_nc' (x : PO) {Kv : PV → Prop} : PK.q P s (.nc x) Kv = (faC (s.ev x) ∧ Kv (s.ev x)) := by
  simp only [PK.q]
  cases s.ev x <;> simp [faC]
theorem q_mm' (m : Bool) (x y : PO) {Kv : PV → Prop} : PK.q P s (.mm m x y) Kv = ((isInt' (s.ev x) ∧ isInt' (s.ev y) ∧ iK (s.ev x) = iK (s.ev y)) ∧ Kv (.v (.int (iK (s.ev x)) (if m then (if iV (s.ev y) > iV (s.ev x) then iV (s.ev y) else iV (s.ev x)) else (if iV (s.ev y) < iV (s.ev x) then iV (s.ev y) else iV (s.ev x)))))) := by
  simp only [PK.q, qInt_iff, and_assoc]
theorem q_aa' (x y : PO) (n sz : Nat) {Kv : PV → Prop} : PK.q P s (.aa x y n sz) Kv = ((isInt' (s.ev y) ∧ 0 ≤ iV (s.ev y) ∧ iV (s.ev y) < n ∧ faC (s.ev x)) ∧ Kv (faV ((iV (s.ev y)).toNat * sz) (s.ev x))) := by
  simp only [PK.q, qInt_iff, and_assoc]
  cases s.ev x <;> simp [faC, faV]
def agC : PV → Prop
  | .agg _ => True
  | _ => False
def agV : PV → List PV
  | .agg cs => cs
  | _ => []
theorem agC_a (cs : List PV) : agC (.agg cs) = True := Eq.trans rfl rfl
theorem agV_a (cs : List PV) : agV (.agg cs) = cs := Eq.trans rfl rfl
theorem q_ix' (x y : PO) (n : Nat) (ag : Bool) (sz : Nat) {Kv : PV → Prop} : PK.q P s (.ix x y n ag sz) Kv = ((isInt' (s.ev y) ∧ 0 ≤ iV (s.ev y) ∧ iV (s.ev y) < n ∧ agC (s.ev x) ∧ atC (agV (s.ev x)) ((iV (s.ev y)).toNat * sz) ag sz) ∧ Kv (atV (agV (s.ev x)) ((iV (s.ev y)).toNat * sz) ag sz).strip) := by
  simp only [PK.q, qInt_iff, and_assoc]
  cases s.ev x <;> simp [agC, agV, qAt_iff, and_assoc]
theorem q_fl' (x : PO) (o : Nat) (ag : Bool) (n : Nat) {Kv : PV → Prop} : PK.q P s (.fl x o ag n) Kv = ((agC (s.ev x) ∧ atC (agV (s.ev x)) o ag n) ∧ Kv (atV (agV (s.ev x)) o ag n).strip) := by
  simp only [PK.q]
  cases s.ev x <;> simp [agC, agV, qAt_iff]
def mfC (ps : List PV) : Bool := ps.all fun p => p.isD || p.isB
theorem mfC_nil : mfC [] = true := Eq.trans rfl rfl
theorem mfC_cons (p : PV) (l : List PV) : mfC (p :: l) = ((p.isD || p.isB) && mfC l) := Eq.trans rfl rfl
theorem isB_v (x : Value) : PV.isB (.v x) = false := Eq.trans rfl rfl
theorem isB_sl (es : List (List PV)) (o : Ow) : PV.isB (.sl es o) = false := Eq.trans rfl rfl
theorem isB_agg (cs : List PV) : PV.isB (.agg cs) = false := Eq.trans rfl rfl
theorem isB_bx (i o : Nat) : PV.isB (.bx i o) = true := Eq.trans rfl rfl
theorem isB_cp (cs : List PV) (o : Nat) : PV.isB (.cp cs o) = false := Eq.trans rfl rfl
theorem isB_fn (f : Fn) (x y : List PV) : PV.isB (.fn f x y) = false := Eq.trans rfl rfl
theorem isB_ifc (t : TypeId) (x : PV) : PV.isB (.ifc t x) = false := Eq.trans rfl rfl
theorem isD_bx (i o : Nat) : PV.isD (.bx i o) = false := Eq.trans rfl rfl
theorem isD_fn (f : Fn) (x y : List PV) : PV.isD (.fn f x y) = (x.all (fun p => !p.isB) && y.all (fun p => !p.isB)) := Eq.trans rfl rfl
theorem q_mf' (f : Fn) (fs cs : List PO) {Kv : PV → Prop} : PK.q P s (.mf f fs cs) Kv = ((mfC (evs s fs) && mfC (evs s cs)) = true ∧ Kv (.fn f (evs s fs) (evs s cs))) := by
  simp only [PK.q, mfC, evs, List.all_map]
  rfl
theorem q_mi' (t : TypeId) (x : PO) {Kv : PV → Prop} : PK.q P s (.mi t x) Kv = ((s.ev x).isD = true ∧ Kv (.ifc t (s.ev x).sh)) := by
  simp only [PK.q]
  cases (s.ev x).isD <;> simp
/-- A call of a function value. -/
def clP (P : Program) (p : PV) (xs : List PV) (K : PS → Prop) (d : Option Nat) (s : PS) : Prop := match p with
  | .fn (.func f) fs cs => callQ P f (fs ++ xs ++ cs) K d s
  | _ => False
theorem clP_f (f : FuncId) (fs cs xs : List PV) : clP P (.fn (.func f) fs cs) xs K d s = callQ P f (fs ++ xs ++ cs) K d s := Eq.trans rfl rfl
theorem l_cl (y : PO) (xs : List PO) : pList P (⟨d, none, .cl y xs⟩ :: l) K s = clP P (s.ev y) (evs s xs) (pList P l K) d s := by
  show PK.q P s (.cl y xs) (fun p => pList P l K (s.put d p)) = _
  simp only [PK.q]
  cases s.ev y <;> rfl
theorem h_cl (y : PO) (xs : List PO) : pHead P (⟨d, none, .cl y xs⟩ :: l) K s = clP P (s.ev y) (evs s xs) (pHead P l K) d s := by
  show PK.q P s (.cl y xs) (fun p => p.own = none ∧ pHead P l K (s.put d p)) = _
  simp only [PK.q, PV.strip_own, true_and]
  cases s.ev y <;> rfl
theorem l_eq2 (n : Bool) (x y : PO) : pList P (⟨d, none, .eq2 n x y⟩ :: l) K s = (eqC (s.ev x) (s.ev y) ∧ pList P l K (s.put d (.v (.bool (n != eqB (s.ev x) (s.ev y)))))) := q_eq2' (P := P) (s := s) n x y (Kv := fun p => pList P l K (s.put d p))
theorem h_eq2 (n : Bool) (x y : PO) : pHead P (⟨d, none, .eq2 n x y⟩ :: l) K s = (eqC (s.ev x) (s.ev y) ∧ PV.own (.v (.bool (n != eqB (s.ev x) (s.ev y)))) = none ∧ pHead P l K (s.put d (.v (.bool (n != eqB (s.ev x) (s.ev y)))))) := q_eq2' (P := P) (s := s) n x y (Kv := fun p => p.own = none ∧ pHead P l K (s.put d p))
theorem l_nil (n : Bool) (x : PO) : pList P (⟨d, none, .nil n x⟩ :: l) K s = (nlC (s.ev x) ∧ pList P l K (s.put d (.v (.bool (n != nlB (s.ev x)))))) := q_nil' (P := P) (s := s) n x (Kv := fun p => pList P l K (s.put d p))
theorem h_nil (n : Bool) (x : PO) : pHead P (⟨d, none, .nil n x⟩ :: l) K s = (nlC (s.ev x) ∧ PV.own (.v (.bool (n != nlB (s.ev x)))) = none ∧ pHead P l K (s.put d (.v (.bool (n != nlB (s.ev x)))))) := q_nil' (P := P) (s := s) n x (Kv := fun p => p.own = none ∧ pHead P l K (s.put d p))
theorem l_nc (x : PO) : pList P (⟨d, none, .nc x⟩ :: l) K s = (faC (s.ev x) ∧ pList P l K (s.put d (s.ev x))) := q_nc' (P := P) (s := s) x (Kv := fun p => pList P l K (s.put d p))
theorem h_nc (x : PO) : pHead P (⟨d, none, .nc x⟩ :: l) K s = (faC (s.ev x) ∧ PV.own (s.ev x) = none ∧ pHead P l K (s.put d (s.ev x))) := q_nc' (P := P) (s := s) x (Kv := fun p => p.own = none ∧ pHead P l K (s.put d p))
theorem l_mm (m : Bool) (x y : PO) : pList P (⟨d, none, .mm m x y⟩ :: l) K s = ((isInt' (s.ev x) ∧ isInt' (s.ev y) ∧ iK (s.ev x) = iK (s.ev y)) ∧ pList P l K (s.put d (.v (.int (iK (s.ev x)) (if m then (if iV (s.ev y) > iV (s.ev x) then iV (s.ev y) else iV (s.ev x)) else (if iV (s.ev y) < iV (s.ev x) then iV (s.ev y) else iV (s.ev x))))))) := q_mm' (P := P) (s := s) m x y (Kv := fun p => pList P l K (s.put d p))
theorem h_mm (m : Bool) (x y : PO) : pHead P (⟨d, none, .mm m x y⟩ :: l) K s = ((isInt' (s.ev x) ∧ isInt' (s.ev y) ∧ iK (s.ev x) = iK (s.ev y)) ∧ PV.own (.v (.int (iK (s.ev x)) (if m then (if iV (s.ev y) > iV (s.ev x) then iV (s.ev y) else iV (s.ev x)) else (if iV (s.ev y) < iV (s.ev x) then iV (s.ev y) else iV (s.ev x))))) = none ∧ pHead P l K (s.put d (.v (.int (iK (s.ev x)) (if m then (if iV (s.ev y) > iV (s.ev x) then iV (s.ev y) else iV (s.ev x)) else (if iV (s.ev y) < iV (s.ev x) then iV (s.ev y) else iV (s.ev x))))))) := q_mm' (P := P) (s := s) m x y (Kv := fun p => p.own = none ∧ pHead P l K (s.put d p))
theorem l_aa (x y : PO) (n sz : Nat) : pList P (⟨d, none, .aa x y n sz⟩ :: l) K s = ((isInt' (s.ev y) ∧ 0 ≤ iV (s.ev y) ∧ iV (s.ev y) < n ∧ faC (s.ev x)) ∧ pList P l K (s.put d (faV ((iV (s.ev y)).toNat * sz) (s.ev x)))) := q_aa' (P := P) (s := s) x y n sz (Kv := fun p => pList P l K (s.put d p))
theorem h_aa (x y : PO) (n sz : Nat) : pHead P (⟨d, none, .aa x y n sz⟩ :: l) K s = ((isInt' (s.ev y) ∧ 0 ≤ iV (s.ev y) ∧ iV (s.ev y) < n ∧ faC (s.ev x)) ∧ PV.own (faV ((iV (s.ev y)).toNat * sz) (s.ev x)) = none ∧ pHead P l K (s.put d (faV ((iV (s.ev y)).toNat * sz) (s.ev x)))) := q_aa' (P := P) (s := s) x y n sz (Kv := fun p => p.own = none ∧ pHead P l K (s.put d p))
theorem l_ix (x y : PO) (n : Nat) (ag : Bool) (sz : Nat) : pList P (⟨d, none, .ix x y n ag sz⟩ :: l) K s = ((isInt' (s.ev y) ∧ 0 ≤ iV (s.ev y) ∧ iV (s.ev y) < n ∧ agC (s.ev x) ∧ atC (agV (s.ev x)) ((iV (s.ev y)).toNat * sz) ag sz) ∧ pList P l K (s.put d ((atV (agV (s.ev x)) ((iV (s.ev y)).toNat * sz) ag sz).strip))) := q_ix' (P := P) (s := s) x y n ag sz (Kv := fun p => pList P l K (s.put d p))
theorem h_ix (x y : PO) (n : Nat) (ag : Bool) (sz : Nat) : pHead P (⟨d, none, .ix x y n ag sz⟩ :: l) K s = ((isInt' (s.ev y) ∧ 0 ≤ iV (s.ev y) ∧ iV (s.ev y) < n ∧ agC (s.ev x) ∧ atC (agV (s.ev x)) ((iV (s.ev y)).toNat * sz) ag sz) ∧ PV.own ((atV (agV (s.ev x)) ((iV (s.ev y)).toNat * sz) ag sz).strip) = none ∧ pHead P l K (s.put d ((atV (agV (s.ev x)) ((iV (s.ev y)).toNat * sz) ag sz).strip))) := q_ix' (P := P) (s := s) x y n ag sz (Kv := fun p => p.own = none ∧ pHead P l K (s.put d p))
theorem l_fl (x : PO) (o : Nat) (ag : Bool) (n : Nat) : pList P (⟨d, none, .fl x o ag n⟩ :: l) K s = ((agC (s.ev x) ∧ atC (agV (s.ev x)) o ag n) ∧ pList P l K (s.put d ((atV (agV (s.ev x)) o ag n).strip))) := q_fl' (P := P) (s := s) x o ag n (Kv := fun p => pList P l K (s.put d p))
theorem h_fl (x : PO) (o : Nat) (ag : Bool) (n : Nat) : pHead P (⟨d, none, .fl x o ag n⟩ :: l) K s = ((agC (s.ev x) ∧ atC (agV (s.ev x)) o ag n) ∧ PV.own ((atV (agV (s.ev x)) o ag n).strip) = none ∧ pHead P l K (s.put d ((atV (agV (s.ev x)) o ag n).strip))) := q_fl' (P := P) (s := s) x o ag n (Kv := fun p => p.own = none ∧ pHead P l K (s.put d p))
/-- Whether an address of the call's own variables is among the operands. -/
def mfB (s : PS) (l : List PO) : Bool := l.any fun x => (s.ev x).isB
theorem mfB_nil : mfB s [] = false := rfl
theorem mfB_cons (x : PO) (l : List PO) : mfB s (x :: l) = ((s.ev x).isB || mfB s l) := rfl
theorem fz_mk : PS.fz ⟨t, b⟩ = ⟨t.map fun y => (y.1, y.2.fz b), []⟩ := rfl
theorem fz_v (x : Value) : PV.fz b (.v x) = .v x := rfl
theorem fz_agg (cs : List PV) : PV.fz b (.agg cs) = .agg cs := rfl
theorem fz_tup (cs : List PV) : PV.fz b (.tup cs) = .tup cs := rfl
theorem fz_sl (es : List (List PV)) (o : Ow) : PV.fz b (.sl es o) = .sl es o := rfl
theorem fz_bx (i o : Nat) : PV.fz b (.bx i o) = .cp ((b[i]?.getD []).map PV.sh) o := rfl
theorem fz_cp (cs : List PV) (o : Nat) : PV.fz b (.cp cs o) = .cp cs o := rfl
theorem fz_ifc (ty : TypeId) (x : PV) : PV.fz b (.ifc ty x) = .ifc ty x := rfl
theorem fz_und : PV.fz b .und = .und := rfl
theorem fz_fn (f : Fn) (fs cs : List PV) : PV.fz b (.fn f fs cs) = .fn f (fs.map (PV.fz1 b)) (cs.map (PV.fz1 b)) := rfl
theorem fz1_bx (i o : Nat) : PV.fz1 b (.bx i o) = .cp ((b[i]?.getD []).map PV.sh) o := rfl
theorem fz1_v (x : Value) : PV.fz1 b (.v x) = .v x := rfl
theorem fz1_cp (cs : List PV) (o : Nat) : PV.fz1 b (.cp cs o) = .cp cs o := rfl
theorem l_mf (f : Fn) (fs cs : List PO) : pList P (⟨d, none, .mf f fs cs⟩ :: l) K s = if (mfB s fs || mfB s cs) = true then (s.b.all allD = true ∧ (mfC (evs s.fz fs) && mfC (evs s.fz cs)) = true ∧ pList P l K (s.fz.put d (.fn f (evs s.fz fs) (evs s.fz cs)))) else ((mfC (evs s fs) && mfC (evs s cs)) = true ∧ pList P l K (s.put d (.fn f (evs s fs) (evs s cs)))) := by
  show PK.e P (.mf f fs cs) d s (pList P l K) = _
  simp only [PK.e, mfB]
  congr 1
  · rw [q_mf' (P := P) (s := s.fz) f fs cs (Kv := fun p => pList P l K (s.fz.put d p))]
  · exact q_mf' (P := P) (s := s) f fs cs (Kv := fun p => pList P l K (s.put d p))
theorem h_mf (f : Fn) (fs cs : List PO) : pHead P (⟨d, none, .mf f fs cs⟩ :: l) K s = ((mfC (evs s fs) && mfC (evs s cs)) = true ∧ PV.own (.fn f (evs s fs) (evs s cs)) = none ∧ pHead P l K (s.put d (.fn f (evs s fs) (evs s cs)))) := q_mf' (P := P) (s := s) f fs cs (Kv := fun p => p.own = none ∧ pHead P l K (s.put d p))
theorem l_mi (t : TypeId) (x : PO) : pList P (⟨d, none, .mi t x⟩ :: l) K s = ((s.ev x).isD = true ∧ pList P l K (s.put d (.ifc t (s.ev x).sh))) := q_mi' (P := P) (s := s) t x (Kv := fun p => pList P l K (s.put d p))
theorem h_mi (t : TypeId) (x : PO) : pHead P (⟨d, none, .mi t x⟩ :: l) K s = ((s.ev x).isD = true ∧ PV.own (.ifc t (s.ev x).sh) = none ∧ pHead P l K (s.put d (.ifc t (s.ev x).sh))) := q_mi' (P := P) (s := s) t x (Kv := fun p => p.own = none ∧ pHead P l K (s.put d p))
theorem l_sc (x : PO) (lo hi : Option PO) (n : Nat) : pList P (⟨d, none, .sc x lo hi n⟩ :: l) K s = (isSl' (s.ev x) ∧ bdC s hi ∧ bdC s lo ∧ bdV s 0 lo ≤ bdV s (eV (s.ev x)).length hi ∧ bdV s (eV (s.ev x)).length hi ≤ (eV (s.ev x)).length ∧ (∀ e ∈ eV (s.ev x), e.length = n) ∧
    pList P l K (s.put d (.sl (((eV (s.ev x)).take (bdV s (eV (s.ev x)).length hi)).drop (bdV s 0 lo)) .sh))) := by
  show PK.q P s (.sc x lo hi n) (fun p => pList P l K (s.put d p.strip)) = _
  have : ∀ es lo p, (PV.sl es (scO lo p)).strip = .sl es .sh := fun es lo p => by unfold scO; split <;> rfl
  simp only [PK.q, qSl_iff, qBd_iff, this]
theorem h_sc (x : PO) (lo hi : Option PO) (n : Nat) : pHead P (⟨d, none, .sc x lo hi n⟩ :: l) K s = (isSl' (s.ev x) ∧ bdC s hi ∧ bdC s lo ∧ bdV s 0 lo ≤ bdV s (eV (s.ev x)).length hi ∧ bdV s (eV (s.ev x)).length hi ≤ (eV (s.ev x)).length ∧ (∀ e ∈ eV (s.ev x), e.length = n) ∧
    pHead P l K (s.put d (.sl (((eV (s.ev x)).take (bdV s (eV (s.ev x)).length hi)).drop (bdV s 0 lo)) (scO lo (s.ev x))))) := by
  show PK.q P s (.sc x lo hi n) (fun p => p.own = none ∧ pHead P l K (s.put d p)) = _
  have : ∀ es lo p, (PV.sl es (scO lo p)).own = none := fun es lo p => by unfold scO; split <;> rfl
  simp only [PK.q, qSl_iff, qBd_iff, this, true_and]
theorem bdC_n : bdC s none = True := Eq.trans rfl rfl
theorem bdC_s (y : PO) : bdC s (some y) = (isInt' (s.ev y) ∧ 0 ≤ iV (s.ev y)) := Eq.trans rfl rfl
theorem bdV_n (n : Nat) : bdV s n none = n := Eq.trans rfl rfl
theorem bdV_s (n : Nat) (y : PO) : bdV s n (some y) = (iV (s.ev y)).toNat := Eq.trans rfl rfl
def tupC (p : PV) (i : Nat) : Prop := match p with
  | .tup cs => cs[i]?.isSome = true
  | _ => False
def tpV (p : PV) (i : Nat) : PV := match p with
  | .tup cs => (cs[i]?.getD .und).strip
  | _ => .und
theorem q_ex' (x : PO) (i : Nat) {Kv : PV → Prop} : PK.q P s (.ex x i) Kv = (tupC (s.ev x) i ∧ Kv (tpV (s.ev x) i)) := by
  simp only [PK.q]
  cases s.ev x <;> simp only [tupC, tpV, false_and]
  rename_i cs
  cases cs[i]? <;> simp
theorem l_exd (x : PO) (i : Nat) : pList P (⟨d, none, .ex x i⟩ :: l) K s = (tupC (s.ev x) i ∧ pList P l K (s.put d (tpV (s.ev x) i))) := q_ex' (P := P) (s := s) x i (Kv := fun p => pList P l K (s.put d p))
theorem h_exd (x : PO) (i : Nat) : pHead P (⟨d, none, .ex x i⟩ :: l) K s = (tupC (s.ev x) i ∧ (tpV (s.ev x) i).own = none ∧ pHead P l K (s.put d (tpV (s.ev x) i))) := q_ex' (P := P) (s := s) x i (Kv := fun p => p.own = none ∧ pHead P l K (s.put d p))
theorem tupC_t (cs : List PV) (i : Nat) : tupC (.tup cs) i = (cs[i]?.isSome = true) := Eq.trans rfl rfl
theorem tpV_t (cs : List PV) (i : Nat) : tpV (.tup cs) i = (cs[i]?.getD .und).strip := Eq.trans rfl rfl
theorem l_al (zs : List PV) : pList P (⟨d, none, .al zs⟩ :: l) K s = pList P l K (PS.put ⟨s.t, s.b ++ [zs]⟩ d (.bx s.b.length 0)) := Eq.trans rfl rfl
theorem l_bo (x : PO) : pList P (⟨d, none, .bo x⟩ :: l) K s = (cellsC (s.ev x) ∧ pList P l K (PS.put ⟨s.t, s.b ++ [(cellsV (s.ev x)).map PV.sh]⟩ d (.bx s.b.length 0))) := qCells_iff
def stC (bs : List (List PV)) (p q : PV) (n : Nat) : Prop := match p with
  | .bx i o => bs[i]?.isSome = true ∧ cellsC q ∧ (cellsV q).length = n ∧ o + n ≤ (bs[i]?.getD []).length
  | _ => False
def stB (bs : List (List PV)) (y : PO) (p q : PV) : List (List PV) := match p with
  | .bx i o => bs.set i (spl (bs[i]?.getD []) (keepOwn y q (cellsV q)) o)
  | _ => bs
theorem stC_b (bs : List (List PV)) (i o : Nat) (q : PV) (n : Nat) : stC bs (.bx i o) q n = (bs[i]?.isSome = true ∧ cellsC q ∧ (cellsV q).length = n ∧ o + n ≤ (bs[i]?.getD []).length) := Eq.trans rfl rfl
theorem stB_b (bs : List (List PV)) (y : PO) (i o : Nat) (q : PV) : stB bs y (.bx i o) q = bs.set i (spl (bs[i]?.getD []) (keepOwn y q (cellsV q)) o) := Eq.trans rfl rfl
theorem l_st (x y : PO) (n : Nat) : pList P (⟨d, none, .st x y n⟩ :: l) K s = (stC s.b (s.ev x) (s.ev y) n ∧ pList P l K (PS.put ⟨s.t, stB s.b y (s.ev x) (s.ev y)⟩ d (.v undef))) := by
  show PK.e P (.st x y n) d s (pList P l K) = _
  simp only [PK.e]
  cases s.ev x <;> simp only [stC, stB, false_and]
  rename_i i o
  cases s.b[i]? <;> simp [qCells_iff, and_assoc]
theorem l_ca (f : FuncId) (xs : List PO) : pList P (⟨d, none, .ca f xs⟩ :: l) K s = match xs with
    | .t i :: xs' => caD P f (s.get i) (evs s xs') (pList P l K) d s
    | xs => callP P f (evs s xs) (pList P l K) d s := by
  show PK.e P (.ca f xs) d s (pList P l K) = _
  simp only [PK.e]
  split
  · rename_i i xs'
    have e : s.ev (.t i) = s.get i := rfl
    simp only [List.map_cons, e, caD]
    generalize s.get i = p
    cases p with
    | sl es o => cases o <;> rfl
    | _ => rfl
  · rename_i h
    cases xs with
    | nil => rfl
    | cons x xs => cases x <;> first | rfl | exact absurd rfl (h _ _)
theorem caD_r (f : FuncId) (es : List (List PV)) (n sz : Nat) (xs : List PV) : caD P f (.sl es (.r n sz)) xs K d s = callO P f es n sz xs K d s := Eq.trans rfl rfl
theorem caD_v (f : FuncId) (x : Value) (xs : List PV) : caD P f (.v x) xs K d s = callP P f (.v x :: xs) K d s := Eq.trans rfl rfl
theorem caD_agg (f : FuncId) (cs : List PV) (xs : List PV) : caD P f (.agg cs) xs K d s = callP P f (.agg cs :: xs) K d s := Eq.trans rfl rfl
theorem caD_sh (f : FuncId) (es : List (List PV)) (xs : List PV) : caD P f (.sl es .sh) xs K d s = callP P f (.sl es .sh :: xs) K d s := Eq.trans rfl rfl
theorem caD_z (f : FuncId) (es : List (List PV)) (xs : List PV) : caD P f (.sl es .z) xs K d s = callP P f (.sl es .sh :: xs) K d s := Eq.trans rfl rfl
theorem caD_ifc (f : FuncId) (t : TypeId) (x : PV) (xs : List PV) : caD P f (.ifc t x) xs K d s = callP P f (.ifc t x :: xs) K d s := Eq.trans rfl rfl
theorem caD_fn (f : FuncId) (g : Fn) (x y : List PV) (xs : List PV) : caD P f (.fn g x y) xs K d s = callP P f (.fn g x y :: xs) K d s := Eq.trans rfl rfl
theorem h_ca (f : FuncId) (xs : List PO) : pHead P (⟨d, none, .ca f xs⟩ :: l) K s = callQ P f (evs s xs) (pHead P l K) d s := by
  show (∃ r, _ ∧ _ ∧ (PV.own _ = none ∧ _)) = _
  simp only [PV.strip_own, true_and]
  rfl
def apT (P : Program) (p q : PV) (x y : PO) (n m : Nat) (K : PS → Prop) (d : Option Nat) (s : PS) : Prop := match p with
  | .sl es (.r k sz') => sz' = n ∧ isT x = true ∧ isSl' q ∧ (∀ e ∈ eV q, e.length = n) ∧ (es.length + (eV q).length) * m ≤ 140737488355328 ∧ K ((s.down k).put d (.sl (es ++ eV q) (.r k n)))
  | .sl es .z => (match d with
    | some d => isSl' q ∧ (∀ e ∈ es, e.length = n) ∧ (∀ e ∈ eV q, e.length = n) ∧ (es.length + (eV q).length) * m ≤ 140737488355328 ∧ K (s.put (some d) (.sl (es ++ eV q) (apO es (eV q) d n)))
    | none => PK.q P s (.ap x y n m) fun p => K (s.put d p.strip))
  | _ => False
theorem l_ap (x y : PO) (n m : Nat) : pList P (⟨d, none, .ap x y n m⟩ :: l) K s = apT P (s.ev x) (s.ev y) x y n m (pList P l K) d s := by
  show PK.e P (.ap x y n m) d s (pList P l K) = _
  simp only [PK.e, apT, qSl_iff]
  generalize s.ev x = p
  cases p with
  | sl es o => cases o with
    | z => cases d <;> rfl
    | r k sz => rfl
    | _ => rfl
  | _ => rfl
theorem apT_r (es : List (List PV)) (k sz' : Nat) (q : PV) (x y : PO) (n m : Nat) : apT P (.sl es (.r k sz')) q x y n m K d s = (sz' = n ∧ isT x = true ∧ isSl' q ∧ (∀ e ∈ eV q, e.length = n) ∧ (es.length + (eV q).length) * m ≤ 140737488355328 ∧ K ((s.down k).put d (.sl (es ++ eV q) (.r k n)))) := Eq.trans rfl rfl
theorem apT_z (es : List (List PV)) (q : PV) (x y : PO) (d n m : Nat) : apT P (.sl es .z) q x y n m K (some d) s = (isSl' q ∧ (∀ e ∈ es, e.length = n) ∧ (∀ e ∈ eV q, e.length = n) ∧ (es.length + (eV q).length) * m ≤ 140737488355328 ∧ K (s.put (some d) (.sl (es ++ eV q) (apO es (eV q) d n)))) := Eq.trans rfl rfl
theorem apO_n (es' : List (List PV)) (d n : Nat) : apO [] es' d n = .r d n := by cases es' <;> rfl
theorem apO_c (es : List (List PV)) (e : List PV) (es' : List (List PV)) (d n : Nat) : apO es (e :: es') d n = .r d n := by cases es <;> rfl
theorem apO_s (e : List PV) (es : List (List PV)) (d n : Nat) : apO (e :: es) [] d n = .sh := rfl
def apH (p q : PV) (n m : Nat) : Prop := match p with
  | .sl es .z => isSl' q ∧ (∀ e ∈ es, e.length = n) ∧ (∀ e ∈ eV q, e.length = n) ∧ (es.length + (eV q).length) * m ≤ 140737488355328
  | _ => False
theorem apH_z (es : List (List PV)) (q : PV) (n m : Nat) : apH (.sl es .z) q n m = (isSl' q ∧ (∀ e ∈ es, e.length = n) ∧ (∀ e ∈ eV q, e.length = n) ∧ (es.length + (eV q).length) * m ≤ 140737488355328) := Eq.trans rfl rfl
theorem h_ap (x y : PO) (n m : Nat) : pHead P (⟨d, none, .ap x y n m⟩ :: l) K s = (apH (s.ev x) (s.ev y) n m ∧ pHead P l K (s.put d (.sl (eV (s.ev x) ++ eV (s.ev y)) (.n n)))) := by
  show PK.q P s (.ap x y n m) (fun p => p.own = none ∧ pHead P l K (s.put d p)) = _
  simp only [PK.q, apH, qSl_iff]
  cases h : s.ev x <;> try simp
  rename_i es o
  cases o <;> simp [eV, PV.own, and_assoc]
theorem strip_v (x : Value) : PV.strip (.v x) = .v x := Eq.trans rfl rfl
theorem strip_agg (cs : List PV) : PV.strip (.agg cs) = .agg cs := Eq.trans rfl rfl
theorem strip_tup (cs : List PV) : PV.strip (.tup cs) = .tup cs := Eq.trans rfl rfl
theorem strip_sh (es : List (List PV)) : PV.strip (.sl es .sh) = .sl es .sh := Eq.trans rfl rfl
theorem strip_z (es : List (List PV)) : PV.strip (.sl es .z) = .sl es .z := Eq.trans rfl rfl
theorem strip_r (es : List (List PV)) (n m : Nat) : PV.strip (.sl es (.r n m)) = .sl es .sh := Eq.trans rfl rfl
theorem strip_p (es : List (List PV)) (m : Nat) : PV.strip (.sl es (.p m)) = .sl es .sh := Eq.trans rfl rfl
theorem strip_n (es : List (List PV)) (m : Nat) : PV.strip (.sl es (.n m)) = .sl es .sh := Eq.trans rfl rfl
theorem strip_bx (i o : Nat) : PV.strip (.bx i o) = .bx i o := Eq.trans rfl rfl
theorem strip_cp (cs : List PV) (o : Nat) : PV.strip (.cp cs o) = .cp cs o := Eq.trans rfl rfl
theorem strip_fn (f : Fn) (x y : List PV) : PV.strip (.fn f x y) = .fn f x y := Eq.trans rfl rfl
theorem strip_ifc (t : TypeId) (x : PV) : PV.strip (.ifc t x) = .ifc t x := Eq.trans rfl rfl
theorem sh_v (x : Value) : PV.sh (.v x) = .v x := Eq.trans rfl rfl
theorem sh_agg (cs : List PV) : PV.sh (.agg cs) = .agg cs := Eq.trans rfl rfl
theorem sh_tup (cs : List PV) : PV.sh (.tup cs) = .tup cs := Eq.trans rfl rfl
theorem sh_sl (es : List (List PV)) (o : Ow) : PV.sh (.sl es o) = .sl es .sh := Eq.trans rfl rfl
theorem sh_bx (i o : Nat) : PV.sh (.bx i o) = .bx i o := Eq.trans rfl rfl
theorem sh_cp (cs : List PV) (o : Nat) : PV.sh (.cp cs o) = .cp cs o := Eq.trans rfl rfl
theorem sh_fn (f : Fn) (x y : List PV) : PV.sh (.fn f x y) = .fn f x y := Eq.trans rfl rfl
theorem sh_ifc (t : TypeId) (x : PV) : PV.sh (.ifc t x) = .ifc t x := Eq.trans rfl rfl
theorem own_v (x : Value) : PV.own (.v x) = none := Eq.trans rfl rfl
theorem own_agg (cs : List PV) : PV.own (.agg cs) = none := Eq.trans rfl rfl
theorem own_tup (cs : List PV) : PV.own (.tup cs) = none := Eq.trans rfl rfl
theorem own_sh (es : List (List PV)) : PV.own (.sl es .sh) = none := Eq.trans rfl rfl
theorem own_z (es : List (List PV)) : PV.own (.sl es .z) = none := Eq.trans rfl rfl
theorem own_p (es : List (List PV)) (m : Nat) : PV.own (.sl es (.p m)) = none := Eq.trans rfl rfl
theorem own_n (es : List (List PV)) (m : Nat) : PV.own (.sl es (.n m)) = none := Eq.trans rfl rfl
theorem own_bx (i o : Nat) : PV.own (.bx i o) = none := Eq.trans rfl rfl
theorem own_cp (cs : List PV) (o : Nat) : PV.own (.cp cs o) = none := Eq.trans rfl rfl
theorem own_fn (f : Fn) (x y : List PV) : PV.own (.fn f x y) = none := Eq.trans rfl rfl
theorem own_ifc (t : TypeId) (x : PV) : PV.own (.ifc t x) = none := Eq.trans rfl rfl
theorem down_v (n : Nat) (x : Value) : PV.down n (.v x) = .v x := Eq.trans rfl rfl
theorem down_agg (n : Nat) (cs : List PV) : PV.down n (.agg cs) = .agg cs := Eq.trans rfl rfl
theorem down_tup (n : Nat) (cs : List PV) : PV.down n (.tup cs) = .tup cs := Eq.trans rfl rfl
theorem down_sh (n : Nat) (es : List (List PV)) : PV.down n (.sl es .sh) = .sl es .sh := Eq.trans rfl rfl
theorem down_z (n : Nat) (es : List (List PV)) : PV.down n (.sl es .z) = .sl es .z := Eq.trans rfl rfl
theorem down_p (n m : Nat) (es : List (List PV)) : PV.down n (.sl es (.p m)) = .sl es (.p m) := Eq.trans rfl rfl
theorem down_n (n m : Nat) (es : List (List PV)) : PV.down n (.sl es (.n m)) = .sl es (.n m) := Eq.trans rfl rfl
theorem down_r (n m k : Nat) (es : List (List PV)) : PV.down n (.sl es (.r m k)) = if m = n then .sl es .sh else .sl es (.r m k) := Eq.trans rfl rfl
theorem down_bx (n i o : Nat) : PV.down n (.bx i o) = .bx i o := Eq.trans rfl rfl
theorem down_cp (n : Nat) (cs : List PV) (o : Nat) : PV.down n (.cp cs o) = .cp cs o := Eq.trans rfl rfl
theorem down_fn (n : Nat) (f : Fn) (x y : List PV) : PV.down n (.fn f x y) = .fn f x y := Eq.trans rfl rfl
theorem down_ifc (n : Nat) (t : TypeId) (x : PV) : PV.down n (.ifc t x) = .ifc t x := Eq.trans rfl rfl
theorem down_und (n : Nat) : PV.down n .und = .und := Eq.trans rfl rfl
theorem clean_mk : PS.clean ⟨t, b⟩ = ⟨t.map fun y => (y.1, y.2.clean), b⟩ := Eq.trans rfl rfl
theorem clean_v (x : Value) : PV.clean (.v x) = .v x := Eq.trans rfl rfl
theorem pre_v (j : Nat) (x : Value) : PV.pre j (.v x) = .v x := Eq.trans rfl rfl
theorem clean_agg (cs : List PV) : PV.clean (.agg cs) = .agg cs := Eq.trans rfl rfl
theorem pre_agg (j : Nat) (cs : List PV) : PV.pre j (.agg cs) = .agg cs := Eq.trans rfl rfl
theorem clean_tup (cs : List PV) : PV.clean (.tup cs) = .tup cs := Eq.trans rfl rfl
theorem pre_tup (j : Nat) (cs : List PV) : PV.pre j (.tup cs) = .tup cs := Eq.trans rfl rfl
theorem clean_sh (es : List (List PV)) : PV.clean (.sl es .sh) = .sl es .sh := Eq.trans rfl rfl
theorem pre_sh (j : Nat) (es : List (List PV)) : PV.pre j (.sl es .sh) = .sl es .sh := Eq.trans rfl rfl
theorem clean_z (es : List (List PV)) : PV.clean (.sl es .z) = .sl es .z := Eq.trans rfl rfl
theorem pre_z (j : Nat) (es : List (List PV)) : PV.pre j (.sl es .z) = .sl es .z := Eq.trans rfl rfl
theorem clean_bx (i o : Nat) : PV.clean (.bx i o) = .bx i o := Eq.trans rfl rfl
theorem pre_bx (j : Nat) (i o : Nat) : PV.pre j (.bx i o) = .bx i o := Eq.trans rfl rfl
theorem clean_cp (cs : List PV) (o : Nat) : PV.clean (.cp cs o) = .cp cs o := Eq.trans rfl rfl
theorem pre_cp (j : Nat) (cs : List PV) (o : Nat) : PV.pre j (.cp cs o) = .cp cs o := Eq.trans rfl rfl
theorem clean_fn (f : Fn) (x y : List PV) : PV.clean (.fn f x y) = .fn f x y := Eq.trans rfl rfl
theorem pre_fn (j : Nat) (f : Fn) (x y : List PV) : PV.pre j (.fn f x y) = .fn f x y := Eq.trans rfl rfl
theorem clean_ifc (t : TypeId) (x : PV) : PV.clean (.ifc t x) = .ifc t x := Eq.trans rfl rfl
theorem pre_ifc (j : Nat) (t : TypeId) (x : PV) : PV.pre j (.ifc t x) = .ifc t x := Eq.trans rfl rfl
theorem clean_und  : PV.clean (.und) = .und := Eq.trans rfl rfl
theorem pre_und (j : Nat)  : PV.pre j (.und) = .und := Eq.trans rfl rfl
theorem clean_r (es : List (List PV)) (n m : Nat) : PV.clean (.sl es (.r n m)) = .sl es (.r n m) := Eq.trans rfl rfl
theorem clean_n (es : List (List PV)) (m : Nat) : PV.clean (.sl es (.n m)) = .sl es .sh := Eq.trans rfl rfl
theorem clean_p (es : List (List PV)) (m : Nat) : PV.clean (.sl es (.p m)) = .sl es .sh := Eq.trans rfl rfl
theorem pre_r (j : Nat) (es : List (List PV)) (n m : Nat) : PV.pre j (.sl es (.r n m)) = .sl es (.p j) := Eq.trans rfl rfl
theorem pre_n (j : Nat) (es : List (List PV)) (m : Nat) : PV.pre j (.sl es (.n m)) = .sl es .sh := Eq.trans rfl rfl
theorem pre_p (j : Nat) (es : List (List PV)) (m : Nat) : PV.pre j (.sl es (.p m)) = .sl es .sh := Eq.trans rfl rfl
theorem scO_none (es : List (List PV)) (i : Nat) : scO none (.sl es (.p i)) = .p i := Eq.trans rfl rfl
theorem scO_some (y : PO) (p : PV) : scO (some y) p = .sh := Eq.trans rfl rfl
theorem scO_sh (es : List (List PV)) : scO none (.sl es .sh) = .sh := Eq.trans rfl rfl
theorem scO_z (es : List (List PV)) : scO none (.sl es .z) = .sh := Eq.trans rfl rfl
theorem scO_r (es : List (List PV)) (n m : Nat) : scO none (.sl es (.r n m)) = .sh := Eq.trans rfl rfl
theorem scO_n (es : List (List PV)) (m : Nat) : scO none (.sl es (.n m)) = .sh := Eq.trans rfl rfl
theorem isD_v (x : Value) : PV.isD (.v x) = true := Eq.trans rfl rfl
theorem isD_agg (cs : List PV) : PV.isD (.agg cs) = true := Eq.trans rfl rfl
theorem isD_tup (cs : List PV) : PV.isD (.tup cs) = true := Eq.trans rfl rfl
theorem isD_sl (es : List (List PV)) (o : Ow) : PV.isD (.sl es o) = true := Eq.trans rfl rfl
theorem isD_cp (cs : List PV) (o : Nat) : PV.isD (.cp cs o) = true := Eq.trans rfl rfl
theorem isD_ifc (t : TypeId) (x : PV) : PV.isD (.ifc t x) = true := Eq.trans rfl rfl
theorem allD_nil : allD [] = true := Eq.trans rfl rfl
theorem allD_cons (p : PV) (l : List PV) : allD (p :: l) = (p.isD && allD l) := Eq.trans rfl rfl
end
/-! states that say less -/
section
variable {nb : Nat}
theorem sub_und (p : PV) : SubP nb p .und ↔ True := ⟨fun _ => trivial, fun _ => .und p⟩
theorem sub_v (x y : Value) : SubP nb (.v x) (.v y) ↔ x = y := ⟨fun h => by cases h <;> rfl, fun h => by subst h; exact .eq _ rfl⟩
theorem sub_agg (x y : List PV) : SubP nb (.agg x) (.agg y) ↔ x = y := ⟨fun h => by cases h <;> rfl, fun h => by subst h; exact .eq _ rfl⟩
theorem sub_tup (x y : List PV) : SubP nb (.tup x) (.tup y) ↔ x = y := ⟨fun h => by cases h <;> rfl, fun h => by subst h; exact .eq _ rfl⟩
theorem sub_ifc (t t' : TypeId) (x y : PV) : SubP nb (.ifc t x) (.ifc t' y) ↔ t = t' ∧ x = y := ⟨fun h => by cases h <;> exact ⟨rfl, rfl⟩, fun ⟨h, h'⟩ => by subst h; subst h'; exact .eq _ rfl⟩
theorem sub_cp (x y : List PV) (i j : Nat) : SubP nb (.cp x i) (.cp y j) ↔ x = y ∧ i = j := ⟨fun h => by cases h <;> exact ⟨rfl, rfl⟩, fun ⟨h, h'⟩ => by subst h; subst h'; exact .eq _ rfl⟩
theorem sub_bx (i j o o' : Nat) : SubP nb (.bx i o) (.bx j o') ↔ (i = j ∧ o = o') ∧ i < nb := ⟨fun h => by cases h <;> (rename_i h; exact ⟨⟨rfl, rfl⟩, by simpa [lowB] using h⟩), fun ⟨⟨h, h'⟩, h2⟩ => by subst h; subst h'; exact .eq _ (by simpa [lowB] using h2)⟩
theorem sub_fn (f f' : Fn) (x y x' y' : List PV) : SubP nb (.fn f x y) (.fn f' x' y') ↔ (f = f' ∧ x = x' ∧ y = y') ∧ (x.all (low1 nb) && y.all (low1 nb)) = true :=
  ⟨fun h => by cases h <;> (rename_i h; exact ⟨⟨rfl, rfl, rfl⟩, h⟩), fun ⟨⟨h, h', h3⟩, h2⟩ => by subst h; subst h'; subst h3; exact .eq _ h2⟩
theorem sub_sh (x y : List (List PV)) (o : Ow) : SubP nb (.sl x o) (.sl y .sh) ↔ x = y := ⟨fun h => by cases h <;> rfl, fun h => by subst h; exact .sh (.sl x o) rfl⟩
theorem sub_z (x y : List (List PV)) : SubP nb (.sl x .z) (.sl y .z) ↔ x = y := ⟨fun h => by cases h <;> rfl, fun h => by subst h; exact .eq _ rfl⟩
theorem sub_r (x y : List (List PV)) (n m n' m' : Nat) : SubP nb (.sl x (.r n m)) (.sl y (.r n' m')) ↔ x = y ∧ n = n' ∧ m = m' := ⟨fun h => by cases h <;> exact ⟨rfl, rfl, rfl⟩, fun ⟨h, h', h2⟩ => by subst h; subst h'; subst h2; exact .eq _ rfl⟩
theorem sub_zr (x y : List (List PV)) (n m : Nat) : SubP nb (.sl x .z) (.sl y (.r n m)) ↔ x = [] ∧ y = [] := ⟨fun h => by cases h; exact ⟨rfl, rfl⟩, fun ⟨h, h'⟩ => by subst h; subst h'; exact .nil _ _⟩
theorem subS_def (t t' : List (Nat × PV)) (b b' : List (List PV)) : SubS ⟨t, b⟩ ⟨t', b'⟩ ↔ SubT b'.length t t' ∧ SubB b'.length b b' := Iff.rfl
theorem subT_nil' (t : List (Nat × PV)) : SubT nb t [] ↔ True := Iff.rfl
theorem subT_cons' (t r : List (Nat × PV)) (i : Nat) (q : PV) : SubT nb t ((i, q) :: r) ↔ SubP nb (lkp t i) q ∧ SubT nb t r := Iff.rfl
theorem subB_nil' (l : List (List PV)) : SubB nb l [] ↔ True := ⟨fun _ => trivial, fun _ => .nil l⟩
/-- Cell by cell. -/
def SubC (nb : Nat) : List PV → List PV → Prop
  | [], [] => True
  | p :: l, q :: r => SubP nb p q ∧ SubC nb l r
  | _, _ => False
theorem SubC.get : ∀ {l r : List PV}, SubC nb l r → l.length = r.length ∧ ∀ (j : Nat) p q, l[j]? = some p → r[j]? = some q → SubP nb p q
  | [], [], _ => ⟨rfl, fun j p q h => by simp at h⟩
  | p :: l, q :: r, h => by
    obtain ⟨h1, h2⟩ := SubC.get h.2
    refine ⟨by simp [h1], fun j p' q' hp hq => ?_⟩
    cases j with
    | zero => simp at hp hq; subst hp; subst hq; exact h.1
    | succ j => exact h2 j p' q' (by simpa using hp) (by simpa using hq)
  | [], _ :: _, h => h.elim
  | _ :: _, [], h => h.elim
theorem subB_cons' (cs cs' : List PV) (l l' : List (List PV)) (h : SubC nb cs cs' ∧ SubB nb l l') : SubB nb (cs :: l) (cs' :: l') := .cons _ _ _ _ h.1.get.1 h.1.get.2 h.2
theorem subC_get : ∀ (l r : List PV), l.length = r.length → (∀ (j : Nat) p q, l[j]? = some p → r[j]? = some q → SubP nb p q) → SubC nb l r
  | [], [], _, _ => trivial
  | p :: l, q :: r, h, hc => ⟨hc 0 p q rfl rfl, subC_get l r (by simpa using h) fun j p q h1 h2 => hc (j + 1) p q (by simpa using h1) (by simpa using h2)⟩
  | [], _ :: _, h, _ => by simp at h
  | _ :: _, [], h, _ => by simp at h
theorem subB_cons_iff (cs cs' : List PV) (l l' : List (List PV)) : SubB nb (cs :: l) (cs' :: l') ↔ SubC nb cs cs' ∧ SubB nb l l' := ⟨fun h => by cases h with | cons _ _ _ _ h hc hl => exact ⟨subC_get _ _ h hc, hl⟩, subB_cons' cs cs' l l'⟩
theorem subC_nil : SubC nb [] [] ↔ True := Iff.rfl
theorem subC_cons (p q : PV) (l r : List PV) : SubC nb (p :: l) (q :: r) ↔ SubP nb p q ∧ SubC nb l r := Iff.rfl
end
/-- An interval's cells; a list of intervals. -/
def ivc (s : Iv) : List PV := [.v (.int .u64 s.lo), .v (.int .u64 s.hi)]
def ivp (s : Iv) : PV := .agg (ivc s)
/-- A number's cell; a list of lists. -/
def natc (x : Nat) : List PV := [.v (.int .u64 x)]
def rg (l : List Iv) : PV := .sl (l.map ivc) .sh
def rgs (ls : List (List Iv)) : PV := .sl (ls.map fun l => [rg l]) .sh
theorem wrap_u (n : Int) : IntKind.u64.wrap n = n % 18446744073709551616 := by
  simp only [IntKind.wrap, IntKind.bits, IntKind.signed, Bool.false_and, Bool.false_eq_true, if_false]
  rfl
theorem nat_succ (k : Nat) : (k : Int) + 1 = ((k + 1 : Nat) : Int) := Eq.trans rfl rfl
/-- A loop, its states a family. -/
theorem pLoop.mk {body : (PX → PS → Prop) → PS → Prop} {Q : PX → PS → Prop} {s : PS} {ι : Type} (J : ι → Prop) (S : ι → PS) (m : ι → Nat) (i0 : ι) (h0 : J i0) (hs : SubS s (S i0)) (hr : ∀ i, J i → body (thenX (fun s' => ∃ j, J j ∧ m j < m i ∧ SubS s' (S j)) Q) (S i)) : pLoop body Q s :=
  ⟨ι, J, S, m, i0, h0, hs, hr⟩
theorem rng_ok {n : Int} (h : -9223372036854775808 ≤ n ∧ n < 9223372036854775808) : rng .i64 n = True := by simp [rng, h]
theorem map_at {α : Type} {f : α → List PV} {l : List α} {k : Nat} (h : k < l.length) : (l.map f)[k]? = some (f l[k]) := by rw [List.getElem?_map, List.getElem?_eq_getElem h]; rfl
theorem nat_pred {k : Nat} (h : 1 ≤ k) : (k : Int) - 1 = ((k - 1 : Nat) : Int) := by omega
theorem nat_sub {a b : Nat} (h : b ≤ a) : (a : Int) - (b : Int) = ((a - b : Nat) : Int) := by omega
theorem nat_add (a b : Nat) : (a : Int) + (b : Int) = ((a + b : Nat) : Int) := by omega
theorem mod_small {n : Int} (h : 0 ≤ n ∧ n < 18446744073709551616) : n % 18446744073709551616 = n := Int.emod_eq_of_lt h.1 h.2
theorem shrI_1 {a : Int} (h : 0 ≤ a) : shrI .u64 a 1 = a / 2 := by
  unfold shrI
  rw [Int.fdiv_eq_ediv_of_nonneg _ (by decide)]
  rfl
theorem nat_half (a : Nat) : (a : Int) / 2 = ((a / 2 : Nat) : Int) := by omega
theorem forget_nil (s : PS) : forget [] s = s := rfl
theorem forget_cons (i : PI) (h : List PI) (s : PS) : forget (i :: h) s = forget h (s.put i.d .und) := rfl
theorem qSl_s (es : List (List PV)) (o : Ow) (K : List (List PV) → Prop) : qSl (.sl es o) K = K es := rfl
theorem mtake {α β : Type} (f : α → β) (n : Nat) (l : List α) : List.take n (l.map f) = (l.take n).map f := List.map_take.symm
theorem mdrop {α β : Type} (f : α → β) (n : Nat) (l : List α) : List.drop n (l.map f) = (l.drop n).map f := List.map_drop.symm
/-- A loop: the slots that it writes are named anew, the others stay. -/
theorem pLoop.go {P : Program} {nt : Nat} {fr : Prop} {pc : PC} {Q : PX → PS → Prop} {t : List (Nat × PV)} {b : List (List PV)} {ι : Type} (J : ι → Prop) (T : ι → List (Nat × PV)) (Bx : ι → List (List PV)) (m : ι → Nat) (i0 : ι) (W : List Nat) (h0 : J i0)
    (hs : SubS ⟨t, b⟩ ⟨T i0 ++ t.filter (fun y => !W.contains y.1), Bx i0⟩) (hr : ∀ i, J i → pW P nt fr pc (thenX (fun s' => ∃ j, J j ∧ m j < m i ∧ SubS s' ⟨T j ++ t.filter (fun y => !W.contains y.1), Bx j⟩) Q) ⟨T i ++ t.filter (fun y => !W.contains y.1), Bx i⟩) : pLoop (pW P nt fr pc) Q ⟨t, b⟩ :=
  ⟨ι, J, fun i => ⟨T i ++ t.filter (fun y => !W.contains y.1), Bx i⟩, m, i0, h0, hs, hr⟩
end Go.Proofs.YtcedofkenfddkaaDoor
