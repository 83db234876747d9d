/- Texts of this claim, bound together: Base Pure Data Region Open Span SetA. -/
import Derived.RangeFuncNested
import Derived.RangeFuncBound
import Derived.RangeFuncCalls
import Derived.RangeFuncLeaves
import Derived.Shelf.Abstract
import Derived.Shelf.RegionOpen
import Derived.WalkKit
import Derived.OwnWalkIn
import Derived.TacticsInMore
import Derived.LoopNIn
import Derived.LoopIn
import Derived.Maps.AppendAt
import Derived.Lib.Hide
import Derived.Test.YtcedofkenfddkaaProg
import Derived.ChangeAt
import Derived.DataElems
import Derived.Deep.Slices
import Derived.ProofKit
import Derived.Lib.SmallJoins
/- The ground of this claim's texts: intervals, entries and fragments as plain data; the frame relation Keep; a law for a range over an iterator that keeps a state of its own in cells. No condition. -/
namespace Go.Proofs.Ytcedofkenfddkaa
set_option linter.unusedVariables false
set_option linter.unusedSimpArgs false
open Go.RowKit

/-- What lies outside the blocks of S is as it was. -/
structure Keep (S : Nat → Prop) (A B : World) : Prop where
  os : B.os = A.os
  tape : B.tape = A.tape
  output : B.output = A.output
  size : A.heap.size ≤ B.heap.size
  block : ∀ k, k < A.heap.size → ¬ S k → B.heap[k]? = A.heap[k]?
namespace Keep
variable {S S' : Nat → Prop} {A B C : World}
theorem refl (S : Nat → Prop) (A : World) : Keep S A A := ⟨rfl, rfl, rfl, Nat.le_refl _, fun _ _ _ => rfl⟩
theorem trans (h : Keep S A B) (k : Keep S B C) : Keep S A C :=
  ⟨k.os.trans h.os, k.tape.trans h.tape, k.output.trans h.output, Nat.le_trans h.size k.size, fun i hi hs => (k.block i (Nat.lt_of_lt_of_le hi h.size) hs).trans (h.block i hi hs)⟩
theorem mono (h : Keep S A B) (hs : ∀ k, k < A.heap.size → S k → S' k) : Keep S' A B := ⟨h.os, h.tape, h.output, h.size, fun i hi hn => h.block i hi fun e => hn (hs i hi e)⟩
theorem drew (h : Keep S A B) : Keep S A B.drew := ⟨h.os, h.tape, h.output, h.size, h.block⟩
theorem alloc (h : Keep S A B) (o : Obj) : Keep S A (B.alloc o) :=
  h.trans ⟨rfl, rfl, rfl, by simp, fun k hk _ => Below.heap_alloc _ _ _ hk⟩
theorem setCell (h : Keep S A B) {p : Addr} (hp : p.block < A.heap.size → S p.block) (u : Value) : Keep S A (B.setCell p u) :=
  ⟨h.os, h.tape, h.output, by show A.heap.size ≤ (B.heap.modify _ _).size; rw [Array.size_modify]; exact h.size, fun k hk hs => (Below.heap_setCell _ _ _ _ (fun e => hs (by rw [e]; exact hp (by rw [← e]; exact hk)))).trans (h.block k hk hs)⟩
theorem putObj (h : Keep S A B) {l : Nat} (hp : l < A.heap.size → S l) (o : Obj) : Keep S A (B.putObj l o) :=
  ⟨h.os, h.tape, h.output, by simpa using h.size, fun k hk hs => (World.putObj_heap_other (fun e => hs (by rw [e]; exact hp (by rw [← e]; exact hk)))).trans (h.block k hk hs)⟩
theorem grown {row : Option Nat} (h : Keep S A B) (hg : B.grownBy C row) (hr : ∀ k, row = some k → k < A.heap.size → S k) : Keep S A C :=
  ⟨hg.os.trans h.os, hg.tape.trans h.tape, hg.output.trans h.output, Nat.le_trans h.size hg.size, fun k hk hs => (hg.block k (Nat.lt_of_lt_of_le hk h.size) (fun e => hs (hr k e.symm hk))).trans (h.block k hk hs)⟩
theorem below {n : Nat} (h : Keep S A B) (hn : n ≤ A.heap.size) (hs : ∀ k, k < n → ¬ S k) : Below n A B :=
  ⟨h.os, h.tape, h.output, h.size, fun k hk => h.block k (by omega) (hs k hk)⟩
theorem of_below' {n : Nat} (h : Below n A B) (hn : A.heap.size ≤ n) : Keep S A B := ⟨h.os, h.tape, h.output, h.size, fun k hk _ => h.block k (by omega)⟩
theorem cell (h : Keep S A B) {p : Addr} (hp : p.block < A.heap.size) (hs : ¬ S p.block) : B.cell? p = A.cell? p := World.cell?_of_block (h.block _ hp hs)
theorem frozen (h : Keep S A B) {p : Addr} (hp : p.block < A.heap.size) (hs : ¬ S p.block) : B.frozen? p = A.frozen? p := World.frozen?_of_block (h.block _ hp hs)
theorem cell_some (h : Keep S A B) {p : Addr} {v : Value} (hv : A.cell? p = some v) (hs : ¬ S p.block) : B.cell? p = some v := (h.cell (World.block_lt_of_cell? A p hv) hs).trans hv
theorem boxed (h : Keep S A B) {b : Nat} {t : TypeId} {v : Value} (hv : Boxed A b t v) (hs : ¬ S b) : Boxed B b t v := (h.block b hv.lt hs).trans hv
theorem obj (h : Keep S A B) {b : Nat} {o : Obj} (hv : A.heap[b]? = some o) (hs : ¬ S b) : B.heap[b]? = some o := (h.block b (Array.getElem?_eq_some_iff.1 hv).1 hs).trans hv
theorem ownsRow (h : Keep S A B) {base : Nat} {e : TypeId} {size : Nat} {v : Value} {n : Nat} {xs : List Value} (hv : A.ownsRow base e size v n xs) (hs : ∀ g, v.ownBlock = some g → ¬ S g) : B.ownsRow base e size v n xs := by
  refine ⟨hv.1, ?_⟩
  rcases hv.2 with hn | ⟨g, cap, cur, rfl, hb, hgg, rest⟩
  · exact .inl hn
  · exact .inr ⟨g, cap, cur, rfl, hb, h.obj hgg (hs g rfl), rest⟩
end Keep

/-- An iterator's word, at a world W: it hands over xs in order, as long as yield says yes; of the blocks that lie it writes those of T alone; it asks of a round that it keeps the blocks of Pr. -/
def IterAt {α : Type} (P : Program) (gf : Nat) (lb : Array Value) (encs : α → Array Value) (T Pr : Nat → Prop) (xs : List α) (W : World) : Prop :=
  ∀ (l : Nat) (J Jx : List α → World → Prop),
    (∀ pre A B, J pre A → Keep T A B → J pre B) → (∀ pre A B, Jx pre A → Keep T A B → Jx pre B) →
    (∀ pre x W1, J pre W1 → pre ++ [x] <+: xs → YieldAt Fence.wide 7 P l (encs x) W1 fun e W' =>
      (e = .returned (.bool true) ∧ J (pre ++ [x]) W' ∧ Keep (fun k => ¬ Pr k) W1 W') ∨ (e = .returned (.bool false) ∧ Jx (pre ++ [x]) W')) →
    J [] W →
    CallsIn Fence.wide 8 P gf (#[.func (.yield l) #[] #[]] ++ lb) W fun e W' => (∃ v, e = .returned v) ∧ (J xs W' ∨ ∃ pre, pre <+: xs ∧ Jx pre W')

/-- How a round's body may be left. -/
def rfPost {α : Type} (Sb : Nat → Prop) (I : List α → World → Prop) (Ix : Code → List α → World → Prop) (xs : List α) (W : World) : Exit → Act → World → Prop
  | .normal, _, W' => Keep Sb W W' ∧ I xs W'
  | .ret, _, W' => Keep Sb W W' ∧ Ix .ret xs W'
  | .exit id, _, W' => Keep Sb W W' ∧ Ix (.exit id) xs W'
  | .goto t, _, W' => Keep Sb W W' ∧ Ix (.goto t) xs W'
  | .panic _, _, _ => False
  | .outgrown, _, _ => False

theorem rf_law {α : Type} {P : Program} {g : Operand} {ps : Array Tmp} {assign body : Code} {Q : Exit → Act → World → Prop} {a : Act} {w : World}
    (gf : Nat) (lb : Array Value) (hg : a.eval g = .func (.func gf) #[] lb) (eg : ∀ args w, (callFunc gf args).run P w = .ok (.enter gf args) w)
    (encs : α → Array Value) (hps : ∀ x, (encs x).size = ps.size) (T Pr : Nat → Prop) (xs : List α)
    (hit : ∀ W, Keep (fun _ => False) w W → W.heap.size = w.heap.size + 2 → IterAt P gf lb encs T Pr xs W)
    (Sb : Nat → Prop) (hSb : ∀ k, Sb k → ¬ Pr k ∧ k ≠ w.heap.size ∧ k ≠ w.heap.size + 1)
    (hPrD : ¬ Pr (w.heap.size + 1)) (hTD : ¬ T w.heap.size ∧ ¬ T (w.heap.size + 1))
    (I : List α → World → Prop) (Ix : Code → List α → World → Prop)
    (hI : ∀ pre A B, I pre A → Keep (fun k => T k ∨ k = w.heap.size ∨ k = w.heap.size + 1) A B → I pre B)
    (hIx : ∀ c pre A B, Ix c pre A → Keep (fun k => T k ∨ k = w.heap.size ∨ k = w.heap.size + 1) A B → Ix c pre B)
    (h0 : I [] w)
    (Ax : List α → α → Act → World → Prop)
    (hAx : ∀ pre x a' A B, Ax pre x a' A → Keep (fun k => k = w.heap.size + 1) A B → Ax pre x a' B)
    (hassign : ∀ l pre x W, pre ++ [x] <+: xs → w.heap.size + 1 < W.heap.size → I pre W →
      assign.wpIn (Fence.wide.inRound l) 7 P (Exit.then (fun a' W' => Keep Sb W W' ∧ Ax pre x a' W') (fun _ _ _ => False)) { tmps := (ps.zip (encs x)).foldl (fun t (p, v) => t.setIfInBounds p v) a.tmps, defers := [] } W)
    (hbody : ∀ l pre x a' W, pre ++ [x] <+: xs → w.heap.size + 1 < W.heap.size → Ax pre x a' W → body.wpIn (Fence.wide.inRound l) 7 P (rfPost Sb I Ix (pre ++ [x]) W) a' W)
    (hdone : ∀ W, I xs W → W.heap[w.heap.size]? = some (.deferred (some [])) → Q .normal { a with defers := { target := .collected w.heap.size, args := #[] } :: a.defers } W)
    (hstop : ∀ c pre W, pre <+: xs → Ix c pre W → W.heap[w.heap.size]? = some (.deferred (some [])) → c.wpIn Fence.wide 9 P Q { a with defers := { target := .collected w.heap.size, args := #[] } :: a.defers } W) :
    (Code.rangeFunc g ps assign body).wpIn Fence.wide 9 P Q a w := by
  refine wpIn_rangeFunc ?_
  intro fn hfn
  rw [show Fence.wide.round = none from rfl]
  obtain ⟨rec, hrec⟩ : ∃ rec : LoopState → Option Code → Loop, rec = fun st pe => { state := st, pending := pe, fn, tmps := a.tmps, params := ps, assign, body, defers := w.heap.size } := ⟨_, rfl⟩
  obtain ⟨W1, hW1⟩ : ∃ W1, (w.alloc (.deferred (some []))).alloc (.loop (rec .ready none)) = W1 := ⟨_, rfl⟩
  have hL1 : W1.heap[w.heap.size + 1]? = some (.loop (rec .ready none)) := by
    rw [← hW1]; have := World.alloc_heap_new (w.alloc (.deferred (some []))) (.loop (rec .ready none)); rwa [World.size_alloc] at this
  have hK1 : W1.heap[w.heap.size]? = some (.deferred (some [])) := by
    rw [← hW1]; exact (Below.heap_alloc _ _ _ (by simp)).trans (World.alloc_heap_new w _)
  have hkw : Keep (fun _ => False) w W1 := by rw [← hW1]; exact ((Keep.refl _ _).alloc _).alloc _
  have hsz : W1.heap.size = w.heap.size + 2 := by rw [← hW1]; simp
  have hI1 : I [] W1 := hI _ _ _ h0 (hkw.mono fun _ _ h => h.elim)
  refine ⟨w.heap.size + 1, [{ target := .collected w.heap.size, args := #[] }], W1, { target := .fn (.func gf) lb, args := #[.func (.yield (w.heap.size + 1)) #[] #[]] }, W1, gf,
    #[.func (.yield (w.heap.size + 1)) #[] #[]] ++ lb, W1, ?_, ?_, ?_, ?_, fun _ => by omega, ?_⟩
  · rw [← hW1, hrec]; exact run_enterLoop_outer _ _ _ _ _
  · simp only [resolve, hg]
    simp [go_sem]
  · intro f' _; trivial
  · simp [invoke, go_sem, eg]
  · refine (hit W1 hkw hsz (w.heap.size + 1)
      (fun pre W => I pre W ∧ W.heap[w.heap.size + 1]? = some (.loop (rec .ready none)) ∧ W.heap[w.heap.size]? = some (.deferred (some [])))
      (fun pre W => ∃ c, Ix c pre W ∧ W.heap[w.heap.size + 1]? = some (.loop (rec .done (some c))) ∧ W.heap[w.heap.size]? = some (.deferred (some [])))
      ?_ ?_ ?_ ⟨hI1, hL1, hK1⟩).mono ?_
    · rintro pre A B ⟨hi, hl, hk⟩ h
      exact ⟨hI _ _ _ hi (h.mono fun _ _ e => .inl e), h.obj hl hTD.2, h.obj hk hTD.1⟩
    · rintro pre A B ⟨c, hi, hl, hk⟩ h
      exact ⟨c, hIx _ _ _ _ hi (h.mono fun _ _ e => .inl e), h.obj hl hTD.2, h.obj hk hTD.1⟩
    · rintro pre x W ⟨hi, hl, hk⟩ hpx
      have hlt : w.heap.size + 1 < W.heap.size := (Array.getElem?_eq_some_iff.1 hl).1
      have hy := run_yield (P := P) (args := encs x) hl (by rw [hrec]; exact hps x)
      rw [hrec] at hy
      refine ⟨fn, _, assign, body, hy, roundIn_of_wpIn hfn (wpIn_mono (hassign _ pre x W hpx hlt hi) ?_)⟩
      intro e a1 Wa he
      cases e with
      | normal =>
        obtain ⟨hka, hax⟩ := he
        have hla : Wa.heap[w.heap.size + 1]? = some (.loop (rec .ready none)) := hka.obj hl fun h => (hSb _ h).2.2 rfl
        have hda : Wa.heap[w.heap.size]? = some (.deferred (some [])) := hka.obj hk fun h => (hSb _ h).2.1 rfl
        have hlta : w.heap.size + 1 < Wa.heap.size := (Array.getElem?_eq_some_iff.1 hla).1
        refine ⟨_, run_beginRound hla (by rw [hrec]), ?_⟩
        obtain ⟨W2, hW2⟩ : ∃ W2, Wa.putObj (w.heap.size + 1) (.loop { rec .ready none with state := .busy }) = W2 := ⟨_, rfl⟩
        rw [hW2]
        have hk2' : Keep (fun k => k = w.heap.size + 1) Wa W2 := by rw [← hW2]; exact (Keep.refl (fun k => k = w.heap.size + 1) Wa).putObj (fun _ => rfl) _
        have hl2 : W2.heap[w.heap.size + 1]? = some (.loop { rec .ready none with state := .busy }) := by rw [← hW2]; exact World.putObj_heap_same hlta
        have hd2 : W2.heap[w.heap.size]? = some (.deferred (some [])) := hk2'.obj hda (by omega)
        refine wpIn_mono (hbody _ pre x a1 W2 hpx (by rw [← hW2]; simpa using hlta) (hAx _ _ _ _ _ hax hk2')) ?_
        have fin : ∀ (jump : Option Code) (W3 : World), Keep Sb W2 W3 → ∃ W4,
            (Instr.endRound (w.heap.size + 1) jump).run P W3 = .ok (.bool jump.isNone) W4 ∧
            W4.heap[w.heap.size + 1]? = some (.loop (rec (if jump.isNone then .ready else .done) jump)) ∧
            W4.heap[w.heap.size]? = some (.deferred (some [])) ∧ Keep (fun k => k = w.heap.size + 1) W3 W4 ∧ Keep (fun k => ¬ Pr k) W W4 := fun jump W3 hk3 => by
          have hl3 := hk3.obj hl2 fun h => (hSb _ h).2.2 rfl
          have hd3 := hk3.obj hd2 fun h => (hSb _ h).2.1 rfl
          have hr := run_endRound (P := P) jump hl3
          rw [hrec] at hr hl3 ⊢
          refine ⟨_, hr, World.putObj_heap_same (Array.getElem?_eq_some_iff.1 hl3).1, (World.putObj_heap_other (by omega)).trans hd3, (Keep.refl (fun k => k = w.heap.size + 1) W3).putObj (fun _ => rfl) _, ?_⟩
          have e1 : Keep (fun k => ¬ Pr k) W Wa := hka.mono fun k _ h => (hSb k h).1
          have e2 : Keep (fun k => ¬ Pr k) Wa W2 := hk2'.mono fun k _ h => by cases h; exact hPrD
          have e3 : Keep (fun k => ¬ Pr k) W2 W3 := hk3.mono fun k _ h => (hSb k h).1
          exact (((e1.trans e2).trans e3)).putObj (fun _ => hPrD) _
        rintro e a3 W3 hp
        cases e with
        | normal =>
          obtain ⟨hk3, hi3⟩ := hp
          obtain ⟨W4, hr, hl4, hd4, hk4, hall⟩ := fin none W3 hk3
          exact ⟨_, _, hr, .inl ⟨rfl, ⟨hI _ _ _ hi3 (hk4.mono fun _ _ e => .inr (.inr e)), hl4, hd4⟩, hall⟩⟩
        | ret =>
          obtain ⟨hk3, hi3⟩ := hp
          obtain ⟨W4, hr, hl4, hd4, hk4, hall⟩ := fin (some .ret) W3 hk3
          exact ⟨_, _, hr, .inr ⟨rfl, .ret, hIx _ _ _ _ hi3 (hk4.mono fun _ _ e => .inr (.inr e)), hl4, hd4⟩⟩
        | exit id =>
          obtain ⟨hk3, hi3⟩ := hp
          obtain ⟨W4, hr, hl4, hd4, hk4, hall⟩ := fin (some (.exit id)) W3 hk3
          exact ⟨_, _, hr, .inr ⟨rfl, .exit id, hIx _ _ _ _ hi3 (hk4.mono fun _ _ e => .inr (.inr e)), hl4, hd4⟩⟩
        | goto t =>
          obtain ⟨hk3, hi3⟩ := hp
          obtain ⟨W4, hr, hl4, hd4, hk4, hall⟩ := fin (some (.goto t)) W3 hk3
          exact ⟨_, _, hr, .inr ⟨rfl, .goto t, hIx _ _ _ _ hi3 (hk4.mono fun _ _ e => .inr (.inr e)), hl4, hd4⟩⟩
        | panic ch => exact hp.elim
        | outgrown => exact hp.elim
      | ret => exact he.elim
      | exit id => exact he.elim
      | goto t => exact he.elim
      | panic ch => exact he.elim
      | outgrown => exact he.elim
    · rintro e W2 ⟨⟨v, rfl⟩, (⟨hi, hl, hk⟩ | ⟨pre, hpre, c, hi, hl, hk⟩)⟩
      · have hr := run_endLoop (P := P) hl (by rw [hrec]; simp)
        refine ⟨none, _, by rw [hrec] at hr; exact hr, hdone _ (hI _ _ _ hi ((Keep.refl _ _).putObj (fun _ => .inr (.inr rfl)) _)) ((World.putObj_heap_other (by omega)).trans hk)⟩
      · have hr := run_endLoop (P := P) hl (by rw [hrec]; simp)
        refine ⟨some c, _, by rw [hrec] at hr; exact hr, hstop c pre _ hpre (hIx _ _ _ _ hi ((Keep.refl _ _).putObj (fun _ => .inr (.inr rfl)) _)) ((World.putObj_heap_other (by omega)).trans hk)⟩
end Go.Proofs.Ytcedofkenfddkaa
/- Plain mathematics of interval lists: membership, normal lists, their uniqueness; the pieces of two lists and what a merge makes of them. No program in sight. No condition. -/
namespace Go.Proofs.Ytcedofkenfddkaa
set_option linter.unusedVariables false
set_option linter.unusedSimpArgs false

/-- The number of the numbers of 64 bits. -/
def M64 : Nat := 18446744073709551616
theorem M64_val : M64 = 18446744073709551616 := rfl
theorem M64_pos : 0 < M64 := by rw [M64_val]; omega

structure Iv where
  lo : Nat
  hi : Nat
deriving DecidableEq

theorem Iv.ext' {s t : Iv} (h1 : s.lo = t.lo) (h2 : s.hi = t.hi) : s = t := by cases s; cases t; simp_all

/-- Is a number in one of the intervals? -/
def mem (l : List Iv) (x : Nat) : Bool := l.any fun s => decide (s.lo ≤ x) && decide (x ≤ s.hi)

@[simp] theorem mem_nil (x : Nat) : mem [] x = false := rfl
theorem mem_cons (s : Iv) (l : List Iv) (x : Nat) : mem (s :: l) x = ((decide (s.lo ≤ x) && decide (x ≤ s.hi)) || mem l x) := rfl
theorem mem_append (l k : List Iv) (x : Nat) : mem (l ++ k) x = (mem l x || mem k x) := by simp [mem, List.any_append]
theorem mem_iff {l : List Iv} {x : Nat} : mem l x = true ↔ ∃ s ∈ l, s.lo ≤ x ∧ x ≤ s.hi := by simp [mem]

/-- Normal from n on: ascending, correct intervals with gaps between them. -/
def NF : Nat → List Iv → Prop
  | _, [] => True
  | n, s :: l => n ≤ s.lo ∧ s.lo ≤ s.hi ∧ s.hi < M64 ∧ NF (s.hi + 2) l
/-- A correct list. -/
def Nrm (l : List Iv) : Prop := NF 0 l

theorem NF.mono {l : List Iv} {n m : Nat} (h : NF n l) (hm : m ≤ n) : NF m l := by
  cases l with
  | nil => trivial
  | cons s l => exact ⟨Nat.le_trans hm h.1, h.2.1, h.2.2.1, h.2.2.2⟩
theorem NF.tail {s : Iv} {l : List Iv} {n : Nat} (h : NF n (s :: l)) : NF n l := h.2.2.2.mono (by have := h.1; have := h.2.1; omega)
theorem NF.lo_ge {l : List Iv} : ∀ {n : Nat}, NF n l → ∀ s ∈ l, n ≤ s.lo ∧ s.lo ≤ s.hi ∧ s.hi < M64 := by
  induction l with
  | nil => intro n _ s hs; cases hs
  | cons t l ih =>
    intro n h s hs
    cases hs with
    | head => exact ⟨h.1, h.2.1, h.2.2.1⟩
    | tail _ hs => have := ih h.2.2.2 s hs; have := h.1; have := h.2.1; exact ⟨by omega, by omega, by omega⟩
theorem NF.mem_ge {l : List Iv} {n : Nat} (h : NF n l) {x : Nat} (hx : mem l x = true) : n ≤ x ∧ x < M64 := by
  obtain ⟨s, hs, h1, h2⟩ := mem_iff.1 hx
  have := h.lo_ge s hs
  omega
theorem NF.mem_lt {l : List Iv} {n : Nat} (h : NF n l) {x : Nat} (hx : x < n) : mem l x = false := by
  cases e : mem l x with
  | false => rfl
  | true => have := (h.mem_ge e).1; omega

/-- A normal list is determined by its set. -/
theorem NF.unique : ∀ {a b : List Iv} {n : Nat}, NF n a → NF n b → (∀ x, mem a x = mem b x) → a = b
  | [], [], _, _, _, _ => rfl
  | [], s :: l, _, _, hb, h => by
    have := h s.lo
    have h1 := hb.2.1
    simp [mem_cons, h1] at this
  | s :: l, [], _, ha, _, h => by
    have := h s.lo
    have h1 := ha.2.1
    simp [mem_cons, h1] at this
  | s :: l, t :: k, n, ha, hb, h => by
    have ha2 := ha.2.1
    have hb2 := hb.2.1
    have hlo : s.lo = t.lo := by
      have h1 := h s.lo
      have h2 := h t.lo
      rw [mem_cons, mem_cons] at h1 h2
      have e1 : mem l t.lo = true → s.hi + 2 ≤ t.lo := fun e => (ha.2.2.2.mem_ge e).1
      have e2 : mem k s.lo = true → t.hi + 2 ≤ s.lo := fun e => (hb.2.2.2.mem_ge e).1
      cases c1 : mem l t.lo <;> cases c2 : mem k s.lo <;> simp_all <;> omega
    have hhi : s.hi = t.hi := by
      rcases Nat.lt_trichotomy s.hi t.hi with hlt | heq | hgt
      · exfalso
        have h1 := h (s.hi + 1)
        have g1 : s.lo ≤ s.hi + 1 := by omega
        have g2 : ¬ s.hi + 1 ≤ s.hi := by omega
        have g3 : t.lo ≤ s.hi + 1 := by omega
        have g4 : s.hi + 1 ≤ t.hi := by omega
        rw [mem_cons, mem_cons, ha.2.2.2.mem_lt (show s.hi + 1 < s.hi + 2 by omega)] at h1
        simp [g2, g3, g4] at h1
      · exact heq
      · exfalso
        have h1 := h (t.hi + 1)
        have g1 : t.lo ≤ t.hi + 1 := by omega
        have g2 : ¬ t.hi + 1 ≤ t.hi := by omega
        have g3 : s.lo ≤ t.hi + 1 := by omega
        have g4 : t.hi + 1 ≤ s.hi := by omega
        rw [mem_cons, mem_cons, hb.2.2.2.mem_lt (show t.hi + 1 < t.hi + 2 by omega)] at h1
        simp [g2, g3, g4] at h1
    have hst : s = t := Iv.ext' hlo hhi
    subst hst
    have : l = k := NF.unique (n := s.hi + 2) ha.2.2.2 hb.2.2.2 fun x => by
      by_cases hx : x < s.hi + 2
      · rw [ha.2.2.2.mem_lt hx, hb.2.2.2.mem_lt hx]
      · have := h x
        rw [mem_cons, mem_cons] at this
        have hn : ¬ x ≤ s.hi := by omega
        simpa [hn] using this
    rw [this]

theorem Nrm.unique {a b : List Iv} (ha : Nrm a) (hb : Nrm b) (h : ∀ x, x < M64 → mem a x = mem b x) : a = b :=
  NF.unique ha hb fun x => by
    by_cases hx : x < M64
    · exact h x hx
    · have : ∀ {l}, Nrm l → mem l x = false := fun {l} hl => by
        cases e : mem l x with
        | false => rfl
        | true => have := (NF.mem_ge hl e).2; omega
      rw [this ha, this hb]

theorem NF.append {a b : List Iv} : ∀ {n : Nat}, NF n a → (∀ m, n ≤ m → (∀ s ∈ a, s.hi + 2 ≤ m) → (a = [] → m = n) → NF m b → NF n (a ++ b)) := by
  induction a with
  | nil => intro n _ m _ _ h1 hb; have := h1 rfl; subst this; exact hb
  | cons s a ih =>
    intro n h m hm hs _ hb
    refine ⟨h.1, h.2.1, h.2.2.1, ?_⟩
    have h2 := hs s (by simp)
    cases a with
    | nil => exact hb.mono h2
    | cons t a => exact ih h.2.2.2 m h2 (fun u hu => hs u (by simp [hu])) (fun e => by cases e) hb

/-- The first number behind x at which a list may change. -/
def nxt : List Iv → Nat → Option Nat
  | [], _ => none
  | s :: l, x => if x < s.lo then some s.lo else if s.hi + 1 < M64 ∧ x < s.hi + 1 then some (s.hi + 1) else nxt l x
/-- The less of two places. -/
def minO : Option Nat → Option Nat → Option Nat
  | none, b => b
  | some x, none => some x
  | some x, some y => if y < x then some y else some x

theorem nxt_gt {l : List Iv} {x y : Nat} (h : nxt l x = some y) : x < y := by
  induction l with
  | nil => cases h
  | cons s l ih =>
    unfold nxt at h
    split at h
    · cases h; assumption
    · split at h
      · cases h; omega
      · exact ih h
theorem nxt_lt {l : List Iv} {n x y : Nat} (hl : NF n l) (h : nxt l x = some y) : y < M64 := by
  induction l generalizing n with
  | nil => cases h
  | cons s l ih =>
    have h1 := hl.2.1
    have h2 := hl.2.2.1
    unfold nxt at h
    split at h
    · cases h; omega
    · split at h
      · cases h; omega
      · exact ih hl.2.2.2 h
/-- Up to there nothing changes. -/
theorem nxt_same {l : List Iv} {n x y z : Nat} (hl : NF n l) (h : nxt l x = some y) (h1 : x ≤ z) (h2 : z < y) : mem l z = mem l x := by
  induction l generalizing n with
  | nil => cases h
  | cons s l ih =>
    have g1 := hl.2.1
    unfold nxt at h
    split at h
    · rename_i hlt
      cases h
      rw [(hl.2.2.2.mono (m := s.lo) (by omega) |> fun k : NF s.lo l => (show NF s.lo (s :: l) from ⟨Nat.le_refl _, g1, hl.2.2.1, hl.2.2.2⟩)).mem_lt h2,
        (show NF s.lo (s :: l) from ⟨Nat.le_refl _, g1, hl.2.2.1, hl.2.2.2⟩).mem_lt hlt]
    · split at h
      · rename_i hn hc
        cases h
        have e1 : mem l z = false := hl.2.2.2.mem_lt (by omega)
        have e2 : mem l x = false := hl.2.2.2.mem_lt (by omega)
        rw [mem_cons, mem_cons, e1, e2]
        have : (s.lo ≤ z) = True := by simp; omega
        have : (s.lo ≤ x) = True := by simp; omega
        have : (z ≤ s.hi) = True := by simp; omega
        have : (x ≤ s.hi) = True := by simp; omega
        simp [*]
      · rename_i hn hc
        rw [mem_cons, mem_cons, ih hl.2.2.2 h]
        have g2 := hl.2.2.1
        by_cases hh : s.hi + 1 < M64
        · have a1 : ¬ x ≤ s.hi := by omega
          have a2 : ¬ z ≤ s.hi := by omega
          simp [a1, a2]
        · exfalso
          have : l = [] := by
            cases l with
            | nil => rfl
            | cons t l => have := hl.2.2.2.1; have := hl.2.2.2.2.1; have := hl.2.2.2.2.2.1; omega
          subst this
          cases h
theorem nxt_none {l : List Iv} {n x z : Nat} (hl : NF n l) (h : nxt l x = none) (h1 : x ≤ z) (h2 : z < M64) : mem l z = mem l x := by
  induction l generalizing n with
  | nil => rfl
  | cons s l ih =>
    have g2 := hl.2.2.1
    unfold nxt at h
    split at h
    · cases h
    · split at h
      · cases h
      · rename_i hn hc
        rw [mem_cons, mem_cons, ih hl.2.2.2 h]
        by_cases hh : s.hi + 1 < M64
        · have a1 : ¬ x ≤ s.hi := by omega
          have a2 : ¬ z ≤ s.hi := by omega
          simp [a1, a2]
        · have : (s.lo ≤ z) = True := by simp; omega
          have : (s.lo ≤ x) = True := by simp; omega
          have : (z ≤ s.hi) = True := by simp; omega
          have : (x ≤ s.hi) = True := by simp; omega
          simp [*]
/-- A list without its intervals that end before x changes behind x at the same places. -/
theorem nxt_drop {s : Iv} {l : List Iv} {x : Nat} (h : s.hi < x) (h0 : s.lo ≤ s.hi) : nxt (s :: l) x = nxt l x := by
  conv => lhs; unfold nxt
  rw [if_neg (by omega), if_neg (by omega)]

/-- The pieces from a number on, each with whether it is in both lists. -/
def pcs (a b : List Iv) : Nat → Nat → List (Iv × Bool × Bool)
  | 0, _ => []
  | f + 1, x =>
    match minO (nxt a x) (nxt b x) with
    | none => [(⟨x, M64 - 1⟩, mem a x, mem b x)]
    | some y => (⟨x, y - 1⟩, mem a x, mem b x) :: pcs a b f y
/-- All pieces of two lists. -/
def pieces (a b : List Iv) : List (Iv × Bool × Bool) := pcs a b M64 0

/-- Pieces that cover all from x on. -/
def Cov (a b : List Iv) : Nat → List (Iv × Bool × Bool) → Prop
  | x, [] => x = M64
  | x, (s, p, q) :: r => s.lo = x ∧ x ≤ s.hi ∧ s.hi < M64 ∧ (∀ z, x ≤ z → z ≤ s.hi → mem a z = p ∧ mem b z = q) ∧ Cov a b (s.hi + 1) r

theorem minO_none {a b : Option Nat} (h : minO a b = none) : a = none ∧ b = none := by
  cases a <;> cases b <;> simp [minO] at h ⊢
  split at h <;> cases h
theorem pcs_cov {a b : List Iv} (ha : Nrm a) (hb : Nrm b) : ∀ (f x : Nat), x < M64 → M64 ≤ f + x → Cov a b x (pcs a b f x) := by
  intro f
  induction f with
  | zero => intro x h1 h2; omega
  | succ f ih =>
    intro x h1 h2
    unfold pcs
    cases hm : minO (nxt a x) (nxt b x) with
    | none =>
      obtain ⟨na, nb⟩ := minO_none hm
      refine ⟨rfl, ?_, ?_, ?_, ?_⟩
      · show x ≤ M64 - 1; omega
      · show M64 - 1 < M64; omega
      · intro z z1 z2
        have z3 : z < M64 := by have : z ≤ M64 - 1 := z2; omega
        exact ⟨nxt_none ha na z1 z3, nxt_none hb nb z1 z3⟩
      · show M64 - 1 + 1 = M64; omega
    | some y =>
      have hy : x < y ∧ y < M64 ∧ ∀ z, x ≤ z → z < y → mem a z = mem a x ∧ mem b z = mem b x := by
        cases ea : nxt a x with
        | none =>
          rw [ea] at hm
          have eb : nxt b x = some y := hm
          refine ⟨nxt_gt eb, nxt_lt hb eb, fun z z1 z2 => ⟨nxt_none ha ea z1 (by have := nxt_lt hb eb; omega), nxt_same hb eb z1 z2⟩⟩
        | some u =>
          cases eb : nxt b x with
          | none =>
            rw [ea, eb] at hm
            simp only [minO] at hm
            cases hm
            exact ⟨nxt_gt ea, nxt_lt ha ea, fun z z1 z2 => ⟨nxt_same ha ea z1 z2, nxt_none hb eb z1 (by have := nxt_lt ha ea; omega)⟩⟩
          | some v =>
            rw [ea, eb] at hm
            simp only [minO] at hm
            split at hm
            · cases hm
              exact ⟨nxt_gt eb, nxt_lt hb eb, fun z z1 z2 => ⟨nxt_same ha ea z1 (by omega), nxt_same hb eb z1 z2⟩⟩
            · cases hm
              exact ⟨nxt_gt ea, nxt_lt ha ea, fun z z1 z2 => ⟨nxt_same ha ea z1 z2, nxt_same hb eb z1 (by omega)⟩⟩
      obtain ⟨y1, y2, y3⟩ := hy
      refine ⟨rfl, ?_, ?_, ?_, ?_⟩
      · show x ≤ y - 1; omega
      · show y - 1 < M64; omega
      · intro z z1 z2
        have : z ≤ y - 1 := z2
        exact y3 z z1 (by omega)
      · show Cov a b (y - 1 + 1) _
        rw [show y - 1 + 1 = y from by omega]
        exact ih y y2 (by omega)
theorem pieces_cov {a b : List Iv} (ha : Nrm a) (hb : Nrm b) : Cov a b 0 (pieces a b) := pcs_cov ha hb M64 0 M64_pos (by omega)

/-- An interval behind a list: joined to the last one if they touch. -/
def put (out : List Iv) (s : Iv) : List Iv :=
  match out.getLast? with
  | none => [s]
  | some t => if t.hi + 1 = s.lo then out.dropLast ++ [⟨t.lo, s.hi⟩] else out ++ [s]
/-- What a merge makes of pieces. -/
def merged (f : Bool → Bool → Bool) (out : List Iv) : List (Iv × Bool × Bool) → List Iv
  | [] => out
  | (s, p, q) :: r => merged f (if f p q then put out s else out) r
/-- The list of an operation. -/
def opS (f : Bool → Bool → Bool) (a b : List Iv) : List Iv := merged f [] (pieces a b)

theorem merged_append (f : Bool → Bool → Bool) (out : List Iv) (xs ys : List (Iv × Bool × Bool)) : merged f out (xs ++ ys) = merged f (merged f out xs) ys := by
  induction xs generalizing out with
  | nil => rfl
  | cons x xs ih => obtain ⟨s, p, q⟩ := x; simp only [List.cons_append, merged]; exact ih _

theorem NF.snoc {l : List Iv} {s : Iv} {n : Nat} (h : NF n l) (hl : ∀ t ∈ l, t.hi + 2 ≤ s.lo) (hn : n ≤ s.lo) (h1 : s.lo ≤ s.hi) (h2 : s.hi < M64) : NF n (l ++ [s]) := by
  induction l generalizing n with
  | nil => exact ⟨hn, h1, h2, trivial⟩
  | cons t l ih => exact ⟨h.1, h.2.1, h.2.2.1, ih h.2.2.2 (fun u hu => hl u (by simp [hu])) (hl t (by simp))⟩
theorem NF.last_lt {l : List Iv} {t : Iv} : ∀ {n : Nat}, NF n (l ++ [t]) → ∀ u ∈ l, u.hi + 2 ≤ t.lo := by
  induction l with
  | nil => intro n _ u hu; cases hu
  | cons s l ih =>
    intro n h u hu
    cases hu with
    | head => exact (h.2.2.2.lo_ge t (by simp)).1
    | tail _ hu => exact ih h.2.2.2 u hu
theorem NF.init {l : List Iv} {t : Iv} : ∀ {n : Nat}, NF n (l ++ [t]) → NF n l := by
  induction l with
  | nil => intro n _; trivial
  | cons s l ih => intro n h; exact ⟨h.1, h.2.1, h.2.2.1, ih h.2.2.2⟩

theorem put_nrm {out : List Iv} {s : Iv} (h : Nrm out) (hs : ∀ t ∈ out, t.hi < s.lo) (h1 : s.lo ≤ s.hi) (h2 : s.hi < M64) :
    Nrm (put out s) ∧ (∀ x, mem (put out s) x = (mem out x || (decide (s.lo ≤ x) && decide (x ≤ s.hi)))) ∧ ∀ t ∈ put out s, t.hi ≤ s.hi := by
  rcases List.eq_nil_or_concat out with rfl | ⟨l, t, rfl⟩
  · refine ⟨⟨Nat.zero_le _, h1, h2, trivial⟩, fun x => by simp [put, mem_cons], fun t ht => ?_⟩
    simp [put] at ht; subst ht; exact Nat.le_refl _
  · simp only [List.concat_eq_append] at *
    have ht := NF.lo_ge h t (by simp)
    have hts := hs t (by simp)
    unfold put
    simp only [List.getLast?_concat, List.dropLast_concat]
    by_cases e : t.hi + 1 = s.lo
    · rw [if_pos e]
      refine ⟨NF.snoc (NF.init h) (fun u hu => by have := NF.last_lt h u hu; show u.hi + 2 ≤ t.lo; omega) (Nat.zero_le _) (by show t.lo ≤ s.hi; omega) h2, fun x => ?_, fun u hu => ?_⟩
      · rw [mem_append, mem_append, mem_cons, mem_cons, Bool.or_assoc]
        congr 1
        simp only [mem_nil, Bool.or_false]
        rw [Bool.eq_iff_iff]
        simp
        omega
      · simp at hu
        rcases hu with hu | rfl
        · have := NF.last_lt h u hu; omega
        · exact Nat.le_refl _
    · rw [if_neg e]
      refine ⟨NF.snoc h (fun u hu => ?_) (Nat.zero_le _) h1 h2, fun x => by rw [mem_append, mem_cons]; simp, fun u hu => ?_⟩
      · simp at hu
        rcases hu with hu | rfl
        · have := NF.last_lt h u hu; omega
        · omega
      · simp at hu
        rcases hu with hu | rfl | rfl
        · have := NF.last_lt h u hu; omega
        · omega
        · exact Nat.le_refl _

theorem merged_spec {f : Bool → Bool → Bool} {a b : List Iv} : ∀ (xs : List (Iv × Bool × Bool)) (x : Nat) (out : List Iv), Cov a b x xs → Nrm out → (∀ t ∈ out, t.hi < x) →
    Nrm (merged f out xs) ∧ ∀ z, z < M64 → mem (merged f out xs) z = if z < x then mem out z else f (mem a z) (mem b z) := by
  intro xs
  induction xs with
  | nil =>
    intro x out hc h _
    refine ⟨h, fun z hz => ?_⟩
    have : x = M64 := hc
    rw [if_pos (by omega)]; rfl
  | cons y xs ih =>
    intro x out hc h hx
    obtain ⟨s, p, q⟩ := y
    obtain ⟨h1, h2, h3, h4, h5⟩ := hc
    have hx' : ∀ t ∈ out, t.hi < s.lo := by rw [h1]; exact hx
    have hmo : ∀ z, x ≤ z → mem out z = false := fun z hz => by
      cases e : mem out z with
      | false => rfl
      | true => obtain ⟨t, ht, _, ht2⟩ := mem_iff.1 e; have := hx t ht; omega
    simp only [merged]
    by_cases e : f p q = true
    · rw [if_pos e]
      obtain ⟨p1, p2, p3⟩ := put_nrm h hx' (by omega) h3
      obtain ⟨r1, r2⟩ := ih (s.hi + 1) _ h5 p1 (fun t ht => by have := p3 t ht; omega)
      refine ⟨r1, fun z hz => ?_⟩
      rw [r2 z hz, p2 z]
      by_cases z1 : z < x
      · rw [if_pos (by omega), if_pos z1]
        have : ¬ s.lo ≤ z := by omega
        simp [this]
      · rw [if_neg z1]
        by_cases z2 : z < s.hi + 1
        · rw [if_pos z2, (h4 z (by omega) (by omega)).1, (h4 z (by omega) (by omega)).2, e]
          have a1 : s.lo ≤ z := by omega
          have a2 : z ≤ s.hi := by omega
          simp [a1, a2]
        · rw [if_neg z2]
    · rw [if_neg e]
      obtain ⟨r1, r2⟩ := ih (s.hi + 1) _ h5 h (fun t ht => by have := hx t ht; omega)
      refine ⟨r1, fun z hz => ?_⟩
      rw [r2 z hz]
      by_cases z1 : z < x
      · rw [if_pos (by omega), if_pos z1]
      · rw [if_neg z1]
        by_cases z2 : z < s.hi + 1
        · rw [if_pos z2, (h4 z (by omega) (by omega)).1, (h4 z (by omega) (by omega)).2]
          rw [hmo z (by omega)]
          simpa using e
        · rw [if_neg z2]

/-- What an operation's list is: correct, and of just the numbers that the operation takes. -/
theorem opS_nrm {f : Bool → Bool → Bool} {a b : List Iv} (ha : Nrm a) (hb : Nrm b) : Nrm (opS f a b) := (merged_spec (f := f) _ 0 [] (pieces_cov ha hb) trivial (fun _ h => by cases h)).1
theorem opS_mem {f : Bool → Bool → Bool} {a b : List Iv} (ha : Nrm a) (hb : Nrm b) {x : Nat} (hx : x < M64) : mem (opS f a b) x = f (mem a x) (mem b x) := by
  have := (merged_spec (f := f) _ 0 [] (pieces_cov ha hb) trivial (fun _ h => by cases h)).2 x hx
  rwa [if_neg (by omega)] at this
theorem opS_eq {f : Bool → Bool → Bool} {a b c : List Iv} (ha : Nrm a) (hb : Nrm b) (hc : Nrm c) (h : ∀ x, x < M64 → mem c x = f (mem a x) (mem b x)) : opS f a b = c :=
  Nrm.unique (opS_nrm ha hb) hc fun x hx => by rw [opS_mem ha hb hx, h x hx]
end Go.Proofs.Ytcedofkenfddkaa
/- How lists of intervals, of entries and of fragments read in memory. No condition. -/
namespace Go.Proofs.Ytcedofkenfddkaa
set_option linter.unusedVariables false
set_option linter.unusedSimpArgs false
open Go.RowKit

/-- A slice value reads as a list: its elements, each of sz cells, lie in a block from lo on and below hi. -/
def RdSl {α : Type} (sz : Nat) (rd : World → Nat → Nat → α → Prop) (lo hi : Nat) (w : World) (v : Value) (l : List α) : Prop :=
  ∃ a cap, v = .slice a l.length cap ∧ l.length ≤ cap ∧ cap ≤ maxLen ∧ (l ≠ [] → ∃ b off, a = some ⟨b, off, none⟩ ∧ lo ≤ b ∧ b < hi ∧ ∀ i (h : i < l.length), rd w b (off + i * sz) l[i])

theorem RdSl.keep {α : Type} {sz : Nat} {rd rd' : World → Nat → Nat → α → Prop} {lo hi lo' hi' : Nat} {w w' : World} {v : Value} {l : List α} (h : RdSl sz rd lo hi w v l)
    (hl : lo' ≤ lo) (hh : hi ≤ hi') (hr : ∀ b o x, lo ≤ b → b < hi → rd w b o x → rd' w' b o x) : RdSl sz rd' lo' hi' w' v l := by
  obtain ⟨a, cap, hv, h1, h2, h3⟩ := h
  refine ⟨a, cap, hv, h1, h2, fun hne => ?_⟩
  obtain ⟨b, off, ha, hb1, hb2, hc⟩ := h3 hne
  exact ⟨b, off, ha, by omega, by omega, fun i hi => hr _ _ _ hb1 hb2 (hc i hi)⟩
theorem RdSl.nil {α : Type} {sz : Nat} {rd : World → Nat → Nat → α → Prop} {lo hi : Nat} {w : World} (a : Option Addr) (cap : Nat) (h : cap ≤ maxLen) : RdSl sz rd lo hi w (.slice a 0 cap) [] :=
  ⟨a, cap, rfl, Nat.zero_le _, h, fun h => absurd rfl h⟩
theorem RdSl.len {α : Type} {sz : Nat} {rd : World → Nat → Nat → α → Prop} {lo hi : Nat} {w : World} {v : Value} {l : List α} (h : RdSl sz rd lo hi w v l) : l.length ≤ maxLen := by
  obtain ⟨a, cap, hv, h1, h2, h3⟩ := h; omega

/-- The two cells of an interval. -/
def rdIv (w : World) (b o : Nat) (s : Iv) : Prop :=
  w.cell? ⟨b, o, none⟩ = some (.int .u64 s.lo) ∧ w.cell? ⟨b, o + 1, none⟩ = some (.int .u64 s.hi) ∧ s.lo < M64 ∧ s.hi < M64
theorem rdIv.keep {w w' : World} {b o : Nat} {s : Iv} (h : rdIv w b o s) (hb : w'.heap[b]? = w.heap[b]?) : rdIv w' b o s :=
  ⟨(World.cell?_of_block (a := ⟨b, o, none⟩) hb).trans h.1, (World.cell?_of_block (a := ⟨b, o + 1, none⟩) hb).trans h.2.1, h.2.2⟩
/-- A value of type Ranges. -/
def RdR (lo hi : Nat) (w : World) (v : Value) (l : List Iv) : Prop := RdSl 2 rdIv lo hi w v l
theorem RdR.keep {lo hi lo' hi' : Nat} {w w' : World} {v : Value} {l : List Iv} (h : RdR lo hi w v l) (hl : lo' ≤ lo) (hh : hi ≤ hi') (hb : ∀ b, lo ≤ b → b < hi → w'.heap[b]? = w.heap[b]?) : RdR lo' hi' w' v l :=
  RdSl.keep h hl hh fun b _ _ h1 h2 hx => hx.keep (hb b h1 h2)
theorem RdR.below {hi n : Nat} {w w' : World} {v : Value} {l : List Iv} (h : RdR 0 hi w v l) (hb : Below n w w') (hn : hi ≤ n) : RdR 0 hi w' v l :=
  h.keep (Nat.le_refl _) (Nat.le_refl _) fun b _ h2 => hb.block b (by omega)
theorem RdR.bound {lo hi : Nat} {w : World} {v : Value} {l : List Iv} (h : RdR lo hi w v l) : ∀ s ∈ l, s.lo < M64 ∧ s.hi < M64 := by
  obtain ⟨a, cap, hv, h1, h2, h3⟩ := h
  intro s hs
  obtain ⟨i, hi, rfl⟩ := List.getElem_of_mem hs
  obtain ⟨b, off, _, _, _, hc⟩ := h3 (by intro e; subst e; simp at hi)
  exact (hc i hi).2.2
/-- The cells of intervals, one behind the other. -/
def flat (l : List Iv) : List Value := l.flatMap fun s => [.int .u64 s.lo, .int .u64 s.hi]
theorem flat_length (l : List Iv) : (flat l).length = l.length * 2 := by
  induction l with
  | nil => rfl
  | cons s l ih => simp [flat] at ih ⊢; omega
theorem flat_append (l k : List Iv) : flat (l ++ k) = flat l ++ flat k := by simp [flat]
theorem flat_get (l : List Iv) : ∀ (i : Nat) (h : i < l.length), (flat l)[i * 2]? = some (.int .u64 l[i].lo) ∧ (flat l)[i * 2 + 1]? = some (.int .u64 l[i].hi) := by
  induction l with
  | nil => intro i h; simp at h
  | cons s l ih =>
    intro i h
    cases i with
    | zero => simp [flat]
    | succ i =>
      have := ih i (by simpa using h)
      have e : flat (s :: l) = .int .u64 s.lo :: .int .u64 s.hi :: flat l := rfl
      rw [e, show (i + 1) * 2 = i * 2 + 1 + 1 from by omega]
      simpa using this
/-- A list of intervals that the call itself has made: the slice owns its cells. -/
def OwnR (base : Nat) (w : World) (v : Value) (l : List Iv) : Prop := w.ownsRow base 30 2 v l.length (flat l) ∧ ∀ s ∈ l, s.lo < M64 ∧ s.hi < M64
theorem OwnR.rd {base : Nat} {w : World} {v : Value} {l : List Iv} (h : OwnR base w v l) : RdR base w.heap.size w v l := by
  obtain ⟨⟨h1, h2⟩, hb⟩ := h
  rcases h2 with ⟨rfl, h0⟩ | ⟨g, cap, cur, rfl, hg, hh, hn, hc, hs, ht⟩
  · obtain rfl : l = [] := List.eq_nil_of_length_eq_zero h0
    exact RdSl.nil _ _ (by decide)
  · refine ⟨_, cap, rfl, hn, hc, fun _ => ⟨g, 0, rfl, hg, (Array.getElem?_eq_some_iff.1 hh).1, fun i hi => ?_⟩⟩
    have hf := flat_get l i hi
    rw [← ht, List.getElem?_take, List.getElem?_take, if_pos (by omega), if_pos (by omega)] at hf
    refine ⟨?_, ?_, hb _ (List.getElem_mem hi)⟩
    · simp only [World.cell?, hh]; simpa using hf.1
    · simp only [World.cell?, hh]; simpa using hf.2
theorem OwnR.nil (base : Nat) (w : World) : OwnR base w (.slice none 0 0) [] := ⟨World.ownsRow_nil _ _ _ _, fun _ h => by cases h⟩
theorem OwnR.val {base : Nat} {w : World} {v : Value} {l : List Iv} (h : OwnR base w v l) : ∃ a cap, v = .slice a l.length cap := by
  obtain ⟨a, cap, e, _⟩ := h.rd; exact ⟨a, cap, e⟩
theorem OwnR.below {base n : Nat} {w w' : World} {v : Value} {l : List Iv} (h : OwnR base w v l) (hb : Below n w w') (hn : w.heap.size ≤ n) : OwnR base w' v l :=
  ⟨(Keep.of_below' (S := fun _ => False) hb hn).ownsRow h.1 fun _ _ => id, h.2⟩
theorem OwnR.keep {base : Nat} {S : Nat → Prop} {w w' : World} {v : Value} {l : List Iv} (h : OwnR base w v l) (hb : Keep S w w') (hs : ∀ g, base ≤ g → ¬ S g) : OwnR base w' v l :=
  ⟨hb.ownsRow h.1 fun g hg => hs g ((h.1.lt g hg).1), h.2⟩
theorem OwnR.mono {base base' : Nat} {w : World} {v : Value} {l : List Iv} (h : OwnR base w v l) (hb : base' ≤ base) : OwnR base' w v l := by
  refine ⟨⟨h.1.1, ?_⟩, h.2⟩
  rcases h.1.2 with hn | ⟨g, cap, cur, hv, hg, r⟩
  · exact .inl hn
  · exact .inr ⟨g, cap, cur, hv, by omega, r⟩


/-- Behind 'out = append(out, ..)', out in a box: the box, the row, and what was kept. -/
theorem box_appended {W w1 : World} {n₀ B : Nat} {t e : TypeId} {size : Nat} {v v' : Value} {k m : Nat} {xs ys : List Value} {tmp : Obj}
    (hv : Boxed W B t v) (hte : t ≠ e) (hrow : W.ownsRow n₀ e size v k xs) (hown' : w1.ownsRow n₀ e size v' m ys) (hgrow : (W.alloc tmp).grownBy w1 v.ownBlock) :
    Boxed w1 B t v ∧ Boxed (w1.setCell ⟨B, 0, none⟩ v') B t v' ∧ (w1.setCell ⟨B, 0, none⟩ v').ownsRow n₀ e size v' m ys ∧ Keep (fun k => k = B ∨ n₀ ≤ k) W (w1.setCell ⟨B, 0, none⟩ v') := by
  have hv1 : Boxed w1 B t v := (hv.alloc tmp).kept hgrow (hv.not_row hte hrow)
  refine ⟨hv1, hv1.set v', hown'.kept (grownBy_setCell' w1 B v') (.inr (hv1.not_row hte hown').symm), ?_⟩
  refine Keep.setCell (p := ⟨B, 0, none⟩) ?_ (fun _ => .inl rfl) _
  exact ((Keep.refl _ W).alloc tmp).grown hgrow fun j ej _ => .inr ((hrow.lt j ej).1)
/-- The cells of a block that was just laid, as an append reads them. -/
theorem news_at {w : World} {B : Nat} {cs : Array Value} {t : TypeId} {fr : Nat × Nat} (hb : w.heap[B]? = some (.cells cs t fr)) : ∀ j u, cs.toList[j]? = some u → w.cell? ((⟨B, 0, none⟩ : Addr).add j) = some u := fun j u hu => by
  have hadd : (⟨B, 0, none⟩ : Addr).add j = ⟨B, j, none⟩ := by unfold Addr.add; split <;> simp_all
  rw [hadd]
  simp only [World.cell?, hb]
  simpa using hu
theorem OwnR.snoc {base : Nat} {w w' : World} {v v' : Value} {l : List Iv} {s : Iv} (h : OwnR base w v l) (hs : s.lo < M64 ∧ s.hi < M64)
    (ho : w'.ownsRow base 30 2 v' (l.length + 1) (flat l ++ [.int .u64 s.lo, .int .u64 s.hi])) : OwnR base w' v' (l ++ [s]) := by
  refine ⟨?_, fun t ht => ?_⟩
  · rw [flat_append, List.length_append]; exact ho
  · simp at ht; rcases ht with ht | rfl
    · exact h.2 t ht
    · exact hs
theorem Try.infoIv : (Try.prog.info? 30).map (fun i => (i.zero, i.size, i.bytes)) = some (some (Value.agg #[.int .u64 0, .int .u64 0]), 2, 16) := by kernel_rfl

theorem wrap_lt {x : Nat} (h : x < M64) : IntKind.u64.wrap (x : Int) = x := by
  rw [M64_val] at h
  simp [IntKind.wrap, IntKind.bits, IntKind.signed] <;> omega
end Go.Proofs.Ytcedofkenfddkaa
/- A law for a statement whose order of evaluation is left open: each operation of its head is met once, by what the operations that it waits for have left, in whatever order they come; its tail is walked in the order of the text. No condition. -/
namespace Go.Proofs.Ytcedofkenfddkaa
set_option linter.unusedVariables false
set_option linter.unusedSimpArgs false
open Go.RowKit

abbrev VP := Value → World → Prop
abbrev NoB : Nat → Prop := fun _ => False
/-- The slot of operation j. -/
def dstO (ops : Array Oper) (j : Nat) : Option Tmp := (ops[j]?).bind (·.dst)
/-- Operation i waits for operation j by an edge of its own. -/
def edge (ops : Array Oper) (i j : Nat) : Bool := match ops[i]? with | some o => o.after.any fun e => Region.binds .any e && e.on == j | none => false
/-- The slots that an operation reads. -/
def rdsO (o : Oper) : List Tmp := o.op.operands.toList.filterMap fun | .tmp t => some t | _ => none
/-- What is known of a slot. -/
def lk : List (Option Tmp × VP) → Tmp → Option VP
  | [], _ => none
  | (d, V) :: r, t => if d = some t then some V else lk r t
/-- A slot's value, in the three spellings of the walk. -/
def RdEq (a : Act) (t : Tmp) (u : Value) : Prop := a.eval (.tmp t) = u ∧ a.tmps.getD t undef = u ∧ a.tmps[t]?.getD undef = u
/-- What is known of the slots that are read. -/
def Rds (env : List (Option Tmp × VP)) (a0 : Act) : List Tmp → Act → World → Prop
  | [], _, _ => True
  | t :: ts, a, w => (match lk env t with | some V => ∃ u, RdEq a t u ∧ V u w | none => RdEq a t (a0.tmps.getD t undef)) ∧ Rds env a0 ts a w
theorem RdEq.of {a : Act} {t : Tmp} {u : Value} (h : a.tmps.getD t undef = u) : RdEq a t u := ⟨h, h, by rw [← h]; simp⟩

/-- The values of operation o, as it is met in whatever order. -/
def headOk (opw : Oper → Act → World → (Act → World → Prop) → Prop) (a0 : Act) (w0 : World) (C : World → Prop) (env : List (Option Tmp × VP)) (o : Oper) (V : VP) : Prop :=
  ∀ a w, C w → Keep NoB w0 w → Rds env a0 (rdsO o) a w → ∀ K : Act → World → Prop, (∀ u w', Keep NoB w w' → C w' → V u w' → K (a.put o.dst u) w') → opw o a w K
/-- The value of operation j is x. -/
def isV (env : List (Option Tmp × VP)) (j : Nat) (x : Value) : Prop := match env[j]? with | some (_, V) => ∀ u w, V u w → u = x | none => False
def stepOk (opw : Oper → Act → World → (Act → World → Prop) → Prop) (a0 : Act) (w0 : World) (C : World → Prop) (env : List (Option Tmp × VP)) (o : Oper) (V : VP) : Prop :=
  match o.guard with
  | none => headOk opw a0 w0 C env o V
  | some (j, b) => (isV env j (.bool b) ∧ headOk opw a0 w0 C env o V) ∨ ((isV env j (.bool !b) ∨ isV env j undef) ∧ V = fun u _ => u = undef)
/-- The end of the head: whatever values the slots hold. -/
def finG (F : Act → World → Prop) (w : World) : List (Option Tmp × VP) → Act → Prop
  | [], a => F a w
  | (none, _) :: r, a => finG F w r a
  | (some d, V) :: r, a => ∀ u, V u w → finG F w r (a.put (some d) u)
/-- The walk of the head, in the order of the text. -/
def walkG (opw : Oper → Act → World → (Act → World → Prop) → Prop) (a0 : Act) (w0 : World) (C : World → Prop) (F : Act → World → Prop) : List Oper → List (Option Tmp × VP) → Prop
  | [], env => ∀ w, C w → Keep NoB w0 w → finG F w env a0
  | o :: l, env => ∃ V : VP, (∀ u w w', V u w → Keep NoB w w' → V u w') ∧ stepOk opw a0 w0 C env o V ∧ walkG opw a0 w0 C F l (env ++ [(o.dst, V)])

/-- The first operation of the head that writes a slot. -/
def writer (ops : Array Oper) (nh : Nat) (t : Tmp) : Option Nat := (List.range nh).find? fun j => dstO ops j == some t
def chkRead (ops : Array Oper) (nh i : Nat) (t : Tmp) : Bool :=
  match writer ops nh t with
  | some j => if j < i then edge ops i j else if i < j then edge ops j i else true
  | none => true
def chkG (ops : Array Oper) (nh nt : Nat) : Bool :=
  decide (nh ≤ ops.size) &&
  (List.range nh).all fun i =>
    match ops[i]? with
    | none => false
    | some o => ((rdsO o).all (chkRead ops nh i)) &&
      (match o.guard with | none => true | some (j, _) => decide (j < i) && edge ops i j && (dstO ops j).isSome) &&
      (match o.dst with | none => true | some d => decide (d < nt) && (List.range nh).all fun j => decide (j = i) || !(dstO ops j == some d)) &&
      (decide (nh = ops.size) || (List.range (nh + 1)).any fun j => decide (i < j) && edge ops j i)
def chkT (ops : Array Oper) (nh : Nat) : Bool := (List.range ops.size).all fun t => (decide (t ≤ nh) || edge ops t (t - 1)) && match ops[t]? with | some o => o.after.all fun e => !Region.binds .any e || decide (e.on < t) | none => false

structure GI (ops : Array Oper) (nh : Nat) (a0 : Act) (w0 : World) (C : World → Prop) (env : List (Option Tmp × VP)) (listed : Array Bool) (a : Act) (w : World) : Prop where
  size : listed.size = ops.size
  closed : ∀ i j, listed.getD i false = true → edge ops i j = true → listed.getD j false = true
  heads : ∀ i, listed.getD i false = true → i < nh
  c : C w
  keep : Keep NoB w0 w
  vals : ∀ j d V, listed.getD j false = true → env[j]? = some (some d, V) → V (a.tmps.getD d undef) w
  rest : ∀ t, (∀ j, listed.getD j false = true → dstO ops j ≠ some t) → a.tmps.getD t undef = a0.tmps.getD t undef
  tsize : a.tmps.size = a0.tmps.size
  defers : a.defers = a0.defers

section
variable {ops : Array Oper} {nh : Nat} {a0 : Act} {w0 : World} {C : World → Prop}

theorem edge_iff {i j : Nat} {o : Oper} (ho : ops[i]? = some o) : edge ops i j = true ↔ ∃ e ∈ o.after, Region.binds .any e = true ∧ e.on = j := by
  unfold edge
  simp only [ho]
  rw [Array.any_eq_true']
  constructor
  · rintro ⟨e, he, hb⟩
    simp only [Bool.and_eq_true, beq_iff_eq] at hb
    exact ⟨e, he, hb.1, hb.2⟩
  · rintro ⟨e, he, hb, rfl⟩
    exact ⟨e, he, by simp [hb]⟩
theorem getD_ff {listed : Array Bool} {i : Nat} (h : listed.getD i true = false) : listed.getD i false = false ∧ i < listed.size := by
  rcases Nat.lt_or_ge i listed.size with h' | h'
  · simp [h'] at h ⊢; exact h
  · simp [Array.getElem?_eq_none h'] at h
theorem getD_ft {listed : Array Bool} {i : Nat} (h : listed.getD i false = false) (hi : i < listed.size) : listed.getD i true = false := by
  simp [hi] at h ⊢; exact h
theorem getD_set_same {listed : Array Bool} {i : Nat} (hi : i < listed.size) : (listed.setIfInBounds i true).getD i false = true := by simp [hi]
theorem getD_set_other {listed : Array Bool} {i j : Nat} (h : j ≠ i) : (listed.setIfInBounds i true).getD j false = listed.getD j false := by
  simp [Array.getElem?_setIfInBounds_ne (Ne.symm h)]
theorem put_getD_same {a : Act} {d : Tmp} {u : Value} (h : d < a.tmps.size) : (a.put (some d) u).tmps.getD d undef = u := by simp [Act.put, h]
theorem put_getD_other {a : Act} {d t : Tmp} {u : Value} (h : t ≠ d) : (a.put (some d) u).tmps.getD t undef = a.tmps.getD t undef := by
  simp [Act.put, Array.getElem?_setIfInBounds_ne (Ne.symm h)]

theorem chk_at {nt i : Nat} (h : chkG ops nh nt = true) (hi : i < nh) : ∃ o, ops[i]? = some o ∧ (∀ t ∈ rdsO o, chkRead ops nh i t = true) ∧
    (∀ j b, o.guard = some (j, b) → j < i ∧ edge ops i j = true ∧ (dstO ops j).isSome) ∧ (∀ d, o.dst = some d → d < nt ∧ ∀ j, j < nh → dstO ops j = some d → j = i) ∧
    (nh = ops.size ∨ ∃ j, j ≤ nh ∧ i < j ∧ edge ops j i = true) := by
  unfold chkG at h
  simp only [Bool.and_eq_true, List.all_eq_true, List.mem_range] at h
  have h := h.2 i hi
  cases ho : ops[i]? with
  | none => simp [ho] at h
  | some o =>
    simp only [ho, Bool.and_eq_true, List.all_eq_true, Bool.or_eq_true, decide_eq_true_eq, List.any_eq_true, List.mem_range] at h
    obtain ⟨⟨⟨h1, h2⟩, h3⟩, h4⟩ := h
    refine ⟨o, rfl, h1, ?_, ?_, ?_⟩
    · intro j b hg
      simp only [hg, Bool.and_eq_true, decide_eq_true_eq] at h2
      exact ⟨h2.1.1, h2.1.2, h2.2⟩
    · intro d hd
      simp only [hd, Bool.and_eq_true, decide_eq_true_eq, List.all_eq_true, List.mem_range, Bool.or_eq_true, Bool.not_eq_true', beq_eq_false_iff_ne] at h3
      exact ⟨h3.1, fun j hj e => (h3.2 j hj).resolve_right fun hne => hne e⟩
    · rcases h4 with h4 | ⟨j, hj, h5, h6⟩
      · exact .inl h4
      · exact .inr ⟨j, by omega, h5, h6⟩

theorem lk_some {env : List (Option Tmp × VP)} {t : Tmp} {V : VP} (h : lk env t = some V) : ∃ j : Nat, env[j]? = some (some t, V) := by
  induction env with
  | nil => cases h
  | cons x r ih =>
    obtain ⟨d, V'⟩ := x
    unfold lk at h
    split at h
    · rename_i e; cases h; exact ⟨0, by simp [e]⟩
    · obtain ⟨j, hj⟩ := ih h; exact ⟨j + 1, by simpa using hj⟩
theorem lk_none {env : List (Option Tmp × VP)} {t : Tmp} (h : lk env t = none) : ∀ (j : Nat) V, env[j]? ≠ some (some t, V) := by
  induction env with
  | nil => intro j V; simp
  | cons x r ih =>
    obtain ⟨d, V'⟩ := x
    unfold lk at h
    split at h
    · cases h
    · rename_i e
      intro j V
      cases j with
      | zero => simp; intro h1; exact absurd h1 e
      | succ j => simpa using ih h j V
theorem writer_some {t : Tmp} {j : Nat} (h : writer ops nh t = some j) : j < nh ∧ dstO ops j = some t := by
  have h1 := List.find?_some h
  have h2 := List.mem_of_find?_eq_some h
  simp at h1 h2
  exact ⟨h2, h1⟩
theorem writer_of {t : Tmp} {j : Nat} (hj : j < nh) (h : dstO ops j = some t) : ∃ j', writer ops nh t = some j' := by
  cases hw : writer ops nh t with
  | some j' => exact ⟨j', rfl⟩
  | none =>
    have := List.find?_eq_none.1 hw j (by simpa using hj)
    simp [h] at this

/-- What an operation reads, out of the state in which it comes up. -/
theorem GI.rds {nt i : Nat} {o : Oper} {env env' : List (Option Tmp × VP)} {listed : Array Bool} {a : Act} {w : World} (hg : GI ops nh a0 w0 C env' listed a w) (hchk : chkG ops nh nt = true)
    (hi : i < nh) (ho : ops[i]? = some o) (hun : listed.getD i false = false) (hready : ∀ j, edge ops i j = true → listed.getD j false = true)
    (hlen : env.length = i) (hpre : ∀ j : Nat, j < i → env'[j]? = env[j]?) (hdst : ∀ (j : Nat) x, env[j]? = some x → dstO ops j = x.1) :
    ∀ ts : List Tmp, (∀ t ∈ ts, chkRead ops nh i t = true) → Rds env a0 ts a w := by
  intro ts
  induction ts with
  | nil => intro _; trivial
  | cons t ts ih =>
    intro hts
    refine ⟨?_, ih fun t' h' => hts t' (by simp [h'])⟩
    have hct := hts t (by simp)
    unfold chkRead at hct
    cases hl : lk env t with
    | some V =>
      obtain ⟨j, hj⟩ := lk_some hl
      have hji : j < i := by rw [← hlen]; exact (List.getElem?_eq_some_iff.1 hj).1
      have hdj := hdst j _ hj
      obtain ⟨j', hw⟩ := writer_of (nh := nh) (show j < nh by omega) hdj
      obtain ⟨w1, w2⟩ := writer_some hw
      obtain ⟨oj, hoj, _, _, hd, _⟩ := chk_at hchk (show j < nh by omega)
      have : j' = j := (hd t (by unfold dstO at hdj; rw [hoj] at hdj; exact hdj)).2 j' w1 w2
      subst this
      simp only [hw, if_pos hji] at hct
      have := hg.vals j' t V (hready j' hct) (by rw [hpre j' hji]; exact hj)
      exact ⟨_, RdEq.of rfl, this⟩
    | none =>
      refine RdEq.of (hg.rest t fun j hlj hdj => ?_)
      have hjn := hg.heads j hlj
      obtain ⟨j', hw⟩ := writer_of hjn hdj
      obtain ⟨w1, w2⟩ := writer_some hw
      obtain ⟨oj, hoj, _, _, hd, _⟩ := chk_at hchk hjn
      have : j' = j := (hd t (by unfold dstO at hdj; rw [hoj] at hdj; exact hdj)).2 j' w1 w2
      subst this
      simp only [hw] at hct
      by_cases h1 : j' < i
      · have hjl : j' < env.length := by omega
        have := hdst j' _ (List.getElem?_eq_getElem hjl)
        rw [hdj] at this
        exact lk_none hl j' env[j'].2 (by rw [List.getElem?_eq_getElem hjl]; congr 1; exact Prod.ext this.symm rfl)
      · rw [if_neg h1] at hct
        by_cases h2 : i < j'
        · rw [if_pos h2] at hct
          have := hg.closed j' i hlj hct
          rw [hun] at this; cases this
        · have : j' = i := by omega
          subst this
          rw [hun] at hlj; cases hlj

theorem GI.step {nt i : Nat} {o : Oper} {V : VP} {env : List (Option Tmp × VP)} {listed : Array Bool} {a : Act} {w w' : World} {u : Value} (hg : GI ops nh a0 w0 C env listed a w) (hchk : chkG ops nh nt = true)
    (hnt : a0.tmps.size = nt) (hi : i < nh) (ho : ops[i]? = some o) (hun : listed.getD i true = false) (hready : ∀ j, edge ops i j = true → listed.getD j false = true)
    (hst : ∀ (j : Nat) d V, env[j]? = some (d, V) → ∀ u w w', V u w → Keep NoB w w' → V u w') (hdst : ∀ (j : Nat) x, env[j]? = some x → dstO ops j = x.1)
    (hV : env[i]? = some (o.dst, V)) (hk : Keep NoB w w') (hc : C w') (hu : V u w') : GI ops nh a0 w0 C env (listed.setIfInBounds i true) (a.put o.dst u) w' := by
  obtain ⟨hf, hlt⟩ := getD_ff hun
  have hl : ∀ j, (listed.setIfInBounds i true).getD j false = true → j = i ∨ listed.getD j false = true := fun j hj => by
    by_cases e : j = i
    · exact .inl e
    · exact .inr (by rwa [getD_set_other e] at hj)
  have hl' : ∀ j, listed.getD j false = true → (listed.setIfInBounds i true).getD j false = true := fun j hj => by
    by_cases e : j = i
    · subst e; exact getD_set_same hlt
    · rwa [getD_set_other e]
  obtain ⟨o', ho', _, _, hd, _⟩ := chk_at hchk hi
  obtain rfl : o' = o := Option.some.inj (ho'.symm.trans ho)
  refine ⟨by simp [hg.size], ?_, ?_, hc, hg.keep.trans hk, ?_, ?_, ?_, ?_⟩
  · intro j k hj he
    rcases hl j hj with rfl | hj
    · exact hl' _ (hready k he)
    · exact hl' _ (hg.closed j k hj he)
  · intro j hj
    rcases hl j hj with rfl | hj
    · exact hi
    · exact hg.heads j hj
  · intro j d V' hj hV'
    have hdj := hdst j _ hV'
    rcases hl j hj with rfl | hj2
    · have hVV := hV.symm.trans hV'
      simp only [Option.some.injEq, Prod.mk.injEq] at hVV
      obtain ⟨hd0, rfl⟩ := hVV
      rw [hd0, put_getD_same (by rw [hg.tsize, hnt]; exact (hd d hd0).1)]
      exact hu
    · have := hst j _ _ hV' _ _ _ (hg.vals j d V' hj2 hV') hk
      cases hod : o'.dst with
      | none => exact this
      | some d' =>
        rw [put_getD_other]
        · exact this
        · intro e
          subst e
          have hjn := hg.heads j hj2
          have := (hd d hod).2 j hjn hdj
          subst this
          rw [hf] at hj2; cases hj2
  · intro t ht
    cases hod : o'.dst with
    | none => exact hg.rest t fun j hj => ht j (hl' j hj)
    | some d' =>
      rw [put_getD_other]
      · exact hg.rest t fun j hj => ht j (hl' j hj)
      · intro e
        subst e
        exact ht i (getD_set_same hlt) (by unfold dstO; rw [ho]; exact hod)
  · rw [← hg.tsize]; cases o'.dst <;> simp [Act.put]
  · rw [← hg.defers]; cases o'.dst <;> simp [Act.put]

def fillA (a : Act) (b : Act) (x : Option Tmp × VP) : Act := match x.1 with | none => b | some d => b.put (some d) (a.tmps.getD d undef)
theorem finG_fill {F : Act → World → Prop} {w : World} {a : Act} : ∀ (env : List (Option Tmp × VP)) (b : Act), finG F w env b → (∀ d V, (some d, V) ∈ env → V (a.tmps.getD d undef) w) → F (env.foldl (fillA a) b) w
  | [], _, h, _ => h
  | (none, _) :: r, b, h, hv => finG_fill r b h fun d V hm => hv d V (by simp [hm])
  | (some d, V) :: r, b, h, hv => finG_fill r _ (h _ (hv d V (by simp))) fun d V hm => hv d V (by simp [hm])
theorem fill_getD {a : Act} (t : Tmp) : ∀ (env : List (Option Tmp × VP)) (b : Act), t < b.tmps.size → ((∃ V, (some t, V) ∈ env) ∨ b.tmps.getD t undef = a.tmps.getD t undef) →
    (env.foldl (fillA a) b).tmps.getD t undef = a.tmps.getD t undef
  | [], b, _, h => h.resolve_left (by rintro ⟨V, hV⟩; cases hV)
  | (none, V) :: r, b, hs, h => fill_getD t r b hs (by
      rcases h with ⟨V', hV⟩ | h
      · simp at hV; exact .inl ⟨V', hV⟩
      · exact .inr h)
  | (some d, V) :: r, b, hs, h => fill_getD t r (b.put (some d) (a.tmps.getD d undef)) (by simpa [Act.put] using hs) (by
      by_cases e : t = d
      · subst e; exact .inr (put_getD_same hs)
      · rcases h with ⟨V', hV⟩ | h
        · simp [e] at hV; exact .inl ⟨V', hV⟩
        · exact .inr ((put_getD_other e).trans h))
theorem fill_size {a : Act} : ∀ (env : List (Option Tmp × VP)) (b : Act), (env.foldl (fillA a) b).tmps.size = b.tmps.size ∧ (env.foldl (fillA a) b).defers = b.defers
  | [], _ => ⟨rfl, rfl⟩
  | (none, _) :: r, b => fill_size r b
  | (some d, V) :: r, b => by
    have := fill_size (a := a) r (b.put (some d) (a.tmps.getD d undef))
    exact ⟨this.1.trans (by simp [Act.put]), this.2.trans (by simp [Act.put])⟩
theorem Act.ext' {a b : Act} (hs : a.tmps.size = b.tmps.size) (hd : a.defers = b.defers) (h : ∀ t, t < b.tmps.size → a.tmps.getD t undef = b.tmps.getD t undef) : a = b := by
  obtain ⟨ta, da⟩ := a
  obtain ⟨tb, db⟩ := b
  simp only at hs hd h
  subst hd
  have : ta = tb := Array.ext hs fun i h1 h2 => by
    have := h i h2
    simpa [h1, h2] using this
  rw [this]
/-- At the head's end. -/
theorem GI.fin {F : Act → World → Prop} {env : List (Option Tmp × VP)} {listed : Array Bool} {a : Act} {w : World} (hg : GI ops nh a0 w0 C env listed a w) (hlen : env.length = nh)
    (hdst : ∀ (j : Nat) x, env[j]? = some x → dstO ops j = x.1) (hall : ∀ i, i < nh → listed.getD i false = true)
    (hf : finG F w env a0) : F a w := by
  have h1 := finG_fill (a := a) env a0 hf fun d V hm => by
    obtain ⟨j, hj⟩ := List.getElem?_of_mem hm
    exact hg.vals j d V (hall j (by rw [← hlen]; exact (List.getElem?_eq_some_iff.1 hj).1)) hj
  have h2 : env.foldl (fillA a) a0 = a := by
    obtain ⟨s1, s2⟩ := fill_size (a := a) env a0
    refine Act.ext' (s1.trans hg.tsize.symm) (s2.trans hg.defers.symm) fun t ht => fill_getD t env a0 (by rw [← hg.tsize]; exact ht) ?_
    by_cases hw : ∃ j, listed.getD j false = true ∧ dstO ops j = some t
    · obtain ⟨j, hj, hd⟩ := hw
      have hjn := hg.heads j hj
      have hjl : j < env.length := by omega
      have := hdst j _ (List.getElem?_eq_getElem hjl)
      rw [hd] at this
      exact .inl ⟨env[j].2, by rw [show (some t, env[j].2) = env[j] from Prod.ext this rfl]; exact List.getElem_mem hjl⟩
    · exact .inr (hg.rest t fun j hj hd => hw ⟨j, hj, hd⟩).symm
  rwa [h2] at h1

theorem isV_of {env env' : List (Option Tmp × VP)} {i j : Nat} {x : Value} (h : isV env j x) (hpre : ∀ j : Nat, j < i → env'[j]? = env[j]?) (hj : j < i) : isV env' j x := by
  unfold isV at *
  rw [hpre j hj]; exact h
theorem yielded_at {j : Nat} {d : Tmp} {tmps : Array Value} (hd : dstO ops j = some d) (hs : d < tmps.size) : yielded ops tmps j = match tmps.getD d undef with | .bool b => some b | _ => none := by
  unfold yielded
  unfold dstO at hd
  rw [hd]
  simp only [Option.bind_some, Array.getElem?_eq_getElem hs, Array.getD_eq_getD_getElem?, Option.getD_some]
  split <;> simp_all
theorem chkT_at {t : Nat} (h : chkT ops nh = true) (ht : t < ops.size) : (t ≤ nh ∨ edge ops t (t - 1) = true) ∧ ∀ j, edge ops t j = true → j < t := by
  unfold chkT at h
  rw [List.all_eq_true] at h
  have h := h t (by simpa using ht)
  simp only [Bool.and_eq_true, Bool.or_eq_true, decide_eq_true_eq] at h
  refine ⟨h.1, fun j hj => ?_⟩
  have h2 := h.2
  cases ho : ops[t]? with
  | none => simp [ho] at h2
  | some o =>
    simp only [ho, Array.all_eq_true'] at h2
    obtain ⟨e, he, hb, rfl⟩ := (edge_iff ho).1 hj
    have := h2 e he
    simpa [hb] using this
theorem ready_edges {i : Nat} {listed : Array Bool} (h : i ∈ Region.ready .any ops listed) : listed.getD i true = false ∧ i < ops.size ∧ (∃ o, ops[i]? = some o) ∧ ∀ j, edge ops i j = true → listed.getD j false = true := by
  obtain ⟨h1, o, ho, h2⟩ := mem_ready.1 h
  refine ⟨h1, (Array.getElem?_eq_some_iff.1 ho).1, ⟨o, ho⟩, fun j hj => ?_⟩
  obtain ⟨e, he, hb, rfl⟩ := (edge_iff ho).1 hj
  exact h2 e he hb
theorem ready_of {i : Nat} {listed : Array Bool} {o : Oper} (ho : ops[i]? = some o) (h1 : listed.getD i true = false) (h2 : ∀ j, edge ops i j = true → listed.getD j false = true) : i ∈ Region.ready .any ops listed :=
  mem_ready.2 ⟨h1, o, ho, fun e he hb => h2 _ ((edge_iff ho).2 ⟨e, he, hb, rfl⟩)⟩
/-- If something is left, something may come up. -/
theorem ready_some {listed : Array Bool} (hct : chkT ops nh = true) (hs : listed.size = ops.size) : ∀ (i : Nat), i < ops.size → listed.getD i false = false → ∃ k, k ∈ Region.ready .any ops listed := by
  intro i
  induction i using Nat.strongRecOn with
  | _ i ih =>
    intro hi hun
    by_cases hall : ∀ j, edge ops i j = true → listed.getD j false = true
    · exact ⟨i, ready_of (Array.getElem?_eq_getElem hi) (getD_ft hun (by omega)) hall⟩
    · have : ∃ j, edge ops i j = true ∧ listed.getD j false = false := by
        apply Classical.byContradiction
        intro hn
        refine hall fun j hj => ?_
        cases h : listed.getD j false with
        | true => rfl
        | false => exact absurd ⟨j, hj, h⟩ hn
      obtain ⟨j, hj, hu⟩ := this
      have := (chkT_at hct hi).2 j hj
      exact ih j this (by omega) hu

theorem nodup_sub : ∀ (l S : List Nat), l.Nodup → l ⊆ S → l.length ≤ S.length
  | [], _, _, _ => Nat.zero_le _
  | x :: l, S, hn, hs => by
    have hx : x ∈ S := hs (by simp)
    have h1 : l ⊆ S.erase x := fun y hy => (List.mem_erase_of_ne (fun e => (List.nodup_cons.1 hn).1 (by rw [← e]; exact hy))).2 (hs (by simp [hy]))
    have := nodup_sub l (S.erase x) (List.nodup_cons.1 hn).2 h1
    rw [List.length_erase_of_mem hx] at this
    have := List.length_pos_of_mem hx
    simp; omega
/-- The heart: whatever order the head's operations come in. -/
theorem gcore {nt : Nat} (opw : Oper → Act → World → (Act → World → Prop) → Prop) (step : Nat → (Act → World → Prop) → Act → World → Prop) (W : Nat → Array Bool → Act → World → Prop) (Qn : Act → World → Prop) (T : Nat → Act → World → Prop)
    (hstep : ∀ i o K a w, ops[i]? = some o → (if Region.wanted o (yielded ops a.tmps) then opw o a w K else K (a.put o.dst undef) w) → step i K a w)
    (hmono : ∀ i K K' a w, (∀ a w, K a w → K' a w) → step i K a w → step i K' a w)
    (hW0 : ∀ listed a w, Region.ready .any ops listed = [] → Qn a w → W 0 listed a w)
    (hW : ∀ fuel listed a w, (Region.ready .any ops listed = [] → Qn a w) → (∀ i ∈ Region.ready .any ops listed, step i (W fuel (listed.setIfInBounds i true)) a w) → W (fuel + 1) listed a w)
    (hT : ∀ k a w, k < ops.size → T k a w → step k (T (k + 1)) a w) (hT0 : ∀ a w, T ops.size a w → Qn a w)
    (hchk : chkG ops nh nt = true) (hct : chkT ops nh = true) (hnh : nh ≤ ops.size) (hnt : a0.tmps.size = nt) (env : List (Option Tmp × VP)) (hlen : env.length = nh)
    (hst : ∀ (j : Nat) d V, env[j]? = some (d, V) → ∀ u w w', V u w → Keep NoB w w' → V u w') (hdst : ∀ (j : Nat) x, env[j]? = some x → dstO ops j = x.1)
    (hok : ∀ (i : Nat) o V, ops[i]? = some o → env[i]? = some (o.dst, V) → stepOk opw a0 w0 C (env.take i) o V)
    (hfin : ∀ w, C w → Keep NoB w0 w → finG (T nh) w env a0) :
    ∀ (fuel : Nat) (listed : Array Bool) (a : Act) (w : World) (S : List Nat), GI ops nh a0 w0 C env listed a w → (∀ i, i < ops.size → listed.getD i false = false → i ∈ S) → S.length ≤ fuel → W fuel listed a w := by
  -- the tail
  have tail : ∀ (fuel k : Nat) (listed : Array Bool) (a : Act) (w : World), listed.size = ops.size → (∀ i, listed.getD i false = true ↔ i < k) → nh ≤ k → k ≤ ops.size → ops.size - k ≤ fuel → T k a w → W fuel listed a w := by
    intro fuel
    induction fuel with
    | zero =>
      intro k listed a w hs hl _ hk hf ht
      obtain rfl : k = ops.size := by omega
      refine hW0 _ _ _ ?_ (hT0 _ _ ht)
      refine List.eq_nil_iff_forall_not_mem.2 fun i hi => ?_
      obtain ⟨h1, h2, _⟩ := ready_edges hi
      have := (getD_ff h1).1
      rw [(hl i).2 h2] at this; cases this
    | succ fuel ih =>
      intro k listed a w hs hl hn hk hf ht
      by_cases hkk : k = ops.size
      · subst hkk
        have hnil : Region.ready .any ops listed = [] := List.eq_nil_iff_forall_not_mem.2 fun i hi => by
          obtain ⟨h1, h2, _⟩ := ready_edges hi
          have := (getD_ff h1).1
          rw [(hl i).2 h2] at this; cases this
        exact hW _ _ _ _ (fun _ => hT0 _ _ ht) fun i hi => by rw [hnil] at hi; cases hi
      · refine hW _ _ _ _ (fun h0 => ?_) fun i hi => ?_
        · exfalso
          have hu : listed.getD k false = false := by
            cases h : listed.getD k false with
            | false => rfl
            | true => have := (hl k).1 h; omega
          obtain ⟨j, hj⟩ := ready_some hct hs k (by omega) hu
          rw [h0] at hj; cases hj
        · obtain ⟨h1, h2, _, h3⟩ := ready_edges hi
          have hik : ¬ i < k := fun h => by have := (getD_ff h1).1; rw [(hl i).2 h] at this; cases this
          have : i = k := by
            rcases (chkT_at hct h2).1 with h | h
            · omega
            · have := (hl _).1 (h3 _ h); omega
          subst this
          refine hmono _ _ _ _ _ (fun a' w' ht' => ih (i + 1) _ _ _ (by simp [hs]) (fun j => ?_) (by omega) (by omega) (by omega) ht') (hT i a w h2 ht)
          by_cases e : j = i
          · subst e; simp [getD_set_same (getD_ff h1).2]
          · rw [getD_set_other e, hl]; omega
  intro fuel
  have sink : ∀ (listed : Array Bool) (a : Act) (w : World), GI ops nh a0 w0 C env listed a w → nh ∈ Region.ready .any ops listed → ∀ (n i : Nat), nh - i = n → i < nh → listed.getD i false = true := by
    intro listed a w hg hr n
    obtain ⟨h1, h2, _, h3⟩ := ready_edges hr
    induction n using Nat.strongRecOn with
    | _ n ih =>
      intro i hn hi
      obtain ⟨_, _, _, _, _, h4⟩ := chk_at hchk hi
      rcases h4 with h4 | ⟨j, hj, hij, he⟩
      · omega
      · by_cases e : j = nh
        · subst e; exact h3 i he
        · exact hg.closed j i (ih (nh - j) (by omega) j rfl (by omega)) he
  have full : ∀ (fuel : Nat) (listed : Array Bool) (a : Act) (w : World), GI ops nh a0 w0 C env listed a w → (∀ i, i < nh → listed.getD i false = true) → ops.size - nh ≤ fuel → W fuel listed a w := by
    intro fuel listed a w hg hall hf
    exact tail fuel nh listed a w hg.size (fun i => ⟨hg.heads i, hall i⟩) (Nat.le_refl _) hnh hf (hg.fin hlen hdst hall (hfin w hg.c hg.keep))
  induction fuel with
  | zero =>
    intro listed a w S hg hS hf
    have hall : ∀ i, i < ops.size → listed.getD i false = true := fun i hi => by
      cases h : listed.getD i false with
      | true => rfl
      | false => have := hS i hi h; rw [List.eq_nil_of_length_eq_zero (by omega : S.length = 0)] at this; cases this
    have : nh = ops.size := by
      apply Classical.byContradiction
      intro hne
      have := hg.heads nh (hall nh (by omega)); omega
    exact full 0 listed a w hg (fun i hi => hall i (by omega)) (by omega)
  | succ fuel ih =>
    intro listed a w S hg hS hf
    by_cases hall : ∀ i, i < nh → listed.getD i false = true
    · -- all of the head has come
      refine full _ listed a w hg hall ?_
      have hsub : (List.range' nh (ops.size - nh)) ⊆ S := fun i hi => by
        simp only [List.mem_range'_1] at hi
        refine hS i (by omega) ?_
        cases h : listed.getD i false with
        | false => rfl
        | true => have := hg.heads i h; omega
      have hnd : (List.range' nh (ops.size - nh)).Nodup := List.nodup_range'
      have := nodup_sub _ _ hnd hsub
      simp at this
      omega
    · have hun : ∃ i, i < nh ∧ listed.getD i false = false := by
        apply Classical.byContradiction
        intro hn
        refine hall fun i hi => ?_
        cases h : listed.getD i false with
        | true => rfl
        | false => exact absurd ⟨i, hi, h⟩ hn
      refine hW _ _ _ _ (fun h0 => ?_) fun i hi => ?_
      · exfalso
        obtain ⟨i, hi, hu⟩ := hun
        obtain ⟨j, hj⟩ := ready_some hct hg.size i (by omega) hu
        rw [h0] at hj; cases hj
      · obtain ⟨h1, h2, ⟨o, ho⟩, h3⟩ := ready_edges hi
        have hin : i < nh := by
          apply Classical.byContradiction
          intro hge
          have hnn : i = nh := by
            rcases (chkT_at hct h2).1 with h | h
            · omega
            · have := hg.heads _ (h3 _ h); omega
          subst hnn
          obtain ⟨j, hj, hu⟩ := hun
          rw [sink listed a w hg hi _ j rfl hj] at hu; cases hu
        obtain ⟨o', ho', hrd, hgd, _, _⟩ := chk_at hchk hin
        obtain rfl : o' = o := Option.some.inj (ho'.symm.trans ho)
        have hil : i < env.length := by omega
        have hei : env[i]? = some (o'.dst, env[i].2) := by
          have := hdst i _ (List.getElem?_eq_getElem hil)
          unfold dstO at this
          rw [ho] at this
          rw [List.getElem?_eq_getElem hil]
          exact congrArg some (Prod.ext this.symm rfl)
        have hpre : ∀ j : Nat, j < i → env[j]? = (env.take i)[j]? := fun j hj => by rw [List.getElem?_take, if_pos hj]
        have hrds := hg.rds (env := env.take i) hchk hin ho (getD_ff h1).1 h3 (by simp; omega) hpre (fun j x hx => hdst j x (by rw [List.getElem?_take] at hx; split at hx; exact hx; cases hx)) (rdsO o') hrd
        have hsk := hok i o' _ ho hei
        have hgo : ∀ u w', Keep NoB w w' → C w' → env[i].2 u w' → W fuel (listed.setIfInBounds i true) (a.put o'.dst u) w' := fun u w' hk hc hu =>
          ih _ _ _ (S.erase i) (hg.step hchk hnt hin ho h1 h3 hst hdst hei hk hc hu) (fun j hj hu' => by
            have hji : j ≠ i := fun e => by subst e; rw [getD_set_same (getD_ff h1).2] at hu'; cases hu'
            rw [getD_set_other hji] at hu'
            exact (List.mem_erase_of_ne hji).2 (hS j hj hu')) (by rw [List.length_erase_of_mem (hS i h2 (getD_ff h1).1)]; omega)
        refine hstep i o' _ a w ho ?_
        unfold stepOk at hsk
        cases hgu : o'.guard with
        | none =>
          simp only [hgu] at hsk
          rw [if_pos (by simp [Region.wanted, hgu])]
          exact hsk a w hg.c hg.keep hrds _ hgo
        | some jb =>
          obtain ⟨j, b⟩ := jb
          simp only [hgu] at hsk
          obtain ⟨hji, hje, hjd⟩ := hgd j b hgu
          obtain ⟨d, hd⟩ := Option.isSome_iff_exists.1 hjd
          have hjl : j < env.length := by omega
          have hej := hdst j _ (List.getElem?_eq_getElem hjl)
          rw [hd] at hej
          have hvj := hg.vals j d env[j].2 (h3 j hje) (by rw [List.getElem?_eq_getElem hjl]; exact congrArg some (Prod.ext hej.symm rfl))
          obtain ⟨oj, hoj, _, _, hdj, _⟩ := chk_at hchk (show j < nh by omega)
          have hds : d < a.tmps.size := by rw [hg.tsize, hnt]; exact (hdj d (by unfold dstO at hd; rw [hoj] at hd; exact hd)).1
          have hy := yielded_at (tmps := a.tmps) hd hds
          have hval : ∀ x, isV (env.take i) j x → a.tmps.getD d undef = x := fun x hx => by
            have := isV_of hx hpre hji
            unfold isV at this
            rw [List.getElem?_eq_getElem hjl] at this
            exact this _ _ hvj
          rcases hsk with ⟨hx, hh⟩ | ⟨hx, hVu⟩
          · have := hval _ hx
            rw [this] at hy
            rw [if_pos (by simp [Region.wanted, hgu, hy])]
            exact hh a w hg.c hg.keep hrds _ hgo
          · have hyb : yielded ops a.tmps j ≠ some b := by
              rcases hx with hx | hx
              · have := hval _ hx
                rw [this] at hy
                rw [hy]; cases b <;> simp
              · have := hval _ hx
                rw [this] at hy
                rw [hy]; simp [undef]
            rw [if_neg (by simp [Region.wanted, hgu]; exact hyb)]
            exact hgo undef w (Keep.refl _ _) hg.c (by rw [hVu])

theorem walkG_env {opw : Oper → Act → World → (Act → World → Prop) → Prop} {F : Act → World → Prop} : ∀ (l : List Oper) (env : List (Option Tmp × VP)), walkG opw a0 w0 C F l env →
    ∃ r : List (Option Tmp × VP), r.length = l.length ∧ (∀ (i : Nat) o, l[i]? = some o → ∃ V, r[i]? = some (o.dst, V) ∧ (∀ u w w', V u w → Keep NoB w w' → V u w') ∧ stepOk opw a0 w0 C (env ++ r.take i) o V) ∧
      (∀ w, C w → Keep NoB w0 w → finG F w (env ++ r) a0)
  | [], env, h => ⟨[], rfl, (fun i o ho => by simp at ho), by rw [List.append_nil]; exact h⟩
  | o :: l, env, ⟨V, hs, hk, hw⟩ => by
    obtain ⟨r, h1, h2, h3⟩ := walkG_env l _ hw
    refine ⟨(o.dst, V) :: r, by simp [h1], fun i o' ho' => ?_, by simpa using h3⟩
    cases i with
    | zero =>
      obtain rfl : o = o' := by simpa using ho'
      exact ⟨V, rfl, hs, by simpa using hk⟩
    | succ i =>
      obtain ⟨V', g1, g2, g3⟩ := h2 i o' (by simpa using ho')
      exact ⟨V', by simpa using g1, g2, by simpa using g3⟩

theorem gready {nt : Nat} {l : List Oper} (hO : ops = l.toArray) (opw : Oper → Act → World → (Act → World → Prop) → Prop) (step : Nat → (Act → World → Prop) → Act → World → Prop) (W : Nat → Array Bool → Act → World → Prop) (Qn : Act → World → Prop) (T : Nat → Act → World → Prop)
    (hstep : ∀ i o K a w, ops[i]? = some o → (if Region.wanted o (yielded ops a.tmps) then opw o a w K else K (a.put o.dst undef) w) → step i K a w)
    (hmono : ∀ i K K' a w, (∀ a w, K a w → K' a w) → step i K a w → step i K' a w)
    (hW0 : ∀ listed a w, Region.ready .any ops listed = [] → Qn a w → W 0 listed a w)
    (hW : ∀ fuel listed a w, (Region.ready .any ops listed = [] → Qn a w) → (∀ i ∈ Region.ready .any ops listed, step i (W fuel (listed.setIfInBounds i true)) a w) → W (fuel + 1) listed a w)
    (hT : ∀ k a w, k < ops.size → T k a w → step k (T (k + 1)) a w) (hT0 : ∀ a w, T ops.size a w → Qn a w)
    (hchk : chkG ops nh nt = true) (hct : chkT ops nh = true) (hnt : a0.tmps.size = nt) (hC : C w0)
    (h : walkG opw a0 w0 C (T nh) (l.take nh) []) : W ops.size (Array.replicate ops.size false) a0 w0 := by
  subst hO
  have hnh : nh ≤ l.toArray.size := by
    unfold chkG at hchk
    simp only [Bool.and_eq_true, decide_eq_true_eq] at hchk
    exact hchk.1
  have hnl : nh ≤ l.length := by simpa using hnh
  obtain ⟨env, h1, h2, h3⟩ := walkG_env _ _ h
  have hlen : env.length = nh := by rw [h1]; simp; omega
  have get : ∀ i : Nat, i < nh → ∃ o V, l[i]? = some o ∧ env[i]? = some (o.dst, V) ∧ (∀ u w w', V u w → Keep NoB w w' → V u w') ∧ stepOk opw a0 w0 C (env.take i) o V := fun i hi => by
    have hil : i < l.length := by omega
    obtain ⟨V, g⟩ := h2 i l[i] (by rw [List.getElem?_take, if_pos hi]; exact List.getElem?_eq_getElem hil)
    exact ⟨l[i], V, List.getElem?_eq_getElem hil, by simpa using g⟩
  refine gcore (nt := nt) opw step W Qn T hstep hmono hW0 hW hT hT0 hchk hct hnh hnt env hlen (fun j d V hj => ?_) (fun j x hj => ?_) (fun i o V ho hV => ?_) (by simpa using h3) _ _ _ _ (List.range l.toArray.size) ?_ (fun i hi _ => by simpa using hi) (by simp)
  · obtain ⟨o, V', g1, g2, g3, g4⟩ := get j (by rw [← hlen]; exact (List.getElem?_eq_some_iff.1 hj).1)
    rw [g2] at hj
    cases hj
    exact g3
  · obtain ⟨o, V', g1, g2, g3, g4⟩ := get j (by rw [← hlen]; exact (List.getElem?_eq_some_iff.1 hj).1)
    rw [g2] at hj
    cases hj
    unfold dstO
    simp [g1]
  · obtain ⟨o', V', g1, g2, g3, g4⟩ := get i (by rw [← hlen]; exact (List.getElem?_eq_some_iff.1 hV).1)
    have e1 : o' = o := by have : l[i]? = some o := by simpa using ho
                           rw [g1] at this; exact Option.some.inj this
    subst e1
    rw [g2] at hV
    simp only [Option.some.injEq, Prod.mk.injEq, true_and] at hV
    subst hV
    exact g4
  · have hf : ∀ i : Nat, (Array.replicate l.toArray.size false).getD i false = false := fun i => by
      simp only [Array.getD_eq_getD_getElem?, Array.getElem?_replicate]
      split <;> rfl
    exact ⟨by simp, (fun i j hi => by rw [hf] at hi; cases hi), (fun i hi => by rw [hf] at hi; cases hi), hC, Keep.refl _ _, (fun j d V hj => by rw [hf] at hj; cases hj), fun _ _ => rfl, rfl, rfl⟩
end

/-- THE LAW, for a statement of an activation of a function. -/
theorem regG {P : Program} {id : Nat} {l : List Oper} {Q : Exit → Act → World → Prop} {a : Act} {w : World} (nh nt : Nat) (C : World → Prop) (hm : P.follows .mixedOrders = true)
    (hB : (chkG l.toArray nh nt && chkT l.toArray nh) = true) (hnt : a.tmps.size = nt) (hC : C w.drew)
    (h : walkG (fun o a w K => o.wp P a w K Q) a w.drew C (fun a w => wpList P l.toArray Q (l.drop nh) a w) (l.take nh) []) : (Code.region id l.toArray true).wp P Q a w := by
  rw [Bool.and_eq_true] at hB
  refine wp_region_any hm ?_
  refine gready (ops := l.toArray) (a0 := a) (w0 := w.drew) (C := C) rfl (fun o a w K => o.wp P a w K Q) (wpOp P l.toArray Q) (wpAny P .any l.toArray Q) (fun a w => Q .normal a w) (fun k a w => wpList P l.toArray Q (l.drop k) a w)
    ?_ (fun i K K' a w hk hs => wpOp_mono hk hs) (fun listed a w h1 h2 => ⟨h1, h2⟩) (fun fuel listed a w h1 h2 => ⟨h1, h2⟩) ?_ ?_ hB.1 hB.2 hnt hC h
  · intro i o K a w ho hs
    unfold wpOp
    simp only [ho]
    split
    · rename_i hw; rw [if_pos hw] at hs; exact .inl hs
    · rename_i hw; rw [if_neg hw] at hs; exact hs
  · intro k a w hk ht
    have hk' : k < l.length := by simpa using hk
    simp only [List.drop_eq_getElem_cons hk', wpList] at ht
    unfold wpOp
    simp only [List.getElem?_toArray, List.getElem?_eq_getElem hk']
    exact ht
  · intro a w ht
    simpa [wpList] using ht
/-- The same inside a round of a range over a function. -/
theorem regGIn {P : Program} {F : Fence} {n : Nat} (hF : ∀ f, F.fn f) {id : Nat} {l : List Oper} {Q : Exit → Act → World → Prop} {a : Act} {w : World} (nh nt : Nat) (C : World → Prop) (hm : P.follows .mixedOrders = true)
    (hB : (chkG l.toArray nh nt && chkT l.toArray nh) = true) (hnt : a.tmps.size = nt) (hC : C w.drew)
    (h : walkG (fun o a w K => o.wpIn F n P a w K Q) a w.drew C (fun a w => wpListIn F n P l.toArray Q (l.drop nh) a w) (l.take nh) []) : (Code.region id l.toArray true).wpIn F n P Q a w := by
  rw [Bool.and_eq_true] at hB
  refine wpIn_region_any hm ?_
  refine gready (ops := l.toArray) (a0 := a) (w0 := w.drew) (C := C) rfl (fun o a w K => o.wpIn F n P a w K Q) (wpOpIn F n P l.toArray Q) (wpAnyIn F n P .any l.toArray Q) (fun a w => Q .normal a w) (fun k a w => wpListIn F n P l.toArray Q (l.drop k) a w)
    ?_ (fun i K K' a w hk hs => wpOpIn_mono hk hs) (fun listed a w h1 h2 => ⟨h1, h2⟩) (fun fuel listed a w h1 h2 => ⟨h1, h2⟩) ?_ ?_ hB.1 hB.2 hnt hC h
  · intro i o K a w ho hs
    unfold wpOpIn
    simp only [ho]
    split
    · rename_i hw; rw [if_pos hw] at hs; exact hs
    · rename_i hw; rw [if_neg hw] at hs; exact ⟨fun f _ => hF f, hs⟩
  · intro k a w hk ht
    have hk' : k < l.length := by simpa using hk
    simp only [List.drop_eq_getElem_cons hk', wpListIn] at ht
    unfold wpOpIn
    simp only [List.getElem?_toArray, List.getElem?_eq_getElem hk']
    exact ht
  · intro a w ht
    simpa [wpListIn] using ht

/-! ### The steps of the head's walk -/
section
variable {P : Program} {Q : Exit → Act → World → Prop} {a0 : Act} {w0 : World} {C : World → Prop} {F : Act → World → Prop} {l : List Oper} {o : Oper} {env : List (Option Tmp × VP)}
abbrev opwP (P : Program) (Q : Exit → Act → World → Prop) : Oper → Act → World → (Act → World → Prop) → Prop := fun o a w K => o.wp P a w K Q
abbrev opwI (G : Fence) (n : Nat) (P : Program) (Q : Exit → Act → World → Prop) : Oper → Act → World → (Act → World → Prop) → Prop := fun o a w K => o.wpIn G n P a w K Q
theorem eqV_stab (v : Value) : ∀ (u : Value) (w w' : World), (fun (u : Value) (_ : World) => u = v) u w → Keep NoB w w' → (fun (u : Value) (_ : World) => u = v) u w' := fun _ _ _ h _ => h
theorem isV_eq {j : Nat} {d : Option Tmp} {v x : Value} (h : env[j]? = some (d, fun u _ => u = v)) (e : v = x) : isV env j x := by unfold isV; rw [h]; exact fun u _ h => h.trans e
theorem head_det (v : Value) (h : ∀ a w, C w → Keep NoB w0 w → Rds env a0 (rdsO o) a w → (execOp a.eval o).run P w = .ok (.value v) w) : headOk (opwP P Q) a0 w0 C env o (fun u _ => u = v) := by
  intro a w hc hk hr K hK
  show o.upon P a K Q ((execOp a.eval o).run P w)
  rw [h a w hc hk hr]
  exact hK v w (Keep.refl _ _) hc rfl
theorem head_detI {G : Fence} {n : Nat} (hG : ∀ f, G.fn f) (v : Value) (h : ∀ a w, C w → Keep NoB w0 w → Rds env a0 (rdsO o) a w → (o.semAt G.round a.eval).run P w = .ok (.value v) w) : headOk (opwI G n P Q) a0 w0 C env o (fun u _ => u = v) := by
  intro a w hc hk hr K hK
  refine ⟨fun f _ => hG f, ?_⟩
  rw [h a w hc hk hr]
  exact hK v w (Keep.refl _ _) hc rfl
/-- An operation that has one value, whatever the order. -/
theorem wdet (v : Value) (hg : o.guard = none) (h : ∀ a w, C w → Keep NoB w0 w → Rds env a0 (rdsO o) a w → (execOp a.eval o).run P w = .ok (.value v) w)
    (hn : walkG (opwP P Q) a0 w0 C F l (env ++ [(o.dst, fun u _ => u = v)])) : walkG (opwP P Q) a0 w0 C F (o :: l) env :=
  ⟨_, eqV_stab v, by unfold stepOk; rw [hg]; exact head_det v h, hn⟩
theorem wdetI {G : Fence} {n : Nat} (hG : ∀ f, G.fn f) (v : Value) (hg : o.guard = none) (h : ∀ a w, C w → Keep NoB w0 w → Rds env a0 (rdsO o) a w → (o.semAt G.round a.eval).run P w = .ok (.value v) w)
    (hn : walkG (opwI G n P Q) a0 w0 C F l (env ++ [(o.dst, fun u _ => u = v)])) : walkG (opwI G n P Q) a0 w0 C F (o :: l) env :=
  ⟨_, eqV_stab v, by unfold stepOk; rw [hg]; exact head_detI hG v h, hn⟩
/-- The same, its guard saying yes. -/
theorem wdetg {j : Nat} {b : Bool} (hg : o.guard = some (j, b)) (hj : isV env j (.bool b)) (v : Value) (h : ∀ a w, C w → Keep NoB w0 w → Rds env a0 (rdsO o) a w → (execOp a.eval o).run P w = .ok (.value v) w)
    (hn : walkG (opwP P Q) a0 w0 C F l (env ++ [(o.dst, fun u _ => u = v)])) : walkG (opwP P Q) a0 w0 C F (o :: l) env :=
  ⟨_, eqV_stab v, by unfold stepOk; rw [hg]; exact .inl ⟨hj, head_det v h⟩, hn⟩
theorem wdetgI {G : Fence} {n : Nat} (hG : ∀ f, G.fn f) {j : Nat} {b : Bool} (hg : o.guard = some (j, b)) (hj : isV env j (.bool b)) (v : Value) (h : ∀ a w, C w → Keep NoB w0 w → Rds env a0 (rdsO o) a w → (o.semAt G.round a.eval).run P w = .ok (.value v) w)
    (hn : walkG (opwI G n P Q) a0 w0 C F l (env ++ [(o.dst, fun u _ => u = v)])) : walkG (opwI G n P Q) a0 w0 C F (o :: l) env :=
  ⟨_, eqV_stab v, by unfold stepOk; rw [hg]; exact .inl ⟨hj, head_detI hG v h⟩, hn⟩
/-- Its guard says no. -/
theorem wskip {opw : Oper → Act → World → (Act → World → Prop) → Prop} {j : Nat} {b : Bool} (hg : o.guard = some (j, b)) (hj : isV env j (.bool !b) ∨ isV env j undef)
    (hn : walkG opw a0 w0 C F l (env ++ [(o.dst, fun u _ => u = undef)])) : walkG opw a0 w0 C F (o :: l) env :=
  ⟨_, eqV_stab undef, by unfold stepOk; rw [hg]; exact .inr ⟨hj, rfl⟩, hn⟩
/-- Whatever else: a predicate on the value that later memory does not turn. -/
theorem wgen {opw : Oper → Act → World → (Act → World → Prop) → Prop} (V : VP) (hs : ∀ u w w', V u w → Keep NoB w w' → V u w') (hg : o.guard = none)
    (h : headOk opw a0 w0 C env o V) (hn : walkG opw a0 w0 C F l (env ++ [(o.dst, V)])) : walkG opw a0 w0 C F (o :: l) env :=
  ⟨V, hs, by unfold stepOk; rw [hg]; exact h, hn⟩
theorem wgeng {opw : Oper → Act → World → (Act → World → Prop) → Prop} {j : Nat} {b : Bool} (V : VP) (hs : ∀ u w w', V u w → Keep NoB w w' → V u w') (hg : o.guard = some (j, b)) (hj : isV env j (.bool b))
    (h : headOk opw a0 w0 C env o V) (hn : walkG opw a0 w0 C F l (env ++ [(o.dst, V)])) : walkG opw a0 w0 C F (o :: l) env :=
  ⟨V, hs, by unfold stepOk; rw [hg]; exact .inl ⟨hj, h⟩, hn⟩
end
end Go.Proofs.Ytcedofkenfddkaa
/- From the data of a statement's arguments to the readings of the walk. No condition. -/
namespace Go.Proofs.Ytcedofkenfddkaa
set_option linter.unusedVariables false
set_option linter.unusedSimpArgs false
open Go.ChangeShapes Go.WideShapes Go.ChangeAt Go.RowKit Go.Deep

set_option maxRecDepth 100000

section
variable {H : Type} {enc : TypeId × Value → H} {w : World} {base : Nat} {spare : Nat → Bool} {held : Bool}
instance : Inhabited Iv := ⟨⟨0, 0⟩⟩
theorem u64_nat {n : Int} (h : (Lit.int .u64 n).wf = true) : ∃ x : Nat, n = x ∧ x < M64 := by
  simp [Lit.wf, IntKind.min, IntKind.max, IntKind.signed, IntKind.bits] at h
  exact ⟨n.toNat, by omega, by rw [M64_val]; omega⟩
theorem trod_u64 {t : TypeId} {fuel : Nat} {cs : List Value} {x : DataW H × List MemPlace} (ht : Try.prog.underlying t = some (.int .u64)) (h : DataW.trod enc Try.prog w base spare held fuel t cs = some x) : ∃ n : Nat, cs = [.int .u64 n] ∧ n < M64 := by
  obtain ⟨n, rfl, _, hw⟩ := DataW.trod_int ht h
  obtain ⟨m, rfl, hm⟩ := u64_nat hw
  exact ⟨m, rfl, hm⟩
theorem add_block (a : Addr) (i : Nat) : (a.add i).block = a.block := by unfold Addr.add; split <;> rfl
/-- A slice, element by element. -/
theorem rdsl_open {α : Type} [Inhabited α] {t e : TypeId} {fuel sz : Nat} {cs : List Value} {x : DataW H × List MemPlace} (rd : World → Nat → Nat → α → Prop) (ht : Try.prog.underlying t = some (.slice e)) (hsz : Try.prog.cellsOf e = sz)
    (hel : ∀ (n : Nat) (a : Addr) (cs' : List Value) (y : DataW H × List MemPlace), w.cells? base a sz = some cs' → DataW.trod enc Try.prog w base spare held n e cs' = some y → a.spot = none ∧ a.block < w.heap.size ∧ ∃ x, rd w a.block a.off x)
    (h : DataW.trod enc Try.prog w base spare held fuel t cs = some x) : ∃ v l, cs = [v] ∧ RdSl sz rd 0 w.heap.size w v l := by
  rcases open_slice ht h with ⟨rfl, _⟩ | ⟨a, len, cap, m, n, D, Pl, rfl, hb, hl, hm, hmm, _, hx⟩
  · exact ⟨_, [], rfl, RdSl.nil _ _ (by decide)⟩
  have hlm : len ≤ m := by rw [hmm]; split <;> omega
  have each : ∀ i, i < len → ∃ y, (a.add (i * sz)).spot = none ∧ a.block < w.heap.size ∧ rd w a.block ((a.add (i * sz)).off) y := by
    intro i hi
    obtain ⟨cs', h1, h2⟩ := hx i (by omega)
    rw [hsz] at h1
    obtain ⟨e1, e2, y, e3⟩ := hel _ _ _ _ h1 h2
    rw [add_block] at e2 e3
    exact ⟨y, e1, e2, e3⟩
  obtain ⟨f, hf⟩ := choose_lt each
  refine ⟨_, (List.range len).map f, rfl, some a, cap, by simp, by simpa using hl, hm, fun hne => ?_⟩
  have hpos : 0 < len := by
    rcases Nat.eq_zero_or_pos len with h0 | h0
    · subst h0; simp at hne
    · exact h0
  obtain ⟨b, off, spot⟩ := a
  have hs : spot = none := by
    have := (hf 0 hpos).1
    simpa [Addr.add] using this
  subst hs
  refine ⟨b, off, rfl, Nat.zero_le _, (hf 0 hpos).2.1, fun i hi => ?_⟩
  have hi' : i < len := by simpa using hi
  have := (hf i hi').2.2
  have e : ((⟨b, off, none⟩ : Addr).add (i * sz)).off = off + i * sz := by unfold Addr.add; split <;> simp_all
  rw [e] at this
  simpa using this
/-- A struct of two fields of one cell each. -/
theorem pair_open {P : Program} {e : TypeId} {f0 f1 : Field} {n : Nat} {a : Addr} {cs : List Value} {y : DataW H × List MemPlace} (he : P.underlying e = some (.struct #[f0, f1])) (o0 : f0.offset = 0) (o1 : f1.offset = 1) (c0 : P.cellsOf f0.type = 1) (c1 : P.cellsOf f1.type = 1)
    (h1 : w.cells? base a 2 = some cs) (h2 : DataW.trod enc P w base spare held n e cs = some y) :
    ∃ v0 v1 k y0 y1, w.cell? a = some v0 ∧ w.cell? (a.add 1) = some v1 ∧ DataW.trod enc P w base spare held k f0.type [v0] = some y0 ∧ DataW.trod enc P w base spare held k f1.type [v1] = some y1 := by
  obtain ⟨_, hlen, hcell⟩ := World.cells?_some h1
  obtain ⟨xs, k, _, _, _, hxl, hf⟩ := DataW.trod_struct he h2
  match xs, hxl, cs, hlen with
  | [y0, y1], _, [v0, v1], _ =>
    have g0 := hf 0 f0 rfl
    have g1 := hf 1 f1 rfl
    simp [o0, o1, c0, c1] at g0 g1
    have e0 := hcell 0 (by omega)
    have e1 := hcell 1 (by omega)
    exact ⟨v0, v1, k, y0, y1, by simpa [Addr.add] using e0, by simpa using e1, g0, g1⟩
theorem iv_open {n : Nat} {a : Addr} {cs : List Value} {y : DataW H × List MemPlace} (h1 : w.cells? base a 2 = some cs) (h2 : DataW.trod enc Try.prog w base spare held n 30 cs = some y) : a.spot = none ∧ a.block < w.heap.size ∧ ∃ s, rdIv w a.block a.off s := by
  obtain ⟨v0, v1, k, y0, y1, e0, e1, g0, g1⟩ := pair_open Try.underlying30 rfl rfl (by kernel_rfl) (by kernel_rfl) h1 h2
  obtain ⟨lo, q0, hlo⟩ := trod_u64 Try.underlying28 g0
  obtain ⟨hi, q1, hhi⟩ := trod_u64 Try.underlying28 g1
  obtain rfl : v0 = _ := by simpa using q0
  obtain rfl : v1 = _ := by simpa using q1
  obtain ⟨b, off, spot⟩ := a
  obtain rfl : spot = none := World.cell?_spot e0
  exact ⟨rfl, World.block_lt_of_cell? _ _ e0, ⟨lo, hi⟩, e0, by simpa [Addr.add] using e1, hlo, hhi⟩
/-- An argument of type Ranges. -/
theorem ranges_open {fuel : Nat} {cs : List Value} {x : DataW H × List MemPlace} (h : DataW.trod enc Try.prog w base spare held fuel 23 cs = some x) : ∃ v l, cs = [v] ∧ RdR 0 w.heap.size w v l :=
  rdsl_open rdIv Try.underlying23 (by kernel_rfl) (fun _ _ _ _ h1 h2 => iv_open h1 h2) h
theorem open_ranges {r : Reach} {b0 : Nat} {v : Value} {d : DataW H} {ps : List MemPlace} (hval : Value.okWide Try.prog w r b0 23 v) (h : DataW.Trod enc Try.prog w base spare held 23 v d ps) : ∃ l, RdR 0 w.heap.size w v l := by
  obtain ⟨a, len, cap, rfl⟩ := okWide_slice Try.underlying23 hval
  obtain ⟨fuel, hf⟩ := h
  obtain ⟨v, l, hv, hl⟩ := ranges_open hf
  simp [Value.cells] at hv
  exact ⟨l, by rw [hv]; exact hl⟩
end
end Go.Proofs.Ytcedofkenfddkaa
/- The contracts of word.Next, word.Prev, word.Between, span.Relate and setops.next: what each returns. No condition but that the numbers are of 64 bits. -/
namespace Go.Proofs.Ytcedofkenfddkaa
set_option linter.unusedVariables false
set_option linter.unusedSimpArgs false
open Go.RowKit

theorem wrap_top : IntKind.u64.wrap (((M64 - 1 : Nat) : Int) + 1) = 0 := by decide
theorem wrap_sub {x y : Nat} (h : y ≤ x) (hx : x < M64) : IntKind.u64.wrap ((x : Int) - y) = ((x - y : Nat) : Int) := by
  rw [show ((x : Int) - y) = ((x - y : Nat) : Int) from by omega]; exact wrap_lt (by omega)
theorem wrap_sub1 {x : Nat} (h : 1 ≤ x) (hx : x < M64) : IntKind.u64.wrap ((x : Int) - 1) = ((x - 1 : Nat) : Int) := wrap_sub (y := 1) h hx
theorem wrap_add1 {x : Nat} (hx : x + 1 < M64) : IntKind.u64.wrap ((x : Int) + 1) = (x : Int) + 1 := by
  have := wrap_lt (x := x + 1) hx; push_cast at this; exact this

theorem wordNext_yes (x : Nat) (w : World) (h : x + 1 < M64) : Calls Try.prog 72 #[.int .u64 x] w fun e w' => e = .returned (.tuple #[.int .u64 ((x : Int) + 1), .bool true]) ∧ w = w' := by
  have h1 := wrap_add1 h
  have h2 : ((x : Int) + 1 != 0) = true := by simp; omega
  go_enter Try.func72, Try.ntmps72
  go_wp2
  go_ret2
  exact ⟨rfl, rfl⟩
theorem wordNext_no (w : World) : Calls Try.prog 72 #[.int .u64 ((M64 - 1 : Nat) : Int)] w fun e w' => e = .returned (.tuple #[.int .u64 0, .bool false]) ∧ w = w' := by
  have h1 := wrap_top
  generalize ((M64 - 1 : Nat) : Int) = m at *
  go_enter Try.func72, Try.ntmps72
  go_wp2
  go_ret2
  exact ⟨rfl, rfl⟩


theorem between_no (a b : Nat) (w : World) (h : b ≤ a) : Calls Try.prog 114 #[.int .u64 a, .int .u64 b] w fun e w' => e = .returned (.tuple #[.int .u64 0, .bool false]) ∧ w = w' := by
  go_enter Try.func114, Try.ntmps114
  go_wp2
  go_ret2
  exact ⟨rfl, rfl⟩
theorem between_yes (a b : Nat) (w : World) (h : a < b) (hb : b < M64) : Calls Try.prog 114 #[.int .u64 a, .int .u64 b] w fun e w' => e = .returned (.tuple #[.int .u64 ((b - a - 1 : Nat) : Int), .bool true]) ∧ w = w' := by
  have h1 := wrap_sub (x := b) (y := a) (by omega) hb
  have h2 := wrap_sub1 (x := b - a) (by omega) (by omega)
  generalize b - a = d at *
  have H2 := Lib.hid h2
  clear h2
  go_enter Try.func114, Try.ntmps114
  go_wp2
  rw [H2.out]
  go_ret2
  exact ⟨rfl, rfl⟩

/-- How two intervals are related. -/
def relate (s t : Iv) : Nat := if s.hi < t.lo then (if s.hi + 1 = t.lo then 1 else 0) else if t.hi < s.lo then (if t.hi + 1 = s.lo then 3 else 4) else 2

theorem relate_any (s t : Iv) (w : World) (hs : s.lo ≤ s.hi) (ht : t.lo ≤ t.hi) (h1 : s.hi < M64) (h2 : t.hi < M64) :
    Calls Try.prog 94 #[.agg #[.int .u64 s.lo, .int .u64 s.hi], .agg #[.int .u64 t.lo, .int .u64 t.hi]] w fun e w' => e = .returned (.int .i64 (relate s t)) ∧ Below w.heap.size w w' := by
  have H : ∀ n : Nat, relate s t = n → Hid (relate s t = n) := fun _ h => h
  by_cases c1 : s.hi < t.lo
  · by_cases c3 : s.hi + 1 = t.lo
    · have c3' := Lib.hid c3
      clear c3
      have R := H 1 (by unfold relate; rw [if_pos c1, if_pos c3'.out])
      have C4 := Lib.hid (show t.lo - s.hi - 1 = 0 by have := c3'.out; omega)
      clear H
      go_enter Try.func94, Try.ntmps94
      go_wp2_with (first | (go_at_call 114; with_reducible refine (between_yes s.hi t.lo _ (by omega) (by omega)).mono ?_; rw [C4.out]; rintro e w' ⟨rfl, rfl⟩) | (go_at_call 114; with_reducible refine (between_no t.hi s.lo _ (by omega)).mono ?_; rintro e w' ⟨rfl, rfl⟩))
      go_ret
      rw [R.out]
      exact ⟨rfl, ((Below.refl _ _).alloc (Nat.le_refl _) _).alloc (by simp) _⟩
    · have R := H 0 (by unfold relate; rw [if_pos c1, if_neg c3])
      obtain ⟨g, hg0⟩ : ∃ g, t.lo - s.hi - 1 = g := ⟨_, rfl⟩
      have hg : 0 < g := by omega
      have C4 := Lib.hid hg0
      clear hg0
      clear H
      go_enter Try.func94, Try.ntmps94
      go_wp2_with (first | (go_at_call 114; with_reducible refine (between_yes s.hi t.lo _ (by omega) (by omega)).mono ?_; rw [C4.out]; rintro e w' ⟨rfl, rfl⟩) | (go_at_call 114; with_reducible refine (between_no t.hi s.lo _ (by omega)).mono ?_; rintro e w' ⟨rfl, rfl⟩))
      go_ret
      rw [R.out]
      exact ⟨rfl, ((Below.refl _ _).alloc (Nat.le_refl _) _).alloc (by simp) _⟩
  · by_cases c2 : t.hi < s.lo
    · by_cases c3 : t.hi + 1 = s.lo
      · have c3' := Lib.hid c3
        clear c3
        have R := H 3 (by unfold relate; rw [if_neg c1, if_pos c2, if_pos c3'.out])
        have C4 := Lib.hid (show s.lo - t.hi - 1 = 0 by have := c3'.out; omega)
        clear H
        go_enter Try.func94, Try.ntmps94
        go_wp2_with (first | (go_at_call 114; with_reducible refine (between_no s.hi t.lo _ (by omega)).mono ?_; rintro e w' ⟨rfl, rfl⟩) | (go_at_call 114; with_reducible refine (between_yes t.hi s.lo _ (by omega) (by omega)).mono ?_; rw [C4.out]; rintro e w' ⟨rfl, rfl⟩))
        go_ret
        rw [R.out]
        exact ⟨rfl, ((Below.refl _ _).alloc (Nat.le_refl _) _).alloc (by simp) _⟩
      · have R := H 4 (by unfold relate; rw [if_neg c1, if_pos c2, if_neg c3])
        obtain ⟨g, hg0⟩ : ∃ g, s.lo - t.hi - 1 = g := ⟨_, rfl⟩
        have hg : 0 < g := by omega
        have C4 := Lib.hid hg0
        clear hg0
        clear H
        go_enter Try.func94, Try.ntmps94
        go_wp2_with (first | (go_at_call 114; with_reducible refine (between_no s.hi t.lo _ (by omega)).mono ?_; rintro e w' ⟨rfl, rfl⟩) | (go_at_call 114; with_reducible refine (between_yes t.hi s.lo _ (by omega) (by omega)).mono ?_; rw [C4.out]; rintro e w' ⟨rfl, rfl⟩))
        go_ret
        rw [R.out]
        exact ⟨rfl, ((Below.refl _ _).alloc (Nat.le_refl _) _).alloc (by simp) _⟩
    · have R := H 2 (by unfold relate; rw [if_neg c1, if_neg c2])
      clear H
      go_enter Try.func94, Try.ntmps94
      go_wp2_with (first | (go_at_call 114; with_reducible refine (between_no s.hi t.lo _ (by omega)).mono ?_; rintro e w' ⟨rfl, rfl⟩) | (go_at_call 114; with_reducible refine (between_no t.hi s.lo _ (by omega)).mono ?_; rintro e w' ⟨rfl, rfl⟩))
      go_ret
      rw [R.out]
      exact ⟨rfl, ((Below.refl _ _).alloc (Nat.le_refl _) _).alloc (by simp) _⟩
end Go.Proofs.Ytcedofkenfddkaa
/- The contracts of setops.next, of the closures of Union, Meet and Minus, and of pieces: the pieces of two correct lists, handed over in order. -/
namespace Go.Proofs.Ytcedofkenfddkaa
set_option linter.unusedVariables false
set_option linter.unusedSimpArgs false
open Go.RowKit
attribute [local go_sem] Oper.semAt_some

/-- What next returns. -/
def nxtV : Option Nat → Value
  | some y => .tuple #[.int .u64 (y : Int), .bool true]
  | none => .tuple #[.int .u64 0, .bool false]

theorem nxt_step {l : List Iv} {k x : Nat} (h : k < l.length) : nxt (l.drop k) x = if x < l[k].lo then some l[k].lo else if l[k].hi + 1 < M64 ∧ x < l[k].hi + 1 then some (l[k].hi + 1) else nxt (l.drop (k + 1)) x := by
  rw [List.drop_eq_getElem_cons h]; rfl

set_option maxHeartbeats 1000000 in
theorem next_any (l : List Iv) (v : Value) (x : Nat) (w : World) (hl : RdR 0 w.heap.size w v l) :
    Calls Try.prog 113 #[v, .int .u64 x] w fun e w' => e = .returned (nxtV (nxt l x)) ∧ Below w.heap.size w w' := by
  obtain ⟨a, cap, rfl, hlc, hcm, hc⟩ := hl
  unfold maxLen at hcm
  go_enter Try.func113, Try.ntmps113
  go_wp2_with fail
  go_loopw [12] (fun i wr => ∃ k : Nat, k ≤ l.length ∧ i = .int .i64 k ∧ Hid (nxt l x = nxt (l.drop k) x) ∧ Below w.heap.size w wr) (fun i _ => l.length - (intOf i).toNat)
  case atStart => exact ⟨0, Nat.zero_le _, rfl, rfl, Below.refl _ _⟩
  case round =>
    obtain ⟨k, hk, rfl, hn, hB⟩ := hrel
    by_cases hlt : k < l.length
    · obtain ⟨b, off, rfl, _, hb, hcell⟩ := hc (by intro e; subst e; simp at hlt)
      obtain ⟨g1, g2, g3, g4⟩ := hcell k hlt
      have hs := nxt_step (x := x) hlt
      obtain ⟨lo, hlo⟩ : ∃ lo, lo = l[k].lo := ⟨_, rfl⟩
      obtain ⟨hi, hhi⟩ : ∃ hi, hi = l[k].hi := ⟨_, rfl⟩
      rw [← hlo] at g1 g3 hs
      rw [← hhi] at g2 g4 hs
      clear hlo hhi hcell hc
      have c1 : wr.cell? ⟨b, off + k * 2, none⟩ = some (.int .u64 lo) := (hB.cell (p := ⟨b, _, none⟩) hb).trans g1
      have c2 : wr.cell? ⟨b, off + k * 2 + 1, none⟩ = some (.int .u64 hi) := (hB.cell (p := ⟨b, _, none⟩) hb).trans g2
      clear g1 g2
      have hsz := hB.size
      by_cases t1 : x < lo
      · have HV : Hid (nxt l x = some lo) := by rw [hn.out, hs, if_pos t1]; rfl
        clear hs hn
        go_wp2
        go_ret2
        rw [HV.out]
        exact ⟨rfl, hB.alloc hsz _⟩
      · by_cases t2 : hi + 1 < M64
        · by_cases t3 : x < hi + 1
          · have HV : Hid (nxt l x = some (hi + 1)) := by rw [hn.out, hs, if_neg t1, if_pos ⟨t2, t3⟩]; rfl
            clear hs hn
            go_wp2_with (go_at_call 72; with_reducible refine (wordNext_yes _ _ t2).mono ?_; rintro e w' ⟨rfl, rfl⟩)
            go_ret2
            rw [HV.out]
            exact ⟨by simp [nxtV], hB.alloc hsz _⟩
          · have HV : Hid (nxt l x = nxt (l.drop (k + 1)) x) := by rw [hn.out, hs, if_neg t1, if_neg (by omega)]; rfl
            clear hs hn
            go_wp2_with (go_at_call 72; with_reducible refine (wordNext_yes _ _ t2).mono ?_; rintro e w' ⟨rfl, rfl⟩)
            go_roundw
            case rel => exact ⟨k + 1, by omega, by go_num, HV, hB.alloc hsz _⟩
            case measure => simp [intOf]; omega
        · have HV : Hid (nxt l x = nxt (l.drop (k + 1)) x) := by rw [hn.out, hs, if_neg t1, if_neg (by omega)]; rfl
          clear hs hn
          obtain rfl : hi = M64 - 1 := by omega
          go_wp2_with (go_at_call 72; with_reducible refine (wordNext_no _).mono ?_; rintro e w' ⟨rfl, rfl⟩)
          go_roundw
          case rel => exact ⟨k + 1, by omega, by go_num, HV, hB.alloc hsz _⟩
          case measure => simp [intOf]; omega
    · have hkl : k = l.length := by omega
      have HV : Hid (nxt l x = none) := by rw [hn.out, hkl, List.drop_length]; rfl
      clear hn
      go_wp2
      go_ret2
      rw [HV.out]
      exact ⟨rfl, hB⟩

/-- The same, the two results as a number and a truth of their own. -/
theorem next_two (l : List Iv) (v : Value) (x : Nat) (w : World) (hl : RdR 0 w.heap.size w v l) :
    Calls Try.prog 113 #[v, .int .u64 x] w fun e w' => ∃ (n : Nat) (m : Bool), e = .returned (.tuple #[.int .u64 n, .bool m]) ∧ Hid (nxt l x = if m = true then some n else none) ∧ Below w.heap.size w w' :=
  (next_any l v x w hl).mono fun e w' ⟨he, hb⟩ => by
    cases h : nxt l x with
    | none => exact ⟨0, false, by rw [he, h]; rfl, rfl, hb⟩
    | some y => exact ⟨y, true, by rw [he, h]; rfl, rfl, hb⟩

/-- The closure that Union hands to merge. -/
theorem take_union (p q : Bool) (w : World) : Calls Try.prog 66 #[.agg #[.bool p, .bool q]] w fun e w' => e = .returned (.bool (p || q)) ∧ Below w.heap.size w w' := by
  cases p <;> cases q <;>
    (go_enter Try.func66, Try.ntmps66
     go_wp2
     go_ret
     exact ⟨rfl, (Below.refl _ _).alloc (Nat.le_refl _) _⟩)
theorem take_meet (p q : Bool) (w : World) : Calls Try.prog 68 #[.agg #[.bool p, .bool q]] w fun e w' => e = .returned (.bool (p && q)) ∧ Below w.heap.size w w' := by
  cases p <;> cases q <;>
    (go_enter Try.func68, Try.ntmps68
     go_wp2
     go_ret
     exact ⟨rfl, (Below.refl _ _).alloc (Nat.le_refl _) _⟩)
theorem take_minus (p q : Bool) (w : World) : Calls Try.prog 69 #[.agg #[.bool p, .bool q]] w fun e w' => e = .returned (.bool (p && !q)) ∧ Below w.heap.size w w' := by
  cases p <;> cases q <;>
    (go_enter Try.func69, Try.ntmps69
     go_wp2
     go_ret
     exact ⟨rfl, (Below.refl _ _).alloc (Nat.le_refl _) _⟩)

/-- pieces boxes its two lists; the function value captures the boxes. -/
theorem pieces_calls (a1 a2 : Option Addr) (n1 n2 c1 c2 : Nat) (w : World) : Calls Try.prog 93 #[.slice a1 n1 c1, .slice a2 n2 c2] w fun e w' =>
    e = .returned (.func (.func 112) #[] #[.pointer (some ⟨w.heap.size, 0, none⟩), .pointer (some ⟨w.heap.size + 1, 0, none⟩)]) ∧
      w' = (w.alloc (.cells #[.slice a1 n1 c1] 23)).alloc (.cells #[.slice a2 n2 c2] 23) := by
  go_enter Try.func93, Try.ntmps93
  go_wp2
  go_ret
  exact ⟨rfl, rfl⟩
end Go.Proofs.Ytcedofkenfddkaa
