/- Each instruction that only reads has one value, whoever asks. No condition. -/
import Derived.Test.YtcedofkenfddkaaDoorPk
namespace Go.Proofs.YtcedofkenfddkaaDoor
set_option linter.unusedVariables false
set_option linter.unusedSimpArgs false
open Go.RowKit
variable {P : Program} {s : PS}
/-- What is asked of a value is asked of one value. -/
def Det {α : Type} (H : (α → Prop) → Prop) : Prop := ∀ K, H K → ∃ x, K x ∧ H fun y => y = x
theorem Det.pure {α : Type} (x : α) : Det fun K : α → Prop => K x := fun K h => ⟨x, h, rfl⟩
theorem Det.false {α : Type} : Det fun _ : α → Prop => False := fun _ h => h.elim
theorem Det.and {α : Type} {H : (α → Prop) → Prop} (p : Prop) (h : Det H) : Det fun K => p ∧ H K := fun K hk => by
  obtain ⟨x, h1, h2⟩ := h K hk.2
  exact ⟨x, h1, hk.1, h2⟩
theorem qCells_det {α : Type} {p : PV} {H : List PV → (α → Prop) → Prop} (h : ∀ cs, Det (H cs)) : Det fun K => qCells p fun cs => H cs K := by
  intro K hk
  unfold qCells at hk ⊢
  split at hk <;> first | exact h _ K hk | exact Det.and _ (h _) K hk | exact hk.elim
theorem qBool_det {α : Type} {p : PV} {H : Bool → (α → Prop) → Prop} (h : ∀ b, Det (H b)) : Det fun K => qBool p fun b => H b K := by
  intro K hk
  unfold qBool at hk ⊢
  split at hk
  · exact h _ K hk
  · exact hk.elim
theorem qInt_det {α : Type} {p : PV} {H : IntKind → Int → (α → Prop) → Prop} (h : ∀ k n, Det (H k n)) : Det fun K => qInt p fun k n => H k n K := by
  intro K hk
  unfold qInt at hk ⊢
  split at hk
  · exact h _ _ K hk
  · exact hk.elim
theorem qSl_det {α : Type} {p : PV} {H : List (List PV) → (α → Prop) → Prop} (h : ∀ es, Det (H es)) : Det fun K => qSl p fun es => H es K := by
  intro K hk
  unfold qSl at hk ⊢
  split at hk
  · exact h _ K hk
  · exact hk.elim
theorem qar_det (k : IntKind) (n : Int) : Det (qar k n) := by
  intro K hk
  unfold qar at hk ⊢
  split at hk
  · exact ⟨_, hk.2, hk.1, rfl⟩
  · exact ⟨_, hk, rfl⟩
theorem qint_det (op : BinOp) (k : IntKind) (a b : Int) : Det (qint op k a b) := by
  intro K hk
  unfold qint at hk ⊢
  split at hk <;> first | exact qar_det _ _ K hk | exact Det.and _ (qar_det _ _) K hk | exact Det.and _ (Det.pure _) K hk | exact ⟨_, hk, rfl⟩ | exact hk.elim
theorem qbin_det (op : BinOp) (p q : PV) : Det (qbin op p q) := by
  intro K hk
  unfold qbin at hk ⊢
  split at hk
  · exact Det.and _ (qint_det _ _ _ _) K hk
  · exact hk.elim
theorem qeq2_det (n : Bool) (p q : PV) : Det (qeq2 n p q) := by
  intro K hk
  unfold qeq2 at hk ⊢
  split at hk
  · exact ⟨_, hk.2.2, hk.1, hk.2.1, rfl⟩
  · exact hk.elim
theorem qAt_det (cs : List PV) (o : Nat) (ag : Bool) (n : Nat) : Det (qAt cs o ag n) := by
  intro K hk
  unfold qAt at hk ⊢
  split at hk
  · exact ⟨_, hk.2, hk.1, rfl⟩
  · split at hk
    · exact ⟨_, hk, rfl⟩
    · exact hk.elim
theorem qAt_det' {α : Type} (cs : List PV) (o : Nat) (ag : Bool) (n : Nat) (f : PV → α) : Det fun K : α → Prop => qAt cs o ag n fun p => K (f p) := by
  intro K hk
  obtain ⟨x, h1, h2⟩ := qAt_det cs o ag n _ hk
  refine ⟨f x, h1, ?_⟩
  unfold qAt at h2 ⊢
  split at h2
  · exact ⟨h2.1, by rw [h2.2]⟩
  · split at h2
    · rw [h2]
    · exact h2.elim
theorem qParts_det {α : Type} (f : List PV → α) : ∀ (ps : List (Nat × Nat × PO)) (zs : List PV), Det fun K : α → Prop => qParts s ps zs fun cs => K (f cs)
  | [], zs => Det.pure _
  | (off, n, x) :: r, zs => qCells_det fun cs => Det.and _ (Det.and _ (Det.and _ (qParts_det f r _)))
theorem qElems_det {α : Type} (sz : Nat) : ∀ (ps : List PO) (f : List (List PV) → α), Det fun K : α → Prop => qElems s sz ps fun es => K (f es)
  | [], f => Det.pure _
  | x :: r, f => qCells_det fun cs => Det.and _ (Det.and _ (qElems_det sz r fun es => f (cs.map PV.sh :: es)))
theorem qBd_det {α : Type} (y : Option PO) (n : Nat) {H : Nat → (α → Prop) → Prop} (h : ∀ n, Det (H n)) : Det fun K => qBd s y n fun m => H m K := by
  cases y with
  | none => exact h n
  | some y => exact qInt_det fun _ _ => Det.and _ (h _)
theorem q_det (k : PK) : Det (k.q P s) := by
  cases k with
  | mv x => cases x <;> exact Det.pure _
  | bin op x y => exact qbin_det _ _ _
  | beq n x y => exact qBool_det fun a => qBool_det fun b => Det.pure _
  | eq2 n x y => exact qeq2_det _ _ _
  | nil n x =>
    intro K hk
    simp only [PK.q] at hk ⊢
    split at hk <;> first | exact ⟨_, hk, rfl⟩ | exact hk.elim
  | not x => exact qBool_det fun a => Det.pure _
  | cv k x => exact qInt_det fun a b => Det.pure _
  | fa x off =>
    intro K hk
    simp only [PK.q] at hk ⊢
    split at hk <;> first | exact ⟨_, hk, rfl⟩ | exact hk.elim
  | ia x y sz =>
    refine qSl_det fun es => qInt_det fun _ n => Det.and _ fun K hk => ?_
    split at hk
    · exact ⟨_, hk.2, hk.1, rfl⟩
    · exact hk.elim
  | aa x y n sz =>
    refine qInt_det fun _ m => Det.and _ fun K hk => ?_
    split at hk <;> first | exact ⟨_, hk, rfl⟩ | exact hk.elim
  | ix x y n ag sz =>
    refine qInt_det fun _ m => Det.and _ fun K hk => ?_
    split at hk
    · exact qAt_det' _ _ _ _ _ K hk
    · exact hk.elim
  | fl x off ag n =>
    intro K hk
    simp only [PK.q] at hk ⊢
    split at hk
    · exact qAt_det' _ _ _ _ _ K hk
    · exact hk.elim
  | ld x ag n =>
    intro K hk
    simp only [PK.q] at hk ⊢
    split at hk
    · exact qAt_det' _ _ _ _ _ K hk
    · split at hk
      · exact Det.and _ (qAt_det' _ _ _ _ _) K hk
      · exact hk.elim
    · exact hk.elim
  | nc x =>
    intro K hk
    simp only [PK.q] at hk ⊢
    split at hk <;> first | exact ⟨_, hk, rfl⟩ | exact hk.elim
  | bd zs ps => exact qParts_det _ _ _
  | bs sz ps => exact qElems_det _ _ _
  | ln x => exact qSl_det fun _ => Det.pure _
  | ex x i =>
    intro K hk
    simp only [PK.q] at hk ⊢
    split at hk
    · split at hk
      · exact ⟨_, hk, rfl⟩
      · exact hk.elim
    · exact hk.elim
  | mf f fs cs => exact Det.and _ (Det.pure _)
  | mi t x =>
    intro K hk
    simp only [PK.q] at hk ⊢
    split at hk
    · exact ⟨_, hk, rfl⟩
    · exact hk.elim
  | pk c x y =>
    refine qBool_det fun b => ?_
    intro K hk
    cases b with
    | true => exact ⟨_, hk.1 rfl, fun _ => rfl, nofun⟩
    | false => exact ⟨_, hk.2 rfl, nofun, fun _ => rfl⟩
  | sc x lo hi sz => exact qSl_det fun es => qBd_det _ _ fun h => qBd_det _ _ fun l => Det.and _ (Det.and _ (Det.and _ (Det.pure _)))
  | ap x y sz b =>
    intro K hk
    simp only [PK.q] at hk ⊢
    split at hk
    · exact qSl_det (fun es' => Det.and _ (Det.and _ (Det.and _ (Det.pure _)))) K hk
    · exact hk.elim
  | mm m x y => exact qInt_det fun _ _ => qInt_det fun _ _ => Det.and _ (Det.pure _)
  | ca f xs =>
    intro K hk
    obtain ⟨r, h1, h2, h3⟩ := hk
    exact ⟨_, h3, r, h1, h2, rfl⟩
  | cl y xs =>
    intro K hk
    simp only [PK.q] at hk ⊢
    split at hk
    · obtain ⟨r, h1, h2, h3⟩ := hk
      exact ⟨_, h3, r, h1, h2, rfl⟩
    · exact hk.elim
  | al zs => exact Det.false
  | bo x => exact Det.false
  | st x y n => exact Det.false
end Go.Proofs.YtcedofkenfddkaaDoor
