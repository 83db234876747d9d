/- Texts of this claim, bound together: Opv Q13 Dq Opk Pt Rm T22 T23 T25 Wc Wd We T30. -/
import Derived.Test.YtjmhmeadcphfmaaGreatDoorB17
/- From the data of an argument of a type of slices of structs to its pure value: vectors. No condition. -/
namespace Go.Proofs.YtjmhmeadcphfmaaGreatDoor
set_option linter.unusedVariables false
set_option linter.unusedSimpArgs false
open Go.ChangeShapes Go.WideShapes Go.ChangeAt Go.RowKit Go.Deep
set_option maxRecDepth 100000
section
variable {H : Type} {enc : TypeId × Value → H} {w : World} {base : Nat} {spare : Nat → Bool} {held : Bool}
/-- The cells from a place on read as these pure values. -/
def CellsY (w : World) (b o : Nat) (ps : List PV) : Prop := ∀ (j : Nat) (p : PV), ps[j]? = some p → ∃ u, w.cell? ⟨b, o + j, none⟩ = some u ∧ u.oneCell' = true ∧ Dat (Lies w) w u p
def rdC {α : Type} (cv : α → List PV) (bd : α → Prop) (w : World) (b o : Nat) (x : α) : Prop := CellsY w b o (cv x) ∧ bd x
theorem rdsl_dat {α : Type} {cv : α → List PV} {bd : α → Prop} {sz : Nat} {v : Value} {l : List α} (hsz : ∀ x, (cv x).length = sz) (h : RdSl sz (rdC cv bd) 0 w.heap.size w v l) : Dat (Lies w) w v (.sl (l.map cv) .sh) ∧ (∀ x ∈ l, bd x) ∧ l.length ≤ 9223372036854775807 := by
  obtain ⟨a, cap, rfl, h1, h2, h3⟩ := h
  have hlm : l.length ≤ 9223372036854775807 := by unfold maxLen at h2; omega
  suffices hs : Dat (Lies w) w (.slice a (l.map cv).length cap) (.sl (l.map cv) .sh) ∧ ∀ x ∈ l, bd x from ⟨by rw [List.length_map] at hs; exact hs.1, hs.2, hlm⟩
  by_cases hne : l = []
  · subst hne
    exact ⟨.sl a cap sz [] .sh 0 0 (fun _ => undef) (by simp) (fun h => by cases h) h2 (fun h => absurd rfl h) (fun i e h => by simp at h) (fun j h => by simp at h) (fun i e j p h => by simp at h), fun _ h => by cases h⟩
  obtain ⟨b, off, rfl, hb1, hb2, hc⟩ := h3 hne
  have key : ∀ j, j < l.length * sz → ∃ u, w.cell? ⟨b, off + j, none⟩ = some u ∧ u.oneCell' = true ∧ ∀ (i k : Nat) (hi : i < l.length) (p : PV), j = i * sz + k → (cv l[i])[k]? = some p → Dat (Lies w) w u p := fun j hj => by
    have hp : 0 < sz := by
      rcases Nat.eq_zero_or_pos sz with h0 | h0
      · subst h0; simp at hj
      · exact h0
    have hi : j / sz < l.length := Nat.div_lt_of_lt_mul (by rw [Nat.mul_comm]; exact hj)
    have hk : j % sz < (cv l[j / sz]).length := by rw [hsz]; exact Nat.mod_lt _ hp
    obtain ⟨u, u1, u2, u3⟩ := (hc _ hi).1 (j % sz) _ (List.getElem?_eq_getElem hk)
    have e : off + j / sz * sz + j % sz = off + j := by have := Nat.div_add_mod j sz; rw [Nat.mul_comm] at this; omega
    rw [e] at u1
    refine ⟨u, u1, u2, fun i k hi2 p hjk hp2 => ?_⟩
    have hk2 : k < sz := by have := (List.getElem?_eq_some_iff.1 hp2).1; rwa [hsz] at this
    have q1 : j / sz = i := by rw [hjk]; rw [Nat.mul_comm, Nat.mul_add_div hp, Nat.div_eq_of_lt hk2]; omega
    have q2 : j % sz = k := by rw [hjk]; rw [Nat.mul_comm, Nat.mul_add_mod, Nat.mod_eq_of_lt hk2]
    subst q1
    subst q2
    rw [List.getElem?_eq_getElem hk] at hp2
    cases hp2
    exact u3
  obtain ⟨f, hf⟩ : ∃ f : Nat → Value, ∀ j, j < l.length * sz → w.cell? ⟨b, off + j, none⟩ = some (f j) ∧ (f j).oneCell' = true ∧ ∀ (i k : Nat) (hi : i < l.length) (p : PV), j = i * sz + k → (cv l[i])[k]? = some p → Dat (Lies w) w (f j) p := by
    refine ⟨fun j => if h : j < l.length * sz then (key j h).choose else undef, fun j hj => ?_⟩
    simp only [dif_pos hj]
    exact (key j hj).choose_spec
  refine ⟨.sl _ cap sz _ .sh b off f (by simpa using h1) (fun h => by cases h) h2 (fun _ => rfl) (fun i e h => ?_) (fun j hj => ?_) (fun i e j p he hp => ?_), fun x hx => ?_⟩
  · simp only [List.getElem?_map, Option.map_eq_some_iff] at h
    obtain ⟨s, _, rfl⟩ := h
    exact hsz s
  · obtain ⟨f1, f2, _⟩ := hf j (by simpa using hj)
    exact ⟨hb2, f1, f2⟩
  · have hi : i < l.length := by have := (List.getElem?_eq_some_iff.1 he).1; simpa using this
    rw [map_at hi] at he
    cases he
    have hj : j < sz := by have := (List.getElem?_eq_some_iff.1 hp).1; rwa [hsz] at this
    have : i * sz + j < l.length * sz := by
      have := Nat.mul_le_mul_right sz (show i + 1 ≤ l.length from hi)
      rw [Nat.add_mul] at this; omega
    exact (hf _ this).2.2 i j hi p rfl hp
  · obtain ⟨i, hi, rfl⟩ := List.getElem_of_mem hx
    exact (hc i hi).2
/-- A struct of three fields of one cell each. -/
theorem triple_open {P : Program} {e : TypeId} {f0 f1 f2 : Field} {n : Nat} {a : Addr} {cs : List Value} {y : DataW H × List MemPlace} (he : P.underlying e = some (.struct #[f0, f1, f2])) (o0 : f0.offset = 0) (o1 : f1.offset = 1) (o2 : f2.offset = 2) (c0 : P.cellsOf f0.type = 1) (c1 : P.cellsOf f1.type = 1) (c2 : P.cellsOf f2.type = 1)
    (h1 : w.cells? base a 3 = some cs) (h2 : DataW.trod enc P w base spare held n e cs = some y) :
    ∃ v0 v1 v2 k y0 y1 y2, w.cell? a = some v0 ∧ w.cell? (a.add 1) = some v1 ∧ w.cell? (a.add 2) = some v2 ∧ DataW.trod enc P w base spare held k f0.type [v0] = some y0 ∧ DataW.trod enc P w base spare held k f1.type [v1] = some y1 ∧ DataW.trod enc P w base spare held k f2.type [v2] = some y2 := by
  obtain ⟨_, hlen, hcell⟩ := World.cells?_some h1
  obtain ⟨xs, k, _, _, _, hxl, hf⟩ := DataW.trod_struct he h2
  match xs, hxl, cs, hlen with
  | [y0, y1, y2], _, [v0, v1, v2], _ =>
    have g0 := hf 0 f0 rfl
    have g1 := hf 1 f1 rfl
    have g2 := hf 2 f2 rfl
    simp [o0, o1, o2, c0, c1, c2] at g0 g1 g2
    have e0 := hcell 0 (by omega)
    have e1 := hcell 1 (by omega)
    have e2 := hcell 2 (by omega)
    exact ⟨v0, v1, v2, k, y0, y1, y2, by simpa [Addr.add] using e0, by simpa using e1, by simpa using e2, g0, g1, g2⟩
instance : Inhabited En := ⟨⟨0, 0, []⟩⟩
theorem en_open {n : Nat} {a : Addr} {cs : List Value} {y : DataW H × List MemPlace} (h1 : w.cells? base a 3 = some cs) (h2 : DataW.trod enc Tryz.prog w base spare held n 61 cs = some y) : a.spot = none ∧ a.block < w.heap.size ∧ ∃ e, rdC ec BdE w a.block a.off e := by
  obtain ⟨v0, v1, v2, k, y0, y1, y2, e0, e1, e2, g0, g1, g2⟩ := triple_open Tryz.underlying61 rfl rfl rfl (by kernel_rfl) (by kernel_rfl) (by kernel_rfl) h1 h2
  obtain ⟨m0, q0, hm0⟩ := trod_u64 Tryz.underlying24 g0
  obtain ⟨m1, q1, hm1⟩ := trod_u64 Tryz.underlying24 g1
  obtain ⟨v2', l, q2, hl⟩ := ranges_open g2
  obtain rfl : v0 = _ := by simpa using q0
  obtain rfl : v1 = _ := by simpa using q1
  obtain rfl : v2 = v2' := by simpa using q2
  obtain ⟨b, off, spot⟩ := a
  obtain rfl : spot = none := World.cell?_spot e0
  refine ⟨rfl, World.block_lt_of_cell? _ _ e0, ⟨m0, m1, l⟩, fun j p hp => ?_, hl.bound, hm1, hm0⟩
  have hd : Dat (Lies w) w v2 (rg l) := rdr_dat hl fun _ _ _ h => h
  obtain ⟨aa, c, rfl, _⟩ := hl
  match j, hp with
  | 0, hp => cases hp; exact ⟨_, e0, rfl, .v _⟩
  | 1, hp => cases hp; exact ⟨_, by simpa [Addr.add] using e1, rfl, .v _⟩
  | 2, hp => cases hp; exact ⟨_, by simpa [Addr.add] using e2, rfl, hd⟩
theorem vec_open {fuel : Nat} {cs : List Value} {x : DataW H × List MemPlace} (h : DataW.trod enc Tryz.prog w base spare held fuel 49 cs = some x) : ∃ v l, cs = [v] ∧ RdSl 3 (rdC ec BdE) 0 w.heap.size w v l :=
  rdsl_open (rdC ec BdE) Tryz.underlying49 (by kernel_rfl) (fun _ _ _ _ h1 h2 => en_open h1 h2) h
end
end Go.Proofs.YtjmhmeadcphfmaaGreatDoor
/- Knowledge as plain data: the check, what is known, the members, the items, the vector of an item. No condition. -/
namespace Go.Proofs.YtjmhmeadcphfmaaGreatDoor
set_option linter.unusedVariables false
set_option linter.unusedSimpArgs false
open Go.RowKit
/-- A fragment of knowledge. -/
structure Fg where
  items : List Iv
  vec : List En
deriving DecidableEq
instance : Inhabited Fg := ⟨⟨[], []⟩⟩
theorem Fg.ext' {f g : Fg} (h1 : f.items = g.items) (h2 : f.vec = g.vec) : f = g := by cases f; cases g; simp_all
def fc (f : Fg) : List PV := [rg f.items, vp f.vec]
def fp (f : Fg) : PV := .agg (fc f)
def kp (k : List Fg) : PV := .sl (k.map fc) .sh
attribute [go_sem] kp fp fc
def RightF (f : Fg) : Prop := Nrm f.items ∧ RightV f.vec
def RightK (k : List Fg) : Prop := ∀ f ∈ k, RightF f
def BdF (f : Fg) : Prop := BdR f.items ∧ (∀ e ∈ f.vec, BdE e) ∧ f.items.length ≤ 9223372036854775807 ∧ f.vec.length ≤ 9223372036854775807
def BdK (k : List Fg) : Prop := (∀ f ∈ k, BdF f) ∧ k.length ≤ 9223372036854775807
/-- Few fragments, intervals, entries and holes. -/
def fewK (k : List Fg) : Bool := k.all (fun f => decide (f.items.length ≤ 20) && fewB f.vec) && decide (k.length ≤ 12)
theorem fewK_iff {k : List Fg} : fewK k = true ↔ (∀ f ∈ k, f.items.length ≤ 20 ∧ fewB f.vec = true) ∧ k.length ≤ 12 := by simp [fewK]
/-- The check: code and index. -/
def hkK : Nat → List Fg → Nat × Int
  | _, [] => (0, -1)
  | i, f :: r => if (chk f.items).1 ≠ 0 then ((chk f.items).1, (i : Int)) else if (chkV f.vec).1 ≠ 0 then ((chkV f.vec).1, (i : Int)) else hkK (i + 1) r
def ckK (k : List Fg) : Nat × Int := hkK 0 k
theorem hkK_zero : ∀ (i : Nat) (k : List Fg), (hkK i k).1 = 0 ↔ ∀ f ∈ k, (chk f.items).1 = 0 ∧ (chkV f.vec).1 = 0
  | _, [] => by simp [hkK]
  | i, f :: r => by
    have ih := hkK_zero (i + 1) r
    unfold hkK
    by_cases h1 : (chk f.items).1 ≠ 0
    · rw [if_pos h1]
      exact ⟨fun h => absurd h h1, fun h => (h f (by simp)).1⟩
    · rw [if_neg h1]
      by_cases h2 : (chkV f.vec).1 ≠ 0
      · rw [if_pos h2]
        exact ⟨fun h => absurd h h2, fun h => (h f (by simp)).2⟩
      · rw [if_neg h2, ih]
        constructor
        · intro h g hg
          rcases List.mem_cons.1 hg with rfl | hg
          · exact ⟨by omega, by omega⟩
          · exact h g hg
        · intro h g hg
          exact h g (by simp [hg])
theorem ckK_iff {k : List Fg} (hb : BdK k) : (ckK k).1 = 0 ↔ RightK k := by
  unfold ckK
  rw [hkK_zero]
  constructor
  · intro h f hf
    obtain ⟨h1, h2⟩ := h f hf
    have hbf := hb.1 f hf
    exact ⟨(chk_nrm fun s hs => (hbf.1 s hs).2).1 h1, (chkV_iff hbf.2.1).1 h2⟩
  · intro h f hf
    have hbf := hb.1 f hf
    exact ⟨(chk_nrm fun s hs => (hbf.1 s hs).2).2 (h f hf).1, (chkV_iff hbf.2.1).2 (h f hf).2⟩
/-- The fragments with an item, and their indices. -/
def withF (i : Nat) : Nat → List Fg → List (Nat × Fg)
  | _, [] => []
  | n, f :: r => if mem f.items i = true then (n, f) :: withF i (n + 1) r else withF i (n + 1) r
theorem withF_snoc (i : Nat) (f : Fg) : ∀ (n : Nat) (l : List Fg), withF i n (l ++ [f]) = withF i n l ++ (if mem f.items i = true then [(n + l.length, f)] else [])
  | n, [] => by simp [withF]
  | n, g :: l => by
    have ih := withF_snoc i f (n + 1) l
    have e : n + 1 + l.length = n + (l.length + 1) := by omega
    rw [List.cons_append, withF, withF, ih, List.length_cons, e]
    split <;> simp
theorem withF_take {k : List Fg} {j : Nat} (i : Nat) (h : j < k.length) : withF i 0 (k.take (j + 1)) = withF i 0 (k.take j) ++ (if mem k[j].items i = true then [(j, k[j])] else []) := by
  rw [List.take_succ_eq_append_getElem h, withF_snoc, List.length_take, Nat.min_eq_left (by omega), Nat.zero_add]
theorem withF_mem {i : Nat} {p : Nat × Fg} : ∀ {n : Nat} {l : List Fg}, p ∈ withF i n l → p.2 ∈ l ∧ mem p.2.items i = true ∧ n ≤ p.1 ∧ p.1 < n + l.length
  | n, [], h => by cases h
  | n, f :: l, h => by
    unfold withF at h
    split at h
    · rename_i hf
      rcases List.mem_cons.1 h with rfl | h
      · exact ⟨by simp, hf, Nat.le_refl _, by simp⟩
      · obtain ⟨h1, h2, h3, h4⟩ := withF_mem h
        exact ⟨by simp [h1], h2, by omega, by simp; omega⟩
    · obtain ⟨h1, h2, h3, h4⟩ := withF_mem h
      exact ⟨by simp [h1], h2, by omega, by simp; omega⟩
theorem withF_len (i : Nat) : ∀ (n : Nat) (l : List Fg), (withF i n l).length ≤ l.length
  | _, [] => Nat.le_refl _
  | n, f :: l => by
    have := withF_len i (n + 1) l
    unfold withF
    split <;> simp <;> omega
theorem withF_any {i : Nat} {q : Fg → Bool} : ∀ (n : Nat) (l : List Fg), (withF i n l).any (fun p => q p.2) = l.any fun f => mem f.items i && q f
  | _, [] => rfl
  | n, f :: l => by
    have ih := withF_any (i := i) (q := q) (n + 1) l
    unfold withF
    rw [List.any_cons, ← ih]
    cases h : mem f.items i <;> simp
def membK (k : List Fg) (i : Nat) : List Nat := (withF i 0 k).map Prod.fst
theorem membK_take {k : List Fg} {j : Nat} (i : Nat) (h : j < k.length) : membK (k.take (j + 1)) i = membK (k.take j) i ++ (if mem k[j].items i = true then [j] else []) := by
  unfold membK
  rw [withF_take i h, List.map_append]
  split <;> rfl
theorem membK_len (k : List Fg) (i : Nat) : (membK k i).length ≤ k.length := by
  unfold membK
  rw [List.length_map]
  exact withF_len _ _ _
theorem membK_pos {k : List Fg} {i : Nat} : decide (0 < (membK k i).length) = k.any fun f => mem f.items i := by
  have := withF_any (i := i) (q := fun _ => true) 0 k
  simp only [Bool.and_true] at this
  rw [← this]
  unfold membK
  cases h : withF i 0 k <;> simp
def hasK (k : List Fg) (i r c : Nat) : Bool := k.any fun f => mem f.items i && mem (knV f.vec r) c
theorem hasK_with (k : List Fg) (i r c : Nat) : (withF i 0 k).any (fun p => mem (knV p.2.vec r) c) = hasK k i r c := withF_any (q := fun f => mem (knV f.vec r) c) 0 k
/-- The vector of an item. -/
noncomputable def vecAt (k : List Fg) (i : Nat) : List En := (withF i 0 k).foldl (fun o p => lat fUnion o p.2.vec) []
def itemsK (k : List Fg) : List Iv := k.foldl (fun o f => opS fUnion o f.items) []
theorem itemsK_take {k : List Fg} {j : Nat} (h : j < k.length) : itemsK (k.take (j + 1)) = opS fUnion (itemsK (k.take j)) k[j].items := by
  unfold itemsK
  rw [List.take_succ_eq_append_getElem h, List.foldl_append]
  rfl
theorem RightK.take {k : List Fg} (h : RightK k) (j : Nat) : RightK (k.take j) := fun f hf => h f (List.mem_of_mem_take hf)
/-- The boundaries of knowledge. -/
def CK (k : List Fg) (r : Nat) : List Nat := k.flatMap fun f => cuts (knV f.vec r)
def RK (k : List Fg) : List Nat := k.flatMap fun f => reps f.vec
def CI (k : List Fg) : List Nat := k.flatMap fun f => cuts f.items
theorem IV.frag {k : List Fg} (h : RightK k) {f : Fg} (hf : f ∈ k) : IV (CK k) (RK k) f.vec :=
  (IV.of (h f hf).2).mono (fun r x hx => List.mem_flatMap.2 ⟨f, hf, hx⟩) fun x hx => List.mem_flatMap.2 ⟨f, hf, hx⟩
/-- The vector of an item, from knowledge whose vectors have their boundaries in C. -/
def IK (C : Nat → List Nat) (R : List Nat) (k : List Fg) : Prop := ∀ f ∈ k, IV C R f.vec
theorem RightK.ik {k : List Fg} (h : RightK k) : IK (CK k) (RK k) k := fun f hf => IV.frag h hf
theorem IK.take {C : Nat → List Nat} {R : List Nat} {k : List Fg} (h : IK C R k) (j : Nat) : IK C R (k.take j) := fun f hf => h f (List.mem_of_mem_take hf)
theorem foldU {C : Nat → List Nat} {R : List Nat} : ∀ (l : List (Nat × Fg)) (o : List En), (∀ p ∈ l, IV C R p.2.vec) → WV C R o → WV C R (l.foldl (fun o p => lat fUnion o p.2.vec) o) ∧
    ∀ r c, c < M64 → mem (knV (l.foldl (fun o p => lat fUnion o p.2.vec) o) r) c = (mem (knV o r) c || l.any fun p => mem (knV p.2.vec r) c)
  | [], o, _, ho => ⟨ho, fun r c _ => by simp⟩
  | p :: l, o, hl, ho => by
    have hp := hl p (by simp)
    obtain ⟨h1, h2⟩ := foldU l (lat fUnion o p.2.vec) (fun q hq => hl q (by simp [hq])) (ho.iv.lat fU0 hp)
    refine ⟨h1, fun r c hc => ?_⟩
    rw [List.foldl_cons, h2 r c hc, lat_kn fU0 ho.can.right hp.right, opS_mem (knV_nrm ho.can.right r) (knV_nrm hp.right r) hc, List.any_cons]
    simp only [fUnion, Bool.or_assoc]
theorem IK.at {C : Nat → List Nat} {R : List Nat} {k : List Fg} (h : IK C R k) (i : Nat) : WV C R (vecAt k i) ∧ ∀ r c, c < M64 → mem (knV (vecAt k i) r) c = hasK k i r c := by
  obtain ⟨h1, h2⟩ := foldU (withF i 0 k) [] (fun p hp => h _ (withF_mem hp).1) WV.nil
  refine ⟨h1, fun r c hc => ?_⟩
  rw [← hasK_with]
  have := h2 r c hc
  rw [knV_nil, mem_nil, Bool.false_or] at this
  exact this
theorem itemsK_spec : ∀ (l : List Fg) (o : List Iv), Nrm o → (∀ f ∈ l, Nrm f.items) → Nrm (l.foldl (fun o f => opS fUnion o f.items) o) ∧
    (∀ x, x < M64 → mem (l.foldl (fun o f => opS fUnion o f.items) o) x = (mem o x || l.any fun f => mem f.items x)) ∧ ∀ x, Ed (l.foldl (fun o f => opS fUnion o f.items) o) x → Ed o x ∨ x ∈ CI l
  | [], o, ho, _ => ⟨ho, fun x _ => by simp, fun x h => .inl h⟩
  | f :: l, o, ho, hl => by
    have hf := hl f (by simp)
    obtain ⟨h1, h2, h3⟩ := itemsK_spec l (opS fUnion o f.items) (opS_nrm ho hf) fun g hg => hl g (by simp [hg])
    refine ⟨h1, fun x hx => ?_, fun x hx => ?_⟩
    · rw [List.foldl_cons, h2 x hx, opS_mem ho hf hx, List.any_cons]
      simp only [fUnion, Bool.or_assoc]
    · rcases h3 x hx with h | h
      · rcases ed_op fU0 ho hf h with h | h
        · exact .inl h
        · exact .inr (List.mem_flatMap.2 ⟨f, by simp, ed_cuts hf.ivs2 h⟩)
      · obtain ⟨g, hg, h⟩ := List.mem_flatMap.1 h
        exact .inr (List.mem_flatMap.2 ⟨g, by simp [hg], h⟩)
theorem RightK.items {k : List Fg} (h : RightK k) : Nrm (itemsK k) ∧ (∀ x, x < M64 → mem (itemsK k) x = k.any fun f => mem f.items x) ∧ (itemsK k).length ≤ (CI k).length := by
  obtain ⟨h1, h2, h3⟩ := itemsK_spec k [] trivial fun f hf => (h f hf).1
  refine ⟨h1, fun x hx => ?_, ed_len h1 fun x hx => ?_⟩
  · have := h2 x hx
    rw [mem_nil, Bool.false_or] at this
    exact this
  · exact (h3 x hx).resolve_left ed_nil
theorem flatMap_len {α β : Type} {g : α → List β} {n : Nat} : ∀ {l : List α}, (∀ x ∈ l, (g x).length ≤ n) → (l.flatMap g).length ≤ l.length * n
  | [], _ => by simp
  | x :: l, h => by
    have := flatMap_len (l := l) fun y hy => h y (by simp [hy])
    have h1 := h x (by simp)
    rw [List.flatMap_cons, List.length_append, List.length_cons, Nat.add_mul, Nat.one_mul]
    omega
/-- Knowledge that is few has few boundaries. -/
theorem fewK_len {k : List Fg} (h : fewK k = true) (hr : RightK k) : (∀ r, (CK k r).length ≤ 1512) ∧ (RK k).length ≤ 240 ∧ (CI k).length ≤ 480 := by
  obtain ⟨h1, h2⟩ := fewK_iff.1 h
  have hk : ∀ n, k.length * n ≤ 12 * n := fun n => Nat.mul_le_mul_right n h2
  refine ⟨fun r => ?_, ?_, ?_⟩
  · refine Nat.le_trans (flatMap_len (n := 126) fun f hf => ?_) (hk 126)
    have := fewB_iff.1 (h1 f hf).2
    have l1 := cuts_len (knV f.vec r)
    have l2 := knV_len (n := 20) (h := 30) ⟨(hr f hf).2, this.2, this.1⟩ r
    omega
  · refine Nat.le_trans (flatMap_len (n := 20) fun f hf => ?_) (hk 20)
    have := fewB_iff.1 (h1 f hf).2
    simp only [reps, List.length_map]
    omega
  · refine Nat.le_trans (flatMap_len (n := 40) fun f hf => ?_) (hk 40)
    have l1 := cuts_len f.items
    have := (h1 f hf).1
    omega
/-- Sizes with which the contracts go. -/
def OkC (C : Nat → List Nat) (R : List Nat) : Prop := (∀ r, (C r).length ≤ 9000) ∧ R.length ≤ 1048576
theorem fewK_ok {k : List Fg} (h : fewK k = true) (hr : RightK k) : OkC (CK k) (RK k) := by
  obtain ⟨h1, h2, _⟩ := fewK_len h hr
  exact ⟨fun r => by have := h1 r; omega, by omega⟩
end Go.Proofs.YtjmhmeadcphfmaaGreatDoor
/- lattice.Union, Meet, Minus, Subset: their contracts. Condition: the vectors are correct, at most 2^20 entries of at most 10000 holes. -/
namespace Go.Proofs.YtjmhmeadcphfmaaGreatDoor
set_option linter.unusedVariables false
set_option linter.unusedSimpArgs false
open Go.RowKit Go.Maps
set_option maxRecDepth 100000
attribute [-go_sem] nat_succ
theorem cn_memL {f : FuncId} {ps : List PV} {r : PV} (hr : r.own = none) (hent : ∀ args w, (callFunc f args).run Tryz.prog w = .ok (.enter f args) w)
    (h : ∀ (D : Nat → Nat → Prop) (w : World) (vs : Array Value), GL D w → (∀ b o, D b o → b < w.heap.size) → vs.size = ps.length → (∀ (i : Nat) p, ps[i]? = some p → Dat D w (vs.getD i undef) p) →
      Calls Tryz.prog f vs w fun e w' => ∃ v, e = .returned v ∧ Below w.heap.size w w' ∧ Dat (fun b o => D b o ∨ (w.heap.size ≤ b ∧ b < w'.heap.size)) w' v r) : Cn Tryz.prog f ps r := by
  refine ⟨hent, fun D w vs hG hD hsz hd => (h D w vs hG hD hsz hd).mono ?_⟩
  rintro e w' ⟨v, rfl, hb, hv⟩
  exact ⟨v, _, rfl, hb, fun b o h => .inl h, fun b o h => h.imp id And.left, fun b o h => h.elim (fun h => Nat.lt_of_lt_of_le (hD b o h) hb.size) And.right, hv, ownOk_none hr⟩
theorem arr3 {vs : Array Value} (h : vs.size = 3) : vs = #[vs.getD 0 undef, vs.getD 1 undef, vs.getD 2 undef] := by
  obtain ⟨l⟩ := vs
  match l, h with
  | [x, y, z], _ => rfl
theorem dat_fn {D : Nat → Nat → Prop} {w : World} {x : Value} {f : Fn} (h : Dat D w x (.fn f [] [])) : x = .func f #[] #[] := by
  cases h with
  | fn f va vb fs cs h1 h2 _ _ =>
    rw [Array.size_eq_zero_iff.1 h1, Array.size_eq_zero_iff.1 h2]
theorem SmV.bd {v : List En} (h : SmV v) : ∀ e ∈ v, BdE e := fun e he => BdE_of (h.1.1 e he)
theorem ldo_c (a b : List En) (f : Bool → Bool → Bool) (op : FuncId) (hop : ∀ r, Cn Tryz.prog op [rg (knV a r), rg (knV b r)] (rg (opS f (knV a r) (knV b r)))) (ha : SmV a) (hb : SmV b) :
    Cn Tryz.prog 152 [vp a, vp b, .fn (.func op) [] []] (vp (lat f a b)) := by
  refine cn_memL rfl (enters_of Tryz.func152 (by kernel_rfl) rfl) fun D w vs hG hD hsz hd => ?_
  rw [arr3 hsz, dat_fn (hd 2 _ rfl)]
  refine (do_calls D a b _ _ w f op hop ha hb (dat_rdf (hd 0 _ rfl) hD ha.bd) (dat_rdf (hd 1 _ rfl) hD hb.bd) hD hG).mono ?_
  rintro e w' ⟨v, rfl, hbl, hd⟩
  exact ⟨v, rfl, hbl, hd.mono (fun b o h => h.imp id fun h => ⟨by omega, h.2⟩) fun _ _ _ _ h => h⟩
theorem knV_sm {v : List En} (h : SmV v) (r : Nat) : Nrm (knV v r) ∧ (knV v r).length ≤ 20003 := ⟨knV_nrm h.1 r, knV_len (n := 1048576) (h := 10000) h r⟩
theorem lUnion_c (a b : List En) (ha : SmV a) (hb : SmV b) : Cn Tryz.prog 94 [vp a, vp b] (vp (lat fUnion a b)) := by
  have h := ldo_c a b fUnion 80 (fun r => union_c _ _ (knV_sm ha r).1 (knV_sm hb r).1 (by have := (knV_sm ha r).2; have := (knV_sm hb r).2; omega)) ha hb
  refine cn_go Tryz.func94 [] 2 (by kernel_rfl) rfl (by simp [go_sem, seval]) ?_
  conv => arg 4; cbv
  conv => enter [5, 1]; cbv
  try simp (maxSteps := 2000000) (disch := omega) only [go_sem, seval]
  try repeat ((with_reducible refine And.intro ?_ ?_); focus (first | omega | assumption | exact True.intro | (show anyD _ _ = true; exact rfl) | (simp only [List.length_map, List.length_append, List.length_cons, List.length_nil, List.length_take, List.length_drop]; omega)))
  (first | refine callP.mk (h) rfl ?_ | refine callQ.mk (h) rfl ?_ | refine callO.rd (h) rfl ?_ | refine callO.mk (h) rfl ?_)
  try simp (maxSteps := 2000000) (disch := omega) only [go_sem, seval]
  try repeat ((with_reducible refine And.intro ?_ ?_); focus (first | omega | assumption | exact True.intro | (show anyD _ _ = true; exact rfl) | (simp only [List.length_map, List.length_append, List.length_cons, List.length_nil, List.length_take, List.length_drop]; omega)))
end Go.Proofs.YtjmhmeadcphfmaaGreatDoor
/- From the data of an argument to its pure value: knowledge, a version for an item. No condition. -/
namespace Go.Proofs.YtjmhmeadcphfmaaGreatDoor
set_option linter.unusedVariables false
set_option linter.unusedSimpArgs false
open Go.ChangeShapes Go.WideShapes Go.ChangeAt Go.RowKit Go.Deep
set_option maxRecDepth 100000
section
variable {H : Type} {enc : TypeId × Value → H} {w : World} {base : Nat} {spare : Nat → Bool} {held : Bool}
theorem fg_open {n : Nat} {a : Addr} {cs : List Value} {y : DataW H × List MemPlace} (h1 : w.cells? base a 2 = some cs) (h2 : DataW.trod enc Tryz.prog w base spare held n 57 cs = some y) : a.spot = none ∧ a.block < w.heap.size ∧ ∃ f, rdC fc BdF w a.block a.off f := by
  obtain ⟨v0, v1, k, y0, y1, e0, e1, g0, g1⟩ := pair_open Tryz.underlying57 rfl rfl (by kernel_rfl) (by kernel_rfl) h1 h2
  obtain ⟨v0', l, q0, hl⟩ := ranges_open g0
  obtain ⟨v1', v, q1, hv⟩ := vec_open g1
  obtain rfl : v0 = v0' := by simpa using q0
  obtain rfl : v1 = v1' := by simpa using q1
  obtain ⟨b, off, spot⟩ := a
  obtain rfl : spot = none := World.cell?_spot e0
  obtain ⟨d1, b1, n1⟩ := rdsl_dat (cv := ec) (bd := BdE) (fun _ => rfl) hv
  have d0 : Dat (Lies w) w v0 (rg l) := rdr_dat hl fun _ _ _ h => h
  have hlb := hl.bound
  have hll : l.length ≤ 9223372036854775807 := by have := hl.len; unfold maxLen at this; omega
  have o0 : v0.oneCell' = true := by obtain ⟨a0, c0, rfl, _⟩ := hl; rfl
  have o1 : v1.oneCell' = true := by obtain ⟨a0, c0, rfl, _⟩ := hv; rfl
  refine ⟨rfl, World.block_lt_of_cell? _ _ e0, ⟨l, v⟩, fun j p hp => ?_, hlb, b1, hll, n1⟩
  match j, hp with
  | 0, hp => cases hp; exact ⟨_, e0, o0, d0⟩
  | 1, hp => cases hp; exact ⟨_, by simpa [Addr.add] using e1, o1, d1⟩
theorem know_open {fuel : Nat} {cs : List Value} {x : DataW H × List MemPlace} (h : DataW.trod enc Tryz.prog w base spare held fuel 23 cs = some x) : ∃ v l, cs = [v] ∧ RdSl 2 (rdC fc BdF) 0 w.heap.size w v l :=
  rdsl_open (rdC fc BdF) Tryz.underlying23 (by kernel_rfl) (fun _ _ _ _ h1 h2 => fg_open h1 h2) h
theorem opc_k {r : Reach} {b0 : Nat} {v : Value} {d : DataW H} {ps : List MemPlace} (hval : Value.okWide Tryz.prog w r b0 23 v) (h : DataW.Trod enc Tryz.prog w base spare held 23 v d ps) : ∃ l, Dat (Lies w) w v (kp l) ∧ BdK l := by
  obtain ⟨a, len, cap, rfl⟩ := okWide_slice Tryz.underlying23 hval
  obtain ⟨fuel, hf⟩ := h
  obtain ⟨v, l, hv, hl⟩ := know_open hf
  simp [Value.cells] at hv
  rw [← hv] at hl
  obtain ⟨h1, h2, h3⟩ := rdsl_dat (cv := fc) (bd := BdF) (fun _ => rfl) hl
  exact ⟨l, h1, h2, h3⟩
/-- A version for an item. -/
def xp (x : Nat × Nat × Nat) : PV := .agg [.v (.int .u64 (x.1 : Nat)), .v (.int .u64 (x.2.1 : Nat)), .v (.int .u64 (x.2.2 : Nat))]
attribute [go_sem] xp
end
end Go.Proofs.YtjmhmeadcphfmaaGreatDoor
/- kenningref10.put: a number is put into an ascending list. The list is at most 2^22 long. -/
namespace Go.Proofs.YtjmhmeadcphfmaaGreatDoor
set_option linter.unusedVariables false
set_option linter.unusedSimpArgs false
open Go.RowKit Go.Maps
set_option maxRecDepth 100000
attribute [-go_sem] nat_succ
end Go.Proofs.YtjmhmeadcphfmaaGreatDoor
/- word.Width and word.Plus over memory. -/
namespace Go.Proofs.YtjmhmeadcphfmaaGreatDoor
set_option linter.unusedVariables false
set_option linter.unusedSimpArgs false
open Go.RowKit
set_option maxRecDepth 100000
end Go.Proofs.YtjmhmeadcphfmaaGreatDoor
/- The contracts of lattice (Count, Add), measure.Count, kenningref10, kenningref06.Below. -/
namespace Go.Proofs.YtjmhmeadcphfmaaGreatDoor
set_option linter.unusedVariables false
set_option linter.unusedSimpArgs false
open Go.RowKit
set_option maxRecDepth 100000
theorem RightV.take {v : List En} (h : RightV v) (k : Nat) : RightV (v.take k) := ⟨fun e he => h.1 e (List.mem_of_mem_take he), h.2.sublist (List.take_sublist _ _)⟩
/-- Vectors that are handed over together. -/
def vps (vs : List (List En)) : PV := .sl (vs.map fun v => [vp v]) .sh
attribute [go_sem] vps
end Go.Proofs.YtjmhmeadcphfmaaGreatDoor
/- The laws of chapter 10: they return true. -/
namespace Go.Proofs.YtjmhmeadcphfmaaGreatDoor
set_option linter.unusedVariables false
set_option linter.unusedSimpArgs false
open Go.RowKit
set_option maxRecDepth 100000
theorem opS_d0 {x : List Iv} (hx : Nrm x) : opS fMinus x [] = x := opS_eq hx trivial hx fun t _ => by simp [fMinus]
theorem kn0 (r m : Nat) (hm : m < M64) : kn ⟨r, m, []⟩ = [⟨0, m⟩] := opS_d0 (nrm_one (Nat.zero_le _) hm)
def u10 : List En := [⟨1, 4, []⟩, ⟨2, 3, []⟩]
def c10 : List En := [⟨3, 0, []⟩]
end Go.Proofs.YtjmhmeadcphfmaaGreatDoor
/- kenningref10: put, Do, One; the laws LatticeMatches, LatticeSubset, LatticeAdds. -/
namespace Go.Proofs.YtjmhmeadcphfmaaGreatDoor
set_option linter.unusedVariables false
set_option linter.unusedSimpArgs false
open Go.RowKit
set_option maxRecDepth 100000
theorem SmV.g {v : List En} (h : SmV v) : v.length ≤ 1152921504606846976 ∧ ∀ e ∈ v, e.holes.length ≤ 1152921504606846976 := ⟨by have := h.2.1; omega, fun e he => by have := h.2.2 e he; omega⟩
end Go.Proofs.YtjmhmeadcphfmaaGreatDoor
/- The contracts of scope.with, fold and what they are called with, without memory. -/
namespace Go.Proofs.YtjmhmeadcphfmaaGreatDoor
set_option linter.unusedVariables false
set_option linter.unusedSimpArgs false
open Go.RowKit
set_option maxRecDepth 100000
theorem WV.smv {C : Nat → List Nat} {R : List Nat} {v : List En} (h : WV C R v) (ok : OkC C R) : SmV v := (h.bv ok.1 ok.2).mono (Nat.le_refl _) (by omega)
theorem few_smv {k : List Fg} (h : fewK k = true) (hr : RightK k) {f : Fg} (hf : f ∈ k) : SmV f.vec := by
  have := fewB_iff.1 ((fewK_iff.1 h).1 f hf).2
  exact ⟨(hr f hf).2, by omega, fun e he => by have := this.1 e he; omega⟩
/-! ### The fragments of knowledge, as the iterators read them -/
theorem sl_shape {D : Nat → Nat → Prop} {w : World} {x : Value} {es : List (List PV)} {o : Ow} (h : Dat D w x (.sl es o)) : ∃ s : Sv, x = sv s ∧ s.2.1 = es.length := by
  obtain ⟨ad, cap, sz, b, off, f, e1, _⟩ := (Rel.dat (ρ := fun _ => 0) (nb := 0) h).inv_sl
  exact ⟨(ad, es.length, cap), e1, rfl⟩
theorem kp_row {D : Nat → Nat → Prop} {n0 : Nat} {w : World} {v : Value} {k : List Fg} (h : Dat D w v (kp k)) (hD : ∀ b o, D b o → b < n0) :
    ∃ a cap fs, v = .slice a k.length cap ∧ ∃ hl : fs.length = k.length, RowF n0 w a cap fs ∧ ∀ i (h : i < fs.length), Dat D w (sv fs[i].1) (rg (k[i]'(hl ▸ h)).items) ∧ Dat D w (sv fs[i].2) (vp (k[i]'(hl ▸ h)).vec) := by
  unfold kp at h
  generalize he : k.map fc = es at h
  cases h with
  | sl a cap sz es o b off u hc hz hm ha hsz hd hx =>
    have hl : es.length = k.length := by rw [← he]; simp
    have g : ∀ i (h : i < k.length), es[i]? = some (fc k[i]) := fun i h => by rw [← he]; exact map_at h
    have each : ∀ i, i < k.length → ∃ f : Fv, ∀ h : i < k.length, (sz = 2 ∧ u (i * 2) = sv f.1 ∧ u (i * 2 + 1) = sv f.2) ∧ Dat D w (sv f.1) (rg k[i].items) ∧ Dat D w (sv f.2) (vp k[i].vec) := fun i hi => by
      obtain rfl : 2 = sz := hsz i _ (g i hi)
      have d0 : Dat D w (u (i * 2 + 0)) (rg k[i].items) := hx i _ 0 _ (g i hi) rfl
      have d1 : Dat D w (u (i * 2 + 1)) (vp k[i].vec) := hx i _ 1 _ (g i hi) rfl
      obtain ⟨s0, e0, _⟩ := sl_shape d0
      obtain ⟨s1, e1, _⟩ := sl_shape d1
      rw [e0] at d0
      rw [e1] at d1
      exact ⟨(s0, s1), fun _ => ⟨⟨rfl, e0, e1⟩, d0, d1⟩⟩
    obtain ⟨F, hF⟩ := Go.Deep.choose_lt each
    refine ⟨a, cap, (List.range k.length).map F, by rw [hl], by simp, ⟨by simp; omega, hm, fun hne => ?_⟩, fun i hi => ?_⟩
    · have hpos : 0 < k.length := by
        rcases Nat.eq_zero_or_pos k.length with h0 | h0
        · rw [h0] at hne; simp at hne
        · exact h0
      obtain ⟨⟨rfl, _⟩, _⟩ := hF 0 hpos hpos
      have hes : es ≠ [] := by intro e; subst e; simp at hl; omega
      refine ⟨b, off, ha hes, hD _ _ (hd 0 (by omega)).1, fun i hi => ?_⟩
      have hi' : i < k.length := by simpa using hi
      obtain ⟨⟨_, e0, e1⟩, _⟩ := hF i hi' hi'
      have c0 := (hd (i * 2) (by omega)).2.1
      have c1 := (hd (i * 2 + 1) (by omega)).2.1
      rw [e0] at c0
      rw [e1] at c1
      simp only [List.getElem_map, List.getElem_range]
      exact ⟨c0, c1⟩
    · have hi' : i < k.length := by simpa using hi
      simp only [List.getElem_map, List.getElem_range]
      exact (hF i hi' hi').2
theorem wl_mem {hit : Nat → Bool} {p : Nat × Fv} : ∀ {l : List Fv} {n : Nat}, p ∈ wl hit n l → ∃ h : p.1 - n < l.length, n ≤ p.1 ∧ p.2 = l[p.1 - n] ∧ hit p.1 = true
  | [], n, h => by cases h
  | f :: l, n, h => by
    unfold wl at h
    have rst : p ∈ wl hit (n + 1) l → ∃ h : p.1 - n < (f :: l).length, n ≤ p.1 ∧ p.2 = (f :: l)[p.1 - n] ∧ hit p.1 = true := fun h => by
      obtain ⟨h1, h2, h3, h4⟩ := wl_mem h
      refine ⟨by simp; omega, by omega, ?_, h4⟩
      rw [h3]
      have e : p.1 - n = (p.1 - (n + 1)) + 1 := by omega
      simp only [e, List.getElem_cons_succ]
    split at h
    · rename_i hh
      rcases List.mem_cons.1 h with rfl | h
      · exact ⟨by simp, Nat.le_refl _, by simp, hh⟩
      · exact rst h
    · exact rst h
/-- Folding over indices and over fragments. -/
theorem fold_same {α : Type} {k : List Fg} {fs : List Fv} (hl : fs.length = k.length) (item : Nat) (step : α → Nat → Fg → α) (a0 : α) :
    (wl (fun j => mem (k.getD j default).items item) 0 fs).foldl (fun a p => step a p.1 (k.getD p.1 default)) a0 = (withF item 0 k).foldl (fun a p => step a p.1 p.2) a0 := by
  have key : ∀ j, j ≤ k.length → (wl (fun j => mem (k.getD j default).items item) 0 (fs.take j)).foldl (fun a p => step a p.1 (k.getD p.1 default)) a0 = (withF item 0 (k.take j)).foldl (fun a p => step a p.1 p.2) a0 := by
    intro j
    induction j with
    | zero => intro _; rfl
    | succ j ih =>
      intro hj
      rw [wl_take (by omega), withF_take item (by omega), List.foldl_append, List.foldl_append, ih (by omega)]
      have e : k.getD j default = k[j] := by simp [List.getD_eq_getElem?_getD, List.getElem?_eq_getElem (show j < k.length by omega)]
      simp only [e]
      split
      · show step _ j (k.getD j default) = step _ j k[j]
        rw [e]
      · rfl
  have := key k.length (Nat.le_refl _)
  rwa [← hl, List.take_length, hl, List.take_length] at this
theorem fold_all {α : Type} {k : List Fg} {fs : List Fv} (hl : fs.length = k.length) (step : α → Fg → α) (a0 : α) :
    (wl (fun _ => true) 0 fs).foldl (fun a p => step a (k.getD p.1 default)) a0 = k.foldl step a0 := by
  have key : ∀ j, j ≤ k.length → (wl (fun _ => true) 0 (fs.take j)).foldl (fun a p => step a (k.getD p.1 default)) a0 = (k.take j).foldl step a0 := by
    intro j
    induction j with
    | zero => intro _; rfl
    | succ j ih =>
      intro hj
      rw [wl_take (by omega), List.take_succ_eq_append_getElem (by omega), List.foldl_append, List.foldl_append, ih (by omega)]
      have e : k.getD j default = k[j] := by simp [List.getD_eq_getElem?_getD, List.getElem?_eq_getElem (show j < k.length by omega)]
      show step _ (k.getD j default) = step _ k[j]
      rw [e]
  have := key k.length (Nat.le_refl _)
  rwa [← hl, List.take_length, hl, List.take_length] at this
/-! ### scope.with, slices.All -/
def withP (k : List Fg) (i : Nat) : PV := .fn (.func 133) [] [.cp [kp k] 0, .cp [.v (.int .u64 i)] 0]
def allP (k : List Fg) : PV := .fn (.func 137) [] [.cp [kp k] 0]
attribute [go_sem] withP allP
theorem kwith_c (k : List Fg) (i : Nat) : Cn Tryz.prog 75 [kp k, .v (.int .u64 i)] (withP k i) := by
  refine cn_go Tryz.func75 [] 2 (by kernel_rfl) rfl (by simp [go_sem, seval]) ?_
  conv => arg 4; cbv
  conv => enter [5, 1]; cbv
  try simp (maxSteps := 2000000) (disch := omega) only [go_sem, seval]
  try repeat ((with_reducible refine And.intro ?_ ?_); focus (first | omega | assumption | exact True.intro | (show anyD _ _ = true; exact rfl) | (simp only [List.length_map, List.length_append, List.length_cons, List.length_nil, List.length_take, List.length_drop]; omega)))
theorem kall_c (k : List Fg) : Cn Tryz.prog 78 [kp k] (allP k) := by
  refine cn_go Tryz.func78 [] 1 (by kernel_rfl) rfl (by simp [go_sem, seval]) ?_
  conv => arg 4; cbv
  conv => enter [5, 1]; cbv
  try simp (maxSteps := 2000000) (disch := omega) only [go_sem, seval]
  try repeat ((with_reducible refine And.intro ?_ ?_); focus (first | omega | assumption | exact True.intro | (show anyD _ _ = true; exact rfl) | (simp only [List.length_map, List.length_append, List.length_cons, List.length_nil, List.length_take, List.length_drop]; omega)))
theorem items1_c (l : List Iv) (i : Nat) (f : Fg) (hl : Nrm l) (hf : Nrm f.items) (h : l.length + f.items.length ≤ 1073741824) : Cn Tryz.prog 79 [rg l, .v (.int .i64 i), fp f] (rg (opS fUnion l f.items)) := by
  refine cn_go Tryz.func79 [] 3 (by kernel_rfl) rfl (by simp [go_sem, seval]) ?_
  conv => arg 4; cbv
  conv => enter [5, 1]; cbv
  try simp (maxSteps := 2000000) (disch := omega) only [go_sem, seval]
  try repeat ((with_reducible refine And.intro ?_ ?_); focus (first | omega | assumption | exact True.intro | (show anyD _ _ = true; exact rfl) | (simp only [List.length_map, List.length_append, List.length_cons, List.length_nil, List.length_take, List.length_drop]; omega)))
  (first | refine callP.mk (union_c l f.items hl hf h) rfl ?_ | refine callQ.mk (union_c l f.items hl hf h) rfl ?_ | refine callO.rd (union_c l f.items hl hf h) rfl ?_ | refine callO.mk (union_c l f.items hl hf h) rfl ?_)
  try simp (maxSteps := 2000000) (disch := omega) only [go_sem, seval]
  try repeat ((with_reducible refine And.intro ?_ ?_); focus (first | omega | assumption | exact True.intro | (show anyD _ _ = true; exact rfl) | (simp only [List.length_map, List.length_append, List.length_cons, List.length_nil, List.length_take, List.length_drop]; omega)))
theorem at1_c (v : List En) (i : Nat) (f : Fg) (hv : SmV v) (hf : SmV f.vec) : Cn Tryz.prog 93 [vp v, .v (.int .i64 i), fp f] (vp (lat fUnion v f.vec)) := by
  refine cn_go Tryz.func93 [] 3 (by kernel_rfl) rfl (by simp [go_sem, seval]) ?_
  conv => arg 4; cbv
  conv => enter [5, 1]; cbv
  try simp (maxSteps := 2000000) (disch := omega) only [go_sem, seval]
  try repeat ((with_reducible refine And.intro ?_ ?_); focus (first | omega | assumption | exact True.intro | (show anyD _ _ = true; exact rfl) | (simp only [List.length_map, List.length_append, List.length_cons, List.length_nil, List.length_take, List.length_drop]; omega)))
  (first | refine callP.mk (lUnion_c v f.vec hv hf) rfl ?_ | refine callQ.mk (lUnion_c v f.vec hv hf) rfl ?_ | refine callO.rd (lUnion_c v f.vec hv hf) rfl ?_ | refine callO.mk (lUnion_c v f.vec hv hf) rfl ?_)
  try simp (maxSteps := 2000000) (disch := omega) only [go_sem, seval]
  try repeat ((with_reducible refine And.intro ?_ ?_); focus (first | omega | assumption | exact True.intro | (show anyD _ _ = true; exact rfl) | (simp only [List.length_map, List.length_append, List.length_cons, List.length_nil, List.length_take, List.length_drop]; omega)))
end Go.Proofs.YtjmhmeadcphfmaaGreatDoor
/- scope.fold over the fragments with an item, and over all fragments: contracts without memory. -/
namespace Go.Proofs.YtjmhmeadcphfmaaGreatDoor
set_option linter.unusedVariables false
set_option linter.unusedSimpArgs false
open Go.RowKit
set_option maxRecDepth 100000
/-- What is combined lies in memory that nobody writes. -/
def InvD {α : Type} (D0 : Nat → Nat → Prop) (n : Nat) (pv : α → PV) (P : α → Prop) (W : World) (u : Value) (a : α) : Prop :=
  P a ∧ ∃ D : Nat → Nat → Prop, GL D W ∧ (∀ b o, D b o → b < W.heap.size ∧ b ≠ n ∧ b ≠ n + 2 ∧ b ≠ n + 3) ∧ (∀ b o, D b o → D0 b o ∨ n ≤ b) ∧ (∀ b o, D0 b o → D b o) ∧ Dat D W u (pv a)
section
variable {α : Type} {D0 : Nat → Nat → Prop} {pv : α → PV} {P : α → Prop} {w W A B : World} {u : Value} {a : α}
theorem InvD.start {u0 : Value} (h0 : Dat D0 w u0 (.sl [] .sh)) (hG : GL D0 w) (hD : ∀ b o, D0 b o → b < w.heap.size) (hb : Below w.heap.size w W) (hP : P a) (hp : pv a = .sl [] .sh) : InvD D0 w.heap.size pv P W u0 a := by
  have hw : ∀ b o x, D0 b o → w.cell? ⟨b, o, none⟩ = some x → W.cell? ⟨b, o, none⟩ = some x := fun b o x hd hx => (hb.cell (p := ⟨b, o, none⟩) (hD b o hd)).trans hx
  refine ⟨hP, D0, hG.mono (fun _ _ h => h) hw, fun b o h => ?_, fun _ _ h => .inl h, fun _ _ h => h, ?_⟩
  · have := hD b o h
    have := hb.size
    exact ⟨by omega, by omega, by omega, by omega⟩
  · rw [hp]
    exact h0.mono (fun _ _ h => h) hw
theorem InvD.shape {n : Nat} (h : InvD D0 n pv P W u a) (hp : ∃ es, pv a = .sl es .sh) : ∃ ad n c, u = .slice ad n c := by
  obtain ⟨_, D, _, _, _, _, hd⟩ := h
  obtain ⟨es, e⟩ := hp
  rw [e] at hd
  obtain ⟨s, rfl, _⟩ := sl_shape hd
  exact ⟨_, _, _, rfl⟩
theorem InvD.keep {n : Nat} (h : InvD D0 n pv P A u a) (hk : Keep (fun k => k = n ∨ k = n + 2 ∨ k = n + 3) A B) : InvD D0 n pv P B u a := by
  obtain ⟨hP, D, h1, h2, h3, h4, h5⟩ := h
  have hw : ∀ b o x, D b o → A.cell? ⟨b, o, none⟩ = some x → B.cell? ⟨b, o, none⟩ = some x := fun b o x hd hx =>
    (World.cell?_of_block (a := ⟨b, o, none⟩) (hk.block b (h2 b o hd).1 (by have := h2 b o hd; omega))).trans hx
  exact ⟨hP, D, h1.mono (fun _ _ h => h) hw, fun b o hd => ⟨Nat.lt_of_lt_of_le (h2 b o hd).1 hk.size, (h2 b o hd).2⟩, h3, h4, h5.mono (fun _ _ h => h) hw⟩
theorem fp_dat {D : Nat → Nat → Prop} {f : Fv} {g : Fg} (h0 : Dat D w (sv f.1) (rg g.items)) (h1 : Dat D w (sv f.2) (vp g.vec)) : Dat D w (.agg #[sv f.1, sv f.2]) (fp g) := by
  refine .agg _ _ rfl (fun i hi => ?_) fun i p hp => ?_
  · match i, hi with
    | 0, _ => rfl
    | 1, _ => rfl
  · match i, hp with
    | 0, hp => cases hp; exact h0
    | 1, hp => cases hp; exact h1
    | i + 2, hp => simp [fc] at hp
theorem InvD.step {F1 : FuncId} {i : Nat} {f : Fv} {g : Fg} {a' : α} (h : InvD D0 w.heap.size pv P W u a) (hD : ∀ b o, D0 b o → b < w.heap.size) (hb : Below w.heap.size w W) (hs : w.heap.size + 4 ≤ W.heap.size) (h0 : Dat D0 w (sv f.1) (rg g.items)) (h1 : Dat D0 w (sv f.2) (vp g.vec))
    (hc : Cn Tryz.prog F1 [pv a, .v (.int .i64 i), fp g] (pv a')) (hP : P a') :
    Calls Tryz.prog F1 #[u, .int .i64 (i : Nat), .agg #[sv f.1, sv f.2]] W fun e W' => ∃ u', e = .returned u' ∧ InvD D0 w.heap.size pv P W' u' a' ∧ Keep (RowI (w.heap.size + 4) W) W W' := by
  obtain ⟨_, D, g1, g2, g3, g4, g5⟩ := h
  have hw : ∀ b o x, D0 b o → w.cell? ⟨b, o, none⟩ = some x → W.cell? ⟨b, o, none⟩ = some x := fun b o x hd hx => (hb.cell (p := ⟨b, o, none⟩) (hD b o hd)).trans hx
  refine (cn_w hc g1 (fun b o h => (g2 b o h).1) rfl (fun j p hp => ?_)).mono ?_
  · match j, hp with
    | 0, hp => cases hp; exact g5
    | 1, hp => cases hp; exact .v _
    | 2, hp => cases hp; exact (fp_dat h0 h1).mono g4 hw
    | j + 3, hp => simp at hp
  · rintro e W' ⟨v, rfl, hb', hd⟩
    refine ⟨v, rfl, ⟨hP, _, g1.mono (fun _ _ h => .inl h) fun b o x hd hx => (hb'.cell (p := ⟨b, o, none⟩) (g2 b o hd).1).trans hx, fun b o h => ?_, fun b o h => ?_, fun b o h => .inl (g4 b o h), hd⟩, Keep.of_below' hb' (Nat.le_refl _)⟩
    · rcases h with h | h
      · exact ⟨Nat.lt_of_lt_of_le (g2 b o h).1 hb'.size, (g2 b o h).2⟩
      · exact ⟨h.2, by omega, by omega, by omega⟩
    · rcases h with h | h
      · exact g3 b o h
      · exact .inr (by omega)
theorem InvD.done (h : InvD D0 w.heap.size pv P W u a) : Dat (fun b o => D0 b o ∨ (w.heap.size ≤ b ∧ b < W.heap.size)) W u (pv a) := by
  obtain ⟨_, D, g1, g2, g3, g4, g5⟩ := h
  exact g5.mono (fun b o h => (g3 b o h).imp id fun h' => ⟨h', (g2 b o h).1⟩) fun _ _ _ _ h => h
end
/-- A captured variable. -/
theorem cp_inv {D : Nat → Nat → Prop} {w : World} {x : Value} {p : PV} (h : Dat D w x (.cp [p] 0)) : ∃ b o y, x = .pointer (some ⟨b, o, none⟩) ∧ D b o ∧ w.cell? ⟨b, o, none⟩ = some y ∧ Dat D w y p := by
  obtain ⟨b, off, f, e, h1, h2⟩ := (Rel.dat (ρ := fun _ => 0) (nb := 0) h).inv_cp
  have := h1 0 (by simp)
  exact ⟨b, off, f 0, e, by simpa using this.1, by simpa using this.2.1, h2 0 p rfl⟩
theorem withP_inv {D : Nat → Nat → Prop} {w : World} {x : Value} {k : List Fg} {i : Nat} (h : Dat D w x (withP k i)) : ∃ bk ok bi oi v, x = .func (.func 133) #[] #[.pointer (some ⟨bk, ok, none⟩), .pointer (some ⟨bi, oi, none⟩)] ∧ D bk ok ∧ D bi oi ∧ w.cell? ⟨bk, ok, none⟩ = some v ∧ w.cell? ⟨bi, oi, none⟩ = some (.int .u64 (i : Nat)) ∧ Dat D w v (kp k) := by
  unfold withP at h
  cases h with
  | fn f va vb fs cs h1 h2 h3 h4 =>
    rw [Array.size_eq_zero_iff.1 h1]
    obtain ⟨l⟩ := vb
    match l, h2 with
    | [y, z], _ =>
      obtain ⟨bk, ok, v, e1, d1, c1, q1⟩ := cp_inv (h4 0 _ rfl)
      obtain ⟨bi, oi, u, e2, d2, c2, q2⟩ := cp_inv (h4 1 _ rfl)
      rw [q2.v_inv] at c2
      simp at e1 e2
      subst e1 e2
      exact ⟨bk, ok, bi, oi, v, rfl, d1, d2, c1, c2, q1⟩
theorem allP_inv {D : Nat → Nat → Prop} {w : World} {x : Value} {k : List Fg} (h : Dat D w x (allP k)) : ∃ bk ok v, x = .func (.func 137) #[] #[.pointer (some ⟨bk, ok, none⟩)] ∧ D bk ok ∧ w.cell? ⟨bk, ok, none⟩ = some v ∧ Dat D w v (kp k) := by
  unfold allP at h
  cases h with
  | fn f va vb fs cs h1 h2 h3 h4 =>
    rw [Array.size_eq_zero_iff.1 h1]
    obtain ⟨l⟩ := vb
    match l, h2 with
    | [y], _ =>
      obtain ⟨bk, ok, v, e1, d1, c1, q1⟩ := cp_inv (h4 0 _ rfl)
      simp at e1
      subst e1
      exact ⟨bk, ok, v, rfl, d1, c1, q1⟩
theorem nil_inv {D : Nat → Nat → Prop} {w : World} {x : Value} (h : Dat D w x (.sl [] .sh)) : ∃ ad c, x = .slice ad 0 c := by
  obtain ⟨⟨a, n, c⟩, rfl, e⟩ := sl_shape h
  simp only [List.length_nil] at e
  subst e
  exact ⟨a, c, rfl⟩
/-- The sizes of knowledge. -/
def SzK (k : List Fg) : Prop := k.length ≤ 1152921504606846976 ∧ ∀ f ∈ k, f.items.length ≤ 1152921504606846976 ∧ f.vec.length ≤ 1152921504606846976 ∧ ∀ e ∈ f.vec, e.holes.length ≤ 1152921504606846976
/-- What with$1 hands over, wherever memory goes on. -/
theorem with_iter {D : Nat → Nat → Prop} {w : World} {k : List Fg} {i bk ok bi oi : Nat} {a : Option Addr} {cap : Nat} {fs : List Fv} (hr : RightK k) (hz : SzK k) (hG : GL D w) (hD : ∀ b o, D b o → b < w.heap.size) (d1 : D bk ok) (d2 : D bi oi) (c1 : w.cell? ⟨bk, ok, none⟩ = some (.slice a k.length cap)) (c2 : w.cell? ⟨bi, oi, none⟩ = some (.int .u64 (i : Nat)))
    (hl : fs.length = k.length) (hrow : RowF w.heap.size w a cap fs) (hfs : ∀ j (h : j < fs.length), Dat D w (sv fs[j].1) (rg (k[j]'(hl ▸ h)).items) ∧ Dat D w (sv fs[j].2) (vp (k[j]'(hl ▸ h)).vec)) {W : World} (hb : Below w.heap.size w W) :
    IterAt2 Tryz.prog 133 #[.pointer (some ⟨bk, ok, none⟩), .pointer (some ⟨bi, oi, none⟩)] encF (fun _ => False) (PtF w.heap.size bk bi) (wl (fun j => mem (k.getD j default).items i) 0 fs) W := by
  have hw : ∀ b o x, D b o → w.cell? ⟨b, o, none⟩ = some x → W.cell? ⟨b, o, none⟩ = some x := fun b o x hd hx => (hb.cell (p := ⟨b, o, none⟩) (hD b o hd)).trans hx
  refine with1_at fs _ a cap bk ok bi oi w.heap.size i W ?_ (by rw [hl]; exact hw _ _ _ d1 c1) (hw _ _ _ d2 c2) hb.size fun w' j hj hlow hsz => ?_
  · obtain ⟨h1, h2, h3⟩ := hrow
    refine ⟨h1, h2, fun hne => ?_⟩
    obtain ⟨b, off, e1, e2, e3⟩ := h3 hne
    exact ⟨b, off, e1, e2, fun j hj => ⟨(hb.cell (p := ⟨b, off + j * 2, none⟩) e2).trans (e3 j hj).1, (hb.cell (p := ⟨b, off + j * 2 + 1, none⟩) e2).trans (e3 j hj).2⟩⟩
  · have hw' : ∀ b o x, D b o → w.cell? ⟨b, o, none⟩ = some x → w'.cell? ⟨b, o, none⟩ = some x := fun b o x hd hx => (World.cell?_of_block (a := ⟨b, o, none⟩) (hlow b (hD b o hd))).trans (hw b o x hd hx)
    have hj' : j < k.length := hl ▸ hj
    have hm := List.getElem_mem hj'
    have e : k.getD j default = k[j] := by rw [List.getD_eq_getElem?_getD, List.getElem?_eq_getElem hj']; rfl
    simp only [e]
    refine (cn_w (rhas_c k[j].items i (hr _ hm).1 (hz.2 _ hm).1) (hG.mono (fun _ _ h => h) hw') (fun b o h => Nat.lt_of_lt_of_le (hD b o h) hsz) rfl (fun t p hp => ?_)).mono ?_
    · match t, hp with
      | 0, hp => cases hp; exact (hfs j hj).1.mono (fun _ _ h => h) hw'
      | 1, hp => cases hp; exact .v _
      | t + 2, hp => simp at hp
    · rintro e W' ⟨v, rfl, hb', hd⟩
      rw [hd.v_inv]
      exact ⟨rfl, hb'⟩
end Go.Proofs.YtjmhmeadcphfmaaGreatDoor
/- The contracts of scope (fold, Has, At, Items, Members), without memory. -/
namespace Go.Proofs.YtjmhmeadcphfmaaGreatDoor
set_option linter.unusedVariables false
set_option linter.unusedSimpArgs false
open Go.RowKit
set_option maxRecDepth 100000
/-- A list of indices. -/
def is (l : List Nat) : PV := .sl (l.map fun x => [.v (.int .i64 (x : Nat))]) .sh
attribute [go_sem] is
theorem getD_at {k : List Fg} {j : Nat} (h : j < k.length) : k.getD j default = k[j] := by rw [List.getD_eq_getElem?_getD, List.getElem?_eq_getElem h]; rfl
theorem pre_mem {α : Type} {pre xs : List α} {p : α} (h : pre ++ [p] <+: xs) : p ∈ xs := h.subset (by simp)
/-- What has been combined is what a first part gives. -/
theorem foldV_c {C : Nat → List Nat} {R : List Nat} (k : List Fg) (i : Nat) (hk : IK C R k) (ok : OkC C R) (hr : RightK k) (hs : ∀ f ∈ k, SmV f.vec) (hz : SzK k) :
    Cn Tryz.prog 92 [withP k i, .sl [] .sh, .fn (.func 93) [] []] (vp (vecAt k i)) := by
  refine cn_memL rfl (enters_of Tryz.func92 (by kernel_rfl) rfl) fun D w vs hG hD hsz hd => ?_
  obtain ⟨bk, ok', bi, oi, v, e0, d1, d2, c1, c2, hkv⟩ := withP_inv (hd 0 _ rfl)
  obtain ⟨a, cap, fs, rfl, hl, hrow, hfs⟩ := kp_row hkv hD
  have hn0 := hd 1 _ rfl
  obtain ⟨ad0, c0', e1⟩ := nil_inv hn0
  rw [e1] at hn0
  rw [arr3 hsz, e0, e1, dat_fn (hd 2 _ rfl)]
  refine (foldV_calls 133 _ bk bi _ w ad0 c0' (enters_of Tryz.func133 (by kernel_rfl) rfl) (fun W hb => with_iter hr hz hG hD d1 d2 c1 c2 hl hrow hfs hb) (hD _ _ d1) (hD _ _ d2)
    (InvD D w.heap.size vp (WV C R)) (fun o p => lat fUnion o (k.getD p.1 default).vec) [] (fun W hb => InvD.start hn0 hG hD hb WV.nil rfl) (fun W u a h => h.shape ⟨_, rfl⟩) (fun A B u a h hk => h.keep hk) fun W u pre p hpre hs4 hb h => ?_).mono ?_
  · obtain ⟨hp1, _, hp3, _⟩ := wl_mem (pre_mem hpre)
    have hj : p.1 < fs.length := by simpa using hp1
    have hj' : p.1 < k.length := hl ▸ hj
    have hm := List.getElem_mem hj'
    have q := hfs p.1 hj
    have e : p.2 = fs[p.1] := by rw [hp3]; simp
    rw [getD_at hj', e]
    exact h.step hD hb hs4 q.1 q.2 (at1_c _ p.1 k[p.1] (h.1.smv ok) (hs _ hm)) (h.1.iv.lat fU0 (hk _ hm))
  · rintro e w' ⟨u, rfl, hI, hb⟩
    have h := hI.done
    rw [fold_same hl i (fun o _ f => lat fUnion o f.vec) []] at h
    exact ⟨u, rfl, hb, h⟩
theorem foldR_c (k : List Fg) (hr : RightK k) (hz : SzK k) (hs : ∀ f ∈ k, f.items.length ≤ 100000) (hc : (CI k).length ≤ 100000) :
    Cn Tryz.prog 77 [allP k, .sl [] .sh, .fn (.func 79) [] []] (rg (itemsK k)) := by
  refine cn_memL rfl (enters_of Tryz.func77 (by kernel_rfl) rfl) fun D w vs hG hD hsz hd => ?_
  obtain ⟨bk, ok', v, e0, d1, c1, hkv⟩ := allP_inv (hd 0 _ rfl)
  obtain ⟨a, cap, fs, rfl, hl, hrow, hfs⟩ := kp_row hkv hD
  have hn0 := hd 1 _ rfl
  obtain ⟨ad0, c0', e1⟩ := nil_inv hn0
  rw [e1] at hn0
  rw [arr3 hsz, e0, e1, dat_fn (hd 2 _ rfl)]
  have hiter : ∀ W, Below w.heap.size w W → IterAt2 Tryz.prog 137 #[.pointer (some ⟨bk, ok', none⟩)] encF (fun _ => False) (PtF w.heap.size bk bk) (wl (fun _ => true) 0 fs) W := fun W hb => by
    refine all1_at fs a cap bk ok' w.heap.size W ?_ (by rw [hl]; exact (hb.cell (p := ⟨bk, ok', none⟩) (hD _ _ d1)).trans c1) hb.size
    obtain ⟨h1, h2, h3⟩ := hrow
    refine ⟨h1, h2, fun hne => ?_⟩
    obtain ⟨b, off, e1, e2, e3⟩ := h3 hne
    exact ⟨b, off, e1, e2, fun j hj => ⟨(hb.cell (p := ⟨b, off + j * 2, none⟩) e2).trans (e3 j hj).1, (hb.cell (p := ⟨b, off + j * 2 + 1, none⟩) e2).trans (e3 j hj).2⟩⟩
  refine (foldR_calls 137 _ bk bk _ w ad0 c0' (enters_of Tryz.func137 (by kernel_rfl) rfl) hiter (hD _ _ d1) (hD _ _ d1)
    (InvD D w.heap.size rg (fun l => Nrm l ∧ ∀ x, Ed l x → x ∈ CI k)) (fun o p => opS fUnion o (k.getD p.1 default).items) [] (fun W hb => InvD.start hn0 hG hD hb ⟨trivial, fun x h => absurd h ed_nil⟩ rfl) (fun W u a h => h.shape ⟨_, rfl⟩) (fun A B u a h hk => h.keep hk) fun W u pre p hpre hs4 hb h => ?_).mono ?_
  · obtain ⟨hp1, _, hp3, _⟩ := wl_mem (pre_mem hpre)
    have hj : p.1 < fs.length := by simpa using hp1
    have hj' : p.1 < k.length := hl ▸ hj
    have hm := List.getElem_mem hj'
    have q := hfs p.1 hj
    have e : p.2 = fs[p.1] := by rw [hp3]; simp
    have hn := (hr _ hm).1
    have h1 := h.1
    rw [getD_at hj', e]
    refine h.step hD hb hs4 q.1 q.2 (items1_c _ p.1 k[p.1] h1.1 hn ?_) ⟨opS_nrm h1.1 hn, fun x hx => ?_⟩
    · have := ed_len h1.1 h1.2
      have := hs _ hm
      omega
    · rcases ed_op fU0 h1.1 hn hx with h | h
      · exact h1.2 x h
      · exact List.mem_flatMap.2 ⟨_, hm, ed_cuts hn.ivs2 h⟩
  · rintro e w' ⟨u, rfl, hI, hb⟩
    have h := hI.done
    rw [fold_all hl (fun o f => opS fUnion o f.items) []] at h
    exact ⟨u, rfl, hb, h⟩
theorem ownI_dat {D : Nat → Nat → Prop} {base : Nat} {w : World} {v : Value} {l : List Nat} (h : OwnI base w v l) (hD : ∀ b o, base ≤ b → b < w.heap.size → D b o) : Dat D w v (is l) := by
  unfold is
  have hlen : (l.map fun x => [PV.v (.int .i64 (x : Nat))]).length = l.length := by simp
  rcases id h.2 with ⟨rfl, h0⟩ | ⟨g, cap, cur, rfl, hg, hh, hn, hc, _⟩
  · obtain rfl : l = [] := List.length_eq_zero_iff.1 h0
    exact .sl none 0 1 [] .sh 0 0 (fun _ => undef) (by simp) (fun h => by cases h) (by unfold maxLen; omega) (fun h => absurd rfl h) (fun i e h => by simp at h) (fun j h => by simp at h) (fun i e j p h => by simp at h)
  · rw [← hlen]
    refine .sl _ cap 1 _ .sh g 0 (fun j => .int .i64 (l.getD j 0 : Nat)) (by simpa using hn) (fun h => by cases h) hc (fun _ => rfl) (fun i e h => ?_) (fun j hj => ?_) (fun i e j p he hp => ?_)
    · simp only [List.getElem?_map, Option.map_eq_some_iff] at h
      obtain ⟨s, _, rfl⟩ := h
      rfl
    · simp only [List.length_map, Nat.mul_one] at hj
      refine ⟨hD _ _ hg (Array.getElem?_eq_some_iff.1 hh).1, ?_, rfl⟩
      rw [Nat.zero_add, h.cellAt _ (by simpa using hj)]
      simp [hj]
    · have hi : i < l.length := by have := (List.getElem?_eq_some_iff.1 he).1; simpa using this
      rw [List.getElem?_map, List.getElem?_eq_getElem hi] at he
      cases he
      match j, hp with
      | 0, hp => cases hp; simp [hi]; exact .v _
      | j + 1, hp => simp at hp
theorem map_foldl (l : List (Nat × Fv)) : ∀ a : List Nat, l.foldl (fun o p => o ++ [p.1]) a = a ++ l.map Prod.fst := by
  induction l with
  | nil => intro a; simp
  | cons p l ih => intro a; rw [List.foldl_cons, ih]; simp
theorem map_foldlF (l : List (Nat × Fg)) : ∀ a : List Nat, l.foldl (fun o p => o ++ [p.1]) a = a ++ l.map Prod.fst := by
  induction l with
  | nil => intro a; simp
  | cons p l ih => intro a; rw [List.foldl_cons, ih]; simp
theorem wl_len (hit : Nat → Bool) : ∀ (n : Nat) (l : List Fv), (wl hit n l).length ≤ l.length
  | _, [] => Nat.le_refl _
  | n, f :: l => by
    have := wl_len hit (n + 1) l
    unfold wl
    split <;> simp <;> omega
set_option maxHeartbeats 1000000 in
theorem kmemb_c (k : List Fg) (i : Nat) (hr : RightK k) (hz : SzK k) (hkl : k.length ≤ 1073741824) : Cn Tryz.prog 27 [kp k, .v (.int .u64 i)] (is (membK k i)) := by
  refine cn_memL rfl (enters_of Tryz.func27 (by kernel_rfl) rfl) fun D w vs hG hD hsz hd => ?_
  obtain ⟨a, cap, fs, e0, hl, hrow, hfs⟩ := kp_row (hd 0 _ rfl) hD
  rw [arr2 hsz, e0, (hd 1 _ rfl).v_inv]
  obtain ⟨w1, hw1⟩ : ∃ w1, (w.alloc (.cells #[.slice a k.length cap] 23)).alloc (.cells #[.int .u64 (i : Nat)] 24) = w1 := ⟨_, rfl⟩
  have hs1 : w1.heap.size = w.heap.size + 2 := by rw [← hw1]; simp
  have b1 : Below w.heap.size w w1 := by rw [← hw1]; exact ((Below.refl _ _).alloc (Nat.le_refl _) _).alloc (by simp) _
  have x1 : Boxed w1 w.heap.size 23 (.slice a k.length cap) := by rw [← hw1]; exact (Boxed.new w _ _).alloc _
  have x2 : Boxed w1 (w.heap.size + 1) 24 (.int .u64 (i : Nat)) := by rw [← hw1]; have := Boxed.new (w.alloc (.cells #[.slice a k.length cap] 23)) 24 (.int .u64 (i : Nat)); rw [World.size_alloc] at this; exact this
  have hwc : ∀ b o x, D b o → w.cell? ⟨b, o, none⟩ = some x → w1.cell? ⟨b, o, none⟩ = some x := fun b o x hd hx => (b1.cell (p := ⟨b, o, none⟩) (hD b o hd)).trans hx
  obtain ⟨E, hE⟩ : ∃ E : Nat → Nat → Prop, E = fun b o => D b o ∨ (w.heap.size ≤ b ∧ b < w1.heap.size) := ⟨_, rfl⟩
  have hEb : ∀ b o, E b o → b < w1.heap.size := fun b o h => by rw [hE] at h; exact h.elim (fun h => by have := hD b o h; omega) And.right
  have hfold : Calls Tryz.prog 81 #[.func (.func 133) #[] #[.pointer (some ⟨w.heap.size, 0, none⟩), .pointer (some ⟨w.heap.size + 1, 0, none⟩)], .slice none 0 0, .func (.func 82) #[] #[]] w1 fun e w' => ∃ u, e = .returned u ∧ OwnI (w1.heap.size + 4) w' u (membK k i) ∧ Below w1.heap.size w1 w' := by
    refine (foldI_calls 133 _ w.heap.size (w.heap.size + 1) _ w1 none 0 (enters_of Tryz.func133 (by kernel_rfl) rfl) (fun W hb => with_iter (D := E) (a := a) (cap := cap) (fs := fs) hr hz (hG.mono (fun b o h => by rw [hE]; exact .inl h) hwc) hEb (by rw [hE]; exact .inr (by omega)) (by rw [hE]; exact .inr (by omega)) x1.cell x2.cell hl ?_ (fun j hj => ⟨(hfs j hj).1.mono (fun b o h => by rw [hE]; exact .inl h) hwc, (hfs j hj).2.mono (fun b o h => by rw [hE]; exact .inl h) hwc⟩) hb) (by omega) (by omega)
      (fun W u l => OwnI (w1.heap.size + 4) W u l) (fun o p => o ++ [p.1]) [] (fun W _ => OwnI.nil _ _) (fun W u a h => h.shape) (fun A B u a h hk => h.keep hk fun g hg _ => by omega) fun W u pre p hpre hs4 hb h => ?_).mono ?_
    · obtain ⟨h1, h2, h3⟩ := hrow
      refine ⟨h1, h2, fun hne => ?_⟩
      obtain ⟨b, off, e1, e2, e3⟩ := h3 hne
      exact ⟨b, off, e1, by omega, fun j hj => ⟨(b1.cell (p := ⟨b, off + j * 2, none⟩) e2).trans (e3 j hj).1, (b1.cell (p := ⟨b, off + j * 2 + 1, none⟩) e2).trans (e3 j hj).2⟩⟩
    · have hpl : pre.length ≤ k.length := by
        have h1 := hpre.length_le
        have h2 := wl_len (fun j => mem (k.getD j default).items i) 0 fs
        simp only [List.length_append, List.length_cons, List.length_nil] at h1
        omega
      refine members1_w (w1.heap.size + 4) W u _ p.1 _ _ h (by omega) ?_
      rw [map_foldl]
      simp
      omega
    · rintro e w' ⟨u, rfl, hI, hb⟩
      rw [fold_same hl i (fun o j _ => o ++ [j]) [], map_foldlF, List.nil_append] at hI
      exact ⟨u, rfl, hI, hb⟩
  have HF := Lib.hid hfold
  have HB := Lib.hid b1
  clear hfold b1 x1 x2 hwc hE hEb hrow hfs hd hG hD
  go_enter Tryz.func27, Tryz.ntmps27
  go_wp2_with (first
    | (go_at_call 75; refine (with_any _ _ _ _ _).mono ?_; rintro e w' ⟨rfl, rfl⟩; rw [hw1])
    | (go_at_call 81; refine HF.out.mono ?_; rintro e w2 ⟨u, rfl, ho, hb2⟩; obtain ⟨au, nu, cu, rfl⟩ := ho.shape))
  go_ret
  exact ⟨_, rfl, HB.out.trans (hb2.mono (by omega)), ownI_dat ho fun b o h1 h2 => .inr (by omega)⟩
theorem any_foldl {β : Type} (q : β → Bool) : ∀ (l : List β) (b : Bool), l.foldl (fun b x => b || q x) b = (b || l.any q)
  | [], b => by simp
  | x :: l, b => by rw [List.foldl_cons, any_foldl q l, List.any_cons, Bool.or_assoc]
theorem wl_any {k : List Fg} {fs : List Fv} (hl : fs.length = k.length) (item : Nat) (q : Fg → Bool) :
    (wl (fun j => mem (k.getD j default).items item) 0 fs).any (fun p => q (k.getD p.1 default)) = (withF item 0 k).any fun p => q p.2 := by
  have h := fold_same hl item (fun b _ f => b || q f) false
  have h1 := any_foldl (fun p : Nat × Fv => q (k.getD p.1 default)) (wl (fun j => mem (k.getD j default).items item) 0 fs) false
  have h2 := any_foldl (fun p : Nat × Fg => q p.2) (withF item 0 k) false
  rw [Bool.false_or] at h1 h2
  rw [← h1, ← h2]
  exact h
theorem khas_c (k : List Fg) (i r c : Nat) (hr : RightK k) (hc : c < M64) (hz : SzK k) : Cn Tryz.prog 24 [kp k, .v (.int .u64 i), .v (.int .u64 r), .v (.int .u64 c)] (.v (.bool (hasK k i r c))) := by
  refine cn_memL rfl (enters_of Tryz.func24 (by kernel_rfl) rfl) fun D w vs hG hD hsz hd => ?_
  obtain ⟨a, cap, fs, e0, hl, hrow, hfs⟩ := kp_row (hd 0 _ rfl) hD
  have hvs : vs = #[.slice a k.length cap, .int .u64 (i : Nat), .int .u64 (r : Nat), .int .u64 (c : Nat)] := by
    have q1 := (hd 1 _ rfl).v_inv
    have q2 := (hd 2 _ rfl).v_inv
    have q3 := (hd 3 _ rfl).v_inv
    obtain ⟨l⟩ := vs
    match l, hsz with
    | [x, y, z, t], _ =>
      simp at e0 q1 q2 q3
      rw [e0, q1, q2, q3]
  rw [hvs]
  refine (has_calls a k.length cap i r c (wl (fun j => mem (k.getD j default).items i) 0 fs) (fun p => mem (knV (k.getD p.1 default).vec r) c) w (fun W hlow hs5 c3 c4 => ?_) fun W p hp hb => ?_).mono ?_
  · have hw : ∀ b o x, D b o → w.cell? ⟨b, o, none⟩ = some x → W.cell? ⟨b, o, none⟩ = some x := fun b o x hd hx => (World.cell?_of_block (a := ⟨b, o, none⟩) (hlow b (hD b o hd))).trans hx
    refine with1_at fs _ a cap _ 0 _ 0 w.heap.size i W ?_ (by rw [hl]; exact c3) c4 (by omega) fun w' j hj hlow' hsz' => ?_
    · obtain ⟨h1, h2, h3⟩ := hrow
      refine ⟨h1, h2, fun hne => ?_⟩
      obtain ⟨b, off, e1, e2, e3⟩ := h3 hne
      exact ⟨b, off, e1, e2, fun j hj => ⟨(World.cell?_of_block (a := ⟨b, off + j * 2, none⟩) (hlow b e2)).trans (e3 j hj).1, (World.cell?_of_block (a := ⟨b, off + j * 2 + 1, none⟩) (hlow b e2)).trans (e3 j hj).2⟩⟩
    · have hw' : ∀ b o x, D b o → w.cell? ⟨b, o, none⟩ = some x → w'.cell? ⟨b, o, none⟩ = some x := fun b o x hd hx => (World.cell?_of_block (a := ⟨b, o, none⟩) (hlow' b (hD b o hd))).trans (hw b o x hd hx)
      have hj' : j < k.length := hl ▸ hj
      have hm := List.getElem_mem hj'
      simp only [getD_at hj']
      refine (cn_w (rhas_c k[j].items i (hr _ hm).1 (hz.2 _ hm).1) (hG.mono (fun _ _ h => h) hw') (fun b o h => Nat.lt_of_lt_of_le (hD b o h) hsz') rfl (fun t p hp => ?_)).mono ?_
      · match t, hp with
        | 0, hp => cases hp; exact (hfs j hj).1.mono (fun _ _ h => h) hw'
        | 1, hp => cases hp; exact .v _
        | t + 2, hp => simp at hp
      · rintro e W' ⟨v, rfl, hb', hd⟩
        rw [hd.v_inv]
        exact ⟨rfl, hb'⟩
  · have hw : ∀ b o x, D b o → w.cell? ⟨b, o, none⟩ = some x → W.cell? ⟨b, o, none⟩ = some x := fun b o x hd hx => (hb.cell (p := ⟨b, o, none⟩) (hD b o hd)).trans hx
    obtain ⟨hp1, _, hp3, _⟩ := wl_mem hp
    have hj : p.1 < fs.length := by simpa using hp1
    have hj' : p.1 < k.length := hl ▸ hj
    have hm := List.getElem_mem hj'
    have e : p.2 = fs[p.1] := by rw [hp3]; simp
    simp only [getD_at hj', e]
    refine (cn_w (vhas_c k[p.1].vec r c (hr _ hm).2 hc (hz.2 _ hm).2.1 (hz.2 _ hm).2.2) (hG.mono (fun _ _ h => h) hw) (fun b o h => Nat.lt_of_lt_of_le (hD b o h) hb.size) rfl (fun t p' hp' => ?_)).mono ?_
    · match t, hp' with
      | 0, hp' => cases hp'; exact (hfs p.1 hj).2.mono (fun _ _ h => h) hw
      | 1, hp' => cases hp'; exact .v _
      | 2, hp' => cases hp'; exact .v _
      | t + 3, hp' => simp at hp'
    · rintro e W' ⟨v, rfl, hb', hd⟩
      rw [hd.v_inv]
      exact ⟨rfl, hb'⟩
  · rintro e w' ⟨rfl, hb⟩
    rw [wl_any hl i (fun f => mem (knV f.vec r) c), hasK_with]
    exact ⟨_, rfl, hb, .v _⟩
theorem kat_c {C : Nat → List Nat} {R : List Nat} (k : List Fg) (i : Nat) (hk : IK C R k) (ok : OkC C R) (hr : RightK k) (hs : ∀ f ∈ k, SmV f.vec) (hz : SzK k) : Cn Tryz.prog 37 [kp k, .v (.int .u64 i)] (vp (vecAt k i)) := by
  refine cn_go Tryz.func37 [] 2 (by kernel_rfl) rfl (by simp [go_sem, seval]) ?_
  conv => arg 4; cbv
  conv => enter [5, 1]; cbv
  try simp (maxSteps := 2000000) (disch := omega) only [go_sem, seval]
  try repeat ((with_reducible refine And.intro ?_ ?_); focus (first | omega | assumption | exact True.intro | (show anyD _ _ = true; exact rfl) | (simp only [List.length_map, List.length_append, List.length_cons, List.length_nil, List.length_take, List.length_drop]; omega)))
  (first | refine callP.mk (kwith_c k i) rfl ?_ | refine callQ.mk (kwith_c k i) rfl ?_ | refine callO.rd (kwith_c k i) rfl ?_ | refine callO.mk (kwith_c k i) rfl ?_)
  try simp (maxSteps := 2000000) (disch := omega) only [go_sem, seval]
  try repeat ((with_reducible refine And.intro ?_ ?_); focus (first | omega | assumption | exact True.intro | (show anyD _ _ = true; exact rfl) | (simp only [List.length_map, List.length_append, List.length_cons, List.length_nil, List.length_take, List.length_drop]; omega)))
  (first | refine callP.mk (foldV_c k i hk ok hr hs hz) rfl ?_ | refine callQ.mk (foldV_c k i hk ok hr hs hz) rfl ?_ | refine callO.rd (foldV_c k i hk ok hr hs hz) rfl ?_ | refine callO.mk (foldV_c k i hk ok hr hs hz) rfl ?_)
  try simp (maxSteps := 2000000) (disch := omega) only [go_sem, seval]
  try repeat ((with_reducible refine And.intro ?_ ?_); focus (first | omega | assumption | exact True.intro | (show anyD _ _ = true; exact rfl) | (simp only [List.length_map, List.length_append, List.length_cons, List.length_nil, List.length_take, List.length_drop]; omega)))
theorem kitems_c (k : List Fg) (hr : RightK k) (hz : SzK k) (hs : ∀ f ∈ k, f.items.length ≤ 100000) (hc : (CI k).length ≤ 100000) : Cn Tryz.prog 26 [kp k] (rg (itemsK k)) := by
  refine cn_go Tryz.func26 [] 1 (by kernel_rfl) rfl (by simp [go_sem, seval]) ?_
  conv => arg 4; cbv
  conv => enter [5, 1]; cbv
  try simp (maxSteps := 2000000) (disch := omega) only [go_sem, seval]
  try repeat ((with_reducible refine And.intro ?_ ?_); focus (first | omega | assumption | exact True.intro | (show anyD _ _ = true; exact rfl) | (simp only [List.length_map, List.length_append, List.length_cons, List.length_nil, List.length_take, List.length_drop]; omega)))
  (first | refine callP.mk (kall_c k) rfl ?_ | refine callQ.mk (kall_c k) rfl ?_ | refine callO.rd (kall_c k) rfl ?_ | refine callO.mk (kall_c k) rfl ?_)
  try simp (maxSteps := 2000000) (disch := omega) only [go_sem, seval]
  try repeat ((with_reducible refine And.intro ?_ ?_); focus (first | omega | assumption | exact True.intro | (show anyD _ _ = true; exact rfl) | (simp only [List.length_map, List.length_append, List.length_cons, List.length_nil, List.length_take, List.length_drop]; omega)))
  (first | refine callP.mk (foldR_c k hr hz hs hc) rfl ?_ | refine callQ.mk (foldR_c k hr hz hs hc) rfl ?_ | refine callO.rd (foldR_c k hr hz hs hc) rfl ?_ | refine callO.mk (foldR_c k hr hz hs hc) rfl ?_)
  try simp (maxSteps := 2000000) (disch := omega) only [go_sem, seval]
  try repeat ((with_reducible refine And.intro ?_ ?_); focus (first | omega | assumption | exact True.intro | (show anyD _ _ = true; exact rfl) | (simp only [List.length_map, List.length_append, List.length_cons, List.length_nil, List.length_take, List.length_drop]; omega)))
end Go.Proofs.YtjmhmeadcphfmaaGreatDoor
/- The contracts of scope (Check, Same) and of kenningref11; the example of chapter 11. -/
namespace Go.Proofs.YtjmhmeadcphfmaaGreatDoor
set_option linter.unusedVariables false
set_option linter.unusedSimpArgs false
open Go.RowKit
set_option maxRecDepth 100000
theorem kfew_c (k : List Fg) (hb : BdK k) : Cn Tryz.prog 21 [kp k] (.v (.bool (fewK k))) := by
  have hl := hb.2
  refine cn_go Tryz.func21 [] 1 (by kernel_rfl) rfl (by simp [go_sem, seval]) ?_
  conv => arg 4; cbv
  conv => enter [5, 1]; cbv
  try simp (maxSteps := 2000000) (disch := omega) only [go_sem, seval]
  try repeat ((with_reducible refine And.intro ?_ ?_); focus (first | omega | assumption | exact True.intro | (show anyD _ _ = true; exact rfl) | (simp only [List.length_map, List.length_append, List.length_cons, List.length_nil, List.length_take, List.length_drop]; omega)))
  refine pLoop.go (fun j => j ≤ k.length ∧ fewK k = ((k.drop j).all (fun f => decide (f.items.length ≤ 20) && fewB f.vec) && decide (k.length ≤ 12))) (fun j => [(3, .v (.int .i64 (j : Nat)))]) (fun _ => []) (fun j => k.length - j) 0 [3] ?_ ?_ ?_
  · exact ⟨Nat.zero_le _, rfl⟩
  · try simp (maxSteps := 2000000) (disch := omega) only [go_sem, seval]
    try repeat ((with_reducible refine And.intro ?_ ?_); focus (first | omega | assumption | exact True.intro | (show anyD _ _ = true; exact rfl) | (simp only [List.length_map, List.length_append, List.length_cons, List.length_nil, List.length_take, List.length_drop]; omega)))
  · rintro j ⟨hj, hm⟩
    try simp (maxSteps := 2000000) (disch := omega) only [go_sem, seval]
    try repeat ((with_reducible refine And.intro ?_ ?_); focus (first | omega | assumption | exact True.intro | (show anyD _ _ = true; exact rfl) | (simp only [List.length_map, List.length_append, List.length_cons, List.length_nil, List.length_take, List.length_drop]; omega)))
    (first | refine brP.mk (fun h => ?_) (fun h => ?_) | refine gdP.mkt (fun h => ?_) (fun h => ?_) | refine gdP.mkf (fun h => ?_) (fun h => ?_) | refine pkP.mk (fun h => ?_) (fun h => ?_)) <;> (try simp only [Bool.not_true, Bool.not_false, decide_eq_true_eq, decide_eq_false_iff_not, Bool.and_eq_true, Bool.or_eq_true, Bool.not_eq_true', Bool.not_eq_false', Bool.and_eq_false_iff, Bool.or_eq_false_iff, Nat.not_lt, Int.not_lt, Nat.not_le, Int.not_le, Int.ofNat_lt, Int.ofNat_le, Int.ofNat_inj, Bool.xor_false, Bool.false_xor, Bool.true_xor, Bool.xor_true] at h) <;> (try simp (maxSteps := 2000000) (disch := omega) only [go_sem, seval]) <;> (try repeat ((with_reducible refine And.intro ?_ ?_); focus (first | omega | assumption | exact True.intro | (show anyD _ _ = true; exact rfl) | (simp only [List.length_map, List.length_append, List.length_cons, List.length_nil, List.length_take, List.length_drop]; omega))))
    · rw [List.drop_eq_getElem_cons h, List.all_cons] at hm
      have hbj := hb.1 _ (List.getElem_mem h)
      have hbi := hbj.2.2.1
      try simp (maxSteps := 2000000) (disch := omega) only [go_sem, seval]
      try repeat ((with_reducible refine And.intro ?_ ?_); focus (first | omega | assumption | exact True.intro | (show anyD _ _ = true; exact rfl) | (simp only [List.length_map, List.length_append, List.length_cons, List.length_nil, List.length_take, List.length_drop]; omega)))
      (first | refine brP.mk (fun h2 => ?_) (fun h2 => ?_) | refine gdP.mkt (fun h2 => ?_) (fun h2 => ?_) | refine gdP.mkf (fun h2 => ?_) (fun h2 => ?_) | refine pkP.mk (fun h2 => ?_) (fun h2 => ?_)) <;> (try simp only [Bool.not_true, Bool.not_false, decide_eq_true_eq, decide_eq_false_iff_not, Bool.and_eq_true, Bool.or_eq_true, Bool.not_eq_true', Bool.not_eq_false', Bool.and_eq_false_iff, Bool.or_eq_false_iff, Nat.not_lt, Int.not_lt, Nat.not_le, Int.not_le, Int.ofNat_lt, Int.ofNat_le, Int.ofNat_inj, Bool.xor_false, Bool.false_xor, Bool.true_xor, Bool.xor_true] at h2) <;> (try simp (maxSteps := 2000000) (disch := omega) only [go_sem, seval]) <;> (try repeat ((with_reducible refine And.intro ?_ ?_); focus (first | omega | assumption | exact True.intro | (show anyD _ _ = true; exact rfl) | (simp only [List.length_map, List.length_append, List.length_cons, List.length_nil, List.length_take, List.length_drop]; omega))))
      · rw [hm, decide_eq_false (by omega)]
        rfl
      · rw [decide_eq_true (by omega), Bool.true_and] at hm
        (first | refine callP.mk (few_c k[j].vec hbj.2.2.2) rfl ?_ | refine callQ.mk (few_c k[j].vec hbj.2.2.2) rfl ?_ | refine callO.rd (few_c k[j].vec hbj.2.2.2) rfl ?_ | refine callO.mk (few_c k[j].vec hbj.2.2.2) rfl ?_)
        try simp (maxSteps := 2000000) (disch := omega) only [go_sem, seval]
        try repeat ((with_reducible refine And.intro ?_ ?_); focus (first | omega | assumption | exact True.intro | (show anyD _ _ = true; exact rfl) | (simp only [List.length_map, List.length_append, List.length_cons, List.length_nil, List.length_take, List.length_drop]; omega)))
        (first | refine brP.mk (fun h3 => ?_) (fun h3 => ?_) | refine gdP.mkt (fun h3 => ?_) (fun h3 => ?_) | refine gdP.mkf (fun h3 => ?_) (fun h3 => ?_) | refine pkP.mk (fun h3 => ?_) (fun h3 => ?_)) <;> (try simp only [Bool.not_true, Bool.not_false, decide_eq_true_eq, decide_eq_false_iff_not, Bool.and_eq_true, Bool.or_eq_true, Bool.not_eq_true', Bool.not_eq_false', Bool.and_eq_false_iff, Bool.or_eq_false_iff, Nat.not_lt, Int.not_lt, Nat.not_le, Int.not_le, Int.ofNat_lt, Int.ofNat_le, Int.ofNat_inj, Bool.xor_false, Bool.false_xor, Bool.true_xor, Bool.xor_true] at h3) <;> (try simp (maxSteps := 2000000) (disch := omega) only [go_sem, seval]) <;> (try repeat ((with_reducible refine And.intro ?_ ?_); focus (first | omega | assumption | exact True.intro | (show anyD _ _ = true; exact rfl) | (simp only [List.length_map, List.length_append, List.length_cons, List.length_nil, List.length_take, List.length_drop]; omega))))
        · rw [hm, h3]
          rfl
        · rw [h3, Bool.true_and] at hm
          exact ⟨j + 1, ⟨h, hm⟩, by omega, rfl⟩
    · rw [hm, List.drop_of_length_le (by omega)]
      simp
      omega
theorem refKCheck_c (k : List Fg) (hb : BdK k) (hz : SzK k) : Cn Tryz.prog 34 [kp k] (.tup [.v (.int .i64 (ckK k).1), .v (.int .i64 (ckK k).2)]) := by
  have hl := hz.1
  refine cn_go Tryz.func34 [] 1 (by kernel_rfl) rfl (by simp [go_sem, seval]) ?_
  conv => arg 4; cbv
  conv => enter [5, 1]; cbv
  try simp (maxSteps := 2000000) (disch := omega) only [go_sem, seval]
  try repeat ((with_reducible refine And.intro ?_ ?_); focus (first | omega | assumption | exact True.intro | (show anyD _ _ = true; exact rfl) | (simp only [List.length_map, List.length_append, List.length_cons, List.length_nil, List.length_take, List.length_drop]; omega)))
  refine pLoop.go (fun j => j ≤ k.length ∧ ckK k = hkK j (k.drop j)) (fun j => [(4, .v (.int .i64 (j : Nat)))]) (fun _ => []) (fun j => k.length - j) 0 [4] ?_ ?_ ?_
  · exact ⟨Nat.zero_le _, rfl⟩
  · try simp (maxSteps := 2000000) (disch := omega) only [go_sem, seval]
    try repeat ((with_reducible refine And.intro ?_ ?_); focus (first | omega | assumption | exact True.intro | (show anyD _ _ = true; exact rfl) | (simp only [List.length_map, List.length_append, List.length_cons, List.length_nil, List.length_take, List.length_drop]; omega)))
  · rintro j ⟨hj, hm⟩
    try simp (maxSteps := 2000000) (disch := omega) only [go_sem, seval]
    try repeat ((with_reducible refine And.intro ?_ ?_); focus (first | omega | assumption | exact True.intro | (show anyD _ _ = true; exact rfl) | (simp only [List.length_map, List.length_append, List.length_cons, List.length_nil, List.length_take, List.length_drop]; omega)))
    (first | refine brP.mk (fun h => ?_) (fun h => ?_) | refine gdP.mkt (fun h => ?_) (fun h => ?_) | refine gdP.mkf (fun h => ?_) (fun h => ?_) | refine pkP.mk (fun h => ?_) (fun h => ?_)) <;> (try simp only [Bool.not_true, Bool.not_false, decide_eq_true_eq, decide_eq_false_iff_not, Bool.and_eq_true, Bool.or_eq_true, Bool.not_eq_true', Bool.not_eq_false', Bool.and_eq_false_iff, Bool.or_eq_false_iff, Nat.not_lt, Int.not_lt, Nat.not_le, Int.not_le, Int.ofNat_lt, Int.ofNat_le, Int.ofNat_inj, Bool.xor_false, Bool.false_xor, Bool.true_xor, Bool.xor_true] at h) <;> (try simp (maxSteps := 2000000) (disch := omega) only [go_sem, seval]) <;> (try repeat ((with_reducible refine And.intro ?_ ?_); focus (first | omega | assumption | exact True.intro | (show anyD _ _ = true; exact rfl) | (simp only [List.length_map, List.length_append, List.length_cons, List.length_nil, List.length_take, List.length_drop]; omega))))
    · rw [List.drop_eq_getElem_cons h, hkK] at hm
      have hbj := hb.1 _ (List.getElem_mem h)
      have hzj := hz.2 _ (List.getElem_mem h)
      try simp (maxSteps := 2000000) (disch := omega) only [go_sem, seval]
      try repeat ((with_reducible refine And.intro ?_ ?_); focus (first | omega | assumption | exact True.intro | (show anyD _ _ = true; exact rfl) | (simp only [List.length_map, List.length_append, List.length_cons, List.length_nil, List.length_take, List.length_drop]; omega)))
      (first | refine callP.mk (check4_c k[j].items hzj.1 hbj.1) rfl ?_ | refine callQ.mk (check4_c k[j].items hzj.1 hbj.1) rfl ?_ | refine callO.rd (check4_c k[j].items hzj.1 hbj.1) rfl ?_ | refine callO.mk (check4_c k[j].items hzj.1 hbj.1) rfl ?_)
      try simp (maxSteps := 2000000) (disch := omega) only [go_sem, seval]
      try repeat ((with_reducible refine And.intro ?_ ?_); focus (first | omega | assumption | exact True.intro | (show anyD _ _ = true; exact rfl) | (simp only [List.length_map, List.length_append, List.length_cons, List.length_nil, List.length_take, List.length_drop]; omega)))
      (first | refine brP.mk (fun h2 => ?_) (fun h2 => ?_) | refine gdP.mkt (fun h2 => ?_) (fun h2 => ?_) | refine gdP.mkf (fun h2 => ?_) (fun h2 => ?_) | refine pkP.mk (fun h2 => ?_) (fun h2 => ?_)) <;> (try simp only [Bool.not_true, Bool.not_false, decide_eq_true_eq, decide_eq_false_iff_not, Bool.and_eq_true, Bool.or_eq_true, Bool.not_eq_true', Bool.not_eq_false', Bool.and_eq_false_iff, Bool.or_eq_false_iff, Nat.not_lt, Int.not_lt, Nat.not_le, Int.not_le, Int.ofNat_lt, Int.ofNat_le, Int.ofNat_inj, Bool.xor_false, Bool.false_xor, Bool.true_xor, Bool.xor_true] at h2) <;> (try simp (maxSteps := 2000000) (disch := omega) only [go_sem, seval]) <;> (try repeat ((with_reducible refine And.intro ?_ ?_); focus (first | omega | assumption | exact True.intro | (show anyD _ _ = true; exact rfl) | (simp only [List.length_map, List.length_append, List.length_cons, List.length_nil, List.length_take, List.length_drop]; omega))))
      · rw [if_neg (by omega)] at hm
        (first | refine callP.mk (refCheck_c k[j].vec hbj.2.1 hzj.2.1 hzj.2.2) rfl ?_ | refine callQ.mk (refCheck_c k[j].vec hbj.2.1 hzj.2.1 hzj.2.2) rfl ?_ | refine callO.rd (refCheck_c k[j].vec hbj.2.1 hzj.2.1 hzj.2.2) rfl ?_ | refine callO.mk (refCheck_c k[j].vec hbj.2.1 hzj.2.1 hzj.2.2) rfl ?_)
        try simp (maxSteps := 2000000) (disch := omega) only [go_sem, seval]
        try repeat ((with_reducible refine And.intro ?_ ?_); focus (first | omega | assumption | exact True.intro | (show anyD _ _ = true; exact rfl) | (simp only [List.length_map, List.length_append, List.length_cons, List.length_nil, List.length_take, List.length_drop]; omega)))
        (first | refine brP.mk (fun h3 => ?_) (fun h3 => ?_) | refine gdP.mkt (fun h3 => ?_) (fun h3 => ?_) | refine gdP.mkf (fun h3 => ?_) (fun h3 => ?_) | refine pkP.mk (fun h3 => ?_) (fun h3 => ?_)) <;> (try simp only [Bool.not_true, Bool.not_false, decide_eq_true_eq, decide_eq_false_iff_not, Bool.and_eq_true, Bool.or_eq_true, Bool.not_eq_true', Bool.not_eq_false', Bool.and_eq_false_iff, Bool.or_eq_false_iff, Nat.not_lt, Int.not_lt, Nat.not_le, Int.not_le, Int.ofNat_lt, Int.ofNat_le, Int.ofNat_inj, Bool.xor_false, Bool.false_xor, Bool.true_xor, Bool.xor_true] at h3) <;> (try simp (maxSteps := 2000000) (disch := omega) only [go_sem, seval]) <;> (try repeat ((with_reducible refine And.intro ?_ ?_); focus (first | omega | assumption | exact True.intro | (show anyD _ _ = true; exact rfl) | (simp only [List.length_map, List.length_append, List.length_cons, List.length_nil, List.length_take, List.length_drop]; omega))))
        · rw [if_pos (by omega)] at hm
          rw [hm]
        · rw [if_neg (by omega)] at hm
          exact ⟨j + 1, ⟨h, hm⟩, by omega, rfl⟩
      · rw [if_pos (by omega)] at hm
        (first | refine brP.mk (fun h3 => ?_) (fun h3 => ?_) | refine gdP.mkt (fun h3 => ?_) (fun h3 => ?_) | refine gdP.mkf (fun h3 => ?_) (fun h3 => ?_) | refine pkP.mk (fun h3 => ?_) (fun h3 => ?_)) <;> (try simp only [Bool.not_true, Bool.not_false, decide_eq_true_eq, decide_eq_false_iff_not, Bool.and_eq_true, Bool.or_eq_true, Bool.not_eq_true', Bool.not_eq_false', Bool.and_eq_false_iff, Bool.or_eq_false_iff, Nat.not_lt, Int.not_lt, Nat.not_le, Int.not_le, Int.ofNat_lt, Int.ofNat_le, Int.ofNat_inj, Bool.xor_false, Bool.false_xor, Bool.true_xor, Bool.xor_true] at h3) <;> (try simp (maxSteps := 2000000) (disch := omega) only [go_sem, seval]) <;> (try repeat ((with_reducible refine And.intro ?_ ?_); focus (first | omega | assumption | exact True.intro | (show anyD _ _ = true; exact rfl) | (simp only [List.length_map, List.length_append, List.length_cons, List.length_nil, List.length_take, List.length_drop]; omega))))
        · rw [hm]
        · exact absurd h3 (by omega)
    · rw [hm, List.drop_of_length_le (by omega)]
      rfl
theorem kright_c (k : List Fg) (hb : BdK k) (hz : SzK k) : Cn Tryz.prog 22 [kp k] (.v (.bool (decide ((ckK k).1 = 0)))) := by
  refine cn_go Tryz.func22 [] 1 (by kernel_rfl) rfl (by simp [go_sem, seval]) ?_
  conv => arg 4; cbv
  conv => enter [5, 1]; cbv
  try simp (maxSteps := 2000000) (disch := omega) only [go_sem, seval]
  try repeat ((with_reducible refine And.intro ?_ ?_); focus (first | omega | assumption | exact True.intro | (show anyD _ _ = true; exact rfl) | (simp only [List.length_map, List.length_append, List.length_cons, List.length_nil, List.length_take, List.length_drop]; omega)))
  (first | refine callP.mk (refKCheck_c k hb hz) rfl ?_ | refine callQ.mk (refKCheck_c k hb hz) rfl ?_ | refine callO.rd (refKCheck_c k hb hz) rfl ?_ | refine callO.mk (refKCheck_c k hb hz) rfl ?_)
  try simp (maxSteps := 2000000) (disch := omega) only [go_sem, seval]
  try repeat ((with_reducible refine And.intro ?_ ?_); focus (first | omega | assumption | exact True.intro | (show anyD _ _ = true; exact rfl) | (simp only [List.length_map, List.length_append, List.length_cons, List.length_nil, List.length_take, List.length_drop]; omega)))
theorem refKItems_c (k : List Fg) (hr : RightK k) (hz : SzK k) (hs : ∀ f ∈ k, f.items.length ≤ 100000) (hc : (CI k).length ≤ 100000) : Cn Tryz.prog 29 [kp k] (rg (itemsK k)) := by
  have hl := hz.1
  refine cn_go Tryz.func29 [] 1 (by kernel_rfl) rfl (by simp [go_sem, seval]) ?_
  conv => arg 4; cbv
  conv => enter [5, 1]; cbv
  try simp (maxSteps := 2000000) (disch := omega) only [go_sem, seval]
  try repeat ((with_reducible refine And.intro ?_ ?_); focus (first | omega | assumption | exact True.intro | (show anyD _ _ = true; exact rfl) | (simp only [List.length_map, List.length_append, List.length_cons, List.length_nil, List.length_take, List.length_drop]; omega)))
  refine pLoop.go (fun j => j ≤ k.length) (fun j => [(3, rg (itemsK (k.take j))), (4, .v (.int .i64 (j : Nat)))]) (fun _ => []) (fun j => k.length - j) 0 [3, 4] ?_ ?_ ?_
  · exact Nat.zero_le _
  · simp only [List.take_zero, itemsK, List.foldl_nil]
    try simp (maxSteps := 2000000) (disch := omega) only [go_sem, seval]
    try repeat ((with_reducible refine And.intro ?_ ?_); focus (first | omega | assumption | exact True.intro | (show anyD _ _ = true; exact rfl) | (simp only [List.length_map, List.length_append, List.length_cons, List.length_nil, List.length_take, List.length_drop]; omega)))
  · rintro j hj
    try simp (maxSteps := 2000000) (disch := omega) only [go_sem, seval]
    try repeat ((with_reducible refine And.intro ?_ ?_); focus (first | omega | assumption | exact True.intro | (show anyD _ _ = true; exact rfl) | (simp only [List.length_map, List.length_append, List.length_cons, List.length_nil, List.length_take, List.length_drop]; omega)))
    (first | refine brP.mk (fun h => ?_) (fun h => ?_) | refine gdP.mkt (fun h => ?_) (fun h => ?_) | refine gdP.mkf (fun h => ?_) (fun h => ?_) | refine pkP.mk (fun h => ?_) (fun h => ?_)) <;> (try simp only [Bool.not_true, Bool.not_false, decide_eq_true_eq, decide_eq_false_iff_not, Bool.and_eq_true, Bool.or_eq_true, Bool.not_eq_true', Bool.not_eq_false', Bool.and_eq_false_iff, Bool.or_eq_false_iff, Nat.not_lt, Int.not_lt, Nat.not_le, Int.not_le, Int.ofNat_lt, Int.ofNat_le, Int.ofNat_inj, Bool.xor_false, Bool.false_xor, Bool.true_xor, Bool.xor_true] at h) <;> (try simp (maxSteps := 2000000) (disch := omega) only [go_sem, seval]) <;> (try repeat ((with_reducible refine And.intro ?_ ?_); focus (first | omega | assumption | exact True.intro | (show anyD _ _ = true; exact rfl) | (simp only [List.length_map, List.length_append, List.length_cons, List.length_nil, List.length_take, List.length_drop]; omega))))
    · have hst := itemsK_take h
      have hn := (hr.take j).items
      have hlt : (CI (k.take j)).length ≤ (CI k).length := by
        have : CI k = CI (k.take j) ++ CI (k.drop j) := by unfold CI; rw [← List.flatMap_append, List.take_append_drop]
        rw [this]; simp
      have hsj := hs _ (List.getElem_mem h)
      have hl3 := hn.2.2
      try simp (maxSteps := 2000000) (disch := omega) only [go_sem, seval]
      try repeat ((with_reducible refine And.intro ?_ ?_); focus (first | omega | assumption | exact True.intro | (show anyD _ _ = true; exact rfl) | (simp only [List.length_map, List.length_append, List.length_cons, List.length_nil, List.length_take, List.length_drop]; omega)))
      (first | refine callP.mk (refUnion_c (itemsK (k.take j)) k[j].items hn.1 (hr _ (List.getElem_mem h)).1 (by omega) (by omega)) rfl ?_ | refine callQ.mk (refUnion_c (itemsK (k.take j)) k[j].items hn.1 (hr _ (List.getElem_mem h)).1 (by omega) (by omega)) rfl ?_ | refine callO.rd (refUnion_c (itemsK (k.take j)) k[j].items hn.1 (hr _ (List.getElem_mem h)).1 (by omega) (by omega)) rfl ?_ | refine callO.mk (refUnion_c (itemsK (k.take j)) k[j].items hn.1 (hr _ (List.getElem_mem h)).1 (by omega) (by omega)) rfl ?_)
      try simp (maxSteps := 2000000) (disch := omega) only [go_sem, seval]
      try repeat ((with_reducible refine And.intro ?_ ?_); focus (first | omega | assumption | exact True.intro | (show anyD _ _ = true; exact rfl) | (simp only [List.length_map, List.length_append, List.length_cons, List.length_nil, List.length_take, List.length_drop]; omega)))
      exact ⟨j + 1, h, by omega, by rw [hst], rfl⟩
    · rw [show k.take j = k from List.take_of_length_le (by omega)]
theorem refKMemb_c (k : List Fg) (i : Nat) (hz : SzK k) (hkl : k.length ≤ 1073741824) : Cn Tryz.prog 31 [kp k, .v (.int .u64 i)] (is (membK k i)) := by
  have hl := hz.1
  refine cn_go Tryz.func31 [] 2 (by kernel_rfl) rfl (by simp [go_sem, seval]) ?_
  conv => arg 4; cbv
  conv => enter [5, 1]; cbv
  try simp (maxSteps := 2000000) (disch := omega) only [go_sem, seval]
  try repeat ((with_reducible refine And.intro ?_ ?_); focus (first | omega | assumption | exact True.intro | (show anyD _ _ = true; exact rfl) | (simp only [List.length_map, List.length_append, List.length_cons, List.length_nil, List.length_take, List.length_drop]; omega)))
  refine pLoop.go (fun j => j ≤ k.length) (fun j => [(5, .sl ((membK (k.take j) i).map fun x => [.v (.int .i64 (x : Nat))]) (.r 23 1)), (6, .v (.int .i64 (j : Nat)))]) (fun _ => []) (fun j => k.length - j) 0 [5, 6, 23] ?_ ?_ ?_
  · exact Nat.zero_le _
  · simp only [List.take_zero, membK, withF, List.map_nil]
    try simp (maxSteps := 2000000) (disch := omega) only [go_sem, seval]
    try repeat ((with_reducible refine And.intro ?_ ?_); focus (first | omega | assumption | exact True.intro | (show anyD _ _ = true; exact rfl) | (simp only [List.length_map, List.length_append, List.length_cons, List.length_nil, List.length_take, List.length_drop]; omega)))
  · rintro j hj
    have hml := membK_len (k.take j) i
    have hml2 : (membK (k.take j) i).length ≤ j := by simp at hml; omega
    try simp (maxSteps := 2000000) (disch := omega) only [go_sem, seval]
    try repeat ((with_reducible refine And.intro ?_ ?_); focus (first | omega | assumption | exact True.intro | (show anyD _ _ = true; exact rfl) | (simp only [List.length_map, List.length_append, List.length_cons, List.length_nil, List.length_take, List.length_drop]; omega)))
    (first | refine brP.mk (fun h => ?_) (fun h => ?_) | refine gdP.mkt (fun h => ?_) (fun h => ?_) | refine gdP.mkf (fun h => ?_) (fun h => ?_) | refine pkP.mk (fun h => ?_) (fun h => ?_)) <;> (try simp only [Bool.not_true, Bool.not_false, decide_eq_true_eq, decide_eq_false_iff_not, Bool.and_eq_true, Bool.or_eq_true, Bool.not_eq_true', Bool.not_eq_false', Bool.and_eq_false_iff, Bool.or_eq_false_iff, Nat.not_lt, Int.not_lt, Nat.not_le, Int.not_le, Int.ofNat_lt, Int.ofNat_le, Int.ofNat_inj, Bool.xor_false, Bool.false_xor, Bool.true_xor, Bool.xor_true] at h) <;> (try simp (maxSteps := 2000000) (disch := omega) only [go_sem, seval]) <;> (try repeat ((with_reducible refine And.intro ?_ ?_); focus (first | omega | assumption | exact True.intro | (show anyD _ _ = true; exact rfl) | (simp only [List.length_map, List.length_append, List.length_cons, List.length_nil, List.length_take, List.length_drop]; omega))))
    · have hst := membK_take i h
      have hzj := hz.2 _ (List.getElem_mem h)
      try simp (maxSteps := 2000000) (disch := omega) only [go_sem, seval]
      try repeat ((with_reducible refine And.intro ?_ ?_); focus (first | omega | assumption | exact True.intro | (show anyD _ _ = true; exact rfl) | (simp only [List.length_map, List.length_append, List.length_cons, List.length_nil, List.length_take, List.length_drop]; omega)))
      (first | refine callP.mk (has4_c k[j].items i hzj.1) rfl ?_ | refine callQ.mk (has4_c k[j].items i hzj.1) rfl ?_ | refine callO.rd (has4_c k[j].items i hzj.1) rfl ?_ | refine callO.mk (has4_c k[j].items i hzj.1) rfl ?_)
      try simp (maxSteps := 2000000) (disch := omega) only [go_sem, seval]
      try repeat ((with_reducible refine And.intro ?_ ?_); focus (first | omega | assumption | exact True.intro | (show anyD _ _ = true; exact rfl) | (simp only [List.length_map, List.length_append, List.length_cons, List.length_nil, List.length_take, List.length_drop]; omega)))
      (first | refine brP.mk (fun h2 => ?_) (fun h2 => ?_) | refine gdP.mkt (fun h2 => ?_) (fun h2 => ?_) | refine gdP.mkf (fun h2 => ?_) (fun h2 => ?_) | refine pkP.mk (fun h2 => ?_) (fun h2 => ?_)) <;> (try simp only [Bool.not_true, Bool.not_false, decide_eq_true_eq, decide_eq_false_iff_not, Bool.and_eq_true, Bool.or_eq_true, Bool.not_eq_true', Bool.not_eq_false', Bool.and_eq_false_iff, Bool.or_eq_false_iff, Nat.not_lt, Int.not_lt, Nat.not_le, Int.not_le, Int.ofNat_lt, Int.ofNat_le, Int.ofNat_inj, Bool.xor_false, Bool.false_xor, Bool.true_xor, Bool.xor_true] at h2) <;> (try simp (maxSteps := 2000000) (disch := omega) only [go_sem, seval]) <;> (try repeat ((with_reducible refine And.intro ?_ ?_); focus (first | omega | assumption | exact True.intro | (show anyD _ _ = true; exact rfl) | (simp only [List.length_map, List.length_append, List.length_cons, List.length_nil, List.length_take, List.length_drop]; omega))))
      · rw [if_pos h2] at hst
        refine ⟨j + 1, h, by omega, ?_, rfl⟩
        rw [hst]
        simp
      · rw [if_neg (by rw [h2]; simp), List.append_nil] at hst
        exact ⟨j + 1, h, by omega, by rw [hst], rfl⟩
    · rw [show k.take j = k from List.take_of_length_le (by omega)]
end Go.Proofs.YtjmhmeadcphfmaaGreatDoor
