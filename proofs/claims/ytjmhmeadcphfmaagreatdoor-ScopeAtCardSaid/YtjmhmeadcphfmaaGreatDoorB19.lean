import Derived.Test.YtjmhmeadcphfmaaGreatDoorB18
namespace Go.Proofs.YtjmhmeadcphfmaaGreatDoor
set_option linter.unusedVariables false
set_option linter.unusedSimpArgs false
open Go.RowKit
set_option maxRecDepth 100000
def InvD {α : Type} (D0 : Nat → Nat → Prop) (n : Nat) (pv : α → PV) (P : α → Prop) (W : World) (u : Value) (a : α) : Prop :=
  P a ∧ ∃ D : Nat → Nat → Prop, GL D W ∧ (∀ b o, D b o → b < W.heap.size ∧ b ≠ n ∧ b ≠ n + 2 ∧ b ≠ n + 3) ∧ (∀ b o, D b o → D0 b o ∨ n ≤ b) ∧ (∀ b o, D0 b o → D b o) ∧ Dat D W u (pv a)
section
variable {α : Type} {D0 : Nat → Nat → Prop} {pv : α → PV} {P : α → Prop} {w W A B : World} {u : Value} {a : α}
theorem InvD.start {u0 : Value} (h0 : Dat D0 w u0 (.sl [] .sh)) (hG : GL D0 w) (hD : ∀ b o, D0 b o → b < w.heap.size) (hb : Below w.heap.size w W) (hP : P a) (hp : pv a = .sl [] .sh) : InvD D0 w.heap.size pv P W u0 a := by
  have hw : ∀ b o x, D0 b o → w.cell? ⟨b, o, none⟩ = some x → W.cell? ⟨b, o, none⟩ = some x := fun b o x hd hx => (hb.cell (p := ⟨b, o, none⟩) (hD b o hd)).trans hx
  refine ⟨hP, D0, hG.mono (fun _ _ h => h) hw, fun b o h => ?_, fun _ _ h => .inl h, fun _ _ h => h, ?_⟩
  · have := hD b o h
    have := hb.size
    exact ⟨by omega, by omega, by omega, by omega⟩
  · rw [hp]
    exact h0.mono (fun _ _ h => h) hw
theorem InvD.shape {n : Nat} (h : InvD D0 n pv P W u a) (hp : ∃ es, pv a = .sl es .sh) : ∃ ad n c, u = .slice ad n c := by
  obtain ⟨_, D, _, _, _, _, hd⟩ := h
  obtain ⟨es, e⟩ := hp
  rw [e] at hd
  obtain ⟨s, rfl, _⟩ := sl_shape hd
  exact ⟨_, _, _, rfl⟩
theorem InvD.keep {n : Nat} (h : InvD D0 n pv P A u a) (hk : Keep (fun k => k = n ∨ k = n + 2 ∨ k = n + 3) A B) : InvD D0 n pv P B u a := by
  obtain ⟨hP, D, h1, h2, h3, h4, h5⟩ := h
  have hw : ∀ b o x, D b o → A.cell? ⟨b, o, none⟩ = some x → B.cell? ⟨b, o, none⟩ = some x := fun b o x hd hx =>
    (World.cell?_of_block (a := ⟨b, o, none⟩) (hk.block b (h2 b o hd).1 (by have := h2 b o hd; omega))).trans hx
  exact ⟨hP, D, h1.mono (fun _ _ h => h) hw, fun b o hd => ⟨Nat.lt_of_lt_of_le (h2 b o hd).1 hk.size, (h2 b o hd).2⟩, h3, h4, h5.mono (fun _ _ h => h) hw⟩
theorem fp_dat {D : Nat → Nat → Prop} {f : Fv} {g : Fg} (h0 : Dat D w (sv f.1) (rg g.items)) (h1 : Dat D w (sv f.2) (vp g.vec)) : Dat D w (.agg #[sv f.1, sv f.2]) (fp g) := by
  refine .agg _ _ rfl (fun i hi => ?_) fun i p hp => ?_
  · match i, hi with
    | 0, _ => rfl
    | 1, _ => rfl
  · match i, hp with
    | 0, hp => cases hp; exact h0
    | 1, hp => cases hp; exact h1
    | i + 2, hp => simp [fc] at hp
theorem InvD.step {F1 : FuncId} {i : Nat} {f : Fv} {g : Fg} {a' : α} (h : InvD D0 w.heap.size pv P W u a) (hD : ∀ b o, D0 b o → b < w.heap.size) (hb : Below w.heap.size w W) (hs : w.heap.size + 4 ≤ W.heap.size) (h0 : Dat D0 w (sv f.1) (rg g.items)) (h1 : Dat D0 w (sv f.2) (vp g.vec))
    (hc : Cn Tryz.prog F1 [pv a, .v (.int .i64 i), fp g] (pv a')) (hP : P a') :
    Calls Tryz.prog F1 #[u, .int .i64 (i : Nat), .agg #[sv f.1, sv f.2]] W fun e W' => ∃ u', e = .returned u' ∧ InvD D0 w.heap.size pv P W' u' a' ∧ Keep (RowI (w.heap.size + 4) W) W W' := by
  obtain ⟨_, D, g1, g2, g3, g4, g5⟩ := h
  have hw : ∀ b o x, D0 b o → w.cell? ⟨b, o, none⟩ = some x → W.cell? ⟨b, o, none⟩ = some x := fun b o x hd hx => (hb.cell (p := ⟨b, o, none⟩) (hD b o hd)).trans hx
  refine (cn_w hc g1 (fun b o h => (g2 b o h).1) rfl (fun j p hp => ?_)).mono ?_
  · match j, hp with
    | 0, hp => cases hp; exact g5
    | 1, hp => cases hp; exact .v _
    | 2, hp => cases hp; exact (fp_dat h0 h1).mono g4 hw
    | j + 3, hp => simp at hp
  · rintro e W' ⟨v, rfl, hb', hd⟩
    refine ⟨v, rfl, ⟨hP, _, g1.mono (fun _ _ h => .inl h) fun b o x hd hx => (hb'.cell (p := ⟨b, o, none⟩) (g2 b o hd).1).trans hx, fun b o h => ?_, fun b o h => ?_, fun b o h => .inl (g4 b o h), hd⟩, Keep.of_below' hb' (Nat.le_refl _)⟩
    · rcases h with h | h
      · exact ⟨Nat.lt_of_lt_of_le (g2 b o h).1 hb'.size, (g2 b o h).2⟩
      · exact ⟨h.2, by omega, by omega, by omega⟩
    · rcases h with h | h
      · exact g3 b o h
      · exact .inr (by omega)
theorem InvD.done (h : InvD D0 w.heap.size pv P W u a) : Dat (fun b o => D0 b o ∨ (w.heap.size ≤ b ∧ b < W.heap.size)) W u (pv a) := by
  obtain ⟨_, D, g1, g2, g3, g4, g5⟩ := h
  exact g5.mono (fun b o h => (g3 b o h).imp id fun h' => ⟨h', (g2 b o h).1⟩) fun _ _ _ _ h => h
end
theorem cp_inv {D : Nat → Nat → Prop} {w : World} {x : Value} {p : PV} (h : Dat D w x (.cp [p] 0)) : ∃ b o y, x = .pointer (some ⟨b, o, none⟩) ∧ D b o ∧ w.cell? ⟨b, o, none⟩ = some y ∧ Dat D w y p := by
  obtain ⟨b, off, f, e, h1, h2⟩ := (Rel.dat (ρ := fun _ => 0) (nb := 0) h).inv_cp
  have := h1 0 (by simp)
  exact ⟨b, off, f 0, e, by simpa using this.1, by simpa using this.2.1, h2 0 p rfl⟩
theorem withP_inv {D : Nat → Nat → Prop} {w : World} {x : Value} {k : List Fg} {i : Nat} (h : Dat D w x (withP k i)) : ∃ bk ok bi oi v, x = .func (.func 133) #[] #[.pointer (some ⟨bk, ok, none⟩), .pointer (some ⟨bi, oi, none⟩)] ∧ D bk ok ∧ D bi oi ∧ w.cell? ⟨bk, ok, none⟩ = some v ∧ w.cell? ⟨bi, oi, none⟩ = some (.int .u64 (i : Nat)) ∧ Dat D w v (kp k) := by
  unfold withP at h
  cases h with
  | fn f va vb fs cs h1 h2 h3 h4 =>
    rw [Array.size_eq_zero_iff.1 h1]
    obtain ⟨l⟩ := vb
    match l, h2 with
    | [y, z], _ =>
      obtain ⟨bk, ok, v, e1, d1, c1, q1⟩ := cp_inv (h4 0 _ rfl)
      obtain ⟨bi, oi, u, e2, d2, c2, q2⟩ := cp_inv (h4 1 _ rfl)
      rw [q2.v_inv] at c2
      simp at e1 e2
      subst e1 e2
      exact ⟨bk, ok, bi, oi, v, rfl, d1, d2, c1, c2, q1⟩
theorem allP_inv {D : Nat → Nat → Prop} {w : World} {x : Value} {k : List Fg} (h : Dat D w x (allP k)) : ∃ bk ok v, x = .func (.func 137) #[] #[.pointer (some ⟨bk, ok, none⟩)] ∧ D bk ok ∧ w.cell? ⟨bk, ok, none⟩ = some v ∧ Dat D w v (kp k) := by
  unfold allP at h
  cases h with
  | fn f va vb fs cs h1 h2 h3 h4 =>
    rw [Array.size_eq_zero_iff.1 h1]
    obtain ⟨l⟩ := vb
    match l, h2 with
    | [y], _ =>
      obtain ⟨bk, ok, v, e1, d1, c1, q1⟩ := cp_inv (h4 0 _ rfl)
      simp at e1
      subst e1
      exact ⟨bk, ok, v, rfl, d1, c1, q1⟩
theorem nil_inv {D : Nat → Nat → Prop} {w : World} {x : Value} (h : Dat D w x (.sl [] .sh)) : ∃ ad c, x = .slice ad 0 c := by
  obtain ⟨⟨a, n, c⟩, rfl, e⟩ := sl_shape h
  simp only [List.length_nil] at e
  subst e
  exact ⟨a, c, rfl⟩
def SzK (k : List Fg) : Prop := k.length ≤ 1152921504606846976 ∧ ∀ f ∈ k, f.items.length ≤ 1152921504606846976 ∧ f.vec.length ≤ 1152921504606846976 ∧ ∀ e ∈ f.vec, e.holes.length ≤ 1152921504606846976
theorem with_iter {D : Nat → Nat → Prop} {w : World} {k : List Fg} {i bk ok bi oi : Nat} {a : Option Addr} {cap : Nat} {fs : List Fv} (hr : RightK k) (hz : SzK k) (hG : GL D w) (hD : ∀ b o, D b o → b < w.heap.size) (d1 : D bk ok) (d2 : D bi oi) (c1 : w.cell? ⟨bk, ok, none⟩ = some (.slice a k.length cap)) (c2 : w.cell? ⟨bi, oi, none⟩ = some (.int .u64 (i : Nat)))
    (hl : fs.length = k.length) (hrow : RowF w.heap.size w a cap fs) (hfs : ∀ j (h : j < fs.length), Dat D w (sv fs[j].1) (rg (k[j]'(hl ▸ h)).items) ∧ Dat D w (sv fs[j].2) (vp (k[j]'(hl ▸ h)).vec)) {W : World} (hb : Below w.heap.size w W) :
    IterAt2 Tryz.prog 133 #[.pointer (some ⟨bk, ok, none⟩), .pointer (some ⟨bi, oi, none⟩)] encF (fun _ => False) (PtF w.heap.size bk bi) (wl (fun j => mem (k.getD j default).items i) 0 fs) W := by
  have hw : ∀ b o x, D b o → w.cell? ⟨b, o, none⟩ = some x → W.cell? ⟨b, o, none⟩ = some x := fun b o x hd hx => (hb.cell (p := ⟨b, o, none⟩) (hD b o hd)).trans hx
  refine with1_at fs _ a cap bk ok bi oi w.heap.size i W ?_ (by rw [hl]; exact hw _ _ _ d1 c1) (hw _ _ _ d2 c2) hb.size fun w' j hj hlow hsz => ?_
  · obtain ⟨h1, h2, h3⟩ := hrow
    refine ⟨h1, h2, fun hne => ?_⟩
    obtain ⟨b, off, e1, e2, e3⟩ := h3 hne
    exact ⟨b, off, e1, e2, fun j hj => ⟨(hb.cell (p := ⟨b, off + j * 2, none⟩) e2).trans (e3 j hj).1, (hb.cell (p := ⟨b, off + j * 2 + 1, none⟩) e2).trans (e3 j hj).2⟩⟩
  · have hw' : ∀ b o x, D b o → w.cell? ⟨b, o, none⟩ = some x → w'.cell? ⟨b, o, none⟩ = some x := fun b o x hd hx => (World.cell?_of_block (a := ⟨b, o, none⟩) (hlow b (hD b o hd))).trans (hw b o x hd hx)
    have hj' : j < k.length := hl ▸ hj
    have hm := List.getElem_mem hj'
    have e : k.getD j default = k[j] := by rw [List.getD_eq_getElem?_getD, List.getElem?_eq_getElem hj']; rfl
    simp only [e]
    refine (cn_w (rhas_c k[j].items i (hr _ hm).1 (hz.2 _ hm).1) (hG.mono (fun _ _ h => h) hw') (fun b o h => Nat.lt_of_lt_of_le (hD b o h) hsz) rfl (fun t p hp => ?_)).mono ?_
    · match t, hp with
      | 0, hp => cases hp; exact (hfs j hj).1.mono (fun _ _ h => h) hw'
      | 1, hp => cases hp; exact .v _
      | t + 2, hp => simp at hp
    · rintro e W' ⟨v, rfl, hb', hd⟩
      rw [hd.v_inv]
      exact ⟨rfl, hb'⟩
end Go.Proofs.YtjmhmeadcphfmaaGreatDoor
namespace Go.Proofs.YtjmhmeadcphfmaaGreatDoor
set_option linter.unusedVariables false
set_option linter.unusedSimpArgs false
open Go.RowKit
set_option maxRecDepth 100000
def is (l : List Nat) : PV := .sl (l.map fun x => [.v (.int .i64 (x : Nat))]) .sh
attribute [go_sem] is
theorem getD_at {k : List Fg} {j : Nat} (h : j < k.length) : k.getD j default = k[j] := by rw [List.getD_eq_getElem?_getD, List.getElem?_eq_getElem h]; rfl
theorem pre_mem {α : Type} {pre xs : List α} {p : α} (h : pre ++ [p] <+: xs) : p ∈ xs := h.subset (by simp)
theorem foldV_c {C : Nat → List Nat} {R : List Nat} (k : List Fg) (i : Nat) (hk : IK C R k) (ok : OkC C R) (hr : RightK k) (hs : ∀ f ∈ k, SmV f.vec) (hz : SzK k) :
    Cn Tryz.prog 92 [withP k i, .sl [] .sh, .fn (.func 93) [] []] (vp (vecAt k i)) := by
  refine cn_memL rfl (enters_of Tryz.func92 (by kernel_rfl) rfl) fun D w vs hG hD hsz hd => ?_
  obtain ⟨bk, ok', bi, oi, v, e0, d1, d2, c1, c2, hkv⟩ := withP_inv (hd 0 _ rfl)
  obtain ⟨a, cap, fs, rfl, hl, hrow, hfs⟩ := kp_row hkv hD
  have hn0 := hd 1 _ rfl
  obtain ⟨ad0, c0', e1⟩ := nil_inv hn0
  rw [e1] at hn0
  rw [arr3 hsz, e0, e1, dat_fn (hd 2 _ rfl)]
  refine (foldV_calls 133 _ bk bi _ w ad0 c0' (enters_of Tryz.func133 (by kernel_rfl) rfl) (fun W hb => with_iter hr hz hG hD d1 d2 c1 c2 hl hrow hfs hb) (hD _ _ d1) (hD _ _ d2)
    (InvD D w.heap.size vp (WV C R)) (fun o p => lat fUnion o (k.getD p.1 default).vec) [] (fun W hb => InvD.start hn0 hG hD hb WV.nil rfl) (fun W u a h => h.shape ⟨_, rfl⟩) (fun A B u a h hk => h.keep hk) fun W u pre p hpre hs4 hb h => ?_).mono ?_
  · obtain ⟨hp1, _, hp3, _⟩ := wl_mem (pre_mem hpre)
    have hj : p.1 < fs.length := by simpa using hp1
    have hj' : p.1 < k.length := hl ▸ hj
    have hm := List.getElem_mem hj'
    have q := hfs p.1 hj
    have e : p.2 = fs[p.1] := by rw [hp3]; simp
    rw [getD_at hj', e]
    exact h.step hD hb hs4 q.1 q.2 (at1_c _ p.1 k[p.1] (h.1.smv ok) (hs _ hm)) (h.1.iv.lat fU0 (hk _ hm))
  · rintro e w' ⟨u, rfl, hI, hb⟩
    have h := hI.done
    rw [fold_same hl i (fun o _ f => lat fUnion o f.vec) []] at h
    exact ⟨u, rfl, hb, h⟩
theorem foldR_c (k : List Fg) (hr : RightK k) (hz : SzK k) (hs : ∀ f ∈ k, f.items.length ≤ 100000) (hc : (CI k).length ≤ 100000) :
    Cn Tryz.prog 77 [allP k, .sl [] .sh, .fn (.func 79) [] []] (rg (itemsK k)) := by
  refine cn_memL rfl (enters_of Tryz.func77 (by kernel_rfl) rfl) fun D w vs hG hD hsz hd => ?_
  obtain ⟨bk, ok', v, e0, d1, c1, hkv⟩ := allP_inv (hd 0 _ rfl)
  obtain ⟨a, cap, fs, rfl, hl, hrow, hfs⟩ := kp_row hkv hD
  have hn0 := hd 1 _ rfl
  obtain ⟨ad0, c0', e1⟩ := nil_inv hn0
  rw [e1] at hn0
  rw [arr3 hsz, e0, e1, dat_fn (hd 2 _ rfl)]
  have hiter : ∀ W, Below w.heap.size w W → IterAt2 Tryz.prog 137 #[.pointer (some ⟨bk, ok', none⟩)] encF (fun _ => False) (PtF w.heap.size bk bk) (wl (fun _ => true) 0 fs) W := fun W hb => by
    refine all1_at fs a cap bk ok' w.heap.size W ?_ (by rw [hl]; exact (hb.cell (p := ⟨bk, ok', none⟩) (hD _ _ d1)).trans c1) hb.size
    obtain ⟨h1, h2, h3⟩ := hrow
    refine ⟨h1, h2, fun hne => ?_⟩
    obtain ⟨b, off, e1, e2, e3⟩ := h3 hne
    exact ⟨b, off, e1, e2, fun j hj => ⟨(hb.cell (p := ⟨b, off + j * 2, none⟩) e2).trans (e3 j hj).1, (hb.cell (p := ⟨b, off + j * 2 + 1, none⟩) e2).trans (e3 j hj).2⟩⟩
  refine (foldR_calls 137 _ bk bk _ w ad0 c0' (enters_of Tryz.func137 (by kernel_rfl) rfl) hiter (hD _ _ d1) (hD _ _ d1)
    (InvD D w.heap.size rg (fun l => Nrm l ∧ ∀ x, Ed l x → x ∈ CI k)) (fun o p => opS fUnion o (k.getD p.1 default).items) [] (fun W hb => InvD.start hn0 hG hD hb ⟨trivial, fun x h => absurd h ed_nil⟩ rfl) (fun W u a h => h.shape ⟨_, rfl⟩) (fun A B u a h hk => h.keep hk) fun W u pre p hpre hs4 hb h => ?_).mono ?_
  · obtain ⟨hp1, _, hp3, _⟩ := wl_mem (pre_mem hpre)
    have hj : p.1 < fs.length := by simpa using hp1
    have hj' : p.1 < k.length := hl ▸ hj
    have hm := List.getElem_mem hj'
    have q := hfs p.1 hj
    have e : p.2 = fs[p.1] := by rw [hp3]; simp
    have hn := (hr _ hm).1
    have h1 := h.1
    rw [getD_at hj', e]
    refine h.step hD hb hs4 q.1 q.2 (items1_c _ p.1 k[p.1] h1.1 hn ?_) ⟨opS_nrm h1.1 hn, fun x hx => ?_⟩
    · have := ed_len h1.1 h1.2
      have := hs _ hm
      omega
    · rcases ed_op fU0 h1.1 hn hx with h | h
      · exact h1.2 x h
      · exact List.mem_flatMap.2 ⟨_, hm, ed_cuts hn.ivs2 h⟩
  · rintro e w' ⟨u, rfl, hI, hb⟩
    have h := hI.done
    rw [fold_all hl (fun o f => opS fUnion o f.items) []] at h
    exact ⟨u, rfl, hb, h⟩
theorem ownI_dat {D : Nat → Nat → Prop} {base : Nat} {w : World} {v : Value} {l : List Nat} (h : OwnI base w v l) (hD : ∀ b o, base ≤ b → b < w.heap.size → D b o) : Dat D w v (is l) := by
  unfold is
  have hlen : (l.map fun x => [PV.v (.int .i64 (x : Nat))]).length = l.length := by simp
  rcases id h.2 with ⟨rfl, h0⟩ | ⟨g, cap, cur, rfl, hg, hh, hn, hc, _⟩
  · obtain rfl : l = [] := List.length_eq_zero_iff.1 h0
    exact .sl none 0 1 [] .sh 0 0 (fun _ => undef) (by simp) (fun h => by cases h) (by unfold maxLen; omega) (fun h => absurd rfl h) (fun i e h => by simp at h) (fun j h => by simp at h) (fun i e j p h => by simp at h)
  · rw [← hlen]
    refine .sl _ cap 1 _ .sh g 0 (fun j => .int .i64 (l.getD j 0 : Nat)) (by simpa using hn) (fun h => by cases h) hc (fun _ => rfl) (fun i e h => ?_) (fun j hj => ?_) (fun i e j p he hp => ?_)
    · simp only [List.getElem?_map, Option.map_eq_some_iff] at h
      obtain ⟨s, _, rfl⟩ := h
      rfl
    · simp only [List.length_map, Nat.mul_one] at hj
      refine ⟨hD _ _ hg (Array.getElem?_eq_some_iff.1 hh).1, ?_, rfl⟩
      rw [Nat.zero_add, h.cellAt _ (by simpa using hj)]
      simp [hj]
    · have hi : i < l.length := by have := (List.getElem?_eq_some_iff.1 he).1; simpa using this
      rw [List.getElem?_map, List.getElem?_eq_getElem hi] at he
      cases he
      match j, hp with
      | 0, hp => cases hp; simp [hi]; exact .v _
      | j + 1, hp => simp at hp
theorem map_foldl (l : List (Nat × Fv)) : ∀ a : List Nat, l.foldl (fun o p => o ++ [p.1]) a = a ++ l.map Prod.fst := by
  induction l with
  | nil => intro a; simp
  | cons p l ih => intro a; rw [List.foldl_cons, ih]; simp
theorem map_foldlF (l : List (Nat × Fg)) : ∀ a : List Nat, l.foldl (fun o p => o ++ [p.1]) a = a ++ l.map Prod.fst := by
  induction l with
  | nil => intro a; simp
  | cons p l ih => intro a; rw [List.foldl_cons, ih]; simp
theorem wl_len (hit : Nat → Bool) : ∀ (n : Nat) (l : List Fv), (wl hit n l).length ≤ l.length
  | _, [] => Nat.le_refl _
  | n, f :: l => by
    have := wl_len hit (n + 1) l
    unfold wl
    split <;> simp <;> omega
set_option maxHeartbeats 1000000 in
theorem kmemb_c (k : List Fg) (i : Nat) (hr : RightK k) (hz : SzK k) (hkl : k.length ≤ 1073741824) : Cn Tryz.prog 27 [kp k, .v (.int .u64 i)] (is (membK k i)) := by
  refine cn_memL rfl (enters_of Tryz.func27 (by kernel_rfl) rfl) fun D w vs hG hD hsz hd => ?_
  obtain ⟨a, cap, fs, e0, hl, hrow, hfs⟩ := kp_row (hd 0 _ rfl) hD
  rw [arr2 hsz, e0, (hd 1 _ rfl).v_inv]
  obtain ⟨w1, hw1⟩ : ∃ w1, (w.alloc (.cells #[.slice a k.length cap] 23)).alloc (.cells #[.int .u64 (i : Nat)] 24) = w1 := ⟨_, rfl⟩
  have hs1 : w1.heap.size = w.heap.size + 2 := by rw [← hw1]; simp
  have b1 : Below w.heap.size w w1 := by rw [← hw1]; exact ((Below.refl _ _).alloc (Nat.le_refl _) _).alloc (by simp) _
  have x1 : Boxed w1 w.heap.size 23 (.slice a k.length cap) := by rw [← hw1]; exact (Boxed.new w _ _).alloc _
  have x2 : Boxed w1 (w.heap.size + 1) 24 (.int .u64 (i : Nat)) := by rw [← hw1]; have := Boxed.new (w.alloc (.cells #[.slice a k.length cap] 23)) 24 (.int .u64 (i : Nat)); rw [World.size_alloc] at this; exact this
  have hwc : ∀ b o x, D b o → w.cell? ⟨b, o, none⟩ = some x → w1.cell? ⟨b, o, none⟩ = some x := fun b o x hd hx => (b1.cell (p := ⟨b, o, none⟩) (hD b o hd)).trans hx
  obtain ⟨E, hE⟩ : ∃ E : Nat → Nat → Prop, E = fun b o => D b o ∨ (w.heap.size ≤ b ∧ b < w1.heap.size) := ⟨_, rfl⟩
  have hEb : ∀ b o, E b o → b < w1.heap.size := fun b o h => by rw [hE] at h; exact h.elim (fun h => by have := hD b o h; omega) And.right
  have hfold : Calls Tryz.prog 81 #[.func (.func 133) #[] #[.pointer (some ⟨w.heap.size, 0, none⟩), .pointer (some ⟨w.heap.size + 1, 0, none⟩)], .slice none 0 0, .func (.func 82) #[] #[]] w1 fun e w' => ∃ u, e = .returned u ∧ OwnI (w1.heap.size + 4) w' u (membK k i) ∧ Below w1.heap.size w1 w' := by
    refine (foldI_calls 133 _ w.heap.size (w.heap.size + 1) _ w1 none 0 (enters_of Tryz.func133 (by kernel_rfl) rfl) (fun W hb => with_iter (D := E) (a := a) (cap := cap) (fs := fs) hr hz (hG.mono (fun b o h => by rw [hE]; exact .inl h) hwc) hEb (by rw [hE]; exact .inr (by omega)) (by rw [hE]; exact .inr (by omega)) x1.cell x2.cell hl ?_ (fun j hj => ⟨(hfs j hj).1.mono (fun b o h => by rw [hE]; exact .inl h) hwc, (hfs j hj).2.mono (fun b o h => by rw [hE]; exact .inl h) hwc⟩) hb) (by omega) (by omega)
      (fun W u l => OwnI (w1.heap.size + 4) W u l) (fun o p => o ++ [p.1]) [] (fun W _ => OwnI.nil _ _) (fun W u a h => h.shape) (fun A B u a h hk => h.keep hk fun g hg _ => by omega) fun W u pre p hpre hs4 hb h => ?_).mono ?_
    · obtain ⟨h1, h2, h3⟩ := hrow
      refine ⟨h1, h2, fun hne => ?_⟩
      obtain ⟨b, off, e1, e2, e3⟩ := h3 hne
      exact ⟨b, off, e1, by omega, fun j hj => ⟨(b1.cell (p := ⟨b, off + j * 2, none⟩) e2).trans (e3 j hj).1, (b1.cell (p := ⟨b, off + j * 2 + 1, none⟩) e2).trans (e3 j hj).2⟩⟩
    · have hpl : pre.length ≤ k.length := by
        have h1 := hpre.length_le
        have h2 := wl_len (fun j => mem (k.getD j default).items i) 0 fs
        simp only [List.length_append, List.length_cons, List.length_nil] at h1
        omega
      refine members1_w (w1.heap.size + 4) W u _ p.1 _ _ h (by omega) ?_
      rw [map_foldl]
      simp
      omega
    · rintro e w' ⟨u, rfl, hI, hb⟩
      rw [fold_same hl i (fun o j _ => o ++ [j]) [], map_foldlF, List.nil_append] at hI
      exact ⟨u, rfl, hI, hb⟩
  have HF := Lib.hid hfold
  have HB := Lib.hid b1
  clear hfold b1 x1 x2 hwc hE hEb hrow hfs hd hG hD
  go_enter Tryz.func27, Tryz.ntmps27
  go_wp2_with (first
    | (go_at_call 75; refine (with_any _ _ _ _ _).mono ?_; rintro e w' ⟨rfl, rfl⟩; rw [hw1])
    | (go_at_call 81; refine HF.out.mono ?_; rintro e w2 ⟨u, rfl, ho, hb2⟩; obtain ⟨au, nu, cu, rfl⟩ := ho.shape))
  go_ret
  exact ⟨_, rfl, HB.out.trans (hb2.mono (by omega)), ownI_dat ho fun b o h1 h2 => .inr (by omega)⟩
theorem any_foldl {β : Type} (q : β → Bool) : ∀ (l : List β) (b : Bool), l.foldl (fun b x => b || q x) b = (b || l.any q)
  | [], b => by simp
  | x :: l, b => by rw [List.foldl_cons, any_foldl q l, List.any_cons, Bool.or_assoc]
theorem wl_any {k : List Fg} {fs : List Fv} (hl : fs.length = k.length) (item : Nat) (q : Fg → Bool) :
    (wl (fun j => mem (k.getD j default).items item) 0 fs).any (fun p => q (k.getD p.1 default)) = (withF item 0 k).any fun p => q p.2 := by
  have h := fold_same hl item (fun b _ f => b || q f) false
  have h1 := any_foldl (fun p : Nat × Fv => q (k.getD p.1 default)) (wl (fun j => mem (k.getD j default).items item) 0 fs) false
  have h2 := any_foldl (fun p : Nat × Fg => q p.2) (withF item 0 k) false
  rw [Bool.false_or] at h1 h2
  rw [← h1, ← h2]
  exact h
theorem khas_c (k : List Fg) (i r c : Nat) (hr : RightK k) (hc : c < M64) (hz : SzK k) : Cn Tryz.prog 24 [kp k, .v (.int .u64 i), .v (.int .u64 r), .v (.int .u64 c)] (.v (.bool (hasK k i r c))) := by
  refine cn_memL rfl (enters_of Tryz.func24 (by kernel_rfl) rfl) fun D w vs hG hD hsz hd => ?_
  obtain ⟨a, cap, fs, e0, hl, hrow, hfs⟩ := kp_row (hd 0 _ rfl) hD
  have hvs : vs = #[.slice a k.length cap, .int .u64 (i : Nat), .int .u64 (r : Nat), .int .u64 (c : Nat)] := by
    have q1 := (hd 1 _ rfl).v_inv
    have q2 := (hd 2 _ rfl).v_inv
    have q3 := (hd 3 _ rfl).v_inv
    obtain ⟨l⟩ := vs
    match l, hsz with
    | [x, y, z, t], _ =>
      simp at e0 q1 q2 q3
      rw [e0, q1, q2, q3]
  rw [hvs]
  refine (has_calls a k.length cap i r c (wl (fun j => mem (k.getD j default).items i) 0 fs) (fun p => mem (knV (k.getD p.1 default).vec r) c) w (fun W hlow hs5 c3 c4 => ?_) fun W p hp hb => ?_).mono ?_
  · have hw : ∀ b o x, D b o → w.cell? ⟨b, o, none⟩ = some x → W.cell? ⟨b, o, none⟩ = some x := fun b o x hd hx => (World.cell?_of_block (a := ⟨b, o, none⟩) (hlow b (hD b o hd))).trans hx
    refine with1_at fs _ a cap _ 0 _ 0 w.heap.size i W ?_ (by rw [hl]; exact c3) c4 (by omega) fun w' j hj hlow' hsz' => ?_
    · obtain ⟨h1, h2, h3⟩ := hrow
      refine ⟨h1, h2, fun hne => ?_⟩
      obtain ⟨b, off, e1, e2, e3⟩ := h3 hne
      exact ⟨b, off, e1, e2, fun j hj => ⟨(World.cell?_of_block (a := ⟨b, off + j * 2, none⟩) (hlow b e2)).trans (e3 j hj).1, (World.cell?_of_block (a := ⟨b, off + j * 2 + 1, none⟩) (hlow b e2)).trans (e3 j hj).2⟩⟩
    · have hw' : ∀ b o x, D b o → w.cell? ⟨b, o, none⟩ = some x → w'.cell? ⟨b, o, none⟩ = some x := fun b o x hd hx => (World.cell?_of_block (a := ⟨b, o, none⟩) (hlow' b (hD b o hd))).trans (hw b o x hd hx)
      have hj' : j < k.length := hl ▸ hj
      have hm := List.getElem_mem hj'
      simp only [getD_at hj']
      refine (cn_w (rhas_c k[j].items i (hr _ hm).1 (hz.2 _ hm).1) (hG.mono (fun _ _ h => h) hw') (fun b o h => Nat.lt_of_lt_of_le (hD b o h) hsz') rfl (fun t p hp => ?_)).mono ?_
      · match t, hp with
        | 0, hp => cases hp; exact (hfs j hj).1.mono (fun _ _ h => h) hw'
        | 1, hp => cases hp; exact .v _
        | t + 2, hp => simp at hp
      · rintro e W' ⟨v, rfl, hb', hd⟩
        rw [hd.v_inv]
        exact ⟨rfl, hb'⟩
  · have hw : ∀ b o x, D b o → w.cell? ⟨b, o, none⟩ = some x → W.cell? ⟨b, o, none⟩ = some x := fun b o x hd hx => (hb.cell (p := ⟨b, o, none⟩) (hD b o hd)).trans hx
    obtain ⟨hp1, _, hp3, _⟩ := wl_mem hp
    have hj : p.1 < fs.length := by simpa using hp1
    have hj' : p.1 < k.length := hl ▸ hj
    have hm := List.getElem_mem hj'
    have e : p.2 = fs[p.1] := by rw [hp3]; simp
    simp only [getD_at hj', e]
    refine (cn_w (vhas_c k[p.1].vec r c (hr _ hm).2 hc (hz.2 _ hm).2.1 (hz.2 _ hm).2.2) (hG.mono (fun _ _ h => h) hw) (fun b o h => Nat.lt_of_lt_of_le (hD b o h) hb.size) rfl (fun t p' hp' => ?_)).mono ?_
    · match t, hp' with
      | 0, hp' => cases hp'; exact (hfs p.1 hj).2.mono (fun _ _ h => h) hw
      | 1, hp' => cases hp'; exact .v _
      | 2, hp' => cases hp'; exact .v _
      | t + 3, hp' => simp at hp'
    · rintro e W' ⟨v, rfl, hb', hd⟩
      rw [hd.v_inv]
      exact ⟨rfl, hb'⟩
  · rintro e w' ⟨rfl, hb⟩
    rw [wl_any hl i (fun f => mem (knV f.vec r) c), hasK_with]
    exact ⟨_, rfl, hb, .v _⟩
theorem kat_c {C : Nat → List Nat} {R : List Nat} (k : List Fg) (i : Nat) (hk : IK C R k) (ok : OkC C R) (hr : RightK k) (hs : ∀ f ∈ k, SmV f.vec) (hz : SzK k) : Cn Tryz.prog 37 [kp k, .v (.int .u64 i)] (vp (vecAt k i)) := by
  refine cn_go Tryz.func37 [] 2 (by kernel_rfl) rfl (by simp [go_sem, seval]) ?_
  conv => arg 4; cbv
  conv => enter [5, 1]; cbv
  try simp (maxSteps := 2000000) (disch := omega) only [go_sem, seval]
  try repeat ((with_reducible refine And.intro ?_ ?_); focus (first | omega | assumption | exact True.intro | (show anyD _ _ = true; exact rfl) | (simp only [List.length_map, List.length_append, List.length_cons, List.length_nil, List.length_take, List.length_drop]; omega)))
  (first | refine callP.mk (kwith_c k i) rfl ?_ | refine callQ.mk (kwith_c k i) rfl ?_ | refine callO.rd (kwith_c k i) rfl ?_ | refine callO.mk (kwith_c k i) rfl ?_)
  try simp (maxSteps := 2000000) (disch := omega) only [go_sem, seval]
  try repeat ((with_reducible refine And.intro ?_ ?_); focus (first | omega | assumption | exact True.intro | (show anyD _ _ = true; exact rfl) | (simp only [List.length_map, List.length_append, List.length_cons, List.length_nil, List.length_take, List.length_drop]; omega)))
  (first | refine callP.mk (foldV_c k i hk ok hr hs hz) rfl ?_ | refine callQ.mk (foldV_c k i hk ok hr hs hz) rfl ?_ | refine callO.rd (foldV_c k i hk ok hr hs hz) rfl ?_ | refine callO.mk (foldV_c k i hk ok hr hs hz) rfl ?_)
  try simp (maxSteps := 2000000) (disch := omega) only [go_sem, seval]
  try repeat ((with_reducible refine And.intro ?_ ?_); focus (first | omega | assumption | exact True.intro | (show anyD _ _ = true; exact rfl) | (simp only [List.length_map, List.length_append, List.length_cons, List.length_nil, List.length_take, List.length_drop]; omega)))
theorem kitems_c (k : List Fg) (hr : RightK k) (hz : SzK k) (hs : ∀ f ∈ k, f.items.length ≤ 100000) (hc : (CI k).length ≤ 100000) : Cn Tryz.prog 26 [kp k] (rg (itemsK k)) := by
  refine cn_go Tryz.func26 [] 1 (by kernel_rfl) rfl (by simp [go_sem, seval]) ?_
  conv => arg 4; cbv
  conv => enter [5, 1]; cbv
  try simp (maxSteps := 2000000) (disch := omega) only [go_sem, seval]
  try repeat ((with_reducible refine And.intro ?_ ?_); focus (first | omega | assumption | exact True.intro | (show anyD _ _ = true; exact rfl) | (simp only [List.length_map, List.length_append, List.length_cons, List.length_nil, List.length_take, List.length_drop]; omega)))
  (first | refine callP.mk (kall_c k) rfl ?_ | refine callQ.mk (kall_c k) rfl ?_ | refine callO.rd (kall_c k) rfl ?_ | refine callO.mk (kall_c k) rfl ?_)
  try simp (maxSteps := 2000000) (disch := omega) only [go_sem, seval]
  try repeat ((with_reducible refine And.intro ?_ ?_); focus (first | omega | assumption | exact True.intro | (show anyD _ _ = true; exact rfl) | (simp only [List.length_map, List.length_append, List.length_cons, List.length_nil, List.length_take, List.length_drop]; omega)))
  (first | refine callP.mk (foldR_c k hr hz hs hc) rfl ?_ | refine callQ.mk (foldR_c k hr hz hs hc) rfl ?_ | refine callO.rd (foldR_c k hr hz hs hc) rfl ?_ | refine callO.mk (foldR_c k hr hz hs hc) rfl ?_)
  try simp (maxSteps := 2000000) (disch := omega) only [go_sem, seval]
  try repeat ((with_reducible refine And.intro ?_ ?_); focus (first | omega | assumption | exact True.intro | (show anyD _ _ = true; exact rfl) | (simp only [List.length_map, List.length_append, List.length_cons, List.length_nil, List.length_take, List.length_drop]; omega)))
end Go.Proofs.YtjmhmeadcphfmaaGreatDoor
namespace Go.Proofs.YtjmhmeadcphfmaaGreatDoor
set_option linter.unusedVariables false
set_option linter.unusedSimpArgs false
open Go.RowKit
set_option maxRecDepth 100000
theorem kfew_c (k : List Fg) (hb : BdK k) : Cn Tryz.prog 21 [kp k] (.v (.bool (fewK k))) := by
  have hl := hb.2
  refine cn_go Tryz.func21 [] 1 (by kernel_rfl) rfl (by simp [go_sem, seval]) ?_
  conv => arg 4; cbv
  conv => enter [5, 1]; cbv
  try simp (maxSteps := 2000000) (disch := omega) only [go_sem, seval]
  try repeat ((with_reducible refine And.intro ?_ ?_); focus (first | omega | assumption | exact True.intro | (show anyD _ _ = true; exact rfl) | (simp only [List.length_map, List.length_append, List.length_cons, List.length_nil, List.length_take, List.length_drop]; omega)))
  refine pLoop.go (fun j => j ≤ k.length ∧ fewK k = ((k.drop j).all (fun f => decide (f.items.length ≤ 20) && fewB f.vec) && decide (k.length ≤ 12))) (fun j => [(3, .v (.int .i64 (j : Nat)))]) (fun _ => []) (fun j => k.length - j) 0 [3] ?_ ?_ ?_
  · exact ⟨Nat.zero_le _, rfl⟩
  · try simp (maxSteps := 2000000) (disch := omega) only [go_sem, seval]
    try repeat ((with_reducible refine And.intro ?_ ?_); focus (first | omega | assumption | exact True.intro | (show anyD _ _ = true; exact rfl) | (simp only [List.length_map, List.length_append, List.length_cons, List.length_nil, List.length_take, List.length_drop]; omega)))
  · rintro j ⟨hj, hm⟩
    try simp (maxSteps := 2000000) (disch := omega) only [go_sem, seval]
    try repeat ((with_reducible refine And.intro ?_ ?_); focus (first | omega | assumption | exact True.intro | (show anyD _ _ = true; exact rfl) | (simp only [List.length_map, List.length_append, List.length_cons, List.length_nil, List.length_take, List.length_drop]; omega)))
    (first | refine brP.mk (fun h => ?_) (fun h => ?_) | refine gdP.mkt (fun h => ?_) (fun h => ?_) | refine gdP.mkf (fun h => ?_) (fun h => ?_) | refine pkP.mk (fun h => ?_) (fun h => ?_)) <;> (try simp only [Bool.not_true, Bool.not_false, decide_eq_true_eq, decide_eq_false_iff_not, Bool.and_eq_true, Bool.or_eq_true, Bool.not_eq_true', Bool.not_eq_false', Bool.and_eq_false_iff, Bool.or_eq_false_iff, Nat.not_lt, Int.not_lt, Nat.not_le, Int.not_le, Int.ofNat_lt, Int.ofNat_le, Int.ofNat_inj, Bool.xor_false, Bool.false_xor, Bool.true_xor, Bool.xor_true] at h) <;> (try simp (maxSteps := 2000000) (disch := omega) only [go_sem, seval]) <;> (try repeat ((with_reducible refine And.intro ?_ ?_); focus (first | omega | assumption | exact True.intro | (show anyD _ _ = true; exact rfl) | (simp only [List.length_map, List.length_append, List.length_cons, List.length_nil, List.length_take, List.length_drop]; omega))))
    · rw [List.drop_eq_getElem_cons h, List.all_cons] at hm
      have hbj := hb.1 _ (List.getElem_mem h)
      have hbi := hbj.2.2.1
      try simp (maxSteps := 2000000) (disch := omega) only [go_sem, seval]
      try repeat ((with_reducible refine And.intro ?_ ?_); focus (first | omega | assumption | exact True.intro | (show anyD _ _ = true; exact rfl) | (simp only [List.length_map, List.length_append, List.length_cons, List.length_nil, List.length_take, List.length_drop]; omega)))
      (first | refine brP.mk (fun h2 => ?_) (fun h2 => ?_) | refine gdP.mkt (fun h2 => ?_) (fun h2 => ?_) | refine gdP.mkf (fun h2 => ?_) (fun h2 => ?_) | refine pkP.mk (fun h2 => ?_) (fun h2 => ?_)) <;> (try simp only [Bool.not_true, Bool.not_false, decide_eq_true_eq, decide_eq_false_iff_not, Bool.and_eq_true, Bool.or_eq_true, Bool.not_eq_true', Bool.not_eq_false', Bool.and_eq_false_iff, Bool.or_eq_false_iff, Nat.not_lt, Int.not_lt, Nat.not_le, Int.not_le, Int.ofNat_lt, Int.ofNat_le, Int.ofNat_inj, Bool.xor_false, Bool.false_xor, Bool.true_xor, Bool.xor_true] at h2) <;> (try simp (maxSteps := 2000000) (disch := omega) only [go_sem, seval]) <;> (try repeat ((with_reducible refine And.intro ?_ ?_); focus (first | omega | assumption | exact True.intro | (show anyD _ _ = true; exact rfl) | (simp only [List.length_map, List.length_append, List.length_cons, List.length_nil, List.length_take, List.length_drop]; omega))))
      · rw [hm, decide_eq_false (by omega)]
        rfl
      · rw [decide_eq_true (by omega), Bool.true_and] at hm
        (first | refine callP.mk (few_c k[j].vec hbj.2.2.2) rfl ?_ | refine callQ.mk (few_c k[j].vec hbj.2.2.2) rfl ?_ | refine callO.rd (few_c k[j].vec hbj.2.2.2) rfl ?_ | refine callO.mk (few_c k[j].vec hbj.2.2.2) rfl ?_)
        try simp (maxSteps := 2000000) (disch := omega) only [go_sem, seval]
        try repeat ((with_reducible refine And.intro ?_ ?_); focus (first | omega | assumption | exact True.intro | (show anyD _ _ = true; exact rfl) | (simp only [List.length_map, List.length_append, List.length_cons, List.length_nil, List.length_take, List.length_drop]; omega)))
        (first | refine brP.mk (fun h3 => ?_) (fun h3 => ?_) | refine gdP.mkt (fun h3 => ?_) (fun h3 => ?_) | refine gdP.mkf (fun h3 => ?_) (fun h3 => ?_) | refine pkP.mk (fun h3 => ?_) (fun h3 => ?_)) <;> (try simp only [Bool.not_true, Bool.not_false, decide_eq_true_eq, decide_eq_false_iff_not, Bool.and_eq_true, Bool.or_eq_true, Bool.not_eq_true', Bool.not_eq_false', Bool.and_eq_false_iff, Bool.or_eq_false_iff, Nat.not_lt, Int.not_lt, Nat.not_le, Int.not_le, Int.ofNat_lt, Int.ofNat_le, Int.ofNat_inj, Bool.xor_false, Bool.false_xor, Bool.true_xor, Bool.xor_true] at h3) <;> (try simp (maxSteps := 2000000) (disch := omega) only [go_sem, seval]) <;> (try repeat ((with_reducible refine And.intro ?_ ?_); focus (first | omega | assumption | exact True.intro | (show anyD _ _ = true; exact rfl) | (simp only [List.length_map, List.length_append, List.length_cons, List.length_nil, List.length_take, List.length_drop]; omega))))
        · rw [hm, h3]
          rfl
        · rw [h3, Bool.true_and] at hm
          exact ⟨j + 1, ⟨h, hm⟩, by omega, rfl⟩
    · rw [hm, List.drop_of_length_le (by omega)]
      simp
      omega
theorem refKCheck_c (k : List Fg) (hb : BdK k) (hz : SzK k) : Cn Tryz.prog 34 [kp k] (.tup [.v (.int .i64 (ckK k).1), .v (.int .i64 (ckK k).2)]) := by
  have hl := hz.1
  refine cn_go Tryz.func34 [] 1 (by kernel_rfl) rfl (by simp [go_sem, seval]) ?_
  conv => arg 4; cbv
  conv => enter [5, 1]; cbv
  try simp (maxSteps := 2000000) (disch := omega) only [go_sem, seval]
  try repeat ((with_reducible refine And.intro ?_ ?_); focus (first | omega | assumption | exact True.intro | (show anyD _ _ = true; exact rfl) | (simp only [List.length_map, List.length_append, List.length_cons, List.length_nil, List.length_take, List.length_drop]; omega)))
  refine pLoop.go (fun j => j ≤ k.length ∧ ckK k = hkK j (k.drop j)) (fun j => [(4, .v (.int .i64 (j : Nat)))]) (fun _ => []) (fun j => k.length - j) 0 [4] ?_ ?_ ?_
  · exact ⟨Nat.zero_le _, rfl⟩
  · try simp (maxSteps := 2000000) (disch := omega) only [go_sem, seval]
    try repeat ((with_reducible refine And.intro ?_ ?_); focus (first | omega | assumption | exact True.intro | (show anyD _ _ = true; exact rfl) | (simp only [List.length_map, List.length_append, List.length_cons, List.length_nil, List.length_take, List.length_drop]; omega)))
  · rintro j ⟨hj, hm⟩
    try simp (maxSteps := 2000000) (disch := omega) only [go_sem, seval]
    try repeat ((with_reducible refine And.intro ?_ ?_); focus (first | omega | assumption | exact True.intro | (show anyD _ _ = true; exact rfl) | (simp only [List.length_map, List.length_append, List.length_cons, List.length_nil, List.length_take, List.length_drop]; omega)))
    (first | refine brP.mk (fun h => ?_) (fun h => ?_) | refine gdP.mkt (fun h => ?_) (fun h => ?_) | refine gdP.mkf (fun h => ?_) (fun h => ?_) | refine pkP.mk (fun h => ?_) (fun h => ?_)) <;> (try simp only [Bool.not_true, Bool.not_false, decide_eq_true_eq, decide_eq_false_iff_not, Bool.and_eq_true, Bool.or_eq_true, Bool.not_eq_true', Bool.not_eq_false', Bool.and_eq_false_iff, Bool.or_eq_false_iff, Nat.not_lt, Int.not_lt, Nat.not_le, Int.not_le, Int.ofNat_lt, Int.ofNat_le, Int.ofNat_inj, Bool.xor_false, Bool.false_xor, Bool.true_xor, Bool.xor_true] at h) <;> (try simp (maxSteps := 2000000) (disch := omega) only [go_sem, seval]) <;> (try repeat ((with_reducible refine And.intro ?_ ?_); focus (first | omega | assumption | exact True.intro | (show anyD _ _ = true; exact rfl) | (simp only [List.length_map, List.length_append, List.length_cons, List.length_nil, List.length_take, List.length_drop]; omega))))
    · rw [List.drop_eq_getElem_cons h, hkK] at hm
      have hbj := hb.1 _ (List.getElem_mem h)
      have hzj := hz.2 _ (List.getElem_mem h)
      try simp (maxSteps := 2000000) (disch := omega) only [go_sem, seval]
      try repeat ((with_reducible refine And.intro ?_ ?_); focus (first | omega | assumption | exact True.intro | (show anyD _ _ = true; exact rfl) | (simp only [List.length_map, List.length_append, List.length_cons, List.length_nil, List.length_take, List.length_drop]; omega)))
      (first | refine callP.mk (check4_c k[j].items hzj.1 hbj.1) rfl ?_ | refine callQ.mk (check4_c k[j].items hzj.1 hbj.1) rfl ?_ | refine callO.rd (check4_c k[j].items hzj.1 hbj.1) rfl ?_ | refine callO.mk (check4_c k[j].items hzj.1 hbj.1) rfl ?_)
      try simp (maxSteps := 2000000) (disch := omega) only [go_sem, seval]
      try repeat ((with_reducible refine And.intro ?_ ?_); focus (first | omega | assumption | exact True.intro | (show anyD _ _ = true; exact rfl) | (simp only [List.length_map, List.length_append, List.length_cons, List.length_nil, List.length_take, List.length_drop]; omega)))
      (first | refine brP.mk (fun h2 => ?_) (fun h2 => ?_) | refine gdP.mkt (fun h2 => ?_) (fun h2 => ?_) | refine gdP.mkf (fun h2 => ?_) (fun h2 => ?_) | refine pkP.mk (fun h2 => ?_) (fun h2 => ?_)) <;> (try simp only [Bool.not_true, Bool.not_false, decide_eq_true_eq, decide_eq_false_iff_not, Bool.and_eq_true, Bool.or_eq_true, Bool.not_eq_true', Bool.not_eq_false', Bool.and_eq_false_iff, Bool.or_eq_false_iff, Nat.not_lt, Int.not_lt, Nat.not_le, Int.not_le, Int.ofNat_lt, Int.ofNat_le, Int.ofNat_inj, Bool.xor_false, Bool.false_xor, Bool.true_xor, Bool.xor_true] at h2) <;> (try simp (maxSteps := 2000000) (disch := omega) only [go_sem, seval]) <;> (try repeat ((with_reducible refine And.intro ?_ ?_); focus (first | omega | assumption | exact True.intro | (show anyD _ _ = true; exact rfl) | (simp only [List.length_map, List.length_append, List.length_cons, List.length_nil, List.length_take, List.length_drop]; omega))))
      · rw [if_neg (by omega)] at hm
        (first | refine callP.mk (refCheck_c k[j].vec hbj.2.1 hzj.2.1 hzj.2.2) rfl ?_ | refine callQ.mk (refCheck_c k[j].vec hbj.2.1 hzj.2.1 hzj.2.2) rfl ?_ | refine callO.rd (refCheck_c k[j].vec hbj.2.1 hzj.2.1 hzj.2.2) rfl ?_ | refine callO.mk (refCheck_c k[j].vec hbj.2.1 hzj.2.1 hzj.2.2) rfl ?_)
        try simp (maxSteps := 2000000) (disch := omega) only [go_sem, seval]
        try repeat ((with_reducible refine And.intro ?_ ?_); focus (first | omega | assumption | exact True.intro | (show anyD _ _ = true; exact rfl) | (simp only [List.length_map, List.length_append, List.length_cons, List.length_nil, List.length_take, List.length_drop]; omega)))
        (first | refine brP.mk (fun h3 => ?_) (fun h3 => ?_) | refine gdP.mkt (fun h3 => ?_) (fun h3 => ?_) | refine gdP.mkf (fun h3 => ?_) (fun h3 => ?_) | refine pkP.mk (fun h3 => ?_) (fun h3 => ?_)) <;> (try simp only [Bool.not_true, Bool.not_false, decide_eq_true_eq, decide_eq_false_iff_not, Bool.and_eq_true, Bool.or_eq_true, Bool.not_eq_true', Bool.not_eq_false', Bool.and_eq_false_iff, Bool.or_eq_false_iff, Nat.not_lt, Int.not_lt, Nat.not_le, Int.not_le, Int.ofNat_lt, Int.ofNat_le, Int.ofNat_inj, Bool.xor_false, Bool.false_xor, Bool.true_xor, Bool.xor_true] at h3) <;> (try simp (maxSteps := 2000000) (disch := omega) only [go_sem, seval]) <;> (try repeat ((with_reducible refine And.intro ?_ ?_); focus (first | omega | assumption | exact True.intro | (show anyD _ _ = true; exact rfl) | (simp only [List.length_map, List.length_append, List.length_cons, List.length_nil, List.length_take, List.length_drop]; omega))))
        · rw [if_pos (by omega)] at hm
          rw [hm]
        · rw [if_neg (by omega)] at hm
          exact ⟨j + 1, ⟨h, hm⟩, by omega, rfl⟩
      · rw [if_pos (by omega)] at hm
        (first | refine brP.mk (fun h3 => ?_) (fun h3 => ?_) | refine gdP.mkt (fun h3 => ?_) (fun h3 => ?_) | refine gdP.mkf (fun h3 => ?_) (fun h3 => ?_) | refine pkP.mk (fun h3 => ?_) (fun h3 => ?_)) <;> (try simp only [Bool.not_true, Bool.not_false, decide_eq_true_eq, decide_eq_false_iff_not, Bool.and_eq_true, Bool.or_eq_true, Bool.not_eq_true', Bool.not_eq_false', Bool.and_eq_false_iff, Bool.or_eq_false_iff, Nat.not_lt, Int.not_lt, Nat.not_le, Int.not_le, Int.ofNat_lt, Int.ofNat_le, Int.ofNat_inj, Bool.xor_false, Bool.false_xor, Bool.true_xor, Bool.xor_true] at h3) <;> (try simp (maxSteps := 2000000) (disch := omega) only [go_sem, seval]) <;> (try repeat ((with_reducible refine And.intro ?_ ?_); focus (first | omega | assumption | exact True.intro | (show anyD _ _ = true; exact rfl) | (simp only [List.length_map, List.length_append, List.length_cons, List.length_nil, List.length_take, List.length_drop]; omega))))
        · rw [hm]
        · exact absurd h3 (by omega)
    · rw [hm, List.drop_of_length_le (by omega)]
      rfl
theorem kright_c (k : List Fg) (hb : BdK k) (hz : SzK k) : Cn Tryz.prog 22 [kp k] (.v (.bool (decide ((ckK k).1 = 0)))) := by
  refine cn_go Tryz.func22 [] 1 (by kernel_rfl) rfl (by simp [go_sem, seval]) ?_
  conv => arg 4; cbv
  conv => enter [5, 1]; cbv
  try simp (maxSteps := 2000000) (disch := omega) only [go_sem, seval]
  try repeat ((with_reducible refine And.intro ?_ ?_); focus (first | omega | assumption | exact True.intro | (show anyD _ _ = true; exact rfl) | (simp only [List.length_map, List.length_append, List.length_cons, List.length_nil, List.length_take, List.length_drop]; omega)))
  (first | refine callP.mk (refKCheck_c k hb hz) rfl ?_ | refine callQ.mk (refKCheck_c k hb hz) rfl ?_ | refine callO.rd (refKCheck_c k hb hz) rfl ?_ | refine callO.mk (refKCheck_c k hb hz) rfl ?_)
  try simp (maxSteps := 2000000) (disch := omega) only [go_sem, seval]
  try repeat ((with_reducible refine And.intro ?_ ?_); focus (first | omega | assumption | exact True.intro | (show anyD _ _ = true; exact rfl) | (simp only [List.length_map, List.length_append, List.length_cons, List.length_nil, List.length_take, List.length_drop]; omega)))
theorem refKAt_c {C : Nat → List Nat} {R : List Nat} (k : List Fg) (i : Nat) (hk : IK C R k) (ok : OkC C R) (hr : RightK k) (hs : ∀ f ∈ k, SmV f.vec) (hz : SzK k) : Cn Tryz.prog 39 [kp k, .v (.int .u64 i)] (vp (vecAt k i)) := by
  have hl := hz.1
  refine cn_go Tryz.func39 [] 2 (by kernel_rfl) rfl (by simp [go_sem, seval]) ?_
  conv => arg 4; cbv
  conv => enter [5, 1]; cbv
  try simp (maxSteps := 2000000) (disch := omega) only [go_sem, seval]
  try repeat ((with_reducible refine And.intro ?_ ?_); focus (first | omega | assumption | exact True.intro | (show anyD _ _ = true; exact rfl) | (simp only [List.length_map, List.length_append, List.length_cons, List.length_nil, List.length_take, List.length_drop]; omega)))
  refine pLoop.go (fun j => j ≤ k.length) (fun j => [(5, vp (vecAt (k.take j) i)), (6, .v (.int .i64 (j : Nat)))]) (fun _ => []) (fun j => k.length - j) 0 [5, 6] ?_ ?_ ?_
  · exact Nat.zero_le _
  · simp only [List.take_zero, vecAt_nil]
    try simp (maxSteps := 2000000) (disch := omega) only [go_sem, seval]
    try repeat ((with_reducible refine And.intro ?_ ?_); focus (first | omega | assumption | exact True.intro | (show anyD _ _ = true; exact rfl) | (simp only [List.length_map, List.length_append, List.length_cons, List.length_nil, List.length_take, List.length_drop]; omega)))
  · rintro j hj
    try simp (maxSteps := 2000000) (disch := omega) only [go_sem, seval]
    try repeat ((with_reducible refine And.intro ?_ ?_); focus (first | omega | assumption | exact True.intro | (show anyD _ _ = true; exact rfl) | (simp only [List.length_map, List.length_append, List.length_cons, List.length_nil, List.length_take, List.length_drop]; omega)))
    (first | refine brP.mk (fun h => ?_) (fun h => ?_) | refine gdP.mkt (fun h => ?_) (fun h => ?_) | refine gdP.mkf (fun h => ?_) (fun h => ?_) | refine pkP.mk (fun h => ?_) (fun h => ?_)) <;> (try simp only [Bool.not_true, Bool.not_false, decide_eq_true_eq, decide_eq_false_iff_not, Bool.and_eq_true, Bool.or_eq_true, Bool.not_eq_true', Bool.not_eq_false', Bool.and_eq_false_iff, Bool.or_eq_false_iff, Nat.not_lt, Int.not_lt, Nat.not_le, Int.not_le, Int.ofNat_lt, Int.ofNat_le, Int.ofNat_inj, Bool.xor_false, Bool.false_xor, Bool.true_xor, Bool.xor_true] at h) <;> (try simp (maxSteps := 2000000) (disch := omega) only [go_sem, seval]) <;> (try repeat ((with_reducible refine And.intro ?_ ?_); focus (first | omega | assumption | exact True.intro | (show anyD _ _ = true; exact rfl) | (simp only [List.length_map, List.length_append, List.length_cons, List.length_nil, List.length_take, List.length_drop]; omega))))
    · have hst := vecAt_take i h
      have hzj := hz.2 _ (List.getElem_mem h)
      have hsm := ((hk.take j).at i).1.smv ok
      try simp (maxSteps := 2000000) (disch := omega) only [go_sem, seval]
      try repeat ((with_reducible refine And.intro ?_ ?_); focus (first | omega | assumption | exact True.intro | (show anyD _ _ = true; exact rfl) | (simp only [List.length_map, List.length_append, List.length_cons, List.length_nil, List.length_take, List.length_drop]; omega)))
      (first | refine callP.mk (has4_c k[j].items i hzj.1) rfl ?_ | refine callQ.mk (has4_c k[j].items i hzj.1) rfl ?_ | refine callO.rd (has4_c k[j].items i hzj.1) rfl ?_ | refine callO.mk (has4_c k[j].items i hzj.1) rfl ?_)
      try simp (maxSteps := 2000000) (disch := omega) only [go_sem, seval]
      try repeat ((with_reducible refine And.intro ?_ ?_); focus (first | omega | assumption | exact True.intro | (show anyD _ _ = true; exact rfl) | (simp only [List.length_map, List.length_append, List.length_cons, List.length_nil, List.length_take, List.length_drop]; omega)))
      (first | refine brP.mk (fun h2 => ?_) (fun h2 => ?_) | refine gdP.mkt (fun h2 => ?_) (fun h2 => ?_) | refine gdP.mkf (fun h2 => ?_) (fun h2 => ?_) | refine pkP.mk (fun h2 => ?_) (fun h2 => ?_)) <;> (try simp only [Bool.not_true, Bool.not_false, decide_eq_true_eq, decide_eq_false_iff_not, Bool.and_eq_true, Bool.or_eq_true, Bool.not_eq_true', Bool.not_eq_false', Bool.and_eq_false_iff, Bool.or_eq_false_iff, Nat.not_lt, Int.not_lt, Nat.not_le, Int.not_le, Int.ofNat_lt, Int.ofNat_le, Int.ofNat_inj, Bool.xor_false, Bool.false_xor, Bool.true_xor, Bool.xor_true] at h2) <;> (try simp (maxSteps := 2000000) (disch := omega) only [go_sem, seval]) <;> (try repeat ((with_reducible refine And.intro ?_ ?_); focus (first | omega | assumption | exact True.intro | (show anyD _ _ = true; exact rfl) | (simp only [List.length_map, List.length_append, List.length_cons, List.length_nil, List.length_take, List.length_drop]; omega))))
      · rw [if_pos h2] at hst
        (first | refine callP.mk (do10_c (vecAt (k.take j) i) k[j].vec 0 (by omega) hsm (hs _ (List.getElem_mem h))) rfl ?_ | refine callQ.mk (do10_c (vecAt (k.take j) i) k[j].vec 0 (by omega) hsm (hs _ (List.getElem_mem h))) rfl ?_ | refine callO.rd (do10_c (vecAt (k.take j) i) k[j].vec 0 (by omega) hsm (hs _ (List.getElem_mem h))) rfl ?_ | refine callO.mk (do10_c (vecAt (k.take j) i) k[j].vec 0 (by omega) hsm (hs _ (List.getElem_mem h))) rfl ?_)
        try simp (maxSteps := 2000000) (disch := omega) only [go_sem, seval]
        try repeat ((with_reducible refine And.intro ?_ ?_); focus (first | omega | assumption | exact True.intro | (show anyD _ _ = true; exact rfl) | (simp only [List.length_map, List.length_append, List.length_cons, List.length_nil, List.length_take, List.length_drop]; omega)))
        rw [opb0]
        exact ⟨j + 1, h, by omega, by rw [hst], rfl⟩
      · rw [if_neg (by rw [h2]; simp)] at hst
        exact ⟨j + 1, h, by omega, by rw [hst], rfl⟩
    · rw [show k.take j = k from List.take_of_length_le (by omega)]
end Go.Proofs.YtjmhmeadcphfmaaGreatDoor
namespace Go.Proofs.YtjmhmeadcphfmaaGreatDoor
set_option linter.unusedVariables false
set_option linter.unusedSimpArgs false
open Go.RowKit
set_option maxRecDepth 100000
theorem kcheck_c (k : List Fg) (hb : BdK k) (hz : SzK k) : Cn Tryz.prog 33 [kp k] (errV (ckK k).1 (ckK k).2) := by
  have hl := hz.1
  refine cn_go Tryz.func33 [] 1 (by kernel_rfl) rfl (by simp [go_sem, seval]) ?_
  conv => arg 4; cbv
  conv => enter [5, 1]; cbv
  try simp (maxSteps := 2000000) (disch := omega) only [go_sem, seval]
  try repeat ((with_reducible refine And.intro ?_ ?_); focus (first | omega | assumption | exact True.intro | (show anyD _ _ = true; exact rfl) | (simp only [List.length_map, List.length_append, List.length_cons, List.length_nil, List.length_take, List.length_drop]; omega)))
  refine pLoop.go (fun j => j ≤ k.length ∧ ckK k = hkK j (k.drop j)) (fun j => [(9, .v (.int .i64 (j : Nat)))]) (fun _ => []) (fun j => k.length - j) 0 [9] ?_ ?_ ?_
  · exact ⟨Nat.zero_le _, rfl⟩
  · try simp (maxSteps := 2000000) (disch := omega) only [go_sem, seval]
    try repeat ((with_reducible refine And.intro ?_ ?_); focus (first | omega | assumption | exact True.intro | (show anyD _ _ = true; exact rfl) | (simp only [List.length_map, List.length_append, List.length_cons, List.length_nil, List.length_take, List.length_drop]; omega)))
  · rintro j ⟨hj, hm⟩
    try simp (maxSteps := 2000000) (disch := omega) only [go_sem, seval]
    try repeat ((with_reducible refine And.intro ?_ ?_); focus (first | omega | assumption | exact True.intro | (show anyD _ _ = true; exact rfl) | (simp only [List.length_map, List.length_append, List.length_cons, List.length_nil, List.length_take, List.length_drop]; omega)))
    (first | refine brP.mk (fun h => ?_) (fun h => ?_) | refine gdP.mkt (fun h => ?_) (fun h => ?_) | refine gdP.mkf (fun h => ?_) (fun h => ?_) | refine pkP.mk (fun h => ?_) (fun h => ?_)) <;> (try simp only [Bool.not_true, Bool.not_false, decide_eq_true_eq, decide_eq_false_iff_not, Bool.and_eq_true, Bool.or_eq_true, Bool.not_eq_true', Bool.not_eq_false', Bool.and_eq_false_iff, Bool.or_eq_false_iff, Nat.not_lt, Int.not_lt, Nat.not_le, Int.not_le, Int.ofNat_lt, Int.ofNat_le, Int.ofNat_inj, Bool.xor_false, Bool.false_xor, Bool.true_xor, Bool.xor_true] at h) <;> (try simp (maxSteps := 2000000) (disch := omega) only [go_sem, seval]) <;> (try repeat ((with_reducible refine And.intro ?_ ?_); focus (first | omega | assumption | exact True.intro | (show anyD _ _ = true; exact rfl) | (simp only [List.length_map, List.length_append, List.length_cons, List.length_nil, List.length_take, List.length_drop]; omega))))
    · rw [List.drop_eq_getElem_cons h, hkK] at hm
      have hbj := hb.1 _ (List.getElem_mem h)
      have hzj := hz.2 _ (List.getElem_mem h)
      have hco1 := code_c (chk k[j].items).1 (chk k[j].items).2
      have hco2 := code_c (chkV k[j].vec).1 (chkV k[j].vec).2
      try simp (maxSteps := 2000000) (disch := omega) only [go_sem, seval]
      try repeat ((with_reducible refine And.intro ?_ ?_); focus (first | omega | assumption | exact True.intro | (show anyD _ _ = true; exact rfl) | (simp only [List.length_map, List.length_append, List.length_cons, List.length_nil, List.length_take, List.length_drop]; omega)))
      (first | refine callP.mk (rcheck_c k[j].items hbj.1 hzj.1 (.inr (codeN_c 2))) rfl ?_ | refine callQ.mk (rcheck_c k[j].items hbj.1 hzj.1 (.inr (codeN_c 2))) rfl ?_ | refine callO.rd (rcheck_c k[j].items hbj.1 hzj.1 (.inr (codeN_c 2))) rfl ?_ | refine callO.mk (rcheck_c k[j].items hbj.1 hzj.1 (.inr (codeN_c 2))) rfl ?_)
      by_cases h1 : (chk k[j].items).1 = 0
      · rw [errV_nil h1]
        rw [if_neg (by omega)] at hm
        try simp (maxSteps := 2000000) (disch := omega) only [go_sem, seval]
        try repeat ((with_reducible refine And.intro ?_ ?_); focus (first | omega | assumption | exact True.intro | (show anyD _ _ = true; exact rfl) | (simp only [List.length_map, List.length_append, List.length_cons, List.length_nil, List.length_take, List.length_drop]; omega)))
        (first | refine callP.mk (vcheck_c k[j].vec hbj.2.1 hzj.2.1 hzj.2.2) rfl ?_ | refine callQ.mk (vcheck_c k[j].vec hbj.2.1 hzj.2.1 hzj.2.2) rfl ?_ | refine callO.rd (vcheck_c k[j].vec hbj.2.1 hzj.2.1 hzj.2.2) rfl ?_ | refine callO.mk (vcheck_c k[j].vec hbj.2.1 hzj.2.1 hzj.2.2) rfl ?_)
        by_cases h2 : (chkV k[j].vec).1 = 0
        · rw [errV_nil h2]
          rw [if_neg (by omega)] at hm
          try simp (maxSteps := 2000000) (disch := omega) only [go_sem, seval]
          try repeat ((with_reducible refine And.intro ?_ ?_); focus (first | omega | assumption | exact True.intro | (show anyD _ _ = true; exact rfl) | (simp only [List.length_map, List.length_append, List.length_cons, List.length_nil, List.length_take, List.length_drop]; omega)))
          exact ⟨j + 1, ⟨h, hm⟩, by omega, rfl⟩
        · rw [if_pos h2] at hm
          rw [hm]
          rw [errV_ifc h2] at hco2 ⊢
          try simp (maxSteps := 2000000) (disch := omega) only [go_sem, seval]
          try repeat ((with_reducible refine And.intro ?_ ?_); focus (first | omega | assumption | exact True.intro | (show anyD _ _ = true; exact rfl) | (simp only [List.length_map, List.length_append, List.length_cons, List.length_nil, List.length_take, List.length_drop]; omega)))
          (first | refine callP.mk (hco2) rfl ?_ | refine callQ.mk (hco2) rfl ?_ | refine callO.rd (hco2) rfl ?_ | refine callO.mk (hco2) rfl ?_)
          try simp (maxSteps := 2000000) (disch := omega) only [go_sem, seval]
          try repeat ((with_reducible refine And.intro ?_ ?_); focus (first | omega | assumption | exact True.intro | (show anyD _ _ = true; exact rfl) | (simp only [List.length_map, List.length_append, List.length_cons, List.length_nil, List.length_take, List.length_drop]; omega)))
          (first | refine callP.mk (fnew_c (chkV k[j].vec).1 j) rfl ?_ | refine callQ.mk (fnew_c (chkV k[j].vec).1 j) rfl ?_ | refine callO.rd (fnew_c (chkV k[j].vec).1 j) rfl ?_ | refine callO.mk (fnew_c (chkV k[j].vec).1 j) rfl ?_)
          try simp (maxSteps := 2000000) (disch := omega) only [go_sem, seval]
          try repeat ((with_reducible refine And.intro ?_ ?_); focus (first | omega | assumption | exact True.intro | (show anyD _ _ = true; exact rfl) | (simp only [List.length_map, List.length_append, List.length_cons, List.length_nil, List.length_take, List.length_drop]; omega)))
          exact errV_sub _ _
      · rw [if_pos h1] at hm
        rw [hm]
        rw [errV_ifc h1] at hco1 ⊢
        try simp (maxSteps := 2000000) (disch := omega) only [go_sem, seval]
        try repeat ((with_reducible refine And.intro ?_ ?_); focus (first | omega | assumption | exact True.intro | (show anyD _ _ = true; exact rfl) | (simp only [List.length_map, List.length_append, List.length_cons, List.length_nil, List.length_take, List.length_drop]; omega)))
        (first | refine callP.mk (hco1) rfl ?_ | refine callQ.mk (hco1) rfl ?_ | refine callO.rd (hco1) rfl ?_ | refine callO.mk (hco1) rfl ?_)
        try simp (maxSteps := 2000000) (disch := omega) only [go_sem, seval]
        try repeat ((with_reducible refine And.intro ?_ ?_); focus (first | omega | assumption | exact True.intro | (show anyD _ _ = true; exact rfl) | (simp only [List.length_map, List.length_append, List.length_cons, List.length_nil, List.length_take, List.length_drop]; omega)))
        (first | refine callP.mk (fnew_c (chk k[j].items).1 j) rfl ?_ | refine callQ.mk (fnew_c (chk k[j].items).1 j) rfl ?_ | refine callO.rd (fnew_c (chk k[j].items).1 j) rfl ?_ | refine callO.mk (fnew_c (chk k[j].items).1 j) rfl ?_)
        try simp (maxSteps := 2000000) (disch := omega) only [go_sem, seval]
        try repeat ((with_reducible refine And.intro ?_ ?_); focus (first | omega | assumption | exact True.intro | (show anyD _ _ = true; exact rfl) | (simp only [List.length_map, List.length_append, List.length_cons, List.length_nil, List.length_take, List.length_drop]; omega)))
        exact errV_sub _ _
    · rw [hm, List.drop_of_length_le (by omega)]
      exact .eq _ rfl
theorem eqI_c (a b : List Nat) (ha : a.length ≤ 1152921504606846976) : Cn Tryz.prog 30 [is a, is b] (.v (.bool (decide (a = b)))) := by
  refine cn_go Tryz.func30 [] 2 (by kernel_rfl) rfl (by simp [go_sem, seval]) ?_
  conv => arg 4; cbv
  conv => enter [5, 1]; cbv
  try simp (maxSteps := 2000000) (disch := omega) only [go_sem, seval]
  try repeat ((with_reducible refine And.intro ?_ ?_); focus (first | omega | assumption | exact True.intro | (show anyD _ _ = true; exact rfl) | (simp only [List.length_map, List.length_append, List.length_cons, List.length_nil, List.length_take, List.length_drop]; omega)))
  (first | refine brP.mk (fun h0 => ?_) (fun h0 => ?_) | refine gdP.mkt (fun h0 => ?_) (fun h0 => ?_) | refine gdP.mkf (fun h0 => ?_) (fun h0 => ?_) | refine pkP.mk (fun h0 => ?_) (fun h0 => ?_)) <;> (try simp only [Bool.not_true, Bool.not_false, decide_eq_true_eq, decide_eq_false_iff_not, Bool.and_eq_true, Bool.or_eq_true, Bool.not_eq_true', Bool.not_eq_false', Bool.and_eq_false_iff, Bool.or_eq_false_iff, Nat.not_lt, Int.not_lt, Nat.not_le, Int.not_le, Int.ofNat_lt, Int.ofNat_le, Int.ofNat_inj, Bool.xor_false, Bool.false_xor, Bool.true_xor, Bool.xor_true] at h0) <;> (try simp (maxSteps := 2000000) (disch := omega) only [go_sem, seval]) <;> (try repeat ((with_reducible refine And.intro ?_ ?_); focus (first | omega | assumption | exact True.intro | (show anyD _ _ = true; exact rfl) | (simp only [List.length_map, List.length_append, List.length_cons, List.length_nil, List.length_take, List.length_drop]; omega))))
  · symm
    rw [decide_eq_false_iff_not]
    rintro rfl
    exact h0 rfl
  · have h0' : a.length = b.length := by simpa using h0
    clear h0
    refine pLoop.go (fun k => k ≤ a.length ∧ (a = b ↔ a.drop k = b.drop k)) (fun k => [(13, .v (.int .i64 (k : Nat)))]) (fun _ => []) (fun k => a.length - k) 0 [13] ?_ ?_ ?_
    · exact ⟨Nat.zero_le _, Iff.rfl⟩
    · try simp (maxSteps := 2000000) (disch := omega) only [go_sem, seval]
      try repeat ((with_reducible refine And.intro ?_ ?_); focus (first | omega | assumption | exact True.intro | (show anyD _ _ = true; exact rfl) | (simp only [List.length_map, List.length_append, List.length_cons, List.length_nil, List.length_take, List.length_drop]; omega)))
    · rintro k ⟨hk, hm⟩
      try simp (maxSteps := 2000000) (disch := omega) only [go_sem, seval]
      try repeat ((with_reducible refine And.intro ?_ ?_); focus (first | omega | assumption | exact True.intro | (show anyD _ _ = true; exact rfl) | (simp only [List.length_map, List.length_append, List.length_cons, List.length_nil, List.length_take, List.length_drop]; omega)))
      (first | refine brP.mk (fun h => ?_) (fun h => ?_) | refine gdP.mkt (fun h => ?_) (fun h => ?_) | refine gdP.mkf (fun h => ?_) (fun h => ?_) | refine pkP.mk (fun h => ?_) (fun h => ?_)) <;> (try simp only [Bool.not_true, Bool.not_false, decide_eq_true_eq, decide_eq_false_iff_not, Bool.and_eq_true, Bool.or_eq_true, Bool.not_eq_true', Bool.not_eq_false', Bool.and_eq_false_iff, Bool.or_eq_false_iff, Nat.not_lt, Int.not_lt, Nat.not_le, Int.not_le, Int.ofNat_lt, Int.ofNat_le, Int.ofNat_inj, Bool.xor_false, Bool.false_xor, Bool.true_xor, Bool.xor_true] at h) <;> (try simp (maxSteps := 2000000) (disch := omega) only [go_sem, seval]) <;> (try repeat ((with_reducible refine And.intro ?_ ?_); focus (first | omega | assumption | exact True.intro | (show anyD _ _ = true; exact rfl) | (simp only [List.length_map, List.length_append, List.length_cons, List.length_nil, List.length_take, List.length_drop]; omega))))
      · have hk' : k < b.length := by omega
        rw [List.drop_eq_getElem_cons h, List.drop_eq_getElem_cons hk', List.cons.injEq] at hm
        try simp (maxSteps := 2000000) (disch := omega) only [go_sem, seval]
        try repeat ((with_reducible refine And.intro ?_ ?_); focus (first | omega | assumption | exact True.intro | (show anyD _ _ = true; exact rfl) | (simp only [List.length_map, List.length_append, List.length_cons, List.length_nil, List.length_take, List.length_drop]; omega)))
        (first | refine brP.mk (fun e => ?_) (fun e => ?_) | refine gdP.mkt (fun e => ?_) (fun e => ?_) | refine gdP.mkf (fun e => ?_) (fun e => ?_) | refine pkP.mk (fun e => ?_) (fun e => ?_)) <;> (try simp only [Bool.not_true, Bool.not_false, decide_eq_true_eq, decide_eq_false_iff_not, Bool.and_eq_true, Bool.or_eq_true, Bool.not_eq_true', Bool.not_eq_false', Bool.and_eq_false_iff, Bool.or_eq_false_iff, Nat.not_lt, Int.not_lt, Nat.not_le, Int.not_le, Int.ofNat_lt, Int.ofNat_le, Int.ofNat_inj, Bool.xor_false, Bool.false_xor, Bool.true_xor, Bool.xor_true] at e) <;> (try simp (maxSteps := 2000000) (disch := omega) only [go_sem, seval]) <;> (try repeat ((with_reducible refine And.intro ?_ ?_); focus (first | omega | assumption | exact True.intro | (show anyD _ _ = true; exact rfl) | (simp only [List.length_map, List.length_append, List.length_cons, List.length_nil, List.length_take, List.length_drop]; omega))))
        · symm
          rw [decide_eq_false_iff_not]
          intro he
          exact absurd (hm.1 he).1 (by omega)
        · refine ⟨k + 1, ⟨h, ?_⟩, by omega, rfl⟩
          rw [hm]
          have e : a[k] = b[k] := by omega
          exact ⟨fun h => h.2, fun h => ⟨e, h⟩⟩
      · rw [eq_comm, decide_eq_true_eq, hm, List.drop_of_length_le (by omega), List.drop_of_length_le (by omega)]
def k11 : List Fg := [⟨[⟨1, 5⟩], [⟨1, 3, []⟩]⟩, ⟨[⟨4, 9⟩], [⟨2, 0, []⟩]⟩]
def u11 : List En := [⟨1, 3, []⟩, ⟨2, 0, []⟩]
def b11 : List Fg := [⟨[⟨2, 1⟩], []⟩]
theorem kn3 (r : Nat) : kn ⟨r, 3, []⟩ = [⟨0, 3⟩] := kn0 _ _ (by rw [M64_val]; omega)
theorem kn00 (r : Nat) : kn ⟨r, 0, []⟩ = [⟨0, 0⟩] := kn0 _ _ (by rw [M64_val]; omega)
theorem r11 : RightK k11 := by simp [k11, RightK, RightF, RightV, RightE, M64_val, Nrm, NF]
theorem u11_can : CanV u11 := ⟨by simp [u11, CanE, RightE, M64_val, Nrm, NF], by simp [u11]⟩
theorem bd11 : BdK k11 := ⟨by simp [k11, BdF, BdR, BdE, M64_val], by simp [k11]⟩
theorem bdb11 : BdK b11 := ⟨by simp [b11, BdF, BdR, BdE, M64_val], by simp [b11]⟩
theorem sz11 : SzK k11 := ⟨by simp [k11], by simp [k11]⟩
theorem szb11 : SzK b11 := ⟨by simp [b11], by simp [b11]⟩
theorem few11 : fewK k11 = true := by decide
theorem has11 (i r c : Nat) : hasK k11 i r c = ((mem [⟨1, 5⟩] i && mem (if 1 = r then [⟨0, 3⟩] else []) c) || (mem [⟨4, 9⟩] i && mem (if 2 = r then [⟨0, 0⟩] else []) c)) := by
  simp only [hasK, k11, List.any_cons, List.any_nil, knV_cons, knV_nil, kn3, kn00, Bool.or_false]
theorem at11 : vecAt k11 4 = u11 := by
  have h := r11.ik.at 4
  refine canV_unique h.1.can u11_can fun r => Nrm.unique (knV_nrm h.1.can.right r) (knV_nrm u11_can.right r) fun c hc => ?_
  rw [h.2 r c hc, has11]
  simp only [u11, knV_cons, knV_nil, kn3, kn00]
  by_cases h1 : 1 = r
  · rw [if_pos h1, if_pos h1, if_neg (by omega)]
    simp [mem]
  · rw [if_neg h1, if_neg h1]
    simp [mem]
theorem n19 : Nrm [⟨1, 9⟩] := nrm_one (by decide) (by rw [M64_val]; omega)
theorem it11 : itemsK k11 = [⟨1, 9⟩] := Nrm.unique r11.items.1 n19 fun x hx => by
  rw [r11.items.2.1 x hx, Bool.eq_iff_iff]
  simp [k11, mem]
  omega
theorem mb11 : membK k11 4 = [0, 1] := by decide
set_option maxHeartbeats 2000000 in
theorem alive11_c : Cn Tryz.prog 23 [] (.v (.bool true)) := by
  have hz : (ckK k11).1 = 0 := (ckK_iff bd11).2 r11
  have hg := sz11
  have hgb := szb11
  have ok := fewK_ok few11 r11
  have hs := fun f hf => few_smv few11 r11 (f := f) hf
  have h1 : hasK k11 4 1 3 = true := by rw [has11]; decide
  have h2 : hasK k11 4 2 0 = true := by rw [has11]; decide
  have h3 : hasK k11 3 2 0 = false := by rw [has11]; decide
  have hx : ckK b11 = (2, 0) := by decide
  have hco := code_c (ckK b11).1 (ckK b11).2
  have hl := fewK_len few11 r11
  have a1 := kat_c k11 4 r11.ik ok r11 hs hg
  have a2 := kitems_c k11 r11 hg (by decide) (by omega)
  have a3 := kmemb_c k11 4 r11 hg (by decide)
  rw [at11, u11] at a1
  rw [it11] at a2
  rw [mb11] at a3
  have c1 := khas_c k11 4 1 3 r11 (by rw [M64_val]; omega) hg
  have c2 := khas_c k11 4 2 0 r11 (by rw [M64_val]; omega) hg
  have c3 := khas_c k11 3 2 0 r11 (by rw [M64_val]; omega) hg
  rw [h1] at c1
  rw [h2] at c2
  rw [h3] at c3
  have d1 := kcheck_c k11 bd11 hg
  rw [errV_nil hz] at d1
  have d2 := kcheck_c b11 bdb11 hgb
  rw [hx] at d2 hco
  have e1 := same4_c [⟨1, 9⟩] [⟨1, 9⟩] (by decide)
  have e2 := eqI_c [0, 1] [0, 1] (by decide)
  refine cn_go Tryz.func23 [] 0 (by kernel_rfl) rfl (by simp [go_sem, seval]) ?_
  conv => arg 4; cbv
  conv => enter [5, 1]; cbv
  try simp (maxSteps := 2000000) (disch := omega) only [go_sem, seval]
  try repeat ((with_reducible refine And.intro ?_ ?_); focus (first | omega | assumption | exact True.intro | (show anyD _ _ = true; exact rfl) | (simp only [List.length_map, List.length_append, List.length_cons, List.length_nil, List.length_take, List.length_drop]; omega)))
  (first | refine callP.mk (d1) rfl ?_ | refine callQ.mk (d1) rfl ?_ | refine callO.rd (d1) rfl ?_ | refine callO.mk (d1) rfl ?_)
  try simp (maxSteps := 2000000) (disch := omega) only [go_sem, seval]
  try repeat ((with_reducible refine And.intro ?_ ?_); focus (first | omega | assumption | exact True.intro | (show anyD _ _ = true; exact rfl) | (simp only [List.length_map, List.length_append, List.length_cons, List.length_nil, List.length_take, List.length_drop]; omega)))
  (first | refine callP.mk (c1) rfl ?_ | refine callQ.mk (c1) rfl ?_ | refine callO.rd (c1) rfl ?_ | refine callO.mk (c1) rfl ?_)
  try simp (maxSteps := 2000000) (disch := omega) only [go_sem, seval]
  try repeat ((with_reducible refine And.intro ?_ ?_); focus (first | omega | assumption | exact True.intro | (show anyD _ _ = true; exact rfl) | (simp only [List.length_map, List.length_append, List.length_cons, List.length_nil, List.length_take, List.length_drop]; omega)))
  (first | refine callP.mk (c2) rfl ?_ | refine callQ.mk (c2) rfl ?_ | refine callO.rd (c2) rfl ?_ | refine callO.mk (c2) rfl ?_)
  try simp (maxSteps := 2000000) (disch := omega) only [go_sem, seval]
  try repeat ((with_reducible refine And.intro ?_ ?_); focus (first | omega | assumption | exact True.intro | (show anyD _ _ = true; exact rfl) | (simp only [List.length_map, List.length_append, List.length_cons, List.length_nil, List.length_take, List.length_drop]; omega)))
  (first | refine callP.mk (c3) rfl ?_ | refine callQ.mk (c3) rfl ?_ | refine callO.rd (c3) rfl ?_ | refine callO.mk (c3) rfl ?_)
  try simp (maxSteps := 2000000) (disch := omega) only [go_sem, seval]
  try repeat ((with_reducible refine And.intro ?_ ?_); focus (first | omega | assumption | exact True.intro | (show anyD _ _ = true; exact rfl) | (simp only [List.length_map, List.length_append, List.length_cons, List.length_nil, List.length_take, List.length_drop]; omega)))
  (first | refine callP.mk (a1) rfl ?_ | refine callQ.mk (a1) rfl ?_ | refine callO.rd (a1) rfl ?_ | refine callO.mk (a1) rfl ?_)
  try simp (maxSteps := 2000000) (disch := omega) only [go_sem, seval]
  try repeat ((with_reducible refine And.intro ?_ ?_); focus (first | omega | assumption | exact True.intro | (show anyD _ _ = true; exact rfl) | (simp only [List.length_map, List.length_append, List.length_cons, List.length_nil, List.length_take, List.length_drop]; omega)))
  (first | refine callP.mk (a2) rfl ?_ | refine callQ.mk (a2) rfl ?_ | refine callO.rd (a2) rfl ?_ | refine callO.mk (a2) rfl ?_)
  try simp (maxSteps := 2000000) (disch := omega) only [go_sem, seval]
  try repeat ((with_reducible refine And.intro ?_ ?_); focus (first | omega | assumption | exact True.intro | (show anyD _ _ = true; exact rfl) | (simp only [List.length_map, List.length_append, List.length_cons, List.length_nil, List.length_take, List.length_drop]; omega)))
  (first | refine callP.mk (e1) rfl ?_ | refine callQ.mk (e1) rfl ?_ | refine callO.rd (e1) rfl ?_ | refine callO.mk (e1) rfl ?_)
  try simp (maxSteps := 2000000) (disch := omega) only [go_sem, seval]
  try repeat ((with_reducible refine And.intro ?_ ?_); focus (first | omega | assumption | exact True.intro | (show anyD _ _ = true; exact rfl) | (simp only [List.length_map, List.length_append, List.length_cons, List.length_nil, List.length_take, List.length_drop]; omega)))
  (first | refine callP.mk (a3) rfl ?_ | refine callQ.mk (a3) rfl ?_ | refine callO.rd (a3) rfl ?_ | refine callO.mk (a3) rfl ?_)
  try simp (maxSteps := 2000000) (disch := omega) only [go_sem, seval]
  try repeat ((with_reducible refine And.intro ?_ ?_); focus (first | omega | assumption | exact True.intro | (show anyD _ _ = true; exact rfl) | (simp only [List.length_map, List.length_append, List.length_cons, List.length_nil, List.length_take, List.length_drop]; omega)))
  (first | refine callP.mk (e2) rfl ?_ | refine callQ.mk (e2) rfl ?_ | refine callO.rd (e2) rfl ?_ | refine callO.mk (e2) rfl ?_)
  try simp (maxSteps := 2000000) (disch := omega) only [go_sem, seval]
  try repeat ((with_reducible refine And.intro ?_ ?_); focus (first | omega | assumption | exact True.intro | (show anyD _ _ = true; exact rfl) | (simp only [List.length_map, List.length_append, List.length_cons, List.length_nil, List.length_take, List.length_drop]; omega)))
  (first | refine callP.mk (d2) rfl ?_ | refine callQ.mk (d2) rfl ?_ | refine callO.rd (d2) rfl ?_ | refine callO.mk (d2) rfl ?_)
  try simp (maxSteps := 2000000) (disch := omega) only [go_sem, seval]
  try repeat ((with_reducible refine And.intro ?_ ?_); focus (first | omega | assumption | exact True.intro | (show anyD _ _ = true; exact rfl) | (simp only [List.length_map, List.length_append, List.length_cons, List.length_nil, List.length_take, List.length_drop]; omega)))
  (first | refine callP.mk (hco) rfl ?_ | refine callQ.mk (hco) rfl ?_ | refine callO.rd (hco) rfl ?_ | refine callO.mk (hco) rfl ?_)
  try simp (maxSteps := 2000000) (disch := omega) only [go_sem, seval]
  try repeat ((with_reducible refine And.intro ?_ ?_); focus (first | omega | assumption | exact True.intro | (show anyD _ _ = true; exact rfl) | (simp only [List.length_map, List.length_append, List.length_cons, List.length_nil, List.length_take, List.length_drop]; omega)))
end Go.Proofs.YtjmhmeadcphfmaaGreatDoor
namespace Go.Proofs.YtjmhmeadcphfmaaGreatDoor
set_option linter.unusedVariables false
set_option linter.unusedSimpArgs false
open Go.RowKit
set_option maxRecDepth 100000
theorem fewK_get {k : List Fg} (h : fewK k = true) : k.length ≤ 12 ∧ ∀ f ∈ k, f.items.length ≤ 20 ∧ f.vec.length ≤ 20 ∧ ∀ e ∈ f.vec, e.holes.length ≤ 30 := by
  obtain ⟨h1, h2⟩ := fewK_iff.1 h
  exact ⟨h2, fun f hf => ⟨(h1 f hf).1, (fewB_iff.1 (h1 f hf).2).2, (fewB_iff.1 (h1 f hf).2).1⟩⟩
theorem fewK_g {k : List Fg} (h : fewK k = true) : SzK k := by
  obtain ⟨h1, h2⟩ := fewK_get h
  exact ⟨by omega, fun f hf => by
    obtain ⟨q1, q2, q3⟩ := h2 f hf
    exact ⟨by omega, by omega, fun e he => by have := q3 e he; omega⟩⟩
set_option maxHeartbeats 2000000 in
theorem scopeAt_c (k : List Fg) (x : Nat × Nat × Nat) (hk : BdK k) (hx : BdX x) : Cn Tryz.prog 6 [kp k, xp x] (.v (.bool true)) := by
  refine cn_goT Tryz.func6 [] 2 (by kernel_rfl) rfl (by simp [go_sem, seval]) 4 (.dr [⟨(some 19), none, (.ca 23 [])⟩, ⟨(some 20), none, (.mv (.t 19))⟩, ⟨(some 21), (some (20, true)), (.mv (.t 5))⟩, ⟨(some 22), (some (20, true)), (.mv (.t 0))⟩, ⟨(some 23), (some (20, true)), (.fa (.t 3) 0)⟩, ⟨(some 24), (some (20, true)), (.ld (.t 23) false 1)⟩, ⟨(some 25), (some (20, true)), (.ca 39 [(.t 22), (.t 24)])⟩, ⟨(some 26), (some (20, true)), (.ca 38 [(.t 21), (.t 25)])⟩, ⟨(some 27), none, (.pk (.t 20) (.t 26) (.c (.v (.bool false))))⟩, ⟨(some 28), none, (.mv (.t 27))⟩, ⟨(some 29), (some (28, true)), (.mv (.t 5))⟩, ⟨(some 30), (some (28, true)), (.ca 40 [(.t 29)])⟩, ⟨(some 31), none, (.pk (.t 28) (.t 30) (.c (.v (.bool false))))⟩, ⟨(some 32), none, (.mv (.t 31))⟩, ⟨(some 33), (some (32, true)), (.mv (.t 5))⟩, ⟨(some 34), (some (32, true)), (.fa (.t 3) 1)⟩, ⟨(some 35), (some (32, true)), (.ld (.t 34) false 1)⟩, ⟨(some 36), (some (32, true)), (.fa (.t 3) 2)⟩, ⟨(some 37), (some (32, true)), (.ld (.t 36) false 1)⟩, ⟨(some 38), (some (32, true)), (.ca 41 [(.t 33), (.t 35), (.t 37)])⟩, ⟨(some 39), (some (32, true)), (.mv (.t 0))⟩, ⟨(some 40), (some (32, true)), (.fa (.t 3) 0)⟩, ⟨(some 41), (some (32, true)), (.ld (.t 40) false 1)⟩, ⟨(some 42), (some (32, true)), (.fa (.t 3) 1)⟩, ⟨(some 43), (some (32, true)), (.ld (.t 42) false 1)⟩, ⟨(some 44), (some (32, true)), (.fa (.t 3) 2)⟩, ⟨(some 45), (some (32, true)), (.ld (.t 44) false 1)⟩, ⟨(some 46), (some (32, true)), (.ca 24 [(.t 39), (.t 41), (.t 43), (.t 45)])⟩, ⟨(some 47), (some (32, true)), (.beq false (.t 38) (.t 46))⟩, ⟨(some 48), none, (.pk (.t 32) (.t 47) (.c (.v (.bool false))))⟩, ⟨(some 4), none, (.mv (.t 48))⟩] []) rfl (by kernel_rfl) ?_
  conv => enter [4, 6]; (unfold codeOf; simp only [Tryz.f6])
  simp only [pcT, Nat.reduceEqDiff, if_false, if_true, reduceIte]
  repeat (conv in (leafC _ _ _ _ _ _) => cbv)
  repeat (conv in (leafP _) => cbv)
  conv => enter [5, 1]; cbv
  try simp (maxSteps := 2000000) (disch := omega) only [go_sem, seval]
  try repeat ((with_reducible refine And.intro ?_ ?_); focus (first | omega | assumption | exact True.intro | (show anyD _ _ = true; exact rfl) | (simp only [List.length_map, List.length_append, List.length_cons, List.length_nil, List.length_take, List.length_drop]; omega)))
  (first | refine callP.mk (kfew_c k hk) rfl ?_ | refine callQ.mk (kfew_c k hk) rfl ?_ | refine callO.rd (kfew_c k hk) rfl ?_ | refine callO.mk (kfew_c k hk) rfl ?_)
  try simp (maxSteps := 2000000) (disch := omega) only [go_sem, seval]
  try repeat ((with_reducible refine And.intro ?_ ?_); focus (first | omega | assumption | exact True.intro | (show anyD _ _ = true; exact rfl) | (simp only [List.length_map, List.length_append, List.length_cons, List.length_nil, List.length_take, List.length_drop]; omega)))
  (first | refine brP.mk (fun h => ?_) (fun h => ?_) | refine gdP.mkt (fun h => ?_) (fun h => ?_) | refine gdP.mkf (fun h => ?_) (fun h => ?_) | refine pkP.mk (fun h => ?_) (fun h => ?_)) <;> (try simp only [Bool.not_true, Bool.not_false, decide_eq_true_eq, decide_eq_false_iff_not, Bool.and_eq_true, Bool.or_eq_true, Bool.not_eq_true', Bool.not_eq_false', Bool.and_eq_false_iff, Bool.or_eq_false_iff, Nat.not_lt, Int.not_lt, Nat.not_le, Int.not_le, Int.ofNat_lt, Int.ofNat_le, Int.ofNat_inj, Bool.xor_false, Bool.false_xor, Bool.true_xor, Bool.xor_true] at h) <;> (try simp (maxSteps := 2000000) (disch := omega) only [go_sem, seval]) <;> (try repeat ((with_reducible refine And.intro ?_ ?_); focus (first | omega | assumption | exact True.intro | (show anyD _ _ = true; exact rfl) | (simp only [List.length_map, List.length_append, List.length_cons, List.length_nil, List.length_take, List.length_drop]; omega))))
  · (first | refine callP.mk (alive11_c) rfl ?_ | refine callQ.mk (alive11_c) rfl ?_ | refine callO.rd (alive11_c) rfl ?_ | refine callO.mk (alive11_c) rfl ?_)
    try simp (maxSteps := 2000000) (disch := omega) only [go_sem, seval]
    try repeat ((with_reducible refine And.intro ?_ ?_); focus (first | omega | assumption | exact True.intro | (show anyD _ _ = true; exact rfl) | (simp only [List.length_map, List.length_append, List.length_cons, List.length_nil, List.length_take, List.length_drop]; omega)))
  · have hg := fewK_g h
    (first | refine callP.mk (kright_c k hk hg) rfl ?_ | refine callQ.mk (kright_c k hk hg) rfl ?_ | refine callO.rd (kright_c k hk hg) rfl ?_ | refine callO.mk (kright_c k hk hg) rfl ?_)
    try simp (maxSteps := 2000000) (disch := omega) only [go_sem, seval]
    try repeat ((with_reducible refine And.intro ?_ ?_); focus (first | omega | assumption | exact True.intro | (show anyD _ _ = true; exact rfl) | (simp only [List.length_map, List.length_append, List.length_cons, List.length_nil, List.length_take, List.length_drop]; omega)))
    (first | refine brP.mk (fun h2 => ?_) (fun h2 => ?_) | refine gdP.mkt (fun h2 => ?_) (fun h2 => ?_) | refine gdP.mkf (fun h2 => ?_) (fun h2 => ?_) | refine pkP.mk (fun h2 => ?_) (fun h2 => ?_)) <;> (try simp only [Bool.not_true, Bool.not_false, decide_eq_true_eq, decide_eq_false_iff_not, Bool.and_eq_true, Bool.or_eq_true, Bool.not_eq_true', Bool.not_eq_false', Bool.and_eq_false_iff, Bool.or_eq_false_iff, Nat.not_lt, Int.not_lt, Nat.not_le, Int.not_le, Int.ofNat_lt, Int.ofNat_le, Int.ofNat_inj, Bool.xor_false, Bool.false_xor, Bool.true_xor, Bool.xor_true] at h2) <;> (try simp (maxSteps := 2000000) (disch := omega) only [go_sem, seval]) <;> (try repeat ((with_reducible refine And.intro ?_ ?_); focus (first | omega | assumption | exact True.intro | (show anyD _ _ = true; exact rfl) | (simp only [List.length_map, List.length_append, List.length_cons, List.length_nil, List.length_take, List.length_drop]; omega))))
    · (first | refine callP.mk (alive11_c) rfl ?_ | refine callQ.mk (alive11_c) rfl ?_ | refine callO.rd (alive11_c) rfl ?_ | refine callO.mk (alive11_c) rfl ?_)
      try simp (maxSteps := 2000000) (disch := omega) only [go_sem, seval]
      try repeat ((with_reducible refine And.intro ?_ ?_); focus (first | omega | assumption | exact True.intro | (show anyD _ _ = true; exact rfl) | (simp only [List.length_map, List.length_append, List.length_cons, List.length_nil, List.length_take, List.length_drop]; omega)))
    · have hr := (ckK_iff hk).1 h2
      have ok := fewK_ok h hr
      have hat := hr.ik.at x.1
      have sm := hat.1.smv ok
      have e3 := (canVB_iff hat.1.can.bd).2 hat.1.can
      (first | refine callP.mk (kat_c k x.1 hr.ik ok hr (fun f hf => few_smv h hr hf) hg) rfl ?_ | refine callQ.mk (kat_c k x.1 hr.ik ok hr (fun f hf => few_smv h hr hf) hg) rfl ?_ | refine callO.rd (kat_c k x.1 hr.ik ok hr (fun f hf => few_smv h hr hf) hg) rfl ?_ | refine callO.mk (kat_c k x.1 hr.ik ok hr (fun f hf => few_smv h hr hf) hg) rfl ?_)
      try simp (maxSteps := 2000000) (disch := omega) only [go_sem, seval]
      try repeat ((with_reducible refine And.intro ?_ ?_); focus (first | omega | assumption | exact True.intro | (show anyD _ _ = true; exact rfl) | (simp only [List.length_map, List.length_append, List.length_cons, List.length_nil, List.length_take, List.length_drop]; omega)))
      (first | refine callP.mk (alive11_c) rfl ?_ | refine callQ.mk (alive11_c) rfl ?_ | refine callO.rd (alive11_c) rfl ?_ | refine callO.mk (alive11_c) rfl ?_)
      try simp (maxSteps := 2000000) (disch := omega) only [go_sem, seval]
      try repeat ((with_reducible refine And.intro ?_ ?_); focus (first | omega | assumption | exact True.intro | (show anyD _ _ = true; exact rfl) | (simp only [List.length_map, List.length_append, List.length_cons, List.length_nil, List.length_take, List.length_drop]; omega)))
      (first | refine callP.mk (refKAt_c k x.1 hr.ik ok hr (fun f hf => few_smv h hr hf) hg) rfl ?_ | refine callQ.mk (refKAt_c k x.1 hr.ik ok hr (fun f hf => few_smv h hr hf) hg) rfl ?_ | refine callO.rd (refKAt_c k x.1 hr.ik ok hr (fun f hf => few_smv h hr hf) hg) rfl ?_ | refine callO.mk (refKAt_c k x.1 hr.ik ok hr (fun f hf => few_smv h hr hf) hg) rfl ?_)
      try simp (maxSteps := 2000000) (disch := omega) only [go_sem, seval]
      try repeat ((with_reducible refine And.intro ?_ ?_); focus (first | omega | assumption | exact True.intro | (show anyD _ _ = true; exact rfl) | (simp only [List.length_map, List.length_append, List.length_cons, List.length_nil, List.length_take, List.length_drop]; omega)))
      (first | refine callP.mk (sameV_c (vecAt k x.1) (vecAt k x.1) sm.g.1 sm.g.2) rfl ?_ | refine callQ.mk (sameV_c (vecAt k x.1) (vecAt k x.1) sm.g.1 sm.g.2) rfl ?_ | refine callO.rd (sameV_c (vecAt k x.1) (vecAt k x.1) sm.g.1 sm.g.2) rfl ?_ | refine callO.mk (sameV_c (vecAt k x.1) (vecAt k x.1) sm.g.1 sm.g.2) rfl ?_)
      try simp (maxSteps := 2000000) (disch := omega) only [go_sem, seval]
      try repeat ((with_reducible refine And.intro ?_ ?_); focus (first | omega | assumption | exact True.intro | (show anyD _ _ = true; exact rfl) | (simp only [List.length_map, List.length_append, List.length_cons, List.length_nil, List.length_take, List.length_drop]; omega)))
      (first | refine callP.mk (vcanonical_c (vecAt k x.1) hat.1.can.bd sm.g.1 sm.g.2) rfl ?_ | refine callQ.mk (vcanonical_c (vecAt k x.1) hat.1.can.bd sm.g.1 sm.g.2) rfl ?_ | refine callO.rd (vcanonical_c (vecAt k x.1) hat.1.can.bd sm.g.1 sm.g.2) rfl ?_ | refine callO.mk (vcanonical_c (vecAt k x.1) hat.1.can.bd sm.g.1 sm.g.2) rfl ?_)
      rw [e3]
      try simp (maxSteps := 2000000) (disch := omega) only [go_sem, seval]
      try repeat ((with_reducible refine And.intro ?_ ?_); focus (first | omega | assumption | exact True.intro | (show anyD _ _ = true; exact rfl) | (simp only [List.length_map, List.length_append, List.length_cons, List.length_nil, List.length_take, List.length_drop]; omega)))
      (first | refine callP.mk (vhas_c (vecAt k x.1) x.2.1 x.2.2 hat.1.can.right hx.2.2 sm.g.1 sm.g.2) rfl ?_ | refine callQ.mk (vhas_c (vecAt k x.1) x.2.1 x.2.2 hat.1.can.right hx.2.2 sm.g.1 sm.g.2) rfl ?_ | refine callO.rd (vhas_c (vecAt k x.1) x.2.1 x.2.2 hat.1.can.right hx.2.2 sm.g.1 sm.g.2) rfl ?_ | refine callO.mk (vhas_c (vecAt k x.1) x.2.1 x.2.2 hat.1.can.right hx.2.2 sm.g.1 sm.g.2) rfl ?_)
      try simp (maxSteps := 2000000) (disch := omega) only [go_sem, seval]
      try repeat ((with_reducible refine And.intro ?_ ?_); focus (first | omega | assumption | exact True.intro | (show anyD _ _ = true; exact rfl) | (simp only [List.length_map, List.length_append, List.length_cons, List.length_nil, List.length_take, List.length_drop]; omega)))
      (first | refine callP.mk (khas_c k x.1 x.2.1 x.2.2 hr hx.2.2 hg) rfl ?_ | refine callQ.mk (khas_c k x.1 x.2.1 x.2.2 hr hx.2.2 hg) rfl ?_ | refine callO.rd (khas_c k x.1 x.2.1 x.2.2 hr hx.2.2 hg) rfl ?_ | refine callO.mk (khas_c k x.1 x.2.1 x.2.2 hr hx.2.2 hg) rfl ?_)
      try simp (maxSteps := 2000000) (disch := omega) only [go_sem, seval]
      try repeat ((with_reducible refine And.intro ?_ ?_); focus (first | omega | assumption | exact True.intro | (show anyD _ _ = true; exact rfl) | (simp only [List.length_map, List.length_append, List.length_cons, List.length_nil, List.length_take, List.length_drop]; omega)))
      rw [hat.2 _ _ hx.2.2]
      simp
end Go.Proofs.YtjmhmeadcphfmaaGreatDoor
