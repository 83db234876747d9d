/- Texts of this claim, bound together: Mq T12 Lo T13 T14 T15 T16 T17 Q9 Q12 Q9n T18. -/
import Derived.Test.YtjmhmeadcphfmaaGreatDoorB15
/- The contract of lattice.pair. -/
namespace Go.Proofs.YtjmhmeadcphfmaaGreatDoor
set_option linter.unusedVariables false
set_option linter.unusedSimpArgs false
open Go.RowKit Go.Maps
set_option maxRecDepth 100000
attribute [-go_sem] nat_succ
theorem ixs_0 (a1 a2 : Option Addr) (n1 n2 c1 c2 : Nat) (w : World) : (Instr.index 253 (.agg #[.slice a1 n1 c1, .slice a2 n2 c2]) (.int .i64 0)).run Tryz.prog w = .ok (.slice a1 n1 c1) w := by kernel_rfl
theorem ixs_1 (a1 a2 : Option Addr) (n1 n2 c1 c2 : Nat) (w : World) : (Instr.index 253 (.agg #[.slice a1 n1 c1, .slice a2 n2 c2]) (.int .i64 1)).run Tryz.prog w = .ok (.slice a2 n2 c2) w := by kernel_rfl
theorem rg_slice {D : Nat → Nat → Prop} {w : World} {v : Value} {l : List Iv} (h : Dat D w v (rg l)) : ∃ ad cap, v = .slice ad l.length cap := by
  have h' : Dat D w v (.sl (l.map ivc) .sh) := h
  obtain ⟨ad, cap, sz, b, off, f, e1, _⟩ := (Rel.dat (ρ := fun _ => 0) (nb := 0) h').inv_sl
  rw [List.length_map] at e1
  exact ⟨ad, cap, e1⟩
theorem ownsMap_block {w w' : World} {b n : Nat} {D : DV} (h : w.ownsMap Tryz.prog 24 rV b n D) (hb : w'.heap[b]? = w.heap[b]?) : w'.ownsMap Tryz.prog 24 rV b n D := by
  obtain ⟨es, clock, h1, r⟩ := h
  exact ⟨es, clock, hb.trans h1, r⟩
theorem map_look {w : World} {b n : Nat} {D : DV} (h : w.ownsMap Tryz.prog 24 rV b n D) {r : Nat} (hr : r < M64) {s0 s1 : Value} (he : D.atKey (kR r) (.held zP) = .held (.agg #[s0, s1])) :
    (Instr.lookup 227 (.map (some b)) (.int .u64 (r : Nat)) false).run Tryz.prog w = .ok (.agg #[s0, s1]) w := by
  obtain ⟨v, ps, h1, h2⟩ := h.lookup law_u Tryz.underlying227 (zeroPair w) (zd := .held zP) (zp := []) rfl (key_r hr)
  rw [he] at h2
  unfold rV at h2
  cases h2
  exact h1
theorem agg3_en {D : Nat → Nat → Prop} {w : World} {e : En} {ah : Option Addr} {ch : Nat} (hd : Dat D w (.slice ah e.holes.length ch) (rg e.holes)) : Dat D w (.agg #[.int .u64 e.rep, .int .u64 e.max, .slice ah e.holes.length ch]) (ep e) := by
  refine .agg _ _ rfl (fun i hi => ?_) fun i p hp => ?_
  · match i, hi with
    | 0, _ => rfl
    | 1, _ => rfl
    | 2, _ => rfl
  · match i, hp with
    | 0, hp => cases hp; exact .v _
    | 1, hp => cases hp; exact .v _
    | 2, hp => cases hp; exact hd
/-- What entry.Known leaves, called with an entry of an argument. -/
theorem known_w {C : Nat → Nat → Prop} {w : World} {n0 : Nat} {e : En} {ah : Option Addr} {ch : Nat} (hE : RightE e) (hl : e.holes.length ≤ 10000) (hr : Dat C w (.slice ah e.holes.length ch) (rg e.holes)) (hC : ∀ b o, C b o → b < n0) (hn : n0 ≤ w.heap.size) (hG : GL C w) :
    Calls Tryz.prog 124 #[.agg #[.int .u64 e.rep, .int .u64 e.max, .slice ah e.holes.length ch]] w fun e' w' => ∃ ad cap, e' = .returned (.slice ad (kn e).length cap) ∧ Below w.heap.size w w' ∧ Dat (fun b o => C b o ∨ (w.heap.size ≤ b ∧ b < w'.heap.size)) w' (.slice ad (kn e).length cap) (rg (kn e)) := by
  refine ((eknown_c e hE (by omega)).2 C w _ hG (fun b o h => Nat.lt_of_lt_of_le (hC b o h) hn) rfl (fun i p hp => ?_)).mono ?_
  · match i, hp with
    | 0, hp => cases hp; exact agg3_en hr
    | i + 1, hp => simp at hp
  · rintro e' w' ⟨v, D', rfl, hb, q1, q2, q3, hd, _⟩
    have hd' : Dat D' w' v (.sl ((kn e).map ivc) .sh) := hd
    obtain ⟨ad, cap, sz, b, off, f, e1, _⟩ := (Rel.dat (ρ := fun _ => 0) (nb := 0) hd').inv_sl
    rw [List.length_map] at e1
    subst e1
    exact ⟨ad, cap, rfl, hb, hd.mono (fun b o h => (q2 b o h).imp id fun h' => ⟨h', q3 b o h⟩) fun _ _ _ _ h => h⟩
theorem cells_of {w : World} {g : Nat} {cs : Array Value} {t : TypeId} (h : w.heap[g]? = some (.cells cs t (0, 0))) (i : Nat) (v : Value) (hv : cs[i]? = some v) : w.cell? ⟨g, i, none⟩ = some v ∧ w.frozen? ⟨g, i, none⟩ = false := by
  constructor
  · simp [World.cell?, h, hv]
  · simp [World.frozen?, h]
theorem knV0 : (fun r => knV [] r) = fun _ => [] := rfl
/-- A round's outcome. -/
theorem pair_step0 {C : Nat → Nat → Prop} {w wr w3 w5 : World} {D : DV} {dom : List Nat} {f0 f1 : Nat → List Iv} {e : En} {s0 s1 v : Value} {o1 o2 : Obj} (hC : ∀ b o, C b o → b < w.heap.size) (hpd : PairD C wr w.heap.size D dom f0 f1) (he : D.atKey (kR e.rep) (.held zP) = .held (.agg #[s0, s1]))
    (hB : Below w.heap.size w wr) (hlt : w.heap.size < wr.heap.size) (hb3 : Below ((wr.alloc o1).alloc o2).heap.size ((wr.alloc o1).alloc o2) w3) (hd : Dat (fun b o => C b o ∨ (((wr.alloc o1).alloc o2).heap.size ≤ b ∧ b < w3.heap.size)) w3 v (rg (kn e))) (j : Nat)
    (hg : (w3.setCell ⟨wr.heap.size + 1, j, none⟩ v).grownBy w5 (some w.heap.size)) :
    PairD C w5 w.heap.size (D.put (kR e.rep) (.held (.agg #[v, s1]))) (dom ++ [e.rep]) (fun r => if r = e.rep then kn e else f0 r) f1 ∧
    PairD C w5 w.heap.size (D.put (kR e.rep) (.held (.agg #[s0, v]))) (dom ++ [e.rep]) f0 (fun r => if r = e.rep then kn e else f1 r) ∧ Below w.heap.size w w5 := by
  have hs : ((wr.alloc o1).alloc o2).heap.size = wr.heap.size + 2 := by simp
  have h3 : wr.heap.size + 2 ≤ w3.heap.size := hs ▸ hb3.size
  have hblk : ∀ k, k < wr.heap.size → (w3.setCell ⟨wr.heap.size + 1, j, none⟩ v).heap[k]? = wr.heap[k]? := fun k hk => by
    rw [Below.heap_setCell _ _ _ _ (by show k ≠ wr.heap.size + 1; omega), hb3.block k (by omega), Below.heap_alloc _ _ _ (by simp; omega), Below.heap_alloc _ _ _ hk]
  have p4 : PairD C (w3.setCell ⟨wr.heap.size + 1, j, none⟩ v) w.heap.size D dom f0 f1 := hpd.mono hC (by simp; omega) fun k hk _ => hblk k hk
  have d4 : Dat (DL C w.heap.size (w3.setCell ⟨wr.heap.size + 1, j, none⟩ v)) (w3.setCell ⟨wr.heap.size + 1, j, none⟩ v) v (rg (kn e)) := by
    refine hd.mono (fun b o h => h.imp id fun h => ⟨by omega, ?_⟩) fun b o x h hx => ?_
    · show b < (w3.setCell ⟨wr.heap.size + 1, j, none⟩ v).heap.size
      simp
      omega
    · refine (World.cell?_of_block (a := ⟨b, o, none⟩) (Below.heap_setCell _ _ _ _ ?_)).trans hx
      show b ≠ wr.heap.size + 1
      rcases h with h | h
      · have := hC b o h
        omega
      · omega
  have m5 : ∀ {D : DV} {dom : List Nat} {f0 f1 : Nat → List Iv}, PairD C (w3.setCell ⟨wr.heap.size + 1, j, none⟩ v) w.heap.size D dom f0 f1 → PairD C w5 w.heap.size D dom f0 f1 := fun h => h.mono hC hg.size fun k hk hne => hg.block k hk (by simpa using hne)
  refine ⟨m5 (p4.put0 d4 he), m5 (p4.put1 d4 he), ?_⟩
  have b4 : Below w.heap.size w (w3.setCell ⟨wr.heap.size + 1, j, none⟩ v) := by
    refine Below.setCell ?_ (by show w.heap.size ≤ wr.heap.size + 1; omega) _
    refine Below.trans ((hB.alloc hB.size o1).alloc (by simp; omega) o2) (hb3.mono (by omega))
  exact b4.grown hg b4.size fun j hj => by cases hj; exact Nat.le_refl _
set_option maxHeartbeats 8000000 in
theorem pair_calls (C : Nat → Nat → Prop) (a b : List En) (va vb : Value) (w : World) (ha : SmV a) (hb : SmV b) (ra : RdF C w.heap.size w va a) (rb : RdF C w.heap.size w vb b) (hC : ∀ b o, C b o → b < w.heap.size) (hG : GL C w) :
    Calls Tryz.prog 194 #[va, vb] w fun e w' => e = .returned (.map (some w.heap.size)) ∧ Below w.heap.size w w' ∧ ∃ D, w'.ownsMap Tryz.prog 24 rV w.heap.size (a.length + b.length) D ∧ PairD C w' w.heap.size D (reps a ++ reps b) (knV a) (knV b) := by
  have hmm := @run_makeMap Tryz.prog
  have RA := Lib.hid ra
  have RB := Lib.hid rb
  obtain ⟨aa, ca, rfl, hac, ham, _⟩ := ra
  obtain ⟨ab, cb, rfl, hbc, hbm, _⟩ := rb
  unfold maxLen at ham hbm
  have i0 := ixs_0 aa ab a.length b.length ca cb
  have i1 := ixs_1 aa ab a.length b.length ca cb
  go_enter Tryz.func194, Tryz.ntmps194
  go_wp2_with fail
  go_loopg [15] 2 (fun g x wr => ∃ D, ((g = 2 ∧ x = .int .i64 0 ∧ wr.ownsMap Tryz.prog 24 rV w.heap.size 0 D ∧ PairD C wr w.heap.size D [] (fun _ => []) (fun _ => [])) ∨
      (g = 1 ∧ x = .int .i64 1 ∧ wr.ownsMap Tryz.prog 24 rV w.heap.size a.length D ∧ PairD C wr w.heap.size D (reps a) (knV a) (fun _ => [])) ∨
      (g = 0 ∧ x = .int .i64 2 ∧ wr.ownsMap Tryz.prog 24 rV w.heap.size (a.length + b.length) D ∧ PairD C wr w.heap.size D (reps a ++ reps b) (knV a) (knV b))) ∧ Below w.heap.size w wr)
  case atStart => exact ⟨.map [], .inl ⟨rfl, rfl, World.ownsMap_made _ _ _ _, PairD.start _ _ _⟩, (Below.refl _ _).alloc (Nat.le_refl _) _⟩
  case round =>
    obtain ⟨D, hcase, hB⟩ := hrel
    obtain ⟨wo, hwo⟩ : ∃ wo, wo = wr := ⟨_, rfl⟩
    subst hwo
    have HB := Lib.hid hB
    clear hB
    rcases hcase with ⟨rfl, rfl, hown, hpd⟩ | ⟨rfl, rfl, hown, hpd⟩ | ⟨rfl, rfl, hown, hpd⟩
    · have HO := Lib.hid hown
      have HP := Lib.hid hpd
      clear hown hpd
      go_wp2_with fail
      go_loopg [21] a.length (fun g x wr => ∃ k D, k ≤ a.length ∧ g = a.length - k ∧ x = .int .i64 k ∧ wr.ownsMap Tryz.prog 24 rV w.heap.size (0 + k) D ∧ PairD C wr w.heap.size D (reps (a.take k)) (knV (a.take k)) (fun _ => []) ∧ Below w.heap.size w wr ∧ w.heap.size < wr.heap.size)
      case atStart => exact ⟨0, D, Nat.zero_le _, rfl, rfl, HO.out, HP.out, HB.out, HO.out.lt⟩
      case round =>
        obtain ⟨k, D', hk, rfl, rfl, hownk, hpk, hBk, hltk⟩ := hrel
        clear HO HP HB
        by_cases hlt : k < a.length
        · have HO := Lib.hid hownk
          have HP := Lib.hid hpk
          have HB := Lib.hid hBk
          obtain ⟨a', cap', hav, _, _, hcl⟩ := RdF.keep hC RA.out fun j hj => hBk.block j hj
          obtain ⟨bb, off, hab, _, hbn, hcel⟩ := hcl (by intro e; subst e; simp at hlt)
          obtain ⟨rfl, _, rfl⟩ : aa = a' ∧ a.length = a.length ∧ ca = cap' := by simpa using hav
          subst hab
          obtain ⟨c0, c1, ⟨hv, c2, hvr⟩, hr1, hr2⟩ := hcel k hlt
          have HE : Hid (∃ e, e = a[k]) := ⟨_, rfl⟩
          obtain ⟨e, he⟩ := HE.out
          have hE : RightE e ∧ e.holes.length ≤ 10000 := by rw [he]; exact ⟨ha.1.1 _ (List.getElem_mem hlt), ha.2.2 _ (List.getElem_mem hlt)⟩
          have hT := knV_take ha.1 hlt
          have hR : reps (a.take (k + 1)) = reps (a.take k) ++ [e.rep] := by unfold reps; rw [List.take_succ_eq_append_getElem hlt, he, List.map_append]; rfl
          rw [← he] at c0 c1 hvr hr1 hr2 hT
          have HT := Lib.hid hT
          have HR := Lib.hid hR
          clear hcl hcel he HE hav hownk hpk hBk hT hR
          obtain ⟨s0, s1, hat, hd0, hd1⟩ := (HP.out.2 e.rep).2
          obtain ⟨a0, n0, rfl⟩ := rg_slice hd0
          obtain ⟨a1, n1, rfl⟩ := rg_slice hd1
          clear hd0 hd1
          have HA := Lib.hid hat
          have hhl : e.holes.length ≤ maxLen := by have := hE.2; unfold maxLen; omega
          obtain ⟨ah, ch, rfl⟩ := rg_slice hvr
          have HH := Lib.hid hvr
          clear hvr
          have hlk := map_look (HO.out.alloc (.cells #[.int .u64 e.rep, .int .u64 e.max, .slice ah e.holes.length ch] 61)) hr1 HA.out
          have hkn := known_w (w := (wr.alloc (.cells #[.int .u64 e.rep, .int .u64 e.max, .slice ah e.holes.length ch] 61)).alloc (.cells #[.slice a0 (knV (a.take k) e.rep).length n0, .slice a1 ([] : List Iv).length n1] 232)) hE.1 hE.2
            (HH.out.mono (fun _ _ h => h) fun j o x hj hx => (World.cell?_of_block (a := ⟨j, o, none⟩) (by have hj' := hC j o hj; rw [Below.heap_alloc _ _ _ (by simp; omega), Below.heap_alloc _ _ _ (by show j < _; omega)])).trans hx) hC (by simp; omega)
            (hG.mono (fun _ _ h => h) fun j o x hj hx => (World.cell?_of_block (a := ⟨j, o, none⟩) (by have hj' := hC j o hj; rw [Below.heap_alloc _ _ _ (by simp; omega), Below.heap_alloc _ _ _ (by show j < _; omega), HB.out.block j (hC j o hj)])).trans hx)
          have HK := Lib.hid hkn
          clear hat hkn
          have HG := Lib.hid hG
          clear hG
          have tokA : True := trivial
          have tokB : True := trivial
          go_wp2_with (first
            | (go_at_call 124; have _t := tokA; refine HK.out.mono ?_; rintro e' w3 ⟨ad, cap, rfl, hb3, hd3⟩
               have hx9 : w3.heap[wr.heap.size]? = some (.cells #[.int .u64 e.rep, .int .u64 e.max, .slice ah e.holes.length ch] 61 (0, 0)) := by rw [hb3.block _ (by simp; omega), Below.heap_alloc _ _ _ (by simp)]; exact World.alloc_heap_new wr _
               have hx10 : w3.heap[wr.heap.size + 1]? = some (.cells #[.slice a0 (knV (a.take k) e.rep).length n0, .slice a1 ([] : List Iv).length n1] 232 (0, 0)) := by rw [hb3.block _ (by simp)]; have := World.alloc_heap_new (wr.alloc (.cells #[.int .u64 e.rep, .int .u64 e.max, .slice ah e.holes.length ch] 61)) (.cells #[.slice a0 (knV (a.take k) e.rep).length n0, .slice a1 ([] : List Iv).length n1] 232); rwa [World.size_alloc] at this
               have hmb : w3.heap[w.heap.size]? = wr.heap[w.heap.size]? := by rw [hb3.block _ (by simp; omega), Below.heap_alloc _ _ _ (by simp; omega), Below.heap_alloc _ _ _ (by omega)]
               have f1 := (cells_of hx9 0 _ rfl).1
               have f2 := (cells_of hx10 0 _ rfl).1
               have f3 := (cells_of hx10 0 _ rfl).2
               have f4 := (cells_of hx10 1 _ rfl).1
               have HO3 := Lib.hid (((ownsMap_block HO.out hmb).setCell (a := ⟨wr.heap.size + 1, 0, none⟩) (by show w.heap.size ≠ wr.heap.size + 1; omega) (.slice ad (kn e).length cap)))
               have HB3 := Lib.hid hb3
               have HD3 := Lib.hid hd3
               clear hx9 hx10 hmb hb3 hd3 tokA)
            | (at_mapUpdate; have _t := tokB; refine wpList_mapUpdate_own _ rfl _ _ _ 227 rfl 24 232 law_u Tryz.underlying227 rV w.heap.size (0 + k) D' rfl HO3.out (by have := ha.2.1; unfold maxLen; omega) _ _ (kR e.rep) rfl rfl (key_r hr1) _ [] rfl ?_; intro w5 hown5 hgrow5; clear tokB; have HO5 := Lib.hid hown5; have HG5 := Lib.hid hgrow5; clear hown5 hgrow5; dsimp only [Act.put])
            | go_in)
          obtain ⟨p1, p2, p3⟩ := pair_step0 hC HP.out HA.out HB.out hltk HB3.out HD3.out 0 HG5.out
          have h5 : w.heap.size < w5.heap.size := HO5.out.lt
          go_roundg (a.length - (k + 1))
          case measure => omega
          case rel => exact ⟨k + 1, _, hlt, rfl, by simp, HO5.out, by rw [HR.out, HT.out]; exact p1, p3, h5⟩
        · have hke : k = a.length := by omega
          subst hke
          rw [List.take_length] at hpk
          have HO := Lib.hid hownk
          have HP := Lib.hid hpk
          have HB := Lib.hid hBk
          clear hownk hpk hBk
          go_wp2_with fail
          go_roundg 1
          case measure => omega
          case rel => exact ⟨D', .inr (.inl ⟨rfl, rfl, by have := HO.out; simpa using this, HP.out⟩), HB.out⟩
    · have HO := Lib.hid hown
      have HP := Lib.hid hpd
      clear hown hpd
      go_wp2_with fail
      go_loopg [21] b.length (fun g x wr => ∃ k D, k ≤ b.length ∧ g = b.length - k ∧ x = .int .i64 k ∧ wr.ownsMap Tryz.prog 24 rV w.heap.size (a.length + k) D ∧ PairD C wr w.heap.size D (reps a ++ reps (b.take k)) (knV a) (knV (b.take k)) ∧ Below w.heap.size w wr ∧ w.heap.size < wr.heap.size)
      case atStart => exact ⟨0, D, Nat.zero_le _, rfl, rfl, HO.out.mono (by omega), (by have := HP.out; simpa [reps, knV0] using this), HB.out, HO.out.lt⟩
      case round =>
        obtain ⟨k, D', hk, rfl, rfl, hownk, hpk, hBk, hltk⟩ := hrel
        clear HO HP HB
        by_cases hlt : k < b.length
        · have HO := Lib.hid hownk
          have HP := Lib.hid hpk
          have HB := Lib.hid hBk
          obtain ⟨a', cap', hav, _, _, hcl⟩ := RdF.keep hC RB.out fun j hj => hBk.block j hj
          obtain ⟨bb, off, hab, _, hbn, hcel⟩ := hcl (by intro e; subst e; simp at hlt)
          obtain ⟨rfl, _, rfl⟩ : ab = a' ∧ b.length = b.length ∧ cb = cap' := by simpa using hav
          subst hab
          obtain ⟨c0, c1, ⟨hv, c2, hvr⟩, hr1, hr2⟩ := hcel k hlt
          have HE : Hid (∃ e, e = b[k]) := ⟨_, rfl⟩
          obtain ⟨e, he⟩ := HE.out
          have hE : RightE e ∧ e.holes.length ≤ 10000 := by rw [he]; exact ⟨hb.1.1 _ (List.getElem_mem hlt), hb.2.2 _ (List.getElem_mem hlt)⟩
          have hT := knV_take hb.1 hlt
          have hR : reps (b.take (k + 1)) = reps (b.take k) ++ [e.rep] := by unfold reps; rw [List.take_succ_eq_append_getElem hlt, he, List.map_append]; rfl
          rw [← he] at c0 c1 hvr hr1 hr2 hT
          have HT := Lib.hid hT
          have HR := Lib.hid hR
          clear hcl hcel he HE hav hownk hpk hBk hT hR
          obtain ⟨s0, s1, hat, hd0, hd1⟩ := (HP.out.2 e.rep).2
          obtain ⟨a0, n0, rfl⟩ := rg_slice hd0
          obtain ⟨a1, n1, rfl⟩ := rg_slice hd1
          clear hd0 hd1
          have HA := Lib.hid hat
          have hhl : e.holes.length ≤ maxLen := by have := hE.2; unfold maxLen; omega
          obtain ⟨ah, ch, rfl⟩ := rg_slice hvr
          have HH := Lib.hid hvr
          clear hvr
          have hlk := map_look (HO.out.alloc (.cells #[.int .u64 e.rep, .int .u64 e.max, .slice ah e.holes.length ch] 61)) hr1 HA.out
          have hkn := known_w (w := (wr.alloc (.cells #[.int .u64 e.rep, .int .u64 e.max, .slice ah e.holes.length ch] 61)).alloc (.cells #[.slice a0 (knV a e.rep).length n0, .slice a1 (knV (b.take k) e.rep).length n1] 232)) hE.1 hE.2
            (HH.out.mono (fun _ _ h => h) fun j o x hj hx => (World.cell?_of_block (a := ⟨j, o, none⟩) (by have hj' := hC j o hj; rw [Below.heap_alloc _ _ _ (by simp; omega), Below.heap_alloc _ _ _ (by show j < _; omega)])).trans hx) hC (by simp; omega)
            (hG.mono (fun _ _ h => h) fun j o x hj hx => (World.cell?_of_block (a := ⟨j, o, none⟩) (by have hj' := hC j o hj; rw [Below.heap_alloc _ _ _ (by simp; omega), Below.heap_alloc _ _ _ (by show j < _; omega), HB.out.block j (hC j o hj)])).trans hx)
          have HK := Lib.hid hkn
          clear hat hkn
          have HG := Lib.hid hG
          clear hG
          have tokA : True := trivial
          have tokB : True := trivial
          go_wp2_with (first
            | (go_at_call 124; have _t := tokA; refine HK.out.mono ?_; rintro e' w3 ⟨ad, cap, rfl, hb3, hd3⟩
               have hx9 : w3.heap[wr.heap.size]? = some (.cells #[.int .u64 e.rep, .int .u64 e.max, .slice ah e.holes.length ch] 61 (0, 0)) := by rw [hb3.block _ (by simp; omega), Below.heap_alloc _ _ _ (by simp)]; exact World.alloc_heap_new wr _
               have hx10 : w3.heap[wr.heap.size + 1]? = some (.cells #[.slice a0 (knV a e.rep).length n0, .slice a1 (knV (b.take k) e.rep).length n1] 232 (0, 0)) := by rw [hb3.block _ (by simp)]; have := World.alloc_heap_new (wr.alloc (.cells #[.int .u64 e.rep, .int .u64 e.max, .slice ah e.holes.length ch] 61)) (.cells #[.slice a0 (knV a e.rep).length n0, .slice a1 (knV (b.take k) e.rep).length n1] 232); rwa [World.size_alloc] at this
               have hmb : w3.heap[w.heap.size]? = wr.heap[w.heap.size]? := by rw [hb3.block _ (by simp; omega), Below.heap_alloc _ _ _ (by simp; omega), Below.heap_alloc _ _ _ (by omega)]
               have f1 := (cells_of hx9 0 _ rfl).1
               have f2 := (cells_of hx10 0 _ rfl).1
               have f3 := (cells_of hx10 1 _ rfl).2
               have f4 := (cells_of hx10 1 _ rfl).1
               have HO3 := Lib.hid (((ownsMap_block HO.out hmb).setCell (a := ⟨wr.heap.size + 1, 1, none⟩) (by show w.heap.size ≠ wr.heap.size + 1; omega) (.slice ad (kn e).length cap)))
               have HB3 := Lib.hid hb3
               have HD3 := Lib.hid hd3
               clear hx9 hx10 hmb hb3 hd3 tokA)
            | (at_mapUpdate; have _t := tokB; refine wpList_mapUpdate_own _ rfl _ _ _ 227 rfl 24 232 law_u Tryz.underlying227 rV w.heap.size (a.length + k) D' rfl HO3.out (by have := hb.2.1; have := ha.2.1; unfold maxLen; omega) _ _ (kR e.rep) rfl rfl (key_r hr1) _ [] rfl ?_; intro w5 hown5 hgrow5; clear tokB; have HO5 := Lib.hid hown5; have HG5 := Lib.hid hgrow5; clear hown5 hgrow5; dsimp only [Act.put])
            | go_in)
          obtain ⟨p1, p2, p3⟩ := pair_step0 hC HP.out HA.out HB.out hltk HB3.out HD3.out 1 HG5.out
          have h5 : w.heap.size < w5.heap.size := HO5.out.lt
          go_roundg (b.length - (k + 1))
          case measure => omega
          case rel => exact ⟨k + 1, _, hlt, rfl, by simp, HO5.out, by rw [HR.out, HT.out]; rw [← List.append_assoc]; exact p2, p3, h5⟩
        · have hke : k = b.length := by omega
          subst hke
          rw [List.take_length] at hpk
          have HO := Lib.hid hownk
          have HP := Lib.hid hpk
          have HB := Lib.hid hBk
          clear hownk hpk hBk
          go_wp2_with fail
          go_roundg 0
          case measure => omega
          case rel => exact ⟨D', .inr (.inr ⟨rfl, rfl, HO.out, HP.out⟩), HB.out⟩
    · have HO := Lib.hid hown
      have HP := Lib.hid hpd
      clear hown hpd
      go_wp2_with fail
      refine bodyPost_ret (results_tmp rfl _ _ _) rfl ?_
      exact ⟨rfl, HB.out, D, HO.out, HP.out⟩
end Go.Proofs.YtjmhmeadcphfmaaGreatDoor
/- The contracts of entry.Check, Canonical and Same. -/
namespace Go.Proofs.YtjmhmeadcphfmaaGreatDoor
set_option linter.unusedVariables false
set_option linter.unusedSimpArgs false
open Go.RowKit
set_option maxRecDepth 100000
theorem low1_cp (nb : Nat) (cs : List PV) (o : Nat) : low1 nb (.cp cs o) = true := rfl
attribute [go_sem] low1_cp
theorem echeck2_c (e : En) (hb : ∀ s ∈ e.holes, s.lo < M64 ∧ s.hi < M64) (hl : e.holes.length ≤ 1152921504606846976) (hC : (chk e.holes).1 = 0 ∨ Cn Tryz.prog 35 [errno 2] (.v (.int .i64 2))) : Cn Tryz.prog 191 [.cp (ec e) 0] (errV (chk e.holes).1 (chk e.holes).2) := by
  refine cn_go Tryz.func191 [] 1 (by kernel_rfl) rfl (by simp [go_sem, seval]) ?_
  conv => arg 4; cbv
  conv => enter [5, 1]; cbv
  try simp (maxSteps := 2000000) (disch := omega) only [go_sem, seval]
  try repeat ((with_reducible refine And.intro ?_ ?_); focus (first | omega | assumption | exact True.intro | (show anyD _ _ = true; exact rfl) | (simp only [List.length_map, List.length_append, List.length_cons, List.length_nil, List.length_take, List.length_drop]; omega)))
  (first | refine callP.mk (rcheck_c e.holes hb hl hC) rfl ?_ | refine callQ.mk (rcheck_c e.holes hb hl hC) rfl ?_ | refine callO.rd (rcheck_c e.holes hb hl hC) rfl ?_ | refine callO.mk (rcheck_c e.holes hb hl hC) rfl ?_)
  try simp (maxSteps := 2000000) (disch := omega) only [go_sem, seval]
  try repeat ((with_reducible refine And.intro ?_ ?_); focus (first | omega | assumption | exact True.intro | (show anyD _ _ = true; exact rfl) | (simp only [List.length_map, List.length_append, List.length_cons, List.length_nil, List.length_take, List.length_drop]; omega)))
  exact errV_sub _ _
theorem echeck1_c (e : En) (hl : e.holes.length ≤ 1152921504606846976) : Cn Tryz.prog 190 [.cp (ec e) 0] (errV (hk e.max e.holes 0).1 (hk e.max e.holes 0).2) := by
  refine cn_go Tryz.func190 [] 1 (by kernel_rfl) rfl (by simp [go_sem, seval]) ?_
  conv => arg 4; cbv
  conv => enter [5, 1]; cbv
  try simp (maxSteps := 2000000) (disch := omega) only [go_sem, seval]
  try repeat ((with_reducible refine And.intro ?_ ?_); focus (first | omega | assumption | exact True.intro | (show anyD _ _ = true; exact rfl) | (simp only [List.length_map, List.length_append, List.length_cons, List.length_nil, List.length_take, List.length_drop]; omega)))
  refine pLoop.go (fun k => k ≤ e.holes.length ∧ hk e.max e.holes 0 = hk e.max (e.holes.drop k) k) (fun k => [(7, .v (.int .i64 (k : Nat)))]) (fun _ => []) (fun k => e.holes.length - k) 0 [7] ?_ ?_ ?_
  · exact ⟨Nat.zero_le _, rfl⟩
  · try simp (maxSteps := 2000000) (disch := omega) only [go_sem, seval]
    try repeat ((with_reducible refine And.intro ?_ ?_); focus (first | omega | assumption | exact True.intro | (show anyD _ _ = true; exact rfl) | (simp only [List.length_map, List.length_append, List.length_cons, List.length_nil, List.length_take, List.length_drop]; omega)))
  · rintro k ⟨hk1, hm⟩
    try simp (maxSteps := 2000000) (disch := omega) only [go_sem, seval]
    try repeat ((with_reducible refine And.intro ?_ ?_); focus (first | omega | assumption | exact True.intro | (show anyD _ _ = true; exact rfl) | (simp only [List.length_map, List.length_append, List.length_cons, List.length_nil, List.length_take, List.length_drop]; omega)))
    (first | refine brP.mk (fun h1 => ?_) (fun h1 => ?_) | refine gdP.mkt (fun h1 => ?_) (fun h1 => ?_) | refine gdP.mkf (fun h1 => ?_) (fun h1 => ?_) | refine pkP.mk (fun h1 => ?_) (fun h1 => ?_)) <;> (try simp only [Bool.not_true, Bool.not_false, decide_eq_true_eq, decide_eq_false_iff_not, Bool.and_eq_true, Bool.or_eq_true, Bool.not_eq_true', Bool.not_eq_false', Bool.and_eq_false_iff, Bool.or_eq_false_iff, Nat.not_lt, Int.not_lt, Nat.not_le, Int.not_le, Int.ofNat_lt, Int.ofNat_le, Int.ofNat_inj, Bool.xor_false, Bool.false_xor, Bool.true_xor, Bool.xor_true] at h1) <;> (try simp (maxSteps := 2000000) (disch := omega) only [go_sem, seval]) <;> (try repeat ((with_reducible refine And.intro ?_ ?_); focus (first | omega | assumption | exact True.intro | (show anyD _ _ = true; exact rfl) | (simp only [List.length_map, List.length_append, List.length_cons, List.length_nil, List.length_take, List.length_drop]; omega))))
    · rw [hk_step h1] at hm
      (first | refine brP.mk (fun h2 => ?_) (fun h2 => ?_) | refine gdP.mkt (fun h2 => ?_) (fun h2 => ?_) | refine gdP.mkf (fun h2 => ?_) (fun h2 => ?_) | refine pkP.mk (fun h2 => ?_) (fun h2 => ?_)) <;> (try simp only [Bool.not_true, Bool.not_false, decide_eq_true_eq, decide_eq_false_iff_not, Bool.and_eq_true, Bool.or_eq_true, Bool.not_eq_true', Bool.not_eq_false', Bool.and_eq_false_iff, Bool.or_eq_false_iff, Nat.not_lt, Int.not_lt, Nat.not_le, Int.not_le, Int.ofNat_lt, Int.ofNat_le, Int.ofNat_inj, Bool.xor_false, Bool.false_xor, Bool.true_xor, Bool.xor_true] at h2) <;> (try simp (maxSteps := 2000000) (disch := omega) only [go_sem, seval]) <;> (try repeat ((with_reducible refine And.intro ?_ ?_); focus (first | omega | assumption | exact True.intro | (show anyD _ _ = true; exact rfl) | (simp only [List.length_map, List.length_append, List.length_cons, List.length_nil, List.length_take, List.length_drop]; omega))))
      · rw [hm, if_pos h2]
        (first | refine callP.mk (fnew_c 4 (k : Nat)) rfl ?_ | refine callQ.mk (fnew_c 4 (k : Nat)) rfl ?_ | refine callO.rd (fnew_c 4 (k : Nat)) rfl ?_ | refine callO.mk (fnew_c 4 (k : Nat)) rfl ?_)
        try simp (maxSteps := 2000000) (disch := omega) only [go_sem, seval]
        try repeat ((with_reducible refine And.intro ?_ ?_); focus (first | omega | assumption | exact True.intro | (show anyD _ _ = true; exact rfl) | (simp only [List.length_map, List.length_append, List.length_cons, List.length_nil, List.length_take, List.length_drop]; omega)))
        exact errV_sub _ _
      · rw [if_neg (by omega)] at hm
        exact ⟨k + 1, ⟨h1, hm⟩, by omega, rfl⟩
    · rw [List.drop_of_length_le h1] at hm
      rw [hm]
      exact .eq _ rfl
theorem errV_nil {x : Nat × Int} (h : x.1 = 0) : errV x.1 x.2 = .v .nilIface := if_pos h
theorem errV_ifc {x : Nat × Int} (h : x.1 ≠ 0) : errV x.1 x.2 = .ifc 112 (.agg [.v (.int .i64 x.1), .v (.int .i64 x.2)]) := if_neg h
set_option maxHeartbeats 1000000 in
theorem echeck_c (e : En) (hb : ∀ s ∈ e.holes, s.lo < M64 ∧ s.hi < M64) (hl : e.holes.length ≤ 1152921504606846976) (hC : (chk e.holes).1 = 0 ∨ Cn Tryz.prog 35 [errno 2] (.v (.int .i64 2))) : Cn Tryz.prog 143 [ep e] (errV (chkE e).1 (chkE e).2) := by
  refine cn_go Tryz.func143 [] 1 (by kernel_rfl) rfl (by simp [go_sem, seval]) ?_
  conv => arg 4; cbv
  conv => enter [5, 1]; cbv
  try simp (maxSteps := 2000000) (disch := omega) only [go_sem, seval]
  try repeat ((with_reducible refine And.intro ?_ ?_); focus (first | omega | assumption | exact True.intro | (show anyD _ _ = true; exact rfl) | (simp only [List.length_map, List.length_append, List.length_cons, List.length_nil, List.length_take, List.length_drop]; omega)))
  refine pLoop.go (fun k => k ≤ 2 ∧ (1 ≤ k → (chk e.holes).1 = 0) ∧ (2 ≤ k → (chkE e).1 = 0)) (fun k => [(12, .v (.int .i64 (k : Nat)))]) (fun _ => []) (fun k => 2 - k) 0 [12] ?_ ?_ ?_
  · exact ⟨by omega, fun h => absurd h (by omega), fun h => absurd h (by omega)⟩
  · try simp (maxSteps := 2000000) (disch := omega) only [go_sem, seval]
    try repeat ((with_reducible refine And.intro ?_ ?_); focus (first | omega | assumption | exact True.intro | (show anyD _ _ = true; exact rfl) | (simp only [List.length_map, List.length_append, List.length_cons, List.length_nil, List.length_take, List.length_drop]; omega)))
  · rintro k ⟨hk1, h1, h2⟩
    obtain rfl | rfl | rfl : k = 0 ∨ k = 1 ∨ k = 2 := by omega
    · try simp (maxSteps := 2000000) (disch := omega) only [go_sem, seval]
      try repeat ((with_reducible refine And.intro ?_ ?_); focus (first | omega | assumption | exact True.intro | (show anyD _ _ = true; exact rfl) | (simp only [List.length_map, List.length_append, List.length_cons, List.length_nil, List.length_take, List.length_drop]; omega)))
      (first | refine callP.mk (echeck2_c e hb hl hC) rfl ?_ | refine callQ.mk (echeck2_c e hb hl hC) rfl ?_ | refine callO.rd (echeck2_c e hb hl hC) rfl ?_ | refine callO.mk (echeck2_c e hb hl hC) rfl ?_)
      by_cases hz : (chk e.holes).1 = 0
      · rw [errV_nil hz]
        try simp (maxSteps := 2000000) (disch := omega) only [go_sem, seval]
        try repeat ((with_reducible refine And.intro ?_ ?_); focus (first | omega | assumption | exact True.intro | (show anyD _ _ = true; exact rfl) | (simp only [List.length_map, List.length_append, List.length_cons, List.length_nil, List.length_take, List.length_drop]; omega)))
        exact ⟨1, ⟨by omega, fun _ => hz, fun h => absurd h (by omega)⟩, by omega, rfl⟩
      · have e1 : chkE e = chk e.holes := if_neg hz
        rw [e1, errV_ifc hz]
        try simp (maxSteps := 2000000) (disch := omega) only [go_sem, seval]
        try repeat ((with_reducible refine And.intro ?_ ?_); focus (first | omega | assumption | exact True.intro | (show anyD _ _ = true; exact rfl) | (simp only [List.length_map, List.length_append, List.length_cons, List.length_nil, List.length_take, List.length_drop]; omega)))
    · have hz := h1 (by omega)
      have e1 : chkE e = hk e.max e.holes 0 := if_pos hz
      try simp (maxSteps := 2000000) (disch := omega) only [go_sem, seval]
      try repeat ((with_reducible refine And.intro ?_ ?_); focus (first | omega | assumption | exact True.intro | (show anyD _ _ = true; exact rfl) | (simp only [List.length_map, List.length_append, List.length_cons, List.length_nil, List.length_take, List.length_drop]; omega)))
      (first | refine callP.mk (echeck1_c e hl) rfl ?_ | refine callQ.mk (echeck1_c e hl) rfl ?_ | refine callO.rd (echeck1_c e hl) rfl ?_ | refine callO.mk (echeck1_c e hl) rfl ?_)
      by_cases hy : (hk e.max e.holes 0).1 = 0
      · rw [errV_nil hy]
        try simp (maxSteps := 2000000) (disch := omega) only [go_sem, seval]
        try repeat ((with_reducible refine And.intro ?_ ?_); focus (first | omega | assumption | exact True.intro | (show anyD _ _ = true; exact rfl) | (simp only [List.length_map, List.length_append, List.length_cons, List.length_nil, List.length_take, List.length_drop]; omega)))
        exact ⟨2, ⟨by omega, fun _ => hz, fun _ => by rw [e1]; exact hy⟩, by omega, rfl⟩
      · rw [e1, errV_ifc hy]
        try simp (maxSteps := 2000000) (disch := omega) only [go_sem, seval]
        try repeat ((with_reducible refine And.intro ?_ ?_); focus (first | omega | assumption | exact True.intro | (show anyD _ _ = true; exact rfl) | (simp only [List.length_map, List.length_append, List.length_cons, List.length_nil, List.length_take, List.length_drop]; omega)))
    · have hz := h2 (by omega)
      rw [errV_nil hz]
      try simp (maxSteps := 2000000) (disch := omega) only [go_sem, seval]
      try repeat ((with_reducible refine And.intro ?_ ?_); focus (first | omega | assumption | exact True.intro | (show anyD _ _ = true; exact rfl) | (simp only [List.length_map, List.length_append, List.length_cons, List.length_nil, List.length_take, List.length_drop]; omega)))
end Go.Proofs.YtjmhmeadcphfmaaGreatDoor
/- A row of entries of one's own that is being written, and what it reads as. No condition. -/
namespace Go.Proofs.YtjmhmeadcphfmaaGreatDoor
set_option linter.unusedVariables false
set_option linter.unusedSimpArgs false
open Go.RowKit
set_option maxRecDepth 100000
/-- The cells that what is built may read: those of C, and those laid since block mb, but for the row that is being written. -/
def DX (C : Nat → Nat → Prop) (mb : Nat) (w : World) (v : Value) : Nat → Nat → Prop := fun b o => DL C mb w b o ∧ v.ownBlock ≠ some b
def OutE (C : Nat → Nat → Prop) (mb base : Nat) (w : World) (v : Value) (es : List En) : Prop :=
  ∃ xs, w.ownsRow base 61 3 v es.length xs ∧ ∀ i (h : i < es.length), xs[i * 3]? = some (uV es[i].rep) ∧ xs[i * 3 + 1]? = some (uV es[i].max) ∧ ∃ hv, xs[i * 3 + 2]? = some hv ∧ Dat (DX C mb w v) w hv (rg es[i].holes)
theorem OutE.start (C : Nat → Nat → Prop) (mb base : Nat) (w : World) : OutE C mb base w (.slice none 0 0) [] := ⟨[], World.ownsRow_nil _ _ _ _, fun i h => absurd h (by simp)⟩
theorem OutE.owns {C : Nat → Nat → Prop} {mb base : Nat} {w : World} {v : Value} {es : List En} (h : OutE C mb base w v es) : ∀ k, v.ownBlock = some k → base ≤ k ∧ k < w.heap.size := by
  obtain ⟨xs, h1, _⟩ := h
  exact h1.lt
theorem DX.keep {C : Nat → Nat → Prop} {mb : Nat} {w w' : World} {v : Value} {x : Value} {p : PV} (h : Dat (DX C mb w v) w x p) (hs : w.heap.size ≤ w'.heap.size) (hb : ∀ k, k < w.heap.size → v.ownBlock ≠ some k → w'.heap[k]? = w.heap[k]?) : Dat (DX C mb w' v) w' x p :=
  h.mono (fun b o h => ⟨h.1.imp id fun h => ⟨h.1, Nat.lt_of_lt_of_le h.2 hs⟩, h.2⟩) fun b o x h hx => (World.cell?_of_block (a := ⟨b, o, none⟩) (hb b (World.block_lt_of_cell? w ⟨b, o, none⟩ hx) h.2)).trans hx
theorem OutE.keep {C : Nat → Nat → Prop} {mb base : Nat} {w w' : World} {v : Value} {es : List En} (h : OutE C mb base w v es) (hs : w.heap.size ≤ w'.heap.size) (hb : ∀ k, k < w.heap.size → w'.heap[k]? = w.heap[k]?) : OutE C mb base w' v es := by
  obtain ⟨xs, h1, h2⟩ := h
  refine ⟨xs, ⟨h1.1, ?_⟩, fun i hi => ?_⟩
  · rcases h1.2 with h | ⟨g, cap, cur, e, hg, hc, r⟩
    · exact .inl h
    · exact .inr ⟨g, cap, cur, e, hg, (hb g (Array.getElem?_eq_some_iff.1 hc).1).trans hc, r⟩
  · obtain ⟨a, b, hv, c, d⟩ := h2 i hi
    exact ⟨a, b, hv, c, DX.keep d hs fun k hk _ => hb k hk⟩
theorem OutE.push {C : Nat → Nat → Prop} {mb base : Nat} {w w' : World} {v v' : Value} {es : List En} {e : En} {xs : List Value} {hv : Value} (h2 : ∀ i (h : i < es.length), xs[i * 3]? = some (uV es[i].rep) ∧ xs[i * 3 + 1]? = some (uV es[i].max) ∧ ∃ hv, xs[i * 3 + 2]? = some hv ∧ Dat (DX C mb w v) w hv (rg es[i].holes))
    (h1 : w.ownsRow base 61 3 v es.length xs) (hd : Dat (DX C mb w v) w hv (rg e.holes)) (hC : ∀ b o, C b o → b < mb) (hmb : mb < w.heap.size) (ho : w'.ownsRow base 61 3 v' (es.length + 1) (xs ++ [uV e.rep, uV e.max, hv])) (hg : w.grownBy w' v.ownBlock) (hv' : v'.ownBlock = v.ownBlock ∨ v'.ownBlock = some w.heap.size) :
    OutE C mb base w' v' (es ++ [e]) := by
  have key : ∀ {x : Value} {p : PV}, Dat (DX C mb w v) w x p → Dat (DX C mb w' v') w' x p := fun {x p} h =>
    h.mono (fun b o h => ⟨h.1.imp id fun h => ⟨h.1, Nat.lt_of_lt_of_le h.2 hg.size⟩, fun e => by
      rcases hv' with hv' | hv'
      · exact h.2 (hv'.symm.trans e)
      · rw [hv'] at e
        cases e
        rcases h.1 with h | h
        · have := hC _ _ h; omega
        · omega⟩) fun b o x h hx => (World.cell?_of_block (a := ⟨b, o, none⟩) (hg.block b (World.block_lt_of_cell? w ⟨b, o, none⟩ hx) fun e => h.2 e.symm)).trans hx
  have hl := h1.1
  refine ⟨xs ++ [uV e.rep, uV e.max, hv], by simpa using ho, fun i hi => ?_⟩
  simp only [List.length_append, List.length_cons, List.length_nil, Nat.zero_add] at hi
  by_cases hlt : i < es.length
  · obtain ⟨a, b, hv, c, d⟩ := h2 i hlt
    rw [List.getElem_append_left hlt]
    refine ⟨?_, ?_, hv, ?_, key d⟩
    · rw [List.getElem?_append_left (by omega)]; exact a
    · rw [List.getElem?_append_left (by omega)]; exact b
    · rw [List.getElem?_append_left (by omega)]; exact c
  · obtain rfl : i = es.length := by omega
    rw [List.getElem_append_right (Nat.le_refl _)]
    simp only [Nat.sub_self, List.getElem_cons_zero]
    refine ⟨?_, ?_, hv, ?_, key hd⟩
    · rw [List.getElem?_append_right (by omega), show es.length * 3 - xs.length = 0 by omega]; rfl
    · rw [List.getElem?_append_right (by omega), show es.length * 3 + 1 - xs.length = 1 by omega]; rfl
    · rw [List.getElem?_append_right (by omega), show es.length * 3 + 2 - xs.length = 2 by omega]; rfl
theorem rg_one {D : Nat → Nat → Prop} {w : World} {v : Value} {l : List Iv} (h : Dat D w v (rg l)) : v.oneCell' = true := by
  obtain ⟨ad, cap, rfl⟩ := rg_slice h
  rfl
theorem OutE.dat {C : Nat → Nat → Prop} {mb base : Nat} {w : World} {v : Value} {es : List En} (h : OutE C mb base w v es) (hb : mb < base) : Dat (DL C mb w) w v (vp es) := by
  obtain ⟨xs, h1, h2⟩ := h
  rcases h1.2 with ⟨rfl, h0⟩ | ⟨g, cap, cur, rfl, hg, hc, hn, hm, hs, ht⟩
  · obtain rfl := List.length_eq_zero_iff.1 h0
    exact .sl none 0 3 [] .sh 0 0 (fun _ => undef) (by simp) (fun h => by cases h) (by decide) (fun h => absurd rfl h) (fun i e h => by simp at h) (fun j h => by simp at h) (fun i e j p h => by simp at h)
  · have hlt := (Array.getElem?_eq_some_iff.1 hc).1
    have cells : ∀ j x, xs[j]? = some x → w.cell? ⟨g, j, none⟩ = some x := fun j x hx => by
      have := h1.cells (g := g) rfl j x hx
      rw [add_none, Nat.zero_add] at this
      exact this
    have hcell : ∀ i (h : i < es.length) j p, (ec es[i])[j]? = some p → ∃ x, xs[i * 3 + j]? = some x ∧ Dat (DL C mb w) w x p ∧ x.oneCell' = true := fun i h j p hp => by
      obtain ⟨a, b, hv, c, d⟩ := h2 i h
      match j, hp with
      | 0, hp => cases hp; exact ⟨_, a, .v _, rfl⟩
      | 1, hp => cases hp; exact ⟨_, b, .v _, rfl⟩
      | 2, hp => cases hp; exact ⟨_, c, d.mono (fun _ _ h => h.1) fun _ _ _ _ h => h, rg_one d⟩
      | j + 3, hp => simp [ec] at hp
    have hmap : ∀ (i : Nat) (e : List PV), (es.map ec)[i]? = some e → ∃ h : i < es.length, e = ec es[i] := fun i e he => by
      rw [List.getElem?_map] at he
      obtain ⟨x, hx, rfl⟩ := Option.map_eq_some_iff.1 he
      obtain ⟨h, rfl⟩ := List.getElem?_eq_some_iff.1 hx
      exact ⟨h, rfl⟩
    have hlen : (es.map ec).length = es.length := List.length_map _
    unfold vp
    rw [← hlen]
    refine .sl (some ⟨g, 0, none⟩) cap 3 (es.map ec) .sh g 0 (fun j => (xs[j]?).getD undef) (by rw [hlen]; exact hn) (fun h => by cases h) hm (fun _ => rfl) (fun i e he => ?_) (fun j hj => ?_) (fun i e j p he hp => ?_)
    · obtain ⟨h, rfl⟩ := hmap i e he
      rfl
    · rw [hlen] at hj
      have hi : j / 3 < es.length := by omega
      have h3 : j % 3 < (ec es[j / 3]).length := Nat.mod_lt _ (by decide)
      obtain ⟨x, hx, _, ho⟩ := hcell (j / 3) hi (j % 3) ((ec es[j / 3])[j % 3]) (List.getElem?_eq_getElem h3)
      rw [show j / 3 * 3 + j % 3 = j by omega] at hx
      rw [Nat.zero_add]
      refine ⟨.inr ⟨by omega, hlt⟩, ?_, ?_⟩
      · rw [hx]; exact cells j x hx
      · rw [hx]; exact ho
    · obtain ⟨h, rfl⟩ := hmap i e he
      obtain ⟨x, hx, hd, _⟩ := hcell i h j p hp
      rw [hx]
      exact hd
end Go.Proofs.YtjmhmeadcphfmaaGreatDoor
/- The law JoinDenotes returns true. -/
namespace Go.Proofs.YtjmhmeadcphfmaaGreatDoor
set_option linter.unusedVariables false
set_option linter.unusedSimpArgs false
open Go.RowKit
set_option maxRecDepth 100000
theorem BdE_of {e : En} (h : RightE e) : BdE e := ⟨h.1.lt, h.2.2.1, h.2.2.2⟩
section
variable (a b : En) (c : Nat) (ha : BdE a) (hb : BdE b) (hc : c < M64)
include ha hb hc
end
end Go.Proofs.YtjmhmeadcphfmaaGreatDoor
/- The contracts of fault.Code, find and At: at no error, at an api.Errno, at an api.Fault. -/
namespace Go.Proofs.YtjmhmeadcphfmaaGreatDoor
set_option linter.unusedVariables false
set_option linter.unusedSimpArgs false
open Go.RowKit
set_option maxRecDepth 100000
def HG (w : World) : Prop := w.cell? ⟨0, 0, none⟩ = some (.iface 216 (.agg #[.pointer (some ⟨2, 41, none⟩)]))
theorem HG.of {D : Nat → Nat → Prop} {w : World} (h : GL D w) : HG w := (h _ rfl).2
theorem HG.pos {w : World} (h : HG w) : 0 < w.heap.size := World.block_lt_of_cell? w ⟨0, 0, none⟩ h
theorem HG.alloc {w : World} (h : HG w) (o : Obj) : HG (w.alloc o) := by
  unfold HG
  rw [World.cell?_alloc_lt _ _ ⟨0, 0, none⟩ h.pos]; exact h
theorem cn_memG {f : FuncId} {ps : List PV} {r : PV} (hr : r.own = none) (hent : ∀ args w, (callFunc f args).run Tryz.prog w = .ok (.enter f args) w)
    (h : ∀ (D : Nat → Nat → Prop) (w : World) (vs : Array Value), HG w → (∀ b o, D b o → b < w.heap.size) → vs.size = ps.length → (∀ (i : Nat) p, ps[i]? = some p → Dat D w (vs.getD i undef) p) →
      Calls Tryz.prog f vs w fun e w' => ∃ v, e = .returned v ∧ Below w.heap.size w w' ∧ Dat (fun b o => D b o ∨ (w.heap.size ≤ b ∧ b < w'.heap.size)) w' v r) : Cn Tryz.prog f ps r := by
  refine ⟨hent, fun D w vs hg hD hsz hd => (h D w vs (.of hg) hD hsz hd).mono ?_⟩
  rintro e w' ⟨v, rfl, hb, hv⟩
  exact ⟨v, _, rfl, hb, fun b o h => .inl h, fun b o h => h.imp id And.left, fun b o h => h.elim (fun h => Nat.lt_of_lt_of_le (hD b o h) hb.size) And.right, hv, ownOk_none hr⟩
theorem arr1 {vs : Array Value} (h : vs.size = 1) : vs = #[vs.getD 0 undef] := by
  obtain ⟨l⟩ := vs
  match l, h with
  | [x], _ => rfl
theorem asCode_N (c : Int) (w : World) (hg : HG w) : Calls Tryz.prog 90 #[.iface 45 (.int .i64 c), .iface 110 (.pointer (some ⟨w.heap.size, 0, none⟩))] (w.alloc (.cells #[.int .i64 0] 45))
    fun ev w' => ev = .returned (.bool true) ∧ Below w.heap.size w w' ∧ w'.cell? ⟨w.heap.size, 0, none⟩ = some (.int .i64 c) := by
  refine (As.as_NN c ⟨w.heap.size, 0, none⟩ (.int .i64 0) _ (hg.alloc _) (by simp) (by simp)).mono ?_
  rintro ev w' ⟨rfl, rfl⟩
  refine ⟨rfl, ?_, ?_⟩
  · refine Below.setCell (((((((Below.refl _ w).alloc ?_ _).alloc ?_ _).alloc ?_ _).alloc ?_ _).alloc ?_ _)) ?_ _ <;> simp <;> omega
  · refine World.cell?_setCell_same _ _ _ (u := .int .i64 0) ?_
    rw [World.cell?_alloc_lt _ _ ⟨w.heap.size, 0, none⟩ (by simp; omega), World.cell?_alloc_lt _ _ ⟨w.heap.size, 0, none⟩ (by simp; omega), World.cell?_alloc_lt _ _ ⟨w.heap.size, 0, none⟩ (by simp; omega), World.cell?_alloc_lt _ _ ⟨w.heap.size, 0, none⟩ (by simp)]
    simp
theorem asCode_F (c k : Int) (w : World) (hg : HG w) : Calls Tryz.prog 90 #[.iface 112 (.agg #[.int .i64 c, .int .i64 k]), .iface 110 (.pointer (some ⟨w.heap.size, 0, none⟩))] (w.alloc (.cells #[.int .i64 0] 45))
    fun ev w' => ev = .returned (.bool true) ∧ Below w.heap.size w w' ∧ w'.cell? ⟨w.heap.size, 0, none⟩ = some (.int .i64 c) := by
  refine (As.as_FN c k ⟨w.heap.size, 0, none⟩ (.int .i64 0) _ (hg.alloc _) (by simp) (by simp)).mono ?_
  rintro ev w' ⟨rfl, rfl⟩
  refine ⟨rfl, ?_, ?_⟩
  · refine Below.setCell ((((((((Below.refl _ w).alloc ?_ _).alloc ?_ _).alloc ?_ _).alloc ?_ _).alloc ?_ _).alloc ?_ _)) ?_ _ <;> simp <;> omega
  · refine World.cell?_setCell_same _ _ _ (u := .int .i64 0) ?_
    rw [World.cell?_alloc_lt _ _ ⟨w.heap.size, 0, none⟩ (by simp; omega), World.cell?_alloc_lt _ _ ⟨w.heap.size, 0, none⟩ (by simp; omega), World.cell?_alloc_lt _ _ ⟨w.heap.size, 0, none⟩ (by simp; omega), World.cell?_alloc_lt _ _ ⟨w.heap.size, 0, none⟩ (by simp; omega), World.cell?_alloc_lt _ _ ⟨w.heap.size, 0, none⟩ (by simp)]
    simp
theorem code_nil (w : World) : Calls Tryz.prog 35 #[.nilIface] w fun e w' => e = .returned (.int .i64 0) ∧ Below w.heap.size w w' := by
  go_enter Tryz.func35, Tryz.ntmps35
  go_wp2
  go_ret
  exact ⟨rfl, (Below.refl _ w).alloc (Nat.le_refl _) _⟩
theorem code_N (c : Int) (w : World) (hg : HG w) : Calls Tryz.prog 35 #[.iface 45 (.int .i64 c)] w fun e w' => e = .returned (.int .i64 c) ∧ Below w.heap.size w w' := by
  go_enter Tryz.func35, Tryz.ntmps35
  go_wp2_with (go_at_call 90; refine (asCode_N c w hg).mono ?_; rintro e w1 ⟨rfl, hb, hc⟩)
  go_ret
  exact ⟨rfl, hb⟩
theorem code_F (c k : Int) (w : World) (hg : HG w) : Calls Tryz.prog 35 #[.iface 112 (.agg #[.int .i64 c, .int .i64 k])] w fun e w' => e = .returned (.int .i64 c) ∧ Below w.heap.size w w' := by
  go_enter Tryz.func35, Tryz.ntmps35
  go_wp2_with (go_at_call 90; refine (asCode_F c k w hg).mono ?_; rintro e w1 ⟨rfl, hb, hc⟩)
  go_ret
  exact ⟨rfl, hb⟩
end Go.Proofs.YtjmhmeadcphfmaaGreatDoor
/- The contracts of fault.find, Code and At without memory. -/
namespace Go.Proofs.YtjmhmeadcphfmaaGreatDoor
set_option linter.unusedVariables false
set_option linter.unusedSimpArgs false
open Go.RowKit
set_option maxRecDepth 100000
def z2 : Obj := .cells #[.int .i64 0, .int .i64 0] 112
theorem dat_errno {D : Nat → Nat → Prop} {w : World} {v : Value} {c : Int} {t : TypeId} (h : Dat D w v (.ifc t (.v (.int .i64 c)))) : v = .iface t (.int .i64 c) := by
  cases h with
  | ifc t x p h => rw [h.v_inv]
theorem dat_fault {D : Nat → Nat → Prop} {w : World} {v : Value} {c k : Int} {t : TypeId} (h : Dat D w v (.ifc t (.agg [.v (.int .i64 c), .v (.int .i64 k)]))) : v = .iface t (.agg #[.int .i64 c, .int .i64 k]) := by
  cases h with
  | ifc t x p h =>
    generalize hc : [PV.v (.int .i64 c), PV.v (.int .i64 k)] = cs at h
    cases h with
    | agg us cs hs _ h =>
      subst hc
      obtain ⟨l⟩ := us
      match l, hs with
      | [x, y], _ =>
        have e0 := (h 0 _ rfl).v_inv
        have e1 := (h 1 _ rfl).v_inv
        simp at e0 e1
        rw [e0, e1]
/-- fault.Code at what ranges.Check and entry.Check make. -/
theorem codeN_c (c : Nat) : Cn Tryz.prog 35 [errno c] (.v (.int .i64 c)) := by
  refine cn_memG rfl (enters_of Tryz.func35 (by kernel_rfl) rfl) fun D w vs hg hD hsz hd => ?_
  rw [arr1 hsz, dat_errno (hd 0 _ rfl)]
  refine (code_N c w hg).mono ?_
  rintro e w' ⟨rfl, hb⟩
  exact ⟨_, rfl, hb, .v _⟩
theorem code_c (c : Nat) (k : Int) : Cn Tryz.prog 35 [errV c k] (.v (.int .i64 c)) := by
  refine cn_memG rfl (enters_of Tryz.func35 (by kernel_rfl) rfl) fun D w vs hg hD hsz hd => ?_
  have h0 := hd 0 _ rfl
  unfold errV at h0
  rw [arr1 hsz]
  by_cases hc : c = 0
  · rw [if_pos hc] at h0
    subst hc
    rw [h0.v_inv]
    refine (code_nil w).mono ?_
    rintro e w' ⟨rfl, hb⟩
    exact ⟨_, rfl, hb, .v _⟩
  · rw [if_neg hc] at h0
    rw [dat_fault h0]
    refine (code_F c k w hg).mono ?_
    rintro e w' ⟨rfl, hb⟩
    exact ⟨_, rfl, hb, .v _⟩
end Go.Proofs.YtjmhmeadcphfmaaGreatDoor
/- The contracts of ranges.Same, entry.Same, kenningref07.Canonical, Canon; the example of chapter 7. -/
namespace Go.Proofs.YtjmhmeadcphfmaaGreatDoor
set_option linter.unusedVariables false
set_option linter.unusedSimpArgs false
open Go.RowKit
set_option maxRecDepth 100000
theorem seqR_c (a b : List Iv) (hl : a.length ≤ 1152921504606846976) : Cn Tryz.prog 160 [rg a, rg b] (.v (.bool (decide (a = b)))) := by
  refine cn_go Tryz.func160 [] 2 (by kernel_rfl) rfl (by simp [go_sem, seval]) ?_
  conv => arg 4; cbv
  conv => enter [5, 1]; cbv
  try simp (maxSteps := 2000000) (disch := omega) only [go_sem, seval]
  try repeat ((with_reducible refine And.intro ?_ ?_); focus (first | omega | assumption | exact True.intro | (show anyD _ _ = true; exact rfl) | (simp only [List.length_map, List.length_append, List.length_cons, List.length_nil, List.length_take, List.length_drop]; omega)))
  (first | refine brP.mk (fun h0 => ?_) (fun h0 => ?_) | refine gdP.mkt (fun h0 => ?_) (fun h0 => ?_) | refine gdP.mkf (fun h0 => ?_) (fun h0 => ?_) | refine pkP.mk (fun h0 => ?_) (fun h0 => ?_)) <;> (try simp only [Bool.not_true, Bool.not_false, decide_eq_true_eq, decide_eq_false_iff_not, Bool.and_eq_true, Bool.or_eq_true, Bool.not_eq_true', Bool.not_eq_false', Bool.and_eq_false_iff, Bool.or_eq_false_iff, Nat.not_lt, Int.not_lt, Nat.not_le, Int.not_le, Int.ofNat_lt, Int.ofNat_le, Int.ofNat_inj, Bool.xor_false, Bool.false_xor, Bool.true_xor, Bool.xor_true] at h0) <;> (try simp (maxSteps := 2000000) (disch := omega) only [go_sem, seval]) <;> (try repeat ((with_reducible refine And.intro ?_ ?_); focus (first | omega | assumption | exact True.intro | (show anyD _ _ = true; exact rfl) | (simp only [List.length_map, List.length_append, List.length_cons, List.length_nil, List.length_take, List.length_drop]; omega))))
  · symm
    rw [decide_eq_false_iff_not]
    rintro rfl
    exact h0 rfl
  · have h0' : a.length = b.length := by simpa using h0
    clear h0
    refine pLoop.go (fun k => k ≤ a.length ∧ (a = b ↔ a.drop k = b.drop k)) (fun k => [(13, .v (.int .i64 (k : Nat)))]) (fun _ => []) (fun k => a.length - k) 0 [13] ?_ ?_ ?_
    · exact ⟨Nat.zero_le _, Iff.rfl⟩
    · try simp (maxSteps := 2000000) (disch := omega) only [go_sem, seval]
      try repeat ((with_reducible refine And.intro ?_ ?_); focus (first | omega | assumption | exact True.intro | (show anyD _ _ = true; exact rfl) | (simp only [List.length_map, List.length_append, List.length_cons, List.length_nil, List.length_take, List.length_drop]; omega)))
    · rintro k ⟨hk, hm⟩
      try simp (maxSteps := 2000000) (disch := omega) only [go_sem, seval]
      try repeat ((with_reducible refine And.intro ?_ ?_); focus (first | omega | assumption | exact True.intro | (show anyD _ _ = true; exact rfl) | (simp only [List.length_map, List.length_append, List.length_cons, List.length_nil, List.length_take, List.length_drop]; omega)))
      (first | refine brP.mk (fun h => ?_) (fun h => ?_) | refine gdP.mkt (fun h => ?_) (fun h => ?_) | refine gdP.mkf (fun h => ?_) (fun h => ?_) | refine pkP.mk (fun h => ?_) (fun h => ?_)) <;> (try simp only [Bool.not_true, Bool.not_false, decide_eq_true_eq, decide_eq_false_iff_not, Bool.and_eq_true, Bool.or_eq_true, Bool.not_eq_true', Bool.not_eq_false', Bool.and_eq_false_iff, Bool.or_eq_false_iff, Nat.not_lt, Int.not_lt, Nat.not_le, Int.not_le, Int.ofNat_lt, Int.ofNat_le, Int.ofNat_inj, Bool.xor_false, Bool.false_xor, Bool.true_xor, Bool.xor_true] at h) <;> (try simp (maxSteps := 2000000) (disch := omega) only [go_sem, seval]) <;> (try repeat ((with_reducible refine And.intro ?_ ?_); focus (first | omega | assumption | exact True.intro | (show anyD _ _ = true; exact rfl) | (simp only [List.length_map, List.length_append, List.length_cons, List.length_nil, List.length_take, List.length_drop]; omega))))
      · have hk' : k < b.length := by omega
        rw [List.drop_eq_getElem_cons h, List.drop_eq_getElem_cons hk', List.cons.injEq] at hm
        try simp (maxSteps := 2000000) (disch := omega) only [go_sem, seval]
        try repeat ((with_reducible refine And.intro ?_ ?_); focus (first | omega | assumption | exact True.intro | (show anyD _ _ = true; exact rfl) | (simp only [List.length_map, List.length_append, List.length_cons, List.length_nil, List.length_take, List.length_drop]; omega)))
        (first | refine brP.mk (fun e => ?_) (fun e => ?_) | refine gdP.mkt (fun e => ?_) (fun e => ?_) | refine gdP.mkf (fun e => ?_) (fun e => ?_) | refine pkP.mk (fun e => ?_) (fun e => ?_)) <;> (try simp only [Bool.not_true, Bool.not_false, decide_eq_true_eq, decide_eq_false_iff_not, Bool.and_eq_true, Bool.or_eq_true, Bool.not_eq_true', Bool.not_eq_false', Bool.and_eq_false_iff, Bool.or_eq_false_iff, Nat.not_lt, Int.not_lt, Nat.not_le, Int.not_le, Int.ofNat_lt, Int.ofNat_le, Int.ofNat_inj, Bool.xor_false, Bool.false_xor, Bool.true_xor, Bool.xor_true] at e) <;> (try simp (maxSteps := 2000000) (disch := omega) only [go_sem, seval]) <;> (try repeat ((with_reducible refine And.intro ?_ ?_); focus (first | omega | assumption | exact True.intro | (show anyD _ _ = true; exact rfl) | (simp only [List.length_map, List.length_append, List.length_cons, List.length_nil, List.length_take, List.length_drop]; omega))))
        · symm
          rw [decide_eq_false_iff_not]
          intro he
          have := (hm.1 he).1
          rcases (by simpa using e : ¬ a[k].lo = b[k].lo ∨ ¬ a[k].hi = b[k].hi) with e | e
          · exact e (congrArg Iv.lo this)
          · exact e (congrArg Iv.hi this)
        · refine ⟨k + 1, ⟨h, ?_⟩, by omega, rfl⟩
          rw [hm]
          have e : a[k].lo = b[k].lo ∧ a[k].hi = b[k].hi := by simpa using e
          exact ⟨fun h => h.2, fun h => ⟨Iv.ext' e.1 e.2, h⟩⟩
      · rw [eq_comm, decide_eq_true_eq, hm, List.drop_of_length_le h, List.drop_of_length_le (by omega)]
theorem rsame_c (a b : List Iv) (hl : a.length ≤ 1152921504606846976) : Cn Tryz.prog 107 [rg a, rg b] (.v (.bool (decide (a = b)))) := by
  refine cn_go Tryz.func107 [] 2 (by kernel_rfl) rfl (by simp [go_sem, seval]) ?_
  conv => arg 4; cbv
  conv => enter [5, 1]; cbv
  try simp (maxSteps := 2000000) (disch := omega) only [go_sem, seval]
  try repeat ((with_reducible refine And.intro ?_ ?_); focus (first | omega | assumption | exact True.intro | (show anyD _ _ = true; exact rfl) | (simp only [List.length_map, List.length_append, List.length_cons, List.length_nil, List.length_take, List.length_drop]; omega)))
  (first | refine callP.mk (seqR_c a b hl) rfl ?_ | refine callQ.mk (seqR_c a b hl) rfl ?_ | refine callO.rd (seqR_c a b hl) rfl ?_ | refine callO.mk (seqR_c a b hl) rfl ?_)
  try simp (maxSteps := 2000000) (disch := omega) only [go_sem, seval]
  try repeat ((with_reducible refine And.intro ?_ ?_); focus (first | omega | assumption | exact True.intro | (show anyD _ _ = true; exact rfl) | (simp only [List.length_map, List.length_append, List.length_cons, List.length_nil, List.length_take, List.length_drop]; omega)))
end Go.Proofs.YtjmhmeadcphfmaaGreatDoor
/- The laws of chapter 7: they return true. -/
namespace Go.Proofs.YtjmhmeadcphfmaaGreatDoor
set_option linter.unusedVariables false
set_option linter.unusedSimpArgs false
open Go.RowKit
set_option maxRecDepth 100000
end Go.Proofs.YtjmhmeadcphfmaaGreatDoor
/- Plain mathematics of vectors: the check, the search, the order of the numbers. No condition. -/
namespace Go.Proofs.YtjmhmeadcphfmaaGreatDoor
set_option linter.unusedVariables false
set_option linter.unusedSimpArgs false
open Go.RowKit
def fewB (v : List En) : Bool := v.all (fun e => decide (e.holes.length ≤ 30)) && decide (v.length ≤ 20)
theorem fewB_iff {v : List En} : fewB v = true ↔ (∀ e ∈ v, e.holes.length ≤ 30) ∧ v.length ≤ 20 := by simp [fewB]
def prv (v : List En) (k : Nat) : Nat := match v[k - 1]? with
  | some p => p.rep
  | none => 0
theorem prv_at {v : List En} {k : Nat} (h : k - 1 < v.length) : prv v k = v[k - 1].rep := by simp [prv, List.getElem?_eq_getElem h]
def hkV (v : List En) : Nat → List En → Nat × Int
  | _, [] => (0, -1)
  | k, e :: r => if (chkE e).1 ≠ 0 then ((chkE e).1, (k : Int)) else if 0 < k ∧ e.rep ≤ prv v k then (3, (k : Int)) else hkV v (k + 1) r
def chkV (v : List En) : Nat × Int := hkV v 0 v
theorem hkV_zero (v : List En) : ∀ (k : Nat) (r : List En), r = v.drop k → ((hkV v k r).1 = 0 ↔ (∀ e ∈ r, (chkE e).1 = 0) ∧ ∀ j (h : j < v.length), k ≤ j → 0 < j → v[j - 1].rep < v[j].rep)
  | k, [], h => by
    have hl := congrArg List.length h
    simp at hl
    simp only [hkV, List.not_mem_nil, false_implies, implies_true, true_and, true_iff]
    intro j hj hk
    omega
  | k, e :: r, h => by
    have hl := congrArg List.length h
    simp at hl
    have hk : k < v.length := by omega
    rw [List.drop_eq_getElem_cons hk, List.cons.injEq] at h
    obtain ⟨he, hr⟩ := h
    have ih := hkV_zero v (k + 1) r hr
    unfold hkV
    by_cases h1 : (chkE e).1 ≠ 0
    · rw [if_pos h1]
      constructor
      · intro h; exact absurd h h1
      · rintro ⟨h2, _⟩; exact absurd (h2 e (by simp)) h1
    · rw [if_neg h1]
      have h1' : (chkE e).1 = 0 := by omega
      by_cases h2 : 0 < k ∧ e.rep ≤ prv v k
      · rw [if_pos h2]
        constructor
        · intro h; cases h
        · rintro ⟨_, h3⟩
          have := h3 k hk (Nat.le_refl _) h2.1
          have h22 := h2.2
          have h23 := congrArg En.rep he
          rw [prv_at (by omega)] at h22
          omega
      · rw [if_neg h2, ih]
        constructor
        · rintro ⟨h3, h4⟩
          refine ⟨fun f hf => ?_, fun j hj hkj hj0 => ?_⟩
          · rcases List.mem_cons.1 hf with rfl | hf
            · exact h1'
            · exact h3 f hf
          · rcases Nat.eq_or_lt_of_le hkj with rfl | hlt
            · rw [prv_at (by omega), he] at h2
              omega
            · exact h4 j hj (by omega) hj0
        · rintro ⟨h3, h4⟩
          exact ⟨fun f hf => h3 f (by simp [hf]), fun j hj hkj hj0 => h4 j hj (by omega) hj0⟩
theorem adj_pair {v : List En} (h : ∀ j (h : j < v.length), 0 < j → v[j - 1].rep < v[j].rep) : v.Pairwise fun a b => a.rep < b.rep := by
  rw [List.pairwise_iff_getElem]
  intro i j hi hj hij
  induction j with
  | zero => omega
  | succ j ih =>
    have h1 := h (j + 1) hj (by omega)
    simp only [Nat.add_sub_cancel] at h1
    rcases Nat.eq_or_lt_of_le (Nat.le_of_lt_succ hij) with rfl | h2
    · exact h1
    · have := ih (by omega) h2
      omega
theorem chkV_iff {v : List En} (hb : ∀ e ∈ v, BdE e) : (chkV v).1 = 0 ↔ RightV v := by
  unfold chkV
  rw [hkV_zero v 0 v rfl]
  have hE : ∀ e ∈ v, (chkE e).1 = 0 ↔ RightE e := fun e he => by
    have := rightEB_iff (hb e he).1 (hb e he).2.1 (hb e he).2.2
    unfold rightEB at this
    simpa using this
  constructor
  · rintro ⟨h1, h2⟩
    exact ⟨fun e he => (hE e he).1 (h1 e he), adj_pair fun j hj h0 => h2 j hj (Nat.zero_le _) h0⟩
  · rintro ⟨h1, h2⟩
    refine ⟨fun e he => (hE e he).2 (h1 e he), fun j hj _ h0 => ?_⟩
    exact List.pairwise_iff_getElem.1 h2 (j - 1) j (by omega) hj (by omega)
/-- The first entry of a replica. -/
def fdV (r : Nat) : Nat → List En → Int
  | _, [] => -1
  | k, e :: t => if e.rep = r then (k : Int) else fdV r (k + 1) t
theorem fdV_spec (r : Nat) : ∀ (l : List En) (k : Nat), (fdV r k l = -1 ∧ ∀ e ∈ l, e.rep ≠ r) ∨ ∃ (i : Nat) (h : i < l.length), fdV r k l = ((k + i : Nat) : Int) ∧ l[i].rep = r
  | [], k => .inl ⟨rfl, fun _ h => by cases h⟩
  | e :: t, k => by
    unfold fdV
    by_cases h : e.rep = r
    · rw [if_pos h]
      exact .inr ⟨0, by simp, by simp, h⟩
    · rw [if_neg h]
      rcases fdV_spec r t (k + 1) with ⟨h1, h2⟩ | ⟨i, hi, h1, h2⟩
      · refine .inl ⟨h1, fun f hf => ?_⟩
        rcases List.mem_cons.1 hf with rfl | hf
        · exact h
        · exact h2 f hf
      · exact .inr ⟨i + 1, by simpa using hi, by rw [h1]; omega, by simpa using h2⟩
theorem part_rep {v : List En} (h : RightV v) (r : Nat) : ∃ i, i ≤ v.length ∧ (∀ j, (h : j < v.length) → j < i → v[j].rep < r) ∧ (∀ j, (h : j < v.length) → i ≤ j → r ≤ v[j].rep) := by
  have hp := List.pairwise_iff_getElem.1 h.2
  obtain ⟨i, h1, h2, h3⟩ := ex_part (fun j => ∃ h : j < v.length, v[j].rep < r) v.length fun a b hab hb ⟨h4, h5⟩ => by
    refine ⟨by omega, ?_⟩
    rcases Nat.lt_or_eq_of_le hab with h6 | h6
    · have := hp a b (by omega) hb h6
      omega
    · subst h6; exact h5
  exact ⟨i, h1, fun j hj hji => (h2 j hji).2, fun j hj hij => Nat.le_of_not_lt fun h => h3 j hij hj ⟨hj, h⟩⟩
theorem fdV_part {v : List En} (hr : RightV v) {r i : Nat} (h1 : ∀ j, (h : j < v.length) → j < i → v[j].rep < r) (h2 : ∀ j, (h : j < v.length) → i ≤ j → r ≤ v[j].rep) :
    fdV r 0 v = if h : i < v.length then (if v[i].rep = r then (i : Int) else -1) else -1 := by
  have hp := List.pairwise_iff_getElem.1 hr.2
  rcases fdV_spec r v 0 with ⟨e1, e2⟩ | ⟨j, hj, e1, e2⟩
  · rw [e1]
    split
    · rename_i h
      rw [if_neg (e2 _ (List.getElem_mem h))]
    · rfl
  · have hij : i ≤ j := Nat.le_of_not_lt fun h => by have := h1 j hj h; omega
    have : i = j := by
      rcases Nat.lt_or_eq_of_le hij with h | h
      · have a1 := hp i j (by omega) hj h
        have a2 := h2 i (by omega) (Nat.le_refl _)
        omega
      · exact h
    subst this
    rw [dif_pos hj, if_pos e2, e1, Nat.zero_add]
theorem knV_fd {v : List En} (hr : RightV v) {r i : Nat} (hi : i < v.length) (h : v[i].rep = r) : knV v r = kn v[i] := by
  rw [← h]; exact knV_mem hr.2 (List.getElem_mem hi)
/-- The order of lists of numbers. -/
def cmpL : List Nat → List Nat → Int
  | [], [] => 0
  | [], _ :: _ => -1
  | _ :: _, [] => 1
  | a :: x, b :: y => if a < b then -1 else if b < a then 1 else cmpL x y
theorem cmpL_zero : ∀ a b, cmpL a b = 0 ↔ a = b
  | [], [] => by simp [cmpL]
  | [], _ :: _ => by simp [cmpL]
  | _ :: _, [] => by simp [cmpL]
  | a :: x, b :: y => by
    unfold cmpL
    rw [List.cons.injEq]
    split
    · constructor
      · intro h; cases h
      · rintro ⟨h, _⟩; omega
    · split
      · constructor
        · intro h; cases h
        · rintro ⟨h, _⟩; omega
      · rw [cmpL_zero x y]
        constructor
        · intro h; exact ⟨by omega, h⟩
        · exact And.right
end Go.Proofs.YtjmhmeadcphfmaaGreatDoor
/- The boundaries of lists of intervals and of vectors: what is made of some has no others, so its length is bounded. No condition. -/
namespace Go.Proofs.YtjmhmeadcphfmaaGreatDoor
set_option linter.unusedVariables false
set_option linter.unusedSimpArgs false
theorem ascLen : ∀ (r xs : List Nat), Asc r → (∀ y ∈ r, y ∈ xs) → r.length ≤ xs.length := by
  intro r
  induction r with
  | nil => intro xs _ _; exact Nat.zero_le _
  | cons x r ih =>
    intro xs h hm
    have h' := List.pairwise_cons.1 h
    have := ih (xs.erase x) h'.2 fun y hy => by
      have h3 := h'.1 y hy
      exact (List.mem_erase_of_ne (by omega)).2 (hm y (by simp [hy]))
    have hx : x ∈ xs := hm x (by simp)
    rw [List.length_erase_of_mem hx] at this
    have := List.length_pos_of_mem hx
    simp; omega
/-- Where a set of numbers begins or ends. -/
def Ed (l : List Iv) (x : Nat) : Prop := x < M64 ∧ mem l x ≠ (if x = 0 then false else mem l (x - 1))
theorem NF.lo_prev : ∀ {l : List Iv} {n : Nat}, NF n l → ∀ s ∈ l, s.lo ≠ 0 → mem l (s.lo - 1) = false
  | [], _, _, s, hs, _ => by cases hs
  | t :: l, n, h, s, hs, h0 => by
    obtain ⟨h1, h2, h3, h4⟩ := h
    rcases List.mem_cons.1 hs with rfl | hs
    · rw [mem_cons, h4.mem_lt (by omega), decide_eq_false (show ¬ s.lo ≤ s.lo - 1 by omega)]
      rfl
    · have := h4.lo_ge s hs
      rw [mem_cons, NF.lo_prev h4 s hs h0, decide_eq_false (show ¬ s.lo - 1 ≤ t.hi by omega)]
      simp
theorem NF.asc : ∀ {l : List Iv} {n : Nat}, NF n l → Asc (l.map Iv.lo)
  | [], _, _ => List.Pairwise.nil
  | t :: l, n, h => by
    refine List.pairwise_cons.2 ⟨fun y hy => ?_, NF.asc h.2.2.2⟩
    obtain ⟨s, hs, rfl⟩ := List.mem_map.1 hy
    have := h.2.2.2.lo_ge s hs
    have := h.2.1
    omega
theorem ed_lo {l : List Iv} (h : Nrm l) {s : Iv} (hs : s ∈ l) : Ed l s.lo := by
  have h1 := NF.lo_ge h s hs
  have h2 : mem l s.lo = true := mem_iff.2 ⟨s, hs, Nat.le_refl _, h1.2.1⟩
  refine ⟨by omega, ?_⟩
  rw [h2]
  split
  · simp
  · rename_i h0
    rw [NF.lo_prev h s hs h0]
    simp
theorem ed_len {l : List Iv} {C : List Nat} (h : Nrm l) (hC : ∀ x, Ed l x → x ∈ C) : l.length ≤ C.length := by
  have := ascLen (l.map Iv.lo) C (NF.asc h) fun y hy => by
    obtain ⟨s, hs, rfl⟩ := List.mem_map.1 hy
    exact hC _ (ed_lo h hs)
  simpa using this
theorem ed_cuts {l : List Iv} (h : ∀ s ∈ l, s.lo ≤ s.hi ∧ s.hi < M64) {x : Nat} (hx : Ed l x) : x ∈ cuts l := by
  refine Classical.byContradiction fun hn => hx.2 ?_
  split
  · rename_i h0
    subst h0
    cases hm : mem l 0 with
    | false => rfl
    | true =>
      obtain ⟨s, hs, h1, h2⟩ := mem_iff.1 hm
      exact absurd (show 0 ∈ cuts l from List.mem_flatMap.2 ⟨s, hs, List.mem_cons.2 (.inl (by omega))⟩) hn
  · exact mem_same h (x := x - 1) (y := x) (by omega) hx.1 fun c hc => by
      have : c ≠ x := fun e => hn (e ▸ hc)
      omega
theorem Nrm.ivs2 {l : List Iv} (h : Nrm l) : ∀ s ∈ l, s.lo ≤ s.hi ∧ s.hi < M64 := fun s hs => (NF.lo_ge h s hs).2
theorem ed_op {f : Bool → Bool → Bool} (hf : f false false = false) {a b : List Iv} (ha : Nrm a) (hb : Nrm b) {x : Nat} (h : Ed (opS f a b) x) : Ed a x ∨ Ed b x := by
  obtain ⟨hx, hne⟩ := h
  by_cases h1 : mem a x = (if x = 0 then false else mem a (x - 1))
  · by_cases h2 : mem b x = (if x = 0 then false else mem b (x - 1))
    · refine absurd ?_ hne
      rw [opS_mem ha hb hx, h1, h2]
      split
      · exact hf
      · rw [opS_mem ha hb (by omega)]
    · exact .inr ⟨hx, h2⟩
  · exact .inl ⟨hx, h1⟩
theorem ed_nil {x : Nat} : ¬ Ed [] x := fun h => h.2 (by simp)
theorem ed_one {m n x : Nat} (h : Ed [⟨m, n⟩] x) : x = m ∨ x = n + 1 := by
  obtain ⟨_, h⟩ := h
  rw [mem_one, mem_one] at h
  by_cases e1 : x = m
  · exact .inl e1
  · by_cases e2 : x = n + 1
    · exact .inr e2
    · refine absurd ?_ h
      split
      · rename_i h0
        rw [decide_eq_false (show ¬ m ≤ x by omega)]
        rfl
      · rw [Bool.eq_iff_iff]
        simp only [Bool.and_eq_true, decide_eq_true_eq]
        omega
/-- The boundaries of what a vector knows lie in C. -/
def EdV (C : Nat → List Nat) (v : List En) : Prop := ∀ r x, Ed (knV v r) x → x ∈ C r
/-- A correct vector with its boundaries in C and its replicas in R. -/
structure IV (C : Nat → List Nat) (R : List Nat) (v : List En) : Prop where
  right : RightV v
  ed : EdV C v
  rep : ∀ e ∈ v, e.rep ∈ R
structure WV (C : Nat → List Nat) (R : List Nat) (v : List En) : Prop where
  can : CanV v
  ed : EdV C v
  rep : ∀ e ∈ v, e.rep ∈ R
variable {C C' : Nat → List Nat} {R R' : List Nat} {v a b : List En}
theorem WV.iv (h : WV C R v) : IV C R v := ⟨h.can.right, h.ed, h.rep⟩
theorem WV.nil : WV C R [] := ⟨⟨fun e h => (by cases h), List.Pairwise.nil⟩, fun r x h => absurd h (by rw [knV_nil]; exact ed_nil), fun e h => (by cases h)⟩
theorem IV.mono (h : IV C R v) (hC : ∀ r x, x ∈ C r → x ∈ C' r) (hR : ∀ x ∈ R, x ∈ R') : IV C' R' v := ⟨h.right, fun r x hx => hC _ _ (h.ed r x hx), fun e he => hR _ (h.rep e he)⟩
theorem WV.mono (h : WV C R v) (hC : ∀ r x, x ∈ C r → x ∈ C' r) (hR : ∀ x ∈ R, x ∈ R') : WV C' R' v := ⟨h.can, fun r x hx => hC _ _ (h.ed r x hx), fun e he => hR _ (h.rep e he)⟩
theorem IV.lat {f : Bool → Bool → Bool} (hf : f false false = false) (ha : IV C R a) (hb : IV C R b) : WV C R (lat f a b) := by
  refine ⟨lat_can f ha.right hb.right, fun r x hx => ?_, fun e he => ?_⟩
  · rw [lat_kn hf ha.right hb.right] at hx
    rcases ed_op hf (knV_nrm ha.right r) (knV_nrm hb.right r) hx with h | h
    · exact ha.ed r x h
    · exact hb.ed r x h
  · have := srt_mem.1 (lat_reps e he)
    rcases List.mem_append.1 this with h | h
    · obtain ⟨e', he', h⟩ := List.mem_map.1 h
      rw [← h]; exact ha.rep e' he'
    · obtain ⟨e', he', h⟩ := List.mem_map.1 h
      rw [← h]; exact hb.rep e' he'
theorem can_holes_len {e : En} (h : CanE e) {L : List Nat} (hL : ∀ x, Ed (kn e) x → x ∈ L) : e.holes.length ≤ L.length + 2 := by
  have h1 := can_ofS h
  have h2 := (can_kn h).1
  have hn := kn_nrm h.1
  rw [ofS_cons h2] at h1
  have h3 : e.holes = opS fMinus [⟨0, top (kn e)⟩] (kn e) := by
    have := congrArg (fun p => p.1.holes) h1
    exact this.symm
  have ht := (top_mem hn h2).2
  have h0 := nrm_one (Nat.zero_le (top (kn e))) ht
  rw [h3]
  have := ed_len (C := 0 :: (top (kn e) + 1) :: L) (opS_nrm (f := fMinus) h0 hn) fun x hx => by
    rcases ed_op fM0 h0 hn hx with h | h
    · rcases ed_one h with h | h <;> simp [h]
    · simp [hL x h]
  simpa using this
theorem asc_reps (h : v.Pairwise fun a b => a.rep < b.rep) : Asc (reps v) := by
  unfold Asc reps
  rw [List.pairwise_map]
  exact h
theorem WV.bv (h : WV C R v) {n m : Nat} (hC : ∀ r, (C r).length ≤ n) (hR : R.length ≤ m) : BV m (n + 2) v := by
  refine ⟨h.can.right, ?_, fun e he => ?_⟩
  · have := ascLen (reps v) R (asc_reps h.can.2) fun y hy => by
      obtain ⟨e, he, rfl⟩ := List.mem_map.1 hy
      exact h.rep e he
    simp only [reps, List.length_map] at this
    omega
  · have := can_holes_len (h.can.1 e he) (L := C e.rep) fun x hx => h.ed e.rep x (by rw [knV_mem h.can.2 he]; exact hx)
    have := hC e.rep
    omega
theorem IV.of (h : RightV v) : IV (fun r => cuts (knV v r)) (reps v) v := ⟨h, fun r x hx => ed_cuts (knV_nrm h r).ivs2 hx, fun e he => List.mem_map.2 ⟨e, he, rfl⟩⟩
end Go.Proofs.YtjmhmeadcphfmaaGreatDoor
/- The numbers of a vector tell it. No condition. -/
namespace Go.Proofs.YtjmhmeadcphfmaaGreatDoor
set_option linter.unusedVariables false
set_option linter.unusedSimpArgs false
open Go.RowKit
theorem flat2_inj : ∀ {a b : List Iv}, a.flatMap (fun s => [s.lo, s.hi]) = b.flatMap (fun s => [s.lo, s.hi]) → a = b
  | [], [], _ => rfl
  | [], _ :: _, h => by simp at h
  | _ :: _, [], h => by simp at h
  | s :: a, t :: b, h => by
    simp only [List.flatMap_cons, List.cons_append, List.nil_append, List.cons.injEq] at h
    rw [Iv.ext' h.1 h.2.1, flat2_inj h.2.2]
theorem flat2_len (a : List Iv) : (a.flatMap (fun s => [s.lo, s.hi])).length = 2 * a.length := by
  induction a with
  | nil => rfl
  | cons s a ih => simp only [List.flatMap_cons, List.length_append, List.length_cons, List.length_nil, ih]; omega
theorem numsE_inj : ∀ {a b : List En} , a.length = b.length → a.flatMap numsE = b.flatMap numsE → a = b
  | [], [], _, _ => rfl
  | [], _ :: _, h, _ => by simp at h
  | _ :: _, [], h, _ => by simp at h
  | e :: a, f :: b, hl, h => by
    simp only [List.flatMap_cons, numsE, List.cons_append, List.cons.injEq] at h
    obtain ⟨h1, h2, h3, h4⟩ := h
    have h5 := List.append_inj h4 (by rw [flat2_len, flat2_len, h3])
    rw [En.ext' h1 h2 (flat2_inj h5.1), numsE_inj (by simpa using hl) h5.2]
theorem nums_inj {a b : List En} (h : nums a = nums b) : a = b := by
  unfold nums at h
  simp only [List.cons.injEq] at h
  exact numsE_inj h.1 h.2
theorem nums_len {v : List En} (h : ∀ e ∈ v, e.holes.length ≤ 30) : (nums v).length ≤ 1 + 63 * v.length := by
  have : ∀ {v : List En}, (∀ e ∈ v, e.holes.length ≤ 30) → (v.flatMap numsE).length ≤ 63 * v.length := by
    intro v
    induction v with
    | nil => intro _; simp
    | cons e v ih =>
      intro h
      have h1 := ih fun f hf => h f (by simp [hf])
      have h2 := h e (by simp)
      simp only [List.flatMap_cons, List.length_append, numsE, List.length_cons, flat2_len]
      omega
  have := this h
  unfold nums
  simp only [List.length_cons]
  omega
end Go.Proofs.YtjmhmeadcphfmaaGreatDoor
/- The contracts of vector (Find, Has, Compare) and of kenningref09 (Few, Find, Has, Numbers, Compare, Same). -/
namespace Go.Proofs.YtjmhmeadcphfmaaGreatDoor
set_option linter.unusedVariables false
set_option linter.unusedSimpArgs false
open Go.RowKit
set_option maxRecDepth 100000
theorem few_c (v : List En) (hl : v.length ≤ 9223372036854775807) : Cn Tryz.prog 74 [vp v] (.v (.bool (fewB v))) := by
  refine cn_go Tryz.func74 [] 1 (by kernel_rfl) rfl (by simp [go_sem, seval]) ?_
  conv => arg 4; cbv
  conv => enter [5, 1]; cbv
  try simp (maxSteps := 2000000) (disch := omega) only [go_sem, seval]
  try repeat ((with_reducible refine And.intro ?_ ?_); focus (first | omega | assumption | exact True.intro | (show anyD _ _ = true; exact rfl) | (simp only [List.length_map, List.length_append, List.length_cons, List.length_nil, List.length_take, List.length_drop]; omega)))
  refine pLoop.go (fun k => k ≤ v.length ∧ fewB v = ((v.drop k).all (fun e => decide (e.holes.length ≤ 30)) && decide (v.length ≤ 20))) (fun k => [(3, .v (.int .i64 (k : Nat)))]) (fun _ => []) (fun k => v.length - k) 0 [3] ?_ ?_ ?_
  · exact ⟨Nat.zero_le _, rfl⟩
  · try simp (maxSteps := 2000000) (disch := omega) only [go_sem, seval]
    try repeat ((with_reducible refine And.intro ?_ ?_); focus (first | omega | assumption | exact True.intro | (show anyD _ _ = true; exact rfl) | (simp only [List.length_map, List.length_append, List.length_cons, List.length_nil, List.length_take, List.length_drop]; omega)))
  · rintro k ⟨hk, hm⟩
    try simp (maxSteps := 2000000) (disch := omega) only [go_sem, seval]
    try repeat ((with_reducible refine And.intro ?_ ?_); focus (first | omega | assumption | exact True.intro | (show anyD _ _ = true; exact rfl) | (simp only [List.length_map, List.length_append, List.length_cons, List.length_nil, List.length_take, List.length_drop]; omega)))
    (first | refine brP.mk (fun h => ?_) (fun h => ?_) | refine gdP.mkt (fun h => ?_) (fun h => ?_) | refine gdP.mkf (fun h => ?_) (fun h => ?_) | refine pkP.mk (fun h => ?_) (fun h => ?_)) <;> (try simp only [Bool.not_true, Bool.not_false, decide_eq_true_eq, decide_eq_false_iff_not, Bool.and_eq_true, Bool.or_eq_true, Bool.not_eq_true', Bool.not_eq_false', Bool.and_eq_false_iff, Bool.or_eq_false_iff, Nat.not_lt, Int.not_lt, Nat.not_le, Int.not_le, Int.ofNat_lt, Int.ofNat_le, Int.ofNat_inj, Bool.xor_false, Bool.false_xor, Bool.true_xor, Bool.xor_true] at h) <;> (try simp (maxSteps := 2000000) (disch := omega) only [go_sem, seval]) <;> (try repeat ((with_reducible refine And.intro ?_ ?_); focus (first | omega | assumption | exact True.intro | (show anyD _ _ = true; exact rfl) | (simp only [List.length_map, List.length_append, List.length_cons, List.length_nil, List.length_take, List.length_drop]; omega))))
    · rw [List.drop_eq_getElem_cons h, List.all_cons] at hm
      try simp (maxSteps := 2000000) (disch := omega) only [go_sem, seval]
      try repeat ((with_reducible refine And.intro ?_ ?_); focus (first | omega | assumption | exact True.intro | (show anyD _ _ = true; exact rfl) | (simp only [List.length_map, List.length_append, List.length_cons, List.length_nil, List.length_take, List.length_drop]; omega)))
      (first | refine brP.mk (fun h2 => ?_) (fun h2 => ?_) | refine gdP.mkt (fun h2 => ?_) (fun h2 => ?_) | refine gdP.mkf (fun h2 => ?_) (fun h2 => ?_) | refine pkP.mk (fun h2 => ?_) (fun h2 => ?_)) <;> (try simp only [Bool.not_true, Bool.not_false, decide_eq_true_eq, decide_eq_false_iff_not, Bool.and_eq_true, Bool.or_eq_true, Bool.not_eq_true', Bool.not_eq_false', Bool.and_eq_false_iff, Bool.or_eq_false_iff, Nat.not_lt, Int.not_lt, Nat.not_le, Int.not_le, Int.ofNat_lt, Int.ofNat_le, Int.ofNat_inj, Bool.xor_false, Bool.false_xor, Bool.true_xor, Bool.xor_true] at h2) <;> (try simp (maxSteps := 2000000) (disch := omega) only [go_sem, seval]) <;> (try repeat ((with_reducible refine And.intro ?_ ?_); focus (first | omega | assumption | exact True.intro | (show anyD _ _ = true; exact rfl) | (simp only [List.length_map, List.length_append, List.length_cons, List.length_nil, List.length_take, List.length_drop]; omega))))
      · rw [hm, decide_eq_false (by omega)]
        rfl
      · rw [decide_eq_true (by omega), Bool.true_and] at hm
        exact ⟨k + 1, ⟨h, hm⟩, by omega, rfl⟩
    · rw [hm, List.drop_of_length_le (by omega)]
      simp
      omega
theorem nan_c (x : Nat) : Cn Tryz.prog 208 [.v (.int .u64 x)] (.v (.bool false)) := by
  refine cn_go Tryz.func208 [] 1 (by kernel_rfl) rfl (by simp [go_sem, seval]) ?_
  conv => arg 4; cbv
  conv => enter [5, 1]; cbv
  try simp (maxSteps := 2000000) (disch := omega) only [go_sem, seval]
  try repeat ((with_reducible refine And.intro ?_ ?_); focus (first | omega | assumption | exact True.intro | (show anyD _ _ = true; exact rfl) | (simp only [List.length_map, List.length_append, List.length_cons, List.length_nil, List.length_take, List.length_drop]; omega)))
theorem nanI_c (x : Int) : Cn Tryz.prog 220 [.v (.int .i64 x)] (.v (.bool false)) := by
  refine cn_go Tryz.func220 [] 1 (by kernel_rfl) rfl (by simp [go_sem, seval]) ?_
  conv => arg 4; cbv
  conv => enter [5, 1]; cbv
  try simp (maxSteps := 2000000) (disch := omega) only [go_sem, seval]
  try repeat ((with_reducible refine And.intro ?_ ?_); focus (first | omega | assumption | exact True.intro | (show anyD _ _ = true; exact rfl) | (simp only [List.length_map, List.length_append, List.length_cons, List.length_nil, List.length_take, List.length_drop]; omega)))
theorem cmp_c (x y : Nat) : Cn Tryz.prog 176 [.v (.int .u64 x), .v (.int .u64 y)] (.v (.int .i64 (if x < y then -1 else if y < x then 1 else 0))) := by
  refine cn_go Tryz.func176 [] 2 (by kernel_rfl) rfl (by simp [go_sem, seval]) ?_
  conv => arg 4; cbv
  conv => enter [5, 1]; cbv
  try simp (maxSteps := 2000000) (disch := omega) only [go_sem, seval]
  try repeat ((with_reducible refine And.intro ?_ ?_); focus (first | omega | assumption | exact True.intro | (show anyD _ _ = true; exact rfl) | (simp only [List.length_map, List.length_append, List.length_cons, List.length_nil, List.length_take, List.length_drop]; omega)))
  (first | refine callP.mk (nan_c x) rfl ?_ | refine callQ.mk (nan_c x) rfl ?_ | refine callO.rd (nan_c x) rfl ?_ | refine callO.mk (nan_c x) rfl ?_)
  try simp (maxSteps := 2000000) (disch := omega) only [go_sem, seval]
  try repeat ((with_reducible refine And.intro ?_ ?_); focus (first | omega | assumption | exact True.intro | (show anyD _ _ = true; exact rfl) | (simp only [List.length_map, List.length_append, List.length_cons, List.length_nil, List.length_take, List.length_drop]; omega)))
  (first | refine callP.mk (nan_c y) rfl ?_ | refine callQ.mk (nan_c y) rfl ?_ | refine callO.rd (nan_c y) rfl ?_ | refine callO.mk (nan_c y) rfl ?_)
  try simp (maxSteps := 2000000) (disch := omega) only [go_sem, seval]
  try repeat ((with_reducible refine And.intro ?_ ?_); focus (first | omega | assumption | exact True.intro | (show anyD _ _ = true; exact rfl) | (simp only [List.length_map, List.length_append, List.length_cons, List.length_nil, List.length_take, List.length_drop]; omega)))
  (first | refine brP.mk (fun h1 => ?_) (fun h1 => ?_) | refine gdP.mkt (fun h1 => ?_) (fun h1 => ?_) | refine gdP.mkf (fun h1 => ?_) (fun h1 => ?_) | refine pkP.mk (fun h1 => ?_) (fun h1 => ?_)) <;> (try simp only [Bool.not_true, Bool.not_false, decide_eq_true_eq, decide_eq_false_iff_not, Bool.and_eq_true, Bool.or_eq_true, Bool.not_eq_true', Bool.not_eq_false', Bool.and_eq_false_iff, Bool.or_eq_false_iff, Nat.not_lt, Int.not_lt, Nat.not_le, Int.not_le, Int.ofNat_lt, Int.ofNat_le, Int.ofNat_inj, Bool.xor_false, Bool.false_xor, Bool.true_xor, Bool.xor_true] at h1) <;> (try simp (maxSteps := 2000000) (disch := omega) only [go_sem, seval]) <;> (try repeat ((with_reducible refine And.intro ?_ ?_); focus (first | omega | assumption | exact True.intro | (show anyD _ _ = true; exact rfl) | (simp only [List.length_map, List.length_append, List.length_cons, List.length_nil, List.length_take, List.length_drop]; omega))))
  · rw [if_pos h1]
  · rw [if_neg (by omega)]
    (first | refine brP.mk (fun h2 => ?_) (fun h2 => ?_) | refine gdP.mkt (fun h2 => ?_) (fun h2 => ?_) | refine gdP.mkf (fun h2 => ?_) (fun h2 => ?_) | refine pkP.mk (fun h2 => ?_) (fun h2 => ?_)) <;> (try simp only [Bool.not_true, Bool.not_false, decide_eq_true_eq, decide_eq_false_iff_not, Bool.and_eq_true, Bool.or_eq_true, Bool.not_eq_true', Bool.not_eq_false', Bool.and_eq_false_iff, Bool.or_eq_false_iff, Nat.not_lt, Int.not_lt, Nat.not_le, Int.not_le, Int.ofNat_lt, Int.ofNat_le, Int.ofNat_inj, Bool.xor_false, Bool.false_xor, Bool.true_xor, Bool.xor_true] at h2) <;> (try simp (maxSteps := 2000000) (disch := omega) only [go_sem, seval]) <;> (try repeat ((with_reducible refine And.intro ?_ ?_); focus (first | omega | assumption | exact True.intro | (show anyD _ _ = true; exact rfl) | (simp only [List.length_map, List.length_append, List.length_cons, List.length_nil, List.length_take, List.length_drop]; omega))))
    · rw [if_pos h2]
    · rw [if_neg (by omega)]
theorem cmpI_c (x y : Nat) : Cn Tryz.prog 196 [.v (.int .i64 x), .v (.int .i64 y)] (.v (.int .i64 (if x < y then -1 else if y < x then 1 else 0))) := by
  refine cn_go Tryz.func196 [] 2 (by kernel_rfl) rfl (by simp [go_sem, seval]) ?_
  conv => arg 4; cbv
  conv => enter [5, 1]; cbv
  try simp (maxSteps := 2000000) (disch := omega) only [go_sem, seval]
  try repeat ((with_reducible refine And.intro ?_ ?_); focus (first | omega | assumption | exact True.intro | (show anyD _ _ = true; exact rfl) | (simp only [List.length_map, List.length_append, List.length_cons, List.length_nil, List.length_take, List.length_drop]; omega)))
  (first | refine callP.mk (nanI_c x) rfl ?_ | refine callQ.mk (nanI_c x) rfl ?_ | refine callO.rd (nanI_c x) rfl ?_ | refine callO.mk (nanI_c x) rfl ?_)
  try simp (maxSteps := 2000000) (disch := omega) only [go_sem, seval]
  try repeat ((with_reducible refine And.intro ?_ ?_); focus (first | omega | assumption | exact True.intro | (show anyD _ _ = true; exact rfl) | (simp only [List.length_map, List.length_append, List.length_cons, List.length_nil, List.length_take, List.length_drop]; omega)))
  (first | refine callP.mk (nanI_c y) rfl ?_ | refine callQ.mk (nanI_c y) rfl ?_ | refine callO.rd (nanI_c y) rfl ?_ | refine callO.mk (nanI_c y) rfl ?_)
  try simp (maxSteps := 2000000) (disch := omega) only [go_sem, seval]
  try repeat ((with_reducible refine And.intro ?_ ?_); focus (first | omega | assumption | exact True.intro | (show anyD _ _ = true; exact rfl) | (simp only [List.length_map, List.length_append, List.length_cons, List.length_nil, List.length_take, List.length_drop]; omega)))
  (first | refine brP.mk (fun h1 => ?_) (fun h1 => ?_) | refine gdP.mkt (fun h1 => ?_) (fun h1 => ?_) | refine gdP.mkf (fun h1 => ?_) (fun h1 => ?_) | refine pkP.mk (fun h1 => ?_) (fun h1 => ?_)) <;> (try simp only [Bool.not_true, Bool.not_false, decide_eq_true_eq, decide_eq_false_iff_not, Bool.and_eq_true, Bool.or_eq_true, Bool.not_eq_true', Bool.not_eq_false', Bool.and_eq_false_iff, Bool.or_eq_false_iff, Nat.not_lt, Int.not_lt, Nat.not_le, Int.not_le, Int.ofNat_lt, Int.ofNat_le, Int.ofNat_inj, Bool.xor_false, Bool.false_xor, Bool.true_xor, Bool.xor_true] at h1) <;> (try simp (maxSteps := 2000000) (disch := omega) only [go_sem, seval]) <;> (try repeat ((with_reducible refine And.intro ?_ ?_); focus (first | omega | assumption | exact True.intro | (show anyD _ _ = true; exact rfl) | (simp only [List.length_map, List.length_append, List.length_cons, List.length_nil, List.length_take, List.length_drop]; omega))))
  · rw [if_pos h1]
  · rw [if_neg (by omega)]
    (first | refine brP.mk (fun h2 => ?_) (fun h2 => ?_) | refine gdP.mkt (fun h2 => ?_) (fun h2 => ?_) | refine gdP.mkf (fun h2 => ?_) (fun h2 => ?_) | refine pkP.mk (fun h2 => ?_) (fun h2 => ?_)) <;> (try simp only [Bool.not_true, Bool.not_false, decide_eq_true_eq, decide_eq_false_iff_not, Bool.and_eq_true, Bool.or_eq_true, Bool.not_eq_true', Bool.not_eq_false', Bool.and_eq_false_iff, Bool.or_eq_false_iff, Nat.not_lt, Int.not_lt, Nat.not_le, Int.not_le, Int.ofNat_lt, Int.ofNat_le, Int.ofNat_inj, Bool.xor_false, Bool.false_xor, Bool.true_xor, Bool.xor_true] at h2) <;> (try simp (maxSteps := 2000000) (disch := omega) only [go_sem, seval]) <;> (try repeat ((with_reducible refine And.intro ?_ ?_); focus (first | omega | assumption | exact True.intro | (show anyD _ _ = true; exact rfl) | (simp only [List.length_map, List.length_append, List.length_cons, List.length_nil, List.length_take, List.length_drop]; omega))))
    · rw [if_pos h2]
    · rw [if_neg (by omega)]
theorem key_c (r : Nat) (e : En) : Cn Tryz.prog 144 [.v (.int .u64 r), ep e] (.v (.int .i64 (if e.rep < r then -1 else if r < e.rep then 1 else 0))) := by
  refine cn_go Tryz.func144 [] 2 (by kernel_rfl) rfl (by simp [go_sem, seval]) ?_
  conv => arg 4; cbv
  conv => enter [5, 1]; cbv
  try simp (maxSteps := 2000000) (disch := omega) only [go_sem, seval]
  try repeat ((with_reducible refine And.intro ?_ ?_); focus (first | omega | assumption | exact True.intro | (show anyD _ _ = true; exact rfl) | (simp only [List.length_map, List.length_append, List.length_cons, List.length_nil, List.length_take, List.length_drop]; omega)))
  (first | refine callP.mk (cmp_c e.rep r) rfl ?_ | refine callQ.mk (cmp_c e.rep r) rfl ?_ | refine callO.rd (cmp_c e.rep r) rfl ?_ | refine callO.mk (cmp_c e.rep r) rfl ?_)
  try simp (maxSteps := 2000000) (disch := omega) only [go_sem, seval]
  try repeat ((with_reducible refine And.intro ?_ ?_); focus (first | omega | assumption | exact True.intro | (show anyD _ _ = true; exact rfl) | (simp only [List.length_map, List.length_append, List.length_cons, List.length_nil, List.length_take, List.length_drop]; omega)))
theorem order_c (a b : List Nat) (ha : a.length ≤ 1152921504606846976) (hb : b.length ≤ 1152921504606846976) : Cn Tryz.prog 161 [ns a, ns b] (.v (.int .i64 (cmpL a b))) := by
  refine cn_go Tryz.func161 [] 2 (by kernel_rfl) rfl (by simp [go_sem, seval]) ?_
  conv => arg 4; cbv
  conv => enter [5, 1]; cbv
  try simp (maxSteps := 2000000) (disch := omega) only [go_sem, seval]
  try repeat ((with_reducible refine And.intro ?_ ?_); focus (first | omega | assumption | exact True.intro | (show anyD _ _ = true; exact rfl) | (simp only [List.length_map, List.length_append, List.length_cons, List.length_nil, List.length_take, List.length_drop]; omega)))
  obtain ⟨m, e1, h1, h2, h3⟩ : ∃ m : Nat, (if b.length < a.length then (b.length : Int) else (a.length : Int)) = (m : Int) ∧ m ≤ a.length ∧ m ≤ b.length ∧ (m = a.length ∨ m = b.length) := by
    by_cases h : b.length < a.length
    · exact ⟨b.length, if_pos h, by omega, by omega, .inr rfl⟩
    · exact ⟨a.length, if_neg h, by omega, by omega, .inl rfl⟩
  rw [e1]
  refine pLoop.go (fun k => k ≤ m ∧ cmpL a b = cmpL (a.drop k) (b.drop k)) (fun k => [(11, .v (.int .i64 (k : Nat)))]) (fun _ => []) (fun k => m - k) 0 [11] ?_ ?_ ?_
  · exact ⟨Nat.zero_le _, rfl⟩
  · try simp (maxSteps := 2000000) (disch := omega) only [go_sem, seval]
    try repeat ((with_reducible refine And.intro ?_ ?_); focus (first | omega | assumption | exact True.intro | (show anyD _ _ = true; exact rfl) | (simp only [List.length_map, List.length_append, List.length_cons, List.length_nil, List.length_take, List.length_drop]; omega)))
  · rintro k ⟨hk, hm⟩
    try simp (maxSteps := 2000000) (disch := omega) only [go_sem, seval]
    try repeat ((with_reducible refine And.intro ?_ ?_); focus (first | omega | assumption | exact True.intro | (show anyD _ _ = true; exact rfl) | (simp only [List.length_map, List.length_append, List.length_cons, List.length_nil, List.length_take, List.length_drop]; omega)))
    (first | refine brP.mk (fun h => ?_) (fun h => ?_) | refine gdP.mkt (fun h => ?_) (fun h => ?_) | refine gdP.mkf (fun h => ?_) (fun h => ?_) | refine pkP.mk (fun h => ?_) (fun h => ?_)) <;> (try simp only [Bool.not_true, Bool.not_false, decide_eq_true_eq, decide_eq_false_iff_not, Bool.and_eq_true, Bool.or_eq_true, Bool.not_eq_true', Bool.not_eq_false', Bool.and_eq_false_iff, Bool.or_eq_false_iff, Nat.not_lt, Int.not_lt, Nat.not_le, Int.not_le, Int.ofNat_lt, Int.ofNat_le, Int.ofNat_inj, Bool.xor_false, Bool.false_xor, Bool.true_xor, Bool.xor_true] at h) <;> (try simp (maxSteps := 2000000) (disch := omega) only [go_sem, seval]) <;> (try repeat ((with_reducible refine And.intro ?_ ?_); focus (first | omega | assumption | exact True.intro | (show anyD _ _ = true; exact rfl) | (simp only [List.length_map, List.length_append, List.length_cons, List.length_nil, List.length_take, List.length_drop]; omega))))
    · have ha' : k < a.length := by omega
      have hb' : k < b.length := by omega
      rw [List.drop_eq_getElem_cons ha', List.drop_eq_getElem_cons hb', cmpL] at hm
      try simp (maxSteps := 2000000) (disch := omega) only [go_sem, seval]
      try repeat ((with_reducible refine And.intro ?_ ?_); focus (first | omega | assumption | exact True.intro | (show anyD _ _ = true; exact rfl) | (simp only [List.length_map, List.length_append, List.length_cons, List.length_nil, List.length_take, List.length_drop]; omega)))
      (first | refine brP.mk (fun h4 => ?_) (fun h4 => ?_) | refine gdP.mkt (fun h4 => ?_) (fun h4 => ?_) | refine gdP.mkf (fun h4 => ?_) (fun h4 => ?_) | refine pkP.mk (fun h4 => ?_) (fun h4 => ?_)) <;> (try simp only [Bool.not_true, Bool.not_false, decide_eq_true_eq, decide_eq_false_iff_not, Bool.and_eq_true, Bool.or_eq_true, Bool.not_eq_true', Bool.not_eq_false', Bool.and_eq_false_iff, Bool.or_eq_false_iff, Nat.not_lt, Int.not_lt, Nat.not_le, Int.not_le, Int.ofNat_lt, Int.ofNat_le, Int.ofNat_inj, Bool.xor_false, Bool.false_xor, Bool.true_xor, Bool.xor_true] at h4) <;> (try simp (maxSteps := 2000000) (disch := omega) only [go_sem, seval]) <;> (try repeat ((with_reducible refine And.intro ?_ ?_); focus (first | omega | assumption | exact True.intro | (show anyD _ _ = true; exact rfl) | (simp only [List.length_map, List.length_append, List.length_cons, List.length_nil, List.length_take, List.length_drop]; omega))))
      · (first | refine callP.mk (cmp_c a[k] b[k]) rfl ?_ | refine callQ.mk (cmp_c a[k] b[k]) rfl ?_ | refine callO.rd (cmp_c a[k] b[k]) rfl ?_ | refine callO.mk (cmp_c a[k] b[k]) rfl ?_)
        try simp (maxSteps := 2000000) (disch := omega) only [go_sem, seval]
        try repeat ((with_reducible refine And.intro ?_ ?_); focus (first | omega | assumption | exact True.intro | (show anyD _ _ = true; exact rfl) | (simp only [List.length_map, List.length_append, List.length_cons, List.length_nil, List.length_take, List.length_drop]; omega)))
        rw [hm]
        by_cases h5 : a[k] < b[k]
        · rw [if_pos h5, if_pos h5]
        · rw [if_neg h5, if_neg h5, if_pos (by omega), if_pos (by omega)]
      · rw [if_neg (by omega), if_neg (by omega)] at hm
        exact ⟨k + 1, ⟨h, hm⟩, by omega, rfl⟩
    · (first | refine callP.mk (cmpI_c a.length b.length) rfl ?_ | refine callQ.mk (cmpI_c a.length b.length) rfl ?_ | refine callO.rd (cmpI_c a.length b.length) rfl ?_ | refine callO.mk (cmpI_c a.length b.length) rfl ?_)
      try simp (maxSteps := 2000000) (disch := omega) only [go_sem, seval]
      try repeat ((with_reducible refine And.intro ?_ ?_); focus (first | omega | assumption | exact True.intro | (show anyD _ _ = true; exact rfl) | (simp only [List.length_map, List.length_append, List.length_cons, List.length_nil, List.length_take, List.length_drop]; omega)))
      have hx : a.drop k = [] ∨ b.drop k = [] := by
        rcases h3 with h3 | h3
        · exact .inl (List.drop_of_length_le (by omega))
        · exact .inr (List.drop_of_length_le (by omega))
      have la : (a.drop k).length = a.length - k := List.length_drop
      have lb : (b.drop k).length = b.length - k := List.length_drop
      rw [hm]
      generalize a.drop k = x at *
      generalize b.drop k = y at *
      rcases hx with rfl | rfl
      · cases y with
        | nil => simp at la lb; rw [if_neg (by omega), if_neg (by omega)]; rfl
        | cons c y => simp at la lb; rw [if_pos (by omega)]; rfl
      · cases x with
        | nil => simp at la lb; rw [if_neg (by omega), if_neg (by omega)]; rfl
        | cons c y => simp at la lb; rw [if_neg (by omega), if_pos (by omega)]; rfl
theorem vcompare_c (a b : List En) (ha : ∀ e ∈ a, BdE e) (hb : ∀ e ∈ b, BdE e) (la : (nums a).length ≤ 1073741824) (lb : (nums b).length ≤ 1073741824) : Cn Tryz.prog 108 [vp a, vp b] (.v (.int .i64 (cmpL (nums a) (nums b)))) := by
  refine cn_go Tryz.func108 [] 2 (by kernel_rfl) rfl (by simp [go_sem, seval]) ?_
  conv => arg 4; cbv
  conv => enter [5, 1]; cbv
  try simp (maxSteps := 2000000) (disch := omega) only [go_sem, seval]
  try repeat ((with_reducible refine And.intro ?_ ?_); focus (first | omega | assumption | exact True.intro | (show anyD _ _ = true; exact rfl) | (simp only [List.length_map, List.length_append, List.length_cons, List.length_nil, List.length_take, List.length_drop]; omega)))
  (first | refine callP.mk (numbers_c a ha la) rfl ?_ | refine callQ.mk (numbers_c a ha la) rfl ?_ | refine callO.rd (numbers_c a ha la) rfl ?_ | refine callO.mk (numbers_c a ha la) rfl ?_)
  try simp (maxSteps := 2000000) (disch := omega) only [go_sem, seval]
  try repeat ((with_reducible refine And.intro ?_ ?_); focus (first | omega | assumption | exact True.intro | (show anyD _ _ = true; exact rfl) | (simp only [List.length_map, List.length_append, List.length_cons, List.length_nil, List.length_take, List.length_drop]; omega)))
  (first | refine callP.mk (numbers_c b hb lb) rfl ?_ | refine callQ.mk (numbers_c b hb lb) rfl ?_ | refine callO.rd (numbers_c b hb lb) rfl ?_ | refine callO.mk (numbers_c b hb lb) rfl ?_)
  try simp (maxSteps := 2000000) (disch := omega) only [go_sem, seval]
  try repeat ((with_reducible refine And.intro ?_ ?_); focus (first | omega | assumption | exact True.intro | (show anyD _ _ = true; exact rfl) | (simp only [List.length_map, List.length_append, List.length_cons, List.length_nil, List.length_take, List.length_drop]; omega)))
  (first | refine callP.mk (order_c (nums a) (nums b) (by omega) (by omega)) rfl ?_ | refine callQ.mk (order_c (nums a) (nums b) (by omega) (by omega)) rfl ?_ | refine callO.rd (order_c (nums a) (nums b) (by omega) (by omega)) rfl ?_ | refine callO.mk (order_c (nums a) (nums b) (by omega) (by omega)) rfl ?_)
  try simp (maxSteps := 2000000) (disch := omega) only [go_sem, seval]
  try repeat ((with_reducible refine And.intro ?_ ?_); focus (first | omega | assumption | exact True.intro | (show anyD _ _ = true; exact rfl) | (simp only [List.length_map, List.length_append, List.length_cons, List.length_nil, List.length_take, List.length_drop]; omega)))
theorem sameV_c (a b : List En) (hl : a.length ≤ 1152921504606846976) (hh : ∀ e ∈ a, e.holes.length ≤ 1152921504606846976) : Cn Tryz.prog 38 [vp a, vp b] (.v (.bool (decide (a = b)))) := by
  refine cn_go Tryz.func38 [] 2 (by kernel_rfl) rfl (by simp [go_sem, seval]) ?_
  conv => arg 4; cbv
  conv => enter [5, 1]; cbv
  try simp (maxSteps := 2000000) (disch := omega) only [go_sem, seval]
  try repeat ((with_reducible refine And.intro ?_ ?_); focus (first | omega | assumption | exact True.intro | (show anyD _ _ = true; exact rfl) | (simp only [List.length_map, List.length_append, List.length_cons, List.length_nil, List.length_take, List.length_drop]; omega)))
  (first | refine brP.mk (fun h0 => ?_) (fun h0 => ?_) | refine gdP.mkt (fun h0 => ?_) (fun h0 => ?_) | refine gdP.mkf (fun h0 => ?_) (fun h0 => ?_) | refine pkP.mk (fun h0 => ?_) (fun h0 => ?_)) <;> (try simp only [Bool.not_true, Bool.not_false, decide_eq_true_eq, decide_eq_false_iff_not, Bool.and_eq_true, Bool.or_eq_true, Bool.not_eq_true', Bool.not_eq_false', Bool.and_eq_false_iff, Bool.or_eq_false_iff, Nat.not_lt, Int.not_lt, Nat.not_le, Int.not_le, Int.ofNat_lt, Int.ofNat_le, Int.ofNat_inj, Bool.xor_false, Bool.false_xor, Bool.true_xor, Bool.xor_true] at h0) <;> (try simp (maxSteps := 2000000) (disch := omega) only [go_sem, seval]) <;> (try repeat ((with_reducible refine And.intro ?_ ?_); focus (first | omega | assumption | exact True.intro | (show anyD _ _ = true; exact rfl) | (simp only [List.length_map, List.length_append, List.length_cons, List.length_nil, List.length_take, List.length_drop]; omega))))
  · symm
    rw [decide_eq_false_iff_not]
    rintro rfl
    exact h0 rfl
  · have h0' : a.length = b.length := by simpa using h0
    clear h0
    refine pLoop.go (fun k => k ≤ a.length ∧ (a = b ↔ a.drop k = b.drop k)) (fun k => [(5, .v (.int .i64 (k : Nat)))]) (fun _ => []) (fun k => a.length - k) 0 [5] ?_ ?_ ?_
    · exact ⟨Nat.zero_le _, Iff.rfl⟩
    · try simp (maxSteps := 2000000) (disch := omega) only [go_sem, seval]
      try repeat ((with_reducible refine And.intro ?_ ?_); focus (first | omega | assumption | exact True.intro | (show anyD _ _ = true; exact rfl) | (simp only [List.length_map, List.length_append, List.length_cons, List.length_nil, List.length_take, List.length_drop]; omega)))
    · rintro k ⟨hk, hm⟩
      try simp (maxSteps := 2000000) (disch := omega) only [go_sem, seval]
      try repeat ((with_reducible refine And.intro ?_ ?_); focus (first | omega | assumption | exact True.intro | (show anyD _ _ = true; exact rfl) | (simp only [List.length_map, List.length_append, List.length_cons, List.length_nil, List.length_take, List.length_drop]; omega)))
      (first | refine brP.mk (fun h => ?_) (fun h => ?_) | refine gdP.mkt (fun h => ?_) (fun h => ?_) | refine gdP.mkf (fun h => ?_) (fun h => ?_) | refine pkP.mk (fun h => ?_) (fun h => ?_)) <;> (try simp only [Bool.not_true, Bool.not_false, decide_eq_true_eq, decide_eq_false_iff_not, Bool.and_eq_true, Bool.or_eq_true, Bool.not_eq_true', Bool.not_eq_false', Bool.and_eq_false_iff, Bool.or_eq_false_iff, Nat.not_lt, Int.not_lt, Nat.not_le, Int.not_le, Int.ofNat_lt, Int.ofNat_le, Int.ofNat_inj, Bool.xor_false, Bool.false_xor, Bool.true_xor, Bool.xor_true] at h) <;> (try simp (maxSteps := 2000000) (disch := omega) only [go_sem, seval]) <;> (try repeat ((with_reducible refine And.intro ?_ ?_); focus (first | omega | assumption | exact True.intro | (show anyD _ _ = true; exact rfl) | (simp only [List.length_map, List.length_append, List.length_cons, List.length_nil, List.length_take, List.length_drop]; omega))))
      · have hk' : k < b.length := by omega
        rw [List.drop_eq_getElem_cons h, List.drop_eq_getElem_cons hk', List.cons.injEq] at hm
        try simp (maxSteps := 2000000) (disch := omega) only [go_sem, seval]
        try repeat ((with_reducible refine And.intro ?_ ?_); focus (first | omega | assumption | exact True.intro | (show anyD _ _ = true; exact rfl) | (simp only [List.length_map, List.length_append, List.length_cons, List.length_nil, List.length_take, List.length_drop]; omega)))
        (first | refine callP.mk (same7_c a[k] b[k] (hh _ (List.getElem_mem h))) rfl ?_ | refine callQ.mk (same7_c a[k] b[k] (hh _ (List.getElem_mem h))) rfl ?_ | refine callO.rd (same7_c a[k] b[k] (hh _ (List.getElem_mem h))) rfl ?_ | refine callO.mk (same7_c a[k] b[k] (hh _ (List.getElem_mem h))) rfl ?_)
        try simp (maxSteps := 2000000) (disch := omega) only [go_sem, seval]
        try repeat ((with_reducible refine And.intro ?_ ?_); focus (first | omega | assumption | exact True.intro | (show anyD _ _ = true; exact rfl) | (simp only [List.length_map, List.length_append, List.length_cons, List.length_nil, List.length_take, List.length_drop]; omega)))
        (first | refine brP.mk (fun e => ?_) (fun e => ?_) | refine gdP.mkt (fun e => ?_) (fun e => ?_) | refine gdP.mkf (fun e => ?_) (fun e => ?_) | refine pkP.mk (fun e => ?_) (fun e => ?_)) <;> (try simp only [Bool.not_true, Bool.not_false, decide_eq_true_eq, decide_eq_false_iff_not, Bool.and_eq_true, Bool.or_eq_true, Bool.not_eq_true', Bool.not_eq_false', Bool.and_eq_false_iff, Bool.or_eq_false_iff, Nat.not_lt, Int.not_lt, Nat.not_le, Int.not_le, Int.ofNat_lt, Int.ofNat_le, Int.ofNat_inj, Bool.xor_false, Bool.false_xor, Bool.true_xor, Bool.xor_true] at e) <;> (try simp (maxSteps := 2000000) (disch := omega) only [go_sem, seval]) <;> (try repeat ((with_reducible refine And.intro ?_ ?_); focus (first | omega | assumption | exact True.intro | (show anyD _ _ = true; exact rfl) | (simp only [List.length_map, List.length_append, List.length_cons, List.length_nil, List.length_take, List.length_drop]; omega))))
        · symm
          rw [decide_eq_false_iff_not]
          intro he
          exact e (hm.1 he).1
        · refine ⟨k + 1, ⟨h, ?_⟩, by omega, rfl⟩
          rw [hm]
          exact ⟨fun h => h.2, fun h => ⟨e, h⟩⟩
      · rw [eq_comm, decide_eq_true_eq, hm, List.drop_of_length_le (by omega), List.drop_of_length_le (by omega)]
end Go.Proofs.YtjmhmeadcphfmaaGreatDoor
