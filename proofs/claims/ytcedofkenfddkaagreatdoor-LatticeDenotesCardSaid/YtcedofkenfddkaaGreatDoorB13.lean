/- Texts of this claim, bound together: Dq Opp Rm T22 T23 T24. -/
import Derived.Test.YtcedofkenfddkaaGreatDoorB12
/- lattice.Union, Meet, Minus, Subset: their contracts. Condition: the vectors are correct, at most 2^20 entries of at most 10000 holes. -/
namespace Go.Proofs.YtcedofkenfddkaaGreatDoor
set_option linter.unusedVariables false
set_option linter.unusedSimpArgs false
open Go.RowKit Go.Maps
set_option maxRecDepth 100000
attribute [-go_sem] nat_succ
theorem cn_memL {f : FuncId} {ps : List PV} {r : PV} (hr : r.own = none) (hent : ∀ args w, (callFunc f args).run Tryz.prog w = .ok (.enter f args) w)
    (h : ∀ (D : Nat → Nat → Prop) (w : World) (vs : Array Value), GL D w → (∀ b o, D b o → b < w.heap.size) → vs.size = ps.length → (∀ (i : Nat) p, ps[i]? = some p → Dat D w (vs.getD i undef) p) →
      Calls Tryz.prog f vs w fun e w' => ∃ v, e = .returned v ∧ Below w.heap.size w w' ∧ Dat (fun b o => D b o ∨ (w.heap.size ≤ b ∧ b < w'.heap.size)) w' v r) : Cn Tryz.prog f ps r := by
  refine ⟨hent, fun D w vs hG hD hsz hd => (h D w vs hG hD hsz hd).mono ?_⟩
  rintro e w' ⟨v, rfl, hb, hv⟩
  exact ⟨v, _, rfl, hb, fun b o h => .inl h, fun b o h => h.imp id And.left, fun b o h => h.elim (fun h => Nat.lt_of_lt_of_le (hD b o h) hb.size) And.right, hv, ownOk_none hr⟩
theorem arr3 {vs : Array Value} (h : vs.size = 3) : vs = #[vs.getD 0 undef, vs.getD 1 undef, vs.getD 2 undef] := by
  obtain ⟨l⟩ := vs
  match l, h with
  | [x, y, z], _ => rfl
theorem dat_fn {D : Nat → Nat → Prop} {w : World} {x : Value} {f : Fn} (h : Dat D w x (.fn f [] [])) : x = .func f #[] #[] := by
  cases h with
  | fn f va vb fs cs h1 h2 _ _ =>
    rw [Array.size_eq_zero_iff.1 h1, Array.size_eq_zero_iff.1 h2]
theorem SmV.bd {v : List En} (h : SmV v) : ∀ e ∈ v, BdE e := fun e he => BdE_of (h.1.1 e he)
theorem ldo_c (a b : List En) (f : Bool → Bool → Bool) (op : FuncId) (hop : ∀ r, Cn Tryz.prog op [rg (knV a r), rg (knV b r)] (rg (opS f (knV a r) (knV b r)))) (ha : SmV a) (hb : SmV b) :
    Cn Tryz.prog 18 [vp a, vp b, .fn (.func op) [] []] (vp (lat f a b)) := by
  refine cn_memL rfl (enters_of Tryz.func18 (by kernel_rfl) rfl) fun D w vs hG hD hsz hd => ?_
  rw [arr3 hsz, dat_fn (hd 2 _ rfl)]
  refine (do_calls D a b _ _ w f op hop ha hb (dat_rdf (hd 0 _ rfl) hD ha.bd) (dat_rdf (hd 1 _ rfl) hD hb.bd) hD hG).mono ?_
  rintro e w' ⟨v, rfl, hbl, hd⟩
  exact ⟨v, rfl, hbl, hd.mono (fun b o h => h.imp id fun h => ⟨by omega, h.2⟩) fun _ _ _ _ h => h⟩
theorem knV_sm {v : List En} (h : SmV v) (r : Nat) : Nrm (knV v r) ∧ (knV v r).length ≤ 20003 := ⟨knV_nrm h.1 r, knV_len (n := 1048576) (h := 10000) h r⟩
theorem lUnion_c (a b : List En) (ha : SmV a) (hb : SmV b) : Cn Tryz.prog 6 [vp a, vp b] (vp (lat fUnion a b)) := by
  have h := ldo_c a b fUnion 19 (fun r => union_c _ _ (knV_sm ha r).1 (knV_sm hb r).1 (by have := (knV_sm ha r).2; have := (knV_sm hb r).2; omega)) ha hb
  refine cn_go Tryz.func6 [] 2 (by kernel_rfl) rfl (by simp [go_sem, seval]) ?_
  conv => arg 4; cbv
  conv => enter [5, 1]; cbv
  try simp (maxSteps := 2000000) (disch := omega) only [go_sem, seval]
  try repeat ((with_reducible refine And.intro ?_ ?_); focus (first | omega | assumption | exact True.intro | (show anyD _ _ = true; exact rfl) | (simp only [List.length_map, List.length_append, List.length_cons, List.length_nil, List.length_take, List.length_drop]; omega)))
  (first | refine callP.mk (h) rfl ?_ | refine callQ.mk (h) rfl ?_ | refine callO.rd (h) rfl ?_ | refine callO.mk (h) rfl ?_)
  try simp (maxSteps := 2000000) (disch := omega) only [go_sem, seval]
  try repeat ((with_reducible refine And.intro ?_ ?_); focus (first | omega | assumption | exact True.intro | (show anyD _ _ = true; exact rfl) | (simp only [List.length_map, List.length_append, List.length_cons, List.length_nil, List.length_take, List.length_drop]; omega)))
theorem lMeet_c (a b : List En) (ha : SmV a) (hb : SmV b) : Cn Tryz.prog 7 [vp a, vp b] (vp (lat fMeet a b)) := by
  have h := ldo_c a b fMeet 20 (fun r => meet_c _ _ (knV_sm ha r).1 (knV_sm hb r).1 (by have := (knV_sm ha r).2; have := (knV_sm hb r).2; omega)) ha hb
  refine cn_go Tryz.func7 [] 2 (by kernel_rfl) rfl (by simp [go_sem, seval]) ?_
  conv => arg 4; cbv
  conv => enter [5, 1]; cbv
  try simp (maxSteps := 2000000) (disch := omega) only [go_sem, seval]
  try repeat ((with_reducible refine And.intro ?_ ?_); focus (first | omega | assumption | exact True.intro | (show anyD _ _ = true; exact rfl) | (simp only [List.length_map, List.length_append, List.length_cons, List.length_nil, List.length_take, List.length_drop]; omega)))
  (first | refine callP.mk (h) rfl ?_ | refine callQ.mk (h) rfl ?_ | refine callO.rd (h) rfl ?_ | refine callO.mk (h) rfl ?_)
  try simp (maxSteps := 2000000) (disch := omega) only [go_sem, seval]
  try repeat ((with_reducible refine And.intro ?_ ?_); focus (first | omega | assumption | exact True.intro | (show anyD _ _ = true; exact rfl) | (simp only [List.length_map, List.length_append, List.length_cons, List.length_nil, List.length_take, List.length_drop]; omega)))
theorem lMinus_c (a b : List En) (ha : SmV a) (hb : SmV b) : Cn Tryz.prog 8 [vp a, vp b] (vp (lat fMinus a b)) := by
  have h := ldo_c a b fMinus 21 (fun r => minus_c _ _ (knV_sm ha r).1 (knV_sm hb r).1 (by have := (knV_sm ha r).2; have := (knV_sm hb r).2; omega)) ha hb
  refine cn_go Tryz.func8 [] 2 (by kernel_rfl) rfl (by simp [go_sem, seval]) ?_
  conv => arg 4; cbv
  conv => enter [5, 1]; cbv
  try simp (maxSteps := 2000000) (disch := omega) only [go_sem, seval]
  try repeat ((with_reducible refine And.intro ?_ ?_); focus (first | omega | assumption | exact True.intro | (show anyD _ _ = true; exact rfl) | (simp only [List.length_map, List.length_append, List.length_cons, List.length_nil, List.length_take, List.length_drop]; omega)))
  (first | refine callP.mk (h) rfl ?_ | refine callQ.mk (h) rfl ?_ | refine callO.rd (h) rfl ?_ | refine callO.mk (h) rfl ?_)
  try simp (maxSteps := 2000000) (disch := omega) only [go_sem, seval]
  try repeat ((with_reducible refine And.intro ?_ ?_); focus (first | omega | assumption | exact True.intro | (show anyD _ _ = true; exact rfl) | (simp only [List.length_map, List.length_append, List.length_cons, List.length_nil, List.length_take, List.length_drop]; omega)))
theorem dat_bool {D : Nat → Nat → Prop} {w : World} {x : Value} {b : Bool} (h : Dat D w x (.v (.bool b))) : x = .bool b := h.v_inv
set_option maxHeartbeats 8000000 in
theorem lsub_calls (C : Nat → Nat → Prop) (a b : List En) (va vb : Value) (w : World) (ha : SmV a) (hb : SmV b) (ra : RdF C w.heap.size w va a) (rb : RdF C w.heap.size w vb b) (hC : ∀ b o, C b o → b < w.heap.size) (hGL : GL C w) :
    Calls Tryz.prog 15 #[va, vb] w fun e w' => e = .returned (.bool (decide (lat fMinus a b = []))) ∧ Below w.heap.size w w' := by
  have HP0 := Lib.hid (pair_calls C a b va vb w ha hb ra rb hC hGL)
  have HGL := Lib.hid hGL
  obtain ⟨dom, hdom⟩ : ∃ dom, dom = reps a ++ reps b := ⟨_, rfl⟩
  have HDom := Lib.hid hdom
  clear hGL ra rb
  have tokA : True := trivial
  have tokB : True := trivial
  go_enter Tryz.func15, Tryz.ntmps15
  go_wp2_with (first
    | (go_at_call 32; have _t := tokA; refine HP0.out.mono ?_; rintro e w1 ⟨rfl, hb1, D, hown, hpd⟩
       rw [← hdom] at hpd
       have hmb : w.heap.size < w1.heap.size := hown.lt
       have HO1 := Lib.hid hown
       have HP1 := Lib.hid hpd
       have HB1 := Lib.hid hb1
       clear hown hpd hb1 tokA)
    | (at_range; have _t := tokB; refine wpList_range_own _ rfl _ 55 rfl 24 57 law_u Tryz.underlying55 rV w.heap.size (a.length + b.length) D rfl HO1.out ?_; intro w2 hrg2 hg2 hs2; clear tokB)
    | go_in)
  go_frame
  clear hdom
  have HK2 : Hid (∀ k, k < w1.heap.size → w2.heap[k]? = w1.heap[k]?) := Lib.hid fun k hk => hg2.block k hk (by simp)
  have HB2 := Lib.hid (below_keep HB1.out (S := fun _ => False) ⟨hg2.os, hg2.tape, hg2.output, hg2.size, fun k hk _ => HK2.out k hk⟩ (fun _ _ h => h) (Nat.le_refl _))
  clear hg2
  go_loopg [12] (Maps.size D) (fun g x wr => ∃ left, wr.ranges Tryz.prog 24 rV w.heap.size w1.heap.size (a.length + b.length) D left g ∧ (∀ r, left (kR r) = true → r ∈ dom) ∧ (∀ r, r ∈ dom → left (kR r) = false → opS fMinus (knV a r) (knV b r) = []) ∧ Keep (fun k => w1.heap.size ≤ k) w2 wr)
  case atStart =>
    have hpd := HP1.out
    refine ⟨Maps.has D, hrg2, fun r h => ?_, fun r h1 h2 => ?_, Keep.refl _ _⟩
    · rw [(hpd.2 r).1] at h; simpa using h
    · rw [(hpd.2 r).1] at h2; exact absurd h1 (by simpa using h2)
  case round =>
    obtain ⟨left, hrg, hlf, hdn, hK⟩ := hrel
    have HRG := Lib.hid hrg
    have HLF := Lib.hid hlf
    have HDN := Lib.hid hdn
    have HKL := Lib.hid hK
    have hw2l : w2.heap.size ≤ wr.heap.size := hK.size
    have HBL := Lib.hid (below_keep HB2.out hK (fun k hk => by omega) (Nat.le_refl _))
    have HKW : Hid (∀ k, k < w1.heap.size → wr.heap[k]? = w1.heap[k]?) := Lib.hid fun k hk => (hK.block k (by omega) (by omega)).trans (HK2.out k hk)
    clear hrg2 hrg hlf hdn hK
    go_wp2_with (first
      | (at_next; refine wpList_next_ranges _ rfl _ rfl 24 law_u rV (fun r : {r : Nat // r < M64} => Value.int .u64 (r.1 : Nat)) (fun c : Value => c) invU (fun v y _ => ⟨v, rfl⟩) w.heap.size w1.heap.size (a.length + b.length) D left gk rfl HRG.out ?_ ?_)
      | go_in)
    · intro hc0 hl0
      have hres : decide (lat fMinus a b = []) = true := by
        rw [decide_eq_true_eq, lat_minus_nil ha.1 hb.1]
        intro r
        by_cases hr : r ∈ dom
        · exact HDN.out r hr (hl0 _)
        · rw [HDom.out, List.mem_append] at hr
          rw [knV_none (v := a) fun e he h => hr (.inl (List.mem_map.2 ⟨e, he, h⟩)), knV_none (v := b) fun e he h => hr (.inr (List.mem_map.2 ⟨e, he, h⟩))]
          exact opS_none fM0
      go_wp2_with fail
      refine bodyPost_ret (results_tmp rfl _ _ _) rfl ?_
      rw [hres]
      exact ⟨rfl, HBL.out⟩
    · intro x hx c kl y ys w3 cnt3 hkey hlk hv hat hrg3 hlt hg3 hs3 hen
      obtain rfl : kl = kR x := by
        have := (key_r hx).symm.trans hkey
        simpa using this.symm
      obtain ⟨s0, s1, he, hd0, hd1⟩ := (HP1.out.2 x).2
      obtain ⟨a0, n0, rfl⟩ := rg_slice hd0
      obtain ⟨a1, n1, rfl⟩ := rg_slice hd1
      obtain rfl : c = .agg #[.slice a0 (knV a x).length n0, .slice a1 (knV b x).length n1] := by
        have h1 := hat (.held zP)
        rw [he] at h1
        unfold rV at hv
        simp only [Option.some.injEq, Prod.mk.injEq] at hv
        rw [← hv.1] at h1
        cases h1
        rfl
      have HRG3 := Lib.hid hrg3
      have hK3 := HKL.out.grown hg3 (fun k hk _ => by cases hk; omega)
      have hb3 : ∀ k, k < w1.heap.size → w3.heap[k]? = w1.heap[k]? := fun k hk => (hg3.block k (by omega) (fun e => by cases e; omega)).trans (HKW.out k hk)
      have HB3 := Lib.hid hb3
      have HK3 := Lib.hid hK3
      have hSub := subset_c (knV a x) (knV b x) (knV_sm ha x).1 (knV_sm hb x).1
      obtain ⟨ok, hok⟩ : ∃ ok, ok = decide (opS fMinus (knV a x) (knV b x) = []) := ⟨_, rfl⟩
      rw [← hok] at hSub
      have hb4 : ∀ k, k < w1.heap.size → (w3.alloc (.cells #[.slice a0 (knV a x).length n0, .slice a1 (knV b x).length n1] 57)).heap[k]? = w1.heap[k]? := fun k hk => (Below.heap_alloc _ _ _ (by omega)).trans (hb3 k hk)
      have HSU := Lib.hid (cn_w hSub (D := DL C w.heap.size w1) (w := w3.alloc (.cells #[.slice a0 (knV a x).length n0, .slice a1 (knV b x).length n1] 57)) (vs := #[.slice a0 (knV a x).length n0, .slice a1 (knV b x).length n1])
        (HGL.out.mono (fun _ _ h => .inl h) fun j o y hj hy => (World.cell?_of_block (a := ⟨j, o, none⟩) ((hb4 j (by have := hC j o hj; omega)).trans (HB1.out.block j (hC j o hj)))).trans hy)
        (fun j o h => by have : j < w1.heap.size := h.elim (fun h => by have := hC j o h; omega) And.right; simp; omega) rfl (fun i p hp => by
          have hm : ∀ j o y, DL C w.heap.size w1 j o → w1.cell? ⟨j, o, none⟩ = some y → (w3.alloc (.cells #[.slice a0 (knV a x).length n0, .slice a1 (knV b x).length n1] 57)).cell? ⟨j, o, none⟩ = some y := fun j o y _ hy => (World.cell?_of_block (a := ⟨j, o, none⟩) (hb4 j (World.block_lt_of_cell? w1 ⟨j, o, none⟩ hy))).trans hy
          match i, hp with
          | 0, hp => cases hp; exact hd0.mono (fun _ _ h => h) hm
          | 1, hp => cases hp; exact hd1.mono (fun _ _ h => h) hm
          | i + 2, hp => simp at hp))
      have hn0 : (knV a x).length ≤ maxLen := by have := (knV_sm ha x).2; unfold maxLen; omega
      have hn1 : (knV b x).length ≤ maxLen := by have := (knV_sm hb x).2; unfold maxLen; omega
      unfold maxLen at hn0 hn1
      have HOK := Lib.hid hok
      clear hkey hv hat hrg3 hg3 hb3 hK3 hSub hok hb4 hd0 hd1 he
      cases ok with
      | true =>
        go_wp2_with (first
          | (go_at_call 33; refine HSU.out.mono ?_; rintro e w4 ⟨v4, rfl, hb4, hd4⟩; obtain rfl := dat_bool hd4; have HB4 := Lib.hid hb4; clear hb4 hd4)
          | go_in)
        go_roundg cnt3
        case measure => exact hlt
        case rel =>
          have h44 := HB4.out.size
          have hm : ∀ k, k < w3.heap.size → w4.heap[k]? = w3.heap[k]? := fun k hk => by
            rw [HB4.out.block k (by simp; omega), Below.heap_alloc _ _ _ hk]
          refine ⟨_, ranges_block HRG3.out (hm _ (by omega)) (hm _ (by omega)), fun r h => ?_, fun r h1 h2 => ?_, HK3.out.trans ⟨HB4.out.os, HB4.out.tape, HB4.out.output, by simp at h44; omega, fun k hk _ => hm k hk⟩⟩
          · exact HLF.out r (by cases h0 : left (kR r) with | true => rfl | false => rw [h0] at h; simp at h)
          · rcases strike_iff.1 h2 with h2 | rfl
            · exact HDN.out r h1 h2
            · exact of_decide_eq_true HOK.out.symm
      | false =>
        have hres : decide (lat fMinus a b = []) = false := by
          rw [decide_eq_false_iff_not, lat_minus_nil ha.1 hb.1]
          intro h
          exact of_decide_eq_false HOK.out.symm (h x)
        go_wp2_with (first
          | (go_at_call 33; refine HSU.out.mono ?_; rintro e w4 ⟨v4, rfl, hb4, hd4⟩; obtain rfl := dat_bool hd4; have HB4 := Lib.hid hb4; clear hb4 hd4)
          | go_in)
        refine bodyPost_ret (results_tmp rfl _ _ _) rfl ?_
        rw [hres]
        refine ⟨rfl, below_keep (below_keep HB2.out HK3.out (fun k hk => by omega) (Nat.le_refl _)) (S := fun _ => False) ⟨HB4.out.os, HB4.out.tape, HB4.out.output, ?_, fun k hk _ => ?_⟩ (fun _ _ h => h) (Nat.le_refl _)⟩
        · have := HB4.out.size; simp at this; omega
        · rw [HB4.out.block k (by simp; omega), Below.heap_alloc _ _ _ hk]
theorem lSubset_c (a b : List En) (ha : SmV a) (hb : SmV b) : Cn Tryz.prog 15 [vp a, vp b] (.v (.bool (decide (lat fMinus a b = [])))) := by
  refine cn_memL rfl (enters_of Tryz.func15 (by kernel_rfl) rfl) fun D w vs hG hD hsz hd => ?_
  rw [arr2 hsz]
  refine (lsub_calls D a b _ _ w ha hb (dat_rdf (hd 0 _ rfl) hD ha.bd) (dat_rdf (hd 1 _ rfl) hD hb.bd) hD hG).mono ?_
  rintro e w' ⟨rfl, hbl⟩
  exact ⟨_, rfl, hbl, .v _⟩
end Go.Proofs.YtcedofkenfddkaaGreatDoor
/- From the data of a pair of numbers to its pure value. No condition. -/
namespace Go.Proofs.YtcedofkenfddkaaGreatDoor
set_option linter.unusedVariables false
set_option linter.unusedSimpArgs false
open Go.ChangeShapes Go.WideShapes Go.ChangeAt Go.RowKit Go.Deep
set_option maxRecDepth 100000
section
variable {H : Type} {enc : TypeId × Value → H} {w : World} {base : Nat} {spare : Nat → Bool} {held : Bool}
theorem opc_p {r : Reach} {b0 : Nat} {v : Value} {d : DataW H} {ps : List MemPlace} (hval : Value.okWide Tryz.prog w r b0 25 v) (h : DataW.Trod enc Tryz.prog w base spare held 25 v d ps) : ∃ p : Nat × Nat, Dat (Lies w) w v (.agg [.v (.int .u64 p.1), .v (.int .u64 p.2)]) ∧ p.1 < M64 ∧ p.2 < M64 := by
  obtain ⟨cs, rfl, hsz⟩ : ∃ cs, v = .agg cs ∧ cs.size = Tryz.prog.cellsOf 25 := by
    simp only [Value.okWide, Tryz.underlying25] at hval
    obtain ⟨cs, h1, h2, _⟩ := hval
    exact ⟨cs, h1, h2⟩
  have hC : Tryz.prog.cellsOf 25 = 2 := by kernel_rfl
  have hC1 : Tryz.prog.cellsOf 24 = 1 := by kernel_rfl
  obtain ⟨c0, c1, rfl⟩ := Go.Joins.array2 (hsz.trans hC)
  obtain ⟨fuel, hf⟩ := h
  obtain ⟨xs, m, _, _, _, hl, hx⟩ := DataW.trod_array Tryz.underlying25 hf
  have h0 := hx 0 (by omega)
  have h1 := hx 1 (by omega)
  rw [hC1] at h0 h1
  obtain ⟨y0, e0⟩ : ∃ y, xs[0]? = some y := ⟨_, List.getElem?_eq_getElem (by omega)⟩
  obtain ⟨y1, e1⟩ : ∃ y, xs[1]? = some y := ⟨_, List.getElem?_eq_getElem (by omega)⟩
  rw [e0] at h0
  rw [e1] at h1
  have k0 : DataW.trod enc Tryz.prog w base spare held m 24 [c0] = some y0 := by simpa [Value.cells] using h0
  have k1 : DataW.trod enc Tryz.prog w base spare held m 24 [c1] = some y1 := by simpa [Value.cells] using h1
  obtain ⟨a, q0, ha⟩ := trod_u64 Tryz.underlying24 k0
  obtain ⟨b, q1, hb⟩ := trod_u64 Tryz.underlying24 k1
  obtain rfl : c0 = _ := by simpa using q0
  obtain rfl : c1 = _ := by simpa using q1
  exact ⟨(a, b), agg2_dat _ _ (by simp [Value.oneCell']) (by simp [Value.oneCell']), ha, hb⟩
end
end Go.Proofs.YtcedofkenfddkaaGreatDoor
/- word.Width and word.Plus over memory. -/
namespace Go.Proofs.YtcedofkenfddkaaGreatDoor
set_option linter.unusedVariables false
set_option linter.unusedSimpArgs false
open Go.RowKit
set_option maxRecDepth 100000
theorem dat_cw {D : Nat → Nat → Prop} {w : World} {x : Value} {n : Nat} (h : Dat D w x (cw n)) : x = cwV n := by
  have h' : Dat D w x (.agg [.v (.int .u64 (n / M64 : Nat)), .v (.int .u64 (n % M64 : Nat))]) := h
  cases h' with
  | agg vs cs hs _ h =>
    obtain ⟨l⟩ := vs
    match l, hs with
    | [p, q], _ =>
      have e0 := (h 0 _ rfl).v_inv
      have e1 := (h 1 _ rfl).v_inv
      simp at e0 e1
      rw [e0, e1]
      rfl
theorem cw_dat {D : Nat → Nat → Prop} {w : World} {n : Nat} : Dat D w (cwV n) (cw n) := by
  show Dat D w (.agg #[.int .u64 (n / M64 : Nat), .int .u64 (n % M64 : Nat)]) (.agg [.v (.int .u64 (n / M64 : Nat)), .v (.int .u64 (n % M64 : Nat))])
  refine .agg _ _ rfl (fun i hi => ?_) fun i p hp => ?_
  · match i, hi with
    | 0, _ => rfl
    | 1, _ => rfl
  · match i, hp with
    | 0, hp => cases hp; exact .v _
    | 1, hp => cases hp; exact .v _
    | i + 2, hp => simp at hp
theorem width_w {C : Nat → Nat → Prop} {w : World} (hC : ∀ b o, C b o → b < w.heap.size) (hG : GL C w) {lo hi : Nat} (h1 : lo ≤ hi) (h2 : hi < M64) :
    Calls Tryz.prog 56 #[.int .u64 (lo : Nat), .int .u64 (hi : Nat)] w fun e w' => e = .returned (cwV (hi - lo + 1)) ∧ Below w.heap.size w w' := by
  refine (cn_w (width_c lo hi h1 h2) hG hC rfl (fun i p hp => ?_)).mono ?_
  · match i, hp with
    | 0, hp => cases hp; exact .v _
    | 1, hp => cases hp; exact .v _
    | i + 2, hp => simp at hp
  · rintro e w' ⟨v, rfl, hb, hd⟩
    exact ⟨by rw [dat_cw hd], hb⟩
theorem plus_w {C : Nat → Nat → Prop} {w : World} (hC : ∀ b o, C b o → b < w.heap.size) (hG : GL C w) {m n : Nat} (hm : m < M64 * M64 / 4) (hn : n < M64 * M64 / 4) :
    Calls Tryz.prog 34 #[cwV m, cwV n] w fun e w' => e = .returned (cwV (m + n)) ∧ Below w.heap.size w w' := by
  refine (cn_w (plus_c m n hm hn) hG hC rfl (fun i p hp => ?_)).mono ?_
  · match i, hp with
    | 0, hp => cases hp; exact cw_dat
    | 1, hp => cases hp; exact cw_dat
    | i + 2, hp => simp at hp
  · rintro e w' ⟨v, rfl, hb, hd⟩
    exact ⟨by rw [dat_cw hd], hb⟩
end Go.Proofs.YtcedofkenfddkaaGreatDoor
/- The contracts of lattice (Count, Add), measure.Count, kenningref10, kenningref06.Below. -/
namespace Go.Proofs.YtcedofkenfddkaaGreatDoor
set_option linter.unusedVariables false
set_option linter.unusedSimpArgs false
open Go.RowKit
set_option maxRecDepth 100000
theorem widthOk (C : Nat → Nat → Prop) : WidthOk C := fun _ _ _ hC hG h1 h2 => width_w hC hG h1 h2
theorem plusOk (C : Nat → Nat → Prop) : PlusOk C := fun _ _ _ hC hG h1 h2 => plus_w hC hG h1 h2
theorem Nrm.ivs {l : List Iv} (h : Nrm l) : ∀ t ∈ l, t.lo ≤ t.hi ∧ t.hi < M64 := fun t ht => (NF.lo_ge h t ht).2
theorem mcount_c (l : List Iv) (hn : Nrm l) (hl : l.length ≤ 1073741824) : Cn Tryz.prog 35 [rg l] (cw (card l)) := by
  refine cn_memL rfl (enters_of Tryz.func35 (by kernel_rfl) rfl) fun D w vs hG hD hsz hd => ?_
  rw [arr1' hsz]
  refine (mcount_calls D l _ w hn.ivs hl (dat_rdr (hd 0 _ rfl) hD hn.lt) hD hG (widthOk D) (plusOk D)).mono ?_
  rintro e w' ⟨rfl, hb⟩
  exact ⟨_, rfl, hb, cw_dat⟩
theorem cardV_lt {v : List En} (h : RightV v) : cardV v ≤ v.length * M64 := by
  have h1 := h.1
  clear h
  induction v with
  | nil => simp [cardV]
  | cons e v ih =>
    have h2 := card_le (kn_nrm (h1 e (by simp)))
    have h3 := ih fun f hf => h1 f (by simp [hf])
    rw [cardV, List.length_cons, Nat.succ_mul]
    omega
theorem RightV.take {v : List En} (h : RightV v) (k : Nat) : RightV (v.take k) := ⟨fun e he => h.1 e (List.mem_of_mem_take he), h.2.sublist (List.take_sublist _ _)⟩
theorem cardV_sm {v : List En} (h : SmV v) (k : Nat) : cardV (v.take k) < M64 * M64 / 4 := by
  have h1 := cardV_lt (h.1.take k)
  have h2 : (v.take k).length ≤ 1048576 := Nat.le_trans (List.length_take_le' _ _) h.2.1
  have h3 : (v.take k).length * M64 ≤ 1048576 * M64 := Nat.mul_le_mul_right _ h2
  simp only [M64_val] at *
  omega
theorem card_q {l : List Iv} (h : Nrm l) : card l < M64 * M64 / 4 := by
  have := card_le h
  simp only [M64_val] at *
  omega
theorem lcount_c (v : List En) (hv : SmV v) : Cn Tryz.prog 16 [vp v] (cw (cardV v)) := by
  have hl := hv.2.1
  refine cn_go Tryz.func16 [] 1 (by kernel_rfl) rfl (by simp [go_sem, seval]) ?_
  conv => arg 4; cbv
  conv => enter [5, 1]; cbv
  try simp (maxSteps := 2000000) (disch := omega) only [go_sem, seval]
  try repeat ((with_reducible refine And.intro ?_ ?_); focus (first | omega | assumption | exact True.intro | (show anyD _ _ = true; exact rfl) | (simp only [List.length_map, List.length_append, List.length_cons, List.length_nil, List.length_take, List.length_drop]; omega)))
  refine pLoop.go (fun k => k ≤ v.length) (fun k => [(8, .v (.int .i64 (k : Nat)))]) (fun k => [[.v (.int .u64 0), .v (.int .u64 0)], [.v (.int .u64 (cardV (v.take k) / M64 : Nat)), .v (.int .u64 (cardV (v.take k) % M64 : Nat))]]) (fun k => v.length - k) 0 [8] ?_ ?_ ?_
  · exact Nat.zero_le _
  · simp only [List.take_zero, cardV, Nat.zero_div, Nat.zero_mod]
    try simp (maxSteps := 2000000) (disch := omega) only [go_sem, seval]
    try repeat ((with_reducible refine And.intro ?_ ?_); focus (first | omega | assumption | exact True.intro | (show anyD _ _ = true; exact rfl) | (simp only [List.length_map, List.length_append, List.length_cons, List.length_nil, List.length_take, List.length_drop]; omega)))
  · rintro k hk
    try simp (maxSteps := 2000000) (disch := omega) only [go_sem, seval]
    try repeat ((with_reducible refine And.intro ?_ ?_); focus (first | omega | assumption | exact True.intro | (show anyD _ _ = true; exact rfl) | (simp only [List.length_map, List.length_append, List.length_cons, List.length_nil, List.length_take, List.length_drop]; omega)))
    (first | refine brP.mk (fun h => ?_) (fun h => ?_) | refine gdP.mkt (fun h => ?_) (fun h => ?_) | refine gdP.mkf (fun h => ?_) (fun h => ?_) | refine pkP.mk (fun h => ?_) (fun h => ?_)) <;> (try simp only [Bool.not_true, Bool.not_false, decide_eq_true_eq, decide_eq_false_iff_not, Bool.and_eq_true, Bool.or_eq_true, Bool.not_eq_true', Bool.not_eq_false', Bool.and_eq_false_iff, Bool.or_eq_false_iff, Nat.not_lt, Int.not_lt, Nat.not_le, Int.not_le, Int.ofNat_lt, Int.ofNat_le, Int.ofNat_inj, Bool.xor_false, Bool.false_xor, Bool.true_xor, Bool.xor_true] at h) <;> (try simp (maxSteps := 2000000) (disch := omega) only [go_sem, seval]) <;> (try repeat ((with_reducible refine And.intro ?_ ?_); focus (first | omega | assumption | exact True.intro | (show anyD _ _ = true; exact rfl) | (simp only [List.length_map, List.length_append, List.length_cons, List.length_nil, List.length_take, List.length_drop]; omega))))
    · have hh := hv.2.2 _ (List.getElem_mem h)
      have hr := hv.1.1 _ (List.getElem_mem h)
      have l1 := kn_length v[k]
      (first | refine callP.mk (eknown_c v[k] hr (by omega)) rfl ?_ | refine callQ.mk (eknown_c v[k] hr (by omega)) rfl ?_ | refine callO.rd (eknown_c v[k] hr (by omega)) rfl ?_ | refine callO.mk (eknown_c v[k] hr (by omega)) rfl ?_)
      try simp (maxSteps := 2000000) (disch := omega) only [go_sem, seval]
      try repeat ((with_reducible refine And.intro ?_ ?_); focus (first | omega | assumption | exact True.intro | (show anyD _ _ = true; exact rfl) | (simp only [List.length_map, List.length_append, List.length_cons, List.length_nil, List.length_take, List.length_drop]; omega)))
      (first | refine callP.mk (mcount_c (kn v[k]) (kn_nrm hr) (by omega)) rfl ?_ | refine callQ.mk (mcount_c (kn v[k]) (kn_nrm hr) (by omega)) rfl ?_ | refine callO.rd (mcount_c (kn v[k]) (kn_nrm hr) (by omega)) rfl ?_ | refine callO.mk (mcount_c (kn v[k]) (kn_nrm hr) (by omega)) rfl ?_)
      try simp (maxSteps := 2000000) (disch := omega) only [go_sem, seval]
      try repeat ((with_reducible refine And.intro ?_ ?_); focus (first | omega | assumption | exact True.intro | (show anyD _ _ = true; exact rfl) | (simp only [List.length_map, List.length_append, List.length_cons, List.length_nil, List.length_take, List.length_drop]; omega)))
      (first | refine callP.mk (plus_c (cardV (v.take k)) (card (kn v[k])) (cardV_sm hv k) (card_q (kn_nrm hr))) rfl ?_ | refine callQ.mk (plus_c (cardV (v.take k)) (card (kn v[k])) (cardV_sm hv k) (card_q (kn_nrm hr))) rfl ?_ | refine callO.rd (plus_c (cardV (v.take k)) (card (kn v[k])) (cardV_sm hv k) (card_q (kn_nrm hr))) rfl ?_ | refine callO.mk (plus_c (cardV (v.take k)) (card (kn v[k])) (cardV_sm hv k) (card_q (kn_nrm hr))) rfl ?_)
      try simp (maxSteps := 2000000) (disch := omega) only [go_sem, seval]
      try repeat ((with_reducible refine And.intro ?_ ?_); focus (first | omega | assumption | exact True.intro | (show anyD _ _ = true; exact rfl) | (simp only [List.length_map, List.length_append, List.length_cons, List.length_nil, List.length_take, List.length_drop]; omega)))
      exact ⟨k + 1, h, by omega, rfl, by rw [cardV_take h], by rw [cardV_take h]⟩
    · rw [show k = v.length by omega, List.take_length]
theorem oneV_sm {r c : Nat} (hr : r < M64) (hc : c < M64) : SmV (oneV r c) := by
  have h := oneV_bv hr hc
  exact ⟨h.1, by have := h.2.1; omega, fun e he => by have := h.2.2 e he; omega⟩
theorem lAdd_c (v : List En) (r c : Nat) (hv : SmV v) (hr : r < M64) (hc : c < M64) : Cn Tryz.prog 17 [vp v, .v (.int .u64 r), .v (.int .u64 c)] (vp (lat fUnion v (oneV r c))) := by
  have h := lUnion_c v (oneV r c) hv (oneV_sm hr hc)
  refine cn_go Tryz.func17 [] 3 (by kernel_rfl) rfl (by simp [go_sem, seval]) ?_
  conv => arg 4; cbv
  conv => enter [5, 1]; cbv
  try simp (maxSteps := 2000000) (disch := omega) only [go_sem, seval]
  try repeat ((with_reducible refine And.intro ?_ ?_); focus (first | omega | assumption | exact True.intro | (show anyD _ _ = true; exact rfl) | (simp only [List.length_map, List.length_append, List.length_cons, List.length_nil, List.length_take, List.length_drop]; omega)))
  (first | refine callP.mk (eof_c r [⟨c, c⟩] (oneC_nrm hc) (by simp)) rfl ?_ | refine callQ.mk (eof_c r [⟨c, c⟩] (oneC_nrm hc) (by simp)) rfl ?_ | refine callO.rd (eof_c r [⟨c, c⟩] (oneC_nrm hc) (by simp)) rfl ?_ | refine callO.mk (eof_c r [⟨c, c⟩] (oneC_nrm hc) (by simp)) rfl ?_)
  try simp (maxSteps := 2000000) (disch := omega) only [go_sem, seval]
  try repeat ((with_reducible refine And.intro ?_ ?_); focus (first | omega | assumption | exact True.intro | (show anyD _ _ = true; exact rfl) | (simp only [List.length_map, List.length_append, List.length_cons, List.length_nil, List.length_take, List.length_drop]; omega)))
  (first | refine callP.mk (h) rfl ?_ | refine callQ.mk (h) rfl ?_ | refine callO.rd (h) rfl ?_ | refine callO.mk (h) rfl ?_)
  try simp (maxSteps := 2000000) (disch := omega) only [go_sem, seval]
  try repeat ((with_reducible refine And.intro ?_ ?_); focus (first | omega | assumption | exact True.intro | (show anyD _ _ = true; exact rfl) | (simp only [List.length_map, List.length_append, List.length_cons, List.length_nil, List.length_take, List.length_drop]; omega)))
/-- Vectors that are handed over together. -/
def vps (vs : List (List En)) : PV := .sl (vs.map fun v => [vp v]) .sh
attribute [go_sem] vps
def okV (v : List En) : Bool := fewB v && decide ((chkV v).1 = 0)
theorem all_drop {α : Type} {p : α → Bool} {l : List α} {k : Nat} (h : k < l.length) : (l.drop k).all p = (p l[k] && (l.drop (k + 1)).all p) := by
  rw [List.drop_eq_getElem_cons h]; rfl
theorem right10_c (ls : List (List En)) (h1 : ls.length ≤ 1048576) (hb : ∀ v ∈ ls, BdV v) : Cn Tryz.prog 4 [vps ls] (.v (.bool (ls.all okV))) := by
  refine cn_go Tryz.func4 [] 1 (by kernel_rfl) rfl (by simp [go_sem, seval]) ?_
  conv => arg 4; cbv
  conv => enter [5, 1]; cbv
  try simp (maxSteps := 2000000) (disch := omega) only [go_sem, seval]
  try repeat ((with_reducible refine And.intro ?_ ?_); focus (first | omega | assumption | exact True.intro | (show anyD _ _ = true; exact rfl) | (simp only [List.length_map, List.length_append, List.length_cons, List.length_nil, List.length_take, List.length_drop]; omega)))
  refine pLoop.go (fun k => k ≤ ls.length ∧ ls.all okV = (ls.drop k).all okV) (fun k => [(7, .v (.int .i64 (k : Nat)))]) (fun _ => []) (fun k => ls.length - k) 0 [7] ?_ ?_ ?_
  · exact ⟨Nat.zero_le _, rfl⟩
  · try simp (maxSteps := 2000000) (disch := omega) only [go_sem, seval]
    try repeat ((with_reducible refine And.intro ?_ ?_); focus (first | omega | assumption | exact True.intro | (show anyD _ _ = true; exact rfl) | (simp only [List.length_map, List.length_append, List.length_cons, List.length_nil, List.length_take, List.length_drop]; omega)))
  · rintro k ⟨hk, hm⟩
    try simp (maxSteps := 2000000) (disch := omega) only [go_sem, seval]
    try repeat ((with_reducible refine And.intro ?_ ?_); focus (first | omega | assumption | exact True.intro | (show anyD _ _ = true; exact rfl) | (simp only [List.length_map, List.length_append, List.length_cons, List.length_nil, List.length_take, List.length_drop]; omega)))
    (first | refine brP.mk (fun h => ?_) (fun h => ?_) | refine gdP.mkt (fun h => ?_) (fun h => ?_) | refine gdP.mkf (fun h => ?_) (fun h => ?_) | refine pkP.mk (fun h => ?_) (fun h => ?_)) <;> (try simp only [Bool.not_true, Bool.not_false, decide_eq_true_eq, decide_eq_false_iff_not, Bool.and_eq_true, Bool.or_eq_true, Bool.not_eq_true', Bool.not_eq_false', Bool.and_eq_false_iff, Bool.or_eq_false_iff, Nat.not_lt, Int.not_lt, Nat.not_le, Int.not_le, Int.ofNat_lt, Int.ofNat_le, Int.ofNat_inj, Bool.xor_false, Bool.false_xor, Bool.true_xor, Bool.xor_true] at h) <;> (try simp (maxSteps := 2000000) (disch := omega) only [go_sem, seval]) <;> (try repeat ((with_reducible refine And.intro ?_ ?_); focus (first | omega | assumption | exact True.intro | (show anyD _ _ = true; exact rfl) | (simp only [List.length_map, List.length_append, List.length_cons, List.length_nil, List.length_take, List.length_drop]; omega))))
    · rw [all_drop h] at hm
      have hbk := hb _ (List.getElem_mem h)
      (first | refine callP.mk (few_c ls[k] hbk.2) rfl ?_ | refine callQ.mk (few_c ls[k] hbk.2) rfl ?_ | refine callO.rd (few_c ls[k] hbk.2) rfl ?_ | refine callO.mk (few_c ls[k] hbk.2) rfl ?_)
      try simp (maxSteps := 2000000) (disch := omega) only [go_sem, seval]
      try repeat ((with_reducible refine And.intro ?_ ?_); focus (first | omega | assumption | exact True.intro | (show anyD _ _ = true; exact rfl) | (simp only [List.length_map, List.length_append, List.length_cons, List.length_nil, List.length_take, List.length_drop]; omega)))
      (first | refine brP.mk (fun h2 => ?_) (fun h2 => ?_) | refine gdP.mkt (fun h2 => ?_) (fun h2 => ?_) | refine gdP.mkf (fun h2 => ?_) (fun h2 => ?_) | refine pkP.mk (fun h2 => ?_) (fun h2 => ?_)) <;> (try simp only [Bool.not_true, Bool.not_false, decide_eq_true_eq, decide_eq_false_iff_not, Bool.and_eq_true, Bool.or_eq_true, Bool.not_eq_true', Bool.not_eq_false', Bool.and_eq_false_iff, Bool.or_eq_false_iff, Nat.not_lt, Int.not_lt, Nat.not_le, Int.not_le, Int.ofNat_lt, Int.ofNat_le, Int.ofNat_inj, Bool.xor_false, Bool.false_xor, Bool.true_xor, Bool.xor_true] at h2) <;> (try simp (maxSteps := 2000000) (disch := omega) only [go_sem, seval]) <;> (try repeat ((with_reducible refine And.intro ?_ ?_); focus (first | omega | assumption | exact True.intro | (show anyD _ _ = true; exact rfl) | (simp only [List.length_map, List.length_append, List.length_cons, List.length_nil, List.length_take, List.length_drop]; omega))))
      · rw [hm]
        simp [okV, h2]
      · obtain ⟨hl, hh⟩ := few_bd h2
        (first | refine callP.mk (rightV_c ls[k] hbk.1 hl hh) rfl ?_ | refine callQ.mk (rightV_c ls[k] hbk.1 hl hh) rfl ?_ | refine callO.rd (rightV_c ls[k] hbk.1 hl hh) rfl ?_ | refine callO.mk (rightV_c ls[k] hbk.1 hl hh) rfl ?_)
        try simp (maxSteps := 2000000) (disch := omega) only [go_sem, seval]
        try repeat ((with_reducible refine And.intro ?_ ?_); focus (first | omega | assumption | exact True.intro | (show anyD _ _ = true; exact rfl) | (simp only [List.length_map, List.length_append, List.length_cons, List.length_nil, List.length_take, List.length_drop]; omega)))
        (first | refine brP.mk (fun h3 => ?_) (fun h3 => ?_) | refine gdP.mkt (fun h3 => ?_) (fun h3 => ?_) | refine gdP.mkf (fun h3 => ?_) (fun h3 => ?_) | refine pkP.mk (fun h3 => ?_) (fun h3 => ?_)) <;> (try simp only [Bool.not_true, Bool.not_false, decide_eq_true_eq, decide_eq_false_iff_not, Bool.and_eq_true, Bool.or_eq_true, Bool.not_eq_true', Bool.not_eq_false', Bool.and_eq_false_iff, Bool.or_eq_false_iff, Nat.not_lt, Int.not_lt, Nat.not_le, Int.not_le, Int.ofNat_lt, Int.ofNat_le, Int.ofNat_inj, Bool.xor_false, Bool.false_xor, Bool.true_xor, Bool.xor_true] at h3) <;> (try simp (maxSteps := 2000000) (disch := omega) only [go_sem, seval]) <;> (try repeat ((with_reducible refine And.intro ?_ ?_); focus (first | omega | assumption | exact True.intro | (show anyD _ _ = true; exact rfl) | (simp only [List.length_map, List.length_append, List.length_cons, List.length_nil, List.length_take, List.length_drop]; omega))))
        · rw [hm]
          simp [okV, h3]
        · refine ⟨k + 1, ⟨h, ?_⟩, by omega, rfl⟩
          rw [hm]
          simp [okV, h2, h3]
    · rw [List.drop_of_length_le (by omega)] at hm
      rw [hm]
      rfl
end Go.Proofs.YtcedofkenfddkaaGreatDoor
/- The laws of chapter 10: they return true. -/
namespace Go.Proofs.YtcedofkenfddkaaGreatDoor
set_option linter.unusedVariables false
set_option linter.unusedSimpArgs false
open Go.RowKit
set_option maxRecDepth 100000
theorem opS_r0 {x : List Iv} (hx : Nrm x) : opS fUnion x [] = x := opS_eq hx trivial hx fun t _ => by simp [fUnion]
theorem opS_0u {x : List Iv} (hx : Nrm x) : opS fUnion [] x = x := opS_eq (a := []) trivial hx hx fun t _ => by simp [fUnion]
theorem opS_m0 {x : List Iv} (hx : Nrm x) : opS fMeet x [] = [] := opS_eq hx trivial trivial fun t _ => by simp [fMeet]
theorem opS_0m {x : List Iv} (hx : Nrm x) : opS fMeet [] x = [] := opS_eq (a := []) trivial hx trivial fun t _ => by simp [fMeet]
theorem opS_d0 {x : List Iv} (hx : Nrm x) : opS fMinus x [] = x := opS_eq hx trivial hx fun t _ => by simp [fMinus]
theorem opS_dd {x : List Iv} (hx : Nrm x) : opS fMinus x x = [] := opS_eq hx hx trivial fun t _ => by simp [fMinus]
theorem kn0 (r m : Nat) (hm : m < M64) : kn ⟨r, m, []⟩ = [⟨0, m⟩] := opS_d0 (nrm_one (Nat.zero_le _) hm)
def a10 : List En := [⟨1, 4, []⟩]
def b10 : List En := [⟨2, 3, []⟩]
def u10 : List En := [⟨1, 4, []⟩, ⟨2, 3, []⟩]
def c10 : List En := [⟨3, 0, []⟩]
theorem a10_can : CanV a10 := ⟨by simp [a10, CanE, RightE, M64_val, Nrm, NF], by simp [a10]⟩
theorem b10_can : CanV b10 := ⟨by simp [b10, CanE, RightE, M64_val, Nrm, NF], by simp [b10]⟩
theorem u10_can : CanV u10 := ⟨by simp [u10, CanE, RightE, M64_val, Nrm, NF], by simp [u10]⟩
theorem c10_can : CanV c10 := ⟨by simp [c10, CanE, RightE, M64_val, Nrm, NF], by simp [c10]⟩
theorem n04 : Nrm [⟨0, 4⟩] := nrm_one (Nat.zero_le _) (by rw [M64_val]; omega)
theorem n03 : Nrm [⟨0, 3⟩] := nrm_one (Nat.zero_le _) (by rw [M64_val]; omega)
theorem kn1 (r : Nat) : kn ⟨r, 4, []⟩ = [⟨0, 4⟩] := kn0 _ _ (by rw [M64_val]; omega)
theorem kn2 (r : Nat) : kn ⟨r, 3, []⟩ = [⟨0, 3⟩] := kn0 _ _ (by rw [M64_val]; omega)
theorem kva (r : Nat) : knV a10 r = if 1 = r then [⟨0, 4⟩] else [] := by simp only [a10, knV_cons, kn1, knV_nil]
theorem kvb (r : Nat) : knV b10 r = if 2 = r then [⟨0, 3⟩] else [] := by simp only [b10, knV_cons, kn2, knV_nil]
theorem kvu (r : Nat) : knV u10 r = if 1 = r then [⟨0, 4⟩] else if 2 = r then [⟨0, 3⟩] else [] := by simp only [u10, knV_cons, kn1, kn2, knV_nil]
theorem l10u : lat fUnion a10 b10 = u10 := lat_eq fU0 a10_can.right b10_can.right u10_can fun r => by
  rw [kva, kvb, kvu]
  by_cases h1 : 1 = r
  · rw [if_pos h1, if_pos h1, if_neg (by omega), opS_r0 n04]
  · rw [if_neg h1, if_neg h1]
    by_cases h2 : 2 = r
    · rw [if_pos h2, opS_0u n03]
    · rw [if_neg h2, opS_none fU0]
theorem l10m : lat fMeet a10 b10 = [] := lat_eq fI0 a10_can.right b10_can.right ⟨fun e h => (by cases h), List.Pairwise.nil⟩ fun r => by
  rw [kva, kvb, knV_nil]
  by_cases h1 : 1 = r
  · rw [if_pos h1, if_neg (by omega), opS_m0 n04]
  · rw [if_neg h1]
    by_cases h2 : 2 = r
    · rw [if_pos h2, opS_0m n03]
    · rw [if_neg h2, opS_none fI0]
theorem l10d : lat fMinus u10 a10 = b10 := lat_eq fM0 u10_can.right a10_can.right b10_can fun r => by
  rw [kva, kvb, kvu]
  by_cases h1 : 1 = r
  · rw [if_pos h1, if_pos h1, if_neg (by omega), opS_dd n04]
  · rw [if_neg h1, if_neg h1]
    by_cases h2 : 2 = r
    · rw [if_pos h2, opS_d0 n03]
    · rw [if_neg h2, opS_none fM0]
theorem l10s : lat fMinus a10 u10 = [] := by rw [← l10u]; exact sub_union a10_can.right b10_can.right
theorem one30 : oneV 3 0 = c10 := by
  have h := opS_dd (x := [⟨0, 0⟩]) (nrm_one (Nat.zero_le _) M64_pos)
  unfold oneV
  rw [ofS_cons (by simp), show top [⟨0, 0⟩] = 0 from rfl, h]
  rfl
theorem nil_can : CanV [] := ⟨fun e h => (by cases h), List.Pairwise.nil⟩
theorem l10c : lat fUnion [] (oneV 3 0) = c10 := by
  rw [one30]
  exact lat_eq fU0 nil_can.right c10_can.right c10_can fun r => by rw [knV_nil, opS_0u (knV_nrm c10_can.right r)]
theorem nil_sm : SmV [] := ⟨nil_can.right, by simp, by simp⟩
theorem sm_of {v : List En} (h : CanV v) (h1 : v.length ≤ 1048576) (h2 : ∀ e ∈ v, e.holes.length ≤ 10000) : SmV v := ⟨h.right, h1, h2⟩
theorem a10_sm : SmV a10 := sm_of a10_can (by decide) (by simp [a10])
theorem b10_sm : SmV b10 := sm_of b10_can (by decide) (by simp [b10])
theorem u10_sm : SmV u10 := sm_of u10_can (by decide) (by simp [u10])
theorem card10 : cardV u10 = 9 := by simp [u10, cardV, kn1, kn2, card]
set_option maxHeartbeats 2000000 in
theorem alive10_c : Cn Tryz.prog 5 [] (.v (.bool true)) := by
  have hM := M64_val
  refine cn_go Tryz.func5 [] 0 (by kernel_rfl) rfl (by simp [go_sem, seval]) ?_
  conv => arg 4; cbv
  conv => enter [5, 1]; cbv
  try simp (maxSteps := 2000000) (disch := omega) only [go_sem, seval]
  try repeat ((with_reducible refine And.intro ?_ ?_); focus (first | omega | assumption | exact True.intro | (show anyD _ _ = true; exact rfl) | (simp only [List.length_map, List.length_append, List.length_cons, List.length_nil, List.length_take, List.length_drop]; omega)))
  (first | refine callP.mk (lUnion_c a10 b10 a10_sm b10_sm) rfl ?_ | refine callQ.mk (lUnion_c a10 b10 a10_sm b10_sm) rfl ?_ | refine callO.rd (lUnion_c a10 b10 a10_sm b10_sm) rfl ?_ | refine callO.mk (lUnion_c a10 b10 a10_sm b10_sm) rfl ?_)
  rw [l10u]
  try simp (maxSteps := 2000000) (disch := omega) only [go_sem, seval]
  try repeat ((with_reducible refine And.intro ?_ ?_); focus (first | omega | assumption | exact True.intro | (show anyD _ _ = true; exact rfl) | (simp only [List.length_map, List.length_append, List.length_cons, List.length_nil, List.length_take, List.length_drop]; omega)))
  (first | refine callP.mk (sameV_c u10 u10 (by decide) (by simp [u10])) rfl ?_ | refine callQ.mk (sameV_c u10 u10 (by decide) (by simp [u10])) rfl ?_ | refine callO.rd (sameV_c u10 u10 (by decide) (by simp [u10])) rfl ?_ | refine callO.mk (sameV_c u10 u10 (by decide) (by simp [u10])) rfl ?_)
  try simp (maxSteps := 2000000) (disch := omega) only [go_sem, seval]
  try repeat ((with_reducible refine And.intro ?_ ?_); focus (first | omega | assumption | exact True.intro | (show anyD _ _ = true; exact rfl) | (simp only [List.length_map, List.length_append, List.length_cons, List.length_nil, List.length_take, List.length_drop]; omega)))
  (first | refine callP.mk (lMeet_c a10 b10 a10_sm b10_sm) rfl ?_ | refine callQ.mk (lMeet_c a10 b10 a10_sm b10_sm) rfl ?_ | refine callO.rd (lMeet_c a10 b10 a10_sm b10_sm) rfl ?_ | refine callO.mk (lMeet_c a10 b10 a10_sm b10_sm) rfl ?_)
  rw [l10m]
  try simp (maxSteps := 2000000) (disch := omega) only [go_sem, seval]
  try repeat ((with_reducible refine And.intro ?_ ?_); focus (first | omega | assumption | exact True.intro | (show anyD _ _ = true; exact rfl) | (simp only [List.length_map, List.length_append, List.length_cons, List.length_nil, List.length_take, List.length_drop]; omega)))
  (first | refine callP.mk (lMinus_c u10 a10 u10_sm a10_sm) rfl ?_ | refine callQ.mk (lMinus_c u10 a10 u10_sm a10_sm) rfl ?_ | refine callO.rd (lMinus_c u10 a10 u10_sm a10_sm) rfl ?_ | refine callO.mk (lMinus_c u10 a10 u10_sm a10_sm) rfl ?_)
  rw [l10d]
  try simp (maxSteps := 2000000) (disch := omega) only [go_sem, seval]
  try repeat ((with_reducible refine And.intro ?_ ?_); focus (first | omega | assumption | exact True.intro | (show anyD _ _ = true; exact rfl) | (simp only [List.length_map, List.length_append, List.length_cons, List.length_nil, List.length_take, List.length_drop]; omega)))
  (first | refine callP.mk (sameV_c b10 b10 (by decide) (by simp [b10])) rfl ?_ | refine callQ.mk (sameV_c b10 b10 (by decide) (by simp [b10])) rfl ?_ | refine callO.rd (sameV_c b10 b10 (by decide) (by simp [b10])) rfl ?_ | refine callO.mk (sameV_c b10 b10 (by decide) (by simp [b10])) rfl ?_)
  try simp (maxSteps := 2000000) (disch := omega) only [go_sem, seval]
  try repeat ((with_reducible refine And.intro ?_ ?_); focus (first | omega | assumption | exact True.intro | (show anyD _ _ = true; exact rfl) | (simp only [List.length_map, List.length_append, List.length_cons, List.length_nil, List.length_take, List.length_drop]; omega)))
  (first | refine callP.mk (lSubset_c a10 u10 a10_sm u10_sm) rfl ?_ | refine callQ.mk (lSubset_c a10 u10 a10_sm u10_sm) rfl ?_ | refine callO.rd (lSubset_c a10 u10 a10_sm u10_sm) rfl ?_ | refine callO.mk (lSubset_c a10 u10 a10_sm u10_sm) rfl ?_)
  rw [l10s]
  try simp (maxSteps := 2000000) (disch := omega) only [go_sem, seval]
  try repeat ((with_reducible refine And.intro ?_ ?_); focus (first | omega | assumption | exact True.intro | (show anyD _ _ = true; exact rfl) | (simp only [List.length_map, List.length_append, List.length_cons, List.length_nil, List.length_take, List.length_drop]; omega)))
  (first | refine callP.mk (lSubset_c u10 a10 u10_sm a10_sm) rfl ?_ | refine callQ.mk (lSubset_c u10 a10 u10_sm a10_sm) rfl ?_ | refine callO.rd (lSubset_c u10 a10 u10_sm a10_sm) rfl ?_ | refine callO.mk (lSubset_c u10 a10 u10_sm a10_sm) rfl ?_)
  rw [l10d, show decide (b10 = []) = false by decide]
  try simp (maxSteps := 2000000) (disch := omega) only [go_sem, seval]
  try repeat ((with_reducible refine And.intro ?_ ?_); focus (first | omega | assumption | exact True.intro | (show anyD _ _ = true; exact rfl) | (simp only [List.length_map, List.length_append, List.length_cons, List.length_nil, List.length_take, List.length_drop]; omega)))
  (first | refine callP.mk (lcount_c u10 u10_sm) rfl ?_ | refine callQ.mk (lcount_c u10 u10_sm) rfl ?_ | refine callO.rd (lcount_c u10 u10_sm) rfl ?_ | refine callO.mk (lcount_c u10 u10_sm) rfl ?_)
  rw [card10, show cw 9 = cp2 0 9 by simp [cw, M64_val]]
  try simp (maxSteps := 2000000) (disch := omega) only [go_sem, seval]
  try repeat ((with_reducible refine And.intro ?_ ?_); focus (first | omega | assumption | exact True.intro | (show anyD _ _ = true; exact rfl) | (simp only [List.length_map, List.length_append, List.length_cons, List.length_nil, List.length_take, List.length_drop]; omega)))
  (first | refine callP.mk (lAdd_c [] 3 0 nil_sm (by omega) (by omega)) rfl ?_ | refine callQ.mk (lAdd_c [] 3 0 nil_sm (by omega) (by omega)) rfl ?_ | refine callO.rd (lAdd_c [] 3 0 nil_sm (by omega) (by omega)) rfl ?_ | refine callO.mk (lAdd_c [] 3 0 nil_sm (by omega) (by omega)) rfl ?_)
  rw [l10c]
  try simp (maxSteps := 2000000) (disch := omega) only [go_sem, seval]
  try repeat ((with_reducible refine And.intro ?_ ?_); focus (first | omega | assumption | exact True.intro | (show anyD _ _ = true; exact rfl) | (simp only [List.length_map, List.length_append, List.length_cons, List.length_nil, List.length_take, List.length_drop]; omega)))
  (first | refine callP.mk (sameV_c c10 c10 (by decide) (by simp [c10])) rfl ?_ | refine callQ.mk (sameV_c c10 c10 (by decide) (by simp [c10])) rfl ?_ | refine callO.rd (sameV_c c10 c10 (by decide) (by simp [c10])) rfl ?_ | refine callO.mk (sameV_c c10 c10 (by decide) (by simp [c10])) rfl ?_)
  try simp (maxSteps := 2000000) (disch := omega) only [go_sem, seval]
  try repeat ((with_reducible refine And.intro ?_ ?_); focus (first | omega | assumption | exact True.intro | (show anyD _ _ = true; exact rfl) | (simp only [List.length_map, List.length_append, List.length_cons, List.length_nil, List.length_take, List.length_drop]; omega)))
/-- What a law knows of a vector. -/
theorem okV_get {v : List En} (h : okV v = true) (hb : BdV v) : BV 20 30 v := by
  unfold okV at h
  simp only [Bool.and_eq_true, decide_eq_true_eq] at h
  have g := fewB_iff.1 h.1
  exact ⟨(chkV_iff hb.1).1 h.2, g.2, g.1⟩
theorem BV.sm {n h : Nat} {v : List En} (hv : BV n h v) (h1 : n ≤ 1048576) (h2 : h ≤ 10000) : SmV v := ⟨hv.1, by have := hv.2.1; omega, fun e he => by have := hv.2.2 e he; omega⟩
theorem all2 {a b : List En} (ha : BdV a) (hb : BdV b) : ∀ v ∈ [a, b], BdV v := by
  intro v hv
  simp at hv
  rcases hv with rfl | rfl <;> assumption
end Go.Proofs.YtcedofkenfddkaaGreatDoor
/- LatticeDenotes: it returns true. -/
namespace Go.Proofs.YtcedofkenfddkaaGreatDoor
set_option linter.unusedVariables false
set_option linter.unusedSimpArgs false
open Go.RowKit
set_option maxRecDepth 100000
set_option maxHeartbeats 4000000 in
theorem latDenotes_c (a b : List En) (p : Nat × Nat) (ha : BdV a) (hb : BdV b) (hp : p.1 < M64 ∧ p.2 < M64) : Cn Tryz.prog 3 [vp a, vp b, .agg [.v (.int .u64 p.1), .v (.int .u64 p.2)]] (.v (.bool true)) := by
  obtain ⟨r, c⟩ := p
  obtain ⟨hr, hc⟩ := hp
  simp only at hr hc ⊢
  refine cn_go Tryz.func3 [] 3 (by kernel_rfl) rfl (by simp [go_sem, seval]) ?_
  conv => arg 4; cbv
  conv => enter [5, 1]; cbv
  try simp (maxSteps := 2000000) (disch := omega) only [go_sem, seval]
  try repeat ((with_reducible refine And.intro ?_ ?_); focus (first | omega | assumption | exact True.intro | (show anyD _ _ = true; exact rfl) | (simp only [List.length_map, List.length_append, List.length_cons, List.length_nil, List.length_take, List.length_drop]; omega)))
  (first | refine callP.mk (right10_c [a, b] (by simp) (all2 ha hb)) rfl ?_ | refine callQ.mk (right10_c [a, b] (by simp) (all2 ha hb)) rfl ?_ | refine callO.rd (right10_c [a, b] (by simp) (all2 ha hb)) rfl ?_ | refine callO.mk (right10_c [a, b] (by simp) (all2 ha hb)) rfl ?_)
  try simp (maxSteps := 2000000) (disch := omega) only [go_sem, seval]
  try repeat ((with_reducible refine And.intro ?_ ?_); focus (first | omega | assumption | exact True.intro | (show anyD _ _ = true; exact rfl) | (simp only [List.length_map, List.length_append, List.length_cons, List.length_nil, List.length_take, List.length_drop]; omega)))
  (first | refine brP.mk (fun h => ?_) (fun h => ?_) | refine gdP.mkt (fun h => ?_) (fun h => ?_) | refine gdP.mkf (fun h => ?_) (fun h => ?_) | refine pkP.mk (fun h => ?_) (fun h => ?_)) <;> (try simp only [Bool.not_true, Bool.not_false, decide_eq_true_eq, decide_eq_false_iff_not, Bool.and_eq_true, Bool.or_eq_true, Bool.not_eq_true', Bool.not_eq_false', Bool.and_eq_false_iff, Bool.or_eq_false_iff, Nat.not_lt, Int.not_lt, Nat.not_le, Int.not_le, Int.ofNat_lt, Int.ofNat_le, Int.ofNat_inj, Bool.xor_false, Bool.false_xor, Bool.true_xor, Bool.xor_true] at h) <;> (try simp (maxSteps := 2000000) (disch := omega) only [go_sem, seval]) <;> (try repeat ((with_reducible refine And.intro ?_ ?_); focus (first | omega | assumption | exact True.intro | (show anyD _ _ = true; exact rfl) | (simp only [List.length_map, List.length_append, List.length_cons, List.length_nil, List.length_take, List.length_drop]; omega))))
  · (first | refine callP.mk (alive10_c) rfl ?_ | refine callQ.mk (alive10_c) rfl ?_ | refine callO.rd (alive10_c) rfl ?_ | refine callO.mk (alive10_c) rfl ?_)
    try simp (maxSteps := 2000000) (disch := omega) only [go_sem, seval]
    try repeat ((with_reducible refine And.intro ?_ ?_); focus (first | omega | assumption | exact True.intro | (show anyD _ _ = true; exact rfl) | (simp only [List.length_map, List.length_append, List.length_cons, List.length_nil, List.length_take, List.length_drop]; omega)))
  · have h : okV a = true ∧ okV b = true := by simpa using h
    have va := okV_get h.1 ha
    have vb := okV_get h.2 hb
    have sa := va.sm (by omega) (by omega)
    have sb := vb.sm (by omega) (by omega)
    have vu := lat_bv (f := fUnion) va vb
    have vm := lat_bv (f := fMeet) va vb
    have vd := lat_bv (f := fMinus) va vb
    have su := vu.sm (by omega) (by omega)
    have sm := vm.sm (by omega) (by omega)
    have sd := vd.sm (by omega) (by omega)
    have ku := lat_can fUnion va.1 vb.1
    have km := lat_can fMeet va.1 vb.1
    have kd := lat_can fMinus va.1 vb.1
    have cu := (canVB_iff ku.bd).2 ku
    have cm := (canVB_iff km.bd).2 km
    have cd := (canVB_iff kd.bd).2 kd
    have g : ∀ {v : List En}, SmV v → v.length ≤ 1152921504606846976 ∧ ∀ e ∈ v, e.holes.length ≤ 1152921504606846976 := fun h => ⟨by have := h.2.1; omega, fun e he => by have := h.2.2 e he; omega⟩
    have eu : mem (knV (lat fUnion a b) r) c = (mem (knV a r) c || mem (knV b r) c) := by rw [lat_kn fU0 va.1 vb.1, opS_mem (knV_nrm va.1 r) (knV_nrm vb.1 r) hc]; rfl
    have em : mem (knV (lat fMeet a b) r) c = (mem (knV a r) c && mem (knV b r) c) := by rw [lat_kn fI0 va.1 vb.1, opS_mem (knV_nrm va.1 r) (knV_nrm vb.1 r) hc]; rfl
    have ed : mem (knV (lat fMinus a b) r) c = (mem (knV a r) c && !mem (knV b r) c) := by rw [lat_kn fM0 va.1 vb.1, opS_mem (knV_nrm va.1 r) (knV_nrm vb.1 r) hc]; rfl
    (first | refine callP.mk (lUnion_c a b sa sb) rfl ?_ | refine callQ.mk (lUnion_c a b sa sb) rfl ?_ | refine callO.rd (lUnion_c a b sa sb) rfl ?_ | refine callO.mk (lUnion_c a b sa sb) rfl ?_)
    try simp (maxSteps := 2000000) (disch := omega) only [go_sem, seval]
    try repeat ((with_reducible refine And.intro ?_ ?_); focus (first | omega | assumption | exact True.intro | (show anyD _ _ = true; exact rfl) | (simp only [List.length_map, List.length_append, List.length_cons, List.length_nil, List.length_take, List.length_drop]; omega)))
    (first | refine callP.mk (lMeet_c a b sa sb) rfl ?_ | refine callQ.mk (lMeet_c a b sa sb) rfl ?_ | refine callO.rd (lMeet_c a b sa sb) rfl ?_ | refine callO.mk (lMeet_c a b sa sb) rfl ?_)
    try simp (maxSteps := 2000000) (disch := omega) only [go_sem, seval]
    try repeat ((with_reducible refine And.intro ?_ ?_); focus (first | omega | assumption | exact True.intro | (show anyD _ _ = true; exact rfl) | (simp only [List.length_map, List.length_append, List.length_cons, List.length_nil, List.length_take, List.length_drop]; omega)))
    (first | refine callP.mk (lMinus_c a b sa sb) rfl ?_ | refine callQ.mk (lMinus_c a b sa sb) rfl ?_ | refine callO.rd (lMinus_c a b sa sb) rfl ?_ | refine callO.mk (lMinus_c a b sa sb) rfl ?_)
    try simp (maxSteps := 2000000) (disch := omega) only [go_sem, seval]
    try repeat ((with_reducible refine And.intro ?_ ?_); focus (first | omega | assumption | exact True.intro | (show anyD _ _ = true; exact rfl) | (simp only [List.length_map, List.length_append, List.length_cons, List.length_nil, List.length_take, List.length_drop]; omega)))
    (first | refine callP.mk (vcanonical_c (lat fUnion a b) ku.bd (g su).1 (g su).2) rfl ?_ | refine callQ.mk (vcanonical_c (lat fUnion a b) ku.bd (g su).1 (g su).2) rfl ?_ | refine callO.rd (vcanonical_c (lat fUnion a b) ku.bd (g su).1 (g su).2) rfl ?_ | refine callO.mk (vcanonical_c (lat fUnion a b) ku.bd (g su).1 (g su).2) rfl ?_)
    rw [cu]
    try simp (maxSteps := 2000000) (disch := omega) only [go_sem, seval]
    try repeat ((with_reducible refine And.intro ?_ ?_); focus (first | omega | assumption | exact True.intro | (show anyD _ _ = true; exact rfl) | (simp only [List.length_map, List.length_append, List.length_cons, List.length_nil, List.length_take, List.length_drop]; omega)))
    (first | refine callP.mk (vcanonical_c (lat fMeet a b) km.bd (g sm).1 (g sm).2) rfl ?_ | refine callQ.mk (vcanonical_c (lat fMeet a b) km.bd (g sm).1 (g sm).2) rfl ?_ | refine callO.rd (vcanonical_c (lat fMeet a b) km.bd (g sm).1 (g sm).2) rfl ?_ | refine callO.mk (vcanonical_c (lat fMeet a b) km.bd (g sm).1 (g sm).2) rfl ?_)
    rw [cm]
    try simp (maxSteps := 2000000) (disch := omega) only [go_sem, seval]
    try repeat ((with_reducible refine And.intro ?_ ?_); focus (first | omega | assumption | exact True.intro | (show anyD _ _ = true; exact rfl) | (simp only [List.length_map, List.length_append, List.length_cons, List.length_nil, List.length_take, List.length_drop]; omega)))
    (first | refine callP.mk (vcanonical_c (lat fMinus a b) kd.bd (g sd).1 (g sd).2) rfl ?_ | refine callQ.mk (vcanonical_c (lat fMinus a b) kd.bd (g sd).1 (g sd).2) rfl ?_ | refine callO.rd (vcanonical_c (lat fMinus a b) kd.bd (g sd).1 (g sd).2) rfl ?_ | refine callO.mk (vcanonical_c (lat fMinus a b) kd.bd (g sd).1 (g sd).2) rfl ?_)
    rw [cd]
    try simp (maxSteps := 2000000) (disch := omega) only [go_sem, seval]
    try repeat ((with_reducible refine And.intro ?_ ?_); focus (first | omega | assumption | exact True.intro | (show anyD _ _ = true; exact rfl) | (simp only [List.length_map, List.length_append, List.length_cons, List.length_nil, List.length_take, List.length_drop]; omega)))
    (first | refine callP.mk (refHas_c a r c va.1 hc (g sa).1 (g sa).2) rfl ?_ | refine callQ.mk (refHas_c a r c va.1 hc (g sa).1 (g sa).2) rfl ?_ | refine callO.rd (refHas_c a r c va.1 hc (g sa).1 (g sa).2) rfl ?_ | refine callO.mk (refHas_c a r c va.1 hc (g sa).1 (g sa).2) rfl ?_)
    try simp (maxSteps := 2000000) (disch := omega) only [go_sem, seval]
    try repeat ((with_reducible refine And.intro ?_ ?_); focus (first | omega | assumption | exact True.intro | (show anyD _ _ = true; exact rfl) | (simp only [List.length_map, List.length_append, List.length_cons, List.length_nil, List.length_take, List.length_drop]; omega)))
    (first | refine callP.mk (refHas_c b r c vb.1 hc (g sb).1 (g sb).2) rfl ?_ | refine callQ.mk (refHas_c b r c vb.1 hc (g sb).1 (g sb).2) rfl ?_ | refine callO.rd (refHas_c b r c vb.1 hc (g sb).1 (g sb).2) rfl ?_ | refine callO.mk (refHas_c b r c vb.1 hc (g sb).1 (g sb).2) rfl ?_)
    try simp (maxSteps := 2000000) (disch := omega) only [go_sem, seval]
    try repeat ((with_reducible refine And.intro ?_ ?_); focus (first | omega | assumption | exact True.intro | (show anyD _ _ = true; exact rfl) | (simp only [List.length_map, List.length_append, List.length_cons, List.length_nil, List.length_take, List.length_drop]; omega)))
    (first | refine callP.mk (alive10_c) rfl ?_ | refine callQ.mk (alive10_c) rfl ?_ | refine callO.rd (alive10_c) rfl ?_ | refine callO.mk (alive10_c) rfl ?_)
    try simp (maxSteps := 2000000) (disch := omega) only [go_sem, seval]
    try repeat ((with_reducible refine And.intro ?_ ?_); focus (first | omega | assumption | exact True.intro | (show anyD _ _ = true; exact rfl) | (simp only [List.length_map, List.length_append, List.length_cons, List.length_nil, List.length_take, List.length_drop]; omega)))
    obtain ⟨x, hx⟩ : ∃ x, x = mem (knV a r) c := ⟨_, rfl⟩
    obtain ⟨y, hy⟩ : ∃ y, y = mem (knV b r) c := ⟨_, rfl⟩
    rw [← hx, ← hy] at eu em ed ⊢
    cases x <;> cases y
    · (first | refine callP.mk (vhas_c (lat fUnion a b) r c ku.right hc (g su).1 (g su).2) rfl ?_ | refine callQ.mk (vhas_c (lat fUnion a b) r c ku.right hc (g su).1 (g su).2) rfl ?_ | refine callO.rd (vhas_c (lat fUnion a b) r c ku.right hc (g su).1 (g su).2) rfl ?_ | refine callO.mk (vhas_c (lat fUnion a b) r c ku.right hc (g su).1 (g su).2) rfl ?_)
      rw [eu]
      try simp (maxSteps := 2000000) (disch := omega) only [go_sem, seval]
      try repeat ((with_reducible refine And.intro ?_ ?_); focus (first | omega | assumption | exact True.intro | (show anyD _ _ = true; exact rfl) | (simp only [List.length_map, List.length_append, List.length_cons, List.length_nil, List.length_take, List.length_drop]; omega)))
      (first | refine callP.mk (vhas_c (lat fMeet a b) r c km.right hc (g sm).1 (g sm).2) rfl ?_ | refine callQ.mk (vhas_c (lat fMeet a b) r c km.right hc (g sm).1 (g sm).2) rfl ?_ | refine callO.rd (vhas_c (lat fMeet a b) r c km.right hc (g sm).1 (g sm).2) rfl ?_ | refine callO.mk (vhas_c (lat fMeet a b) r c km.right hc (g sm).1 (g sm).2) rfl ?_)
      rw [em]
      try simp (maxSteps := 2000000) (disch := omega) only [go_sem, seval]
      try repeat ((with_reducible refine And.intro ?_ ?_); focus (first | omega | assumption | exact True.intro | (show anyD _ _ = true; exact rfl) | (simp only [List.length_map, List.length_append, List.length_cons, List.length_nil, List.length_take, List.length_drop]; omega)))
      (first | refine callP.mk (vhas_c (lat fMinus a b) r c kd.right hc (g sd).1 (g sd).2) rfl ?_ | refine callQ.mk (vhas_c (lat fMinus a b) r c kd.right hc (g sd).1 (g sd).2) rfl ?_ | refine callO.rd (vhas_c (lat fMinus a b) r c kd.right hc (g sd).1 (g sd).2) rfl ?_ | refine callO.mk (vhas_c (lat fMinus a b) r c kd.right hc (g sd).1 (g sd).2) rfl ?_)
      rw [ed]
      try simp (maxSteps := 2000000) (disch := omega) only [go_sem, seval]
      try repeat ((with_reducible refine And.intro ?_ ?_); focus (first | omega | assumption | exact True.intro | (show anyD _ _ = true; exact rfl) | (simp only [List.length_map, List.length_append, List.length_cons, List.length_nil, List.length_take, List.length_drop]; omega)))
    · (first | refine callP.mk (vhas_c (lat fUnion a b) r c ku.right hc (g su).1 (g su).2) rfl ?_ | refine callQ.mk (vhas_c (lat fUnion a b) r c ku.right hc (g su).1 (g su).2) rfl ?_ | refine callO.rd (vhas_c (lat fUnion a b) r c ku.right hc (g su).1 (g su).2) rfl ?_ | refine callO.mk (vhas_c (lat fUnion a b) r c ku.right hc (g su).1 (g su).2) rfl ?_)
      rw [eu]
      try simp (maxSteps := 2000000) (disch := omega) only [go_sem, seval]
      try repeat ((with_reducible refine And.intro ?_ ?_); focus (first | omega | assumption | exact True.intro | (show anyD _ _ = true; exact rfl) | (simp only [List.length_map, List.length_append, List.length_cons, List.length_nil, List.length_take, List.length_drop]; omega)))
      (first | refine callP.mk (vhas_c (lat fMeet a b) r c km.right hc (g sm).1 (g sm).2) rfl ?_ | refine callQ.mk (vhas_c (lat fMeet a b) r c km.right hc (g sm).1 (g sm).2) rfl ?_ | refine callO.rd (vhas_c (lat fMeet a b) r c km.right hc (g sm).1 (g sm).2) rfl ?_ | refine callO.mk (vhas_c (lat fMeet a b) r c km.right hc (g sm).1 (g sm).2) rfl ?_)
      rw [em]
      try simp (maxSteps := 2000000) (disch := omega) only [go_sem, seval]
      try repeat ((with_reducible refine And.intro ?_ ?_); focus (first | omega | assumption | exact True.intro | (show anyD _ _ = true; exact rfl) | (simp only [List.length_map, List.length_append, List.length_cons, List.length_nil, List.length_take, List.length_drop]; omega)))
      (first | refine callP.mk (vhas_c (lat fMinus a b) r c kd.right hc (g sd).1 (g sd).2) rfl ?_ | refine callQ.mk (vhas_c (lat fMinus a b) r c kd.right hc (g sd).1 (g sd).2) rfl ?_ | refine callO.rd (vhas_c (lat fMinus a b) r c kd.right hc (g sd).1 (g sd).2) rfl ?_ | refine callO.mk (vhas_c (lat fMinus a b) r c kd.right hc (g sd).1 (g sd).2) rfl ?_)
      rw [ed]
      try simp (maxSteps := 2000000) (disch := omega) only [go_sem, seval]
      try repeat ((with_reducible refine And.intro ?_ ?_); focus (first | omega | assumption | exact True.intro | (show anyD _ _ = true; exact rfl) | (simp only [List.length_map, List.length_append, List.length_cons, List.length_nil, List.length_take, List.length_drop]; omega)))
    · (first | refine callP.mk (vhas_c (lat fUnion a b) r c ku.right hc (g su).1 (g su).2) rfl ?_ | refine callQ.mk (vhas_c (lat fUnion a b) r c ku.right hc (g su).1 (g su).2) rfl ?_ | refine callO.rd (vhas_c (lat fUnion a b) r c ku.right hc (g su).1 (g su).2) rfl ?_ | refine callO.mk (vhas_c (lat fUnion a b) r c ku.right hc (g su).1 (g su).2) rfl ?_)
      rw [eu]
      try simp (maxSteps := 2000000) (disch := omega) only [go_sem, seval]
      try repeat ((with_reducible refine And.intro ?_ ?_); focus (first | omega | assumption | exact True.intro | (show anyD _ _ = true; exact rfl) | (simp only [List.length_map, List.length_append, List.length_cons, List.length_nil, List.length_take, List.length_drop]; omega)))
      (first | refine callP.mk (vhas_c (lat fMeet a b) r c km.right hc (g sm).1 (g sm).2) rfl ?_ | refine callQ.mk (vhas_c (lat fMeet a b) r c km.right hc (g sm).1 (g sm).2) rfl ?_ | refine callO.rd (vhas_c (lat fMeet a b) r c km.right hc (g sm).1 (g sm).2) rfl ?_ | refine callO.mk (vhas_c (lat fMeet a b) r c km.right hc (g sm).1 (g sm).2) rfl ?_)
      rw [em]
      try simp (maxSteps := 2000000) (disch := omega) only [go_sem, seval]
      try repeat ((with_reducible refine And.intro ?_ ?_); focus (first | omega | assumption | exact True.intro | (show anyD _ _ = true; exact rfl) | (simp only [List.length_map, List.length_append, List.length_cons, List.length_nil, List.length_take, List.length_drop]; omega)))
      (first | refine callP.mk (vhas_c (lat fMinus a b) r c kd.right hc (g sd).1 (g sd).2) rfl ?_ | refine callQ.mk (vhas_c (lat fMinus a b) r c kd.right hc (g sd).1 (g sd).2) rfl ?_ | refine callO.rd (vhas_c (lat fMinus a b) r c kd.right hc (g sd).1 (g sd).2) rfl ?_ | refine callO.mk (vhas_c (lat fMinus a b) r c kd.right hc (g sd).1 (g sd).2) rfl ?_)
      rw [ed]
      try simp (maxSteps := 2000000) (disch := omega) only [go_sem, seval]
      try repeat ((with_reducible refine And.intro ?_ ?_); focus (first | omega | assumption | exact True.intro | (show anyD _ _ = true; exact rfl) | (simp only [List.length_map, List.length_append, List.length_cons, List.length_nil, List.length_take, List.length_drop]; omega)))
    · (first | refine callP.mk (vhas_c (lat fUnion a b) r c ku.right hc (g su).1 (g su).2) rfl ?_ | refine callQ.mk (vhas_c (lat fUnion a b) r c ku.right hc (g su).1 (g su).2) rfl ?_ | refine callO.rd (vhas_c (lat fUnion a b) r c ku.right hc (g su).1 (g su).2) rfl ?_ | refine callO.mk (vhas_c (lat fUnion a b) r c ku.right hc (g su).1 (g su).2) rfl ?_)
      rw [eu]
      try simp (maxSteps := 2000000) (disch := omega) only [go_sem, seval]
      try repeat ((with_reducible refine And.intro ?_ ?_); focus (first | omega | assumption | exact True.intro | (show anyD _ _ = true; exact rfl) | (simp only [List.length_map, List.length_append, List.length_cons, List.length_nil, List.length_take, List.length_drop]; omega)))
      (first | refine callP.mk (vhas_c (lat fMeet a b) r c km.right hc (g sm).1 (g sm).2) rfl ?_ | refine callQ.mk (vhas_c (lat fMeet a b) r c km.right hc (g sm).1 (g sm).2) rfl ?_ | refine callO.rd (vhas_c (lat fMeet a b) r c km.right hc (g sm).1 (g sm).2) rfl ?_ | refine callO.mk (vhas_c (lat fMeet a b) r c km.right hc (g sm).1 (g sm).2) rfl ?_)
      rw [em]
      try simp (maxSteps := 2000000) (disch := omega) only [go_sem, seval]
      try repeat ((with_reducible refine And.intro ?_ ?_); focus (first | omega | assumption | exact True.intro | (show anyD _ _ = true; exact rfl) | (simp only [List.length_map, List.length_append, List.length_cons, List.length_nil, List.length_take, List.length_drop]; omega)))
      (first | refine callP.mk (vhas_c (lat fMinus a b) r c kd.right hc (g sd).1 (g sd).2) rfl ?_ | refine callQ.mk (vhas_c (lat fMinus a b) r c kd.right hc (g sd).1 (g sd).2) rfl ?_ | refine callO.rd (vhas_c (lat fMinus a b) r c kd.right hc (g sd).1 (g sd).2) rfl ?_ | refine callO.mk (vhas_c (lat fMinus a b) r c kd.right hc (g sd).1 (g sd).2) rfl ?_)
      rw [ed]
      try simp (maxSteps := 2000000) (disch := omega) only [go_sem, seval]
      try repeat ((with_reducible refine And.intro ?_ ?_); focus (first | omega | assumption | exact True.intro | (show anyD _ _ = true; exact rfl) | (simp only [List.length_map, List.length_append, List.length_cons, List.length_nil, List.length_take, List.length_drop]; omega)))
end Go.Proofs.YtcedofkenfddkaaGreatDoor
