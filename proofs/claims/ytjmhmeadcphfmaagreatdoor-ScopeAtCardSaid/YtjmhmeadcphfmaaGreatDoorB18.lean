import Derived.Test.YtjmhmeadcphfmaaGreatDoorB17
namespace Go.Proofs.YtjmhmeadcphfmaaGreatDoor
set_option linter.unusedVariables false
set_option linter.unusedSimpArgs false
open Go.RowKit Go.Maps
set_option maxRecDepth 100000
attribute [-go_sem] nat_succ
theorem below_keep {n : Nat} {A B C : World} {S : Nat → Prop} (h : Below n A B) (hk : Keep S B C) (hs : ∀ k, k < n → ¬ S k) (hn : n ≤ A.heap.size) : Below n A C :=
  ⟨hk.os.trans h.os, hk.tape.trans h.tape, hk.output.trans h.output, Nat.le_trans h.size hk.size, fun k hkn => (hk.block k (by have := h.size; omega) (hs k hkn)).trans (h.block k hkn)⟩
theorem ranges_block {w w' : World} {b r n cnt : Nat} {D : DV} {left : Lit → Bool} (h : w.ranges Tryz.prog 24 rV b r n D left cnt) (hb : w'.heap[b]? = w.heap[b]?) (hr : w'.heap[r]? = w.heap[r]?) : w'.ranges Tryz.prog 24 rV b r n D left cnt := by
  obtain ⟨es, clock, since, seen, c0, h1, F, hs, hD, h2, rest⟩ := h
  exact ⟨es, clock, since, seen, c0, hb.trans h1, F, hs, hD, hr.trans h2, rest⟩
theorem invU : ∀ (key : Value) (kl : Lit), keyOf Tryz.prog 24 key = some kl → ∃ x : {r : Nat // r < M64}, key = Value.int .u64 (x.1 : Nat) := fun key kl h => by
  obtain ⟨x, rfl, _, hw⟩ := Maps.keyOf_int_inv Tryz.underlying24 h
  simp [Lit.wf, IntKind.min, IntKind.max, IntKind.signed, IntKind.bits] at hw
  refine ⟨⟨x.toNat, by rw [M64_val]; omega⟩, ?_⟩
  rw [Int.toNat_of_nonneg (by omega)]
theorem strike_iff {left : Lit → Bool} {r x : Nat} : (left (kR r) && !(kR r).sameKey (kR x)) = false ↔ left (kR r) = false ∨ r = x := by
  have h : (kR r).sameKey (kR x) = decide (r = x) := by
    simp [kR, Lit.sameKey]
    omega
  rw [h]
  cases left (kR r) <;> simp
theorem asc_len : ∀ (r xs : List Nat), Asc r → (∀ y ∈ r, y ∈ xs) → r.length ≤ xs.length := by
  intro r
  induction r with
  | nil => intro xs _ _; exact Nat.zero_le _
  | cons x r ih =>
    intro xs h hm
    have h' := List.pairwise_cons.1 h
    have := ih (xs.erase x) h'.2 fun y hy => by
      have h3 := h'.1 y hy
      exact (List.mem_erase_of_ne (by omega)).2 (hm y (by simp [hy]))
    have hx : x ∈ xs := hm x (by simp)
    rw [List.length_erase_of_mem hx] at this
    have := List.length_pos_of_mem hx
    simp; omega
theorem ixr_0 (a1 a2 : Option Addr) (n1 n2 c1 c2 : Nat) (w : World) : (Instr.index 232 (.agg #[.slice a1 n1 c1, .slice a2 n2 c2]) (.int .i64 0)).run Tryz.prog w = .ok (.slice a1 n1 c1) w := by kernel_rfl
theorem ixr_1 (a1 a2 : Option Addr) (n1 n2 c1 c2 : Nat) (w : World) : (Instr.index 232 (.agg #[.slice a1 n1 c1, .slice a2 n2 c2]) (.int .i64 1)).run Tryz.prog w = .ok (.slice a2 n2 c2) w := by kernel_rfl
theorem infoE : (Tryz.prog.info? 61).map (fun i => (i.zero, i.size, i.bytes)) = some (some (.agg #[.int .u64 0, .int .u64 0, .slice none 0 0]), 3, 40) := by kernel_rfl
theorem OwnU.shape {base : Nat} {w : World} {v : Value} {l : List Nat} (h : OwnU base w v l) : ∃ ad cap, v = .slice ad l.length cap ∧ l.length ≤ cap ∧ cap ≤ maxLen ∧ (l ≠ [] → ∃ g, ad = some ⟨g, 0, none⟩ ∧ g < w.heap.size ∧ ∀ j (hj : j < l.length), w.cell? ⟨g, j, none⟩ = some (.int .u64 (l[j] : Nat))) := by
  rcases h.cases with ⟨rfl, rfl⟩ | ⟨g, cap, cur, rfl, h1, h2, h3, h4, h5, h6, h7⟩
  · exact ⟨none, 0, rfl, Nat.le_refl _, Nat.zero_le _, fun h => absurd rfl h⟩
  · refine ⟨_, cap, rfl, h4, h5, fun _ => ⟨g, rfl, h2, fun j hj => ?_⟩⟩
    have := World.ownsRow.cells h (g := g) rfl j (uV l[j]) (by rw [List.getElem?_map, List.getElem?_eq_getElem hj]; rfl)
    rw [add_none, Nat.zero_add] at this
    exact this
theorem latO_eq {f : Bool → Bool → Bool} {a b : List En} {r : Nat} {e : En} {ok : Bool} (h : ofS r (opS f (knV a r) (knV b r)) = (e, ok)) : latO f a b r = if ok = true then some e else none := by
  unfold latO latE
  rw [h]
theorem fm_step {f : Bool → Bool → Bool} {a b : List En} {L : List Nat} {k : Nat} (hk : k < L.length) : (L.take (k + 1)).filterMap (latO f a b) = (L.take k).filterMap (latO f a b) ++ (latO f a b L[k]).toList := by
  rw [List.take_succ_eq_append_getElem hk, List.filterMap_append, List.filterMap_cons, List.filterMap_nil]
  cases latO f a b L[k] <;> rfl
theorem wp_callv {P : Program} {f : FuncId} {t : Tmp} {xs : List Operand} {c : Call} {o : Oper} {a : Act} {w : World} {K : Act → World → Prop} {Q : Exit → Act → World → Prop} (ho : o.op = .call c) (hc : c.callee = .value (.tmp t)) (hv : a.eval (.tmp t) = .func (.func f) #[] #[]) (ha : c.args.toList = xs)
    (he : ∀ args w, (callFunc f args).run P w = .ok (.enter f args) w)
    (h : Calls P f (xs.map a.eval).toArray w fun e w'' => match e with | .returned v => K (a.put o.dst v) w'' | .panicked chain => Q (.panic chain) a w'' | .outgrown => LetsOut Q) : o.wp P a w K Q := by
  have hr : (execOp a.eval o).run P w = .ok (.enter f (xs.map a.eval).toArray) w := by
    have e : c.args.map a.eval = (xs.map a.eval).toArray := Array.toList_inj.1 (by rw [Array.toList_map, ha])
    simp only [execOp, ho, resolve, hc, e, hv, Deferred.ofValue, Sem.run_bind, Sem.run_pure, Result.andThen_ok, invoke]
    rw [show (#[] ++ (xs.map a.eval).toArray ++ #[] : Array Value) = (xs.map a.eval).toArray from by simp]
    exact he _ _
  unfold Oper.wp
  rw [hr, Oper.upon_enter]
  exact h.mono (fun e w' h => by cases e <;> exact h)
theorem wp_append_own_at {P : Program} {w : World} {o : Oper} {a : Act} {K : Act → World → Prop} {Q : Exit → Act → World → Prop} (s x : Operand) (t : TypeId)
    (ho : o.op = .call { callee := .builtin .append, args := #[s, x], argTypes := #[t, t] })
    (base : Nat) (e : TypeId) (i : TypeInfo) (z : Value) (size bytes : Nat) (ht : P.underlying t = some (.slice e)) (hi : P.info? e = some i) (hz : i.zero = some z)
    (hsize : i.size = size) (hby : i.bytes = bytes) (hzs : z.cells.size = size) (hsz : 0 < size)
    (v : Value) (n : Nat) (xs : List Value) (hs : a.eval s = v) (hown : w.ownsRow base e size v n xs)
    (ad : Addr) (m c : Nat) (news : List Value) (hx : a.eval x = .slice (some ad) m c) (hl : news.length = m * size) (hnews : ∀ j u, news[j]? = some u → w.cell? (ad.add j) = some u) (h1 : ∀ u ∈ news, u.oneCell' = true)
    (h63 : n + m ≤ maxLen) (hbytes : (n + m) * bytes ≤ 140737488355328) (hbase : base ≤ w.heap.size)
    (h : ∀ v' w', w'.ownsRow base e size v' (n + m) (xs ++ news) → w.grownBy w' v.ownBlock → (v' = .slice none 0 0 ↔ v = .slice none 0 0 ∧ m = 0) → (v'.ownBlock = v.ownBlock ∨ v'.ownBlock = some w.heap.size) → K (a.put o.dst v') w') :
    o.wp P a w K Q := by
  obtain ⟨v', w', hr, h2, h3, h4, h5⟩ := run_append_own_at (P := P) w base t o.type e i z size bytes ht hi hz hsize hby hzs hsz v n xs hown ad m c news hl hnews h1 h63 hbytes hbase
  unfold Oper.wp execOp
  simp only [ho, resolve, invoke, builtin, Sem.run_bind, Sem.run_pure, Result.andThen_ok, List.map_toArray, List.map_cons, List.map_nil, hs, hx, hr]
  exact h v' w' h2 h3 h4 h5
set_option maxHeartbeats 8000000 in
theorem do_calls (C : Nat → Nat → Prop) (a b : List En) (va vb : Value) (w : World) (f : Bool → Bool → Bool) (op : FuncId) (hop : ∀ r, Cn Tryz.prog op [rg (knV a r), rg (knV b r)] (rg (opS f (knV a r) (knV b r))))
    (ha : SmV a) (hb : SmV b) (ra : RdF C w.heap.size w va a) (rb : RdF C w.heap.size w vb b) (hC : ∀ b o, C b o → b < w.heap.size) (hG : GL C w) :
    Calls Tryz.prog 152 #[va, vb, .func (.func op) #[] #[]] w fun e w' => ∃ v, e = .returned v ∧ Below w.heap.size w w' ∧ Dat (DL C w.heap.size w') w' v (vp (lat f a b)) := by
  have HP0 := Lib.hid (pair_calls C a b va vb w ha hb ra rb hC hG)
  have HGL := Lib.hid hG
  have hent := (hop 0).1
  have HOP := Lib.hid hop
  have HM := Lib.hid (rep_lt ha.1 hb.1)
  obtain ⟨dom, hdom⟩ : ∃ dom, dom = reps a ++ reps b := ⟨_, rfl⟩
  have hdl : dom.length ≤ 2097152 := by have h1 := ha.2.1; have h2 := hb.2.1; rw [hdom]; simp [reps]; omega
  have hlat : lat f a b = (srt dom).filterMap (latO f a b) := by rw [hdom]; rfl
  rw [← hdom] at HM
  have HLat := Lib.hid hlat
  have HDom := Lib.hid hdom
  clear hG ra rb hop hlat
  have tokA : True := trivial
  have tokB : True := trivial
  go_enter Tryz.func152, Tryz.ntmps152
  go_wp2_with (first
    | (go_at_call 194; have _t := tokA; refine HP0.out.mono ?_; rintro e w1 ⟨rfl, hb1, D, hown, hpd⟩
       rw [← hdom] at hpd
       have hmb : w.heap.size < w1.heap.size := hown.lt
       have HO1 := Lib.hid hown
       have HP1 := Lib.hid hpd
       have HB1 := Lib.hid hb1
       clear hown hpd hb1 tokA)
    | (at_range; have _t := tokB; refine wpList_range_own _ rfl _ 227 rfl 24 232 law_u Tryz.underlying227 rV w.heap.size (a.length + b.length) D rfl (HO1.out.alloc _) ?_; intro w2 hrg2 hg2 hs2; clear tokB)
    | go_in)
  go_frame
  simp only [World.size_alloc] at hrg2 hs2 ⊢
  clear hdom
  have HG2 := Lib.hid hg2
  have hbx2 : Boxed w2 w1.heap.size 230 (.slice none 0 0) := (Boxed.new w1 _ _).kept hg2 (by simp)
  have HK2 : Hid (∀ k, k < w1.heap.size → w2.heap[k]? = w1.heap[k]?) := Lib.hid fun k hk => (hg2.block k (by simp; omega) (by simp)).trans (Below.heap_alloc _ _ _ hk)
  have HB2 := Lib.hid (below_keep HB1.out (S := fun _ => False) ⟨hg2.os, hg2.tape, hg2.output, Nat.le_trans (by simp) hg2.size, fun k hk _ => HK2.out k hk⟩ (fun _ _ h => h) (Nat.le_refl _))
  clear hg2
  go_loopg [9] (Maps.size D) (fun g x wr => ∃ left xs v, wr.ranges Tryz.prog 24 rV w.heap.size (w1.heap.size + 1) (a.length + b.length) D left g ∧ (∀ r, r ∈ xs ↔ r ∈ dom ∧ left (kR r) = false) ∧ (∀ r, left (kR r) = true → r ∈ dom) ∧
    OwnU (w1.heap.size + 2) wr v (srt xs) ∧ Boxed wr w1.heap.size 230 v ∧ Keep (fun k => w1.heap.size ≤ k) w2 wr)
  case atStart =>
    have hpd := HP1.out
    refine ⟨Maps.has D, [], .slice none 0 0, hrg2, fun r => ?_, fun r h => ?_, ?_, hbx2, Keep.refl _ _⟩
    · rw [(hpd.2 r).1]; simp
    · rw [(hpd.2 r).1] at h; simpa using h
    · rw [srt_nil]; exact World.ownsRow_nil _ _ _ _
  case round =>
    obtain ⟨left, xs, v, hrg, hxs, hlf, hown, hbx, hK⟩ := hrel
    obtain ⟨wl, hwl⟩ : ∃ x, x = wr := ⟨_, rfl⟩
    subst hwl
    have HRG := Lib.hid hrg
    have HXS := Lib.hid hxs
    have HLF := Lib.hid hlf
    have HOW := Lib.hid hown
    have HBX := Lib.hid hbx
    have HKL := Lib.hid hK
    have hsl : (srt xs).length ≤ 2097152 := Nat.le_trans (asc_len _ dom (srt_asc xs) fun y hy => ((hxs y).1 (srt_mem.1 hy)).1) hdl
    have hw2l : w2.heap.size ≤ wl.heap.size := hK.size
    have HKW : Hid (∀ k, k < w1.heap.size → wl.heap[k]? = w1.heap[k]?) := Lib.hid fun k hk => (hK.block k (by omega) (by omega)).trans (HK2.out k hk)
    have HBL := Lib.hid (below_keep HB2.out hK (fun k hk => by omega) (Nat.le_refl _))
    have HGW : Hid (GL C wl) := Lib.hid (HGL.out.mono (fun _ _ h => h) fun j o x hj hx => (World.cell?_of_block (a := ⟨j, o, none⟩) (HBL.out.block j (hC j o hj))).trans hx)
    clear hrg2 hbx2 hrg hxs hlf hown hbx hK
    go_wp2_with (first
      | (at_next; refine wpList_next_ranges _ rfl _ rfl 24 law_u rV (fun r : {r : Nat // r < M64} => Value.int .u64 (r.1 : Nat)) (fun c : Value => c) invU (fun v y _ => ⟨v, rfl⟩) w.heap.size (w1.heap.size + 1) (a.length + b.length) D left gk rfl HRG.out ?_ ?_)
      | go_in)
    · intro hc0 hl0
      have hL : srt xs = srt dom := srt_eq (srt_asc dom) fun y => by rw [srt_mem, HXS.out y, hl0]; simp
      have HOW2 := HOW.out
      rw [hL] at HOW2 hsl
      have c0 := HBX.out.cell
      have hown := HRG.out.owns
      have HO := Lib.hid hown
      clear hown hl0 hL HOW HXS HLF
      obtain ⟨L, hLL⟩ : ∃ L, L = srt dom := ⟨_, rfl⟩
      rw [← hLL] at HOW2 hsl
      obtain ⟨ad, cap, rfl, hcap, hcm, hcl⟩ := HOW2.shape
      unfold maxLen at hcm
      have HCL := Lib.hid hcl
      have HLL := Lib.hid hLL
      clear hcl hLL HOW2
      go_wp2_with fail
      go_loopg [10, 29] L.length (fun g y x wr => ∃ k, k ≤ L.length ∧ g = L.length - k ∧ x = .int .i64 k ∧ OutE C w.heap.size wl.heap.size wr y ((L.take k).filterMap (latO f a b)) ∧ Keep (fun k => wl.heap.size ≤ k) wl wr)
      case atStart => exact ⟨0, Nat.zero_le _, rfl, rfl, OutE.start _ _ _ _, Keep.refl _ _⟩
      case round =>
        obtain ⟨k, hk, rfl, rfl, hout, hKr⟩ := hrel
        have HKR := Lib.hid hKr
        have HOUT := Lib.hid hout
        clear hKr hout
        have hwrl := HKR.out.size
        have HRW : Hid (∀ j, j < wl.heap.size → wr.heap[j]? = wl.heap[j]?) := Lib.hid fun j hj => HKR.out.block j hj (by omega)
        have HBR := Lib.hid (below_keep HBL.out HKR.out (fun k hk => by omega) (Nat.le_refl _))
        by_cases hlt : k < L.length
        · obtain ⟨g, had, hgl, hcells⟩ := HCL.out (fun e => by rw [e] at hlt; simp at hlt)
          subst had
          obtain ⟨r, hr⟩ : ∃ r, r = L[k] := ⟨_, rfl⟩
          have hrm : r < M64 := HM.out r (by rw [hr, ← HLL.out]; exact List.getElem_mem hlt)
          have ck : wr.cell? ⟨g, k, none⟩ = some (.int .u64 (r : Nat)) := by rw [hr]; exact (World.cell?_of_block (a := ⟨g, k, none⟩) (HRW.out g hgl)).trans (hcells k hlt)
          obtain ⟨s0, s1, hat, hd0, hd1⟩ := (HP1.out.2 r).2
          obtain ⟨a0, n0, rfl⟩ := rg_slice hd0
          obtain ⟨a1, n1, rfl⟩ := rg_slice hd1
          have hlk := map_look (ownsMap_block HO.out (HRW.out _ (by omega))) hrm hat
          have hmw : ∀ j o x, DL C w.heap.size w1 j o → w1.cell? ⟨j, o, none⟩ = some x → wr.cell? ⟨j, o, none⟩ = some x := fun j o x hj hx => by
            have hj1 := World.block_lt_of_cell? w1 ⟨j, o, none⟩ hx
            exact (World.cell?_of_block (a := ⟨j, o, none⟩) ((HRW.out j (Nat.lt_of_lt_of_le hj1 (by omega))).trans (HKW.out j hj1))).trans hx
          have hdx : ∀ j o, DL C w.heap.size w1 j o → DX C w.heap.size wr u10 j o := fun j o hj => ⟨hj.imp id fun h => ⟨h.1, by omega⟩, fun e => by
            have h5 := (HOUT.out.owns j e).1
            rcases hj with hj | hj
            · have := hC j o hj; omega
            · omega⟩
          have hDXb : ∀ j o, DX C w.heap.size wr u10 j o → j < wr.heap.size := fun j o h => h.1.elim (fun h => by have := hC j o h; omega) And.right
          have hGX : GL (DX C w.heap.size wr u10) wr := HGW.out.mono (fun j o h => ⟨.inl h, fun e => by have h5 := (HOUT.out.owns j e).1; have := hC j o h; omega⟩) fun j o x hj hx => (World.cell?_of_block (a := ⟨j, o, none⟩) (HRW.out j (by have := hC j o hj; omega))).trans hx
          have HXB := Lib.hid hDXb
          have HGX := Lib.hid hGX
          have HOPC := Lib.hid (cn_w (HOP.out r) hGX hDXb (vs := #[.slice a0 (knV a r).length n0, .slice a1 (knV b r).length n1]) rfl (fun i p hp => by
            match i, hp with
            | 0, hp => cases hp; exact hd0.mono hdx hmw
            | 1, hp => cases hp; exact hd1.mono hdx hmw
            | i + 2, hp => simp at hp))
          have hnr : Nrm (opS f (knV a r) (knV b r)) := opS_nrm (knV_nrm ha.1 r) (knV_nrm hb.1 r)
          have hol : (opS f (knV a r) (knV b r)).length ≤ 80100 := by
            have h1 := opS_length f (knV a r) (knV b r)
            have h2 := knV_len (n := 1048576) (h := 10000) ha r
            have h3 := knV_len (n := 1048576) (h := 10000) hb r
            omega
          have hof := eof_c r (opS f (knV a r) (knV b r)) hnr (by omega)
          obtain ⟨e, ok, hE⟩ : ∃ e ok, ofS r (opS f (knV a r) (knV b r)) = (e, ok) := ⟨_, _, rfl⟩
          rw [hE] at hof
          have HOF := Lib.hid hof
          have hlo := latO_eq (f := f) (a := a) (b := b) hE
          have hst := fm_step (f := f) (a := a) (b := b) hlt
          rw [← hr, hlo] at hst
          have HST := Lib.hid hst
          have hhl : e.holes.length ≤ 1000000 := by
            have := ofS_length r (opS f (knV a r) (knV b r))
            rw [hE] at this
            simp only at this
            omega
          have hn0 : (knV a r).length ≤ maxLen := by have := knV_len (n := 1048576) (h := 10000) ha r; unfold maxLen; omega
          have hn1 : (knV b r).length ≤ maxLen := by have := knV_len (n := 1048576) (h := 10000) hb r; unfold maxLen; omega
          unfold maxLen at hn0 hn1
          have i0 := ixr_0 a0 a1 (knV a r).length (knV b r).length n0 n1
          have i1 := ixr_1 a0 a1 (knV a r).length (knV b r).length n0 n1
          obtain ⟨ls, hls⟩ : ∃ ls, ls = opS f (knV a r) (knV b r) := ⟨_, rfl⟩
          rw [← hls] at HOF HOPC hol
          clear hof hE hlo hst hat hd0 hd1 hmw hdx hcells hDXb hGX hnr hr hls
          have tokD : True := trivial
          have tokE : True := trivial
          have tokF : True := trivial
          cases ok with
          | false =>
            go_wp2_with fail
            refine wp_callv (t := 35) (f := op) (xs := [.tmp 39, .tmp 43]) rfl rfl rfl rfl hent ?_
            refine HOPC.out.mono ?_
            rintro e' w3 ⟨v3, rfl, hb3, hd3⟩
            obtain ⟨a3, n3, rfl⟩ := rg_slice hd3
            have HB3 := Lib.hid hb3
            have HD3 := Lib.hid hd3
            clear hb3 hd3
            dsimp only
            go_wp2_with fail
            refine (cn_w HOF.out (D := fun j o => DX C w.heap.size wr u10 j o ∨ (wr.heap.size ≤ j ∧ j < w3.heap.size)) (HGX.out.mono (fun _ _ h => .inl h) fun j o x hj hx => (World.cell?_of_block (a := ⟨j, o, none⟩) (HB3.out.block j (HXB.out j o hj))).trans hx) (fun j o h => h.elim (fun h => Nat.lt_of_lt_of_le (HXB.out j o h) HB3.out.size) And.right) rfl (fun i p hp => ?_)).mono ?_
            · match i, hp with
              | 0, hp => cases hp; exact .v _
              | 1, hp => cases hp; exact HD3.out
              | i + 2, hp => simp at hp
            rintro e' w4 ⟨v4, rfl, hb4, hd4⟩
            obtain ⟨a4, n4, rfl, hd4'⟩ := dat_entup hd4
            have HB4 := Lib.hid hb4
            have HD4 := Lib.hid hd4'
            clear hb4 hd4 hd4'
            dsimp only
            go_wp2_with fail
            go_roundg (L.length - (k + 1))
            case measure => omega
            case rel =>
              have h34 := HB3.out.size
              have h44 := HB4.out.size
              refine ⟨k + 1, hlt, rfl, by simp, ?_, HKR.out.trans (((Keep.of_below' HB3.out (Nat.le_refl _)).trans (Keep.of_below' HB4.out (Nat.le_refl _))).alloc _)⟩
              rw [HST.out]
              simp only [Bool.false_eq_true, if_false, Option.toList_none, List.append_nil]
              exact HOUT.out.keep (by simp; omega) fun j hj => by rw [Below.heap_alloc _ _ _ (by omega), HB4.out.block j (by omega), HB3.out.block j hj]
          | true =>
            go_wp2_with fail
            refine wp_callv (t := 35) (f := op) (xs := [.tmp 39, .tmp 43]) rfl rfl rfl rfl hent ?_
            refine HOPC.out.mono ?_
            rintro e' w3 ⟨v3, rfl, hb3, hd3⟩
            obtain ⟨a3, n3, rfl⟩ := rg_slice hd3
            have HB3 := Lib.hid hb3
            have HD3 := Lib.hid hd3
            clear hb3 hd3
            dsimp only
            go_wp2_with fail
            refine (cn_w HOF.out (D := fun j o => DX C w.heap.size wr u10 j o ∨ (wr.heap.size ≤ j ∧ j < w3.heap.size)) (HGX.out.mono (fun _ _ h => .inl h) fun j o x hj hx => (World.cell?_of_block (a := ⟨j, o, none⟩) (HB3.out.block j (HXB.out j o hj))).trans hx) (fun j o h => h.elim (fun h => Nat.lt_of_lt_of_le (HXB.out j o h) HB3.out.size) And.right) rfl (fun i p hp => ?_)).mono ?_
            · match i, hp with
              | 0, hp => cases hp; exact .v _
              | 1, hp => cases hp; exact HD3.out
              | i + 2, hp => simp at hp
            rintro e' w4 ⟨v4, rfl, hb4, hd4⟩
            obtain ⟨a4, n4, rfl, hd4'⟩ := dat_entup hd4
            have HB4 := Lib.hid hb4
            have HD4 := Lib.hid hd4'
            clear hb4 hd4 hd4'
            dsimp only
            go_wp2_with fail
            have hz5 : ((w4.alloc (.cells #[.int .u64 e.rep, .int .u64 e.max, .slice a4 e.holes.length n4] 61)).alloc (.cells #[.int .u64 e.rep, .int .u64 e.max, .slice a4 e.holes.length n4] 61)).heap.size = w4.heap.size + 2 := by simp
            have h34 := HB3.out.size
            have h44 := HB4.out.size
            have hb5 : ∀ j, j < wr.heap.size → ((w4.alloc (.cells #[.int .u64 e.rep, .int .u64 e.max, .slice a4 e.holes.length n4] 61)).alloc (.cells #[.int .u64 e.rep, .int .u64 e.max, .slice a4 e.holes.length n4] 61)).heap[j]? = wr.heap[j]? := fun j hj => by
              rw [Below.heap_alloc _ _ _ (by simp; omega), Below.heap_alloc _ _ _ (by omega), HB4.out.block j (by omega), HB3.out.block j hj]
            obtain ⟨xs5, h15, h25⟩ := HOUT.out.keep (by omega) hb5
            have hnb : ((w4.alloc (.cells #[.int .u64 e.rep, .int .u64 e.max, .slice a4 e.holes.length n4] 61)).alloc (.cells #[.int .u64 e.rep, .int .u64 e.max, .slice a4 e.holes.length n4] 61)).heap[w4.heap.size + 1]? = some (.cells #[.int .u64 e.rep, .int .u64 e.max, .slice a4 e.holes.length n4] 61 (0, 0)) := by
              have := World.alloc_heap_new (w4.alloc (.cells #[.int .u64 e.rep, .int .u64 e.max, .slice a4 e.holes.length n4] 61)) (.cells #[.int .u64 e.rep, .int .u64 e.max, .slice a4 e.holes.length n4] 61)
              rwa [World.size_alloc] at this
            have hd5 : Dat (DX C w.heap.size ((w4.alloc (.cells #[.int .u64 e.rep, .int .u64 e.max, .slice a4 e.holes.length n4] 61)).alloc (.cells #[.int .u64 e.rep, .int .u64 e.max, .slice a4 e.holes.length n4] 61)) u10) ((w4.alloc (.cells #[.int .u64 e.rep, .int .u64 e.max, .slice a4 e.holes.length n4] 61)).alloc (.cells #[.int .u64 e.rep, .int .u64 e.max, .slice a4 e.holes.length n4] 61)) (.slice a4 e.holes.length n4) (rg e.holes) := by
              refine HD4.out.mono (fun j o h => ?_) fun j o x h hx => ?_
              · have key : wr.heap.size ≤ j → j < w4.heap.size → DX C w.heap.size ((w4.alloc (.cells #[.int .u64 e.rep, .int .u64 e.max, .slice a4 e.holes.length n4] 61)).alloc (.cells #[.int .u64 e.rep, .int .u64 e.max, .slice a4 e.holes.length n4] 61)) u10 j o := fun h1 h2 => ⟨.inr ⟨by omega, by omega⟩, fun h => by have := (HOUT.out.owns j h).2; omega⟩
                rcases h with (h | h) | h
                · exact ⟨h.1.imp id fun h => ⟨h.1, by omega⟩, h.2⟩
                · exact key h.1 (by omega)
                · exact key (by omega) h.2
              · have hj4 := World.block_lt_of_cell? w4 ⟨j, o, none⟩ hx
                exact (World.cell?_of_block (a := ⟨j, o, none⟩) (by rw [Below.heap_alloc _ _ _ (by simp; exact Nat.lt_succ_of_lt hj4), Below.heap_alloc _ _ _ hj4])).trans hx
            have hel : ((L.take k).filterMap (latO f a b)).length ≤ k := Nat.le_trans (List.length_filterMap_le _ _) (by simp; omega)
            obtain ⟨ie, hie, hze, hse, hbe⟩ := info_parts infoE
            refine wp_append_own_at _ _ 49 rfl wl.heap.size 61 ie _ 3 40 Tryz.underlying49 hie hze hse hbe rfl (by decide) _ _ xs5 rfl h15 ⟨w4.heap.size + 1, 0, none⟩ 1 1 [.int .u64 e.rep, .int .u64 e.max, .slice a4 e.holes.length n4] rfl rfl (fun j u hj => by
              rw [add_none, Nat.zero_add]
              exact (cells_of hnb j u (by simpa using hj)).1) (fun u hu => by simp at hu; rcases hu with rfl | rfl | rfl <;> rfl) (by unfold maxLen; omega) (by omega) (by omega) ?_
            intro v6 w6 ho6 hg6 _ hbl6
            have HP6 := Lib.hid (OutE.push (mb := w.heap.size) h25 h15 hd5 hC (by omega) ho6 hg6 hbl6)
            have HG6 := Lib.hid hg6
            have HB5 := Lib.hid hb5
            have HZ5 := Lib.hid hz5
            have HOB := Lib.hid (fun j (h : u10.ownBlock = some j) => (HOUT.out.owns j h).1)
            clear ho6 hg6 hbl6 h15 h25 hd5 hnb hb5 hz5
            go_wp2_with fail
            go_roundg (L.length - (k + 1))
            case measure => omega
            case rel =>
              refine ⟨k + 1, hlt, rfl, by simp, ?_, HKR.out.trans ((((((Keep.of_below' HB3.out (Nat.le_refl _)).trans (Keep.of_below' HB4.out (Nat.le_refl _))).alloc _).alloc _).grown HG6.out fun j hj _ => HOB.out j hj))⟩
              rw [HST.out]
              simp only [if_true, Option.toList_some]
              exact HP6.out
        · obtain rfl : k = L.length := by omega
          go_wp2_with fail
          refine bodyPost_ret (results_tmp rfl _ _ _) rfl ?_
          have h := HOUT.out.dat (by omega)
          rw [List.take_length, HLL.out, ← HLat.out] at h
          exact ⟨_, rfl, HBR.out, h⟩
    · intro x hx c kl y ys w3 cnt3 hkey hlk hv hat hrg3 hlt hg3 hs3 hen
      try dsimp only at hkey hen ⊢
      obtain rfl : kl = kR x := by
        have := (key_r hx).symm.trans hkey
        simpa using this.symm
      have HRG3 := Lib.hid hrg3
      have HK3 := Lib.hid ((HKL.out.grown hg3 (fun k hk _ => by cases hk; omega)))
      have hb3 : ∀ k, k ≠ w1.heap.size + 1 → k < wl.heap.size → w3.heap[k]? = wl.heap[k]? := fun k hk hkl => hg3.block k hkl (fun e => hk (by cases e; rfl))
      have HB3 := Lib.hid hb3
      have hblt := HBX.out.lt
      have HAD := Lib.hid (add_calls (C := C) (base := w1.heap.size + 2) (rb := w1.heap.size) (w := w3) (v := v) (xs := xs) x (HOW.out.keep fun g hg => hb3 g (by have := (HOW.out.lt g hg).1; omega) (HOW.out.lt g hg).2) ((hb3 _ (by omega) hblt).trans HBX.out) (by omega) (fun h => by have := ((HXS.out x).1 h).2; rw [hlk] at this; cases this) (by omega) (by omega)
        (fun b o h => by have := hC b o h; omega) (HGW.out.mono (fun _ _ h => h) fun j o y hj hy => (World.cell?_of_block (a := ⟨j, o, none⟩) (hb3 j (by have := hC j o hj; omega) (by have := hC j o hj; omega))).trans hy))
      clear hkey hv hat hrg3 hg3 hb3
      have tokC : True := trivial
      go_wp2_with (first
        | (go_at_call 195; have _t := tokC; refine HAD.out.mono ?_; rintro e w4 ⟨⟨u, rfl⟩, v', hbx4, ho4, hk4⟩; have HBX4 := Lib.hid hbx4; have HO4 := Lib.hid ho4; have HK4 := Lib.hid hk4; clear hbx4 ho4 hk4 tokC)
        | go_in)
      go_roundg cnt3
      case measure => exact hlt
      case rel =>
        have hm : ∀ k, k < w3.heap.size → k ≠ w1.heap.size → k < w1.heap.size + 2 → w4.heap[k]? = w3.heap[k]? := fun k hk h1 h2 => HK4.out.block k hk (by omega)
        refine ⟨_, xs ++ [x], v', ranges_block HRG3.out (hm _ (by omega) (by omega) (by omega)) (hm _ (by omega) (by omega) (by omega)), fun r => ?_, fun r h => ?_, HO4.out, HBX4.out, HK3.out.trans (HK4.out.mono fun k _ h => by omega)⟩
        · rw [strike_iff, List.mem_append, HXS.out r, List.mem_singleton]
          constructor
          · rintro (⟨h1, h2⟩ | rfl)
            · exact ⟨h1, .inl h2⟩
            · exact ⟨HLF.out _ hlk, .inr rfl⟩
          · rintro ⟨h1, h2 | h2⟩
            · exact .inl ⟨h1, h2⟩
            · exact .inr h2
        · exact HLF.out r (by cases h0 : left (kR r) with | true => rfl | false => rw [h0] at h; simp at h)
end Go.Proofs.YtjmhmeadcphfmaaGreatDoor
namespace Go.Proofs.YtjmhmeadcphfmaaGreatDoor
set_option linter.unusedVariables false
set_option linter.unusedSimpArgs false
open Go.ChangeShapes Go.WideShapes Go.ChangeAt Go.RowKit Go.Deep
set_option maxRecDepth 100000
section
variable {H : Type} {enc : TypeId × Value → H} {w : World} {base : Nat} {spare : Nat → Bool} {held : Bool}
def CellsY (w : World) (b o : Nat) (ps : List PV) : Prop := ∀ (j : Nat) (p : PV), ps[j]? = some p → ∃ u, w.cell? ⟨b, o + j, none⟩ = some u ∧ u.oneCell' = true ∧ Dat (Lies w) w u p
def rdC {α : Type} (cv : α → List PV) (bd : α → Prop) (w : World) (b o : Nat) (x : α) : Prop := CellsY w b o (cv x) ∧ bd x
theorem rdsl_dat {α : Type} {cv : α → List PV} {bd : α → Prop} {sz : Nat} {v : Value} {l : List α} (hsz : ∀ x, (cv x).length = sz) (h : RdSl sz (rdC cv bd) 0 w.heap.size w v l) : Dat (Lies w) w v (.sl (l.map cv) .sh) ∧ (∀ x ∈ l, bd x) ∧ l.length ≤ 9223372036854775807 := by
  obtain ⟨a, cap, rfl, h1, h2, h3⟩ := h
  have hlm : l.length ≤ 9223372036854775807 := by unfold maxLen at h2; omega
  suffices hs : Dat (Lies w) w (.slice a (l.map cv).length cap) (.sl (l.map cv) .sh) ∧ ∀ x ∈ l, bd x from ⟨by rw [List.length_map] at hs; exact hs.1, hs.2, hlm⟩
  by_cases hne : l = []
  · subst hne
    exact ⟨.sl a cap sz [] .sh 0 0 (fun _ => undef) (by simp) (fun h => by cases h) h2 (fun h => absurd rfl h) (fun i e h => by simp at h) (fun j h => by simp at h) (fun i e j p h => by simp at h), fun _ h => by cases h⟩
  obtain ⟨b, off, rfl, hb1, hb2, hc⟩ := h3 hne
  have key : ∀ j, j < l.length * sz → ∃ u, w.cell? ⟨b, off + j, none⟩ = some u ∧ u.oneCell' = true ∧ ∀ (i k : Nat) (hi : i < l.length) (p : PV), j = i * sz + k → (cv l[i])[k]? = some p → Dat (Lies w) w u p := fun j hj => by
    have hp : 0 < sz := by
      rcases Nat.eq_zero_or_pos sz with h0 | h0
      · subst h0; simp at hj
      · exact h0
    have hi : j / sz < l.length := Nat.div_lt_of_lt_mul (by rw [Nat.mul_comm]; exact hj)
    have hk : j % sz < (cv l[j / sz]).length := by rw [hsz]; exact Nat.mod_lt _ hp
    obtain ⟨u, u1, u2, u3⟩ := (hc _ hi).1 (j % sz) _ (List.getElem?_eq_getElem hk)
    have e : off + j / sz * sz + j % sz = off + j := by have := Nat.div_add_mod j sz; rw [Nat.mul_comm] at this; omega
    rw [e] at u1
    refine ⟨u, u1, u2, fun i k hi2 p hjk hp2 => ?_⟩
    have hk2 : k < sz := by have := (List.getElem?_eq_some_iff.1 hp2).1; rwa [hsz] at this
    have q1 : j / sz = i := by rw [hjk]; rw [Nat.mul_comm, Nat.mul_add_div hp, Nat.div_eq_of_lt hk2]; omega
    have q2 : j % sz = k := by rw [hjk]; rw [Nat.mul_comm, Nat.mul_add_mod, Nat.mod_eq_of_lt hk2]
    subst q1
    subst q2
    rw [List.getElem?_eq_getElem hk] at hp2
    cases hp2
    exact u3
  obtain ⟨f, hf⟩ : ∃ f : Nat → Value, ∀ j, j < l.length * sz → w.cell? ⟨b, off + j, none⟩ = some (f j) ∧ (f j).oneCell' = true ∧ ∀ (i k : Nat) (hi : i < l.length) (p : PV), j = i * sz + k → (cv l[i])[k]? = some p → Dat (Lies w) w (f j) p := by
    refine ⟨fun j => if h : j < l.length * sz then (key j h).choose else undef, fun j hj => ?_⟩
    simp only [dif_pos hj]
    exact (key j hj).choose_spec
  refine ⟨.sl _ cap sz _ .sh b off f (by simpa using h1) (fun h => by cases h) h2 (fun _ => rfl) (fun i e h => ?_) (fun j hj => ?_) (fun i e j p he hp => ?_), fun x hx => ?_⟩
  · simp only [List.getElem?_map, Option.map_eq_some_iff] at h
    obtain ⟨s, _, rfl⟩ := h
    exact hsz s
  · obtain ⟨f1, f2, _⟩ := hf j (by simpa using hj)
    exact ⟨hb2, f1, f2⟩
  · have hi : i < l.length := by have := (List.getElem?_eq_some_iff.1 he).1; simpa using this
    rw [map_at hi] at he
    cases he
    have hj : j < sz := by have := (List.getElem?_eq_some_iff.1 hp).1; rwa [hsz] at this
    have : i * sz + j < l.length * sz := by
      have := Nat.mul_le_mul_right sz (show i + 1 ≤ l.length from hi)
      rw [Nat.add_mul] at this; omega
    exact (hf _ this).2.2 i j hi p rfl hp
  · obtain ⟨i, hi, rfl⟩ := List.getElem_of_mem hx
    exact (hc i hi).2
theorem triple_open {P : Program} {e : TypeId} {f0 f1 f2 : Field} {n : Nat} {a : Addr} {cs : List Value} {y : DataW H × List MemPlace} (he : P.underlying e = some (.struct #[f0, f1, f2])) (o0 : f0.offset = 0) (o1 : f1.offset = 1) (o2 : f2.offset = 2) (c0 : P.cellsOf f0.type = 1) (c1 : P.cellsOf f1.type = 1) (c2 : P.cellsOf f2.type = 1)
    (h1 : w.cells? base a 3 = some cs) (h2 : DataW.trod enc P w base spare held n e cs = some y) :
    ∃ v0 v1 v2 k y0 y1 y2, w.cell? a = some v0 ∧ w.cell? (a.add 1) = some v1 ∧ w.cell? (a.add 2) = some v2 ∧ DataW.trod enc P w base spare held k f0.type [v0] = some y0 ∧ DataW.trod enc P w base spare held k f1.type [v1] = some y1 ∧ DataW.trod enc P w base spare held k f2.type [v2] = some y2 := by
  obtain ⟨_, hlen, hcell⟩ := World.cells?_some h1
  obtain ⟨xs, k, _, _, _, hxl, hf⟩ := DataW.trod_struct he h2
  match xs, hxl, cs, hlen with
  | [y0, y1, y2], _, [v0, v1, v2], _ =>
    have g0 := hf 0 f0 rfl
    have g1 := hf 1 f1 rfl
    have g2 := hf 2 f2 rfl
    simp [o0, o1, o2, c0, c1, c2] at g0 g1 g2
    have e0 := hcell 0 (by omega)
    have e1 := hcell 1 (by omega)
    have e2 := hcell 2 (by omega)
    exact ⟨v0, v1, v2, k, y0, y1, y2, by simpa [Addr.add] using e0, by simpa using e1, by simpa using e2, g0, g1, g2⟩
instance : Inhabited En := ⟨⟨0, 0, []⟩⟩
theorem en_open {n : Nat} {a : Addr} {cs : List Value} {y : DataW H × List MemPlace} (h1 : w.cells? base a 3 = some cs) (h2 : DataW.trod enc Tryz.prog w base spare held n 61 cs = some y) : a.spot = none ∧ a.block < w.heap.size ∧ ∃ e, rdC ec BdE w a.block a.off e := by
  obtain ⟨v0, v1, v2, k, y0, y1, y2, e0, e1, e2, g0, g1, g2⟩ := triple_open Tryz.underlying61 rfl rfl rfl (by kernel_rfl) (by kernel_rfl) (by kernel_rfl) h1 h2
  obtain ⟨m0, q0, hm0⟩ := trod_u64 Tryz.underlying24 g0
  obtain ⟨m1, q1, hm1⟩ := trod_u64 Tryz.underlying24 g1
  obtain ⟨v2', l, q2, hl⟩ := ranges_open g2
  obtain rfl : v0 = _ := by simpa using q0
  obtain rfl : v1 = _ := by simpa using q1
  obtain rfl : v2 = v2' := by simpa using q2
  obtain ⟨b, off, spot⟩ := a
  obtain rfl : spot = none := World.cell?_spot e0
  refine ⟨rfl, World.block_lt_of_cell? _ _ e0, ⟨m0, m1, l⟩, fun j p hp => ?_, hl.bound, hm1, hm0⟩
  have hd : Dat (Lies w) w v2 (rg l) := rdr_dat hl fun _ _ _ h => h
  obtain ⟨aa, c, rfl, _⟩ := hl
  match j, hp with
  | 0, hp => cases hp; exact ⟨_, e0, rfl, .v _⟩
  | 1, hp => cases hp; exact ⟨_, by simpa [Addr.add] using e1, rfl, .v _⟩
  | 2, hp => cases hp; exact ⟨_, by simpa [Addr.add] using e2, rfl, hd⟩
theorem vec_open {fuel : Nat} {cs : List Value} {x : DataW H × List MemPlace} (h : DataW.trod enc Tryz.prog w base spare held fuel 49 cs = some x) : ∃ v l, cs = [v] ∧ RdSl 3 (rdC ec BdE) 0 w.heap.size w v l :=
  rdsl_open (rdC ec BdE) Tryz.underlying49 (by kernel_rfl) (fun _ _ _ _ h1 h2 => en_open h1 h2) h
end
end Go.Proofs.YtjmhmeadcphfmaaGreatDoor
namespace Go.Proofs.YtjmhmeadcphfmaaGreatDoor
set_option linter.unusedVariables false
set_option linter.unusedSimpArgs false
open Go.RowKit
structure Fg where
  items : List Iv
  vec : List En
deriving DecidableEq
instance : Inhabited Fg := ⟨⟨[], []⟩⟩
theorem Fg.ext' {f g : Fg} (h1 : f.items = g.items) (h2 : f.vec = g.vec) : f = g := by cases f; cases g; simp_all
def fc (f : Fg) : List PV := [rg f.items, vp f.vec]
def fp (f : Fg) : PV := .agg (fc f)
def kp (k : List Fg) : PV := .sl (k.map fc) .sh
attribute [go_sem] kp fp fc
def RightF (f : Fg) : Prop := Nrm f.items ∧ RightV f.vec
def RightK (k : List Fg) : Prop := ∀ f ∈ k, RightF f
def BdF (f : Fg) : Prop := BdR f.items ∧ (∀ e ∈ f.vec, BdE e) ∧ f.items.length ≤ 9223372036854775807 ∧ f.vec.length ≤ 9223372036854775807
def BdK (k : List Fg) : Prop := (∀ f ∈ k, BdF f) ∧ k.length ≤ 9223372036854775807
def fewK (k : List Fg) : Bool := k.all (fun f => decide (f.items.length ≤ 20) && fewB f.vec) && decide (k.length ≤ 12)
theorem fewK_iff {k : List Fg} : fewK k = true ↔ (∀ f ∈ k, f.items.length ≤ 20 ∧ fewB f.vec = true) ∧ k.length ≤ 12 := by simp [fewK]
def hkK : Nat → List Fg → Nat × Int
  | _, [] => (0, -1)
  | i, f :: r => if (chk f.items).1 ≠ 0 then ((chk f.items).1, (i : Int)) else if (chkV f.vec).1 ≠ 0 then ((chkV f.vec).1, (i : Int)) else hkK (i + 1) r
def ckK (k : List Fg) : Nat × Int := hkK 0 k
theorem hkK_zero : ∀ (i : Nat) (k : List Fg), (hkK i k).1 = 0 ↔ ∀ f ∈ k, (chk f.items).1 = 0 ∧ (chkV f.vec).1 = 0
  | _, [] => by simp [hkK]
  | i, f :: r => by
    have ih := hkK_zero (i + 1) r
    unfold hkK
    by_cases h1 : (chk f.items).1 ≠ 0
    · rw [if_pos h1]
      exact ⟨fun h => absurd h h1, fun h => (h f (by simp)).1⟩
    · rw [if_neg h1]
      by_cases h2 : (chkV f.vec).1 ≠ 0
      · rw [if_pos h2]
        exact ⟨fun h => absurd h h2, fun h => (h f (by simp)).2⟩
      · rw [if_neg h2, ih]
        constructor
        · intro h g hg
          rcases List.mem_cons.1 hg with rfl | hg
          · exact ⟨by omega, by omega⟩
          · exact h g hg
        · intro h g hg
          exact h g (by simp [hg])
theorem ckK_iff {k : List Fg} (hb : BdK k) : (ckK k).1 = 0 ↔ RightK k := by
  unfold ckK
  rw [hkK_zero]
  constructor
  · intro h f hf
    obtain ⟨h1, h2⟩ := h f hf
    have hbf := hb.1 f hf
    exact ⟨(chk_nrm fun s hs => (hbf.1 s hs).2).1 h1, (chkV_iff hbf.2.1).1 h2⟩
  · intro h f hf
    have hbf := hb.1 f hf
    exact ⟨(chk_nrm fun s hs => (hbf.1 s hs).2).2 (h f hf).1, (chkV_iff hbf.2.1).2 (h f hf).2⟩
def withF (i : Nat) : Nat → List Fg → List (Nat × Fg)
  | _, [] => []
  | n, f :: r => if mem f.items i = true then (n, f) :: withF i (n + 1) r else withF i (n + 1) r
theorem withF_snoc (i : Nat) (f : Fg) : ∀ (n : Nat) (l : List Fg), withF i n (l ++ [f]) = withF i n l ++ (if mem f.items i = true then [(n + l.length, f)] else [])
  | n, [] => by simp [withF]
  | n, g :: l => by
    have ih := withF_snoc i f (n + 1) l
    have e : n + 1 + l.length = n + (l.length + 1) := by omega
    rw [List.cons_append, withF, withF, ih, List.length_cons, e]
    split <;> simp
theorem withF_take {k : List Fg} {j : Nat} (i : Nat) (h : j < k.length) : withF i 0 (k.take (j + 1)) = withF i 0 (k.take j) ++ (if mem k[j].items i = true then [(j, k[j])] else []) := by
  rw [List.take_succ_eq_append_getElem h, withF_snoc, List.length_take, Nat.min_eq_left (by omega), Nat.zero_add]
theorem withF_mem {i : Nat} {p : Nat × Fg} : ∀ {n : Nat} {l : List Fg}, p ∈ withF i n l → p.2 ∈ l ∧ mem p.2.items i = true ∧ n ≤ p.1 ∧ p.1 < n + l.length
  | n, [], h => by cases h
  | n, f :: l, h => by
    unfold withF at h
    split at h
    · rename_i hf
      rcases List.mem_cons.1 h with rfl | h
      · exact ⟨by simp, hf, Nat.le_refl _, by simp⟩
      · obtain ⟨h1, h2, h3, h4⟩ := withF_mem h
        exact ⟨by simp [h1], h2, by omega, by simp; omega⟩
    · obtain ⟨h1, h2, h3, h4⟩ := withF_mem h
      exact ⟨by simp [h1], h2, by omega, by simp; omega⟩
theorem withF_any {i : Nat} {q : Fg → Bool} : ∀ (n : Nat) (l : List Fg), (withF i n l).any (fun p => q p.2) = l.any fun f => mem f.items i && q f
  | _, [] => rfl
  | n, f :: l => by
    have ih := withF_any (i := i) (q := q) (n + 1) l
    unfold withF
    rw [List.any_cons, ← ih]
    cases h : mem f.items i <;> simp
def membK (k : List Fg) (i : Nat) : List Nat := (withF i 0 k).map Prod.fst
def hasK (k : List Fg) (i r c : Nat) : Bool := k.any fun f => mem f.items i && mem (knV f.vec r) c
theorem hasK_with (k : List Fg) (i r c : Nat) : (withF i 0 k).any (fun p => mem (knV p.2.vec r) c) = hasK k i r c := withF_any (q := fun f => mem (knV f.vec r) c) 0 k
noncomputable def vecAt (k : List Fg) (i : Nat) : List En := (withF i 0 k).foldl (fun o p => lat fUnion o p.2.vec) []
theorem vecAt_nil (i : Nat) : vecAt [] i = [] := rfl
theorem vecAt_take {k : List Fg} {j : Nat} (i : Nat) (h : j < k.length) : vecAt (k.take (j + 1)) i = if mem k[j].items i = true then lat fUnion (vecAt (k.take j) i) k[j].vec else vecAt (k.take j) i := by
  unfold vecAt
  rw [withF_take i h, List.foldl_append]
  split <;> rfl
def itemsK (k : List Fg) : List Iv := k.foldl (fun o f => opS fUnion o f.items) []
theorem RightK.take {k : List Fg} (h : RightK k) (j : Nat) : RightK (k.take j) := fun f hf => h f (List.mem_of_mem_take hf)
def CK (k : List Fg) (r : Nat) : List Nat := k.flatMap fun f => cuts (knV f.vec r)
def RK (k : List Fg) : List Nat := k.flatMap fun f => reps f.vec
def CI (k : List Fg) : List Nat := k.flatMap fun f => cuts f.items
theorem IV.frag {k : List Fg} (h : RightK k) {f : Fg} (hf : f ∈ k) : IV (CK k) (RK k) f.vec :=
  (IV.of (h f hf).2).mono (fun r x hx => List.mem_flatMap.2 ⟨f, hf, hx⟩) fun x hx => List.mem_flatMap.2 ⟨f, hf, hx⟩
def IK (C : Nat → List Nat) (R : List Nat) (k : List Fg) : Prop := ∀ f ∈ k, IV C R f.vec
theorem RightK.ik {k : List Fg} (h : RightK k) : IK (CK k) (RK k) k := fun f hf => IV.frag h hf
theorem IK.take {C : Nat → List Nat} {R : List Nat} {k : List Fg} (h : IK C R k) (j : Nat) : IK C R (k.take j) := fun f hf => h f (List.mem_of_mem_take hf)
theorem foldU {C : Nat → List Nat} {R : List Nat} : ∀ (l : List (Nat × Fg)) (o : List En), (∀ p ∈ l, IV C R p.2.vec) → WV C R o → WV C R (l.foldl (fun o p => lat fUnion o p.2.vec) o) ∧
    ∀ r c, c < M64 → mem (knV (l.foldl (fun o p => lat fUnion o p.2.vec) o) r) c = (mem (knV o r) c || l.any fun p => mem (knV p.2.vec r) c)
  | [], o, _, ho => ⟨ho, fun r c _ => by simp⟩
  | p :: l, o, hl, ho => by
    have hp := hl p (by simp)
    obtain ⟨h1, h2⟩ := foldU l (lat fUnion o p.2.vec) (fun q hq => hl q (by simp [hq])) (ho.iv.lat fU0 hp)
    refine ⟨h1, fun r c hc => ?_⟩
    rw [List.foldl_cons, h2 r c hc, lat_kn fU0 ho.can.right hp.right, opS_mem (knV_nrm ho.can.right r) (knV_nrm hp.right r) hc, List.any_cons]
    simp only [fUnion, Bool.or_assoc]
theorem IK.at {C : Nat → List Nat} {R : List Nat} {k : List Fg} (h : IK C R k) (i : Nat) : WV C R (vecAt k i) ∧ ∀ r c, c < M64 → mem (knV (vecAt k i) r) c = hasK k i r c := by
  obtain ⟨h1, h2⟩ := foldU (withF i 0 k) [] (fun p hp => h _ (withF_mem hp).1) WV.nil
  refine ⟨h1, fun r c hc => ?_⟩
  rw [← hasK_with]
  have := h2 r c hc
  rw [knV_nil, mem_nil, Bool.false_or] at this
  exact this
theorem itemsK_spec : ∀ (l : List Fg) (o : List Iv), Nrm o → (∀ f ∈ l, Nrm f.items) → Nrm (l.foldl (fun o f => opS fUnion o f.items) o) ∧
    (∀ x, x < M64 → mem (l.foldl (fun o f => opS fUnion o f.items) o) x = (mem o x || l.any fun f => mem f.items x)) ∧ ∀ x, Ed (l.foldl (fun o f => opS fUnion o f.items) o) x → Ed o x ∨ x ∈ CI l
  | [], o, ho, _ => ⟨ho, fun x _ => by simp, fun x h => .inl h⟩
  | f :: l, o, ho, hl => by
    have hf := hl f (by simp)
    obtain ⟨h1, h2, h3⟩ := itemsK_spec l (opS fUnion o f.items) (opS_nrm ho hf) fun g hg => hl g (by simp [hg])
    refine ⟨h1, fun x hx => ?_, fun x hx => ?_⟩
    · rw [List.foldl_cons, h2 x hx, opS_mem ho hf hx, List.any_cons]
      simp only [fUnion, Bool.or_assoc]
    · rcases h3 x hx with h | h
      · rcases ed_op fU0 ho hf h with h | h
        · exact .inl h
        · exact .inr (List.mem_flatMap.2 ⟨f, by simp, ed_cuts hf.ivs2 h⟩)
      · obtain ⟨g, hg, h⟩ := List.mem_flatMap.1 h
        exact .inr (List.mem_flatMap.2 ⟨g, by simp [hg], h⟩)
theorem RightK.items {k : List Fg} (h : RightK k) : Nrm (itemsK k) ∧ (∀ x, x < M64 → mem (itemsK k) x = k.any fun f => mem f.items x) ∧ (itemsK k).length ≤ (CI k).length := by
  obtain ⟨h1, h2, h3⟩ := itemsK_spec k [] trivial fun f hf => (h f hf).1
  refine ⟨h1, fun x hx => ?_, ed_len h1 fun x hx => ?_⟩
  · have := h2 x hx
    rw [mem_nil, Bool.false_or] at this
    exact this
  · exact (h3 x hx).resolve_left ed_nil
theorem flatMap_len {α β : Type} {g : α → List β} {n : Nat} : ∀ {l : List α}, (∀ x ∈ l, (g x).length ≤ n) → (l.flatMap g).length ≤ l.length * n
  | [], _ => by simp
  | x :: l, h => by
    have := flatMap_len (l := l) fun y hy => h y (by simp [hy])
    have h1 := h x (by simp)
    rw [List.flatMap_cons, List.length_append, List.length_cons, Nat.add_mul, Nat.one_mul]
    omega
theorem fewK_len {k : List Fg} (h : fewK k = true) (hr : RightK k) : (∀ r, (CK k r).length ≤ 1512) ∧ (RK k).length ≤ 240 ∧ (CI k).length ≤ 480 := by
  obtain ⟨h1, h2⟩ := fewK_iff.1 h
  have hk : ∀ n, k.length * n ≤ 12 * n := fun n => Nat.mul_le_mul_right n h2
  refine ⟨fun r => ?_, ?_, ?_⟩
  · refine Nat.le_trans (flatMap_len (n := 126) fun f hf => ?_) (hk 126)
    have := fewB_iff.1 (h1 f hf).2
    have l1 := cuts_len (knV f.vec r)
    have l2 := knV_len (n := 20) (h := 30) ⟨(hr f hf).2, this.2, this.1⟩ r
    omega
  · refine Nat.le_trans (flatMap_len (n := 20) fun f hf => ?_) (hk 20)
    have := fewB_iff.1 (h1 f hf).2
    simp only [reps, List.length_map]
    omega
  · refine Nat.le_trans (flatMap_len (n := 40) fun f hf => ?_) (hk 40)
    have l1 := cuts_len f.items
    have := (h1 f hf).1
    omega
def OkC (C : Nat → List Nat) (R : List Nat) : Prop := (∀ r, (C r).length ≤ 9000) ∧ R.length ≤ 1048576
theorem fewK_ok {k : List Fg} (h : fewK k = true) (hr : RightK k) : OkC (CK k) (RK k) := by
  obtain ⟨h1, h2, _⟩ := fewK_len h hr
  exact ⟨fun r => by have := h1 r; omega, by omega⟩
end Go.Proofs.YtjmhmeadcphfmaaGreatDoor
namespace Go.Proofs.YtjmhmeadcphfmaaGreatDoor
set_option linter.unusedVariables false
set_option linter.unusedSimpArgs false
open Go.RowKit Go.Maps
set_option maxRecDepth 100000
attribute [-go_sem] nat_succ
theorem cn_memL {f : FuncId} {ps : List PV} {r : PV} (hr : r.own = none) (hent : ∀ args w, (callFunc f args).run Tryz.prog w = .ok (.enter f args) w)
    (h : ∀ (D : Nat → Nat → Prop) (w : World) (vs : Array Value), GL D w → (∀ b o, D b o → b < w.heap.size) → vs.size = ps.length → (∀ (i : Nat) p, ps[i]? = some p → Dat D w (vs.getD i undef) p) →
      Calls Tryz.prog f vs w fun e w' => ∃ v, e = .returned v ∧ Below w.heap.size w w' ∧ Dat (fun b o => D b o ∨ (w.heap.size ≤ b ∧ b < w'.heap.size)) w' v r) : Cn Tryz.prog f ps r := by
  refine ⟨hent, fun D w vs hG hD hsz hd => (h D w vs hG hD hsz hd).mono ?_⟩
  rintro e w' ⟨v, rfl, hb, hv⟩
  exact ⟨v, _, rfl, hb, fun b o h => .inl h, fun b o h => h.imp id And.left, fun b o h => h.elim (fun h => Nat.lt_of_lt_of_le (hD b o h) hb.size) And.right, hv, ownOk_none hr⟩
theorem arr3 {vs : Array Value} (h : vs.size = 3) : vs = #[vs.getD 0 undef, vs.getD 1 undef, vs.getD 2 undef] := by
  obtain ⟨l⟩ := vs
  match l, h with
  | [x, y, z], _ => rfl
theorem dat_fn {D : Nat → Nat → Prop} {w : World} {x : Value} {f : Fn} (h : Dat D w x (.fn f [] [])) : x = .func f #[] #[] := by
  cases h with
  | fn f va vb fs cs h1 h2 _ _ =>
    rw [Array.size_eq_zero_iff.1 h1, Array.size_eq_zero_iff.1 h2]
theorem SmV.bd {v : List En} (h : SmV v) : ∀ e ∈ v, BdE e := fun e he => BdE_of (h.1.1 e he)
theorem ldo_c (a b : List En) (f : Bool → Bool → Bool) (op : FuncId) (hop : ∀ r, Cn Tryz.prog op [rg (knV a r), rg (knV b r)] (rg (opS f (knV a r) (knV b r)))) (ha : SmV a) (hb : SmV b) :
    Cn Tryz.prog 152 [vp a, vp b, .fn (.func op) [] []] (vp (lat f a b)) := by
  refine cn_memL rfl (enters_of Tryz.func152 (by kernel_rfl) rfl) fun D w vs hG hD hsz hd => ?_
  rw [arr3 hsz, dat_fn (hd 2 _ rfl)]
  refine (do_calls D a b _ _ w f op hop ha hb (dat_rdf (hd 0 _ rfl) hD ha.bd) (dat_rdf (hd 1 _ rfl) hD hb.bd) hD hG).mono ?_
  rintro e w' ⟨v, rfl, hbl, hd⟩
  exact ⟨v, rfl, hbl, hd.mono (fun b o h => h.imp id fun h => ⟨by omega, h.2⟩) fun _ _ _ _ h => h⟩
theorem knV_sm {v : List En} (h : SmV v) (r : Nat) : Nrm (knV v r) ∧ (knV v r).length ≤ 20003 := ⟨knV_nrm h.1 r, knV_len (n := 1048576) (h := 10000) h r⟩
theorem lUnion_c (a b : List En) (ha : SmV a) (hb : SmV b) : Cn Tryz.prog 94 [vp a, vp b] (vp (lat fUnion a b)) := by
  have h := ldo_c a b fUnion 80 (fun r => union_c _ _ (knV_sm ha r).1 (knV_sm hb r).1 (by have := (knV_sm ha r).2; have := (knV_sm hb r).2; omega)) ha hb
  refine cn_go Tryz.func94 [] 2 (by kernel_rfl) rfl (by simp [go_sem, seval]) ?_
  conv => arg 4; cbv
  conv => enter [5, 1]; cbv
  try simp (maxSteps := 2000000) (disch := omega) only [go_sem, seval]
  try repeat ((with_reducible refine And.intro ?_ ?_); focus (first | omega | assumption | exact True.intro | (show anyD _ _ = true; exact rfl) | (simp only [List.length_map, List.length_append, List.length_cons, List.length_nil, List.length_take, List.length_drop]; omega)))
  (first | refine callP.mk (h) rfl ?_ | refine callQ.mk (h) rfl ?_ | refine callO.rd (h) rfl ?_ | refine callO.mk (h) rfl ?_)
  try simp (maxSteps := 2000000) (disch := omega) only [go_sem, seval]
  try repeat ((with_reducible refine And.intro ?_ ?_); focus (first | omega | assumption | exact True.intro | (show anyD _ _ = true; exact rfl) | (simp only [List.length_map, List.length_append, List.length_cons, List.length_nil, List.length_take, List.length_drop]; omega)))
end Go.Proofs.YtjmhmeadcphfmaaGreatDoor
namespace Go.Proofs.YtjmhmeadcphfmaaGreatDoor
set_option linter.unusedVariables false
set_option linter.unusedSimpArgs false
open Go.ChangeShapes Go.WideShapes Go.ChangeAt Go.RowKit Go.Deep
set_option maxRecDepth 100000
section
variable {H : Type} {enc : TypeId × Value → H} {w : World} {base : Nat} {spare : Nat → Bool} {held : Bool}
theorem fg_open {n : Nat} {a : Addr} {cs : List Value} {y : DataW H × List MemPlace} (h1 : w.cells? base a 2 = some cs) (h2 : DataW.trod enc Tryz.prog w base spare held n 57 cs = some y) : a.spot = none ∧ a.block < w.heap.size ∧ ∃ f, rdC fc BdF w a.block a.off f := by
  obtain ⟨v0, v1, k, y0, y1, e0, e1, g0, g1⟩ := pair_open Tryz.underlying57 rfl rfl (by kernel_rfl) (by kernel_rfl) h1 h2
  obtain ⟨v0', l, q0, hl⟩ := ranges_open g0
  obtain ⟨v1', v, q1, hv⟩ := vec_open g1
  obtain rfl : v0 = v0' := by simpa using q0
  obtain rfl : v1 = v1' := by simpa using q1
  obtain ⟨b, off, spot⟩ := a
  obtain rfl : spot = none := World.cell?_spot e0
  obtain ⟨d1, b1, n1⟩ := rdsl_dat (cv := ec) (bd := BdE) (fun _ => rfl) hv
  have d0 : Dat (Lies w) w v0 (rg l) := rdr_dat hl fun _ _ _ h => h
  have hlb := hl.bound
  have hll : l.length ≤ 9223372036854775807 := by have := hl.len; unfold maxLen at this; omega
  have o0 : v0.oneCell' = true := by obtain ⟨a0, c0, rfl, _⟩ := hl; rfl
  have o1 : v1.oneCell' = true := by obtain ⟨a0, c0, rfl, _⟩ := hv; rfl
  refine ⟨rfl, World.block_lt_of_cell? _ _ e0, ⟨l, v⟩, fun j p hp => ?_, hlb, b1, hll, n1⟩
  match j, hp with
  | 0, hp => cases hp; exact ⟨_, e0, o0, d0⟩
  | 1, hp => cases hp; exact ⟨_, by simpa [Addr.add] using e1, o1, d1⟩
theorem know_open {fuel : Nat} {cs : List Value} {x : DataW H × List MemPlace} (h : DataW.trod enc Tryz.prog w base spare held fuel 23 cs = some x) : ∃ v l, cs = [v] ∧ RdSl 2 (rdC fc BdF) 0 w.heap.size w v l :=
  rdsl_open (rdC fc BdF) Tryz.underlying23 (by kernel_rfl) (fun _ _ _ _ h1 h2 => fg_open h1 h2) h
theorem opc_k {r : Reach} {b0 : Nat} {v : Value} {d : DataW H} {ps : List MemPlace} (hval : Value.okWide Tryz.prog w r b0 23 v) (h : DataW.Trod enc Tryz.prog w base spare held 23 v d ps) : ∃ l, Dat (Lies w) w v (kp l) ∧ BdK l := by
  obtain ⟨a, len, cap, rfl⟩ := okWide_slice Tryz.underlying23 hval
  obtain ⟨fuel, hf⟩ := h
  obtain ⟨v, l, hv, hl⟩ := know_open hf
  simp [Value.cells] at hv
  rw [← hv] at hl
  obtain ⟨h1, h2, h3⟩ := rdsl_dat (cv := fc) (bd := BdF) (fun _ => rfl) hl
  exact ⟨l, h1, h2, h3⟩
def xp (x : Nat × Nat × Nat) : PV := .agg [.v (.int .u64 (x.1 : Nat)), .v (.int .u64 (x.2.1 : Nat)), .v (.int .u64 (x.2.2 : Nat))]
attribute [go_sem] xp
def BdX (x : Nat × Nat × Nat) : Prop := x.1 < M64 ∧ x.2.1 < M64 ∧ x.2.2 < M64
theorem opc_x {r : Reach} {b0 : Nat} {v : Value} {d : DataW H} {ps : List MemPlace} (hval : Value.okWide Tryz.prog w r b0 26 v) (h : DataW.Trod enc Tryz.prog w base spare held 26 v d ps) : ∃ x, Dat (Lies w) w v (xp x) ∧ BdX x := by
  obtain ⟨v0, v1, v2, y0, y1, y2, n, rfl, _, _, g0, g1, g2⟩ := Go.Joins.open_agg3 Tryz.underlying26 (by kernel_rfl) (by kernel_rfl) hval h
  obtain ⟨m0, q0, h0⟩ := trod_u64 Tryz.underlying24 g0
  obtain ⟨m1, q1, h1⟩ := trod_u64 Tryz.underlying24 g1
  obtain ⟨m2, q2, h2⟩ := trod_u64 Tryz.underlying24 g2
  obtain rfl : v0 = _ := by simpa using q0
  obtain rfl : v1 = _ := by simpa using q1
  obtain rfl : v2 = _ := by simpa using q2
  exact ⟨(m0, m1, m2), agg3_dat (by simp [Value.oneCell']) (by simp [Value.oneCell']) (by simp [Value.oneCell']) (.v _) (.v _) (.v _), h0, h1, h2⟩
end
end Go.Proofs.YtjmhmeadcphfmaaGreatDoor
namespace Go.Proofs.YtjmhmeadcphfmaaGreatDoor
set_option linter.unusedVariables false
set_option linter.unusedSimpArgs false
open Go.RowKit Go.Maps
set_option maxRecDepth 100000
attribute [-go_sem] nat_succ
theorem ns_inv {D : Nat → Nat → Prop} {w : World} {v : Value} {l : List Nat} (h : Dat D w v (ns l)) : ∃ ad cap, v = .slice ad l.length cap ∧ l.length ≤ cap ∧ cap ≤ maxLen ∧ (l ≠ [] → ∃ b off, ad = some ⟨b, off, none⟩ ∧ ∀ j (hj : j < l.length), D b (off + j) ∧ w.cell? ⟨b, off + j, none⟩ = some (.int .u64 (l[j] : Nat))) := by
  unfold ns at h
  generalize he : l.map natc = es at h
  cases h with
  | sl a cap sz es o b off u hc hz hm ha hsz hd hx =>
    have hl : es.length = l.length := by rw [← he]; simp
    refine ⟨a, cap, by rw [hl], by omega, hm, fun hne => ?_⟩
    have hpos : 0 < l.length := List.length_pos_iff.2 hne
    have g : ∀ i (h : i < l.length), es[i]? = some (natc l[i]) := fun i h => by rw [← he]; exact map_at h
    obtain rfl : 1 = sz := hsz 0 _ (g 0 hpos)
    have hes : es ≠ [] := by intro e; subst e; simp at hl; omega
    refine ⟨b, off, ha hes, fun j hj => ?_⟩
    have e0 := (hx j _ 0 _ (g j hj) rfl).v_inv
    obtain ⟨d1, d2, _⟩ := hd (j * 1 + 0) (by omega)
    rw [e0] at d2
    simp only [Nat.mul_one, Nat.add_zero] at d1 d2
    exact ⟨d1, d2⟩
theorem run_append_nil0 {P : Program} (w : World) (t ty e : TypeId) (i : TypeInfo) (ht : P.underlying t = some (.slice e)) (hi : P.info? e = some i) (ba : Option Addr) (n cp c : Nat) (hn : n ≤ cp) :
    (Builtin.append_ #[t, t] ty #[.slice ba n cp, .slice none 0 c]).run P w = .ok (.slice ba n cp) w := by
  cases ba <;> simp [Builtin.append_, run_underlying ht, sizeOf, typeInfo, hi, Builtin.lenOf, Builtin.firstCells, hn, storeCells]
theorem run_app_u (w : World) (t ty : TypeId) (ht : Tryz.prog.underlying t = some (.slice 24)) (base : Nat) (v : Value) (n : Nat) (xs : List Value) (hown : w.ownsRow base 24 1 v n xs) (ad : Option Addr) (m c : Nat) (news : List Value) (hl : news.length = m)
    (hnews : (m = 0 ∧ ad = none) ∨ ∃ a, ad = some a ∧ ∀ j u, news[j]? = some u → w.cell? (a.add j) = some u) (h1 : ∀ u ∈ news, u.oneCell' = true) (h63 : n + m ≤ 17179869184) (hbase : base ≤ w.heap.size) :
    ∃ v' w', (Builtin.append_ #[t, t] ty #[v, .slice ad m c]).run Tryz.prog w = .ok v' w' ∧ w'.ownsRow base 24 1 v' (n + m) (xs ++ news) ∧ w.grownBy w' v.ownBlock ∧ (v'.ownBlock = v.ownBlock ∨ v'.ownBlock = some w.heap.size) := by
  obtain ⟨i0, hi0, hz0, hz1, hz2⟩ := info_parts infoU
  rcases hnews with ⟨rfl, rfl⟩ | ⟨a, rfl, hn⟩
  · obtain rfl : news = [] := List.length_eq_zero_iff.1 hl
    obtain ⟨ba, cp, rfl, hcp⟩ : ∃ ba cp, v = .slice ba n cp ∧ n ≤ cp := by
      rcases hown.2 with ⟨rfl, rfl⟩ | ⟨g, cap, cur, rfl, _, _, h, _⟩
      · exact ⟨none, 0, rfl, Nat.le_refl _⟩
      · exact ⟨_, _, rfl, h⟩
    exact ⟨_, w, run_append_nil0 w t ty _ i0 ht hi0 ba n cp c hcp, by simpa using hown, grown_refl _ _, .inl rfl⟩
  · obtain ⟨v', w', r1, r2, r3, _, r5⟩ := run_append_own_at (P := Tryz.prog) w base t ty 24 i0 _ 1 8 ht hi0 hz0 hz1 hz2 rfl (by decide) v n xs hown a m c news (by simpa using hl) hn h1 (by unfold maxLen; omega) (by omega) hbase
    exact ⟨v', w', r1, r2, r3, r5⟩
theorem step_app {ops : Array Oper} {o : Oper} {a : Act} {w : World} {K : Act → World → Prop} {Q : Exit → Act → World → Prop} {E : Prop} (s x : Operand) (t : TypeId) (hgd : o.guard = none)
    (ho : o.op = .call { callee := .builtin .append, args := #[s, x], argTypes := #[t, t] }) (ht : Tryz.prog.underlying t = some (.slice 24)) (base : Nat) (v : Value) (n : Nat) (xs : List Value) (hs : a.eval s = v) (hown : w.ownsRow base 24 1 v n xs)
    (ad : Option Addr) (m c : Nat) (news : List Value) (hx : a.eval x = .slice ad m c) (hl : news.length = m) (hnews : (m = 0 ∧ ad = none) ∨ ∃ a, ad = some a ∧ ∀ j u, news[j]? = some u → w.cell? (a.add j) = some u) (h1 : ∀ u ∈ news, u.oneCell' = true) (h63 : n + m ≤ 17179869184) (hbase : base ≤ w.heap.size)
    (h : ∀ v' w', w'.ownsRow base 24 1 v' (n + m) (xs ++ news) → w.grownBy w' v.ownBlock → (v'.ownBlock = v.ownBlock ∨ v'.ownBlock = some w.heap.size) → K (a.put o.dst v') w') : if Region.wanted o (yielded ops a.tmps) = true then Oper.wp Tryz.prog o a w K Q else E := by
  have hw : Region.wanted o (yielded ops a.tmps) = true := by simp [Region.wanted, hgd]
  rw [if_pos hw]
  obtain ⟨v', w', hr, h2, h3, h4⟩ := run_app_u w t o.type ht base v n xs hown ad m c news hl hnews h1 h63 hbase
  unfold Oper.wp execOp
  simp only [ho, resolve, invoke, builtin, Sem.run_bind, Sem.run_pure, Result.andThen_ok, List.map_toArray, List.map_cons, List.map_nil, hs, hx, hr]
  exact h v' w' h2 h3 h4
theorem own_e0 {w : World} {base A : Nat} (hA : base ≤ A) (h : w.heap[A]? = some (.cells #[] 24 (0, 0))) : w.ownsRow base 24 1 (.slice (some ⟨A, 0, none⟩) 0 0) 0 [] := ⟨rfl, .inr ⟨A, 0, #[], rfl, hA, h, Nat.le_refl _, Nat.zero_le _, rfl, rfl⟩⟩
theorem h_new1 (w : World) (o o' : Obj) : ((w.alloc o).alloc o').heap[w.heap.size]? = some o := (Below.heap_alloc _ _ _ (by simp)).trans (World.alloc_heap_new w o)
theorem h_new2 (w : World) (o o' : Obj) : ((w.alloc o).alloc o').heap[w.heap.size + 1]? = some o' := by
  have := World.alloc_heap_new (w.alloc o) o'
  rwa [World.size_alloc] at this
theorem bel1 (w : World) (o : Obj) : Below w.heap.size w (w.drew.alloc o) := ⟨rfl, rfl, rfl, by simp, fun k hk => Below.heap_alloc w.drew _ _ hk⟩
theorem bel2 (w : World) (o o' : Obj) : Below w.heap.size w ((w.drew.alloc o).alloc o') := (bel1 w o).alloc (by simp) _
set_option maxHeartbeats 4000000 in
theorem put_calls (C : Nat → Nat → Prop) (xs : List Nat) (x : Nat) (va : Value) (w : World) (hl : (srt xs).length ≤ 4194304) (hd : Dat C w va (ns (srt xs))) (hC : ∀ b o, C b o → b < w.heap.size) :
    Calls Tryz.prog 153 #[va, .int .u64 (x : Nat)] w fun e w' => ∃ v, e = .returned v ∧ Below w.heap.size w w' ∧ Dat (fun b o => C b o ∨ (w.heap.size ≤ b ∧ b < w'.heap.size)) w' v (ns (srt (xs ++ [x]))) := by
  obtain ⟨l, hls⟩ : ∃ l, l = srt xs := ⟨_, rfl⟩
  have HD := Lib.hid hd
  rw [← hls] at hl hd
  have HLS := Lib.hid hls
  obtain ⟨ad, cap, rfl, hcap, hcm, hcl⟩ := ns_inv hd
  have HCL := Lib.hid hcl
  clear hd hls hcl
  unfold maxLen at hcm
  go_enter Tryz.func153, Tryz.ntmps153
  go_wp2_with fail
  go_loopg [5] l.length (fun g y wr => wr = w ∧ ∃ k, k ≤ l.length ∧ g = l.length - k ∧ y = .int .i64 k ∧ ∀ j, (h : j < l.length) → j < k → l[j] < x)
  case atStart => exact ⟨rfl, 0, Nat.zero_le _, rfl, rfl, fun j _ h => absurd h (by omega)⟩
  case round =>
    obtain ⟨rfl, k, hk, rfl, rfl, hj⟩ := hrel
    have HJ := Lib.hid hj
    clear hj
    by_cases hlt : k < l.length
    · obtain ⟨b, off, rfl, hcells⟩ := HCL.out (fun e => by rw [e] at hlt; simp at hlt)
      have hck := (hcells k hlt).2
      obtain ⟨y, hy⟩ : ∃ y, y = l[k] := ⟨_, rfl⟩
      rw [← hy] at hck
      have HY := Lib.hid hy
      have HCs := Lib.hid hcells
      clear hy hcells
      by_cases h2 : y < x
      · go_wp2_with fail
        go_roundg (l.length - (k + 1))
        case measure => omega
        case rel =>
          refine ⟨rfl, k + 1, hlt, rfl, by simp, fun j hj1 hj2 => ?_⟩
          rcases Nat.lt_or_ge j k with h3 | h3
          · exact HJ.out j hj1 h3
          · obtain rfl : j = k := by omega
            rw [← HY.out]; exact h2
      · by_cases h3 : y = x
        · go_wp2_with fail
          refine bodyPost_ret (results_tmp rfl _ _ _) rfl ?_
          have hmem : x ∈ srt xs := by rw [← HLS.out, ← h3, HY.out]; exact List.getElem_mem hlt
          rw [srt_has hmem]
          exact ⟨_, rfl, Below.refl _ _, HD.out.mono (fun _ _ h => .inl h) fun _ _ _ _ h => h⟩
        · go_wp2_with fail
          have mixed : Tryz.prog.follows .mixedOrders = true := by kernel_rfl
          have hone : ∀ u ∈ (l.take k).map uV, u.oneCell' = true := uV_one
          have hone2 : ∀ u ∈ (l.drop k).map uV, u.oneCell' = true := uV_one
          have hone1 : ∀ u ∈ [uV x], u.oneCell' = true := fun u hu => by simp at hu; subst hu; rfl
          have hcell : ∀ W : World, Below wr.heap.size wr W → ∀ j (hj : j < l.length), W.cell? ⟨b, off + j, none⟩ = some (uV l[j]) := fun W hB j hj => (World.cell?_of_block (a := ⟨b, off + j, none⟩) (hB.block b (hC _ _ (HCs.out j hj).1))).trans (HCs.out j hj).2
          have hn1 : ∀ W : World, Below wr.heap.size wr W → (k = 0 ∧ (some (⟨b, off, none⟩ : Addr)) = none) ∨ ∃ a, some (⟨b, off, none⟩ : Addr) = some a ∧ ∀ j u, ((l.take k).map uV)[j]? = some u → W.cell? (a.add j) = some u := fun W hB => .inr ⟨_, rfl, fun j u h => by
            rw [List.getElem?_map] at h
            obtain ⟨y, hy, rfl⟩ := Option.map_eq_some_iff.1 h
            obtain ⟨hj, rfl⟩ := List.getElem?_eq_some_iff.1 hy
            rw [add_none, List.getElem_take]
            exact hcell W hB j (by simp at hj; omega)⟩
          have hn2 : ∀ W : World, Below wr.heap.size wr W → (l.length - k = 0 ∧ (some (⟨b, off + k, none⟩ : Addr)) = none) ∨ ∃ a, some (⟨b, off + k, none⟩ : Addr) = some a ∧ ∀ j u, ((l.drop k).map uV)[j]? = some u → W.cell? (a.add j) = some u := fun W hB => .inr ⟨_, rfl, fun j u h => by
            rw [List.getElem?_map] at h
            obtain ⟨y, hy, rfl⟩ := Option.map_eq_some_iff.1 h
            obtain ⟨hj, rfl⟩ := List.getElem?_eq_some_iff.1 hy
            rw [add_none, List.getElem_drop, show off + k + j = off + (k + j) by omega]
            exact hcell W hB (k + j) (by simp at hj; omega)⟩
          have HN1 := Lib.hid hn1
          have HN2 := Lib.hid hn2
          have hck : ¬ (cap = k) := by omega
          have hkc : k ≤ cap := by omega
          have hkl : k ≤ l.length := by omega
          have hfin : ∀ v w, w.ownsRow wr.heap.size 24 1 v (k + 1 + (l.length - k)) ((l.take k).map uV ++ ([uV x] ++ (l.drop k).map uV)) → OwnN wr.heap.size w v (srt (xs ++ [x])) := fun v w h => by
            have hi := srt_ins (xs := xs) (x := x) (at_ := k) (by rw [← HLS.out]; omega) (fun j h5 h6 => by
              have h7 : l[k] ≤ (srt xs)[j] := by
                rcases Nat.eq_or_lt_of_le h6 with h8 | h8
                · subst h8; simp only [HLS.out]; exact Nat.le_refl _
                · have := asc_lt (srt_asc xs) h5 h8
                  simp only [HLS.out]; omega
              have := HY.out
              omega) (by
              rcases Nat.eq_zero_or_pos k with h5 | h5
              · exact .inl h5
              · refine .inr ⟨by rw [← HLS.out]; omega, ?_⟩
                have h6 := HJ.out (k - 1) (by omega) (by omega)
                simpa only [HLS.out] using h6)
            rw [hi, ← HLS.out]
            unfold OwnN
            have e : (l.take k ++ x :: l.drop k).length = k + 1 + (l.length - k) := by simp; omega
            rw [e]
            show w.ownsRow wr.heap.size 24 1 v _ (List.map uV _)
            rw [List.map_append, List.map_cons]
            exact h
          have HFIN := Lib.hid hfin
          clear hfin hn1 hn2 hcell
          go_region_law_o (first
            | (refine step_app (.tmp 33) (.tmp 36) 169 rfl rfl Tryz.underlying169 wr.heap.size (.slice (some ⟨_, 0, none⟩) 0 0) 0 [] rfl (own_e0 (by omega) (by first | exact World.alloc_heap_new _ _ | exact World.alloc_heap_new wr _ | exact h_new1 _ _ _ | exact h_new2 _ _ _ | exact h_new1 wr _ _ | exact h_new2 wr _ _)) _ k _ ((l.take k).map uV) rfl (by simp <;> omega) (HN1.out _ (by first | exact bel1 _ _ | exact bel2 _ _ _)) hone (by omega) (by simp <;> omega) ?_
               intro v37 w37 ho37 hg37 hb37
               have b1 : Below wr.heap.size wr w37 := by first | exact (bel1 wr _).grown hg37 (by simp <;> omega) (fun j hj => by simp [Value.ownBlock] at hj; omega) | exact (bel2 wr _ _).grown hg37 (by simp <;> omega) (fun j hj => by simp [Value.ownBlock] at hj; omega))
            | (refine step_app (.tmp 37) (.tmp 39) 169 rfl rfl Tryz.underlying169 wr.heap.size _ (0 + k) ([] ++ (l.take k).map uV) rfl (by first | exact ho37 | exact ho37.alloc _) _ 1 _ [uV x] rfl rfl (.inr ⟨_, rfl, news_one (vt := 24) (by first | exact World.alloc_heap_new w37 _ | exact (hg37.block _ (by simp <;> omega) (by simp [Value.ownBlock] <;> omega)).trans (h_new1 wr _ _) | exact (hg37.block _ (by simp <;> omega) (by simp [Value.ownBlock] <;> omega)).trans (h_new2 wr _ _))⟩) hone1 (by omega) (by have := hg37.size; simp at this ⊢ <;> omega) ?_
               intro v40 w40 ho40 hg40 hb40
               have b2 : Below wr.heap.size wr w40 := by first | exact b1.grown hg40 b1.size (fun j hj => (ho37.lt j hj).1) | exact (b1.alloc b1.size _).grown hg40 (by have := b1.size; simp <;> omega) (fun j hj => (ho37.lt j hj).1))
            | (refine step_app (.tmp 40) (.tmp 43) 169 rfl rfl Tryz.underlying169 wr.heap.size _ (0 + k + 1) ([] ++ (l.take k).map uV ++ [uV x]) rfl ho40 _ (l.length - k) _ ((l.drop k).map uV) rfl (by simp <;> omega) (HN2.out _ b2) hone2 (by omega) b2.size ?_
               intro v44 w44 ho44 hg44 hb44
               have b3 := b2.grown hg44 b2.size fun j hj => (ho40.lt j hj).1))
          all_goals (go_wp2; all_goals (refine bodyPost_ret (results_tmp rfl _ _ _) rfl ?_; exact ⟨v44, rfl, b3, ownN_dat (base := wr.heap.size) (HFIN.out _ _ (by simpa using ho44)) fun b o h1 h2 => .inr ⟨h1, h2⟩⟩))
    · obtain rfl : k = l.length := by omega
      go_wp2_with fail
      have mixed : Tryz.prog.follows .mixedOrders = true := by kernel_rfl
      obtain ⟨ad2, cap2, had2⟩ : ∃ ad2 cap2, (ad2, cap2) = (if cap = l.length then ad else Option.map (fun x => x.add l.length) ad, cap - l.length) := ⟨_, _, rfl⟩
      have hl2 : l.length + 1 ≤ 17179869184 := by omega
      have hone : ∀ u ∈ l.map uV, u.oneCell' = true := uV_one
      have hone1 : ∀ u ∈ [uV x], u.oneCell' = true := fun u hu => by simp at hu; subst hu; rfl
      have hnl : ∀ W : World, Below wr.heap.size wr W → (l.length = 0 ∧ ad = none) ∨ ∃ a, ad = some a ∧ ∀ j u, (l.map uV)[j]? = some u → W.cell? (a.add j) = some u := fun W hB => by
        by_cases h0 : l = []
        · subst h0
          cases ad with
          | none => exact .inl ⟨rfl, rfl⟩
          | some a => exact .inr ⟨a, rfl, fun j u h => by simp at h⟩
        · obtain ⟨b, off, rfl, hc⟩ := HCL.out h0
          refine .inr ⟨_, rfl, fun j u h => ?_⟩
          rw [List.getElem?_map] at h
          obtain ⟨y, hy, rfl⟩ := Option.map_eq_some_iff.1 h
          obtain ⟨hj, rfl⟩ := List.getElem?_eq_some_iff.1 hy
          rw [add_none]
          exact (World.cell?_of_block (a := ⟨b, off + j, none⟩) (hB.block b (hC _ _ (hc j hj).1))).trans (hc j hj).2
      have hnone : (0 = 0 ∧ (if cap = l.length then ad else Option.map (fun x => x.add l.length) ad) = none) ∨ ∃ a, (if cap = l.length then ad else Option.map (fun x => x.add l.length) ad) = some a := by
        cases ad <;> simp
        split <;> simp
      have HNL := Lib.hid hnl
      have HNO := Lib.hid hnone
      clear hnl hnone had2
      have hfin : ∀ v w, w.ownsRow wr.heap.size 24 1 v (l.length + 1) (l.map uV ++ [uV x]) → OwnN wr.heap.size w v (srt (xs ++ [x])) := fun v w h => by
        have hi := srt_ins (xs := xs) (x := x) (at_ := (srt xs).length) (Nat.le_refl _) (fun j h1 h2 => by omega) (by
          rcases Nat.eq_zero_or_pos (srt xs).length with h5 | h5
          · exact .inl h5
          · refine .inr ⟨by omega, ?_⟩
            have h6 := HJ.out ((srt xs).length - 1) (by rw [HLS.out]; omega) (by rw [HLS.out]; omega)
            simpa only [HLS.out] using h6)
        rw [hi, ← HLS.out, List.take_length, List.drop_length]
        unfold OwnN
        rw [List.length_append, List.length_singleton]
        show w.ownsRow wr.heap.size 24 1 v _ (List.map uV _)
        rw [List.map_append]
        exact h
      have HFIN := Lib.hid hfin
      clear hfin
      go_region_law_o (first
        | (refine step_app (.tmp 33) (.tmp 36) 169 rfl rfl Tryz.underlying169 wr.heap.size (.slice (some ⟨_, 0, none⟩) 0 0) 0 [] rfl (own_e0 (by omega) (by first | exact World.alloc_heap_new _ _ | exact World.alloc_heap_new wr _ | exact h_new1 _ _ _ | exact h_new2 _ _ _ | exact h_new1 wr _ _ | exact h_new2 wr _ _)) _ l.length _ (l.map uV) rfl (by simp <;> omega) (HNL.out _ (by first | exact bel1 _ _ | exact bel2 _ _ _)) hone (by omega) (by simp <;> omega) ?_
           intro v37 w37 ho37 hg37 hb37
           have b1 : Below wr.heap.size wr w37 := by first | exact (bel1 wr _).grown hg37 (by simp <;> omega) (fun j hj => by simp [Value.ownBlock] at hj; omega) | exact (bel2 wr _ _).grown hg37 (by simp <;> omega) (fun j hj => by simp [Value.ownBlock] at hj; omega))
        | (refine step_app (.tmp 37) (.tmp 39) 169 rfl rfl Tryz.underlying169 wr.heap.size _ (0 + l.length) ([] ++ l.map uV) rfl (by first | exact ho37 | exact ho37.alloc _) _ 1 _ [uV x] rfl rfl (.inr ⟨_, rfl, news_one (vt := 24) (by first | exact World.alloc_heap_new w37 _ | exact (hg37.block _ (by simp <;> omega) (by simp [Value.ownBlock] <;> omega)).trans (h_new1 wr _ _) | exact (hg37.block _ (by simp <;> omega) (by simp [Value.ownBlock] <;> omega)).trans (h_new2 wr _ _))⟩) hone1 (by omega) (by have := hg37.size; simp at this ⊢ <;> omega) ?_
           intro v40 w40 ho40 hg40 hb40
           have b2 : Below wr.heap.size wr w40 := by first | exact b1.grown hg40 b1.size (fun j hj => (ho37.lt j hj).1) | exact (b1.alloc b1.size _).grown hg40 (by have := b1.size; simp <;> omega) (fun j hj => (ho37.lt j hj).1))
        | (refine step_app (.tmp 40) (.tmp 43) 169 rfl rfl Tryz.underlying169 wr.heap.size _ (0 + l.length + 1) ([] ++ l.map uV ++ [uV x]) rfl ho40 _ 0 _ ([]) rfl (by simp <;> omega) (by rcases HNO.out with h | ⟨a, h⟩; exact .inl h; exact .inr ⟨a, h, fun j u hj => by simp at hj⟩) (by simp) (by omega) b2.size ?_
           intro v44 w44 ho44 hg44 hb44
           have b3 := b2.grown hg44 b2.size fun j hj => (ho40.lt j hj).1))
      all_goals (go_wp2; all_goals (refine bodyPost_ret (results_tmp rfl _ _ _) rfl ?_; exact ⟨v44, rfl, b3, ownN_dat (base := wr.heap.size) (HFIN.out _ _ (by simpa using ho44)) fun b o h1 h2 => .inr ⟨h1, h2⟩⟩))
end Go.Proofs.YtjmhmeadcphfmaaGreatDoor
namespace Go.Proofs.YtjmhmeadcphfmaaGreatDoor
set_option linter.unusedVariables false
set_option linter.unusedSimpArgs false
open Go.RowKit
set_option maxRecDepth 100000
end Go.Proofs.YtjmhmeadcphfmaaGreatDoor
namespace Go.Proofs.YtjmhmeadcphfmaaGreatDoor
set_option linter.unusedVariables false
set_option linter.unusedSimpArgs false
open Go.RowKit
set_option maxRecDepth 100000
theorem RightV.take {v : List En} (h : RightV v) (k : Nat) : RightV (v.take k) := ⟨fun e he => h.1 e (List.mem_of_mem_take he), h.2.sublist (List.take_sublist _ _)⟩
theorem refKnown10_c (v : List En) (r : Nat) (hr : SmV v) : Cn Tryz.prog 155 [vp v, .v (.int .u64 r)] (rg (knV v r)) := by
  have hl := hr.2.1
  refine cn_go Tryz.func155 [] 2 (by kernel_rfl) rfl (by simp [go_sem, seval]) ?_
  conv => arg 4; cbv
  conv => enter [5, 1]; cbv
  try simp (maxSteps := 2000000) (disch := omega) only [go_sem, seval]
  try repeat ((with_reducible refine And.intro ?_ ?_); focus (first | omega | assumption | exact True.intro | (show anyD _ _ = true; exact rfl) | (simp only [List.length_map, List.length_append, List.length_cons, List.length_nil, List.length_take, List.length_drop]; omega)))
  (first | refine callP.mk (refFind_c v r (by omega)) rfl ?_ | refine callQ.mk (refFind_c v r (by omega)) rfl ?_ | refine callO.rd (refFind_c v r (by omega)) rfl ?_ | refine callO.mk (refFind_c v r (by omega)) rfl ?_)
  rcases fdV_spec r v 0 with ⟨e1, e2⟩ | ⟨i, hi, e1, e2⟩
  · rw [e1, knV_none e2]
    try simp (maxSteps := 2000000) (disch := omega) only [go_sem, seval]
    try repeat ((with_reducible refine And.intro ?_ ?_); focus (first | omega | assumption | exact True.intro | (show anyD _ _ = true; exact rfl) | (simp only [List.length_map, List.length_append, List.length_cons, List.length_nil, List.length_take, List.length_drop]; omega)))
  · have hh := hr.2.2 _ (List.getElem_mem hi)
    rw [e1, knV_fd hr.1 hi e2, Nat.zero_add]
    try simp (maxSteps := 2000000) (disch := omega) only [go_sem, seval]
    try repeat ((with_reducible refine And.intro ?_ ?_); focus (first | omega | assumption | exact True.intro | (show anyD _ _ = true; exact rfl) | (simp only [List.length_map, List.length_append, List.length_cons, List.length_nil, List.length_take, List.length_drop]; omega)))
    (first | refine brP.mk (fun h0 => ?_) (fun h0 => ?_) | refine gdP.mkt (fun h0 => ?_) (fun h0 => ?_) | refine gdP.mkf (fun h0 => ?_) (fun h0 => ?_) | refine pkP.mk (fun h0 => ?_) (fun h0 => ?_)) <;> (try simp only [Bool.not_true, Bool.not_false, decide_eq_true_eq, decide_eq_false_iff_not, Bool.and_eq_true, Bool.or_eq_true, Bool.not_eq_true', Bool.not_eq_false', Bool.and_eq_false_iff, Bool.or_eq_false_iff, Nat.not_lt, Int.not_lt, Nat.not_le, Int.not_le, Int.ofNat_lt, Int.ofNat_le, Int.ofNat_inj, Bool.xor_false, Bool.false_xor, Bool.true_xor, Bool.xor_true] at h0) <;> (try simp (maxSteps := 2000000) (disch := omega) only [go_sem, seval]) <;> (try repeat ((with_reducible refine And.intro ?_ ?_); focus (first | omega | assumption | exact True.intro | (show anyD _ _ = true; exact rfl) | (simp only [List.length_map, List.length_append, List.length_cons, List.length_nil, List.length_take, List.length_drop]; omega))))
    · exact absurd h0 (by omega)
    · (first | refine callP.mk (known7_c v[i] (hr.1.1 _ (List.getElem_mem hi)) (by omega)) rfl ?_ | refine callQ.mk (known7_c v[i] (hr.1.1 _ (List.getElem_mem hi)) (by omega)) rfl ?_ | refine callO.rd (known7_c v[i] (hr.1.1 _ (List.getElem_mem hi)) (by omega)) rfl ?_ | refine callO.mk (known7_c v[i] (hr.1.1 _ (List.getElem_mem hi)) (by omega)) rfl ?_)
      try simp (maxSteps := 2000000) (disch := omega) only [go_sem, seval]
      try repeat ((with_reducible refine And.intro ?_ ?_); focus (first | omega | assumption | exact True.intro | (show anyD _ _ = true; exact rfl) | (simp only [List.length_map, List.length_append, List.length_cons, List.length_nil, List.length_take, List.length_drop]; omega)))
def vps (vs : List (List En)) : PV := .sl (vs.map fun v => [vp v]) .sh
attribute [go_sem] vps
end Go.Proofs.YtjmhmeadcphfmaaGreatDoor
namespace Go.Proofs.YtjmhmeadcphfmaaGreatDoor
set_option linter.unusedVariables false
set_option linter.unusedSimpArgs false
open Go.RowKit
set_option maxRecDepth 100000
theorem opS_d0 {x : List Iv} (hx : Nrm x) : opS fMinus x [] = x := opS_eq hx trivial hx fun t _ => by simp [fMinus]
theorem kn0 (r m : Nat) (hm : m < M64) : kn ⟨r, m, []⟩ = [⟨0, m⟩] := opS_d0 (nrm_one (Nat.zero_le _) hm)
def u10 : List En := [⟨1, 4, []⟩, ⟨2, 3, []⟩]
def c10 : List En := [⟨3, 0, []⟩]
theorem BV.sm {n h : Nat} {v : List En} (hv : BV n h v) (h1 : n ≤ 1048576) (h2 : h ≤ 10000) : SmV v := ⟨hv.1, by have := hv.2.1; omega, fun e he => by have := hv.2.2 e he; omega⟩
end Go.Proofs.YtjmhmeadcphfmaaGreatDoor
namespace Go.Proofs.YtjmhmeadcphfmaaGreatDoor
set_option linter.unusedVariables false
set_option linter.unusedSimpArgs false
open Go.RowKit
set_option maxRecDepth 100000
theorem put10_c (xs : List Nat) (x : Nat) (hl : (srt xs).length ≤ 4194304) : Cn Tryz.prog 153 [ns (srt xs), .v (.int .u64 x)] (ns (srt (xs ++ [x]))) := by
  refine cn_memL rfl (enters_of Tryz.func153 (by kernel_rfl) rfl) fun D w vs hG hD hsz hd => ?_
  rw [arr2 hsz, (hd 1 _ rfl).v_inv]
  refine (put_calls D xs x _ w hl (hd 0 _ rfl) hD).mono ?_
  rintro e w' ⟨v, rfl, hb, hv⟩
  exact ⟨v, rfl, hb, hv⟩
theorem srt_len2 {v : List En} {xs : List Nat} {k : Nat} (hv : v.length ≤ 1048576) (hx : xs.length ≤ 1048576) : (srt (xs ++ reps (v.take k))).length ≤ 4194304 := by
  have h1 := srt_len (xs ++ reps (v.take k))
  have h2 : (v.take k).length ≤ 1048576 := Nat.le_trans (List.length_take_le' _ _) hv
  simp only [reps, List.length_append, List.length_map] at h1 h2
  simp only [reps]
  omega
theorem reps_take {v : List En} {k : Nat} (h : k < v.length) : reps (v.take (k + 1)) = reps (v.take k) ++ [v[k].rep] := by
  unfold reps
  rw [List.take_succ_eq_append_getElem h, List.map_append]
  rfl
set_option maxHeartbeats 2000000 in
theorem do10_c (a b : List En) (op : Nat) (ho : op < 3) (ha : SmV a) (hb : SmV b) : Cn Tryz.prog 96 [vp a, vp b, .v (.int .i64 op)] (vp (lat (opb op) a b)) := by
  have la := ha.2.1
  have lb := hb.2.1
  have h0 : opb op false false = false := by
    match op, ho with
    | 0, _ => rfl
    | 1, _ => rfl
    | 2, _ => rfl
  refine cn_goT Tryz.func96 [] 3 (by kernel_rfl) rfl (by simp [go_sem, seval]) 14 (.dr [⟨(some 47), none, (.mv (.t 7))⟩, ⟨(some 48), none, (.mv (.t 11))⟩, ⟨(some 49), none, (.ia (.t 47) (.t 48) 1)⟩, ⟨(some 50), none, (.ld (.t 49) false 1)⟩, ⟨(some 51), none, (.mv (.t 0))⟩, ⟨(some 52), none, (.mv (.t 7))⟩, ⟨(some 53), none, (.mv (.t 11))⟩, ⟨(some 54), none, (.ia (.t 52) (.t 53) 1)⟩, ⟨(some 55), none, (.ld (.t 54) false 1)⟩, ⟨(some 56), none, (.ca 155 [(.t 51), (.t 55)])⟩, ⟨(some 57), none, (.mv (.t 1))⟩, ⟨(some 58), none, (.mv (.t 7))⟩, ⟨(some 59), none, (.mv (.t 11))⟩, ⟨(some 60), none, (.ia (.t 58) (.t 59) 1)⟩, ⟨(some 61), none, (.ld (.t 60) false 1)⟩, ⟨(some 62), none, (.ca 155 [(.t 57), (.t 61)])⟩, ⟨(some 63), none, (.mv (.t 2))⟩, ⟨(some 64), none, (.ca 140 [(.t 56), (.t 62), (.t 63)])⟩, ⟨(some 65), none, (.ca 154 [(.t 50), (.t 64)])⟩, ⟨(some 46), none, (.mv (.t 65))⟩, ⟨(some 66), none, (.ex (.t 46) 0)⟩, ⟨(some 67), none, (.ex (.t 46) 1)⟩] [⟨(some 12), none, (.al [(.v (.int .u64 0)), (.v (.int .u64 0)), (.sl [] .sh)])⟩, ⟨none, none, (.st (.t 12) (.t 66) 3)⟩, ⟨(some 13), none, (.mv (.t 67))⟩]) rfl (by kernel_rfl) ?_
  conv => enter [4, 6]; (unfold codeOf; simp only [Tryz.f96])
  simp only [pcT, Nat.reduceEqDiff, if_false, if_true, reduceIte]
  repeat (conv in (leafC _ _ _ _ _ _) => cbv)
  repeat (conv in (leafP _) => cbv)
  conv => enter [5, 1]; cbv
  try simp (maxSteps := 2000000) (disch := omega) only [go_sem, seval]
  try repeat ((with_reducible refine And.intro ?_ ?_); focus (first | omega | assumption | exact True.intro | (show anyD _ _ = true; exact rfl) | (simp only [List.length_map, List.length_append, List.length_cons, List.length_nil, List.length_take, List.length_drop]; omega)))
  refine pLoop.go (fun k => k ≤ a.length) (fun k => [(7, ns (srt ([] ++ reps (a.take k)))), (8, .v (.int .i64 (k : Nat)))]) (fun _ => []) (fun k => a.length - k) 0 [7, 8] ?_ ?_ ?_
  · exact Nat.zero_le _
  · simp only [List.take_zero, reps, List.map_nil, List.append_nil, srt_nil]
    try simp (maxSteps := 2000000) (disch := omega) only [go_sem, seval]
    try repeat ((with_reducible refine And.intro ?_ ?_); focus (first | omega | assumption | exact True.intro | (show anyD _ _ = true; exact rfl) | (simp only [List.length_map, List.length_append, List.length_cons, List.length_nil, List.length_take, List.length_drop]; omega)))
  · rintro k hk
    try simp (maxSteps := 2000000) (disch := omega) only [go_sem, seval]
    try repeat ((with_reducible refine And.intro ?_ ?_); focus (first | omega | assumption | exact True.intro | (show anyD _ _ = true; exact rfl) | (simp only [List.length_map, List.length_append, List.length_cons, List.length_nil, List.length_take, List.length_drop]; omega)))
    (first | refine brP.mk (fun h => ?_) (fun h => ?_) | refine gdP.mkt (fun h => ?_) (fun h => ?_) | refine gdP.mkf (fun h => ?_) (fun h => ?_) | refine pkP.mk (fun h => ?_) (fun h => ?_)) <;> (try simp only [Bool.not_true, Bool.not_false, decide_eq_true_eq, decide_eq_false_iff_not, Bool.and_eq_true, Bool.or_eq_true, Bool.not_eq_true', Bool.not_eq_false', Bool.and_eq_false_iff, Bool.or_eq_false_iff, Nat.not_lt, Int.not_lt, Nat.not_le, Int.not_le, Int.ofNat_lt, Int.ofNat_le, Int.ofNat_inj, Bool.xor_false, Bool.false_xor, Bool.true_xor, Bool.xor_true] at h) <;> (try simp (maxSteps := 2000000) (disch := omega) only [go_sem, seval]) <;> (try repeat ((with_reducible refine And.intro ?_ ?_); focus (first | omega | assumption | exact True.intro | (show anyD _ _ = true; exact rfl) | (simp only [List.length_map, List.length_append, List.length_cons, List.length_nil, List.length_take, List.length_drop]; omega))))
    · (first | refine callP.mk (put10_c ([] ++ reps (a.take k)) a[k].rep (srt_len2 (xs := []) la (by simp))) rfl ?_ | refine callQ.mk (put10_c ([] ++ reps (a.take k)) a[k].rep (srt_len2 (xs := []) la (by simp))) rfl ?_ | refine callO.rd (put10_c ([] ++ reps (a.take k)) a[k].rep (srt_len2 (xs := []) la (by simp))) rfl ?_ | refine callO.mk (put10_c ([] ++ reps (a.take k)) a[k].rep (srt_len2 (xs := []) la (by simp))) rfl ?_)
      try simp (maxSteps := 2000000) (disch := omega) only [go_sem, seval]
      try repeat ((with_reducible refine And.intro ?_ ?_); focus (first | omega | assumption | exact True.intro | (show anyD _ _ = true; exact rfl) | (simp only [List.length_map, List.length_append, List.length_cons, List.length_nil, List.length_take, List.length_drop]; omega)))
      refine ⟨k + 1, h, by omega, ?_, rfl⟩
      rw [reps_take h]
    · rw [show k = a.length by omega, List.take_length]
      refine pLoop.go (fun k => k ≤ b.length) (fun k => [(7, ns (srt (reps a ++ reps (b.take k)))), (9, .v (.int .i64 (k : Nat)))]) (fun _ => []) (fun k => b.length - k) 0 [7, 9] ?_ ?_ ?_
      · exact Nat.zero_le _
      · simp only [List.take_zero, reps, List.map_nil, List.append_nil]
        try simp (maxSteps := 2000000) (disch := omega) only [go_sem, seval]
        try repeat ((with_reducible refine And.intro ?_ ?_); focus (first | omega | assumption | exact True.intro | (show anyD _ _ = true; exact rfl) | (simp only [List.length_map, List.length_append, List.length_cons, List.length_nil, List.length_take, List.length_drop]; omega)))
      · rintro k hk
        try simp (maxSteps := 2000000) (disch := omega) only [go_sem, seval]
        try repeat ((with_reducible refine And.intro ?_ ?_); focus (first | omega | assumption | exact True.intro | (show anyD _ _ = true; exact rfl) | (simp only [List.length_map, List.length_append, List.length_cons, List.length_nil, List.length_take, List.length_drop]; omega)))
        (first | refine brP.mk (fun h2 => ?_) (fun h2 => ?_) | refine gdP.mkt (fun h2 => ?_) (fun h2 => ?_) | refine gdP.mkf (fun h2 => ?_) (fun h2 => ?_) | refine pkP.mk (fun h2 => ?_) (fun h2 => ?_)) <;> (try simp only [Bool.not_true, Bool.not_false, decide_eq_true_eq, decide_eq_false_iff_not, Bool.and_eq_true, Bool.or_eq_true, Bool.not_eq_true', Bool.not_eq_false', Bool.and_eq_false_iff, Bool.or_eq_false_iff, Nat.not_lt, Int.not_lt, Nat.not_le, Int.not_le, Int.ofNat_lt, Int.ofNat_le, Int.ofNat_inj, Bool.xor_false, Bool.false_xor, Bool.true_xor, Bool.xor_true] at h2) <;> (try simp (maxSteps := 2000000) (disch := omega) only [go_sem, seval]) <;> (try repeat ((with_reducible refine And.intro ?_ ?_); focus (first | omega | assumption | exact True.intro | (show anyD _ _ = true; exact rfl) | (simp only [List.length_map, List.length_append, List.length_cons, List.length_nil, List.length_take, List.length_drop]; omega))))
        · (first | refine callP.mk (put10_c (reps a ++ reps (b.take k)) b[k].rep (srt_len2 (xs := reps a) lb (by simp [reps]; omega))) rfl ?_ | refine callQ.mk (put10_c (reps a ++ reps (b.take k)) b[k].rep (srt_len2 (xs := reps a) lb (by simp [reps]; omega))) rfl ?_ | refine callO.rd (put10_c (reps a ++ reps (b.take k)) b[k].rep (srt_len2 (xs := reps a) lb (by simp [reps]; omega))) rfl ?_ | refine callO.mk (put10_c (reps a ++ reps (b.take k)) b[k].rep (srt_len2 (xs := reps a) lb (by simp [reps]; omega))) rfl ?_)
          try simp (maxSteps := 2000000) (disch := omega) only [go_sem, seval]
          try repeat ((with_reducible refine And.intro ?_ ?_); focus (first | omega | assumption | exact True.intro | (show anyD _ _ = true; exact rfl) | (simp only [List.length_map, List.length_append, List.length_cons, List.length_nil, List.length_take, List.length_drop]; omega)))
          refine ⟨k + 1, h2, by omega, ?_, rfl⟩
          rw [reps_take h2, List.append_assoc]
        · rw [show k = b.length by omega, List.take_length]
          obtain ⟨L, hL⟩ : ∃ L, L = srt (reps a ++ reps b) := ⟨_, rfl⟩
          have hll : L.length ≤ 2097152 := by
            have h1 := srt_len (reps a ++ reps b)
            simp only [reps, List.length_append, List.length_map] at h1
            rw [hL]
            simp only [reps]
            omega
          have hlm : ∀ r ∈ L, r < M64 := by rw [hL]; exact rep_lt ha.1 hb.1
          have hlat : lat (opb op) a b = L.filterMap (latO (opb op) a b) := by rw [hL]; rfl
          rw [← hL, hlat]
          clear hlat hL
          refine pLoop.go (fun k => k ≤ L.length) (fun k => [(10, .sl (((L.take k).filterMap (latO (opb op) a b)).map ec) (.r 72 3)), (11, .v (.int .i64 (k : Nat)))]) (fun _ => []) (fun k => L.length - k) 0 [10, 11, 72] ?_ ?_ ?_
          · exact Nat.zero_le _
          · simp only [List.take_zero, List.filterMap_nil, List.map_nil]
            try simp (maxSteps := 2000000) (disch := omega) only [go_sem, seval]
            try repeat ((with_reducible refine And.intro ?_ ?_); focus (first | omega | assumption | exact True.intro | (show anyD _ _ = true; exact rfl) | (simp only [List.length_map, List.length_append, List.length_cons, List.length_nil, List.length_take, List.length_drop]; omega)))
          · rintro k hk
            have hfl : ((L.take k).filterMap (latO (opb op) a b)).length ≤ k := Nat.le_trans (List.length_filterMap_le _ _) (by simp; omega)
            try simp (maxSteps := 2000000) (disch := omega) only [go_sem, seval]
            try repeat ((with_reducible refine And.intro ?_ ?_); focus (first | omega | assumption | exact True.intro | (show anyD _ _ = true; exact rfl) | (simp only [List.length_map, List.length_append, List.length_cons, List.length_nil, List.length_take, List.length_drop]; omega)))
            (first | refine brP.mk (fun h3 => ?_) (fun h3 => ?_) | refine gdP.mkt (fun h3 => ?_) (fun h3 => ?_) | refine gdP.mkf (fun h3 => ?_) (fun h3 => ?_) | refine pkP.mk (fun h3 => ?_) (fun h3 => ?_)) <;> (try simp only [Bool.not_true, Bool.not_false, decide_eq_true_eq, decide_eq_false_iff_not, Bool.and_eq_true, Bool.or_eq_true, Bool.not_eq_true', Bool.not_eq_false', Bool.and_eq_false_iff, Bool.or_eq_false_iff, Nat.not_lt, Int.not_lt, Nat.not_le, Int.not_le, Int.ofNat_lt, Int.ofNat_le, Int.ofNat_inj, Bool.xor_false, Bool.false_xor, Bool.true_xor, Bool.xor_true] at h3) <;> (try simp (maxSteps := 2000000) (disch := omega) only [go_sem, seval]) <;> (try repeat ((with_reducible refine And.intro ?_ ?_); focus (first | omega | assumption | exact True.intro | (show anyD _ _ = true; exact rfl) | (simp only [List.length_map, List.length_append, List.length_cons, List.length_nil, List.length_take, List.length_drop]; omega))))
            · have ka := knV_sm ha L[k]
              have kb := knV_sm hb L[k]
              have hol : (opS (opb op) (knV a L[k]) (knV b L[k])).length ≤ 80100 := by
                have h1 := opS_length (opb op) (knV a L[k]) (knV b L[k])
                omega
              have hof := of7_c L[k] (opS (opb op) (knV a L[k]) (knV b L[k])) (opS_nrm ka.1 kb.1) (by omega)
              have hst := fm_step (f := opb op) (a := a) (b := b) h3
              obtain ⟨e, ok, hE⟩ : ∃ e ok, ofS L[k] (opS (opb op) (knV a L[k]) (knV b L[k])) = (e, ok) := ⟨_, _, rfl⟩
              rw [latO_eq hE] at hst
              rw [hE] at hof
              (first | refine callP.mk (refKnown10_c a L[k] ha) rfl ?_ | refine callQ.mk (refKnown10_c a L[k] ha) rfl ?_ | refine callO.rd (refKnown10_c a L[k] ha) rfl ?_ | refine callO.mk (refKnown10_c a L[k] ha) rfl ?_)
              try simp (maxSteps := 2000000) (disch := omega) only [go_sem, seval]
              try repeat ((with_reducible refine And.intro ?_ ?_); focus (first | omega | assumption | exact True.intro | (show anyD _ _ = true; exact rfl) | (simp only [List.length_map, List.length_append, List.length_cons, List.length_nil, List.length_take, List.length_drop]; omega)))
              (first | refine callP.mk (refKnown10_c b L[k] hb) rfl ?_ | refine callQ.mk (refKnown10_c b L[k] hb) rfl ?_ | refine callO.rd (refKnown10_c b L[k] hb) rfl ?_ | refine callO.mk (refKnown10_c b L[k] hb) rfl ?_)
              try simp (maxSteps := 2000000) (disch := omega) only [go_sem, seval]
              try repeat ((with_reducible refine And.intro ?_ ?_); focus (first | omega | assumption | exact True.intro | (show anyD _ _ = true; exact rfl) | (simp only [List.length_map, List.length_append, List.length_cons, List.length_nil, List.length_take, List.length_drop]; omega)))
              (first | refine callP.mk (do_c (knV a L[k]) (knV b L[k]) op ka.1 kb.1 ho (by omega) (by omega)) rfl ?_ | refine callQ.mk (do_c (knV a L[k]) (knV b L[k]) op ka.1 kb.1 ho (by omega) (by omega)) rfl ?_ | refine callO.rd (do_c (knV a L[k]) (knV b L[k]) op ka.1 kb.1 ho (by omega) (by omega)) rfl ?_ | refine callO.mk (do_c (knV a L[k]) (knV b L[k]) op ka.1 kb.1 ho (by omega) (by omega)) rfl ?_)
              try simp (maxSteps := 2000000) (disch := omega) only [go_sem, seval]
              try repeat ((with_reducible refine And.intro ?_ ?_); focus (first | omega | assumption | exact True.intro | (show anyD _ _ = true; exact rfl) | (simp only [List.length_map, List.length_append, List.length_cons, List.length_nil, List.length_take, List.length_drop]; omega)))
              cases ok with
              | true =>
                (first | refine callP.mk (hof) rfl ?_ | refine callQ.mk (hof) rfl ?_ | refine callO.rd (hof) rfl ?_ | refine callO.mk (hof) rfl ?_)
                try simp (maxSteps := 2000000) (disch := omega) only [go_sem, seval]
                try repeat ((with_reducible refine And.intro ?_ ?_); focus (first | omega | assumption | exact True.intro | (show anyD _ _ = true; exact rfl) | (simp only [List.length_map, List.length_append, List.length_cons, List.length_nil, List.length_take, List.length_drop]; omega)))
                refine ⟨k + 1, h3, by omega, ?_, rfl⟩
                rw [hst]
                simp
                rfl
              | false =>
                (first | refine callP.mk (hof) rfl ?_ | refine callQ.mk (hof) rfl ?_ | refine callO.rd (hof) rfl ?_ | refine callO.mk (hof) rfl ?_)
                try simp (maxSteps := 2000000) (disch := omega) only [go_sem, seval]
                try repeat ((with_reducible refine And.intro ?_ ?_); focus (first | omega | assumption | exact True.intro | (show anyD _ _ = true; exact rfl) | (simp only [List.length_map, List.length_append, List.length_cons, List.length_nil, List.length_take, List.length_drop]; omega)))
                refine ⟨k + 1, h3, by omega, ?_, rfl⟩
                rw [hst]
                simp
            · rw [show k = L.length by omega, List.take_length]
theorem SmV.g {v : List En} (h : SmV v) : v.length ≤ 1152921504606846976 ∧ ∀ e ∈ v, e.holes.length ≤ 1152921504606846976 := ⟨by have := h.2.1; omega, fun e he => by have := h.2.2 e he; omega⟩
end Go.Proofs.YtjmhmeadcphfmaaGreatDoor
namespace Go.Proofs.YtjmhmeadcphfmaaGreatDoor
set_option linter.unusedVariables false
set_option linter.unusedSimpArgs false
open Go.RowKit
set_option maxRecDepth 100000
theorem WV.smv {C : Nat → List Nat} {R : List Nat} {v : List En} (h : WV C R v) (ok : OkC C R) : SmV v := (h.bv ok.1 ok.2).mono (Nat.le_refl _) (by omega)
theorem few_smv {k : List Fg} (h : fewK k = true) (hr : RightK k) {f : Fg} (hf : f ∈ k) : SmV f.vec := by
  have := fewB_iff.1 ((fewK_iff.1 h).1 f hf).2
  exact ⟨(hr f hf).2, by omega, fun e he => by have := this.1 e he; omega⟩
theorem sl_shape {D : Nat → Nat → Prop} {w : World} {x : Value} {es : List (List PV)} {o : Ow} (h : Dat D w x (.sl es o)) : ∃ s : Sv, x = sv s ∧ s.2.1 = es.length := by
  obtain ⟨ad, cap, sz, b, off, f, e1, _⟩ := (Rel.dat (ρ := fun _ => 0) (nb := 0) h).inv_sl
  exact ⟨(ad, es.length, cap), e1, rfl⟩
theorem kp_row {D : Nat → Nat → Prop} {n0 : Nat} {w : World} {v : Value} {k : List Fg} (h : Dat D w v (kp k)) (hD : ∀ b o, D b o → b < n0) :
    ∃ a cap fs, v = .slice a k.length cap ∧ ∃ hl : fs.length = k.length, RowF n0 w a cap fs ∧ ∀ i (h : i < fs.length), Dat D w (sv fs[i].1) (rg (k[i]'(hl ▸ h)).items) ∧ Dat D w (sv fs[i].2) (vp (k[i]'(hl ▸ h)).vec) := by
  unfold kp at h
  generalize he : k.map fc = es at h
  cases h with
  | sl a cap sz es o b off u hc hz hm ha hsz hd hx =>
    have hl : es.length = k.length := by rw [← he]; simp
    have g : ∀ i (h : i < k.length), es[i]? = some (fc k[i]) := fun i h => by rw [← he]; exact map_at h
    have each : ∀ i, i < k.length → ∃ f : Fv, ∀ h : i < k.length, (sz = 2 ∧ u (i * 2) = sv f.1 ∧ u (i * 2 + 1) = sv f.2) ∧ Dat D w (sv f.1) (rg k[i].items) ∧ Dat D w (sv f.2) (vp k[i].vec) := fun i hi => by
      obtain rfl : 2 = sz := hsz i _ (g i hi)
      have d0 : Dat D w (u (i * 2 + 0)) (rg k[i].items) := hx i _ 0 _ (g i hi) rfl
      have d1 : Dat D w (u (i * 2 + 1)) (vp k[i].vec) := hx i _ 1 _ (g i hi) rfl
      obtain ⟨s0, e0, _⟩ := sl_shape d0
      obtain ⟨s1, e1, _⟩ := sl_shape d1
      rw [e0] at d0
      rw [e1] at d1
      exact ⟨(s0, s1), fun _ => ⟨⟨rfl, e0, e1⟩, d0, d1⟩⟩
    obtain ⟨F, hF⟩ := Go.Deep.choose_lt each
    refine ⟨a, cap, (List.range k.length).map F, by rw [hl], by simp, ⟨by simp; omega, hm, fun hne => ?_⟩, fun i hi => ?_⟩
    · have hpos : 0 < k.length := by
        rcases Nat.eq_zero_or_pos k.length with h0 | h0
        · rw [h0] at hne; simp at hne
        · exact h0
      obtain ⟨⟨rfl, _⟩, _⟩ := hF 0 hpos hpos
      have hes : es ≠ [] := by intro e; subst e; simp at hl; omega
      refine ⟨b, off, ha hes, hD _ _ (hd 0 (by omega)).1, fun i hi => ?_⟩
      have hi' : i < k.length := by simpa using hi
      obtain ⟨⟨_, e0, e1⟩, _⟩ := hF i hi' hi'
      have c0 := (hd (i * 2) (by omega)).2.1
      have c1 := (hd (i * 2 + 1) (by omega)).2.1
      rw [e0] at c0
      rw [e1] at c1
      simp only [List.getElem_map, List.getElem_range]
      exact ⟨c0, c1⟩
    · have hi' : i < k.length := by simpa using hi
      simp only [List.getElem_map, List.getElem_range]
      exact (hF i hi' hi').2
theorem wl_mem {hit : Nat → Bool} {p : Nat × Fv} : ∀ {l : List Fv} {n : Nat}, p ∈ wl hit n l → ∃ h : p.1 - n < l.length, n ≤ p.1 ∧ p.2 = l[p.1 - n] ∧ hit p.1 = true
  | [], n, h => by cases h
  | f :: l, n, h => by
    unfold wl at h
    have rst : p ∈ wl hit (n + 1) l → ∃ h : p.1 - n < (f :: l).length, n ≤ p.1 ∧ p.2 = (f :: l)[p.1 - n] ∧ hit p.1 = true := fun h => by
      obtain ⟨h1, h2, h3, h4⟩ := wl_mem h
      refine ⟨by simp; omega, by omega, ?_, h4⟩
      rw [h3]
      have e : p.1 - n = (p.1 - (n + 1)) + 1 := by omega
      simp only [e, List.getElem_cons_succ]
    split at h
    · rename_i hh
      rcases List.mem_cons.1 h with rfl | h
      · exact ⟨by simp, Nat.le_refl _, by simp, hh⟩
      · exact rst h
    · exact rst h
theorem fold_same {α : Type} {k : List Fg} {fs : List Fv} (hl : fs.length = k.length) (item : Nat) (step : α → Nat → Fg → α) (a0 : α) :
    (wl (fun j => mem (k.getD j default).items item) 0 fs).foldl (fun a p => step a p.1 (k.getD p.1 default)) a0 = (withF item 0 k).foldl (fun a p => step a p.1 p.2) a0 := by
  have key : ∀ j, j ≤ k.length → (wl (fun j => mem (k.getD j default).items item) 0 (fs.take j)).foldl (fun a p => step a p.1 (k.getD p.1 default)) a0 = (withF item 0 (k.take j)).foldl (fun a p => step a p.1 p.2) a0 := by
    intro j
    induction j with
    | zero => intro _; rfl
    | succ j ih =>
      intro hj
      rw [wl_take (by omega), withF_take item (by omega), List.foldl_append, List.foldl_append, ih (by omega)]
      have e : k.getD j default = k[j] := by simp [List.getD_eq_getElem?_getD, List.getElem?_eq_getElem (show j < k.length by omega)]
      simp only [e]
      split
      · show step _ j (k.getD j default) = step _ j k[j]
        rw [e]
      · rfl
  have := key k.length (Nat.le_refl _)
  rwa [← hl, List.take_length, hl, List.take_length] at this
theorem fold_all {α : Type} {k : List Fg} {fs : List Fv} (hl : fs.length = k.length) (step : α → Fg → α) (a0 : α) :
    (wl (fun _ => true) 0 fs).foldl (fun a p => step a (k.getD p.1 default)) a0 = k.foldl step a0 := by
  have key : ∀ j, j ≤ k.length → (wl (fun _ => true) 0 (fs.take j)).foldl (fun a p => step a (k.getD p.1 default)) a0 = (k.take j).foldl step a0 := by
    intro j
    induction j with
    | zero => intro _; rfl
    | succ j ih =>
      intro hj
      rw [wl_take (by omega), List.take_succ_eq_append_getElem (by omega), List.foldl_append, List.foldl_append, ih (by omega)]
      have e : k.getD j default = k[j] := by simp [List.getD_eq_getElem?_getD, List.getElem?_eq_getElem (show j < k.length by omega)]
      show step _ (k.getD j default) = step _ k[j]
      rw [e]
  have := key k.length (Nat.le_refl _)
  rwa [← hl, List.take_length, hl, List.take_length] at this
def withP (k : List Fg) (i : Nat) : PV := .fn (.func 133) [] [.cp [kp k] 0, .cp [.v (.int .u64 i)] 0]
def allP (k : List Fg) : PV := .fn (.func 137) [] [.cp [kp k] 0]
attribute [go_sem] withP allP
theorem kwith_c (k : List Fg) (i : Nat) : Cn Tryz.prog 75 [kp k, .v (.int .u64 i)] (withP k i) := by
  refine cn_go Tryz.func75 [] 2 (by kernel_rfl) rfl (by simp [go_sem, seval]) ?_
  conv => arg 4; cbv
  conv => enter [5, 1]; cbv
  try simp (maxSteps := 2000000) (disch := omega) only [go_sem, seval]
  try repeat ((with_reducible refine And.intro ?_ ?_); focus (first | omega | assumption | exact True.intro | (show anyD _ _ = true; exact rfl) | (simp only [List.length_map, List.length_append, List.length_cons, List.length_nil, List.length_take, List.length_drop]; omega)))
theorem kall_c (k : List Fg) : Cn Tryz.prog 78 [kp k] (allP k) := by
  refine cn_go Tryz.func78 [] 1 (by kernel_rfl) rfl (by simp [go_sem, seval]) ?_
  conv => arg 4; cbv
  conv => enter [5, 1]; cbv
  try simp (maxSteps := 2000000) (disch := omega) only [go_sem, seval]
  try repeat ((with_reducible refine And.intro ?_ ?_); focus (first | omega | assumption | exact True.intro | (show anyD _ _ = true; exact rfl) | (simp only [List.length_map, List.length_append, List.length_cons, List.length_nil, List.length_take, List.length_drop]; omega)))
theorem items1_c (l : List Iv) (i : Nat) (f : Fg) (hl : Nrm l) (hf : Nrm f.items) (h : l.length + f.items.length ≤ 1073741824) : Cn Tryz.prog 79 [rg l, .v (.int .i64 i), fp f] (rg (opS fUnion l f.items)) := by
  refine cn_go Tryz.func79 [] 3 (by kernel_rfl) rfl (by simp [go_sem, seval]) ?_
  conv => arg 4; cbv
  conv => enter [5, 1]; cbv
  try simp (maxSteps := 2000000) (disch := omega) only [go_sem, seval]
  try repeat ((with_reducible refine And.intro ?_ ?_); focus (first | omega | assumption | exact True.intro | (show anyD _ _ = true; exact rfl) | (simp only [List.length_map, List.length_append, List.length_cons, List.length_nil, List.length_take, List.length_drop]; omega)))
  (first | refine callP.mk (union_c l f.items hl hf h) rfl ?_ | refine callQ.mk (union_c l f.items hl hf h) rfl ?_ | refine callO.rd (union_c l f.items hl hf h) rfl ?_ | refine callO.mk (union_c l f.items hl hf h) rfl ?_)
  try simp (maxSteps := 2000000) (disch := omega) only [go_sem, seval]
  try repeat ((with_reducible refine And.intro ?_ ?_); focus (first | omega | assumption | exact True.intro | (show anyD _ _ = true; exact rfl) | (simp only [List.length_map, List.length_append, List.length_cons, List.length_nil, List.length_take, List.length_drop]; omega)))
theorem at1_c (v : List En) (i : Nat) (f : Fg) (hv : SmV v) (hf : SmV f.vec) : Cn Tryz.prog 93 [vp v, .v (.int .i64 i), fp f] (vp (lat fUnion v f.vec)) := by
  refine cn_go Tryz.func93 [] 3 (by kernel_rfl) rfl (by simp [go_sem, seval]) ?_
  conv => arg 4; cbv
  conv => enter [5, 1]; cbv
  try simp (maxSteps := 2000000) (disch := omega) only [go_sem, seval]
  try repeat ((with_reducible refine And.intro ?_ ?_); focus (first | omega | assumption | exact True.intro | (show anyD _ _ = true; exact rfl) | (simp only [List.length_map, List.length_append, List.length_cons, List.length_nil, List.length_take, List.length_drop]; omega)))
  (first | refine callP.mk (lUnion_c v f.vec hv hf) rfl ?_ | refine callQ.mk (lUnion_c v f.vec hv hf) rfl ?_ | refine callO.rd (lUnion_c v f.vec hv hf) rfl ?_ | refine callO.mk (lUnion_c v f.vec hv hf) rfl ?_)
  try simp (maxSteps := 2000000) (disch := omega) only [go_sem, seval]
  try repeat ((with_reducible refine And.intro ?_ ?_); focus (first | omega | assumption | exact True.intro | (show anyD _ _ = true; exact rfl) | (simp only [List.length_map, List.length_append, List.length_cons, List.length_nil, List.length_take, List.length_drop]; omega)))
end Go.Proofs.YtjmhmeadcphfmaaGreatDoor
