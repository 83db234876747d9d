import Derived.Test.YtjimggclhlnfbaaGreatB17
set_option linter.unusedVariables false
set_option linter.unusedSimpArgs false
set_option maxRecDepth 100000
namespace Go.Proofs.YtjimggclhlnfbaaGreat
open Go.RowKit
def OkX (C : Nat -> List Nat) (R : List Nat) : Prop := (∀ r, (C r).length <= 9000) /\ R.length <= 1000
theorem OkX.c {C : Nat -> List Nat} {R : List Nat} (h : OkX C R) : OkC C R := ⟨h.1, by have := h.2; omega⟩
structure Kn (C : Nat -> List Nat) (R : List Nat) (n : Nat) (k : List Fg) : Prop where
 r : RightK k
 ik : IK C R k
 s : ∀ f ∈ k, SmV f.vec
 m : sumI k <= n
 l : k.length <= n
theorem Kn.z {C : Nat -> List Nat} {R : List Nat} {n : Nat} {k : List Fg} (h : Kn C R n k) (hn : n <= 400000) : SzK k :=
 ⟨by have := h.l; omega, fun f hf => ⟨by have := sumI_mem hf; have := h.m; omega, by have := (h.s f hf).2.1; omega, fun e he => by have := (h.s f hf).2.2 e he; omega⟩⟩
theorem Kn.ok12 {C : Nat -> List Nat} {R : List Nat} {n : Nat} {k : List Fg} (h : Kn C R n k) (ok : OkX C R) (hn : n <= 400000) : Ok12 C R k :=
 ⟨h.r, h.z hn, by have := h.l; omega, by have := CI_sum k; have := h.m; omega, fun f hf => by have := sumI_mem hf; have := h.m; omega, h.ik, ok.c, h.s⟩
theorem Kn.mono {C C' : Nat -> List Nat} {R R' : List Nat} {n m : Nat} {k : List Fg} (h : Kn C R n k) (hC : ∀ r x, x ∈ C r -> x ∈ C' r) (hR : ∀ x ∈ R, x ∈ R') (hn : n <= m) : Kn C' R' m k :=
 ⟨h.r, fun f hf => (h.ik f hf).mono hC hR, h.s, by have := h.m; omega, by have := h.l; omega⟩
theorem sumI_few : ∀ {k : List Fg}, (∀ f ∈ k, f.items.length <= 20) -> sumI k <= k.length * 20
 | [], _ => Nat.zero_le _
 | f :: k, h => by
   have h1 := sumI_few (k := k) fun g hg => h g (by simp [hg])
   have h2 := h f (by simp)
   simp only [sumI, List.length_cons]; omega
theorem Kn.few {k : List Fg} (h : fewK k = true) (hr : RightK k) : Kn (CK k) (RK k) 240 k := by
 have h1 := fewK_get h
 have h2 := sumI_few fun f hf => (h1.2 f hf).1
 exact ⟨hr, hr.ik, fun f hf => few_smv h hr hf, by omega, by omega⟩
theorem okX_few {k : List Fg} (h : fewK k = true) (hr : RightK k) : OkX (CK k) (RK k) := by
 have := fewK_len h hr
 exact ⟨fun r => by have := this.1 r; omega, by omega⟩
theorem Kn.refine {C : Nat -> List Nat} {R : List Nat} {n : Nat} {k : List Fg} (h : Kn C R n k) (ok : OkX C R) : Kn C R (1 + 2 * n) (refineK k) := by
 have h1 := pieces_len k
 have h2 := CI_sum k
 have h3 := h.m
 have hw := h.ik.refine
 refine ⟨refineK_right h.r, fun f hf => (hw f hf).iv, fun f hf => (hw f hf).smv ok.c, ?_, ?_⟩
 ·unfold refineK; rw [sumI_ones]; omega
 ·unfold refineK; rw [List.length_map]; omega
theorem Kn.group {C : Nat -> List Nat} {R : List Nat} {n : Nat} {k : List Fg} (h : Kn C R n k) (ok : OkX C R) : Kn C R n (groupK k) := by
 have h1 := groupK_sum h.r
 have hw : ∀ g ∈ groupK k, WV C R g.vec := fun g hg => by
  obtain ⟨f, hf, e⟩ := h1.2.2 g hg
  rw [e]
  exact (h.ik f hf).canVec
 exact ⟨(group_gi h.r).right, fun g hg => (hw g hg).iv, fun g hg => (hw g hg).smv ok.c, by have := h.m; omega, by have := h.l; omega⟩
theorem Kn.take {C : Nat -> List Nat} {R : List Nat} {n : Nat} {k : List Fg} (h : Kn C R n k) (j : Nat) : Kn C R n (k.take j) := by
 refine ⟨h.r.take j, h.ik.take j, fun f hf => h.s f (List.mem_of_mem_take hf), ?_, ?_⟩
 ·have h1 := sumI_app (k.take j) (k.drop j)
  rw [List.take_append_drop] at h1
  have := h.m; omega
 ·have := h.l
  have := List.length_take_le j k
  have := List.length_take_le' j k
  omega
end Go.Proofs.YtjimggclhlnfbaaGreat
namespace Go.Proofs.YtjimggclhlnfbaaGreat
open Go.RowKit
attribute [-go_sem] nat_succ
theorem addOk_of {C : Nat -> List Nat} {R : List Nat} {n j : Nat} {k : List Fg} (h : Kn C R n k) (ok : OkX C R) (hn : n <= 400000) (hj : j < k.length) (hne : ¬ (canVec k[j].vec = [] \/ k[j].items = [])) : AddOk (groupK (k.take j)) ⟨k[j].items, canVec k[j].vec⟩ := by
 have ht := h.take j
 have hg := ht.group ok
 have gi := group_gi ht.r
 have hm := List.getElem_mem hj
 have hw := (h.ik _ hm).canVec
 have hs := groupK_sum ht.r
 have hv : ∀ g ∈ groupK (k.take j), WV C R g.vec := fun g hg => by
  obtain ⟨f, hf, e⟩ := hs.2.2 g hg
  rw [e]; exact (ht.ik f hf).canVec
 exact ⟨gi, canVec_ok (h.r _ hm) hne, by have := hg.l; omega, by have := sumI_mem hm; have := h.m; show k[j].items.length <= _; omega, fun g h1 => by have := sumI_mem h1; have := hg.m; omega, hw.can.bd, fun g h1 => (gi.ok g h1).1.bd, hw.nlen ok.1 (by have := ok.2; omega), fun g h1 => (hv g h1).nlen ok.1 (by have := ok.2; omega)⟩
theorem wp_callm {P : Program} {f : FuncId} {t : Tmp} {p : Value} {xs : List Operand} {c : Call} {o : Oper} {a : Act} {w : World} {K : Act -> World -> Prop} {Q : Exit -> Act -> World -> Prop} (ho : o.op = .call c) (hc : c.callee = .value (.tmp t)) (hv : a.eval (.tmp t) = .func (.func f) #[p] #[]) (ha : c.args.toList = xs)
 (he : ∀ args w, (callFunc f args).run P w = .ok (.enter f args) w)
 (h : Calls P f (p :: xs.map a.eval).toArray w fun e w'' => match e with | .returned v => K (a.put o.dst v) w'' | .panicked chain => Q (.panic chain) a w'' | .outgrown => LetsOut Q) : o.wp P a w K Q := by
 have hr : (execOp a.eval o).run P w = .ok (.enter f (p :: xs.map a.eval).toArray) w := by
  have e : c.args.map a.eval = (xs.map a.eval).toArray := Array.toList_inj.1 (by rw [Array.toList_map, ha])
  simp only [execOp, ho, resolve, hc, e, hv, Deferred.ofValue, Sem.run_bind, Sem.run_pure, Result.andThen_ok, invoke]
  rw [show (#[p] ++ (xs.map a.eval).toArray ++ #[] : Array Value) = (p :: xs.map a.eval).toArray from by simp]
  exact he _ _
 unfold Oper.wp
 rw [hr, Oper.upon_enter]
 exact h.mono (fun e w' h => by cases e <;> exact h)
set_option maxHeartbeats 4000000 in
theorem group_calls {B : Nat -> List Nat} {R : List Nat} {n : Nat} (C : Nat -> Nat -> Prop) (k : List Fg) (vk : Value) (w : World) (hk : Kn B R n k) (ok : OkX B R) (hn : n <= 400000) (rk : Dat C w vk (kp k)) (hC : ∀ b o, C b o -> b < w.heap.size) (hG : GL C w) :
 Calls Tryz.prog 19 #[vk] w fun e w' => ∃ v, e = .returned v /\ Keep (fun b => w.heap.size <= b) w w' /\ Dat (DL C w.heap.size w') w' v (kp (groupK k)) := by
 have hmf : ∀ (fn : Fn) (first cap : Array Value) (w : World), (Instr.makeFunc fn first cap).run Tryz.prog w = .ok (.func fn first cap) w := fun _ _ _ _ => rfl
 obtain ⟨aa, ca, fs, rfl, hl, hrow, hfs⟩ := kp_row rk hC
 have hkl := hk.l
 have HK := Lib.hid hk
 have HROW := Lib.hid hrow
 have HFS := Lib.hid hfs
 have HGL := Lib.hid hG
 have hca := hrow.1
 have hcm := hrow.2.1
 unfold maxLen at hcm
 rw [hl] at hca
 have hent : ∀ args w, (callFunc 39 args).run Tryz.prog w = .ok (.enter 39 args) w := enters_of Tryz.func39 (by kernel_rfl) rfl
 have HEN := Lib.hid hent
 clear rk hrow hfs hG hent hk
 go_enter Tryz.func19, Tryz.ntmps19
 go_wp2_with fail
 go_loopg [11] k.length (fun g x wr => ∃ j u, j <= k.length /\ g = k.length - j /\ x = .int .i64 j /\ Boxed wr w.heap.size 62 u /\ OutG C (w.heap.size + 1) (w.heap.size + 2) wr u (groupK (k.take j)) /\ Keep (fun b => w.heap.size <= b) w wr)
 case atStart => exact ⟨0, _, Nat.zero_le _, rfl, rfl, World.alloc_heap_new w _, OutG.start _ _ _ _, (Keep.refl _ w).alloc _⟩
 case round =>
  obtain ⟨j, u, hj, rfl, rfl, hbx, hout, hkr⟩ := hrel
  have HBX := Lib.hid hbx
  have HOUT := Lib.hid hout
  have HKR := Lib.hid hkr
  have hrw := hbx.lt
  have cb := hbx.cell
  clear hbx hout hkr
  by_cases hlt : j < k.length
  ·have hltf : j < fs.length := by omega
   obtain ⟨bb, off, rfl, hbn, hcel⟩ := HROW.out.2.2 (by intro e; subst e; simp at hltf)
   obtain ⟨c0, c1⟩ := hcel j hltf
   obtain ⟨d0, d1⟩ := HFS.out j hltf
   replace c0 := (HKR.out.cell (p := ⟨bb, off + j * 2, none⟩) (by show bb < _; omega) (by show ¬ w.heap.size <= bb; omega)).trans c0
   replace c1 := (HKR.out.cell (p := ⟨bb, off + j * 2 + 1, none⟩) (by show bb < _; omega) (by show ¬ w.heap.size <= bb; omega)).trans c1
   have HAO := Lib.hid (fun hne => addOk_of HK.out ok hn hlt hne)
   have HGT := Lib.hid (groupK_take hlt)
   have hfm := List.getElem_mem hlt
   have hsm := HK.out.s _ hfm
   have hfr := HK.out.r _ hfm
   have hil : k[j].items.length <= 400000 := by have := sumI_mem hfm; have := HK.out.m; omega
   generalize k[j] = f at *
   generalize fs[j] = q at *
   obtain ⟨ai, ci, e0⟩ := rg_slice d0
   obtain ⟨av, cv, e1⟩ := vp_slice d1
   rw [e0] at c0 d0
   rw [e1] at c1 d1
   have hCr : ∀ b o, C b o -> b < wr.heap.size := fun b o h => by have := hC b o h; omega
   have hGr : GL C wr := HGL.out.mono (fun _ _ h => h) fun b o x hc hx => HKR.out.cell_some hx (by have := hC b o hc; show ¬ w.heap.size <= b; omega)
   have hdm : ∀ (x : Value) (p : PV), Dat C w x p -> ∀ W, Below wr.heap.size wr W -> Dat C W x p := fun x p h W hW => h.mono (fun _ _ h => h) fun b o x hc hx => (World.cell?_of_block (a := ⟨b, o, none⟩) (hW.block b (hCr b o hc))).trans (HKR.out.cell_some hx (by have := hC b o hc; show ¬ w.heap.size <= b; omega))
   have hGW : ∀ W, Below wr.heap.size wr W -> GL C W := fun W hW => hGr.mono (fun _ _ h => h) fun b o x hc hx => (World.cell?_of_block (a := ⟨b, o, none⟩) (hW.block b (hCr b o hc))).trans hx
   have hcan : ∀ W, Below wr.heap.size wr W -> Calls Tryz.prog 40 #[.slice av f.vec.length cv] W fun e w' => ∃ a c, e = .returned (.slice a (canVec f.vec).length c) /\ Below W.heap.size W w' /\ Dat (fun b o => C b o \/ (W.heap.size <= b /\ b < w'.heap.size)) w' (.slice a (canVec f.vec).length c) (vp (canVec f.vec)) := fun W hW => by
    refine (cn_w (D := C) (vcanon_c f.vec hfr.2 hsm.2.1 hsm.2.2) (hGW W hW) (fun b o h => Nat.lt_of_lt_of_le (hCr b o h) hW.size) rfl (fun i p hp => ?_)).mono ?_
    ·match i, hp with
     | 0, hp => cases hp; exact hdm _ _ d1 W hW
     | i + 1, hp => simp at hp
    ·rintro e w' ⟨v, rfl, hb, hd⟩
     obtain ⟨a, c, rfl⟩ := vp_slice hd
     exact ⟨a, c, rfl, hb, hd⟩
   have HCAN := Lib.hid hcan
   have HD0 := Lib.hid d0
   have HDM := Lib.hid hdm
   have HGW := Lib.hid hGW
   have HCR := Lib.hid hCr
   clear hcan d0 d1 hdm hGW hCr hGr hcel hfm hsm hfr e0 e1
   have tokA : True := trivial
   by_cases h1 : 0 < (canVec f.vec).length
   ·by_cases h2 : 0 < f.items.length
    ·go_wp2_with (first
      | (go_at_call 40; have _t := tokA; refine (HCAN.out _ ((Below.refl _ _).alloc (Nat.le_refl _) _)).mono ?_; rintro e w3 ⟨a3, n3, rfl, hb3, hd3⟩
         have hx3 : w3.heap[wr.heap.size]? = some (.cells #[.slice ai f.items.length ci, .slice av f.vec.length cv] 39 (0, 0)) := (hb3.block _ (by simp)).trans (World.alloc_heap_new wr _)
         have f0 := (cells_of hx3 0 _ rfl).1
         have HB3 := Lib.hid (((Below.refl _ wr).alloc (Nat.le_refl _) _).trans (hb3.mono (by simp)))
         have hs3 := hb3.size
         simp only [World.size_alloc] at hs3
         have HD3 := Lib.hid hd3
         clear hb3 hd3 hx3 tokA)
      | go_in)
     refine wp_callm (t := 27) (xs := [.tmp 31]) rfl rfl rfl rfl HEN.out ?_
     have hne : ¬ (canVec f.vec = [] \/ f.items = []) := fun e => by
      rcases e with e | e
      ·rw [e] at h1; simp at h1
      ·rw [e] at h2; simp at h2
     have hsu := HOUT.out.owns
     refine (addG_calls (C := C) (base := w.heap.size + 2) (rb := w.heap.size) (v := u) (o := groupK (k.take j)) (f := ⟨f.items, canVec f.vec⟩) (va := .slice ai f.items.length ci) (vv := .slice a3 (canVec f.vec).length n3) (HAO.out hne) (HOUT.out.keep (by omega) fun b hb => HB3.out.block b hb) ((HB3.out.block _ hrw).trans HBX.out) (by omega) (by omega) hC (HGW.out _ HB3.out) ?_ ?_).mono ?_
     ·exact (HDM.out _ _ HD0.out _ HB3.out).mono (fun b o h => ⟨.inl h, fun e => by have := (hsu b e).1; have := hC b o h; omega⟩) fun _ _ _ _ h => h
     ·refine HD3.out.mono (fun b o h => ?_) fun _ _ _ _ h => h
      rcases h with h | h
      ·exact ⟨.inl h, fun e => by have := (hsu b e).1; have := hC b o h; omega⟩
      ·simp only [World.size_alloc] at h
       exact ⟨.inr ⟨by omega, h.2⟩, fun e => by have := (hsu b e).2; omega⟩
     rintro e w4 ⟨⟨u', rfl⟩, v', hbx4, hout4, hk4⟩
     have HBX4 := Lib.hid hbx4
     have HOUT4 := Lib.hid hout4
     have HK4 := Lib.hid hk4
     clear hbx4 hout4 hk4
     dsimp only
     go_wp2_with fail
     go_roundg (k.length - (j + 1))
     case measure => omega
     case rel =>
      refine ⟨j + 1, v', hlt, rfl, by simp, HBX4.out, ?_, (HKR.out.trans (Keep.of_below' HB3.out (Nat.le_refl _))).trans (HK4.out.mono fun b _ h => by omega)⟩
      rw [HGT.out, grp1, if_neg hne]
      exact HOUT4.out
    ·have h0 : f.items = [] := by cases hf : f.items with | nil => rfl | cons a l => rw [hf] at h2; simp at h2
     have H0 := Lib.hid h0
     clear h0
     go_wp2_with (first
      | (go_at_call 40; have _t := tokA; refine (HCAN.out _ ((Below.refl _ _).alloc (Nat.le_refl _) _)).mono ?_; rintro e w3 ⟨a3, n3, rfl, hb3, hd3⟩
         have hx3 : w3.heap[wr.heap.size]? = some (.cells #[.slice ai f.items.length ci, .slice av f.vec.length cv] 39 (0, 0)) := (hb3.block _ (by simp)).trans (World.alloc_heap_new wr _)
         have f0 := (cells_of hx3 0 _ rfl).1
         have HB3 := Lib.hid (((Below.refl _ wr).alloc (Nat.le_refl _) _).trans (hb3.mono (by simp)))
         have hs3 := hb3.size
         simp only [World.size_alloc] at hs3
         clear hb3 hd3 hx3 tokA)
      | go_in)
     go_roundg (k.length - (j + 1))
     case measure => omega
     case rel =>
      refine ⟨j + 1, u, hlt, rfl, by simp, (HB3.out.block _ hrw).trans HBX.out, ?_, HKR.out.trans (Keep.of_below' HB3.out (Nat.le_refl _))⟩
      rw [HGT.out, grp1, if_pos (.inr H0.out)]
      exact HOUT.out.keep (by omega) fun b hb => HB3.out.block b hb
   ·have h0 : canVec f.vec = [] := by cases hf : canVec f.vec with | nil => rfl | cons a l => rw [hf] at h1; simp at h1
    have H0 := Lib.hid h0
    clear h0
    go_wp2_with (first
     | (go_at_call 40; have _t := tokA; refine (HCAN.out _ ((Below.refl _ _).alloc (Nat.le_refl _) _)).mono ?_; rintro e w3 ⟨a3, n3, rfl, hb3, hd3⟩
        have HB3 := Lib.hid (((Below.refl _ wr).alloc (Nat.le_refl _) _).trans (hb3.mono (by simp)))
        have hs3 := hb3.size
        simp only [World.size_alloc] at hs3
        clear hb3 hd3 tokA)
     | go_in)
    go_roundg (k.length - (j + 1))
    case measure => omega
    case rel =>
     refine ⟨j + 1, u, hlt, rfl, by simp, (HB3.out.block _ hrw).trans HBX.out, ?_, HKR.out.trans (Keep.of_below' HB3.out (Nat.le_refl _))⟩
     rw [HGT.out, grp1, if_pos (.inl H0.out)]
     exact HOUT.out.keep (by omega) fun b hb => HB3.out.block b hb
  ·obtain rfl : j = k.length := by omega
   go_wp2_with fail
   refine bodyPost_ret (results_tmp rfl _ _ _) rfl ?_
   have h := HOUT.out.dat (by omega)
   rw [List.take_length] at h
   exact ⟨_, rfl, HKR.out, h.mono (fun b o h => h.imp id fun h => ⟨by omega, h.2⟩) fun _ _ _ _ h => h⟩
theorem group_c {B : Nat -> List Nat} {R : List Nat} {n : Nat} (k : List Fg) (hk : Kn B R n k) (ok : OkX B R) (hn : n <= 400000) : Cn Tryz.prog 19 [kp k] (kp (groupK k)) := by
 refine cn_memL rfl (enters_of Tryz.func19 (by kernel_rfl) rfl) fun D w vs hG hD hsz hd => ?_
 rw [arr1' hsz]
 refine (group_calls D k _ w hk ok hn (hd 0 _ rfl) hD hG).mono ?_
 rintro e w' ⟨v, rfl, hb, hv⟩
 exact ⟨v, rfl, hb.below (Nat.le_refl _) fun _ h h' => by omega, hv.mono (fun _ _ h => h.imp id fun h => ⟨Nat.le_of_lt h.1, h.2⟩) fun _ _ _ _ h => h⟩
theorem OutG.at {C : Nat -> Nat -> Prop} {mb base : Nat} {w : World} {ad : Option Addr} {cap : Nat} {o : List Fg} (h : OutG C mb base w (.slice ad o.length cap) o) {i : Nat} (hi : i < o.length) :
 ∃ g ai ci av cv cur, ad = some ⟨g, 0, none⟩ /\ base <= g /\ w.heap[g]? = some (.cells cur 39 (0, 0)) /\ w.cell? ⟨g, i * 2, none⟩ = some (.slice ai o[i].items.length ci) /\ w.cell? ⟨g, i * 2 + 1, none⟩ = some (.slice av o[i].vec.length cv) /\
  Dat (DX C mb w (.slice ad o.length cap)) w (.slice ai o[i].items.length ci) (rg o[i].items) /\ Dat (DX C mb w (.slice ad o.length cap)) w (.slice av o[i].vec.length cv) (vp o[i].vec) := by
 obtain ⟨xs, hxs, hel⟩ := h
 obtain ⟨a, b, ea, eb, da, db⟩ := hel i hi
 obtain ⟨g, cap', cur, ev, hgb, hgl, hgc, _⟩ := hxs.cases.resolve_left (fun h => by omega)
 obtain ⟨rfl, _, rfl⟩ : ad = some ⟨g, 0, none⟩ /\ o.length = o.length /\ cap = cap' := by simpa using ev
 have hc : ∀ j x, xs[j]? = some x -> w.cell? ⟨g, j, none⟩ = some x := fun j x hx => by
  have := World.ownsRow.cells hxs.1 (g := g) rfl j x hx
  rw [add_none, Nat.zero_add] at this
  exact this
 obtain ⟨ai, ci, rfl⟩ := rg_slice da
 obtain ⟨av, cv, rfl⟩ := vp_slice db
 exact ⟨g, ai, ci, av, cv, cur, rfl, hgb, hgc, hc _ _ ea, hc _ _ eb, da, db⟩
end Go.Proofs.YtjimggclhlnfbaaGreat
namespace Go.Proofs.YtjimggclhlnfbaaGreat
open Go.RowKit
theorem few12 : fewK k12 = true := by decide
set_option maxHeartbeats 2000000 in
theorem alive12_c : Cn Tryz.prog 9 [] (.v (.bool true)) := by
 have hk := Kn.few few12 r12
 have ok := okX_few few12 r12
 have h12 := hk.ok12 ok (by omega)
 have a1 := astarts_c k12 h12.r h12.z (by decide) h12.t
 have a2 := pieces_c k12 h12.r h12.z (by decide) h12.t
 rw [st12] at a1
 rw [pc12] at a2
 have a3 := refine_c k12 h12
 have a4 := group_c (refineK k12) (hk.refine ok) ok (by omega)
 have e1 := eqN_c [0, 1, 4, 6, 10] [0, 1, 4, 6, 10] (by decide)
 have e2 := same4_c [⟨1, 3⟩, ⟨4, 5⟩, ⟨6, 9⟩] [⟨1, 3⟩, ⟨4, 5⟩, ⟨6, 9⟩] (by decide)
 have l1 : (refineK k12).length = 3 := by rw [rf12]; rfl
 have l2 := gr12
 refine cn_go Tryz.func9 [] 0 (by kernel_rfl) rfl (by simp [go_sem, seval]) ?_
 conv => arg 4; cbv
 conv => enter [5, 1]; cbv
 try simp (maxSteps := 2000000) (disch := omega) only [go_sem, seval]
 repeat (with_reducible refine And.intro ?_ ?_; focus exact and_t)
 (first | refine .mk (a1) rfl ?_ | refine .rd (a1) rfl ?_)
 try simp (maxSteps := 2000000) (disch := omega) only [go_sem, seval]
 repeat (with_reducible refine And.intro ?_ ?_; focus exact and_t)
 (first | refine .mk (e1) rfl ?_ | refine .rd (e1) rfl ?_)
 try simp (maxSteps := 2000000) (disch := omega) only [go_sem, seval]
 repeat (with_reducible refine And.intro ?_ ?_; focus exact and_t)
 (first | refine .mk (a2) rfl ?_ | refine .rd (a2) rfl ?_)
 try simp (maxSteps := 2000000) (disch := omega) only [go_sem, seval]
 repeat (with_reducible refine And.intro ?_ ?_; focus exact and_t)
 (first | refine .mk (e2) rfl ?_ | refine .rd (e2) rfl ?_)
 try simp (maxSteps := 2000000) (disch := omega) only [go_sem, seval]
 repeat (with_reducible refine And.intro ?_ ?_; focus exact and_t)
 (first | refine .mk (a3) rfl ?_ | refine .rd (a3) rfl ?_)
 try simp (maxSteps := 2000000) (disch := omega) only [go_sem, seval]
 repeat (with_reducible refine And.intro ?_ ?_; focus exact and_t)
 rw [l1]
 simp only [show (((3 : Nat) : Int) = 3) = True from eq_true rfl, decide_true]
 try simp (maxSteps := 2000000) (disch := omega) only [go_sem, seval]
 repeat (with_reducible refine And.intro ?_ ?_; focus exact and_t)
 (first | refine .mk (a3) rfl ?_ | refine .rd (a3) rfl ?_)
 try simp (maxSteps := 2000000) (disch := omega) only [go_sem, seval]
 repeat (with_reducible refine And.intro ?_ ?_; focus exact and_t)
 (first | refine .mk (a4) rfl ?_ | refine .rd (a4) rfl ?_)
 try simp (maxSteps := 2000000) (disch := omega) only [go_sem, seval]
 repeat (with_reducible refine And.intro ?_ ?_; focus exact and_t)
 rw [l2]
 simp
def right12 (k : List Fg) : Bool := fewK k && decide ((ckK k).1 = 0)
theorem right12_c (k : List Fg) (hb : BdK k) : Cn Tryz.prog 8 [kp k] (.v (.bool (right12 k))) := by
 unfold right12
 refine cn_go Tryz.func8 [] 1 (by kernel_rfl) rfl (by simp [go_sem, seval]) ?_
 conv => arg 4; cbv
 conv => enter [5, 1]; cbv
 try simp (maxSteps := 2000000) (disch := omega) only [go_sem, seval]
 repeat (with_reducible refine And.intro ?_ ?_; focus exact and_t)
 (first | refine .mk (kfew_c k hb) rfl ?_ | refine .rd (kfew_c k hb) rfl ?_)
 try simp (maxSteps := 2000000) (disch := omega) only [go_sem, seval]
 repeat (with_reducible refine And.intro ?_ ?_; focus exact and_t)
 (first | refine .mk ?_ ?_ | refine .mkt ?_ ?_ | refine .mkf ?_ ?_) <;> intro h <;> (try simp only [nrm_l] at h) <;> (try simp (maxSteps := 2000000) (disch := omega) only [go_sem, seval]) <;> (repeat (with_reducible refine And.intro ?_ ?_; focus exact and_t))
 ·(first | refine .mk (kright_c k hb (fewK_g h)) rfl ?_ | refine .rd (kright_c k hb (fewK_g h)) rfl ?_)
  try simp (maxSteps := 2000000) (disch := omega) only [go_sem, seval]
  repeat (with_reducible refine And.intro ?_ ?_; focus exact and_t)
  simp [h]
 ·simp [h]
structure Rt12 (k : List Fg) : Prop where
 f : fewK k = true
 r : RightK k
 kn : Kn (CK k) (RK k) 240 k
 ok : OkX (CK k) (RK k)
theorem right12_get {k : List Fg} (hb : BdK k) (h : right12 k = true) : Rt12 k := by
 unfold right12 at h
 rw [Bool.and_eq_true, decide_eq_true_eq] at h
 have hr := (ckK_iff hb).1 h.2
 exact ⟨h.1, hr, Kn.few h.1 hr, okX_few h.1 hr⟩
theorem Rt12.o {k : List Fg} (h : Rt12 k) : Ok12 (CK k) (RK k) k := h.kn.ok12 h.ok (by omega)
set_option maxHeartbeats 2000000 in
theorem atomsRefine_c (k : List Fg) (x : Nat × Nat × Nat) (hk : BdK k) (hx : BdX x) : Cn Tryz.prog 6 [kp k, xp x] (.v (.bool true)) := by
 refine cn_go Tryz.func6 [] 2 (by kernel_rfl) rfl (by simp [go_sem, seval]) ?_
 conv => arg 4; cbv
 conv => enter [5, 1]; cbv
 try simp (maxSteps := 2000000) (disch := omega) only [go_sem, seval]
 repeat (with_reducible refine And.intro ?_ ?_; focus exact and_t)
 (first | refine .mk (right12_c k hk) rfl ?_ | refine .rd (right12_c k hk) rfl ?_)
 try simp (maxSteps := 2000000) (disch := omega) only [go_sem, seval]
 repeat (with_reducible refine And.intro ?_ ?_; focus exact and_t)
 (first | refine .mk ?_ ?_ | refine .mkt ?_ ?_ | refine .mkf ?_ ?_) <;> intro h <;> (try simp only [nrm_l] at h) <;> (try simp (maxSteps := 2000000) (disch := omega) only [go_sem, seval]) <;> (repeat (with_reducible refine And.intro ?_ ?_; focus exact and_t))
 ·(first | refine .mk (alive12_c) rfl ?_ | refine .rd (alive12_c) rfl ?_)
  try simp (maxSteps := 2000000) (disch := omega) only [go_sem, seval]
  repeat (with_reducible refine And.intro ?_ ?_; focus exact and_t)
 ·have hR := right12_get hk h
  have ho := hR.o
  have hf := hR.kn.refine hR.ok
  (first | refine .mk (refine_c k ho) rfl ?_ | refine .rd (refine_c k ho) rfl ?_)
  try simp (maxSteps := 2000000) (disch := omega) only [go_sem, seval]
  repeat (with_reducible refine And.intro ?_ ?_; focus exact and_t)
  (first | refine .mk (alive12_c) rfl ?_ | refine .rd (alive12_c) rfl ?_)
  try simp (maxSteps := 2000000) (disch := omega) only [go_sem, seval]
  repeat (with_reducible refine And.intro ?_ ?_; focus exact and_t)
  (first | refine .mk (refRefine12_c k ho) rfl ?_ | refine .rd (refRefine12_c k ho) rfl ?_)
  try simp (maxSteps := 2000000) (disch := omega) only [go_sem, seval]
  repeat (with_reducible refine And.intro ?_ ?_; focus exact and_t)
  have hc_ := refKSame_c (refineK k) (refineK k) (hf.z (by omega))
  (first | refine .mk hc_ rfl ?_ | refine .rd hc_ rfl ?_)
  clear hc_
  try simp (maxSteps := 2000000) (disch := omega) only [go_sem, seval]
  repeat (with_reducible refine And.intro ?_ ?_; focus exact and_t)
  have hc_ := khas_c (refineK k) x.1 x.2.1 x.2.2 hf.r hx.2.2 (hf.z (by omega))
  (first | refine .mk hc_ rfl ?_ | refine .rd hc_ rfl ?_)
  clear hc_
  try simp (maxSteps := 2000000) (disch := omega) only [go_sem, seval]
  repeat (with_reducible refine And.intro ?_ ?_; focus exact and_t)
  (first | refine .mk (refKHas_c k x.1 x.2.1 x.2.2 hR.r hx.2.2 ho.z) rfl ?_ | refine .rd (refKHas_c k x.1 x.2.1 x.2.2 hR.r hx.2.2 ho.z) rfl ?_)
  try simp (maxSteps := 2000000) (disch := omega) only [go_sem, seval]
  repeat (with_reducible refine And.intro ?_ ?_; focus exact and_t)
  rw [has_refine hR.r hx.1 hx.2.2]
  try simp
end Go.Proofs.YtjimggclhlnfbaaGreat
