/- Texts of this claim, bound together: SetC Pa SetD E7. -/
import Derived.Test.YtcedofkenfddkaaDoorB4
/- The contract of setops.merge: the list of an operation on two correct lists, in memory of the call's own. The lists are shorter than 2^30. -/
namespace Go.Proofs.YtcedofkenfddkaaDoor
set_option linter.unusedVariables false
set_option linter.unusedSimpArgs false
open Go.RowKit
attribute [local go_sem] Oper.semAt_some

/-- The places where a list may change. -/
def cps (l : List Iv) : List Nat := l.flatMap fun s => [s.lo, s.hi + 1]
theorem cps_length (l : List Iv) : (cps l).length = 2 * l.length := by
  induction l with
  | nil => rfl
  | cons s l ih => simp [cps] at ih ⊢; omega
theorem nxt_mem {l : List Iv} {x y : Nat} (h : nxt l x = some y) : y ∈ cps l := by
  induction l with
  | nil => cases h
  | cons s l ih =>
    unfold nxt at h
    split at h
    · cases h; simp [cps]
    · split at h
      · cases h; simp [cps]
      · have := ih h; simp [cps] at this ⊢; exact .inr (.inr this)
/-- How many places are behind x. -/
def cnt (l : List Nat) (x : Nat) : Nat := l.countP fun y => decide (x < y)
theorem cnt_mono (l : List Nat) {x y : Nat} (h : x < y) : cnt l y ≤ cnt l x := by
  unfold cnt
  exact List.countP_mono_left fun z _ hz => by simp at hz ⊢; omega
theorem cnt_lt {l : List Nat} {x y : Nat} (h : x < y) (hm : y ∈ l) : cnt l y + 1 ≤ cnt l x := by
  induction l with
  | nil => cases hm
  | cons z l ih =>
    unfold cnt
    rw [List.countP_cons, List.countP_cons]
    rcases List.mem_cons.1 hm with rfl | hm
    · have := cnt_mono l h
      unfold cnt at this
      simp [h]; omega
    · have := ih hm
      unfold cnt at this
      by_cases h1 : y < z
      · have h2 : x < z := by omega
        simp [h1, h2]; omega
      · simp [h1]; omega
theorem pcs_length (a b : List Iv) : ∀ (f x : Nat), (pcs a b f x).length ≤ cnt (cps a) x + cnt (cps b) x + 1
  | 0, _ => Nat.zero_le _
  | f + 1, x => by
    unfold pcs
    cases h : minO (nxt a x) (nxt b x) with
    | none => simp
    | some y =>
      have ih := pcs_length a b f y
      have : cnt (cps a) y + cnt (cps b) y + 1 ≤ cnt (cps a) x + cnt (cps b) x := by
        have key : nxt a x = some y ∨ nxt b x = some y := by
          cases ea : nxt a x <;> cases eb : nxt b x <;> rw [ea, eb] at h <;> simp only [minO] at h
          · cases h
          · exact .inr h
          · exact .inl h
          · split at h
            · exact .inr h
            · exact .inl h
        rcases key with h | h
        · have := cnt_lt (nxt_gt h) (nxt_mem h)
          have := cnt_mono (cps b) (nxt_gt h)
          omega
        · have := cnt_lt (nxt_gt h) (nxt_mem h)
          have := cnt_mono (cps a) (nxt_gt h)
          omega
      simp; omega
theorem pieces_length (a b : List Iv) : (pieces a b).length ≤ 2 * (a.length + b.length) + 1 := by
  have h1 := pcs_length a b M64 0
  have h2 : cnt (cps a) 0 ≤ 2 * a.length := by rw [← cps_length]; exact List.countP_le_length
  have h3 : cnt (cps b) 0 ≤ 2 * b.length := by rw [← cps_length]; exact List.countP_le_length
  unfold pieces; omega
theorem put_length (out : List Iv) (s : Iv) : (put out s).length ≤ out.length + 1 := by
  unfold put
  split
  · simp
  · rename_i t ht
    split
    · have : out ≠ [] := by intro e; subst e; simp at ht
      have := List.length_pos_iff.2 this
      simp
      try omega
    · simp
theorem merged_length (f : Bool → Bool → Bool) (xs : List (Iv × Bool × Bool)) : ∀ out : List Iv, (merged f out xs).length ≤ out.length + xs.length := by
  induction xs with
  | nil => intro out; simp [merged]
  | cons x xs ih =>
    intro out
    obtain ⟨s, p, q⟩ := x
    simp only [merged]
    by_cases e : f p q = true
    · have h1 := ih (put out s)
      have h2 := put_length out s
      rw [if_pos e]
      simp only [List.length_cons]; omega
    · have h1 := ih out
      rw [if_neg e]
      simp only [List.length_cons]; omega
/-- What has been merged of the first pieces is correct, and ends before the next piece. -/
theorem merged_prefix {f : Bool → Bool → Bool} {a b : List Iv} : ∀ (pre : List (Iv × Bool × Bool)) (x : Nat) (out : List Iv) (y : Iv × Bool × Bool) (r : List (Iv × Bool × Bool)), Cov a b x (pre ++ y :: r) → Nrm out → (∀ t ∈ out, t.hi < x) →
    Nrm (merged f out pre) ∧ (∀ t ∈ merged f out pre, t.hi < y.1.lo) ∧ y.1.lo ≤ y.1.hi ∧ y.1.hi < M64
  | [], x, out, (s, p, q), r, ⟨h1, h2, h3, _⟩, ho, ht => ⟨ho, fun t h => by have := ht t h; show t.hi < s.lo; omega, by show s.lo ≤ s.hi; omega, h3⟩
  | (s, p, q) :: pre, x, out, y, r, ⟨h1, h2, h3, _, h5⟩, ho, ht => by
    simp only [merged]
    have g := put_nrm (s := s) ho (fun t h => by have := ht t h; omega) (by omega) h3
    split
    · exact merged_prefix pre _ _ y r h5 g.1 fun t h => by have := g.2.2 t h; omega
    · exact merged_prefix pre _ _ y r h5 ho fun t h => by have := ht t h; omega

theorem flat_set (o : List Iv) (t : Iv) (hi : Nat) : (flat (o ++ [t])).set (o.length * 2 + 1) (.int .u64 hi) = flat (o ++ [⟨t.lo, hi⟩]) := by
  rw [flat_append, flat_append, List.set_append_right _ _ (by rw [flat_length]; omega), flat_length]
  congr 1
  rw [show o.length * 2 + 1 - o.length * 2 = 1 from by omega]
  rfl
/-- The last interval of a list of the call's own. -/
theorem OwnR.last {base : Nat} {w : World} {ad : Option Addr} {n cap : Nat} {o : List Iv} {t : Iv} (h : OwnR base w (.slice ad n cap) (o ++ [t])) :
    ∃ g, base ≤ g ∧ ad = some ⟨g, 0, none⟩ ∧ o.length + 1 ≤ cap ∧ cap ≤ maxLen ∧ w.cell? ⟨g, o.length * 2, none⟩ = some (.int .u64 t.lo) ∧ w.cell? ⟨g, o.length * 2 + 1, none⟩ = some (.int .u64 t.hi) ∧ t.lo < M64 ∧ t.hi < M64 := by
  have hb := h.2 t (by simp)
  have h1 := h.1
  rcases id h1.2 with ⟨_, h0⟩ | ⟨g, cap', cur, hv, hg, hh, hn, hc, _⟩
  · simp at h0
  · simp only [Value.slice.injEq] at hv
    obtain ⟨rfl, rfl, rfl⟩ := hv
    have hf := flat_get (o ++ [t]) o.length (by simp)
    simp only [List.getElem_concat_length] at hf
    refine ⟨g, hg, rfl, by simpa using hn, hc, ?_, ?_, hb⟩
    · rw [h1.cellAt _ (by simp)]; exact hf.1
    · rw [h1.cellAt _ (by simp; omega)]; exact hf.2
/-- A new end for the last interval. -/
theorem OwnR.setHi {base : Nat} {w : World} {g n cap : Nat} {o : List Iv} {t : Iv} (h : OwnR base w (.slice (some ⟨g, 0, none⟩) n cap) (o ++ [t])) (hn : n = o.length + 1) (hi : Nat) (hh : hi < M64) :
    OwnR base (w.setCell ⟨g, o.length * 2 + 1, none⟩ (.int .u64 hi)) (.slice (some ⟨g, 0, none⟩) n cap) (o ++ [⟨t.lo, hi⟩]) := by
  subst hn
  have h1 := h.1
  simp only [List.length_append, List.length_cons, List.length_nil, Nat.zero_add] at h1
  have := (h1.stored (o.length * 2 + 1) (.int .u64 hi)).1
  rw [flat_set] at this
  refine ⟨by simpa using this, fun u hu => ?_⟩
  simp at hu
  rcases hu with hu | rfl
  · exact h.2 u (by simp [hu])
  · exact ⟨(h.2 t (by simp)).1, hh⟩

set_option maxHeartbeats 4000000 in
set_option maxRecDepth 100000 in
theorem merge_calls (f : Bool → Bool → Bool) (fid : Nat) (hent : ∀ args w, (callFunc fid args).run Tryd.prog w = .ok (.enter fid args) w)
    (htk : ∀ p q w, Calls Tryd.prog fid #[.agg #[.bool p, .bool q]] w fun e w' => e = .returned (.bool (f p q)) ∧ Below w.heap.size w w')
    (a b : List Iv) (va vb : Value) (w : World) (ha : Nrm a) (hb : Nrm b) (ra : RdR 0 w.heap.size w va a) (rb : RdR 0 w.heap.size w vb b) (hlen : a.length + b.length ≤ 1073741824) :
    Calls Tryd.prog 72 #[va, vb, .func (.func fid) #[] #[]] w fun e w' => ∃ v, e = .returned v ∧ OwnR w.heap.size w' v (opS f a b) ∧ Below w.heap.size w w' := by
  obtain ⟨aa, ca, rfl, _⟩ := id ra
  obtain ⟨ab, cb, rfl, _⟩ := id rb
  refine callsIn_wide.1 (callsIn_of_wp_marks (n := 9) Tryd.func72 rfl trivial ?_ rfl)
  simp only [Tryd.ntmps72, List.size_toArray, List.length_cons, List.length_nil, Nat.reduceAdd, Nat.reduceSub, Array.replicate_succ, Array.replicate_zero, List.push_toArray, List.append_toArray, List.nil_append, List.cons_append]
  gi_wp2_with (refine ⟨trivial, ?_⟩; gi_at_call 104; refine (callsIn_wide.2 (pieces_calls _ _ _ _ _ _ _)).mono ?_; rintro e w' ⟨rfl, rfl⟩)
  obtain ⟨W0, hW0⟩ : ∃ W0, ((((w.alloc (Obj.cells #[Value.func (Fn.func fid) #[] #[]] 75)).alloc (Obj.cells #[Value.slice none 0 0] 23)).alloc (Obj.cells #[Value.slice aa a.length ca] 23)).alloc (Obj.cells #[Value.slice ab b.length cb] 23)) = W0 := ⟨_, rfl⟩
  have hsz : W0.heap.size = w.heap.size + 4 := by rw [← hW0]; simp
  have b0 : Boxed W0 w.heap.size 75 (Value.func (Fn.func fid) #[] #[]) := by rw [← hW0]; exact (((Boxed.new w _ _).alloc _).alloc _).alloc _
  have b1 : Boxed W0 (w.heap.size + 1) 23 (Value.slice none 0 0) := by rw [← hW0]; have := Boxed.new (w.alloc (Obj.cells #[Value.func (Fn.func fid) #[] #[]] 75)) 23 (Value.slice none 0 0); rw [World.size_alloc] at this; exact (this.alloc _).alloc _
  have b2 : Boxed W0 (w.heap.size + 1 + 1) 23 (Value.slice aa a.length ca) := by rw [← hW0]; have := Boxed.new ((w.alloc (Obj.cells #[Value.func (Fn.func fid) #[] #[]] 75)).alloc (Obj.cells #[Value.slice none 0 0] 23)) 23 (Value.slice aa a.length ca); simp only [World.size_alloc] at this; exact this.alloc _
  have b3 : Boxed W0 (w.heap.size + 1 + 1 + 1) 23 (Value.slice ab b.length cb) := by rw [← hW0]; have := Boxed.new (((w.alloc (Obj.cells #[Value.func (Fn.func fid) #[] #[]] 75)).alloc (Obj.cells #[Value.slice none 0 0] 23)).alloc (Obj.cells #[Value.slice aa a.length ca] 23)) 23 (Value.slice ab b.length cb); simp only [World.size_alloc] at this; exact this
  have hB0 : Below w.heap.size w W0 := by rw [← hW0]; exact ((((Below.refl _ _).alloc (Nat.le_refl _) _).alloc (by simp) _).alloc (by simp; omega) _).alloc (by simp; omega) _
  rw [hW0]
  clear hW0
  have hcov := pieces_cov ha hb
  have hpl := pieces_length a b
  refine rf_law (w := W0) 121 #[.pointer (some ⟨w.heap.size + 1 + 1, 0, none⟩), .pointer (some ⟨w.heap.size + 1 + 1 + 1, 0, none⟩)] rfl (enters_of Tryd.func121 (by kernel_rfl) rfl) encP (fun _ => rfl)
    (fun k => k = w.heap.size + 1 + 1 ∨ k = w.heap.size + 1 + 1 + 1) (fun k => k < w.heap.size ∨ k = w.heap.size + 1 + 1 ∨ k = w.heap.size + 1 + 1 + 1) (pieces a b) ?hit
    (fun k => k = w.heap.size + 1 ∨ w.heap.size + 6 ≤ k) (fun k hk => by omega) (by omega) ⟨by omega, by omega⟩
    (fun pre W => (∃ v, Boxed W (w.heap.size + 1) 23 v ∧ OwnR (w.heap.size + 6) W v (merged f [] pre)) ∧ Boxed W w.heap.size 75 (Value.func (Fn.func fid) #[] #[]) ∧ Below w.heap.size w W)
    (fun _ _ _ => False) ?hI (fun _ _ _ _ h _ => h) ⟨⟨_, b1, OwnR.nil _ _⟩, b0, hB0⟩
    (fun pre x a' W => ((∃ v, Boxed W (w.heap.size + 1) 23 v ∧ OwnR (w.heap.size + 6) W v (merged f [] pre)) ∧ Boxed W w.heap.size 75 (Value.func (Fn.func fid) #[] #[]) ∧ Below w.heap.size w W) ∧
      ∃ Bp Bs, W.heap[Bp]? = some (.cells #[.int .u64 x.1.lo, .int .u64 x.1.hi] 46 (0, 0)) ∧ W.heap[Bs]? = some (.cells #[.bool x.2.1, .bool x.2.2] 74 (0, 0)) ∧ w.heap.size + 6 ≤ Bp ∧ w.heap.size + 6 ≤ Bs ∧
      a' = { tmps := #[Value.slice aa a.length ca, Value.slice ab b.length cb, Value.func (Fn.func fid) #[] #[], undef, undef, Value.pointer (some ⟨w.heap.size, 0, none⟩), Value.slice none 0 0, Value.pointer (some ⟨w.heap.size + 1, 0, none⟩), Value.pointer (some ⟨Bp, 0, none⟩), Value.pointer (some ⟨Bs, 0, none⟩), undef, Value.slice aa a.length ca, Value.slice ab b.length cb, Value.func (Fn.func 121) #[] #[Value.pointer (some ⟨w.heap.size + 1 + 1, 0, none⟩), Value.pointer (some ⟨w.heap.size + 1 + 1 + 1, 0, none⟩)], .agg #[.int .u64 x.1.lo, .int .u64 x.1.hi], .agg #[.bool x.2.1, .bool x.2.2], undef, undef, undef, undef, undef, undef, undef, undef, undef, undef, undef, undef, undef, undef, undef, undef, undef, undef, undef, undef, undef, undef, undef, undef, undef, undef, undef, undef, undef], defers := [] })
    ?hAx ?hassign ?hbody ?hdone (fun _ _ _ _ h _ => h.elim)
  case hit =>
    intro W hk _
    exact pieces1_at a b _ _ (w.heap.size + 1 + 1) (w.heap.size + 1 + 1 + 1) w.heap.size W ha hb (by omega) (by omega) (by omega)
      ⟨hk.boxed b2 id, hk.boxed b3 id, ra.below (hB0.trans (hk.below (by omega) fun _ _ => id)) (Nat.le_refl _), rb.below (hB0.trans (hk.below (by omega) fun _ _ => id)) (Nat.le_refl _), Suf.refl _ _, Suf.refl _ _⟩
  case hI =>
    rintro pre A B ⟨⟨v, h1, h2⟩, h3, h4⟩ hk
    exact ⟨⟨v, hk.boxed h1 (by omega), h2.keep hk (fun g hg => by omega)⟩, hk.boxed h3 (by omega), h4.trans (hk.below h4.size fun k hk => by omega)⟩
  case hAx =>
    rintro pre x a' A B ⟨⟨⟨v, h1, h2⟩, h3, h4⟩, Bp, Bs, hp, hs, hp6, hs6, rfl⟩ hk
    exact ⟨⟨⟨v, hk.boxed h1 (by omega), h2.keep hk (fun g hg => by omega)⟩, hk.boxed h3 (by omega), h4.trans (hk.below h4.size fun k hk => by omega)⟩, Bp, Bs, hk.obj hp (by omega), hk.obj hs (by omega), hp6, hs6, rfl⟩
  case hassign =>
    rintro l pre ⟨⟨lo, hi⟩, p, q⟩ W hpx hlt ⟨⟨v, h1, h2⟩, h3, h4⟩
    clear hpx
    dsimp only [encP]
    gi_wp2
    have hka : ∀ o1 o2, Keep (fun k => k = w.heap.size + 1 ∨ w.heap.size + 6 ≤ k) W ((W.alloc o1).alloc o2) := fun o1 o2 => ((Keep.refl _ _).alloc _).alloc _
    refine ⟨hka _ _, ⟨⟨v, (h1.alloc _).alloc _, (h2.keep ((Keep.refl NoB W).alloc _) fun _ _ => id).keep ((Keep.refl NoB _).alloc _) fun _ _ => id⟩, (h3.alloc _).alloc _, (h4.alloc h4.size _).alloc (by simp; have := h4.size; omega) _⟩,
      W.heap.size, W.heap.size + 1, ?_, ?_, by omega, by omega, rfl⟩
    · exact (Below.heap_alloc _ _ _ (by simp)).trans (World.alloc_heap_new W _)
    · have := World.alloc_heap_new (W.alloc (.cells #[.int .u64 lo, .int .u64 hi] 46)) (.cells #[.bool p, .bool q] 74)
      rwa [World.size_alloc] at this
  case hbody =>
    rintro l pre x a' W ⟨r, hpx⟩ hlt ⟨⟨⟨v, h1, h2⟩, h3, h4⟩, Bp, Bs, hp, hs, hp6, hs6, rfl⟩
    obtain ⟨⟨lo, hi⟩, p, q⟩ := x
    obtain ⟨m1, m2, m3, m4⟩ := merged_prefix (f := f) pre 0 [] (⟨lo, hi⟩, p, q) r (by rw [show pre ++ (⟨lo, hi⟩, p, q) :: r = pieces a b from by rw [← hpx]; simp]; exact hcov) trivial (fun _ h => by cases h)
    have hml := merged_length f pre []
    have hpr : pre.length + 1 ≤ (pieces a b).length := by rw [← hpx]; simp
    have c3 := h3.cell
    have cs0 : W.cell? ⟨Bs, 0, none⟩ = some (.bool p) := by simp [World.cell?, hs]
    have cs1 : W.cell? ⟨Bs, 1, none⟩ = some (.bool q) := by simp [World.cell?, hs]
    obtain ⟨i0, hi0, hz0, hz1, hz2⟩ := info_parts Tryd.infoIv
    have HM := Lib.hid (And.intro hpx (And.intro hcov (And.intro hpl (And.intro m1 (And.intro m2 m3)))))
    dsimp only at m3 m4
    clear hpx hcov m1 m2 hs
    gi_wp2_with fail
    refine ⟨trivial, CallsIn.mono (CallsIn.inRound l (callsIn_wide.2 (htk p q W))) ?_⟩
    rintro e W1 ⟨rfl, hb1⟩
    have hk1 : Keep NoB W W1 := Keep.of_below' hb1 (Nat.le_refl _)
    have h1' := hk1.boxed h1 id
    have h2' := h2.keep hk1 fun _ _ => id
    have h3' := hk1.boxed h3 id
    have h4' := h4.trans (hb1.mono h4.size)
    have hp' := hk1.obj hp id
    have hlt' : w.heap.size + 6 ≤ W1.heap.size := by have := hk1.size; omega
    have HK1 := Lib.hid hk1
    clear hb1 hk1 h1 h2 h3 h4 hp c3 cs0 cs1
    obtain ⟨out, hout⟩ : ∃ out, out = merged f [] pre := ⟨_, rfl⟩
    rw [← hout] at h2' hml
    have HO := Lib.hid hout
    clear hout
    have c1 := h1'.cell
    have cp0 : W1.cell? ⟨Bp, 0, none⟩ = some (.int .u64 lo) := by simp [World.cell?, hp']
    have cp1 : W1.cell? ⟨Bp, 1, none⟩ = some (.int .u64 hi) := by simp [World.cell?, hp']
    cases ht : f p q with
    | false =>
      have HT := Lib.hid ht
      gi_wp2
      exact ⟨HK1.out.mono fun _ _ h => h.elim, ⟨v, h1', by rw [merged_append]; simp only [merged, HT.out, ← HO.out]; exact h2'⟩, h3', h4'⟩
    | true =>
      have HT := Lib.hid ht
      obtain ⟨ad, cap, rfl⟩ := h2'.val
      have HH := Lib.hid h2'
      clear h2'
      rcases List.eq_nil_or_concat out with rfl | ⟨o', t, rfl⟩
      · gi_wp2_with fail
        refine regGIn (fun _ => trivial) 11 45 (fun _ => True) (by kernel_rfl) (by kernel_rfl) rfl trivial ?_
        simp only [List.take_succ_cons, List.take_zero]
        repeat (first
          | (refine wdetI (fun _ => trivial) ?_ rfl (fun a w hc _ hr => ?_) ?_; rotate_left; (simp [Rds, rdsO, lk, Op.operands, Call.operands, RdEq] at hr; go_simp; with_reducible rfl); dsimp only [List.nil_append, List.cons_append])
          | (refine wskip rfl ?_ ?_; (first | exact .inl (isV_eq rfl rfl) | exact .inr (isV_eq rfl rfl)); dsimp only [List.nil_append, List.cons_append])
          | (refine wdetgI (fun _ => trivial) rfl ?_ ?_ (fun a w hc _ hr => ?_) ?_; exact (isV_eq rfl rfl); rotate_left; (simp [Rds, rdsO, lk, Op.operands, Call.operands, RdEq] at hr; go_simp; with_reducible rfl); dsimp only [List.nil_append, List.cons_append]))
        intro w2 _ hk2
        simp only [finG, forall_eq, List.nil_append, List.cons_append, List.drop_succ_cons, List.drop_zero, List.drop_nil]
        simp only [Act.put, List.setIfInBounds_toArray, List.set_cons_succ, List.set_cons_zero]
        have hk2' : Keep NoB W1 w2 := ((Keep.refl NoB W1).drew).trans hk2
        have e1 := hk2'.boxed h1' id
        have e3 := hk2'.boxed h3' id
        have e4 := h4'.trans (hk2'.below h4'.size fun _ _ => id)
        have eo := (HH.out).keep hk2' fun _ _ => id
        have HE := Lib.hid (And.intro eo (And.intro e3 e4))
        have d1 := e1.cell
        have d2 : w2.cell? ⟨Bp, 0, none⟩ = some (.int .u64 lo) := hk2'.cell_some cp0 id
        have d3 : w2.cell? ⟨Bp, 1, none⟩ = some (.int .u64 hi) := hk2'.cell_some cp1 id
        have hlt2 : w.heap.size + 6 ≤ w2.heap.size := Nat.le_trans hlt' hk2'.size
        have HK2 := Lib.hid hk2'
        clear hk2 hk2' e3 e4 eo c1 cp0 cp1 h1' h3' h4'
        gi_wp2_with (gi_at_builtin; go_loud (refine wpListIn_append_own _ rfl _ _ 23 rfl (w.heap.size + 6) 46 i0 (.agg #[.int .u64 0, .int .u64 0]) 2 16 Tryd.underlying23 hi0 hz0 hz1 hz2 rfl (by decide) _ _ _ rfl (HE.out.1.1.alloc _) ⟨w2.heap.size, 0, none⟩ 1 1 [.int .u64 lo, .int .u64 hi] rfl rfl (news_at (cs := #[.int .u64 lo, .int .u64 hi]) (t := 46) (fr := (0, 0)) (World.alloc_heap_new w2 _)) (by simp [Value.oneCell']) (by unfold maxLen; first | decide | omega) (by first | decide | omega) (by rw [World.size_alloc]; omega) ?_); intro v' w3 hown' hgrow _; obtain ⟨g', cap', rfl⟩ := ownsRow_succ hown'; obtain ⟨q1, q2, q3, q4⟩ := box_appended e1 (by decide) HE.out.1.1 hown' hgrow; have q1c := q1.cell; have q1f := q1.frozen)
        refine ⟨((HK1.out.trans HK2.out).mono fun _ _ h => h.elim).trans (q4.mono fun k _ h => h), ⟨_, q2, ?_⟩, q4.boxed HE.out.2.1 (by omega), HE.out.2.2.trans (q4.below HE.out.2.2.size fun k _ => by omega)⟩
        rw [merged_append]
        simp only [merged, HT.out, if_true, ← HO.out]
        exact HE.out.1.snoc ⟨by show lo < M64; omega, by show hi < M64; omega⟩ q3
      · simp only [List.concat_eq_append, List.length_append, List.length_cons, List.length_nil, Nat.zero_add] at *
        obtain ⟨g, hgb, rfl, hcap, hcm, hct0, hct1, htb⟩ := HH.out.last
        have htl : t.lo ≤ t.hi ∧ t.hi < M64 := by
          have := NF.lo_ge HM.out.2.2.2.1 t (by rw [← HO.out]; simp)
          exact ⟨this.2.1, this.2.2⟩
        have hts : t.hi < lo := HM.out.2.2.2.2.1 t (by rw [← HO.out]; simp)
        have ct0 : W1.cell? ⟨g, o'.length * 2, none⟩ = some (.int .u64 t.lo) := hct0
        have ct1 : W1.cell? ⟨g, o'.length * 2 + 1, none⟩ = some (.int .u64 t.hi) := hct1
        clear hct0 hct1
        unfold maxLen at hcm
        have hix : ((o'.length : Nat) : Int) < (o'.length : Int) + 1 := by omega
        gi_wp2_with fail
        by_cases htt : t.hi + 1 = lo
        · have hrel : (((relate t ⟨lo, hi⟩ : Nat) : Int) == 1) = true := by
            have : relate t ⟨lo, hi⟩ = 1 := by unfold relate; rw [if_pos hts, if_pos htt]
            rw [this]; rfl
          have HTT := Lib.hid htt
          clear htt
          refine regGIn (fun _ => trivial) 11 45 (fun w' => w'.cell? ⟨w.heap.size + 1, 0, none⟩ = some (.slice (some ⟨g, 0, none⟩) (o'.length + 1) cap) ∧ w'.cell? ⟨g, o'.length * 2, none⟩ = some (.int .u64 t.lo) ∧ w'.cell? ⟨g, o'.length * 2 + 1, none⟩ = some (.int .u64 t.hi) ∧ w'.cell? ⟨Bp, 0, none⟩ = some (.int .u64 lo) ∧ w'.cell? ⟨Bp, 1, none⟩ = some (.int .u64 hi)) (by kernel_rfl) (by kernel_rfl) rfl ⟨c1, ct0, ct1, cp0, cp1⟩ ?_
          simp only [List.take_succ_cons, List.take_zero]
          repeat (first
            | (refine wdetI (fun _ => trivial) ?_ rfl (fun a w hc _ hr => ?_) ?_; rotate_left; (simp [Rds, rdsO, lk, Op.operands, Call.operands, RdEq] at hr; go_simp; with_reducible rfl); dsimp only [List.nil_append, List.cons_append])
            | (refine wskip rfl ?_ ?_; (first | exact .inl (isV_eq rfl rfl) | exact .inr (isV_eq rfl rfl)); dsimp only [List.nil_append, List.cons_append])
            | (refine wdetgI (fun _ => trivial) rfl ?_ ?_ (fun a w hc _ hr => ?_) ?_; exact (isV_eq rfl rfl); rotate_left; (simp [Rds, rdsO, lk, Op.operands, Call.operands, RdEq] at hr; go_simp; with_reducible rfl); dsimp only [List.nil_append, List.cons_append]))
          refine wgeng (fun u _ => u = .int .i64 ((relate t ⟨lo, hi⟩ : Nat) : Int)) (eqV_stab _) rfl (isV_eq rfl rfl) ?_ ?_
          · intro a2 w2 hc hk hr K hK
            have HK := Lib.hid hK
            clear hK
            simp [Rds, rdsO, lk, Op.operands, Call.operands, RdEq] at hr
            refine ⟨fun _ _ => trivial, ?_⟩
            go_simp
            refine CallsIn.mono (CallsIn.inRound l (callsIn_wide.2 (relate_any t ⟨lo, hi⟩ _ htl.1 (by show lo ≤ hi; omega) htl.2 (by show hi < M64; omega)))) ?_
            rintro e w3 ⟨rfl, hb⟩
            have hkb : Keep NoB w2 w3 := Keep.of_below' hb (Nat.le_refl _)
            exact HK.out _ _ hkb ⟨hkb.cell_some hc.1 id, hkb.cell_some hc.2.1 id, hkb.cell_some hc.2.2.1 id, hkb.cell_some hc.2.2.2.1 id, hkb.cell_some hc.2.2.2.2 id⟩ rfl
          dsimp only [List.nil_append, List.cons_append]
          repeat (first
            | (refine wdetI (fun _ => trivial) ?_ rfl (fun a w hc _ hr => ?_) ?_; rotate_left; (simp [Rds, rdsO, lk, Op.operands, Call.operands, RdEq] at hr; go_simp; with_reducible rfl); dsimp only [List.nil_append, List.cons_append])
            | (refine wskip rfl ?_ ?_; (first | exact .inl (isV_eq rfl rfl) | exact .inr (isV_eq rfl rfl)); dsimp only [List.nil_append, List.cons_append])
            | (refine wdetgI (fun _ => trivial) rfl ?_ ?_ (fun a w hc _ hr => ?_) ?_; exact (isV_eq rfl rfl); rotate_left; (simp [Rds, rdsO, lk, Op.operands, Call.operands, RdEq] at hr; go_simp; with_reducible rfl); dsimp only [List.nil_append, List.cons_append]))
          intro w2 _ hk2
          simp only [finG, forall_eq, List.nil_append, List.cons_append, List.drop_succ_cons, List.drop_zero, List.drop_nil]
          simp only [Act.put, List.setIfInBounds_toArray, List.set_cons_succ, List.set_cons_zero]
          have hk2' : Keep NoB W1 w2 := ((Keep.refl NoB W1).drew).trans hk2
          have e1 := hk2'.boxed h1' id
          have e3 := hk2'.boxed h3' id
          have e4 := h4'.trans (hk2'.below h4'.size fun _ _ => id)
          have eo := (HH.out).keep hk2' fun _ _ => id
          have er : w2.ownsRow (w.heap.size + 6) 46 2 (.slice (some ⟨g, 0, none⟩) (o'.length + 1) cap) (o'.length + 1) (flat (o' ++ [t])) := by have := eo.1; simpa using this
          have ER := Lib.hid er
          have HE := Lib.hid (And.intro eo (And.intro e3 e4))
          have d1 := e1.cell
          have d3 : w2.cell? ⟨Bp, 1, none⟩ = some (.int .u64 hi) := hk2'.cell_some cp1 id
          have d4 : w2.cell? ⟨g, o'.length * 2 + 1, none⟩ = some (.int .u64 t.hi) := hk2'.cell_some ct1 id
          have d5 : w2.frozen? ⟨g, o'.length * 2 + 1, none⟩ = false := er.frozenAt _
          have HK2 := Lib.hid hk2'
          clear hk2 hk2' e3 e4 eo er c1 cp0 cp1 ct0 ct1 h1' h3' h4'
          gi_wp2
          have hkg : Keep (fun k => k = g) w2 (w2.setCell ⟨g, o'.length * 2 + 1, none⟩ (.int .u64 hi)) := (Keep.refl (fun k => k = g) w2).setCell (p := ⟨g, o'.length * 2 + 1, none⟩) (fun _ => rfl) _
          refine ⟨((HK1.out.trans HK2.out).mono fun _ _ h => h.elim).trans (hkg.mono fun k _ h => .inr (by rw [h]; exact hgb)), ⟨_, hkg.boxed e1 (by omega), ?_⟩, hkg.boxed HE.out.2.1 (by omega), HE.out.2.2.trans (hkg.below HE.out.2.2.size fun k hk => by omega)⟩
          rw [merged_append]
          simp only [merged, HT.out, if_true, ← HO.out]
          rw [show put (o' ++ [t]) ⟨lo, hi⟩ = o' ++ [⟨t.lo, hi⟩] from by unfold put; rw [List.getLast?_concat]; simp only; rw [if_pos HTT.out, List.dropLast_concat]]
          exact HE.out.1.setHi rfl hi (by omega)
        · have hrel : (((relate t ⟨lo, hi⟩ : Nat) : Int) == 1) = false := by
            have : relate t ⟨lo, hi⟩ = 0 := by unfold relate; rw [if_pos hts, if_neg htt]
            rw [this]; rfl
          have HTT := Lib.hid htt
          clear htt
          refine regGIn (fun _ => trivial) 11 45 (fun w' => w'.cell? ⟨w.heap.size + 1, 0, none⟩ = some (.slice (some ⟨g, 0, none⟩) (o'.length + 1) cap) ∧ w'.cell? ⟨g, o'.length * 2, none⟩ = some (.int .u64 t.lo) ∧ w'.cell? ⟨g, o'.length * 2 + 1, none⟩ = some (.int .u64 t.hi) ∧ w'.cell? ⟨Bp, 0, none⟩ = some (.int .u64 lo) ∧ w'.cell? ⟨Bp, 1, none⟩ = some (.int .u64 hi)) (by kernel_rfl) (by kernel_rfl) rfl ⟨c1, ct0, ct1, cp0, cp1⟩ ?_
          simp only [List.take_succ_cons, List.take_zero]
          repeat (first
            | (refine wdetI (fun _ => trivial) ?_ rfl (fun a w hc _ hr => ?_) ?_; rotate_left; (simp [Rds, rdsO, lk, Op.operands, Call.operands, RdEq] at hr; go_simp; with_reducible rfl); dsimp only [List.nil_append, List.cons_append])
            | (refine wskip rfl ?_ ?_; (first | exact .inl (isV_eq rfl rfl) | exact .inr (isV_eq rfl rfl)); dsimp only [List.nil_append, List.cons_append])
            | (refine wdetgI (fun _ => trivial) rfl ?_ ?_ (fun a w hc _ hr => ?_) ?_; exact (isV_eq rfl rfl); rotate_left; (simp [Rds, rdsO, lk, Op.operands, Call.operands, RdEq] at hr; go_simp; with_reducible rfl); dsimp only [List.nil_append, List.cons_append]))
          refine wgeng (fun u _ => u = .int .i64 ((relate t ⟨lo, hi⟩ : Nat) : Int)) (eqV_stab _) rfl (isV_eq rfl rfl) ?_ ?_
          · intro a2 w2 hc hk hr K hK
            have HK := Lib.hid hK
            clear hK
            simp [Rds, rdsO, lk, Op.operands, Call.operands, RdEq] at hr
            refine ⟨fun _ _ => trivial, ?_⟩
            go_simp
            refine CallsIn.mono (CallsIn.inRound l (callsIn_wide.2 (relate_any t ⟨lo, hi⟩ _ htl.1 (by show lo ≤ hi; omega) htl.2 (by show hi < M64; omega)))) ?_
            rintro e w3 ⟨rfl, hb⟩
            have hkb : Keep NoB w2 w3 := Keep.of_below' hb (Nat.le_refl _)
            exact HK.out _ _ hkb ⟨hkb.cell_some hc.1 id, hkb.cell_some hc.2.1 id, hkb.cell_some hc.2.2.1 id, hkb.cell_some hc.2.2.2.1 id, hkb.cell_some hc.2.2.2.2 id⟩ rfl
          dsimp only [List.nil_append, List.cons_append]
          repeat (first
            | (refine wdetI (fun _ => trivial) ?_ rfl (fun a w hc _ hr => ?_) ?_; rotate_left; (simp [Rds, rdsO, lk, Op.operands, Call.operands, RdEq] at hr; go_simp; with_reducible rfl); dsimp only [List.nil_append, List.cons_append])
            | (refine wskip rfl ?_ ?_; (first | exact .inl (isV_eq rfl rfl) | exact .inr (isV_eq rfl rfl)); dsimp only [List.nil_append, List.cons_append])
            | (refine wdetgI (fun _ => trivial) rfl ?_ ?_ (fun a w hc _ hr => ?_) ?_; exact (isV_eq rfl rfl); rotate_left; (simp [Rds, rdsO, lk, Op.operands, Call.operands, RdEq] at hr; go_simp; with_reducible rfl); dsimp only [List.nil_append, List.cons_append]))
          intro w2 _ hk2
          simp only [finG, forall_eq, List.nil_append, List.cons_append, List.drop_succ_cons, List.drop_zero, List.drop_nil]
          simp only [Act.put, List.setIfInBounds_toArray, List.set_cons_succ, List.set_cons_zero]
          have hk2' : Keep NoB W1 w2 := ((Keep.refl NoB W1).drew).trans hk2
          have e1 := hk2'.boxed h1' id
          have e3 := hk2'.boxed h3' id
          have e4 := h4'.trans (hk2'.below h4'.size fun _ _ => id)
          have eo := (HH.out).keep hk2' fun _ _ => id
          have er : w2.ownsRow (w.heap.size + 6) 46 2 (.slice (some ⟨g, 0, none⟩) (o'.length + 1) cap) (o'.length + 1) (flat (o' ++ [t])) := by have := eo.1; simpa using this
          have ER := Lib.hid er
          have HE := Lib.hid (And.intro eo (And.intro e3 e4))
          have d1 := e1.cell
          have d2 : w2.cell? ⟨Bp, 0, none⟩ = some (.int .u64 lo) := hk2'.cell_some cp0 id
          have d3 : w2.cell? ⟨Bp, 1, none⟩ = some (.int .u64 hi) := hk2'.cell_some cp1 id
          have hlt2 : w.heap.size + 6 ≤ w2.heap.size := Nat.le_trans hlt' hk2'.size
          have HK2 := Lib.hid hk2'
          clear hk2 hk2' e3 e4 eo er c1 cp0 cp1 h1' h3' h4'
          gi_wp2_with (gi_at_builtin; go_loud (refine wpListIn_append_own _ rfl _ _ 23 rfl (w.heap.size + 6) 46 i0 (.agg #[.int .u64 0, .int .u64 0]) 2 16 Tryd.underlying23 hi0 hz0 hz1 hz2 rfl (by decide) _ _ _ rfl (ER.out.alloc _) ⟨w2.heap.size, 0, none⟩ 1 1 [.int .u64 lo, .int .u64 hi] rfl rfl (news_at (cs := #[.int .u64 lo, .int .u64 hi]) (t := 46) (fr := (0, 0)) (World.alloc_heap_new w2 _)) (by simp [Value.oneCell']) (by unfold maxLen; first | decide | omega) (by first | decide | omega) (by rw [World.size_alloc]; omega) ?_); intro v' w3 hown' hgrow _; obtain ⟨g', cap', rfl⟩ := ownsRow_succ hown'; obtain ⟨q1, q2, q3, q4⟩ := box_appended e1 (by decide) ER.out hown' hgrow; have q1c := q1.cell; have q1f := q1.frozen)
          refine ⟨((HK1.out.trans HK2.out).mono fun _ _ h => h.elim).trans (q4.mono fun k _ h => h), ⟨_, q2, ?_⟩, q4.boxed HE.out.2.1 (by omega), HE.out.2.2.trans (q4.below HE.out.2.2.size fun k _ => by omega)⟩
          rw [merged_append]
          simp only [merged, HT.out, if_true, ← HO.out]
          rw [show put (o' ++ [t]) ⟨lo, hi⟩ = o' ++ [t] ++ [⟨lo, hi⟩] from by unfold put; rw [List.getLast?_concat]; simp only; rw [if_neg HTT.out]]
          exact HE.out.1.snoc ⟨by show lo < M64; omega, by show hi < M64; omega⟩ (by simpa using q3)
  case hdone =>
    rintro W ⟨⟨v, h1, h2⟩, h3, h4⟩ hD
    have hc := h1.cell
    gi_wp2
    refine ⟨by simp, .inl ⟨_, _, rfl, run_takeDeferred hD, ?_⟩⟩
    have hkD : Keep (fun k => k = W0.heap.size) W (W.putObj W0.heap.size (.deferred none)) := (Keep.refl (fun k => k = W0.heap.size) W).putObj (fun _ => rfl) _
    exact ⟨_, results_tmp rfl _ _ _, v, rfl, (h2.keep hkD fun g hg => by omega).mono (by omega), h4.trans (hkD.below h4.size fun k hk => by omega)⟩
end Go.Proofs.YtcedofkenfddkaaDoor
/- Appends: what they leave, of a slice that has no room and of a slice that its owner holds. No condition. -/
namespace Go.Proofs.YtcedofkenfddkaaDoor
set_option linter.unusedVariables false
set_option linter.unusedSimpArgs false
open Go.RowKit
variable {P : Program} {o : Oper} {D : Nat → Nat → Prop} {ρ : Nat → Nat} {nb : Nat} {s : PS} {a : Act} {w : World}

/-- The row of a slice, cell by cell. -/
theorem sl_row {u : Value} {es : List (List PV)} {k : Ow} {sz : Nat} (h : Rel D ρ nb w u (.sl es k)) (hs : ∀ e ∈ es, e.length = sz) : ∃ (ad : Option Addr) (cap : Nat) (vs : List Value), u = .slice ad es.length cap ∧ es.length ≤ cap ∧ cap ≤ maxLen ∧ (k = .z → cap = es.length) ∧
    RowD D w sz vs es ∧ (es ≠ [] → ∃ b off, ad = some ⟨b, off, none⟩ ∧ ∀ j v, vs[j]? = some v → D b (off + j) ∧ w.cell? ⟨b, off + j, none⟩ = some v) := by
  obtain ⟨ad, cap, sz', b, off, f, e1, hc, hz, hm, ha, hsz, hD, hd⟩ := h.inv_sl
  cases es with
  | nil => exact ⟨ad, cap, [], e1, hc, hm, hz, ⟨by simp, fun i e h => by simp at h, fun j h => by simp at h, fun i e j p h => by simp at h⟩, fun h => absurd rfl h⟩
  | cons e es =>
    have hss : sz' = sz := (hsz 0 e rfl).symm.trans (hs e (by simp))
    subst hss
    refine ⟨ad, cap, (List.range ((e :: es).length * sz')).map f, e1, hc, hm, hz, ⟨by simp, hsz, fun j hj => ?_, fun i e' j p he hp => ?_⟩, fun hne => ⟨b, off, ha hne, fun j v hv => ?_⟩⟩
    · have hj' : j < (e :: es).length * sz' := by simpa using hj
      rw [List.getD_eq_getElem?_getD, List.getElem?_map, List.getElem?_range hj']
      exact (hD j hj').2.2
    · have hlt := sub_lt (List.getElem?_eq_some_iff.1 he).1 (show j < sz' by rw [← hsz _ _ he]; exact (List.getElem?_eq_some_iff.1 hp).1)
      rw [List.getD_eq_getElem?_getD, List.getElem?_map, List.getElem?_range hlt]
      exact hd i e' j p he hp
    · have hj' : j < (e :: es).length * sz' := by have := (List.getElem?_eq_some_iff.1 hv).1; simpa using this
      rw [List.getElem?_map, List.getElem?_range hj'] at hv
      simp at hv
      subst hv
      exact ⟨(hD j hj').1, (hD j hj').2.1⟩
theorem row_one {sz : Nat} {vs : List Value} {es : List (List PV)} (h : RowD D w sz vs es) : ∀ u ∈ vs, u.oneCell' = true := fun u hu => by
  obtain ⟨j, hj⟩ := List.getElem?_of_mem hu
  have := h.2.2.1 j (List.getElem?_eq_some_iff.1 hj).1
  rwa [List.getD_eq_getElem?_getD, hj] at this

/-- The operands of an append. -/
structure ApOp (P : Program) (o : Oper) (x y : Operand) (t e : TypeId) (i : TypeInfo) (z : Value) : Prop where
  ho : ∃ c, o.op = .call c ∧ c.callee = .builtin .append ∧ c.args = #[x, y] ∧ c.argTypes = #[t, t]
  ht : P.underlying t = some (.slice e)
  hi : P.info? e = some i
  hz : i.zero = some z
  hzs : z.cells.size = i.size
  hs : 0 < i.size
  hb : 0 < i.bytes
theorem ApOp.run {x y : Operand} {t e : TypeId} {i : TypeInfo} {z : Value} (h : ApOp P o x y t e i z) {u v r : Value} {w' : World} (hx : a.eval x = u) (hy : a.eval y = v) (hr : (Builtin.append_ #[t, t] o.type #[u, v]).run P w = .ok r w') :
    (execOp a.eval o).run P w = .ok (.value r) w' := by
  obtain ⟨c, ho, hc, ha, hat⟩ := h.ho
  simp only [execOp, ho, resolve, hc, ha, hat, List.map_toArray, List.map_cons, List.map_nil, hx, hy, invoke, builtin, Sem.run_bind, Sem.run_pure, Result.andThen_ok, hr]
/-- Appending nothing. -/
theorem append_none {t ty e : TypeId} {i : TypeInfo} (ht : P.underlying t = some (.slice e)) (hi : P.info? e = some i) (ad ad' : Option Addr) (n cap c : Nat) (hc : n ≤ cap) :
    (Builtin.append_ #[t, t] ty #[.slice ad n cap, .slice ad' 0 c]).run P w = .ok (.slice ad n cap) w := by
  cases ad <;> cases ad' <;> simp [Builtin.append_, run_underlying ht, sizeOf_run hi, Builtin.lenOf, hc, Builtin.firstCells, loadCells, loadCellsFrom, storeCells]
/-- An append that makes a new row. -/
theorem append_new {t ty e : TypeId} {i : TypeInfo} {z : Value} (ht : P.underlying t = some (.slice e)) (hi : P.info? e = some i) (hz : i.zero = some z) (hzs : z.cells.size = i.size) (hb : 0 < i.bytes) {ad : Option Addr} {b' : Addr} {n m cap c : Nat} {olds news : List Value} (hlo : olds.length = n * i.size) (hl : news.length = m * i.size)
    (hold : n ≠ 0 → ∃ b, ad = some b ∧ ∀ j v, olds[j]? = some v → w.cell? (b.add j) = some v) (hnil : ad = none → cap = 0) (hnew : ∀ j v, news[j]? = some v → w.cell? (b'.add j) = some v) (hcap : cap < n + m) (hby : (n + m) * i.bytes ≤ 140737488355328) :
    ∃ cap' cs, (Builtin.append_ #[t, t] ty #[.slice ad n cap, .slice (some b') m c]).run P w = .ok (.slice (some ⟨w.heap.size, 0, none⟩) (n + m) cap') (w.drew.alloc (.cells cs e)) ∧ n + m ≤ cap' ∧ cap' ≤ maxLen ∧ cs.size = cap' * i.size ∧ ∀ j, j < (olds ++ news).length → cs[j]? = some ((olds ++ news).getD j undef) := by
  have h63 : n + m ≤ 9223372036854775807 := by
    have := Nat.le_mul_of_pos_right (n + m) hb; omega
  have hfit := growslice_fits (old := cap) (need := n + m) (by omega) hby
  have get : ∀ (cap' : Nat) (l : List Value), (∀ j, j < l.length → (l.toArray ++ Builtin.zeroCells z.cells cap')[j]? = some (l.getD j undef)) := fun cap' l j hj => by
    rw [Array.getElem?_append_left (by simpa using hj)]
    simp [hj]
  have hml : n + m ≤ maxLen := by unfold maxLen; omega
  cases ad with
  | none =>
    have hc0 := hnil rfl
    subst hc0
    have hn0 : n = 0 := by
      rcases Nat.eq_zero_or_pos n with h | h
      · exact h
      · obtain ⟨b, e, _⟩ := hold (by omega); cases e
    subst hn0
    have ho : olds = [] := List.eq_nil_of_length_eq_zero (by simpa using hlo)
    subst ho
    have hr := run_append_nil (P := P) w t ty e i z ht hi hz b' m c news hl hnew (by omega) (by omega) (by simp only [Nat.zero_add] at hby; omega)
    refine ⟨_, _, by simpa using hr, by simpa using grownCap_ge w m 0 e, grownCap_le_maxLen w m 0 e (by omega), ?_, fun j hj => by simpa using get _ news j (by simpa using hj)⟩
    have := grownCap_ge w m 0 e
    simp only [Array.size_append, List.size_toArray, size_zeroCells, hzs, hl, ← Nat.add_mul]
    congr 1; omega
  | some b =>
    have hold' : ∀ j v, olds[j]? = some v → w.cell? (b.add j) = some v := by
      rcases Nat.eq_zero_or_pos n with h | h
      · subst h
        have ho : olds = [] := List.eq_nil_of_length_eq_zero (by simpa using hlo)
        subst ho
        intro j v hv; simp at hv
      · obtain ⟨b2, e, h2⟩ := hold (by omega); cases e; exact h2
    have hr := run_append_grow (P := P) w t ty e i z ht hi hz b n cap olds hlo hold' b' m c news hl hnew hcap (by omega) hfit
    refine ⟨_, _, hr, grownCap_ge w (n + m) cap e, grownCap_le_maxLen w (n + m) cap e hml, ?_, fun j hj => ?_⟩
    · have := grownCap_ge w (n + m) cap e
      simp only [Array.size_append, List.size_toArray, size_zeroCells, hzs, hl, hlo, ← Nat.add_mul]
      congr 1; omega
    · have := get (grownCap w (n + m) cap e - (n + m)) (olds ++ news) j hj
      rw [← this]
      simp
/-- An append to a slice without room: what its value reads as. -/
theorem ap_z {x y : Operand} {t e : TypeId} {i : TypeInfo} {z : Value} (h : ApOp P o x y t e i z) {es es' : List (List PV)} {k : Ow} (hx : Rel D ρ nb w (a.eval x) (.sl es .z)) (hy : Rel D ρ nb w (a.eval y) (.sl es' k))
    (h1 : ∀ e ∈ es, e.length = i.size) (h2 : ∀ e ∈ es', e.length = i.size) (hby : (es.length + es'.length) * i.bytes ≤ 140737488355328) :
    (es' = [] ∧ (execOp a.eval o).run P w = .ok (.value (a.eval x)) w) ∨ ∃ cap' cs vs, (execOp a.eval o).run P w = .ok (.value (.slice (some ⟨w.heap.size, 0, none⟩) (es.length + es'.length) cap')) (w.drew.alloc (.cells cs e)) ∧ (es ++ es').length ≤ cap' ∧ cap' ≤ maxLen ∧ cs.size = cap' * i.size ∧
      RowD D w i.size vs (es ++ es') ∧ ∀ j, j < vs.length → cs[j]? = some (vs.getD j undef) := by
  obtain ⟨ad, cap, vs, e1, c1, c2, c3, r1, g1⟩ := sl_row hx h1
  obtain ⟨ad', cap', vs', e2, d1, d2, _, r2, g2⟩ := sl_row hy h2
  have hcap := c3 rfl
  by_cases hes : es' = []
  · subst hes
    left
    refine ⟨rfl, ?_⟩
    rw [e1]
    exact h.run e1 e2 (append_none h.ht h.hi _ _ _ _ _ (by omega))
  · right
    obtain ⟨b', off', rfl, g3⟩ := g2 hes
    have hpos : 0 < es'.length := List.length_pos_iff.2 hes
    obtain ⟨cp, cs, hr, k1, k2, k3, k4⟩ := append_new (P := P) (w := w) (ty := o.type) (c := cap') (ad := ad) (cap := cap) h.ht h.hi h.hz h.hzs h.hb r1.1 r2.1 (fun hn => by
      obtain ⟨b, off, rfl, g4⟩ := g1 (by intro e; subst e; simp at hn)
      exact ⟨_, rfl, fun j v hv => by rw [add_none]; exact (g4 j v hv).2⟩) (fun hn => by
      by_cases he : es = []
      · subst he; simpa using hcap
      · obtain ⟨b, off, e, _⟩ := g1 he; rw [hn] at e; cases e) (fun j v hv => by rw [add_none]; exact (g3 j v hv).2) (by omega) hby
    exact ⟨cp, cs, vs ++ vs', h.run e1 e2 hr, by simpa using k1, k2, k3, r1.append r2, k4⟩
section
variable {K : PV → Prop} (hR : Rd D ρ s (slt a) (rdsO o) w)
include hR
theorem q_ap {x y : Operand} {x' y' : PO} {t e : TypeId} {i : TypeInfo} {z : Value} (h : ApOp P o x y t e i z) (hx : po x = some x') (hy : po y = some y') (hk : PK.q P s (.ap x' y' i.size i.bytes) K) : QS P o D ρ s a w K := by
  simp only [PK.q] at hk
  obtain ⟨c, ho, hc, hca, _⟩ := h.ho
  have hrx := hR.op hx (by rw [ho]; simp [Op.operands, Call.operands, hc, hca])
  have hry := hR.op hy (by rw [ho]; simp [Op.operands, Call.operands, hc, hca])
  split at hk
  · rename_i es ex
    obtain ⟨es', k, ey, h1, h2, h3, h4⟩ := qSl_inv hk
    rw [ex] at hrx
    rw [ey] at hry
    rcases ap_z h hrx hry h1 h2 h3 with ⟨rfl, hr⟩ | ⟨cap', cs, vs, hr, k1, k2, k3, k4, k5⟩
    · obtain ⟨ad, cap, sz, b, off, f, e3, c1, c2, c3, c4, c5, c6, c7⟩ := hrx.inv_sl
      refine ⟨_, h4, rfl, qdet hr ?_ fun _ _ _ => .inl ⟨ad, by rw [e3, c2 rfl]; simp⟩⟩
      rw [List.append_nil, e3]
      exact .dat (.sl ad cap sz es _ b off f c1 (fun h => by cases h) c3 c4 c5 c6 c7)
    · have hb : Below w.heap.size w (w.drew.alloc (.cells cs e)) := (show Below w.heap.size w w.drew from ⟨rfl, rfl, rfl, Nat.le_refl _, fun _ _ => rfl⟩).alloc (Nat.le_refl _) _
      refine ⟨_, h4, rfl, qnew hr hb (.dat ?_) fun _ _ hN => .inr ⟨w.heap.size, cap', cs, e, hN.1, by simp, World.alloc_heap_new w.drew (.cells cs e), k3⟩⟩
      have k6 := k4.mono (D' := fun b o => D b o ∨ w.heap.size ≤ b) (w' := w.drew.alloc (.cells cs e)) (fun _ _ h => .inl h) fun b o x _ hx => below_cell hb (cell_lt hx) hx
      have := row_dat (k := .n i.size) (e := e) (fr := (0, 0)) k6 (World.alloc_heap_new w.drew (.cells cs e)) k5 k1 k2 (fun h => by cases h) (fun j _ => .inr (Nat.le_refl _))
      simpa using this
  · exact hk.elim
end
end Go.Proofs.YtcedofkenfddkaaDoor
/- The contracts of setops.Union, Meet, Minus and Not: each returns, in memory of the call's own, the one correct list of its set. The lists are correct and shorter than 2^30. -/
namespace Go.Proofs.YtcedofkenfddkaaDoor
set_option linter.unusedVariables false
set_option linter.unusedSimpArgs false
open Go.RowKit
attribute [local go_sem] Oper.semAt_some

def fUnion (p q : Bool) : Bool := p || q
def fMeet (p q : Bool) : Bool := p && q
def fMinus (p q : Bool) : Bool := p && !q

theorem minus_calls (a b : List Iv) (va vb : Value) (w : World) (ha : Nrm a) (hb : Nrm b) (ra : RdR 0 w.heap.size w va a) (rb : RdR 0 w.heap.size w vb b) (hlen : a.length + b.length ≤ 1073741824) :
    Calls Tryd.prog 21 #[va, vb] w fun e w' => ∃ v, e = .returned v ∧ OwnR w.heap.size w' v (opS fMinus a b) ∧ Below w.heap.size w w' := by
  have hm := merge_calls fMinus 75 (enters_of Tryd.func75 (by kernel_rfl) rfl) take_minus a b va vb w ha hb ra rb hlen
  have HM := Lib.hid hm
  clear hm
  obtain ⟨a1, c1, rfl, _⟩ := ra
  obtain ⟨a2, c2, rfl, _⟩ := rb
  go_enter Tryd.func21, Tryd.ntmps21
  go_wp2_with (go_at_call 72; refine HM.out.mono ?_; rintro e w' ⟨v, rfl, hv, hb⟩)
  go_ret
  exact ⟨_, rfl, ‹_›, ‹_›⟩

theorem rd_one {w : World} {B : Nat} {s : Iv} (h : w.heap[B]? = some (.cells #[.int .u64 s.lo, .int .u64 s.hi] 46 (0, 0))) (h1 : s.lo < M64) (h2 : s.hi < M64) : RdR 0 w.heap.size w (.slice (some ⟨B, 0, none⟩) 1 1) [s] := by
  refine ⟨_, 1, rfl, by simp, by decide, fun _ => ⟨B, 0, rfl, Nat.zero_le _, (Array.getElem?_eq_some_iff.1 h).1, fun i hi => ?_⟩⟩
  obtain rfl : i = 0 := by simpa using hi
  exact ⟨by simp [World.cell?, h], by simp [World.cell?, h], h1, h2⟩

/-- Not returns what of an interval is not in a list. -/
theorem not_calls (a : List Iv) (va : Value) (s : Iv) (w : World) (ha : Nrm a) (hs : s.lo ≤ s.hi) (hs' : s.hi < M64) (ra : RdR 0 w.heap.size w va a) (hlen : a.length ≤ 1073741823) :
    Calls Tryd.prog 69 #[va, .agg #[.int .u64 s.lo, .int .u64 s.hi]] w fun e w' => ∃ v, e = .returned v ∧ OwnR w.heap.size w' v (opS fMinus [s] a) ∧ Below w.heap.size w w' := by
  obtain ⟨a1, c1, rfl, _⟩ := id ra
  go_enter Tryd.func69, Tryd.ntmps69
  go_wp2_with fail
  obtain ⟨w1, hw1⟩ : ∃ w1, ((w.alloc (Obj.cells #[Value.int IntKind.u64 s.lo, Value.int IntKind.u64 s.hi] 46)).alloc (Obj.cells #[Value.int IntKind.u64 s.lo, Value.int IntKind.u64 s.hi] 46)) = w1 := ⟨_, rfl⟩
  have hb1 : Below w.heap.size w w1 := by rw [← hw1]; exact ((Below.refl _ _).alloc (Nat.le_refl _) _).alloc (by simp) _
  have hn : w1.heap[w.heap.size + 1]? = some (.cells #[.int .u64 s.lo, .int .u64 s.hi] 46 (0, 0)) := by
    rw [← hw1]; have := World.alloc_heap_new (w.alloc (Obj.cells #[Value.int IntKind.u64 s.lo, Value.int IntKind.u64 s.hi] 46)) (Obj.cells #[Value.int IntKind.u64 s.lo, Value.int IntKind.u64 s.hi] 46); rwa [World.size_alloc] at this
  rw [hw1]
  clear hw1
  refine (minus_calls [s] a _ _ w1 ⟨Nat.zero_le _, hs, hs', trivial⟩ ha (rd_one hn (by omega) hs') ((ra.below hb1 (Nat.le_refl _)).keep (Nat.le_refl _) hb1.size fun _ _ _ => rfl) (by simp; omega)).mono ?_
  rintro e w2 ⟨v, rfl, hv, hb⟩
  go_wp2
  go_ret
  exact ⟨_, rfl, hv.mono hb1.size, hb1.trans (hb.mono hb1.size)⟩
end Go.Proofs.YtcedofkenfddkaaDoor
/- Entries: what is known, the canonical form, the operations. No condition. -/
namespace Go.Proofs.YtcedofkenfddkaaDoor
set_option linter.unusedVariables false
set_option linter.unusedSimpArgs false
theorem opS_length (f : Bool → Bool → Bool) (a b : List Iv) : (opS f a b).length ≤ 2 * (a.length + b.length) + 1 := Nat.le_trans (merged_length f _ _) (by simpa using pieces_length a b)
/-- An entry. -/
structure En where
  rep : Nat
  max : Nat
  holes : List Iv
deriving DecidableEq
theorem En.ext' {e f : En} (h1 : e.rep = f.rep) (h2 : e.max = f.max) (h3 : e.holes = f.holes) : e = f := by cases e; cases f; simp_all
/-- A correct entry. -/
def RightE (e : En) : Prop := Nrm e.holes ∧ (∀ s ∈ e.holes, s.hi ≤ e.max) ∧ e.max < M64 ∧ e.rep < M64
theorem nrm_one {m n : Nat} (h : m ≤ n) (h' : n < M64) : Nrm [⟨m, n⟩] := ⟨Nat.zero_le _, h, h', trivial⟩
theorem mem_one (m n x : Nat) : mem [⟨m, n⟩] x = (decide (m ≤ x) && decide (x ≤ n)) := by simp [mem]
def kn (e : En) : List Iv := opS fMinus [⟨0, e.max⟩] e.holes
theorem kn_nrm {e : En} (h : RightE e) : Nrm (kn e) := opS_nrm (nrm_one (Nat.zero_le _) h.2.2.1) h.1
theorem kn_mem {e : En} (h : RightE e) {x : Nat} (hx : x < M64) : mem (kn e) x = (decide (x ≤ e.max) && !mem e.holes x) := by
  unfold kn
  rw [opS_mem (nrm_one (Nat.zero_le _) h.2.2.1) h.1 hx, mem_one]
  simp [fMinus]
/-- The greatest number of a list. -/
def top (l : List Iv) : Nat := match l.getLast? with
  | some s => s.hi
  | none => 0
theorem top_at {l : List Iv} (h : 0 < l.length) : l[l.length - 1].hi = top l := by
  unfold top
  rw [List.getLast?_eq_getElem?, List.getElem?_eq_getElem (by omega)]
theorem top_mem {l : List Iv} (hl : Nrm l) (h : l ≠ []) : mem l (top l) = true ∧ top l < M64 := by
  have h' : 0 < l.length := List.length_pos_iff.2 h
  have := NF.lo_ge hl l[l.length - 1] (List.getElem_mem _)
  rw [← top_at h']
  exact ⟨mem_iff.2 ⟨_, List.getElem_mem _, this.2.1, Nat.le_refl _⟩, this.2.2⟩
theorem top_ge {l : List Iv} (hl : Nrm l) {x : Nat} (hx : mem l x = true) : x ≤ top l := by
  obtain ⟨s, hs, h1, h2⟩ := mem_iff.1 hx
  have hne : l ≠ [] := by intro e; subst e; cases hs
  obtain ⟨k, t, rfl⟩ := List.eq_nil_or_concat l |>.resolve_left hne
  unfold top
  rw [List.concat_eq_append] at *
  rw [List.getLast?_concat]
  rcases List.mem_append.1 hs with h | h
  · have := hl.last_lt s h
    have := (NF.lo_ge hl t (by simp)).2.1
    simp only; omega
  · simp at h; subst h; exact h2
/-- The entry of what is known. -/
def ofS (r : Nat) (l : List Iv) : En × Bool := if l = [] then (⟨0, 0, []⟩, false) else (⟨r, top l, opS fMinus [⟨0, top l⟩] l⟩, true)
theorem ofS_cons {r : Nat} {l : List Iv} (h : l ≠ []) : ofS r l = (⟨r, top l, opS fMinus [⟨0, top l⟩] l⟩, true) := if_neg h
/-- A canonical entry: its greatest counter is known. -/
def CanE (e : En) : Prop := RightE e ∧ ∀ s ∈ e.holes, s.hi < e.max
theorem can_max {e : En} (h : CanE e) : mem e.holes e.max = false := by
  cases h' : mem e.holes e.max with
  | false => rfl
  | true =>
    obtain ⟨s, hs, _, h2⟩ := mem_iff.1 h'
    have := h.2 s hs
    omega
theorem can_kn {e : En} (h : CanE e) : kn e ≠ [] ∧ top (kn e) = e.max := by
  have hm : mem (kn e) e.max = true := by rw [kn_mem h.1 h.1.2.2.1, can_max h]; simp
  have hne : kn e ≠ [] := by intro h'; rw [h'] at hm; cases hm
  refine ⟨hne, ?_⟩
  have h1 := top_ge (kn_nrm h.1) hm
  have h2 := top_mem (kn_nrm h.1) hne
  rw [kn_mem h.1 h2.2] at h2
  simp at h2
  omega
theorem can_ofS {e : En} (h : CanE e) : ofS e.rep (kn e) = (e, true) := by
  obtain ⟨h1, h2⟩ := can_kn h
  rw [ofS_cons h1, h2]
  have : opS fMinus [⟨0, e.max⟩] (kn e) = e.holes := by
    refine opS_eq (nrm_one (Nat.zero_le _) h.1.2.2.1) (kn_nrm h.1) h.1.1 fun x hx => ?_
    rw [kn_mem h.1 hx, mem_one]
    simp only [fMinus]
    by_cases hx' : x ≤ e.max
    · simp [hx']
    · have : mem e.holes x = false := by
        cases h' : mem e.holes x with
        | false => rfl
        | true =>
          obtain ⟨s, hs, _, h2⟩ := mem_iff.1 h'
          have := h.1.2.1 s hs
          omega
      simp [hx', this]
  rw [this]
/-- A last hole that reaches the greatest counter is taken away. -/
theorem canon_step {e : En} (h : RightE e) {l : List Iv} {s : Iv} (hs : e.holes = l ++ [s]) (hm : e.max ≤ s.hi) (h0 : 0 < s.lo) : RightE ⟨e.rep, s.lo - 1, l⟩ ∧ kn ⟨e.rep, s.lo - 1, l⟩ = kn e := by
  have hn : Nrm (l ++ [s]) := hs ▸ h.1
  have hs1 := NF.lo_ge hn s (by simp)
  have hR : RightE ⟨e.rep, s.lo - 1, l⟩ := by
    refine ⟨hn.init, fun t ht => ?_, ?_, h.2.2.2⟩
    · have := hn.last_lt t ht
      simp only; omega
    · simp only; omega
  refine ⟨hR, Nrm.unique (kn_nrm hR) (kn_nrm h) fun x hx => ?_⟩
  have hmax : s.hi = e.max := by have := h.2.1 s (by rw [hs]; simp); omega
  rw [kn_mem hR hx, kn_mem h hx, hs, mem_append, mem_one' s x]
  simp only
  by_cases h1 : x ≤ s.lo - 1
  · have e1 : x ≤ e.max := by omega
    have e2 : ¬ s.lo ≤ x := by omega
    simp [h1, e1, e2]
  · by_cases h2 : x ≤ e.max
    · have e2 : s.lo ≤ x := by omega
      have e3 : x ≤ s.hi := by omega
      simp [h1, e2, e3]
    · simp [h1, h2]
where mem_one' (s : Iv) (x : Nat) : mem [s] x = (decide (s.lo ≤ x) && decide (x ≤ s.hi)) := by simp [mem]
theorem canon_none {e : En} (h : RightE e) {l : List Iv} {s : Iv} (hs : e.holes = l ++ [s]) (hm : e.max ≤ s.hi) (h0 : s.lo = 0) : kn e = [] := by
  refine Nrm.unique (kn_nrm h) trivial fun x hx => ?_
  rw [kn_mem h hx, hs, mem_append]
  by_cases h2 : x ≤ e.max
  · have : mem [s] x = true := mem_iff.2 ⟨s, by simp, by omega, by omega⟩
    simp [this]
  · simp [h2]
theorem kn_holes_nil {e : En} (h : RightE e) (hh : e.holes = []) : CanE e := ⟨h, fun s hs => by rw [hh] at hs; cases hs⟩
theorem can_last {e : En} (h : RightE e) {l : List Iv} {s : Iv} (hs : e.holes = l ++ [s]) (hm : s.hi < e.max) : CanE e := by
  refine ⟨h, fun t ht => ?_⟩
  rw [hs] at ht
  have hn : Nrm (l ++ [s]) := hs ▸ h.1
  have hs1 := NF.lo_ge hn s (by simp)
  rcases List.mem_append.1 ht with h1 | h1
  · have := hn.last_lt t h1; omega
  · simp at h1; subst h1; exact hm
theorem kn_length (e : En) : (kn e).length ≤ 2 * e.holes.length + 3 := by
  have := opS_length fMinus [⟨0, e.max⟩] e.holes
  simp at this
  unfold kn; omega
end Go.Proofs.YtcedofkenfddkaaDoor
