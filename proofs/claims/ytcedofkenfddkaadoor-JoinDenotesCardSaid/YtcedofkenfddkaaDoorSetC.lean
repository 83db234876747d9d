/- The contract of setops.merge: the list of an operation on two correct lists, in memory of the call's own. The lists are shorter than 2^30. -/
import Derived.Test.YtcedofkenfddkaaDoorSetB
namespace Go.Proofs.YtcedofkenfddkaaDoor
set_option linter.unusedVariables false
set_option linter.unusedSimpArgs false
open Go.RowKit
attribute [local go_sem] Oper.semAt_some

/-- The places where a list may change. -/
def cps (l : List Iv) : List Nat := l.flatMap fun s => [s.lo, s.hi + 1]
theorem cps_length (l : List Iv) : (cps l).length = 2 * l.length := by
  induction l with
  | nil => rfl
  | cons s l ih => simp [cps] at ih ⊢; omega
theorem nxt_mem {l : List Iv} {x y : Nat} (h : nxt l x = some y) : y ∈ cps l := by
  induction l with
  | nil => cases h
  | cons s l ih =>
    unfold nxt at h
    split at h
    · cases h; simp [cps]
    · split at h
      · cases h; simp [cps]
      · have := ih h; simp [cps] at this ⊢; exact .inr (.inr this)
/-- How many places are behind x. -/
def cnt (l : List Nat) (x : Nat) : Nat := l.countP fun y => decide (x < y)
theorem cnt_mono (l : List Nat) {x y : Nat} (h : x < y) : cnt l y ≤ cnt l x := by
  unfold cnt
  exact List.countP_mono_left fun z _ hz => by simp at hz ⊢; omega
theorem cnt_lt {l : List Nat} {x y : Nat} (h : x < y) (hm : y ∈ l) : cnt l y + 1 ≤ cnt l x := by
  induction l with
  | nil => cases hm
  | cons z l ih =>
    unfold cnt
    rw [List.countP_cons, List.countP_cons]
    rcases List.mem_cons.1 hm with rfl | hm
    · have := cnt_mono l h
      unfold cnt at this
      simp [h]; omega
    · have := ih hm
      unfold cnt at this
      by_cases h1 : y < z
      · have h2 : x < z := by omega
        simp [h1, h2]; omega
      · simp [h1]; omega
theorem pcs_length (a b : List Iv) : ∀ (f x : Nat), (pcs a b f x).length ≤ cnt (cps a) x + cnt (cps b) x + 1
  | 0, _ => Nat.zero_le _
  | f + 1, x => by
    unfold pcs
    cases h : minO (nxt a x) (nxt b x) with
    | none => simp
    | some y =>
      have ih := pcs_length a b f y
      have : cnt (cps a) y + cnt (cps b) y + 1 ≤ cnt (cps a) x + cnt (cps b) x := by
        have key : nxt a x = some y ∨ nxt b x = some y := by
          cases ea : nxt a x <;> cases eb : nxt b x <;> rw [ea, eb] at h <;> simp only [minO] at h
          · cases h
          · exact .inr h
          · exact .inl h
          · split at h
            · exact .inr h
            · exact .inl h
        rcases key with h | h
        · have := cnt_lt (nxt_gt h) (nxt_mem h)
          have := cnt_mono (cps b) (nxt_gt h)
          omega
        · have := cnt_lt (nxt_gt h) (nxt_mem h)
          have := cnt_mono (cps a) (nxt_gt h)
          omega
      simp; omega
theorem pieces_length (a b : List Iv) : (pieces a b).length ≤ 2 * (a.length + b.length) + 1 := by
  have h1 := pcs_length a b M64 0
  have h2 : cnt (cps a) 0 ≤ 2 * a.length := by rw [← cps_length]; exact List.countP_le_length
  have h3 : cnt (cps b) 0 ≤ 2 * b.length := by rw [← cps_length]; exact List.countP_le_length
  unfold pieces; omega
theorem put_length (out : List Iv) (s : Iv) : (put out s).length ≤ out.length + 1 := by
  unfold put
  split
  · simp
  · rename_i t ht
    split
    · have : out ≠ [] := by intro e; subst e; simp at ht
      have := List.length_pos_iff.2 this
      simp
      try omega
    · simp
theorem merged_length (f : Bool → Bool → Bool) (xs : List (Iv × Bool × Bool)) : ∀ out : List Iv, (merged f out xs).length ≤ out.length + xs.length := by
  induction xs with
  | nil => intro out; simp [merged]
  | cons x xs ih =>
    intro out
    obtain ⟨s, p, q⟩ := x
    simp only [merged]
    by_cases e : f p q = true
    · have h1 := ih (put out s)
      have h2 := put_length out s
      rw [if_pos e]
      simp only [List.length_cons]; omega
    · have h1 := ih out
      rw [if_neg e]
      simp only [List.length_cons]; omega
/-- Each piece is a correct interval. -/
theorem cov_mem {a b : List Iv} : ∀ {xs : List (Iv × Bool × Bool)} {x : Nat}, Cov a b x xs → ∀ y ∈ xs, y.1.lo ≤ y.1.hi ∧ y.1.hi < M64
  | [], _, _, _, hy => by cases hy
  | (s, p, q) :: r, x, ⟨h1, h2, h3, _, h5⟩, y, hy => by
    rcases List.mem_cons.1 hy with rfl | hy
    · exact ⟨by show s.lo ≤ s.hi; omega, h3⟩
    · exact cov_mem h5 y hy
/-- What has been merged of the first pieces is correct, and ends before the next piece. -/
theorem merged_prefix {f : Bool → Bool → Bool} {a b : List Iv} : ∀ (pre : List (Iv × Bool × Bool)) (x : Nat) (out : List Iv) (y : Iv × Bool × Bool) (r : List (Iv × Bool × Bool)), Cov a b x (pre ++ y :: r) → Nrm out → (∀ t ∈ out, t.hi < x) →
    Nrm (merged f out pre) ∧ (∀ t ∈ merged f out pre, t.hi < y.1.lo) ∧ y.1.lo ≤ y.1.hi ∧ y.1.hi < M64
  | [], x, out, (s, p, q), r, ⟨h1, h2, h3, _⟩, ho, ht => ⟨ho, fun t h => by have := ht t h; show t.hi < s.lo; omega, by show s.lo ≤ s.hi; omega, h3⟩
  | (s, p, q) :: pre, x, out, y, r, ⟨h1, h2, h3, _, h5⟩, ho, ht => by
    simp only [merged]
    have g := put_nrm (s := s) ho (fun t h => by have := ht t h; omega) (by omega) h3
    split
    · exact merged_prefix pre _ _ y r h5 g.1 fun t h => by have := g.2.2 t h; omega
    · exact merged_prefix pre _ _ y r h5 ho fun t h => by have := ht t h; omega

theorem flat_set (o : List Iv) (t : Iv) (hi : Nat) : (flat (o ++ [t])).set (o.length * 2 + 1) (.int .u64 hi) = flat (o ++ [⟨t.lo, hi⟩]) := by
  rw [flat_append, flat_append, List.set_append_right _ _ (by rw [flat_length]; omega), flat_length]
  congr 1
  rw [show o.length * 2 + 1 - o.length * 2 = 1 from by omega]
  rfl
/-- The last interval of a list of the call's own. -/
theorem OwnR.last {base : Nat} {w : World} {ad : Option Addr} {n cap : Nat} {o : List Iv} {t : Iv} (h : OwnR base w (.slice ad n cap) (o ++ [t])) :
    ∃ g, base ≤ g ∧ ad = some ⟨g, 0, none⟩ ∧ o.length + 1 ≤ cap ∧ cap ≤ maxLen ∧ w.cell? ⟨g, o.length * 2, none⟩ = some (.int .u64 t.lo) ∧ w.cell? ⟨g, o.length * 2 + 1, none⟩ = some (.int .u64 t.hi) ∧ t.lo < M64 ∧ t.hi < M64 := by
  have hb := h.2 t (by simp)
  have h1 := h.1
  rcases id h1.2 with ⟨_, h0⟩ | ⟨g, cap', cur, hv, hg, hh, hn, hc, _⟩
  · simp at h0
  · simp only [Value.slice.injEq] at hv
    obtain ⟨rfl, rfl, rfl⟩ := hv
    have hf := flat_get (o ++ [t]) o.length (by simp)
    simp only [List.getElem_concat_length] at hf
    refine ⟨g, hg, rfl, by simpa using hn, hc, ?_, ?_, hb⟩
    · rw [h1.cellAt _ (by simp)]; exact hf.1
    · rw [h1.cellAt _ (by simp; omega)]; exact hf.2
/-- A new end for the last interval. -/
theorem OwnR.setHi {base : Nat} {w : World} {g n cap : Nat} {o : List Iv} {t : Iv} (h : OwnR base w (.slice (some ⟨g, 0, none⟩) n cap) (o ++ [t])) (hn : n = o.length + 1) (hi : Nat) (hh : hi < M64) :
    OwnR base (w.setCell ⟨g, o.length * 2 + 1, none⟩ (.int .u64 hi)) (.slice (some ⟨g, 0, none⟩) n cap) (o ++ [⟨t.lo, hi⟩]) := by
  subst hn
  have h1 := h.1
  simp only [List.length_append, List.length_cons, List.length_nil, Nat.zero_add] at h1
  have := (h1.stored (o.length * 2 + 1) (.int .u64 hi)).1
  rw [flat_set] at this
  refine ⟨by simpa using this, fun u hu => ?_⟩
  simp at hu
  rcases hu with hu | rfl
  · exact h.2 u (by simp [hu])
  · exact ⟨(h.2 t (by simp)).1, hh⟩

set_option maxHeartbeats 4000000 in
set_option maxRecDepth 100000 in
theorem merge_calls (f : Bool → Bool → Bool) (fid : Nat) (hent : ∀ args w, (callFunc fid args).run Tryd.prog w = .ok (.enter fid args) w)
    (htk : ∀ p q w, Calls Tryd.prog fid #[.agg #[.bool p, .bool q]] w fun e w' => e = .returned (.bool (f p q)) ∧ Below w.heap.size w w')
    (a b : List Iv) (va vb : Value) (w : World) (ha : Nrm a) (hb : Nrm b) (ra : RdR 0 w.heap.size w va a) (rb : RdR 0 w.heap.size w vb b) (hlen : a.length + b.length ≤ 1073741824) :
    Calls Tryd.prog 72 #[va, vb, .func (.func fid) #[] #[]] w fun e w' => ∃ v, e = .returned v ∧ OwnR w.heap.size w' v (opS f a b) ∧ Below w.heap.size w w' := by
  obtain ⟨aa, ca, rfl, _⟩ := id ra
  obtain ⟨ab, cb, rfl, _⟩ := id rb
  refine callsIn_wide.1 (callsIn_of_wp_marks (n := 9) Tryd.func72 rfl trivial ?_ rfl)
  simp only [Tryd.ntmps72, List.size_toArray, List.length_cons, List.length_nil, Nat.reduceAdd, Nat.reduceSub, Array.replicate_succ, Array.replicate_zero, List.push_toArray, List.append_toArray, List.nil_append, List.cons_append]
  gi_wp2_with (refine ⟨trivial, ?_⟩; gi_at_call 104; refine (callsIn_wide.2 (pieces_calls _ _ _ _ _ _ _)).mono ?_; rintro e w' ⟨rfl, rfl⟩)
  obtain ⟨W0, hW0⟩ : ∃ W0, ((((w.alloc (Obj.cells #[Value.func (Fn.func fid) #[] #[]] 75)).alloc (Obj.cells #[Value.slice none 0 0] 23)).alloc (Obj.cells #[Value.slice aa a.length ca] 23)).alloc (Obj.cells #[Value.slice ab b.length cb] 23)) = W0 := ⟨_, rfl⟩
  have hsz : W0.heap.size = w.heap.size + 4 := by rw [← hW0]; simp
  have b0 : Boxed W0 w.heap.size 75 (Value.func (Fn.func fid) #[] #[]) := by rw [← hW0]; exact (((Boxed.new w _ _).alloc _).alloc _).alloc _
  have b1 : Boxed W0 (w.heap.size + 1) 23 (Value.slice none 0 0) := by rw [← hW0]; have := Boxed.new (w.alloc (Obj.cells #[Value.func (Fn.func fid) #[] #[]] 75)) 23 (Value.slice none 0 0); rw [World.size_alloc] at this; exact (this.alloc _).alloc _
  have b2 : Boxed W0 (w.heap.size + 1 + 1) 23 (Value.slice aa a.length ca) := by rw [← hW0]; have := Boxed.new ((w.alloc (Obj.cells #[Value.func (Fn.func fid) #[] #[]] 75)).alloc (Obj.cells #[Value.slice none 0 0] 23)) 23 (Value.slice aa a.length ca); simp only [World.size_alloc] at this; exact this.alloc _
  have b3 : Boxed W0 (w.heap.size + 1 + 1 + 1) 23 (Value.slice ab b.length cb) := by rw [← hW0]; have := Boxed.new (((w.alloc (Obj.cells #[Value.func (Fn.func fid) #[] #[]] 75)).alloc (Obj.cells #[Value.slice none 0 0] 23)).alloc (Obj.cells #[Value.slice aa a.length ca] 23)) 23 (Value.slice ab b.length cb); simp only [World.size_alloc] at this; exact this
  have hB0 : Below w.heap.size w W0 := by rw [← hW0]; exact ((((Below.refl _ _).alloc (Nat.le_refl _) _).alloc (by simp) _).alloc (by simp; omega) _).alloc (by simp; omega) _
  rw [hW0]
  clear hW0
  have hcov := pieces_cov ha hb
  have hpl := pieces_length a b
  refine rf_law (w := W0) 121 #[.pointer (some ⟨w.heap.size + 1 + 1, 0, none⟩), .pointer (some ⟨w.heap.size + 1 + 1 + 1, 0, none⟩)] rfl (enters_of Tryd.func121 (by kernel_rfl) rfl) encP (fun _ => rfl)
    (fun k => k = w.heap.size + 1 + 1 ∨ k = w.heap.size + 1 + 1 + 1) (fun k => k < w.heap.size ∨ k = w.heap.size + 1 + 1 ∨ k = w.heap.size + 1 + 1 + 1) (pieces a b) ?hit
    (fun k => k = w.heap.size + 1 ∨ w.heap.size + 6 ≤ k) (fun k hk => by omega) (by omega) ⟨by omega, by omega⟩
    (fun pre W => (∃ v, Boxed W (w.heap.size + 1) 23 v ∧ OwnR (w.heap.size + 6) W v (merged f [] pre)) ∧ Boxed W w.heap.size 75 (Value.func (Fn.func fid) #[] #[]) ∧ Below w.heap.size w W)
    (fun _ _ _ => False) ?hI (fun _ _ _ _ h _ => h) ⟨⟨_, b1, OwnR.nil _ _⟩, b0, hB0⟩
    (fun pre x a' W => ((∃ v, Boxed W (w.heap.size + 1) 23 v ∧ OwnR (w.heap.size + 6) W v (merged f [] pre)) ∧ Boxed W w.heap.size 75 (Value.func (Fn.func fid) #[] #[]) ∧ Below w.heap.size w W) ∧
      ∃ Bp Bs, W.heap[Bp]? = some (.cells #[.int .u64 x.1.lo, .int .u64 x.1.hi] 46 (0, 0)) ∧ W.heap[Bs]? = some (.cells #[.bool x.2.1, .bool x.2.2] 74 (0, 0)) ∧ w.heap.size + 6 ≤ Bp ∧ w.heap.size + 6 ≤ Bs ∧
      a' = { tmps := #[Value.slice aa a.length ca, Value.slice ab b.length cb, Value.func (Fn.func fid) #[] #[], undef, undef, Value.pointer (some ⟨w.heap.size, 0, none⟩), Value.slice none 0 0, Value.pointer (some ⟨w.heap.size + 1, 0, none⟩), Value.pointer (some ⟨Bp, 0, none⟩), Value.pointer (some ⟨Bs, 0, none⟩), undef, Value.slice aa a.length ca, Value.slice ab b.length cb, Value.func (Fn.func 121) #[] #[Value.pointer (some ⟨w.heap.size + 1 + 1, 0, none⟩), Value.pointer (some ⟨w.heap.size + 1 + 1 + 1, 0, none⟩)], .agg #[.int .u64 x.1.lo, .int .u64 x.1.hi], .agg #[.bool x.2.1, .bool x.2.2], undef, undef, undef, undef, undef, undef, undef, undef, undef, undef, undef, undef, undef, undef, undef, undef, undef, undef, undef, undef, undef, undef, undef, undef, undef, undef, undef, undef, undef], defers := [] })
    ?hAx ?hassign ?hbody ?hdone (fun _ _ _ _ h _ => h.elim)
  case hit =>
    intro W hk _
    exact pieces1_at a b _ _ (w.heap.size + 1 + 1) (w.heap.size + 1 + 1 + 1) w.heap.size W ha hb (by omega) (by omega) (by omega)
      ⟨hk.boxed b2 id, hk.boxed b3 id, ra.below (hB0.trans (hk.below (by omega) fun _ _ => id)) (Nat.le_refl _), rb.below (hB0.trans (hk.below (by omega) fun _ _ => id)) (Nat.le_refl _), Suf.refl _ _, Suf.refl _ _⟩
  case hI =>
    rintro pre A B ⟨⟨v, h1, h2⟩, h3, h4⟩ hk
    exact ⟨⟨v, hk.boxed h1 (by omega), h2.keep hk (fun g hg => by omega)⟩, hk.boxed h3 (by omega), h4.trans (hk.below h4.size fun k hk => by omega)⟩
  case hAx =>
    rintro pre x a' A B ⟨⟨⟨v, h1, h2⟩, h3, h4⟩, Bp, Bs, hp, hs, hp6, hs6, rfl⟩ hk
    exact ⟨⟨⟨v, hk.boxed h1 (by omega), h2.keep hk (fun g hg => by omega)⟩, hk.boxed h3 (by omega), h4.trans (hk.below h4.size fun k hk => by omega)⟩, Bp, Bs, hk.obj hp (by omega), hk.obj hs (by omega), hp6, hs6, rfl⟩
  case hassign =>
    rintro l pre ⟨⟨lo, hi⟩, p, q⟩ W hpx hlt ⟨⟨v, h1, h2⟩, h3, h4⟩
    clear hpx
    dsimp only [encP]
    gi_wp2
    have hka : ∀ o1 o2, Keep (fun k => k = w.heap.size + 1 ∨ w.heap.size + 6 ≤ k) W ((W.alloc o1).alloc o2) := fun o1 o2 => ((Keep.refl _ _).alloc _).alloc _
    refine ⟨hka _ _, ⟨⟨v, (h1.alloc _).alloc _, (h2.keep ((Keep.refl NoB W).alloc _) fun _ _ => id).keep ((Keep.refl NoB _).alloc _) fun _ _ => id⟩, (h3.alloc _).alloc _, (h4.alloc h4.size _).alloc (by simp; have := h4.size; omega) _⟩,
      W.heap.size, W.heap.size + 1, ?_, ?_, by omega, by omega, rfl⟩
    · exact (Below.heap_alloc _ _ _ (by simp)).trans (World.alloc_heap_new W _)
    · have := World.alloc_heap_new (W.alloc (.cells #[.int .u64 lo, .int .u64 hi] 46)) (.cells #[.bool p, .bool q] 74)
      rwa [World.size_alloc] at this
  case hbody =>
    rintro l pre x a' W ⟨r, hpx⟩ hlt ⟨⟨⟨v, h1, h2⟩, h3, h4⟩, Bp, Bs, hp, hs, hp6, hs6, rfl⟩
    obtain ⟨⟨lo, hi⟩, p, q⟩ := x
    obtain ⟨m1, m2, m3, m4⟩ := merged_prefix (f := f) pre 0 [] (⟨lo, hi⟩, p, q) r (by rw [show pre ++ (⟨lo, hi⟩, p, q) :: r = pieces a b from by rw [← hpx]; simp]; exact hcov) trivial (fun _ h => by cases h)
    have hml := merged_length f pre []
    have hpr : pre.length + 1 ≤ (pieces a b).length := by rw [← hpx]; simp
    have c3 := h3.cell
    have cs0 : W.cell? ⟨Bs, 0, none⟩ = some (.bool p) := by simp [World.cell?, hs]
    have cs1 : W.cell? ⟨Bs, 1, none⟩ = some (.bool q) := by simp [World.cell?, hs]
    obtain ⟨i0, hi0, hz0, hz1, hz2⟩ := info_parts Tryd.infoIv
    have HM := Lib.hid (And.intro hpx (And.intro hcov (And.intro hpl (And.intro m1 (And.intro m2 m3)))))
    dsimp only at m3 m4
    clear hpx hcov m1 m2 hs
    gi_wp2_with fail
    refine ⟨trivial, CallsIn.mono (CallsIn.inRound l (callsIn_wide.2 (htk p q W))) ?_⟩
    rintro e W1 ⟨rfl, hb1⟩
    have hk1 : Keep NoB W W1 := Keep.of_below' hb1 (Nat.le_refl _)
    have h1' := hk1.boxed h1 id
    have h2' := h2.keep hk1 fun _ _ => id
    have h3' := hk1.boxed h3 id
    have h4' := h4.trans (hb1.mono h4.size)
    have hp' := hk1.obj hp id
    have hlt' : w.heap.size + 6 ≤ W1.heap.size := by have := hk1.size; omega
    have HK1 := Lib.hid hk1
    clear hb1 hk1 h1 h2 h3 h4 hp c3 cs0 cs1
    obtain ⟨out, hout⟩ : ∃ out, out = merged f [] pre := ⟨_, rfl⟩
    rw [← hout] at h2' hml
    have HO := Lib.hid hout
    clear hout
    have c1 := h1'.cell
    have cp0 : W1.cell? ⟨Bp, 0, none⟩ = some (.int .u64 lo) := by simp [World.cell?, hp']
    have cp1 : W1.cell? ⟨Bp, 1, none⟩ = some (.int .u64 hi) := by simp [World.cell?, hp']
    cases ht : f p q with
    | false =>
      have HT := Lib.hid ht
      gi_wp2
      exact ⟨HK1.out.mono fun _ _ h => h.elim, ⟨v, h1', by rw [merged_append]; simp only [merged, HT.out, ← HO.out]; exact h2'⟩, h3', h4'⟩
    | true =>
      have HT := Lib.hid ht
      obtain ⟨ad, cap, rfl⟩ := h2'.val
      have HH := Lib.hid h2'
      clear h2'
      rcases List.eq_nil_or_concat out with rfl | ⟨o', t, rfl⟩
      · gi_wp2_with fail
        refine regGIn (fun _ => trivial) 11 45 (fun _ => True) (by kernel_rfl) (by kernel_rfl) rfl trivial ?_
        simp only [List.take_succ_cons, List.take_zero]
        repeat (first
          | (refine wdetI (fun _ => trivial) ?_ rfl (fun a w hc _ hr => ?_) ?_; rotate_left; (simp [Rds, rdsO, lk, Op.operands, Call.operands, RdEq] at hr; go_simp; with_reducible rfl); dsimp only [List.nil_append, List.cons_append])
          | (refine wskip rfl ?_ ?_; (first | exact .inl (isV_eq rfl rfl) | exact .inr (isV_eq rfl rfl)); dsimp only [List.nil_append, List.cons_append])
          | (refine wdetgI (fun _ => trivial) rfl ?_ ?_ (fun a w hc _ hr => ?_) ?_; exact (isV_eq rfl rfl); rotate_left; (simp [Rds, rdsO, lk, Op.operands, Call.operands, RdEq] at hr; go_simp; with_reducible rfl); dsimp only [List.nil_append, List.cons_append]))
        intro w2 _ hk2
        simp only [finG, forall_eq, List.nil_append, List.cons_append, List.drop_succ_cons, List.drop_zero, List.drop_nil]
        simp only [Act.put, List.setIfInBounds_toArray, List.set_cons_succ, List.set_cons_zero]
        have hk2' : Keep NoB W1 w2 := ((Keep.refl NoB W1).drew).trans hk2
        have e1 := hk2'.boxed h1' id
        have e3 := hk2'.boxed h3' id
        have e4 := h4'.trans (hk2'.below h4'.size fun _ _ => id)
        have eo := (HH.out).keep hk2' fun _ _ => id
        have HE := Lib.hid (And.intro eo (And.intro e3 e4))
        have d1 := e1.cell
        have d2 : w2.cell? ⟨Bp, 0, none⟩ = some (.int .u64 lo) := hk2'.cell_some cp0 id
        have d3 : w2.cell? ⟨Bp, 1, none⟩ = some (.int .u64 hi) := hk2'.cell_some cp1 id
        have hlt2 : w.heap.size + 6 ≤ w2.heap.size := Nat.le_trans hlt' hk2'.size
        have HK2 := Lib.hid hk2'
        clear hk2 hk2' e3 e4 eo c1 cp0 cp1 h1' h3' h4'
        gi_wp2_with (gi_at_builtin; go_loud (refine wpListIn_append_own _ rfl _ _ 23 rfl (w.heap.size + 6) 46 i0 (.agg #[.int .u64 0, .int .u64 0]) 2 16 Tryd.underlying23 hi0 hz0 hz1 hz2 rfl (by decide) _ _ _ rfl (HE.out.1.1.alloc _) ⟨w2.heap.size, 0, none⟩ 1 1 [.int .u64 lo, .int .u64 hi] rfl rfl (news_at (cs := #[.int .u64 lo, .int .u64 hi]) (t := 46) (fr := (0, 0)) (World.alloc_heap_new w2 _)) (by simp [Value.oneCell']) (by unfold maxLen; first | decide | omega) (by first | decide | omega) (by rw [World.size_alloc]; omega) ?_); intro v' w3 hown' hgrow _; obtain ⟨g', cap', rfl⟩ := ownsRow_succ hown'; obtain ⟨q1, q2, q3, q4⟩ := box_appended e1 (by decide) HE.out.1.1 hown' hgrow; have q1c := q1.cell; have q1f := q1.frozen)
        refine ⟨((HK1.out.trans HK2.out).mono fun _ _ h => h.elim).trans (q4.mono fun k _ h => h), ⟨_, q2, ?_⟩, q4.boxed HE.out.2.1 (by omega), HE.out.2.2.trans (q4.below HE.out.2.2.size fun k _ => by omega)⟩
        rw [merged_append]
        simp only [merged, HT.out, if_true, ← HO.out]
        exact HE.out.1.snoc ⟨by show lo < M64; omega, by show hi < M64; omega⟩ q3
      · simp only [List.concat_eq_append, List.length_append, List.length_cons, List.length_nil, Nat.zero_add] at *
        obtain ⟨g, hgb, rfl, hcap, hcm, hct0, hct1, htb⟩ := HH.out.last
        have htl : t.lo ≤ t.hi ∧ t.hi < M64 := by
          have := NF.lo_ge HM.out.2.2.2.1 t (by rw [← HO.out]; simp)
          exact ⟨this.2.1, this.2.2⟩
        have hts : t.hi < lo := HM.out.2.2.2.2.1 t (by rw [← HO.out]; simp)
        have ct0 : W1.cell? ⟨g, o'.length * 2, none⟩ = some (.int .u64 t.lo) := hct0
        have ct1 : W1.cell? ⟨g, o'.length * 2 + 1, none⟩ = some (.int .u64 t.hi) := hct1
        clear hct0 hct1
        unfold maxLen at hcm
        have hix : ((o'.length : Nat) : Int) < (o'.length : Int) + 1 := by omega
        gi_wp2_with fail
        by_cases htt : t.hi + 1 = lo
        · have hrel : (((relate t ⟨lo, hi⟩ : Nat) : Int) == 1) = true := by
            have : relate t ⟨lo, hi⟩ = 1 := by unfold relate; rw [if_pos hts, if_pos htt]
            rw [this]; rfl
          have HTT := Lib.hid htt
          clear htt
          refine regGIn (fun _ => trivial) 11 45 (fun w' => w'.cell? ⟨w.heap.size + 1, 0, none⟩ = some (.slice (some ⟨g, 0, none⟩) (o'.length + 1) cap) ∧ w'.cell? ⟨g, o'.length * 2, none⟩ = some (.int .u64 t.lo) ∧ w'.cell? ⟨g, o'.length * 2 + 1, none⟩ = some (.int .u64 t.hi) ∧ w'.cell? ⟨Bp, 0, none⟩ = some (.int .u64 lo) ∧ w'.cell? ⟨Bp, 1, none⟩ = some (.int .u64 hi)) (by kernel_rfl) (by kernel_rfl) rfl ⟨c1, ct0, ct1, cp0, cp1⟩ ?_
          simp only [List.take_succ_cons, List.take_zero]
          repeat (first
            | (refine wdetI (fun _ => trivial) ?_ rfl (fun a w hc _ hr => ?_) ?_; rotate_left; (simp [Rds, rdsO, lk, Op.operands, Call.operands, RdEq] at hr; go_simp; with_reducible rfl); dsimp only [List.nil_append, List.cons_append])
            | (refine wskip rfl ?_ ?_; (first | exact .inl (isV_eq rfl rfl) | exact .inr (isV_eq rfl rfl)); dsimp only [List.nil_append, List.cons_append])
            | (refine wdetgI (fun _ => trivial) rfl ?_ ?_ (fun a w hc _ hr => ?_) ?_; exact (isV_eq rfl rfl); rotate_left; (simp [Rds, rdsO, lk, Op.operands, Call.operands, RdEq] at hr; go_simp; with_reducible rfl); dsimp only [List.nil_append, List.cons_append]))
          refine wgeng (fun u _ => u = .int .i64 ((relate t ⟨lo, hi⟩ : Nat) : Int)) (eqV_stab _) rfl (isV_eq rfl rfl) ?_ ?_
          · intro a2 w2 hc hk hr K hK
            have HK := Lib.hid hK
            clear hK
            simp [Rds, rdsO, lk, Op.operands, Call.operands, RdEq] at hr
            refine ⟨fun _ _ => trivial, ?_⟩
            go_simp
            refine CallsIn.mono (CallsIn.inRound l (callsIn_wide.2 (relate_any t ⟨lo, hi⟩ _ htl.1 (by show lo ≤ hi; omega) htl.2 (by show hi < M64; omega)))) ?_
            rintro e w3 ⟨rfl, hb⟩
            have hkb : Keep NoB w2 w3 := Keep.of_below' hb (Nat.le_refl _)
            exact HK.out _ _ hkb ⟨hkb.cell_some hc.1 id, hkb.cell_some hc.2.1 id, hkb.cell_some hc.2.2.1 id, hkb.cell_some hc.2.2.2.1 id, hkb.cell_some hc.2.2.2.2 id⟩ rfl
          dsimp only [List.nil_append, List.cons_append]
          repeat (first
            | (refine wdetI (fun _ => trivial) ?_ rfl (fun a w hc _ hr => ?_) ?_; rotate_left; (simp [Rds, rdsO, lk, Op.operands, Call.operands, RdEq] at hr; go_simp; with_reducible rfl); dsimp only [List.nil_append, List.cons_append])
            | (refine wskip rfl ?_ ?_; (first | exact .inl (isV_eq rfl rfl) | exact .inr (isV_eq rfl rfl)); dsimp only [List.nil_append, List.cons_append])
            | (refine wdetgI (fun _ => trivial) rfl ?_ ?_ (fun a w hc _ hr => ?_) ?_; exact (isV_eq rfl rfl); rotate_left; (simp [Rds, rdsO, lk, Op.operands, Call.operands, RdEq] at hr; go_simp; with_reducible rfl); dsimp only [List.nil_append, List.cons_append]))
          intro w2 _ hk2
          simp only [finG, forall_eq, List.nil_append, List.cons_append, List.drop_succ_cons, List.drop_zero, List.drop_nil]
          simp only [Act.put, List.setIfInBounds_toArray, List.set_cons_succ, List.set_cons_zero]
          have hk2' : Keep NoB W1 w2 := ((Keep.refl NoB W1).drew).trans hk2
          have e1 := hk2'.boxed h1' id
          have e3 := hk2'.boxed h3' id
          have e4 := h4'.trans (hk2'.below h4'.size fun _ _ => id)
          have eo := (HH.out).keep hk2' fun _ _ => id
          have er : w2.ownsRow (w.heap.size + 6) 46 2 (.slice (some ⟨g, 0, none⟩) (o'.length + 1) cap) (o'.length + 1) (flat (o' ++ [t])) := by have := eo.1; simpa using this
          have ER := Lib.hid er
          have HE := Lib.hid (And.intro eo (And.intro e3 e4))
          have d1 := e1.cell
          have d3 : w2.cell? ⟨Bp, 1, none⟩ = some (.int .u64 hi) := hk2'.cell_some cp1 id
          have d4 : w2.cell? ⟨g, o'.length * 2 + 1, none⟩ = some (.int .u64 t.hi) := hk2'.cell_some ct1 id
          have d5 : w2.frozen? ⟨g, o'.length * 2 + 1, none⟩ = false := er.frozenAt _
          have HK2 := Lib.hid hk2'
          clear hk2 hk2' e3 e4 eo er c1 cp0 cp1 ct0 ct1 h1' h3' h4'
          gi_wp2
          have hkg : Keep (fun k => k = g) w2 (w2.setCell ⟨g, o'.length * 2 + 1, none⟩ (.int .u64 hi)) := (Keep.refl (fun k => k = g) w2).setCell (p := ⟨g, o'.length * 2 + 1, none⟩) (fun _ => rfl) _
          refine ⟨((HK1.out.trans HK2.out).mono fun _ _ h => h.elim).trans (hkg.mono fun k _ h => .inr (by rw [h]; exact hgb)), ⟨_, hkg.boxed e1 (by omega), ?_⟩, hkg.boxed HE.out.2.1 (by omega), HE.out.2.2.trans (hkg.below HE.out.2.2.size fun k hk => by omega)⟩
          rw [merged_append]
          simp only [merged, HT.out, if_true, ← HO.out]
          rw [show put (o' ++ [t]) ⟨lo, hi⟩ = o' ++ [⟨t.lo, hi⟩] from by unfold put; rw [List.getLast?_concat]; simp only; rw [if_pos HTT.out, List.dropLast_concat]]
          exact HE.out.1.setHi rfl hi (by omega)
        · have hrel : (((relate t ⟨lo, hi⟩ : Nat) : Int) == 1) = false := by
            have : relate t ⟨lo, hi⟩ = 0 := by unfold relate; rw [if_pos hts, if_neg htt]
            rw [this]; rfl
          have HTT := Lib.hid htt
          clear htt
          refine regGIn (fun _ => trivial) 11 45 (fun w' => w'.cell? ⟨w.heap.size + 1, 0, none⟩ = some (.slice (some ⟨g, 0, none⟩) (o'.length + 1) cap) ∧ w'.cell? ⟨g, o'.length * 2, none⟩ = some (.int .u64 t.lo) ∧ w'.cell? ⟨g, o'.length * 2 + 1, none⟩ = some (.int .u64 t.hi) ∧ w'.cell? ⟨Bp, 0, none⟩ = some (.int .u64 lo) ∧ w'.cell? ⟨Bp, 1, none⟩ = some (.int .u64 hi)) (by kernel_rfl) (by kernel_rfl) rfl ⟨c1, ct0, ct1, cp0, cp1⟩ ?_
          simp only [List.take_succ_cons, List.take_zero]
          repeat (first
            | (refine wdetI (fun _ => trivial) ?_ rfl (fun a w hc _ hr => ?_) ?_; rotate_left; (simp [Rds, rdsO, lk, Op.operands, Call.operands, RdEq] at hr; go_simp; with_reducible rfl); dsimp only [List.nil_append, List.cons_append])
            | (refine wskip rfl ?_ ?_; (first | exact .inl (isV_eq rfl rfl) | exact .inr (isV_eq rfl rfl)); dsimp only [List.nil_append, List.cons_append])
            | (refine wdetgI (fun _ => trivial) rfl ?_ ?_ (fun a w hc _ hr => ?_) ?_; exact (isV_eq rfl rfl); rotate_left; (simp [Rds, rdsO, lk, Op.operands, Call.operands, RdEq] at hr; go_simp; with_reducible rfl); dsimp only [List.nil_append, List.cons_append]))
          refine wgeng (fun u _ => u = .int .i64 ((relate t ⟨lo, hi⟩ : Nat) : Int)) (eqV_stab _) rfl (isV_eq rfl rfl) ?_ ?_
          · intro a2 w2 hc hk hr K hK
            have HK := Lib.hid hK
            clear hK
            simp [Rds, rdsO, lk, Op.operands, Call.operands, RdEq] at hr
            refine ⟨fun _ _ => trivial, ?_⟩
            go_simp
            refine CallsIn.mono (CallsIn.inRound l (callsIn_wide.2 (relate_any t ⟨lo, hi⟩ _ htl.1 (by show lo ≤ hi; omega) htl.2 (by show hi < M64; omega)))) ?_
            rintro e w3 ⟨rfl, hb⟩
            have hkb : Keep NoB w2 w3 := Keep.of_below' hb (Nat.le_refl _)
            exact HK.out _ _ hkb ⟨hkb.cell_some hc.1 id, hkb.cell_some hc.2.1 id, hkb.cell_some hc.2.2.1 id, hkb.cell_some hc.2.2.2.1 id, hkb.cell_some hc.2.2.2.2 id⟩ rfl
          dsimp only [List.nil_append, List.cons_append]
          repeat (first
            | (refine wdetI (fun _ => trivial) ?_ rfl (fun a w hc _ hr => ?_) ?_; rotate_left; (simp [Rds, rdsO, lk, Op.operands, Call.operands, RdEq] at hr; go_simp; with_reducible rfl); dsimp only [List.nil_append, List.cons_append])
            | (refine wskip rfl ?_ ?_; (first | exact .inl (isV_eq rfl rfl) | exact .inr (isV_eq rfl rfl)); dsimp only [List.nil_append, List.cons_append])
            | (refine wdetgI (fun _ => trivial) rfl ?_ ?_ (fun a w hc _ hr => ?_) ?_; exact (isV_eq rfl rfl); rotate_left; (simp [Rds, rdsO, lk, Op.operands, Call.operands, RdEq] at hr; go_simp; with_reducible rfl); dsimp only [List.nil_append, List.cons_append]))
          intro w2 _ hk2
          simp only [finG, forall_eq, List.nil_append, List.cons_append, List.drop_succ_cons, List.drop_zero, List.drop_nil]
          simp only [Act.put, List.setIfInBounds_toArray, List.set_cons_succ, List.set_cons_zero]
          have hk2' : Keep NoB W1 w2 := ((Keep.refl NoB W1).drew).trans hk2
          have e1 := hk2'.boxed h1' id
          have e3 := hk2'.boxed h3' id
          have e4 := h4'.trans (hk2'.below h4'.size fun _ _ => id)
          have eo := (HH.out).keep hk2' fun _ _ => id
          have er : w2.ownsRow (w.heap.size + 6) 46 2 (.slice (some ⟨g, 0, none⟩) (o'.length + 1) cap) (o'.length + 1) (flat (o' ++ [t])) := by have := eo.1; simpa using this
          have ER := Lib.hid er
          have HE := Lib.hid (And.intro eo (And.intro e3 e4))
          have d1 := e1.cell
          have d2 : w2.cell? ⟨Bp, 0, none⟩ = some (.int .u64 lo) := hk2'.cell_some cp0 id
          have d3 : w2.cell? ⟨Bp, 1, none⟩ = some (.int .u64 hi) := hk2'.cell_some cp1 id
          have hlt2 : w.heap.size + 6 ≤ w2.heap.size := Nat.le_trans hlt' hk2'.size
          have HK2 := Lib.hid hk2'
          clear hk2 hk2' e3 e4 eo er c1 cp0 cp1 h1' h3' h4'
          gi_wp2_with (gi_at_builtin; go_loud (refine wpListIn_append_own _ rfl _ _ 23 rfl (w.heap.size + 6) 46 i0 (.agg #[.int .u64 0, .int .u64 0]) 2 16 Tryd.underlying23 hi0 hz0 hz1 hz2 rfl (by decide) _ _ _ rfl (ER.out.alloc _) ⟨w2.heap.size, 0, none⟩ 1 1 [.int .u64 lo, .int .u64 hi] rfl rfl (news_at (cs := #[.int .u64 lo, .int .u64 hi]) (t := 46) (fr := (0, 0)) (World.alloc_heap_new w2 _)) (by simp [Value.oneCell']) (by unfold maxLen; first | decide | omega) (by first | decide | omega) (by rw [World.size_alloc]; omega) ?_); intro v' w3 hown' hgrow _; obtain ⟨g', cap', rfl⟩ := ownsRow_succ hown'; obtain ⟨q1, q2, q3, q4⟩ := box_appended e1 (by decide) ER.out hown' hgrow; have q1c := q1.cell; have q1f := q1.frozen)
          refine ⟨((HK1.out.trans HK2.out).mono fun _ _ h => h.elim).trans (q4.mono fun k _ h => h), ⟨_, q2, ?_⟩, q4.boxed HE.out.2.1 (by omega), HE.out.2.2.trans (q4.below HE.out.2.2.size fun k _ => by omega)⟩
          rw [merged_append]
          simp only [merged, HT.out, if_true, ← HO.out]
          rw [show put (o' ++ [t]) ⟨lo, hi⟩ = o' ++ [t] ++ [⟨lo, hi⟩] from by unfold put; rw [List.getLast?_concat]; simp only; rw [if_neg HTT.out]]
          exact HE.out.1.snoc ⟨by show lo < M64; omega, by show hi < M64; omega⟩ (by simpa using q3)
  case hdone =>
    rintro W ⟨⟨v, h1, h2⟩, h3, h4⟩ hD
    have hc := h1.cell
    gi_wp2
    refine ⟨by simp, .inl ⟨_, _, rfl, run_takeDeferred hD, ?_⟩⟩
    have hkD : Keep (fun k => k = W0.heap.size) W (W.putObj W0.heap.size (.deferred none)) := (Keep.refl (fun k => k = W0.heap.size) W).putObj (fun _ => rfl) _
    exact ⟨_, results_tmp rfl _ _ _, v, rfl, (h2.keep hkD fun g hg => by omega).mono (by omega), h4.trans (hkD.below h4.size fun k hk => by omega)⟩
end Go.Proofs.YtcedofkenfddkaaDoor
