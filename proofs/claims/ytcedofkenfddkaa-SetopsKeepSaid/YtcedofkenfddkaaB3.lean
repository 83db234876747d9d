/- Texts of this claim, bound together: Know Alive5 Copy Law5K. -/
import Derived.Test.YtcedofkenfddkaaB2
/- What a walk knows of the slices that it has met, through all calls: one hypothesis for all of them. The contracts of Union, Meet, Minus, Not, Subset, Disjoint and Same in these words. The lists are correct. -/
namespace Go.Proofs.Ytcedofkenfddkaa
set_option linter.unusedVariables false
set_option linter.unusedSimpArgs false
open Go.RowKit

/-- A fact on a world that stays true as long as nothing that lies is written. -/
def Stb (P : World → Prop) : Prop := ∀ w w', P w → Below w.heap.size w w' → P w'
/-- The world grew from w0, which lies as it was; and the facts of L hold. -/
def Know (w0 w : World) (L : List (World → Prop)) : Prop := Below w0.heap.size w0 w ∧ ∀ P ∈ L, Stb P ∧ P w
theorem Know.nil (w : World) : Know w w [] := ⟨Below.refl _ _, fun _ h => by cases h⟩
theorem Know.get {w0 w : World} {L : List (World → Prop)} {P : World → Prop} (h : Know w0 w L) (hp : P ∈ L) : P w := (h.2 P hp).2
theorem Know.below {w0 w : World} {L : List (World → Prop)} (h : Know w0 w L) : Below w0.heap.size w0 w := h.1
theorem Know.size {w0 w : World} {L : List (World → Prop)} (h : Know w0 w L) : w0.heap.size ≤ w.heap.size := h.1.size
theorem Know.step {w0 w w' : World} {L : List (World → Prop)} (h : Know w0 w L) (hb : Below w.heap.size w w') : Know w0 w' L :=
  ⟨h.1.trans (hb.mono h.1.size), fun P hp => ⟨(h.2 P hp).1, (h.2 P hp).1 _ _ (h.2 P hp).2 hb⟩⟩
theorem Know.add {w0 w : World} {L : List (World → Prop)} {P : World → Prop} (h : Know w0 w L) (hs : Stb P) (hp : P w) : Know w0 w (P :: L) :=
  ⟨h.1, fun Q hq => by rcases List.mem_cons.1 hq with rfl | hq; exact ⟨hs, hp⟩; exact h.2 Q hq⟩
theorem Know.alloc {w0 w : World} {L : List (World → Prop)} (h : Know w0 w L) (o : Obj) : Know w0 (w.alloc o) L := h.step ((Below.refl _ _).alloc (Nat.le_refl _) o)
theorem Know.drew {w0 w : World} {L : List (World → Prop)} (h : Know w0 w L) : Know w0 w.drew L := h.step ⟨rfl, rfl, rfl, Nat.le_refl _, fun _ _ => rfl⟩

/-- A slice reads as a correct list, no longer than n. -/
def IsR (v : Value) (l : List Iv) (n : Nat) (w : World) : Prop := RdR 0 w.heap.size w v l ∧ Nrm l ∧ l.length ≤ n
theorem IsR.stb (v : Value) (l : List Iv) (n : Nat) : Stb (IsR v l n) := fun _ _ h hb => ⟨(h.1.below hb (Nat.le_refl _)).keep (Nat.le_refl _) hb.size fun _ _ _ => rfl, h.2⟩
theorem opS_length (f : Bool → Bool → Bool) (a b : List Iv) : (opS f a b).length ≤ 2 * (a.length + b.length) + 1 := Nat.le_trans (merged_length f _ _) (by simpa using pieces_length a b)
theorem IsR.ops {base : Nat} {w : World} {v : Value} {f : Bool → Bool → Bool} {a b : List Iv} {m n : Nat} (h : OwnR base w v (opS f a b)) (ha : Nrm a) (hb : Nrm b) (hm : a.length ≤ m) (hn : b.length ≤ n) : IsR v (opS f a b) (2 * (m + n) + 1) w :=
  ⟨h.rd.keep (Nat.zero_le _) (Nat.le_refl _) fun _ _ _ => rfl, opS_nrm ha hb, Nat.le_trans (opS_length f a b) (by omega)⟩
theorem IsR.val {v : Value} {l : List Iv} {n : Nat} {w : World} (h : IsR v l n w) : ∃ a c, v = .slice a l.length c := by obtain ⟨a, c, e, _⟩ := h.1; exact ⟨a, c, e⟩

section
variable {a b : List Iv} {m n : Nat} {va vb : Value} {w0 w : World} {L : List (World → Prop)}
theorem union_K (h : Know w0 w L) (ha : IsR va a m w) (hb : IsR vb b n w) (hl : m + n ≤ 1073741824) : Calls Try.prog 21 #[va, vb] w fun e w' => ∃ v, e = .returned v ∧ Know w0 w' (IsR v (opS fUnion a b) (2 * (m + n) + 1) :: L) := by
  obtain ⟨a1, a2, a3⟩ := ha
  obtain ⟨b1, b2, b3⟩ := hb
  refine (union_calls a b va vb w a2 b2 a1 b1 (by omega)).mono ?_
  rintro e w' ⟨v, rfl, ho, hw⟩
  exact ⟨v, rfl, (h.step hw).add (IsR.stb _ _ _) (.ops ho a2 b2 a3 b3)⟩
theorem meet_K (h : Know w0 w L) (ha : IsR va a m w) (hb : IsR vb b n w) (hl : m + n ≤ 1073741824) : Calls Try.prog 23 #[va, vb] w fun e w' => ∃ v, e = .returned v ∧ Know w0 w' (IsR v (opS fMeet a b) (2 * (m + n) + 1) :: L) := by
  obtain ⟨a1, a2, a3⟩ := ha
  obtain ⟨b1, b2, b3⟩ := hb
  refine (meet_calls a b va vb w a2 b2 a1 b1 (by omega)).mono ?_
  rintro e w' ⟨v, rfl, ho, hw⟩
  exact ⟨v, rfl, (h.step hw).add (IsR.stb _ _ _) (.ops ho a2 b2 a3 b3)⟩
theorem minus_K (h : Know w0 w L) (ha : IsR va a m w) (hb : IsR vb b n w) (hl : m + n ≤ 1073741824) : Calls Try.prog 25 #[va, vb] w fun e w' => ∃ v, e = .returned v ∧ Know w0 w' (IsR v (opS fMinus a b) (2 * (m + n) + 1) :: L) := by
  obtain ⟨a1, a2, a3⟩ := ha
  obtain ⟨b1, b2, b3⟩ := hb
  refine (minus_calls a b va vb w a2 b2 a1 b1 (by omega)).mono ?_
  rintro e w' ⟨v, rfl, ho, hw⟩
  exact ⟨v, rfl, (h.step hw).add (IsR.stb _ _ _) (.ops ho a2 b2 a3 b3)⟩
theorem not_K (s : Iv) (h : Know w0 w L) (ha : IsR va a m w) (hs : s.lo ≤ s.hi) (hs' : s.hi < M64) (hl : m ≤ 1073741823) : Calls Try.prog 28 #[va, .agg #[.int .u64 s.lo, .int .u64 s.hi]] w fun e w' => ∃ v, e = .returned v ∧ Know w0 w' (IsR v (opS fMinus [s] a) (2 * (1 + m) + 1) :: L) := by
  obtain ⟨a1, a2, a3⟩ := ha
  refine (not_calls a va s w a2 hs hs' a1 (by omega)).mono ?_
  rintro e w' ⟨v, rfl, ho, hw⟩
  exact ⟨v, rfl, (h.step hw).add (IsR.stb _ _ _) (.ops ho ⟨Nat.zero_le _, hs, hs', trivial⟩ a2 (by simp) a3)⟩
theorem subset_K (c : Bool) (h : Know w0 w L) (ha : IsR va a m w) (hb : IsR vb b n w) (hc : neverB a b true false = c) : Calls Try.prog 30 #[va, vb] w fun e w' => e = .returned (.bool c) ∧ Know w0 w' L := by
  obtain ⟨a1, a2, a3⟩ := ha
  obtain ⟨b1, b2, b3⟩ := hb
  refine (subset_calls a b va vb w a2 b2 a1 b1).mono ?_
  rintro e w' ⟨rfl, hw⟩
  exact ⟨by rw [hc], h.step hw⟩
theorem disjoint_K (c : Bool) (h : Know w0 w L) (ha : IsR va a m w) (hb : IsR vb b n w) (hc : neverB a b true true = c) : Calls Try.prog 31 #[va, vb] w fun e w' => e = .returned (.bool c) ∧ Know w0 w' L := by
  obtain ⟨a1, a2, a3⟩ := ha
  obtain ⟨b1, b2, b3⟩ := hb
  refine (disjoint_calls a b va vb w a2 b2 a1 b1).mono ?_
  rintro e w' ⟨rfl, hw⟩
  exact ⟨by rw [hc], h.step hw⟩
end

/-! ### Right and Same -/
def rightB (l : List Iv) : Bool := decide (((chk l).1 : Int) = 0)
theorem rightB_iff {l : List Iv} (h : ∀ s ∈ l, s.hi < M64) : rightB l = true ↔ Nrm l := by
  rw [← chk_nrm h]; unfold rightB; simp
theorem refRight4_any (l : List Iv) (v : Value) (w : World) (hl : RdR 0 w.heap.size w v l) : Calls Try.prog 64 #[v] w fun e w' => e = .returned (.bool (rightB l)) ∧ Below w.heap.size w w' := by
  have HC := Lib.hid (refCheck_any l v w hl)
  have hv : Hid (Value.bool (decide (((chk l).1 : Int) = 0)) = .bool (rightB l)) := Lib.hid rfl
  obtain ⟨c, hc⟩ : ∃ c : Int, ((chk l).1 : Int) = c := ⟨_, rfl⟩
  obtain ⟨d, hd⟩ : ∃ d, (chk l).2 = d := ⟨_, rfl⟩
  rw [hc, hd] at HC
  rw [hc] at hv
  clear hc hd hl
  go_enter Try.func64, Try.ntmps64
  go_wp2_with (go_at_call 92; refine HC.out.mono ?_; rintro e w1 ⟨rfl, hb1⟩)
  go_ret
  exact ⟨by rw [← hv.out]; rfl, hb1⟩

theorem refSame_any (a b : List Iv) (va vb : Value) (w : World) (ra : RdR 0 w.heap.size w va a) (rb : RdR 0 w.heap.size w vb b) : Calls Try.prog 20 #[va, vb] w fun e w' => e = .returned (.bool (decide (a = b))) ∧ Below w.heap.size w w' := by
  obtain ⟨aa, ca, rfl, hla, hma, hca⟩ := ra
  obtain ⟨ab, cb, rfl, hlb, hmb, hcb⟩ := rb
  unfold maxLen at hma hmb
  by_cases hn : a.length = b.length
  · have hD : Hid (decide (a = b) = decide (a.drop 0 = b.drop 0)) := Lib.hid (by simp)
    rw [hn] at hla ⊢
    go_enter Try.func20, Try.ntmps20
    go_wp2_with fail
    go_loopg [5] (b.length + 1) (fun g i wr => ∃ k : Nat, k ≤ b.length ∧ g = b.length - k + 1 ∧ i = .int .i64 k ∧ Hid (decide (a = b) = decide (a.drop k = b.drop k)) ∧ Below w.heap.size w wr)
    case atStart => exact ⟨0, Nat.zero_le _, rfl, rfl, hD, Below.refl _ _⟩
    case round =>
      obtain ⟨k, hk, rfl, rfl, hd, hB⟩ := hrel
      by_cases hlt : k < b.length
      · have hlt' : k < a.length := by omega
        obtain ⟨b1, o1, rfl, _, hb1, hc1⟩ := hca (by intro e; subst e; simp at hlt')
        obtain ⟨b2, o2, rfl, _, hb2, hc2⟩ := hcb (by intro e; subst e; simp at hlt)
        obtain ⟨f1, f2, f3, f4⟩ := hc1 k hlt'
        obtain ⟨g1, g2, g3, g4⟩ := hc2 k hlt
        have hs := List.drop_eq_getElem_cons hlt
        have ht := List.drop_eq_getElem_cons hlt'
        obtain ⟨⟨s1, s2⟩, hsd⟩ : ∃ s, s = a[k] := ⟨_, rfl⟩
        obtain ⟨⟨t1, t2⟩, htd⟩ : ∃ s, s = b[k] := ⟨_, rfl⟩
        rw [← hsd] at f1 f2 f3 f4 ht
        rw [← htd] at g1 g2 g3 g4 hs
        dsimp only at f1 f2 g1 g2 f3 f4 g3 g4
        have c1 : wr.cell? ⟨b1, o1 + k * 2, none⟩ = some (.int .u64 s1) := (hB.cell (p := ⟨b1, _, none⟩) hb1).trans f1
        have c2 : wr.cell? ⟨b1, o1 + k * 2 + 1, none⟩ = some (.int .u64 s2) := (hB.cell (p := ⟨b1, _, none⟩) hb1).trans f2
        have c3 : wr.cell? ⟨b2, o2 + k * 2, none⟩ = some (.int .u64 t1) := (hB.cell (p := ⟨b2, _, none⟩) hb2).trans g1
        have c4 : wr.cell? ⟨b2, o2 + k * 2 + 1, none⟩ = some (.int .u64 t2) := (hB.cell (p := ⟨b2, _, none⟩) hb2).trans g2
        have i1 : (k : Int) < b.length := by omega
        have i2 : (k : Int) < a.length := by omega
        have HS := Lib.hid (And.intro hs ht)
        clear hs ht hsd htd f1 f2 g1 g2 hc1 hc2 hca hcb hD
        go_upto_region 6 with fail
        refine regG 9 26 (fun w' => w'.cell? ⟨b1, o1 + k * 2, none⟩ = some (.int .u64 s1) ∧ w'.cell? ⟨b1, o1 + k * 2 + 1, none⟩ = some (.int .u64 s2) ∧ w'.cell? ⟨b2, o2 + k * 2, none⟩ = some (.int .u64 t1) ∧ w'.cell? ⟨b2, o2 + k * 2 + 1, none⟩ = some (.int .u64 t2)) (by kernel_rfl) (by kernel_rfl) rfl ⟨c1, c2, c3, c4⟩ ?_
        simp only [List.take_succ_cons, List.take_zero]
        repeat (first
          | (refine wdet ?_ rfl (fun a w hc _ hr => ?_) ?_; rotate_left; (simp [Rds, rdsO, lk, Op.operands, Call.operands, RdEq] at hr; go_simp; with_reducible rfl); dsimp only [List.nil_append, List.cons_append])
          | (refine wskip rfl ?_ ?_; (first | exact .inl (isV_eq rfl rfl) | exact .inr (isV_eq rfl rfl)); dsimp only [List.nil_append, List.cons_append])
          | (refine wdetg rfl ?_ ?_ (fun a w hc _ hr => ?_) ?_; exact (isV_eq rfl rfl); rotate_left; (simp [Rds, rdsO, lk, Op.operands, Call.operands, RdEq] at hr; go_simp; with_reducible rfl); dsimp only [List.nil_append, List.cons_append]))
        refine wdet (.bool (!decide (s1 = t1 ∧ s2 = t2))) rfl (fun a w hc _ hr => ?_) ?_
        · simp [Rds, rdsO, lk, Op.operands, Call.operands, RdEq] at hr
          go_simp
          by_cases e1 : s1 = t1 <;> by_cases e2 : s2 = t2 <;> simp [e1, e2, Int.ofNat_inj]
        dsimp only [List.nil_append, List.cons_append]
        by_cases he : s1 = t1 ∧ s2 = t2
        · have HE := Lib.hid he
          rw [decide_eq_true he]
          clear he
          intro w2 hc2 hk2
          simp only [finG, forall_eq, List.nil_append, List.cons_append, List.drop_succ_cons, List.drop_zero, List.drop_nil]
          simp only [Act.put, List.setIfInBounds_toArray, List.set_cons_succ, List.set_cons_zero]
          have hk3 : Keep NoB wr w2 := ((Keep.refl NoB wr).drew).trans hk2
          clear hc2 hk2 i1 i2
          go_wp2
          go_roundg (b.length - k)
          case measure => simp
          case rel =>
            refine ⟨k + 1, by omega, by omega, by go_num, ?_, hB.trans (hk3.below hB.size fun _ _ => id)⟩
            show _ = _
            rw [hd.out, HS.out.1, HS.out.2, HE.out.1, HE.out.2]
            simp
        · have hF : Hid (decide (a = b) = false) := Lib.hid (by
            rw [hd.out, HS.out.1, HS.out.2]
            simp
            intro h1 h2; exact absurd ⟨h1, h2⟩ he)
          rw [decide_eq_false he]
          clear he
          intro w2 hc2 hk2
          simp only [finG, forall_eq, List.nil_append, List.cons_append, List.drop_succ_cons, List.drop_zero, List.drop_nil]
          simp only [Act.put, List.setIfInBounds_toArray, List.set_cons_succ, List.set_cons_zero]
          have hk3 : Keep NoB wr w2 := ((Keep.refl NoB wr).drew).trans hk2
          clear hc2 hk2 i1 i2
          go_wp2
          go_ret
          rw [hF.out]
          exact ⟨rfl, hB.trans (hk3.below hB.size fun _ _ => id)⟩
      · have hkl : k = b.length := by omega
        have hT : Hid (decide (a = b) = true) := Lib.hid (by rw [hd.out, hkl, List.drop_length, ← hn, List.drop_length]; rfl)
        clear hca hcb hn
        go_wp2
        go_ret
        rw [hT.out]
        exact ⟨rfl, hB⟩
  · have hD : Hid (decide (a = b) = false) := Lib.hid (by simp; intro e; exact hn (by rw [e]))
    have hne : ((a.length : Int) != b.length) = true := by simp; omega
    clear hn
    go_enter Try.func20, Try.ntmps20
    go_wp2
    go_ret
    rw [hD.out]
    exact ⟨rfl, Below.refl _ _⟩
theorem same_K {a b : List Iv} {m n : Nat} {va vb : Value} {w0 w : World} {L : List (World → Prop)} (h : Know w0 w L) (ha : IsR va a m w) (hb : IsR vb b n w) (he : a = b) : Calls Try.prog 20 #[va, vb] w fun e w' => e = .returned (.bool true) ∧ Know w0 w' L := by
  refine (refSame_any a b va vb w ha.1 hb.1).mono ?_
  rintro e w' ⟨rfl, hw⟩
  exact ⟨by rw [decide_eq_true he], h.step hw⟩

/-- What the laws ask of their lists: each correct, none longer than 60. -/
def rightsB (ls : List (List Iv)) : Bool := ls.all fun l => decide (l.length ≤ 60) && rightB l
theorem rightsB_drop {ls : List (List Iv)} {k : Nat} (h : k < ls.length) : rightsB (ls.drop k) = (decide (ls[k].length ≤ 60) && rightB ls[k] && rightsB (ls.drop (k + 1))) := by
  rw [List.drop_eq_getElem_cons h]; rfl
theorem right5_any (vs : List Value) (ls : List (List Iv)) (B cap : Nat) (w : World) (hlen : vs.length = ls.length) (hcap : ls.length ≤ cap) (hm : cap ≤ maxLen) (hB : B < w.heap.size)
    (hc : ∀ i (h : i < ls.length), w.cell? ⟨B, i, none⟩ = some (vs[i]'(by omega)) ∧ RdR 0 w.heap.size w (vs[i]'(by omega)) ls[i]) :
    Calls Try.prog 18 #[.slice (some ⟨B, 0, none⟩) ls.length cap] w fun e w' => e = .returned (.bool (rightsB ls)) ∧ Below w.heap.size w w' := by
  unfold maxLen at hm
  have hD : Hid (rightsB ls = rightsB (ls.drop 0)) := Lib.hid rfl
  go_enter Try.func18, Try.ntmps18
  go_wp2_with fail
  go_loopg [7] (ls.length + 1) (fun g i wr => ∃ k : Nat, k ≤ ls.length ∧ g = ls.length - k + 1 ∧ i = .int .i64 k ∧ Hid (rightsB ls = rightsB (ls.drop k)) ∧ Below w.heap.size w wr)
  case atStart => exact ⟨0, Nat.zero_le _, rfl, rfl, hD, Below.refl _ _⟩
  case round =>
    obtain ⟨k, hk, rfl, rfl, hd, hw⟩ := hrel
    clear hD
    by_cases hlt : k < ls.length
    · obtain ⟨g1, g2⟩ := hc k hlt
      obtain ⟨v, hv⟩ : ∃ v, vs[k]'(by omega) = v := ⟨_, rfl⟩
      obtain ⟨l, hl⟩ : ∃ l, l = ls[k] := ⟨_, rfl⟩
      have hs := rightsB_drop hlt
      rw [hv] at g1 g2
      rw [← hl] at g2 hs
      have c1 : wr.cell? ⟨B, k, none⟩ = some v := (hw.cell (p := ⟨B, k, none⟩) hB).trans g1
      have g3 := (g2.below hw (Nat.le_refl _)).keep (Nat.le_refl _) hw.size fun _ _ _ => rfl
      have HR := Lib.hid (refRight4_any l v wr g3)
      obtain ⟨av, cv, rfl, _⟩ := g3
      clear g1 g2 hc hv
      obtain ⟨r, hr⟩ : ∃ r, rightB l = r := ⟨_, rfl⟩
      rw [hr] at HR hs
      by_cases h60 : l.length ≤ 60
      · rw [decide_eq_true h60] at hs
        cases r with
        | true =>
          have HS : Hid (rightsB ls = rightsB (ls.drop (k + 1))) := Lib.hid (by rw [hd.out, hs]; simp)
          clear hs hr hl hd
          go_wp2_with (go_at_call 64; refine HR.out.mono ?_; rintro e w1 ⟨rfl, hb1⟩)
          go_roundg (ls.length - k)
          case measure => simp
          case rel => exact ⟨k + 1, by omega, by omega, by go_num, HS, hw.trans (hb1.mono hw.size)⟩
        | false =>
          have HS : Hid (rightsB ls = false) := Lib.hid (by rw [hd.out, hs]; simp)
          clear hs hr hl hd
          go_wp2_with (go_at_call 64; refine HR.out.mono ?_; rintro e w1 ⟨rfl, hb1⟩)
          go_ret
          rw [HS.out]
          exact ⟨rfl, hw.trans (hb1.mono hw.size)⟩
      · have HS : Hid (rightsB ls = false) := Lib.hid (by rw [hd.out, hs, decide_eq_false h60]; simp)
        clear hs hr hl hd
        go_wp2_with fail
        go_ret
        rw [HS.out]
        exact ⟨rfl, hw⟩
    · have hkl : k = ls.length := by omega
      have hT : Hid (rightsB ls = true) := Lib.hid (by rw [hd.out, hkl, List.drop_length]; rfl)
      clear hc
      go_wp2
      go_ret
      rw [hT.out]
      exact ⟨rfl, hw⟩
end Go.Proofs.Ytcedofkenfddkaa
/- The example of chapter 05 holds: kenninglaw05.alive returns true. -/
namespace Go.Proofs.Ytcedofkenfddkaa
set_option linter.unusedVariables false
set_option linter.unusedSimpArgs false
open Go.RowKit

theorem flat_at {l : List Iv} {w : World} {B : Nat} {t : TypeId} {fr : Nat × Nat} (h : w.heap[B]? = some (.cells (flat l).toArray t fr)) (hb : ∀ s ∈ l, s.lo < M64 ∧ s.hi < M64) (i : Nat) (hi : i < l.length) : rdIv w B (i * 2) l[i] := by
  obtain ⟨f1, f2⟩ := flat_get l i hi
  refine ⟨?_, ?_, hb _ (List.getElem_mem hi)⟩
  · simp only [World.cell?, h]; simpa using f1
  · simp only [World.cell?, h]; simpa using f2
/-- A slice that was just built. -/
theorem IsR.new {l : List Iv} {w : World} {t : TypeId} {n : Nat} (hn : l.length = n) (hnr : Nrm l) (hm : l.length ≤ maxLen) : IsR (.slice (some ⟨w.heap.size, 0, none⟩) n n) l n (w.alloc (.cells (flat l).toArray t (0, 0))) := by
  subst hn
  refine ⟨⟨_, _, rfl, Nat.le_refl _, hm, fun _ => ⟨_, 0, rfl, Nat.zero_le _, by simp, fun i hi => ?_⟩⟩, hnr, Nat.le_refl _⟩
  rw [Nat.zero_add]
  exact flat_at (World.alloc_heap_new w _) (fun s hs => by have := NF.lo_ge hnr s hs; omega) i hi

theorem n23 : Nrm [⟨2, 3⟩, ⟨9, 9⟩] := by simp [Nrm, NF, M64_val]
theorem n01 : Nrm [⟨0, 1⟩, ⟨4, 8⟩] := by simp [Nrm, NF, M64_val]
theorem n09 : Nrm [⟨0, 9⟩] := by simp [Nrm, NF, M64_val]
theorem e1 : opS fMinus [⟨0, 9⟩] [⟨2, 3⟩, ⟨9, 9⟩] = [⟨0, 1⟩, ⟨4, 8⟩] := opS_eq n09 n23 n01 fun x _ => by rw [Bool.eq_iff_iff]; simp [mem, fMinus]; omega
theorem e2 : opS fUnion [⟨2, 3⟩, ⟨9, 9⟩] [⟨0, 1⟩, ⟨4, 8⟩] = [⟨0, 9⟩] := opS_eq n23 n01 n09 fun x _ => by rw [Bool.eq_iff_iff]; simp [mem, fUnion]; omega
theorem e3 : neverB [⟨2, 3⟩, ⟨9, 9⟩] [⟨0, 1⟩, ⟨4, 8⟩] true true = true := (neverB_iff n23 n01 _ _).2 fun x _ => by simp [mem]; omega
theorem e4 : neverB [⟨2, 3⟩, ⟨9, 9⟩] [⟨0, 1⟩, ⟨4, 8⟩] true false = false := Bool.eq_false_iff.2 fun h => (neverB_iff n23 n01 _ _).1 h 2 (by decide) (by decide)
theorem e5 : opS fMeet [⟨2, 3⟩, ⟨9, 9⟩] [⟨0, 1⟩, ⟨4, 8⟩] = [] := opS_eq n23 n01 trivial fun x _ => by rw [Bool.eq_iff_iff]; simp [mem, fMeet]; omega
theorem e6 : opS fMinus [⟨2, 3⟩, ⟨9, 9⟩] [⟨0, 1⟩, ⟨4, 8⟩] = [⟨2, 3⟩, ⟨9, 9⟩] := opS_eq n23 n01 n23 fun x _ => by rw [Bool.eq_iff_iff]; simp [mem, fMinus]; omega
set_option maxHeartbeats 1000000 in
set_option maxRecDepth 100000 in
theorem alive_any (w : World) : Calls Try.prog 19 #[] w fun e w' => e = .returned (.bool true) ∧ Below w.heap.size w w' := by
  go_enter Try.func19, Try.ntmps19
  go_upto_region 2 with fail
  have K1 : Know w _ [IsR (.slice (some ⟨w.heap.size, 0, none⟩) 2 2) [⟨2, 3⟩, ⟨9, 9⟩] 2] := ((Know.nil w).alloc (.cells #[.int .u64 2, .int .u64 3, .int .u64 9, .int .u64 9] 30 (0, 0))).add (IsR.stb _ _ _) (IsR.new (l := [⟨2, 3⟩, ⟨9, 9⟩]) rfl n23 (by decide))
  obtain ⟨w1, hw1⟩ : ∃ x, (w.alloc (.cells #[.int .u64 2, .int .u64 3, .int .u64 9, .int .u64 9] 30 (0, 0))) = x := ⟨_, rfl⟩
  obtain ⟨va, hva⟩ : ∃ x, Value.slice (some ⟨w.heap.size, 0, none⟩) 2 2 = x := ⟨_, rfl⟩
  rw [hw1, hva] at K1
  rw [hw1, hva]
  clear hw1 hva
  go_upto_region 3 with (go_at_call 28; refine (not_K (va := va) ⟨0, 9⟩ (by first | assumption | (refine Know.alloc ?_ _; assumption)) (by refine Know.get (by first | assumption | (refine Know.alloc ?_ _; assumption)) ?_; repeat (first | exact List.Mem.head _ | apply List.Mem.tail)) (by decide) (by decide) (by decide)).mono ?_; rintro e w2 ⟨vb, rfl, K2⟩)
  rw [e1] at K2
  go_wp2_with (first
    | (have := K2; go_at_call 20; refine (same_K (b := [⟨0, 1⟩, ⟨4, 8⟩]) (K2.alloc _) (Know.get (K2.alloc _) (.head _)) (IsR.new rfl n01 (by decide)) rfl).mono ?_; rintro e w3 ⟨rfl, K3⟩; clear K2)
    | (have := K3; go_at_call 21; refine (union_K K3 (by refine Know.get (by first | assumption | (refine Know.alloc ?_ _; assumption)) ?_; repeat (first | exact List.Mem.head _ | apply List.Mem.tail)) (by refine Know.get (by first | assumption | (refine Know.alloc ?_ _; assumption)) ?_; repeat (first | exact List.Mem.head _ | apply List.Mem.tail)) (by decide)).mono ?_; rintro e w4 ⟨vc, rfl, K4⟩; rw [e2] at K4; clear K3)
    | (have := K4; go_at_call 20; refine (same_K (b := [⟨0, 9⟩]) (K4.alloc _) (Know.get (K4.alloc _) (.head _)) (IsR.new rfl n09 (by decide)) rfl).mono ?_; rintro e w5 ⟨rfl, K5⟩; clear K4)
    | (have := K5; go_at_call 31; refine (disjoint_K _ K5 (by refine Know.get (by first | assumption | (refine Know.alloc ?_ _; assumption)) ?_; repeat (first | exact List.Mem.head _ | apply List.Mem.tail)) (by refine Know.get (by first | assumption | (refine Know.alloc ?_ _; assumption)) ?_; repeat (first | exact List.Mem.head _ | apply List.Mem.tail)) e3).mono ?_; rintro e w6 ⟨rfl, K6⟩; clear K5)
    | (have := K6; go_at_call 30; refine (subset_K _ K6 (by refine Know.get (by first | assumption | (refine Know.alloc ?_ _; assumption)) ?_; repeat (first | exact List.Mem.head _ | apply List.Mem.tail)) (by refine Know.get (by first | assumption | (refine Know.alloc ?_ _; assumption)) ?_; repeat (first | exact List.Mem.head _ | apply List.Mem.tail)) e4).mono ?_; rintro e w7 ⟨rfl, K7⟩; clear K6)
    | (have := K7; go_at_call 23; refine (meet_K K7 (by refine Know.get (by first | assumption | (refine Know.alloc ?_ _; assumption)) ?_; repeat (first | exact List.Mem.head _ | apply List.Mem.tail)) (by refine Know.get (by first | assumption | (refine Know.alloc ?_ _; assumption)) ?_; repeat (first | exact List.Mem.head _ | apply List.Mem.tail)) (by decide)).mono ?_; rintro e w8 ⟨vd, rfl, K8⟩; rw [e5] at K8; obtain ⟨ad, cd, rfl⟩ := (K8.get (List.Mem.head _)).val; clear K7)
    | (have := K8; go_at_call 25; refine (minus_K K8 (by refine Know.get (by first | assumption | (refine Know.alloc ?_ _; assumption)) ?_; repeat (first | exact List.Mem.head _ | apply List.Mem.tail)) (by refine Know.get (by first | assumption | (refine Know.alloc ?_ _; assumption)) ?_; repeat (first | exact List.Mem.head _ | apply List.Mem.tail)) (by decide)).mono ?_; rintro e w9 ⟨ve, rfl, K9⟩; rw [e6] at K9; clear K8)
    | (have := K9; go_at_call 20; refine (same_K K9 (by refine Know.get (by first | assumption | (refine Know.alloc ?_ _; assumption)) ?_; repeat (first | exact List.Mem.head _ | apply List.Mem.tail)) (by refine Know.get (by first | assumption | (refine Know.alloc ?_ _; assumption)) ?_; repeat (first | exact List.Mem.head _ | apply List.Mem.tail)) rfl).mono ?_; rintro e w10 ⟨rfl, K10⟩))
  go_ret
  exact ⟨rfl, K10.below⟩
theorem right_new {vs : List Value} {ls : List (List Iv)} {w : World} {t : TypeId} {n : Nat} (hlen : vs.length = ls.length) (hn : ls.length = n) (hm : ls.length ≤ maxLen)
    (h : ∀ i (h : i < ls.length), RdR 0 w.heap.size w (vs[i]'(by omega)) ls[i]) :
    Calls Try.prog 18 #[.slice (some ⟨w.heap.size, 0, none⟩) n n] (w.alloc (.cells vs.toArray t (0, 0))) fun e w' => e = .returned (.bool (rightsB ls)) ∧ Below w.heap.size w w' := by
  subst hn
  have hb : Below w.heap.size w (w.alloc (.cells vs.toArray t (0, 0))) := (Below.refl _ _).alloc (Nat.le_refl _) _
  refine (right5_any vs ls w.heap.size ls.length _ hlen (Nat.le_refl _) hm (by simp) fun i hi => ⟨?_, ((h i hi).below hb (Nat.le_refl _)).keep (Nat.le_refl _) hb.size fun _ _ _ => rfl⟩).mono ?_
  · have := World.alloc_heap_new w (.cells vs.toArray t (0, 0))
    simp only [World.cell?, this]
    simp [show i < vs.length by omega]
  · rintro e w' ⟨rfl, hw⟩
    exact ⟨rfl, hb.trans (hw.mono hb.size)⟩
theorem rightsB_get {ls : List (List Iv)} (h : rightsB ls = true) {l : List Iv} (hl : l ∈ ls) (hb : ∀ s ∈ l, s.hi < M64) : Nrm l ∧ l.length ≤ 60 := by
  unfold rightsB at h
  rw [List.all_eq_true] at h
  have := h l hl
  simp only [Bool.and_eq_true, decide_eq_true_eq] at this
  exact ⟨(rightB_iff hb).1 this.2, this.1⟩
theorem IsR.arg {v : Value} {l : List Iv} {w : World} {ls : List (List Iv)} (hr : RdR 0 w.heap.size w v l) (h : rightsB ls = true) (hl : l ∈ ls) : IsR v l 60 w := by
  obtain ⟨h1, h2⟩ := rightsB_get h hl (fun s hs => (hr.bound s hs).2)
  exact ⟨hr, h1, h2⟩
end Go.Proofs.Ytcedofkenfddkaa
/- A copy of a list of intervals: append(Ranges{}, l..). No condition but that the list is shorter than 2^40. -/
namespace Go.Proofs.Ytcedofkenfddkaa
set_option linter.unusedVariables false
set_option linter.unusedSimpArgs false
open Go.RowKit

theorem wpList_append_copy {w : World} {ops : Array Oper} {rest : List Oper} {o : Oper} {a : Act} {Q : Exit → Act → World → Prop} (hgd : o.guard = none) (s x : Operand)
    (ho : o.op = .call { callee := .builtin .append, args := #[s, x], argTypes := #[23, 23] }) (i : TypeInfo) (z : Value) (bytes : Nat)
    (hi : Try.prog.info? 30 = some i) (hz : i.zero = some z) (hsize : i.size = 2) (hby : i.bytes = bytes) (hbb : bytes ≤ 64) (hzs : z.cells.size = 2)
    (B : Nat) (hs : a.eval s = .slice (some ⟨B, 0, none⟩) 0 0) (hB : w.heap[B]? = some (.cells #[] 30 (0, 0))) (n0 : Nat) (hn0 : n0 ≤ B)
    {v : Value} {l : List Iv} (hx : a.eval x = v) (hr : RdR 0 w.heap.size w v l) (hl : l.length ≤ 1099511627776)
    (h : ∀ v' w', OwnR n0 w' v' l → Below B w w' → wpList Try.prog ops Q rest (a.put o.dst v') w') :
    wpList Try.prog ops Q (o :: rest) a w := by
  have hBl : B < w.heap.size := (Array.getElem?_eq_some_iff.1 hB).1
  have hown : w.ownsRow n0 30 2 (.slice (some ⟨B, 0, none⟩) 0 0) 0 [] := ⟨rfl, .inr ⟨B, 0, #[], rfl, hn0, hB, Nat.le_refl _, by decide, rfl, rfl⟩⟩
  have hbd := hr.bound
  obtain ⟨ad, cap, rfl, hlc, hcm, hc⟩ := hr
  cases ad with
  | none =>
    obtain rfl : l = [] := by
      cases l with
      | nil => rfl
      | cons s l => obtain ⟨b, off, e, _⟩ := hc (by simp); cases e
    refine wpList_plain hgd fun K hK => ?_
    have hfin : OwnR n0 w (.slice (some ⟨B, 0, none⟩) 0 0) [] := ⟨hown, by simp⟩
    have hq := hK _ _ (h _ _ hfin (Below.refl _ _))
    clear hown hc hbd h hK hfin
    simp only [List.length_nil] at hx
    unfold Oper.wp execOp
    simp only [ho, resolve, invoke, builtin, Sem.run_bind, Sem.run_pure, Result.andThen_ok, List.map_toArray, List.map_cons, List.map_nil, hs, hx]
    go_simp
    exact hq
  | some ad =>
    refine wpList_append_own_at (P := Try.prog) w hgd s x 23 ho n0 30 i z 2 bytes Try.underlying23 hi hz hsize hby hzs (by decide) _ 0 [] hs hown ad l.length cap (flat l) hx (flat_length l) ?_ ?_ (by unfold maxLen; omega) ?_ (by omega) ?_
    · intro j u hj
      have hlt : j < l.length * 2 := by
        have := (List.getElem?_eq_some_iff.1 hj).1
        rwa [flat_length] at this
      have hne : l ≠ [] := by intro e; subst e; simp at hlt
      obtain ⟨b, off, e, _, _, hcell⟩ := hc hne
      cases e
      have hadd : (⟨b, off, none⟩ : Addr).add j = ⟨b, off + j, none⟩ := by unfold Addr.add; split <;> simp_all
      rw [hadd]
      have hk : j / 2 < l.length := by omega
      obtain ⟨g1, g2, _⟩ := hcell (j / 2) hk
      obtain ⟨f1, f2⟩ := flat_get l (j / 2) hk
      rcases Nat.mod_two_eq_zero_or_one j with h0 | h0
      · have e : j / 2 * 2 = j := by omega
        rw [e] at g1 f1
        rw [f1] at hj
        cases hj
        exact g1
      · have e : j / 2 * 2 + 1 = j := by omega
        rw [show off + j / 2 * 2 + 1 = off + j from by omega] at g2
        rw [e] at f2
        rw [f2] at hj
        cases hj
        exact g2
    · intro u hu
      simp [flat] at hu
      obtain ⟨s, _, rfl | rfl⟩ := hu <;> rfl
    · calc (0 + l.length) * bytes ≤ 1099511627776 * 64 := Nat.mul_le_mul (by omega) hbb
        _ ≤ 140737488355328 := by decide
    · intro v' w' ho hg _ hv
      refine h v' w' ⟨?_, hbd⟩ ⟨hg.os, hg.tape, hg.output, hg.size, fun k hk => hg.block k (by omega) (by simp [Value.ownBlock]; omega)⟩
      simpa using ho
end Go.Proofs.Ytcedofkenfddkaa
/- The law SetopsKeep returns true, whatever the lists; nothing that lies is written. -/
namespace Go.Proofs.Ytcedofkenfddkaa
set_option linter.unusedVariables false
set_option linter.unusedSimpArgs false
open Go.RowKit

theorem copied {w0 w w' : World} {L : List (World → Prop)} {o : Obj} {v v' : Value} {l : List Iv} {n n0 : Nat} (h : Know w0 w L) (hb : Below w.heap.size (w.alloc o) w') (ho : OwnR n0 w' v' l) (hm : IsR v l n ∈ L) : Know w0 w' (IsR v' l n :: L) :=
  (h.step (((Below.refl _ _).alloc (Nat.le_refl _) o).trans hb)).add (IsR.stb _ _ _) ⟨ho.rd.keep (Nat.zero_le _) (Nat.le_refl _) fun _ _ _ => rfl, (h.get hm).2⟩
abbrev OwnS (n1 : Nat) : VP := fun u w => ∃ l, OwnR n1 w u l
theorem ownS_stab (n1 : Nat) : ∀ u w w', OwnS n1 u w → Keep NoB w w' → OwnS n1 u w' := fun _ _ _ ⟨l, h⟩ hk => ⟨l, h.keep hk fun _ _ => id⟩
section
variable {a b : List Iv} {m n n1 : Nat} {va vb : Value} {w : World}
theorem union_O (hn : n1 ≤ w.heap.size) (ha : IsR va a m w) (hb : IsR vb b n w) (hl : m + n ≤ 1073741824) : Calls Try.prog 21 #[va, vb] w fun e w' => ∃ v, e = .returned v ∧ OwnS n1 v w' ∧ Below w.heap.size w w' := by
  obtain ⟨a1, a2, a3⟩ := ha
  obtain ⟨b1, b2, b3⟩ := hb
  refine (union_calls a b va vb w a2 b2 a1 b1 (by omega)).mono ?_
  rintro e w' ⟨v, rfl, ho, hw⟩
  exact ⟨v, rfl, ⟨_, ho.mono hn⟩, hw⟩
theorem meet_O (hn : n1 ≤ w.heap.size) (ha : IsR va a m w) (hb : IsR vb b n w) (hl : m + n ≤ 1073741824) : Calls Try.prog 23 #[va, vb] w fun e w' => ∃ v, e = .returned v ∧ OwnS n1 v w' ∧ Below w.heap.size w w' := by
  obtain ⟨a1, a2, a3⟩ := ha
  obtain ⟨b1, b2, b3⟩ := hb
  refine (meet_calls a b va vb w a2 b2 a1 b1 (by omega)).mono ?_
  rintro e w' ⟨v, rfl, ho, hw⟩
  exact ⟨v, rfl, ⟨_, ho.mono hn⟩, hw⟩
theorem minus_O (hn : n1 ≤ w.heap.size) (ha : IsR va a m w) (hb : IsR vb b n w) (hl : m + n ≤ 1073741824) : Calls Try.prog 25 #[va, vb] w fun e w' => ∃ v, e = .returned v ∧ OwnS n1 v w' ∧ Below w.heap.size w w' := by
  obtain ⟨a1, a2, a3⟩ := ha
  obtain ⟨b1, b2, b3⟩ := hb
  refine (minus_calls a b va vb w a2 b2 a1 b1 (by omega)).mono ?_
  rintro e w' ⟨v, rfl, ho, hw⟩
  exact ⟨v, rfl, ⟨_, ho.mono hn⟩, hw⟩
theorem not_O (s : Iv) (hn : n1 ≤ w.heap.size) (ha : IsR va a m w) (hs : s.lo ≤ s.hi) (hs' : s.hi < M64) (hl : m ≤ 1073741823) : Calls Try.prog 28 #[va, .agg #[.int .u64 s.lo, .int .u64 s.hi]] w fun e w' => ∃ v, e = .returned v ∧ OwnS n1 v w' ∧ Below w.heap.size w w' := by
  obtain ⟨a1, a2, a3⟩ := ha
  refine (not_calls a va s w a2 hs hs' a1 (by omega)).mono ?_
  rintro e w' ⟨v, rfl, ho, hw⟩
  exact ⟨v, rfl, ⟨_, ho.mono hn⟩, hw⟩
end
/-- The seven results, in a slice of the call's own. -/
def Seven (n1 : Nat) : VP := fun u w => ∃ (B : Nat) (vs : List Value), u = .slice (some ⟨B, 0, none⟩) 7 7 ∧ n1 ≤ B ∧ w.heap[B]? = some (.cells vs.toArray 23 (0, 0)) ∧ vs.length = 7 ∧ ∀ v ∈ vs, OwnS n1 v w
theorem seven_stab (n1 : Nat) : ∀ u w w', Seven n1 u w → Keep NoB w w' → Seven n1 u w' := fun _ _ _ ⟨B, vs, h1, h2, h3, h4, h5⟩ hk => ⟨B, vs, h1, h2, hk.obj h3 id, h4, fun v hv => ownS_stab _ _ _ _ (h5 v hv) hk⟩
theorem IsR.stabV (l : List Iv) (n : Nat) : ∀ (u : Value) (w w' : World), IsR u l n w → Keep NoB w w' → IsR u l n w' := fun _ _ _ h hk => IsR.stb _ _ _ _ _ h (hk.below (Nat.le_refl _) fun _ _ => id)
theorem someInt_set {w : World} {a : Addr} (h : ∃ m, w.cell? a = some (.int .u64 m)) (b : Addr) (x : Int) : ∃ m, (w.setCell b (.int .u64 x)).cell? a = some (.int .u64 m) := by
  obtain ⟨m, hm⟩ := h
  by_cases e : b = a
  · subst e
    exact ⟨x, World.cell?_setCell_same _ _ _ hm⟩
  · exact ⟨m, (World.cell?_setCell_other _ _ _ _ e).trans hm⟩
/-- A row that may be written: what the law's loops need of a result. -/
def Lax (n1 : Nat) : VP := fun u w => ∃ (a : Option Addr) (k cap : Nat), u = .slice a k cap ∧ k ≤ cap ∧ cap ≤ maxLen ∧ (k ≠ 0 → ∃ b, a = some ⟨b, 0, none⟩ ∧ n1 ≤ b ∧ (∀ o, w.frozen? ⟨b, o, none⟩ = false) ∧ ∀ i, i < k → ∃ m, w.cell? ⟨b, i * 2, none⟩ = some (.int .u64 m))
theorem OwnS.lax {n1 : Nat} {u : Value} {w : World} (h : OwnS n1 u w) : Lax n1 u w := by
  obtain ⟨l, ⟨h1, h2⟩, hb⟩ := h
  rcases h2 with ⟨rfl, h0⟩ | ⟨g, cap, cur, rfl, hg, hh, hn, hc, hs, ht⟩
  · exact ⟨none, 0, 0, rfl, Nat.le_refl _, by decide, fun h => absurd rfl h⟩
  · refine ⟨_, l.length, cap, rfl, hn, hc, fun _ => ⟨g, rfl, hg, fun o => ?_, fun i hi => ?_⟩⟩
    · simp [World.frozen?, hh]
    · have hf := flat_get l i hi
      rw [← ht, List.getElem?_take, List.getElem?_take, if_pos (by omega), if_pos (by omega)] at hf
      exact ⟨_, by simp only [World.cell?, hh]; simpa using hf.1⟩
theorem Lax.set {n1 : Nat} {u : Value} {w : World} (h : Lax n1 u w) (p : Addr) (x : Int) : Lax n1 u (w.setCell p (.int .u64 x)) := by
  obtain ⟨a, k, cap, rfl, h1, h2, h3⟩ := h
  refine ⟨a, k, cap, rfl, h1, h2, fun hk => ?_⟩
  obtain ⟨b, rfl, hb, hf, hc⟩ := h3 hk
  exact ⟨b, rfl, hb, fun o => by rw [World.frozen?_setCell]; exact hf o, fun i hi => someInt_set (hc i hi) p x⟩
/-- What holds through the law's loops: the row of the results lies as it was, each result may be written, nothing below W is. -/
def Lp (W : World) (B : Nat) (vs : List Value) (w' : World) : Prop := Below W.heap.size W w' ∧ w'.heap[B]? = some (.cells vs.toArray 23 (0, 0)) ∧ vs.length = 7 ∧ ∀ v ∈ vs, Lax W.heap.size v w'
theorem Lp.ne {W w' : World} {B b : Nat} {vs : List Value} (h : Lp W B vs w') {m : Int} (hc : w'.cell? ⟨b, 0, none⟩ = some (.int .u64 m)) : b ≠ B := by
  rintro rfl
  obtain ⟨_, h2, h3, h4⟩ := h
  simp only [World.cell?, h2] at hc
  cases vs with
  | nil => simp at h3
  | cons v r =>
    obtain ⟨a, k, cap, rfl, _⟩ := h4 v (.head _)
    simp at hc
theorem Lp.set {W w' : World} {B b j : Nat} {vs : List Value} (h : Lp W B vs w') (hb : W.heap.size ≤ b) (hne : b ≠ B) (x : Int) : Lp W B vs (w'.setCell ⟨b, j, none⟩ (.int .u64 x)) :=
  ⟨h.1.setCell hb _, by rw [Below.heap_setCell _ _ _ _ (Ne.symm hne)]; exact h.2.1, h.2.2.1, fun v hv => (h.2.2.2 v hv).set _ _⟩
theorem Lp.cell {W w' : World} {B k : Nat} {vs : List Value} (h : Lp W B vs w') (hk : k < 7) : ∃ v, w'.cell? ⟨B, k, none⟩ = some v ∧ Lax W.heap.size v w' := by
  obtain ⟨_, h2, h3, h4⟩ := h
  have hk' : k < vs.length := by omega
  exact ⟨vs[k], by simp [World.cell?, h2, hk'], h4 _ (List.getElem_mem hk')⟩
theorem nAll : Nrm [⟨0, 18446744073709551615⟩] := by simp [Nrm, NF, M64_val]
theorem IsR.nil (w : World) (a : Option Addr) : IsR (.slice a 0 0) [] 0 w := ⟨RdSl.nil _ _ (by decide), trivial, Nat.le_refl _⟩
set_option maxHeartbeats 4000000 in
set_option maxRecDepth 100000 in
theorem keep_any (a b : List Iv) (va vb : Value) (w : World) (ra : RdR 0 w.heap.size w va a) (rb : RdR 0 w.heap.size w vb b) :
    Calls Try.prog 7 #[va, vb] w fun e w' => e = .returned (.bool true) ∧ Below w.heap.size w w' := by
  have HR := Lib.hid (right_new (vs := [va, vb]) (ls := [a, b]) (t := 23) (n := 2) (w := w) rfl rfl (by simp [maxLen]) (fun i hi => by rcases i with _ | _ | i; exact ra; exact rb; simp at hi; omega))
  have HV := Lib.hid (And.intro ra rb)
  obtain ⟨aa, ca, rfl, _⟩ := ra
  obtain ⟨ab, cb, rfl, _⟩ := rb
  cases hrt : rightsB [a, b] with
  | false =>
    rw [hrt] at HR
    clear hrt HV
    go_enter Try.func7, Try.ntmps7
    go_wp2_with (first | (go_at_call 18; refine HR.out.mono ?_; rintro e w1 ⟨rfl, hb1⟩) | (go_at_call 19; refine (alive_any _).mono ?_; rintro e w2 ⟨rfl, hb2⟩))
    go_ret
    exact ⟨rfl, hb1.trans (hb2.mono hb1.size)⟩
  | true =>
    rw [hrt] at HR
    have k1 := IsR.arg HV.out.1 hrt (by simp)
    have k2 := IsR.arg HV.out.2 hrt (by simp)
    have K0 := (((Know.nil w).add (IsR.stb _ _ _) k1).add (IsR.stb _ _ _) k2)
    clear hrt HV k1 k2
    go_enter Try.func7, Try.ntmps7
    go_upto_region 3 with (go_at_call 18; refine HR.out.mono ?_; rintro e w1 ⟨rfl, hb1⟩)
    have k0 := K0.step hb1
    clear K0 HR
    obtain ⟨i0, hi0, hz0, hz1, hz2⟩ := info_parts Try.infoIv
    go_upto_region 5 with (first
      | (have := k0; at_builtin; refine wpList_append_copy rfl _ _ rfl i0 (.agg #[.int .u64 0, .int .u64 0]) 16 hi0 hz0 hz1 hz2 (by decide) rfl w1.heap.size rfl (World.alloc_heap_new w1 _) w1.heap.size (Nat.le_refl _) rfl ((k0.alloc _).get (.tail _ (.head _))).1 (Nat.le_trans ((k0.alloc (.cells #[] 30 (0, 0))).get (.tail _ (.head _))).2.2 (by decide)) ?_; intro v1 w2 o1 b1
         have k1 := copied k0 b1 o1 (.tail _ (.head _)); clear k0)
      | (have := k1; at_builtin; refine wpList_append_copy rfl _ _ rfl i0 (.agg #[.int .u64 0, .int .u64 0]) 16 hi0 hz0 hz1 hz2 (by decide) rfl w2.heap.size rfl (World.alloc_heap_new w2 _) w2.heap.size (Nat.le_refl _) rfl ((k1.alloc _).get (.tail _ (.head _))).1 (Nat.le_trans ((k1.alloc (.cells #[] 30 (0, 0))).get (.tail _ (.head _))).2.2 (by decide)) ?_; intro v2 w3 o2 b2
         have k2 := copied k1 b2 o2 (.tail _ (.head _)); clear k1))
    obtain ⟨W, hW⟩ : ∃ W, w3.alloc (Obj.cells #[Value.int IntKind.u64 0, Value.int IntKind.u64 18446744073709551615] 30) = W := ⟨_, rfl⟩
    have k3 := k2.alloc (Obj.cells #[Value.int IntKind.u64 0, Value.int IntKind.u64 18446744073709551615] 30 (0, 0))
    rw [hW] at k3
    have c0 : W.cell? ⟨w3.heap.size, 0, none⟩ = some (.int .u64 0) := by rw [← hW]; have := World.alloc_heap_new w3 (Obj.cells #[Value.int IntKind.u64 0, Value.int IntKind.u64 18446744073709551615] 30 (0, 0)); simp only [World.cell?, this]; rfl
    have c1 : W.cell? ⟨w3.heap.size, 1, none⟩ = some (.int .u64 18446744073709551615) := by rw [← hW]; have := World.alloc_heap_new w3 (Obj.cells #[Value.int IntKind.u64 0, Value.int IntKind.u64 18446744073709551615] 30 (0, 0)); simp only [World.cell?, this]; rfl
    rw [hW]
    clear hW k2 b1 b2 o1 o2 hb1 hi0 hz0 hz1 hz2
    refine regG 23 76 (fun w' => Know w w' [IsR v2 b 60, IsR v1 a 60, IsR (Value.slice ab b.length cb) b 60, IsR (Value.slice aa a.length ca) a 60] ∧ w'.cell? ⟨w3.heap.size, 0, none⟩ = some (.int .u64 0) ∧ w'.cell? ⟨w3.heap.size, 1, none⟩ = some (.int .u64 18446744073709551615)) (by kernel_rfl) (by kernel_rfl) rfl ⟨k3.drew, c0, c1⟩ ?_
    simp only [List.take_succ_cons, List.take_zero]
    repeat (first
      | (refine wdet ?_ rfl (fun a w hc _ hr => ?_) ?_; rotate_left; (simp [Rds, rdsO, lk, Op.operands, Call.operands, RdEq] at hr; go_simp; with_reducible rfl); dsimp only [List.nil_append, List.cons_append])
      | (refine wskip rfl ?_ ?_; (first | exact .inl (isV_eq rfl rfl) | exact .inr (isV_eq rfl rfl)); dsimp only [List.nil_append, List.cons_append])
      | (refine wdetg rfl ?_ ?_ (fun a w hc _ hr => ?_) ?_; exact (isV_eq rfl rfl); rotate_left; (simp [Rds, rdsO, lk, Op.operands, Call.operands, RdEq] at hr; go_simp; with_reducible rfl); dsimp only [List.nil_append, List.cons_append]))
    refine wgen (OwnS W.heap.size) (ownS_stab _) rfl ?_ ?_
    · intro a2 w2 hc hk hr K hK
      have HK := Lib.hid hK
      clear hK
      simp [Rds, rdsO, lk, Op.operands, Call.operands, RdEq] at hr
      go_simp
      have hsz : W.heap.size ≤ w2.heap.size := hk.size
      refine (union_O hsz (hc.1.get (.tail _ (.head _))) (hc.1.get (.head _)) (by decide)).mono ?_
      rintro e w3 ⟨v, rfl, ho, hb⟩
      have hkb : Keep NoB w2 w3 := Keep.of_below' hb (Nat.le_refl _)
      exact HK.out _ _ hkb ⟨hc.1.step hb, hkb.cell_some hc.2.1 id, hkb.cell_some hc.2.2 id⟩ ho
    dsimp only [List.nil_append, List.cons_append]
    repeat (first
      | (refine wdet ?_ rfl (fun a w hc _ hr => ?_) ?_; rotate_left; (simp [Rds, rdsO, lk, Op.operands, Call.operands, RdEq] at hr; go_simp; with_reducible rfl); dsimp only [List.nil_append, List.cons_append])
      | (refine wskip rfl ?_ ?_; (first | exact .inl (isV_eq rfl rfl) | exact .inr (isV_eq rfl rfl)); dsimp only [List.nil_append, List.cons_append])
      | (refine wdetg rfl ?_ ?_ (fun a w hc _ hr => ?_) ?_; exact (isV_eq rfl rfl); rotate_left; (simp [Rds, rdsO, lk, Op.operands, Call.operands, RdEq] at hr; go_simp; with_reducible rfl); dsimp only [List.nil_append, List.cons_append]))
    refine wgen (OwnS W.heap.size) (ownS_stab _) rfl ?_ ?_
    · intro a2 w2 hc hk hr K hK
      have HK := Lib.hid hK
      clear hK
      simp [Rds, rdsO, lk, Op.operands, Call.operands, RdEq] at hr
      go_simp
      have hsz : W.heap.size ≤ w2.heap.size := hk.size
      refine (meet_O hsz (hc.1.get (.tail _ (.head _))) (hc.1.get (.head _)) (by decide)).mono ?_
      rintro e w3 ⟨v, rfl, ho, hb⟩
      have hkb : Keep NoB w2 w3 := Keep.of_below' hb (Nat.le_refl _)
      exact HK.out _ _ hkb ⟨hc.1.step hb, hkb.cell_some hc.2.1 id, hkb.cell_some hc.2.2 id⟩ ho
    dsimp only [List.nil_append, List.cons_append]
    repeat (first
      | (refine wdet ?_ rfl (fun a w hc _ hr => ?_) ?_; rotate_left; (simp [Rds, rdsO, lk, Op.operands, Call.operands, RdEq] at hr; go_simp; with_reducible rfl); dsimp only [List.nil_append, List.cons_append])
      | (refine wskip rfl ?_ ?_; (first | exact .inl (isV_eq rfl rfl) | exact .inr (isV_eq rfl rfl)); dsimp only [List.nil_append, List.cons_append])
      | (refine wdetg rfl ?_ ?_ (fun a w hc _ hr => ?_) ?_; exact (isV_eq rfl rfl); rotate_left; (simp [Rds, rdsO, lk, Op.operands, Call.operands, RdEq] at hr; go_simp; with_reducible rfl); dsimp only [List.nil_append, List.cons_append]))
    refine wgen (OwnS W.heap.size) (ownS_stab _) rfl ?_ ?_
    · intro a2 w2 hc hk hr K hK
      have HK := Lib.hid hK
      clear hK
      simp [Rds, rdsO, lk, Op.operands, Call.operands, RdEq] at hr
      go_simp
      have hsz : W.heap.size ≤ w2.heap.size := hk.size
      refine (minus_O hsz (hc.1.get (.tail _ (.head _))) (hc.1.get (.head _)) (by decide)).mono ?_
      rintro e w3 ⟨v, rfl, ho, hb⟩
      have hkb : Keep NoB w2 w3 := Keep.of_below' hb (Nat.le_refl _)
      exact HK.out _ _ hkb ⟨hc.1.step hb, hkb.cell_some hc.2.1 id, hkb.cell_some hc.2.2 id⟩ ho
    dsimp only [List.nil_append, List.cons_append]
    repeat (first
      | (refine wdet ?_ rfl (fun a w hc _ hr => ?_) ?_; rotate_left; (simp [Rds, rdsO, lk, Op.operands, Call.operands, RdEq] at hr; go_simp; with_reducible rfl); dsimp only [List.nil_append, List.cons_append])
      | (refine wskip rfl ?_ ?_; (first | exact .inl (isV_eq rfl rfl) | exact .inr (isV_eq rfl rfl)); dsimp only [List.nil_append, List.cons_append])
      | (refine wdetg rfl ?_ ?_ (fun a w hc _ hr => ?_) ?_; exact (isV_eq rfl rfl); rotate_left; (simp [Rds, rdsO, lk, Op.operands, Call.operands, RdEq] at hr; go_simp; with_reducible rfl); dsimp only [List.nil_append, List.cons_append]))
    refine wgen (OwnS W.heap.size) (ownS_stab _) rfl ?_ ?_
    · intro a2 w2 hc hk hr K hK
      have HK := Lib.hid hK
      clear hK
      simp [Rds, rdsO, lk, Op.operands, Call.operands, RdEq] at hr
      go_simp
      have hsz : W.heap.size ≤ w2.heap.size := hk.size
      refine (union_O hsz (hc.1.get (.tail _ (.head _))) (IsR.nil _ _) (by decide)).mono ?_
      rintro e w3 ⟨v, rfl, ho, hb⟩
      have hkb : Keep NoB w2 w3 := Keep.of_below' hb (Nat.le_refl _)
      exact HK.out _ _ hkb ⟨hc.1.step hb, hkb.cell_some hc.2.1 id, hkb.cell_some hc.2.2 id⟩ ho
    dsimp only [List.nil_append, List.cons_append]
    repeat (first
      | (refine wdet ?_ rfl (fun a w hc _ hr => ?_) ?_; rotate_left; (simp [Rds, rdsO, lk, Op.operands, Call.operands, RdEq] at hr; go_simp; with_reducible rfl); dsimp only [List.nil_append, List.cons_append])
      | (refine wskip rfl ?_ ?_; (first | exact .inl (isV_eq rfl rfl) | exact .inr (isV_eq rfl rfl)); dsimp only [List.nil_append, List.cons_append])
      | (refine wdetg rfl ?_ ?_ (fun a w hc _ hr => ?_) ?_; exact (isV_eq rfl rfl); rotate_left; (simp [Rds, rdsO, lk, Op.operands, Call.operands, RdEq] at hr; go_simp; with_reducible rfl); dsimp only [List.nil_append, List.cons_append]))
    refine wgen (OwnS W.heap.size) (ownS_stab _) rfl ?_ ?_
    · intro a2 w2 hc hk hr K hK
      have HK := Lib.hid hK
      clear hK
      simp [Rds, rdsO, lk, Op.operands, Call.operands, RdEq] at hr
      go_simp
      have hsz : W.heap.size ≤ w2.heap.size := hk.size
      refine (minus_O hsz (hc.1.get (.tail _ (.head _))) (IsR.nil _ _) (by decide)).mono ?_
      rintro e w3 ⟨v, rfl, ho, hb⟩
      have hkb : Keep NoB w2 w3 := Keep.of_below' hb (Nat.le_refl _)
      exact HK.out _ _ hkb ⟨hc.1.step hb, hkb.cell_some hc.2.1 id, hkb.cell_some hc.2.2 id⟩ ho
    dsimp only [List.nil_append, List.cons_append]
    repeat (first
      | (refine wdet ?_ rfl (fun a w hc _ hr => ?_) ?_; rotate_left; (simp [Rds, rdsO, lk, Op.operands, Call.operands, RdEq] at hr; go_simp; with_reducible rfl); dsimp only [List.nil_append, List.cons_append])
      | (refine wskip rfl ?_ ?_; (first | exact .inl (isV_eq rfl rfl) | exact .inr (isV_eq rfl rfl)); dsimp only [List.nil_append, List.cons_append])
      | (refine wdetg rfl ?_ ?_ (fun a w hc _ hr => ?_) ?_; exact (isV_eq rfl rfl); rotate_left; (simp [Rds, rdsO, lk, Op.operands, Call.operands, RdEq] at hr; go_simp; with_reducible rfl); dsimp only [List.nil_append, List.cons_append]))
    refine wgen (fun u w' => IsR u [⟨0, 18446744073709551615⟩] 1 w') (IsR.stabV _ _) rfl ?_ ?_
    · intro a2 w2 hc hk hr K hK
      have HK := Lib.hid hK
      clear hK
      simp [Rds, rdsO, lk, Op.operands, Call.operands, RdEq] at hr
      go_simp
      exact HK.out _ _ ((Keep.refl _ _).alloc _) ⟨hc.1.alloc _, ((Keep.refl NoB w2).alloc _).cell_some hc.2.1 id, ((Keep.refl NoB w2).alloc _).cell_some hc.2.2 id⟩ (IsR.new (l := [⟨0, 18446744073709551615⟩]) rfl nAll (by decide))
    dsimp only [List.nil_append, List.cons_append]
    refine wgen (OwnS W.heap.size) (ownS_stab _) rfl ?_ ?_
    · intro a2 w2 hc hk hr K hK
      have HK := Lib.hid hK
      clear hK
      simp [Rds, rdsO, lk, Op.operands, Call.operands, RdEq] at hr
      go_simp
      obtain ⟨u, ⟨hu1, rfl⟩, hu⟩ := hr.2
      have hsz : W.heap.size ≤ w2.heap.size := hk.size
      refine (meet_O hsz (hc.1.get (.tail _ (.head _))) hu (by decide)).mono ?_
      rintro e w3 ⟨v, rfl, ho, hb⟩
      have hkb : Keep NoB w2 w3 := Keep.of_below' hb (Nat.le_refl _)
      exact HK.out _ _ hkb ⟨hc.1.step hb, hkb.cell_some hc.2.1 id, hkb.cell_some hc.2.2 id⟩ ho
    dsimp only [List.nil_append, List.cons_append]
    repeat (first
      | (refine wdet ?_ rfl (fun a w hc _ hr => ?_) ?_; rotate_left; (simp [Rds, rdsO, lk, Op.operands, Call.operands, RdEq] at hr; go_simp; with_reducible rfl); dsimp only [List.nil_append, List.cons_append])
      | (refine wskip rfl ?_ ?_; (first | exact .inl (isV_eq rfl rfl) | exact .inr (isV_eq rfl rfl)); dsimp only [List.nil_append, List.cons_append])
      | (refine wdetg rfl ?_ ?_ (fun a w hc _ hr => ?_) ?_; exact (isV_eq rfl rfl); rotate_left; (simp [Rds, rdsO, lk, Op.operands, Call.operands, RdEq] at hr; go_simp; with_reducible rfl); dsimp only [List.nil_append, List.cons_append]))
    refine wgen (OwnS W.heap.size) (ownS_stab _) rfl ?_ ?_
    · intro a2 w2 hc hk hr K hK
      have HK := Lib.hid hK
      clear hK
      simp [Rds, rdsO, lk, Op.operands, Call.operands, RdEq] at hr
      go_simp
      have hsz : W.heap.size ≤ w2.heap.size := hk.size
      refine (not_O ⟨0, 18446744073709551615⟩ hsz (hc.1.get (.tail _ (.head _))) (by decide) (by decide) (by decide)).mono ?_
      rintro e w3 ⟨v, rfl, ho, hb⟩
      have hkb : Keep NoB w2 w3 := Keep.of_below' hb (Nat.le_refl _)
      exact HK.out _ _ hkb ⟨hc.1.step hb, hkb.cell_some hc.2.1 id, hkb.cell_some hc.2.2 id⟩ ho
    dsimp only [List.nil_append, List.cons_append]
    refine wgen (Seven W.heap.size) (seven_stab _) rfl ?_ ?_
    · intro a2 w2 hc hk hr K hK
      have HK := Lib.hid hK
      clear hK
      simp [Rds, rdsO, lk, Op.operands, Call.operands, RdEq] at hr
      obtain ⟨⟨u0, ⟨f0, g0⟩, l0, o0⟩, ⟨u1, ⟨f1, g1⟩, l1, o1⟩, ⟨u2, ⟨f2, g2⟩, l2, o2⟩, ⟨u3, ⟨f3, g3⟩, l3, o3⟩, ⟨u4, ⟨f4, g4⟩, l4, o4⟩, ⟨u5, ⟨f5, g5⟩, l5, o5⟩, ⟨u6, ⟨f6, g6⟩, l6, o6⟩⟩ := hr
      obtain ⟨x0, y0, rfl⟩ := o0.val
      obtain ⟨x1, y1, rfl⟩ := o1.val
      obtain ⟨x2, y2, rfl⟩ := o2.val
      obtain ⟨x3, y3, rfl⟩ := o3.val
      obtain ⟨x4, y4, rfl⟩ := o4.val
      obtain ⟨x5, y5, rfl⟩ := o5.val
      obtain ⟨x6, y6, rfl⟩ := o6.val
      have hsz : W.heap.size ≤ w2.heap.size := hk.size
      go_simp
      refine HK.out _ _ ((Keep.refl _ _).alloc _) ⟨hc.1.alloc _, ((Keep.refl NoB w2).alloc _).cell_some hc.2.1 id, ((Keep.refl NoB w2).alloc _).cell_some hc.2.2 id⟩ ⟨w2.heap.size, [.slice x0 l0.length y0, .slice x1 l1.length y1, .slice x2 l2.length y2, .slice x3 l3.length y3, .slice x4 l4.length y4, .slice x5 l5.length y5, .slice x6 l6.length y6], rfl, hsz, World.alloc_heap_new w2 _, rfl, ?_⟩
      intro v hv
      simp only [List.mem_cons, List.not_mem_nil, or_false] at hv
      rcases hv with rfl | rfl | rfl | rfl | rfl | rfl | rfl <;> first | exact ⟨_, o0.keep ((Keep.refl NoB w2).alloc _) fun _ _ => id⟩ | exact ⟨_, o1.keep ((Keep.refl NoB w2).alloc _) fun _ _ => id⟩ | exact ⟨_, o2.keep ((Keep.refl NoB w2).alloc _) fun _ _ => id⟩ | exact ⟨_, o3.keep ((Keep.refl NoB w2).alloc _) fun _ _ => id⟩ | exact ⟨_, o4.keep ((Keep.refl NoB w2).alloc _) fun _ _ => id⟩ | exact ⟨_, o5.keep ((Keep.refl NoB w2).alloc _) fun _ _ => id⟩ | exact ⟨_, o6.keep ((Keep.refl NoB w2).alloc _) fun _ _ => id⟩
    dsimp only [List.nil_append, List.cons_append]
    refine wdet (.int .i64 7) rfl (fun a w hc _ hr => ?_) ?_
    · simp [Rds, rdsO, lk, Op.operands, Call.operands, RdEq] at hr
      obtain ⟨u, ⟨hu, hu'⟩, B, vs, rfl, _⟩ := hr
      go_simp
    dsimp only [List.nil_append, List.cons_append]
    repeat (first
      | (refine wdet ?_ rfl (fun a w hc _ hr => ?_) ?_; rotate_left; (simp [Rds, rdsO, lk, Op.operands, Call.operands, RdEq] at hr; go_simp; with_reducible rfl); dsimp only [List.nil_append, List.cons_append])
      | (refine wskip rfl ?_ ?_; (first | exact .inl (isV_eq rfl rfl) | exact .inr (isV_eq rfl rfl)); dsimp only [List.nil_append, List.cons_append])
      | (refine wdetg rfl ?_ ?_ (fun a w hc _ hr => ?_) ?_; exact (isV_eq rfl rfl); rotate_left; (simp [Rds, rdsO, lk, Op.operands, Call.operands, RdEq] at hr; go_simp; with_reducible rfl); dsimp only [List.nil_append, List.cons_append]))
    intro w2 hc2 hk2
    simp only [finG, forall_eq, List.nil_append, List.cons_append, List.drop_succ_cons, List.drop_zero, List.drop_nil]
    simp only [Act.put, List.setIfInBounds_toArray, List.set_cons_succ, List.set_cons_zero]
    intro u0 g0 u1 g1 u2 g2 u3 g3 u4 g4 u5 g5 u6 g6 u7 g7 u8 g8
    have hF : Below W.heap.size W w2 := ((Below.refl _ W).drew).trans (hk2.below (Nat.le_refl _) fun _ _ => id)
    obtain ⟨B, vs, rfl, hB, hBc, hvl, hvs⟩ := g8
    have hL : Lp W B vs w2 := ⟨hF, hBc, hvl, fun v hv => (hvs v hv).lax⟩
    have HK3 := Lib.hid k3
    clear hF hBc hvl hvs hc2 hk2 g0 g1 g2 g3 g4 g5 g6 g7 c0 c1 k3 this
    go_wp2_with fail
    go_loopg [46] 7 (fun g x wr => ∃ k : Nat, x = .int .i64 k ∧ k ≤ 7 ∧ g = 7 - k ∧ Lp W B vs wr)
    case atStart => exact ⟨0, rfl, by decide, rfl, hL⟩
    case round =>
      clear hL
      obtain ⟨k, rfl, hk7, rfl, hL⟩ := hrel
      by_cases hlt : k < 7
      · obtain ⟨wo, hwo⟩ : ∃ wo, wo = wr := ⟨wr, rfl⟩
        subst hwo
        obtain ⟨v, hv, hvx⟩ := hL.cell hlt
        have HX := Lib.hid hvx
        obtain ⟨ad, kk, cap, rfl, h1, h2, _⟩ := hvx
        have HL := Lib.hid hL
        clear hL
        unfold maxLen at h2
        go_wp2_with fail
        go_loopg [52] kk (fun g x wl => ∃ j : Nat, x = .int .i64 j ∧ j ≤ kk ∧ g = kk - j ∧ Lp W B vs wl ∧ Lax W.heap.size (.slice ad kk cap) wl)
        case atStart => exact ⟨0, rfl, Nat.zero_le _, rfl, HL.out, HX.out⟩
        case round =>
          clear HL HX hv
          obtain ⟨j, rfl, hj, rfl, hL2, hx2⟩ := hrel
          by_cases hjl : j < kk
          · have HX := Lib.hid hx2
            have HL := Lib.hid hL2
            obtain ⟨a', k', cap', he, _, _, h3⟩ := hx2
            cases he
            obtain ⟨b, rfl, hb, hf, hc⟩ := h3 (by omega)
            obtain ⟨m0, hm0⟩ := hc 0 (by omega)
            have hne : b ≠ B := hL2.ne (by simpa using hm0)
            obtain ⟨m, hm⟩ := hc j hjl
            have hfj := hf (j * 2)
            clear hL2 h3 hc hf hm0
            go_wp2
            go_roundg (kk - (j + 1))
            case measure => omega
            case rel => exact ⟨j + 1, rfl, by omega, rfl, HL.out.set hb hne _, HX.out.set _ _⟩
          · go_wp2
            go_roundg (7 - (k + 1))
            case measure => omega
            case rel => exact ⟨k + 1, rfl, by omega, rfl, hL2⟩
      · obtain rfl : k = 7 := by omega
        have K := HK3.out.step hL.1
        clear hL HK3
        go_wp2_with (first
          | (go_at_call 19; refine (alive_any _).mono ?_; rintro e w4 ⟨rfl, hb4⟩; have K4 := K.step hb4; clear K)
          | (have := K4; go_at_call 20; refine (same_K K4 (K4.get (.tail _ (.head _))) (K4.get (.tail _ (.tail _ (.tail _ (.head _))))) rfl).mono ?_; rintro e w5 ⟨rfl, K5⟩; clear K4)
          | (have := K5; go_at_call 20; refine (same_K K5 (K5.get (.head _)) (K5.get (.tail _ (.tail _ (.head _)))) rfl).mono ?_; rintro e w6 ⟨rfl, K6⟩; clear K5))
        go_ret
        exact ⟨rfl, K6.below⟩
end Go.Proofs.Ytcedofkenfddkaa
