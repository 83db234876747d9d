/- What a walk knows of the slices that it has met, through all calls: one hypothesis for all of them. The contracts of Union, Meet, Minus, Not, Subset, Disjoint and Same in these words. The lists are correct. -/
import Derived.Test.YtcedofkenfddkaaSetE
import Derived.Test.YtcedofkenfddkaaRefA
namespace Go.Proofs.Ytcedofkenfddkaa
open Go.RowKit

/-- A fact on a world that stays true as long as nothing that lies is written. -/
def Stb (P : World → Prop) : Prop := ∀ w w', P w → Below w.heap.size w w' → P w'
/-- The world grew from w0, which lies as it was; and the facts of L hold. -/
def Know (w0 w : World) (L : List (World → Prop)) : Prop := Below w0.heap.size w0 w ∧ ∀ P ∈ L, Stb P ∧ P w
theorem Know.nil (w : World) : Know w w [] := ⟨Below.refl _ _, fun _ h => by cases h⟩
theorem Know.get {w0 w : World} {L : List (World → Prop)} {P : World → Prop} (h : Know w0 w L) (hp : P ∈ L) : P w := (h.2 P hp).2
theorem Know.below {w0 w : World} {L : List (World → Prop)} (h : Know w0 w L) : Below w0.heap.size w0 w := h.1
theorem Know.size {w0 w : World} {L : List (World → Prop)} (h : Know w0 w L) : w0.heap.size ≤ w.heap.size := h.1.size
theorem Know.step {w0 w w' : World} {L : List (World → Prop)} (h : Know w0 w L) (hb : Below w.heap.size w w') : Know w0 w' L :=
  ⟨h.1.trans (hb.mono h.1.size), fun P hp => ⟨(h.2 P hp).1, (h.2 P hp).1 _ _ (h.2 P hp).2 hb⟩⟩
theorem Know.add {w0 w : World} {L : List (World → Prop)} {P : World → Prop} (h : Know w0 w L) (hs : Stb P) (hp : P w) : Know w0 w (P :: L) :=
  ⟨h.1, fun Q hq => by rcases List.mem_cons.1 hq with rfl | hq; exact ⟨hs, hp⟩; exact h.2 Q hq⟩
theorem Know.alloc {w0 w : World} {L : List (World → Prop)} (h : Know w0 w L) (o : Obj) : Know w0 (w.alloc o) L := h.step ((Below.refl _ _).alloc (Nat.le_refl _) o)
theorem Know.drew {w0 w : World} {L : List (World → Prop)} (h : Know w0 w L) : Know w0 w.drew L := h.step ⟨rfl, rfl, rfl, Nat.le_refl _, fun _ _ => rfl⟩

/-- A slice reads as a correct list, no longer than n. -/
def IsR (v : Value) (l : List Iv) (n : Nat) (w : World) : Prop := RdR 0 w.heap.size w v l ∧ Nrm l ∧ l.length ≤ n
theorem IsR.stb (v : Value) (l : List Iv) (n : Nat) : Stb (IsR v l n) := fun _ _ h hb => ⟨(h.1.below hb (Nat.le_refl _)).keep (Nat.le_refl _) hb.size fun _ _ _ => rfl, h.2⟩
theorem opS_length (f : Bool → Bool → Bool) (a b : List Iv) : (opS f a b).length ≤ 2 * (a.length + b.length) + 1 := Nat.le_trans (merged_length f _ _) (by simpa using pieces_length a b)
theorem IsR.ops {base : Nat} {w : World} {v : Value} {f : Bool → Bool → Bool} {a b : List Iv} {m n : Nat} (h : OwnR base w v (opS f a b)) (ha : Nrm a) (hb : Nrm b) (hm : a.length ≤ m) (hn : b.length ≤ n) : IsR v (opS f a b) (2 * (m + n) + 1) w :=
  ⟨h.rd.keep (Nat.zero_le _) (Nat.le_refl _) fun _ _ _ => rfl, opS_nrm ha hb, Nat.le_trans (opS_length f a b) (by omega)⟩
theorem IsR.val {v : Value} {l : List Iv} {n : Nat} {w : World} (h : IsR v l n w) : ∃ a c, v = .slice a l.length c := by obtain ⟨a, c, e, _⟩ := h.1; exact ⟨a, c, e⟩

section
variable {a b : List Iv} {m n : Nat} {va vb : Value} {w0 w : World} {L : List (World → Prop)}
theorem union_K (h : Know w0 w L) (ha : IsR va a m w) (hb : IsR vb b n w) (hl : m + n ≤ 1073741824) : Calls Try.prog 21 #[va, vb] w fun e w' => ∃ v, e = .returned v ∧ Know w0 w' (IsR v (opS fUnion a b) (2 * (m + n) + 1) :: L) := by
  obtain ⟨a1, a2, a3⟩ := ha
  obtain ⟨b1, b2, b3⟩ := hb
  refine (union_calls a b va vb w a2 b2 a1 b1 (by omega)).mono ?_
  rintro e w' ⟨v, rfl, ho, hw⟩
  exact ⟨v, rfl, (h.step hw).add (IsR.stb _ _ _) (.ops ho a2 b2 a3 b3)⟩
theorem meet_K (h : Know w0 w L) (ha : IsR va a m w) (hb : IsR vb b n w) (hl : m + n ≤ 1073741824) : Calls Try.prog 23 #[va, vb] w fun e w' => ∃ v, e = .returned v ∧ Know w0 w' (IsR v (opS fMeet a b) (2 * (m + n) + 1) :: L) := by
  obtain ⟨a1, a2, a3⟩ := ha
  obtain ⟨b1, b2, b3⟩ := hb
  refine (meet_calls a b va vb w a2 b2 a1 b1 (by omega)).mono ?_
  rintro e w' ⟨v, rfl, ho, hw⟩
  exact ⟨v, rfl, (h.step hw).add (IsR.stb _ _ _) (.ops ho a2 b2 a3 b3)⟩
theorem minus_K (h : Know w0 w L) (ha : IsR va a m w) (hb : IsR vb b n w) (hl : m + n ≤ 1073741824) : Calls Try.prog 25 #[va, vb] w fun e w' => ∃ v, e = .returned v ∧ Know w0 w' (IsR v (opS fMinus a b) (2 * (m + n) + 1) :: L) := by
  obtain ⟨a1, a2, a3⟩ := ha
  obtain ⟨b1, b2, b3⟩ := hb
  refine (minus_calls a b va vb w a2 b2 a1 b1 (by omega)).mono ?_
  rintro e w' ⟨v, rfl, ho, hw⟩
  exact ⟨v, rfl, (h.step hw).add (IsR.stb _ _ _) (.ops ho a2 b2 a3 b3)⟩
theorem not_K (s : Iv) (h : Know w0 w L) (ha : IsR va a m w) (hs : s.lo ≤ s.hi) (hs' : s.hi < M64) (hl : m ≤ 1073741823) : Calls Try.prog 28 #[va, .agg #[.int .u64 s.lo, .int .u64 s.hi]] w fun e w' => ∃ v, e = .returned v ∧ Know w0 w' (IsR v (opS fMinus [s] a) (2 * (1 + m) + 1) :: L) := by
  obtain ⟨a1, a2, a3⟩ := ha
  refine (not_calls a va s w a2 hs hs' a1 (by omega)).mono ?_
  rintro e w' ⟨v, rfl, ho, hw⟩
  exact ⟨v, rfl, (h.step hw).add (IsR.stb _ _ _) (.ops ho ⟨Nat.zero_le _, hs, hs', trivial⟩ a2 (by simp) a3)⟩
theorem subset_K (c : Bool) (h : Know w0 w L) (ha : IsR va a m w) (hb : IsR vb b n w) (hc : neverB a b true false = c) : Calls Try.prog 30 #[va, vb] w fun e w' => e = .returned (.bool c) ∧ Know w0 w' L := by
  obtain ⟨a1, a2, a3⟩ := ha
  obtain ⟨b1, b2, b3⟩ := hb
  refine (subset_calls a b va vb w a2 b2 a1 b1).mono ?_
  rintro e w' ⟨rfl, hw⟩
  exact ⟨by rw [hc], h.step hw⟩
theorem disjoint_K (c : Bool) (h : Know w0 w L) (ha : IsR va a m w) (hb : IsR vb b n w) (hc : neverB a b true true = c) : Calls Try.prog 31 #[va, vb] w fun e w' => e = .returned (.bool c) ∧ Know w0 w' L := by
  obtain ⟨a1, a2, a3⟩ := ha
  obtain ⟨b1, b2, b3⟩ := hb
  refine (disjoint_calls a b va vb w a2 b2 a1 b1).mono ?_
  rintro e w' ⟨rfl, hw⟩
  exact ⟨by rw [hc], h.step hw⟩
end

/-! ### Right and Same -/
def rightB (l : List Iv) : Bool := decide (((chk l).1 : Int) = 0)
theorem rightB_iff {l : List Iv} (h : ∀ s ∈ l, s.hi < M64) : rightB l = true ↔ Nrm l := by
  rw [← chk_nrm h]; unfold rightB; simp
theorem refRight4_any (l : List Iv) (v : Value) (w : World) (hl : RdR 0 w.heap.size w v l) : Calls Try.prog 64 #[v] w fun e w' => e = .returned (.bool (rightB l)) ∧ Below w.heap.size w w' := by
  have HC := Lib.hid (refCheck_any l v w hl)
  have hv : Hid (Value.bool (decide (((chk l).1 : Int) = 0)) = .bool (rightB l)) := Lib.hid rfl
  obtain ⟨c, hc⟩ : ∃ c : Int, ((chk l).1 : Int) = c := ⟨_, rfl⟩
  obtain ⟨d, hd⟩ : ∃ d, (chk l).2 = d := ⟨_, rfl⟩
  rw [hc, hd] at HC
  rw [hc] at hv
  clear hc hd hl
  go_enter Try.func64, Try.ntmps64
  go_wp2_with (go_at_call 92; refine HC.out.mono ?_; rintro e w1 ⟨rfl, hb1⟩)
  go_ret
  exact ⟨by rw [← hv.out]; rfl, hb1⟩

theorem refSame_any (a b : List Iv) (va vb : Value) (w : World) (ra : RdR 0 w.heap.size w va a) (rb : RdR 0 w.heap.size w vb b) : Calls Try.prog 20 #[va, vb] w fun e w' => e = .returned (.bool (decide (a = b))) ∧ Below w.heap.size w w' := by
  obtain ⟨aa, ca, rfl, hla, hma, hca⟩ := ra
  obtain ⟨ab, cb, rfl, hlb, hmb, hcb⟩ := rb
  unfold maxLen at hma hmb
  by_cases hn : a.length = b.length
  · have hD : Hid (decide (a = b) = decide (a.drop 0 = b.drop 0)) := Lib.hid (by simp)
    rw [hn] at hla ⊢
    go_enter Try.func20, Try.ntmps20
    go_wp2_with fail
    go_loopg [5] (b.length + 1) (fun g i wr => ∃ k : Nat, k ≤ b.length ∧ g = b.length - k + 1 ∧ i = .int .i64 k ∧ Hid (decide (a = b) = decide (a.drop k = b.drop k)) ∧ Below w.heap.size w wr)
    case atStart => exact ⟨0, Nat.zero_le _, rfl, rfl, hD, Below.refl _ _⟩
    case round =>
      obtain ⟨k, hk, rfl, rfl, hd, hB⟩ := hrel
      by_cases hlt : k < b.length
      · have hlt' : k < a.length := by omega
        obtain ⟨b1, o1, rfl, _, hb1, hc1⟩ := hca (by intro e; subst e; simp at hlt')
        obtain ⟨b2, o2, rfl, _, hb2, hc2⟩ := hcb (by intro e; subst e; simp at hlt)
        obtain ⟨f1, f2, f3, f4⟩ := hc1 k hlt'
        obtain ⟨g1, g2, g3, g4⟩ := hc2 k hlt
        have hs := List.drop_eq_getElem_cons hlt
        have ht := List.drop_eq_getElem_cons hlt'
        obtain ⟨⟨s1, s2⟩, hsd⟩ : ∃ s, s = a[k] := ⟨_, rfl⟩
        obtain ⟨⟨t1, t2⟩, htd⟩ : ∃ s, s = b[k] := ⟨_, rfl⟩
        rw [← hsd] at f1 f2 f3 f4 ht
        rw [← htd] at g1 g2 g3 g4 hs
        dsimp only at f1 f2 g1 g2 f3 f4 g3 g4
        have c1 : wr.cell? ⟨b1, o1 + k * 2, none⟩ = some (.int .u64 s1) := (hB.cell (p := ⟨b1, _, none⟩) hb1).trans f1
        have c2 : wr.cell? ⟨b1, o1 + k * 2 + 1, none⟩ = some (.int .u64 s2) := (hB.cell (p := ⟨b1, _, none⟩) hb1).trans f2
        have c3 : wr.cell? ⟨b2, o2 + k * 2, none⟩ = some (.int .u64 t1) := (hB.cell (p := ⟨b2, _, none⟩) hb2).trans g1
        have c4 : wr.cell? ⟨b2, o2 + k * 2 + 1, none⟩ = some (.int .u64 t2) := (hB.cell (p := ⟨b2, _, none⟩) hb2).trans g2
        have i1 : (k : Int) < b.length := by omega
        have i2 : (k : Int) < a.length := by omega
        have HS := Lib.hid (And.intro hs ht)
        clear hs ht hsd htd f1 f2 g1 g2 hc1 hc2 hca hcb hD
        go_upto_region 6 with fail
        refine regG 9 26 (fun w' => w'.cell? ⟨b1, o1 + k * 2, none⟩ = some (.int .u64 s1) ∧ w'.cell? ⟨b1, o1 + k * 2 + 1, none⟩ = some (.int .u64 s2) ∧ w'.cell? ⟨b2, o2 + k * 2, none⟩ = some (.int .u64 t1) ∧ w'.cell? ⟨b2, o2 + k * 2 + 1, none⟩ = some (.int .u64 t2)) (by kernel_rfl) (by kernel_rfl) rfl ⟨c1, c2, c3, c4⟩ ?_
        simp only [List.take_succ_cons, List.take_zero]
        repeat (first
          | (refine wdet ?_ rfl (fun a w hc _ hr => ?_) ?_; rotate_left; (simp [Rds, rdsO, lk, Op.operands, Call.operands, RdEq] at hr; go_simp; with_reducible rfl); dsimp only [List.nil_append, List.cons_append])
          | (refine wskip rfl ?_ ?_; (first | exact .inl (isV_eq rfl rfl) | exact .inr (isV_eq rfl rfl)); dsimp only [List.nil_append, List.cons_append])
          | (refine wdetg rfl ?_ ?_ (fun a w hc _ hr => ?_) ?_; exact (isV_eq rfl rfl); rotate_left; (simp [Rds, rdsO, lk, Op.operands, Call.operands, RdEq] at hr; go_simp; with_reducible rfl); dsimp only [List.nil_append, List.cons_append]))
        refine wdet (.bool (!decide (s1 = t1 ∧ s2 = t2))) rfl (fun a w hc _ hr => ?_) ?_
        · simp [Rds, rdsO, lk, Op.operands, Call.operands, RdEq] at hr
          go_simp
          by_cases e1 : s1 = t1 <;> by_cases e2 : s2 = t2 <;> simp [e1, e2, Int.ofNat_inj]
        dsimp only [List.nil_append, List.cons_append]
        by_cases he : s1 = t1 ∧ s2 = t2
        · have HE := Lib.hid he
          rw [decide_eq_true he]
          clear he
          intro w2 hc2 hk2
          simp only [finG, forall_eq, List.nil_append, List.cons_append, List.drop_succ_cons, List.drop_zero, List.drop_nil]
          simp only [Act.put, List.setIfInBounds_toArray, List.set_cons_succ, List.set_cons_zero]
          have hk3 : Keep NoB wr w2 := ((Keep.refl NoB wr).drew).trans hk2
          clear hc2 hk2 i1 i2
          go_wp2
          go_roundg (b.length - k)
          case measure => simp
          case rel =>
            refine ⟨k + 1, by omega, by omega, by go_num, ?_, hB.trans (hk3.below hB.size fun _ _ => id)⟩
            show _ = _
            rw [hd.out, HS.out.1, HS.out.2, HE.out.1, HE.out.2]
            simp
        · have hF : Hid (decide (a = b) = false) := Lib.hid (by
            rw [hd.out, HS.out.1, HS.out.2]
            simp
            intro h1 h2; exact absurd ⟨h1, h2⟩ he)
          rw [decide_eq_false he]
          clear he
          intro w2 hc2 hk2
          simp only [finG, forall_eq, List.nil_append, List.cons_append, List.drop_succ_cons, List.drop_zero, List.drop_nil]
          simp only [Act.put, List.setIfInBounds_toArray, List.set_cons_succ, List.set_cons_zero]
          have hk3 : Keep NoB wr w2 := ((Keep.refl NoB wr).drew).trans hk2
          clear hc2 hk2 i1 i2
          go_wp2
          go_ret
          rw [hF.out]
          exact ⟨rfl, hB.trans (hk3.below hB.size fun _ _ => id)⟩
      · have hkl : k = b.length := by omega
        have hT : Hid (decide (a = b) = true) := Lib.hid (by rw [hd.out, hkl, List.drop_length, ← hn, List.drop_length]; rfl)
        clear hca hcb hn
        go_wp2
        go_ret
        rw [hT.out]
        exact ⟨rfl, hB⟩
  · have hD : Hid (decide (a = b) = false) := Lib.hid (by simp; intro e; exact hn (by rw [e]))
    have hne : ((a.length : Int) != b.length) = true := by simp; omega
    clear hn
    go_enter Try.func20, Try.ntmps20
    go_wp2
    go_ret
    rw [hD.out]
    exact ⟨rfl, Below.refl _ _⟩
theorem same_K {a b : List Iv} {m n : Nat} {va vb : Value} {w0 w : World} {L : List (World → Prop)} (h : Know w0 w L) (ha : IsR va a m w) (hb : IsR vb b n w) (he : a = b) : Calls Try.prog 20 #[va, vb] w fun e w' => e = .returned (.bool true) ∧ Know w0 w' L := by
  refine (refSame_any a b va vb w ha.1 hb.1).mono ?_
  rintro e w' ⟨rfl, hw⟩
  exact ⟨by rw [decide_eq_true he], h.step hw⟩

/-- What the laws ask of their lists: each correct, none longer than 60. -/
def rightsB (ls : List (List Iv)) : Bool := ls.all fun l => decide (l.length ≤ 60) && rightB l
theorem rightsB_drop {ls : List (List Iv)} {k : Nat} (h : k < ls.length) : rightsB (ls.drop k) = (decide (ls[k].length ≤ 60) && rightB ls[k] && rightsB (ls.drop (k + 1))) := by
  rw [List.drop_eq_getElem_cons h]; rfl
theorem right5_any (vs : List Value) (ls : List (List Iv)) (B cap : Nat) (w : World) (hlen : vs.length = ls.length) (hcap : ls.length ≤ cap) (hm : cap ≤ maxLen) (hB : B < w.heap.size)
    (hc : ∀ i (h : i < ls.length), w.cell? ⟨B, i, none⟩ = some (vs[i]'(by omega)) ∧ RdR 0 w.heap.size w (vs[i]'(by omega)) ls[i]) :
    Calls Try.prog 18 #[.slice (some ⟨B, 0, none⟩) ls.length cap] w fun e w' => e = .returned (.bool (rightsB ls)) ∧ Below w.heap.size w w' := by
  unfold maxLen at hm
  have hD : Hid (rightsB ls = rightsB (ls.drop 0)) := Lib.hid rfl
  go_enter Try.func18, Try.ntmps18
  go_wp2_with fail
  go_loopg [7] (ls.length + 1) (fun g i wr => ∃ k : Nat, k ≤ ls.length ∧ g = ls.length - k + 1 ∧ i = .int .i64 k ∧ Hid (rightsB ls = rightsB (ls.drop k)) ∧ Below w.heap.size w wr)
  case atStart => exact ⟨0, Nat.zero_le _, rfl, rfl, hD, Below.refl _ _⟩
  case round =>
    obtain ⟨k, hk, rfl, rfl, hd, hw⟩ := hrel
    clear hD
    by_cases hlt : k < ls.length
    · obtain ⟨g1, g2⟩ := hc k hlt
      obtain ⟨v, hv⟩ : ∃ v, vs[k]'(by omega) = v := ⟨_, rfl⟩
      obtain ⟨l, hl⟩ : ∃ l, l = ls[k] := ⟨_, rfl⟩
      have hs := rightsB_drop hlt
      rw [hv] at g1 g2
      rw [← hl] at g2 hs
      have c1 : wr.cell? ⟨B, k, none⟩ = some v := (hw.cell (p := ⟨B, k, none⟩) hB).trans g1
      have g3 := (g2.below hw (Nat.le_refl _)).keep (Nat.le_refl _) hw.size fun _ _ _ => rfl
      have HR := Lib.hid (refRight4_any l v wr g3)
      obtain ⟨av, cv, rfl, _⟩ := g3
      clear g1 g2 hc hv
      obtain ⟨r, hr⟩ : ∃ r, rightB l = r := ⟨_, rfl⟩
      rw [hr] at HR hs
      by_cases h60 : l.length ≤ 60
      · rw [decide_eq_true h60] at hs
        cases r with
        | true =>
          have HS : Hid (rightsB ls = rightsB (ls.drop (k + 1))) := Lib.hid (by rw [hd.out, hs]; simp)
          clear hs hr hl hd
          go_wp2_with (go_at_call 64; refine HR.out.mono ?_; rintro e w1 ⟨rfl, hb1⟩)
          go_roundg (ls.length - k)
          case measure => simp
          case rel => exact ⟨k + 1, by omega, by omega, by go_num, HS, hw.trans (hb1.mono hw.size)⟩
        | false =>
          have HS : Hid (rightsB ls = false) := Lib.hid (by rw [hd.out, hs]; simp)
          clear hs hr hl hd
          go_wp2_with (go_at_call 64; refine HR.out.mono ?_; rintro e w1 ⟨rfl, hb1⟩)
          go_ret
          rw [HS.out]
          exact ⟨rfl, hw.trans (hb1.mono hw.size)⟩
      · have HS : Hid (rightsB ls = false) := Lib.hid (by rw [hd.out, hs, decide_eq_false h60]; simp)
        clear hs hr hl hd
        go_wp2_with fail
        go_ret
        rw [HS.out]
        exact ⟨rfl, hw⟩
    · have hkl : k = ls.length := by omega
      have hT : Hid (rightsB ls = true) := Lib.hid (by rw [hd.out, hkl, List.drop_length]; rfl)
      clear hc
      go_wp2
      go_ret
      rw [hT.out]
      exact ⟨rfl, hw⟩
end Go.Proofs.Ytcedofkenfddkaa
