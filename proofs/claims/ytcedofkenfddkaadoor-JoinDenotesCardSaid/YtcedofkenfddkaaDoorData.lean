/- How lists of intervals, of entries and of fragments read in memory. No condition. -/
import Derived.Test.YtcedofkenfddkaaDoorProg
import Derived.Test.YtcedofkenfddkaaDoorBase
import Derived.Test.YtcedofkenfddkaaDoorPure
namespace Go.Proofs.YtcedofkenfddkaaDoor
set_option linter.unusedVariables false
set_option linter.unusedSimpArgs false
open Go.RowKit

/-- A slice value reads as a list: its elements, each of sz cells, lie in a block from lo on and below hi. -/
def RdSl {α : Type} (sz : Nat) (rd : World → Nat → Nat → α → Prop) (lo hi : Nat) (w : World) (v : Value) (l : List α) : Prop :=
  ∃ a cap, v = .slice a l.length cap ∧ l.length ≤ cap ∧ cap ≤ maxLen ∧ (l ≠ [] → ∃ b off, a = some ⟨b, off, none⟩ ∧ lo ≤ b ∧ b < hi ∧ ∀ i (h : i < l.length), rd w b (off + i * sz) l[i])

theorem RdSl.keep {α : Type} {sz : Nat} {rd rd' : World → Nat → Nat → α → Prop} {lo hi lo' hi' : Nat} {w w' : World} {v : Value} {l : List α} (h : RdSl sz rd lo hi w v l)
    (hl : lo' ≤ lo) (hh : hi ≤ hi') (hr : ∀ b o x, lo ≤ b → b < hi → rd w b o x → rd' w' b o x) : RdSl sz rd' lo' hi' w' v l := by
  obtain ⟨a, cap, hv, h1, h2, h3⟩ := h
  refine ⟨a, cap, hv, h1, h2, fun hne => ?_⟩
  obtain ⟨b, off, ha, hb1, hb2, hc⟩ := h3 hne
  exact ⟨b, off, ha, by omega, by omega, fun i hi => hr _ _ _ hb1 hb2 (hc i hi)⟩
theorem RdSl.nil {α : Type} {sz : Nat} {rd : World → Nat → Nat → α → Prop} {lo hi : Nat} {w : World} (a : Option Addr) (cap : Nat) (h : cap ≤ maxLen) : RdSl sz rd lo hi w (.slice a 0 cap) [] :=
  ⟨a, cap, rfl, Nat.zero_le _, h, fun h => absurd rfl h⟩
theorem RdSl.len {α : Type} {sz : Nat} {rd : World → Nat → Nat → α → Prop} {lo hi : Nat} {w : World} {v : Value} {l : List α} (h : RdSl sz rd lo hi w v l) : l.length ≤ maxLen := by
  obtain ⟨a, cap, hv, h1, h2, h3⟩ := h; omega

/-- The two cells of an interval. -/
def rdIv (w : World) (b o : Nat) (s : Iv) : Prop :=
  w.cell? ⟨b, o, none⟩ = some (.int .u64 s.lo) ∧ w.cell? ⟨b, o + 1, none⟩ = some (.int .u64 s.hi) ∧ s.lo < M64 ∧ s.hi < M64
theorem rdIv.keep {w w' : World} {b o : Nat} {s : Iv} (h : rdIv w b o s) (hb : w'.heap[b]? = w.heap[b]?) : rdIv w' b o s :=
  ⟨(World.cell?_of_block (a := ⟨b, o, none⟩) hb).trans h.1, (World.cell?_of_block (a := ⟨b, o + 1, none⟩) hb).trans h.2.1, h.2.2⟩
/-- A value of type Ranges. -/
def RdR (lo hi : Nat) (w : World) (v : Value) (l : List Iv) : Prop := RdSl 2 rdIv lo hi w v l
theorem RdR.keep {lo hi lo' hi' : Nat} {w w' : World} {v : Value} {l : List Iv} (h : RdR lo hi w v l) (hl : lo' ≤ lo) (hh : hi ≤ hi') (hb : ∀ b, lo ≤ b → b < hi → w'.heap[b]? = w.heap[b]?) : RdR lo' hi' w' v l :=
  RdSl.keep h hl hh fun b _ _ h1 h2 hx => hx.keep (hb b h1 h2)
theorem RdR.below {hi n : Nat} {w w' : World} {v : Value} {l : List Iv} (h : RdR 0 hi w v l) (hb : Below n w w') (hn : hi ≤ n) : RdR 0 hi w' v l :=
  h.keep (Nat.le_refl _) (Nat.le_refl _) fun b _ h2 => hb.block b (by omega)
theorem RdR.bound {lo hi : Nat} {w : World} {v : Value} {l : List Iv} (h : RdR lo hi w v l) : ∀ s ∈ l, s.lo < M64 ∧ s.hi < M64 := by
  obtain ⟨a, cap, hv, h1, h2, h3⟩ := h
  intro s hs
  obtain ⟨i, hi, rfl⟩ := List.getElem_of_mem hs
  obtain ⟨b, off, _, _, _, hc⟩ := h3 (by intro e; subst e; simp at hi)
  exact (hc i hi).2.2
/-- The cells of intervals, one behind the other. -/
def flat (l : List Iv) : List Value := l.flatMap fun s => [.int .u64 s.lo, .int .u64 s.hi]
theorem flat_length (l : List Iv) : (flat l).length = l.length * 2 := by
  induction l with
  | nil => rfl
  | cons s l ih => simp [flat] at ih ⊢; omega
theorem flat_append (l k : List Iv) : flat (l ++ k) = flat l ++ flat k := by simp [flat]
theorem flat_get (l : List Iv) : ∀ (i : Nat) (h : i < l.length), (flat l)[i * 2]? = some (.int .u64 l[i].lo) ∧ (flat l)[i * 2 + 1]? = some (.int .u64 l[i].hi) := by
  induction l with
  | nil => intro i h; simp at h
  | cons s l ih =>
    intro i h
    cases i with
    | zero => simp [flat]
    | succ i =>
      have := ih i (by simpa using h)
      have e : flat (s :: l) = .int .u64 s.lo :: .int .u64 s.hi :: flat l := rfl
      rw [e, show (i + 1) * 2 = i * 2 + 1 + 1 from by omega]
      simpa using this
/-- A list of intervals that the call itself has made: the slice owns its cells. -/
def OwnR (base : Nat) (w : World) (v : Value) (l : List Iv) : Prop := w.ownsRow base 46 2 v l.length (flat l) ∧ ∀ s ∈ l, s.lo < M64 ∧ s.hi < M64
theorem OwnR.rd {base : Nat} {w : World} {v : Value} {l : List Iv} (h : OwnR base w v l) : RdR base w.heap.size w v l := by
  obtain ⟨⟨h1, h2⟩, hb⟩ := h
  rcases h2 with ⟨rfl, h0⟩ | ⟨g, cap, cur, rfl, hg, hh, hn, hc, hs, ht⟩
  · obtain rfl : l = [] := List.eq_nil_of_length_eq_zero h0
    exact RdSl.nil _ _ (by decide)
  · refine ⟨_, cap, rfl, hn, hc, fun _ => ⟨g, 0, rfl, hg, (Array.getElem?_eq_some_iff.1 hh).1, fun i hi => ?_⟩⟩
    have hf := flat_get l i hi
    rw [← ht, List.getElem?_take, List.getElem?_take, if_pos (by omega), if_pos (by omega)] at hf
    refine ⟨?_, ?_, hb _ (List.getElem_mem hi)⟩
    · simp only [World.cell?, hh]; simpa using hf.1
    · simp only [World.cell?, hh]; simpa using hf.2
theorem OwnR.nil (base : Nat) (w : World) : OwnR base w (.slice none 0 0) [] := ⟨World.ownsRow_nil _ _ _ _, fun _ h => by cases h⟩
theorem OwnR.val {base : Nat} {w : World} {v : Value} {l : List Iv} (h : OwnR base w v l) : ∃ a cap, v = .slice a l.length cap := by
  obtain ⟨a, cap, e, _⟩ := h.rd; exact ⟨a, cap, e⟩
theorem OwnR.below {base n : Nat} {w w' : World} {v : Value} {l : List Iv} (h : OwnR base w v l) (hb : Below n w w') (hn : w.heap.size ≤ n) : OwnR base w' v l :=
  ⟨(Keep.of_below' (S := fun _ => False) hb hn).ownsRow h.1 fun _ _ => id, h.2⟩
theorem OwnR.keep {base : Nat} {S : Nat → Prop} {w w' : World} {v : Value} {l : List Iv} (h : OwnR base w v l) (hb : Keep S w w') (hs : ∀ g, base ≤ g → ¬ S g) : OwnR base w' v l :=
  ⟨hb.ownsRow h.1 fun g hg => hs g ((h.1.lt g hg).1), h.2⟩
theorem OwnR.mono {base base' : Nat} {w : World} {v : Value} {l : List Iv} (h : OwnR base w v l) (hb : base' ≤ base) : OwnR base' w v l := by
  refine ⟨⟨h.1.1, ?_⟩, h.2⟩
  rcases h.1.2 with hn | ⟨g, cap, cur, hv, hg, r⟩
  · exact .inl hn
  · exact .inr ⟨g, cap, cur, hv, by omega, r⟩

/-- Behind a contract that leaves what lay below n as it was. -/
theorem bcell {n : Nat} {W w1 : World} (hb : Below n W w1) : (∀ b o, b < n → w1.cell? ⟨b, o, none⟩ = W.cell? ⟨b, o, none⟩) ∧ (∀ b o, b < n → w1.frozen? ⟨b, o, none⟩ = W.frozen? ⟨b, o, none⟩) :=
  ⟨fun b o h => hb.cell (p := ⟨b, o, none⟩) h, fun b o h => hb.frozen (p := ⟨b, o, none⟩) h⟩

/-- Behind 'out = append(out, ..)', out in a box: the box, the row, and what was kept. -/
theorem box_appended {W w1 : World} {n₀ B : Nat} {t e : TypeId} {size : Nat} {v v' : Value} {k m : Nat} {xs ys : List Value} {tmp : Obj}
    (hv : Boxed W B t v) (hte : t ≠ e) (hrow : W.ownsRow n₀ e size v k xs) (hown' : w1.ownsRow n₀ e size v' m ys) (hgrow : (W.alloc tmp).grownBy w1 v.ownBlock) :
    Boxed w1 B t v ∧ Boxed (w1.setCell ⟨B, 0, none⟩ v') B t v' ∧ (w1.setCell ⟨B, 0, none⟩ v').ownsRow n₀ e size v' m ys ∧ Keep (fun k => k = B ∨ n₀ ≤ k) W (w1.setCell ⟨B, 0, none⟩ v') := by
  have hv1 : Boxed w1 B t v := (hv.alloc tmp).kept hgrow (hv.not_row hte hrow)
  refine ⟨hv1, hv1.set v', hown'.kept (grownBy_setCell' w1 B v') (.inr (hv1.not_row hte hown').symm), ?_⟩
  refine Keep.setCell (p := ⟨B, 0, none⟩) ?_ (fun _ => .inl rfl) _
  exact ((Keep.refl _ W).alloc tmp).grown hgrow fun j ej _ => .inr ((hrow.lt j ej).1)
/-- The cells of a block that was just laid, as an append reads them. -/
theorem news_at {w : World} {B : Nat} {cs : Array Value} {t : TypeId} {fr : Nat × Nat} (hb : w.heap[B]? = some (.cells cs t fr)) : ∀ j u, cs.toList[j]? = some u → w.cell? ((⟨B, 0, none⟩ : Addr).add j) = some u := fun j u hu => by
  have hadd : (⟨B, 0, none⟩ : Addr).add j = ⟨B, j, none⟩ := by unfold Addr.add; split <;> simp_all
  rw [hadd]
  simp only [World.cell?, hb]
  simpa using hu
theorem OwnR.snoc {base : Nat} {w w' : World} {v v' : Value} {l : List Iv} {s : Iv} (h : OwnR base w v l) (hs : s.lo < M64 ∧ s.hi < M64)
    (ho : w'.ownsRow base 46 2 v' (l.length + 1) (flat l ++ [.int .u64 s.lo, .int .u64 s.hi])) : OwnR base w' v' (l ++ [s]) := by
  refine ⟨?_, fun t ht => ?_⟩
  · rw [flat_append, List.length_append]; exact ho
  · simp at ht; rcases ht with ht | rfl
    · exact h.2 t ht
    · exact hs
theorem Tryd.infoIv : (Tryd.prog.info? 46).map (fun i => (i.zero, i.size, i.bytes)) = some (some (Value.agg #[.int .u64 0, .int .u64 0]), 2, 16) := by kernel_rfl

theorem wrap_lt {x : Nat} (h : x < M64) : IntKind.u64.wrap (x : Int) = x := by
  rw [M64_val] at h
  simp [IntKind.wrap, IntKind.bits, IntKind.signed] <;> omega
end Go.Proofs.YtcedofkenfddkaaDoor
