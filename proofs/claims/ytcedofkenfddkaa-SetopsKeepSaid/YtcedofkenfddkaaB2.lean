/- Texts of this claim, bound together: SetB SetC SetD SetE RefA. -/
import Derived.Deep.LoopGhost
import Derived.Deep.DeepCutAuto
import Derived.Deep.CutBlock
import Derived.BigQuiet
import Derived.Deep.QuietTactic
import Derived.Test.YtcedofkenfddkaaB1
/- The contract of the closure that setops.pieces returns: it hands over the pieces of two correct lists, in order. -/
namespace Go.Proofs.Ytcedofkenfddkaa
set_option linter.unusedVariables false
set_option linter.unusedSimpArgs false
open Go.RowKit

/-- a' is what is left of a behind intervals that end before x. -/
def Suf (a a' : List Iv) (x : Nat) : Prop := ∃ d, a = d ++ a' ∧ ∀ s ∈ d, s.hi < x
theorem Suf.refl (a : List Iv) (x : Nat) : Suf a a x := ⟨[], rfl, fun _ h => by cases h⟩
theorem Suf.mono {a a' : List Iv} {x y : Nat} (h : Suf a a' x) (hy : x ≤ y) : Suf a a' y := by
  obtain ⟨d, h1, h2⟩ := h; exact ⟨d, h1, fun s hs => by have := h2 s hs; omega⟩
theorem Suf.drop {a a' : List Iv} {s : Iv} {x : Nat} (h : Suf a (s :: a') x) (hs : s.hi < x) : Suf a a' x := by
  obtain ⟨d, h1, h2⟩ := h
  exact ⟨d ++ [s], by simp [h1], fun t ht => by simp at ht; rcases ht with ht | rfl; exact h2 t ht; exact hs⟩
theorem Suf.mem_eq {a a' : List Iv} {x z : Nat} (h : Suf a a' x) (hz : x ≤ z) : mem a z = mem a' z := by
  obtain ⟨d, rfl, h2⟩ := h
  rw [mem_append]
  have : mem d z = false := by
    cases e : mem d z with
    | false => rfl
    | true => obtain ⟨s, hs, _, h3⟩ := mem_iff.1 e; have := h2 s hs; omega
  rw [this, Bool.false_or]
theorem Suf.nrm {a a' : List Iv} {x n : Nat} (ha : NF n a) (h : Suf a a' x) : NF n a' := by
  obtain ⟨d, rfl, h2⟩ := h
  clear h2
  induction d generalizing n with
  | nil => exact ha
  | cons s d ih => exact ih ha.tail
theorem Suf.nxt_eq {a a' : List Iv} {x z n : Nat} (ha : NF n a) (h : Suf a a' x) (hz : x ≤ z) : nxt a z = nxt a' z := by
  obtain ⟨d, rfl, h2⟩ := h
  induction d generalizing n with
  | nil => rfl
  | cons s d ih =>
    rw [List.cons_append, nxt_drop (by have := h2 s (by simp); omega) ha.2.1]
    exact ih (fun t ht => h2 t (by simp [ht])) ha.2.2.2
theorem mem_head {a' : List Iv} {s : Iv} {x n : Nat} (ha : NF n (s :: a')) (h : x ≤ s.hi) : mem (s :: a') x = decide (s.lo ≤ x) := by
  rw [mem_cons, ha.2.2.2.mem_lt (by omega)]
  simp [h]

/-- The values that yield is handed. -/
def encP (x : Iv × Bool × Bool) : Array Value := #[.agg #[.int .u64 x.1.lo, .int .u64 x.1.hi], .agg #[.bool x.2.1, .bool x.2.2]]

/-- What holds of the closure's two boxes while it is at the number x. -/
structure PInv (a b : List Iv) (Ba Bb n0 : Nat) (w : World) (x : Nat) (a' b' : List Iv) (va vb : Value) : Prop where
  bxa : Boxed w Ba 23 va
  bxb : Boxed w Bb 23 vb
  ra : RdR 0 n0 w va a'
  rb : RdR 0 n0 w vb b'
  sa : Suf a a' x
  sb : Suf b b' x
theorem PInv.at {a b : List Iv} {Ba Bb n0 : Nat} {S : Nat → Prop} {w w' : World} {x y : Nat} {a' b' : List Iv} {va vb : Value} (h : PInv a b Ba Bb n0 w x a' b' va vb) (hk : Keep S w w') (hn : n0 ≤ w.heap.size) (hs : ∀ k, k < n0 ∨ k = Ba ∨ k = Bb → ¬ S k) (hy : x ≤ y) :
    PInv a b Ba Bb n0 w' y a' b' va vb :=
  ⟨hk.boxed h.bxa (hs _ (.inr (.inl rfl))), hk.boxed h.bxb (hs _ (.inr (.inr rfl))), h.ra.keep (Nat.le_refl _) (Nat.le_refl _) fun b _ h2 => hk.block b (by omega) (hs b (.inl h2)),
    h.rb.keep (Nat.le_refl _) (Nat.le_refl _) fun b _ h2 => hk.block b (by omega) (hs b (.inl h2)), h.sa.mono hy, h.sb.mono hy⟩
theorem PInv.setA {a b : List Iv} {Ba Bb n0 : Nat} {w : World} {x : Nat} {s : Iv} {a' b' : List Iv} {va va' vb : Value} (h : PInv a b Ba Bb n0 w x (s :: a') b' va vb) (hB : n0 ≤ Ba) (hne : Ba ≠ Bb) (hs : s.hi < x) (hr : RdR 0 n0 w va' a') :
    PInv a b Ba Bb n0 (w.setCell ⟨Ba, 0, none⟩ va') x a' b' va' vb :=
  ⟨h.bxa.set va', h.bxb.other hne.symm va', hr.keep (Nat.le_refl _) (Nat.le_refl _) fun b _ h2 => Below.heap_setCell _ _ _ _ (by show b ≠ Ba; omega),
    h.rb.keep (Nat.le_refl _) (Nat.le_refl _) fun b _ h2 => Below.heap_setCell _ _ _ _ (by show b ≠ Ba; omega), h.sa.drop hs, h.sb⟩
theorem PInv.setB {a b : List Iv} {Ba Bb n0 : Nat} {w : World} {x : Nat} {s : Iv} {a' b' : List Iv} {va vb vb' : Value} (h : PInv a b Ba Bb n0 w x a' (s :: b') va vb) (hB : n0 ≤ Bb) (hne : Ba ≠ Bb) (hs : s.hi < x) (hr : RdR 0 n0 w vb' b') :
    PInv a b Ba Bb n0 (w.setCell ⟨Bb, 0, none⟩ vb') x a' b' va vb' :=
  ⟨h.bxa.other hne vb', h.bxb.set vb', h.ra.keep (Nat.le_refl _) (Nat.le_refl _) fun b _ h2 => Below.heap_setCell _ _ _ _ (by show b ≠ Bb; omega),
    hr.keep (Nat.le_refl _) (Nat.le_refl _) fun b _ h2 => Below.heap_setCell _ _ _ _ (by show b ≠ Bb; omega), h.sa, h.sb.drop hs⟩
/-- A list has none left that ends before x. -/
def Fit (a' : List Iv) (x : Nat) : Prop := ∀ s r, a' = s :: r → x ≤ s.hi

theorem RdR.tail {hi : Nat} {w : World} {ad : Option Addr} {n cap : Nat} {s : Iv} {l : List Iv} (h : RdR 0 hi w (.slice ad n cap) (s :: l)) :
    ∃ b off, ad = some ⟨b, off, none⟩ ∧ n = l.length + 1 ∧ b < hi ∧ rdIv w b off s ∧ l.length + 1 ≤ cap ∧ cap ≤ maxLen ∧ RdR 0 hi w (.slice (if cap = 1 then some ⟨b, off, none⟩ else some ⟨b, off + 2, none⟩) l.length (cap - 1)) l := by
  obtain ⟨a, c, hv, h1, h2, h3⟩ := h
  obtain ⟨rfl, rfl, rfl⟩ : ad = a ∧ n = (s :: l).length ∧ cap = c := by simpa using hv
  obtain ⟨b, off, rfl, _, hb, hc⟩ := h3 (by simp)
  refine ⟨b, off, rfl, rfl, hb, (by have := hc 0 (by simp); rwa [Nat.zero_mul, Nat.add_zero] at this), by simpa using h1, h2, ?_⟩
  refine ⟨_, _, rfl, by simp at h1; omega, by omega, fun hne => ?_⟩
  have hl : 0 < l.length := List.length_pos_iff.2 hne
  refine ⟨b, off + 2, by rw [if_neg (by simp at h1; omega)], Nat.zero_le _, hb, fun i hi => ?_⟩
  have := hc (i + 1) (by simp; omega)
  rw [show off + (i + 1) * 2 = off + 2 + i * 2 from by omega] at this
  simpa using this

set_option maxHeartbeats 8000000 in
set_option maxRecDepth 100000 in
theorem pieces1_at (a b : List Iv) (va0 vb0 : Value) (Ba Bb n0 : Nat) (W0 : World) (ha : Nrm a) (hb : Nrm b) (hne : Ba ≠ Bb) (hBa : n0 ≤ Ba) (hBb : n0 ≤ Bb)
    (h00 : PInv a b Ba Bb n0 W0 0 a b va0 vb0) :
    IterAt Try.prog 112 #[.pointer (some ⟨Ba, 0, none⟩), .pointer (some ⟨Bb, 0, none⟩)] encP (fun k => k = Ba ∨ k = Bb) (fun k => k < n0 ∨ k = Ba ∨ k = Bb) (pieces a b) W0 := by
  intro l J Jx hJ hJx hY h0
  refine callsIn_wide.2 ?_
  show Calls Try.prog 112 #[.func (.yield l) #[] #[], .pointer (some ⟨Ba, 0, none⟩), .pointer (some ⟨Bb, 0, none⟩)] W0 _
  have HJ := Lib.hid hJ
  have HJx := Lib.hid hJx
  have HY := Lib.hid hY
  clear hJ hJx hY
  go_enter Try.func112, Try.ntmps112
  go_wp2_with fail
  go_loopg [4] M64 (fun g x wr => ∃ (xn f : Nat) (a' b' : List Iv) (va vb : Value) (pre : List (Iv × Bool × Bool)), x = .int .u64 xn ∧ xn < M64 ∧ g = M64 - xn ∧ PInv a b Ba Bb n0 wr xn a' b' va vb ∧ Hid (pieces a b = pre ++ pcs a b f xn) ∧ M64 ≤ f + xn ∧ J pre wr)
  case atStart => exact ⟨0, M64, a, b, va0, vb0, [], rfl, M64_pos, rfl, h00, rfl, by omega, h0⟩
  case round =>
    obtain ⟨xn, f, a', b', va, vb, pre, rfl, hx, rfl, hP, hpc, hf, hJp⟩ := hrel
    clear h0 h00
    go_upto_block 2 with fail
    go_cut [] (fun wc => ∃ a2 va2, PInv a b Ba Bb n0 wc xn a2 b' va2 vb ∧ Fit a2 xn ∧ J pre wc)
    case first =>
      go_wp2_with fail
      go_loopg [] a'.length (fun g wl => ∃ (a2 : List Iv) (va2 : Value), g = a2.length ∧ PInv a b Ba Bb n0 wl xn a2 b' va2 vb ∧ J pre wl)
      case atStart => exact ⟨a', va, rfl, hP, hJp⟩
      case round =>
        clear hP hJp
        obtain ⟨a2, va2, rfl, hP, hJp⟩ := hrel
        have hca := hP.bxa.cell
        have hfa := hP.bxa.frozen
        have hra := hP.ra
        cases a2 with
        | nil =>
          obtain ⟨ad, cap, rfl, _⟩ := hra
          go_wp2
          go_meet
          exact ⟨[], _, hP, (fun _ _ e => by cases e), hJp⟩
        | cons s r =>
          have hva := hra
          obtain ⟨ad, cap, rfl, _⟩ := hva
          obtain ⟨bb, off, rfl, _, hbb, hs, hcap, hcm, htl⟩ := hra.tail
          obtain ⟨c1, c2, s1, s2⟩ := hs
          have HT := Lib.hid htl
          clear hra htl
          unfold maxLen at hcm
          by_cases hlt : s.hi < xn
          · by_cases h1 : cap = 1
            · subst h1
              obtain rfl : r = [] := List.eq_nil_of_length_eq_zero (by omega)
              go_wp2
              go_roundg 0
              case measure => simp
              case rel => exact ⟨[], _, rfl, hP.setA hBa hne hlt (by have := HT.out; simpa using this), HJ.out _ _ _ hJp ((Keep.refl _ _).setCell (p := ⟨Ba, 0, none⟩) (fun _ => .inl rfl) _)⟩
            · go_wp2
              go_roundg r.length
              case measure => simp
              case rel => exact ⟨r, _, rfl, hP.setA hBa hne hlt (by have := HT.out; rw [if_neg h1] at this; simpa using this), HJ.out _ _ _ hJp ((Keep.refl _ _).setCell (p := ⟨Ba, 0, none⟩) (fun _ => .inl rfl) _)⟩
          · go_wp2
            go_meet
            exact ⟨s :: r, _, hP, (fun _ _ e => by cases e; omega), hJp⟩
    case rest =>
      clear hP hJp
      obtain ⟨a2, va2, hP, hFa, hJp⟩ := hcut
      go_upto_block 4 with fail
      go_cut [] (fun wc => ∃ b2 vb2, PInv a b Ba Bb n0 wc xn a2 b2 va2 vb2 ∧ Fit b2 xn ∧ J pre wc)
      case first =>
        go_wp2_with fail
        go_loopg [] b'.length (fun g wl => ∃ (b2 : List Iv) (vb2 : Value), g = b2.length ∧ PInv a b Ba Bb n0 wl xn a2 b2 va2 vb2 ∧ J pre wl)
        case atStart => exact ⟨b', vb, rfl, hP, hJp⟩
        case round =>
          clear hP hJp
          obtain ⟨b2, vb2, rfl, hP, hJp⟩ := hrel
          have hca := hP.bxb.cell
          have hfa := hP.bxb.frozen
          have hra := hP.rb
          cases b2 with
          | nil =>
            obtain ⟨ad, cap, rfl, _⟩ := hra
            go_wp2
            go_meet
            exact ⟨[], _, hP, (fun _ _ e => by cases e), hJp⟩
          | cons s r =>
            have hva := hra
            obtain ⟨ad, cap, rfl, _⟩ := hva
            obtain ⟨bb, off, rfl, _, hbb, hs, hcap, hcm, htl⟩ := hra.tail
            obtain ⟨c1, c2, s1, s2⟩ := hs
            have HT := Lib.hid htl
            clear hra htl
            unfold maxLen at hcm
            by_cases hlt : s.hi < xn
            · by_cases h1 : cap = 1
              · subst h1
                obtain rfl : r = [] := List.eq_nil_of_length_eq_zero (by omega)
                go_wp2
                go_roundg 0
                case measure => simp
                case rel => exact ⟨[], _, rfl, hP.setB hBb hne hlt (by have := HT.out; simpa using this), HJ.out _ _ _ hJp ((Keep.refl _ _).setCell (p := ⟨Bb, 0, none⟩) (fun _ => .inr rfl) _)⟩
              · go_wp2
                go_roundg r.length
                case measure => simp
                case rel => exact ⟨r, _, rfl, hP.setB hBb hne hlt (by have := HT.out; rw [if_neg h1] at this; simpa using this), HJ.out _ _ _ hJp ((Keep.refl _ _).setCell (p := ⟨Bb, 0, none⟩) (fun _ => .inr rfl) _)⟩
            · go_wp2
              go_meet
              exact ⟨s :: r, _, hP, (fun _ _ e => by cases e; omega), hJp⟩
      case rest =>
        clear hP hJp
        obtain ⟨b2, vb2, hP, hFb, hJp⟩ := hcut
        go_upto_region 5 with fail
        go_cut [5] (fun s5 wd => ∃ Bs, s5 = .pointer (some ⟨Bs, 0, none⟩) ∧ PInv a b Ba Bb n0 wd xn a2 b2 va2 vb2 ∧ J pre wd ∧ wd.cell? ⟨Bs, 0, none⟩ = some (.bool (mem a xn)) ∧ wd.cell? ⟨Bs, 1, none⟩ = some (.bool (mem b xn)) ∧ n0 ≤ wd.heap.size)
        case first =>
          have hma := hP.sa.mem_eq (Nat.le_refl _)
          have hmb := hP.sb.mem_eq (Nat.le_refl _)
          have hna := hP.sa.nrm ha
          have hnb := hP.sb.nrm hb
          have ca := hP.bxa.cell
          have cb := hP.bxb.cell
          have hlt1 := hP.bxa.lt
          have hlt2 := hP.bxb.lt
          have hra := hP.ra
          have hrb := hP.rb
          cases a2 with
          | nil =>
            obtain ⟨ad, capa, rfl, _⟩ := hra
            have HMA := Lib.hid hma
            clear hma hna
            cases b2 with
            | nil =>
              obtain ⟨bd, capb, rfl, _⟩ := hrb
              have HMB := Lib.hid hmb
              clear hmb hnb
              have hwn : n0 ≤ wc.heap.size := by omega
              have HP := Lib.hid (And.intro hP (And.intro hJp (And.intro hFa hFb)))
              clear hP hFa hFb hlt1 hlt2 hf
              refine regG 24 99 (fun w' => w'.cell? ⟨Ba, 0, none⟩ = some (.slice ad 0 capa) ∧ w'.cell? ⟨Bb, 0, none⟩ = some (.slice bd 0 capb)) (by kernel_rfl) (by kernel_rfl) rfl ⟨ca, cb⟩ ?_
              simp only [List.take_succ_cons, List.take_zero]
              repeat (first
                | (refine wdet ?_ rfl (fun a w hc _ hr => ?_) ?_; rotate_left; (simp [Rds, rdsO, lk, Op.operands, Call.operands, RdEq] at hr; go_simp; with_reducible rfl); dsimp only [List.nil_append, List.cons_append])
                | (refine wskip rfl ?_ ?_; (first | exact .inl (isV_eq rfl rfl) | exact .inr (isV_eq rfl rfl)); dsimp only [List.nil_append, List.cons_append])
                | (refine wdetg rfl ?_ ?_ (fun a w hc _ hr => ?_) ?_; exact (isV_eq rfl rfl); rotate_left; (simp [Rds, rdsO, lk, Op.operands, Call.operands, RdEq] at hr; go_simp; with_reducible rfl); dsimp only [List.nil_append, List.cons_append]))
              refine wgen (fun u w => ∃ B, u = .pointer (some ⟨B, 0, none⟩) ∧ w.heap[B]? = some (.cells #[.bool false, .bool false] 71 (0, 0)) ∧ wc.heap.size ≤ B) (fun u w w' ⟨B, h1, h2, h3⟩ hk => ⟨B, h1, hk.obj h2 id, h3⟩) rfl ?_ ?_
              · intro a w hc hk hr K hK
                have HK := Lib.hid hK
                clear hK
                go_simp
                exact HK.out _ _ ((Keep.refl _ _).alloc _) ⟨((Keep.refl NoB w).alloc _).cell_some hc.1 id, ((Keep.refl NoB w).alloc _).cell_some hc.2 id⟩ ⟨w.heap.size, rfl, World.alloc_heap_new w _, hk.size⟩
              dsimp only [List.nil_append, List.cons_append]
              intro w hc hk
              simp only [finG, forall_eq]
              rintro u ⟨B, rfl, hB, hBn⟩
              simp only [List.drop_succ_cons, List.drop_zero]
              have c0 : w.cell? ⟨B, 0, none⟩ = some (.bool false) := by simp [World.cell?, hB]
              have c1 : w.cell? ⟨B, 1, none⟩ = some (.bool false) := by simp [World.cell?, hB]
              have f0 : w.frozen? ⟨B, 0, none⟩ = false := by simp [World.frozen?, hB]
              have f1 : w.frozen? ⟨B, 1, none⟩ = false := by simp [World.frozen?, hB]
              clear hB hc
              simp only [Act.put, List.setIfInBounds_toArray, List.set_cons_succ, List.set_cons_zero]
              go_wp2
              go_meet
              have hkk : ∀ u v, Keep NoB wc ((w.setCell ⟨B, 0, none⟩ u).setCell ⟨B, 1, none⟩ v) := fun u v => ((((Keep.refl NoB wc).drew).trans hk).setCell (p := ⟨B, 0, none⟩) (fun h => by exact absurd h (by simpa using hBn)) _).setCell (p := ⟨B, 1, none⟩) (fun h => by exact absurd h (by simpa using hBn)) _
              exact ⟨B, rfl, HP.out.1.at (hkk _ _) hwn (fun _ _ => id) (Nat.le_refl _), HJ.out _ _ _ HP.out.2.1 ((hkk _ _).mono fun _ _ h => h.elim), by rw [HMA.out]; go_simp, by rw [HMB.out]; go_simp, Nat.le_trans hwn (hkk _ _).size⟩
            | cons t r2 =>
              have hvb := hrb
              obtain ⟨bd, capb, rfl, _⟩ := hvb
              obtain ⟨bb, ob, rfl, _, _, hsb, hcapb, hcmb, _⟩ := hrb.tail
              have HMB := Lib.hid (hmb.trans (mem_head hnb (hFb _ _ rfl)))
              have ct := hsb.1
              unfold maxLen at hcmb
              clear hmb hnb hrb hsb
              have hwn : n0 ≤ wc.heap.size := by omega
              have HP := Lib.hid (And.intro hP (And.intro hJp (And.intro hFa hFb)))
              clear hP hFa hFb hlt1 hlt2 hf
              refine regG 24 99 (fun w' => w'.cell? ⟨Ba, 0, none⟩ = some (.slice ad 0 capa) ∧ w'.cell? ⟨Bb, 0, none⟩ = some (.slice (some ⟨bb, ob, none⟩) (r2.length + 1) capb) ∧ w'.cell? ⟨bb, ob, none⟩ = some (.int .u64 t.lo)) (by kernel_rfl) (by kernel_rfl) rfl ⟨ca, cb, ct⟩ ?_
              simp only [List.take_succ_cons, List.take_zero]
              repeat (first
                | (refine wdet ?_ rfl (fun a w hc _ hr => ?_) ?_; rotate_left; (simp [Rds, rdsO, lk, Op.operands, Call.operands, RdEq] at hr; go_simp; with_reducible rfl); dsimp only [List.nil_append, List.cons_append])
                | (refine wskip rfl ?_ ?_; (first | exact .inl (isV_eq rfl rfl) | exact .inr (isV_eq rfl rfl)); dsimp only [List.nil_append, List.cons_append])
                | (refine wdetg rfl ?_ ?_ (fun a w hc _ hr => ?_) ?_; exact (isV_eq rfl rfl); rotate_left; (simp [Rds, rdsO, lk, Op.operands, Call.operands, RdEq] at hr; go_simp; with_reducible rfl); dsimp only [List.nil_append, List.cons_append]))
              refine wgen (fun u w => ∃ B, u = .pointer (some ⟨B, 0, none⟩) ∧ w.heap[B]? = some (.cells #[.bool false, .bool false] 71 (0, 0)) ∧ wc.heap.size ≤ B) (fun u w w' ⟨B, h1, h2, h3⟩ hk => ⟨B, h1, hk.obj h2 id, h3⟩) rfl ?_ ?_
              · intro a w hc hk hr K hK
                have HK := Lib.hid hK
                clear hK
                go_simp
                exact HK.out _ _ ((Keep.refl _ _).alloc _) ⟨((Keep.refl NoB w).alloc _).cell_some hc.1 id, ((Keep.refl NoB w).alloc _).cell_some hc.2.1 id, ((Keep.refl NoB w).alloc _).cell_some hc.2.2 id⟩ ⟨w.heap.size, rfl, World.alloc_heap_new w _, hk.size⟩
              dsimp only [List.nil_append, List.cons_append]
              intro w hc hk
              simp only [finG, forall_eq]
              rintro u ⟨B, rfl, hB, hBn⟩
              simp only [List.drop_succ_cons, List.drop_zero]
              have c0 : w.cell? ⟨B, 0, none⟩ = some (.bool false) := by simp [World.cell?, hB]
              have c1 : w.cell? ⟨B, 1, none⟩ = some (.bool false) := by simp [World.cell?, hB]
              have f0 : w.frozen? ⟨B, 0, none⟩ = false := by simp [World.frozen?, hB]
              have f1 : w.frozen? ⟨B, 1, none⟩ = false := by simp [World.frozen?, hB]
              clear hB hc
              simp only [Act.put, List.setIfInBounds_toArray, List.set_cons_succ, List.set_cons_zero]
              go_wp2
              go_meet
              have hkk : ∀ u v, Keep NoB wc ((w.setCell ⟨B, 0, none⟩ u).setCell ⟨B, 1, none⟩ v) := fun u v => ((((Keep.refl NoB wc).drew).trans hk).setCell (p := ⟨B, 0, none⟩) (fun h => by exact absurd h (by simpa using hBn)) _).setCell (p := ⟨B, 1, none⟩) (fun h => by exact absurd h (by simpa using hBn)) _
              exact ⟨B, rfl, HP.out.1.at (hkk _ _) hwn (fun _ _ => id) (Nat.le_refl _), HJ.out _ _ _ HP.out.2.1 ((hkk _ _).mono fun _ _ h => h.elim), by rw [HMA.out]; go_simp, by rw [HMB.out]; go_simp, Nat.le_trans hwn (hkk _ _).size⟩
          | cons s r1 =>
            have hva := hra
            obtain ⟨ad, capa, rfl, _⟩ := hva
            obtain ⟨ba, oa, rfl, _, _, hsa, hcapa, hcma, _⟩ := hra.tail
            have HMA := Lib.hid (hma.trans (mem_head hna (hFa _ _ rfl)))
            have cs := hsa.1
            unfold maxLen at hcma
            clear hma hna hra hsa
            cases b2 with
            | nil =>
              obtain ⟨bd, capb, rfl, _⟩ := hrb
              have HMB := Lib.hid hmb
              clear hmb hnb
              have hwn : n0 ≤ wc.heap.size := by omega
              have HP := Lib.hid (And.intro hP (And.intro hJp (And.intro hFa hFb)))
              clear hP hFa hFb hlt1 hlt2 hf
              refine regG 24 99 (fun w' => w'.cell? ⟨Ba, 0, none⟩ = some (.slice (some ⟨ba, oa, none⟩) (r1.length + 1) capa) ∧ w'.cell? ⟨Bb, 0, none⟩ = some (.slice bd 0 capb) ∧ w'.cell? ⟨ba, oa, none⟩ = some (.int .u64 s.lo)) (by kernel_rfl) (by kernel_rfl) rfl ⟨ca, cb, cs⟩ ?_
              simp only [List.take_succ_cons, List.take_zero]
              repeat (first
                | (refine wdet ?_ rfl (fun a w hc _ hr => ?_) ?_; rotate_left; (simp [Rds, rdsO, lk, Op.operands, Call.operands, RdEq] at hr; go_simp; with_reducible rfl); dsimp only [List.nil_append, List.cons_append])
                | (refine wskip rfl ?_ ?_; (first | exact .inl (isV_eq rfl rfl) | exact .inr (isV_eq rfl rfl)); dsimp only [List.nil_append, List.cons_append])
                | (refine wdetg rfl ?_ ?_ (fun a w hc _ hr => ?_) ?_; exact (isV_eq rfl rfl); rotate_left; (simp [Rds, rdsO, lk, Op.operands, Call.operands, RdEq] at hr; go_simp; with_reducible rfl); dsimp only [List.nil_append, List.cons_append]))
              refine wgen (fun u w => ∃ B, u = .pointer (some ⟨B, 0, none⟩) ∧ w.heap[B]? = some (.cells #[.bool false, .bool false] 71 (0, 0)) ∧ wc.heap.size ≤ B) (fun u w w' ⟨B, h1, h2, h3⟩ hk => ⟨B, h1, hk.obj h2 id, h3⟩) rfl ?_ ?_
              · intro a w hc hk hr K hK
                have HK := Lib.hid hK
                clear hK
                go_simp
                exact HK.out _ _ ((Keep.refl _ _).alloc _) ⟨((Keep.refl NoB w).alloc _).cell_some hc.1 id, ((Keep.refl NoB w).alloc _).cell_some hc.2.1 id, ((Keep.refl NoB w).alloc _).cell_some hc.2.2 id⟩ ⟨w.heap.size, rfl, World.alloc_heap_new w _, hk.size⟩
              dsimp only [List.nil_append, List.cons_append]
              intro w hc hk
              simp only [finG, forall_eq]
              rintro u ⟨B, rfl, hB, hBn⟩
              simp only [List.drop_succ_cons, List.drop_zero]
              have c0 : w.cell? ⟨B, 0, none⟩ = some (.bool false) := by simp [World.cell?, hB]
              have c1 : w.cell? ⟨B, 1, none⟩ = some (.bool false) := by simp [World.cell?, hB]
              have f0 : w.frozen? ⟨B, 0, none⟩ = false := by simp [World.frozen?, hB]
              have f1 : w.frozen? ⟨B, 1, none⟩ = false := by simp [World.frozen?, hB]
              clear hB hc
              simp only [Act.put, List.setIfInBounds_toArray, List.set_cons_succ, List.set_cons_zero]
              go_wp2
              go_meet
              have hkk : ∀ u v, Keep NoB wc ((w.setCell ⟨B, 0, none⟩ u).setCell ⟨B, 1, none⟩ v) := fun u v => ((((Keep.refl NoB wc).drew).trans hk).setCell (p := ⟨B, 0, none⟩) (fun h => by exact absurd h (by simpa using hBn)) _).setCell (p := ⟨B, 1, none⟩) (fun h => by exact absurd h (by simpa using hBn)) _
              exact ⟨B, rfl, HP.out.1.at (hkk _ _) hwn (fun _ _ => id) (Nat.le_refl _), HJ.out _ _ _ HP.out.2.1 ((hkk _ _).mono fun _ _ h => h.elim), by rw [HMA.out]; go_simp, by rw [HMB.out]; go_simp, Nat.le_trans hwn (hkk _ _).size⟩
            | cons t r2 =>
              have hvb := hrb
              obtain ⟨bd, capb, rfl, _⟩ := hvb
              obtain ⟨bb, ob, rfl, _, _, hsb, hcapb, hcmb, _⟩ := hrb.tail
              have HMB := Lib.hid (hmb.trans (mem_head hnb (hFb _ _ rfl)))
              have ct := hsb.1
              unfold maxLen at hcmb
              clear hmb hnb hrb hsb
              have hwn : n0 ≤ wc.heap.size := by omega
              have HP := Lib.hid (And.intro hP (And.intro hJp (And.intro hFa hFb)))
              clear hP hFa hFb hlt1 hlt2 hf
              refine regG 24 99 (fun w' => w'.cell? ⟨Ba, 0, none⟩ = some (.slice (some ⟨ba, oa, none⟩) (r1.length + 1) capa) ∧ w'.cell? ⟨Bb, 0, none⟩ = some (.slice (some ⟨bb, ob, none⟩) (r2.length + 1) capb) ∧ w'.cell? ⟨ba, oa, none⟩ = some (.int .u64 s.lo) ∧ w'.cell? ⟨bb, ob, none⟩ = some (.int .u64 t.lo)) (by kernel_rfl) (by kernel_rfl) rfl ⟨ca, cb, cs, ct⟩ ?_
              simp only [List.take_succ_cons, List.take_zero]
              repeat (first
                | (refine wdet ?_ rfl (fun a w hc _ hr => ?_) ?_; rotate_left; (simp [Rds, rdsO, lk, Op.operands, Call.operands, RdEq] at hr; go_simp; with_reducible rfl); dsimp only [List.nil_append, List.cons_append])
                | (refine wskip rfl ?_ ?_; (first | exact .inl (isV_eq rfl rfl) | exact .inr (isV_eq rfl rfl)); dsimp only [List.nil_append, List.cons_append])
                | (refine wdetg rfl ?_ ?_ (fun a w hc _ hr => ?_) ?_; exact (isV_eq rfl rfl); rotate_left; (simp [Rds, rdsO, lk, Op.operands, Call.operands, RdEq] at hr; go_simp; with_reducible rfl); dsimp only [List.nil_append, List.cons_append]))
              refine wgen (fun u w => ∃ B, u = .pointer (some ⟨B, 0, none⟩) ∧ w.heap[B]? = some (.cells #[.bool false, .bool false] 71 (0, 0)) ∧ wc.heap.size ≤ B) (fun u w w' ⟨B, h1, h2, h3⟩ hk => ⟨B, h1, hk.obj h2 id, h3⟩) rfl ?_ ?_
              · intro a w hc hk hr K hK
                have HK := Lib.hid hK
                clear hK
                go_simp
                exact HK.out _ _ ((Keep.refl _ _).alloc _) ⟨((Keep.refl NoB w).alloc _).cell_some hc.1 id, ((Keep.refl NoB w).alloc _).cell_some hc.2.1 id, ((Keep.refl NoB w).alloc _).cell_some hc.2.2.1 id, ((Keep.refl NoB w).alloc _).cell_some hc.2.2.2 id⟩ ⟨w.heap.size, rfl, World.alloc_heap_new w _, hk.size⟩
              dsimp only [List.nil_append, List.cons_append]
              intro w hc hk
              simp only [finG, forall_eq]
              rintro u ⟨B, rfl, hB, hBn⟩
              simp only [List.drop_succ_cons, List.drop_zero]
              have c0 : w.cell? ⟨B, 0, none⟩ = some (.bool false) := by simp [World.cell?, hB]
              have c1 : w.cell? ⟨B, 1, none⟩ = some (.bool false) := by simp [World.cell?, hB]
              have f0 : w.frozen? ⟨B, 0, none⟩ = false := by simp [World.frozen?, hB]
              have f1 : w.frozen? ⟨B, 1, none⟩ = false := by simp [World.frozen?, hB]
              clear hB hc
              simp only [Act.put, List.setIfInBounds_toArray, List.set_cons_succ, List.set_cons_zero]
              go_wp2
              go_meet
              have hkk : ∀ u v, Keep NoB wc ((w.setCell ⟨B, 0, none⟩ u).setCell ⟨B, 1, none⟩ v) := fun u v => ((((Keep.refl NoB wc).drew).trans hk).setCell (p := ⟨B, 0, none⟩) (fun h => by exact absurd h (by simpa using hBn)) _).setCell (p := ⟨B, 1, none⟩) (fun h => by exact absurd h (by simpa using hBn)) _
              exact ⟨B, rfl, HP.out.1.at (hkk _ _) hwn (fun _ _ => id) (Nat.le_refl _), HJ.out _ _ _ HP.out.2.1 ((hkk _ _).mono fun _ _ h => h.elim), by rw [HMA.out]; go_simp, by rw [HMB.out]; go_simp, Nat.le_trans hwn (hkk _ _).size⟩
        case rest =>
          clear hP hJp
          obtain ⟨Bs, rfl, hP, hJp, hs0, hs1, hn0⟩ := hcut
          have hnA : nxt a xn = nxt a2 xn := hP.sa.nxt_eq ha (Nat.le_refl _)
          have hnB : nxt b xn = nxt b2 xn := hP.sb.nxt_eq hb (Nat.le_refl _)
          have HNA := Lib.hid hnA
          have HNB := Lib.hid hnB
          clear hnA hnB hFa hFb
          obtain ⟨pa, hpa⟩ : ∃ p, mem a xn = p := ⟨_, rfl⟩
          obtain ⟨pb, hpb⟩ : ∃ p, mem b xn = p := ⟨_, rfl⟩
          rw [hpa] at hs0
          rw [hpb] at hs1
          have HPA := Lib.hid hpa
          have HPB := Lib.hid hpb
          clear hpa hpb
          have ca := hP.bxa.cell
          have hlb := hP.bxb.lt
          have hls : Bs < wc.heap.size := World.block_lt_of_cell? wc _ hs0
          go_wp2_with fail
          refine (next_two a2 va2 xn _ (hP.ra.keep (Nat.le_refl _) hn0 fun _ _ _ => rfl)).mono ?_
          rintro e w1 ⟨n1, m1, rfl, hm1, hb1⟩
          clear ca
          have hP1 := hP.at (S := NoB) (Keep.of_below' hb1 (Nat.le_refl _)) hn0 (fun _ _ => id) (Nat.le_refl _)
          have hJ1 := HJ.out _ _ _ hJp (Keep.of_below' hb1 (Nat.le_refl _))
          have hs0 := (hb1.cell (p := ⟨Bs, 0, none⟩) hls).trans hs0
          have hs1 := (hb1.cell (p := ⟨Bs, 1, none⟩) hls).trans hs1
          have hn1 : n0 ≤ w1.heap.size := Nat.le_trans hn0 hb1.size
          have hls := World.block_lt_of_cell? w1 _ hs0
          clear hP hJp hb1 hn0
          have cb := hP1.bxb.cell
          go_wp2_with fail
          refine (next_two b2 vb2 xn _ (hP1.rb.keep (Nat.le_refl _) hn1 fun _ _ _ => rfl)).mono ?_
          rintro e w2 ⟨n2, m2, rfl, hm2, hb2⟩
          clear cb
          have hP2 := hP1.at (S := NoB) (Keep.of_below' hb2 (Nat.le_refl _)) hn1 (fun _ _ => id) (Nat.le_refl _)
          have hJ2 := HJ.out _ _ _ hJ1 (Keep.of_below' hb2 (Nat.le_refl _))
          have hs0 := (hb2.cell (p := ⟨Bs, 0, none⟩) hls).trans hs0
          have hs1 := (hb2.cell (p := ⟨Bs, 1, none⟩) hls).trans hs1
          have hn2 : n0 ≤ w2.heap.size := Nat.le_trans hn1 hb2.size
          clear hP1 hJ1 hb2 hn1
          go_upto_region 8 with fail
          go_cut [81] (fun s81 wx => ∃ c : Bool, s81 = .bool c ∧ wx = w2 ∧ Hid (c = (m2 && (!m1 || decide (n2 < n1)))))
          case first =>
            cases m2
            · go_wp2_with fail
              go_meet
              exact ⟨false, rfl, rfl, rfl⟩
            · cases m1
              · go_wp2_with fail
                go_meet
                exact ⟨true, rfl, rfl, rfl⟩
              · go_wp2_with fail
                go_meet
                exact ⟨_, rfl, rfl, by simp [Hid]⟩
          case rest =>
            obtain ⟨c, rfl, rfl, hc⟩ := hcut
            cases c with
            | true =>
              have hm : m2 = true ∧ minO (nxt a xn) (nxt b xn) = some n2 := by
                have := hc.out
                rw [HNA.out, HNB.out, hm1.out, hm2.out]
                cases m2 <;> cases m1 <;> simp [minO] at this ⊢
                omega
              obtain ⟨rfl, hmin⟩ := hm
              have hmin := Lib.hid hmin
              have hnx : Hid (nxt b xn = some n2) := by show _ = _; rw [HNB.out, hm2.out]; rfl
              clear hc hm1 hm2 HNA HNB
              have hy0 : xn < n2 ∧ n2 < M64 := by
                have h := hnx.out
                exact ⟨nxt_gt h, nxt_lt hb h⟩
              obtain ⟨f', rfl⟩ : ∃ f', f = f' + 1 := ⟨f - 1, by omega⟩
              have hpcs : Hid (pcs a b (f' + 1) xn = (⟨xn, n2 - 1⟩, pa, pb) :: pcs a b f' n2) := by
                show pcs a b (f' + 1) xn = _
                conv => lhs; unfold pcs
                rw [hmin.out, HPA.out, HPB.out]
              obtain ⟨fn, tmps, assign, body, hy, hR⟩ := HY.out pre (⟨xn, n2 - 1⟩, pa, pb) wc hJ2 ⟨pcs a b f' n2, by rw [hpc.out, hpcs.out]; simp⟩
              dsimp only [encP] at hy
              have hw1 : IntKind.u64.wrap ((n2 : Int) - 1) = ((n2 - 1 : Nat) : Int) := wrap_sub1 (by omega) hy0.2
              obtain ⟨y1, hy1⟩ : ∃ y1, y1 = n2 - 1 := ⟨_, rfl⟩
              rw [← hy1] at hy hw1 hR
              have HY1 := Lib.hid hy1
              clear hy1
              go_upto_region 13 with fail
              refine (wpIn_wide (n := 8)).1 ?_
              gi_wp2
              refine hR.mono ?_
              rintro e w3 (⟨rfl, hJ3, hk3⟩ | ⟨rfl, hJx3⟩)
              · gi_wp2
                go_wp2
                go_roundg (M64 - n2)
                case measure => omega
                case rel => exact ⟨n2, f', a2, b2, va2, vb2, pre ++ [(⟨xn, y1⟩, pa, pb)], rfl, hy0.2, rfl, hP2.at hk3 hn2 (fun k hk h => h hk) (by omega), by show pieces a b = _; rw [hpc.out, hpcs.out, HY1.out]; simp, by omega, hJ3⟩
              · gi_wp2
                go_wp2
                refine bodyPost_ret (results_none rfl _ _ _) rfl ?_
                exact ⟨⟨_, rfl⟩, .inr ⟨pre ++ [(⟨xn, y1⟩, pa, pb)], ⟨pcs a b f' n2, by rw [hpc.out, hpcs.out, HY1.out]; simp⟩, hJx3⟩⟩
            | false =>
              cases m1 with
              | true =>
                have hmin : Hid (minO (nxt a xn) (nxt b xn) = some n1) := by
                  have := hc.out
                  show _ = _
                  rw [HNA.out, HNB.out, hm1.out, hm2.out]
                  cases m2 <;> simp [minO] at this ⊢
                  omega
                have hnx : Hid (nxt a xn = some n1) := by show _ = _; rw [HNA.out, hm1.out]; rfl
                clear hc hm1 hm2 HNA HNB
                have hy0 : xn < n1 ∧ n1 < M64 := by
                  have h := hnx.out
                  exact ⟨nxt_gt h, nxt_lt ha h⟩
                obtain ⟨f', rfl⟩ : ∃ f', f = f' + 1 := ⟨f - 1, by omega⟩
                have hpcs : Hid (pcs a b (f' + 1) xn = (⟨xn, n1 - 1⟩, pa, pb) :: pcs a b f' n1) := by
                  show pcs a b (f' + 1) xn = _
                  conv => lhs; unfold pcs
                  rw [hmin.out, HPA.out, HPB.out]
                obtain ⟨fn, tmps, assign, body, hy, hR⟩ := HY.out pre (⟨xn, n1 - 1⟩, pa, pb) wc hJ2 ⟨pcs a b f' n1, by rw [hpc.out, hpcs.out]; simp⟩
                dsimp only [encP] at hy
                have hw1 : IntKind.u64.wrap ((n1 : Int) - 1) = ((n1 - 1 : Nat) : Int) := wrap_sub1 (by omega) hy0.2
                obtain ⟨y1, hy1⟩ : ∃ y1, y1 = n1 - 1 := ⟨_, rfl⟩
                rw [← hy1] at hy hw1 hR
                have HY1 := Lib.hid hy1
                clear hy1
                go_upto_region 13 with fail
                refine (wpIn_wide (n := 8)).1 ?_
                gi_wp2
                refine hR.mono ?_
                rintro e w3 (⟨rfl, hJ3, hk3⟩ | ⟨rfl, hJx3⟩)
                · gi_wp2
                  go_wp2
                  go_roundg (M64 - n1)
                  case measure => omega
                  case rel => exact ⟨n1, f', a2, b2, va2, vb2, pre ++ [(⟨xn, y1⟩, pa, pb)], rfl, hy0.2, rfl, hP2.at hk3 hn2 (fun k hk h => h hk) (by omega), by show pieces a b = _; rw [hpc.out, hpcs.out, HY1.out]; simp, by omega, hJ3⟩
                · gi_wp2
                  go_wp2
                  refine bodyPost_ret (results_none rfl _ _ _) rfl ?_
                  exact ⟨⟨_, rfl⟩, .inr ⟨pre ++ [(⟨xn, y1⟩, pa, pb)], ⟨pcs a b f' n1, by rw [hpc.out, hpcs.out, HY1.out]; simp⟩, hJx3⟩⟩
              | false =>
                have hmin : Hid (minO (nxt a xn) (nxt b xn) = none) := by
                  have := hc.out
                  show _ = _
                  rw [HNA.out, HNB.out, hm1.out, hm2.out]
                  cases m2 <;> simp [minO] at this ⊢
                clear hc hm1 hm2 HNA HNB
                obtain ⟨f', rfl⟩ : ∃ f', f = f' + 1 := ⟨f - 1, by omega⟩
                have hpcs : Hid (pcs a b (f' + 1) xn = [(⟨xn, M64 - 1⟩, pa, pb)]) := by
                  show pcs a b (f' + 1) xn = _
                  conv => lhs; unfold pcs
                  rw [hmin.out, HPA.out, HPB.out]
                obtain ⟨fn, tmps, assign, body, hy, hR⟩ := HY.out pre (⟨xn, M64 - 1⟩, pa, pb) wc hJ2 ⟨[], by rw [hpc.out, hpcs.out]; simp⟩
                dsimp only [encP] at hy
                rw [show ((M64 - 1 : Nat) : Int) = 18446744073709551615 from rfl] at hy
                go_upto_region 13 with fail
                refine (wpIn_wide (n := 8)).1 ?_
                gi_wp2
                refine hR.mono ?_
                rintro e w3 (⟨rfl, hJ3, hk3⟩ | ⟨rfl, hJx3⟩)
                · gi_wp2
                  go_wp2
                  refine bodyPost_ret (results_none rfl _ _ _) rfl ?_
                  exact ⟨⟨_, rfl⟩, .inl (by rw [hpc.out, hpcs.out]; exact hJ3)⟩
                · gi_wp2
                  go_wp2
                  refine bodyPost_ret (results_none rfl _ _ _) rfl ?_
                  exact ⟨⟨_, rfl⟩, .inr ⟨pre ++ [(⟨xn, M64 - 1⟩, pa, pb)], ⟨[], by rw [hpc.out, hpcs.out]; simp⟩, hJx3⟩⟩
end Go.Proofs.Ytcedofkenfddkaa
/- The contract of setops.merge: the list of an operation on two correct lists, in memory of the call's own. The lists are shorter than 2^30. -/
namespace Go.Proofs.Ytcedofkenfddkaa
set_option linter.unusedVariables false
set_option linter.unusedSimpArgs false
open Go.RowKit
attribute [local go_sem] Oper.semAt_some

/-- The places where a list may change. -/
def cps (l : List Iv) : List Nat := l.flatMap fun s => [s.lo, s.hi + 1]
theorem cps_length (l : List Iv) : (cps l).length = 2 * l.length := by
  induction l with
  | nil => rfl
  | cons s l ih => simp [cps] at ih ⊢; omega
theorem nxt_mem {l : List Iv} {x y : Nat} (h : nxt l x = some y) : y ∈ cps l := by
  induction l with
  | nil => cases h
  | cons s l ih =>
    unfold nxt at h
    split at h
    · cases h; simp [cps]
    · split at h
      · cases h; simp [cps]
      · have := ih h; simp [cps] at this ⊢; exact .inr (.inr this)
/-- How many places are behind x. -/
def cnt (l : List Nat) (x : Nat) : Nat := l.countP fun y => decide (x < y)
theorem cnt_mono (l : List Nat) {x y : Nat} (h : x < y) : cnt l y ≤ cnt l x := by
  unfold cnt
  exact List.countP_mono_left fun z _ hz => by simp at hz ⊢; omega
theorem cnt_lt {l : List Nat} {x y : Nat} (h : x < y) (hm : y ∈ l) : cnt l y + 1 ≤ cnt l x := by
  induction l with
  | nil => cases hm
  | cons z l ih =>
    unfold cnt
    rw [List.countP_cons, List.countP_cons]
    rcases List.mem_cons.1 hm with rfl | hm
    · have := cnt_mono l h
      unfold cnt at this
      simp [h]; omega
    · have := ih hm
      unfold cnt at this
      by_cases h1 : y < z
      · have h2 : x < z := by omega
        simp [h1, h2]; omega
      · simp [h1]; omega
theorem pcs_length (a b : List Iv) : ∀ (f x : Nat), (pcs a b f x).length ≤ cnt (cps a) x + cnt (cps b) x + 1
  | 0, _ => Nat.zero_le _
  | f + 1, x => by
    unfold pcs
    cases h : minO (nxt a x) (nxt b x) with
    | none => simp
    | some y =>
      have ih := pcs_length a b f y
      have : cnt (cps a) y + cnt (cps b) y + 1 ≤ cnt (cps a) x + cnt (cps b) x := by
        have key : nxt a x = some y ∨ nxt b x = some y := by
          cases ea : nxt a x <;> cases eb : nxt b x <;> rw [ea, eb] at h <;> simp only [minO] at h
          · cases h
          · exact .inr h
          · exact .inl h
          · split at h
            · exact .inr h
            · exact .inl h
        rcases key with h | h
        · have := cnt_lt (nxt_gt h) (nxt_mem h)
          have := cnt_mono (cps b) (nxt_gt h)
          omega
        · have := cnt_lt (nxt_gt h) (nxt_mem h)
          have := cnt_mono (cps a) (nxt_gt h)
          omega
      simp; omega
theorem pieces_length (a b : List Iv) : (pieces a b).length ≤ 2 * (a.length + b.length) + 1 := by
  have h1 := pcs_length a b M64 0
  have h2 : cnt (cps a) 0 ≤ 2 * a.length := by rw [← cps_length]; exact List.countP_le_length
  have h3 : cnt (cps b) 0 ≤ 2 * b.length := by rw [← cps_length]; exact List.countP_le_length
  unfold pieces; omega
theorem put_length (out : List Iv) (s : Iv) : (put out s).length ≤ out.length + 1 := by
  unfold put
  split
  · simp
  · rename_i t ht
    split
    · have : out ≠ [] := by intro e; subst e; simp at ht
      have := List.length_pos_iff.2 this
      simp
      try omega
    · simp
theorem merged_length (f : Bool → Bool → Bool) (xs : List (Iv × Bool × Bool)) : ∀ out : List Iv, (merged f out xs).length ≤ out.length + xs.length := by
  induction xs with
  | nil => intro out; simp [merged]
  | cons x xs ih =>
    intro out
    obtain ⟨s, p, q⟩ := x
    simp only [merged]
    by_cases e : f p q = true
    · have h1 := ih (put out s)
      have h2 := put_length out s
      rw [if_pos e]
      simp only [List.length_cons]; omega
    · have h1 := ih out
      rw [if_neg e]
      simp only [List.length_cons]; omega
/-- What has been merged of the first pieces is correct, and ends before the next piece. -/
theorem merged_prefix {f : Bool → Bool → Bool} {a b : List Iv} : ∀ (pre : List (Iv × Bool × Bool)) (x : Nat) (out : List Iv) (y : Iv × Bool × Bool) (r : List (Iv × Bool × Bool)), Cov a b x (pre ++ y :: r) → Nrm out → (∀ t ∈ out, t.hi < x) →
    Nrm (merged f out pre) ∧ (∀ t ∈ merged f out pre, t.hi < y.1.lo) ∧ y.1.lo ≤ y.1.hi ∧ y.1.hi < M64
  | [], x, out, (s, p, q), r, ⟨h1, h2, h3, _⟩, ho, ht => ⟨ho, fun t h => by have := ht t h; show t.hi < s.lo; omega, by show s.lo ≤ s.hi; omega, h3⟩
  | (s, p, q) :: pre, x, out, y, r, ⟨h1, h2, h3, _, h5⟩, ho, ht => by
    simp only [merged]
    have g := put_nrm (s := s) ho (fun t h => by have := ht t h; omega) (by omega) h3
    split
    · exact merged_prefix pre _ _ y r h5 g.1 fun t h => by have := g.2.2 t h; omega
    · exact merged_prefix pre _ _ y r h5 ho fun t h => by have := ht t h; omega

theorem flat_set (o : List Iv) (t : Iv) (hi : Nat) : (flat (o ++ [t])).set (o.length * 2 + 1) (.int .u64 hi) = flat (o ++ [⟨t.lo, hi⟩]) := by
  rw [flat_append, flat_append, List.set_append_right _ _ (by rw [flat_length]; omega), flat_length]
  congr 1
  rw [show o.length * 2 + 1 - o.length * 2 = 1 from by omega]
  rfl
/-- The last interval of a list of the call's own. -/
theorem OwnR.last {base : Nat} {w : World} {ad : Option Addr} {n cap : Nat} {o : List Iv} {t : Iv} (h : OwnR base w (.slice ad n cap) (o ++ [t])) :
    ∃ g, base ≤ g ∧ ad = some ⟨g, 0, none⟩ ∧ o.length + 1 ≤ cap ∧ cap ≤ maxLen ∧ w.cell? ⟨g, o.length * 2, none⟩ = some (.int .u64 t.lo) ∧ w.cell? ⟨g, o.length * 2 + 1, none⟩ = some (.int .u64 t.hi) ∧ t.lo < M64 ∧ t.hi < M64 := by
  have hb := h.2 t (by simp)
  have h1 := h.1
  rcases id h1.2 with ⟨_, h0⟩ | ⟨g, cap', cur, hv, hg, hh, hn, hc, _⟩
  · simp at h0
  · simp only [Value.slice.injEq] at hv
    obtain ⟨rfl, rfl, rfl⟩ := hv
    have hf := flat_get (o ++ [t]) o.length (by simp)
    simp only [List.getElem_concat_length] at hf
    refine ⟨g, hg, rfl, by simpa using hn, hc, ?_, ?_, hb⟩
    · rw [h1.cellAt _ (by simp)]; exact hf.1
    · rw [h1.cellAt _ (by simp; omega)]; exact hf.2
/-- A new end for the last interval. -/
theorem OwnR.setHi {base : Nat} {w : World} {g n cap : Nat} {o : List Iv} {t : Iv} (h : OwnR base w (.slice (some ⟨g, 0, none⟩) n cap) (o ++ [t])) (hn : n = o.length + 1) (hi : Nat) (hh : hi < M64) :
    OwnR base (w.setCell ⟨g, o.length * 2 + 1, none⟩ (.int .u64 hi)) (.slice (some ⟨g, 0, none⟩) n cap) (o ++ [⟨t.lo, hi⟩]) := by
  subst hn
  have h1 := h.1
  simp only [List.length_append, List.length_cons, List.length_nil, Nat.zero_add] at h1
  have := (h1.stored (o.length * 2 + 1) (.int .u64 hi)).1
  rw [flat_set] at this
  refine ⟨by simpa using this, fun u hu => ?_⟩
  simp at hu
  rcases hu with hu | rfl
  · exact h.2 u (by simp [hu])
  · exact ⟨(h.2 t (by simp)).1, hh⟩

set_option maxHeartbeats 4000000 in
set_option maxRecDepth 100000 in
theorem merge_calls (f : Bool → Bool → Bool) (fid : Nat) (hent : ∀ args w, (callFunc fid args).run Try.prog w = .ok (.enter fid args) w)
    (htk : ∀ p q w, Calls Try.prog fid #[.agg #[.bool p, .bool q]] w fun e w' => e = .returned (.bool (f p q)) ∧ Below w.heap.size w w')
    (a b : List Iv) (va vb : Value) (w : World) (ha : Nrm a) (hb : Nrm b) (ra : RdR 0 w.heap.size w va a) (rb : RdR 0 w.heap.size w vb b) (hlen : a.length + b.length ≤ 1073741824) :
    Calls Try.prog 65 #[va, vb, .func (.func fid) #[] #[]] w fun e w' => ∃ v, e = .returned v ∧ OwnR w.heap.size w' v (opS f a b) ∧ Below w.heap.size w w' := by
  obtain ⟨aa, ca, rfl, _⟩ := id ra
  obtain ⟨ab, cb, rfl, _⟩ := id rb
  refine callsIn_wide.1 (callsIn_of_wp_marks (n := 9) Try.func65 rfl trivial ?_ rfl)
  simp only [Try.ntmps65, List.size_toArray, List.length_cons, List.length_nil, Nat.reduceAdd, Nat.reduceSub, Array.replicate_succ, Array.replicate_zero, List.push_toArray, List.append_toArray, List.nil_append, List.cons_append]
  gi_wp2_with (refine ⟨trivial, ?_⟩; gi_at_call 93; refine (callsIn_wide.2 (pieces_calls _ _ _ _ _ _ _)).mono ?_; rintro e w' ⟨rfl, rfl⟩)
  obtain ⟨W0, hW0⟩ : ∃ W0, ((((w.alloc (Obj.cells #[Value.func (Fn.func fid) #[] #[]] 72)).alloc (Obj.cells #[Value.slice none 0 0] 23)).alloc (Obj.cells #[Value.slice aa a.length ca] 23)).alloc (Obj.cells #[Value.slice ab b.length cb] 23)) = W0 := ⟨_, rfl⟩
  have hsz : W0.heap.size = w.heap.size + 4 := by rw [← hW0]; simp
  have b0 : Boxed W0 w.heap.size 72 (Value.func (Fn.func fid) #[] #[]) := by rw [← hW0]; exact (((Boxed.new w _ _).alloc _).alloc _).alloc _
  have b1 : Boxed W0 (w.heap.size + 1) 23 (Value.slice none 0 0) := by rw [← hW0]; have := Boxed.new (w.alloc (Obj.cells #[Value.func (Fn.func fid) #[] #[]] 72)) 23 (Value.slice none 0 0); rw [World.size_alloc] at this; exact (this.alloc _).alloc _
  have b2 : Boxed W0 (w.heap.size + 1 + 1) 23 (Value.slice aa a.length ca) := by rw [← hW0]; have := Boxed.new ((w.alloc (Obj.cells #[Value.func (Fn.func fid) #[] #[]] 72)).alloc (Obj.cells #[Value.slice none 0 0] 23)) 23 (Value.slice aa a.length ca); simp only [World.size_alloc] at this; exact this.alloc _
  have b3 : Boxed W0 (w.heap.size + 1 + 1 + 1) 23 (Value.slice ab b.length cb) := by rw [← hW0]; have := Boxed.new (((w.alloc (Obj.cells #[Value.func (Fn.func fid) #[] #[]] 72)).alloc (Obj.cells #[Value.slice none 0 0] 23)).alloc (Obj.cells #[Value.slice aa a.length ca] 23)) 23 (Value.slice ab b.length cb); simp only [World.size_alloc] at this; exact this
  have hB0 : Below w.heap.size w W0 := by rw [← hW0]; exact ((((Below.refl _ _).alloc (Nat.le_refl _) _).alloc (by simp) _).alloc (by simp; omega) _).alloc (by simp; omega) _
  rw [hW0]
  clear hW0
  have hcov := pieces_cov ha hb
  have hpl := pieces_length a b
  refine rf_law (w := W0) 112 #[.pointer (some ⟨w.heap.size + 1 + 1, 0, none⟩), .pointer (some ⟨w.heap.size + 1 + 1 + 1, 0, none⟩)] rfl (enters_of Try.func112 (by kernel_rfl) rfl) encP (fun _ => rfl)
    (fun k => k = w.heap.size + 1 + 1 ∨ k = w.heap.size + 1 + 1 + 1) (fun k => k < w.heap.size ∨ k = w.heap.size + 1 + 1 ∨ k = w.heap.size + 1 + 1 + 1) (pieces a b) ?hit
    (fun k => k = w.heap.size + 1 ∨ w.heap.size + 6 ≤ k) (fun k hk => by omega) (by omega) ⟨by omega, by omega⟩
    (fun pre W => (∃ v, Boxed W (w.heap.size + 1) 23 v ∧ OwnR (w.heap.size + 6) W v (merged f [] pre)) ∧ Boxed W w.heap.size 72 (Value.func (Fn.func fid) #[] #[]) ∧ Below w.heap.size w W)
    (fun _ _ _ => False) ?hI (fun _ _ _ _ h _ => h) ⟨⟨_, b1, OwnR.nil _ _⟩, b0, hB0⟩
    (fun pre x a' W => ((∃ v, Boxed W (w.heap.size + 1) 23 v ∧ OwnR (w.heap.size + 6) W v (merged f [] pre)) ∧ Boxed W w.heap.size 72 (Value.func (Fn.func fid) #[] #[]) ∧ Below w.heap.size w W) ∧
      ∃ Bp Bs, W.heap[Bp]? = some (.cells #[.int .u64 x.1.lo, .int .u64 x.1.hi] 30 (0, 0)) ∧ W.heap[Bs]? = some (.cells #[.bool x.2.1, .bool x.2.2] 71 (0, 0)) ∧ w.heap.size + 6 ≤ Bp ∧ w.heap.size + 6 ≤ Bs ∧
      a' = { tmps := #[Value.slice aa a.length ca, Value.slice ab b.length cb, Value.func (Fn.func fid) #[] #[], undef, undef, Value.pointer (some ⟨w.heap.size, 0, none⟩), Value.slice none 0 0, Value.pointer (some ⟨w.heap.size + 1, 0, none⟩), Value.pointer (some ⟨Bp, 0, none⟩), Value.pointer (some ⟨Bs, 0, none⟩), undef, Value.slice aa a.length ca, Value.slice ab b.length cb, Value.func (Fn.func 112) #[] #[Value.pointer (some ⟨w.heap.size + 1 + 1, 0, none⟩), Value.pointer (some ⟨w.heap.size + 1 + 1 + 1, 0, none⟩)], .agg #[.int .u64 x.1.lo, .int .u64 x.1.hi], .agg #[.bool x.2.1, .bool x.2.2], undef, undef, undef, undef, undef, undef, undef, undef, undef, undef, undef, undef, undef, undef, undef, undef, undef, undef, undef, undef, undef, undef, undef, undef, undef, undef, undef, undef, undef], defers := [] })
    ?hAx ?hassign ?hbody ?hdone (fun _ _ _ _ h _ => h.elim)
  case hit =>
    intro W hk _
    exact pieces1_at a b _ _ (w.heap.size + 1 + 1) (w.heap.size + 1 + 1 + 1) w.heap.size W ha hb (by omega) (by omega) (by omega)
      ⟨hk.boxed b2 id, hk.boxed b3 id, ra.below (hB0.trans (hk.below (by omega) fun _ _ => id)) (Nat.le_refl _), rb.below (hB0.trans (hk.below (by omega) fun _ _ => id)) (Nat.le_refl _), Suf.refl _ _, Suf.refl _ _⟩
  case hI =>
    rintro pre A B ⟨⟨v, h1, h2⟩, h3, h4⟩ hk
    exact ⟨⟨v, hk.boxed h1 (by omega), h2.keep hk (fun g hg => by omega)⟩, hk.boxed h3 (by omega), h4.trans (hk.below h4.size fun k hk => by omega)⟩
  case hAx =>
    rintro pre x a' A B ⟨⟨⟨v, h1, h2⟩, h3, h4⟩, Bp, Bs, hp, hs, hp6, hs6, rfl⟩ hk
    exact ⟨⟨⟨v, hk.boxed h1 (by omega), h2.keep hk (fun g hg => by omega)⟩, hk.boxed h3 (by omega), h4.trans (hk.below h4.size fun k hk => by omega)⟩, Bp, Bs, hk.obj hp (by omega), hk.obj hs (by omega), hp6, hs6, rfl⟩
  case hassign =>
    rintro l pre ⟨⟨lo, hi⟩, p, q⟩ W hpx hlt ⟨⟨v, h1, h2⟩, h3, h4⟩
    clear hpx
    dsimp only [encP]
    gi_wp2
    have hka : ∀ o1 o2, Keep (fun k => k = w.heap.size + 1 ∨ w.heap.size + 6 ≤ k) W ((W.alloc o1).alloc o2) := fun o1 o2 => ((Keep.refl _ _).alloc _).alloc _
    refine ⟨hka _ _, ⟨⟨v, (h1.alloc _).alloc _, (h2.keep ((Keep.refl NoB W).alloc _) fun _ _ => id).keep ((Keep.refl NoB _).alloc _) fun _ _ => id⟩, (h3.alloc _).alloc _, (h4.alloc h4.size _).alloc (by simp; have := h4.size; omega) _⟩,
      W.heap.size, W.heap.size + 1, ?_, ?_, by omega, by omega, rfl⟩
    · exact (Below.heap_alloc _ _ _ (by simp)).trans (World.alloc_heap_new W _)
    · have := World.alloc_heap_new (W.alloc (.cells #[.int .u64 lo, .int .u64 hi] 30)) (.cells #[.bool p, .bool q] 71)
      rwa [World.size_alloc] at this
  case hbody =>
    rintro l pre x a' W ⟨r, hpx⟩ hlt ⟨⟨⟨v, h1, h2⟩, h3, h4⟩, Bp, Bs, hp, hs, hp6, hs6, rfl⟩
    obtain ⟨⟨lo, hi⟩, p, q⟩ := x
    obtain ⟨m1, m2, m3, m4⟩ := merged_prefix (f := f) pre 0 [] (⟨lo, hi⟩, p, q) r (by rw [show pre ++ (⟨lo, hi⟩, p, q) :: r = pieces a b from by rw [← hpx]; simp]; exact hcov) trivial (fun _ h => by cases h)
    have hml := merged_length f pre []
    have hpr : pre.length + 1 ≤ (pieces a b).length := by rw [← hpx]; simp
    have c3 := h3.cell
    have cs0 : W.cell? ⟨Bs, 0, none⟩ = some (.bool p) := by simp [World.cell?, hs]
    have cs1 : W.cell? ⟨Bs, 1, none⟩ = some (.bool q) := by simp [World.cell?, hs]
    obtain ⟨i0, hi0, hz0, hz1, hz2⟩ := info_parts Try.infoIv
    have HM := Lib.hid (And.intro hpx (And.intro hcov (And.intro hpl (And.intro m1 (And.intro m2 m3)))))
    dsimp only at m3 m4
    clear hpx hcov m1 m2 hs
    gi_wp2_with fail
    refine ⟨trivial, CallsIn.mono (CallsIn.inRound l (callsIn_wide.2 (htk p q W))) ?_⟩
    rintro e W1 ⟨rfl, hb1⟩
    have hk1 : Keep NoB W W1 := Keep.of_below' hb1 (Nat.le_refl _)
    have h1' := hk1.boxed h1 id
    have h2' := h2.keep hk1 fun _ _ => id
    have h3' := hk1.boxed h3 id
    have h4' := h4.trans (hb1.mono h4.size)
    have hp' := hk1.obj hp id
    have hlt' : w.heap.size + 6 ≤ W1.heap.size := by have := hk1.size; omega
    have HK1 := Lib.hid hk1
    clear hb1 hk1 h1 h2 h3 h4 hp c3 cs0 cs1
    obtain ⟨out, hout⟩ : ∃ out, out = merged f [] pre := ⟨_, rfl⟩
    rw [← hout] at h2' hml
    have HO := Lib.hid hout
    clear hout
    have c1 := h1'.cell
    have cp0 : W1.cell? ⟨Bp, 0, none⟩ = some (.int .u64 lo) := by simp [World.cell?, hp']
    have cp1 : W1.cell? ⟨Bp, 1, none⟩ = some (.int .u64 hi) := by simp [World.cell?, hp']
    cases ht : f p q with
    | false =>
      have HT := Lib.hid ht
      gi_wp2
      exact ⟨HK1.out.mono fun _ _ h => h.elim, ⟨v, h1', by rw [merged_append]; simp only [merged, HT.out, ← HO.out]; exact h2'⟩, h3', h4'⟩
    | true =>
      have HT := Lib.hid ht
      obtain ⟨ad, cap, rfl⟩ := h2'.val
      have HH := Lib.hid h2'
      clear h2'
      rcases List.eq_nil_or_concat out with rfl | ⟨o', t, rfl⟩
      · gi_wp2_with fail
        refine regGIn (fun _ => trivial) 11 45 (fun _ => True) (by kernel_rfl) (by kernel_rfl) rfl trivial ?_
        simp only [List.take_succ_cons, List.take_zero]
        repeat (first
          | (refine wdetI (fun _ => trivial) ?_ rfl (fun a w hc _ hr => ?_) ?_; rotate_left; (simp [Rds, rdsO, lk, Op.operands, Call.operands, RdEq] at hr; go_simp; with_reducible rfl); dsimp only [List.nil_append, List.cons_append])
          | (refine wskip rfl ?_ ?_; (first | exact .inl (isV_eq rfl rfl) | exact .inr (isV_eq rfl rfl)); dsimp only [List.nil_append, List.cons_append])
          | (refine wdetgI (fun _ => trivial) rfl ?_ ?_ (fun a w hc _ hr => ?_) ?_; exact (isV_eq rfl rfl); rotate_left; (simp [Rds, rdsO, lk, Op.operands, Call.operands, RdEq] at hr; go_simp; with_reducible rfl); dsimp only [List.nil_append, List.cons_append]))
        intro w2 _ hk2
        simp only [finG, forall_eq, List.nil_append, List.cons_append, List.drop_succ_cons, List.drop_zero, List.drop_nil]
        simp only [Act.put, List.setIfInBounds_toArray, List.set_cons_succ, List.set_cons_zero]
        have hk2' : Keep NoB W1 w2 := ((Keep.refl NoB W1).drew).trans hk2
        have e1 := hk2'.boxed h1' id
        have e3 := hk2'.boxed h3' id
        have e4 := h4'.trans (hk2'.below h4'.size fun _ _ => id)
        have eo := (HH.out).keep hk2' fun _ _ => id
        have HE := Lib.hid (And.intro eo (And.intro e3 e4))
        have d1 := e1.cell
        have d2 : w2.cell? ⟨Bp, 0, none⟩ = some (.int .u64 lo) := hk2'.cell_some cp0 id
        have d3 : w2.cell? ⟨Bp, 1, none⟩ = some (.int .u64 hi) := hk2'.cell_some cp1 id
        have hlt2 : w.heap.size + 6 ≤ w2.heap.size := Nat.le_trans hlt' hk2'.size
        have HK2 := Lib.hid hk2'
        clear hk2 hk2' e3 e4 eo c1 cp0 cp1 h1' h3' h4'
        gi_wp2_with (gi_at_builtin; go_loud (refine wpListIn_append_own _ rfl _ _ 23 rfl (w.heap.size + 6) 30 i0 (.agg #[.int .u64 0, .int .u64 0]) 2 16 Try.underlying23 hi0 hz0 hz1 hz2 rfl (by decide) _ _ _ rfl (HE.out.1.1.alloc _) ⟨w2.heap.size, 0, none⟩ 1 1 [.int .u64 lo, .int .u64 hi] rfl rfl (news_at (cs := #[.int .u64 lo, .int .u64 hi]) (t := 30) (fr := (0, 0)) (World.alloc_heap_new w2 _)) (by simp [Value.oneCell']) (by unfold maxLen; first | decide | omega) (by first | decide | omega) (by rw [World.size_alloc]; omega) ?_); intro v' w3 hown' hgrow _; obtain ⟨g', cap', rfl⟩ := ownsRow_succ hown'; obtain ⟨q1, q2, q3, q4⟩ := box_appended e1 (by decide) HE.out.1.1 hown' hgrow; have q1c := q1.cell; have q1f := q1.frozen)
        refine ⟨((HK1.out.trans HK2.out).mono fun _ _ h => h.elim).trans (q4.mono fun k _ h => h), ⟨_, q2, ?_⟩, q4.boxed HE.out.2.1 (by omega), HE.out.2.2.trans (q4.below HE.out.2.2.size fun k _ => by omega)⟩
        rw [merged_append]
        simp only [merged, HT.out, if_true, ← HO.out]
        exact HE.out.1.snoc ⟨by show lo < M64; omega, by show hi < M64; omega⟩ q3
      · simp only [List.concat_eq_append, List.length_append, List.length_cons, List.length_nil, Nat.zero_add] at *
        obtain ⟨g, hgb, rfl, hcap, hcm, hct0, hct1, htb⟩ := HH.out.last
        have htl : t.lo ≤ t.hi ∧ t.hi < M64 := by
          have := NF.lo_ge HM.out.2.2.2.1 t (by rw [← HO.out]; simp)
          exact ⟨this.2.1, this.2.2⟩
        have hts : t.hi < lo := HM.out.2.2.2.2.1 t (by rw [← HO.out]; simp)
        have ct0 : W1.cell? ⟨g, o'.length * 2, none⟩ = some (.int .u64 t.lo) := hct0
        have ct1 : W1.cell? ⟨g, o'.length * 2 + 1, none⟩ = some (.int .u64 t.hi) := hct1
        clear hct0 hct1
        unfold maxLen at hcm
        have hix : ((o'.length : Nat) : Int) < (o'.length : Int) + 1 := by omega
        gi_wp2_with fail
        by_cases htt : t.hi + 1 = lo
        · have hrel : (((relate t ⟨lo, hi⟩ : Nat) : Int) == 1) = true := by
            have : relate t ⟨lo, hi⟩ = 1 := by unfold relate; rw [if_pos hts, if_pos htt]
            rw [this]; rfl
          have HTT := Lib.hid htt
          clear htt
          refine regGIn (fun _ => trivial) 11 45 (fun w' => w'.cell? ⟨w.heap.size + 1, 0, none⟩ = some (.slice (some ⟨g, 0, none⟩) (o'.length + 1) cap) ∧ w'.cell? ⟨g, o'.length * 2, none⟩ = some (.int .u64 t.lo) ∧ w'.cell? ⟨g, o'.length * 2 + 1, none⟩ = some (.int .u64 t.hi) ∧ w'.cell? ⟨Bp, 0, none⟩ = some (.int .u64 lo) ∧ w'.cell? ⟨Bp, 1, none⟩ = some (.int .u64 hi)) (by kernel_rfl) (by kernel_rfl) rfl ⟨c1, ct0, ct1, cp0, cp1⟩ ?_
          simp only [List.take_succ_cons, List.take_zero]
          repeat (first
            | (refine wdetI (fun _ => trivial) ?_ rfl (fun a w hc _ hr => ?_) ?_; rotate_left; (simp [Rds, rdsO, lk, Op.operands, Call.operands, RdEq] at hr; go_simp; with_reducible rfl); dsimp only [List.nil_append, List.cons_append])
            | (refine wskip rfl ?_ ?_; (first | exact .inl (isV_eq rfl rfl) | exact .inr (isV_eq rfl rfl)); dsimp only [List.nil_append, List.cons_append])
            | (refine wdetgI (fun _ => trivial) rfl ?_ ?_ (fun a w hc _ hr => ?_) ?_; exact (isV_eq rfl rfl); rotate_left; (simp [Rds, rdsO, lk, Op.operands, Call.operands, RdEq] at hr; go_simp; with_reducible rfl); dsimp only [List.nil_append, List.cons_append]))
          refine wgeng (fun u _ => u = .int .i64 ((relate t ⟨lo, hi⟩ : Nat) : Int)) (eqV_stab _) rfl (isV_eq rfl rfl) ?_ ?_
          · intro a2 w2 hc hk hr K hK
            have HK := Lib.hid hK
            clear hK
            simp [Rds, rdsO, lk, Op.operands, Call.operands, RdEq] at hr
            refine ⟨fun _ _ => trivial, ?_⟩
            go_simp
            refine CallsIn.mono (CallsIn.inRound l (callsIn_wide.2 (relate_any t ⟨lo, hi⟩ _ htl.1 (by show lo ≤ hi; omega) htl.2 (by show hi < M64; omega)))) ?_
            rintro e w3 ⟨rfl, hb⟩
            have hkb : Keep NoB w2 w3 := Keep.of_below' hb (Nat.le_refl _)
            exact HK.out _ _ hkb ⟨hkb.cell_some hc.1 id, hkb.cell_some hc.2.1 id, hkb.cell_some hc.2.2.1 id, hkb.cell_some hc.2.2.2.1 id, hkb.cell_some hc.2.2.2.2 id⟩ rfl
          dsimp only [List.nil_append, List.cons_append]
          repeat (first
            | (refine wdetI (fun _ => trivial) ?_ rfl (fun a w hc _ hr => ?_) ?_; rotate_left; (simp [Rds, rdsO, lk, Op.operands, Call.operands, RdEq] at hr; go_simp; with_reducible rfl); dsimp only [List.nil_append, List.cons_append])
            | (refine wskip rfl ?_ ?_; (first | exact .inl (isV_eq rfl rfl) | exact .inr (isV_eq rfl rfl)); dsimp only [List.nil_append, List.cons_append])
            | (refine wdetgI (fun _ => trivial) rfl ?_ ?_ (fun a w hc _ hr => ?_) ?_; exact (isV_eq rfl rfl); rotate_left; (simp [Rds, rdsO, lk, Op.operands, Call.operands, RdEq] at hr; go_simp; with_reducible rfl); dsimp only [List.nil_append, List.cons_append]))
          intro w2 _ hk2
          simp only [finG, forall_eq, List.nil_append, List.cons_append, List.drop_succ_cons, List.drop_zero, List.drop_nil]
          simp only [Act.put, List.setIfInBounds_toArray, List.set_cons_succ, List.set_cons_zero]
          have hk2' : Keep NoB W1 w2 := ((Keep.refl NoB W1).drew).trans hk2
          have e1 := hk2'.boxed h1' id
          have e3 := hk2'.boxed h3' id
          have e4 := h4'.trans (hk2'.below h4'.size fun _ _ => id)
          have eo := (HH.out).keep hk2' fun _ _ => id
          have er : w2.ownsRow (w.heap.size + 6) 30 2 (.slice (some ⟨g, 0, none⟩) (o'.length + 1) cap) (o'.length + 1) (flat (o' ++ [t])) := by have := eo.1; simpa using this
          have ER := Lib.hid er
          have HE := Lib.hid (And.intro eo (And.intro e3 e4))
          have d1 := e1.cell
          have d3 : w2.cell? ⟨Bp, 1, none⟩ = some (.int .u64 hi) := hk2'.cell_some cp1 id
          have d4 : w2.cell? ⟨g, o'.length * 2 + 1, none⟩ = some (.int .u64 t.hi) := hk2'.cell_some ct1 id
          have d5 : w2.frozen? ⟨g, o'.length * 2 + 1, none⟩ = false := er.frozenAt _
          have HK2 := Lib.hid hk2'
          clear hk2 hk2' e3 e4 eo er c1 cp0 cp1 ct0 ct1 h1' h3' h4'
          gi_wp2
          have hkg : Keep (fun k => k = g) w2 (w2.setCell ⟨g, o'.length * 2 + 1, none⟩ (.int .u64 hi)) := (Keep.refl (fun k => k = g) w2).setCell (p := ⟨g, o'.length * 2 + 1, none⟩) (fun _ => rfl) _
          refine ⟨((HK1.out.trans HK2.out).mono fun _ _ h => h.elim).trans (hkg.mono fun k _ h => .inr (by rw [h]; exact hgb)), ⟨_, hkg.boxed e1 (by omega), ?_⟩, hkg.boxed HE.out.2.1 (by omega), HE.out.2.2.trans (hkg.below HE.out.2.2.size fun k hk => by omega)⟩
          rw [merged_append]
          simp only [merged, HT.out, if_true, ← HO.out]
          rw [show put (o' ++ [t]) ⟨lo, hi⟩ = o' ++ [⟨t.lo, hi⟩] from by unfold put; rw [List.getLast?_concat]; simp only; rw [if_pos HTT.out, List.dropLast_concat]]
          exact HE.out.1.setHi rfl hi (by omega)
        · have hrel : (((relate t ⟨lo, hi⟩ : Nat) : Int) == 1) = false := by
            have : relate t ⟨lo, hi⟩ = 0 := by unfold relate; rw [if_pos hts, if_neg htt]
            rw [this]; rfl
          have HTT := Lib.hid htt
          clear htt
          refine regGIn (fun _ => trivial) 11 45 (fun w' => w'.cell? ⟨w.heap.size + 1, 0, none⟩ = some (.slice (some ⟨g, 0, none⟩) (o'.length + 1) cap) ∧ w'.cell? ⟨g, o'.length * 2, none⟩ = some (.int .u64 t.lo) ∧ w'.cell? ⟨g, o'.length * 2 + 1, none⟩ = some (.int .u64 t.hi) ∧ w'.cell? ⟨Bp, 0, none⟩ = some (.int .u64 lo) ∧ w'.cell? ⟨Bp, 1, none⟩ = some (.int .u64 hi)) (by kernel_rfl) (by kernel_rfl) rfl ⟨c1, ct0, ct1, cp0, cp1⟩ ?_
          simp only [List.take_succ_cons, List.take_zero]
          repeat (first
            | (refine wdetI (fun _ => trivial) ?_ rfl (fun a w hc _ hr => ?_) ?_; rotate_left; (simp [Rds, rdsO, lk, Op.operands, Call.operands, RdEq] at hr; go_simp; with_reducible rfl); dsimp only [List.nil_append, List.cons_append])
            | (refine wskip rfl ?_ ?_; (first | exact .inl (isV_eq rfl rfl) | exact .inr (isV_eq rfl rfl)); dsimp only [List.nil_append, List.cons_append])
            | (refine wdetgI (fun _ => trivial) rfl ?_ ?_ (fun a w hc _ hr => ?_) ?_; exact (isV_eq rfl rfl); rotate_left; (simp [Rds, rdsO, lk, Op.operands, Call.operands, RdEq] at hr; go_simp; with_reducible rfl); dsimp only [List.nil_append, List.cons_append]))
          refine wgeng (fun u _ => u = .int .i64 ((relate t ⟨lo, hi⟩ : Nat) : Int)) (eqV_stab _) rfl (isV_eq rfl rfl) ?_ ?_
          · intro a2 w2 hc hk hr K hK
            have HK := Lib.hid hK
            clear hK
            simp [Rds, rdsO, lk, Op.operands, Call.operands, RdEq] at hr
            refine ⟨fun _ _ => trivial, ?_⟩
            go_simp
            refine CallsIn.mono (CallsIn.inRound l (callsIn_wide.2 (relate_any t ⟨lo, hi⟩ _ htl.1 (by show lo ≤ hi; omega) htl.2 (by show hi < M64; omega)))) ?_
            rintro e w3 ⟨rfl, hb⟩
            have hkb : Keep NoB w2 w3 := Keep.of_below' hb (Nat.le_refl _)
            exact HK.out _ _ hkb ⟨hkb.cell_some hc.1 id, hkb.cell_some hc.2.1 id, hkb.cell_some hc.2.2.1 id, hkb.cell_some hc.2.2.2.1 id, hkb.cell_some hc.2.2.2.2 id⟩ rfl
          dsimp only [List.nil_append, List.cons_append]
          repeat (first
            | (refine wdetI (fun _ => trivial) ?_ rfl (fun a w hc _ hr => ?_) ?_; rotate_left; (simp [Rds, rdsO, lk, Op.operands, Call.operands, RdEq] at hr; go_simp; with_reducible rfl); dsimp only [List.nil_append, List.cons_append])
            | (refine wskip rfl ?_ ?_; (first | exact .inl (isV_eq rfl rfl) | exact .inr (isV_eq rfl rfl)); dsimp only [List.nil_append, List.cons_append])
            | (refine wdetgI (fun _ => trivial) rfl ?_ ?_ (fun a w hc _ hr => ?_) ?_; exact (isV_eq rfl rfl); rotate_left; (simp [Rds, rdsO, lk, Op.operands, Call.operands, RdEq] at hr; go_simp; with_reducible rfl); dsimp only [List.nil_append, List.cons_append]))
          intro w2 _ hk2
          simp only [finG, forall_eq, List.nil_append, List.cons_append, List.drop_succ_cons, List.drop_zero, List.drop_nil]
          simp only [Act.put, List.setIfInBounds_toArray, List.set_cons_succ, List.set_cons_zero]
          have hk2' : Keep NoB W1 w2 := ((Keep.refl NoB W1).drew).trans hk2
          have e1 := hk2'.boxed h1' id
          have e3 := hk2'.boxed h3' id
          have e4 := h4'.trans (hk2'.below h4'.size fun _ _ => id)
          have eo := (HH.out).keep hk2' fun _ _ => id
          have er : w2.ownsRow (w.heap.size + 6) 30 2 (.slice (some ⟨g, 0, none⟩) (o'.length + 1) cap) (o'.length + 1) (flat (o' ++ [t])) := by have := eo.1; simpa using this
          have ER := Lib.hid er
          have HE := Lib.hid (And.intro eo (And.intro e3 e4))
          have d1 := e1.cell
          have d2 : w2.cell? ⟨Bp, 0, none⟩ = some (.int .u64 lo) := hk2'.cell_some cp0 id
          have d3 : w2.cell? ⟨Bp, 1, none⟩ = some (.int .u64 hi) := hk2'.cell_some cp1 id
          have hlt2 : w.heap.size + 6 ≤ w2.heap.size := Nat.le_trans hlt' hk2'.size
          have HK2 := Lib.hid hk2'
          clear hk2 hk2' e3 e4 eo er c1 cp0 cp1 h1' h3' h4'
          gi_wp2_with (gi_at_builtin; go_loud (refine wpListIn_append_own _ rfl _ _ 23 rfl (w.heap.size + 6) 30 i0 (.agg #[.int .u64 0, .int .u64 0]) 2 16 Try.underlying23 hi0 hz0 hz1 hz2 rfl (by decide) _ _ _ rfl (ER.out.alloc _) ⟨w2.heap.size, 0, none⟩ 1 1 [.int .u64 lo, .int .u64 hi] rfl rfl (news_at (cs := #[.int .u64 lo, .int .u64 hi]) (t := 30) (fr := (0, 0)) (World.alloc_heap_new w2 _)) (by simp [Value.oneCell']) (by unfold maxLen; first | decide | omega) (by first | decide | omega) (by rw [World.size_alloc]; omega) ?_); intro v' w3 hown' hgrow _; obtain ⟨g', cap', rfl⟩ := ownsRow_succ hown'; obtain ⟨q1, q2, q3, q4⟩ := box_appended e1 (by decide) ER.out hown' hgrow; have q1c := q1.cell; have q1f := q1.frozen)
          refine ⟨((HK1.out.trans HK2.out).mono fun _ _ h => h.elim).trans (q4.mono fun k _ h => h), ⟨_, q2, ?_⟩, q4.boxed HE.out.2.1 (by omega), HE.out.2.2.trans (q4.below HE.out.2.2.size fun k _ => by omega)⟩
          rw [merged_append]
          simp only [merged, HT.out, if_true, ← HO.out]
          rw [show put (o' ++ [t]) ⟨lo, hi⟩ = o' ++ [t] ++ [⟨lo, hi⟩] from by unfold put; rw [List.getLast?_concat]; simp only; rw [if_neg HTT.out]]
          exact HE.out.1.snoc ⟨by show lo < M64; omega, by show hi < M64; omega⟩ (by simpa using q3)
  case hdone =>
    rintro W ⟨⟨v, h1, h2⟩, h3, h4⟩ hD
    have hc := h1.cell
    gi_wp2
    refine ⟨by simp, .inl ⟨_, _, rfl, run_takeDeferred hD, ?_⟩⟩
    have hkD : Keep (fun k => k = W0.heap.size) W (W.putObj W0.heap.size (.deferred none)) := (Keep.refl (fun k => k = W0.heap.size) W).putObj (fun _ => rfl) _
    exact ⟨_, results_tmp rfl _ _ _, v, rfl, (h2.keep hkD fun g hg => by omega).mono (by omega), h4.trans (hkD.below h4.size fun k hk => by omega)⟩
end Go.Proofs.Ytcedofkenfddkaa
/- The contracts of setops.Union, Meet, Minus and Not: each returns, in memory of the call's own, the one correct list of its set. The lists are correct and shorter than 2^30. -/
namespace Go.Proofs.Ytcedofkenfddkaa
set_option linter.unusedVariables false
set_option linter.unusedSimpArgs false
open Go.RowKit
attribute [local go_sem] Oper.semAt_some

def fUnion (p q : Bool) : Bool := p || q
def fMeet (p q : Bool) : Bool := p && q
def fMinus (p q : Bool) : Bool := p && !q

theorem union_calls (a b : List Iv) (va vb : Value) (w : World) (ha : Nrm a) (hb : Nrm b) (ra : RdR 0 w.heap.size w va a) (rb : RdR 0 w.heap.size w vb b) (hlen : a.length + b.length ≤ 1073741824) :
    Calls Try.prog 21 #[va, vb] w fun e w' => ∃ v, e = .returned v ∧ OwnR w.heap.size w' v (opS fUnion a b) ∧ Below w.heap.size w w' := by
  have hm := merge_calls fUnion 66 (enters_of Try.func66 (by kernel_rfl) rfl) take_union a b va vb w ha hb ra rb hlen
  have HM := Lib.hid hm
  clear hm
  obtain ⟨a1, c1, rfl, _⟩ := ra
  obtain ⟨a2, c2, rfl, _⟩ := rb
  go_enter Try.func21, Try.ntmps21
  go_wp2_with (go_at_call 65; refine HM.out.mono ?_; rintro e w' ⟨v, rfl, hv, hb⟩)
  go_ret
  exact ⟨_, rfl, ‹_›, ‹_›⟩
theorem meet_calls (a b : List Iv) (va vb : Value) (w : World) (ha : Nrm a) (hb : Nrm b) (ra : RdR 0 w.heap.size w va a) (rb : RdR 0 w.heap.size w vb b) (hlen : a.length + b.length ≤ 1073741824) :
    Calls Try.prog 23 #[va, vb] w fun e w' => ∃ v, e = .returned v ∧ OwnR w.heap.size w' v (opS fMeet a b) ∧ Below w.heap.size w w' := by
  have hm := merge_calls fMeet 68 (enters_of Try.func68 (by kernel_rfl) rfl) take_meet a b va vb w ha hb ra rb hlen
  have HM := Lib.hid hm
  clear hm
  obtain ⟨a1, c1, rfl, _⟩ := ra
  obtain ⟨a2, c2, rfl, _⟩ := rb
  go_enter Try.func23, Try.ntmps23
  go_wp2_with (go_at_call 65; refine HM.out.mono ?_; rintro e w' ⟨v, rfl, hv, hb⟩)
  go_ret
  exact ⟨_, rfl, ‹_›, ‹_›⟩
theorem minus_calls (a b : List Iv) (va vb : Value) (w : World) (ha : Nrm a) (hb : Nrm b) (ra : RdR 0 w.heap.size w va a) (rb : RdR 0 w.heap.size w vb b) (hlen : a.length + b.length ≤ 1073741824) :
    Calls Try.prog 25 #[va, vb] w fun e w' => ∃ v, e = .returned v ∧ OwnR w.heap.size w' v (opS fMinus a b) ∧ Below w.heap.size w w' := by
  have hm := merge_calls fMinus 69 (enters_of Try.func69 (by kernel_rfl) rfl) take_minus a b va vb w ha hb ra rb hlen
  have HM := Lib.hid hm
  clear hm
  obtain ⟨a1, c1, rfl, _⟩ := ra
  obtain ⟨a2, c2, rfl, _⟩ := rb
  go_enter Try.func25, Try.ntmps25
  go_wp2_with (go_at_call 65; refine HM.out.mono ?_; rintro e w' ⟨v, rfl, hv, hb⟩)
  go_ret
  exact ⟨_, rfl, ‹_›, ‹_›⟩

theorem rd_one {w : World} {B : Nat} {s : Iv} (h : w.heap[B]? = some (.cells #[.int .u64 s.lo, .int .u64 s.hi] 30 (0, 0))) (h1 : s.lo < M64) (h2 : s.hi < M64) : RdR 0 w.heap.size w (.slice (some ⟨B, 0, none⟩) 1 1) [s] := by
  refine ⟨_, 1, rfl, by simp, by decide, fun _ => ⟨B, 0, rfl, Nat.zero_le _, (Array.getElem?_eq_some_iff.1 h).1, fun i hi => ?_⟩⟩
  obtain rfl : i = 0 := by simpa using hi
  exact ⟨by simp [World.cell?, h], by simp [World.cell?, h], h1, h2⟩

/-- Not returns what of an interval is not in a list. -/
theorem not_calls (a : List Iv) (va : Value) (s : Iv) (w : World) (ha : Nrm a) (hs : s.lo ≤ s.hi) (hs' : s.hi < M64) (ra : RdR 0 w.heap.size w va a) (hlen : a.length ≤ 1073741823) :
    Calls Try.prog 28 #[va, .agg #[.int .u64 s.lo, .int .u64 s.hi]] w fun e w' => ∃ v, e = .returned v ∧ OwnR w.heap.size w' v (opS fMinus [s] a) ∧ Below w.heap.size w w' := by
  obtain ⟨a1, c1, rfl, _⟩ := id ra
  go_enter Try.func28, Try.ntmps28
  go_wp2_with fail
  obtain ⟨w1, hw1⟩ : ∃ w1, ((w.alloc (Obj.cells #[Value.int IntKind.u64 s.lo, Value.int IntKind.u64 s.hi] 30)).alloc (Obj.cells #[Value.int IntKind.u64 s.lo, Value.int IntKind.u64 s.hi] 30)) = w1 := ⟨_, rfl⟩
  have hb1 : Below w.heap.size w w1 := by rw [← hw1]; exact ((Below.refl _ _).alloc (Nat.le_refl _) _).alloc (by simp) _
  have hn : w1.heap[w.heap.size + 1]? = some (.cells #[.int .u64 s.lo, .int .u64 s.hi] 30 (0, 0)) := by
    rw [← hw1]; have := World.alloc_heap_new (w.alloc (Obj.cells #[Value.int IntKind.u64 s.lo, Value.int IntKind.u64 s.hi] 30)) (Obj.cells #[Value.int IntKind.u64 s.lo, Value.int IntKind.u64 s.hi] 30); rwa [World.size_alloc] at this
  rw [hw1]
  clear hw1
  refine (minus_calls [s] a _ _ w1 ⟨Nat.zero_le _, hs, hs', trivial⟩ ha (rd_one hn (by omega) hs') ((ra.below hb1 (Nat.le_refl _)).keep (Nat.le_refl _) hb1.size fun _ _ _ => rfl) (by simp; omega)).mono ?_
  rintro e w2 ⟨v, rfl, hv, hb⟩
  go_wp2
  go_ret
  exact ⟨_, rfl, hv.mono hb1.size, hb1.trans (hb.mono hb1.size)⟩
end Go.Proofs.Ytcedofkenfddkaa
/- The contracts of setops.never, Subset and Disjoint. The lists are correct. -/
namespace Go.Proofs.Ytcedofkenfddkaa
set_option linter.unusedVariables false
set_option linter.unusedSimpArgs false
open Go.RowKit
attribute [local go_sem] Oper.semAt_some

/-- Does a state occur? -/
def occ (xs : List (Iv × Bool × Bool)) (p q : Bool) : Bool := xs.any fun y => y.2.1 == p && y.2.2 == q
/-- Does a state not occur? -/
def neverB (a b : List Iv) (p q : Bool) : Bool := !occ (pieces a b) p q
theorem occ_snoc (xs : List (Iv × Bool × Bool)) (s : Iv) (p' q' p q : Bool) : occ (xs ++ [(s, p', q')]) p q = (occ xs p q || (p' == p && q' == q)) := by simp [occ, List.any_append]
theorem occ_of {xs ys : List (Iv × Bool × Bool)} {p q : Bool} (h : xs <+: ys) (hx : occ xs p q = true) : occ ys p q = true := by
  obtain ⟨r, rfl⟩ := h
  unfold occ at *
  rw [List.any_append, hx, Bool.true_or]
theorem cov_any {a b : List Iv} {p q : Bool} : ∀ (xs : List (Iv × Bool × Bool)) (x : Nat), Cov a b x xs → ((xs.any fun y => y.2.1 == p && y.2.2 == q) = true ↔ ∃ z, x ≤ z ∧ z < M64 ∧ mem a z = p ∧ mem b z = q)
  | [], x, h => by
    have : x = M64 := h
    simp
    intro z h1 h2; omega
  | (s, p', q') :: r, x, ⟨h1, h2, h3, h4, h5⟩ => by
    rw [List.any_cons, Bool.or_eq_true, cov_any r _ h5]
    constructor
    · rintro (h | ⟨z, z1, z2, z3⟩)
      · simp at h
        have := h4 x (Nat.le_refl _) h2
        exact ⟨x, Nat.le_refl _, by omega, this.1.trans h.1, this.2.trans h.2⟩
      · exact ⟨z, by omega, z2, z3⟩
    · rintro ⟨z, z1, z2, z3, z4⟩
      by_cases hz : z ≤ s.hi
      · have := h4 z z1 hz
        left
        simp [← this.1, ← this.2, z3, z4]
      · exact .inr ⟨z, by omega, z2, z3, z4⟩
theorem neverB_iff {a b : List Iv} (ha : Nrm a) (hb : Nrm b) (p q : Bool) : neverB a b p q = true ↔ ∀ z, z < M64 → ¬ (mem a z = p ∧ mem b z = q) := by
  have := cov_any (p := p) (q := q) _ _ (pieces_cov ha hb)
  unfold neverB occ
  rw [Bool.not_eq_true', ← Bool.not_eq_true, this]
  constructor
  · intro h z hz he; exact h ⟨z, Nat.zero_le _, hz, he⟩
  · rintro h ⟨z, _, hz, he⟩; exact h z hz he

set_option maxHeartbeats 4000000 in
set_option maxRecDepth 100000 in
theorem never_calls (a b : List Iv) (va vb : Value) (p q : Bool) (w : World) (ha : Nrm a) (hb : Nrm b) (ra : RdR 0 w.heap.size w va a) (rb : RdR 0 w.heap.size w vb b) :
    Calls Try.prog 70 #[va, vb, .agg #[.bool p, .bool q]] w fun e w' => e = .returned (.bool (neverB a b p q)) ∧ Below w.heap.size w w' := by
  obtain ⟨aa, ca, rfl, _⟩ := id ra
  obtain ⟨ab, cb, rfl, _⟩ := id rb
  refine callsIn_wide.1 (callsIn_of_wp_marks (n := 9) Try.func70 rfl trivial ?_ rfl)
  simp only [Try.ntmps70, List.size_toArray, List.length_cons, List.length_nil, Nat.reduceAdd, Nat.reduceSub, Array.replicate_succ, Array.replicate_zero, List.push_toArray, List.append_toArray, List.nil_append, List.cons_append]
  gi_wp2_with (refine ⟨trivial, ?_⟩; gi_at_call 93; refine (callsIn_wide.2 (pieces_calls _ _ _ _ _ _ _)).mono ?_; rintro e w' ⟨rfl, rfl⟩)
  obtain ⟨W0, hW0⟩ : ∃ W0, ((((w.alloc (Obj.cells #[Value.bool p, Value.bool q] 71)).alloc (Obj.cells #[Value.bool false] 4)).alloc (Obj.cells #[Value.slice aa a.length ca] 23)).alloc (Obj.cells #[Value.slice ab b.length cb] 23)) = W0 := ⟨_, rfl⟩
  have hsz : W0.heap.size = w.heap.size + 4 := by rw [← hW0]; simp
  have b0 : W0.heap[w.heap.size]? = some (.cells #[.bool p, .bool q] 71 (0, 0)) := by rw [← hW0]; exact (Below.heap_alloc _ _ _ (by simp; omega)).trans ((Below.heap_alloc _ _ _ (by simp; omega)).trans ((Below.heap_alloc _ _ _ (by simp)).trans (World.alloc_heap_new w _)))
  have b1 : Boxed W0 (w.heap.size + 1) 4 (Value.bool false) := by rw [← hW0]; have := Boxed.new (w.alloc (Obj.cells #[Value.bool p, Value.bool q] 71)) 4 (Value.bool false); rw [World.size_alloc] at this; exact (this.alloc _).alloc _
  have b2 : Boxed W0 (w.heap.size + 1 + 1) 23 (Value.slice aa a.length ca) := by rw [← hW0]; have := Boxed.new ((w.alloc (Obj.cells #[Value.bool p, Value.bool q] 71)).alloc (Obj.cells #[Value.bool false] 4)) 23 (Value.slice aa a.length ca); simp only [World.size_alloc] at this; exact this.alloc _
  have b3 : Boxed W0 (w.heap.size + 1 + 1 + 1) 23 (Value.slice ab b.length cb) := by rw [← hW0]; have := Boxed.new (((w.alloc (Obj.cells #[Value.bool p, Value.bool q] 71)).alloc (Obj.cells #[Value.bool false] 4)).alloc (Obj.cells #[Value.slice aa a.length ca] 23)) 23 (Value.slice ab b.length cb); simp only [World.size_alloc] at this; exact this
  have hB0 : Below w.heap.size w W0 := by rw [← hW0]; exact ((((Below.refl _ _).alloc (Nat.le_refl _) _).alloc (by simp) _).alloc (by simp; omega) _).alloc (by simp; omega) _
  rw [hW0]
  clear hW0
  refine rf_law (w := W0) 112 #[.pointer (some ⟨w.heap.size + 1 + 1, 0, none⟩), .pointer (some ⟨w.heap.size + 1 + 1 + 1, 0, none⟩)] rfl (enters_of Try.func112 (by kernel_rfl) rfl) encP (fun _ => rfl)
    (fun k => k = w.heap.size + 1 + 1 ∨ k = w.heap.size + 1 + 1 + 1) (fun k => k < w.heap.size ∨ k = w.heap.size + 1 + 1 ∨ k = w.heap.size + 1 + 1 + 1) (pieces a b) ?hit
    (fun k => k = w.heap.size + 1 ∨ w.heap.size + 6 ≤ k) (fun k hk => by omega) (by omega) ⟨by omega, by omega⟩
    (fun pre W => W.heap[w.heap.size]? = some (.cells #[.bool p, .bool q] 71 (0, 0)) ∧ Boxed W (w.heap.size + 1) 4 (.bool false) ∧ Below w.heap.size w W ∧ Hid (occ pre p q = false))
    (fun c pre W => c = .ret ∧ Boxed W (w.heap.size + 1) 4 (.bool false) ∧ Below w.heap.size w W ∧ Hid (occ pre p q = true)) ?hI ?hIx ⟨b0, b1, hB0, rfl⟩
    (fun pre x a' W => (W.heap[w.heap.size]? = some (.cells #[.bool p, .bool q] 71 (0, 0)) ∧ Boxed W (w.heap.size + 1) 4 (.bool false) ∧ Below w.heap.size w W ∧ Hid (occ pre p q = false)) ∧ ∃ Bs, W.heap[Bs]? = some (.cells #[.bool x.2.1, .bool x.2.2] 71 (0, 0)) ∧ w.heap.size + 6 ≤ Bs ∧ a' = { tmps := #[Value.slice aa a.length ca, Value.slice ab b.length cb, Value.agg #[Value.bool p, Value.bool q], undef, undef, Value.pointer (some ⟨w.heap.size, 0, none⟩), Value.pointer (some ⟨w.heap.size + 1, 0, none⟩), undef, Value.pointer (some ⟨Bs, 0, none⟩), Value.slice aa a.length ca, Value.slice ab b.length cb, Value.func (Fn.func 112) #[] #[Value.pointer (some ⟨w.heap.size + 1 + 1, 0, none⟩), Value.pointer (some ⟨w.heap.size + 1 + 1 + 1, 0, none⟩)], .agg #[.int .u64 x.1.lo, .int .u64 x.1.hi], .agg #[.bool x.2.1, .bool x.2.2], undef, undef, undef], defers := [] })
    ?hAx ?hassign ?hbody ?hdone ?hstop
  case hit =>
    intro W hk _
    exact pieces1_at a b _ _ (w.heap.size + 1 + 1) (w.heap.size + 1 + 1 + 1) w.heap.size W ha hb (by omega) (by omega) (by omega)
      ⟨hk.boxed b2 id, hk.boxed b3 id, ra.below (hB0.trans (hk.below (by omega) fun _ _ => id)) (Nat.le_refl _), rb.below (hB0.trans (hk.below (by omega) fun _ _ => id)) (Nat.le_refl _), Suf.refl _ _, Suf.refl _ _⟩
  case hI =>
    rintro pre A B ⟨h1, h2, h3, h4⟩ hk
    exact ⟨hk.obj h1 (by omega), hk.boxed h2 (by omega), h3.trans (hk.below h3.size fun k hk => by omega), h4⟩
  case hIx =>
    rintro c pre A B ⟨h1, h2, h3, h4⟩ hk
    exact ⟨h1, hk.boxed h2 (by omega), h3.trans (hk.below h3.size fun k hk => by omega), h4⟩
  case hAx =>
    rintro pre x a' A B ⟨⟨h1, h2, h3, h4⟩, Bs, hs, hs6, rfl⟩ hk
    exact ⟨⟨hk.obj h1 (by omega), hk.boxed h2 (by omega), h3.trans (hk.below h3.size fun k hk => by omega), h4⟩, Bs, hk.obj hs (by omega), hs6, rfl⟩
  case hassign =>
    rintro l pre ⟨⟨lo, hi⟩, p', q'⟩ W hpx hlt ⟨h1, h2, h3, h4⟩
    clear hpx
    dsimp only [encP]
    gi_wp2
    exact ⟨(Keep.refl _ _).alloc _, ⟨(Below.heap_alloc _ _ _ (by omega)).trans h1, h2.alloc _, h3.alloc h3.size _, h4⟩, W.heap.size, World.alloc_heap_new W _, by omega, rfl⟩
  case hbody =>
    rintro l pre ⟨⟨lo, hi⟩, p', q'⟩ a' W hpx hlt ⟨⟨h1, h2, h3, h4⟩, Bs, hs, hs6, rfl⟩
    clear hpx
    have c0 : W.cell? ⟨Bs, 0, none⟩ = some (.bool p') := by simp [World.cell?, hs]
    have c1 : W.cell? ⟨Bs, 1, none⟩ = some (.bool q') := by simp [World.cell?, hs]
    have c2 : W.cell? ⟨w.heap.size, 0, none⟩ = some (.bool p) := by simp [World.cell?, h1]
    have c3 : W.cell? ⟨w.heap.size, 1, none⟩ = some (.bool q) := by simp [World.cell?, h1]
    have c4 := h2.cell
    have f4 := h2.frozen
    cases ht : (p' == p && q' == q) with
    | true =>
      have hpq : p' = p ∧ q' = q := by simpa using ht
      obtain ⟨rfl, rfl⟩ := hpq
      have HT := Lib.hid ht
      clear ht
      gi_wp2
      exact ⟨(Keep.refl _ _).setCell (p := ⟨w.heap.size + 1, 0, none⟩) (fun _ => .inl rfl) _, rfl, h2.set _, h3.setCell (p := ⟨w.heap.size + 1, 0, none⟩) (by simp) _, by show occ _ _ _ = true; rw [occ_snoc, h4.out]; simp⟩
    | false =>
      gi_wp2
      all_goals first | (exfalso; simp_all; done) | exact ⟨Keep.refl _ _, h1, h2, h3, by show occ _ _ _ = false; rw [occ_snoc, h4.out]; simp_all⟩
  case hdone =>
    rintro W ⟨h1, h2, h3, h4⟩ hD
    have c4 := h2.cell
    have f4 := h2.frozen
    gi_wp2
    refine ⟨by simp, .inl ⟨_, _, rfl, run_takeDeferred (by rw [Below.heap_setCell _ _ _ _ (by simp; omega)]; exact hD), ?_⟩⟩
    have hkD : Keep (fun k => k = w.heap.size + 1 ∨ k = W0.heap.size) W ((W.setCell ⟨w.heap.size + 1, 0, none⟩ (.bool true)).putObj W0.heap.size (.deferred none)) := ((Keep.refl (fun k => k = w.heap.size + 1 ∨ k = W0.heap.size) W).setCell (p := ⟨w.heap.size + 1, 0, none⟩) (fun _ => .inl rfl) _).putObj (fun _ => .inr rfl) _
    have hr : ((W.setCell ⟨w.heap.size + 1, 0, none⟩ (.bool true)).putObj W0.heap.size (.deferred none)).cell? ⟨w.heap.size + 1, 0, none⟩ = some (.bool true) := by
      refine (World.cell?_of_block ?_).trans (h2.set (.bool true)).cell
      exact World.putObj_heap_other (by show w.heap.size + 1 ≠ _; omega)
    refine ⟨.bool true, by simp [results, Try.results70, go_sem, hr], ?_, h3.trans (hkD.below h3.size fun k hk => by omega)⟩
    show Ending.returned (.bool true) = .returned (.bool (!occ (pieces a b) p q))
    rw [h4.out]; rfl
  case hstop =>
    rintro c pre W hpre ⟨rfl, h2, h3, h4⟩ hD
    have c4 := h2.cell
    gi_wp2
    refine ⟨by simp, .inl ⟨_, _, rfl, run_takeDeferred hD, ?_⟩⟩
    have hkD : Keep (fun k => k = W0.heap.size) W (W.putObj W0.heap.size (.deferred none)) := (Keep.refl (fun k => k = W0.heap.size) W).putObj (fun _ => rfl) _
    have hr := (hkD.boxed h2 (by omega)).cell
    refine ⟨.bool false, by simp [results, Try.results70, go_sem, hr], ?_, h3.trans (hkD.below h3.size fun k hk => by omega)⟩
    show Ending.returned (.bool false) = .returned (.bool (!occ (pieces a b) p q))
    rw [occ_of hpre h4.out]; rfl

theorem subset_calls (a b : List Iv) (va vb : Value) (w : World) (ha : Nrm a) (hb : Nrm b) (ra : RdR 0 w.heap.size w va a) (rb : RdR 0 w.heap.size w vb b) :
    Calls Try.prog 30 #[va, vb] w fun e w' => e = .returned (.bool (neverB a b true false)) ∧ Below w.heap.size w w' := by
  have HM := Lib.hid (never_calls a b va vb true false w ha hb ra rb)
  obtain ⟨a1, c1, rfl, _⟩ := ra
  obtain ⟨a2, c2, rfl, _⟩ := rb
  go_enter Try.func30, Try.ntmps30
  go_wp2_with (go_at_call 70; refine HM.out.mono ?_; rintro e w' ⟨rfl, hb⟩)
  go_ret
  exact ⟨rfl, ‹_›⟩
theorem disjoint_calls (a b : List Iv) (va vb : Value) (w : World) (ha : Nrm a) (hb : Nrm b) (ra : RdR 0 w.heap.size w va a) (rb : RdR 0 w.heap.size w vb b) :
    Calls Try.prog 31 #[va, vb] w fun e w' => e = .returned (.bool (neverB a b true true)) ∧ Below w.heap.size w w' := by
  have HM := Lib.hid (never_calls a b va vb true true w ha hb ra rb)
  obtain ⟨a1, c1, rfl, _⟩ := ra
  obtain ⟨a2, c2, rfl, _⟩ := rb
  go_enter Try.func31, Try.ntmps31
  go_wp2_with (go_at_call 70; refine HM.out.mono ?_; rintro e w' ⟨rfl, hb⟩)
  go_ret
  exact ⟨rfl, ‹_›⟩
end Go.Proofs.Ytcedofkenfddkaa
/- The contracts of the references of the layers 3 and 4: Right, Relate, Check, Same. No condition but that the numbers are of 64 bits. -/
namespace Go.Proofs.Ytcedofkenfddkaa
set_option linter.unusedVariables false
set_option linter.unusedSimpArgs false
open Go.RowKit

theorem refRight_any (s : Iv) (w : World) : Calls Try.prog 27 #[.agg #[.int .u64 s.lo, .int .u64 s.hi]] w fun e w' => e = .returned (.bool (decide (s.lo ≤ s.hi))) ∧ Below w.heap.size w w' := by
  go_enter Try.func27, Try.ntmps27
  go_wp2
  go_ret
  exact ⟨rfl, (Below.refl _ _).alloc (Nat.le_refl _) _⟩

theorem refRight_is (s : Iv) (c : Bool) (h : decide (s.lo ≤ s.hi) = c) (w : World) : Calls Try.prog 27 #[.agg #[.int .u64 s.lo, .int .u64 s.hi]] w fun e w' => e = .returned (.bool c) ∧ Below w.heap.size w w' := by
  rw [← h]; exact refRight_any s w
theorem sub_one_eq {x y : Nat} (h : x < y) (hy : y < M64) : (IntKind.u64.wrap ((y : Int) - x) == 1) = decide (x + 1 = y) := by
  rw [wrap_sub (by omega) hy, Bool.eq_iff_iff]
  simp
  omega
theorem refRelate_any (s t : Iv) (w : World) (h1 : s.lo < M64) (h2 : t.lo < M64) :
    Calls Try.prog 111 #[.agg #[.int .u64 s.lo, .int .u64 s.hi], .agg #[.int .u64 t.lo, .int .u64 t.hi]] w fun e w' => e = .returned (.int .i64 (relate s t)) ∧ Below w.heap.size w w' := by
  have H : ∀ n : Nat, relate s t = n → Hid (relate s t = n) := fun _ h => h
  by_cases c1 : s.hi < t.lo
  · have g := sub_one_eq c1 h2
    by_cases c3 : s.hi + 1 = t.lo
    · have R := H 1 (by unfold relate; rw [if_pos c1, if_pos c3])
      rw [decide_eq_true c3] at g
      clear H c3
      go_enter Try.func111, Try.ntmps111
      go_wp2
      go_ret
      rw [R.out]
      exact ⟨rfl, ((Below.refl _ _).alloc (Nat.le_refl _) _).alloc (by simp) _⟩
    · have R := H 0 (by unfold relate; rw [if_pos c1, if_neg c3])
      rw [decide_eq_false c3] at g
      clear H c3
      go_enter Try.func111, Try.ntmps111
      go_wp2
      go_ret
      rw [R.out]
      exact ⟨rfl, ((Below.refl _ _).alloc (Nat.le_refl _) _).alloc (by simp) _⟩
  · by_cases c2 : t.hi < s.lo
    · have g := sub_one_eq c2 h1
      by_cases c3 : t.hi + 1 = s.lo
      · have R := H 3 (by unfold relate; rw [if_neg c1, if_pos c2, if_pos c3])
        rw [decide_eq_true c3] at g
        clear H c3
        go_enter Try.func111, Try.ntmps111
        go_wp2
        go_ret
        rw [R.out]
        exact ⟨rfl, ((Below.refl _ _).alloc (Nat.le_refl _) _).alloc (by simp) _⟩
      · have R := H 4 (by unfold relate; rw [if_neg c1, if_pos c2, if_neg c3])
        rw [decide_eq_false c3] at g
        clear H c3
        go_enter Try.func111, Try.ntmps111
        go_wp2
        go_ret
        rw [R.out]
        exact ⟨rfl, ((Below.refl _ _).alloc (Nat.le_refl _) _).alloc (by simp) _⟩
    · have R := H 2 (by unfold relate; rw [if_neg c1, if_neg c2])
      clear H
      go_enter Try.func111, Try.ntmps111
      go_wp2
      go_ret
      rw [R.out]
      exact ⟨rfl, ((Below.refl _ _).alloc (Nat.le_refl _) _).alloc (by simp) _⟩

/-- The error and the index of a list's check. -/
def chkL : Option Iv → List Iv → Nat → Nat × Int
  | _, [], _ => (0, -1)
  | p, s :: l, i => if s.lo ≤ s.hi then (if (match p with | none => 0 | some q => relate q s) = 0 then chkL (some s) l (i + 1) else (3, (i : Int))) else (2, (i : Int))
def chk (l : List Iv) : Nat × Int := chkL none l 0
theorem chkL_nf : ∀ (l : List Iv) (p : Option Iv) (i : Nat), (∀ s ∈ l, s.hi < M64) → ((chkL p l i).1 = 0 ↔ match p with | none => NF 0 l | some q => (∀ s ∈ l, s.lo ≤ s.hi → relate q s = 0 ∨ True) ∧ (l = [] ∨ ∃ s r, l = s :: r ∧ s.lo ≤ s.hi ∧ relate q s = 0 ∧ NF (s.hi + 2) r))
  | [], p, i, _ => by cases p <;> simp [chkL, NF]
  | s :: l, p, i, hb => by
    have ih := chkL_nf l (some s) (i + 1) (fun t ht => hb t (by simp [ht]))
    have hs := hb s (by simp)
    have key : (chkL (some s) l (i + 1)).1 = 0 ↔ NF (s.hi + 2) l := by
      rw [ih]
      constructor
      · rintro ⟨_, rfl | ⟨t, r, rfl, h1, h2, h3⟩⟩
        · trivial
        · refine ⟨?_, h1, hb t (by simp), h3⟩
          unfold relate at h2
          split at h2
          · split at h2
            · cases h2
            · omega
          · split at h2
            · split at h2 <;> cases h2
            · cases h2
      · intro h
        refine ⟨fun _ _ _ => .inr trivial, ?_⟩
        cases l with
        | nil => exact .inl rfl
        | cons t r =>
          have := h.1
          exact .inr ⟨t, r, rfl, h.2.1, by unfold relate; rw [if_pos (by omega), if_neg (by omega)], h.2.2.2⟩
    unfold chkL
    by_cases h1 : s.lo ≤ s.hi
    · rw [if_pos h1]
      cases p with
      | none =>
        simp only [if_true]
        rw [key]
        exact ⟨fun h => ⟨Nat.zero_le _, h1, hs, h⟩, fun h => h.2.2.2⟩
      | some q =>
        simp only
        by_cases h2 : relate q s = 0
        · rw [if_pos h2, key]
          exact ⟨fun h => ⟨fun _ _ _ => .inr trivial, .inr ⟨s, l, rfl, h1, h2, h⟩⟩, fun h => by
            rcases h.2 with h | ⟨t, r, e, _, _, h⟩
            · cases h
            · cases e; exact h⟩
        · rw [if_neg h2]
          simp
          intro _ h; exact absurd h h2
    · rw [if_neg h1]
      cases p with
      | none => simp [NF, h1]
      | some q =>
        simp
        intro h; exact absurd h h1
theorem chk_nrm {l : List Iv} (h : ∀ s ∈ l, s.hi < M64) : (chk l).1 = 0 ↔ Nrm l := chkL_nf l none 0 h
theorem chkL_step {l : List Iv} {k : Nat} {p : Option Iv} (h : k < l.length) : chkL p (l.drop k) k = if l[k].lo ≤ l[k].hi then (if (match p with | none => 0 | some q => relate q l[k]) = 0 then chkL (some l[k]) (l.drop (k + 1)) (k + 1) else (3, (k : Int))) else (2, (k : Int)) := by
  rw [List.drop_eq_getElem_cons h]; rfl

def chkAt (l : List Iv) (k : Nat) (s : Iv) : Prop := chk l = chkL (if k = 0 then none else l[k - 1]?) (l.drop k) k ∧ (chkL (if k = 0 then none else l[k - 1]?) (l.drop k) k = if (match (if k = 0 then none else l[k - 1]?) with | none => 0 | some q => relate q s) = 0 then chkL (some s) (l.drop (k + 1)) (k + 1) else (3, (k : Int)))
theorem refCheck_next {l : List Iv} {k : Nat} {s : Iv} (h : k < l.length) (hs : s = l[k]) (ha : chkAt l k s) (k0 : k = 0) : Hid (chk l = chkL (if k + 1 = 0 then none else l[k + 1 - 1]?) (l.drop (k + 1)) (k + 1)) := by
  subst k0
  show _ = _
  rw [ha.1, ha.2]
  simp only [if_true, Nat.zero_add, Nat.one_ne_zero, if_false, Nat.sub_self, List.getElem?_eq_getElem h, ← hs]
theorem refCheck_next2 {l : List Iv} {j : Nat} {s q : Iv} (h : j + 1 < l.length) (hs : s = l[j + 1]) (ha : chkAt l (j + 1) s) (hq : q = l[j]) (hr : relate q s = 0) : Hid (chk l = chkL (if j + 2 = 0 then none else l[j + 2 - 1]?) (l.drop (j + 2)) (j + 2)) := by
  have e := ha.1.trans ha.2
  simp [List.getElem?_eq_getElem h, ← hs, List.getElem?_eq_getElem (show j < l.length by omega), ← hq, hr] at e
  show _ = _
  rw [e]
  simp [List.getElem?_eq_getElem h, ← hs]
theorem refCheck_last {l : List Iv} {j r : Nat} {s q : Iv} (h : j + 1 < l.length) (ha : chkAt l (j + 1) s) (hq : q = l[j]) (hr : relate q s = r + 1) : chk l = (3, ((j + 1 : Nat) : Int)) := by
  rw [ha.1, ha.2]
  simp [List.getElem?_eq_getElem (show j < l.length by omega), ← hq, hr]

set_option maxHeartbeats 2000000 in
set_option maxRecDepth 100000 in
theorem refCheck_any (l : List Iv) (v : Value) (w : World) (hl : RdR 0 w.heap.size w v l) :
    Calls Try.prog 92 #[v] w fun e w' => e = .returned (.tuple #[.int .i64 ((chk l).1 : Int), .int .i64 (chk l).2]) ∧ Below w.heap.size w w' := by
  have hbd := hl.bound
  obtain ⟨a, cap, rfl, hlc, hcm, hc⟩ := hl
  unfold maxLen at hcm
  go_enter Try.func92, Try.ntmps92
  go_wp2_with fail
  go_loopg [4] (l.length + 1) (fun g i wr => ∃ k : Nat, k ≤ l.length ∧ g = l.length - k + 1 ∧ i = .int .i64 k ∧ Hid (chk l = chkL (if k = 0 then none else l[k - 1]?) (l.drop k) k) ∧ Below w.heap.size w wr)
  case atStart => exact ⟨0, Nat.zero_le _, rfl, rfl, rfl, Below.refl _ _⟩
  case round =>
    obtain ⟨k, hk, rfl, rfl, hn, hB⟩ := hrel
    by_cases hlt : k < l.length
    · obtain ⟨b, off, rfl, _, hb, hcell⟩ := hc (by intro e; subst e; simp at hlt)
      obtain ⟨g1, g2, g3, g4⟩ := hcell k hlt
      have hs := chkL_step (p := if k = 0 then none else l[k - 1]?) hlt
      obtain ⟨s, hsd⟩ : ∃ s, s = l[k] := ⟨_, rfl⟩
      rw [← hsd] at g1 g2 g3 g4 hs
      have c1 : wr.cell? ⟨b, off + k * 2, none⟩ = some (.int .u64 s.lo) := (hB.cell (p := ⟨b, _, none⟩) hb).trans g1
      have c2 : wr.cell? ⟨b, off + k * 2 + 1, none⟩ = some (.int .u64 s.hi) := (hB.cell (p := ⟨b, _, none⟩) hb).trans g2
      have hsz := hB.size
      clear g1 g2
      by_cases t1 : s.lo ≤ s.hi
      · rw [if_pos t1] at hs
        have HR := Lib.hid (fun W => refRight_is s true (by simpa using t1) W)
        have HN : Hid (chkAt l k s ∧ s = l[k] ∧ ∀ (i : Nat) (h : i < l.length), rdIv w b (off + i * 2) l[i]) := ⟨⟨hn.out, hs⟩, hsd, hcell⟩
        clear hs hn hcell hc hsd t1
        go_upto_region 6 with (go_at_call 27; refine (HR.out _).mono ?_; rintro e w1 ⟨rfl, hb1⟩)
        by_cases k0 : k = 0
        · have hz : decide ((0:Int) < k) = false := by simp; omega
          refine regG 15 34 (fun _ => True) (by kernel_rfl) (by kernel_rfl) rfl trivial ?_
          simp only [List.take_succ_cons, List.take_zero]
          repeat (first
            | (refine wdet ?_ rfl (fun a w hc _ hr => ?_) ?_; rotate_left; (simp [Rds, rdsO, lk, Op.operands, Call.operands, RdEq] at hr; go_simp; with_reducible rfl); dsimp only [List.nil_append, List.cons_append])
            | (refine wskip rfl ?_ ?_; (first | exact .inl (isV_eq rfl rfl) | exact .inr (isV_eq rfl rfl)); dsimp only [List.nil_append, List.cons_append])
            | (refine wdetg rfl ?_ ?_ (fun a w hc _ hr => ?_) ?_; exact (isV_eq rfl rfl); rotate_left; (simp [Rds, rdsO, lk, Op.operands, Call.operands, RdEq] at hr; go_simp; with_reducible rfl); dsimp only [List.nil_append, List.cons_append]))
          intro w2 hc2 hk2
          simp only [finG, forall_eq, List.nil_append, List.cons_append, List.drop_succ_cons, List.drop_zero, List.drop_nil]
          simp only [Act.put, List.setIfInBounds_toArray, List.set_cons_succ, List.set_cons_zero]
          have hk3 : Keep NoB w1 w2 := ((Keep.refl NoB w1).drew).trans hk2
          have HZ := Lib.hid k0
          clear hc2 hk2 k0 hz
          go_wp2
          go_roundg (l.length - k)
          case measure => simp
          case rel => exact ⟨k + 1, by omega, by omega, by go_num, refCheck_next hlt HN.out.2.1 HN.out.1 HZ.out, hB.trans ((hb1.trans (hk3.below hb1.size fun _ _ => id)).mono hsz)⟩
        · obtain ⟨j, rfl⟩ : ∃ j, k = j + 1 := ⟨k - 1, by omega⟩
          obtain ⟨q1, q2, q3, q4⟩ := HN.out.2.2 j (by omega)
          obtain ⟨q, hq⟩ : ∃ q, q = l[j] := ⟨_, rfl⟩
          rw [← hq] at q1 q2 q3 q4
          have HQ := Lib.hid hq
          clear hq k0
          have kb : Below w.heap.size w w1 := hB.trans (hb1.mono hsz)
          have d1 : w1.cell? ⟨b, off + j * 2, none⟩ = some (.int .u64 q.lo) := (kb.cell (p := ⟨b, _, none⟩) hb).trans q1
          have d2 : w1.cell? ⟨b, off + j * 2 + 1, none⟩ = some (.int .u64 q.hi) := (kb.cell (p := ⟨b, _, none⟩) hb).trans q2
          have e1 : w1.cell? ⟨b, off + (j + 1) * 2, none⟩ = some (.int .u64 s.lo) := (hb1.cell (p := ⟨b, _, none⟩) (by simpa using Nat.lt_of_lt_of_le hb hsz)).trans c1
          have e2 : w1.cell? ⟨b, off + (j + 1) * 2 + 1, none⟩ = some (.int .u64 s.hi) := (hb1.cell (p := ⟨b, _, none⟩) (by simpa using Nat.lt_of_lt_of_le hb hsz)).trans c2
          have hw : IntKind.i64.wrap (j : Int) = (j : Int) := by rw [IntWalk.i64_in]; omega
          have i1 : ((j : Nat) : Int) < l.length := by omega
          have i2 : ((j : Nat) : Int) + 1 < l.length := by omega
          have i3 : (0 : Int) ≤ (j : Int) + 1 := by omega
          have hz : decide ((0:Int) < ((j + 1 : Nat) : Int)) = true := by simp
          clear q1 q2
          refine regG 15 34 (fun w' => w'.cell? ⟨b, off + j * 2, none⟩ = some (.int .u64 q.lo) ∧ w'.cell? ⟨b, off + j * 2 + 1, none⟩ = some (.int .u64 q.hi) ∧ w'.cell? ⟨b, off + (j + 1) * 2, none⟩ = some (.int .u64 s.lo) ∧ w'.cell? ⟨b, off + (j + 1) * 2 + 1, none⟩ = some (.int .u64 s.hi)) (by kernel_rfl) (by kernel_rfl) rfl ⟨d1, d2, e1, e2⟩ ?_
          simp only [List.take_succ_cons, List.take_zero]
          repeat (first
            | (refine wdet ?_ rfl (fun a w hc _ hr => ?_) ?_; rotate_left; (simp [Rds, rdsO, lk, Op.operands, Call.operands, RdEq] at hr; go_simp; with_reducible rfl); dsimp only [List.nil_append, List.cons_append])
            | (refine wskip rfl ?_ ?_; (first | exact .inl (isV_eq rfl rfl) | exact .inr (isV_eq rfl rfl)); dsimp only [List.nil_append, List.cons_append])
            | (refine wdetg rfl ?_ ?_ (fun a w hc _ hr => ?_) ?_; exact (isV_eq rfl rfl); rotate_left; (simp [Rds, rdsO, lk, Op.operands, Call.operands, RdEq] at hr; go_simp; with_reducible rfl); dsimp only [List.nil_append, List.cons_append]))
          refine wgeng (fun u _ => u = (.int .i64 ((relate q s : Nat) : Int))) (eqV_stab _) rfl (isV_eq rfl rfl) ?_ ?_
          · intro a2 w2 hc hk hr K hK
            have HK := Lib.hid hK
            clear hK
            simp [Rds, rdsO, lk, Op.operands, Call.operands, RdEq] at hr
            go_simp
            refine (refRelate_any q s _ q3 g3).mono ?_
            rintro e w3 ⟨rfl, hb3⟩
            have hkb : Keep NoB w2 w3 := Keep.of_below' hb3 (Nat.le_refl _)
            exact HK.out _ _ hkb ⟨hkb.cell_some hc.1 id, hkb.cell_some hc.2.1 id, hkb.cell_some hc.2.2.1 id, hkb.cell_some hc.2.2.2 id⟩ rfl
          dsimp only [List.nil_append, List.cons_append]
          obtain ⟨r, hr⟩ : ∃ r, relate q s = r := ⟨_, rfl⟩
          rw [hr]
          have HR2 := Lib.hid hr
          clear hr
          cases r with
          | zero =>
            repeat (first
              | (refine wdet ?_ rfl (fun a w hc _ hr => ?_) ?_; rotate_left; (simp [Rds, rdsO, lk, Op.operands, Call.operands, RdEq] at hr; go_simp; with_reducible rfl); dsimp only [List.nil_append, List.cons_append])
              | (refine wskip rfl ?_ ?_; (first | exact .inl (isV_eq rfl rfl) | exact .inr (isV_eq rfl rfl)); dsimp only [List.nil_append, List.cons_append])
              | (refine wdetg rfl ?_ ?_ (fun a w hc _ hr => ?_) ?_; exact (isV_eq rfl rfl); rotate_left; (simp [Rds, rdsO, lk, Op.operands, Call.operands, RdEq] at hr; go_simp; with_reducible rfl); dsimp only [List.nil_append, List.cons_append]))
            intro w2 hc2 hk2
            simp only [finG, forall_eq, List.nil_append, List.cons_append, List.drop_succ_cons, List.drop_zero, List.drop_nil]
            simp only [Act.put, List.setIfInBounds_toArray, List.set_cons_succ, List.set_cons_zero]
            have hk3 : Keep NoB w1 w2 := ((Keep.refl NoB w1).drew).trans hk2
            clear hc2 hk2 hz i1 hw
            go_wp2
            go_roundg (l.length - (j + 1))
            case measure => simp
            case rel => exact ⟨j + 2, by omega, by omega, by go_num, refCheck_next2 hlt HN.out.2.1 HN.out.1 HQ.out HR2.out, hB.trans ((hb1.trans (hk3.below hb1.size fun _ _ => id)).mono hsz)⟩
          | succ r =>
            have hd : decide (((r + 1 : Nat) : Int) = 0) = false := by simp; omega
            repeat (first
              | (refine wdet ?_ rfl (fun a w hc _ hr => ?_) ?_; rotate_left; (simp [Rds, rdsO, lk, Op.operands, Call.operands, RdEq] at hr; go_simp; with_reducible rfl); dsimp only [List.nil_append, List.cons_append])
              | (refine wskip rfl ?_ ?_; (first | exact .inl (isV_eq rfl rfl) | exact .inr (isV_eq rfl rfl)); dsimp only [List.nil_append, List.cons_append])
              | (refine wdetg rfl ?_ ?_ (fun a w hc _ hr => ?_) ?_; exact (isV_eq rfl rfl); rotate_left; (simp [Rds, rdsO, lk, Op.operands, Call.operands, RdEq] at hr; go_simp; with_reducible rfl); dsimp only [List.nil_append, List.cons_append]))
            intro w2 hc2 hk2
            simp only [finG, forall_eq, List.nil_append, List.cons_append, List.drop_succ_cons, List.drop_zero, List.drop_nil]
            simp only [Act.put, List.setIfInBounds_toArray, List.set_cons_succ, List.set_cons_zero]
            have hk3 : Keep NoB w1 w2 := ((Keep.refl NoB w1).drew).trans hk2
            clear hc2 hk2 hz i1 hw
            go_wp2
            go_ret2
            rw [refCheck_last hlt HN.out.1 HQ.out HR2.out]
            exact ⟨rfl, hB.trans ((hb1.trans (hk3.below hb1.size fun _ _ => id)).mono hsz)⟩
      · have HV : Hid (chk l = (2, (k : Int))) := by rw [hn.out, hs, if_neg t1]; rfl
        have hd1 : decide (s.lo ≤ s.hi) = false := by simpa using t1
        have HR := Lib.hid (fun W => refRight_is s _ hd1 W)
        clear hs hn hcell hc hsd hd1 t1
        go_wp2_with (go_at_call 27; refine (HR.out _).mono ?_; rintro e w1 ⟨rfl, hb1⟩)
        go_ret2
        rw [HV.out]
        exact ⟨rfl, hB.trans (hb1.mono hsz)⟩
    · have hkl : k = l.length := by omega
      have HV : Hid (chk l = (0, -1)) := by rw [hn.out, hkl, List.drop_length]; cases (if l.length = 0 then none else l[l.length - 1]?) <;> rfl
      clear hn
      go_wp2
      go_ret2
      rw [HV.out]
      exact ⟨rfl, hB⟩
end Go.Proofs.Ytcedofkenfddkaa
