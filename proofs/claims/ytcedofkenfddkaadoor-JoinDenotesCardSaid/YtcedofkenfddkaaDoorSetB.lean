/- The contract of the closure that setops.pieces returns: it hands over the pieces of two correct lists, in order. -/
import Derived.Test.YtcedofkenfddkaaDoorSetA
import Derived.Deep.LoopGhost
import Derived.Deep.DeepCutAuto
import Derived.Test.YtcedofkenfddkaaDoorRegion
import Derived.Deep.CutBlock
namespace Go.Proofs.YtcedofkenfddkaaDoor
set_option linter.unusedVariables false
set_option linter.unusedSimpArgs false
open Go.RowKit

/-- a' is what is left of a behind intervals that end before x. -/
def Suf (a a' : List Iv) (x : Nat) : Prop := ∃ d, a = d ++ a' ∧ ∀ s ∈ d, s.hi < x
theorem Suf.refl (a : List Iv) (x : Nat) : Suf a a x := ⟨[], rfl, fun _ h => by cases h⟩
theorem Suf.mono {a a' : List Iv} {x y : Nat} (h : Suf a a' x) (hy : x ≤ y) : Suf a a' y := by
  obtain ⟨d, h1, h2⟩ := h; exact ⟨d, h1, fun s hs => by have := h2 s hs; omega⟩
theorem Suf.drop {a a' : List Iv} {s : Iv} {x : Nat} (h : Suf a (s :: a') x) (hs : s.hi < x) : Suf a a' x := by
  obtain ⟨d, h1, h2⟩ := h
  exact ⟨d ++ [s], by simp [h1], fun t ht => by simp at ht; rcases ht with ht | rfl; exact h2 t ht; exact hs⟩
theorem Suf.mem_eq {a a' : List Iv} {x z : Nat} (h : Suf a a' x) (hz : x ≤ z) : mem a z = mem a' z := by
  obtain ⟨d, rfl, h2⟩ := h
  rw [mem_append]
  have : mem d z = false := by
    cases e : mem d z with
    | false => rfl
    | true => obtain ⟨s, hs, _, h3⟩ := mem_iff.1 e; have := h2 s hs; omega
  rw [this, Bool.false_or]
theorem Suf.nrm {a a' : List Iv} {x n : Nat} (ha : NF n a) (h : Suf a a' x) : NF n a' := by
  obtain ⟨d, rfl, h2⟩ := h
  clear h2
  induction d generalizing n with
  | nil => exact ha
  | cons s d ih => exact ih ha.tail
theorem Suf.nxt_eq {a a' : List Iv} {x z n : Nat} (ha : NF n a) (h : Suf a a' x) (hz : x ≤ z) : nxt a z = nxt a' z := by
  obtain ⟨d, rfl, h2⟩ := h
  induction d generalizing n with
  | nil => rfl
  | cons s d ih =>
    rw [List.cons_append, nxt_drop (by have := h2 s (by simp); omega) ha.2.1]
    exact ih (fun t ht => h2 t (by simp [ht])) ha.2.2.2
theorem mem_head {a' : List Iv} {s : Iv} {x n : Nat} (ha : NF n (s :: a')) (h : x ≤ s.hi) : mem (s :: a') x = decide (s.lo ≤ x) := by
  rw [mem_cons, ha.2.2.2.mem_lt (by omega)]
  simp [h]

/-- The values that yield is handed. -/
def encP (x : Iv × Bool × Bool) : Array Value := #[.agg #[.int .u64 x.1.lo, .int .u64 x.1.hi], .agg #[.bool x.2.1, .bool x.2.2]]

/-- What holds of the closure's two boxes while it is at the number x. -/
structure PInv (a b : List Iv) (Ba Bb n0 : Nat) (w : World) (x : Nat) (a' b' : List Iv) (va vb : Value) : Prop where
  bxa : Boxed w Ba 23 va
  bxb : Boxed w Bb 23 vb
  ra : RdR 0 n0 w va a'
  rb : RdR 0 n0 w vb b'
  sa : Suf a a' x
  sb : Suf b b' x
theorem PInv.at {a b : List Iv} {Ba Bb n0 : Nat} {S : Nat → Prop} {w w' : World} {x y : Nat} {a' b' : List Iv} {va vb : Value} (h : PInv a b Ba Bb n0 w x a' b' va vb) (hk : Keep S w w') (hn : n0 ≤ w.heap.size) (hs : ∀ k, k < n0 ∨ k = Ba ∨ k = Bb → ¬ S k) (hy : x ≤ y) :
    PInv a b Ba Bb n0 w' y a' b' va vb :=
  ⟨hk.boxed h.bxa (hs _ (.inr (.inl rfl))), hk.boxed h.bxb (hs _ (.inr (.inr rfl))), h.ra.keep (Nat.le_refl _) (Nat.le_refl _) fun b _ h2 => hk.block b (by omega) (hs b (.inl h2)),
    h.rb.keep (Nat.le_refl _) (Nat.le_refl _) fun b _ h2 => hk.block b (by omega) (hs b (.inl h2)), h.sa.mono hy, h.sb.mono hy⟩
theorem PInv.setA {a b : List Iv} {Ba Bb n0 : Nat} {w : World} {x : Nat} {s : Iv} {a' b' : List Iv} {va va' vb : Value} (h : PInv a b Ba Bb n0 w x (s :: a') b' va vb) (hB : n0 ≤ Ba) (hne : Ba ≠ Bb) (hs : s.hi < x) (hr : RdR 0 n0 w va' a') :
    PInv a b Ba Bb n0 (w.setCell ⟨Ba, 0, none⟩ va') x a' b' va' vb :=
  ⟨h.bxa.set va', h.bxb.other hne.symm va', hr.keep (Nat.le_refl _) (Nat.le_refl _) fun b _ h2 => Below.heap_setCell _ _ _ _ (by show b ≠ Ba; omega),
    h.rb.keep (Nat.le_refl _) (Nat.le_refl _) fun b _ h2 => Below.heap_setCell _ _ _ _ (by show b ≠ Ba; omega), h.sa.drop hs, h.sb⟩
theorem PInv.setB {a b : List Iv} {Ba Bb n0 : Nat} {w : World} {x : Nat} {s : Iv} {a' b' : List Iv} {va vb vb' : Value} (h : PInv a b Ba Bb n0 w x a' (s :: b') va vb) (hB : n0 ≤ Bb) (hne : Ba ≠ Bb) (hs : s.hi < x) (hr : RdR 0 n0 w vb' b') :
    PInv a b Ba Bb n0 (w.setCell ⟨Bb, 0, none⟩ vb') x a' b' va vb' :=
  ⟨h.bxa.other hne vb', h.bxb.set vb', h.ra.keep (Nat.le_refl _) (Nat.le_refl _) fun b _ h2 => Below.heap_setCell _ _ _ _ (by show b ≠ Bb; omega),
    hr.keep (Nat.le_refl _) (Nat.le_refl _) fun b _ h2 => Below.heap_setCell _ _ _ _ (by show b ≠ Bb; omega), h.sa, h.sb.drop hs⟩
/-- A list has none left that ends before x. -/
def Fit (a' : List Iv) (x : Nat) : Prop := ∀ s r, a' = s :: r → x ≤ s.hi

theorem RdR.tail {hi : Nat} {w : World} {ad : Option Addr} {n cap : Nat} {s : Iv} {l : List Iv} (h : RdR 0 hi w (.slice ad n cap) (s :: l)) :
    ∃ b off, ad = some ⟨b, off, none⟩ ∧ n = l.length + 1 ∧ b < hi ∧ rdIv w b off s ∧ l.length + 1 ≤ cap ∧ cap ≤ maxLen ∧ RdR 0 hi w (.slice (if cap = 1 then some ⟨b, off, none⟩ else some ⟨b, off + 2, none⟩) l.length (cap - 1)) l := by
  obtain ⟨a, c, hv, h1, h2, h3⟩ := h
  obtain ⟨rfl, rfl, rfl⟩ : ad = a ∧ n = (s :: l).length ∧ cap = c := by simpa using hv
  obtain ⟨b, off, rfl, _, hb, hc⟩ := h3 (by simp)
  refine ⟨b, off, rfl, rfl, hb, (by have := hc 0 (by simp); rwa [Nat.zero_mul, Nat.add_zero] at this), by simpa using h1, h2, ?_⟩
  refine ⟨_, _, rfl, by simp at h1; omega, by omega, fun hne => ?_⟩
  have hl : 0 < l.length := List.length_pos_iff.2 hne
  refine ⟨b, off + 2, by rw [if_neg (by simp at h1; omega)], Nat.zero_le _, hb, fun i hi => ?_⟩
  have := hc (i + 1) (by simp; omega)
  rw [show off + (i + 1) * 2 = off + 2 + i * 2 from by omega] at this
  simpa using this

set_option maxHeartbeats 8000000 in
set_option maxRecDepth 100000 in
theorem pieces1_at (a b : List Iv) (va0 vb0 : Value) (Ba Bb n0 : Nat) (W0 : World) (ha : Nrm a) (hb : Nrm b) (hne : Ba ≠ Bb) (hBa : n0 ≤ Ba) (hBb : n0 ≤ Bb)
    (h00 : PInv a b Ba Bb n0 W0 0 a b va0 vb0) :
    IterAt Tryd.prog 121 #[.pointer (some ⟨Ba, 0, none⟩), .pointer (some ⟨Bb, 0, none⟩)] encP (fun k => k = Ba ∨ k = Bb) (fun k => k < n0 ∨ k = Ba ∨ k = Bb) (pieces a b) W0 := by
  intro l J Jx hJ hJx hY h0
  refine callsIn_wide.2 ?_
  show Calls Tryd.prog 121 #[.func (.yield l) #[] #[], .pointer (some ⟨Ba, 0, none⟩), .pointer (some ⟨Bb, 0, none⟩)] W0 _
  have HJ := Lib.hid hJ
  have HJx := Lib.hid hJx
  have HY := Lib.hid hY
  clear hJ hJx hY
  go_enter Tryd.func121, Tryd.ntmps121
  go_wp2_with fail
  go_loopg [4] M64 (fun g x wr => ∃ (xn f : Nat) (a' b' : List Iv) (va vb : Value) (pre : List (Iv × Bool × Bool)), x = .int .u64 xn ∧ xn < M64 ∧ g = M64 - xn ∧ PInv a b Ba Bb n0 wr xn a' b' va vb ∧ Hid (pieces a b = pre ++ pcs a b f xn) ∧ M64 ≤ f + xn ∧ J pre wr)
  case atStart => exact ⟨0, M64, a, b, va0, vb0, [], rfl, M64_pos, rfl, h00, rfl, by omega, h0⟩
  case round =>
    obtain ⟨xn, f, a', b', va, vb, pre, rfl, hx, rfl, hP, hpc, hf, hJp⟩ := hrel
    clear h0 h00
    go_upto_block 2 with fail
    go_cut [] (fun wc => ∃ a2 va2, PInv a b Ba Bb n0 wc xn a2 b' va2 vb ∧ Fit a2 xn ∧ J pre wc)
    case first =>
      go_wp2_with fail
      go_loopg [] a'.length (fun g wl => ∃ (a2 : List Iv) (va2 : Value), g = a2.length ∧ PInv a b Ba Bb n0 wl xn a2 b' va2 vb ∧ J pre wl)
      case atStart => exact ⟨a', va, rfl, hP, hJp⟩
      case round =>
        clear hP hJp
        obtain ⟨a2, va2, rfl, hP, hJp⟩ := hrel
        have hca := hP.bxa.cell
        have hfa := hP.bxa.frozen
        have hra := hP.ra
        cases a2 with
        | nil =>
          obtain ⟨ad, cap, rfl, _⟩ := hra
          go_wp2
          go_meet
          exact ⟨[], _, hP, (fun _ _ e => by cases e), hJp⟩
        | cons s r =>
          have hva := hra
          obtain ⟨ad, cap, rfl, _⟩ := hva
          obtain ⟨bb, off, rfl, _, hbb, hs, hcap, hcm, htl⟩ := hra.tail
          obtain ⟨c1, c2, s1, s2⟩ := hs
          have HT := Lib.hid htl
          clear hra htl
          unfold maxLen at hcm
          by_cases hlt : s.hi < xn
          · by_cases h1 : cap = 1
            · subst h1
              obtain rfl : r = [] := List.eq_nil_of_length_eq_zero (by omega)
              go_wp2
              go_roundg 0
              case measure => simp
              case rel => exact ⟨[], _, rfl, hP.setA hBa hne hlt (by have := HT.out; simpa using this), HJ.out _ _ _ hJp ((Keep.refl _ _).setCell (p := ⟨Ba, 0, none⟩) (fun _ => .inl rfl) _)⟩
            · go_wp2
              go_roundg r.length
              case measure => simp
              case rel => exact ⟨r, _, rfl, hP.setA hBa hne hlt (by have := HT.out; rw [if_neg h1] at this; simpa using this), HJ.out _ _ _ hJp ((Keep.refl _ _).setCell (p := ⟨Ba, 0, none⟩) (fun _ => .inl rfl) _)⟩
          · go_wp2
            go_meet
            exact ⟨s :: r, _, hP, (fun _ _ e => by cases e; omega), hJp⟩
    case rest =>
      clear hP hJp
      obtain ⟨a2, va2, hP, hFa, hJp⟩ := hcut
      go_upto_block 4 with fail
      go_cut [] (fun wc => ∃ b2 vb2, PInv a b Ba Bb n0 wc xn a2 b2 va2 vb2 ∧ Fit b2 xn ∧ J pre wc)
      case first =>
        go_wp2_with fail
        go_loopg [] b'.length (fun g wl => ∃ (b2 : List Iv) (vb2 : Value), g = b2.length ∧ PInv a b Ba Bb n0 wl xn a2 b2 va2 vb2 ∧ J pre wl)
        case atStart => exact ⟨b', vb, rfl, hP, hJp⟩
        case round =>
          clear hP hJp
          obtain ⟨b2, vb2, rfl, hP, hJp⟩ := hrel
          have hca := hP.bxb.cell
          have hfa := hP.bxb.frozen
          have hra := hP.rb
          cases b2 with
          | nil =>
            obtain ⟨ad, cap, rfl, _⟩ := hra
            go_wp2
            go_meet
            exact ⟨[], _, hP, (fun _ _ e => by cases e), hJp⟩
          | cons s r =>
            have hva := hra
            obtain ⟨ad, cap, rfl, _⟩ := hva
            obtain ⟨bb, off, rfl, _, hbb, hs, hcap, hcm, htl⟩ := hra.tail
            obtain ⟨c1, c2, s1, s2⟩ := hs
            have HT := Lib.hid htl
            clear hra htl
            unfold maxLen at hcm
            by_cases hlt : s.hi < xn
            · by_cases h1 : cap = 1
              · subst h1
                obtain rfl : r = [] := List.eq_nil_of_length_eq_zero (by omega)
                go_wp2
                go_roundg 0
                case measure => simp
                case rel => exact ⟨[], _, rfl, hP.setB hBb hne hlt (by have := HT.out; simpa using this), HJ.out _ _ _ hJp ((Keep.refl _ _).setCell (p := ⟨Bb, 0, none⟩) (fun _ => .inr rfl) _)⟩
              · go_wp2
                go_roundg r.length
                case measure => simp
                case rel => exact ⟨r, _, rfl, hP.setB hBb hne hlt (by have := HT.out; rw [if_neg h1] at this; simpa using this), HJ.out _ _ _ hJp ((Keep.refl _ _).setCell (p := ⟨Bb, 0, none⟩) (fun _ => .inr rfl) _)⟩
            · go_wp2
              go_meet
              exact ⟨s :: r, _, hP, (fun _ _ e => by cases e; omega), hJp⟩
      case rest =>
        clear hP hJp
        obtain ⟨b2, vb2, hP, hFb, hJp⟩ := hcut
        go_upto_region 5 with fail
        go_cut [5] (fun s5 wd => ∃ Bs, s5 = .pointer (some ⟨Bs, 0, none⟩) ∧ PInv a b Ba Bb n0 wd xn a2 b2 va2 vb2 ∧ J pre wd ∧ wd.cell? ⟨Bs, 0, none⟩ = some (.bool (mem a xn)) ∧ wd.cell? ⟨Bs, 1, none⟩ = some (.bool (mem b xn)) ∧ n0 ≤ wd.heap.size)
        case first =>
          have hma := hP.sa.mem_eq (Nat.le_refl _)
          have hmb := hP.sb.mem_eq (Nat.le_refl _)
          have hna := hP.sa.nrm ha
          have hnb := hP.sb.nrm hb
          have ca := hP.bxa.cell
          have cb := hP.bxb.cell
          have hlt1 := hP.bxa.lt
          have hlt2 := hP.bxb.lt
          have hra := hP.ra
          have hrb := hP.rb
          cases a2 with
          | nil =>
            obtain ⟨ad, capa, rfl, _⟩ := hra
            have HMA := Lib.hid hma
            clear hma hna
            cases b2 with
            | nil =>
              obtain ⟨bd, capb, rfl, _⟩ := hrb
              have HMB := Lib.hid hmb
              clear hmb hnb
              have hwn : n0 ≤ wc.heap.size := by omega
              have HP := Lib.hid (And.intro hP (And.intro hJp (And.intro hFa hFb)))
              clear hP hFa hFb hlt1 hlt2 hf
              refine regG 24 99 (fun w' => w'.cell? ⟨Ba, 0, none⟩ = some (.slice ad 0 capa) ∧ w'.cell? ⟨Bb, 0, none⟩ = some (.slice bd 0 capb)) (by kernel_rfl) (by kernel_rfl) rfl ⟨ca, cb⟩ ?_
              simp only [List.take_succ_cons, List.take_zero]
              repeat (first
                | (refine wdet ?_ rfl (fun a w hc _ hr => ?_) ?_; rotate_left; (simp [Rds, rdsO, lk, Op.operands, Call.operands, RdEq] at hr; go_simp; with_reducible rfl); dsimp only [List.nil_append, List.cons_append])
                | (refine wskip rfl ?_ ?_; (first | exact .inl (isV_eq rfl rfl) | exact .inr (isV_eq rfl rfl)); dsimp only [List.nil_append, List.cons_append])
                | (refine wdetg rfl ?_ ?_ (fun a w hc _ hr => ?_) ?_; exact (isV_eq rfl rfl); rotate_left; (simp [Rds, rdsO, lk, Op.operands, Call.operands, RdEq] at hr; go_simp; with_reducible rfl); dsimp only [List.nil_append, List.cons_append]))
              refine wgen (fun u w => ∃ B, u = .pointer (some ⟨B, 0, none⟩) ∧ w.heap[B]? = some (.cells #[.bool false, .bool false] 74 (0, 0)) ∧ wc.heap.size ≤ B) (fun u w w' ⟨B, h1, h2, h3⟩ hk => ⟨B, h1, hk.obj h2 id, h3⟩) rfl ?_ ?_
              · intro a w hc hk hr K hK
                have HK := Lib.hid hK
                clear hK
                go_simp
                exact HK.out _ _ ((Keep.refl _ _).alloc _) ⟨((Keep.refl NoB w).alloc _).cell_some hc.1 id, ((Keep.refl NoB w).alloc _).cell_some hc.2 id⟩ ⟨w.heap.size, rfl, World.alloc_heap_new w _, hk.size⟩
              dsimp only [List.nil_append, List.cons_append]
              intro w hc hk
              simp only [finG, forall_eq]
              rintro u ⟨B, rfl, hB, hBn⟩
              simp only [List.drop_succ_cons, List.drop_zero]
              have c0 : w.cell? ⟨B, 0, none⟩ = some (.bool false) := by simp [World.cell?, hB]
              have c1 : w.cell? ⟨B, 1, none⟩ = some (.bool false) := by simp [World.cell?, hB]
              have f0 : w.frozen? ⟨B, 0, none⟩ = false := by simp [World.frozen?, hB]
              have f1 : w.frozen? ⟨B, 1, none⟩ = false := by simp [World.frozen?, hB]
              clear hB hc
              simp only [Act.put, List.setIfInBounds_toArray, List.set_cons_succ, List.set_cons_zero]
              go_wp2
              go_meet
              have hkk : ∀ u v, Keep NoB wc ((w.setCell ⟨B, 0, none⟩ u).setCell ⟨B, 1, none⟩ v) := fun u v => ((((Keep.refl NoB wc).drew).trans hk).setCell (p := ⟨B, 0, none⟩) (fun h => by exact absurd h (by simpa using hBn)) _).setCell (p := ⟨B, 1, none⟩) (fun h => by exact absurd h (by simpa using hBn)) _
              exact ⟨B, rfl, HP.out.1.at (hkk _ _) hwn (fun _ _ => id) (Nat.le_refl _), HJ.out _ _ _ HP.out.2.1 ((hkk _ _).mono fun _ _ h => h.elim), by rw [HMA.out]; go_simp, by rw [HMB.out]; go_simp, Nat.le_trans hwn (hkk _ _).size⟩
            | cons t r2 =>
              have hvb := hrb
              obtain ⟨bd, capb, rfl, _⟩ := hvb
              obtain ⟨bb, ob, rfl, _, _, hsb, hcapb, hcmb, _⟩ := hrb.tail
              have HMB := Lib.hid (hmb.trans (mem_head hnb (hFb _ _ rfl)))
              have ct := hsb.1
              unfold maxLen at hcmb
              clear hmb hnb hrb hsb
              have hwn : n0 ≤ wc.heap.size := by omega
              have HP := Lib.hid (And.intro hP (And.intro hJp (And.intro hFa hFb)))
              clear hP hFa hFb hlt1 hlt2 hf
              refine regG 24 99 (fun w' => w'.cell? ⟨Ba, 0, none⟩ = some (.slice ad 0 capa) ∧ w'.cell? ⟨Bb, 0, none⟩ = some (.slice (some ⟨bb, ob, none⟩) (r2.length + 1) capb) ∧ w'.cell? ⟨bb, ob, none⟩ = some (.int .u64 t.lo)) (by kernel_rfl) (by kernel_rfl) rfl ⟨ca, cb, ct⟩ ?_
              simp only [List.take_succ_cons, List.take_zero]
              repeat (first
                | (refine wdet ?_ rfl (fun a w hc _ hr => ?_) ?_; rotate_left; (simp [Rds, rdsO, lk, Op.operands, Call.operands, RdEq] at hr; go_simp; with_reducible rfl); dsimp only [List.nil_append, List.cons_append])
                | (refine wskip rfl ?_ ?_; (first | exact .inl (isV_eq rfl rfl) | exact .inr (isV_eq rfl rfl)); dsimp only [List.nil_append, List.cons_append])
                | (refine wdetg rfl ?_ ?_ (fun a w hc _ hr => ?_) ?_; exact (isV_eq rfl rfl); rotate_left; (simp [Rds, rdsO, lk, Op.operands, Call.operands, RdEq] at hr; go_simp; with_reducible rfl); dsimp only [List.nil_append, List.cons_append]))
              refine wgen (fun u w => ∃ B, u = .pointer (some ⟨B, 0, none⟩) ∧ w.heap[B]? = some (.cells #[.bool false, .bool false] 74 (0, 0)) ∧ wc.heap.size ≤ B) (fun u w w' ⟨B, h1, h2, h3⟩ hk => ⟨B, h1, hk.obj h2 id, h3⟩) rfl ?_ ?_
              · intro a w hc hk hr K hK
                have HK := Lib.hid hK
                clear hK
                go_simp
                exact HK.out _ _ ((Keep.refl _ _).alloc _) ⟨((Keep.refl NoB w).alloc _).cell_some hc.1 id, ((Keep.refl NoB w).alloc _).cell_some hc.2.1 id, ((Keep.refl NoB w).alloc _).cell_some hc.2.2 id⟩ ⟨w.heap.size, rfl, World.alloc_heap_new w _, hk.size⟩
              dsimp only [List.nil_append, List.cons_append]
              intro w hc hk
              simp only [finG, forall_eq]
              rintro u ⟨B, rfl, hB, hBn⟩
              simp only [List.drop_succ_cons, List.drop_zero]
              have c0 : w.cell? ⟨B, 0, none⟩ = some (.bool false) := by simp [World.cell?, hB]
              have c1 : w.cell? ⟨B, 1, none⟩ = some (.bool false) := by simp [World.cell?, hB]
              have f0 : w.frozen? ⟨B, 0, none⟩ = false := by simp [World.frozen?, hB]
              have f1 : w.frozen? ⟨B, 1, none⟩ = false := by simp [World.frozen?, hB]
              clear hB hc
              simp only [Act.put, List.setIfInBounds_toArray, List.set_cons_succ, List.set_cons_zero]
              go_wp2
              go_meet
              have hkk : ∀ u v, Keep NoB wc ((w.setCell ⟨B, 0, none⟩ u).setCell ⟨B, 1, none⟩ v) := fun u v => ((((Keep.refl NoB wc).drew).trans hk).setCell (p := ⟨B, 0, none⟩) (fun h => by exact absurd h (by simpa using hBn)) _).setCell (p := ⟨B, 1, none⟩) (fun h => by exact absurd h (by simpa using hBn)) _
              exact ⟨B, rfl, HP.out.1.at (hkk _ _) hwn (fun _ _ => id) (Nat.le_refl _), HJ.out _ _ _ HP.out.2.1 ((hkk _ _).mono fun _ _ h => h.elim), by rw [HMA.out]; go_simp, by rw [HMB.out]; go_simp, Nat.le_trans hwn (hkk _ _).size⟩
          | cons s r1 =>
            have hva := hra
            obtain ⟨ad, capa, rfl, _⟩ := hva
            obtain ⟨ba, oa, rfl, _, _, hsa, hcapa, hcma, _⟩ := hra.tail
            have HMA := Lib.hid (hma.trans (mem_head hna (hFa _ _ rfl)))
            have cs := hsa.1
            unfold maxLen at hcma
            clear hma hna hra hsa
            cases b2 with
            | nil =>
              obtain ⟨bd, capb, rfl, _⟩ := hrb
              have HMB := Lib.hid hmb
              clear hmb hnb
              have hwn : n0 ≤ wc.heap.size := by omega
              have HP := Lib.hid (And.intro hP (And.intro hJp (And.intro hFa hFb)))
              clear hP hFa hFb hlt1 hlt2 hf
              refine regG 24 99 (fun w' => w'.cell? ⟨Ba, 0, none⟩ = some (.slice (some ⟨ba, oa, none⟩) (r1.length + 1) capa) ∧ w'.cell? ⟨Bb, 0, none⟩ = some (.slice bd 0 capb) ∧ w'.cell? ⟨ba, oa, none⟩ = some (.int .u64 s.lo)) (by kernel_rfl) (by kernel_rfl) rfl ⟨ca, cb, cs⟩ ?_
              simp only [List.take_succ_cons, List.take_zero]
              repeat (first
                | (refine wdet ?_ rfl (fun a w hc _ hr => ?_) ?_; rotate_left; (simp [Rds, rdsO, lk, Op.operands, Call.operands, RdEq] at hr; go_simp; with_reducible rfl); dsimp only [List.nil_append, List.cons_append])
                | (refine wskip rfl ?_ ?_; (first | exact .inl (isV_eq rfl rfl) | exact .inr (isV_eq rfl rfl)); dsimp only [List.nil_append, List.cons_append])
                | (refine wdetg rfl ?_ ?_ (fun a w hc _ hr => ?_) ?_; exact (isV_eq rfl rfl); rotate_left; (simp [Rds, rdsO, lk, Op.operands, Call.operands, RdEq] at hr; go_simp; with_reducible rfl); dsimp only [List.nil_append, List.cons_append]))
              refine wgen (fun u w => ∃ B, u = .pointer (some ⟨B, 0, none⟩) ∧ w.heap[B]? = some (.cells #[.bool false, .bool false] 74 (0, 0)) ∧ wc.heap.size ≤ B) (fun u w w' ⟨B, h1, h2, h3⟩ hk => ⟨B, h1, hk.obj h2 id, h3⟩) rfl ?_ ?_
              · intro a w hc hk hr K hK
                have HK := Lib.hid hK
                clear hK
                go_simp
                exact HK.out _ _ ((Keep.refl _ _).alloc _) ⟨((Keep.refl NoB w).alloc _).cell_some hc.1 id, ((Keep.refl NoB w).alloc _).cell_some hc.2.1 id, ((Keep.refl NoB w).alloc _).cell_some hc.2.2 id⟩ ⟨w.heap.size, rfl, World.alloc_heap_new w _, hk.size⟩
              dsimp only [List.nil_append, List.cons_append]
              intro w hc hk
              simp only [finG, forall_eq]
              rintro u ⟨B, rfl, hB, hBn⟩
              simp only [List.drop_succ_cons, List.drop_zero]
              have c0 : w.cell? ⟨B, 0, none⟩ = some (.bool false) := by simp [World.cell?, hB]
              have c1 : w.cell? ⟨B, 1, none⟩ = some (.bool false) := by simp [World.cell?, hB]
              have f0 : w.frozen? ⟨B, 0, none⟩ = false := by simp [World.frozen?, hB]
              have f1 : w.frozen? ⟨B, 1, none⟩ = false := by simp [World.frozen?, hB]
              clear hB hc
              simp only [Act.put, List.setIfInBounds_toArray, List.set_cons_succ, List.set_cons_zero]
              go_wp2
              go_meet
              have hkk : ∀ u v, Keep NoB wc ((w.setCell ⟨B, 0, none⟩ u).setCell ⟨B, 1, none⟩ v) := fun u v => ((((Keep.refl NoB wc).drew).trans hk).setCell (p := ⟨B, 0, none⟩) (fun h => by exact absurd h (by simpa using hBn)) _).setCell (p := ⟨B, 1, none⟩) (fun h => by exact absurd h (by simpa using hBn)) _
              exact ⟨B, rfl, HP.out.1.at (hkk _ _) hwn (fun _ _ => id) (Nat.le_refl _), HJ.out _ _ _ HP.out.2.1 ((hkk _ _).mono fun _ _ h => h.elim), by rw [HMA.out]; go_simp, by rw [HMB.out]; go_simp, Nat.le_trans hwn (hkk _ _).size⟩
            | cons t r2 =>
              have hvb := hrb
              obtain ⟨bd, capb, rfl, _⟩ := hvb
              obtain ⟨bb, ob, rfl, _, _, hsb, hcapb, hcmb, _⟩ := hrb.tail
              have HMB := Lib.hid (hmb.trans (mem_head hnb (hFb _ _ rfl)))
              have ct := hsb.1
              unfold maxLen at hcmb
              clear hmb hnb hrb hsb
              have hwn : n0 ≤ wc.heap.size := by omega
              have HP := Lib.hid (And.intro hP (And.intro hJp (And.intro hFa hFb)))
              clear hP hFa hFb hlt1 hlt2 hf
              refine regG 24 99 (fun w' => w'.cell? ⟨Ba, 0, none⟩ = some (.slice (some ⟨ba, oa, none⟩) (r1.length + 1) capa) ∧ w'.cell? ⟨Bb, 0, none⟩ = some (.slice (some ⟨bb, ob, none⟩) (r2.length + 1) capb) ∧ w'.cell? ⟨ba, oa, none⟩ = some (.int .u64 s.lo) ∧ w'.cell? ⟨bb, ob, none⟩ = some (.int .u64 t.lo)) (by kernel_rfl) (by kernel_rfl) rfl ⟨ca, cb, cs, ct⟩ ?_
              simp only [List.take_succ_cons, List.take_zero]
              repeat (first
                | (refine wdet ?_ rfl (fun a w hc _ hr => ?_) ?_; rotate_left; (simp [Rds, rdsO, lk, Op.operands, Call.operands, RdEq] at hr; go_simp; with_reducible rfl); dsimp only [List.nil_append, List.cons_append])
                | (refine wskip rfl ?_ ?_; (first | exact .inl (isV_eq rfl rfl) | exact .inr (isV_eq rfl rfl)); dsimp only [List.nil_append, List.cons_append])
                | (refine wdetg rfl ?_ ?_ (fun a w hc _ hr => ?_) ?_; exact (isV_eq rfl rfl); rotate_left; (simp [Rds, rdsO, lk, Op.operands, Call.operands, RdEq] at hr; go_simp; with_reducible rfl); dsimp only [List.nil_append, List.cons_append]))
              refine wgen (fun u w => ∃ B, u = .pointer (some ⟨B, 0, none⟩) ∧ w.heap[B]? = some (.cells #[.bool false, .bool false] 74 (0, 0)) ∧ wc.heap.size ≤ B) (fun u w w' ⟨B, h1, h2, h3⟩ hk => ⟨B, h1, hk.obj h2 id, h3⟩) rfl ?_ ?_
              · intro a w hc hk hr K hK
                have HK := Lib.hid hK
                clear hK
                go_simp
                exact HK.out _ _ ((Keep.refl _ _).alloc _) ⟨((Keep.refl NoB w).alloc _).cell_some hc.1 id, ((Keep.refl NoB w).alloc _).cell_some hc.2.1 id, ((Keep.refl NoB w).alloc _).cell_some hc.2.2.1 id, ((Keep.refl NoB w).alloc _).cell_some hc.2.2.2 id⟩ ⟨w.heap.size, rfl, World.alloc_heap_new w _, hk.size⟩
              dsimp only [List.nil_append, List.cons_append]
              intro w hc hk
              simp only [finG, forall_eq]
              rintro u ⟨B, rfl, hB, hBn⟩
              simp only [List.drop_succ_cons, List.drop_zero]
              have c0 : w.cell? ⟨B, 0, none⟩ = some (.bool false) := by simp [World.cell?, hB]
              have c1 : w.cell? ⟨B, 1, none⟩ = some (.bool false) := by simp [World.cell?, hB]
              have f0 : w.frozen? ⟨B, 0, none⟩ = false := by simp [World.frozen?, hB]
              have f1 : w.frozen? ⟨B, 1, none⟩ = false := by simp [World.frozen?, hB]
              clear hB hc
              simp only [Act.put, List.setIfInBounds_toArray, List.set_cons_succ, List.set_cons_zero]
              go_wp2
              go_meet
              have hkk : ∀ u v, Keep NoB wc ((w.setCell ⟨B, 0, none⟩ u).setCell ⟨B, 1, none⟩ v) := fun u v => ((((Keep.refl NoB wc).drew).trans hk).setCell (p := ⟨B, 0, none⟩) (fun h => by exact absurd h (by simpa using hBn)) _).setCell (p := ⟨B, 1, none⟩) (fun h => by exact absurd h (by simpa using hBn)) _
              exact ⟨B, rfl, HP.out.1.at (hkk _ _) hwn (fun _ _ => id) (Nat.le_refl _), HJ.out _ _ _ HP.out.2.1 ((hkk _ _).mono fun _ _ h => h.elim), by rw [HMA.out]; go_simp, by rw [HMB.out]; go_simp, Nat.le_trans hwn (hkk _ _).size⟩
        case rest =>
          clear hP hJp
          obtain ⟨Bs, rfl, hP, hJp, hs0, hs1, hn0⟩ := hcut
          have hnA : nxt a xn = nxt a2 xn := hP.sa.nxt_eq ha (Nat.le_refl _)
          have hnB : nxt b xn = nxt b2 xn := hP.sb.nxt_eq hb (Nat.le_refl _)
          have HNA := Lib.hid hnA
          have HNB := Lib.hid hnB
          clear hnA hnB hFa hFb
          obtain ⟨pa, hpa⟩ : ∃ p, mem a xn = p := ⟨_, rfl⟩
          obtain ⟨pb, hpb⟩ : ∃ p, mem b xn = p := ⟨_, rfl⟩
          rw [hpa] at hs0
          rw [hpb] at hs1
          have HPA := Lib.hid hpa
          have HPB := Lib.hid hpb
          clear hpa hpb
          have ca := hP.bxa.cell
          have hlb := hP.bxb.lt
          have hls : Bs < wc.heap.size := World.block_lt_of_cell? wc _ hs0
          go_wp2_with fail
          refine (next_two a2 va2 xn _ (hP.ra.keep (Nat.le_refl _) hn0 fun _ _ _ => rfl)).mono ?_
          rintro e w1 ⟨n1, m1, rfl, hm1, hb1⟩
          clear ca
          have hP1 := hP.at (S := NoB) (Keep.of_below' hb1 (Nat.le_refl _)) hn0 (fun _ _ => id) (Nat.le_refl _)
          have hJ1 := HJ.out _ _ _ hJp (Keep.of_below' hb1 (Nat.le_refl _))
          have hs0 := (hb1.cell (p := ⟨Bs, 0, none⟩) hls).trans hs0
          have hs1 := (hb1.cell (p := ⟨Bs, 1, none⟩) hls).trans hs1
          have hn1 : n0 ≤ w1.heap.size := Nat.le_trans hn0 hb1.size
          have hls := World.block_lt_of_cell? w1 _ hs0
          clear hP hJp hb1 hn0
          have cb := hP1.bxb.cell
          go_wp2_with fail
          refine (next_two b2 vb2 xn _ (hP1.rb.keep (Nat.le_refl _) hn1 fun _ _ _ => rfl)).mono ?_
          rintro e w2 ⟨n2, m2, rfl, hm2, hb2⟩
          clear cb
          have hP2 := hP1.at (S := NoB) (Keep.of_below' hb2 (Nat.le_refl _)) hn1 (fun _ _ => id) (Nat.le_refl _)
          have hJ2 := HJ.out _ _ _ hJ1 (Keep.of_below' hb2 (Nat.le_refl _))
          have hs0 := (hb2.cell (p := ⟨Bs, 0, none⟩) hls).trans hs0
          have hs1 := (hb2.cell (p := ⟨Bs, 1, none⟩) hls).trans hs1
          have hn2 : n0 ≤ w2.heap.size := Nat.le_trans hn1 hb2.size
          clear hP1 hJ1 hb2 hn1
          go_upto_region 8 with fail
          go_cut [81] (fun s81 wx => ∃ c : Bool, s81 = .bool c ∧ wx = w2 ∧ Hid (c = (m2 && (!m1 || decide (n2 < n1)))))
          case first =>
            cases m2
            · go_wp2_with fail
              go_meet
              exact ⟨false, rfl, rfl, rfl⟩
            · cases m1
              · go_wp2_with fail
                go_meet
                exact ⟨true, rfl, rfl, rfl⟩
              · go_wp2_with fail
                go_meet
                exact ⟨_, rfl, rfl, by simp [Hid]⟩
          case rest =>
            obtain ⟨c, rfl, rfl, hc⟩ := hcut
            cases c with
            | true =>
              have hm : m2 = true ∧ minO (nxt a xn) (nxt b xn) = some n2 := by
                have := hc.out
                rw [HNA.out, HNB.out, hm1.out, hm2.out]
                cases m2 <;> cases m1 <;> simp [minO] at this ⊢
                omega
              obtain ⟨rfl, hmin⟩ := hm
              have hmin := Lib.hid hmin
              have hnx : Hid (nxt b xn = some n2) := by show _ = _; rw [HNB.out, hm2.out]; rfl
              clear hc hm1 hm2 HNA HNB
              have hy0 : xn < n2 ∧ n2 < M64 := by
                have h := hnx.out
                exact ⟨nxt_gt h, nxt_lt hb h⟩
              obtain ⟨f', rfl⟩ : ∃ f', f = f' + 1 := ⟨f - 1, by omega⟩
              have hpcs : Hid (pcs a b (f' + 1) xn = (⟨xn, n2 - 1⟩, pa, pb) :: pcs a b f' n2) := by
                show pcs a b (f' + 1) xn = _
                conv => lhs; unfold pcs
                rw [hmin.out, HPA.out, HPB.out]
              obtain ⟨fn, tmps, assign, body, hy, hR⟩ := HY.out pre (⟨xn, n2 - 1⟩, pa, pb) wc hJ2 ⟨pcs a b f' n2, by rw [hpc.out, hpcs.out]; simp⟩
              dsimp only [encP] at hy
              have hw1 : IntKind.u64.wrap ((n2 : Int) - 1) = ((n2 - 1 : Nat) : Int) := wrap_sub1 (by omega) hy0.2
              obtain ⟨y1, hy1⟩ : ∃ y1, y1 = n2 - 1 := ⟨_, rfl⟩
              rw [← hy1] at hy hw1 hR
              have HY1 := Lib.hid hy1
              clear hy1
              go_upto_region 13 with fail
              refine (wpIn_wide (n := 8)).1 ?_
              gi_wp2
              refine hR.mono ?_
              rintro e w3 (⟨rfl, hJ3, hk3⟩ | ⟨rfl, hJx3⟩)
              · gi_wp2
                go_wp2
                go_roundg (M64 - n2)
                case measure => omega
                case rel => exact ⟨n2, f', a2, b2, va2, vb2, pre ++ [(⟨xn, y1⟩, pa, pb)], rfl, hy0.2, rfl, hP2.at hk3 hn2 (fun k hk h => h hk) (by omega), by show pieces a b = _; rw [hpc.out, hpcs.out, HY1.out]; simp, by omega, hJ3⟩
              · gi_wp2
                go_wp2
                refine bodyPost_ret (results_none rfl _ _ _) rfl ?_
                exact ⟨⟨_, rfl⟩, .inr ⟨pre ++ [(⟨xn, y1⟩, pa, pb)], ⟨pcs a b f' n2, by rw [hpc.out, hpcs.out, HY1.out]; simp⟩, hJx3⟩⟩
            | false =>
              cases m1 with
              | true =>
                have hmin : Hid (minO (nxt a xn) (nxt b xn) = some n1) := by
                  have := hc.out
                  show _ = _
                  rw [HNA.out, HNB.out, hm1.out, hm2.out]
                  cases m2 <;> simp [minO] at this ⊢
                  omega
                have hnx : Hid (nxt a xn = some n1) := by show _ = _; rw [HNA.out, hm1.out]; rfl
                clear hc hm1 hm2 HNA HNB
                have hy0 : xn < n1 ∧ n1 < M64 := by
                  have h := hnx.out
                  exact ⟨nxt_gt h, nxt_lt ha h⟩
                obtain ⟨f', rfl⟩ : ∃ f', f = f' + 1 := ⟨f - 1, by omega⟩
                have hpcs : Hid (pcs a b (f' + 1) xn = (⟨xn, n1 - 1⟩, pa, pb) :: pcs a b f' n1) := by
                  show pcs a b (f' + 1) xn = _
                  conv => lhs; unfold pcs
                  rw [hmin.out, HPA.out, HPB.out]
                obtain ⟨fn, tmps, assign, body, hy, hR⟩ := HY.out pre (⟨xn, n1 - 1⟩, pa, pb) wc hJ2 ⟨pcs a b f' n1, by rw [hpc.out, hpcs.out]; simp⟩
                dsimp only [encP] at hy
                have hw1 : IntKind.u64.wrap ((n1 : Int) - 1) = ((n1 - 1 : Nat) : Int) := wrap_sub1 (by omega) hy0.2
                obtain ⟨y1, hy1⟩ : ∃ y1, y1 = n1 - 1 := ⟨_, rfl⟩
                rw [← hy1] at hy hw1 hR
                have HY1 := Lib.hid hy1
                clear hy1
                go_upto_region 13 with fail
                refine (wpIn_wide (n := 8)).1 ?_
                gi_wp2
                refine hR.mono ?_
                rintro e w3 (⟨rfl, hJ3, hk3⟩ | ⟨rfl, hJx3⟩)
                · gi_wp2
                  go_wp2
                  go_roundg (M64 - n1)
                  case measure => omega
                  case rel => exact ⟨n1, f', a2, b2, va2, vb2, pre ++ [(⟨xn, y1⟩, pa, pb)], rfl, hy0.2, rfl, hP2.at hk3 hn2 (fun k hk h => h hk) (by omega), by show pieces a b = _; rw [hpc.out, hpcs.out, HY1.out]; simp, by omega, hJ3⟩
                · gi_wp2
                  go_wp2
                  refine bodyPost_ret (results_none rfl _ _ _) rfl ?_
                  exact ⟨⟨_, rfl⟩, .inr ⟨pre ++ [(⟨xn, y1⟩, pa, pb)], ⟨pcs a b f' n1, by rw [hpc.out, hpcs.out, HY1.out]; simp⟩, hJx3⟩⟩
              | false =>
                have hmin : Hid (minO (nxt a xn) (nxt b xn) = none) := by
                  have := hc.out
                  show _ = _
                  rw [HNA.out, HNB.out, hm1.out, hm2.out]
                  cases m2 <;> simp [minO] at this ⊢
                clear hc hm1 hm2 HNA HNB
                obtain ⟨f', rfl⟩ : ∃ f', f = f' + 1 := ⟨f - 1, by omega⟩
                have hpcs : Hid (pcs a b (f' + 1) xn = [(⟨xn, M64 - 1⟩, pa, pb)]) := by
                  show pcs a b (f' + 1) xn = _
                  conv => lhs; unfold pcs
                  rw [hmin.out, HPA.out, HPB.out]
                obtain ⟨fn, tmps, assign, body, hy, hR⟩ := HY.out pre (⟨xn, M64 - 1⟩, pa, pb) wc hJ2 ⟨[], by rw [hpc.out, hpcs.out]; simp⟩
                dsimp only [encP] at hy
                rw [show ((M64 - 1 : Nat) : Int) = 18446744073709551615 from rfl] at hy
                go_upto_region 13 with fail
                refine (wpIn_wide (n := 8)).1 ?_
                gi_wp2
                refine hR.mono ?_
                rintro e w3 (⟨rfl, hJ3, hk3⟩ | ⟨rfl, hJx3⟩)
                · gi_wp2
                  go_wp2
                  refine bodyPost_ret (results_none rfl _ _ _) rfl ?_
                  exact ⟨⟨_, rfl⟩, .inl (by rw [hpc.out, hpcs.out]; exact hJ3)⟩
                · gi_wp2
                  go_wp2
                  refine bodyPost_ret (results_none rfl _ _ _) rfl ?_
                  exact ⟨⟨_, rfl⟩, .inr ⟨pre ++ [(⟨xn, M64 - 1⟩, pa, pb)], ⟨[], by rw [hpc.out, hpcs.out]; simp⟩, hJx3⟩⟩
end Go.Proofs.YtcedofkenfddkaaDoor
