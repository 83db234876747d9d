/- The contracts of the references of the layers 3 and 4: Right, Relate, Check, Same. No condition but that the numbers are of 64 bits. -/
import Derived.Test.YtcedofkenfddkaaDoorSetE
import Derived.BigQuiet
import Derived.Deep.QuietTactic
namespace Go.Proofs.YtcedofkenfddkaaDoor
set_option linter.unusedVariables false
set_option linter.unusedSimpArgs false
open Go.RowKit

theorem refRight_any (s : Iv) (w : World) : Calls Tryd.prog 108 #[.agg #[.int .u64 s.lo, .int .u64 s.hi]] w fun e w' => e = .returned (.bool (decide (s.lo ≤ s.hi))) ∧ Below w.heap.size w w' := by
  go_enter Tryd.func108, Tryd.ntmps108
  go_wp2
  go_ret
  exact ⟨rfl, (Below.refl _ _).alloc (Nat.le_refl _) _⟩

theorem refRight_is (s : Iv) (c : Bool) (h : decide (s.lo ≤ s.hi) = c) (w : World) : Calls Tryd.prog 108 #[.agg #[.int .u64 s.lo, .int .u64 s.hi]] w fun e w' => e = .returned (.bool c) ∧ Below w.heap.size w w' := by
  rw [← h]; exact refRight_any s w
theorem sub_one_eq {x y : Nat} (h : x < y) (hy : y < M64) : (IntKind.u64.wrap ((y : Int) - x) == 1) = decide (x + 1 = y) := by
  rw [wrap_sub (by omega) hy, Bool.eq_iff_iff]
  simp
  omega
theorem refRelate_any (s t : Iv) (w : World) (h1 : s.lo < M64) (h2 : t.lo < M64) :
    Calls Tryd.prog 109 #[.agg #[.int .u64 s.lo, .int .u64 s.hi], .agg #[.int .u64 t.lo, .int .u64 t.hi]] w fun e w' => e = .returned (.int .i64 (relate s t)) ∧ Below w.heap.size w w' := by
  have H : ∀ n : Nat, relate s t = n → Hid (relate s t = n) := fun _ h => h
  by_cases c1 : s.hi < t.lo
  · have g := sub_one_eq c1 h2
    by_cases c3 : s.hi + 1 = t.lo
    · have R := H 1 (by unfold relate; rw [if_pos c1, if_pos c3])
      rw [decide_eq_true c3] at g
      clear H c3
      go_enter Tryd.func109, Tryd.ntmps109
      go_wp2
      go_ret
      rw [R.out]
      exact ⟨rfl, ((Below.refl _ _).alloc (Nat.le_refl _) _).alloc (by simp) _⟩
    · have R := H 0 (by unfold relate; rw [if_pos c1, if_neg c3])
      rw [decide_eq_false c3] at g
      clear H c3
      go_enter Tryd.func109, Tryd.ntmps109
      go_wp2
      go_ret
      rw [R.out]
      exact ⟨rfl, ((Below.refl _ _).alloc (Nat.le_refl _) _).alloc (by simp) _⟩
  · by_cases c2 : t.hi < s.lo
    · have g := sub_one_eq c2 h1
      by_cases c3 : t.hi + 1 = s.lo
      · have R := H 3 (by unfold relate; rw [if_neg c1, if_pos c2, if_pos c3])
        rw [decide_eq_true c3] at g
        clear H c3
        go_enter Tryd.func109, Tryd.ntmps109
        go_wp2
        go_ret
        rw [R.out]
        exact ⟨rfl, ((Below.refl _ _).alloc (Nat.le_refl _) _).alloc (by simp) _⟩
      · have R := H 4 (by unfold relate; rw [if_neg c1, if_pos c2, if_neg c3])
        rw [decide_eq_false c3] at g
        clear H c3
        go_enter Tryd.func109, Tryd.ntmps109
        go_wp2
        go_ret
        rw [R.out]
        exact ⟨rfl, ((Below.refl _ _).alloc (Nat.le_refl _) _).alloc (by simp) _⟩
    · have R := H 2 (by unfold relate; rw [if_neg c1, if_neg c2])
      clear H
      go_enter Tryd.func109, Tryd.ntmps109
      go_wp2
      go_ret
      rw [R.out]
      exact ⟨rfl, ((Below.refl _ _).alloc (Nat.le_refl _) _).alloc (by simp) _⟩

/-- The error and the index of a list's check. -/
def chkL : Option Iv → List Iv → Nat → Nat × Int
  | _, [], _ => (0, -1)
  | p, s :: l, i => if s.lo ≤ s.hi then (if (match p with | none => 0 | some q => relate q s) = 0 then chkL (some s) l (i + 1) else (3, (i : Int))) else (2, (i : Int))
def chk (l : List Iv) : Nat × Int := chkL none l 0
theorem chkL_nf : ∀ (l : List Iv) (p : Option Iv) (i : Nat), (∀ s ∈ l, s.hi < M64) → ((chkL p l i).1 = 0 ↔ match p with | none => NF 0 l | some q => (∀ s ∈ l, s.lo ≤ s.hi → relate q s = 0 ∨ True) ∧ (l = [] ∨ ∃ s r, l = s :: r ∧ s.lo ≤ s.hi ∧ relate q s = 0 ∧ NF (s.hi + 2) r))
  | [], p, i, _ => by cases p <;> simp [chkL, NF]
  | s :: l, p, i, hb => by
    have ih := chkL_nf l (some s) (i + 1) (fun t ht => hb t (by simp [ht]))
    have hs := hb s (by simp)
    have key : (chkL (some s) l (i + 1)).1 = 0 ↔ NF (s.hi + 2) l := by
      rw [ih]
      constructor
      · rintro ⟨_, rfl | ⟨t, r, rfl, h1, h2, h3⟩⟩
        · trivial
        · refine ⟨?_, h1, hb t (by simp), h3⟩
          unfold relate at h2
          split at h2
          · split at h2
            · cases h2
            · omega
          · split at h2
            · split at h2 <;> cases h2
            · cases h2
      · intro h
        refine ⟨fun _ _ _ => .inr trivial, ?_⟩
        cases l with
        | nil => exact .inl rfl
        | cons t r =>
          have := h.1
          exact .inr ⟨t, r, rfl, h.2.1, by unfold relate; rw [if_pos (by omega), if_neg (by omega)], h.2.2.2⟩
    unfold chkL
    by_cases h1 : s.lo ≤ s.hi
    · rw [if_pos h1]
      cases p with
      | none =>
        simp only [if_true]
        rw [key]
        exact ⟨fun h => ⟨Nat.zero_le _, h1, hs, h⟩, fun h => h.2.2.2⟩
      | some q =>
        simp only
        by_cases h2 : relate q s = 0
        · rw [if_pos h2, key]
          exact ⟨fun h => ⟨fun _ _ _ => .inr trivial, .inr ⟨s, l, rfl, h1, h2, h⟩⟩, fun h => by
            rcases h.2 with h | ⟨t, r, e, _, _, h⟩
            · cases h
            · cases e; exact h⟩
        · rw [if_neg h2]
          simp
          intro _ h; exact absurd h h2
    · rw [if_neg h1]
      cases p with
      | none => simp [NF, h1]
      | some q =>
        simp
        intro h; exact absurd h h1
theorem chk_nrm {l : List Iv} (h : ∀ s ∈ l, s.hi < M64) : (chk l).1 = 0 ↔ Nrm l := chkL_nf l none 0 h
theorem chkL_step {l : List Iv} {k : Nat} {p : Option Iv} (h : k < l.length) : chkL p (l.drop k) k = if l[k].lo ≤ l[k].hi then (if (match p with | none => 0 | some q => relate q l[k]) = 0 then chkL (some l[k]) (l.drop (k + 1)) (k + 1) else (3, (k : Int))) else (2, (k : Int)) := by
  rw [List.drop_eq_getElem_cons h]; rfl

def chkAt (l : List Iv) (k : Nat) (s : Iv) : Prop := chk l = chkL (if k = 0 then none else l[k - 1]?) (l.drop k) k ∧ (chkL (if k = 0 then none else l[k - 1]?) (l.drop k) k = if (match (if k = 0 then none else l[k - 1]?) with | none => 0 | some q => relate q s) = 0 then chkL (some s) (l.drop (k + 1)) (k + 1) else (3, (k : Int)))
theorem refCheck_next {l : List Iv} {k : Nat} {s : Iv} (h : k < l.length) (hs : s = l[k]) (ha : chkAt l k s) (k0 : k = 0) : Hid (chk l = chkL (if k + 1 = 0 then none else l[k + 1 - 1]?) (l.drop (k + 1)) (k + 1)) := by
  subst k0
  show _ = _
  rw [ha.1, ha.2]
  simp only [if_true, Nat.zero_add, Nat.one_ne_zero, if_false, Nat.sub_self, List.getElem?_eq_getElem h, ← hs]
theorem refCheck_next2 {l : List Iv} {j : Nat} {s q : Iv} (h : j + 1 < l.length) (hs : s = l[j + 1]) (ha : chkAt l (j + 1) s) (hq : q = l[j]) (hr : relate q s = 0) : Hid (chk l = chkL (if j + 2 = 0 then none else l[j + 2 - 1]?) (l.drop (j + 2)) (j + 2)) := by
  have e := ha.1.trans ha.2
  simp [List.getElem?_eq_getElem h, ← hs, List.getElem?_eq_getElem (show j < l.length by omega), ← hq, hr] at e
  show _ = _
  rw [e]
  simp [List.getElem?_eq_getElem h, ← hs]
theorem refCheck_last {l : List Iv} {j r : Nat} {s q : Iv} (h : j + 1 < l.length) (ha : chkAt l (j + 1) s) (hq : q = l[j]) (hr : relate q s = r + 1) : chk l = (3, ((j + 1 : Nat) : Int)) := by
  rw [ha.1, ha.2]
  simp [List.getElem?_eq_getElem (show j < l.length by omega), ← hq, hr]

set_option maxHeartbeats 2000000 in
set_option maxRecDepth 100000 in
theorem refCheck_any (l : List Iv) (v : Value) (w : World) (hl : RdR 0 w.heap.size w v l) :
    Calls Tryd.prog 83 #[v] w fun e w' => e = .returned (.tuple #[.int .i64 ((chk l).1 : Int), .int .i64 (chk l).2]) ∧ Below w.heap.size w w' := by
  have hbd := hl.bound
  obtain ⟨a, cap, rfl, hlc, hcm, hc⟩ := hl
  unfold maxLen at hcm
  go_enter Tryd.func83, Tryd.ntmps83
  go_wp2_with fail
  go_loopg [4] (l.length + 1) (fun g i wr => ∃ k : Nat, k ≤ l.length ∧ g = l.length - k + 1 ∧ i = .int .i64 k ∧ Hid (chk l = chkL (if k = 0 then none else l[k - 1]?) (l.drop k) k) ∧ Below w.heap.size w wr)
  case atStart => exact ⟨0, Nat.zero_le _, rfl, rfl, rfl, Below.refl _ _⟩
  case round =>
    obtain ⟨k, hk, rfl, rfl, hn, hB⟩ := hrel
    by_cases hlt : k < l.length
    · obtain ⟨b, off, rfl, _, hb, hcell⟩ := hc (by intro e; subst e; simp at hlt)
      obtain ⟨g1, g2, g3, g4⟩ := hcell k hlt
      have hs := chkL_step (p := if k = 0 then none else l[k - 1]?) hlt
      obtain ⟨s, hsd⟩ : ∃ s, s = l[k] := ⟨_, rfl⟩
      rw [← hsd] at g1 g2 g3 g4 hs
      have c1 : wr.cell? ⟨b, off + k * 2, none⟩ = some (.int .u64 s.lo) := (hB.cell (p := ⟨b, _, none⟩) hb).trans g1
      have c2 : wr.cell? ⟨b, off + k * 2 + 1, none⟩ = some (.int .u64 s.hi) := (hB.cell (p := ⟨b, _, none⟩) hb).trans g2
      have hsz := hB.size
      clear g1 g2
      by_cases t1 : s.lo ≤ s.hi
      · rw [if_pos t1] at hs
        have HR := Lib.hid (fun W => refRight_is s true (by simpa using t1) W)
        have HN : Hid (chkAt l k s ∧ s = l[k] ∧ ∀ (i : Nat) (h : i < l.length), rdIv w b (off + i * 2) l[i]) := ⟨⟨hn.out, hs⟩, hsd, hcell⟩
        clear hs hn hcell hc hsd t1
        go_upto_region 6 with (go_at_call 108; refine (HR.out _).mono ?_; rintro e w1 ⟨rfl, hb1⟩)
        by_cases k0 : k = 0
        · have hz : decide ((0:Int) < k) = false := by simp; omega
          refine regG 15 34 (fun _ => True) (by kernel_rfl) (by kernel_rfl) rfl trivial ?_
          simp only [List.take_succ_cons, List.take_zero]
          repeat (first
            | (refine wdet ?_ rfl (fun a w hc _ hr => ?_) ?_; rotate_left; (simp [Rds, rdsO, lk, Op.operands, Call.operands, RdEq] at hr; go_simp; with_reducible rfl); dsimp only [List.nil_append, List.cons_append])
            | (refine wskip rfl ?_ ?_; (first | exact .inl (isV_eq rfl rfl) | exact .inr (isV_eq rfl rfl)); dsimp only [List.nil_append, List.cons_append])
            | (refine wdetg rfl ?_ ?_ (fun a w hc _ hr => ?_) ?_; exact (isV_eq rfl rfl); rotate_left; (simp [Rds, rdsO, lk, Op.operands, Call.operands, RdEq] at hr; go_simp; with_reducible rfl); dsimp only [List.nil_append, List.cons_append]))
          intro w2 hc2 hk2
          simp only [finG, forall_eq, List.nil_append, List.cons_append, List.drop_succ_cons, List.drop_zero, List.drop_nil]
          simp only [Act.put, List.setIfInBounds_toArray, List.set_cons_succ, List.set_cons_zero]
          have hk3 : Keep NoB w1 w2 := ((Keep.refl NoB w1).drew).trans hk2
          have HZ := Lib.hid k0
          clear hc2 hk2 k0 hz
          go_wp2
          go_roundg (l.length - k)
          case measure => simp
          case rel => exact ⟨k + 1, by omega, by omega, by go_num, refCheck_next hlt HN.out.2.1 HN.out.1 HZ.out, hB.trans ((hb1.trans (hk3.below hb1.size fun _ _ => id)).mono hsz)⟩
        · obtain ⟨j, rfl⟩ : ∃ j, k = j + 1 := ⟨k - 1, by omega⟩
          obtain ⟨q1, q2, q3, q4⟩ := HN.out.2.2 j (by omega)
          obtain ⟨q, hq⟩ : ∃ q, q = l[j] := ⟨_, rfl⟩
          rw [← hq] at q1 q2 q3 q4
          have HQ := Lib.hid hq
          clear hq k0
          have kb : Below w.heap.size w w1 := hB.trans (hb1.mono hsz)
          have d1 : w1.cell? ⟨b, off + j * 2, none⟩ = some (.int .u64 q.lo) := (kb.cell (p := ⟨b, _, none⟩) hb).trans q1
          have d2 : w1.cell? ⟨b, off + j * 2 + 1, none⟩ = some (.int .u64 q.hi) := (kb.cell (p := ⟨b, _, none⟩) hb).trans q2
          have e1 : w1.cell? ⟨b, off + (j + 1) * 2, none⟩ = some (.int .u64 s.lo) := (hb1.cell (p := ⟨b, _, none⟩) (by simpa using Nat.lt_of_lt_of_le hb hsz)).trans c1
          have e2 : w1.cell? ⟨b, off + (j + 1) * 2 + 1, none⟩ = some (.int .u64 s.hi) := (hb1.cell (p := ⟨b, _, none⟩) (by simpa using Nat.lt_of_lt_of_le hb hsz)).trans c2
          have hw : IntKind.i64.wrap (j : Int) = (j : Int) := by rw [IntWalk.i64_in]; omega
          have i1 : ((j : Nat) : Int) < l.length := by omega
          have i2 : ((j : Nat) : Int) + 1 < l.length := by omega
          have i3 : (0 : Int) ≤ (j : Int) + 1 := by omega
          have hz : decide ((0:Int) < ((j + 1 : Nat) : Int)) = true := by simp
          clear q1 q2
          refine regG 15 34 (fun w' => w'.cell? ⟨b, off + j * 2, none⟩ = some (.int .u64 q.lo) ∧ w'.cell? ⟨b, off + j * 2 + 1, none⟩ = some (.int .u64 q.hi) ∧ w'.cell? ⟨b, off + (j + 1) * 2, none⟩ = some (.int .u64 s.lo) ∧ w'.cell? ⟨b, off + (j + 1) * 2 + 1, none⟩ = some (.int .u64 s.hi)) (by kernel_rfl) (by kernel_rfl) rfl ⟨d1, d2, e1, e2⟩ ?_
          simp only [List.take_succ_cons, List.take_zero]
          repeat (first
            | (refine wdet ?_ rfl (fun a w hc _ hr => ?_) ?_; rotate_left; (simp [Rds, rdsO, lk, Op.operands, Call.operands, RdEq] at hr; go_simp; with_reducible rfl); dsimp only [List.nil_append, List.cons_append])
            | (refine wskip rfl ?_ ?_; (first | exact .inl (isV_eq rfl rfl) | exact .inr (isV_eq rfl rfl)); dsimp only [List.nil_append, List.cons_append])
            | (refine wdetg rfl ?_ ?_ (fun a w hc _ hr => ?_) ?_; exact (isV_eq rfl rfl); rotate_left; (simp [Rds, rdsO, lk, Op.operands, Call.operands, RdEq] at hr; go_simp; with_reducible rfl); dsimp only [List.nil_append, List.cons_append]))
          refine wgeng (fun u _ => u = (.int .i64 ((relate q s : Nat) : Int))) (eqV_stab _) rfl (isV_eq rfl rfl) ?_ ?_
          · intro a2 w2 hc hk hr K hK
            have HK := Lib.hid hK
            clear hK
            simp [Rds, rdsO, lk, Op.operands, Call.operands, RdEq] at hr
            go_simp
            refine (refRelate_any q s _ q3 g3).mono ?_
            rintro e w3 ⟨rfl, hb3⟩
            have hkb : Keep NoB w2 w3 := Keep.of_below' hb3 (Nat.le_refl _)
            exact HK.out _ _ hkb ⟨hkb.cell_some hc.1 id, hkb.cell_some hc.2.1 id, hkb.cell_some hc.2.2.1 id, hkb.cell_some hc.2.2.2 id⟩ rfl
          dsimp only [List.nil_append, List.cons_append]
          obtain ⟨r, hr⟩ : ∃ r, relate q s = r := ⟨_, rfl⟩
          rw [hr]
          have HR2 := Lib.hid hr
          clear hr
          cases r with
          | zero =>
            repeat (first
              | (refine wdet ?_ rfl (fun a w hc _ hr => ?_) ?_; rotate_left; (simp [Rds, rdsO, lk, Op.operands, Call.operands, RdEq] at hr; go_simp; with_reducible rfl); dsimp only [List.nil_append, List.cons_append])
              | (refine wskip rfl ?_ ?_; (first | exact .inl (isV_eq rfl rfl) | exact .inr (isV_eq rfl rfl)); dsimp only [List.nil_append, List.cons_append])
              | (refine wdetg rfl ?_ ?_ (fun a w hc _ hr => ?_) ?_; exact (isV_eq rfl rfl); rotate_left; (simp [Rds, rdsO, lk, Op.operands, Call.operands, RdEq] at hr; go_simp; with_reducible rfl); dsimp only [List.nil_append, List.cons_append]))
            intro w2 hc2 hk2
            simp only [finG, forall_eq, List.nil_append, List.cons_append, List.drop_succ_cons, List.drop_zero, List.drop_nil]
            simp only [Act.put, List.setIfInBounds_toArray, List.set_cons_succ, List.set_cons_zero]
            have hk3 : Keep NoB w1 w2 := ((Keep.refl NoB w1).drew).trans hk2
            clear hc2 hk2 hz i1 hw
            go_wp2
            go_roundg (l.length - (j + 1))
            case measure => simp
            case rel => exact ⟨j + 2, by omega, by omega, by go_num, refCheck_next2 hlt HN.out.2.1 HN.out.1 HQ.out HR2.out, hB.trans ((hb1.trans (hk3.below hb1.size fun _ _ => id)).mono hsz)⟩
          | succ r =>
            have hd : decide (((r + 1 : Nat) : Int) = 0) = false := by simp; omega
            repeat (first
              | (refine wdet ?_ rfl (fun a w hc _ hr => ?_) ?_; rotate_left; (simp [Rds, rdsO, lk, Op.operands, Call.operands, RdEq] at hr; go_simp; with_reducible rfl); dsimp only [List.nil_append, List.cons_append])
              | (refine wskip rfl ?_ ?_; (first | exact .inl (isV_eq rfl rfl) | exact .inr (isV_eq rfl rfl)); dsimp only [List.nil_append, List.cons_append])
              | (refine wdetg rfl ?_ ?_ (fun a w hc _ hr => ?_) ?_; exact (isV_eq rfl rfl); rotate_left; (simp [Rds, rdsO, lk, Op.operands, Call.operands, RdEq] at hr; go_simp; with_reducible rfl); dsimp only [List.nil_append, List.cons_append]))
            intro w2 hc2 hk2
            simp only [finG, forall_eq, List.nil_append, List.cons_append, List.drop_succ_cons, List.drop_zero, List.drop_nil]
            simp only [Act.put, List.setIfInBounds_toArray, List.set_cons_succ, List.set_cons_zero]
            have hk3 : Keep NoB w1 w2 := ((Keep.refl NoB w1).drew).trans hk2
            clear hc2 hk2 hz i1 hw
            go_wp2
            go_ret2
            rw [refCheck_last hlt HN.out.1 HQ.out HR2.out]
            exact ⟨rfl, hB.trans ((hb1.trans (hk3.below hb1.size fun _ _ => id)).mono hsz)⟩
      · have HV : Hid (chk l = (2, (k : Int))) := by rw [hn.out, hs, if_neg t1]; rfl
        have hd1 : decide (s.lo ≤ s.hi) = false := by simpa using t1
        have HR := Lib.hid (fun W => refRight_is s _ hd1 W)
        clear hs hn hcell hc hsd hd1 t1
        go_wp2_with (go_at_call 108; refine (HR.out _).mono ?_; rintro e w1 ⟨rfl, hb1⟩)
        go_ret2
        rw [HV.out]
        exact ⟨rfl, hB.trans (hb1.mono hsz)⟩
    · have hkl : k = l.length := by omega
      have HV : Hid (chk l = (0, -1)) := by rw [hn.out, hkl, List.drop_length]; cases (if l.length = 0 then none else l[l.length - 1]?) <;> rfl
      clear hn
      go_wp2
      go_ret2
      rw [HV.out]
      exact ⟨rfl, hB⟩
end Go.Proofs.YtcedofkenfddkaaDoor
