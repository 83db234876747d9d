/- The example of chapter 05 holds: kenninglaw05.alive returns true. -/
import Derived.Test.YtcedofkenfddkaaKnow
namespace Go.Proofs.Ytcedofkenfddkaa
open Go.RowKit

theorem flat_at {l : List Iv} {w : World} {B : Nat} {t : TypeId} {fr : Nat × Nat} (h : w.heap[B]? = some (.cells (flat l).toArray t fr)) (hb : ∀ s ∈ l, s.lo < M64 ∧ s.hi < M64) (i : Nat) (hi : i < l.length) : rdIv w B (i * 2) l[i] := by
  obtain ⟨f1, f2⟩ := flat_get l i hi
  refine ⟨?_, ?_, hb _ (List.getElem_mem hi)⟩
  · simp only [World.cell?, h]; simpa using f1
  · simp only [World.cell?, h]; simpa using f2
/-- A slice that was just built. -/
theorem IsR.new {l : List Iv} {w : World} {t : TypeId} {n : Nat} (hn : l.length = n) (hnr : Nrm l) (hm : l.length ≤ maxLen) : IsR (.slice (some ⟨w.heap.size, 0, none⟩) n n) l n (w.alloc (.cells (flat l).toArray t (0, 0))) := by
  subst hn
  refine ⟨⟨_, _, rfl, Nat.le_refl _, hm, fun _ => ⟨_, 0, rfl, Nat.zero_le _, by simp, fun i hi => ?_⟩⟩, hnr, Nat.le_refl _⟩
  rw [Nat.zero_add]
  exact flat_at (World.alloc_heap_new w _) (fun s hs => by have := NF.lo_ge hnr s hs; omega) i hi

theorem n23 : Nrm [⟨2, 3⟩, ⟨9, 9⟩] := by simp [Nrm, NF, M64_val]
theorem n01 : Nrm [⟨0, 1⟩, ⟨4, 8⟩] := by simp [Nrm, NF, M64_val]
theorem n09 : Nrm [⟨0, 9⟩] := by simp [Nrm, NF, M64_val]
theorem e1 : opS fMinus [⟨0, 9⟩] [⟨2, 3⟩, ⟨9, 9⟩] = [⟨0, 1⟩, ⟨4, 8⟩] := opS_eq n09 n23 n01 fun x _ => by rw [Bool.eq_iff_iff]; simp [mem, fMinus]; omega
theorem e2 : opS fUnion [⟨2, 3⟩, ⟨9, 9⟩] [⟨0, 1⟩, ⟨4, 8⟩] = [⟨0, 9⟩] := opS_eq n23 n01 n09 fun x _ => by rw [Bool.eq_iff_iff]; simp [mem, fUnion]; omega
theorem e3 : neverB [⟨2, 3⟩, ⟨9, 9⟩] [⟨0, 1⟩, ⟨4, 8⟩] true true = true := (neverB_iff n23 n01 _ _).2 fun x _ => by simp [mem]; omega
theorem e4 : neverB [⟨2, 3⟩, ⟨9, 9⟩] [⟨0, 1⟩, ⟨4, 8⟩] true false = false := Bool.eq_false_iff.2 fun h => (neverB_iff n23 n01 _ _).1 h 2 (by decide) (by decide)
theorem e5 : opS fMeet [⟨2, 3⟩, ⟨9, 9⟩] [⟨0, 1⟩, ⟨4, 8⟩] = [] := opS_eq n23 n01 trivial fun x _ => by rw [Bool.eq_iff_iff]; simp [mem, fMeet]; omega
theorem e6 : opS fMinus [⟨2, 3⟩, ⟨9, 9⟩] [⟨0, 1⟩, ⟨4, 8⟩] = [⟨2, 3⟩, ⟨9, 9⟩] := opS_eq n23 n01 n23 fun x _ => by rw [Bool.eq_iff_iff]; simp [mem, fMinus]; omega
set_option maxHeartbeats 1000000 in
set_option maxRecDepth 100000 in
theorem alive_any (w : World) : Calls Try.prog 19 #[] w fun e w' => e = .returned (.bool true) ∧ Below w.heap.size w w' := by
  go_enter Try.func19, Try.ntmps19
  go_upto_region 2 with fail
  have K1 : Know w _ [IsR (.slice (some ⟨w.heap.size, 0, none⟩) 2 2) [⟨2, 3⟩, ⟨9, 9⟩] 2] := ((Know.nil w).alloc (.cells #[.int .u64 2, .int .u64 3, .int .u64 9, .int .u64 9] 30 (0, 0))).add (IsR.stb _ _ _) (IsR.new (l := [⟨2, 3⟩, ⟨9, 9⟩]) rfl n23 (by decide))
  obtain ⟨w1, hw1⟩ : ∃ x, (w.alloc (.cells #[.int .u64 2, .int .u64 3, .int .u64 9, .int .u64 9] 30 (0, 0))) = x := ⟨_, rfl⟩
  obtain ⟨va, hva⟩ : ∃ x, Value.slice (some ⟨w.heap.size, 0, none⟩) 2 2 = x := ⟨_, rfl⟩
  rw [hw1, hva] at K1
  rw [hw1, hva]
  clear hw1 hva
  go_upto_region 3 with (go_at_call 28; refine (not_K (va := va) ⟨0, 9⟩ (by first | assumption | (refine Know.alloc ?_ _; assumption)) (by refine Know.get (by first | assumption | (refine Know.alloc ?_ _; assumption)) ?_; repeat (first | exact List.Mem.head _ | apply List.Mem.tail)) (by decide) (by decide) (by decide)).mono ?_; rintro e w2 ⟨vb, rfl, K2⟩)
  rw [e1] at K2
  go_wp2_with (first
    | (have := K2; go_at_call 20; refine (same_K (b := [⟨0, 1⟩, ⟨4, 8⟩]) (K2.alloc _) (Know.get (K2.alloc _) (.head _)) (IsR.new rfl n01 (by decide)) rfl).mono ?_; rintro e w3 ⟨rfl, K3⟩; clear K2)
    | (have := K3; go_at_call 21; refine (union_K K3 (by refine Know.get (by first | assumption | (refine Know.alloc ?_ _; assumption)) ?_; repeat (first | exact List.Mem.head _ | apply List.Mem.tail)) (by refine Know.get (by first | assumption | (refine Know.alloc ?_ _; assumption)) ?_; repeat (first | exact List.Mem.head _ | apply List.Mem.tail)) (by decide)).mono ?_; rintro e w4 ⟨vc, rfl, K4⟩; rw [e2] at K4; clear K3)
    | (have := K4; go_at_call 20; refine (same_K (b := [⟨0, 9⟩]) (K4.alloc _) (Know.get (K4.alloc _) (.head _)) (IsR.new rfl n09 (by decide)) rfl).mono ?_; rintro e w5 ⟨rfl, K5⟩; clear K4)
    | (have := K5; go_at_call 31; refine (disjoint_K _ K5 (by refine Know.get (by first | assumption | (refine Know.alloc ?_ _; assumption)) ?_; repeat (first | exact List.Mem.head _ | apply List.Mem.tail)) (by refine Know.get (by first | assumption | (refine Know.alloc ?_ _; assumption)) ?_; repeat (first | exact List.Mem.head _ | apply List.Mem.tail)) e3).mono ?_; rintro e w6 ⟨rfl, K6⟩; clear K5)
    | (have := K6; go_at_call 30; refine (subset_K _ K6 (by refine Know.get (by first | assumption | (refine Know.alloc ?_ _; assumption)) ?_; repeat (first | exact List.Mem.head _ | apply List.Mem.tail)) (by refine Know.get (by first | assumption | (refine Know.alloc ?_ _; assumption)) ?_; repeat (first | exact List.Mem.head _ | apply List.Mem.tail)) e4).mono ?_; rintro e w7 ⟨rfl, K7⟩; clear K6)
    | (have := K7; go_at_call 23; refine (meet_K K7 (by refine Know.get (by first | assumption | (refine Know.alloc ?_ _; assumption)) ?_; repeat (first | exact List.Mem.head _ | apply List.Mem.tail)) (by refine Know.get (by first | assumption | (refine Know.alloc ?_ _; assumption)) ?_; repeat (first | exact List.Mem.head _ | apply List.Mem.tail)) (by decide)).mono ?_; rintro e w8 ⟨vd, rfl, K8⟩; rw [e5] at K8; obtain ⟨ad, cd, rfl⟩ := (K8.get (List.Mem.head _)).val; clear K7)
    | (have := K8; go_at_call 25; refine (minus_K K8 (by refine Know.get (by first | assumption | (refine Know.alloc ?_ _; assumption)) ?_; repeat (first | exact List.Mem.head _ | apply List.Mem.tail)) (by refine Know.get (by first | assumption | (refine Know.alloc ?_ _; assumption)) ?_; repeat (first | exact List.Mem.head _ | apply List.Mem.tail)) (by decide)).mono ?_; rintro e w9 ⟨ve, rfl, K9⟩; rw [e6] at K9; clear K8)
    | (have := K9; go_at_call 20; refine (same_K K9 (by refine Know.get (by first | assumption | (refine Know.alloc ?_ _; assumption)) ?_; repeat (first | exact List.Mem.head _ | apply List.Mem.tail)) (by refine Know.get (by first | assumption | (refine Know.alloc ?_ _; assumption)) ?_; repeat (first | exact List.Mem.head _ | apply List.Mem.tail)) rfl).mono ?_; rintro e w10 ⟨rfl, K10⟩))
  go_ret
  exact ⟨rfl, K10.below⟩
theorem alive_K {w0 w : World} {L : List (World → Prop)} (h : Know w0 w L) : Calls Try.prog 19 #[] w fun e w' => e = .returned (.bool true) ∧ Know w0 w' L :=
  (alive_any w).mono fun _ _ ⟨he, hb⟩ => ⟨he, h.step hb⟩
theorem right_new {vs : List Value} {ls : List (List Iv)} {w : World} {t : TypeId} {n : Nat} (hlen : vs.length = ls.length) (hn : ls.length = n) (hm : ls.length ≤ maxLen)
    (h : ∀ i (h : i < ls.length), RdR 0 w.heap.size w (vs[i]'(by omega)) ls[i]) :
    Calls Try.prog 18 #[.slice (some ⟨w.heap.size, 0, none⟩) n n] (w.alloc (.cells vs.toArray t (0, 0))) fun e w' => e = .returned (.bool (rightsB ls)) ∧ Below w.heap.size w w' := by
  subst hn
  have hb : Below w.heap.size w (w.alloc (.cells vs.toArray t (0, 0))) := (Below.refl _ _).alloc (Nat.le_refl _) _
  refine (right5_any vs ls w.heap.size ls.length _ hlen (Nat.le_refl _) hm (by simp) fun i hi => ⟨?_, ((h i hi).below hb (Nat.le_refl _)).keep (Nat.le_refl _) hb.size fun _ _ _ => rfl⟩).mono ?_
  · have := World.alloc_heap_new w (.cells vs.toArray t (0, 0))
    simp only [World.cell?, this]
    simp [show i < vs.length by omega]
  · rintro e w' ⟨rfl, hw⟩
    exact ⟨rfl, hb.trans (hw.mono hb.size)⟩
theorem rightsB_get {ls : List (List Iv)} (h : rightsB ls = true) {l : List Iv} (hl : l ∈ ls) (hb : ∀ s ∈ l, s.hi < M64) : Nrm l ∧ l.length ≤ 60 := by
  unfold rightsB at h
  rw [List.all_eq_true] at h
  have := h l hl
  simp only [Bool.and_eq_true, decide_eq_true_eq] at this
  exact ⟨(rightB_iff hb).1 this.2, this.1⟩
theorem IsR.arg {v : Value} {l : List Iv} {w : World} {ls : List (List Iv)} (hr : RdR 0 w.heap.size w v l) (h : rightsB ls = true) (hl : l ∈ ls) : IsR v l 60 w := by
  obtain ⟨h1, h2⟩ := rightsB_get h hl (fun s hs => (hr.bound s hs).2)
  exact ⟨hr, h1, h2⟩
end Go.Proofs.Ytcedofkenfddkaa
