/- The law SetopsAlgebra returns true, whatever the lists; nothing that lies is written. -/
import Derived.Test.YtcedofkenfddkaaAlive5
namespace Go.Proofs.Ytcedofkenfddkaa
open Go.RowKit

theorem U_comm {a b : List Iv} (ha : Nrm a) (hb : Nrm b) : opS fUnion a b = opS fUnion b a :=
  Nrm.unique (by simp only [opS_nrm, ha, hb]) (by simp only [opS_nrm, ha, hb]) fun x hx => by simp only [opS_mem, opS_nrm, ha, hb, hx, fUnion, fMeet, fMinus]; cases mem a x <;> cases mem b x <;> rfl
theorem I_comm {a b : List Iv} (ha : Nrm a) (hb : Nrm b) : opS fMeet a b = opS fMeet b a :=
  Nrm.unique (by simp only [opS_nrm, ha, hb]) (by simp only [opS_nrm, ha, hb]) fun x hx => by simp only [opS_mem, opS_nrm, ha, hb, hx, fUnion, fMeet, fMinus]; cases mem a x <;> cases mem b x <;> rfl
theorem U_idem {a : List Iv} (ha : Nrm a) : opS fUnion a a = a :=
  Nrm.unique (by simp only [opS_nrm, ha]) (by simp only [opS_nrm, ha]) fun x hx => by simp only [opS_mem, opS_nrm, ha, hx, fUnion, fMeet, fMinus]; cases mem a x <;> rfl
theorem I_idem {a : List Iv} (ha : Nrm a) : opS fMeet a a = a :=
  Nrm.unique (by simp only [opS_nrm, ha]) (by simp only [opS_nrm, ha]) fun x hx => by simp only [opS_mem, opS_nrm, ha, hx, fUnion, fMeet, fMinus]; cases mem a x <;> rfl
theorem U_assoc {a b c : List Iv} (ha : Nrm a) (hb : Nrm b) (hc : Nrm c) : opS fUnion (opS fUnion a b) c = opS fUnion a (opS fUnion b c) :=
  Nrm.unique (by simp only [opS_nrm, ha, hb, hc]) (by simp only [opS_nrm, ha, hb, hc]) fun x hx => by simp only [opS_mem, opS_nrm, ha, hb, hc, hx, fUnion, fMeet, fMinus]; cases mem a x <;> cases mem b x <;> cases mem c x <;> rfl
theorem I_assoc {a b c : List Iv} (ha : Nrm a) (hb : Nrm b) (hc : Nrm c) : opS fMeet (opS fMeet a b) c = opS fMeet a (opS fMeet b c) :=
  Nrm.unique (by simp only [opS_nrm, ha, hb, hc]) (by simp only [opS_nrm, ha, hb, hc]) fun x hx => by simp only [opS_mem, opS_nrm, ha, hb, hc, hx, fUnion, fMeet, fMinus]; cases mem a x <;> cases mem b x <;> cases mem c x <;> rfl
theorem I_dist {a b c : List Iv} (ha : Nrm a) (hb : Nrm b) (hc : Nrm c) : opS fMeet (opS fUnion a b) c = opS fUnion (opS fMeet a c) (opS fMeet b c) :=
  Nrm.unique (by simp only [opS_nrm, ha, hb, hc]) (by simp only [opS_nrm, ha, hb, hc]) fun x hx => by simp only [opS_mem, opS_nrm, ha, hb, hc, hx, fUnion, fMeet, fMinus]; cases mem a x <;> cases mem b x <;> cases mem c x <;> rfl
theorem U_parts {a b : List Iv} (ha : Nrm a) (hb : Nrm b) : opS fUnion (opS fMeet a b) (opS fMinus a b) = a :=
  Nrm.unique (by simp only [opS_nrm, ha, hb]) (by simp only [opS_nrm, ha, hb]) fun x hx => by simp only [opS_mem, opS_nrm, ha, hb, hx, fUnion, fMeet, fMinus]; cases mem a x <;> cases mem b x <;> rfl
theorem algebra_any (a b c : List Iv) (va vb vc : Value) (w : World) (ra : RdR 0 w.heap.size w va a) (rb : RdR 0 w.heap.size w vb b) (rc : RdR 0 w.heap.size w vc c) :
    Calls Try.prog 6 #[va, vb, vc] w fun e w' => e = .returned (.bool true) ∧ Below w.heap.size w w' := by
  have HR := Lib.hid (right_new (vs := [va, vb, vc]) (ls := [a, b, c]) (t := 23) (n := 3) (w := w) rfl rfl (by simp [maxLen]) (fun i hi => by rcases i with _ | _ | _ | i; exact ra; exact rb; exact rc; simp at hi; omega))
  have HV := Lib.hid (And.intro ra (And.intro rb rc))
  obtain ⟨aa, ca, rfl, _⟩ := ra
  obtain ⟨ab, cb, rfl, _⟩ := rb
  obtain ⟨ac, cc, rfl, _⟩ := rc
  cases hrt : rightsB [a, b, c] with
  | false =>
    rw [hrt] at HR
    clear hrt HV
    go_enter Try.func6, Try.ntmps6
    go_wp2_with (first | (go_at_call 18; refine HR.out.mono ?_; rintro e w1 ⟨rfl, hb1⟩) | (go_at_call 19; refine (alive_any _).mono ?_; rintro e w2 ⟨rfl, hb2⟩))
    go_ret
    exact ⟨rfl, hb1.trans (hb2.mono hb1.size)⟩
  | true =>
    rw [hrt] at HR
    have k1 := IsR.arg HV.out.1 hrt (by simp)
    have k2 := IsR.arg HV.out.2.1 hrt (by simp)
    have k3 := IsR.arg HV.out.2.2 hrt (by simp)
    have K0 := ((((Know.nil w).add (IsR.stb _ _ _) k1).add (IsR.stb _ _ _) k2).add (IsR.stb _ _ _) k3)
    have na := k1.2.1
    have nb := k2.2.1
    have nc := k3.2.1
    have HN := Lib.hid (And.intro na (And.intro nb nc))
    clear hrt HV k1 k2 k3 na nb nc
    go_enter Try.func6, Try.ntmps6
    have EQ := Lib.hid (And.intro (U_comm HN.out.1 HN.out.2.1) (And.intro (I_comm HN.out.1 HN.out.2.1) (And.intro (U_idem HN.out.1) (And.intro (I_idem HN.out.1) (And.intro (U_assoc HN.out.1 HN.out.2.1 HN.out.2.2) (And.intro (I_assoc HN.out.1 HN.out.2.1 HN.out.2.2) (And.intro (I_dist HN.out.1 HN.out.2.1 HN.out.2.2) (U_parts HN.out.1 HN.out.2.1))))))))
    go_upto_region 3 with (go_at_call 18; refine HR.out.mono ?_; rintro e w1 ⟨rfl, hb1⟩)
    have k0 := K0.step hb1
    clear K0 HR
    go_wp2_with (first
      | (have := k0; go_at_call 21; refine (union_K k0 (by refine Know.get (by first | assumption | (refine Know.alloc ?_ _; assumption)) ?_; repeat (first | exact List.Mem.head _ | apply List.Mem.tail)) (by refine Know.get (by first | assumption | (refine Know.alloc ?_ _; assumption)) ?_; repeat (first | exact List.Mem.head _ | apply List.Mem.tail)) (by decide)).mono ?_; rintro e wk1 ⟨rk1, rfl, k1⟩; clear k0)
      | (have := k1; go_at_call 23; refine (meet_K k1 (by refine Know.get (by first | assumption | (refine Know.alloc ?_ _; assumption)) ?_; repeat (first | exact List.Mem.head _ | apply List.Mem.tail)) (by refine Know.get (by first | assumption | (refine Know.alloc ?_ _; assumption)) ?_; repeat (first | exact List.Mem.head _ | apply List.Mem.tail)) (by decide)).mono ?_; rintro e wk2 ⟨rk2, rfl, k2⟩; clear k1)
      | (have := k2; go_at_call 21; refine (union_K k2 (by refine Know.get (by first | assumption | (refine Know.alloc ?_ _; assumption)) ?_; repeat (first | exact List.Mem.head _ | apply List.Mem.tail)) (by refine Know.get (by first | assumption | (refine Know.alloc ?_ _; assumption)) ?_; repeat (first | exact List.Mem.head _ | apply List.Mem.tail)) (by decide)).mono ?_; rintro e wk3 ⟨rk3, rfl, k3⟩; clear k2)
      | (have := k3; go_at_call 20; refine (same_K k3 (by refine Know.get (by first | assumption | (refine Know.alloc ?_ _; assumption)) ?_; repeat (first | exact List.Mem.head _ | apply List.Mem.tail)) (by refine Know.get (by first | assumption | (refine Know.alloc ?_ _; assumption)) ?_; repeat (first | exact List.Mem.head _ | apply List.Mem.tail)) EQ.out.1).mono ?_; rintro e wk4 ⟨rfl, k4⟩; clear k3)
      | (have := k4; go_at_call 23; refine (meet_K k4 (by refine Know.get (by first | assumption | (refine Know.alloc ?_ _; assumption)) ?_; repeat (first | exact List.Mem.head _ | apply List.Mem.tail)) (by refine Know.get (by first | assumption | (refine Know.alloc ?_ _; assumption)) ?_; repeat (first | exact List.Mem.head _ | apply List.Mem.tail)) (by decide)).mono ?_; rintro e wk5 ⟨rk5, rfl, k5⟩; clear k4)
      | (have := k5; go_at_call 20; refine (same_K k5 (by refine Know.get (by first | assumption | (refine Know.alloc ?_ _; assumption)) ?_; repeat (first | exact List.Mem.head _ | apply List.Mem.tail)) (by refine Know.get (by first | assumption | (refine Know.alloc ?_ _; assumption)) ?_; repeat (first | exact List.Mem.head _ | apply List.Mem.tail)) EQ.out.2.1).mono ?_; rintro e wk6 ⟨rfl, k6⟩; clear k5)
      | (have := k6; go_at_call 21; refine (union_K k6 (by refine Know.get (by first | assumption | (refine Know.alloc ?_ _; assumption)) ?_; repeat (first | exact List.Mem.head _ | apply List.Mem.tail)) (by refine Know.get (by first | assumption | (refine Know.alloc ?_ _; assumption)) ?_; repeat (first | exact List.Mem.head _ | apply List.Mem.tail)) (by decide)).mono ?_; rintro e wk7 ⟨rk7, rfl, k7⟩; clear k6)
      | (have := k7; go_at_call 20; refine (same_K k7 (by refine Know.get (by first | assumption | (refine Know.alloc ?_ _; assumption)) ?_; repeat (first | exact List.Mem.head _ | apply List.Mem.tail)) (by refine Know.get (by first | assumption | (refine Know.alloc ?_ _; assumption)) ?_; repeat (first | exact List.Mem.head _ | apply List.Mem.tail)) EQ.out.2.2.1).mono ?_; rintro e wk8 ⟨rfl, k8⟩; clear k7)
      | (have := k8; go_at_call 23; refine (meet_K k8 (by refine Know.get (by first | assumption | (refine Know.alloc ?_ _; assumption)) ?_; repeat (first | exact List.Mem.head _ | apply List.Mem.tail)) (by refine Know.get (by first | assumption | (refine Know.alloc ?_ _; assumption)) ?_; repeat (first | exact List.Mem.head _ | apply List.Mem.tail)) (by decide)).mono ?_; rintro e wk9 ⟨rk9, rfl, k9⟩; clear k8)
      | (have := k9; go_at_call 20; refine (same_K k9 (by refine Know.get (by first | assumption | (refine Know.alloc ?_ _; assumption)) ?_; repeat (first | exact List.Mem.head _ | apply List.Mem.tail)) (by refine Know.get (by first | assumption | (refine Know.alloc ?_ _; assumption)) ?_; repeat (first | exact List.Mem.head _ | apply List.Mem.tail)) EQ.out.2.2.2.1).mono ?_; rintro e wk10 ⟨rfl, k10⟩; clear k9)
      | (have := k10; go_at_call 23; refine (meet_K k10 (by refine Know.get (by first | assumption | (refine Know.alloc ?_ _; assumption)) ?_; repeat (first | exact List.Mem.head _ | apply List.Mem.tail)) (by refine Know.get (by first | assumption | (refine Know.alloc ?_ _; assumption)) ?_; repeat (first | exact List.Mem.head _ | apply List.Mem.tail)) (by decide)).mono ?_; rintro e wk11 ⟨rk11, rfl, k11⟩; clear k10)
      | (have := k11; go_at_call 23; refine (meet_K k11 (by refine Know.get (by first | assumption | (refine Know.alloc ?_ _; assumption)) ?_; repeat (first | exact List.Mem.head _ | apply List.Mem.tail)) (by refine Know.get (by first | assumption | (refine Know.alloc ?_ _; assumption)) ?_; repeat (first | exact List.Mem.head _ | apply List.Mem.tail)) (by decide)).mono ?_; rintro e wk12 ⟨rk12, rfl, k12⟩; clear k11)
      | (have := k12; go_at_call 23; refine (meet_K k12 (by refine Know.get (by first | assumption | (refine Know.alloc ?_ _; assumption)) ?_; repeat (first | exact List.Mem.head _ | apply List.Mem.tail)) (by refine Know.get (by first | assumption | (refine Know.alloc ?_ _; assumption)) ?_; repeat (first | exact List.Mem.head _ | apply List.Mem.tail)) (by decide)).mono ?_; rintro e wk13 ⟨rk13, rfl, k13⟩; clear k12)
      | (have := k13; go_at_call 21; refine (union_K k13 (by refine Know.get (by first | assumption | (refine Know.alloc ?_ _; assumption)) ?_; repeat (first | exact List.Mem.head _ | apply List.Mem.tail)) (by refine Know.get (by first | assumption | (refine Know.alloc ?_ _; assumption)) ?_; repeat (first | exact List.Mem.head _ | apply List.Mem.tail)) (by decide)).mono ?_; rintro e wk14 ⟨rk14, rfl, k14⟩; clear k13)
      | (have := k14; go_at_call 19; refine (alive_K k14).mono ?_; rintro e wk15 ⟨rfl, k15⟩; clear k14)
      | (have := k15; go_at_call 21; refine (union_K k15 (by refine Know.get (by first | assumption | (refine Know.alloc ?_ _; assumption)) ?_; repeat (first | exact List.Mem.head _ | apply List.Mem.tail)) (by refine Know.get (by first | assumption | (refine Know.alloc ?_ _; assumption)) ?_; repeat (first | exact List.Mem.head _ | apply List.Mem.tail)) (by decide)).mono ?_; rintro e wk16 ⟨rk16, rfl, k16⟩; clear k15)
      | (have := k16; go_at_call 21; refine (union_K k16 (by refine Know.get (by first | assumption | (refine Know.alloc ?_ _; assumption)) ?_; repeat (first | exact List.Mem.head _ | apply List.Mem.tail)) (by refine Know.get (by first | assumption | (refine Know.alloc ?_ _; assumption)) ?_; repeat (first | exact List.Mem.head _ | apply List.Mem.tail)) (by decide)).mono ?_; rintro e wk17 ⟨rk17, rfl, k17⟩; clear k16)
      | (have := k17; go_at_call 21; refine (union_K k17 (by refine Know.get (by first | assumption | (refine Know.alloc ?_ _; assumption)) ?_; repeat (first | exact List.Mem.head _ | apply List.Mem.tail)) (by refine Know.get (by first | assumption | (refine Know.alloc ?_ _; assumption)) ?_; repeat (first | exact List.Mem.head _ | apply List.Mem.tail)) (by decide)).mono ?_; rintro e wk18 ⟨rk18, rfl, k18⟩; clear k17)
      | (have := k18; go_at_call 20; refine (same_K k18 (by refine Know.get (by first | assumption | (refine Know.alloc ?_ _; assumption)) ?_; repeat (first | exact List.Mem.head _ | apply List.Mem.tail)) (by refine Know.get (by first | assumption | (refine Know.alloc ?_ _; assumption)) ?_; repeat (first | exact List.Mem.head _ | apply List.Mem.tail)) EQ.out.2.2.2.2.1).mono ?_; rintro e wk19 ⟨rfl, k19⟩; clear k18)
      | (have := k19; go_at_call 23; refine (meet_K k19 (by refine Know.get (by first | assumption | (refine Know.alloc ?_ _; assumption)) ?_; repeat (first | exact List.Mem.head _ | apply List.Mem.tail)) (by refine Know.get (by first | assumption | (refine Know.alloc ?_ _; assumption)) ?_; repeat (first | exact List.Mem.head _ | apply List.Mem.tail)) (by decide)).mono ?_; rintro e wk20 ⟨rk20, rfl, k20⟩; clear k19)
      | (have := k20; go_at_call 23; refine (meet_K k20 (by refine Know.get (by first | assumption | (refine Know.alloc ?_ _; assumption)) ?_; repeat (first | exact List.Mem.head _ | apply List.Mem.tail)) (by refine Know.get (by first | assumption | (refine Know.alloc ?_ _; assumption)) ?_; repeat (first | exact List.Mem.head _ | apply List.Mem.tail)) (by decide)).mono ?_; rintro e wk21 ⟨rk21, rfl, k21⟩; clear k20)
      | (have := k21; go_at_call 23; refine (meet_K k21 (by refine Know.get (by first | assumption | (refine Know.alloc ?_ _; assumption)) ?_; repeat (first | exact List.Mem.head _ | apply List.Mem.tail)) (by refine Know.get (by first | assumption | (refine Know.alloc ?_ _; assumption)) ?_; repeat (first | exact List.Mem.head _ | apply List.Mem.tail)) (by decide)).mono ?_; rintro e wk22 ⟨rk22, rfl, k22⟩; clear k21)
      | (have := k22; go_at_call 20; refine (same_K k22 (by refine Know.get (by first | assumption | (refine Know.alloc ?_ _; assumption)) ?_; repeat (first | exact List.Mem.head _ | apply List.Mem.tail)) (by refine Know.get (by first | assumption | (refine Know.alloc ?_ _; assumption)) ?_; repeat (first | exact List.Mem.head _ | apply List.Mem.tail)) EQ.out.2.2.2.2.2.1).mono ?_; rintro e wk23 ⟨rfl, k23⟩; clear k22)
      | (have := k23; go_at_call 20; refine (same_K k23 (by refine Know.get (by first | assumption | (refine Know.alloc ?_ _; assumption)) ?_; repeat (first | exact List.Mem.head _ | apply List.Mem.tail)) (by refine Know.get (by first | assumption | (refine Know.alloc ?_ _; assumption)) ?_; repeat (first | exact List.Mem.head _ | apply List.Mem.tail)) EQ.out.2.2.2.2.2.2.1).mono ?_; rintro e wk24 ⟨rfl, k24⟩; clear k23)
      | (have := k24; go_at_call 25; refine (minus_K k24 (by refine Know.get (by first | assumption | (refine Know.alloc ?_ _; assumption)) ?_; repeat (first | exact List.Mem.head _ | apply List.Mem.tail)) (by refine Know.get (by first | assumption | (refine Know.alloc ?_ _; assumption)) ?_; repeat (first | exact List.Mem.head _ | apply List.Mem.tail)) (by decide)).mono ?_; rintro e wk25 ⟨rk25, rfl, k25⟩; clear k24)
      | (have := k25; go_at_call 21; refine (union_K k25 (by refine Know.get (by first | assumption | (refine Know.alloc ?_ _; assumption)) ?_; repeat (first | exact List.Mem.head _ | apply List.Mem.tail)) (by refine Know.get (by first | assumption | (refine Know.alloc ?_ _; assumption)) ?_; repeat (first | exact List.Mem.head _ | apply List.Mem.tail)) (by decide)).mono ?_; rintro e wk26 ⟨rk26, rfl, k26⟩; clear k25)
      | (have := k26; go_at_call 20; refine (same_K k26 (by refine Know.get (by first | assumption | (refine Know.alloc ?_ _; assumption)) ?_; repeat (first | exact List.Mem.head _ | apply List.Mem.tail)) (by refine Know.get (by first | assumption | (refine Know.alloc ?_ _; assumption)) ?_; repeat (first | exact List.Mem.head _ | apply List.Mem.tail)) EQ.out.2.2.2.2.2.2.2).mono ?_; rintro e wk27 ⟨rfl, k27⟩; clear k26))
    go_ret
    exact ⟨rfl, k27.below⟩
end Go.Proofs.Ytcedofkenfddkaa
