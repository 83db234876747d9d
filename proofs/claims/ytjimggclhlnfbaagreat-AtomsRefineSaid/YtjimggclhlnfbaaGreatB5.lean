import Derived.Sort.WalkC
import Derived.Sort.WalkC4
import Derived.Sort.WalkD2
import Derived.Sort.Walk7
import Derived.Sort.WalkB3
import Derived.Sort.Walk11
import Derived.Test.YtjimggclhlnfbaaGreatB4
set_option linter.unusedVariables false
set_option linter.unusedSimpArgs false
namespace Go.Proofs.YtjimggclhlnfbaaGreat
open Go.RowKit Go.Sort
set_option maxHeartbeats 6400000 in
set_option maxRecDepth 100000 in
theorem so_partitionEqual_int (blk off cap a b pivot : Nat) (d : Array Int) (w : World) (hH : Holds encU w blk off d) (hap : a <= pivot) (hpb : pivot < b) (hb : b <= d.size) (hsz : d.size < 4611686018427387904) :
 Calls Tryz.prog 90 #[.slice (some ⟨blk, off, none⟩) d.size cap, .int .i64 a, .int .i64 b, .int .i64 pivot] w fun e w' =>
  e = .returned (.int .i64 (Sort.partitionEqual Sort.ltInt d a b pivot).1) /\ ∃ n, w' = (putRow encU w blk off (Sort.partitionEqual Sort.ltInt d a b pivot).2).drewN n := by
 have hla : a < d.size := by omega
 have hlp : pivot < d.size := by omega
 obtain ⟨G, hG⟩ : ∃ G : Nat -> Int, ∀ j, G j = d[j]! := ⟨fun j => d[j]!, fun _ => rfl⟩
 have ca : w.cell? ⟨blk, off + a, none⟩ = some (.int .u64 (G a)) := by rw [hG]; exact (hH a hla).1
 have fa := (hH a hla).2
 have cp : w.cell? ⟨blk, off + pivot, none⟩ = some (.int .u64 (G pivot)) := by rw [hG]; exact (hH pivot hlp).1
 have fp := (hH pivot hlp).2
 obtain ⟨v', hy'⟩ := cell?_setCell_some (w := w) (p := ⟨blk, off + a, none⟩) (x := .int .u64 (G pivot)) (q := ⟨blk, off + pivot, none⟩) cp
 have AG : Hid (∀ j, G j = d[j]!) := hG
 have AH : Hid (Holds encU w blk off d) := hH
 clear hG hH
 go_enter Tryz.func90, Tryz.ntmps90
 go_wp2
 go_region
 go_wp2
 go_loopw [9, 10] (fun vi vj wr => ∃ (i j n : Nat) (dk : Array Int), vi = .int .i64 i /\ vj = .int .i64 j /\ a < i /\ i <= j + 1 /\ j < b /\ dk.size = d.size /\ wr = (putRow encU w blk off dk).drewN n /\
  Sort.partEqLoop Sort.ltInt a i j dk = Sort.partEqLoop Sort.ltInt a (a + 1) (b - 1) (Sort.swp d a pivot))
  (fun vi vj _ => (intOf vj).toNat + 1 - (intOf vi).toNat)
 case atStart =>
  refine ⟨a + 1, b - 1, 1, Sort.swp d a pivot, by go_num, by go_num, by omega, by omega, by omega, size_swp _ _ _, ?_, rfl⟩
  have e := swap_worldC encU w blk off d 0 a pivot hla hlp
  rw [putRow_self _ w blk off d AH.out] at e
  rw [AG.out a, AG.out pivot]
  exact e
 case round =>
  obtain ⟨i, j, n, dk, rfl, rfl, hai, hij, hjb, hs, hw, heq⟩ := hrel
  clear ca fa cp fp hy' v' AG
  rename World => W1
  have hHk : Holds encU W1 blk off dk := by
   rw [hw]
   exact holds_putRow encU w blk off d dk AH.out hs
  obtain ⟨Gk, hG⟩ : ∃ Gk : Nat -> Int, ∀ t, Gk t = dk[t]! := ⟨fun t => dk[t]!, fun _ => rfl⟩
  have hc : ∀ t, t < d.size -> W1.cell? ⟨blk, off + t, none⟩ = some (.int .u64 (Gk t)) := fun t ht => by rw [hG]; exact (hHk t (by omega)).1
  have hf : ∀ t, t < d.size -> W1.frozen? ⟨blk, off + t, none⟩ = false := fun t ht => (hHk t (by omega)).2
  have AG : Hid (∀ t, Gk t = dk[t]!) := hG
  have AW : Hid (W1 = (putRow encU w blk off dk).drewN n) := hw
  have AE : Hid (Sort.partEqLoop Sort.ltInt a i j dk = Sort.partEqLoop Sort.ltInt a (a + 1) (b - 1) (Sort.swp d a pivot)) := heq
  clear hG hw heq hHk
  go_wp2
  go_loopw [9] (fun vi w1 => ∃ (i' n1 : Nat), vi = .int .i64 i' /\ i <= i' /\ i' <= j + 1 /\ w1 = W1.drewN n1 /\
   Hid (Sort.scanUp (fun x => !Sort.ltInt dk[a]! x) dk j i' = Sort.scanUp (fun x => !Sort.ltInt dk[a]! x) dk j i))
   (fun vi _ => j + 1 - (intOf vi).toNat)
  case atStart => exact ⟨i, 0, rfl, Nat.le_refl _, hij, rfl, rfl⟩
  case round =>
   obtain ⟨i', n1, rfl, hii, hij', hw1, hsc⟩ := hrel
   have hcw : ∀ t, t < d.size -> wr.cell? ⟨blk, off + t, none⟩ = some (.int .u64 (Gk t)) := fun t ht => by rw [hw1]; exact hc t ht
   have HW1 : Hid (wr = W1.drewN n1) := hw1
   clear hw1
   by_cases hle : i' <= j
   ·go_wp2_with fail
    go_big_quiet (first | (go_at_call 89; refine Calls.quiet_of_same (so_cmp_Less_int _ _ _)))
    go_wp2
    ·
     have ht : (!Sort.ltInt (Gk a) (Gk i')) = true := by assumption
     go_roundw
     case rel => exact ⟨i' + 1, n1 + nq, by go_num, by omega, by omega, by rw [HW1.out, World.drewN_drewN], (scanUp_go (fun x => !Sort.ltInt dk[a]! x) dk j i' hle (by rw [<- AG.out a, <- AG.out i']; exact ht)).symm.trans hsc.out⟩
     case measure => simp [intOf]; omega
    ·
     have ht : (!Sort.ltInt (Gk a) (Gk i')) = false := by assumption
     have hi2 : Hid (i' = Sort.scanUp (fun x => !Sort.ltInt dk[a]! x) dk j i) := (scanUp_end (fun x => !Sort.ltInt dk[a]! x) dk j i' (Or.inr (by rw [<- AG.out a, <- AG.out i']; exact ht))).symm.trans hsc.out
     clear ht
     have hw2 : wr.drewN nq = W1.drewN (n1 + nq) := by rw [HW1.out, World.drewN_drewN]
     clear hcw HW1 hsc
     go_loopw [10] (fun vj w2 => ∃ (j' n2 : Nat), vj = .int .i64 j' /\ j' <= j /\ i' <= j' + 1 /\ w2 = W1.drewN n2 /\
      Hid (Sort.scanDown (fun x => Sort.ltInt dk[a]! x) dk i' j' = Sort.scanDown (fun x => Sort.ltInt dk[a]! x) dk i' j))
      (fun vj _ => (intOf vj).toNat)
     case atStart => exact ⟨j, n1 + nq, rfl, Nat.le_refl _, hij', hw2, rfl⟩
     case round =>
      clear hw2
      obtain ⟨j', n2, rfl, hjj, hij2, hw2, hsd⟩ := hrel
      have hcw : ∀ t, t < d.size -> wr.cell? ⟨blk, off + t, none⟩ = some (.int .u64 (Gk t)) := fun t ht => by rw [hw2]; exact hc t ht
      have HW2 : Hid (wr = W1.drewN n2) := hw2
      clear hw2
      by_cases hle2 : i' <= j'
      ·go_wp2_with fail
       go_big_quiet (first | (go_at_call 89; refine Calls.quiet_of_same (so_cmp_Less_int _ _ _)))
       go_wp2
       ·
        have ht : Sort.ltInt (Gk a) (Gk j') = true := by assumption
        go_roundw
        case rel => exact ⟨j' - 1, n2 + nq, by go_num, by omega, by omega, by rw [HW2.out, World.drewN_drewN], (scanDown_go (fun x => Sort.ltInt dk[a]! x) dk i' j' hle2 (by omega) (by rw [<- AG.out a, <- AG.out j']; exact ht)).symm.trans hsd.out⟩
        case measure => simp [intOf]; omega
       ·
        have ht : Sort.ltInt (Gk a) (Gk j') = false := by assumption
        have hj2 : Hid (j' = Sort.scanDown (fun x => Sort.ltInt dk[a]! x) dk i' j) := (scanDown_end (fun x => Sort.ltInt dk[a]! x) dk i' j' (Or.inr (by rw [<- AG.out a, <- AG.out j']; exact ht))).symm.trans hsd.out
        clear hcw hsd ht
        have hw3 : wr.drewN nq = W1.drewN (n2 + nq) := by rw [HW2.out, World.drewN_drewN]
        generalize wr.drewN nq = W3 at hw3 ⊢
        have hc3 : ∀ t, t < d.size -> W3.cell? ⟨blk, off + t, none⟩ = some (.int .u64 (Gk t)) := fun t ht => by rw [hw3]; exact hc t ht
        have hf3 : ∀ t, t < d.size -> W3.frozen? ⟨blk, off + t, none⟩ = false := fun t ht => by rw [hw3]; exact hf t ht
        have HW3 : Hid (W3 = W1.drewN (n2 + nq)) := hw3
        clear hw3
        obtain ⟨v3, hy3⟩ := cell?_setCell_some (w := W3) (p := ⟨blk, off + i', none⟩) (x := .int .u64 (Gk j')) (q := ⟨blk, off + j', none⟩) (hc3 j' (by omega))
        have hlt3 := scans_lt Sort.ltInt a i j dk (by omega) hi2.out hj2.out hle2
        go_wp2
        go_region
        all_goals go_wp2
        all_goals go_roundw
        case rel =>
         refine ⟨i' + 1, j' - 1, n + (n2 + nq) + 1, Sort.swp dk i' j', by go_num, by go_num, by omega, by omega, by omega, by rw [size_swp]; exact hs, ?_, ?_⟩
         ·rw [HW3.out, AW.out, World.drewN_drewN, AG.out i', AG.out j']
          exact swap_worldC encU w blk off dk _ i' j' (by omega) (by omega)
         ·rw [<- AE.out]; exact (partEq_go Sort.ltInt a i j dk hi2.out hj2.out (by omega)).symm
        case measure => simp [intOf]; omega
      ·go_wp2_with fail
       go_big_quiet (first | (go_at_call 89; refine Calls.quiet_of_same (so_cmp_Less_int _ _ _)))
       have hj2 : Hid (j' = Sort.scanDown (fun x => Sort.ltInt dk[a]! x) dk i' j) := (scanDown_end (fun x => Sort.ltInt dk[a]! x) dk i' j' (Or.inl hle2)).symm.trans hsd.out
       clear hcw hsd
       have hw3 : wr.drewN nq = W1.drewN (n2 + nq) := by rw [HW2.out, World.drewN_drewN]
       generalize wr.drewN nq = W3 at hw3 ⊢
       have hc3 : ∀ t, t < d.size -> W3.cell? ⟨blk, off + t, none⟩ = some (.int .u64 (Gk t)) := fun t ht => by rw [hw3]; exact hc t ht
       have hf3 : ∀ t, t < d.size -> W3.frozen? ⟨blk, off + t, none⟩ = false := fun t ht => by rw [hw3]; exact hf t ht
       have HW3 : Hid (W3 = W1.drewN (n2 + nq)) := hw3
       clear hw3
       go_wp2
       go_ret
       have e := partEq_break Sort.ltInt a i j dk hi2.out hj2.out (by omega)
       refine ⟨?_, n + (n2 + nq), ?_⟩
       ·unfold Sort.partitionEqual; rw [<- AE.out, e]; rfl
       ·unfold Sort.partitionEqual; rw [<- AE.out, e, HW3.out, AW.out, World.drewN_drewN]
   ·go_wp2_with fail
    go_big_quiet (first | (go_at_call 89; refine Calls.quiet_of_same (so_cmp_Less_int _ _ _)))
    go_wp2
    have hi2 : Hid (i' = Sort.scanUp (fun x => !Sort.ltInt dk[a]! x) dk j i) := (scanUp_end (fun x => !Sort.ltInt dk[a]! x) dk j i' (Or.inl hle)).symm.trans hsc.out
    have hw2 : wr.drewN nq = W1.drewN (n1 + nq) := by rw [HW1.out, World.drewN_drewN]
    clear hcw HW1 hsc
    go_loopw [10] (fun vj w2 => ∃ (j' n2 : Nat), vj = .int .i64 j' /\ j' <= j /\ i' <= j' + 1 /\ w2 = W1.drewN n2 /\
     Hid (Sort.scanDown (fun x => Sort.ltInt dk[a]! x) dk i' j' = Sort.scanDown (fun x => Sort.ltInt dk[a]! x) dk i' j))
     (fun vj _ => (intOf vj).toNat)
    case atStart => exact ⟨j, n1 + nq, rfl, Nat.le_refl _, hij', hw2, rfl⟩
    case round =>
     clear hw2
     obtain ⟨j', n2, rfl, hjj, hij2, hw2, hsd⟩ := hrel
     have hcw : ∀ t, t < d.size -> wr.cell? ⟨blk, off + t, none⟩ = some (.int .u64 (Gk t)) := fun t ht => by rw [hw2]; exact hc t ht
     have HW2 : Hid (wr = W1.drewN n2) := hw2
     clear hw2
     by_cases hle2 : i' <= j'
     ·exfalso; omega
     ·go_wp2_with fail
      go_big_quiet (first | (go_at_call 89; refine Calls.quiet_of_same (so_cmp_Less_int _ _ _)))
      have hj2 : Hid (j' = Sort.scanDown (fun x => Sort.ltInt dk[a]! x) dk i' j) := (scanDown_end (fun x => Sort.ltInt dk[a]! x) dk i' j' (Or.inl hle2)).symm.trans hsd.out
      clear hcw hsd
      have hw3 : wr.drewN nq = W1.drewN (n2 + nq) := by rw [HW2.out, World.drewN_drewN]
      generalize wr.drewN nq = W3 at hw3 ⊢
      have hc3 : ∀ t, t < d.size -> W3.cell? ⟨blk, off + t, none⟩ = some (.int .u64 (Gk t)) := fun t ht => by rw [hw3]; exact hc t ht
      have hf3 : ∀ t, t < d.size -> W3.frozen? ⟨blk, off + t, none⟩ = false := fun t ht => by rw [hw3]; exact hf t ht
      have HW3 : Hid (W3 = W1.drewN (n2 + nq)) := hw3
      clear hw3
      go_wp2
      go_ret
      have e := partEq_break Sort.ltInt a i j dk hi2.out hj2.out (by omega)
      refine ⟨?_, n + (n2 + nq), ?_⟩
      ·unfold Sort.partitionEqual; rw [<- AE.out, e]; rfl
      ·unfold Sort.partitionEqual; rw [<- AE.out, e, HW3.out, AW.out, World.drewN_drewN]
theorem so_partitionEqualOrdered_int (blk off cap a b pivot : Nat) (d : Array Int) (w : World) (hH : Holds encU w blk off d) (hap : a <= pivot) (hpb : pivot < b) (hb : b <= d.size) (hsz : d.size < 4611686018427387904) :
 Calls Tryz.prog 90 #[.slice (some ⟨blk, off, none⟩) d.size cap, .int .i64 a, .int .i64 b, .int .i64 pivot] w fun e w' =>
  e = .returned (.int .i64 (Sort.partitionEqual Sort.ltInt d a b pivot).1) /\ ∃ n, w' = putRow encU (Sort.ahead w n) blk off (Sort.partitionEqual Sort.ltInt d a b pivot).2 :=
 (so_partitionEqual_int blk off cap a b pivot d w hH hap hpb hb hsz).mono fun _ _ ⟨he, n, hw⟩ => ⟨he, n, hw⟩
set_option maxHeartbeats 12800000 in
set_option maxRecDepth 100000 in
theorem so_partition_int (blk off cap a b pivot : Nat) (d : Array Int) (w : World) (hH : Holds encU w blk off d) (hap : a <= pivot) (hpb : pivot < b) (hb : b <= d.size) (hsz : d.size < 4611686018427387904) :
 Calls Tryz.prog 91 #[.slice (some ⟨blk, off, none⟩) d.size cap, .int .i64 a, .int .i64 b, .int .i64 pivot] w fun e w' =>
  e = .returned (.tuple #[.int .i64 (Sort.partition Sort.ltInt d a b pivot).1, .bool (Sort.partition Sort.ltInt d a b pivot).2.1]) /\ ∃ n, w' = (putRow encU w blk off (Sort.partition Sort.ltInt d a b pivot).2.2).drewN n := by
 have hla : a < d.size := by omega
 have hlp : pivot < d.size := by omega
 obtain ⟨G, hG⟩ : ∃ G : Nat -> Int, ∀ j, G j = d[j]! := ⟨fun j => d[j]!, fun _ => rfl⟩
 have ca : w.cell? ⟨blk, off + a, none⟩ = some (.int .u64 (G a)) := by rw [hG]; exact (hH a hla).1
 have fa := (hH a hla).2
 have cp : w.cell? ⟨blk, off + pivot, none⟩ = some (.int .u64 (G pivot)) := by rw [hG]; exact (hH pivot hlp).1
 have fp := (hH pivot hlp).2
 obtain ⟨v', hy'⟩ := cell?_setCell_some (w := w) (p := ⟨blk, off + a, none⟩) (x := .int .u64 (G pivot)) (q := ⟨blk, off + pivot, none⟩) cp
 have hw : ((w.setCell ⟨blk, off + a, none⟩ (.int .u64 (G pivot))).setCell ⟨blk, off + pivot, none⟩ (.int .u64 (G a))).drew = (putRow encU w blk off (Sort.swp d a pivot)).drewN 1 := by
  have e := swap_worldC encU w blk off d 0 a pivot hla hlp
  rw [putRow_self _ w blk off d hH] at e
  rw [hG a, hG pivot]
  exact e
 have AH : Hid (Holds encU w blk off d) := hH
 have HW0 := Hid.mk' hw
 clear hG hH hw
 go_enter Tryz.func91, Tryz.ntmps91
 go_wp2
 go_region
 go_wp2
 clear ca fa cp fp hy' v'
 have hw := HW0.out
 clear HW0
 generalize ((w.setCell ⟨blk, off + a, none⟩ (.int .u64 (G pivot))).setCell ⟨blk, off + pivot, none⟩ (.int .u64 (G a))).drew = W1 at hw ⊢
 obtain ⟨dk, hdk⟩ : ∃ dk, dk = Sort.swp d a pivot := ⟨_, rfl⟩
 obtain ⟨n, hn⟩ : ∃ n : Nat, n = 1 := ⟨_, rfl⟩
 rw [<- hdk, <- hn] at hw
 clear hn
 have hs : dk.size = d.size := by rw [hdk, size_swp]
 have e1 : ((a : Int) + 1) = ((a + 1 : Nat) : Int) := by omega
 have e2 : ((b : Int) - 1) = ((b - 1 : Nat) : Int) := by omega
 rw [e1, e2]
 clear e1 e2
 obtain ⟨i, hi⟩ : ∃ i, i = a + 1 := ⟨_, rfl⟩
 obtain ⟨j, hj⟩ : ∃ j, j = b - 1 := ⟨_, rfl⟩
 rw [<- hi, <- hj]
 have hai : a < i := by omega
 have hij : i <= j + 1 := by omega
 have hjb : j < b := by omega
 have HI := Hid.mk' hi
 have HJ := Hid.mk' hj
 have HDK := Hid.mk' hdk
 clear hi hj hdk
 have hHk : Holds encU W1 blk off dk := by
  rw [hw]
  exact holds_putRow encU w blk off d dk AH.out hs
 obtain ⟨Gk, hG⟩ : ∃ Gk : Nat -> Int, ∀ t, Gk t = dk[t]! := ⟨fun t => dk[t]!, fun _ => rfl⟩
 have hc : ∀ t, t < d.size -> W1.cell? ⟨blk, off + t, none⟩ = some (.int .u64 (Gk t)) := fun t ht => by rw [hG]; exact (hHk t (by omega)).1
 have hf : ∀ t, t < d.size -> W1.frozen? ⟨blk, off + t, none⟩ = false := fun t ht => (hHk t (by omega)).2
 have AG : Hid (∀ t, Gk t = dk[t]!) := hG
 have AW : Hid (W1 = (putRow encU w blk off dk).drewN n) := hw
 clear hG hw hHk
 go_loopw [10] (fun vi w1 => ∃ (i' n1 : Nat), vi = .int .i64 i' /\ i <= i' /\ i' <= j + 1 /\ w1 = W1.drewN n1 /\
  Hid (Sort.scanUp (fun x => Sort.ltInt x dk[a]!) dk j i' = Sort.scanUp (fun x => Sort.ltInt x dk[a]!) dk j i))
  (fun vi _ => j + 1 - (intOf vi).toNat)
 case atStart => exact ⟨i, 0, rfl, Nat.le_refl _, hij, rfl, rfl⟩
 case round =>
  obtain ⟨i', n1, rfl, hii, hij', hw1, hsc⟩ := hrel
  have hcw : ∀ t, t < d.size -> wr.cell? ⟨blk, off + t, none⟩ = some (.int .u64 (Gk t)) := fun t ht => by rw [hw1]; exact hc t ht
  have HW1 : Hid (wr = W1.drewN n1) := hw1
  clear hw1
  by_cases hle : i' <= j
  ·go_wp2_with fail
   go_big_quiet (first | (go_at_call 89; refine Calls.quiet_of_same (so_cmp_Less_int _ _ _)))
   go_wp2
   ·
    have ht : Sort.ltInt (Gk i') (Gk a) = true := by assumption
    go_roundw
    case rel => exact ⟨i' + 1, n1 + nq, by go_num, by omega, by omega, by rw [HW1.out, World.drewN_drewN], (scanUp_go (fun x => Sort.ltInt x dk[a]!) dk j i' hle (by rw [<- AG.out a, <- AG.out i']; exact ht)).symm.trans hsc.out⟩
    case measure => simp [intOf]; omega
   ·
    have ht : Sort.ltInt (Gk i') (Gk a) = false := by assumption
    have hi2 : Hid (i' = Sort.scanUp (fun x => Sort.ltInt x dk[a]!) dk j i) := (scanUp_end (fun x => Sort.ltInt x dk[a]!) dk j i' (Or.inr (by rw [<- AG.out a, <- AG.out i']; exact ht))).symm.trans hsc.out
    clear ht
    have hw2 : wr.drewN nq = W1.drewN (n1 + nq) := by rw [HW1.out, World.drewN_drewN]
    clear hcw HW1 hsc
    go_loopw [11] (fun vj w2 => ∃ (j' n2 : Nat), vj = .int .i64 j' /\ j' <= j /\ i' <= j' + 1 /\ w2 = W1.drewN n2 /\
     Hid (Sort.scanDown (fun x => !Sort.ltInt x dk[a]!) dk i' j' = Sort.scanDown (fun x => !Sort.ltInt x dk[a]!) dk i' j))
     (fun vj _ => (intOf vj).toNat)
    case atStart => exact ⟨j, n1 + nq, rfl, Nat.le_refl _, hij', hw2, rfl⟩
    case round =>
     clear hw2
     obtain ⟨j', n2, rfl, hjj, hij2, hw2, hsd⟩ := hrel
     have hcw : ∀ t, t < d.size -> wr.cell? ⟨blk, off + t, none⟩ = some (.int .u64 (Gk t)) := fun t ht => by rw [hw2]; exact hc t ht
     have HW2 : Hid (wr = W1.drewN n2) := hw2
     clear hw2
     by_cases hle2 : i' <= j'
     ·go_wp2_with fail
      go_big_quiet (first | (go_at_call 89; refine Calls.quiet_of_same (so_cmp_Less_int _ _ _)))
      go_wp2
      ·
       have ht : (!Sort.ltInt (Gk j') (Gk a)) = true := by assumption
       go_roundw
       case rel => exact ⟨j' - 1, n2 + nq, by go_num, by omega, by omega, by rw [HW2.out, World.drewN_drewN], (scanDown_go (fun x => !Sort.ltInt x dk[a]!) dk i' j' hle2 (by omega) (by rw [<- AG.out a, <- AG.out j']; exact ht)).symm.trans hsd.out⟩
       case measure => simp [intOf]; omega
      ·
       have ht : (!Sort.ltInt (Gk j') (Gk a)) = false := by assumption
       have hj2 : Hid (j' = Sort.scanDown (fun x => !Sort.ltInt x dk[a]!) dk i' j) := (scanDown_end (fun x => !Sort.ltInt x dk[a]!) dk i' j' (Or.inr (by rw [<- AG.out a, <- AG.out j']; exact ht))).symm.trans hsd.out
       clear hcw hsd ht
       have hw3 : wr.drewN nq = W1.drewN (n2 + nq) := by rw [HW2.out, World.drewN_drewN]
       generalize wr.drewN nq = W3 at hw3 ⊢
       have hc3 : ∀ t, t < d.size -> W3.cell? ⟨blk, off + t, none⟩ = some (.int .u64 (Gk t)) := fun t ht => by rw [hw3]; exact hc t ht
       have hf3 : ∀ t, t < d.size -> W3.frozen? ⟨blk, off + t, none⟩ = false := fun t ht => by rw [hw3]; exact hf t ht
       have HW3 : Hid (W3 = W1.drewN (n2 + nq)) := hw3
       clear hw3
       obtain ⟨v3, hy3⟩ := cell?_setCell_some (w := W3) (p := ⟨blk, off + i', none⟩) (x := .int .u64 (Gk j')) (q := ⟨blk, off + j', none⟩) (hc3 j' (by omega))
       have hlt3 := part_scans_lt Sort.ltInt a i j dk (by omega) hi2.out hj2.out hle2
       go_wp2
       go_region
       all_goals go_wp2
       obtain ⟨R, hR⟩ : ∃ R, R = Sort.partLoop Sort.ltInt a (i' + 1) (j' - 1) (Sort.swp dk i' j') := ⟨_, rfl⟩
       have HP : Hid (Sort.partition Sort.ltInt d a b pivot = (R.1, false, Sort.swp R.2 R.1 a)) := by rw [hR]; exact part_first_go Sort.ltInt d a b pivot HI.out HJ.out HDK.out hi2.out hj2.out (by omega)
       have hw0 : ((W3.setCell ⟨blk, off + i', none⟩ (.int .u64 (Gk j'))).setCell ⟨blk, off + j', none⟩ (.int .u64 (Gk i'))).drew = (putRow encU w blk off (Sort.swp dk i' j')).drewN (n + (n2 + nq) + 1) := by
        rw [HW3.out, AW.out, World.drewN_drewN, AG.out i', AG.out j']
        exact swap_worldC encU w blk off dk _ i' j' (by omega) (by omega)
       have HR : Hid (R = Sort.partLoop Sort.ltInt a (i' + 1) (j' - 1) (Sort.swp dk i' j')) := hR
       clear hR hc hf hc3 hf3 hy3 HW3 AW AG hi2 hj2
       go_loopw [10, 11] (fun vi vj wr => ∃ (i j n : Nat) (dk : Array Int), vi = .int .i64 i /\ vj = .int .i64 j /\ a < i /\ i <= j + 1 /\ j < b /\ dk.size = d.size /\ wr = (putRow encU w blk off dk).drewN n /\
        Sort.partLoop Sort.ltInt a i j dk = R)
        (fun vi vj _ => (intOf vj).toNat + 1 - (intOf vi).toNat)
       case atStart => exact ⟨i' + 1, j' - 1, _, Sort.swp dk i' j', by go_num, by go_num, by omega, by omega, by omega, by rw [size_swp]; exact hs, hw0, HR.out.symm⟩
       case round =>
        clear hw0 HR
        obtain ⟨i, j, n, dk, rfl, rfl, hai, hij, hjb, hs, hw, heq⟩ := hrel
        rename World => W1
        have AE : Hid (Sort.partLoop Sort.ltInt a i j dk = R) := heq
        clear heq
        have hHk : Holds encU W1 blk off dk := by
         rw [hw]
         exact holds_putRow encU w blk off d dk AH.out hs
        obtain ⟨Gk, hG⟩ : ∃ Gk : Nat -> Int, ∀ t, Gk t = dk[t]! := ⟨fun t => dk[t]!, fun _ => rfl⟩
        have hc : ∀ t, t < d.size -> W1.cell? ⟨blk, off + t, none⟩ = some (.int .u64 (Gk t)) := fun t ht => by rw [hG]; exact (hHk t (by omega)).1
        have hf : ∀ t, t < d.size -> W1.frozen? ⟨blk, off + t, none⟩ = false := fun t ht => (hHk t (by omega)).2
        have AG : Hid (∀ t, Gk t = dk[t]!) := hG
        have AW : Hid (W1 = (putRow encU w blk off dk).drewN n) := hw
        clear hG hw hHk
        go_wp2
        go_loopw [10] (fun vi w1 => ∃ (i' n1 : Nat), vi = .int .i64 i' /\ i <= i' /\ i' <= j + 1 /\ w1 = W1.drewN n1 /\
         Hid (Sort.scanUp (fun x => Sort.ltInt x dk[a]!) dk j i' = Sort.scanUp (fun x => Sort.ltInt x dk[a]!) dk j i))
         (fun vi _ => j + 1 - (intOf vi).toNat)
        case atStart => exact ⟨i, 0, rfl, Nat.le_refl _, hij, rfl, rfl⟩
        case round =>
         obtain ⟨i', n1, rfl, hii, hij', hw1, hsc⟩ := hrel
         have hcw : ∀ t, t < d.size -> wr.cell? ⟨blk, off + t, none⟩ = some (.int .u64 (Gk t)) := fun t ht => by rw [hw1]; exact hc t ht
         have HW1 : Hid (wr = W1.drewN n1) := hw1
         clear hw1
         by_cases hle : i' <= j
         ·go_wp2_with fail
          go_big_quiet (first | (go_at_call 89; refine Calls.quiet_of_same (so_cmp_Less_int _ _ _)))
          go_wp2
          ·
           have ht : Sort.ltInt (Gk i') (Gk a) = true := by assumption
           go_roundw
           case rel => exact ⟨i' + 1, n1 + nq, by go_num, by omega, by omega, by rw [HW1.out, World.drewN_drewN], (scanUp_go (fun x => Sort.ltInt x dk[a]!) dk j i' hle (by rw [<- AG.out a, <- AG.out i']; exact ht)).symm.trans hsc.out⟩
           case measure => simp [intOf]; omega
          ·
           have ht : Sort.ltInt (Gk i') (Gk a) = false := by assumption
           have hi2 : Hid (i' = Sort.scanUp (fun x => Sort.ltInt x dk[a]!) dk j i) := (scanUp_end (fun x => Sort.ltInt x dk[a]!) dk j i' (Or.inr (by rw [<- AG.out a, <- AG.out i']; exact ht))).symm.trans hsc.out
           clear ht
           have hw2 : wr.drewN nq = W1.drewN (n1 + nq) := by rw [HW1.out, World.drewN_drewN]
           clear hcw HW1 hsc
           go_loopw [11] (fun vj w2 => ∃ (j' n2 : Nat), vj = .int .i64 j' /\ j' <= j /\ i' <= j' + 1 /\ w2 = W1.drewN n2 /\
            Hid (Sort.scanDown (fun x => !Sort.ltInt x dk[a]!) dk i' j' = Sort.scanDown (fun x => !Sort.ltInt x dk[a]!) dk i' j))
            (fun vj _ => (intOf vj).toNat)
           case atStart => exact ⟨j, n1 + nq, rfl, Nat.le_refl _, hij', hw2, rfl⟩
           case round =>
            clear hw2
            obtain ⟨j', n2, rfl, hjj, hij2, hw2, hsd⟩ := hrel
            have hcw : ∀ t, t < d.size -> wr.cell? ⟨blk, off + t, none⟩ = some (.int .u64 (Gk t)) := fun t ht => by rw [hw2]; exact hc t ht
            have HW2 : Hid (wr = W1.drewN n2) := hw2
            clear hw2
            by_cases hle2 : i' <= j'
            ·go_wp2_with fail
             go_big_quiet (first | (go_at_call 89; refine Calls.quiet_of_same (so_cmp_Less_int _ _ _)))
             go_wp2
             ·
              have ht : (!Sort.ltInt (Gk j') (Gk a)) = true := by assumption
              go_roundw
              case rel => exact ⟨j' - 1, n2 + nq, by go_num, by omega, by omega, by rw [HW2.out, World.drewN_drewN], (scanDown_go (fun x => !Sort.ltInt x dk[a]!) dk i' j' hle2 (by omega) (by rw [<- AG.out a, <- AG.out j']; exact ht)).symm.trans hsd.out⟩
              case measure => simp [intOf]; omega
             ·
              have ht : (!Sort.ltInt (Gk j') (Gk a)) = false := by assumption
              have hj2 : Hid (j' = Sort.scanDown (fun x => !Sort.ltInt x dk[a]!) dk i' j) := (scanDown_end (fun x => !Sort.ltInt x dk[a]!) dk i' j' (Or.inr (by rw [<- AG.out a, <- AG.out j']; exact ht))).symm.trans hsd.out
              clear hcw hsd ht
              have hw3 : wr.drewN nq = W1.drewN (n2 + nq) := by rw [HW2.out, World.drewN_drewN]
              generalize wr.drewN nq = W3 at hw3 ⊢
              have hc3 : ∀ t, t < d.size -> W3.cell? ⟨blk, off + t, none⟩ = some (.int .u64 (Gk t)) := fun t ht => by rw [hw3]; exact hc t ht
              have hf3 : ∀ t, t < d.size -> W3.frozen? ⟨blk, off + t, none⟩ = false := fun t ht => by rw [hw3]; exact hf t ht
              have HW3 : Hid (W3 = W1.drewN (n2 + nq)) := hw3
              clear hw3
              obtain ⟨v3, hy3⟩ := cell?_setCell_some (w := W3) (p := ⟨blk, off + i', none⟩) (x := .int .u64 (Gk j')) (q := ⟨blk, off + j', none⟩) (hc3 j' (by omega))
              have hlt3 := part_scans_lt Sort.ltInt a i j dk (by omega) hi2.out hj2.out hle2
              go_wp2
              go_region
              all_goals go_wp2
              all_goals go_roundw
              case rel =>
               refine ⟨i' + 1, j' - 1, n + (n2 + nq) + 1, Sort.swp dk i' j', by go_num, by go_num, by omega, by omega, by omega, by rw [size_swp]; exact hs, ?_, ?_⟩
               ·rw [HW3.out, AW.out, World.drewN_drewN, AG.out i', AG.out j']
                exact swap_worldC encU w blk off dk _ i' j' (by omega) (by omega)
               ·exact (part_go Sort.ltInt a i j dk hi2.out hj2.out (by omega)).symm.trans AE.out
              case measure => simp [intOf]; omega
            ·go_wp2_with fail
             go_big_quiet (first | (go_at_call 89; refine Calls.quiet_of_same (so_cmp_Less_int _ _ _)))
             have hj2 : Hid (j' = Sort.scanDown (fun x => !Sort.ltInt x dk[a]!) dk i' j) := (scanDown_end (fun x => !Sort.ltInt x dk[a]!) dk i' j' (Or.inl hle2)).symm.trans hsd.out
             clear hcw hsd
             have hw3 : wr.drewN nq = W1.drewN (n2 + nq) := by rw [HW2.out, World.drewN_drewN]
             generalize wr.drewN nq = W3 at hw3 ⊢
             have hc3 : ∀ t, t < d.size -> W3.cell? ⟨blk, off + t, none⟩ = some (.int .u64 (Gk t)) := fun t ht => by rw [hw3]; exact hc t ht
             have hf3 : ∀ t, t < d.size -> W3.frozen? ⟨blk, off + t, none⟩ = false := fun t ht => by rw [hw3]; exact hf t ht
             have HW3 : Hid (W3 = W1.drewN (n2 + nq)) := hw3
             clear hw3
             obtain ⟨v3, hy3⟩ := cell?_setCell_some (w := W3) (p := ⟨blk, off + j', none⟩) (x := .int .u64 (Gk a)) (q := ⟨blk, off + a, none⟩) (hc3 a (by omega))
             have hlj : j' < d.size := by omega
             go_wp2
             go_region
             all_goals go_wp2
             all_goals go_ret2
             have e : Sort.partition Sort.ltInt d a b pivot = (j', false, Sort.swp dk j' a) := by
              have e0 := (part_break Sort.ltInt a i j dk hi2.out hj2.out (by omega)).symm.trans AE.out
              rw [HP.out, <- e0]
             refine ⟨?_, n + (n2 + nq) + 1, ?_⟩
             ·rw [e]; rfl
             ·rw [e, HW3.out, AW.out, World.drewN_drewN, AG.out a, AG.out j']
              exact swap_worldC encU w blk off dk _ j' a (by omega) (by omega)
         ·go_wp2_with fail
          go_big_quiet (first | (go_at_call 89; refine Calls.quiet_of_same (so_cmp_Less_int _ _ _)))
          go_wp2
          have hi2 : Hid (i' = Sort.scanUp (fun x => Sort.ltInt x dk[a]!) dk j i) := (scanUp_end (fun x => Sort.ltInt x dk[a]!) dk j i' (Or.inl hle)).symm.trans hsc.out
          have hw2 : wr.drewN nq = W1.drewN (n1 + nq) := by rw [HW1.out, World.drewN_drewN]
          clear hcw HW1 hsc
          go_loopw [11] (fun vj w2 => ∃ (j' n2 : Nat), vj = .int .i64 j' /\ j' <= j /\ i' <= j' + 1 /\ w2 = W1.drewN n2 /\
           Hid (Sort.scanDown (fun x => !Sort.ltInt x dk[a]!) dk i' j' = Sort.scanDown (fun x => !Sort.ltInt x dk[a]!) dk i' j))
           (fun vj _ => (intOf vj).toNat)
          case atStart => exact ⟨j, n1 + nq, rfl, Nat.le_refl _, hij', hw2, rfl⟩
          case round =>
           clear hw2
           obtain ⟨j', n2, rfl, hjj, hij2, hw2, hsd⟩ := hrel
           have hcw : ∀ t, t < d.size -> wr.cell? ⟨blk, off + t, none⟩ = some (.int .u64 (Gk t)) := fun t ht => by rw [hw2]; exact hc t ht
           have HW2 : Hid (wr = W1.drewN n2) := hw2
           clear hw2
           by_cases hle2 : i' <= j'
           ·exfalso; omega
           ·go_wp2_with fail
            go_big_quiet (first | (go_at_call 89; refine Calls.quiet_of_same (so_cmp_Less_int _ _ _)))
            have hj2 : Hid (j' = Sort.scanDown (fun x => !Sort.ltInt x dk[a]!) dk i' j) := (scanDown_end (fun x => !Sort.ltInt x dk[a]!) dk i' j' (Or.inl hle2)).symm.trans hsd.out
            clear hcw hsd
            have hw3 : wr.drewN nq = W1.drewN (n2 + nq) := by rw [HW2.out, World.drewN_drewN]
            generalize wr.drewN nq = W3 at hw3 ⊢
            have hc3 : ∀ t, t < d.size -> W3.cell? ⟨blk, off + t, none⟩ = some (.int .u64 (Gk t)) := fun t ht => by rw [hw3]; exact hc t ht
            have hf3 : ∀ t, t < d.size -> W3.frozen? ⟨blk, off + t, none⟩ = false := fun t ht => by rw [hw3]; exact hf t ht
            have HW3 : Hid (W3 = W1.drewN (n2 + nq)) := hw3
            clear hw3
            obtain ⟨v3, hy3⟩ := cell?_setCell_some (w := W3) (p := ⟨blk, off + j', none⟩) (x := .int .u64 (Gk a)) (q := ⟨blk, off + a, none⟩) (hc3 a (by omega))
            have hlj : j' < d.size := by omega
            go_wp2
            go_region
            all_goals go_wp2
            all_goals go_ret2
            have e : Sort.partition Sort.ltInt d a b pivot = (j', false, Sort.swp dk j' a) := by
             have e0 := (part_break Sort.ltInt a i j dk hi2.out hj2.out (by omega)).symm.trans AE.out
             rw [HP.out, <- e0]
            refine ⟨?_, n + (n2 + nq) + 1, ?_⟩
            ·rw [e]; rfl
            ·rw [e, HW3.out, AW.out, World.drewN_drewN, AG.out a, AG.out j']
             exact swap_worldC encU w blk off dk _ j' a (by omega) (by omega)
     ·go_wp2_with fail
      go_big_quiet (first | (go_at_call 89; refine Calls.quiet_of_same (so_cmp_Less_int _ _ _)))
      have hj2 : Hid (j' = Sort.scanDown (fun x => !Sort.ltInt x dk[a]!) dk i' j) := (scanDown_end (fun x => !Sort.ltInt x dk[a]!) dk i' j' (Or.inl hle2)).symm.trans hsd.out
      clear hcw hsd
      have hw3 : wr.drewN nq = W1.drewN (n2 + nq) := by rw [HW2.out, World.drewN_drewN]
      generalize wr.drewN nq = W3 at hw3 ⊢
      have hc3 : ∀ t, t < d.size -> W3.cell? ⟨blk, off + t, none⟩ = some (.int .u64 (Gk t)) := fun t ht => by rw [hw3]; exact hc t ht
      have hf3 : ∀ t, t < d.size -> W3.frozen? ⟨blk, off + t, none⟩ = false := fun t ht => by rw [hw3]; exact hf t ht
      have HW3 : Hid (W3 = W1.drewN (n2 + nq)) := hw3
      clear hw3
      obtain ⟨v3, hy3⟩ := cell?_setCell_some (w := W3) (p := ⟨blk, off + j', none⟩) (x := .int .u64 (Gk a)) (q := ⟨blk, off + a, none⟩) (hc3 a (by omega))
      have hlj : j' < d.size := by omega
      go_wp2
      go_region
      all_goals go_wp2
      all_goals go_ret2
      have e : Sort.partition Sort.ltInt d a b pivot = (j', true, Sort.swp dk j' a) := part_first_break Sort.ltInt d a b pivot HI.out HJ.out HDK.out hi2.out hj2.out (by omega)
      refine ⟨?_, n + (n2 + nq) + 1, ?_⟩
      ·rw [e]; rfl
      ·rw [e, HW3.out, AW.out, World.drewN_drewN, AG.out a, AG.out j']
       exact swap_worldC encU w blk off dk _ j' a (by omega) (by omega)
  ·go_wp2_with fail
   go_big_quiet (first | (go_at_call 89; refine Calls.quiet_of_same (so_cmp_Less_int _ _ _)))
   go_wp2
   have hi2 : Hid (i' = Sort.scanUp (fun x => Sort.ltInt x dk[a]!) dk j i) := (scanUp_end (fun x => Sort.ltInt x dk[a]!) dk j i' (Or.inl hle)).symm.trans hsc.out
   have hw2 : wr.drewN nq = W1.drewN (n1 + nq) := by rw [HW1.out, World.drewN_drewN]
   clear hcw HW1 hsc
   go_loopw [11] (fun vj w2 => ∃ (j' n2 : Nat), vj = .int .i64 j' /\ j' <= j /\ i' <= j' + 1 /\ w2 = W1.drewN n2 /\
    Hid (Sort.scanDown (fun x => !Sort.ltInt x dk[a]!) dk i' j' = Sort.scanDown (fun x => !Sort.ltInt x dk[a]!) dk i' j))
    (fun vj _ => (intOf vj).toNat)
   case atStart => exact ⟨j, n1 + nq, rfl, Nat.le_refl _, hij', hw2, rfl⟩
   case round =>
    clear hw2
    obtain ⟨j', n2, rfl, hjj, hij2, hw2, hsd⟩ := hrel
    have hcw : ∀ t, t < d.size -> wr.cell? ⟨blk, off + t, none⟩ = some (.int .u64 (Gk t)) := fun t ht => by rw [hw2]; exact hc t ht
    have HW2 : Hid (wr = W1.drewN n2) := hw2
    clear hw2
    by_cases hle2 : i' <= j'
    ·exfalso; omega
    ·go_wp2_with fail
     go_big_quiet (first | (go_at_call 89; refine Calls.quiet_of_same (so_cmp_Less_int _ _ _)))
     have hj2 : Hid (j' = Sort.scanDown (fun x => !Sort.ltInt x dk[a]!) dk i' j) := (scanDown_end (fun x => !Sort.ltInt x dk[a]!) dk i' j' (Or.inl hle2)).symm.trans hsd.out
     clear hcw hsd
     have hw3 : wr.drewN nq = W1.drewN (n2 + nq) := by rw [HW2.out, World.drewN_drewN]
     generalize wr.drewN nq = W3 at hw3 ⊢
     have hc3 : ∀ t, t < d.size -> W3.cell? ⟨blk, off + t, none⟩ = some (.int .u64 (Gk t)) := fun t ht => by rw [hw3]; exact hc t ht
     have hf3 : ∀ t, t < d.size -> W3.frozen? ⟨blk, off + t, none⟩ = false := fun t ht => by rw [hw3]; exact hf t ht
     have HW3 : Hid (W3 = W1.drewN (n2 + nq)) := hw3
     clear hw3
     obtain ⟨v3, hy3⟩ := cell?_setCell_some (w := W3) (p := ⟨blk, off + j', none⟩) (x := .int .u64 (Gk a)) (q := ⟨blk, off + a, none⟩) (hc3 a (by omega))
     have hlj : j' < d.size := by omega
     go_wp2
     go_region
     all_goals go_wp2
     all_goals go_ret2
     have e : Sort.partition Sort.ltInt d a b pivot = (j', true, Sort.swp dk j' a) := part_first_break Sort.ltInt d a b pivot HI.out HJ.out HDK.out hi2.out hj2.out (by omega)
     refine ⟨?_, n + (n2 + nq) + 1, ?_⟩
     ·rw [e]; rfl
     ·rw [e, HW3.out, AW.out, World.drewN_drewN, AG.out a, AG.out j']
      exact swap_worldC encU w blk off dk _ j' a (by omega) (by omega)
theorem so_partitionOrdered_int (blk off cap a b pivot : Nat) (d : Array Int) (w : World) (hH : Holds encU w blk off d) (hap : a <= pivot) (hpb : pivot < b) (hb : b <= d.size) (hsz : d.size < 4611686018427387904) :
 Calls Tryz.prog 91 #[.slice (some ⟨blk, off, none⟩) d.size cap, .int .i64 a, .int .i64 b, .int .i64 pivot] w fun e w' =>
  e = .returned (.tuple #[.int .i64 (Sort.partition Sort.ltInt d a b pivot).1, .bool (Sort.partition Sort.ltInt d a b pivot).2.1]) /\ ∃ n, w' = putRow encU (Sort.ahead w n) blk off (Sort.partition Sort.ltInt d a b pivot).2.2 :=
 (so_partition_int blk off cap a b pivot d w hH hap hpb hb hsz).mono fun _ _ ⟨he, n, hw⟩ => ⟨he, n, hw⟩
theorem holds_asideU {w : World} {blk off sb so n t : Nat} {d : Array Int} (h : Holds encU w blk off d) (hne : sb ≠ blk) : Holds encU (putRow (Value.int .i64) (Sort.ahead w n) sb so (one t)) blk off d := fun j hj =>
 ⟨by rw [cell?_putRow_other _ _ _ _ _ _ (Or.inl (Ne.symm hne))]; exact (h j hj).1, by rw [frozen?_putRow]; exact (h j hj).2⟩
set_option maxHeartbeats 1000000 in
theorem so_order2_int (d : Array Int) (len : Nat) (hlen : d.size = len) (blk off cap a b sb so s : Nat) (w : World) (hH : Holds encU w blk off d) (ha : a < d.size) (hb : b < d.size)
 (hS : Holds (Value.int .i64) w sb so (one s)) (hs : s < 2 ^ 62) :
 Calls Tryz.prog 132 #[.slice (some ⟨blk, off, none⟩) len cap, .int .i64 a, .int .i64 b, .pointer (some ⟨sb, so, none⟩)] w fun e w' =>
  e = .returned (.tuple #[.int .i64 (order2 ltInt d a b s).1, .int .i64 (order2 ltInt d a b s).2.1]) /\ ∃ n, w' = putRow (Value.int .i64) (Sort.ahead w n) sb so (one (order2 ltInt d a b s).2.2) := by
 subst hlen
 replace hs : s < 4611686018427387904 := by omega
 have ca := (hH a ha).1
 have cb := (hH b hb).1
 obtain ⟨cs, fs⟩ := one_cell hS
 have ea : d[a]! = d[a] := getElem!_pos d a ha
 have eb : d[b]! = d[b] := getElem!_pos d b hb
 go_enter Tryz.func132, Tryz.ntmps132
 go_wp2
 go_region_with (go_at_call 89; refine (so_cmp_Less_int _ _ _).mono ?_; rintro e w' ⟨rfl, rfl⟩)
 all_goals (try go_wp2)
 all_goals first
  | (have hlt : ltInt d[b] d[a] = true := by assumption
     have e2 : order2 ltInt d a b s = (b, a, s + 1) := by simp [order2, ea, eb, hlt]
     go_ret2
     rw [e2]
     refine ⟨rfl, 1, ?_⟩
     rw [putRow_ahead, <- one_set hS (s + 1)]
     simp [drew_eq_ahead])
  | (have hlt : ltInt d[b] d[a] = false := by assumption
     have e2 : order2 ltInt d a b s = (a, b, s) := by simp [order2, ea, eb, hlt]
     go_ret2
     rw [e2]
     refine ⟨rfl, 1, ?_⟩
     rw [putRow_ahead, putRow_self _ _ _ _ _ hS]
     rfl)
set_option maxHeartbeats 1000000 in
set_option maxRecDepth 100000 in
theorem so_median_int (d : Array Int) (len : Nat) (hlen : d.size = len) (blk off cap a b c sb so s : Nat) (w : World) (hH : Holds encU w blk off d) (ha : a < d.size) (hb : b < d.size) (hc : c < d.size) (hne : sb ≠ blk)
 (hS : Holds (Value.int .i64) w sb so (one s)) (hs : s + 3 < 2 ^ 62) :
 Calls Tryz.prog 118 #[.slice (some ⟨blk, off, none⟩) len cap, .int .i64 a, .int .i64 b, .int .i64 c, .pointer (some ⟨sb, so, none⟩)] w fun e w' =>
  e = .returned (.int .i64 (median ltInt d a b c s).1) /\ ∃ n, w' = putRow (Value.int .i64) (Sort.ahead w n) sb so (one (median ltInt d a b c s).2) := by
 subst hlen
 have l1 := order2_lt d s ha hb
 have s1 := order2_swaps d a b s
 have l2 := order2_lt d (order2 ltInt d a b s).2.2 l1.2 hc
 have s2 := order2_swaps d (order2 ltInt d a b s).2.1 c (order2 ltInt d a b s).2.2
 go_enter Tryz.func118, Tryz.ntmps118
 go_wp2_with (go_at_call_of 132 (Value.int .i64 (b : Int)); refine (so_order2_int d _ rfl blk off cap a b sb so s w hH ha hb hS (by omega)).mono ?_; rintro e w' ⟨rfl, n1, rfl⟩)
 go_wp2_with (go_at_call_of 132 (Value.int .i64 (c : Int)); refine (so_order2_int d _ rfl blk off cap (order2 ltInt d a b s).2.1 c sb so (order2 ltInt d a b s).2.2 _ (holds_asideU hH hne) l1.2 hc (holds_one hS) (by omega)).mono ?_; rintro e w' ⟨rfl, n2, rfl⟩)
 go_wp2_with (go_at_call_of 132 (Value.int .i64 ((order2 ltInt d a b s).1 : Int)); refine (so_order2_int d _ rfl blk off cap (order2 ltInt d a b s).1 (order2 ltInt d (order2 ltInt d a b s).2.1 c (order2 ltInt d a b s).2.2).1 sb so (order2 ltInt d (order2 ltInt d a b s).2.1 c (order2 ltInt d a b s).2.2).2.2 _
  (holds_asideU (holds_asideU hH hne) hne) l1.1 l2.1 (holds_one (holds_one hS)) (by omega)).mono ?_; rintro e w' ⟨rfl, n3, rfl⟩)
 go_ret
 refine ⟨rfl, n1 + (n2 + n3), ?_⟩
 rw [one_one, one_one]
 rfl
set_option maxHeartbeats 1000000 in
set_option maxRecDepth 100000 in
theorem so_medianAdjacent_int (d : Array Int) (len : Nat) (hlen : d.size = len) (blk off cap a sb so s : Nat) (w : World) (hH : Holds encU w blk off d) (ha0 : 1 <= a) (ha : a + 1 < d.size) (hsz : d.size < 2 ^ 62) (hne : sb ≠ blk)
 (hS : Holds (Value.int .i64) w sb so (one s)) (hs : s + 3 < 2 ^ 62) :
 Calls Tryz.prog 117 #[.slice (some ⟨blk, off, none⟩) len cap, .int .i64 a, .pointer (some ⟨sb, so, none⟩)] w fun e w' =>
  e = .returned (.int .i64 (medianAdjacent ltInt d a s).1) /\ ∃ n, w' = putRow (Value.int .i64) (Sort.ahead w n) sb so (one (medianAdjacent ltInt d a s).2) := by
 subst hlen
 replace hsz : d.size < 4611686018427387904 := by omega
 go_enter Tryz.func117, Tryz.ntmps117
 go_wp2_with (go_at_call 118; rw [show ((a : Int) - 1) = ((a - 1 : Nat) : Int) by omega, show ((a : Int) + 1) = ((a + 1 : Nat) : Int) by omega]; refine (so_median_int d _ rfl blk off cap (a - 1) a (a + 1) sb so s w hH (by omega) (by omega) ha hne hS hs).mono ?_; rintro e w' ⟨rfl, n1, rfl⟩)
 go_ret
 exact ⟨rfl, n1, rfl⟩
set_option maxHeartbeats 1000000 in
set_option maxRecDepth 100000 in
theorem so_breakPatterns_int_go (blk off cap a L : Nat) (d : Array Int) (w : World) (hH : Holds encU w blk off d) (hblk : blk < w.heap.size) (hb : a + L <= d.size) (hsz : d.size < 4611686018427387904) (h8 : 8 <= L) :
 Calls Tryz.prog 85 #[.slice (some ⟨blk, off, none⟩) d.size cap, .int .i64 a, .int .i64 ((a + L : Nat) : Int)] w fun e w' =>
  e = .returned (.tuple #[]) /\ ∃ n os, w' = grow (putRow encU (Sort.ahead w n) blk off (breakPatterns d a (a + L))) os := by
 rw [breakPatterns_eq d a L h8]
 obtain ⟨M, hM⟩ : ∃ M : Nat, M = 1 <<< bitsLen L := ⟨_, rfl⟩
 have hM1 : 1 <= M := by rw [hM, Nat.one_shiftLeft]; exact Nat.two_pow_pos _
 have hM2 : M <= 2 * L := by rw [hM, Nat.one_shiftLeft]; exact two_pow_bitsLen_le (by omega)
 have hNP : ∀ w, Calls Tryz.prog 115 #[.int .i64 (L : Int)] w fun e w' => e = .returned (.int .u64 (M : Int)) /\ w' = w := by rw [hM]; exact fun w => so_nextPowerOfTwo L (by omega) w
 rw [<- hM]
 clear hM
 have HH : Hid (Holds encU w blk off d) := hH
 have HST : Hid (w.alloc (Obj.cells #[.int .u64 (L : Int)] 136) = grow (putRow encU (Sort.ahead w 0) blk off d) #[Obj.cells #[.int .u64 ((UInt64.ofNat L).toNat : Int)] 136]) := by
  show _ = _
  rw [show Sort.ahead w 0 = w from rfl, putRow_self _ _ _ _ _ hH, alloc_eq_grow, show (UInt64.ofNat L).toNat = L from by simp; omega]
 clear hH
 go_enter Tryz.func85, Tryz.ntmps85
 go_wp2_with (first | (go_at_call 115; rw [show ((a : Int) + (L : Int) - (a : Int)) = (L : Int) by omega]; refine (hNP _).mono ?_; rintro e w' ⟨rfl, rfl⟩))
 go_loopw [9] (fun vi wr => ∃ (t n : Nat) (r : UInt64) (dk : Array Int), vi = .int .i64 ((a + L / 4 * 2 - 1 + t : Nat) : Int) /\ t <= 3 /\ dk.size = d.size /\
  wr = grow (putRow encU (Sort.ahead w n) blk off dk) #[Obj.cells #[.int .u64 (r.toNat : Int)] 136] /\
  bpRest a L M (a + L / 4 * 2 - 1) (3 - t) t (r, dk) = bpRest a L M (a + L / 4 * 2 - 1) 3 0 (UInt64.ofNat L, d)) (fun vi _ => a + L / 4 * 2 + 3 - (intOf vi).toNat)
 case atStart => exact ⟨0, 0, UInt64.ofNat L, d, by congr 1; omega, by omega, rfl, HST.out, rfl⟩
 case round =>
  obtain ⟨t, n, r, dk, rfl, ht, hsk, hw, hR⟩ := hrel
  obtain ⟨R, hRr⟩ : ∃ R : Nat, R = r.toNat := ⟨_, rfl⟩
  have lR : R < 18446744073709551616 := by rw [hRr]; exact r.toNat_lt
  obtain ⟨R', hR'⟩ : ∃ R' : Nat, R' = xorNextN R := ⟨_, rfl⟩
  have lR' : R' < 18446744073709551616 := by rw [hR']; exact xorNextN_lt R lR
  obtain ⟨O, hO⟩ : ∃ O : Nat, O = R' &&& (M - 1) := ⟨_, rfl⟩
  have lO : O <= M - 1 := by rw [hO]; exact Nat.and_le_right
  have eAnd : bits .and .u64 (R' : Int) ((M : Int) - 1) = (O : Int) := by
   rw [show ((M : Int) - 1) = ((M - 1 : Nat) : Int) by omega, bits_and_u64_nat _ _ lR' (by omega), hO]
  obtain ⟨G, hG⟩ : ∃ G : Nat -> Int, ∀ x, G x = dk[x]! := ⟨fun x => dk[x]!, fun _ => rfl⟩
  have hz : (putRow encU (Sort.ahead w n) blk off dk).heap.size = w.heap.size := by simp
  have hcw : ∀ x, x < d.size -> wr.cell? ⟨blk, off + x, none⟩ = some (.int .u64 (G x)) := fun x hx => by
   rw [hw, cell?_grow _ _ _ (by rw [hz]; exact hblk), hG]; exact cell?_putRow _ _ _ _ d dk (holds_ahead _ _ _ _ _ _ HH.out) hsk x (by omega)
  have hfw : ∀ x, x < d.size -> wr.frozen? ⟨blk, off + x, none⟩ = false := fun x hx => by
   rw [hw, frozen?_grow _ _ _ (by rw [hz]; exact hblk), frozen?_putRow]; exact ((holds_ahead _ _ n _ _ _ HH.out) x hx).2
  have hcB : wr.cell? ⟨w.heap.size, 0, none⟩ = some (.int .u64 (R : Int)) := by rw [hw, hRr, <- hz]; exact grow_one_cell _ _ _
  have hfB : wr.frozen? ⟨w.heap.size, 0, none⟩ = false := by rw [hw, <- hz]; exact grow_one_frozen _ _ _
  have hNext : Calls Tryz.prog 116 #[.pointer (some ⟨w.heap.size, 0, none⟩)] wr fun e w' => e = .returned (.int .u64 (R' : Int)) /\ w' = (wr.setCell ⟨w.heap.size, 0, none⟩ (.int .u64 (R' : Int))).drewN 3 := by
   rw [hR']; exact so_xorshift_Next _ _ R lR wr hcB hfB
  have HW : Hid (wr = grow (putRow encU (Sort.ahead w n) blk off dk) #[Obj.cells #[.int .u64 (r.toNat : Int)] 136]) := hw
  have HG : Hid (∀ x, G x = dk[x]!) := hG
  have HR : Hid (bpRest a L M (a + L / 4 * 2 - 1) (3 - t) t (r, dk) = bpRest a L M (a + L / 4 * 2 - 1) 3 0 (UInt64.ofNat L, d)) := hR
  have HN : Hid (R' = (xorNext r).toNat /\ O = (xorNext r).toNat &&& (M - 1)) := by
   have e : R' = (xorNext r).toNat := by rw [hR', hRr, xorNext_toNat]
   exact ⟨e, by rw [hO, e]⟩
  clear hw hG hR hRr hR' hO
  go_wp2_with (first | (go_at_call 116; refine hNext.mono ?_; rintro e w' ⟨rfl, rfl⟩))
  ·
   have hLO : L <= O := by omega
   by_cases hEq : a + L / 4 * 2 - 1 + t = a + (O - L)
   all_goals
    go_region
    all_goals go_wp2
    go_roundw
    case rel =>
     refine ⟨t + 1, n + 4, xorNext r, swp dk (a + L / 4 * 2 - 1 + t) (a + (O - L)), by first | rfl | (congr 1 <;> omega), by omega, by rw [size_swp]; exact hsk, ?_, ?_⟩
     ·(try rw [hEq])
      rw [HW.out, HN.out.1]
      simp only [HG.out]
      exact step_world encU w n 4 blk off dk _ _ hblk (by omega) (by omega) _ _ _
     ·rw [<- HR.out, bp_step a L M _ t r dk (O - L) (by omega) (by rw [<- HN.out.2, if_pos (by omega)])]
    case measure => simp [intOf]; omega
  ·have hLO : ¬ L <= O := by omega
   by_cases hEq : a + L / 4 * 2 - 1 + t = a + O
   all_goals
    go_region
    all_goals go_wp2
    go_roundw
    case rel =>
     refine ⟨t + 1, n + 4, xorNext r, swp dk (a + L / 4 * 2 - 1 + t) (a + O), by first | rfl | (congr 1 <;> omega), by omega, by rw [size_swp]; exact hsk, ?_, ?_⟩
     ·(try rw [hEq])
      rw [HW.out, HN.out.1]
      simp only [HG.out]
      exact step_world encU w n 4 blk off dk _ _ hblk (by omega) (by omega) _ _ _
     ·rw [<- HR.out, bp_step a L M _ t r dk O (by omega) (by rw [<- HN.out.2, if_neg (by omega)])]
    case measure => simp [intOf]; omega
  ·
   obtain rfl : t = 3 := by omega
   go_end0
   exact ⟨rfl, n, _, by rw [<- HR.out, HW.out]; rfl⟩
theorem so_breakPatterns_int (blk off cap a b : Nat) (d : Array Int) (w : World) (hH : Holds encU w blk off d) (hblk : blk < w.heap.size) (hab : a <= b) (hb : b <= d.size) (hsz : d.size < 4611686018427387904) :
 Calls Tryz.prog 85 #[.slice (some ⟨blk, off, none⟩) d.size cap, .int .i64 a, .int .i64 b] w fun e w' =>
  e = .returned (.tuple #[]) /\ ∃ n os, w' = grow (putRow encU (Sort.ahead w n) blk off (breakPatterns d a b)) os := by
 obtain ⟨L, rfl⟩ : ∃ L, b = a + L := ⟨b - a, by omega⟩
 by_cases h8 : 8 <= L
 ·exact so_breakPatterns_int_go blk off cap a L d w hH hblk hb hsz h8
 ·have hv : breakPatterns d a (a + L) = d := by unfold breakPatterns; simp only [Nat.add_sub_cancel_left]; rw [if_neg h8]
  rw [hv]
  have HST : Hid (w = grow (putRow encU (Sort.ahead w 0) blk off d) #[]) := by
   show _ = _
   rw [grow_empty, show Sort.ahead w 0 = w from rfl, putRow_self _ _ _ _ _ hH]
  clear hH
  go_enter Tryz.func85, Tryz.ntmps85
  go_wp2
  go_end0
  exact ⟨rfl, 0, #[], HST.out⟩
end Go.Proofs.YtjimggclhlnfbaaGreat
namespace Go.Proofs.YtjimggclhlnfbaaGreat
open Go.RowKit
theorem wrap_top : IntKind.u64.wrap (((M64 - 1 : Nat) : Int) + 1) = 0 := by decide
theorem wrap_sub {x y : Nat} (h : y <= x) (hx : x < M64) : IntKind.u64.wrap ((x : Int) - y) = ((x - y : Nat) : Int) := by
 rw [show ((x : Int) - y) = ((x - y : Nat) : Int) from by omega]; exact wrap_lt (by omega)
theorem wrap_sub1 {x : Nat} (h : 1 <= x) (hx : x < M64) : IntKind.u64.wrap ((x : Int) - 1) = ((x - 1 : Nat) : Int) := wrap_sub (y := 1) h hx
theorem wrap_add1 {x : Nat} (hx : x + 1 < M64) : IntKind.u64.wrap ((x : Int) + 1) = (x : Int) + 1 := by
 have := wrap_lt (x := x + 1) hx; push_cast at this; exact this
theorem wordNext_yes (x : Nat) (w : World) (h : x + 1 < M64) : Calls Tryz.prog 27 #[.int .u64 x] w fun e w' => e = .returned (.tuple #[.int .u64 ((x : Int) + 1), .bool true]) /\ w = w' := by
 have h1 := wrap_add1 h
 have h2 : ((x : Int) + 1 != 0) = true := by simp; omega
 go_enter Tryz.func27, Tryz.ntmps27
 go_wp2
 go_ret2
 exact ⟨rfl, rfl⟩
theorem wordNext_no (w : World) : Calls Tryz.prog 27 #[.int .u64 ((M64 - 1 : Nat) : Int)] w fun e w' => e = .returned (.tuple #[.int .u64 0, .bool false]) /\ w = w' := by
 have h1 := wrap_top
 generalize ((M64 - 1 : Nat) : Int) = m at *
 go_enter Tryz.func27, Tryz.ntmps27
 go_wp2
 go_ret2
 exact ⟨rfl, rfl⟩
theorem between_no (a b : Nat) (w : World) (h : b <= a) : Calls Tryz.prog 142 #[.int .u64 a, .int .u64 b] w fun e w' => e = .returned (.tuple #[.int .u64 0, .bool false]) /\ w = w' := by
 go_enter Tryz.func142, Tryz.ntmps142
 go_wp2
 go_ret2
 exact ⟨rfl, rfl⟩
theorem between_yes (a b : Nat) (w : World) (h : a < b) (hb : b < M64) : Calls Tryz.prog 142 #[.int .u64 a, .int .u64 b] w fun e w' => e = .returned (.tuple #[.int .u64 ((b - a - 1 : Nat) : Int), .bool true]) /\ w = w' := by
 have h1 := wrap_sub (x := b) (y := a) (by omega) hb
 have h2 := wrap_sub1 (x := b - a) (by omega) (by omega)
 generalize b - a = d at *
 have H2 := Lib.hid h2
 clear h2
 go_enter Tryz.func142, Tryz.ntmps142
 go_wp2
 rw [H2.out]
 go_ret2
 exact ⟨rfl, rfl⟩
def relate (s t : Iv) : Nat := if s.hi < t.lo then (if s.hi + 1 = t.lo then 1 else 0) else if t.hi < s.lo then (if t.hi + 1 = s.lo then 3 else 4) else 2
theorem relate_any (s t : Iv) (w : World) (hs : s.lo <= s.hi) (ht : t.lo <= t.hi) (h1 : s.hi < M64) (h2 : t.hi < M64) :
 Calls Tryz.prog 128 #[.agg #[.int .u64 s.lo, .int .u64 s.hi], .agg #[.int .u64 t.lo, .int .u64 t.hi]] w fun e w' => e = .returned (.int .i64 (relate s t)) /\ Below w.heap.size w w' := by
 have H : ∀ n : Nat, relate s t = n -> Hid (relate s t = n) := fun _ h => h
 by_cases c1 : s.hi < t.lo
 ·by_cases c3 : s.hi + 1 = t.lo
  ·have c3' := Lib.hid c3
   clear c3
   have R := H 1 (by unfold relate; rw [if_pos c1, if_pos c3'.out])
   have C4 := Lib.hid (show t.lo - s.hi - 1 = 0 by have := c3'.out; omega)
   clear H
   go_enter Tryz.func128, Tryz.ntmps128
   go_wp2_with (first | (go_at_call 142; with_reducible refine (between_yes s.hi t.lo _ (by omega) (by omega)).mono ?_; rw [C4.out]; rintro e w' ⟨rfl, rfl⟩) | (go_at_call 142; with_reducible refine (between_no t.hi s.lo _ (by omega)).mono ?_; rintro e w' ⟨rfl, rfl⟩))
   go_ret
   rw [R.out]
   exact ⟨rfl, ((Below.refl _ _).alloc (Nat.le_refl _) _).alloc (by simp) _⟩
  ·have R := H 0 (by unfold relate; rw [if_pos c1, if_neg c3])
   obtain ⟨g, hg0⟩ : ∃ g, t.lo - s.hi - 1 = g := ⟨_, rfl⟩
   have hg : 0 < g := by omega
   have C4 := Lib.hid hg0
   clear hg0
   clear H
   go_enter Tryz.func128, Tryz.ntmps128
   go_wp2_with (first | (go_at_call 142; with_reducible refine (between_yes s.hi t.lo _ (by omega) (by omega)).mono ?_; rw [C4.out]; rintro e w' ⟨rfl, rfl⟩) | (go_at_call 142; with_reducible refine (between_no t.hi s.lo _ (by omega)).mono ?_; rintro e w' ⟨rfl, rfl⟩))
   go_ret
   rw [R.out]
   exact ⟨rfl, ((Below.refl _ _).alloc (Nat.le_refl _) _).alloc (by simp) _⟩
 ·by_cases c2 : t.hi < s.lo
  ·by_cases c3 : t.hi + 1 = s.lo
   ·have c3' := Lib.hid c3
    clear c3
    have R := H 3 (by unfold relate; rw [if_neg c1, if_pos c2, if_pos c3'.out])
    have C4 := Lib.hid (show s.lo - t.hi - 1 = 0 by have := c3'.out; omega)
    clear H
    go_enter Tryz.func128, Tryz.ntmps128
    go_wp2_with (first | (go_at_call 142; with_reducible refine (between_no s.hi t.lo _ (by omega)).mono ?_; rintro e w' ⟨rfl, rfl⟩) | (go_at_call 142; with_reducible refine (between_yes t.hi s.lo _ (by omega) (by omega)).mono ?_; rw [C4.out]; rintro e w' ⟨rfl, rfl⟩))
    go_ret
    rw [R.out]
    exact ⟨rfl, ((Below.refl _ _).alloc (Nat.le_refl _) _).alloc (by simp) _⟩
   ·have R := H 4 (by unfold relate; rw [if_neg c1, if_pos c2, if_neg c3])
    obtain ⟨g, hg0⟩ : ∃ g, s.lo - t.hi - 1 = g := ⟨_, rfl⟩
    have hg : 0 < g := by omega
    have C4 := Lib.hid hg0
    clear hg0
    clear H
    go_enter Tryz.func128, Tryz.ntmps128
    go_wp2_with (first | (go_at_call 142; with_reducible refine (between_no s.hi t.lo _ (by omega)).mono ?_; rintro e w' ⟨rfl, rfl⟩) | (go_at_call 142; with_reducible refine (between_yes t.hi s.lo _ (by omega) (by omega)).mono ?_; rw [C4.out]; rintro e w' ⟨rfl, rfl⟩))
    go_ret
    rw [R.out]
    exact ⟨rfl, ((Below.refl _ _).alloc (Nat.le_refl _) _).alloc (by simp) _⟩
  ·have R := H 2 (by unfold relate; rw [if_neg c1, if_neg c2])
   clear H
   go_enter Tryz.func128, Tryz.ntmps128
   go_wp2_with (first | (go_at_call 142; with_reducible refine (between_no s.hi t.lo _ (by omega)).mono ?_; rintro e w' ⟨rfl, rfl⟩) | (go_at_call 142; with_reducible refine (between_no t.hi s.lo _ (by omega)).mono ?_; rintro e w' ⟨rfl, rfl⟩))
   go_ret
   rw [R.out]
   exact ⟨rfl, ((Below.refl _ _).alloc (Nat.le_refl _) _).alloc (by simp) _⟩
end Go.Proofs.YtjimggclhlnfbaaGreat
namespace Go.Proofs.YtjimggclhlnfbaaGreat
open Go.RowKit
variable {P : Program} {s : PS}
def Det {α : Type} (H : (α -> Prop) -> Prop) : Prop := ∀ K, H K -> ∃ x, K x /\ H fun y => y = x
theorem Det.pure {α : Type} (x : α) : Det fun K : α -> Prop => K x := fun K h => ⟨x, h, rfl⟩
theorem Det.false {α : Type} : Det fun _ : α -> Prop => False := fun _ h => h.elim
theorem Det.and {α : Type} {H : (α -> Prop) -> Prop} (p : Prop) (h : Det H) : Det fun K => p /\ H K := fun K hk => by
 obtain ⟨x, h1, h2⟩ := h K hk.2
 exact ⟨x, h1, hk.1, h2⟩
theorem qCells_det {α : Type} {p : PV} {H : List PV -> (α -> Prop) -> Prop} (h : ∀ cs, Det (H cs)) : Det fun K => qCells p fun cs => H cs K := by
 intro K hk
 unfold qCells at hk ⊢
 split at hk <;> first | exact h _ K hk | exact Det.and _ (h _) K hk | exact hk.elim
theorem qBool_det {α : Type} {p : PV} {H : Bool -> (α -> Prop) -> Prop} (h : ∀ b, Det (H b)) : Det fun K => qBool p fun b => H b K := by
 intro K hk
 unfold qBool at hk ⊢
 split at hk
 ·exact h _ K hk
 ·exact hk.elim
theorem qInt_det {α : Type} {p : PV} {H : IntKind -> Int -> (α -> Prop) -> Prop} (h : ∀ k n, Det (H k n)) : Det fun K => qInt p fun k n => H k n K := by
 intro K hk
 unfold qInt at hk ⊢
 split at hk
 ·exact h _ _ K hk
 ·exact hk.elim
theorem qSl_det {α : Type} {p : PV} {H : List (List PV) -> (α -> Prop) -> Prop} (h : ∀ es, Det (H es)) : Det fun K => qSl p fun es => H es K := by
 intro K hk
 unfold qSl at hk ⊢
 split at hk
 ·exact h _ K hk
 ·exact hk.elim
theorem qar_det (k : IntKind) (n : Int) : Det (qar k n) := by
 intro K hk
 unfold qar at hk ⊢
 split at hk
 ·exact ⟨_, hk.2, hk.1, rfl⟩
 ·exact ⟨_, hk, rfl⟩
theorem qint_det (op : BinOp) (k : IntKind) (a b : Int) : Det (qint op k a b) := by
 intro K hk
 unfold qint at hk ⊢
 split at hk <;> first | exact qar_det _ _ K hk | exact Det.and _ (qar_det _ _) K hk | exact Det.and _ (Det.pure _) K hk | exact ⟨_, hk, rfl⟩ | exact hk.elim
theorem qbin_det (op : BinOp) (p q : PV) : Det (qbin op p q) := by
 intro K hk
 unfold qbin at hk ⊢
 split at hk
 ·exact Det.and _ (qint_det _ _ _ _) K hk
 ·exact hk.elim
theorem qeq2_det (n : Bool) (p q : PV) : Det (qeq2 n p q) := by
 intro K hk
 unfold qeq2 at hk ⊢
 split at hk
 ·exact ⟨_, hk.2.2, hk.1, hk.2.1, rfl⟩
 ·exact hk.elim
theorem qAt_det (cs : List PV) (o : Nat) (ag : Bool) (n : Nat) : Det (qAt cs o ag n) := by
 intro K hk
 unfold qAt at hk ⊢
 split at hk
 ·exact ⟨_, hk.2, hk.1, rfl⟩
 ·split at hk
  ·exact ⟨_, hk, rfl⟩
  ·exact hk.elim
theorem qAt_det' {α : Type} (cs : List PV) (o : Nat) (ag : Bool) (n : Nat) (f : PV -> α) : Det fun K : α -> Prop => qAt cs o ag n fun p => K (f p) := by
 intro K hk
 obtain ⟨x, h1, h2⟩ := qAt_det cs o ag n _ hk
 refine ⟨f x, h1, ?_⟩
 unfold qAt at h2 ⊢
 split at h2
 ·exact ⟨h2.1, by rw [h2.2]⟩
 ·split at h2
  ·rw [h2]
  ·exact h2.elim
theorem qParts_det {α : Type} (f : List PV -> α) : ∀ (ps : List (Nat × Nat × PO)) (zs : List PV), Det fun K : α -> Prop => qParts s ps zs fun cs => K (f cs)
 | [], zs => Det.pure _
 | (off, n, x) :: r, zs => qCells_det fun cs => Det.and _ (Det.and _ (Det.and _ (qParts_det f r _)))
theorem qElems_det {α : Type} (sz : Nat) : ∀ (ps : List PO) (f : List (List PV) -> α), Det fun K : α -> Prop => qElems s sz ps fun es => K (f es)
 | [], f => Det.pure _
 | x :: r, f => qCells_det fun cs => Det.and _ (Det.and _ (qElems_det sz r fun es => f (cs.map PV.sh :: es)))
theorem qBd_det {α : Type} (y : Option PO) (n : Nat) {H : Nat -> (α -> Prop) -> Prop} (h : ∀ n, Det (H n)) : Det fun K => qBd s y n fun m => H m K := by
 cases y with
 | none => exact h n
 | some y => exact qInt_det fun _ _ => Det.and _ (h _)
theorem q_det (k : PK) : Det (k.q P s) := by
 cases k with
 | mv x => cases x <;> exact Det.pure _
 | bin op x y => exact qbin_det _ _ _
 | beq n x y => exact qBool_det fun a => qBool_det fun b => Det.pure _
 | eq2 n x y => exact qeq2_det _ _ _
 | nil n x =>
  intro K hk
  simp only [PK.q] at hk ⊢
  split at hk <;> first | exact ⟨_, hk, rfl⟩ | exact hk.elim
 | not x => exact qBool_det fun a => Det.pure _
 | cv k x => exact qInt_det fun a b => Det.pure _
 | fa x off =>
  intro K hk
  simp only [PK.q] at hk ⊢
  split at hk <;> first | exact ⟨_, hk, rfl⟩ | exact hk.elim
 | ia x y sz =>
  refine qSl_det fun es => qInt_det fun _ n => Det.and _ fun K hk => ?_
  split at hk
  ·exact ⟨_, hk.2, hk.1, rfl⟩
  ·exact hk.elim
 | aa x y n sz =>
  refine qInt_det fun _ m => Det.and _ fun K hk => ?_
  split at hk <;> first | exact ⟨_, hk, rfl⟩ | exact hk.elim
 | ix x y n ag sz =>
  refine qInt_det fun _ m => Det.and _ fun K hk => ?_
  split at hk
  ·exact qAt_det' _ _ _ _ _ K hk
  ·exact hk.elim
 | fl x off ag n =>
  intro K hk
  simp only [PK.q] at hk ⊢
  split at hk
  ·exact qAt_det' _ _ _ _ _ K hk
  ·exact hk.elim
 | ld x ag n =>
  intro K hk
  simp only [PK.q] at hk ⊢
  split at hk
  ·exact qAt_det' _ _ _ _ _ K hk
  ·split at hk
   ·exact Det.and _ (qAt_det' _ _ _ _ _) K hk
   ·exact hk.elim
  ·exact hk.elim
 | nc x =>
  intro K hk
  simp only [PK.q] at hk ⊢
  split at hk <;> first | exact ⟨_, hk, rfl⟩ | exact hk.elim
 | bd zs ps => exact qParts_det _ _ _
 | bs sz ps => exact qElems_det _ _ _
 | ln x => exact qSl_det fun _ => Det.pure _
 | ex x i =>
  intro K hk
  simp only [PK.q] at hk ⊢
  split at hk
  ·split at hk
   ·exact ⟨_, hk, rfl⟩
   ·exact hk.elim
  ·exact hk.elim
 | mf f fs cs => exact Det.and _ (Det.pure _)
 | mi t x =>
  intro K hk
  simp only [PK.q] at hk ⊢
  split at hk
  ·exact ⟨_, hk, rfl⟩
  ·exact hk.elim
 | pk c x y =>
  refine qBool_det fun b => ?_
  intro K hk
  cases b with
  | true => exact ⟨_, hk.1 rfl, fun _ => rfl, nofun⟩
  | false => exact ⟨_, hk.2 rfl, nofun, fun _ => rfl⟩
 | sc x lo hi sz => exact qSl_det fun es => qBd_det _ _ fun h => qBd_det _ _ fun l => Det.and _ (Det.and _ (Det.and _ (Det.pure _)))
 | ap x y sz b =>
  intro K hk
  simp only [PK.q] at hk ⊢
  split at hk
  ·exact qSl_det (fun es' => Det.and _ (Det.and _ (Det.and _ (Det.pure _)))) K hk
  ·exact hk.elim
 | mm m x y => exact qInt_det fun _ _ => qInt_det fun _ _ => Det.and _ (Det.pure _)
 | ca f xs =>
  intro K hk
  obtain ⟨r, h1, h2, h3⟩ := hk
  exact ⟨_, h3, r, h1, h2, rfl⟩
 | cl y xs =>
  intro K hk
  simp only [PK.q] at hk ⊢
  split at hk
  ·obtain ⟨r, h1, h2, h3⟩ := hk
   exact ⟨_, h3, r, h1, h2, rfl⟩
  ·exact hk.elim
 | al zs => exact Det.false
 | bo x => exact Det.false
 | st x y n => exact Det.false
end Go.Proofs.YtjimggclhlnfbaaGreat
namespace Go.Proofs.YtjimggclhlnfbaaGreat
open Go.RowKit
attribute [local go_sem] Oper.semAt_some
def slt (a : Act) : Nat -> Value := fun t => a.tmps.getD t undef
theorem ofC_dat (D : Nat -> Nat -> Prop) (w : World) (v : Value) : Dat D w v (ofC v) := by
 unfold ofC
 split
 ·exact .sl none 0 1 [] .sh 0 0 (fun _ => undef) (Nat.le_refl _) (fun h => by cases h) (Nat.zero_le _) (fun h => absurd rfl h) (fun i e h => by simp at h) (fun j h => absurd h (by simp)) (fun i e j p h => by simp at h)
 ·exact .v _
theorem ofV_dat (D : Nat -> Nat -> Prop) (w : World) (v : Value) : Dat D w v (ofV v) := by
 unfold ofV
 split
 ·exact .sl none 0 1 [] .z 0 0 (fun _ => undef) (Nat.le_refl _) (fun _ => rfl) (Nat.zero_le _) (fun h => absurd rfl h) (fun i e h => by simp at h) (fun j h => absurd h (by simp)) (fun i e j p h => by simp at h)
 ·rename_i vs
  split
  ·rename_i hall
   refine .agg vs _ (by simp) (fun i hi => ?_) fun i p hp => ?_
   ·rw [List.all_eq_true] at hall
    have hi' : i < vs.size := by simpa using hi
    exact hall _ (by simp [hi'])
   ·simp only [List.getElem?_map, Option.map_eq_some_iff] at hp
    obtain ⟨v, hv, rfl⟩ := hp
    have : vs.getD i undef = v := by simp at hv; simp [hv]
    rw [this]; exact ofC_dat D w v
  ·exact .v _
 ·exact .v _
structure Rd (D : Nat -> Nat -> Prop) (ρ : Nat -> Nat) (s : PS) (x : Nat -> Value) (ts : List Nat) (w : World) : Prop where
 slots : ∀ t ∈ ts, Rel D ρ s.b.length w (x t) (s.get t)
 boxes : ∀ (i : Nat) cs, s.b[i]? = some cs -> BoxR ⟨D, ρ⟩ s.b.length w i cs
 gl : GL D w
def News (x0 : Nat -> Value) (n0 : Nat) (s : PS) (x : Nat -> Value) (ts : List Nat) (w : World) : Prop :=
 n0 <= w.heap.size /\ ∀ t ∈ ts, NewOk x0 n0 w (x t) (s.get t) /\ ((s.get t).own ≠ none -> x0 t = x t)
def Qok (P : Program) (o : Oper) (s : PS) (ρ : Nat -> Nat) (D : Nat -> Nat -> Prop) (a : Act) (w : World) (p : PV) : Prop :=
 ∀ (next : Act -> World -> Prop) (Q : Exit -> Act -> World -> Prop), (∀ u w', Below w.heap.size w w' -> Rel (fun b o => D b o \/ w.heap.size <= b) ρ s.b.length w' u p -> (∀ x0 n0, News x0 n0 s (slt a) (rdsO o) w -> NewOk x0 n0 w' u p) -> next (a.put o.dst u) w') -> o.wp P a w next Q
variable {P : Program} {o : Oper} {D : Nat -> Nat -> Prop} {ρ : Nat -> Nat} {nb : Nat} {s : PS} {a : Act} {w : World}
theorem qdet {u : Value} {p : PV} (hr : (execOp a.eval o).run P w = .ok (.value u) w) (h : Rel D ρ s.b.length w u p) (hN : ∀ x0 n0, News x0 n0 s (slt a) (rdsO o) w -> NewOk x0 n0 w u p) : Qok P o s ρ D a w p := by
 intro next Q hn
 show o.upon P a next Q ((execOp a.eval o).run P w)
 rw [hr]
 exact hn u w (Below.refl _ _) (h.mono (fun _ _ h => .inl h) (fun _ _ _ _ h => h) (Nat.le_refl _) fun _ _ => rfl) hN
theorem qnew {u : Value} {p : PV} {w' : World} (hr : (execOp a.eval o).run P w = .ok (.value u) w') (hb : Below w.heap.size w w') (h : Rel (fun b o => D b o \/ w.heap.size <= b) ρ s.b.length w' u p) (hN : ∀ x0 n0, News x0 n0 s (slt a) (rdsO o) w -> NewOk x0 n0 w' u p) : Qok P o s ρ D a w p := by
 intro next Q hn
 show o.upon P a next Q ((execOp a.eval o).run P w)
 rw [hr]
 exact hn u w' hb h hN
theorem po_rel {y : Operand} {y' : PO} (hy : po y = some y') (h : ∀ t, y = .tmp t -> Rel D ρ nb w (slt a t) (s.get t)) : Rel D ρ nb w (a.eval y) (s.ev y') := by
 cases y with
 | tmp t => cases hy; exact h t rfl
 | const v => cases hy; exact .dat (ofV_dat D w v)
 | func f => cases hy; exact .dat (.fn (.func f) #[] #[] [] [] rfl rfl (fun i p h => by simp at h) (fun i p h => by simp at h))
 | global g => cases hy
theorem Rd.at {ts : List Nat} (h : Rd D ρ s (slt a) ts w) {y : Operand} {y' : PO} (hy : po y = some y') (ht : ∀ t, y = .tmp t -> t ∈ ts) : Rel D ρ s.b.length w (a.eval y) (s.ev y') :=
 po_rel hy fun t e => h.slots t (ht t e)
theorem Rel.inv_agg {u : Value} {cs : List PV} (h : Rel D ρ nb w u (.agg cs)) : ∃ vs : Array Value, u = .agg vs /\ vs.size = cs.length /\ (∀ i, i < cs.length -> (vs.getD i undef).oneCell' = true) /\ ∀ (i : Nat) p, cs[i]? = some p -> Dat D w (vs.getD i undef) p := by
 rcases h with (h | ⟨i, o, h, _⟩) | ⟨f, va, vb, fs, cs, h, _⟩
 ·cases h with | agg vs cs hs h1 h => exact ⟨vs, rfl, hs, h1, h⟩
 ·cases h
 ·cases h
theorem Rel.inv_tup {u : Value} {cs : List PV} (h : Rel D ρ nb w u (.tup cs)) : ∃ vs : Array Value, u = .tuple vs /\ vs.size = cs.length /\ ∀ (i : Nat) p, cs[i]? = some p -> Dat D w (vs.getD i undef) p := by
 rcases h with (h | ⟨i, o, h, _⟩) | ⟨f, va, vb, fs, cs, h, _⟩
 ·cases h with | tup vs cs hs h => exact ⟨vs, rfl, hs, h⟩
 ·cases h
 ·cases h
theorem Rel.inv_ifc {u : Value} {t : TypeId} {p : PV} (h : Rel D ρ nb w u (.ifc t p)) : ∃ x, u = .iface t x /\ Dat D w x p := by
 rcases h with (h | ⟨i, o, h, _⟩) | ⟨f, va, vb, fs, cs, h, _⟩
 ·cases h with | ifc t x p h => exact ⟨x, rfl, h⟩
 ·cases h
 ·cases h
theorem Rel.inv_bx {u : Value} {i o : Nat} (h : Rel D ρ nb w u (.bx i o)) : i < nb /\ u = .pointer (some ⟨ρ i, o, none⟩) := by
 rcases h with (h | ⟨i, o, h, hi, hu⟩) | ⟨f, va, vb, fs, cs, h, _⟩
 ·cases h
 ·cases h; exact ⟨hi, hu⟩
 ·cases h
theorem Rel.inv_cp {u : Value} {cs : List PV} {k : Nat} (h : Rel D ρ nb w u (.cp cs k)) : ∃ (b off : Nat) (f : Nat -> Value), u = .pointer (some ⟨b, off + k, none⟩) /\ (∀ j, j < cs.length -> D b (off + j) /\ w.cell? ⟨b, off + j, none⟩ = some (f j) /\ (f j).oneCell' = true) /\ ∀ (j : Nat) p, cs[j]? = some p -> Dat D w (f j) p := by
 rcases h with (h | ⟨i, o, h, _⟩) | ⟨f, va, vb, fs, cs, h, _⟩
 ·cases h with | cp b off cs o u h1 h2 => exact ⟨b, off, u, rfl, h1, h2⟩
 ·cases h
 ·cases h
theorem Rel.inv_sl {u : Value} {es : List (List PV)} {k : Ow} (h : Rel D ρ nb w u (.sl es k)) : ∃ (ad : Option Addr) (cap sz b off : Nat) (f : Nat -> Value), u = .slice ad es.length cap /\ es.length <= cap /\ (k = .z -> cap = es.length) /\ cap <= maxLen /\ (es ≠ [] -> ad = some ⟨b, off, none⟩) /\
 (∀ (i : Nat) e, es[i]? = some e -> e.length = sz) /\ (∀ j, j < es.length * sz -> D b (off + j) /\ w.cell? ⟨b, off + j, none⟩ = some (f j) /\ (f j).oneCell' = true) /\ ∀ (i : Nat) e (j : Nat) p, es[i]? = some e -> e[j]? = some p -> Dat D w (f (i * sz + j)) p := by
 rcases h with (h | ⟨i, o, h, _⟩) | ⟨f, va, vb, fs, cs, h, _⟩
 ·cases h with | sl a cap sz es o b off u hc hz hm ha hsz hD h => exact ⟨a, cap, sz, b, off, u, rfl, hc, hz, hm, ha, hsz, hD, h⟩
 ·cases h
 ·cases h
theorem qBool_inv {p : PV} {K : Bool -> Prop} {u : Value} (h : qBool p K) (hr : Rel D ρ nb w u p) : ∃ b, u = .bool b /\ p = .v (.bool b) /\ K b := by
 unfold qBool at h
 split at h
 ·exact ⟨_, hr.v_inv, rfl, h⟩
 ·exact h.elim
theorem qInt_inv {p : PV} {K : IntKind -> Int -> Prop} {u : Value} (h : qInt p K) (hr : Rel D ρ nb w u p) : ∃ k n, u = .int k n /\ p = .v (.int k n) /\ K k n := by
 unfold qInt at h
 split at h
 ·exact ⟨_, _, hr.v_inv, rfl, h⟩
 ·exact h.elim
theorem qSl_inv {p : PV} {K : List (List PV) -> Prop} (h : qSl p K) : ∃ es k, p = .sl es k /\ K es := by
 unfold qSl at h
 split at h
 ·exact ⟨_, _, rfl, h⟩
 ·exact h.elim
theorem qar_run {k : IntKind} {n : Int} {K : PV -> Prop} (h : qar k n K) : K (.v (.int k (k.wrap n))) := by
 unfold qar at h
 split at h
 ·obtain ⟨⟨h1, h2⟩, h3⟩ := h
  have : IntKind.i64.wrap n = n := IntWalk.i64_in _ ⟨h1, by omega⟩
  rw [this]; exact h3
 ·exact h
theorem qint_run {op : BinOp} {k : IntKind} {x y : Int} {K : PV -> Prop} (t : TypeId) (h : qint op k x y K) : ∃ u, (binOp op t (.int k x) (.int k y)).run P w = .ok u w /\ K (.v u) := by
 unfold qint at h
 split at h
 case h_1 => exact ⟨_, by simp [binOp, Op.intArith], qar_run h⟩
 case h_2 => exact ⟨_, by simp [binOp, Op.intArith], qar_run h⟩
 case h_3 => exact ⟨_, by simp [binOp, Op.intArith], qar_run h⟩
 case h_4 => exact ⟨_, by simp [binOp, Op.intDiv, h.1], qar_run h.2⟩
 case h_5 => exact ⟨_, by simp [binOp, Op.intDiv, h.1], h.2⟩
 case h_6 => exact ⟨.bool (decide (x = y)), by simp [binOp, Op.intCmp]; rfl, h⟩
 case h_7 => exact ⟨.bool (!decide (x = y)), by simp [binOp, Op.intCmp]; rfl, h⟩
 case h_8 => exact ⟨_, by simp [binOp, Op.intCmp], h⟩
 case h_9 => exact ⟨_, by simp [binOp, Op.intCmp], h⟩
 case h_10 => exact ⟨_, by simp [binOp, Op.intCmp], h⟩
 case h_11 => exact ⟨_, by simp [binOp, Op.intCmp], h⟩
 case h_12 => exact ⟨_, by simp [binOp, Op.shift, Int.not_lt.2 h.1]; rfl, h.2⟩
 case h_13 => exact h.elim
theorem eqGuard_int (op : BinOp) (t : TypeId) (x y : Operand) (k k' : IntKind) (m n : Int) : (eqGuard op t x y (.int k m) (.int k' n)).run P w = .ok () w := by
 unfold eqGuard; split <;> simp
theorem qbin_run {op : BinOp} {p q : PV} {K : PV -> Prop} {u v : Value} (t : TypeId) (x y : Operand) (h : qbin op p q K) (hu : Rel D ρ nb w u p) (hv : Rel D ρ nb w v q) :
 ∃ r, (do eqGuard op t x y u v; binOp op t u v : Sem Value).run P w = .ok r w /\ K (.v r) := by
 unfold qbin at h
 split at h
 ·obtain rfl := hu.v_inv
  obtain rfl := hv.v_inv
  obtain ⟨rfl, h⟩ := h
  obtain ⟨r, h1, h2⟩ := qint_run (P := P) (w := w) t h
  exact ⟨r, by simp [eqGuard_int, h1], h2⟩
 ·exact h.elim
theorem eqGuard_bool (op : BinOp) (t : TypeId) (x y : Operand) (m n : Bool) : (eqGuard op t x y (.bool m) (.bool n)).run P w = .ok () w := by
 unfold eqGuard; split <;> simp
theorem equal_bool {t : TypeId} (ht : P.underlying t = some .bool) (m n : Bool) : (Op.equal t (.bool m) (.bool n)).run P w = .ok (m == n) w := by
 unfold Op.equal Op.maxDepth
 rw [show (10000 : Nat) = 9999 + 1 from rfl]
 unfold Op.equalIn
 simp [run_underlying ht]
theorem eqGuard_nil (op : BinOp) (t : TypeId) (x : Operand) : (eqGuard op t x (.const .nilIface) .nilIface .nilIface).run P w = .ok () w := by
 unfold eqGuard; cases op <;> cases x <;> simp
theorem eqGuard_nil' (op : BinOp) (t t' : TypeId) (x y : Operand) (v : Value) : (eqGuard op t x y (.iface t' v) .nilIface).run P w = .ok () w := by
 unfold eqGuard; cases op <;> simp
theorem equal_nil {t : TypeId} {ms} (ht : P.underlying t = some (.interface ms)) : (Op.equal t .nilIface .nilIface).run P w = .ok true w := by
 unfold Op.equal Op.maxDepth
 rw [show (10000 : Nat) = 9999 + 1 from rfl]
 unfold Op.equalIn
 simp [run_underlying ht]
theorem equal_nil' {t : TypeId} {ms} (ht : P.underlying t = some (.interface ms)) (t' : TypeId) (v : Value) : (Op.equal t (.iface t' v) .nilIface).run P w = .ok false w := by
 unfold Op.equal Op.maxDepth
 rw [show (10000 : Nat) = 9999 + 1 from rfl]
 unfold Op.equalIn
 simp [run_underlying ht]
theorem getD_lt {l : List PV} {vs : Array Value} {i : Nat} {p : PV} (hs : vs.size = l.length) (hp : l[i]? = some p) : i < vs.size := by rw [hs]; exact (List.getElem?_eq_some_iff.1 hp).1
def CellsR (D : Nat -> Nat -> Prop) (ρ : Nat -> Nat) (nb : Nat) (w : World) (u : Value) (cs : List PV) : Prop :=
 u.cells.size = cs.length /\ ∀ (i : Nat) p, cs[i]? = some p -> Rel D ρ nb w (u.cells.getD i undef) p /\ (u.cells.getD i undef).oneCell' = true
theorem cells_one {u : Value} {p : PV} (h : Rel D ρ nb w u p) (hu : u.oneCell' = true) : CellsR D ρ nb w u [p] := by
 have e : u.cells = #[u] := by cases u <;> first | rfl | cases hu
 refine ⟨by rw [e]; rfl, fun i q hq => ?_⟩
 have hi : i = 0 := by have := (List.getElem?_eq_some_iff.1 hq).1; simpa using this
 subst hi
 simp at hq
 subst hq
 rw [e]
 exact ⟨h, hu⟩
theorem qCells_inv {p : PV} {K : List PV -> Prop} {u : Value} (h : qCells p K) (hr : Rel D ρ nb w u p) : ∃ cs, K cs /\ CellsR D ρ nb w u cs := by
 unfold qCells at h
 split at h
 ·obtain ⟨vs, rfl, hs, h1, h2⟩ := hr.inv_agg
  exact ⟨_, h, hs, fun i p hp => ⟨.dat (h2 i p hp), h1 i (List.getElem?_eq_some_iff.1 hp).1⟩⟩
 ·obtain rfl := hr.v_inv
  exact ⟨_, h.2, cells_one hr h.1⟩
 ·obtain ⟨_, _, _, _, _, _, rfl, _⟩ := hr.inv_sl
  exact ⟨_, h, cells_one hr rfl⟩
 ·obtain ⟨_, _, _, rfl, _⟩ := hr.inv_cp
  exact ⟨_, h, cells_one hr rfl⟩
 ·obtain ⟨_, rfl⟩ := hr.inv_bx
  exact ⟨_, h, cells_one hr rfl⟩
 ·refine ⟨_, h, cells_one hr ?_⟩
  rcases hr with (hr | ⟨i, o, hr, _⟩) | ⟨f, va, vb, fs, cs, _, rfl, _⟩
  ·cases hr; rfl
  ·cases hr
  ·rfl
 ·obtain ⟨_, rfl, _⟩ := hr.inv_ifc
  exact ⟨_, h, cells_one hr rfl⟩
 ·exact h.elim
theorem isAgg_run {t : TypeId} {d : TypeDesc} (h : P.underlying t = some d) : (isAgg t).run P w = .ok (isAggD d) w := by
 unfold isAgg
 simp only [Sem.run_bind, run_underlying h, Result.andThen_ok]
 cases d <;> simp [isAggD]
theorem sizeOf_run {t : TypeId} {i : TypeInfo} (h : P.info? t = some i) : (sizeOf t).run P w = .ok i.size w := by simp [sizeOf, typeInfo, h]
theorem shp_some {t : TypeId} {ag : Bool} {n : Nat} (h : shp P t = some (ag, n)) : ∃ i d, P.info? t = some i /\ P.underlying t = some d /\ isAggD d = ag /\ i.size = n := by
 unfold shp at h
 simp only [Option.bind_eq_some_iff, Option.map_eq_some_iff] at h
 obtain ⟨i, hi, d, hd, e⟩ := h
 cases e
 exact ⟨i, d, hi, hd, rfl, rfl⟩
theorem loadVar_one {t : TypeId} {n : Nat} {ad : Addr} {v : Value} (h : shp P t = some (false, n)) (hc : w.cell? ad = some v) : (loadVar t ad).run P w = .ok v w := by
 obtain ⟨i, d, h1, h2, h3, h4⟩ := shp_some h
 simp [loadVar, isAgg_run h2, h3, hc]
theorem loadVar_agg {t : TypeId} {n : Nat} {ad : Addr} {f : Nat -> Value} (h : shp P t = some (true, n)) (hc : ∀ j, j < n -> w.cell? (ad.add j) = some (f j)) : (loadVar t ad).run P w = .ok (.agg ((List.range n).map f).toArray) w := by
 obtain ⟨i, d, h1, h2, h3, h4⟩ := shp_some h
 subst h4
 simp [loadVar, isAgg_run h2, h3, sizeOf_run h1, run_loadCells w ad i.size f hc]
theorem add_none (b o j : Nat) : (⟨b, o, none⟩ : Addr).add j = ⟨b, o + j, none⟩ := by unfold Addr.add; split <;> simp_all
theorem qAt_load {t : TypeId} {ag : Bool} {n b off o : Nat} {cs : List PV} {f : Nat -> Value} {K : PV -> Prop} (hs : shp P t = some (ag, n)) (hq : qAt cs o ag n K)
 (hc : ∀ j, j < cs.length -> w.cell? ⟨b, off + j, none⟩ = some (f j) /\ (f j).oneCell' = true) (hr : ∀ (j : Nat) p, cs[j]? = some p -> Rel D ρ nb w (f j) p) (hd : ag = true -> allD ((cs.drop o).take n) = true) :
 ∃ u p, (loadVar t ⟨b, off + o, none⟩).run P w = .ok u w /\ Rel D ρ nb w u p /\ K p := by
 unfold qAt at hq
 cases ag with
 | true =>
  obtain ⟨h1, h2⟩ := hq
  refine ⟨_, _, loadVar_agg (f := fun j => f (o + j)) hs (fun j hj => ?_), ?_, h2⟩
  ·rw [add_none, Nat.add_assoc]; exact (hc _ (by omega)).1
  ·refine .dat (.agg _ _ (by simp; omega) (fun i hi => ?_) fun i p hp => ?_)
   ·have hi' : i < n := by simp at hi; omega
    have : ((List.range n).map fun j => f (o + j)).toArray.getD i undef = f (o + i) := by simp [hi']
    rw [this]; exact (hc _ (by omega)).2
   ·have hi : i < n := by have := (List.getElem?_eq_some_iff.1 hp).1; simp at this; omega
    have : ((List.range n).map fun j => f (o + j)).toArray.getD i undef = f (o + i) := by simp [hi]
    rw [this]
    have hD := hd rfl
    unfold allD at hD
    rw [List.all_eq_true] at hD
    refine (hr _ _ ?_).data (hD p (List.mem_of_getElem? hp))
    rw [List.getElem?_take, if_pos hi, List.getElem?_drop] at hp
    exact hp
 | false =>
  simp only at hq
  split at hq
  ·rename_i p hp
   exact ⟨_, p, loadVar_one hs (hc o (List.getElem?_eq_some_iff.1 hp).1).1, hr _ _ hp, hq⟩
  ·exact hq.elim
theorem qAt_part {t : TypeId} {ag : Bool} {n o : Nat} {cs : List PV} {vs : Array Value} {K : PV -> Prop} (hs : shp P t = some (ag, n)) (hq : qAt cs o ag n K) (hz : vs.size = cs.length) (h1 : ∀ i, i < cs.length -> (vs.getD i undef).oneCell' = true)
 (hr : ∀ (j : Nat) p, cs[j]? = some p -> Dat D w (vs.getD j undef) p) : ∃ u p, (part t vs o).run P w = .ok u w /\ Dat D w u p /\ K p := by
 obtain ⟨i, d, e1, e2, e3, e4⟩ := shp_some hs
 unfold qAt at hq
 subst e4
 cases ag with
 | true =>
  obtain ⟨g1, g2⟩ := hq
  refine ⟨.agg (vs.extract o (o + i.size)), _, by simp [part, isAgg_run e2, e3, sizeOf_run e1], ?_, g2⟩
  have key : ∀ j, j < i.size -> (vs.extract o (o + i.size)).getD j undef = vs.getD (o + j) undef := fun j hj => by
   have : o + j < vs.size := by omega
   have h2 : j < (vs.extract o (o + i.size)).size := by simp; omega
   simp [Array.getD_eq_getD_getElem?, Array.getElem?_eq_getElem h2, Array.getElem?_eq_getElem this]
  refine .agg _ _ (by simp; omega) (fun j hj => ?_) fun j p hp => ?_
  ·have hj' : j < i.size := by simp at hj; omega
   rw [key j hj']; exact h1 _ (by omega)
  ·have hj : j < i.size := by have := (List.getElem?_eq_some_iff.1 hp).1; simp at this; omega
   rw [key j hj]
   rw [List.getElem?_take, if_pos hj, List.getElem?_drop] at hp
   exact hr _ _ hp
 | false =>
  simp only at hq
  split at hq
  ·rename_i p hp
   have ho : o < vs.size := getD_lt hz hp
   refine ⟨vs.getD o undef, p, ?_, hr _ _ hp, hq⟩
   simp [part, isAgg_run e2, e3, ho]
  ·exact hq.elim
end Go.Proofs.YtjimggclhlnfbaaGreat
namespace Go.Proofs.YtjimggclhlnfbaaGreat
open Go.RowKit
attribute [local go_sem] Oper.semAt_some
def nxtV : Option Nat -> Value
 | some y => .tuple #[.int .u64 (y : Int), .bool true]
 | none => .tuple #[.int .u64 0, .bool false]
theorem nxt_step {l : List Iv} {k x : Nat} (h : k < l.length) : nxt (l.drop k) x = if x < l[k].lo then some l[k].lo else if l[k].hi + 1 < M64 /\ x < l[k].hi + 1 then some (l[k].hi + 1) else nxt (l.drop (k + 1)) x := by
 rw [List.drop_eq_getElem_cons h]; rfl
set_option maxHeartbeats 1000000 in
theorem next_any (l : List Iv) (v : Value) (x : Nat) (w : World) (hl : RdR 0 w.heap.size w v l) :
 Calls Tryz.prog 141 #[v, .int .u64 x] w fun e w' => e = .returned (nxtV (nxt l x)) /\ Below w.heap.size w w' := by
 obtain ⟨a, cap, rfl, hlc, hcm, hc⟩ := hl
 unfold maxLen at hcm
 go_enter Tryz.func141, Tryz.ntmps141
 go_wp2_with fail
 go_loopw [12] (fun i wr => ∃ k : Nat, k <= l.length /\ i = .int .i64 k /\ Hid (nxt l x = nxt (l.drop k) x) /\ Below w.heap.size w wr) (fun i _ => l.length - (intOf i).toNat)
 case atStart => exact ⟨0, Nat.zero_le _, rfl, rfl, Below.refl _ _⟩
 case round =>
  obtain ⟨k, hk, rfl, hn, hB⟩ := hrel
  by_cases hlt : k < l.length
  ·obtain ⟨b, off, rfl, _, hb, hcell⟩ := hc (by intro e; subst e; simp at hlt)
   obtain ⟨g1, g2, g3, g4⟩ := hcell k hlt
   have hs := nxt_step (x := x) hlt
   obtain ⟨lo, hlo⟩ : ∃ lo, lo = l[k].lo := ⟨_, rfl⟩
   obtain ⟨hi, hhi⟩ : ∃ hi, hi = l[k].hi := ⟨_, rfl⟩
   rw [<- hlo] at g1 g3 hs
   rw [<- hhi] at g2 g4 hs
   clear hlo hhi hcell hc
   have c1 : wr.cell? ⟨b, off + k * 2, none⟩ = some (.int .u64 lo) := (hB.cell (p := ⟨b, _, none⟩) hb).trans g1
   have c2 : wr.cell? ⟨b, off + k * 2 + 1, none⟩ = some (.int .u64 hi) := (hB.cell (p := ⟨b, _, none⟩) hb).trans g2
   clear g1 g2
   have hsz := hB.size
   by_cases t1 : x < lo
   ·have HV : Hid (nxt l x = some lo) := by rw [hn.out, hs, if_pos t1]; rfl
    clear hs hn
    go_wp2
    go_ret2
    rw [HV.out]
    exact ⟨rfl, hB.alloc hsz _⟩
   ·by_cases t2 : hi + 1 < M64
    ·by_cases t3 : x < hi + 1
     ·have HV : Hid (nxt l x = some (hi + 1)) := by rw [hn.out, hs, if_neg t1, if_pos ⟨t2, t3⟩]; rfl
      clear hs hn
      go_wp2_with (go_at_call 27; with_reducible refine (wordNext_yes _ _ t2).mono ?_; rintro e w' ⟨rfl, rfl⟩)
      go_ret2
      rw [HV.out]
      exact ⟨by simp [nxtV], hB.alloc hsz _⟩
     ·have HV : Hid (nxt l x = nxt (l.drop (k + 1)) x) := by rw [hn.out, hs, if_neg t1, if_neg (by omega)]; rfl
      clear hs hn
      go_wp2_with (go_at_call 27; with_reducible refine (wordNext_yes _ _ t2).mono ?_; rintro e w' ⟨rfl, rfl⟩)
      go_roundw
      case rel => exact ⟨k + 1, by omega, by go_num, HV, hB.alloc hsz _⟩
      case measure => simp [intOf]; omega
    ·have HV : Hid (nxt l x = nxt (l.drop (k + 1)) x) := by rw [hn.out, hs, if_neg t1, if_neg (by omega)]; rfl
     clear hs hn
     obtain rfl : hi = M64 - 1 := by omega
     go_wp2_with (go_at_call 27; with_reducible refine (wordNext_no _).mono ?_; rintro e w' ⟨rfl, rfl⟩)
     go_roundw
     case rel => exact ⟨k + 1, by omega, by go_num, HV, hB.alloc hsz _⟩
     case measure => simp [intOf]; omega
  ·have hkl : k = l.length := by omega
   have HV : Hid (nxt l x = none) := by rw [hn.out, hkl, List.drop_length]; rfl
   clear hn
   go_wp2
   go_ret2
   rw [HV.out]
   exact ⟨rfl, hB⟩
theorem next_two (l : List Iv) (v : Value) (x : Nat) (w : World) (hl : RdR 0 w.heap.size w v l) :
 Calls Tryz.prog 141 #[v, .int .u64 x] w fun e w' => ∃ (n : Nat) (m : Bool), e = .returned (.tuple #[.int .u64 n, .bool m]) /\ Hid (nxt l x = if m = true then some n else none) /\ Below w.heap.size w w' :=
 (next_any l v x w hl).mono fun e w' ⟨he, hb⟩ => by
  cases h : nxt l x with
  | none => exact ⟨0, false, by rw [he, h]; rfl, rfl, hb⟩
  | some y => exact ⟨y, true, by rw [he, h]; rfl, rfl, hb⟩
theorem take_union (p q : Bool) (w : World) : Calls Tryz.prog 101 #[.agg #[.bool p, .bool q]] w fun e w' => e = .returned (.bool (p || q)) /\ Below w.heap.size w w' := by
 cases p <;> cases q <;>
  (go_enter Tryz.func101, Tryz.ntmps101
   go_wp2
   go_ret
   exact ⟨rfl, (Below.refl _ _).alloc (Nat.le_refl _) _⟩)
theorem take_minus (p q : Bool) (w : World) : Calls Tryz.prog 149 #[.agg #[.bool p, .bool q]] w fun e w' => e = .returned (.bool (p && !q)) /\ Below w.heap.size w w' := by
 cases p <;> cases q <;>
  (go_enter Tryz.func149, Tryz.ntmps149
   go_wp2
   go_ret
   exact ⟨rfl, (Below.refl _ _).alloc (Nat.le_refl _) _⟩)
theorem pieces_calls (a1 a2 : Option Addr) (n1 n2 c1 c2 : Nat) (w : World) : Calls Tryz.prog 127 #[.slice a1 n1 c1, .slice a2 n2 c2] w fun e w' =>
 e = .returned (.func (.func 140) #[] #[.pointer (some ⟨w.heap.size, 0, none⟩), .pointer (some ⟨w.heap.size + 1, 0, none⟩)]) /\
  w' = (w.alloc (.cells #[.slice a1 n1 c1] 32)).alloc (.cells #[.slice a2 n2 c2] 32) := by
 go_enter Tryz.func127, Tryz.ntmps127
 go_wp2
 go_ret
 exact ⟨rfl, rfl⟩
end Go.Proofs.YtjimggclhlnfbaaGreat
namespace Go.Proofs.YtjimggclhlnfbaaGreat
open Go.RowKit Go.Sort
set_option maxHeartbeats 3200000 in
set_option maxRecDepth 1000000 in
theorem so_heapSort_int (blk off len cap : Nat) (d : Array Int) (hlen : d.size = len) (a b : Nat) (w : World) (hH : Holds encU w blk off d) (hab : a <= b) (hb : b <= d.size) (hsz : d.size < 4611686018427387904) :
 Calls Tryz.prog 84 #[.slice (some ⟨blk, off, none⟩) len cap, .int .i64 a, .int .i64 b] w fun e w' => e = .returned (.tuple #[]) /\ ∃ n, w' = putRow encU (Sort.ahead w n) blk off (heapSort ltInt d a b) := by
 subst hlen
 have ecast : ((b - a : Nat) : Int) = (b : Int) - (a : Int) := by omega
 go_enter Tryz.func84, Tryz.ntmps84
 go_wp2
 go_loopg [9] ((b - a - 1) / 2 + 1) (fun k s9 wr => s9 = .int .i64 ((k : Int) - 1) /\ k <= (b - a - 1) / 2 + 1 /\ ∃ (dk : Array Int) (n : Nat), dk.size = d.size /\ wr = putRow encU (Sort.ahead w n) blk off dk /\
  heapBuild ltInt (b - a) a k dk = heapBuild ltInt (b - a) a ((b - a - 1) / 2 + 1) d)
 case atStart => exact ⟨by rw [half_start hab], Nat.le_refl _, d, 0, rfl, (putRow_self encU w blk off d hH).symm, rfl⟩
 case round =>
  obtain ⟨rfl, hkk, dk, n, hds, hwr, heq⟩ := hrel
  have hHk : Holds encU wr blk off dk := by rw [hwr]; exact holds_putRow encU _ blk off d dk (holds_ahead encU w n blk off d hH) hds
  have A : Aside (wr = putRow encU (Sort.ahead w n) blk off dk) := hwr
  clear hwr
  cases gk with
  | zero =>
   have hB : dk = heapBuild ltInt (b - a) a ((b - a - 1) / 2 + 1) d := heq
   clear heq hHk hkk
   go_wp2
   go_loopg [10] (b - a) (fun k s10 wr2 => s10 = .int .i64 ((k : Int) - 1) /\ k <= b - a /\ ∃ (dj : Array Int) (n2 : Nat), dj.size = d.size /\ wr2 = putRow encU (Sort.ahead w n2) blk off dj /\ heapPop ltInt a k dj = heapPop ltInt a (b - a) dk)
   case atStart => exact ⟨by rw [ecast], Nat.le_refl _, dk, n, hds, A.out, rfl⟩
   case round =>
    obtain ⟨rfl, hkk, dj, n2, hdj, hwr2, heq2⟩ := hrel
    cases gk with
    | zero =>
     go_wp2
     go_end0
     refine ⟨rfl, n2, ?_⟩
     have e : dj = heapSort ltInt d a b := by rw [heapSort, <- hB, <- heq2]; rfl
     rw [<- e]
    | succ k =>
     have hHj : Holds encU wr blk off dj := by rw [hwr2]; exact holds_putRow encU _ blk off d dj (holds_ahead encU w n2 blk off d hH) hdj
     have hcw : ∀ t, t < d.size -> wr.cell? ⟨blk, off + t, none⟩ = some (.int .u64 dj[t]!) := fun t ht => (hHj t (by omega)).1
     have hfw : ∀ t, t < d.size -> wr.frozen? ⟨blk, off + t, none⟩ = false := fun t ht => (hHj t (by omega)).2
     have A2 : Aside (wr = putRow encU (Sort.ahead w n2) blk off dj) := hwr2
     clear hwr2 hHj
     rcases Nat.eq_zero_or_pos k with hk0 | hkp
     ·subst hk0
      go_wp2_with fail
      go_region
      go_wp2_with fail
      rw [swap_world encU (i := a) (j := a) (by omega) (by omega) A2.out rfl rfl]
      refine (so_siftDown_int blk off d.size cap (swp dj a (a)) (by rw [size_swp]; exact hdj) 0 0 a _ (holds_putRow encU _ blk off d _ (holds_ahead encU w (n2 + 1) blk off d hH) (by rw [size_swp]; exact hdj)) (Nat.zero_le _) (by rw [size_swp]; omega) (by rw [size_swp]; omega)).mono ?_
      rintro e w1 ⟨rfl, m, hw1⟩
      go_wp2
      go_roundg 0
      case measure => omega
      case rel =>
       refine ⟨by simp, by omega, siftDown ltInt 0 a 0 (swp dj a (a)), n2 + 1 + m, by rw [size_siftDown ltInt _ _ _ _ _ (Nat.le_refl _), size_swp]; exact hdj, ?_, heq2⟩
       first
        | rw [hw1, putRow_ahead_putRow encU w (n2 + 1) m blk off _ _ (size_siftDown ltInt _ _ _ _ _ (Nat.le_refl _))]
        | rw [putRow_ahead_putRow encU w (n2 + 1) m blk off _ _ (size_siftDown ltInt _ _ _ _ _ (Nat.le_refl _))]
     ·skip
      go_wp2_with fail
      go_region
      go_wp2_with fail
      rw [swap_world encU (i := a) (j := a + k) (by omega) (by omega) A2.out rfl rfl]
      refine (so_siftDown_int blk off d.size cap (swp dj a (a + k)) (by rw [size_swp]; exact hdj) 0 k a _ (holds_putRow encU _ blk off d _ (holds_ahead encU w (n2 + 1) blk off d hH) (by rw [size_swp]; exact hdj)) (Nat.zero_le _) (by rw [size_swp]; omega) (by rw [size_swp]; omega)).mono ?_
      rintro e w1 ⟨rfl, m, hw1⟩
      go_wp2
      go_roundg k
      case measure => omega
      case rel =>
       refine ⟨by simp, by omega, siftDown ltInt k a 0 (swp dj a (a + k)), n2 + 1 + m, by rw [size_siftDown ltInt _ _ _ _ _ (Nat.le_refl _), size_swp]; exact hdj, ?_, heq2⟩
       first
        | rw [hw1, putRow_ahead_putRow encU w (n2 + 1) m blk off _ _ (size_siftDown ltInt _ _ _ _ _ (Nat.le_refl _))]
        | rw [putRow_ahead_putRow encU w (n2 + 1) m blk off _ _ (size_siftDown ltInt _ _ _ _ _ (Nat.le_refl _))]
  | succ k =>
   have hcall := so_siftDown_int blk off d.size cap dk hds k (b - a) a wr hHk (by omega) (by omega) (by omega)
   rw [ecast] at hcall
   go_wp2_with (go_at_call 114; refine hcall.mono ?_; rintro e w1 ⟨rfl, m, hw1⟩)
   go_roundg k
   case measure => omega
   case rel =>
    refine ⟨by simp, by omega, siftDown ltInt (b - a) a k dk, n + m, by rw [size_siftDown ltInt _ _ _ _ _ (Nat.le_refl _)]; exact hds, ?_, heq⟩
    rw [A.out, putRow_ahead_putRow encU w n m blk off dk _ (size_siftDown ltInt _ _ _ _ _ (Nat.le_refl _))]
theorem counter_grow (w : World) (N S : Nat) : ∃ os, putRow (Value.int .i64) (Sort.ahead (w.alloc (.cells #[.int .i64 0] 3)) N) w.heap.size 0 (one S) = grow (Sort.ahead w N) os := by
 rw [alloc_eq_grow, ahead_grow]
 obtain ⟨os, _, h⟩ := putRow_grow_new (Value.int .i64) (Sort.ahead w N) #[.cells #[.int .i64 0] 3] w.heap.size 0 (one S) (Nat.le_refl _)
 exact ⟨os, h⟩
theorem pivot_world_int (blk off cap : Nat) (d : Array Int) (w : World) (hH : Holds encU w blk off d) (hblk : blk < w.heap.size) (hsz : d.size < 4611686018427387904) :
 ∃ Wc : Nat -> Nat -> World,
  w.alloc (.cells #[.int .i64 0] 3) = Wc 0 0 /\
  (∀ N S : Nat, (Wc N S).cell? ⟨w.heap.size, 0, none⟩ = some (.int .i64 (S : Int))) /\
  (∀ N S : Nat, ∃ os, Wc N S = grow (Sort.ahead w N) os) /\
  (∀ x s N : Nat, 1 <= x -> x + 1 < d.size -> s + 3 < 4611686018427387904 -> Calls Tryz.prog 117 #[.slice (some ⟨blk, off, none⟩) d.size cap, .int .i64 (x : Int), .pointer (some ⟨w.heap.size, 0, none⟩)] (Wc N s) fun e w' =>
   e = .returned (.int .i64 ((medianAdjacent ltInt d x s).1 : Int)) /\ ∃ N', w' = Wc N' (medianAdjacent ltInt d x s).2) /\
  (∀ x y z s N : Nat, x < d.size -> y < d.size -> z < d.size -> s + 3 < 4611686018427387904 -> Calls Tryz.prog 118 #[.slice (some ⟨blk, off, none⟩) d.size cap, .int .i64 (x : Int), .int .i64 (y : Int), .int .i64 (z : Int), .pointer (some ⟨w.heap.size, 0, none⟩)] (Wc N s) fun e w' =>
   e = .returned (.int .i64 ((median ltInt d x y z s).1 : Int)) /\ ∃ N', w' = Wc N' (median ltInt d x y z s).2) := by
 have hne : w.heap.size ≠ blk := by omega
 have hH0 : Holds encU (w.alloc (.cells #[.int .i64 0] 3)) blk off d := by rw [alloc_eq_grow]; exact holds_grow _ _ _ _ _ _ hblk hH
 have hS0 : Holds (Value.int .i64) (w.alloc (.cells #[.int .i64 0] 3)) w.heap.size 0 (one 0) := fun j hj => by
  obtain rfl : j = 0 := by simpa using hj
  simp
 refine ⟨fun N S => putRow (Value.int .i64) (Sort.ahead (w.alloc (.cells #[.int .i64 0] 3)) N) w.heap.size 0 (one S), (putRow_self _ _ _ _ _ hS0).symm, fun N S => (one_cell (holds_one (n := N) (t := S) hS0)).1, fun N S => counter_grow w N S, ?_, ?_⟩
 ·intro x s N h1 h2 hs
  refine (so_medianAdjacent_int d _ rfl blk off cap x w.heap.size 0 s _ (holds_asideU hH0 hne) h1 h2 (by omega) hne (holds_one hS0) (by omega)).mono ?_
  rintro e w' ⟨he, n, hw⟩
  exact ⟨he, N + n, by rw [hw, one_one]⟩
 ·intro x y z s N h1 h2 h3 hs
  refine (so_median_int d _ rfl blk off cap x y z w.heap.size 0 s _ (holds_asideU hH0 hne) h1 h2 h3 hne (holds_one hS0) (by omega)).mono ?_
  rintro e w' ⟨he, n, hw⟩
  exact ⟨he, N + n, by rw [hw, one_one]⟩
set_option maxRecDepth 100000 in
theorem so_choosePivot_int (blk off cap a b : Nat) (d : Array Int) (w : World) (hH : Holds encU w blk off d) (hblk : blk < w.heap.size) (hab : a < b) (hb : b <= d.size) (hsz : d.size < 4611686018427387904) :
 Calls Tryz.prog 86 #[.slice (some ⟨blk, off, none⟩) d.size cap, .int .i64 a, .int .i64 b] w fun e w' =>
  e = .returned (.tuple #[.int .i64 (choosePivot ltInt d a b).1, .int .i64 (hintCode (choosePivot ltInt d a b).2)]) /\ ∃ n os, w' = grow (Sort.ahead w n) os := by
 obtain ⟨Wc, hW0, cS, hG, MA, MD⟩ := pivot_world_int blk off cap d w hH hblk hsz
 clear hH
 rw [choosePivot_eq]
 obtain ⟨I, hI⟩ : ∃ I : Nat, I = a + (b - a) / 4 * 1 := ⟨_, rfl⟩
 obtain ⟨J, hJ⟩ : ∃ J : Nat, J = a + (b - a) / 4 * 2 := ⟨_, rfl⟩
 obtain ⟨K, hK⟩ : ∃ K : Nat, K = a + (b - a) / 4 * 3 := ⟨_, rfl⟩
 have eI : ((a : Int) + ((b : Int) - (a : Int)) / 4) = (I : Int) := by omega
 have eJ : ((a : Int) + ((b : Int) - (a : Int)) / 4 * 2) = (J : Int) := by omega
 have eK : ((a : Int) + ((b : Int) - (a : Int)) / 4 * 3) = (K : Int) := by omega
 by_cases h8 : b - a ≥ 8
 ·by_cases h50 : b - a ≥ 50
  ·
   obtain ⟨i1, s1, h1⟩ : ∃ i1 s1, medianAdjacent ltInt d I 0 = (i1, s1) := ⟨_, _, rfl⟩
   obtain ⟨j1, s2, h2⟩ : ∃ j1 s2, medianAdjacent ltInt d J s1 = (j1, s2) := ⟨_, _, rfl⟩
   obtain ⟨k1, s3, h3⟩ : ∃ k1 s3, medianAdjacent ltInt d K s2 = (k1, s3) := ⟨_, _, rfl⟩
   obtain ⟨p, s, h4⟩ : ∃ p s, median ltInt d i1 j1 k1 s3 = (p, s) := ⟨_, _, rfl⟩
   have hraw : rawPivot ltInt d a b = (p, s) := by simp only [rawPivot, if_pos h8, if_pos h50, <- hI, <- hJ, <- hK, h1, h2, h3, h4]
   have m1 := medianAdjacent_mem ltInt d I 0; rw [h1] at m1
   have m2 := medianAdjacent_mem ltInt d J s1; rw [h2] at m2
   have m3 := medianAdjacent_mem ltInt d K s2; rw [h3] at m3
   have n1 := medianAdjacent_count ltInt d I 0; rw [h1] at n1
   have n2 := medianAdjacent_count ltInt d J s1; rw [h2] at n2
   have n3 := medianAdjacent_count ltInt d K s2; rw [h3] at n3
   simp only [] at m1 m2 m3 n1 n2 n3
   have c1 : Calls Tryz.prog 117 #[.slice (some ⟨blk, off, none⟩) d.size cap, .int .i64 (I : Int), .pointer (some ⟨w.heap.size, 0, none⟩)] (Wc 0 0) fun e w' => e = .returned (.int .i64 (i1 : Int)) /\ ∃ N', w' = Wc N' s1 := by
    have h := MA I 0 0 (by omega) (by omega) (by omega); rw [h1] at h; exact h
   have c2 : ∀ N, Calls Tryz.prog 117 #[.slice (some ⟨blk, off, none⟩) d.size cap, .int .i64 (J : Int), .pointer (some ⟨w.heap.size, 0, none⟩)] (Wc N s1) fun e w' => e = .returned (.int .i64 (j1 : Int)) /\ ∃ N', w' = Wc N' s2 := fun N => by
    have h := MA J s1 N (by omega) (by omega) (by omega); rw [h2] at h; exact h
   have c3 : ∀ N, Calls Tryz.prog 117 #[.slice (some ⟨blk, off, none⟩) d.size cap, .int .i64 (K : Int), .pointer (some ⟨w.heap.size, 0, none⟩)] (Wc N s2) fun e w' => e = .returned (.int .i64 (k1 : Int)) /\ ∃ N', w' = Wc N' s3 := fun N => by
    have h := MA K s2 N (by omega) (by omega) (by omega); rw [h3] at h; exact h
   have c4 : ∀ N, Calls Tryz.prog 118 #[.slice (some ⟨blk, off, none⟩) d.size cap, .int .i64 (i1 : Int), .int .i64 (j1 : Int), .int .i64 (k1 : Int), .pointer (some ⟨w.heap.size, 0, none⟩)] (Wc N s3) fun e w' => e = .returned (.int .i64 (p : Int)) /\ ∃ N', w' = Wc N' s := fun N => by
    have h := MD i1 j1 k1 s3 N (by omega) (by omega) (by omega) (by omega); rw [h4] at h; exact h
   rw [hraw]
   obtain ⟨Hc, hHc⟩ : ∃ Hc : Int, Hc = hintCode (hintOf s) := ⟨_, rfl⟩
   have hh0 : s = 0 -> Hc = 1 := fun h => by rw [hHc, h]; rfl
   have hh12 : s = 12 -> Hc = 2 := fun h => by rw [hHc, h]; rfl
   have hhx : s ≠ 0 -> s ≠ 12 -> Hc = 0 := fun h1 h2 => by rw [hHc]; unfold hintOf; rw [if_neg h1, if_neg h2]; rfl
   show Calls Tryz.prog 86 _ w fun e w' => e = .returned (.tuple #[.int .i64 (p : Int), .int .i64 (hintCode (hintOf s))]) /\ ∃ n os, w' = grow (Sort.ahead w n) os
   rw [<- hHc]
   clear hHc hraw
   clear h1 h2 h3 h4 MA MD hI hJ hK m1 m2 m3
   go_enter Tryz.func86, Tryz.ntmps86
   go_wp2_with (first
    | (go_at_call_has 117 (Value.int .i64 (I : Int)); refine c1.mono ?_; rintro e w' ⟨rfl, N1, rfl⟩)
    | (go_at_call_has 117 (Value.int .i64 (J : Int)); refine (c2 _).mono ?_; rintro e w' ⟨rfl, N2, rfl⟩)
    | (go_at_call_has 117 (Value.int .i64 (K : Int)); refine (c3 _).mono ?_; rintro e w' ⟨rfl, N3, rfl⟩)
    | (go_at_call 118; refine (c4 _).mono ?_; rintro e w' ⟨rfl, N4, rfl⟩))
   all_goals
    go_ret2
    refine ⟨?_, _, hG _ _⟩
    first
     | (have e0 : (s : Int) = 0 := of_beq_int (by assumption)
        rw [hh0 (by omega)]; rfl)
     | (have e1 : (s : Int) = 12 := of_beq_int (by assumption)
        rw [hh12 (by omega)]; rfl)
     | (have e0 : (s : Int) ≠ 0 := of_bne_int (by assumption)
        have e1 : (s : Int) ≠ 12 := of_bne_int (by assumption)
        rw [hhx (by omega) (by omega)]; rfl)
     | (rw [hh0 (by omega)]; rfl)
  ·
   obtain ⟨p, s, h4⟩ : ∃ p s, median ltInt d I J K 0 = (p, s) := ⟨_, _, rfl⟩
   have hraw : rawPivot ltInt d a b = (p, s) := by simp only [rawPivot, if_pos h8, if_neg h50, <- hI, <- hJ, <- hK, h4]
   have c4 : Calls Tryz.prog 118 #[.slice (some ⟨blk, off, none⟩) d.size cap, .int .i64 (I : Int), .int .i64 (J : Int), .int .i64 (K : Int), .pointer (some ⟨w.heap.size, 0, none⟩)] (Wc 0 0) fun e w' => e = .returned (.int .i64 (p : Int)) /\ ∃ N', w' = Wc N' s := by
    have h := MD I J K 0 0 (by omega) (by omega) (by omega) (by omega); rw [h4] at h; exact h
   rw [hraw]
   obtain ⟨Hc, hHc⟩ : ∃ Hc : Int, Hc = hintCode (hintOf s) := ⟨_, rfl⟩
   have hh0 : s = 0 -> Hc = 1 := fun h => by rw [hHc, h]; rfl
   have hh12 : s = 12 -> Hc = 2 := fun h => by rw [hHc, h]; rfl
   have hhx : s ≠ 0 -> s ≠ 12 -> Hc = 0 := fun h1 h2 => by rw [hHc]; unfold hintOf; rw [if_neg h1, if_neg h2]; rfl
   show Calls Tryz.prog 86 _ w fun e w' => e = .returned (.tuple #[.int .i64 (p : Int), .int .i64 (hintCode (hintOf s))]) /\ ∃ n os, w' = grow (Sort.ahead w n) os
   rw [<- hHc]
   clear hHc hraw
   clear h4 MA MD hI hJ hK
   go_enter Tryz.func86, Tryz.ntmps86
   go_wp2_with (first | (go_at_call 118; refine c4.mono ?_; rintro e w' ⟨rfl, N4, rfl⟩))
   all_goals
    go_ret2
    refine ⟨?_, _, hG _ _⟩
    first
     | (have e0 : (s : Int) = 0 := of_beq_int (by assumption)
        rw [hh0 (by omega)]; rfl)
     | (have e1 : (s : Int) = 12 := of_beq_int (by assumption)
        rw [hh12 (by omega)]; rfl)
     | (have e0 : (s : Int) ≠ 0 := of_bne_int (by assumption)
        have e1 : (s : Int) ≠ 12 := of_bne_int (by assumption)
        rw [hhx (by omega) (by omega)]; rfl)
     | (rw [hh0 (by omega)]; rfl)
 ·
  obtain ⟨p, hp⟩ : ∃ p : Nat, p = J := ⟨_, rfl⟩
  obtain ⟨s, hs⟩ : ∃ s : Nat, s = 0 := ⟨_, rfl⟩
  have hraw : rawPivot ltInt d a b = (p, s) := by simp only [rawPivot, if_neg h8, <- hJ, hp, hs]
  rw [hraw]
  obtain ⟨Hc, hHc⟩ : ∃ Hc : Int, Hc = hintCode (hintOf s) := ⟨_, rfl⟩
  have hh0 : s = 0 -> Hc = 1 := fun h => by rw [hHc, h]; rfl
  have hh12 : s = 12 -> Hc = 2 := fun h => by rw [hHc, h]; rfl
  have hhx : s ≠ 0 -> s ≠ 12 -> Hc = 0 := fun h1 h2 => by rw [hHc]; unfold hintOf; rw [if_neg h1, if_neg h2]; rfl
  show Calls Tryz.prog 86 _ w fun e w' => e = .returned (.tuple #[.int .i64 (p : Int), .int .i64 (hintCode (hintOf s))]) /\ ∃ n os, w' = grow (Sort.ahead w n) os
  rw [<- hHc]
  clear hHc hraw
  subst hp
  clear MA MD hI hJ hK
  have hW0' : w.alloc (.cells #[.int .i64 0] 3) = Wc 0 s := by rw [hs]; exact hW0
  clear hW0
  go_enter Tryz.func86, Tryz.ntmps86
  go_wp2
  all_goals
   go_ret2
   refine ⟨?_, _, hG _ _⟩
   first
    | (have e0 : (s : Int) = 0 := of_beq_int (by assumption)
       rw [hh0 (by omega)]; rfl)
    | (have e1 : (s : Int) = 12 := of_beq_int (by assumption)
       rw [hh12 (by omega)]; rfl)
    | (have e0 : (s : Int) ≠ 0 := of_bne_int (by assumption)
       have e1 : (s : Int) ≠ 12 := of_bne_int (by assumption)
       rw [hhx (by omega) (by omega)]; rfl)
    | (rw [hh0 (by omega)]; rfl)
end Go.Proofs.YtjimggclhlnfbaaGreat
