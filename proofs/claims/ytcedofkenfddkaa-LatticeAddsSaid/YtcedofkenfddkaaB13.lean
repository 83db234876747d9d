/- Texts of this claim, bound together: Pt Rm T22 T23 T25. -/
import Derived.Test.YtcedofkenfddkaaB12
/- kenningref10.put: a number is put into an ascending list. The list is at most 2^22 long. -/
namespace Go.Proofs.Ytcedofkenfddkaa
set_option linter.unusedVariables false
set_option linter.unusedSimpArgs false
open Go.RowKit Go.Maps
set_option maxRecDepth 100000
attribute [-go_sem] nat_succ
theorem ns_inv {D : Nat → Nat → Prop} {w : World} {v : Value} {l : List Nat} (h : Dat D w v (ns l)) : ∃ ad cap, v = .slice ad l.length cap ∧ l.length ≤ cap ∧ cap ≤ maxLen ∧ (l ≠ [] → ∃ b off, ad = some ⟨b, off, none⟩ ∧ ∀ j (hj : j < l.length), D b (off + j) ∧ w.cell? ⟨b, off + j, none⟩ = some (.int .u64 (l[j] : Nat))) := by
  unfold ns at h
  generalize he : l.map natc = es at h
  cases h with
  | sl a cap sz es o b off u hc hz hm ha hsz hd hx =>
    have hl : es.length = l.length := by rw [← he]; simp
    refine ⟨a, cap, by rw [hl], by omega, hm, fun hne => ?_⟩
    have hpos : 0 < l.length := List.length_pos_iff.2 hne
    have g : ∀ i (h : i < l.length), es[i]? = some (natc l[i]) := fun i h => by rw [← he]; exact map_at h
    obtain rfl : 1 = sz := hsz 0 _ (g 0 hpos)
    have hes : es ≠ [] := by intro e; subst e; simp at hl; omega
    refine ⟨b, off, ha hes, fun j hj => ?_⟩
    have e0 := (hx j _ 0 _ (g j hj) rfl).v_inv
    obtain ⟨d1, d2, _⟩ := hd (j * 1 + 0) (by omega)
    rw [e0] at d2
    simp only [Nat.mul_one, Nat.add_zero] at d1 d2
    exact ⟨d1, d2⟩
theorem run_append_nil0 {P : Program} (w : World) (t ty e : TypeId) (i : TypeInfo) (ht : P.underlying t = some (.slice e)) (hi : P.info? e = some i) (ba : Option Addr) (n cp c : Nat) (hn : n ≤ cp) :
    (Builtin.append_ #[t, t] ty #[.slice ba n cp, .slice none 0 c]).run P w = .ok (.slice ba n cp) w := by
  cases ba <;> simp [Builtin.append_, run_underlying ht, sizeOf, typeInfo, hi, Builtin.lenOf, Builtin.firstCells, hn, storeCells]
theorem run_app_u (w : World) (t ty : TypeId) (ht : Try.prog.underlying t = some (.slice 28)) (base : Nat) (v : Value) (n : Nat) (xs : List Value) (hown : w.ownsRow base 28 1 v n xs) (ad : Option Addr) (m c : Nat) (news : List Value) (hl : news.length = m)
    (hnews : (m = 0 ∧ ad = none) ∨ ∃ a, ad = some a ∧ ∀ j u, news[j]? = some u → w.cell? (a.add j) = some u) (h1 : ∀ u ∈ news, u.oneCell' = true) (h63 : n + m ≤ 17179869184) (hbase : base ≤ w.heap.size) :
    ∃ v' w', (Builtin.append_ #[t, t] ty #[v, .slice ad m c]).run Try.prog w = .ok v' w' ∧ w'.ownsRow base 28 1 v' (n + m) (xs ++ news) ∧ w.grownBy w' v.ownBlock ∧ (v'.ownBlock = v.ownBlock ∨ v'.ownBlock = some w.heap.size) := by
  obtain ⟨i0, hi0, hz0, hz1, hz2⟩ := info_parts infoU
  rcases hnews with ⟨rfl, rfl⟩ | ⟨a, rfl, hn⟩
  · obtain rfl : news = [] := List.length_eq_zero_iff.1 hl
    obtain ⟨ba, cp, rfl, hcp⟩ : ∃ ba cp, v = .slice ba n cp ∧ n ≤ cp := by
      rcases hown.2 with ⟨rfl, rfl⟩ | ⟨g, cap, cur, rfl, _, _, h, _⟩
      · exact ⟨none, 0, rfl, Nat.le_refl _⟩
      · exact ⟨_, _, rfl, h⟩
    exact ⟨_, w, run_append_nil0 w t ty _ i0 ht hi0 ba n cp c hcp, by simpa using hown, grown_refl _ _, .inl rfl⟩
  · obtain ⟨v', w', r1, r2, r3, _, r5⟩ := run_append_own_at (P := Try.prog) w base t ty 28 i0 _ 1 8 ht hi0 hz0 hz1 hz2 rfl (by decide) v n xs hown a m c news (by simpa using hl) hn h1 (by unfold maxLen; omega) (by omega) hbase
    exact ⟨v', w', r1, r2, r3, r5⟩
theorem step_app {ops : Array Oper} {o : Oper} {a : Act} {w : World} {K : Act → World → Prop} {Q : Exit → Act → World → Prop} {E : Prop} (s x : Operand) (t : TypeId) (hgd : o.guard = none)
    (ho : o.op = .call { callee := .builtin .append, args := #[s, x], argTypes := #[t, t] }) (ht : Try.prog.underlying t = some (.slice 28)) (base : Nat) (v : Value) (n : Nat) (xs : List Value) (hs : a.eval s = v) (hown : w.ownsRow base 28 1 v n xs)
    (ad : Option Addr) (m c : Nat) (news : List Value) (hx : a.eval x = .slice ad m c) (hl : news.length = m) (hnews : (m = 0 ∧ ad = none) ∨ ∃ a, ad = some a ∧ ∀ j u, news[j]? = some u → w.cell? (a.add j) = some u) (h1 : ∀ u ∈ news, u.oneCell' = true) (h63 : n + m ≤ 17179869184) (hbase : base ≤ w.heap.size)
    (h : ∀ v' w', w'.ownsRow base 28 1 v' (n + m) (xs ++ news) → w.grownBy w' v.ownBlock → (v'.ownBlock = v.ownBlock ∨ v'.ownBlock = some w.heap.size) → K (a.put o.dst v') w') : if Region.wanted o (yielded ops a.tmps) = true then Oper.wp Try.prog o a w K Q else E := by
  have hw : Region.wanted o (yielded ops a.tmps) = true := by simp [Region.wanted, hgd]
  rw [if_pos hw]
  obtain ⟨v', w', hr, h2, h3, h4⟩ := run_app_u w t o.type ht base v n xs hown ad m c news hl hnews h1 h63 hbase
  unfold Oper.wp execOp
  simp only [ho, resolve, invoke, builtin, Sem.run_bind, Sem.run_pure, Result.andThen_ok, List.map_toArray, List.map_cons, List.map_nil, hs, hx, hr]
  exact h v' w' h2 h3 h4
theorem own_e0 {w : World} {base A : Nat} (hA : base ≤ A) (h : w.heap[A]? = some (.cells #[] 28 (0, 0))) : w.ownsRow base 28 1 (.slice (some ⟨A, 0, none⟩) 0 0) 0 [] := ⟨rfl, .inr ⟨A, 0, #[], rfl, hA, h, Nat.le_refl _, Nat.zero_le _, rfl, rfl⟩⟩
theorem h_new1 (w : World) (o o' : Obj) : ((w.alloc o).alloc o').heap[w.heap.size]? = some o := (Below.heap_alloc _ _ _ (by simp)).trans (World.alloc_heap_new w o)
theorem h_new2 (w : World) (o o' : Obj) : ((w.alloc o).alloc o').heap[w.heap.size + 1]? = some o' := by
  have := World.alloc_heap_new (w.alloc o) o'
  rwa [World.size_alloc] at this
theorem bel1 (w : World) (o : Obj) : Below w.heap.size w (w.drew.alloc o) := ⟨rfl, rfl, rfl, by simp, fun k hk => Below.heap_alloc w.drew _ _ hk⟩
theorem bel2 (w : World) (o o' : Obj) : Below w.heap.size w ((w.drew.alloc o).alloc o') := (bel1 w o).alloc (by simp) _
set_option maxHeartbeats 4000000 in
theorem put_calls (C : Nat → Nat → Prop) (xs : List Nat) (x : Nat) (va : Value) (w : World) (hl : (srt xs).length ≤ 4194304) (hd : Dat C w va (ns (srt xs))) (hC : ∀ b o, C b o → b < w.heap.size) :
    Calls Try.prog 85 #[va, .int .u64 (x : Nat)] w fun e w' => ∃ v, e = .returned v ∧ Below w.heap.size w w' ∧ Dat (fun b o => C b o ∨ (w.heap.size ≤ b ∧ b < w'.heap.size)) w' v (ns (srt (xs ++ [x]))) := by
  obtain ⟨l, hls⟩ : ∃ l, l = srt xs := ⟨_, rfl⟩
  have HD := Lib.hid hd
  rw [← hls] at hl hd
  have HLS := Lib.hid hls
  obtain ⟨ad, cap, rfl, hcap, hcm, hcl⟩ := ns_inv hd
  have HCL := Lib.hid hcl
  clear hd hls hcl
  unfold maxLen at hcm
  go_enter Try.func85, Try.ntmps85
  go_wp2_with fail
  go_loopg [5] l.length (fun g y wr => wr = w ∧ ∃ k, k ≤ l.length ∧ g = l.length - k ∧ y = .int .i64 k ∧ ∀ j, (h : j < l.length) → j < k → l[j] < x)
  case atStart => exact ⟨rfl, 0, Nat.zero_le _, rfl, rfl, fun j _ h => absurd h (by omega)⟩
  case round =>
    obtain ⟨rfl, k, hk, rfl, rfl, hj⟩ := hrel
    have HJ := Lib.hid hj
    clear hj
    by_cases hlt : k < l.length
    · obtain ⟨b, off, rfl, hcells⟩ := HCL.out (fun e => by rw [e] at hlt; simp at hlt)
      have hck := (hcells k hlt).2
      obtain ⟨y, hy⟩ : ∃ y, y = l[k] := ⟨_, rfl⟩
      rw [← hy] at hck
      have HY := Lib.hid hy
      have HCs := Lib.hid hcells
      clear hy hcells
      by_cases h2 : y < x
      · go_wp2_with fail
        go_roundg (l.length - (k + 1))
        case measure => omega
        case rel =>
          refine ⟨rfl, k + 1, hlt, rfl, by simp, fun j hj1 hj2 => ?_⟩
          rcases Nat.lt_or_ge j k with h3 | h3
          · exact HJ.out j hj1 h3
          · obtain rfl : j = k := by omega
            rw [← HY.out]; exact h2
      · by_cases h3 : y = x
        · go_wp2_with fail
          refine bodyPost_ret (results_tmp rfl _ _ _) rfl ?_
          have hmem : x ∈ srt xs := by rw [← HLS.out, ← h3, HY.out]; exact List.getElem_mem hlt
          rw [srt_has hmem]
          exact ⟨_, rfl, Below.refl _ _, HD.out.mono (fun _ _ h => .inl h) fun _ _ _ _ h => h⟩
        · go_wp2_with fail
          have mixed : Try.prog.follows .mixedOrders = true := by kernel_rfl
          have hone : ∀ u ∈ (l.take k).map uV, u.oneCell' = true := uV_one
          have hone2 : ∀ u ∈ (l.drop k).map uV, u.oneCell' = true := uV_one
          have hone1 : ∀ u ∈ [uV x], u.oneCell' = true := fun u hu => by simp at hu; subst hu; rfl
          have hcell : ∀ W : World, Below wr.heap.size wr W → ∀ j (hj : j < l.length), W.cell? ⟨b, off + j, none⟩ = some (uV l[j]) := fun W hB j hj => (World.cell?_of_block (a := ⟨b, off + j, none⟩) (hB.block b (hC _ _ (HCs.out j hj).1))).trans (HCs.out j hj).2
          have hn1 : ∀ W : World, Below wr.heap.size wr W → (k = 0 ∧ (some (⟨b, off, none⟩ : Addr)) = none) ∨ ∃ a, some (⟨b, off, none⟩ : Addr) = some a ∧ ∀ j u, ((l.take k).map uV)[j]? = some u → W.cell? (a.add j) = some u := fun W hB => .inr ⟨_, rfl, fun j u h => by
            rw [List.getElem?_map] at h
            obtain ⟨y, hy, rfl⟩ := Option.map_eq_some_iff.1 h
            obtain ⟨hj, rfl⟩ := List.getElem?_eq_some_iff.1 hy
            rw [add_none, List.getElem_take]
            exact hcell W hB j (by simp at hj; omega)⟩
          have hn2 : ∀ W : World, Below wr.heap.size wr W → (l.length - k = 0 ∧ (some (⟨b, off + k, none⟩ : Addr)) = none) ∨ ∃ a, some (⟨b, off + k, none⟩ : Addr) = some a ∧ ∀ j u, ((l.drop k).map uV)[j]? = some u → W.cell? (a.add j) = some u := fun W hB => .inr ⟨_, rfl, fun j u h => by
            rw [List.getElem?_map] at h
            obtain ⟨y, hy, rfl⟩ := Option.map_eq_some_iff.1 h
            obtain ⟨hj, rfl⟩ := List.getElem?_eq_some_iff.1 hy
            rw [add_none, List.getElem_drop, show off + k + j = off + (k + j) by omega]
            exact hcell W hB (k + j) (by simp at hj; omega)⟩
          have HN1 := Lib.hid hn1
          have HN2 := Lib.hid hn2
          have hck : ¬ (cap = k) := by omega
          have hkc : k ≤ cap := by omega
          have hkl : k ≤ l.length := by omega
          have hfin : ∀ v w, w.ownsRow wr.heap.size 28 1 v (k + 1 + (l.length - k)) ((l.take k).map uV ++ ([uV x] ++ (l.drop k).map uV)) → OwnN wr.heap.size w v (srt (xs ++ [x])) := fun v w h => by
            have hi := srt_ins (xs := xs) (x := x) (at_ := k) (by rw [← HLS.out]; omega) (fun j h5 h6 => by
              have h7 : l[k] ≤ (srt xs)[j] := by
                rcases Nat.eq_or_lt_of_le h6 with h8 | h8
                · subst h8; simp only [HLS.out]; exact Nat.le_refl _
                · have := asc_lt (srt_asc xs) h5 h8
                  simp only [HLS.out]; omega
              have := HY.out
              omega) (by
              rcases Nat.eq_zero_or_pos k with h5 | h5
              · exact .inl h5
              · refine .inr ⟨by rw [← HLS.out]; omega, ?_⟩
                have h6 := HJ.out (k - 1) (by omega) (by omega)
                simpa only [HLS.out] using h6)
            rw [hi, ← HLS.out]
            unfold OwnN
            have e : (l.take k ++ x :: l.drop k).length = k + 1 + (l.length - k) := by simp; omega
            rw [e]
            show w.ownsRow wr.heap.size 28 1 v _ (List.map uV _)
            rw [List.map_append, List.map_cons]
            exact h
          have HFIN := Lib.hid hfin
          clear hfin hn1 hn2 hcell
          go_region_law_o (first
            | (refine step_app (.tmp 33) (.tmp 36) 86 rfl rfl Try.underlying86 wr.heap.size (.slice (some ⟨_, 0, none⟩) 0 0) 0 [] rfl (own_e0 (by omega) (by first | exact World.alloc_heap_new _ _ | exact World.alloc_heap_new wr _ | exact h_new1 _ _ _ | exact h_new2 _ _ _ | exact h_new1 wr _ _ | exact h_new2 wr _ _)) _ k _ ((l.take k).map uV) rfl (by simp <;> omega) (HN1.out _ (by first | exact bel1 _ _ | exact bel2 _ _ _)) hone (by omega) (by simp <;> omega) ?_
               intro v37 w37 ho37 hg37 hb37
               have b1 : Below wr.heap.size wr w37 := by first | exact (bel1 wr _).grown hg37 (by simp <;> omega) (fun j hj => by simp [Value.ownBlock] at hj; omega) | exact (bel2 wr _ _).grown hg37 (by simp <;> omega) (fun j hj => by simp [Value.ownBlock] at hj; omega))
            | (refine step_app (.tmp 37) (.tmp 39) 86 rfl rfl Try.underlying86 wr.heap.size _ (0 + k) ([] ++ (l.take k).map uV) rfl (by first | exact ho37 | exact ho37.alloc _) _ 1 _ [uV x] rfl rfl (.inr ⟨_, rfl, news_one (vt := 28) (by first | exact World.alloc_heap_new w37 _ | exact (hg37.block _ (by simp <;> omega) (by simp [Value.ownBlock] <;> omega)).trans (h_new1 wr _ _) | exact (hg37.block _ (by simp <;> omega) (by simp [Value.ownBlock] <;> omega)).trans (h_new2 wr _ _))⟩) hone1 (by omega) (by have := hg37.size; simp at this ⊢ <;> omega) ?_
               intro v40 w40 ho40 hg40 hb40
               have b2 : Below wr.heap.size wr w40 := by first | exact b1.grown hg40 b1.size (fun j hj => (ho37.lt j hj).1) | exact (b1.alloc b1.size _).grown hg40 (by have := b1.size; simp <;> omega) (fun j hj => (ho37.lt j hj).1))
            | (refine step_app (.tmp 40) (.tmp 43) 86 rfl rfl Try.underlying86 wr.heap.size _ (0 + k + 1) ([] ++ (l.take k).map uV ++ [uV x]) rfl ho40 _ (l.length - k) _ ((l.drop k).map uV) rfl (by simp <;> omega) (HN2.out _ b2) hone2 (by omega) b2.size ?_
               intro v44 w44 ho44 hg44 hb44
               have b3 := b2.grown hg44 b2.size fun j hj => (ho40.lt j hj).1))
          all_goals (go_wp2; all_goals (refine bodyPost_ret (results_tmp rfl _ _ _) rfl ?_; exact ⟨v44, rfl, b3, ownN_dat (base := wr.heap.size) (HFIN.out _ _ (by simpa using ho44)) fun b o h1 h2 => .inr ⟨h1, h2⟩⟩))
    · obtain rfl : k = l.length := by omega
      go_wp2_with fail
      have mixed : Try.prog.follows .mixedOrders = true := by kernel_rfl
      obtain ⟨ad2, cap2, had2⟩ : ∃ ad2 cap2, (ad2, cap2) = (if cap = l.length then ad else Option.map (fun x => x.add l.length) ad, cap - l.length) := ⟨_, _, rfl⟩
      have hl2 : l.length + 1 ≤ 17179869184 := by omega
      have hone : ∀ u ∈ l.map uV, u.oneCell' = true := uV_one
      have hone1 : ∀ u ∈ [uV x], u.oneCell' = true := fun u hu => by simp at hu; subst hu; rfl
      have hnl : ∀ W : World, Below wr.heap.size wr W → (l.length = 0 ∧ ad = none) ∨ ∃ a, ad = some a ∧ ∀ j u, (l.map uV)[j]? = some u → W.cell? (a.add j) = some u := fun W hB => by
        by_cases h0 : l = []
        · subst h0
          cases ad with
          | none => exact .inl ⟨rfl, rfl⟩
          | some a => exact .inr ⟨a, rfl, fun j u h => by simp at h⟩
        · obtain ⟨b, off, rfl, hc⟩ := HCL.out h0
          refine .inr ⟨_, rfl, fun j u h => ?_⟩
          rw [List.getElem?_map] at h
          obtain ⟨y, hy, rfl⟩ := Option.map_eq_some_iff.1 h
          obtain ⟨hj, rfl⟩ := List.getElem?_eq_some_iff.1 hy
          rw [add_none]
          exact (World.cell?_of_block (a := ⟨b, off + j, none⟩) (hB.block b (hC _ _ (hc j hj).1))).trans (hc j hj).2
      have hnone : (0 = 0 ∧ (if cap = l.length then ad else Option.map (fun x => x.add l.length) ad) = none) ∨ ∃ a, (if cap = l.length then ad else Option.map (fun x => x.add l.length) ad) = some a := by
        cases ad <;> simp
        split <;> simp
      have HNL := Lib.hid hnl
      have HNO := Lib.hid hnone
      clear hnl hnone had2
      have hfin : ∀ v w, w.ownsRow wr.heap.size 28 1 v (l.length + 1) (l.map uV ++ [uV x]) → OwnN wr.heap.size w v (srt (xs ++ [x])) := fun v w h => by
        have hi := srt_ins (xs := xs) (x := x) (at_ := (srt xs).length) (Nat.le_refl _) (fun j h1 h2 => by omega) (by
          rcases Nat.eq_zero_or_pos (srt xs).length with h5 | h5
          · exact .inl h5
          · refine .inr ⟨by omega, ?_⟩
            have h6 := HJ.out ((srt xs).length - 1) (by rw [HLS.out]; omega) (by rw [HLS.out]; omega)
            simpa only [HLS.out] using h6)
        rw [hi, ← HLS.out, List.take_length, List.drop_length]
        unfold OwnN
        rw [List.length_append, List.length_singleton]
        show w.ownsRow wr.heap.size 28 1 v _ (List.map uV _)
        rw [List.map_append]
        exact h
      have HFIN := Lib.hid hfin
      clear hfin
      go_region_law_o (first
        | (refine step_app (.tmp 33) (.tmp 36) 86 rfl rfl Try.underlying86 wr.heap.size (.slice (some ⟨_, 0, none⟩) 0 0) 0 [] rfl (own_e0 (by omega) (by first | exact World.alloc_heap_new _ _ | exact World.alloc_heap_new wr _ | exact h_new1 _ _ _ | exact h_new2 _ _ _ | exact h_new1 wr _ _ | exact h_new2 wr _ _)) _ l.length _ (l.map uV) rfl (by simp <;> omega) (HNL.out _ (by first | exact bel1 _ _ | exact bel2 _ _ _)) hone (by omega) (by simp <;> omega) ?_
           intro v37 w37 ho37 hg37 hb37
           have b1 : Below wr.heap.size wr w37 := by first | exact (bel1 wr _).grown hg37 (by simp <;> omega) (fun j hj => by simp [Value.ownBlock] at hj; omega) | exact (bel2 wr _ _).grown hg37 (by simp <;> omega) (fun j hj => by simp [Value.ownBlock] at hj; omega))
        | (refine step_app (.tmp 37) (.tmp 39) 86 rfl rfl Try.underlying86 wr.heap.size _ (0 + l.length) ([] ++ l.map uV) rfl (by first | exact ho37 | exact ho37.alloc _) _ 1 _ [uV x] rfl rfl (.inr ⟨_, rfl, news_one (vt := 28) (by first | exact World.alloc_heap_new w37 _ | exact (hg37.block _ (by simp <;> omega) (by simp [Value.ownBlock] <;> omega)).trans (h_new1 wr _ _) | exact (hg37.block _ (by simp <;> omega) (by simp [Value.ownBlock] <;> omega)).trans (h_new2 wr _ _))⟩) hone1 (by omega) (by have := hg37.size; simp at this ⊢ <;> omega) ?_
           intro v40 w40 ho40 hg40 hb40
           have b2 : Below wr.heap.size wr w40 := by first | exact b1.grown hg40 b1.size (fun j hj => (ho37.lt j hj).1) | exact (b1.alloc b1.size _).grown hg40 (by have := b1.size; simp <;> omega) (fun j hj => (ho37.lt j hj).1))
        | (refine step_app (.tmp 40) (.tmp 43) 86 rfl rfl Try.underlying86 wr.heap.size _ (0 + l.length + 1) ([] ++ l.map uV ++ [uV x]) rfl ho40 _ 0 _ ([]) rfl (by simp <;> omega) (by rcases HNO.out with h | ⟨a, h⟩; exact .inl h; exact .inr ⟨a, h, fun j u hj => by simp at hj⟩) (by simp) (by omega) b2.size ?_
           intro v44 w44 ho44 hg44 hb44
           have b3 := b2.grown hg44 b2.size fun j hj => (ho40.lt j hj).1))
      all_goals (go_wp2; all_goals (refine bodyPost_ret (results_tmp rfl _ _ _) rfl ?_; exact ⟨v44, rfl, b3, ownN_dat (base := wr.heap.size) (HFIN.out _ _ (by simpa using ho44)) fun b o h1 h2 => .inr ⟨h1, h2⟩⟩))
end Go.Proofs.Ytcedofkenfddkaa
/- word.Width and word.Plus over memory. -/
namespace Go.Proofs.Ytcedofkenfddkaa
set_option linter.unusedVariables false
set_option linter.unusedSimpArgs false
open Go.RowKit
set_option maxRecDepth 100000
theorem dat_cw {D : Nat → Nat → Prop} {w : World} {x : Value} {n : Nat} (h : Dat D w x (cw n)) : x = cwV n := by
  have h' : Dat D w x (.agg [.v (.int .u64 (n / M64 : Nat)), .v (.int .u64 (n % M64 : Nat))]) := h
  cases h' with
  | agg vs cs hs _ h =>
    obtain ⟨l⟩ := vs
    match l, hs with
    | [p, q], _ =>
      have e0 := (h 0 _ rfl).v_inv
      have e1 := (h 1 _ rfl).v_inv
      simp at e0 e1
      rw [e0, e1]
      rfl
theorem cw_dat {D : Nat → Nat → Prop} {w : World} {n : Nat} : Dat D w (cwV n) (cw n) := by
  show Dat D w (.agg #[.int .u64 (n / M64 : Nat), .int .u64 (n % M64 : Nat)]) (.agg [.v (.int .u64 (n / M64 : Nat)), .v (.int .u64 (n % M64 : Nat))])
  refine .agg _ _ rfl (fun i hi => ?_) fun i p hp => ?_
  · match i, hi with
    | 0, _ => rfl
    | 1, _ => rfl
  · match i, hp with
    | 0, hp => cases hp; exact .v _
    | 1, hp => cases hp; exact .v _
    | i + 2, hp => simp at hp
theorem width_w {C : Nat → Nat → Prop} {w : World} (hC : ∀ b o, C b o → b < w.heap.size) (hG : GL C w) {lo hi : Nat} (h1 : lo ≤ hi) (h2 : hi < M64) :
    Calls Try.prog 107 #[.int .u64 (lo : Nat), .int .u64 (hi : Nat)] w fun e w' => e = .returned (cwV (hi - lo + 1)) ∧ Below w.heap.size w w' := by
  refine (cn_w (width_c lo hi h1 h2) hG hC rfl (fun i p hp => ?_)).mono ?_
  · match i, hp with
    | 0, hp => cases hp; exact .v _
    | 1, hp => cases hp; exact .v _
    | i + 2, hp => simp at hp
  · rintro e w' ⟨v, rfl, hb, hd⟩
    exact ⟨by rw [dat_cw hd], hb⟩
theorem plus_w {C : Nat → Nat → Prop} {w : World} (hC : ∀ b o, C b o → b < w.heap.size) (hG : GL C w) {m n : Nat} (hm : m < M64 * M64 / 4) (hn : n < M64 * M64 / 4) :
    Calls Try.prog 58 #[cwV m, cwV n] w fun e w' => e = .returned (cwV (m + n)) ∧ Below w.heap.size w w' := by
  refine (cn_w (plus_c m n hm hn) hG hC rfl (fun i p hp => ?_)).mono ?_
  · match i, hp with
    | 0, hp => cases hp; exact cw_dat
    | 1, hp => cases hp; exact cw_dat
    | i + 2, hp => simp at hp
  · rintro e w' ⟨v, rfl, hb, hd⟩
    exact ⟨by rw [dat_cw hd], hb⟩
end Go.Proofs.Ytcedofkenfddkaa
/- The contracts of lattice (Count, Add), measure.Count, kenningref10, kenningref06.Below. -/
namespace Go.Proofs.Ytcedofkenfddkaa
set_option linter.unusedVariables false
set_option linter.unusedSimpArgs false
open Go.RowKit
set_option maxRecDepth 100000
theorem widthOk (C : Nat → Nat → Prop) : WidthOk C := fun _ _ _ hC hG h1 h2 => width_w hC hG h1 h2
theorem plusOk (C : Nat → Nat → Prop) : PlusOk C := fun _ _ _ hC hG h1 h2 => plus_w hC hG h1 h2
theorem Nrm.ivs {l : List Iv} (h : Nrm l) : ∀ t ∈ l, t.lo ≤ t.hi ∧ t.hi < M64 := fun t ht => (NF.lo_ge h t ht).2
theorem mcount_c (l : List Iv) (hn : Nrm l) (hl : l.length ≤ 1073741824) : Cn Try.prog 90 [rg l] (cw (card l)) := by
  refine cn_memL rfl (enters_of Try.func90 (by kernel_rfl) rfl) fun D w vs hG hD hsz hd => ?_
  rw [arr1' hsz]
  refine (mcount_calls D l _ w hn.ivs hl (dat_rdr (hd 0 _ rfl) hD hn.lt) hD hG (widthOk D) (plusOk D)).mono ?_
  rintro e w' ⟨rfl, hb⟩
  exact ⟨_, rfl, hb, cw_dat⟩
theorem cardV_lt {v : List En} (h : RightV v) : cardV v ≤ v.length * M64 := by
  have h1 := h.1
  clear h
  induction v with
  | nil => simp [cardV]
  | cons e v ih =>
    have h2 := card_le (kn_nrm (h1 e (by simp)))
    have h3 := ih fun f hf => h1 f (by simp [hf])
    rw [cardV, List.length_cons, Nat.succ_mul]
    omega
theorem RightV.take {v : List En} (h : RightV v) (k : Nat) : RightV (v.take k) := ⟨fun e he => h.1 e (List.mem_of_mem_take he), h.2.sublist (List.take_sublist _ _)⟩
theorem cardV_sm {v : List En} (h : SmV v) (k : Nat) : cardV (v.take k) < M64 * M64 / 4 := by
  have h1 := cardV_lt (h.1.take k)
  have h2 : (v.take k).length ≤ 1048576 := Nat.le_trans (List.length_take_le' _ _) h.2.1
  have h3 : (v.take k).length * M64 ≤ 1048576 * M64 := Nat.mul_le_mul_right _ h2
  simp only [M64_val] at *
  omega
theorem card_q {l : List Iv} (h : Nrm l) : card l < M64 * M64 / 4 := by
  have := card_le h
  simp only [M64_val] at *
  omega
theorem lcount_c (v : List En) (hv : SmV v) : Cn Try.prog 59 [vp v] (cw (cardV v)) := by
  have hl := hv.2.1
  refine cn_go Try.func59 [] 1 (by kernel_rfl) rfl (by simp [go_sem, seval]) ?_
  conv => arg 4; cbv
  conv => enter [5, 1]; cbv
  try simp (maxSteps := 2000000) (disch := omega) only [go_sem, seval]
  try repeat ((with_reducible refine And.intro ?_ ?_); focus (first | omega | assumption | exact True.intro | (show anyD _ _ = true; exact rfl) | (simp only [List.length_map, List.length_append, List.length_cons, List.length_nil, List.length_take, List.length_drop]; omega)))
  refine pLoop.go (fun k => k ≤ v.length) (fun k => [(8, .v (.int .i64 (k : Nat)))]) (fun k => [[.v (.int .u64 0), .v (.int .u64 0)], [.v (.int .u64 (cardV (v.take k) / M64 : Nat)), .v (.int .u64 (cardV (v.take k) % M64 : Nat))]]) (fun k => v.length - k) 0 [8] ?_ ?_ ?_
  · exact Nat.zero_le _
  · simp only [List.take_zero, cardV, Nat.zero_div, Nat.zero_mod]
    try simp (maxSteps := 2000000) (disch := omega) only [go_sem, seval]
    try repeat ((with_reducible refine And.intro ?_ ?_); focus (first | omega | assumption | exact True.intro | (show anyD _ _ = true; exact rfl) | (simp only [List.length_map, List.length_append, List.length_cons, List.length_nil, List.length_take, List.length_drop]; omega)))
  · rintro k hk
    try simp (maxSteps := 2000000) (disch := omega) only [go_sem, seval]
    try repeat ((with_reducible refine And.intro ?_ ?_); focus (first | omega | assumption | exact True.intro | (show anyD _ _ = true; exact rfl) | (simp only [List.length_map, List.length_append, List.length_cons, List.length_nil, List.length_take, List.length_drop]; omega)))
    (first | refine brP.mk (fun h => ?_) (fun h => ?_) | refine gdP.mkt (fun h => ?_) (fun h => ?_) | refine gdP.mkf (fun h => ?_) (fun h => ?_) | refine pkP.mk (fun h => ?_) (fun h => ?_)) <;> (try simp only [Bool.not_true, Bool.not_false, decide_eq_true_eq, decide_eq_false_iff_not, Bool.and_eq_true, Bool.or_eq_true, Bool.not_eq_true', Bool.not_eq_false', Bool.and_eq_false_iff, Bool.or_eq_false_iff, Nat.not_lt, Int.not_lt, Nat.not_le, Int.not_le, Int.ofNat_lt, Int.ofNat_le, Int.ofNat_inj, Bool.xor_false, Bool.false_xor, Bool.true_xor, Bool.xor_true] at h) <;> (try simp (maxSteps := 2000000) (disch := omega) only [go_sem, seval]) <;> (try repeat ((with_reducible refine And.intro ?_ ?_); focus (first | omega | assumption | exact True.intro | (show anyD _ _ = true; exact rfl) | (simp only [List.length_map, List.length_append, List.length_cons, List.length_nil, List.length_take, List.length_drop]; omega))))
    · have hh := hv.2.2 _ (List.getElem_mem h)
      have hr := hv.1.1 _ (List.getElem_mem h)
      have l1 := kn_length v[k]
      (first | refine callP.mk (eknown_c v[k] hr (by omega)) rfl ?_ | refine callQ.mk (eknown_c v[k] hr (by omega)) rfl ?_ | refine callO.rd (eknown_c v[k] hr (by omega)) rfl ?_ | refine callO.mk (eknown_c v[k] hr (by omega)) rfl ?_)
      try simp (maxSteps := 2000000) (disch := omega) only [go_sem, seval]
      try repeat ((with_reducible refine And.intro ?_ ?_); focus (first | omega | assumption | exact True.intro | (show anyD _ _ = true; exact rfl) | (simp only [List.length_map, List.length_append, List.length_cons, List.length_nil, List.length_take, List.length_drop]; omega)))
      (first | refine callP.mk (mcount_c (kn v[k]) (kn_nrm hr) (by omega)) rfl ?_ | refine callQ.mk (mcount_c (kn v[k]) (kn_nrm hr) (by omega)) rfl ?_ | refine callO.rd (mcount_c (kn v[k]) (kn_nrm hr) (by omega)) rfl ?_ | refine callO.mk (mcount_c (kn v[k]) (kn_nrm hr) (by omega)) rfl ?_)
      try simp (maxSteps := 2000000) (disch := omega) only [go_sem, seval]
      try repeat ((with_reducible refine And.intro ?_ ?_); focus (first | omega | assumption | exact True.intro | (show anyD _ _ = true; exact rfl) | (simp only [List.length_map, List.length_append, List.length_cons, List.length_nil, List.length_take, List.length_drop]; omega)))
      (first | refine callP.mk (plus_c (cardV (v.take k)) (card (kn v[k])) (cardV_sm hv k) (card_q (kn_nrm hr))) rfl ?_ | refine callQ.mk (plus_c (cardV (v.take k)) (card (kn v[k])) (cardV_sm hv k) (card_q (kn_nrm hr))) rfl ?_ | refine callO.rd (plus_c (cardV (v.take k)) (card (kn v[k])) (cardV_sm hv k) (card_q (kn_nrm hr))) rfl ?_ | refine callO.mk (plus_c (cardV (v.take k)) (card (kn v[k])) (cardV_sm hv k) (card_q (kn_nrm hr))) rfl ?_)
      try simp (maxSteps := 2000000) (disch := omega) only [go_sem, seval]
      try repeat ((with_reducible refine And.intro ?_ ?_); focus (first | omega | assumption | exact True.intro | (show anyD _ _ = true; exact rfl) | (simp only [List.length_map, List.length_append, List.length_cons, List.length_nil, List.length_take, List.length_drop]; omega)))
      exact ⟨k + 1, h, by omega, rfl, by rw [cardV_take h], by rw [cardV_take h]⟩
    · rw [show k = v.length by omega, List.take_length]
theorem refKnown10_c (v : List En) (r : Nat) (hr : SmV v) : Cn Try.prog 86 [vp v, .v (.int .u64 r)] (rg (knV v r)) := by
  have hl := hr.2.1
  refine cn_go Try.func86 [] 2 (by kernel_rfl) rfl (by simp [go_sem, seval]) ?_
  conv => arg 4; cbv
  conv => enter [5, 1]; cbv
  try simp (maxSteps := 2000000) (disch := omega) only [go_sem, seval]
  try repeat ((with_reducible refine And.intro ?_ ?_); focus (first | omega | assumption | exact True.intro | (show anyD _ _ = true; exact rfl) | (simp only [List.length_map, List.length_append, List.length_cons, List.length_nil, List.length_take, List.length_drop]; omega)))
  (first | refine callP.mk (refFind_c v r (by omega)) rfl ?_ | refine callQ.mk (refFind_c v r (by omega)) rfl ?_ | refine callO.rd (refFind_c v r (by omega)) rfl ?_ | refine callO.mk (refFind_c v r (by omega)) rfl ?_)
  rcases fdV_spec r v 0 with ⟨e1, e2⟩ | ⟨i, hi, e1, e2⟩
  · rw [e1, knV_none e2]
    try simp (maxSteps := 2000000) (disch := omega) only [go_sem, seval]
    try repeat ((with_reducible refine And.intro ?_ ?_); focus (first | omega | assumption | exact True.intro | (show anyD _ _ = true; exact rfl) | (simp only [List.length_map, List.length_append, List.length_cons, List.length_nil, List.length_take, List.length_drop]; omega)))
  · have hh := hr.2.2 _ (List.getElem_mem hi)
    rw [e1, knV_fd hr.1 hi e2, Nat.zero_add]
    try simp (maxSteps := 2000000) (disch := omega) only [go_sem, seval]
    try repeat ((with_reducible refine And.intro ?_ ?_); focus (first | omega | assumption | exact True.intro | (show anyD _ _ = true; exact rfl) | (simp only [List.length_map, List.length_append, List.length_cons, List.length_nil, List.length_take, List.length_drop]; omega)))
    (first | refine brP.mk (fun h0 => ?_) (fun h0 => ?_) | refine gdP.mkt (fun h0 => ?_) (fun h0 => ?_) | refine gdP.mkf (fun h0 => ?_) (fun h0 => ?_) | refine pkP.mk (fun h0 => ?_) (fun h0 => ?_)) <;> (try simp only [Bool.not_true, Bool.not_false, decide_eq_true_eq, decide_eq_false_iff_not, Bool.and_eq_true, Bool.or_eq_true, Bool.not_eq_true', Bool.not_eq_false', Bool.and_eq_false_iff, Bool.or_eq_false_iff, Nat.not_lt, Int.not_lt, Nat.not_le, Int.not_le, Int.ofNat_lt, Int.ofNat_le, Int.ofNat_inj, Bool.xor_false, Bool.false_xor, Bool.true_xor, Bool.xor_true] at h0) <;> (try simp (maxSteps := 2000000) (disch := omega) only [go_sem, seval]) <;> (try repeat ((with_reducible refine And.intro ?_ ?_); focus (first | omega | assumption | exact True.intro | (show anyD _ _ = true; exact rfl) | (simp only [List.length_map, List.length_append, List.length_cons, List.length_nil, List.length_take, List.length_drop]; omega))))
    · exact absurd h0 (by omega)
    · (first | refine callP.mk (known7_c v[i] (hr.1.1 _ (List.getElem_mem hi)) (by omega)) rfl ?_ | refine callQ.mk (known7_c v[i] (hr.1.1 _ (List.getElem_mem hi)) (by omega)) rfl ?_ | refine callO.rd (known7_c v[i] (hr.1.1 _ (List.getElem_mem hi)) (by omega)) rfl ?_ | refine callO.mk (known7_c v[i] (hr.1.1 _ (List.getElem_mem hi)) (by omega)) rfl ?_)
      try simp (maxSteps := 2000000) (disch := omega) only [go_sem, seval]
      try repeat ((with_reducible refine And.intro ?_ ?_); focus (first | omega | assumption | exact True.intro | (show anyD _ _ = true; exact rfl) | (simp only [List.length_map, List.length_append, List.length_cons, List.length_nil, List.length_take, List.length_drop]; omega)))
theorem oneV_sm {r c : Nat} (hr : r < M64) (hc : c < M64) : SmV (oneV r c) := by
  have h := oneV_bv hr hc
  exact ⟨h.1, by have := h.2.1; omega, fun e he => by have := h.2.2 e he; omega⟩
theorem lAdd_c (v : List En) (r c : Nat) (hv : SmV v) (hr : r < M64) (hc : c < M64) : Cn Try.prog 62 [vp v, .v (.int .u64 r), .v (.int .u64 c)] (vp (lat fUnion v (oneV r c))) := by
  have h := lUnion_c v (oneV r c) hv (oneV_sm hr hc)
  refine cn_go Try.func62 [] 3 (by kernel_rfl) rfl (by simp [go_sem, seval]) ?_
  conv => arg 4; cbv
  conv => enter [5, 1]; cbv
  try simp (maxSteps := 2000000) (disch := omega) only [go_sem, seval]
  try repeat ((with_reducible refine And.intro ?_ ?_); focus (first | omega | assumption | exact True.intro | (show anyD _ _ = true; exact rfl) | (simp only [List.length_map, List.length_append, List.length_cons, List.length_nil, List.length_take, List.length_drop]; omega)))
  (first | refine callP.mk (eof_c r [⟨c, c⟩] (oneC_nrm hc) (by simp)) rfl ?_ | refine callQ.mk (eof_c r [⟨c, c⟩] (oneC_nrm hc) (by simp)) rfl ?_ | refine callO.rd (eof_c r [⟨c, c⟩] (oneC_nrm hc) (by simp)) rfl ?_ | refine callO.mk (eof_c r [⟨c, c⟩] (oneC_nrm hc) (by simp)) rfl ?_)
  try simp (maxSteps := 2000000) (disch := omega) only [go_sem, seval]
  try repeat ((with_reducible refine And.intro ?_ ?_); focus (first | omega | assumption | exact True.intro | (show anyD _ _ = true; exact rfl) | (simp only [List.length_map, List.length_append, List.length_cons, List.length_nil, List.length_take, List.length_drop]; omega)))
  (first | refine callP.mk (h) rfl ?_ | refine callQ.mk (h) rfl ?_ | refine callO.rd (h) rfl ?_ | refine callO.mk (h) rfl ?_)
  try simp (maxSteps := 2000000) (disch := omega) only [go_sem, seval]
  try repeat ((with_reducible refine And.intro ?_ ?_); focus (first | omega | assumption | exact True.intro | (show anyD _ _ = true; exact rfl) | (simp only [List.length_map, List.length_append, List.length_cons, List.length_nil, List.length_take, List.length_drop]; omega)))
/-- Vectors that are handed over together. -/
def vps (vs : List (List En)) : PV := .sl (vs.map fun v => [vp v]) .sh
attribute [go_sem] vps
def okV (v : List En) : Bool := fewB v && decide ((chkV v).1 = 0)
theorem all_drop {α : Type} {p : α → Bool} {l : List α} {k : Nat} (h : k < l.length) : (l.drop k).all p = (p l[k] && (l.drop (k + 1)).all p) := by
  rw [List.drop_eq_getElem_cons h]; rfl
theorem right10_c (ls : List (List En)) (h1 : ls.length ≤ 1048576) (hb : ∀ v ∈ ls, BdV v) : Cn Try.prog 49 [vps ls] (.v (.bool (ls.all okV))) := by
  refine cn_go Try.func49 [] 1 (by kernel_rfl) rfl (by simp [go_sem, seval]) ?_
  conv => arg 4; cbv
  conv => enter [5, 1]; cbv
  try simp (maxSteps := 2000000) (disch := omega) only [go_sem, seval]
  try repeat ((with_reducible refine And.intro ?_ ?_); focus (first | omega | assumption | exact True.intro | (show anyD _ _ = true; exact rfl) | (simp only [List.length_map, List.length_append, List.length_cons, List.length_nil, List.length_take, List.length_drop]; omega)))
  refine pLoop.go (fun k => k ≤ ls.length ∧ ls.all okV = (ls.drop k).all okV) (fun k => [(7, .v (.int .i64 (k : Nat)))]) (fun _ => []) (fun k => ls.length - k) 0 [7] ?_ ?_ ?_
  · exact ⟨Nat.zero_le _, rfl⟩
  · try simp (maxSteps := 2000000) (disch := omega) only [go_sem, seval]
    try repeat ((with_reducible refine And.intro ?_ ?_); focus (first | omega | assumption | exact True.intro | (show anyD _ _ = true; exact rfl) | (simp only [List.length_map, List.length_append, List.length_cons, List.length_nil, List.length_take, List.length_drop]; omega)))
  · rintro k ⟨hk, hm⟩
    try simp (maxSteps := 2000000) (disch := omega) only [go_sem, seval]
    try repeat ((with_reducible refine And.intro ?_ ?_); focus (first | omega | assumption | exact True.intro | (show anyD _ _ = true; exact rfl) | (simp only [List.length_map, List.length_append, List.length_cons, List.length_nil, List.length_take, List.length_drop]; omega)))
    (first | refine brP.mk (fun h => ?_) (fun h => ?_) | refine gdP.mkt (fun h => ?_) (fun h => ?_) | refine gdP.mkf (fun h => ?_) (fun h => ?_) | refine pkP.mk (fun h => ?_) (fun h => ?_)) <;> (try simp only [Bool.not_true, Bool.not_false, decide_eq_true_eq, decide_eq_false_iff_not, Bool.and_eq_true, Bool.or_eq_true, Bool.not_eq_true', Bool.not_eq_false', Bool.and_eq_false_iff, Bool.or_eq_false_iff, Nat.not_lt, Int.not_lt, Nat.not_le, Int.not_le, Int.ofNat_lt, Int.ofNat_le, Int.ofNat_inj, Bool.xor_false, Bool.false_xor, Bool.true_xor, Bool.xor_true] at h) <;> (try simp (maxSteps := 2000000) (disch := omega) only [go_sem, seval]) <;> (try repeat ((with_reducible refine And.intro ?_ ?_); focus (first | omega | assumption | exact True.intro | (show anyD _ _ = true; exact rfl) | (simp only [List.length_map, List.length_append, List.length_cons, List.length_nil, List.length_take, List.length_drop]; omega))))
    · rw [all_drop h] at hm
      have hbk := hb _ (List.getElem_mem h)
      (first | refine callP.mk (few_c ls[k] hbk.2) rfl ?_ | refine callQ.mk (few_c ls[k] hbk.2) rfl ?_ | refine callO.rd (few_c ls[k] hbk.2) rfl ?_ | refine callO.mk (few_c ls[k] hbk.2) rfl ?_)
      try simp (maxSteps := 2000000) (disch := omega) only [go_sem, seval]
      try repeat ((with_reducible refine And.intro ?_ ?_); focus (first | omega | assumption | exact True.intro | (show anyD _ _ = true; exact rfl) | (simp only [List.length_map, List.length_append, List.length_cons, List.length_nil, List.length_take, List.length_drop]; omega)))
      (first | refine brP.mk (fun h2 => ?_) (fun h2 => ?_) | refine gdP.mkt (fun h2 => ?_) (fun h2 => ?_) | refine gdP.mkf (fun h2 => ?_) (fun h2 => ?_) | refine pkP.mk (fun h2 => ?_) (fun h2 => ?_)) <;> (try simp only [Bool.not_true, Bool.not_false, decide_eq_true_eq, decide_eq_false_iff_not, Bool.and_eq_true, Bool.or_eq_true, Bool.not_eq_true', Bool.not_eq_false', Bool.and_eq_false_iff, Bool.or_eq_false_iff, Nat.not_lt, Int.not_lt, Nat.not_le, Int.not_le, Int.ofNat_lt, Int.ofNat_le, Int.ofNat_inj, Bool.xor_false, Bool.false_xor, Bool.true_xor, Bool.xor_true] at h2) <;> (try simp (maxSteps := 2000000) (disch := omega) only [go_sem, seval]) <;> (try repeat ((with_reducible refine And.intro ?_ ?_); focus (first | omega | assumption | exact True.intro | (show anyD _ _ = true; exact rfl) | (simp only [List.length_map, List.length_append, List.length_cons, List.length_nil, List.length_take, List.length_drop]; omega))))
      · rw [hm]
        simp [okV, h2]
      · obtain ⟨hl, hh⟩ := few_bd h2
        (first | refine callP.mk (rightV_c ls[k] hbk.1 hl hh) rfl ?_ | refine callQ.mk (rightV_c ls[k] hbk.1 hl hh) rfl ?_ | refine callO.rd (rightV_c ls[k] hbk.1 hl hh) rfl ?_ | refine callO.mk (rightV_c ls[k] hbk.1 hl hh) rfl ?_)
        try simp (maxSteps := 2000000) (disch := omega) only [go_sem, seval]
        try repeat ((with_reducible refine And.intro ?_ ?_); focus (first | omega | assumption | exact True.intro | (show anyD _ _ = true; exact rfl) | (simp only [List.length_map, List.length_append, List.length_cons, List.length_nil, List.length_take, List.length_drop]; omega)))
        (first | refine brP.mk (fun h3 => ?_) (fun h3 => ?_) | refine gdP.mkt (fun h3 => ?_) (fun h3 => ?_) | refine gdP.mkf (fun h3 => ?_) (fun h3 => ?_) | refine pkP.mk (fun h3 => ?_) (fun h3 => ?_)) <;> (try simp only [Bool.not_true, Bool.not_false, decide_eq_true_eq, decide_eq_false_iff_not, Bool.and_eq_true, Bool.or_eq_true, Bool.not_eq_true', Bool.not_eq_false', Bool.and_eq_false_iff, Bool.or_eq_false_iff, Nat.not_lt, Int.not_lt, Nat.not_le, Int.not_le, Int.ofNat_lt, Int.ofNat_le, Int.ofNat_inj, Bool.xor_false, Bool.false_xor, Bool.true_xor, Bool.xor_true] at h3) <;> (try simp (maxSteps := 2000000) (disch := omega) only [go_sem, seval]) <;> (try repeat ((with_reducible refine And.intro ?_ ?_); focus (first | omega | assumption | exact True.intro | (show anyD _ _ = true; exact rfl) | (simp only [List.length_map, List.length_append, List.length_cons, List.length_nil, List.length_take, List.length_drop]; omega))))
        · rw [hm]
          simp [okV, h3]
        · refine ⟨k + 1, ⟨h, ?_⟩, by omega, rfl⟩
          rw [hm]
          simp [okV, h2, h3]
    · rw [List.drop_of_length_le (by omega)] at hm
      rw [hm]
      rfl
end Go.Proofs.Ytcedofkenfddkaa
/- The laws of chapter 10: they return true. -/
namespace Go.Proofs.Ytcedofkenfddkaa
set_option linter.unusedVariables false
set_option linter.unusedSimpArgs false
open Go.RowKit
set_option maxRecDepth 100000
theorem opS_r0 {x : List Iv} (hx : Nrm x) : opS fUnion x [] = x := opS_eq hx trivial hx fun t _ => by simp [fUnion]
theorem opS_0u {x : List Iv} (hx : Nrm x) : opS fUnion [] x = x := opS_eq (a := []) trivial hx hx fun t _ => by simp [fUnion]
theorem opS_m0 {x : List Iv} (hx : Nrm x) : opS fMeet x [] = [] := opS_eq hx trivial trivial fun t _ => by simp [fMeet]
theorem opS_0m {x : List Iv} (hx : Nrm x) : opS fMeet [] x = [] := opS_eq (a := []) trivial hx trivial fun t _ => by simp [fMeet]
theorem opS_d0 {x : List Iv} (hx : Nrm x) : opS fMinus x [] = x := opS_eq hx trivial hx fun t _ => by simp [fMinus]
theorem opS_dd {x : List Iv} (hx : Nrm x) : opS fMinus x x = [] := opS_eq hx hx trivial fun t _ => by simp [fMinus]
theorem kn0 (r m : Nat) (hm : m < M64) : kn ⟨r, m, []⟩ = [⟨0, m⟩] := opS_d0 (nrm_one (Nat.zero_le _) hm)
def a10 : List En := [⟨1, 4, []⟩]
def b10 : List En := [⟨2, 3, []⟩]
def u10 : List En := [⟨1, 4, []⟩, ⟨2, 3, []⟩]
def c10 : List En := [⟨3, 0, []⟩]
theorem a10_can : CanV a10 := ⟨by simp [a10, CanE, RightE, M64_val, Nrm, NF], by simp [a10]⟩
theorem b10_can : CanV b10 := ⟨by simp [b10, CanE, RightE, M64_val, Nrm, NF], by simp [b10]⟩
theorem u10_can : CanV u10 := ⟨by simp [u10, CanE, RightE, M64_val, Nrm, NF], by simp [u10]⟩
theorem c10_can : CanV c10 := ⟨by simp [c10, CanE, RightE, M64_val, Nrm, NF], by simp [c10]⟩
theorem n04 : Nrm [⟨0, 4⟩] := nrm_one (Nat.zero_le _) (by rw [M64_val]; omega)
theorem n03 : Nrm [⟨0, 3⟩] := nrm_one (Nat.zero_le _) (by rw [M64_val]; omega)
theorem kn1 (r : Nat) : kn ⟨r, 4, []⟩ = [⟨0, 4⟩] := kn0 _ _ (by rw [M64_val]; omega)
theorem kn2 (r : Nat) : kn ⟨r, 3, []⟩ = [⟨0, 3⟩] := kn0 _ _ (by rw [M64_val]; omega)
theorem kva (r : Nat) : knV a10 r = if 1 = r then [⟨0, 4⟩] else [] := by simp only [a10, knV_cons, kn1, knV_nil]
theorem kvb (r : Nat) : knV b10 r = if 2 = r then [⟨0, 3⟩] else [] := by simp only [b10, knV_cons, kn2, knV_nil]
theorem kvu (r : Nat) : knV u10 r = if 1 = r then [⟨0, 4⟩] else if 2 = r then [⟨0, 3⟩] else [] := by simp only [u10, knV_cons, kn1, kn2, knV_nil]
theorem l10u : lat fUnion a10 b10 = u10 := lat_eq fU0 a10_can.right b10_can.right u10_can fun r => by
  rw [kva, kvb, kvu]
  by_cases h1 : 1 = r
  · rw [if_pos h1, if_pos h1, if_neg (by omega), opS_r0 n04]
  · rw [if_neg h1, if_neg h1]
    by_cases h2 : 2 = r
    · rw [if_pos h2, opS_0u n03]
    · rw [if_neg h2, opS_none fU0]
theorem l10m : lat fMeet a10 b10 = [] := lat_eq fI0 a10_can.right b10_can.right ⟨fun e h => (by cases h), List.Pairwise.nil⟩ fun r => by
  rw [kva, kvb, knV_nil]
  by_cases h1 : 1 = r
  · rw [if_pos h1, if_neg (by omega), opS_m0 n04]
  · rw [if_neg h1]
    by_cases h2 : 2 = r
    · rw [if_pos h2, opS_0m n03]
    · rw [if_neg h2, opS_none fI0]
theorem l10d : lat fMinus u10 a10 = b10 := lat_eq fM0 u10_can.right a10_can.right b10_can fun r => by
  rw [kva, kvb, kvu]
  by_cases h1 : 1 = r
  · rw [if_pos h1, if_pos h1, if_neg (by omega), opS_dd n04]
  · rw [if_neg h1, if_neg h1]
    by_cases h2 : 2 = r
    · rw [if_pos h2, opS_d0 n03]
    · rw [if_neg h2, opS_none fM0]
theorem l10s : lat fMinus a10 u10 = [] := by rw [← l10u]; exact sub_union a10_can.right b10_can.right
theorem one30 : oneV 3 0 = c10 := by
  have h := opS_dd (x := [⟨0, 0⟩]) (nrm_one (Nat.zero_le _) M64_pos)
  unfold oneV
  rw [ofS_cons (by simp), show top [⟨0, 0⟩] = 0 from rfl, h]
  rfl
theorem nil_can : CanV [] := ⟨fun e h => (by cases h), List.Pairwise.nil⟩
theorem l10c : lat fUnion [] (oneV 3 0) = c10 := by
  rw [one30]
  exact lat_eq fU0 nil_can.right c10_can.right c10_can fun r => by rw [knV_nil, opS_0u (knV_nrm c10_can.right r)]
theorem nil_sm : SmV [] := ⟨nil_can.right, by simp, by simp⟩
theorem sm_of {v : List En} (h : CanV v) (h1 : v.length ≤ 1048576) (h2 : ∀ e ∈ v, e.holes.length ≤ 10000) : SmV v := ⟨h.right, h1, h2⟩
theorem a10_sm : SmV a10 := sm_of a10_can (by decide) (by simp [a10])
theorem b10_sm : SmV b10 := sm_of b10_can (by decide) (by simp [b10])
theorem u10_sm : SmV u10 := sm_of u10_can (by decide) (by simp [u10])
theorem card10 : cardV u10 = 9 := by simp [u10, cardV, kn1, kn2, card]
set_option maxHeartbeats 2000000 in
theorem alive10_c : Cn Try.prog 50 [] (.v (.bool true)) := by
  have hM := M64_val
  refine cn_go Try.func50 [] 0 (by kernel_rfl) rfl (by simp [go_sem, seval]) ?_
  conv => arg 4; cbv
  conv => enter [5, 1]; cbv
  try simp (maxSteps := 2000000) (disch := omega) only [go_sem, seval]
  try repeat ((with_reducible refine And.intro ?_ ?_); focus (first | omega | assumption | exact True.intro | (show anyD _ _ = true; exact rfl) | (simp only [List.length_map, List.length_append, List.length_cons, List.length_nil, List.length_take, List.length_drop]; omega)))
  (first | refine callP.mk (lUnion_c a10 b10 a10_sm b10_sm) rfl ?_ | refine callQ.mk (lUnion_c a10 b10 a10_sm b10_sm) rfl ?_ | refine callO.rd (lUnion_c a10 b10 a10_sm b10_sm) rfl ?_ | refine callO.mk (lUnion_c a10 b10 a10_sm b10_sm) rfl ?_)
  rw [l10u]
  try simp (maxSteps := 2000000) (disch := omega) only [go_sem, seval]
  try repeat ((with_reducible refine And.intro ?_ ?_); focus (first | omega | assumption | exact True.intro | (show anyD _ _ = true; exact rfl) | (simp only [List.length_map, List.length_append, List.length_cons, List.length_nil, List.length_take, List.length_drop]; omega)))
  (first | refine callP.mk (sameV_c u10 u10 (by decide) (by simp [u10])) rfl ?_ | refine callQ.mk (sameV_c u10 u10 (by decide) (by simp [u10])) rfl ?_ | refine callO.rd (sameV_c u10 u10 (by decide) (by simp [u10])) rfl ?_ | refine callO.mk (sameV_c u10 u10 (by decide) (by simp [u10])) rfl ?_)
  try simp (maxSteps := 2000000) (disch := omega) only [go_sem, seval]
  try repeat ((with_reducible refine And.intro ?_ ?_); focus (first | omega | assumption | exact True.intro | (show anyD _ _ = true; exact rfl) | (simp only [List.length_map, List.length_append, List.length_cons, List.length_nil, List.length_take, List.length_drop]; omega)))
  (first | refine callP.mk (lMeet_c a10 b10 a10_sm b10_sm) rfl ?_ | refine callQ.mk (lMeet_c a10 b10 a10_sm b10_sm) rfl ?_ | refine callO.rd (lMeet_c a10 b10 a10_sm b10_sm) rfl ?_ | refine callO.mk (lMeet_c a10 b10 a10_sm b10_sm) rfl ?_)
  rw [l10m]
  try simp (maxSteps := 2000000) (disch := omega) only [go_sem, seval]
  try repeat ((with_reducible refine And.intro ?_ ?_); focus (first | omega | assumption | exact True.intro | (show anyD _ _ = true; exact rfl) | (simp only [List.length_map, List.length_append, List.length_cons, List.length_nil, List.length_take, List.length_drop]; omega)))
  (first | refine callP.mk (lMinus_c u10 a10 u10_sm a10_sm) rfl ?_ | refine callQ.mk (lMinus_c u10 a10 u10_sm a10_sm) rfl ?_ | refine callO.rd (lMinus_c u10 a10 u10_sm a10_sm) rfl ?_ | refine callO.mk (lMinus_c u10 a10 u10_sm a10_sm) rfl ?_)
  rw [l10d]
  try simp (maxSteps := 2000000) (disch := omega) only [go_sem, seval]
  try repeat ((with_reducible refine And.intro ?_ ?_); focus (first | omega | assumption | exact True.intro | (show anyD _ _ = true; exact rfl) | (simp only [List.length_map, List.length_append, List.length_cons, List.length_nil, List.length_take, List.length_drop]; omega)))
  (first | refine callP.mk (sameV_c b10 b10 (by decide) (by simp [b10])) rfl ?_ | refine callQ.mk (sameV_c b10 b10 (by decide) (by simp [b10])) rfl ?_ | refine callO.rd (sameV_c b10 b10 (by decide) (by simp [b10])) rfl ?_ | refine callO.mk (sameV_c b10 b10 (by decide) (by simp [b10])) rfl ?_)
  try simp (maxSteps := 2000000) (disch := omega) only [go_sem, seval]
  try repeat ((with_reducible refine And.intro ?_ ?_); focus (first | omega | assumption | exact True.intro | (show anyD _ _ = true; exact rfl) | (simp only [List.length_map, List.length_append, List.length_cons, List.length_nil, List.length_take, List.length_drop]; omega)))
  (first | refine callP.mk (lSubset_c a10 u10 a10_sm u10_sm) rfl ?_ | refine callQ.mk (lSubset_c a10 u10 a10_sm u10_sm) rfl ?_ | refine callO.rd (lSubset_c a10 u10 a10_sm u10_sm) rfl ?_ | refine callO.mk (lSubset_c a10 u10 a10_sm u10_sm) rfl ?_)
  rw [l10s]
  try simp (maxSteps := 2000000) (disch := omega) only [go_sem, seval]
  try repeat ((with_reducible refine And.intro ?_ ?_); focus (first | omega | assumption | exact True.intro | (show anyD _ _ = true; exact rfl) | (simp only [List.length_map, List.length_append, List.length_cons, List.length_nil, List.length_take, List.length_drop]; omega)))
  (first | refine callP.mk (lSubset_c u10 a10 u10_sm a10_sm) rfl ?_ | refine callQ.mk (lSubset_c u10 a10 u10_sm a10_sm) rfl ?_ | refine callO.rd (lSubset_c u10 a10 u10_sm a10_sm) rfl ?_ | refine callO.mk (lSubset_c u10 a10 u10_sm a10_sm) rfl ?_)
  rw [l10d, show decide (b10 = []) = false by decide]
  try simp (maxSteps := 2000000) (disch := omega) only [go_sem, seval]
  try repeat ((with_reducible refine And.intro ?_ ?_); focus (first | omega | assumption | exact True.intro | (show anyD _ _ = true; exact rfl) | (simp only [List.length_map, List.length_append, List.length_cons, List.length_nil, List.length_take, List.length_drop]; omega)))
  (first | refine callP.mk (lcount_c u10 u10_sm) rfl ?_ | refine callQ.mk (lcount_c u10 u10_sm) rfl ?_ | refine callO.rd (lcount_c u10 u10_sm) rfl ?_ | refine callO.mk (lcount_c u10 u10_sm) rfl ?_)
  rw [card10, show cw 9 = cp2 0 9 by simp [cw, M64_val]]
  try simp (maxSteps := 2000000) (disch := omega) only [go_sem, seval]
  try repeat ((with_reducible refine And.intro ?_ ?_); focus (first | omega | assumption | exact True.intro | (show anyD _ _ = true; exact rfl) | (simp only [List.length_map, List.length_append, List.length_cons, List.length_nil, List.length_take, List.length_drop]; omega)))
  (first | refine callP.mk (lAdd_c [] 3 0 nil_sm (by omega) (by omega)) rfl ?_ | refine callQ.mk (lAdd_c [] 3 0 nil_sm (by omega) (by omega)) rfl ?_ | refine callO.rd (lAdd_c [] 3 0 nil_sm (by omega) (by omega)) rfl ?_ | refine callO.mk (lAdd_c [] 3 0 nil_sm (by omega) (by omega)) rfl ?_)
  rw [l10c]
  try simp (maxSteps := 2000000) (disch := omega) only [go_sem, seval]
  try repeat ((with_reducible refine And.intro ?_ ?_); focus (first | omega | assumption | exact True.intro | (show anyD _ _ = true; exact rfl) | (simp only [List.length_map, List.length_append, List.length_cons, List.length_nil, List.length_take, List.length_drop]; omega)))
  (first | refine callP.mk (sameV_c c10 c10 (by decide) (by simp [c10])) rfl ?_ | refine callQ.mk (sameV_c c10 c10 (by decide) (by simp [c10])) rfl ?_ | refine callO.rd (sameV_c c10 c10 (by decide) (by simp [c10])) rfl ?_ | refine callO.mk (sameV_c c10 c10 (by decide) (by simp [c10])) rfl ?_)
  try simp (maxSteps := 2000000) (disch := omega) only [go_sem, seval]
  try repeat ((with_reducible refine And.intro ?_ ?_); focus (first | omega | assumption | exact True.intro | (show anyD _ _ = true; exact rfl) | (simp only [List.length_map, List.length_append, List.length_cons, List.length_nil, List.length_take, List.length_drop]; omega)))
/-- What a law knows of a vector. -/
theorem okV_get {v : List En} (h : okV v = true) (hb : BdV v) : BV 20 30 v := by
  unfold okV at h
  simp only [Bool.and_eq_true, decide_eq_true_eq] at h
  have g := fewB_iff.1 h.1
  exact ⟨(chkV_iff hb.1).1 h.2, g.2, g.1⟩
theorem BV.sm {n h : Nat} {v : List En} (hv : BV n h v) (h1 : n ≤ 1048576) (h2 : h ≤ 10000) : SmV v := ⟨hv.1, by have := hv.2.1; omega, fun e he => by have := hv.2.2 e he; omega⟩
end Go.Proofs.Ytcedofkenfddkaa
/- kenningref10: put, Do, One; the laws LatticeMatches, LatticeSubset, LatticeAdds. -/
namespace Go.Proofs.Ytcedofkenfddkaa
set_option linter.unusedVariables false
set_option linter.unusedSimpArgs false
open Go.RowKit
set_option maxRecDepth 100000
theorem put10_c (xs : List Nat) (x : Nat) (hl : (srt xs).length ≤ 4194304) : Cn Try.prog 85 [ns (srt xs), .v (.int .u64 x)] (ns (srt (xs ++ [x]))) := by
  refine cn_memL rfl (enters_of Try.func85 (by kernel_rfl) rfl) fun D w vs hG hD hsz hd => ?_
  rw [arr2 hsz, (hd 1 _ rfl).v_inv]
  refine (put_calls D xs x _ w hl (hd 0 _ rfl) hD).mono ?_
  rintro e w' ⟨v, rfl, hb, hv⟩
  exact ⟨v, rfl, hb, hv⟩
theorem srt_len2 {v : List En} {xs : List Nat} {k : Nat} (hv : v.length ≤ 1048576) (hx : xs.length ≤ 1048576) : (srt (xs ++ reps (v.take k))).length ≤ 4194304 := by
  have h1 := srt_len (xs ++ reps (v.take k))
  have h2 : (v.take k).length ≤ 1048576 := Nat.le_trans (List.length_take_le' _ _) hv
  simp only [reps, List.length_append, List.length_map] at h1 h2
  simp only [reps]
  omega
theorem reps_take {v : List En} {k : Nat} (h : k < v.length) : reps (v.take (k + 1)) = reps (v.take k) ++ [v[k].rep] := by
  unfold reps
  rw [List.take_succ_eq_append_getElem h, List.map_append]
  rfl
set_option maxHeartbeats 2000000 in
theorem do10_c (a b : List En) (op : Nat) (ho : op < 3) (ha : SmV a) (hb : SmV b) : Cn Try.prog 53 [vp a, vp b, .v (.int .i64 op)] (vp (lat (opb op) a b)) := by
  have la := ha.2.1
  have lb := hb.2.1
  have h0 : opb op false false = false := by
    match op, ho with
    | 0, _ => rfl
    | 1, _ => rfl
    | 2, _ => rfl
  refine cn_goT Try.func53 [] 3 (by kernel_rfl) rfl (by simp [go_sem, seval]) 14 (.dr [⟨(some 47), none, (.mv (.t 7))⟩, ⟨(some 48), none, (.mv (.t 11))⟩, ⟨(some 49), none, (.ia (.t 47) (.t 48) 1)⟩, ⟨(some 50), none, (.ld (.t 49) false 1)⟩, ⟨(some 51), none, (.mv (.t 0))⟩, ⟨(some 52), none, (.mv (.t 7))⟩, ⟨(some 53), none, (.mv (.t 11))⟩, ⟨(some 54), none, (.ia (.t 52) (.t 53) 1)⟩, ⟨(some 55), none, (.ld (.t 54) false 1)⟩, ⟨(some 56), none, (.ca 86 [(.t 51), (.t 55)])⟩, ⟨(some 57), none, (.mv (.t 1))⟩, ⟨(some 58), none, (.mv (.t 7))⟩, ⟨(some 59), none, (.mv (.t 11))⟩, ⟨(some 60), none, (.ia (.t 58) (.t 59) 1)⟩, ⟨(some 61), none, (.ld (.t 60) false 1)⟩, ⟨(some 62), none, (.ca 86 [(.t 57), (.t 61)])⟩, ⟨(some 63), none, (.mv (.t 2))⟩, ⟨(some 64), none, (.ca 67 [(.t 56), (.t 62), (.t 63)])⟩, ⟨(some 65), none, (.ca 79 [(.t 50), (.t 64)])⟩, ⟨(some 46), none, (.mv (.t 65))⟩, ⟨(some 66), none, (.ex (.t 46) 0)⟩, ⟨(some 67), none, (.ex (.t 46) 1)⟩] [⟨(some 12), none, (.al [(.v (.int .u64 0)), (.v (.int .u64 0)), (.sl [] .sh)])⟩, ⟨none, none, (.st (.t 12) (.t 66) 3)⟩, ⟨(some 13), none, (.mv (.t 67))⟩]) rfl (by kernel_rfl) ?_
  conv => enter [4, 6]; (unfold codeOf; simp only [Try.f53])
  simp only [pcT, Nat.reduceEqDiff, if_false, if_true, reduceIte]
  repeat (conv in (leafC _ _ _ _ _ _) => cbv)
  repeat (conv in (leafP _) => cbv)
  conv => enter [5, 1]; cbv
  try simp (maxSteps := 2000000) (disch := omega) only [go_sem, seval]
  try repeat ((with_reducible refine And.intro ?_ ?_); focus (first | omega | assumption | exact True.intro | (show anyD _ _ = true; exact rfl) | (simp only [List.length_map, List.length_append, List.length_cons, List.length_nil, List.length_take, List.length_drop]; omega)))
  refine pLoop.go (fun k => k ≤ a.length) (fun k => [(7, ns (srt ([] ++ reps (a.take k)))), (8, .v (.int .i64 (k : Nat)))]) (fun _ => []) (fun k => a.length - k) 0 [7, 8] ?_ ?_ ?_
  · exact Nat.zero_le _
  · simp only [List.take_zero, reps, List.map_nil, List.append_nil, srt_nil]
    try simp (maxSteps := 2000000) (disch := omega) only [go_sem, seval]
    try repeat ((with_reducible refine And.intro ?_ ?_); focus (first | omega | assumption | exact True.intro | (show anyD _ _ = true; exact rfl) | (simp only [List.length_map, List.length_append, List.length_cons, List.length_nil, List.length_take, List.length_drop]; omega)))
  · rintro k hk
    try simp (maxSteps := 2000000) (disch := omega) only [go_sem, seval]
    try repeat ((with_reducible refine And.intro ?_ ?_); focus (first | omega | assumption | exact True.intro | (show anyD _ _ = true; exact rfl) | (simp only [List.length_map, List.length_append, List.length_cons, List.length_nil, List.length_take, List.length_drop]; omega)))
    (first | refine brP.mk (fun h => ?_) (fun h => ?_) | refine gdP.mkt (fun h => ?_) (fun h => ?_) | refine gdP.mkf (fun h => ?_) (fun h => ?_) | refine pkP.mk (fun h => ?_) (fun h => ?_)) <;> (try simp only [Bool.not_true, Bool.not_false, decide_eq_true_eq, decide_eq_false_iff_not, Bool.and_eq_true, Bool.or_eq_true, Bool.not_eq_true', Bool.not_eq_false', Bool.and_eq_false_iff, Bool.or_eq_false_iff, Nat.not_lt, Int.not_lt, Nat.not_le, Int.not_le, Int.ofNat_lt, Int.ofNat_le, Int.ofNat_inj, Bool.xor_false, Bool.false_xor, Bool.true_xor, Bool.xor_true] at h) <;> (try simp (maxSteps := 2000000) (disch := omega) only [go_sem, seval]) <;> (try repeat ((with_reducible refine And.intro ?_ ?_); focus (first | omega | assumption | exact True.intro | (show anyD _ _ = true; exact rfl) | (simp only [List.length_map, List.length_append, List.length_cons, List.length_nil, List.length_take, List.length_drop]; omega))))
    · (first | refine callP.mk (put10_c ([] ++ reps (a.take k)) a[k].rep (srt_len2 (xs := []) la (by simp))) rfl ?_ | refine callQ.mk (put10_c ([] ++ reps (a.take k)) a[k].rep (srt_len2 (xs := []) la (by simp))) rfl ?_ | refine callO.rd (put10_c ([] ++ reps (a.take k)) a[k].rep (srt_len2 (xs := []) la (by simp))) rfl ?_ | refine callO.mk (put10_c ([] ++ reps (a.take k)) a[k].rep (srt_len2 (xs := []) la (by simp))) rfl ?_)
      try simp (maxSteps := 2000000) (disch := omega) only [go_sem, seval]
      try repeat ((with_reducible refine And.intro ?_ ?_); focus (first | omega | assumption | exact True.intro | (show anyD _ _ = true; exact rfl) | (simp only [List.length_map, List.length_append, List.length_cons, List.length_nil, List.length_take, List.length_drop]; omega)))
      refine ⟨k + 1, h, by omega, ?_, rfl⟩
      rw [reps_take h]
    · rw [show k = a.length by omega, List.take_length]
      refine pLoop.go (fun k => k ≤ b.length) (fun k => [(7, ns (srt (reps a ++ reps (b.take k)))), (9, .v (.int .i64 (k : Nat)))]) (fun _ => []) (fun k => b.length - k) 0 [7, 9] ?_ ?_ ?_
      · exact Nat.zero_le _
      · simp only [List.take_zero, reps, List.map_nil, List.append_nil]
        try simp (maxSteps := 2000000) (disch := omega) only [go_sem, seval]
        try repeat ((with_reducible refine And.intro ?_ ?_); focus (first | omega | assumption | exact True.intro | (show anyD _ _ = true; exact rfl) | (simp only [List.length_map, List.length_append, List.length_cons, List.length_nil, List.length_take, List.length_drop]; omega)))
      · rintro k hk
        try simp (maxSteps := 2000000) (disch := omega) only [go_sem, seval]
        try repeat ((with_reducible refine And.intro ?_ ?_); focus (first | omega | assumption | exact True.intro | (show anyD _ _ = true; exact rfl) | (simp only [List.length_map, List.length_append, List.length_cons, List.length_nil, List.length_take, List.length_drop]; omega)))
        (first | refine brP.mk (fun h2 => ?_) (fun h2 => ?_) | refine gdP.mkt (fun h2 => ?_) (fun h2 => ?_) | refine gdP.mkf (fun h2 => ?_) (fun h2 => ?_) | refine pkP.mk (fun h2 => ?_) (fun h2 => ?_)) <;> (try simp only [Bool.not_true, Bool.not_false, decide_eq_true_eq, decide_eq_false_iff_not, Bool.and_eq_true, Bool.or_eq_true, Bool.not_eq_true', Bool.not_eq_false', Bool.and_eq_false_iff, Bool.or_eq_false_iff, Nat.not_lt, Int.not_lt, Nat.not_le, Int.not_le, Int.ofNat_lt, Int.ofNat_le, Int.ofNat_inj, Bool.xor_false, Bool.false_xor, Bool.true_xor, Bool.xor_true] at h2) <;> (try simp (maxSteps := 2000000) (disch := omega) only [go_sem, seval]) <;> (try repeat ((with_reducible refine And.intro ?_ ?_); focus (first | omega | assumption | exact True.intro | (show anyD _ _ = true; exact rfl) | (simp only [List.length_map, List.length_append, List.length_cons, List.length_nil, List.length_take, List.length_drop]; omega))))
        · (first | refine callP.mk (put10_c (reps a ++ reps (b.take k)) b[k].rep (srt_len2 (xs := reps a) lb (by simp [reps]; omega))) rfl ?_ | refine callQ.mk (put10_c (reps a ++ reps (b.take k)) b[k].rep (srt_len2 (xs := reps a) lb (by simp [reps]; omega))) rfl ?_ | refine callO.rd (put10_c (reps a ++ reps (b.take k)) b[k].rep (srt_len2 (xs := reps a) lb (by simp [reps]; omega))) rfl ?_ | refine callO.mk (put10_c (reps a ++ reps (b.take k)) b[k].rep (srt_len2 (xs := reps a) lb (by simp [reps]; omega))) rfl ?_)
          try simp (maxSteps := 2000000) (disch := omega) only [go_sem, seval]
          try repeat ((with_reducible refine And.intro ?_ ?_); focus (first | omega | assumption | exact True.intro | (show anyD _ _ = true; exact rfl) | (simp only [List.length_map, List.length_append, List.length_cons, List.length_nil, List.length_take, List.length_drop]; omega)))
          refine ⟨k + 1, h2, by omega, ?_, rfl⟩
          rw [reps_take h2, List.append_assoc]
        · rw [show k = b.length by omega, List.take_length]
          obtain ⟨L, hL⟩ : ∃ L, L = srt (reps a ++ reps b) := ⟨_, rfl⟩
          have hll : L.length ≤ 2097152 := by
            have h1 := srt_len (reps a ++ reps b)
            simp only [reps, List.length_append, List.length_map] at h1
            rw [hL]
            simp only [reps]
            omega
          have hlm : ∀ r ∈ L, r < M64 := by rw [hL]; exact rep_lt ha.1 hb.1
          have hlat : lat (opb op) a b = L.filterMap (latO (opb op) a b) := by rw [hL]; rfl
          rw [← hL, hlat]
          clear hlat hL
          refine pLoop.go (fun k => k ≤ L.length) (fun k => [(10, .sl (((L.take k).filterMap (latO (opb op) a b)).map ec) (.r 72 3)), (11, .v (.int .i64 (k : Nat)))]) (fun _ => []) (fun k => L.length - k) 0 [10, 11, 72] ?_ ?_ ?_
          · exact Nat.zero_le _
          · simp only [List.take_zero, List.filterMap_nil, List.map_nil]
            try simp (maxSteps := 2000000) (disch := omega) only [go_sem, seval]
            try repeat ((with_reducible refine And.intro ?_ ?_); focus (first | omega | assumption | exact True.intro | (show anyD _ _ = true; exact rfl) | (simp only [List.length_map, List.length_append, List.length_cons, List.length_nil, List.length_take, List.length_drop]; omega)))
          · rintro k hk
            have hfl : ((L.take k).filterMap (latO (opb op) a b)).length ≤ k := Nat.le_trans (List.length_filterMap_le _ _) (by simp; omega)
            try simp (maxSteps := 2000000) (disch := omega) only [go_sem, seval]
            try repeat ((with_reducible refine And.intro ?_ ?_); focus (first | omega | assumption | exact True.intro | (show anyD _ _ = true; exact rfl) | (simp only [List.length_map, List.length_append, List.length_cons, List.length_nil, List.length_take, List.length_drop]; omega)))
            (first | refine brP.mk (fun h3 => ?_) (fun h3 => ?_) | refine gdP.mkt (fun h3 => ?_) (fun h3 => ?_) | refine gdP.mkf (fun h3 => ?_) (fun h3 => ?_) | refine pkP.mk (fun h3 => ?_) (fun h3 => ?_)) <;> (try simp only [Bool.not_true, Bool.not_false, decide_eq_true_eq, decide_eq_false_iff_not, Bool.and_eq_true, Bool.or_eq_true, Bool.not_eq_true', Bool.not_eq_false', Bool.and_eq_false_iff, Bool.or_eq_false_iff, Nat.not_lt, Int.not_lt, Nat.not_le, Int.not_le, Int.ofNat_lt, Int.ofNat_le, Int.ofNat_inj, Bool.xor_false, Bool.false_xor, Bool.true_xor, Bool.xor_true] at h3) <;> (try simp (maxSteps := 2000000) (disch := omega) only [go_sem, seval]) <;> (try repeat ((with_reducible refine And.intro ?_ ?_); focus (first | omega | assumption | exact True.intro | (show anyD _ _ = true; exact rfl) | (simp only [List.length_map, List.length_append, List.length_cons, List.length_nil, List.length_take, List.length_drop]; omega))))
            · have ka := knV_sm ha L[k]
              have kb := knV_sm hb L[k]
              have hol : (opS (opb op) (knV a L[k]) (knV b L[k])).length ≤ 80100 := by
                have h1 := opS_length (opb op) (knV a L[k]) (knV b L[k])
                omega
              have hof := of7_c L[k] (opS (opb op) (knV a L[k]) (knV b L[k])) (opS_nrm ka.1 kb.1) (by omega)
              have hst := fm_step (f := opb op) (a := a) (b := b) h3
              obtain ⟨e, ok, hE⟩ : ∃ e ok, ofS L[k] (opS (opb op) (knV a L[k]) (knV b L[k])) = (e, ok) := ⟨_, _, rfl⟩
              rw [latO_eq hE] at hst
              rw [hE] at hof
              (first | refine callP.mk (refKnown10_c a L[k] ha) rfl ?_ | refine callQ.mk (refKnown10_c a L[k] ha) rfl ?_ | refine callO.rd (refKnown10_c a L[k] ha) rfl ?_ | refine callO.mk (refKnown10_c a L[k] ha) rfl ?_)
              try simp (maxSteps := 2000000) (disch := omega) only [go_sem, seval]
              try repeat ((with_reducible refine And.intro ?_ ?_); focus (first | omega | assumption | exact True.intro | (show anyD _ _ = true; exact rfl) | (simp only [List.length_map, List.length_append, List.length_cons, List.length_nil, List.length_take, List.length_drop]; omega)))
              (first | refine callP.mk (refKnown10_c b L[k] hb) rfl ?_ | refine callQ.mk (refKnown10_c b L[k] hb) rfl ?_ | refine callO.rd (refKnown10_c b L[k] hb) rfl ?_ | refine callO.mk (refKnown10_c b L[k] hb) rfl ?_)
              try simp (maxSteps := 2000000) (disch := omega) only [go_sem, seval]
              try repeat ((with_reducible refine And.intro ?_ ?_); focus (first | omega | assumption | exact True.intro | (show anyD _ _ = true; exact rfl) | (simp only [List.length_map, List.length_append, List.length_cons, List.length_nil, List.length_take, List.length_drop]; omega)))
              (first | refine callP.mk (do_c (knV a L[k]) (knV b L[k]) op ka.1 kb.1 ho (by omega) (by omega)) rfl ?_ | refine callQ.mk (do_c (knV a L[k]) (knV b L[k]) op ka.1 kb.1 ho (by omega) (by omega)) rfl ?_ | refine callO.rd (do_c (knV a L[k]) (knV b L[k]) op ka.1 kb.1 ho (by omega) (by omega)) rfl ?_ | refine callO.mk (do_c (knV a L[k]) (knV b L[k]) op ka.1 kb.1 ho (by omega) (by omega)) rfl ?_)
              try simp (maxSteps := 2000000) (disch := omega) only [go_sem, seval]
              try repeat ((with_reducible refine And.intro ?_ ?_); focus (first | omega | assumption | exact True.intro | (show anyD _ _ = true; exact rfl) | (simp only [List.length_map, List.length_append, List.length_cons, List.length_nil, List.length_take, List.length_drop]; omega)))
              cases ok with
              | true =>
                (first | refine callP.mk (hof) rfl ?_ | refine callQ.mk (hof) rfl ?_ | refine callO.rd (hof) rfl ?_ | refine callO.mk (hof) rfl ?_)
                try simp (maxSteps := 2000000) (disch := omega) only [go_sem, seval]
                try repeat ((with_reducible refine And.intro ?_ ?_); focus (first | omega | assumption | exact True.intro | (show anyD _ _ = true; exact rfl) | (simp only [List.length_map, List.length_append, List.length_cons, List.length_nil, List.length_take, List.length_drop]; omega)))
                refine ⟨k + 1, h3, by omega, ?_, rfl⟩
                rw [hst]
                simp
                rfl
              | false =>
                (first | refine callP.mk (hof) rfl ?_ | refine callQ.mk (hof) rfl ?_ | refine callO.rd (hof) rfl ?_ | refine callO.mk (hof) rfl ?_)
                try simp (maxSteps := 2000000) (disch := omega) only [go_sem, seval]
                try repeat ((with_reducible refine And.intro ?_ ?_); focus (first | omega | assumption | exact True.intro | (show anyD _ _ = true; exact rfl) | (simp only [List.length_map, List.length_append, List.length_cons, List.length_nil, List.length_take, List.length_drop]; omega)))
                refine ⟨k + 1, h3, by omega, ?_, rfl⟩
                rw [hst]
                simp
            · rw [show k = L.length by omega, List.take_length]
theorem one10_c (r c : Nat) (hc : c < M64) : Cn Try.prog 61 [.v (.int .u64 r), .v (.int .u64 c)] (vp (oneV r c)) := by
  refine cn_go Try.func61 [] 2 (by kernel_rfl) rfl (by simp [go_sem, seval]) ?_
  conv => arg 4; cbv
  conv => enter [5, 1]; cbv
  try simp (maxSteps := 2000000) (disch := omega) only [go_sem, seval]
  try repeat ((with_reducible refine And.intro ?_ ?_); focus (first | omega | assumption | exact True.intro | (show anyD _ _ = true; exact rfl) | (simp only [List.length_map, List.length_append, List.length_cons, List.length_nil, List.length_take, List.length_drop]; omega)))
  (first | refine callP.mk (of7_c r [⟨c, c⟩] (oneC_nrm hc) (by simp)) rfl ?_ | refine callQ.mk (of7_c r [⟨c, c⟩] (oneC_nrm hc) (by simp)) rfl ?_ | refine callO.rd (of7_c r [⟨c, c⟩] (oneC_nrm hc) (by simp)) rfl ?_ | refine callO.mk (of7_c r [⟨c, c⟩] (oneC_nrm hc) (by simp)) rfl ?_)
  try simp (maxSteps := 2000000) (disch := omega) only [go_sem, seval]
  try repeat ((with_reducible refine And.intro ?_ ?_); focus (first | omega | assumption | exact True.intro | (show anyD _ _ = true; exact rfl) | (simp only [List.length_map, List.length_append, List.length_cons, List.length_nil, List.length_take, List.length_drop]; omega)))
  rfl
theorem SmV.g {v : List En} (h : SmV v) : v.length ≤ 1152921504606846976 ∧ ∀ e ∈ v, e.holes.length ≤ 1152921504606846976 := ⟨by have := h.2.1; omega, fun e he => by have := h.2.2 e he; omega⟩
set_option maxHeartbeats 2000000 in
theorem latAdds_c (v : List En) (r c : Nat) (hv : BdV v) (hr : r < M64) (hc : c < M64) : Cn Try.prog 17 [vp v, .v (.int .u64 r), .v (.int .u64 c)] (.v (.bool true)) := by
  refine cn_go Try.func17 [] 3 (by kernel_rfl) rfl (by simp [go_sem, seval]) ?_
  conv => arg 4; cbv
  conv => enter [5, 1]; cbv
  try simp (maxSteps := 2000000) (disch := omega) only [go_sem, seval]
  try repeat ((with_reducible refine And.intro ?_ ?_); focus (first | omega | assumption | exact True.intro | (show anyD _ _ = true; exact rfl) | (simp only [List.length_map, List.length_append, List.length_cons, List.length_nil, List.length_take, List.length_drop]; omega)))
  (first | refine callP.mk (right10_c [v] (by simp) (by simpa using hv)) rfl ?_ | refine callQ.mk (right10_c [v] (by simp) (by simpa using hv)) rfl ?_ | refine callO.rd (right10_c [v] (by simp) (by simpa using hv)) rfl ?_ | refine callO.mk (right10_c [v] (by simp) (by simpa using hv)) rfl ?_)
  try simp (maxSteps := 2000000) (disch := omega) only [go_sem, seval]
  try repeat ((with_reducible refine And.intro ?_ ?_); focus (first | omega | assumption | exact True.intro | (show anyD _ _ = true; exact rfl) | (simp only [List.length_map, List.length_append, List.length_cons, List.length_nil, List.length_take, List.length_drop]; omega)))
  (first | refine brP.mk (fun h => ?_) (fun h => ?_) | refine gdP.mkt (fun h => ?_) (fun h => ?_) | refine gdP.mkf (fun h => ?_) (fun h => ?_) | refine pkP.mk (fun h => ?_) (fun h => ?_)) <;> (try simp only [Bool.not_true, Bool.not_false, decide_eq_true_eq, decide_eq_false_iff_not, Bool.and_eq_true, Bool.or_eq_true, Bool.not_eq_true', Bool.not_eq_false', Bool.and_eq_false_iff, Bool.or_eq_false_iff, Nat.not_lt, Int.not_lt, Nat.not_le, Int.not_le, Int.ofNat_lt, Int.ofNat_le, Int.ofNat_inj, Bool.xor_false, Bool.false_xor, Bool.true_xor, Bool.xor_true] at h) <;> (try simp (maxSteps := 2000000) (disch := omega) only [go_sem, seval]) <;> (try repeat ((with_reducible refine And.intro ?_ ?_); focus (first | omega | assumption | exact True.intro | (show anyD _ _ = true; exact rfl) | (simp only [List.length_map, List.length_append, List.length_cons, List.length_nil, List.length_take, List.length_drop]; omega))))
  · (first | refine callP.mk (alive10_c) rfl ?_ | refine callQ.mk (alive10_c) rfl ?_ | refine callO.rd (alive10_c) rfl ?_ | refine callO.mk (alive10_c) rfl ?_)
    try simp (maxSteps := 2000000) (disch := omega) only [go_sem, seval]
    try repeat ((with_reducible refine And.intro ?_ ?_); focus (first | omega | assumption | exact True.intro | (show anyD _ _ = true; exact rfl) | (simp only [List.length_map, List.length_append, List.length_cons, List.length_nil, List.length_take, List.length_drop]; omega)))
  · have h : okV v = true := by simpa using h
    have va := okV_get h hv
    have vo := oneV_bv hr hc
    have sa := va.sm (by omega) (by omega)
    have so := oneV_sm hr hc
    have su := (lat_bv (f := fUnion) va vo).sm (by omega) (by omega)
    have ku := lat_can fUnion va.1 vo.1
    have eh := add_has va.1 hr hc
    have et := add_twice va.1 vo.1
    (first | refine callP.mk (one10_c r c hc) rfl ?_ | refine callQ.mk (one10_c r c hc) rfl ?_ | refine callO.rd (one10_c r c hc) rfl ?_ | refine callO.mk (one10_c r c hc) rfl ?_)
    try simp (maxSteps := 2000000) (disch := omega) only [go_sem, seval]
    try repeat ((with_reducible refine And.intro ?_ ?_); focus (first | omega | assumption | exact True.intro | (show anyD _ _ = true; exact rfl) | (simp only [List.length_map, List.length_append, List.length_cons, List.length_nil, List.length_take, List.length_drop]; omega)))
    (first | refine callP.mk (lAdd_c v r c sa hr hc) rfl ?_ | refine callQ.mk (lAdd_c v r c sa hr hc) rfl ?_ | refine callO.rd (lAdd_c v r c sa hr hc) rfl ?_ | refine callO.mk (lAdd_c v r c sa hr hc) rfl ?_)
    try simp (maxSteps := 2000000) (disch := omega) only [go_sem, seval]
    try repeat ((with_reducible refine And.intro ?_ ?_); focus (first | omega | assumption | exact True.intro | (show anyD _ _ = true; exact rfl) | (simp only [List.length_map, List.length_append, List.length_cons, List.length_nil, List.length_take, List.length_drop]; omega)))
    (first | refine callP.mk (alive10_c) rfl ?_ | refine callQ.mk (alive10_c) rfl ?_ | refine callO.rd (alive10_c) rfl ?_ | refine callO.mk (alive10_c) rfl ?_)
    try simp (maxSteps := 2000000) (disch := omega) only [go_sem, seval]
    try repeat ((with_reducible refine And.intro ?_ ?_); focus (first | omega | assumption | exact True.intro | (show anyD _ _ = true; exact rfl) | (simp only [List.length_map, List.length_append, List.length_cons, List.length_nil, List.length_take, List.length_drop]; omega)))
    (first | refine callP.mk (do10_c v (oneV r c) 0 (by omega) sa so) rfl ?_ | refine callQ.mk (do10_c v (oneV r c) 0 (by omega) sa so) rfl ?_ | refine callO.rd (do10_c v (oneV r c) 0 (by omega) sa so) rfl ?_ | refine callO.mk (do10_c v (oneV r c) 0 (by omega) sa so) rfl ?_)
    try simp (maxSteps := 2000000) (disch := omega) only [go_sem, seval]
    try repeat ((with_reducible refine And.intro ?_ ?_); focus (first | omega | assumption | exact True.intro | (show anyD _ _ = true; exact rfl) | (simp only [List.length_map, List.length_append, List.length_cons, List.length_nil, List.length_take, List.length_drop]; omega)))
    rw [opb0]
    (first | refine callP.mk (sameV_c (lat fUnion v (oneV r c)) (lat fUnion v (oneV r c)) su.g.1 su.g.2) rfl ?_ | refine callQ.mk (sameV_c (lat fUnion v (oneV r c)) (lat fUnion v (oneV r c)) su.g.1 su.g.2) rfl ?_ | refine callO.rd (sameV_c (lat fUnion v (oneV r c)) (lat fUnion v (oneV r c)) su.g.1 su.g.2) rfl ?_ | refine callO.mk (sameV_c (lat fUnion v (oneV r c)) (lat fUnion v (oneV r c)) su.g.1 su.g.2) rfl ?_)
    try simp (maxSteps := 2000000) (disch := omega) only [go_sem, seval]
    try repeat ((with_reducible refine And.intro ?_ ?_); focus (first | omega | assumption | exact True.intro | (show anyD _ _ = true; exact rfl) | (simp only [List.length_map, List.length_append, List.length_cons, List.length_nil, List.length_take, List.length_drop]; omega)))
    (first | refine callP.mk (vhas_c (lat fUnion v (oneV r c)) r c ku.right hc su.g.1 su.g.2) rfl ?_ | refine callQ.mk (vhas_c (lat fUnion v (oneV r c)) r c ku.right hc su.g.1 su.g.2) rfl ?_ | refine callO.rd (vhas_c (lat fUnion v (oneV r c)) r c ku.right hc su.g.1 su.g.2) rfl ?_ | refine callO.mk (vhas_c (lat fUnion v (oneV r c)) r c ku.right hc su.g.1 su.g.2) rfl ?_)
    rw [eh]
    try simp (maxSteps := 2000000) (disch := omega) only [go_sem, seval]
    try repeat ((with_reducible refine And.intro ?_ ?_); focus (first | omega | assumption | exact True.intro | (show anyD _ _ = true; exact rfl) | (simp only [List.length_map, List.length_append, List.length_cons, List.length_nil, List.length_take, List.length_drop]; omega)))
    (first | refine callP.mk (lAdd_c (lat fUnion v (oneV r c)) r c su hr hc) rfl ?_ | refine callQ.mk (lAdd_c (lat fUnion v (oneV r c)) r c su hr hc) rfl ?_ | refine callO.rd (lAdd_c (lat fUnion v (oneV r c)) r c su hr hc) rfl ?_ | refine callO.mk (lAdd_c (lat fUnion v (oneV r c)) r c su hr hc) rfl ?_)
    rw [et]
    try simp (maxSteps := 2000000) (disch := omega) only [go_sem, seval]
    try repeat ((with_reducible refine And.intro ?_ ?_); focus (first | omega | assumption | exact True.intro | (show anyD _ _ = true; exact rfl) | (simp only [List.length_map, List.length_append, List.length_cons, List.length_nil, List.length_take, List.length_drop]; omega)))
    (first | refine callP.mk (sameV_c (lat fUnion v (oneV r c)) (lat fUnion v (oneV r c)) su.g.1 su.g.2) rfl ?_ | refine callQ.mk (sameV_c (lat fUnion v (oneV r c)) (lat fUnion v (oneV r c)) su.g.1 su.g.2) rfl ?_ | refine callO.rd (sameV_c (lat fUnion v (oneV r c)) (lat fUnion v (oneV r c)) su.g.1 su.g.2) rfl ?_ | refine callO.mk (sameV_c (lat fUnion v (oneV r c)) (lat fUnion v (oneV r c)) su.g.1 su.g.2) rfl ?_)
    try simp (maxSteps := 2000000) (disch := omega) only [go_sem, seval]
    try repeat ((with_reducible refine And.intro ?_ ?_); focus (first | omega | assumption | exact True.intro | (show anyD _ _ = true; exact rfl) | (simp only [List.length_map, List.length_append, List.length_cons, List.length_nil, List.length_take, List.length_drop]; omega)))
end Go.Proofs.Ytcedofkenfddkaa
