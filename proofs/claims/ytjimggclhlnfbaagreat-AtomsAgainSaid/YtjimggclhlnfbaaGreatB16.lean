import Derived.Test.YtjimggclhlnfbaaGreatB15
set_option linter.unusedVariables false
set_option linter.unusedSimpArgs false
set_option maxRecDepth 100000
namespace Go.Proofs.YtjimggclhlnfbaaGreat
open Go.RowKit Go.Maps
attribute [-go_sem] nat_succ
theorem ns_inv {D : Nat -> Nat -> Prop} {w : World} {v : Value} {l : List Nat} (h : Dat D w v (ns l)) : ∃ ad cap, v = .slice ad l.length cap /\ l.length <= cap /\ cap <= maxLen /\ (l ≠ [] -> ∃ b off, ad = some ⟨b, off, none⟩ /\ ∀ j (hj : j < l.length), D b (off + j) /\ w.cell? ⟨b, off + j, none⟩ = some (.int .u64 (l[j] : Nat))) := by
 unfold ns at h
 generalize he : l.map natc = es at h
 cases h with
 | sl a cap sz es o b off u hc hz hm ha hsz hd hx =>
   have hl : es.length = l.length := by rw [<- he]; simp
   refine ⟨a, cap, by rw [hl], by omega, hm, fun hne => ?_⟩
   have hpos : 0 < l.length := List.length_pos_iff.2 hne
   have g : ∀ i (h : i < l.length), es[i]? = some (natc l[i]) := fun i h => by rw [<- he]; exact map_at h
   obtain rfl : 1 = sz := hsz 0 _ (g 0 hpos)
   have hes : es ≠ [] := by intro e; subst e; simp at hl; omega
   refine ⟨b, off, ha hes, fun j hj => ?_⟩
   have e0 := (hx j _ 0 _ (g j hj) rfl).v_inv
   obtain ⟨d1, d2, _⟩ := hd (j * 1 + 0) (by omega)
   rw [e0] at d2
   simp only [Nat.mul_one, Nat.add_zero] at d1 d2
   exact ⟨d1, d2⟩
theorem run_append_nil0 {P : Program} (w : World) (t ty e : TypeId) (i : TypeInfo) (ht : P.underlying t = some (.slice e)) (hi : P.info? e = some i) (ba : Option Addr) (n cp c : Nat) (hn : n <= cp) :
 (Builtin.append_ #[t, t] ty #[.slice ba n cp, .slice none 0 c]).run P w = .ok (.slice ba n cp) w := by
 cases ba <;> simp [Builtin.append_, run_underlying ht, sizeOf, typeInfo, hi, Builtin.lenOf, Builtin.firstCells, hn, storeCells]
theorem run_app_u (w : World) (t ty : TypeId) (ht : Tryz.prog.underlying t = some (.slice 28)) (base : Nat) (v : Value) (n : Nat) (xs : List Value) (hown : w.ownsRow base 28 1 v n xs) (ad : Option Addr) (m c : Nat) (news : List Value) (hl : news.length = m)
 (hnews : (m = 0 /\ ad = none) \/ ∃ a, ad = some a /\ ∀ j u, news[j]? = some u -> w.cell? (a.add j) = some u) (h1 : ∀ u ∈ news, u.oneCell' = true) (h63 : n + m <= 17179869184) (hbase : base <= w.heap.size) :
 ∃ v' w', (Builtin.append_ #[t, t] ty #[v, .slice ad m c]).run Tryz.prog w = .ok v' w' /\ w'.ownsRow base 28 1 v' (n + m) (xs ++ news) /\ w.grownBy w' v.ownBlock /\ (v'.ownBlock = v.ownBlock \/ v'.ownBlock = some w.heap.size) := by
 obtain ⟨i0, hi0, hz0, hz1, hz2⟩ := info_parts infoU
 rcases hnews with ⟨rfl, rfl⟩ | ⟨a, rfl, hn⟩
 ·obtain rfl : news = [] := List.length_eq_zero_iff.1 hl
  obtain ⟨ba, cp, rfl, hcp⟩ : ∃ ba cp, v = .slice ba n cp /\ n <= cp := by
   rcases hown.2 with ⟨rfl, rfl⟩ | ⟨g, cap, cur, rfl, _, _, h, _⟩
   ·exact ⟨none, 0, rfl, Nat.le_refl _⟩
   ·exact ⟨_, _, rfl, h⟩
  exact ⟨_, w, run_append_nil0 w t ty _ i0 ht hi0 ba n cp c hcp, by simpa using hown, grown_refl _ _, .inl rfl⟩
 ·obtain ⟨v', w', r1, r2, r3, _, r5⟩ := run_append_own_at (P := Tryz.prog) w base t ty 28 i0 _ 1 8 ht hi0 hz0 hz1 hz2 rfl (by decide) v n xs hown a m c news (by simpa using hl) hn h1 (by unfold maxLen; omega) (by omega) hbase
  exact ⟨v', w', r1, r2, r3, r5⟩
theorem step_app {ops : Array Oper} {o : Oper} {a : Act} {w : World} {K : Act -> World -> Prop} {Q : Exit -> Act -> World -> Prop} {E : Prop} (s x : Operand) (t : TypeId) (hgd : o.guard = none)
 (ho : o.op = .call { callee := .builtin .append, args := #[s, x], argTypes := #[t, t] }) (ht : Tryz.prog.underlying t = some (.slice 28)) (base : Nat) (v : Value) (n : Nat) (xs : List Value) (hs : a.eval s = v) (hown : w.ownsRow base 28 1 v n xs)
 (ad : Option Addr) (m c : Nat) (news : List Value) (hx : a.eval x = .slice ad m c) (hl : news.length = m) (hnews : (m = 0 /\ ad = none) \/ ∃ a, ad = some a /\ ∀ j u, news[j]? = some u -> w.cell? (a.add j) = some u) (h1 : ∀ u ∈ news, u.oneCell' = true) (h63 : n + m <= 17179869184) (hbase : base <= w.heap.size)
 (h : ∀ v' w', w'.ownsRow base 28 1 v' (n + m) (xs ++ news) -> w.grownBy w' v.ownBlock -> (v'.ownBlock = v.ownBlock \/ v'.ownBlock = some w.heap.size) -> K (a.put o.dst v') w') : if Region.wanted o (yielded ops a.tmps) = true then Oper.wp Tryz.prog o a w K Q else E := by
 have hw : Region.wanted o (yielded ops a.tmps) = true := by simp [Region.wanted, hgd]
 rw [if_pos hw]
 obtain ⟨v', w', hr, h2, h3, h4⟩ := run_app_u w t o.type ht base v n xs hown ad m c news hl hnews h1 h63 hbase
 unfold Oper.wp execOp
 simp only [ho, resolve, invoke, builtin, Sem.run_bind, Sem.run_pure, Result.andThen_ok, List.map_toArray, List.map_cons, List.map_nil, hs, hx, hr]
 exact h v' w' h2 h3 h4
theorem own_e0 {w : World} {base A : Nat} (hA : base <= A) (h : w.heap[A]? = some (.cells #[] 28 (0, 0))) : w.ownsRow base 28 1 (.slice (some ⟨A, 0, none⟩) 0 0) 0 [] := ⟨rfl, .inr ⟨A, 0, #[], rfl, hA, h, Nat.le_refl _, Nat.zero_le _, rfl, rfl⟩⟩
theorem h_new1 (w : World) (o o' : Obj) : ((w.alloc o).alloc o').heap[w.heap.size]? = some o := (Below.heap_alloc _ _ _ (by simp)).trans (World.alloc_heap_new w o)
theorem h_new2 (w : World) (o o' : Obj) : ((w.alloc o).alloc o').heap[w.heap.size + 1]? = some o' := by
 have := World.alloc_heap_new (w.alloc o) o'
 rwa [World.size_alloc] at this
theorem bel1 (w : World) (o : Obj) : Below w.heap.size w (w.drew.alloc o) := ⟨rfl, rfl, rfl, by simp, fun k hk => Below.heap_alloc w.drew _ _ hk⟩
theorem bel2 (w : World) (o o' : Obj) : Below w.heap.size w ((w.drew.alloc o).alloc o') := (bel1 w o).alloc (by simp) _
set_option maxHeartbeats 4000000 in
theorem put_calls (C : Nat -> Nat -> Prop) (xs : List Nat) (x : Nat) (va : Value) (w : World) (hl : (srt xs).length <= 4194304) (hd : Dat C w va (ns (srt xs))) (hC : ∀ b o, C b o -> b < w.heap.size) :
 Calls Tryz.prog 95 #[va, .int .u64 (x : Nat)] w fun e w' => ∃ v, e = .returned v /\ Below w.heap.size w w' /\ Dat (fun b o => C b o \/ (w.heap.size <= b /\ b < w'.heap.size)) w' v (ns (srt (xs ++ [x]))) := by
 obtain ⟨l, hls⟩ : ∃ l, l = srt xs := ⟨_, rfl⟩
 have HD := Lib.hid hd
 rw [<- hls] at hl hd
 have HLS := Lib.hid hls
 obtain ⟨ad, cap, rfl, hcap, hcm, hcl⟩ := ns_inv hd
 have HCL := Lib.hid hcl
 clear hd hls hcl
 unfold maxLen at hcm
 go_enter Tryz.func95, Tryz.ntmps95
 go_wp2_with fail
 go_loopg [5] l.length (fun g y wr => wr = w /\ ∃ k, k <= l.length /\ g = l.length - k /\ y = .int .i64 k /\ ∀ j, (h : j < l.length) -> j < k -> l[j] < x)
 case atStart => exact ⟨rfl, 0, Nat.zero_le _, rfl, rfl, fun j _ h => absurd h (by omega)⟩
 case round =>
  obtain ⟨rfl, k, hk, rfl, rfl, hj⟩ := hrel
  have HJ := Lib.hid hj
  clear hj
  by_cases hlt : k < l.length
  ·obtain ⟨b, off, rfl, hcells⟩ := HCL.out (fun e => by rw [e] at hlt; simp at hlt)
   have hck := (hcells k hlt).2
   obtain ⟨y, hy⟩ : ∃ y, y = l[k] := ⟨_, rfl⟩
   rw [<- hy] at hck
   have HY := Lib.hid hy
   have HCs := Lib.hid hcells
   clear hy hcells
   by_cases h2 : y < x
   ·go_wp2_with fail
    go_roundg (l.length - (k + 1))
    case measure => omega
    case rel =>
     refine ⟨rfl, k + 1, hlt, rfl, by simp, fun j hj1 hj2 => ?_⟩
     rcases Nat.lt_or_ge j k with h3 | h3
     ·exact HJ.out j hj1 h3
     ·obtain rfl : j = k := by omega
      rw [<- HY.out]; exact h2
   ·by_cases h3 : y = x
    ·go_wp2_with fail
     refine bodyPost_ret (results_tmp rfl _ _ _) rfl ?_
     have hmem : x ∈ srt xs := by rw [<- HLS.out, <- h3, HY.out]; exact List.getElem_mem hlt
     rw [srt_has hmem]
     exact ⟨_, rfl, Below.refl _ _, HD.out.mono (fun _ _ h => .inl h) fun _ _ _ _ h => h⟩
    ·go_wp2_with fail
     have mixed : Tryz.prog.follows .mixedOrders = true := by kernel_rfl
     have hone : ∀ u ∈ (l.take k).map uV, u.oneCell' = true := uV_one
     have hone2 : ∀ u ∈ (l.drop k).map uV, u.oneCell' = true := uV_one
     have hone1 : ∀ u ∈ [uV x], u.oneCell' = true := fun u hu => by simp at hu; subst hu; rfl
     have hcell : ∀ W : World, Below wr.heap.size wr W -> ∀ j (hj : j < l.length), W.cell? ⟨b, off + j, none⟩ = some (uV l[j]) := fun W hB j hj => (World.cell?_of_block (a := ⟨b, off + j, none⟩) (hB.block b (hC _ _ (HCs.out j hj).1))).trans (HCs.out j hj).2
     have hn1 : ∀ W : World, Below wr.heap.size wr W -> (k = 0 /\ (some (⟨b, off, none⟩ : Addr)) = none) \/ ∃ a, some (⟨b, off, none⟩ : Addr) = some a /\ ∀ j u, ((l.take k).map uV)[j]? = some u -> W.cell? (a.add j) = some u := fun W hB => .inr ⟨_, rfl, fun j u h => by
      rw [List.getElem?_map] at h
      obtain ⟨y, hy, rfl⟩ := Option.map_eq_some_iff.1 h
      obtain ⟨hj, rfl⟩ := List.getElem?_eq_some_iff.1 hy
      rw [add_none, List.getElem_take]
      exact hcell W hB j (by simp at hj; omega)⟩
     have hn2 : ∀ W : World, Below wr.heap.size wr W -> (l.length - k = 0 /\ (some (⟨b, off + k, none⟩ : Addr)) = none) \/ ∃ a, some (⟨b, off + k, none⟩ : Addr) = some a /\ ∀ j u, ((l.drop k).map uV)[j]? = some u -> W.cell? (a.add j) = some u := fun W hB => .inr ⟨_, rfl, fun j u h => by
      rw [List.getElem?_map] at h
      obtain ⟨y, hy, rfl⟩ := Option.map_eq_some_iff.1 h
      obtain ⟨hj, rfl⟩ := List.getElem?_eq_some_iff.1 hy
      rw [add_none, List.getElem_drop, show off + k + j = off + (k + j) by omega]
      exact hcell W hB (k + j) (by simp at hj; omega)⟩
     have HN1 := Lib.hid hn1
     have HN2 := Lib.hid hn2
     have hck : ¬ (cap = k) := by omega
     have hkc : k <= cap := by omega
     have hkl : k <= l.length := by omega
     have hfin : ∀ v w, w.ownsRow wr.heap.size 28 1 v (k + 1 + (l.length - k)) ((l.take k).map uV ++ ([uV x] ++ (l.drop k).map uV)) -> OwnN wr.heap.size w v (srt (xs ++ [x])) := fun v w h => by
      have hi := srt_ins (xs := xs) (x := x) (at_ := k) (by rw [<- HLS.out]; omega) (fun j h5 h6 => by
       have h7 : l[k] <= (srt xs)[j] := by
        rcases Nat.eq_or_lt_of_le h6 with h8 | h8
        ·subst h8; simp only [HLS.out]; exact Nat.le_refl _
        ·have := asc_lt (srt_asc xs) h5 h8
         simp only [HLS.out]; omega
       have := HY.out
       omega) (by
       rcases Nat.eq_zero_or_pos k with h5 | h5
       ·exact .inl h5
       ·refine .inr ⟨by rw [<- HLS.out]; omega, ?_⟩
        have h6 := HJ.out (k - 1) (by omega) (by omega)
        simpa only [HLS.out] using h6)
      rw [hi, <- HLS.out]
      unfold OwnN
      have e : (l.take k ++ x :: l.drop k).length = k + 1 + (l.length - k) := by simp; omega
      rw [e]
      show w.ownsRow wr.heap.size 28 1 v _ (List.map uV _)
      rw [List.map_append, List.map_cons]
      exact h
     have HFIN := Lib.hid hfin
     clear hfin hn1 hn2 hcell
     go_region_law_o (first
      | (refine step_app (.tmp 33) (.tmp 36) 27 rfl rfl Tryz.underlying27 wr.heap.size (.slice (some ⟨_, 0, none⟩) 0 0) 0 [] rfl (own_e0 (by omega) (by first | exact World.alloc_heap_new _ _ | exact World.alloc_heap_new wr _ | exact h_new1 _ _ _ | exact h_new2 _ _ _ | exact h_new1 wr _ _ | exact h_new2 wr _ _)) _ k _ ((l.take k).map uV) rfl (by simp <;> omega) (HN1.out _ (by first | exact bel1 _ _ | exact bel2 _ _ _)) hone (by omega) (by simp <;> omega) ?_
         intro v37 w37 ho37 hg37 hb37
         have b1 : Below wr.heap.size wr w37 := by first | exact (bel1 wr _).grown hg37 (by simp <;> omega) (fun j hj => by simp [Value.ownBlock] at hj; omega) | exact (bel2 wr _ _).grown hg37 (by simp <;> omega) (fun j hj => by simp [Value.ownBlock] at hj; omega))
      | (refine step_app (.tmp 37) (.tmp 39) 27 rfl rfl Tryz.underlying27 wr.heap.size _ (0 + k) ([] ++ (l.take k).map uV) rfl (by first | exact ho37 | exact ho37.alloc _) _ 1 _ [uV x] rfl rfl (.inr ⟨_, rfl, news_one (vt := 28) (by first | exact World.alloc_heap_new w37 _ | exact (hg37.block _ (by simp <;> omega) (by simp [Value.ownBlock] <;> omega)).trans (h_new1 wr _ _) | exact (hg37.block _ (by simp <;> omega) (by simp [Value.ownBlock] <;> omega)).trans (h_new2 wr _ _))⟩) hone1 (by omega) (by have := hg37.size; simp at this ⊢ <;> omega) ?_
         intro v40 w40 ho40 hg40 hb40
         have b2 : Below wr.heap.size wr w40 := by first | exact b1.grown hg40 b1.size (fun j hj => (ho37.lt j hj).1) | exact (b1.alloc b1.size _).grown hg40 (by have := b1.size; simp <;> omega) (fun j hj => (ho37.lt j hj).1))
      | (refine step_app (.tmp 40) (.tmp 43) 27 rfl rfl Tryz.underlying27 wr.heap.size _ (0 + k + 1) ([] ++ (l.take k).map uV ++ [uV x]) rfl ho40 _ (l.length - k) _ ((l.drop k).map uV) rfl (by simp <;> omega) (HN2.out _ b2) hone2 (by omega) b2.size ?_
         intro v44 w44 ho44 hg44 hb44
         have b3 := b2.grown hg44 b2.size fun j hj => (ho40.lt j hj).1))
     all_goals (go_wp2; all_goals (refine bodyPost_ret (results_tmp rfl _ _ _) rfl ?_; exact ⟨v44, rfl, b3, ownN_dat (base := wr.heap.size) (HFIN.out _ _ (by simpa using ho44)) fun b o h1 h2 => .inr ⟨h1, h2⟩⟩))
  ·obtain rfl : k = l.length := by omega
   go_wp2_with fail
   have mixed : Tryz.prog.follows .mixedOrders = true := by kernel_rfl
   obtain ⟨ad2, cap2, had2⟩ : ∃ ad2 cap2, (ad2, cap2) = (if cap = l.length then ad else Option.map (fun x => x.add l.length) ad, cap - l.length) := ⟨_, _, rfl⟩
   have hl2 : l.length + 1 <= 17179869184 := by omega
   have hone : ∀ u ∈ l.map uV, u.oneCell' = true := uV_one
   have hone1 : ∀ u ∈ [uV x], u.oneCell' = true := fun u hu => by simp at hu; subst hu; rfl
   have hnl : ∀ W : World, Below wr.heap.size wr W -> (l.length = 0 /\ ad = none) \/ ∃ a, ad = some a /\ ∀ j u, (l.map uV)[j]? = some u -> W.cell? (a.add j) = some u := fun W hB => by
    by_cases h0 : l = []
    ·subst h0
     cases ad with
     | none => exact .inl ⟨rfl, rfl⟩
     | some a => exact .inr ⟨a, rfl, fun j u h => by simp at h⟩
    ·obtain ⟨b, off, rfl, hc⟩ := HCL.out h0
     refine .inr ⟨_, rfl, fun j u h => ?_⟩
     rw [List.getElem?_map] at h
     obtain ⟨y, hy, rfl⟩ := Option.map_eq_some_iff.1 h
     obtain ⟨hj, rfl⟩ := List.getElem?_eq_some_iff.1 hy
     rw [add_none]
     exact (World.cell?_of_block (a := ⟨b, off + j, none⟩) (hB.block b (hC _ _ (hc j hj).1))).trans (hc j hj).2
   have hnone : (0 = 0 /\ (if cap = l.length then ad else Option.map (fun x => x.add l.length) ad) = none) \/ ∃ a, (if cap = l.length then ad else Option.map (fun x => x.add l.length) ad) = some a := by
    cases ad <;> simp
    split <;> simp
   have HNL := Lib.hid hnl
   have HNO := Lib.hid hnone
   clear hnl hnone had2
   have hfin : ∀ v w, w.ownsRow wr.heap.size 28 1 v (l.length + 1) (l.map uV ++ [uV x]) -> OwnN wr.heap.size w v (srt (xs ++ [x])) := fun v w h => by
    have hi := srt_ins (xs := xs) (x := x) (at_ := (srt xs).length) (Nat.le_refl _) (fun j h1 h2 => by omega) (by
     rcases Nat.eq_zero_or_pos (srt xs).length with h5 | h5
     ·exact .inl h5
     ·refine .inr ⟨by omega, ?_⟩
      have h6 := HJ.out ((srt xs).length - 1) (by rw [HLS.out]; omega) (by rw [HLS.out]; omega)
      simpa only [HLS.out] using h6)
    rw [hi, <- HLS.out, List.take_length, List.drop_length]
    unfold OwnN
    rw [List.length_append, List.length_singleton]
    show w.ownsRow wr.heap.size 28 1 v _ (List.map uV _)
    rw [List.map_append]
    exact h
   have HFIN := Lib.hid hfin
   clear hfin
   go_region_law_o (first
    | (refine step_app (.tmp 33) (.tmp 36) 27 rfl rfl Tryz.underlying27 wr.heap.size (.slice (some ⟨_, 0, none⟩) 0 0) 0 [] rfl (own_e0 (by omega) (by first | exact World.alloc_heap_new _ _ | exact World.alloc_heap_new wr _ | exact h_new1 _ _ _ | exact h_new2 _ _ _ | exact h_new1 wr _ _ | exact h_new2 wr _ _)) _ l.length _ (l.map uV) rfl (by simp <;> omega) (HNL.out _ (by first | exact bel1 _ _ | exact bel2 _ _ _)) hone (by omega) (by simp <;> omega) ?_
       intro v37 w37 ho37 hg37 hb37
       have b1 : Below wr.heap.size wr w37 := by first | exact (bel1 wr _).grown hg37 (by simp <;> omega) (fun j hj => by simp [Value.ownBlock] at hj; omega) | exact (bel2 wr _ _).grown hg37 (by simp <;> omega) (fun j hj => by simp [Value.ownBlock] at hj; omega))
    | (refine step_app (.tmp 37) (.tmp 39) 27 rfl rfl Tryz.underlying27 wr.heap.size _ (0 + l.length) ([] ++ l.map uV) rfl (by first | exact ho37 | exact ho37.alloc _) _ 1 _ [uV x] rfl rfl (.inr ⟨_, rfl, news_one (vt := 28) (by first | exact World.alloc_heap_new w37 _ | exact (hg37.block _ (by simp <;> omega) (by simp [Value.ownBlock] <;> omega)).trans (h_new1 wr _ _) | exact (hg37.block _ (by simp <;> omega) (by simp [Value.ownBlock] <;> omega)).trans (h_new2 wr _ _))⟩) hone1 (by omega) (by have := hg37.size; simp at this ⊢ <;> omega) ?_
       intro v40 w40 ho40 hg40 hb40
       have b2 : Below wr.heap.size wr w40 := by first | exact b1.grown hg40 b1.size (fun j hj => (ho37.lt j hj).1) | exact (b1.alloc b1.size _).grown hg40 (by have := b1.size; simp <;> omega) (fun j hj => (ho37.lt j hj).1))
    | (refine step_app (.tmp 40) (.tmp 43) 27 rfl rfl Tryz.underlying27 wr.heap.size _ (0 + l.length + 1) ([] ++ l.map uV ++ [uV x]) rfl ho40 _ 0 _ ([]) rfl (by simp <;> omega) (by rcases HNO.out with h | ⟨a, h⟩; exact .inl h; exact .inr ⟨a, h, fun j u hj => by simp at hj⟩) (by simp) (by omega) b2.size ?_
       intro v44 w44 ho44 hg44 hb44
       have b3 := b2.grown hg44 b2.size fun j hj => (ho40.lt j hj).1))
   all_goals (go_wp2; all_goals (refine bodyPost_ret (results_tmp rfl _ _ _) rfl ?_; exact ⟨v44, rfl, b3, ownN_dat (base := wr.heap.size) (HFIN.out _ _ (by simpa using ho44)) fun b o h1 h2 => .inr ⟨h1, h2⟩⟩))
end Go.Proofs.YtjimggclhlnfbaaGreat
namespace Go.Proofs.YtjimggclhlnfbaaGreat
open Go.RowKit
def ltV (v w : List En) : Prop := cmpL (nums v) (nums w) < 0
theorem ltV_irr (v : List En) : ¬ ltV v v := by unfold ltV; rw [(cmpL_zero _ _).2 rfl]; decide
theorem ltV_trans {a b c : List En} (h1 : ltV a b) (h2 : ltV b c) : ltV a c := by
 unfold ltV at *
 have h3 := cmpL_trans _ _ _ (Int.le_of_lt h1) (Int.le_of_lt h2)
 rcases Int.lt_or_eq_of_le h3 with h | h
 ·exact h
 ·have e := nums_inj ((cmpL_zero _ _).1 h)
  subst e
  have := cmpL_neg (nums a) (nums b)
  omega
theorem ltV_not {a b : List En} (h1 : ¬ ltV a b) (h2 : cmpL (nums a) (nums b) ≠ 0) : ltV b a := by
 unfold ltV at *
 have := cmpL_neg (nums a) (nums b)
 omega
theorem cmpV_eq {a b : List En} (h : cmpL (nums a) (nums b) = 0) : a = b := nums_inj ((cmpL_zero _ _).1 h)
def insG : List Fg -> Fg -> List Fg
 | [], f => [f]
 | g :: r, f => if cmpL (nums g.vec) (nums f.vec) < 0 then g :: insG r f else if cmpL (nums g.vec) (nums f.vec) = 0 then ⟨opS fUnion g.items f.items, f.vec⟩ :: r else f :: g :: r
def grp1 (o : List Fg) (f : Fg) : List Fg := if canVec f.vec = [] \/ f.items = [] then o else insG o ⟨f.items, canVec f.vec⟩
def groupK (k : List Fg) : List Fg := k.foldl grp1 []
def OkG (f : Fg) : Prop := CanV f.vec /\ f.vec ≠ [] /\ Nrm f.items /\ f.items ≠ []
structure GrpI (k : List Fg) : Prop where
 ok : ∀ f ∈ k, OkG f
 srt : k.Pairwise fun f g => ltV f.vec g.vec
theorem GrpI.nil : GrpI [] := ⟨fun f h => (by cases h), List.Pairwise.nil⟩
theorem GrpI.tail {f : Fg} {k : List Fg} (h : GrpI (f :: k)) : GrpI k := ⟨fun g hg => h.ok g (by simp [hg]), (List.pairwise_cons.1 h.srt).2⟩
theorem GrpI.right {k : List Fg} (h : GrpI k) : RightK k := fun f hf => ⟨(h.ok f hf).2.2.1, (h.ok f hf).1.right⟩
theorem nrm_ne {l : List Iv} (h : Nrm l) (hn : l ≠ []) : ∃ x, x < M64 /\ mem l x = true := by
 cases l with
 | nil => exact absurd rfl hn
 | cons s l =>
   have := NF.lo_ge h s (by simp)
   exact ⟨s.lo, by omega, mem_iff.2 ⟨s, by simp, Nat.le_refl _, this.2.1⟩⟩
theorem mem_ne {l : List Iv} {x : Nat} (h : mem l x = true) : l ≠ [] := fun e => by rw [e] at h; cases h
theorem insG_spec : ∀ {o : List Fg} {f : Fg}, GrpI o -> OkG f -> (∀ g ∈ insG o f, OkG g /\ (g.vec = f.vec \/ g ∈ o)) /\ GrpI (insG o f) /\ (∀ i r c, i < M64 -> hasK (insG o f) i r c = (hasK o i r c || (mem f.items i && mem (knV f.vec r) c)))
 | [], f, _, hf => ⟨fun g hg => by simp only [insG, List.mem_singleton] at hg; subst hg; exact ⟨hf, .inl rfl⟩, ⟨fun g hg => by simp only [insG, List.mem_singleton] at hg; subst hg; exact hf, by simp [insG]⟩, fun i r c _ => by simp [insG, hasK]⟩
 | g :: o, f, ho, hf => by
   have hg := ho.ok g (by simp)
   have hp := List.pairwise_cons.1 ho.srt
   unfold insG
   by_cases h1 : cmpL (nums g.vec) (nums f.vec) < 0
   ·rw [if_pos h1]
    obtain ⟨k1, k2, k3⟩ := insG_spec ho.tail hf
    refine ⟨fun x hx => ?_, ⟨fun x hx => ?_, List.pairwise_cons.2 ⟨fun x hx => ?_, k2.srt⟩⟩, fun i r c hi => ?_⟩
    ·rcases List.mem_cons.1 hx with rfl | hx
     ·exact ⟨hg, .inr (by simp)⟩
     ·exact ⟨(k1 x hx).1, (k1 x hx).2.imp id fun h => by simp [h]⟩
    ·rcases List.mem_cons.1 hx with rfl | hx
     ·exact hg
     ·exact (k1 x hx).1
    ·rcases (k1 x hx).2 with e | e
     ·rw [e]; exact h1
     ·exact hp.1 x e
    ·have := k3 i r c hi
     unfold hasK at this ⊢
     rw [List.any_cons, List.any_cons, this, Bool.or_assoc]
   ·rw [if_neg h1]
    by_cases h2 : cmpL (nums g.vec) (nums f.vec) = 0
    ·rw [if_pos h2]
     have e : g.vec = f.vec := cmpV_eq h2
     have hn : OkG ⟨opS fUnion g.items f.items, f.vec⟩ := by
      refine ⟨hf.1, hf.2.1, opS_nrm hg.2.2.1 hf.2.2.1, ?_⟩
      obtain ⟨x, hx, hm⟩ := nrm_ne hg.2.2.1 hg.2.2.2
      refine mem_ne (x := x) ?_
      show mem (opS fUnion g.items f.items) x = true
      rw [opS_mem hg.2.2.1 hf.2.2.1 hx, hm]
      rfl
     refine ⟨fun x hx => ?_, ⟨fun x hx => ?_, List.pairwise_cons.2 ⟨fun x hx => ?_, hp.2⟩⟩, fun i r c hi => ?_⟩
     ·rcases List.mem_cons.1 hx with rfl | hx
      ·exact ⟨hn, .inl rfl⟩
      ·exact ⟨ho.ok x (by simp [hx]), .inr (by simp [hx])⟩
     ·rcases List.mem_cons.1 hx with rfl | hx
      ·exact hn
      ·exact ho.ok x (by simp [hx])
     ·have := hp.1 x hx
      rw [e] at this
      exact this
     ·unfold hasK
      rw [List.any_cons, List.any_cons]
      simp only
      rw [opS_mem hg.2.2.1 hf.2.2.1 hi, e]
      simp only [fUnion]
      cases mem g.items i <;> cases mem f.items i <;> cases mem (knV f.vec r) c <;> simp
    ·rw [if_neg h2]
     have h3 : ltV f.vec g.vec := ltV_not h1 h2
     refine ⟨fun x hx => ?_, ⟨fun x hx => ?_, List.pairwise_cons.2 ⟨fun x hx => ?_, ho.srt⟩⟩, fun i r c hi => ?_⟩
     ·rcases List.mem_cons.1 hx with rfl | hx
      ·exact ⟨hf, .inl rfl⟩
      ·exact ⟨ho.ok x hx, .inr hx⟩
     ·rcases List.mem_cons.1 hx with rfl | hx
      ·exact hf
      ·exact ho.ok x hx
     ·rcases List.mem_cons.1 hx with rfl | hx
      ·exact h3
      ·exact ltV_trans h3 (hp.1 x hx)
     ·unfold hasK
      rw [List.any_cons, Bool.or_comm]
theorem canVec_ok {f : Fg} (h : RightF f) (hn : ¬ (canVec f.vec = [] \/ f.items = [])) : OkG ⟨f.items, canVec f.vec⟩ := ⟨canVec_can h.2, fun e => hn (.inl e), h.1, fun e => hn (.inr e)⟩
theorem grp1_spec {o : List Fg} {f : Fg} (ho : GrpI o) (hf : RightF f) : GrpI (grp1 o f) /\ ∀ i r c, i < M64 -> hasK (grp1 o f) i r c = (hasK o i r c || (mem f.items i && mem (knV f.vec r) c)) := by
 unfold grp1
 split
 ·rename_i h
  refine ⟨ho, fun i r c _ => ?_⟩
  rcases h with h | h
  ·rw [<- canVec_kn hf.2, h, knV_nil]
   simp
  ·rw [h]
   simp
 ·rename_i h
  obtain ⟨_, k2, k3⟩ := insG_spec ho (canVec_ok hf h)
  refine ⟨k2, fun i r c hi => ?_⟩
  rw [k3 i r c hi]
  simp only
  rw [canVec_kn hf.2]
theorem group_fold : ∀ {k : List Fg} {o : List Fg}, GrpI o -> RightK k -> GrpI (k.foldl grp1 o) /\ ∀ i r c, i < M64 -> hasK (k.foldl grp1 o) i r c = (hasK o i r c || hasK k i r c)
 | [], o, ho, _ => ⟨ho, fun i r c _ => by simp [hasK]⟩
 | f :: k, o, ho, hk => by
   obtain ⟨h1, h2⟩ := grp1_spec ho (hk f (by simp))
   obtain ⟨h3, h4⟩ := group_fold (k := k) h1 fun g hg => hk g (by simp [hg])
   refine ⟨h3, fun i r c hi => ?_⟩
   rw [List.foldl_cons, h4 i r c hi, h2 i r c hi, Bool.or_assoc]
   rfl
theorem group_gi {k : List Fg} (h : RightK k) : GrpI (groupK k) := (group_fold GrpI.nil h).1
structure CanK (k : List Fg) : Prop where
 gi : GrpI k
 apart : ApartK k
theorem canVec_self {v : List En} (h : CanV v) : canVec v = v := canV_unique (canVec_can h.right) h fun r => canVec_kn h.right r
theorem insG_last : ∀ {o : List Fg} {f : Fg}, (∀ g ∈ o, ltV g.vec f.vec) -> insG o f = o ++ [f]
 | [], f, _ => rfl
 | g :: o, f, h => by
   have h1 : cmpL (nums g.vec) (nums f.vec) < 0 := h g (by simp)
   rw [insG, if_pos h1, insG_last fun x hx => h x (by simp [hx])]
   rfl
theorem group_self : ∀ {k o : List Fg}, GrpI (o ++ k) -> k.foldl grp1 o = o ++ k
 | [], o, _ => by simp
 | f :: k, o, h => by
   have hf := h.ok f (by simp)
   have e : grp1 o f = o ++ [f] := by
    unfold grp1
    rw [canVec_self hf.1, if_neg (by rintro (e | e); exact hf.2.1 e; exact hf.2.2.2 e)]
    exact insG_last fun g hg => (List.pairwise_append.1 h.srt).2.2 g hg f (by simp)
   rw [List.foldl_cons, e, group_self (by simpa using h)]
   simp
theorem group_again {k : List Fg} (h : GrpI k) : groupK k = k := group_self (o := []) h
theorem CanK.one {k : List Fg} (h : CanK k) {f : Fg} (hf : f ∈ k) {i : Nat} (hi : i < M64) (hm : mem f.items i = true) (r c : Nat) : hasK k i r c = mem (knV f.vec r) c := by
 rw [Bool.eq_iff_iff, hasK_iff]
 constructor
 ·rintro ⟨g, hg, m1, m2⟩
  have : f = g := by
   obtain ⟨a, ha, rfl⟩ := List.getElem_of_mem hf
   obtain ⟨b, hb, rfl⟩ := List.getElem_of_mem hg
   rcases Nat.lt_trichotomy a b with e | e | e
   ·exact absurd ⟨hm, m1⟩ (List.pairwise_iff_getElem.1 h.apart a b ha hb e i hi)
   ·subst e; rfl
   ·exact absurd ⟨m1, hm⟩ (List.pairwise_iff_getElem.1 h.apart b a hb ha e i hi)
  subst this
  exact m2
 ·intro m2
  exact ⟨f, hf, hm, m2⟩
theorem CanK.vec {k : List Fg} (h : CanK k) {f g : Fg} (hf : f ∈ k) (hg : g ∈ k) (e : f.vec = g.vec) : f = g := by
 obtain ⟨a, ha, rfl⟩ := List.getElem_of_mem hf
 obtain ⟨b, hb, rfl⟩ := List.getElem_of_mem hg
 rcases Nat.lt_trichotomy a b with e3 | e3 | e3
 ·have := List.pairwise_iff_getElem.1 h.gi.srt a b ha hb e3
  rw [e] at this
  exact absurd this (ltV_irr _)
 ·subst e3; rfl
 ·have := List.pairwise_iff_getElem.1 h.gi.srt b a hb ha e3
  rw [e] at this
  exact absurd this (ltV_irr _)
theorem CanK.right {k : List Fg} (h : CanK k) : RightK k := h.gi.right
theorem RightV.take {v : List En} (h : RightV v) (k : Nat) : RightV (v.take k) := ⟨fun e he => h.1 e (List.mem_of_mem_take he), h.2.sublist (List.take_sublist _ _)⟩
theorem refKnown10_c (v : List En) (r : Nat) (hr : SmV v) : Cn Tryz.prog 97 [vp v, .v (.int .u64 r)] (rg (knV v r)) := by
 have hl := hr.2.1
 refine cn_go Tryz.func97 [] 2 (by kernel_rfl) rfl (by simp [go_sem, seval]) ?_
 conv => arg 4; cbv
 conv => enter [5, 1]; cbv
 try simp (maxSteps := 2000000) (disch := omega) only [go_sem, seval]
 repeat ((with_reducible refine And.intro ?_ ?_); focus exact and_t)
 (first | refine .mk (refFind_c v r (by omega)) rfl ?_ | refine .rd (refFind_c v r (by omega)) rfl ?_)
 rcases fdV_spec r v 0 with ⟨e1, e2⟩ | ⟨i, hi, e1, e2⟩
 ·rw [e1, knV_none e2]
  try simp (maxSteps := 2000000) (disch := omega) only [go_sem, seval]
  repeat ((with_reducible refine And.intro ?_ ?_); focus exact and_t)
 ·have hh := hr.2.2 _ (List.getElem_mem hi)
  rw [e1, knV_fd hr.1 hi e2, Nat.zero_add]
  try simp (maxSteps := 2000000) (disch := omega) only [go_sem, seval]
  repeat ((with_reducible refine And.intro ?_ ?_); focus exact and_t)
  (first | refine .mk ?_ ?_ | refine .mkt ?_ ?_ | refine .mkf ?_ ?_) <;> intro h0 <;> (try simp only [nrm_l] at h0) <;> (try simp (maxSteps := 2000000) (disch := omega) only [go_sem, seval]) <;> (repeat ((with_reducible refine And.intro ?_ ?_); focus exact and_t))
  ·exact absurd h0 (by omega)
  ·(first | refine .mk (known7_c v[i] (hr.1.1 _ (List.getElem_mem hi)) (by omega)) rfl ?_ | refine .rd (known7_c v[i] (hr.1.1 _ (List.getElem_mem hi)) (by omega)) rfl ?_)
   try simp (maxSteps := 2000000) (disch := omega) only [go_sem, seval]
   repeat ((with_reducible refine And.intro ?_ ?_); focus exact and_t)
def vps (vs : List (List En)) : PV := .sl (vs.map fun v => [vp v]) .sh
attribute [go_sem] vps
theorem opS_d0 {x : List Iv} (hx : Nrm x) : opS fMinus x [] = x := opS_eq hx trivial hx fun t _ => by simp [fMinus]
theorem kn0 (r m : Nat) (hm : m < M64) : kn ⟨r, m, []⟩ = [⟨0, m⟩] := opS_d0 (nrm_one (Nat.zero_le _) hm)
def u10 : List En := [⟨1, 4, []⟩, ⟨2, 3, []⟩]
theorem lo_mem {l : List Iv} {x : Nat} (hm : mem l x = true) (h0 : x = 0 \/ mem l (x - 1) = false) : x ∈ l.map Iv.lo := by
 obtain ⟨s, hs, h1, h2⟩ := mem_iff.1 hm
 refine List.mem_map.2 ⟨s, hs, ?_⟩
 rcases Nat.lt_or_eq_of_le h1 with h3 | h3
 ·rcases h0 with h0 | h0
  ·omega
  ·have : mem l (x - 1) = true := mem_iff.2 ⟨s, hs, by omega, by omega⟩
   rw [this] at h0; cases h0
 ·exact h3
theorem union_len {a b : List Iv} (ha : Nrm a) (hb : Nrm b) : (opS fUnion a b).length <= a.length + b.length := by
 have hn := opS_nrm (f := fUnion) ha hb
 have := ascLen ((opS fUnion a b).map Iv.lo) (a.map Iv.lo ++ b.map Iv.lo) (NF.asc hn) fun y hy => by
  obtain ⟨s, hs, rfl⟩ := List.mem_map.1 hy
  have h1 := NF.lo_ge hn s hs
  have hm : mem (opS fUnion a b) s.lo = true := mem_iff.2 ⟨s, hs, Nat.le_refl _, h1.2.1⟩
  have hp : s.lo = 0 \/ (mem a (s.lo - 1) = false /\ mem b (s.lo - 1) = false) := by
   by_cases h0 : s.lo = 0
   ·exact .inl h0
   ·have h2 := NF.lo_prev hn s hs h0
    rw [opS_mem ha hb (by omega)] at h2
    simp only [fUnion, Bool.or_eq_false_iff] at h2
    exact .inr h2
  rw [opS_mem ha hb (by omega)] at hm
  simp only [fUnion, Bool.or_eq_true] at hm
  rcases hm with hm | hm
  ·exact List.mem_append_left _ (lo_mem hm (hp.imp id And.left))
  ·exact List.mem_append_right _ (lo_mem hm (hp.imp id And.right))
 simpa using this
def sumI : List Fg -> Nat
 | [] => 0
 | f :: k => f.items.length + sumI k
theorem sumI_app : ∀ (a b : List Fg), sumI (a ++ b) = sumI a + sumI b
 | [], b => by simp [sumI]
 | f :: a, b => by simp only [List.cons_append, sumI, sumI_app a b]; omega
theorem sumI_mem : ∀ {k : List Fg} {f : Fg}, f ∈ k -> f.items.length <= sumI k
 | g :: k, f, h => by
   rcases List.mem_cons.1 h with rfl | h
   ·simp only [sumI]; omega
   ·have := sumI_mem h; simp only [sumI]; omega
theorem CI_sum : ∀ k : List Fg, (CI k).length <= 2 * sumI k
 | [] => by simp [CI, sumI]
 | f :: k => by
   have h1 := CI_sum k
   have h2 := cuts_len f.items
   have : CI (f :: k) = cuts f.items ++ CI k := rfl
   rw [this, List.length_append, sumI]; omega
theorem sumI_ones (V : Iv -> List En) : ∀ l : List Iv, sumI (l.map fun s => ⟨[s], V s⟩) = l.length
 | [] => rfl
 | s :: l => by rw [List.map_cons, sumI, sumI_ones V l]; simp; omega
theorem insG_sum : ∀ {o : List Fg} {f : Fg}, (∀ g ∈ o, Nrm g.items) -> Nrm f.items -> sumI (insG o f) <= sumI o + f.items.length /\ (insG o f).length <= o.length + 1 /\ ∀ g ∈ insG o f, g.vec = f.vec \/ ∃ h ∈ o, g.vec = h.vec
 | [], f, _, _ => ⟨by simp [insG, sumI], by simp [insG], fun g hg => by simp only [insG, List.mem_singleton] at hg; subst hg; exact .inl rfl⟩
 | g :: o, f, ho, hf => by
   have h1 := insG_sum (o := o) (f := f) (fun x hx => ho x (by simp [hx])) hf
   have hg := ho g (by simp)
   have hu := union_len hg hf
   unfold insG
   by_cases c1 : cmpL (nums g.vec) (nums f.vec) < 0
   ·rw [if_pos c1]
    refine ⟨by simp only [sumI]; omega, by simp only [List.length_cons]; omega, fun x hx => ?_⟩
    rcases List.mem_cons.1 hx with rfl | hx
    ·exact .inr ⟨_, by simp, rfl⟩
    ·exact (h1.2.2 x hx).imp id fun ⟨y, hy, e⟩ => ⟨y, by simp [hy], e⟩
   ·rw [if_neg c1]
    by_cases c2 : cmpL (nums g.vec) (nums f.vec) = 0
    ·rw [if_pos c2]
     refine ⟨by simp only [sumI]; omega, by simp, fun x hx => ?_⟩
     rcases List.mem_cons.1 hx with rfl | hx
     ·exact .inl rfl
     ·exact .inr ⟨x, by simp [hx], rfl⟩
    ·rw [if_neg c2]
     refine ⟨by simp only [sumI]; omega, by simp, fun x hx => ?_⟩
     rcases List.mem_cons.1 hx with rfl | hx
     ·exact .inl rfl
     ·exact .inr ⟨x, hx, rfl⟩
theorem group_sum : ∀ {k o : List Fg}, GrpI o -> RightK k -> sumI (k.foldl grp1 o) <= sumI o + sumI k /\ (k.foldl grp1 o).length <= o.length + k.length /\ ∀ g ∈ k.foldl grp1 o, (∃ f ∈ k, g.vec = canVec f.vec) \/ ∃ h ∈ o, g.vec = h.vec
 | [], o, _, _ => ⟨by simp, by simp, fun g hg => .inr ⟨g, hg, rfl⟩⟩
 | f :: k, o, ho, hk => by
   have hf := hk f (by simp)
   have h1 := group_sum (k := k) (o := grp1 o f) (grp1_spec ho hf).1 fun g hg => hk g (by simp [hg])
   rw [List.foldl_cons]
   have h2 : sumI (grp1 o f) <= sumI o + f.items.length /\ (grp1 o f).length <= o.length + 1 /\ ∀ g ∈ grp1 o f, g.vec = canVec f.vec \/ ∃ h ∈ o, g.vec = h.vec := by
    unfold grp1
    split
    ·exact ⟨by omega, by omega, fun g hg => .inr ⟨g, hg, rfl⟩⟩
    ·exact insG_sum (fun g hg => (ho.ok g hg).2.2.1) hf.1
   refine ⟨by simp only [sumI]; omega, by simp only [List.length_cons]; omega, fun g hg => ?_⟩
   rcases h1.2.2 g hg with ⟨x, hx, e⟩ | ⟨x, hx, e⟩
   ·exact .inl ⟨x, by simp [hx], e⟩
   ·rcases h2.2.2 x hx with e2 | ⟨y, hy, e2⟩
    ·exact .inl ⟨f, by simp, e.trans e2⟩
    ·exact .inr ⟨y, hy, e.trans e2⟩
theorem groupK_sum {k : List Fg} (h : RightK k) : sumI (groupK k) <= sumI k /\ (groupK k).length <= k.length /\ ∀ g ∈ groupK k, ∃ f ∈ k, g.vec = canVec f.vec := by
 have := group_sum (o := []) GrpI.nil h
 refine ⟨by simpa [sumI, groupK] using this.1, by simpa [groupK] using this.2.1, fun g hg => ?_⟩
 rcases this.2.2 g hg with h | ⟨x, hx, _⟩
 ·exact h
 ·cases hx
theorem groupK_take {k : List Fg} {j : Nat} (h : j < k.length) : groupK (k.take (j + 1)) = grp1 (groupK (k.take j)) k[j] := by
 unfold groupK
 rw [List.take_succ_eq_append_getElem h, List.foldl_append]
 rfl
theorem nums_le {v : List En} {h : Nat} (hh : ∀ e ∈ v, e.holes.length <= h) : (nums v).length <= 1 + v.length * (3 + 2 * h) := by
 have : ∀ {v : List En}, (∀ e ∈ v, e.holes.length <= h) -> (v.flatMap numsE).length <= v.length * (3 + 2 * h) := by
  intro v
  induction v with
  | nil => intro _; simp
  | cons e v ih =>
    intro hv
    have h1 := ih fun f hf => hv f (by simp [hf])
    have h2 := hv e (by simp)
    have h3 : (v.length + 1) * (3 + 2 * h) = v.length * (3 + 2 * h) + (3 + 2 * h) := Nat.succ_mul _ _
    simp only [List.flatMap_cons, List.length_append, numsE, List.length_cons, flat2_len, h3]
    omega
 have := this hh
 unfold nums
 simp only [List.length_cons]
 omega
theorem WV.nlen {C : Nat -> List Nat} {R : List Nat} {v : List En} (h : WV C R v) (hC : ∀ r, (C r).length <= 9000) (hR : R.length <= 20000) : (nums v).length <= 1073741824 := by
 obtain ⟨_, h1, h2⟩ := h.bv hC hR
 have h3 := nums_le h2
 have h4 : v.length * (3 + 2 * (9000 + 2)) <= 20000 * (3 + 2 * (9000 + 2)) := Nat.mul_le_mul_right _ h1
 omega
def k12 : List Fg := [⟨[⟨1, 5⟩], [⟨1, 0, []⟩]⟩, ⟨[⟨4, 9⟩], [⟨2, 0, []⟩]⟩]
def v12a : List En := [⟨1, 0, []⟩]
def v12b : List En := [⟨1, 0, []⟩, ⟨2, 0, []⟩]
def v12c : List En := [⟨2, 0, []⟩]
theorem kn12 (r : Nat) : kn ⟨r, 0, []⟩ = [⟨0, 0⟩] := kn0 _ _ (by rw [M64_val]; omega)
theorem r12 : RightK k12 := by simp [k12, RightK, RightF, RightV, RightE, M64_val, Nrm, NF]
theorem v12a_can : CanV v12a := ⟨by simp [v12a, CanE, RightE, M64_val, Nrm, NF], by simp [v12a]⟩
theorem v12b_can : CanV v12b := ⟨by simp [v12b, CanE, RightE, M64_val, Nrm, NF], by simp [v12b]⟩
theorem v12c_can : CanV v12c := ⟨by simp [v12c, CanE, RightE, M64_val, Nrm, NF], by simp [v12c]⟩
theorem st12 : startsK k12 = [0, 1, 4, 6, 10] := asc_unique (startsK_asc _) (by simp [Asc]) fun x => by
 rw [startsK_mem r12, M64_val]
 simp only [k12, sameM, List.all_cons, List.all_nil, mem, List.any_cons, List.any_nil, Bool.or_false, Bool.and_true, List.mem_cons, List.not_mem_nil, or_false]
 by_cases h1 : x = 0
 ·subst h1; simp
 ·simp only [h1, false_or]
  constructor
  ·rintro ⟨h2, h3⟩
   by_cases h4 : x = 1 \/ x = 4 \/ x = 6 \/ x = 10
   ·exact h4
   ·have e1 : (decide (1 <= x - 1) && decide (x - 1 <= 5)) = (decide (1 <= x) && decide (x <= 5)) := by
     rw [Bool.eq_iff_iff]; simp; omega
    have e2 : (decide (4 <= x - 1) && decide (x - 1 <= 9)) = (decide (4 <= x) && decide (x <= 9)) := by
     rw [Bool.eq_iff_iff]; simp; omega
    rw [e1, e2] at h3
    simp at h3
  ·rintro (rfl | rfl | rfl | rfl) <;> simp
theorem pc12 : piecesK k12 = [⟨1, 3⟩, ⟨4, 5⟩, ⟨6, 9⟩] := by
 unfold piecesK cutsK
 rw [st12]
 have h0 : (membK k12 0).length = 0 := by decide
 have h1 : (membK k12 1).length = 1 := by decide
 have h2 : (membK k12 4).length = 2 := by decide
 have h3 : (membK k12 6).length = 1 := by decide
 have h4 : (membK k12 10).length = 0 := by decide
 simp [pcsL, h0, h1, h2, h3, h4]
theorem has12 (i r c : Nat) : hasK k12 i r c = ((mem [⟨1, 5⟩] i && mem (if 1 = r then [⟨0, 0⟩] else []) c) || (mem [⟨4, 9⟩] i && mem (if 2 = r then [⟨0, 0⟩] else []) c)) := by
 simp only [hasK, k12, List.any_cons, List.any_nil, knV_cons, knV_nil, kn12, Bool.or_false]
theorem at12 {i : Nat} {v : List En} (hv : CanV v) (h : ∀ r c, c < M64 -> mem (knV v r) c = hasK k12 i r c) : vecAt k12 i = v := by
 have h1 := r12.ik.at i
 exact canV_unique h1.1.can hv fun r => Nrm.unique (knV_nrm h1.1.can.right r) (knV_nrm hv.right r) fun c hc => by rw [h1.2 r c hc, h r c hc]
theorem rf12 : refineK k12 = [⟨[⟨1, 3⟩], v12a⟩, ⟨[⟨4, 5⟩], v12b⟩, ⟨[⟨6, 9⟩], v12c⟩] := by
 have ha : vecAt k12 1 = v12a := at12 v12a_can fun r c _ => by
  rw [has12]; simp only [v12a, knV_cons, knV_nil, kn12]; simp [mem]
 have hb : vecAt k12 4 = v12b := at12 v12b_can fun r c _ => by
  rw [has12]; simp only [v12b, knV_cons, knV_nil, kn12]
  by_cases h1 : 1 = r
  ·rw [if_pos h1, if_pos h1, if_neg (by omega)]; simp [mem]
  ·rw [if_neg h1, if_neg h1]; simp [mem]
 have hc : vecAt k12 6 = v12c := at12 v12c_can fun r c _ => by
  rw [has12]; simp only [v12c, knV_cons, knV_nil, kn12]; simp [mem]
 unfold refineK
 rw [pc12]
 simp [ha, hb, hc]
theorem gr12 : (groupK (refineK k12)).length = 3 := by
 rw [rf12]
 unfold groupK
 have ea := canVec_self v12a_can
 have eb := canVec_self v12b_can
 have ec := canVec_self v12c_can
 have na : v12a ≠ [] := by simp [v12a]
 have nb : v12b ≠ [] := by simp [v12b]
 have nc : v12c ≠ [] := by simp [v12c]
 have c1 : cmpL (nums v12a) (nums v12b) = -1 := by decide
 have c2 : cmpL (nums v12a) (nums v12c) = -1 := by decide
 have c3 : cmpL (nums v12b) (nums v12c) = 1 := by decide
 simp [List.foldl, grp1, insG, ea, eb, ec, na, nb, nc, c1, c2, c3]
theorem put10_c (xs : List Nat) (x : Nat) (hl : (srt xs).length <= 4194304) : Cn Tryz.prog 95 [ns (srt xs), .v (.int .u64 x)] (ns (srt (xs ++ [x]))) := by
 refine cn_memL rfl (enters_of Tryz.func95 (by kernel_rfl) rfl) fun D w vs hG hD hsz hd => ?_
 rw [arr2 hsz, (hd 1 _ rfl).v_inv]
 refine (put_calls D xs x _ w hl (hd 0 _ rfl) hD).mono ?_
 rintro e w' ⟨v, rfl, hb, hv⟩
 exact ⟨v, rfl, hb, hv⟩
theorem srt_len2 {v : List En} {xs : List Nat} {k : Nat} (hv : v.length <= 1048576) (hx : xs.length <= 1048576) : (srt (xs ++ reps (v.take k))).length <= 4194304 := by
 have h1 := srt_len (xs ++ reps (v.take k))
 have h2 : (v.take k).length <= 1048576 := Nat.le_trans (List.length_take_le' _ _) hv
 simp only [reps, List.length_append, List.length_map] at h1 h2
 simp only [reps]
 omega
theorem reps_take {v : List En} {k : Nat} (h : k < v.length) : reps (v.take (k + 1)) = reps (v.take k) ++ [v[k].rep] := by
 unfold reps
 rw [List.take_succ_eq_append_getElem h, List.map_append]
 rfl
set_option maxHeartbeats 2000000 in
theorem do10_c (a b : List En) (op : Nat) (ho : op < 3) (ha : SmV a) (hb : SmV b) : Cn Tryz.prog 63 [vp a, vp b, .v (.int .i64 op)] (vp (lat (opb op) a b)) := by
 have la := ha.2.1
 have lb := hb.2.1
 have h0 : opb op false false = false := by
  match op, ho with
  | 0, _ => rfl
  | 1, _ => rfl
  | 2, _ => rfl
 refine cn_goT Tryz.func63 [] 3 (by kernel_rfl) rfl (by simp [go_sem, seval]) 14 (.dr [⟨(some 47), none, (.mv (.t 7))⟩, ⟨(some 48), none, (.mv (.t 11))⟩, ⟨(some 49), none, (.ia (.t 47) (.t 48) 1)⟩, ⟨(some 50), none, (.ld (.t 49) false 1)⟩, ⟨(some 51), none, (.mv (.t 0))⟩, ⟨(some 52), none, (.mv (.t 7))⟩, ⟨(some 53), none, (.mv (.t 11))⟩, ⟨(some 54), none, (.ia (.t 52) (.t 53) 1)⟩, ⟨(some 55), none, (.ld (.t 54) false 1)⟩, ⟨(some 56), none, (.ca 97 [(.t 51), (.t 55)])⟩, ⟨(some 57), none, (.mv (.t 1))⟩, ⟨(some 58), none, (.mv (.t 7))⟩, ⟨(some 59), none, (.mv (.t 11))⟩, ⟨(some 60), none, (.ia (.t 58) (.t 59) 1)⟩, ⟨(some 61), none, (.ld (.t 60) false 1)⟩, ⟨(some 62), none, (.ca 97 [(.t 57), (.t 61)])⟩, ⟨(some 63), none, (.mv (.t 2))⟩, ⟨(some 64), none, (.ca 70 [(.t 56), (.t 62), (.t 63)])⟩, ⟨(some 65), none, (.ca 96 [(.t 50), (.t 64)])⟩, ⟨(some 46), none, (.mv (.t 65))⟩, ⟨(some 66), none, (.ex (.t 46) 0)⟩, ⟨(some 67), none, (.ex (.t 46) 1)⟩] [⟨(some 12), none, (.al [(.v (.int .u64 0)), (.v (.int .u64 0)), (.sl [] .sh)])⟩, ⟨none, none, (.st (.t 12) (.t 66) 3)⟩, ⟨(some 13), none, (.mv (.t 67))⟩]) rfl (by kernel_rfl) ?_
 conv => enter [4, 6]; (unfold codeOf; simp only [Tryz.f63])
 simp only [pcT, Nat.reduceEqDiff, if_false, if_true, reduceIte]
 repeat (conv in (leafC _ _ _ _ _ _) => cbv)
 repeat (conv in (leafP _) => cbv)
 conv => enter [5, 1]; cbv
 try simp (maxSteps := 2000000) (disch := omega) only [go_sem, seval]
 repeat ((with_reducible refine And.intro ?_ ?_); focus exact and_t)
 refine pLoop.go (fun k => k <= a.length) (fun k => [(7, ns (srt ([] ++ reps (a.take k)))), (8, .v (.int .i64 (k : Nat)))]) (fun _ => []) (fun k => a.length - k) 0 [7, 8] ?_ ?_ ?_
 ·exact Nat.zero_le _
 ·simp only [List.take_zero, reps, List.map_nil, List.append_nil, srt_nil]
  try simp (maxSteps := 2000000) (disch := omega) only [go_sem, seval]
  repeat ((with_reducible refine And.intro ?_ ?_); focus exact and_t)
 ·rintro k hk
  try simp (maxSteps := 2000000) (disch := omega) only [go_sem, seval]
  repeat ((with_reducible refine And.intro ?_ ?_); focus exact and_t)
  (first | refine .mk ?_ ?_ | refine .mkt ?_ ?_ | refine .mkf ?_ ?_) <;> intro h <;> (try simp only [nrm_l] at h) <;> (try simp (maxSteps := 2000000) (disch := omega) only [go_sem, seval]) <;> (repeat ((with_reducible refine And.intro ?_ ?_); focus exact and_t))
  ·have hc_ := put10_c ([] ++ reps (a.take k)) a[k].rep (srt_len2 (xs := []) la (by simp))
   (first | refine .mk hc_ rfl ?_ | refine .rd hc_ rfl ?_)
   clear hc_
   try simp (maxSteps := 2000000) (disch := omega) only [go_sem, seval]
   repeat ((with_reducible refine And.intro ?_ ?_); focus exact and_t)
   refine ⟨k + 1, h, by omega, ?_, rfl⟩
   rw [reps_take h]
  ·rw [show k = a.length by omega, List.take_length]
   refine pLoop.go (fun k => k <= b.length) (fun k => [(7, ns (srt (reps a ++ reps (b.take k)))), (9, .v (.int .i64 (k : Nat)))]) (fun _ => []) (fun k => b.length - k) 0 [7, 9] ?_ ?_ ?_
   ·exact Nat.zero_le _
   ·simp only [List.take_zero, reps, List.map_nil, List.append_nil]
    try simp (maxSteps := 2000000) (disch := omega) only [go_sem, seval]
    repeat ((with_reducible refine And.intro ?_ ?_); focus exact and_t)
   ·rintro k hk
    try simp (maxSteps := 2000000) (disch := omega) only [go_sem, seval]
    repeat ((with_reducible refine And.intro ?_ ?_); focus exact and_t)
    (first | refine .mk ?_ ?_ | refine .mkt ?_ ?_ | refine .mkf ?_ ?_) <;> intro h2 <;> (try simp only [nrm_l] at h2) <;> (try simp (maxSteps := 2000000) (disch := omega) only [go_sem, seval]) <;> (repeat ((with_reducible refine And.intro ?_ ?_); focus exact and_t))
    ·have hc_ := put10_c (reps a ++ reps (b.take k)) b[k].rep (srt_len2 (xs := reps a) lb (by simp [reps]; omega))
     (first | refine .mk hc_ rfl ?_ | refine .rd hc_ rfl ?_)
     clear hc_
     try simp (maxSteps := 2000000) (disch := omega) only [go_sem, seval]
     repeat ((with_reducible refine And.intro ?_ ?_); focus exact and_t)
     refine ⟨k + 1, h2, by omega, ?_, rfl⟩
     rw [reps_take h2, List.append_assoc]
    ·rw [show k = b.length by omega, List.take_length]
     obtain ⟨L, hL⟩ : ∃ L, L = srt (reps a ++ reps b) := ⟨_, rfl⟩
     have hll : L.length <= 2097152 := by
      have h1 := srt_len (reps a ++ reps b)
      simp only [reps, List.length_append, List.length_map] at h1
      rw [hL]
      simp only [reps]
      omega
     have hlm : ∀ r ∈ L, r < M64 := by rw [hL]; exact rep_lt ha.1 hb.1
     have hlat : lat (opb op) a b = L.filterMap (latO (opb op) a b) := by rw [hL]; rfl
     rw [<- hL, hlat]
     clear hlat hL
     refine pLoop.go (fun k => k <= L.length) (fun k => [(10, .sl (((L.take k).filterMap (latO (opb op) a b)).map ec) (.r 72 3)), (11, .v (.int .i64 (k : Nat)))]) (fun _ => []) (fun k => L.length - k) 0 [10, 11, 72] ?_ ?_ ?_
     ·exact Nat.zero_le _
     ·simp only [List.take_zero, List.filterMap_nil, List.map_nil]
      try simp (maxSteps := 2000000) (disch := omega) only [go_sem, seval]
      repeat ((with_reducible refine And.intro ?_ ?_); focus exact and_t)
     ·rintro k hk
      have hfl : ((L.take k).filterMap (latO (opb op) a b)).length <= k := Nat.le_trans (List.length_filterMap_le _ _) (by simp; omega)
      try simp (maxSteps := 2000000) (disch := omega) only [go_sem, seval]
      repeat ((with_reducible refine And.intro ?_ ?_); focus exact and_t)
      (first | refine .mk ?_ ?_ | refine .mkt ?_ ?_ | refine .mkf ?_ ?_) <;> intro h3 <;> (try simp only [nrm_l] at h3) <;> (try simp (maxSteps := 2000000) (disch := omega) only [go_sem, seval]) <;> (repeat ((with_reducible refine And.intro ?_ ?_); focus exact and_t))
      ·have ka := knV_sm ha L[k]
       have kb := knV_sm hb L[k]
       have hol : (opS (opb op) (knV a L[k]) (knV b L[k])).length <= 80100 := by
        have h1 := opS_length (opb op) (knV a L[k]) (knV b L[k])
        omega
       have hof := of7_c L[k] (opS (opb op) (knV a L[k]) (knV b L[k])) (opS_nrm ka.1 kb.1) (by omega)
       have hst := fm_step (f := opb op) (a := a) (b := b) h3
       obtain ⟨e, ok, hE⟩ : ∃ e ok, ofS L[k] (opS (opb op) (knV a L[k]) (knV b L[k])) = (e, ok) := ⟨_, _, rfl⟩
       rw [latO_eq hE] at hst
       rw [hE] at hof
       (first | refine .mk (refKnown10_c a L[k] ha) rfl ?_ | refine .rd (refKnown10_c a L[k] ha) rfl ?_)
       try simp (maxSteps := 2000000) (disch := omega) only [go_sem, seval]
       repeat ((with_reducible refine And.intro ?_ ?_); focus exact and_t)
       (first | refine .mk (refKnown10_c b L[k] hb) rfl ?_ | refine .rd (refKnown10_c b L[k] hb) rfl ?_)
       try simp (maxSteps := 2000000) (disch := omega) only [go_sem, seval]
       repeat ((with_reducible refine And.intro ?_ ?_); focus exact and_t)
       have hc_ := do_c (knV a L[k]) (knV b L[k]) op ka.1 kb.1 ho (by omega) (by omega)
       (first | refine .mk hc_ rfl ?_ | refine .rd hc_ rfl ?_)
       clear hc_
       try simp (maxSteps := 2000000) (disch := omega) only [go_sem, seval]
       repeat ((with_reducible refine And.intro ?_ ?_); focus exact and_t)
       cases ok with
       | true =>
         (first | refine .mk (hof) rfl ?_ | refine .rd (hof) rfl ?_)
         try simp (maxSteps := 2000000) (disch := omega) only [go_sem, seval]
         repeat ((with_reducible refine And.intro ?_ ?_); focus exact and_t)
         refine ⟨k + 1, h3, by omega, ?_, rfl⟩
         rw [hst]
         simp
         rfl
       | false =>
         (first | refine .mk (hof) rfl ?_ | refine .rd (hof) rfl ?_)
         try simp (maxSteps := 2000000) (disch := omega) only [go_sem, seval]
         repeat ((with_reducible refine And.intro ?_ ?_); focus exact and_t)
         refine ⟨k + 1, h3, by omega, ?_, rfl⟩
         rw [hst]
         simp
      ·rw [show k = L.length by omega, List.take_length]
theorem SmV.g {v : List En} (h : SmV v) : v.length <= 1152921504606846976 /\ ∀ e ∈ v, e.holes.length <= 1152921504606846976 := ⟨by have := h.2.1; omega, fun e he => by have := h.2.2 e he; omega⟩
theorem WV.smv {C : Nat -> List Nat} {R : List Nat} {v : List En} (h : WV C R v) (ok : OkC C R) : SmV v := (h.bv ok.1 ok.2).mono (Nat.le_refl _) (by omega)
theorem few_smv {k : List Fg} (h : fewK k = true) (hr : RightK k) {f : Fg} (hf : f ∈ k) : SmV f.vec := by
 have := fewB_iff.1 ((fewK_iff.1 h).1 f hf).2
 exact ⟨(hr f hf).2, by omega, fun e he => by have := this.1 e he; omega⟩
theorem sl_shape {D : Nat -> Nat -> Prop} {w : World} {x : Value} {es : List (List PV)} {o : Ow} (h : Dat D w x (.sl es o)) : ∃ s : Sv, x = sv s /\ s.2.1 = es.length := by
 obtain ⟨ad, cap, sz, b, off, f, e1, _⟩ := (Rel.dat (ρ := fun _ => 0) (nb := 0) h).inv_sl
 exact ⟨(ad, es.length, cap), e1, rfl⟩
theorem kp_row {D : Nat -> Nat -> Prop} {n0 : Nat} {w : World} {v : Value} {k : List Fg} (h : Dat D w v (kp k)) (hD : ∀ b o, D b o -> b < n0) :
 ∃ a cap fs, v = .slice a k.length cap /\ ∃ hl : fs.length = k.length, RowF n0 w a cap fs /\ ∀ i (h : i < fs.length), Dat D w (sv fs[i].1) (rg (k[i]'(hl ▸ h)).items) /\ Dat D w (sv fs[i].2) (vp (k[i]'(hl ▸ h)).vec) := by
 unfold kp at h
 generalize he : k.map fc = es at h
 cases h with
 | sl a cap sz es o b off u hc hz hm ha hsz hd hx =>
   have hl : es.length = k.length := by rw [<- he]; simp
   have g : ∀ i (h : i < k.length), es[i]? = some (fc k[i]) := fun i h => by rw [<- he]; exact map_at h
   have each : ∀ i, i < k.length -> ∃ f : Fv, ∀ h : i < k.length, (sz = 2 /\ u (i * 2) = sv f.1 /\ u (i * 2 + 1) = sv f.2) /\ Dat D w (sv f.1) (rg k[i].items) /\ Dat D w (sv f.2) (vp k[i].vec) := fun i hi => by
    obtain rfl : 2 = sz := hsz i _ (g i hi)
    have d0 : Dat D w (u (i * 2 + 0)) (rg k[i].items) := hx i _ 0 _ (g i hi) rfl
    have d1 : Dat D w (u (i * 2 + 1)) (vp k[i].vec) := hx i _ 1 _ (g i hi) rfl
    obtain ⟨s0, e0, _⟩ := sl_shape d0
    obtain ⟨s1, e1, _⟩ := sl_shape d1
    rw [e0] at d0
    rw [e1] at d1
    exact ⟨(s0, s1), fun _ => ⟨⟨rfl, e0, e1⟩, d0, d1⟩⟩
   obtain ⟨F, hF⟩ := Go.Deep.choose_lt each
   refine ⟨a, cap, (List.range k.length).map F, by rw [hl], by simp, ⟨by simp; omega, hm, fun hne => ?_⟩, fun i hi => ?_⟩
   ·have hpos : 0 < k.length := by
     rcases Nat.eq_zero_or_pos k.length with h0 | h0
     ·rw [h0] at hne; simp at hne
     ·exact h0
    obtain ⟨⟨rfl, _⟩, _⟩ := hF 0 hpos hpos
    have hes : es ≠ [] := by intro e; subst e; simp at hl; omega
    refine ⟨b, off, ha hes, hD _ _ (hd 0 (by omega)).1, fun i hi => ?_⟩
    have hi' : i < k.length := by simpa using hi
    obtain ⟨⟨_, e0, e1⟩, _⟩ := hF i hi' hi'
    have c0 := (hd (i * 2) (by omega)).2.1
    have c1 := (hd (i * 2 + 1) (by omega)).2.1
    rw [e0] at c0
    rw [e1] at c1
    simp only [List.getElem_map, List.getElem_range]
    exact ⟨c0, c1⟩
   ·have hi' : i < k.length := by simpa using hi
    simp only [List.getElem_map, List.getElem_range]
    exact (hF i hi' hi').2
theorem wl_mem {hit : Nat -> Bool} {p : Nat × Fv} : ∀ {l : List Fv} {n : Nat}, p ∈ wl hit n l -> ∃ h : p.1 - n < l.length, n <= p.1 /\ p.2 = l[p.1 - n] /\ hit p.1 = true
 | [], n, h => by cases h
 | f :: l, n, h => by
   unfold wl at h
   have rst : p ∈ wl hit (n + 1) l -> ∃ h : p.1 - n < (f :: l).length, n <= p.1 /\ p.2 = (f :: l)[p.1 - n] /\ hit p.1 = true := fun h => by
    obtain ⟨h1, h2, h3, h4⟩ := wl_mem h
    refine ⟨by simp; omega, by omega, ?_, h4⟩
    rw [h3]
    have e : p.1 - n = (p.1 - (n + 1)) + 1 := by omega
    simp only [e, List.getElem_cons_succ]
   split at h
   ·rename_i hh
    rcases List.mem_cons.1 h with rfl | h
    ·exact ⟨by simp, Nat.le_refl _, by simp, hh⟩
    ·exact rst h
   ·exact rst h
theorem fold_same {α : Type} {k : List Fg} {fs : List Fv} (hl : fs.length = k.length) (item : Nat) (step : α -> Nat -> Fg -> α) (a0 : α) :
 (wl (fun j => mem (k.getD j default).items item) 0 fs).foldl (fun a p => step a p.1 (k.getD p.1 default)) a0 = (withF item 0 k).foldl (fun a p => step a p.1 p.2) a0 := by
 have key : ∀ j, j <= k.length -> (wl (fun j => mem (k.getD j default).items item) 0 (fs.take j)).foldl (fun a p => step a p.1 (k.getD p.1 default)) a0 = (withF item 0 (k.take j)).foldl (fun a p => step a p.1 p.2) a0 := by
  intro j
  induction j with
  | zero => intro _; rfl
  | succ j ih =>
    intro hj
    rw [wl_take (by omega), withF_take item (by omega), List.foldl_append, List.foldl_append, ih (by omega)]
    have e : k.getD j default = k[j] := by simp [List.getD_eq_getElem?_getD, List.getElem?_eq_getElem (show j < k.length by omega)]
    simp only [e]
    split
    ·show step _ j (k.getD j default) = step _ j k[j]
     rw [e]
    ·rfl
 have := key k.length (Nat.le_refl _)
 rwa [<- hl, List.take_length, hl, List.take_length] at this
def withP (k : List Fg) (i : Nat) : PV := .fn (.func 72) [] [.cp [kp k] 0, .cp [.v (.int .u64 i)] 0]
attribute [go_sem] withP
theorem kwith_c (k : List Fg) (i : Nat) : Cn Tryz.prog 45 [kp k, .v (.int .u64 i)] (withP k i) := by
 refine cn_go Tryz.func45 [] 2 (by kernel_rfl) rfl (by simp [go_sem, seval]) ?_
 conv => arg 4; cbv
 conv => enter [5, 1]; cbv
 try simp (maxSteps := 2000000) (disch := omega) only [go_sem, seval]
 repeat ((with_reducible refine And.intro ?_ ?_); focus exact and_t)
theorem at1_c (v : List En) (i : Nat) (f : Fg) (hv : SmV v) (hf : SmV f.vec) : Cn Tryz.prog 60 [vp v, .v (.int .i64 i), fp f] (vp (lat fUnion v f.vec)) := by
 refine cn_go Tryz.func60 [] 3 (by kernel_rfl) rfl (by simp [go_sem, seval]) ?_
 conv => arg 4; cbv
 conv => enter [5, 1]; cbv
 try simp (maxSteps := 2000000) (disch := omega) only [go_sem, seval]
 repeat ((with_reducible refine And.intro ?_ ?_); focus exact and_t)
 (first | refine .mk (lUnion_c v f.vec hv hf) rfl ?_ | refine .rd (lUnion_c v f.vec hv hf) rfl ?_)
 try simp (maxSteps := 2000000) (disch := omega) only [go_sem, seval]
 repeat ((with_reducible refine And.intro ?_ ?_); focus exact and_t)
end Go.Proofs.YtjimggclhlnfbaaGreat
namespace Go.Proofs.YtjimggclhlnfbaaGreat
open Go.RowKit Go.Maps
attribute [-go_sem] nat_succ
def MapS (D : DV) (S : List Nat) : Prop := IsMap D /\ ∀ r, has D (kR r) = decide (r ∈ S)
theorem MapS.nil : MapS (.map []) [] := ⟨⟨[], rfl⟩, fun r => by simp [has]⟩
theorem MapS.put {D : DV} {S : List Nat} (h : MapS D S) (r : Nat) (v : DV) : MapS (D.put (kR r) v) (S ++ [r]) := by
 refine ⟨h.1.put _ _, fun s => ?_⟩
 by_cases e : s = r
 ·subst e
  rw [has_put_same h.1 (kR_key _)]; simp
 ·rw [has_put_other (fun h => e (kR_inj h)), h.2 s]; simp [e]
def MI (B : Nat) (w : World) (S : List Nat) : Prop := ∃ D, w.ownsMap Tryz.prog 28 rV B S.length D /\ MapS D S
theorem MI.made (w : World) : MI w.heap.size (w.alloc (.map #[] 0)) [] := ⟨_, World.ownsMap_made _ _ _ _, MapS.nil⟩
theorem MI.keep {B : Nat} {w w' : World} {S : List Nat} (h : MI B w S) (hb : w'.heap[B]? = w.heap[B]?) : MI B w' S := by
 obtain ⟨D, h1, h2⟩ := h
 exact ⟨D, ownsMap_block h1 hb, h2⟩
theorem MI.lt {B : Nat} {w : World} {S : List Nat} (h : MI B w S) : B < w.heap.size := by
 obtain ⟨D, h1, _⟩ := h
 exact h1.lt
theorem wpList_putS {w : World} {ops : Array Oper} {rest : List Oper} {o : Oper} {a : Act} {Q : Exit -> Act -> World -> Prop} (hg : o.guard = none) (m x v : Operand)
 (hop : o.op = .mapUpdate 48 m x v \/ o.op = .insert 48 m x v) {B : Nat} {S : List Nat} (hm : a.eval m = .map (some B)) (h : MI B w S) (hn : S.length < maxLen) {r : Nat} (hr : r < M64) (hx : a.eval x = .int .u64 (r : Nat))
 (hK : ∀ w', MI B w' (S ++ [r]) -> w.grownBy w' (some B) -> wpList Tryz.prog ops Q rest (a.put o.dst undef) w') : wpList Tryz.prog ops Q (o :: rest) a w := by
 obtain ⟨D, h1, h2⟩ := h
 refine wpList_plain hg fun K' hK' => ?_
 obtain ⟨w', hrun, r1, r2⟩ := h1.update law_u Tryz.underlying48 hn (key_r hr) (val := a.eval v) rfl
 unfold Oper.wp
 rcases hop with hop | hop
 ·simp [execOp, hop, hm, hx, hrun, Result.andThen]
  exact hK' _ _ (hK w' ⟨_, by simpa using r1, h2.put r _⟩ r2)
 ·simp [execOp, hop, hm, hx, hrun, Result.andThen]
  exact hK' _ _ (hK w' ⟨_, by simpa using r1, h2.put r _⟩ r2)
def rdG (n0 : Nat) (w : World) (b o : Nat) (f : Fg) : Prop := (∃ hv, w.cell? ⟨b, o, none⟩ = some hv /\ RdR 0 n0 w hv f.items) /\ ∃ ad n c, w.cell? ⟨b, o + 1, none⟩ = some (.slice ad n c)
theorem dat_rdg {D : Nat -> Nat -> Prop} {w : World} {x : Value} {k : List Fg} (h : Dat D w x (kp k)) (hD : ∀ b o, D b o -> b < w.heap.size) (hb : RightK k) : RdSl 2 (rdG w.heap.size) 0 w.heap.size w x k := by
 unfold kp at h
 generalize he : k.map fc = es at h
 cases h with
 | sl a cap sz es o b off u hc hz hm ha hsz hd hx =>
   have hl : es.length = k.length := by rw [<- he]; simp
   refine ⟨a, cap, by rw [hl], by omega, hm, fun hne => ?_⟩
   have hpos : 0 < k.length := List.length_pos_iff.2 hne
   have g : ∀ i (h : i < k.length), es[i]? = some (fc k[i]) := fun i h => by rw [<- he]; exact map_at h
   obtain rfl : 2 = sz := hsz 0 _ (g 0 hpos)
   have hes : es ≠ [] := by intro e; subst e; simp at hl; omega
   have hdlt : b < w.heap.size := hD _ _ (hd 0 (by omega)).1
   refine ⟨b, off, ha hes, Nat.zero_le _, hdlt, fun i hi => ?_⟩
   have e0 := hx i _ 0 _ (g i hi) rfl
   have e1 := hx i _ 1 _ (g i hi) rfl
   have c0 := (hd (i * 2 + 0) (by omega)).2.1
   have c1 := (hd (i * 2 + 1) (by omega)).2.1
   obtain ⟨ad, c, sz', b', off', f', q, _⟩ := (Rel.dat (ρ := fun _ => 0) (nb := 0) (show Dat D w (u (i * 2 + 1)) (.sl (k[i].vec.map ec) .sh) from e1)).inv_sl
   rw [q] at c1
   exact ⟨⟨_, c0, dat_rdr e0 hD (hb _ (List.getElem_mem hi)).1.lt⟩, _, _, _, c1⟩
theorem RdG.keep {n0 : Nat} {w w' : World} {v : Value} {k : List Fg} (h : RdSl 2 (rdG n0) 0 n0 w v k) (hb : ∀ j, j < n0 -> w'.heap[j]? = w.heap[j]?) : RdSl 2 (rdG n0) 0 n0 w' v k :=
 RdSl.keep h (Nat.le_refl _) (Nat.le_refl _) fun b o x _ h2 ⟨⟨hv, c0, c1⟩, ad, n, c, c2⟩ =>
  ⟨⟨hv, (World.cell?_of_block (a := ⟨b, o, none⟩) (hb b h2)).trans c0, c1.keep (Nat.le_refl _) (Nat.le_refl _) fun b _ h => hb b h⟩, ad, n, c, (World.cell?_of_block (a := ⟨b, o + 1, none⟩) (hb b h2)).trans c2⟩
theorem CI_take {k : List Fg} {i : Nat} (hi : i < k.length) : CI (k.take (i + 1)) = CI (k.take i) ++ cuts k[i].items := by
 unfold CI
 rw [List.take_succ_eq_append_getElem hi, List.flatMap_append]
 simp
theorem cuts_take {l : List Iv} {j : Nat} (hj : j < l.length) : cuts (l.take (j + 1)) = cuts (l.take j) ++ cut1 l[j] := by
 unfold cuts
 rw [List.take_succ_eq_append_getElem hj, List.flatMap_append]
 simp
theorem cut1_no {s : Iv} (h : s.hi = M64 - 1) : cut1 s = [s.lo] := by unfold cut1; rw [if_neg (by omega)]
theorem cut1_yes {s : Iv} (h : s.hi < M64 - 1) : cut1 s = [s.lo] ++ [s.hi + 1] := by unfold cut1; rw [if_pos h]; rfl
theorem next_no (w : World) : Calls Tryz.prog 27 #[.int .u64 18446744073709551615] w fun e w' => e = .returned (.tuple #[.int .u64 0, .bool false]) /\ w' = w := by
 go_enter Tryz.func27, Tryz.ntmps27
 go_wp2
 all_goals (refine bodyPost_ret (results_tmp2 rfl _ _ _) rfl ?_; refine ⟨?_, rfl⟩; simp; try omega)
theorem next_yes (x : Nat) (hx : x < 18446744073709551615) (w : World) : Calls Tryz.prog 27 #[.int .u64 (x : Nat)] w fun e w' => e = .returned (.tuple #[.int .u64 ((x : Int) + 1), .bool true]) /\ w' = w := by
 go_enter Tryz.func27, Tryz.ntmps27
 go_wp2
 all_goals (refine bodyPost_ret (results_tmp2 rfl _ _ _) rfl ?_; refine ⟨?_, rfl⟩; simp; try omega)
theorem prev_no (w : World) : Calls Tryz.prog 28 #[.int .u64 0] w fun e w' => e = .returned (.tuple #[.int .u64 0, .bool false]) /\ w' = w := by
 go_enter Tryz.func28, Tryz.ntmps28
 go_wp2
 all_goals (refine bodyPost_ret (results_tmp2 rfl _ _ _) rfl ?_; refine ⟨?_, rfl⟩; simp; try omega)
theorem prev_yes (x : Nat) (hx : x < 18446744073709551615) (w : World) : Calls Tryz.prog 28 #[.int .u64 ((x : Int) + 1)] w fun e w' => e = .returned (.tuple #[.int .u64 (x : Nat), .bool true]) /\ w' = w := by
 go_enter Tryz.func28, Tryz.ntmps28
 go_wp2
 all_goals (refine bodyPost_ret (results_tmp2 rfl _ _ _) rfl ?_; refine ⟨?_, rfl⟩; simp; try omega)
def RgS (B r n : Nat) (S : List Nat) (keep : Nat -> Bool) (g : Nat) (left : Lit -> Bool) (w : World) : Prop :=
 ∃ D, w.ranges Tryz.prog 28 rV B r n D left g /\ IsMap D /\ (∀ x, has D (kR x) = (decide (x ∈ S) && (left (kR x) || keep x))) /\ ∀ x, left (kR x) = true -> x ∈ S
def GotS (S : List Nat) (left : Lit -> Bool) (l : List Nat) : Prop := l.Nodup /\ ∀ x, x ∈ l ↔ x ∈ S /\ left (kR x) = false
theorem strikeB {left : Lit -> Bool} {r x : Nat} : (left (kR r) && !(kR r).sameKey (kR x)) = (left (kR r) && !decide (r = x)) := by
 have h : (kR r).sameKey (kR x) = decide (r = x) := by
  simp [kR, Lit.sameKey]
  omega
 rw [h]
section
variable {B r n g x : Nat} {S : List Nat} {kp : Nat -> Bool} {left : Lit -> Bool} {w : World} {D : DV}
theorem RgS.next (hD : IsMap D) (hh : ∀ y, has D (kR y) = (decide (y ∈ S) && (left (kR y) || kp y))) (hl : ∀ y, left (kR y) = true -> y ∈ S) (hx : left (kR x) = true) (hk : kp x = true)
 (h : w.ranges Tryz.prog 28 rV B r n D (fun z => left z && !z.sameKey (kR x)) g) : RgS B r n S kp g (fun z => left z && !z.sameKey (kR x)) w := by
 refine ⟨D, h, hD, fun y => ?_, fun y hy => hl y ?_⟩
 ·dsimp only
  rw [hh y, strikeB]
  by_cases e : y = x
  ·subst e; simp [hk]
  ·simp [e]
 ·dsimp only at hy
  cases h0 : left (kR y) with
  | true => rfl
  | false => rw [h0] at hy; simp at hy
theorem RgS.del (hD : IsMap D) (hh : ∀ y, has D (kR y) = (decide (y ∈ S) && (left (kR y) || kp y))) (hl : ∀ y, left (kR y) = true -> y ∈ S) (hk : kp x = false)
 (h : w.ranges Tryz.prog 28 rV B r n (D.del (kR x)) (fun z => (left z && !z.sameKey (kR x)) && !z.sameKey (kR x)) g) : RgS B r n S kp g (fun z => left z && !z.sameKey (kR x)) w := by
 rw [Maps.strike_twice] at h
 refine ⟨_, h, hD.del _, fun y => ?_, fun y hy => hl y ?_⟩
 ·dsimp only
  rw [strikeB]
  by_cases e : y = x
  ·subst e; rw [has_del_same]; simp [hk]
  ·rw [has_del_other (fun h => e (kR_inj h)), hh y]; simp [e]
 ·dsimp only at hy
  cases h0 : left (kR y) with
  | true => rfl
  | false => rw [h0] at hy; simp at hy
theorem RgS.keep {w' : World} (h : RgS B r n S kp g left w) (hb : w'.heap[B]? = w.heap[B]?) (hr : w'.heap[r]? = w.heap[r]?) : RgS B r n S kp g left w' := by
 obtain ⟨D, h1, h2⟩ := h
 exact ⟨D, ranges_block h1 hb hr, h2⟩
theorem GotS.nil (h : ∀ y, left (kR y) = true ↔ y ∈ S) : GotS S left [] :=
 ⟨List.nodup_nil, fun y => by
  constructor
  ·intro h; cases h
  ·rintro ⟨h1, h2⟩
   rw [(h y).2 h1] at h2
   cases h2⟩
theorem GotS.push {l : List Nat} (h : GotS S left l) (hx : left (kR x) = true) (hS : x ∈ S) : GotS S (fun z => left z && !z.sameKey (kR x)) (l ++ [x]) := by
 refine ⟨List.nodup_append.2 ⟨h.1, by simp, fun a ha b hb e => ?_⟩, fun y => ?_⟩
 ·rw [List.mem_singleton] at hb
  rw [e, hb] at ha
  have := ((h.2 x).1 ha).2
  rw [hx] at this
  cases this
 ·dsimp only
  rw [strike_iff, List.mem_append, List.mem_singleton, h.2 y]
  constructor
  ·rintro (⟨h1, h2⟩ | rfl)
   ·exact ⟨h1, .inl h2⟩
   ·exact ⟨hS, .inr rfl⟩
  ·rintro ⟨h1, h2 | h2⟩
   ·exact .inl ⟨h1, h2⟩
   ·exact .inr h2
end
def kpB (k : List Fg) (x : Nat) : Bool := decide (x = 0) || !decide (membK k (x - 1) = membK k x)
theorem starts_sorted {k : List Fg} (hr : RightK k) {l : List Nat} (hp : l.Pairwise (· <= ·)) (hn : l.Nodup) (hm : ∀ x, x ∈ l ↔ x ∈ 0 :: CI k /\ (x = 0 \/ membK k (x - 1) ≠ membK k x)) : l = startsK k := by
 have ha : Asc l := by
  refine (List.pairwise_and_iff.2 ⟨hp, hn⟩).imp ?_
  intro a b h
  have := h.1
  have := h.2
  omega
 refine asc_unique ha (startsK_asc k) fun x => ?_
 rw [hm, startsK, List.mem_filter, starts, srt_mem, allS]
 have e1 : (k.map Fg.items).flatMap cuts = CI k := by unfold CI; rw [List.flatMap_map]
 rw [e1]
 simp only [Bool.or_eq_true, decide_eq_true_eq, Bool.not_eq_true']
 refine and_congr_right fun _ => or_congr_right ?_
 rw [ne_eq, membK_eq, Bool.not_eq_true]
end Go.Proofs.YtjimggclhlnfbaaGreat
namespace Go.Proofs.YtjimggclhlnfbaaGreat
open Go.RowKit
def InvD {α : Type} (D0 : Nat -> Nat -> Prop) (n : Nat) (pv : α -> PV) (P : α -> Prop) (W : World) (u : Value) (a : α) : Prop :=
 P a /\ ∃ D : Nat -> Nat -> Prop, GL D W /\ (∀ b o, D b o -> b < W.heap.size /\ b ≠ n /\ b ≠ n + 2 /\ b ≠ n + 3) /\ (∀ b o, D b o -> D0 b o \/ n <= b) /\ (∀ b o, D0 b o -> D b o) /\ Dat D W u (pv a)
section
variable {α : Type} {D0 : Nat -> Nat -> Prop} {pv : α -> PV} {P : α -> Prop} {w W A B : World} {u : Value} {a : α}
theorem InvD.start {u0 : Value} (h0 : Dat D0 w u0 (.sl [] .sh)) (hG : GL D0 w) (hD : ∀ b o, D0 b o -> b < w.heap.size) (hb : Below w.heap.size w W) (hP : P a) (hp : pv a = .sl [] .sh) : InvD D0 w.heap.size pv P W u0 a := by
 have hw : ∀ b o x, D0 b o -> w.cell? ⟨b, o, none⟩ = some x -> W.cell? ⟨b, o, none⟩ = some x := fun b o x hd hx => (hb.cell (p := ⟨b, o, none⟩) (hD b o hd)).trans hx
 refine ⟨hP, D0, hG.mono (fun _ _ h => h) hw, fun b o h => ?_, fun _ _ h => .inl h, fun _ _ h => h, ?_⟩
 ·have := hD b o h
  have := hb.size
  exact ⟨by omega, by omega, by omega, by omega⟩
 ·rw [hp]
  exact h0.mono (fun _ _ h => h) hw
theorem InvD.shape {n : Nat} (h : InvD D0 n pv P W u a) (hp : ∃ es, pv a = .sl es .sh) : ∃ ad n c, u = .slice ad n c := by
 obtain ⟨_, D, _, _, _, _, hd⟩ := h
 obtain ⟨es, e⟩ := hp
 rw [e] at hd
 obtain ⟨s, rfl, _⟩ := sl_shape hd
 exact ⟨_, _, _, rfl⟩
theorem InvD.keep {n : Nat} (h : InvD D0 n pv P A u a) (hk : Keep (fun k => k = n \/ k = n + 2 \/ k = n + 3) A B) : InvD D0 n pv P B u a := by
 obtain ⟨hP, D, h1, h2, h3, h4, h5⟩ := h
 have hw : ∀ b o x, D b o -> A.cell? ⟨b, o, none⟩ = some x -> B.cell? ⟨b, o, none⟩ = some x := fun b o x hd hx =>
  (World.cell?_of_block (a := ⟨b, o, none⟩) (hk.block b (h2 b o hd).1 (by have := h2 b o hd; omega))).trans hx
 exact ⟨hP, D, h1.mono (fun _ _ h => h) hw, fun b o hd => ⟨Nat.lt_of_lt_of_le (h2 b o hd).1 hk.size, (h2 b o hd).2⟩, h3, h4, h5.mono (fun _ _ h => h) hw⟩
theorem fp_dat {D : Nat -> Nat -> Prop} {f : Fv} {g : Fg} (h0 : Dat D w (sv f.1) (rg g.items)) (h1 : Dat D w (sv f.2) (vp g.vec)) : Dat D w (.agg #[sv f.1, sv f.2]) (fp g) := by
 refine .agg _ _ rfl (fun i hi => ?_) fun i p hp => ?_
 ·match i, hi with
  | 0, _ => rfl
  | 1, _ => rfl
 ·match i, hp with
  | 0, hp => cases hp; exact h0
  | 1, hp => cases hp; exact h1
  | i + 2, hp => simp [fc] at hp
theorem InvD.step {F1 : FuncId} {i : Nat} {f : Fv} {g : Fg} {a' : α} (h : InvD D0 w.heap.size pv P W u a) (hD : ∀ b o, D0 b o -> b < w.heap.size) (hb : Below w.heap.size w W) (hs : w.heap.size + 4 <= W.heap.size) (h0 : Dat D0 w (sv f.1) (rg g.items)) (h1 : Dat D0 w (sv f.2) (vp g.vec))
 (hc : Cn Tryz.prog F1 [pv a, .v (.int .i64 i), fp g] (pv a')) (hP : P a') :
 Calls Tryz.prog F1 #[u, .int .i64 (i : Nat), .agg #[sv f.1, sv f.2]] W fun e W' => ∃ u', e = .returned u' /\ InvD D0 w.heap.size pv P W' u' a' /\ Keep (RowI (w.heap.size + 4) W) W W' := by
 obtain ⟨_, D, g1, g2, g3, g4, g5⟩ := h
 have hw : ∀ b o x, D0 b o -> w.cell? ⟨b, o, none⟩ = some x -> W.cell? ⟨b, o, none⟩ = some x := fun b o x hd hx => (hb.cell (p := ⟨b, o, none⟩) (hD b o hd)).trans hx
 refine (cn_w hc g1 (fun b o h => (g2 b o h).1) rfl (fun j p hp => ?_)).mono ?_
 ·match j, hp with
  | 0, hp => cases hp; exact g5
  | 1, hp => cases hp; exact .v _
  | 2, hp => cases hp; exact (fp_dat h0 h1).mono g4 hw
  | j + 3, hp => simp at hp
 ·rintro e W' ⟨v, rfl, hb', hd⟩
  refine ⟨v, rfl, ⟨hP, _, g1.mono (fun _ _ h => .inl h) fun b o x hd hx => (hb'.cell (p := ⟨b, o, none⟩) (g2 b o hd).1).trans hx, fun b o h => ?_, fun b o h => ?_, fun b o h => .inl (g4 b o h), hd⟩, Keep.of_below' hb' (Nat.le_refl _)⟩
  ·rcases h with h | h
   ·exact ⟨Nat.lt_of_lt_of_le (g2 b o h).1 hb'.size, (g2 b o h).2⟩
   ·exact ⟨h.2, by omega, by omega, by omega⟩
  ·rcases h with h | h
   ·exact g3 b o h
   ·exact .inr (by omega)
theorem InvD.done (h : InvD D0 w.heap.size pv P W u a) : Dat (fun b o => D0 b o \/ (w.heap.size <= b /\ b < W.heap.size)) W u (pv a) := by
 obtain ⟨_, D, g1, g2, g3, g4, g5⟩ := h
 exact g5.mono (fun b o h => (g3 b o h).imp id fun h' => ⟨h', (g2 b o h).1⟩) fun _ _ _ _ h => h
end
theorem cp_inv {D : Nat -> Nat -> Prop} {w : World} {x : Value} {p : PV} (h : Dat D w x (.cp [p] 0)) : ∃ b o y, x = .pointer (some ⟨b, o, none⟩) /\ D b o /\ w.cell? ⟨b, o, none⟩ = some y /\ Dat D w y p := by
 obtain ⟨b, off, f, e, h1, h2⟩ := (Rel.dat (ρ := fun _ => 0) (nb := 0) h).inv_cp
 have := h1 0 (by simp)
 exact ⟨b, off, f 0, e, by simpa using this.1, by simpa using this.2.1, h2 0 p rfl⟩
theorem withP_inv {D : Nat -> Nat -> Prop} {w : World} {x : Value} {k : List Fg} {i : Nat} (h : Dat D w x (withP k i)) : ∃ bk ok bi oi v, x = .func (.func 72) #[] #[.pointer (some ⟨bk, ok, none⟩), .pointer (some ⟨bi, oi, none⟩)] /\ D bk ok /\ D bi oi /\ w.cell? ⟨bk, ok, none⟩ = some v /\ w.cell? ⟨bi, oi, none⟩ = some (.int .u64 (i : Nat)) /\ Dat D w v (kp k) := by
 unfold withP at h
 cases h with
 | fn f va vb fs cs h1 h2 h3 h4 =>
   rw [Array.size_eq_zero_iff.1 h1]
   obtain ⟨l⟩ := vb
   match l, h2 with
   | [y, z], _ =>
     obtain ⟨bk, ok, v, e1, d1, c1, q1⟩ := cp_inv (h4 0 _ rfl)
     obtain ⟨bi, oi, u, e2, d2, c2, q2⟩ := cp_inv (h4 1 _ rfl)
     rw [q2.v_inv] at c2
     simp at e1 e2
     subst e1 e2
     exact ⟨bk, ok, bi, oi, v, rfl, d1, d2, c1, c2, q1⟩
theorem nil_inv {D : Nat -> Nat -> Prop} {w : World} {x : Value} (h : Dat D w x (.sl [] .sh)) : ∃ ad c, x = .slice ad 0 c := by
 obtain ⟨⟨a, n, c⟩, rfl, e⟩ := sl_shape h
 simp only [List.length_nil] at e
 subst e
 exact ⟨a, c, rfl⟩
def SzK (k : List Fg) : Prop := k.length <= 1152921504606846976 /\ ∀ f ∈ k, f.items.length <= 1152921504606846976 /\ f.vec.length <= 1152921504606846976 /\ ∀ e ∈ f.vec, e.holes.length <= 1152921504606846976
theorem with_iter {D : Nat -> Nat -> Prop} {w : World} {k : List Fg} {i bk ok bi oi : Nat} {a : Option Addr} {cap : Nat} {fs : List Fv} (hr : RightK k) (hz : SzK k) (hG : GL D w) (hD : ∀ b o, D b o -> b < w.heap.size) (d1 : D bk ok) (d2 : D bi oi) (c1 : w.cell? ⟨bk, ok, none⟩ = some (.slice a k.length cap)) (c2 : w.cell? ⟨bi, oi, none⟩ = some (.int .u64 (i : Nat)))
 (hl : fs.length = k.length) (hrow : RowF w.heap.size w a cap fs) (hfs : ∀ j (h : j < fs.length), Dat D w (sv fs[j].1) (rg (k[j]'(hl ▸ h)).items) /\ Dat D w (sv fs[j].2) (vp (k[j]'(hl ▸ h)).vec)) {W : World} (hb : Below w.heap.size w W) :
 IterAt2 Tryz.prog 72 #[.pointer (some ⟨bk, ok, none⟩), .pointer (some ⟨bi, oi, none⟩)] encF (fun _ => False) (PtF w.heap.size bk bi) (wl (fun j => mem (k.getD j default).items i) 0 fs) W := by
 have hw : ∀ b o x, D b o -> w.cell? ⟨b, o, none⟩ = some x -> W.cell? ⟨b, o, none⟩ = some x := fun b o x hd hx => (hb.cell (p := ⟨b, o, none⟩) (hD b o hd)).trans hx
 refine with1_at fs _ a cap bk ok bi oi w.heap.size i W ?_ (by rw [hl]; exact hw _ _ _ d1 c1) (hw _ _ _ d2 c2) hb.size fun w' j hj hlow hsz => ?_
 ·obtain ⟨h1, h2, h3⟩ := hrow
  refine ⟨h1, h2, fun hne => ?_⟩
  obtain ⟨b, off, e1, e2, e3⟩ := h3 hne
  exact ⟨b, off, e1, e2, fun j hj => ⟨(hb.cell (p := ⟨b, off + j * 2, none⟩) e2).trans (e3 j hj).1, (hb.cell (p := ⟨b, off + j * 2 + 1, none⟩) e2).trans (e3 j hj).2⟩⟩
 ·have hw' : ∀ b o x, D b o -> w.cell? ⟨b, o, none⟩ = some x -> w'.cell? ⟨b, o, none⟩ = some x := fun b o x hd hx => (World.cell?_of_block (a := ⟨b, o, none⟩) (hlow b (hD b o hd))).trans (hw b o x hd hx)
  have hj' : j < k.length := hl ▸ hj
  have hm := List.getElem_mem hj'
  have e : k.getD j default = k[j] := by rw [List.getD_eq_getElem?_getD, List.getElem?_eq_getElem hj']; rfl
  simp only [e]
  refine (cn_w (rhas_c k[j].items i (hr _ hm).1 (hz.2 _ hm).1) (hG.mono (fun _ _ h => h) hw') (fun b o h => Nat.lt_of_lt_of_le (hD b o h) hsz) rfl (fun t p hp => ?_)).mono ?_
  ·match t, hp with
   | 0, hp => cases hp; exact (hfs j hj).1.mono (fun _ _ h => h) hw'
   | 1, hp => cases hp; exact .v _
   | t + 2, hp => simp at hp
  ·rintro e W' ⟨v, rfl, hb', hd⟩
   rw [hd.v_inv]
   exact ⟨rfl, hb'⟩
def is (l : List Nat) : PV := .sl (l.map fun x => [.v (.int .i64 (x : Nat))]) .sh
attribute [go_sem] is
theorem getD_at {k : List Fg} {j : Nat} (h : j < k.length) : k.getD j default = k[j] := by rw [List.getD_eq_getElem?_getD, List.getElem?_eq_getElem h]; rfl
theorem pre_mem {α : Type} {pre xs : List α} {p : α} (h : pre ++ [p] <+: xs) : p ∈ xs := h.subset (by simp)
theorem foldV_c {C : Nat -> List Nat} {R : List Nat} (k : List Fg) (i : Nat) (hk : IK C R k) (ok : OkC C R) (hr : RightK k) (hs : ∀ f ∈ k, SmV f.vec) (hz : SzK k) :
 Cn Tryz.prog 59 [withP k i, .sl [] .sh, .fn (.func 60) [] []] (vp (vecAt k i)) := by
 refine cn_memL rfl (enters_of Tryz.func59 (by kernel_rfl) rfl) fun D w vs hG hD hsz hd => ?_
 obtain ⟨bk, ok', bi, oi, v, e0, d1, d2, c1, c2, hkv⟩ := withP_inv (hd 0 _ rfl)
 obtain ⟨a, cap, fs, rfl, hl, hrow, hfs⟩ := kp_row hkv hD
 have hn0 := hd 1 _ rfl
 obtain ⟨ad0, c0', e1⟩ := nil_inv hn0
 rw [e1] at hn0
 rw [arr3 hsz, e0, e1, dat_fn (hd 2 _ rfl)]
 refine (foldV_calls 72 _ bk bi _ w ad0 c0' (enters_of Tryz.func72 (by kernel_rfl) rfl) (fun W hb => with_iter hr hz hG hD d1 d2 c1 c2 hl hrow hfs hb) (hD _ _ d1) (hD _ _ d2)
  (InvD D w.heap.size vp (WV C R)) (fun o p => lat fUnion o (k.getD p.1 default).vec) [] (fun W hb => InvD.start hn0 hG hD hb WV.nil rfl) (fun W u a h => h.shape ⟨_, rfl⟩) (fun A B u a h hk => h.keep hk) fun W u pre p hpre hs4 hb h => ?_).mono ?_
 ·obtain ⟨hp1, _, hp3, _⟩ := wl_mem (pre_mem hpre)
  have hj : p.1 < fs.length := by simpa using hp1
  have hj' : p.1 < k.length := hl ▸ hj
  have hm := List.getElem_mem hj'
  have q := hfs p.1 hj
  have e : p.2 = fs[p.1] := by rw [hp3]; simp
  rw [getD_at hj', e]
  exact h.step hD hb hs4 q.1 q.2 (at1_c _ p.1 k[p.1] (h.1.smv ok) (hs _ hm)) (h.1.iv.lat fU0 (hk _ hm))
 ·rintro e w' ⟨u, rfl, hI, hb⟩
  have h := hI.done
  rw [fold_same hl i (fun o _ f => lat fUnion o f.vec) []] at h
  exact ⟨u, rfl, hb, h⟩
theorem ownI_dat {D : Nat -> Nat -> Prop} {base : Nat} {w : World} {v : Value} {l : List Nat} (h : OwnI base w v l) (hD : ∀ b o, base <= b -> b < w.heap.size -> D b o) : Dat D w v (is l) := by
 unfold is
 have hlen : (l.map fun x => [PV.v (.int .i64 (x : Nat))]).length = l.length := by simp
 rcases id h.2 with ⟨rfl, h0⟩ | ⟨g, cap, cur, rfl, hg, hh, hn, hc, _⟩
 ·obtain rfl : l = [] := List.length_eq_zero_iff.1 h0
  exact .sl none 0 1 [] .sh 0 0 (fun _ => undef) (by simp) (fun h => by cases h) (by unfold maxLen; omega) (fun h => absurd rfl h) (fun i e h => by simp at h) (fun j h => by simp at h) (fun i e j p h => by simp at h)
 ·rw [<- hlen]
  refine .sl _ cap 1 _ .sh g 0 (fun j => .int .i64 (l.getD j 0 : Nat)) (by simpa using hn) (fun h => by cases h) hc (fun _ => rfl) (fun i e h => ?_) (fun j hj => ?_) (fun i e j p he hp => ?_)
  ·simp only [List.getElem?_map, Option.map_eq_some_iff] at h
   obtain ⟨s, _, rfl⟩ := h
   rfl
  ·simp only [List.length_map, Nat.mul_one] at hj
   refine ⟨hD _ _ hg (Array.getElem?_eq_some_iff.1 hh).1, ?_, rfl⟩
   rw [Nat.zero_add, h.cellAt _ (by simpa using hj)]
   simp [hj]
  ·have hi : i < l.length := by have := (List.getElem?_eq_some_iff.1 he).1; simpa using this
   rw [List.getElem?_map, List.getElem?_eq_getElem hi] at he
   cases he
   match j, hp with
   | 0, hp => cases hp; simp [hi]; exact .v _
   | j + 1, hp => simp at hp
theorem map_foldl (l : List (Nat × Fv)) : ∀ a : List Nat, l.foldl (fun o p => o ++ [p.1]) a = a ++ l.map Prod.fst := by
 induction l with
 | nil => intro a; simp
 | cons p l ih => intro a; rw [List.foldl_cons, ih]; simp
theorem map_foldlF (l : List (Nat × Fg)) : ∀ a : List Nat, l.foldl (fun o p => o ++ [p.1]) a = a ++ l.map Prod.fst := by
 induction l with
 | nil => intro a; simp
 | cons p l ih => intro a; rw [List.foldl_cons, ih]; simp
theorem wl_len (hit : Nat -> Bool) : ∀ (n : Nat) (l : List Fv), (wl hit n l).length <= l.length
 | _, [] => Nat.le_refl _
 | n, f :: l => by
   have := wl_len hit (n + 1) l
   unfold wl
   split <;> simp <;> omega
set_option maxHeartbeats 1000000 in
theorem kmemb_c (k : List Fg) (i : Nat) (hr : RightK k) (hz : SzK k) (hkl : k.length <= 1073741824) : Cn Tryz.prog 30 [kp k, .v (.int .u64 i)] (is (membK k i)) := by
 refine cn_memL rfl (enters_of Tryz.func30 (by kernel_rfl) rfl) fun D w vs hG hD hsz hd => ?_
 obtain ⟨a, cap, fs, e0, hl, hrow, hfs⟩ := kp_row (hd 0 _ rfl) hD
 rw [arr2 hsz, e0, (hd 1 _ rfl).v_inv]
 obtain ⟨w1, hw1⟩ : ∃ w1, (w.alloc (.cells #[.slice a k.length cap] 23)).alloc (.cells #[.int .u64 (i : Nat)] 28) = w1 := ⟨_, rfl⟩
 have hs1 : w1.heap.size = w.heap.size + 2 := by rw [<- hw1]; simp
 have b1 : Below w.heap.size w w1 := by rw [<- hw1]; exact ((Below.refl _ _).alloc (Nat.le_refl _) _).alloc (by simp) _
 have x1 : Boxed w1 w.heap.size 23 (.slice a k.length cap) := by rw [<- hw1]; exact (Boxed.new w _ _).alloc _
 have x2 : Boxed w1 (w.heap.size + 1) 28 (.int .u64 (i : Nat)) := by rw [<- hw1]; have := Boxed.new (w.alloc (.cells #[.slice a k.length cap] 23)) 28 (.int .u64 (i : Nat)); rw [World.size_alloc] at this; exact this
 have hwc : ∀ b o x, D b o -> w.cell? ⟨b, o, none⟩ = some x -> w1.cell? ⟨b, o, none⟩ = some x := fun b o x hd hx => (b1.cell (p := ⟨b, o, none⟩) (hD b o hd)).trans hx
 obtain ⟨E, hE⟩ : ∃ E : Nat -> Nat -> Prop, E = fun b o => D b o \/ (w.heap.size <= b /\ b < w1.heap.size) := ⟨_, rfl⟩
 have hEb : ∀ b o, E b o -> b < w1.heap.size := fun b o h => by rw [hE] at h; exact h.elim (fun h => by have := hD b o h; omega) And.right
 have hfold : Calls Tryz.prog 54 #[.func (.func 72) #[] #[.pointer (some ⟨w.heap.size, 0, none⟩), .pointer (some ⟨w.heap.size + 1, 0, none⟩)], .slice none 0 0, .func (.func 55) #[] #[]] w1 fun e w' => ∃ u, e = .returned u /\ OwnI (w1.heap.size + 4) w' u (membK k i) /\ Below w1.heap.size w1 w' := by
  refine (foldI_calls 72 _ w.heap.size (w.heap.size + 1) _ w1 none 0 (enters_of Tryz.func72 (by kernel_rfl) rfl) (fun W hb => with_iter (D := E) (a := a) (cap := cap) (fs := fs) hr hz (hG.mono (fun b o h => by rw [hE]; exact .inl h) hwc) hEb (by rw [hE]; exact .inr (by omega)) (by rw [hE]; exact .inr (by omega)) x1.cell x2.cell hl ?_ (fun j hj => ⟨(hfs j hj).1.mono (fun b o h => by rw [hE]; exact .inl h) hwc, (hfs j hj).2.mono (fun b o h => by rw [hE]; exact .inl h) hwc⟩) hb) (by omega) (by omega)
   (fun W u l => OwnI (w1.heap.size + 4) W u l) (fun o p => o ++ [p.1]) [] (fun W _ => OwnI.nil _ _) (fun W u a h => h.shape) (fun A B u a h hk => h.keep hk fun g hg _ => by omega) fun W u pre p hpre hs4 hb h => ?_).mono ?_
  ·obtain ⟨h1, h2, h3⟩ := hrow
   refine ⟨h1, h2, fun hne => ?_⟩
   obtain ⟨b, off, e1, e2, e3⟩ := h3 hne
   exact ⟨b, off, e1, by omega, fun j hj => ⟨(b1.cell (p := ⟨b, off + j * 2, none⟩) e2).trans (e3 j hj).1, (b1.cell (p := ⟨b, off + j * 2 + 1, none⟩) e2).trans (e3 j hj).2⟩⟩
  ·have hpl : pre.length <= k.length := by
    have h1 := hpre.length_le
    have h2 := wl_len (fun j => mem (k.getD j default).items i) 0 fs
    simp only [List.length_append, List.length_cons, List.length_nil] at h1
    omega
   refine members1_w (w1.heap.size + 4) W u _ p.1 _ _ h (by omega) ?_
   rw [map_foldl]
   simp
   omega
  ·rintro e w' ⟨u, rfl, hI, hb⟩
   rw [fold_same hl i (fun o j _ => o ++ [j]) [], map_foldlF, List.nil_append] at hI
   exact ⟨u, rfl, hI, hb⟩
 have HF := Lib.hid hfold
 have HB := Lib.hid b1
 clear hfold b1 x1 x2 hwc hE hEb hrow hfs hd hG hD
 go_enter Tryz.func30, Tryz.ntmps30
 go_wp2_with (first
  | (go_at_call 45; refine (with_any _ _ _ _ _).mono ?_; rintro e w' ⟨rfl, rfl⟩; rw [hw1])
  | (go_at_call 54; refine HF.out.mono ?_; rintro e w2 ⟨u, rfl, ho, hb2⟩; obtain ⟨au, nu, cu, rfl⟩ := ho.shape))
 go_ret
 exact ⟨_, rfl, HB.out.trans (hb2.mono (by omega)), ownI_dat ho fun b o h1 h2 => .inr (by omega)⟩
theorem kat_c {C : Nat -> List Nat} {R : List Nat} (k : List Fg) (i : Nat) (hk : IK C R k) (ok : OkC C R) (hr : RightK k) (hs : ∀ f ∈ k, SmV f.vec) (hz : SzK k) : Cn Tryz.prog 36 [kp k, .v (.int .u64 i)] (vp (vecAt k i)) := by
 refine cn_go Tryz.func36 [] 2 (by kernel_rfl) rfl (by simp [go_sem, seval]) ?_
 conv => arg 4; cbv
 conv => enter [5, 1]; cbv
 try simp (maxSteps := 2000000) (disch := omega) only [go_sem, seval]
 repeat ((with_reducible refine And.intro ?_ ?_); focus exact and_t)
 (first | refine .mk (kwith_c k i) rfl ?_ | refine .rd (kwith_c k i) rfl ?_)
 try simp (maxSteps := 2000000) (disch := omega) only [go_sem, seval]
 repeat ((with_reducible refine And.intro ?_ ?_); focus exact and_t)
 (first | refine .mk (foldV_c k i hk ok hr hs hz) rfl ?_ | refine .rd (foldV_c k i hk ok hr hs hz) rfl ?_)
 try simp (maxSteps := 2000000) (disch := omega) only [go_sem, seval]
 repeat ((with_reducible refine And.intro ?_ ?_); focus exact and_t)
theorem kfew_c (k : List Fg) (hb : BdK k) : Cn Tryz.prog 25 [kp k] (.v (.bool (fewK k))) := by
 have hl := hb.2
 refine cn_go Tryz.func25 [] 1 (by kernel_rfl) rfl (by simp [go_sem, seval]) ?_
 conv => arg 4; cbv
 conv => enter [5, 1]; cbv
 try simp (maxSteps := 2000000) (disch := omega) only [go_sem, seval]
 repeat ((with_reducible refine And.intro ?_ ?_); focus exact and_t)
 refine pLoop.go (fun j => j <= k.length /\ fewK k = ((k.drop j).all (fun f => decide (f.items.length <= 20) && fewB f.vec) && decide (k.length <= 12))) (fun j => [(3, .v (.int .i64 (j : Nat)))]) (fun _ => []) (fun j => k.length - j) 0 [3] ?_ ?_ ?_
 ·exact ⟨Nat.zero_le _, rfl⟩
 ·try simp (maxSteps := 2000000) (disch := omega) only [go_sem, seval]
  repeat ((with_reducible refine And.intro ?_ ?_); focus exact and_t)
 ·rintro j ⟨hj, hm⟩
  try simp (maxSteps := 2000000) (disch := omega) only [go_sem, seval]
  repeat ((with_reducible refine And.intro ?_ ?_); focus exact and_t)
  (first | refine .mk ?_ ?_ | refine .mkt ?_ ?_ | refine .mkf ?_ ?_) <;> intro h <;> (try simp only [nrm_l] at h) <;> (try simp (maxSteps := 2000000) (disch := omega) only [go_sem, seval]) <;> (repeat ((with_reducible refine And.intro ?_ ?_); focus exact and_t))
  ·rw [List.drop_eq_getElem_cons h, List.all_cons] at hm
   have hbj := hb.1 _ (List.getElem_mem h)
   have hbi := hbj.2.2.1
   try simp (maxSteps := 2000000) (disch := omega) only [go_sem, seval]
   repeat ((with_reducible refine And.intro ?_ ?_); focus exact and_t)
   (first | refine .mk ?_ ?_ | refine .mkt ?_ ?_ | refine .mkf ?_ ?_) <;> intro h2 <;> (try simp only [nrm_l] at h2) <;> (try simp (maxSteps := 2000000) (disch := omega) only [go_sem, seval]) <;> (repeat ((with_reducible refine And.intro ?_ ?_); focus exact and_t))
   ·rw [hm, decide_eq_false (by omega)]
    rfl
   ·rw [decide_eq_true (by omega), Bool.true_and] at hm
    (first | refine .mk (few_c k[j].vec hbj.2.2.2) rfl ?_ | refine .rd (few_c k[j].vec hbj.2.2.2) rfl ?_)
    try simp (maxSteps := 2000000) (disch := omega) only [go_sem, seval]
    repeat ((with_reducible refine And.intro ?_ ?_); focus exact and_t)
    (first | refine .mk ?_ ?_ | refine .mkt ?_ ?_ | refine .mkf ?_ ?_) <;> intro h3 <;> (try simp only [nrm_l] at h3) <;> (try simp (maxSteps := 2000000) (disch := omega) only [go_sem, seval]) <;> (repeat ((with_reducible refine And.intro ?_ ?_); focus exact and_t))
    ·rw [hm, h3]
     rfl
    ·rw [h3, Bool.true_and] at hm
     exact ⟨j + 1, ⟨h, hm⟩, by omega, rfl⟩
  ·rw [hm, List.drop_of_length_le (by omega)]
   simp
   omega
theorem refKCheck_c (k : List Fg) (hb : BdK k) (hz : SzK k) : Cn Tryz.prog 53 [kp k] (.tup [.v (.int .i64 (ckK k).1), .v (.int .i64 (ckK k).2)]) := by
 have hl := hz.1
 refine cn_go Tryz.func53 [] 1 (by kernel_rfl) rfl (by simp [go_sem, seval]) ?_
 conv => arg 4; cbv
 conv => enter [5, 1]; cbv
 try simp (maxSteps := 2000000) (disch := omega) only [go_sem, seval]
 repeat ((with_reducible refine And.intro ?_ ?_); focus exact and_t)
 refine pLoop.go (fun j => j <= k.length /\ ckK k = hkK j (k.drop j)) (fun j => [(4, .v (.int .i64 (j : Nat)))]) (fun _ => []) (fun j => k.length - j) 0 [4] ?_ ?_ ?_
 ·exact ⟨Nat.zero_le _, rfl⟩
 ·try simp (maxSteps := 2000000) (disch := omega) only [go_sem, seval]
  repeat ((with_reducible refine And.intro ?_ ?_); focus exact and_t)
 ·rintro j ⟨hj, hm⟩
  try simp (maxSteps := 2000000) (disch := omega) only [go_sem, seval]
  repeat ((with_reducible refine And.intro ?_ ?_); focus exact and_t)
  (first | refine .mk ?_ ?_ | refine .mkt ?_ ?_ | refine .mkf ?_ ?_) <;> intro h <;> (try simp only [nrm_l] at h) <;> (try simp (maxSteps := 2000000) (disch := omega) only [go_sem, seval]) <;> (repeat ((with_reducible refine And.intro ?_ ?_); focus exact and_t))
  ·rw [List.drop_eq_getElem_cons h, hkK] at hm
   have hbj := hb.1 _ (List.getElem_mem h)
   have hzj := hz.2 _ (List.getElem_mem h)
   try simp (maxSteps := 2000000) (disch := omega) only [go_sem, seval]
   repeat ((with_reducible refine And.intro ?_ ?_); focus exact and_t)
   (first | refine .mk (check4_c k[j].items hzj.1 hbj.1) rfl ?_ | refine .rd (check4_c k[j].items hzj.1 hbj.1) rfl ?_)
   try simp (maxSteps := 2000000) (disch := omega) only [go_sem, seval]
   repeat ((with_reducible refine And.intro ?_ ?_); focus exact and_t)
   (first | refine .mk ?_ ?_ | refine .mkt ?_ ?_ | refine .mkf ?_ ?_) <;> intro h2 <;> (try simp only [nrm_l] at h2) <;> (try simp (maxSteps := 2000000) (disch := omega) only [go_sem, seval]) <;> (repeat ((with_reducible refine And.intro ?_ ?_); focus exact and_t))
   ·rw [if_neg (by omega)] at hm
    (first | refine .mk (refCheck_c k[j].vec hbj.2.1 hzj.2.1 hzj.2.2) rfl ?_ | refine .rd (refCheck_c k[j].vec hbj.2.1 hzj.2.1 hzj.2.2) rfl ?_)
    try simp (maxSteps := 2000000) (disch := omega) only [go_sem, seval]
    repeat ((with_reducible refine And.intro ?_ ?_); focus exact and_t)
    (first | refine .mk ?_ ?_ | refine .mkt ?_ ?_ | refine .mkf ?_ ?_) <;> intro h3 <;> (try simp only [nrm_l] at h3) <;> (try simp (maxSteps := 2000000) (disch := omega) only [go_sem, seval]) <;> (repeat ((with_reducible refine And.intro ?_ ?_); focus exact and_t))
    ·rw [if_pos (by omega)] at hm
     rw [hm]
    ·rw [if_neg (by omega)] at hm
     exact ⟨j + 1, ⟨h, hm⟩, by omega, rfl⟩
   ·rw [if_pos (by omega)] at hm
    (first | refine .mk ?_ ?_ | refine .mkt ?_ ?_ | refine .mkf ?_ ?_) <;> intro h3 <;> (try simp only [nrm_l] at h3) <;> (try simp (maxSteps := 2000000) (disch := omega) only [go_sem, seval]) <;> (repeat ((with_reducible refine And.intro ?_ ?_); focus exact and_t))
    ·rw [hm]
    ·exact absurd h3 (by omega)
  ·rw [hm, List.drop_of_length_le (by omega)]
   rfl
theorem kright_c (k : List Fg) (hb : BdK k) (hz : SzK k) : Cn Tryz.prog 26 [kp k] (.v (.bool (decide ((ckK k).1 = 0)))) := by
 refine cn_go Tryz.func26 [] 1 (by kernel_rfl) rfl (by simp [go_sem, seval]) ?_
 conv => arg 4; cbv
 conv => enter [5, 1]; cbv
 try simp (maxSteps := 2000000) (disch := omega) only [go_sem, seval]
 repeat ((with_reducible refine And.intro ?_ ?_); focus exact and_t)
 (first | refine .mk (refKCheck_c k hb hz) rfl ?_ | refine .rd (refKCheck_c k hb hz) rfl ?_)
 try simp (maxSteps := 2000000) (disch := omega) only [go_sem, seval]
 repeat ((with_reducible refine And.intro ?_ ?_); focus exact and_t)
theorem refKAt_c {C : Nat -> List Nat} {R : List Nat} (k : List Fg) (i : Nat) (hk : IK C R k) (ok : OkC C R) (hr : RightK k) (hs : ∀ f ∈ k, SmV f.vec) (hz : SzK k) : Cn Tryz.prog 38 [kp k, .v (.int .u64 i)] (vp (vecAt k i)) := by
 have hl := hz.1
 refine cn_go Tryz.func38 [] 2 (by kernel_rfl) rfl (by simp [go_sem, seval]) ?_
 conv => arg 4; cbv
 conv => enter [5, 1]; cbv
 try simp (maxSteps := 2000000) (disch := omega) only [go_sem, seval]
 repeat ((with_reducible refine And.intro ?_ ?_); focus exact and_t)
 refine pLoop.go (fun j => j <= k.length) (fun j => [(5, vp (vecAt (k.take j) i)), (6, .v (.int .i64 (j : Nat)))]) (fun _ => []) (fun j => k.length - j) 0 [5, 6] ?_ ?_ ?_
 ·exact Nat.zero_le _
 ·simp only [List.take_zero, vecAt_nil]
  try simp (maxSteps := 2000000) (disch := omega) only [go_sem, seval]
  repeat ((with_reducible refine And.intro ?_ ?_); focus exact and_t)
 ·rintro j hj
  try simp (maxSteps := 2000000) (disch := omega) only [go_sem, seval]
  repeat ((with_reducible refine And.intro ?_ ?_); focus exact and_t)
  (first | refine .mk ?_ ?_ | refine .mkt ?_ ?_ | refine .mkf ?_ ?_) <;> intro h <;> (try simp only [nrm_l] at h) <;> (try simp (maxSteps := 2000000) (disch := omega) only [go_sem, seval]) <;> (repeat ((with_reducible refine And.intro ?_ ?_); focus exact and_t))
  ·have hst := vecAt_take i h
   have hzj := hz.2 _ (List.getElem_mem h)
   have hsm := ((hk.take j).at i).1.smv ok
   try simp (maxSteps := 2000000) (disch := omega) only [go_sem, seval]
   repeat ((with_reducible refine And.intro ?_ ?_); focus exact and_t)
   (first | refine .mk (has4_c k[j].items i hzj.1) rfl ?_ | refine .rd (has4_c k[j].items i hzj.1) rfl ?_)
   try simp (maxSteps := 2000000) (disch := omega) only [go_sem, seval]
   repeat ((with_reducible refine And.intro ?_ ?_); focus exact and_t)
   (first | refine .mk ?_ ?_ | refine .mkt ?_ ?_ | refine .mkf ?_ ?_) <;> intro h2 <;> (try simp only [nrm_l] at h2) <;> (try simp (maxSteps := 2000000) (disch := omega) only [go_sem, seval]) <;> (repeat ((with_reducible refine And.intro ?_ ?_); focus exact and_t))
   ·rw [if_pos h2] at hst
    (first | refine .mk (do10_c (vecAt (k.take j) i) k[j].vec 0 (by omega) hsm (hs _ (List.getElem_mem h))) rfl ?_ | refine .rd (do10_c (vecAt (k.take j) i) k[j].vec 0 (by omega) hsm (hs _ (List.getElem_mem h))) rfl ?_)
    try simp (maxSteps := 2000000) (disch := omega) only [go_sem, seval]
    repeat ((with_reducible refine And.intro ?_ ?_); focus exact and_t)
    rw [opb0]
    exact ⟨j + 1, h, by omega, by rw [hst], rfl⟩
   ·rw [if_neg (by rw [h2]; simp)] at hst
    exact ⟨j + 1, h, by omega, by rw [hst], rfl⟩
  ·rw [show k.take j = k from List.take_of_length_le (by omega)]
theorem refKMemb_c (k : List Fg) (i : Nat) (hz : SzK k) (hkl : k.length <= 1073741824) : Cn Tryz.prog 34 [kp k, .v (.int .u64 i)] (is (membK k i)) := by
 have hl := hz.1
 refine cn_go Tryz.func34 [] 2 (by kernel_rfl) rfl (by simp [go_sem, seval]) ?_
 conv => arg 4; cbv
 conv => enter [5, 1]; cbv
 try simp (maxSteps := 2000000) (disch := omega) only [go_sem, seval]
 repeat ((with_reducible refine And.intro ?_ ?_); focus exact and_t)
 refine pLoop.go (fun j => j <= k.length) (fun j => [(5, .sl ((membK (k.take j) i).map fun x => [.v (.int .i64 (x : Nat))]) (.r 23 1)), (6, .v (.int .i64 (j : Nat)))]) (fun _ => []) (fun j => k.length - j) 0 [5, 6, 23] ?_ ?_ ?_
 ·exact Nat.zero_le _
 ·simp only [List.take_zero, membK, withF, List.map_nil]
  try simp (maxSteps := 2000000) (disch := omega) only [go_sem, seval]
  repeat ((with_reducible refine And.intro ?_ ?_); focus exact and_t)
 ·rintro j hj
  have hml := membK_len (k.take j) i
  have hml2 : (membK (k.take j) i).length <= j := by simp at hml; omega
  try simp (maxSteps := 2000000) (disch := omega) only [go_sem, seval]
  repeat ((with_reducible refine And.intro ?_ ?_); focus exact and_t)
  (first | refine .mk ?_ ?_ | refine .mkt ?_ ?_ | refine .mkf ?_ ?_) <;> intro h <;> (try simp only [nrm_l] at h) <;> (try simp (maxSteps := 2000000) (disch := omega) only [go_sem, seval]) <;> (repeat ((with_reducible refine And.intro ?_ ?_); focus exact and_t))
  ·have hst := membK_take i h
   have hzj := hz.2 _ (List.getElem_mem h)
   try simp (maxSteps := 2000000) (disch := omega) only [go_sem, seval]
   repeat ((with_reducible refine And.intro ?_ ?_); focus exact and_t)
   (first | refine .mk (has4_c k[j].items i hzj.1) rfl ?_ | refine .rd (has4_c k[j].items i hzj.1) rfl ?_)
   try simp (maxSteps := 2000000) (disch := omega) only [go_sem, seval]
   repeat ((with_reducible refine And.intro ?_ ?_); focus exact and_t)
   (first | refine .mk ?_ ?_ | refine .mkt ?_ ?_ | refine .mkf ?_ ?_) <;> intro h2 <;> (try simp only [nrm_l] at h2) <;> (try simp (maxSteps := 2000000) (disch := omega) only [go_sem, seval]) <;> (repeat ((with_reducible refine And.intro ?_ ?_); focus exact and_t))
   ·rw [if_pos h2] at hst
    refine ⟨j + 1, h, by omega, ?_, rfl⟩
    rw [hst]
    simp
   ·rw [if_neg (by rw [h2]; simp), List.append_nil] at hst
    exact ⟨j + 1, h, by omega, by rw [hst], rfl⟩
  ·rw [show k.take j = k from List.take_of_length_le (by omega)]
theorem refKSame_c (a b : List Fg) (hz : SzK a) : Cn Tryz.prog 17 [kp a, kp b] (.v (.bool (decide (a = b)))) := by
 have hl := hz.1
 refine cn_go Tryz.func17 [] 2 (by kernel_rfl) rfl (by simp [go_sem, seval]) ?_
 conv => arg 4; cbv
 conv => enter [5, 1]; cbv
 try simp (maxSteps := 2000000) (disch := omega) only [go_sem, seval]
 repeat ((with_reducible refine And.intro ?_ ?_); focus exact and_t)
 (first | refine .mk ?_ ?_ | refine .mkt ?_ ?_ | refine .mkf ?_ ?_) <;> intro h0 <;> (try simp only [nrm_l] at h0) <;> (try simp (maxSteps := 2000000) (disch := omega) only [go_sem, seval]) <;> (repeat ((with_reducible refine And.intro ?_ ?_); focus exact and_t))
 ·symm
  rw [decide_eq_false_iff_not]
  rintro rfl
  exact h0 rfl
 ·have h0' : a.length = b.length := by simpa using h0
  clear h0
  refine pLoop.go (fun k => k <= a.length /\ (a = b ↔ a.drop k = b.drop k)) (fun k => [(5, .v (.int .i64 (k : Nat)))]) (fun _ => []) (fun k => a.length - k) 0 [5] ?_ ?_ ?_
  ·exact ⟨Nat.zero_le _, Iff.rfl⟩
  ·try simp (maxSteps := 2000000) (disch := omega) only [go_sem, seval]
   repeat ((with_reducible refine And.intro ?_ ?_); focus exact and_t)
  ·rintro k ⟨hk, hm⟩
   try simp (maxSteps := 2000000) (disch := omega) only [go_sem, seval]
   repeat ((with_reducible refine And.intro ?_ ?_); focus exact and_t)
   (first | refine .mk ?_ ?_ | refine .mkt ?_ ?_ | refine .mkf ?_ ?_) <;> intro h <;> (try simp only [nrm_l] at h) <;> (try simp (maxSteps := 2000000) (disch := omega) only [go_sem, seval]) <;> (repeat ((with_reducible refine And.intro ?_ ?_); focus exact and_t))
   ·have hk' : k < b.length := by omega
    have hzj := hz.2 _ (List.getElem_mem h)
    rw [List.drop_eq_getElem_cons h, List.drop_eq_getElem_cons hk', List.cons.injEq] at hm
    try simp (maxSteps := 2000000) (disch := omega) only [go_sem, seval]
    repeat ((with_reducible refine And.intro ?_ ?_); focus exact and_t)
    (first | refine .mk (same4_c a[k].items b[k].items hzj.1) rfl ?_ | refine .rd (same4_c a[k].items b[k].items hzj.1) rfl ?_)
    try simp (maxSteps := 2000000) (disch := omega) only [go_sem, seval]
    repeat ((with_reducible refine And.intro ?_ ?_); focus exact and_t)
    (first | refine .mk ?_ ?_ | refine .mkt ?_ ?_ | refine .mkf ?_ ?_) <;> intro e <;> (try simp only [nrm_l] at e) <;> (try simp (maxSteps := 2000000) (disch := omega) only [go_sem, seval]) <;> (repeat ((with_reducible refine And.intro ?_ ?_); focus exact and_t))
    ·symm
     rw [decide_eq_false_iff_not]
     intro he
     exact e (congrArg Fg.items (hm.1 he).1)
    ·(first | refine .mk (sameV_c a[k].vec b[k].vec hzj.2.1 hzj.2.2) rfl ?_ | refine .rd (sameV_c a[k].vec b[k].vec hzj.2.1 hzj.2.2) rfl ?_)
     try simp (maxSteps := 2000000) (disch := omega) only [go_sem, seval]
     repeat ((with_reducible refine And.intro ?_ ?_); focus exact and_t)
     (first | refine .mk ?_ ?_ | refine .mkt ?_ ?_ | refine .mkf ?_ ?_) <;> intro e2 <;> (try simp only [nrm_l] at e2) <;> (try simp (maxSteps := 2000000) (disch := omega) only [go_sem, seval]) <;> (repeat ((with_reducible refine And.intro ?_ ?_); focus exact and_t))
     ·symm
      rw [decide_eq_false_iff_not]
      intro he
      exact e2 (congrArg Fg.vec (hm.1 he).1)
     ·refine ⟨k + 1, ⟨h, ?_⟩, by omega, rfl⟩
      rw [hm]
      exact ⟨fun h => h.2, fun h => ⟨Fg.ext' e e2, h⟩⟩
   ·rw [eq_comm, decide_eq_true_eq, hm, List.drop_of_length_le (by omega), List.drop_of_length_le (by omega)]
theorem eqI_c (a b : List Nat) (ha : a.length <= 1152921504606846976) : Cn Tryz.prog 29 [is a, is b] (.v (.bool (decide (a = b)))) := by
 refine cn_go Tryz.func29 [] 2 (by kernel_rfl) rfl (by simp [go_sem, seval]) ?_
 conv => arg 4; cbv
 conv => enter [5, 1]; cbv
 try simp (maxSteps := 2000000) (disch := omega) only [go_sem, seval]
 repeat ((with_reducible refine And.intro ?_ ?_); focus exact and_t)
 (first | refine .mk ?_ ?_ | refine .mkt ?_ ?_ | refine .mkf ?_ ?_) <;> intro h0 <;> (try simp only [nrm_l] at h0) <;> (try simp (maxSteps := 2000000) (disch := omega) only [go_sem, seval]) <;> (repeat ((with_reducible refine And.intro ?_ ?_); focus exact and_t))
 ·symm
  rw [decide_eq_false_iff_not]
  rintro rfl
  exact h0 rfl
 ·have h0' : a.length = b.length := by simpa using h0
  clear h0
  refine pLoop.go (fun k => k <= a.length /\ (a = b ↔ a.drop k = b.drop k)) (fun k => [(13, .v (.int .i64 (k : Nat)))]) (fun _ => []) (fun k => a.length - k) 0 [13] ?_ ?_ ?_
  ·exact ⟨Nat.zero_le _, Iff.rfl⟩
  ·try simp (maxSteps := 2000000) (disch := omega) only [go_sem, seval]
   repeat ((with_reducible refine And.intro ?_ ?_); focus exact and_t)
  ·rintro k ⟨hk, hm⟩
   try simp (maxSteps := 2000000) (disch := omega) only [go_sem, seval]
   repeat ((with_reducible refine And.intro ?_ ?_); focus exact and_t)
   (first | refine .mk ?_ ?_ | refine .mkt ?_ ?_ | refine .mkf ?_ ?_) <;> intro h <;> (try simp only [nrm_l] at h) <;> (try simp (maxSteps := 2000000) (disch := omega) only [go_sem, seval]) <;> (repeat ((with_reducible refine And.intro ?_ ?_); focus exact and_t))
   ·have hk' : k < b.length := by omega
    rw [List.drop_eq_getElem_cons h, List.drop_eq_getElem_cons hk', List.cons.injEq] at hm
    try simp (maxSteps := 2000000) (disch := omega) only [go_sem, seval]
    repeat ((with_reducible refine And.intro ?_ ?_); focus exact and_t)
    (first | refine .mk ?_ ?_ | refine .mkt ?_ ?_ | refine .mkf ?_ ?_) <;> intro e <;> (try simp only [nrm_l] at e) <;> (try simp (maxSteps := 2000000) (disch := omega) only [go_sem, seval]) <;> (repeat ((with_reducible refine And.intro ?_ ?_); focus exact and_t))
    ·symm
     rw [decide_eq_false_iff_not]
     intro he
     exact absurd (hm.1 he).1 (by omega)
    ·refine ⟨k + 1, ⟨h, ?_⟩, by omega, rfl⟩
     rw [hm]
     have e : a[k] = b[k] := by omega
     exact ⟨fun h => h.2, fun h => ⟨e, h⟩⟩
   ·rw [eq_comm, decide_eq_true_eq, hm, List.drop_of_length_le (by omega), List.drop_of_length_le (by omega)]
end Go.Proofs.YtjimggclhlnfbaaGreat
