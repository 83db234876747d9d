import Derived.Test.YtonhfknjcbakiaaGreatDoorB5
set_option maxHeartbeats 16000000
set_option linter.unusedVariables false
set_option linter.unusedSimpArgs false
namespace Go.Proofs.YtonhfknjcbakiaaGreatDoor
open Go.RowKit
attribute [local go_sem] Oper.semAt_some
def occ (xs:List (Iv × Bool × Bool)) (p q:Bool):Bool:=xs.any fun y=>y.2.1 == p && y.2.2 == q
def zoz (a b:List Iv) (p q:Bool):Bool:=!occ (yO a b) p q
theorem zpi (xs:List (Iv × Bool × Bool)) (s:Iv) (p' q' p q:Bool):occ (xs++[(s,p',q')]) p q=(occ xs p q || (p' == p && q' == q)):=by simp [occ,List.any_append]
theorem zqY {xs ys:List (Iv × Bool × Bool)} {p q:Bool} (h:xs <+: ys) (hx:occ xs p q=true):occ ys p q=true:=by
 obtain⟨r,rfl⟩:=h
 unfold occ at *
 rw [List.any_append,hx,Bool.true_or]
theorem zpX {a b:List Iv} {p q:Bool}:∀(xs:List (Iv × Bool × Bool)) (x:Nat),Cov a b x xs->((xs.any fun y=>y.2.1 == p && y.2.2 == q)=true ↔ ∃ z,x<=z/\z<M64/\mem a z=p/\mem b z=q)
 | [],x,h=>by
   have:x=M64:=h
   simp
   intro z h1 h2;omega
 | (s,p',q')::r,x,⟨h1,h2,h3,h4,h5⟩=>by
   rw [List.any_cons,Bool.or_eq_true,zpX r _ h5]
   constructor
   ·rintro(h | ⟨z,z1,z2,z3⟩)
    ·simp at h
     have:=h4 x (Nat.le_refl _) h2
     exact⟨x,Nat.le_refl _,by omega,this.1.trans h.1,this.2.trans h.2⟩
    ·exact⟨z,by omega,z2,z3⟩
   ·rintro⟨z,z1,z2,z3,z4⟩
    by_cases hz:z<=s.hi
    ·have:=h4 z z1 hz
     left
     simp [<-this.1,<-this.2,z3,z4]
    ·exact .inr ⟨z,by omega,z2,z3,z4⟩
theorem zpH {a b:List Iv} (ha:Nrm a) (hb:Nrm b) (p q:Bool):zoz a b p q=true ↔ ∀ z,z<M64->¬(mem a z=p/\mem b z=q):=by
 have:=zpX (p:=p) (q:=q) _ _ (j4 ha hb)
 unfold zoz occ
 rw [Bool.not_eq_true',<-Bool.not_eq_true,this]
 constructor
 ·intro h z hz he;exact h ⟨z,Nat.zero_le _,hz,he⟩
 ·rintro h ⟨z,_,hz,he⟩;exact h z hz he
set_option maxRecDepth 100000 in
theorem zph (a b:List Iv) (va vb:Value) (p q:Bool) (w:World) (ha:Nrm a) (hb:Nrm b) (ra:RdR 0 w.heap.size w va a) (rb:RdR 0 w.heap.size w vb b) :
 Calls Tryz.prog 206 #[va,vb,.agg #[.bool p,.bool q]] w fun e w'=>e=.returned (.bool (zoz a b p q))/\Below w.heap.size w w':=by
 obtain⟨aa,ca,rfl,_⟩:=id ra
 obtain⟨ab,cb,rfl,_⟩:=id rb
 refine callsIn_wide.1 (callsIn_of_wp_marks (n:=9) Tryz.func206 rfl trivial ?_ rfl)
 simp only [Tryz.ntmps206,List.size_toArray,List.length_cons,List.length_nil,Nat.reduceAdd,Nat.reduceSub,Array.replicate_succ,Array.replicate_zero,List.push_toArray,List.append_toArray,List.nil_append,List.cons_append]
 gi_wp2_with (refine⟨trivial,?_⟩;gi_at_call 161;refine(callsIn_wide.2 (Xi _ _ _ _ _ _ _)).mono ?_;rintro e w' ⟨rfl,rfl⟩)
 obtain⟨W0,hW0⟩:∃ W0,((((w.alloc (Obj.cells #[Value.bool p,Value.bool q] 139)).alloc (Obj.cells #[Value.bool false] 4)).alloc (Obj.cells #[Value.slice aa a.length ca] 30)).alloc (Obj.cells #[Value.slice ab b.length cb] 30))=W0:=⟨_,rfl⟩
 have hsz:W0.heap.size=w.heap.size+4:=by rw [<-hW0];simp
 have b0:W0.heap[w.heap.size]? = some (.cells #[.bool p,.bool q] 139 (0,0)):=by rw [<-hW0];exact(Below.heap_alloc _ _ _ (by simp;omega)).trans ((Below.heap_alloc _ _ _ (by simp;omega)).trans ((Below.heap_alloc _ _ _ (by simp)).trans (World.alloc_heap_new w _)))
 have b1:Boxed W0 (w.heap.size+1) 4 (Value.bool false):=by rw [<-hW0];have:=Boxed.new (w.alloc (Obj.cells #[Value.bool p,Value.bool q] 139)) 4 (Value.bool false);rw [World.size_alloc] at this;exact(this.alloc _).alloc _
 have b2:Boxed W0 (w.heap.size+1+1) 30 (Value.slice aa a.length ca):=by rw [<-hW0];have:=Boxed.new ((w.alloc (Obj.cells #[Value.bool p,Value.bool q] 139)).alloc (Obj.cells #[Value.bool false] 4)) 30 (Value.slice aa a.length ca);simp only [World.size_alloc] at this;exact this.alloc _
 have b3:Boxed W0 (w.heap.size+1+1+1) 30 (Value.slice ab b.length cb):=by rw [<-hW0];have:=Boxed.new (((w.alloc (Obj.cells #[Value.bool p,Value.bool q] 139)).alloc (Obj.cells #[Value.bool false] 4)).alloc (Obj.cells #[Value.slice aa a.length ca] 30)) 30 (Value.slice ab b.length cb);simp only [World.size_alloc] at this;exact this
 have hB0:Below w.heap.size w W0:=by rw [<-hW0];exact((((Below.refl _ _).alloc (Nat.le_refl _) _).alloc (by simp) _).alloc (by simp;omega) _).alloc (by simp;omega) _
 rw [hW0]
 clear hW0
 refine ziP (w:=W0) 194 #[.pointer (some ⟨w.heap.size+1+1,0,none⟩),.pointer (some ⟨w.heap.size+1+1+1,0,none⟩)] rfl (enters_of Tryz.func194 (by kernel_rfl) rfl) za1 (fun _=>rfl)
  (fun k=>k=w.heap.size+1+1\/k=w.heap.size+1+1+1) (fun k=>k<w.heap.size\/k=w.heap.size+1+1\/k=w.heap.size+1+1+1) (yO a b) ?hit
  (fun k=>k=w.heap.size+1\/w.heap.size+6<=k) (fun k hk=>by omega) (by omega) ⟨by omega,by omega⟩
  (fun pre W=>W.heap[w.heap.size]? = some (.cells #[.bool p,.bool q] 139 (0,0))/\Boxed W (w.heap.size+1) 4 (.bool false)/\Below w.heap.size w W/\Hid (occ pre p q=false))
  (fun c pre W=>c=.ret/\Boxed W (w.heap.size+1) 4 (.bool false)/\Below w.heap.size w W/\Hid (occ pre p q=true)) ?hI ?hIx ⟨b0,b1,hB0,rfl⟩
  (fun pre x a' W=>(W.heap[w.heap.size]? = some (.cells #[.bool p,.bool q] 139 (0,0))/\Boxed W (w.heap.size+1) 4 (.bool false)/\Below w.heap.size w W/\Hid (occ pre p q=false))/\∃ Bs,W.heap[Bs]? = some (.cells #[.bool x.2.1,.bool x.2.2] 139 (0,0))/\w.heap.size+6<=Bs/\a'={ tmps:=#[Value.slice aa a.length ca,Value.slice ab b.length cb,Value.agg #[Value.bool p,Value.bool q],undef,undef,Value.pointer (some ⟨w.heap.size,0,none⟩),Value.pointer (some ⟨w.heap.size+1,0,none⟩),undef,Value.pointer (some ⟨Bs,0,none⟩),Value.slice aa a.length ca,Value.slice ab b.length cb,Value.func (Fn.func 194) #[] #[Value.pointer (some ⟨w.heap.size+1+1,0,none⟩),Value.pointer (some ⟨w.heap.size+1+1+1,0,none⟩)],.agg #[.int .u64 x.1.lo,.int .u64 x.1.hi],.agg #[.bool x.2.1,.bool x.2.2],undef,undef,undef],defers:=[] })
  ?hAx ?hassign ?hbody ?hdone ?hstop
 case hit=>
  intro W hk _
  exact J7 a b _ _ (w.heap.size+1+1) (w.heap.size+1+1+1) w.heap.size W ha hb (by omega) (by omega) (by omega)
   ⟨hk.boxed b2 id,hk.boxed b3 id,ra.below (hB0.trans (hk.below (by omega) fun _ _=>id)) (Nat.le_refl _),rb.below (hB0.trans (hk.below (by omega) fun _ _=>id)) (Nat.le_refl _),Suf.refl _ _,Suf.refl _ _⟩
 case hI=>
  rintro pre A B ⟨h1,h2,h3,h4⟩ hk
  exact⟨hk.obj h1 (by omega),hk.boxed h2 (by omega),h3.trans (hk.below h3.size fun k hk=>by omega),h4⟩
 case hIx=>
  rintro c pre A B ⟨h1,h2,h3,h4⟩ hk
  exact⟨h1,hk.boxed h2 (by omega),h3.trans (hk.below h3.size fun k hk=>by omega),h4⟩
 case hAx=>
  rintro pre x a' A B ⟨⟨h1,h2,h3,h4⟩,Bs,hs,hs6,rfl⟩ hk
  exact⟨⟨hk.obj h1 (by omega),hk.boxed h2 (by omega),h3.trans (hk.below h3.size fun k hk=>by omega),h4⟩,Bs,hk.obj hs (by omega),hs6,rfl⟩
 case hassign=>
  rintro l pre ⟨⟨lo,hi⟩,p',q'⟩ W hpx hlt ⟨h1,h2,h3,h4⟩
  clear hpx
  dsimp only [za1]
  gi_wp2
  exact⟨(Keep.refl _ _).alloc _,⟨(Below.heap_alloc _ _ _ (by omega)).trans h1,h2.alloc _,h3.alloc h3.size _,h4⟩,W.heap.size,World.alloc_heap_new W _,by omega,rfl⟩
 case hbody=>
  rintro l pre ⟨⟨lo,hi⟩,p',q'⟩ a' W hpx hlt ⟨⟨h1,h2,h3,h4⟩,Bs,hs,hs6,rfl⟩
  clear hpx
  have c0:W.cell? ⟨Bs,0,none⟩=some (.bool p'):=by simp [World.cell?,hs]
  have c1:W.cell? ⟨Bs,1,none⟩=some (.bool q'):=by simp [World.cell?,hs]
  have c2:W.cell? ⟨w.heap.size,0,none⟩=some (.bool p):=by simp [World.cell?,h1]
  have c3:W.cell? ⟨w.heap.size,1,none⟩=some (.bool q):=by simp [World.cell?,h1]
  have c4:=h2.cell
  have f4:=h2.frozen
  cases ht:(p' == p && q' == q) with
  | true=>
    have hpq:p'=p/\q'=q:=by simpa using ht
    obtain⟨rfl,rfl⟩:=hpq
    have HT:=Lib.hid ht
    clear ht
    gi_wp2
    exact⟨(Keep.refl _ _).setCell (p:=⟨w.heap.size+1,0,none⟩) (fun _=>.inl rfl) _,rfl,h2.set _,h3.setCell (p:=⟨w.heap.size+1,0,none⟩) (by simp) _,by show occ _ _ _=true;rw [zpi,h4.out];simp⟩
  | false=>
    gi_wp2
    all_goals first | (exfalso;simp_all;done) | exact⟨Keep.refl _ _,h1,h2,h3,by show occ _ _ _=false;rw [zpi,h4.out];simp_all⟩
 case hdone=>
  rintro W ⟨h1,h2,h3,h4⟩ hD
  have c4:=h2.cell
  have f4:=h2.frozen
  gi_wp2
  refine⟨by simp,.inl ⟨_,_,rfl,run_takeDeferred (by rw [Below.heap_setCell _ _ _ _ (by simp;omega)];exact hD),?_⟩⟩
  have hkD:Keep (fun k=>k=w.heap.size+1\/k=W0.heap.size) W ((W.setCell ⟨w.heap.size+1,0,none⟩ (.bool true)).putObj W0.heap.size (.deferred none)):=((Keep.refl (fun k=>k=w.heap.size+1\/k=W0.heap.size) W).setCell (p:=⟨w.heap.size+1,0,none⟩) (fun _=>.inl rfl) _).putObj (fun _=>.inr rfl) _
  have hr:((W.setCell ⟨w.heap.size+1,0,none⟩ (.bool true)).putObj W0.heap.size (.deferred none)).cell? ⟨w.heap.size+1,0,none⟩=some (.bool true):=by
   refine(World.cell?_of_block ?_).trans (h2.set (.bool true)).cell
   exact World.putObj_heap_other (by show w.heap.size+1≠_;omega)
  refine⟨.bool true,by simp [results,Tryz.results206,go_sem,hr],?_,h3.trans (hkD.below h3.size fun k hk=>by omega)⟩
  show Ending.returned (.bool true)=.returned (.bool (!occ (yO a b) p q))
  rw [h4.out];rfl
 case hstop=>
  rintro c pre W hpre ⟨rfl,h2,h3,h4⟩ hD
  have c4:=h2.cell
  gi_wp2
  refine⟨by simp,.inl ⟨_,_,rfl,run_takeDeferred hD,?_⟩⟩
  have hkD:Keep (fun k=>k=W0.heap.size) W (W.putObj W0.heap.size (.deferred none)):=(Keep.refl (fun k=>k=W0.heap.size) W).putObj (fun _=>rfl) _
  have hr:=(hkD.boxed h2 (by omega)).cell
  refine⟨.bool false,by simp [results,Tryz.results206,go_sem,hr],?_,h3.trans (hkD.below h3.size fun k hk=>by omega)⟩
  show Ending.returned (.bool false)=.returned (.bool (!occ (yO a b) p q))
  rw [zqY hpre h4.out];rfl
theorem zov (a b:List Iv) (va vb:Value) (w:World) (ha:Nrm a) (hb:Nrm b) (ra:RdR 0 w.heap.size w va a) (rb:RdR 0 w.heap.size w vb b) :
 Calls Tryz.prog 184 #[va,vb] w fun e w'=>e=.returned (.bool (zoz a b true true))/\Below w.heap.size w w':=by
 have HM:=Lib.hid (zph a b va vb true true w ha hb ra rb)
 obtain⟨a1,c1,rfl,_⟩:=ra
 obtain⟨a2,c2,rfl,_⟩:=rb
 go_enter Tryz.func184,Tryz.ntmps184
 go_wp2_with (go_at_call 206;refine HM.out.mono ?_;rintro e w' ⟨rfl,hb⟩)
 go_ret
 exact⟨rfl,‹_›⟩
end Go.Proofs.YtonhfknjcbakiaaGreatDoor
