import Derived.Test.YtopfkkogooocgaaGreatB25
import Derived.Test.YtopfkkogooocgaaGreatB26
import Derived.Test.YtopfkkogooocgaaGreatB39
set_option maxHeartbeats 16000000
set_option linter.unusedVariables false
set_option linter.unusedSimpArgs false
set_option maxRecDepth 100000
namespace Go.Proofs.YtopfkkogooocgaaGreat
open Go.RowKit
def InvD {α:Type} (D0:Nat->Nat->Prop) (n:Nat) (pv:α->PV) (P:α->Prop) (W:World) (u:Value) (a:α):Prop:=
 P a/\∃ D:Nat->Nat->Prop,GL D W/\(∀ b o,D b o->b<W.heap.size/\b≠n/\b≠n+2/\b≠n+3)/\(∀ b o,D b o->D0 b o\/n<=b)/\(∀ b o,D0 b o->D b o)/\Dat D W u (pv a)
section
variable {α:Type} {D0:Nat->Nat->Prop} {pv:α->PV} {P:α->Prop} {w W A B:World} {u:Value} {a:α}
theorem InvD.start {u0:Value} (h0:Dat D0 w u0 (.sl [] .sh)) (hG:GL D0 w) (hD:∀ b o,D0 b o->b<w.heap.size) (hb:Below w.heap.size w W) (hP:P a) (hp:pv a=.sl [] .sh):InvD D0 w.heap.size pv P W u0 a:=by
 have hw:∀ b o x,D0 b o->w.cell? ⟨b,o,none⟩=some x->W.cell? ⟨b,o,none⟩=some x:=fun b o x hd hx=>(hb.cell (p:=⟨b,o,none⟩) (hD b o hd)).trans hx
 refine⟨hP,D0,hG.mono (fun _ _ h=>h) hw,fun b o h=>?_,fun _ _ h=>.inl h,fun _ _ h=>h,?_⟩
 ·have:=hD b o h
  have:=hb.size
  exact⟨by omega,by omega,by omega,by omega⟩
 ·rw [hp]
  exact h0.mono (fun _ _ h=>h) hw
theorem InvD.shape {n:Nat} (h:InvD D0 n pv P W u a) (hp:∃ es,pv a=.sl es .sh):∃ ad n c,u=.slice ad n c:=by
 obtain⟨_,D,_,_,_,_,hd⟩:=h
 obtain⟨es,e⟩:=hp
 rw [e] at hd
 obtain⟨s,rfl,_⟩:=kH hd
 exact⟨_,_,_,rfl⟩
theorem InvD.keep {n:Nat} (h:InvD D0 n pv P A u a) (hk:Keep (fun k=>k=n\/k=n+2\/k=n+3) A B):InvD D0 n pv P B u a:=by
 obtain⟨hP,D,h1,h2,h3,h4,h5⟩:=h
 have hw:∀ b o x,D b o->A.cell? ⟨b,o,none⟩=some x->B.cell? ⟨b,o,none⟩=some x:=fun b o x hd hx=>
  (World.cell?_of_block (a:=⟨b,o,none⟩) (hk.block b (h2 b o hd).1 (by have:=h2 b o hd;omega))).trans hx
 exact⟨hP,D,h1.mono (fun _ _ h=>h) hw,fun b o hd=>⟨Nat.lt_of_lt_of_le (h2 b o hd).1 hk.size,(h2 b o hd).2⟩,h3,h4,h5.mono (fun _ _ h=>h) hw⟩
theorem zhD {D:Nat->Nat->Prop} {f:Fv} {g:Fg} (h0:Dat D w (sv f.1) (rg g.items)) (h1:Dat D w (sv f.2) (vp g.vec)):Dat D w (.agg #[sv f.1,sv f.2]) (fp g):=by
 refine .agg _ _ rfl (fun i hi=>?_) fun i p hp=>?_
 ·match i,hi with
  | 0,_=>rfl
  | 1,_=>rfl
 ·match i,hp with
  | 0,hp=>cases hp;exact h0
  | 1,hp=>cases hp;exact h1
  | i+2,hp=>simp [fc] at hp
theorem InvD.step {F1:FuncId} {i:Nat} {f:Fv} {g:Fg} {a':α} (h:InvD D0 w.heap.size pv P W u a) (hD:∀ b o,D0 b o->b<w.heap.size) (hb:Below w.heap.size w W) (hs:w.heap.size+4<=W.heap.size) (h0:Dat D0 w (sv f.1) (rg g.items)) (h1:Dat D0 w (sv f.2) (vp g.vec))
 (hc:Cn Tryz.prog F1 [pv a,.v (.int .i64 i),fp g] (pv a')) (hP:P a') :
 Calls Tryz.prog F1 #[u,.int .i64 (i:Nat),.agg #[sv f.1,sv f.2]] W fun e W'=>∃ u',e=.returned u'/\InvD D0 w.heap.size pv P W' u' a'/\Keep (zaB (w.heap.size+4) W) W W':=by
 obtain⟨_,D,g1,g2,g3,g4,g5⟩:=h
 have hw:∀ b o x,D0 b o->w.cell? ⟨b,o,none⟩=some x->W.cell? ⟨b,o,none⟩=some x:=fun b o x hd hx=>(hb.cell (p:=⟨b,o,none⟩) (hD b o hd)).trans hx
 refine(jP hc g1 (fun b o h=>(g2 b o h).1) rfl (fun j p hp=>?_)).mono ?_
 ·match j,hp with
  | 0,hp=>cases hp;exact g5
  | 1,hp=>cases hp;exact .v _
  | 2,hp=>cases hp;exact(zhD h0 h1).mono g4 hw
  | j+3,hp=>simp at hp
 ·rintro e W' ⟨v,rfl,hb',hd⟩
  refine⟨v,rfl,⟨hP,_,g1.mono (fun _ _ h=>.inl h) fun b o x hd hx=>(hb'.cell (p:=⟨b,o,none⟩) (g2 b o hd).1).trans hx,fun b o h=>?_,fun b o h=>?_,fun b o h=>.inl (g4 b o h),hd⟩,Keep.of_below' hb' (Nat.le_refl _)⟩
  ·rcases h with h | h
   ·exact⟨Nat.lt_of_lt_of_le (g2 b o h).1 hb'.size,(g2 b o h).2⟩
   ·exact⟨h.2,by omega,by omega,by omega⟩
  ·rcases h with h | h
   ·exact g3 b o h
   ·exact .inr (by omega)
theorem InvD.done (h:InvD D0 w.heap.size pv P W u a):Dat (fun b o=>D0 b o\/(w.heap.size<=b/\b<W.heap.size)) W u (pv a):=by
 obtain⟨_,D,g1,g2,g3,g4,g5⟩:=h
 exact g5.mono (fun b o h=>(g3 b o h).imp id fun h'=>⟨h',(g2 b o h).1⟩) fun _ _ _ _ h=>h
end
theorem zcx {D:Nat->Nat->Prop} {w:World} {x:Value} {p:PV} (h:Dat D w x (.cp [p] 0)):∃ b o y,x=.pointer (some ⟨b,o,none⟩)/\D b o/\w.cell? ⟨b,o,none⟩=some y/\Dat D w y p:=by
 obtain⟨b,off,f,e,h1,h2⟩:=(Rel.dat (ρ:=fun _=>0) (nb:=0) h).inv_cp
 have:=h1 0 (by simp)
 exact⟨b,off,f 0,e,by simpa using this.1,by simpa using this.2.1,h2 0 p rfl⟩
theorem zbU {D:Nat->Nat->Prop} {w:World} {x:Value} {k:List Fg} {i:Nat} (h:Dat D w x (V8 k i)):∃ bk ok bi oi v,x=.func (.func 56) #[] #[.pointer (some ⟨bk,ok,none⟩),.pointer (some ⟨bi,oi,none⟩)]/\D bk ok/\D bi oi/\w.cell? ⟨bk,ok,none⟩=some v/\w.cell? ⟨bi,oi,none⟩=some (.int .u64 (i:Nat))/\Dat D w v (kp k):=by
 unfold V8 at h
 cases h with
 | fn f va vb fs cs h1 h2 h3 h4=>
   rw [Array.size_eq_zero_iff.1 h1]
   obtain⟨l⟩:=vb
   match l,h2 with
   | [y,z],_=>
     obtain⟨bk,ok,v,e1,d1,c1,q1⟩:=zcx (h4 0 _ rfl)
     obtain⟨bi,oi,u,e2,d2,c2,q2⟩:=zcx (h4 1 _ rfl)
     rw [q2.v_inv] at c2
     simp at e1 e2
     subst e1 e2
     exact⟨bk,ok,bi,oi,v,rfl,d1,d2,c1,c2,q1⟩
theorem zfQ {D:Nat->Nat->Prop} {w:World} {x:Value} (h:Dat D w x (.sl [] .sh)):∃ ad c,x=.slice ad 0 c:=by
 obtain⟨⟨a,n,c⟩,rfl,e⟩:=kH h
 simp only [List.length_nil] at e
 subst e
 exact⟨a,c,rfl⟩
def SzK (k:List Fg):Prop:=k.length<=1152921504606846976/\∀ f ∈ k,f.items.length<=1152921504606846976/\f.vec.length<=1152921504606846976/\∀ e ∈ f.vec,e.holes.length<=1152921504606846976
theorem YM {D:Nat->Nat->Prop} {w:World} {k:List Fg} {i bk ok bi oi:Nat} {a:Option Addr} {cap:Nat} {fs:List Fv} (hr:RightK k) (hz:SzK k) (hG:GL D w) (hD:∀ b o,D b o->b<w.heap.size) (d1:D bk ok) (d2:D bi oi) (c1:w.cell? ⟨bk,ok,none⟩=some (.slice a k.length cap)) (c2:w.cell? ⟨bi,oi,none⟩=some (.int .u64 (i:Nat)))
 (hl:fs.length=k.length) (hrow:zeF w.heap.size w a cap fs) (hfs:∀ j (h:j<fs.length),Dat D w (sv fs[j].1) (rg (k[j]'(hl ▸ h)).items)/\Dat D w (sv fs[j].2) (vp (k[j]'(hl ▸ h)).vec)) {W:World} (hb:Below w.heap.size w W) :
 v7 Tryz.prog 56 #[.pointer (some ⟨bk,ok,none⟩),.pointer (some ⟨bi,oi,none⟩)] Y4 (fun _=>False) (PtF w.heap.size bk bi) (wl (fun j=>mem (k.getD j default).items i) 0 fs) W:=by
 have hw:∀ b o x,D b o->w.cell? ⟨b,o,none⟩=some x->W.cell? ⟨b,o,none⟩=some x:=fun b o x hd hx=>(hb.cell (p:=⟨b,o,none⟩) (hD b o hd)).trans hx
 refine zew fs _ a cap bk ok bi oi w.heap.size i W ?_ (by rw [hl];exact hw _ _ _ d1 c1) (hw _ _ _ d2 c2) hb.size fun w' j hj hlow hsz=>?_
 ·obtain⟨h1,h2,h3⟩:=hrow
  refine⟨h1,h2,fun hne=>?_⟩
  obtain⟨b,off,e1,e2,e3⟩:=h3 hne
  exact⟨b,off,e1,e2,fun j hj=>⟨(hb.cell (p:=⟨b,off+j * 2,none⟩) e2).trans (e3 j hj).1,(hb.cell (p:=⟨b,off+j * 2+1,none⟩) e2).trans (e3 j hj).2⟩⟩
 ·have hw':∀ b o x,D b o->w.cell? ⟨b,o,none⟩=some x->w'.cell? ⟨b,o,none⟩=some x:=fun b o x hd hx=>(World.cell?_of_block (a:=⟨b,o,none⟩) (hlow b (hD b o hd))).trans (hw b o x hd hx)
  have hj':j<k.length:=hl ▸ hj
  have hm:=List.getElem_mem hj'
  have e:k.getD j default=k[j]:=by rw [List.getD_eq_getElem?_getD,List.getElem?_eq_getElem hj'];rfl
  simp only [e]
  refine(jP (ziQ k[j].items i (hr _ hm).1 (hz.2 _ hm).1) (hG.mono (fun _ _ h=>h) hw') (fun b o h=>Nat.lt_of_lt_of_le (hD b o h) hsz) rfl (fun t p hp=>?_)).mono ?_
  ·match t,hp with
   | 0,hp=>cases hp;exact(hfs j hj).1.mono (fun _ _ h=>h) hw'
   | 1,hp=>cases hp;exact .v _
   | t+2,hp=>simp at hp
  ·rintro e W' ⟨v,rfl,hb',hd⟩
   rw [hd.v_inv]
   exact⟨rfl,hb'⟩
def is (l:List Nat):PV:=.sl (l.map fun x=>[.v (.int .i64 (x:Nat))]) .sh
attribute [go_sem] is
theorem zfl {k:List Fg} {j:Nat} (h:j<k.length):k.getD j default=k[j]:=by rw [List.getD_eq_getElem?_getD,List.getElem?_eq_getElem h];rfl
theorem zf9 {α:Type} {pre xs:List α} {p:α} (h:pre++[p] <+: xs):p ∈ xs:=h.subset (by simp)
theorem zfk {C:Nat->List Nat} {R:List Nat} (k:List Fg) (i:Nat) (hk:IK C R k) (ok:OkC C R) (hr:RightK k) (hs:∀ f ∈ k,SmV f.vec) (hz:SzK k) :
 Cn Tryz.prog 34 [V8 k i,.sl [] .sh,.fn (.func 36) [] []] (vp (qc k i)):=by
 refine yZ rfl (enters_of Tryz.func34 (by kernel_rfl) rfl) fun D w vs hG hD hsz hd=>?_
 obtain⟨bk,ok',bi,oi,v,e0,d1,d2,c1,c2,hkv⟩:=zbU (hd 0 _ rfl)
 obtain⟨a,cap,fs,rfl,hl,hrow,hfs⟩:=kX hkv hD
 have hn0:=hd 1 _ rfl
 obtain⟨ad0,c0',e1⟩:=zfQ hn0
 rw [e1] at hn0
 rw [zjx hsz,e0,e1,zcA (hd 2 _ rfl)]
 refine(X8 56 _ bk bi _ w ad0 c0' (enters_of Tryz.func56 (by kernel_rfl) rfl) (fun W hb=>YM hr hz hG hD d1 d2 c1 c2 hl hrow hfs hb) (hD _ _ d1) (hD _ _ d2)
  (InvD D w.heap.size vp (WV C R)) (fun o p=>ks zn o (k.getD p.1 default).vec) [] (fun W hb=>InvD.start hn0 hG hD hb WV.nil rfl) (fun W u a h=>h.shape ⟨_,rfl⟩) (fun A B u a h hk=>h.keep hk) fun W u pre p hpre hs4 hb h=>?_).mono ?_
 ·obtain⟨hp1,_,hp3,_⟩:=zez (zf9 hpre)
  have hj:p.1<fs.length:=by simpa using hp1
  have hj':p.1<k.length:=hl ▸ hj
  have hm:=List.getElem_mem hj'
  have q:=hfs p.1 hj
  have e:p.2=fs[p.1]:=by rw [hp3];simp
  rw [zfl hj',e]
  exact h.step hD hb hs4 q.1 q.2 (zjy _ p.1 k[p.1] (h.1.smv ok) (hs _ hm)) (h.1.iv.lat fU0 (hk _ hm))
 ·rintro e w' ⟨u,rfl,hI,hb⟩
  have h:=hI.done
  rw [Yp hl i (fun o _ f=>ks zn o f.vec) []] at h
  exact⟨u,rfl,hb,h⟩
theorem zdx {D:Nat->Nat->Prop} {base:Nat} {w:World} {v:Value} {l:List Nat} (h:OwnI base w v l) (hD:∀ b o,base<=b->b<w.heap.size->D b o):Dat D w v (is l):=by
 unfold is
 have hlen:(l.map fun x=>[PV.v (.int .i64 (x:Nat))]).length=l.length:=by simp
 rcases id h.2 with⟨rfl,h0⟩ | ⟨g,cap,cur,rfl,hg,hh,hn,hc,_⟩
 ·obtain rfl:l=[]:=List.length_eq_zero_iff.1 h0
  exact .sl none 0 1 [] .sh 0 0 (fun _=>undef) (by simp) (fun h=>by cases h) (by unfold maxLen;omega) (fun h=>absurd rfl h) (fun i e h=>by simp at h) (fun j h=>by simp at h) (fun i e j p h=>by simp at h)
 ·rw [<-hlen]
  refine .sl _ cap 1 _ .sh g 0 (fun j=>.int .i64 (l.getD j 0:Nat)) (by simpa using hn) (fun h=>by cases h) hc (fun _=>rfl) (fun i e h=>?_) (fun j hj=>?_) (fun i e j p he hp=>?_)
  ·simp only [List.getElem?_map,Option.map_eq_some_iff] at h
   obtain⟨s,_,rfl⟩:=h
   rfl
  ·simp only [List.length_map,Nat.mul_one] at hj
   refine⟨hD _ _ hg (Array.getElem?_eq_some_iff.1 hh).1,?_,rfl⟩
   rw [Nat.zero_add,h.cellAt _ (by simpa using hj)]
   simp [hj]
  ·have hi:i<l.length:=by have:=(List.getElem?_eq_some_iff.1 he).1;simpa using this
   rw [List.getElem?_map,List.getElem?_eq_getElem hi] at he
   cases he
   match j,hp with
   | 0,hp=>cases hp;simp [hi];exact .v _
   | j+1,hp=>simp at hp
theorem zbj (l:List (Nat × Fv)):∀ a:List Nat,l.foldl (fun o p=>o++[p.1]) a=a++l.map Prod.fst:=by
 induction l with
 | nil=>intro a;simp
 | cons p l ih=>intro a;rw [List.foldl_cons,ih];simp
theorem JV (l:List (Nat × Fg)):∀ a:List Nat,l.foldl (fun o p=>o++[p.1]) a=a++l.map Prod.fst:=by
 induction l with
 | nil=>intro a;simp
 | cons p l ih=>intro a;rw [List.foldl_cons,ih];simp
theorem zey (hit:Nat->Bool):∀(n:Nat) (l:List Fv),(wl hit n l).length<=l.length
 | _,[]=>Nat.le_refl _
 | n,f::l=>by
   have:=zey hit (n+1) l
   unfold wl
   split<;>simp<;>omega
theorem K9 (k:List Fg) (i:Nat) (hr:RightK k) (hz:SzK k) (hkl:k.length<=1073741824):Cn Tryz.prog 31 [kp k,.v (.int .u64 i)] (is (zU k i)):=by
 refine yZ rfl (enters_of Tryz.func31 (by kernel_rfl) rfl) fun D w vs hG hD hsz hd=>?_
 obtain⟨a,cap,fs,e0,hl,hrow,hfs⟩:=kX (hd 0 _ rfl) hD
 rw [zeJ hsz,e0,(hd 1 _ rfl).v_inv]
 obtain⟨w1,hw1⟩:∃ w1,(w.alloc (.cells #[.slice a k.length cap] 23)).alloc (.cells #[.int .u64 (i:Nat)] 33)=w1:=⟨_,rfl⟩
 have hs1:w1.heap.size=w.heap.size+2:=by rw [<-hw1];simp
 have b1:Below w.heap.size w w1:=by rw [<-hw1];exact((Below.refl _ _).alloc (Nat.le_refl _) _).alloc (by simp) _
 have x1:Boxed w1 w.heap.size 23 (.slice a k.length cap):=by rw [<-hw1];exact(Boxed.new w _ _).alloc _
 have x2:Boxed w1 (w.heap.size+1) 33 (.int .u64 (i:Nat)):=by rw [<-hw1];have:=Boxed.new (w.alloc (.cells #[.slice a k.length cap] 23)) 33 (.int .u64 (i:Nat));rw [World.size_alloc] at this;exact this
 have hwc:∀ b o x,D b o->w.cell? ⟨b,o,none⟩=some x->w1.cell? ⟨b,o,none⟩=some x:=fun b o x hd hx=>(b1.cell (p:=⟨b,o,none⟩) (hD b o hd)).trans hx
 obtain⟨E,hE⟩:∃ E:Nat->Nat->Prop,E=fun b o=>D b o\/(w.heap.size<=b/\b<w1.heap.size):=⟨_,rfl⟩
 have hEb:∀ b o,E b o->b<w1.heap.size:=fun b o h=>by rw [hE] at h;exact h.elim (fun h=>by have:=hD b o h;omega) And.right
 have hfold:Calls Tryz.prog 52 #[.func (.func 56) #[] #[.pointer (some ⟨w.heap.size,0,none⟩),.pointer (some ⟨w.heap.size+1,0,none⟩)],.slice none 0 0,.func (.func 53) #[] #[]] w1 fun e w'=>∃ u,e=.returned u/\OwnI (w1.heap.size+4) w' u (zU k i)/\Below w1.heap.size w1 w':=by
  refine(X7 56 _ w.heap.size (w.heap.size+1) _ w1 none 0 (enters_of Tryz.func56 (by kernel_rfl) rfl) (fun W hb=>YM (D:=E) (a:=a) (cap:=cap) (fs:=fs) hr hz (hG.mono (fun b o h=>by rw [hE];exact .inl h) hwc) hEb (by rw [hE];exact .inr (by omega)) (by rw [hE];exact .inr (by omega)) x1.cell x2.cell hl ?_ (fun j hj=>⟨(hfs j hj).1.mono (fun b o h=>by rw [hE];exact .inl h) hwc,(hfs j hj).2.mono (fun b o h=>by rw [hE];exact .inl h) hwc⟩) hb) (by omega) (by omega)
   (fun W u l=>OwnI (w1.heap.size+4) W u l) (fun o p=>o++[p.1]) [] (fun W _=>OwnI.nil _ _) (fun W u a h=>h.shape) (fun A B u a h hk=>h.keep hk fun g hg _=>by omega) fun W u pre p hpre hs4 hb h=>?_).mono ?_
  ·obtain⟨h1,h2,h3⟩:=hrow
   refine⟨h1,h2,fun hne=>?_⟩
   obtain⟨b,off,e1,e2,e3⟩:=h3 hne
   exact⟨b,off,e1,by omega,fun j hj=>⟨(b1.cell (p:=⟨b,off+j * 2,none⟩) e2).trans (e3 j hj).1,(b1.cell (p:=⟨b,off+j * 2+1,none⟩) e2).trans (e3 j hj).2⟩⟩
  ·have hpl:pre.length<=k.length:=by
    have h1:=hpre.length_le
    have h2:=zey (fun j=>mem (k.getD j default).items i) 0 fs
    simp only [List.length_append,List.length_cons,List.length_nil] at h1
    omega
   refine JY (w1.heap.size+4) W u _ p.1 _ _ h (by omega) ?_
   rw [zbj]
   simp
   omega
  ·rintro e w' ⟨u,rfl,hI,hb⟩
   rw [Yp hl i (fun o j _=>o++[j]) [],JV,List.nil_append] at hI
   exact⟨u,rfl,hI,hb⟩
 have HF:=Lib.hid hfold
 have HB:=Lib.hid b1
 clear hfold b1 x1 x2 hwc hE hEb hrow hfs hd hG hD
 go_enter Tryz.func31,Tryz.ntmps31
 go_wp2_with (first
  | (go_at_call 35;refine(zex _ _ _ _ _).mono ?_;rintro e w' ⟨rfl,rfl⟩;rw [hw1])
  | (go_at_call 52;refine HF.out.mono ?_;rintro e w2 ⟨u,rfl,ho,hb2⟩;obtain⟨au,nu,cu,rfl⟩:=ho.shape))
 go_ret
 exact⟨_,rfl,HB.out.trans (hb2.mono (by omega)),zdx ho fun b o h1 h2=>.inr (by omega)⟩
theorem zgU {C:Nat->List Nat} {R:List Nat} (k:List Fg) (i:Nat) (hk:IK C R k) (ok:OkC C R) (hr:RightK k) (hs:∀ f ∈ k,SmV f.vec) (hz:SzK k):Cn Tryz.prog 21 [kp k,.v (.int .u64 i)] (vp (qc k i)):=by
 refine zt Tryz.func21 2 ?_
 refine pw ?_
 refine .c (zfB k i) ?_
 exact .d (zfk k i hk ok hr hs hz)
end Go.Proofs.YtopfkkogooocgaaGreat
namespace Go.Proofs.YtopfkkogooocgaaGreat
open Go.RowKit
attribute [-go_sem] z7
theorem zrb {D:Nat->Nat->Prop} {w:World} {x:Value} {v:List En} (h:Dat D w x (vp v)):∃ a c,x=.slice a v.length c:=by
 obtain⟨⟨a,n,c⟩,rfl,e⟩:=kH h
 simp only [List.length_map] at e
 subst e
 exact⟨a,c,rfl⟩
theorem zrJ {D:Nat->Nat->Prop} {w:World} {va vb:Value} {a b:List En} (ha:SmV a) (hb:SmV b) (hG:GL D w) (hD:∀ b o,D b o->b<w.heap.size) (da:Dat D w va (vp a)) (db:Dat D w vb (vp b)) :
 Calls Tryz.prog 37 #[va,vb] w fun e w'=>∃ v,e=.returned v/\Below w.heap.size w w'/\Dat (fun b o=>D b o\/(w.heap.size<=b/\b<w'.heap.size)) w' v (vp (ks zn a b))/\MuE (w.heap.size<=·) w' v:=by
 have hdo:=zcD D a b va vb w zn 41 (fun r=>zaz _ _ (qS ha r).1 (qS hb r).1 (by have:=(qS ha r).2;have:=(qS hb r).2;omega)) ha hb (dat_rdf da hD ha.bd) (dat_rdf db hD hb.bd) hD hG
 obtain⟨a0,n0,rfl⟩:=zrb da
 obtain⟨a1,n1,rfl⟩:=zrb db
 have HDO:=Lib.hid hdo
 clear hdo hG hD da db
 go_enter Tryz.func37,Tryz.ntmps37
 go_wp2_with (go_at_call 58;refine HDO.out.mono ?_;rintro e w1 ⟨u1,rfl,hb1,hd1,hm1⟩;obtain⟨a2,n2,rfl⟩:=zrb hd1)
 go_ret
 exact⟨_,rfl,hb1,hd1.mono (fun b o h=>h.imp id fun h=>⟨by omega,h.2⟩) fun _ _ _ _ h=>h,hm1⟩
theorem InvD.stepC {α:Type} {D0:Nat->Nat->Prop} {pv:α->PV} {P:α->Prop} {w W:World} {u:Value} {a a':α} {F1:FuncId} {i:Nat} {f:Fv} {g:Fg} {X:World->Value->Prop} (h:InvD D0 w.heap.size pv P W u a) (hD:∀ b o,D0 b o->b<w.heap.size) (hb:Below w.heap.size w W) (hs:w.heap.size+4<=W.heap.size) (h0:Dat D0 w (sv f.1) (rg g.items)) (h1:Dat D0 w (sv f.2) (vp g.vec))
 (hc:∀ D,GL D W->(∀ b o,D b o->b<W.heap.size)->Dat D W u (pv a)->Dat D W (sv f.1) (rg g.items)->Dat D W (sv f.2) (vp g.vec)->Calls Tryz.prog F1 #[u,.int .i64 (i:Nat),.agg #[sv f.1,sv f.2]] W fun e W'=>∃ u',e=.returned u'/\Below W.heap.size W W'/\Dat (fun b o=>D b o\/(W.heap.size<=b/\b<W'.heap.size)) W' u' (pv a')/\X W' u') (hP:P a') :
 Calls Tryz.prog F1 #[u,.int .i64 (i:Nat),.agg #[sv f.1,sv f.2]] W fun e W'=>∃ u',e=.returned u'/\(InvD D0 w.heap.size pv P W' u' a'/\X W' u')/\Keep (zaB (w.heap.size+4) W) W W':=by
 obtain⟨_,D,g1,g2,g3,g4,g5⟩:=h
 have hw:∀ b o x,D0 b o->w.cell? ⟨b,o,none⟩=some x->W.cell? ⟨b,o,none⟩=some x:=fun b o x hd hx=>(hb.cell (p:=⟨b,o,none⟩) (hD b o hd)).trans hx
 refine(hc D g1 (fun b o h=>(g2 b o h).1) g5 (h0.mono g4 hw) (h1.mono g4 hw)).mono ?_
 rintro e W' ⟨v,rfl,hb',hd,hx⟩
 refine⟨v,rfl,⟨⟨hP,_,g1.mono (fun _ _ h=>.inl h) fun b o x hd hx=>(hb'.cell (p:=⟨b,o,none⟩) (g2 b o hd).1).trans hx,fun b o h=>?_,fun b o h=>?_,fun b o h=>.inl (g4 b o h),hd⟩,hx⟩,Keep.of_below' hb' (Nat.le_refl _)⟩
 ·rcases h with h | h
  ·exact⟨Nat.lt_of_lt_of_le (g2 b o h).1 hb'.size,(g2 b o h).2⟩
  ·exact⟨h.2,by omega,by omega,by omega⟩
 ·rcases h with h | h
  ·exact g3 b o h
  ·exact .inr (by omega)
theorem zrn (D:Nat->Nat->Prop) (w:World):Dat D w (.slice none 0 0) (.sl [] .sh):=
 .sl none 0 1 [] .sh 0 0 (fun _=>undef) (by simp) (fun h=>by cases h) (by unfold maxLen;omega) (fun h=>absurd rfl h) (fun i e h=>by simp at h) (fun j h=>by simp at h) (fun i e j p h=>by simp at h)
theorem zsg {D:Nat->Nat->Prop} {W:World} {u:Value} {i:Nat} {f:Fv} {v vg:List En} (hv:SmV v) (hf:SmV vg) (hG:GL D W) (hD:∀ b o,D b o->b<W.heap.size) (du:Dat D W u (vp v)) (df:Dat D W (sv f.2) (vp vg)) :
 Calls Tryz.prog 36 #[u,.int .i64 (i:Nat),.agg #[sv f.1,sv f.2]] W fun e W'=>∃ u',e=.returned u'/\Below W.heap.size W W'/\Dat (fun b o=>D b o\/(W.heap.size<=b/\b<W'.heap.size)) W' u' (vp (ks zn v vg))/\MuE (W.heap.size<=·) W' u':=by
 have hu:∀ W1,Below W.heap.size W W1->Calls Tryz.prog 37 #[u,sv f.2] W1 fun e w'=>∃ v',e=.returned v'/\Below W1.heap.size W1 w'/\Dat (fun b o=>D b o\/(W1.heap.size<=b/\b<w'.heap.size)) w' v' (vp (ks zn v vg))/\MuE (W1.heap.size<=·) w' v':=fun W1 hW=>by
  have hw:∀ b o x,D b o->W.cell? ⟨b,o,none⟩=some x->W1.cell? ⟨b,o,none⟩=some x:=fun b o x hd hx=>(hW.cell (p:=⟨b,o,none⟩) (hD b o hd)).trans hx
  exact zrJ hv hf (hG.mono (fun _ _ h=>h) hw) (fun b o h=>Nat.lt_of_lt_of_le (hD b o h) hW.size) (du.mono (fun _ _ h=>h) hw) (df.mono (fun _ _ h=>h) hw)
 obtain⟨a0,n0,rfl⟩:=zrb du
 obtain⟨⟨a1,l1,c1⟩,a2,l2,c2⟩:=f
 simp only [sv] at hu ⊢
 have HU:=Lib.hid hu
 clear hu hG hD du df
 go_enter Tryz.func36,Tryz.ntmps36
 go_wp2_with (go_at_call 37;refine(HU.out _ ((Below.refl _ W).alloc (Nat.le_refl _) _)).mono ?_;rintro e w2 ⟨u2,rfl,hb2,hd2,hm2⟩;obtain⟨a3,n3,rfl⟩:=zrb hd2)
 go_ret
 rw [World.size_alloc] at hd2 hm2 hb2
 exact⟨_,rfl,((Below.refl _ W).alloc (Nat.le_refl _) _).trans (hb2.mono (by omega)),hd2.mono (fun b o h=>h.imp id fun h=>⟨by omega,h.2⟩) fun _ _ _ _ h=>h,hm2.mono fun b hb=>by omega⟩
theorem zsk {C:Nat->List Nat} {R:List Nat} (k:List Fg) (i:Nat) (hk:IK C R k) (ok:OkC C R) (hr:RightK k) (hs:∀ f ∈ k,SmV f.vec) (hz:SzK k) {D:Nat->Nat->Prop} {w:World} {x:Value} (hG:GL D w) (hD:∀ b o,D b o->b<w.heap.size) (d:Dat D w x (kp k)) :
 Calls Tryz.prog 21 #[x,.int .u64 (i:Nat)] w fun e w'=>∃ u,e=.returned u/\Below w.heap.size w w'/\MuE (w.heap.size<=·) w' u:=by
 obtain⟨a,cap,fs,rfl,hl,hrow,hfs⟩:=kX d hD
 obtain⟨w1,hw1⟩:∃ w1,(w.alloc (.cells #[.slice a k.length cap] 23)).alloc (.cells #[.int .u64 (i:Nat)] 33)=w1:=⟨_,rfl⟩
 have hs1:w1.heap.size=w.heap.size+2:=by rw [<-hw1];simp
 have b1:Below w.heap.size w w1:=by rw [<-hw1];exact((Below.refl _ _).alloc (Nat.le_refl _) _).alloc (by simp) _
 have x1:Boxed w1 w.heap.size 23 (.slice a k.length cap):=by rw [<-hw1];exact(Boxed.new w _ _).alloc _
 have x2:Boxed w1 (w.heap.size+1) 33 (.int .u64 (i:Nat)):=by rw [<-hw1];have:=Boxed.new (w.alloc (.cells #[.slice a k.length cap] 23)) 33 (.int .u64 (i:Nat));rw [World.size_alloc] at this;exact this
 have hwc:∀ b o x,D b o->w.cell? ⟨b,o,none⟩=some x->w1.cell? ⟨b,o,none⟩=some x:=fun b o x hd hx=>(b1.cell (p:=⟨b,o,none⟩) (hD b o hd)).trans hx
 obtain⟨E,hE⟩:∃ E:Nat->Nat->Prop,E=fun b o=>D b o\/(w.heap.size<=b/\b<w1.heap.size):=⟨_,rfl⟩
 have hEb:∀ b o,E b o->b<w1.heap.size:=fun b o h=>by rw [hE] at h;exact h.elim (fun h=>by have:=hD b o h;omega) And.right
 have hDE:∀ b o,D b o->E b o:=fun b o h=>by rw [hE];exact .inl h
 have hGE:GL E w1:=hG.mono hDE hwc
 have hfE:∀ j (hj:j<fs.length),Dat E w1 (sv fs[j].1) (rg (k[j]'(hl ▸ hj)).items)/\Dat E w1 (sv fs[j].2) (vp (k[j]'(hl ▸ hj)).vec):=fun j hj=>⟨(hfs j hj).1.mono hDE hwc,(hfs j hj).2.mono hDE hwc⟩
 have hfold:Calls Tryz.prog 34 #[.func (.func 56) #[] #[.pointer (some ⟨w.heap.size,0,none⟩),.pointer (some ⟨w.heap.size+1,0,none⟩)],.slice none 0 0,.func (.func 36) #[] #[]] w1 fun e w'=>∃ u,e=.returned u/\MuE (w1.heap.size+4<=·) w' u/\Below w1.heap.size w1 w':=by
  refine(X8 56 _ w.heap.size (w.heap.size+1) _ w1 none 0 (enters_of Tryz.func56 (by kernel_rfl) rfl) (fun W hb=>YM (D:=E) (a:=a) (cap:=cap) (fs:=fs) hr hz hGE hEb (by rw [hE];exact .inr (by omega)) (by rw [hE];exact .inr (by omega)) x1.cell x2.cell hl ?_ hfE hb) (by omega) (by omega)
   (fun W u a=>InvD E w1.heap.size vp (WV C R) W u a/\MuE (w1.heap.size+4<=·) W u) (fun o p=>ks zn o (k.getD p.1 default).vec) [] (fun W hb=>⟨InvD.start (zrn _ _) hGE hEb hb WV.nil rfl,0,MuR.nil⟩) (fun W u a h=>h.1.shape ⟨_,rfl⟩) (fun A B u a h hk=>⟨h.1.keep hk,h.2.same fun b hb hlt=>hk.block b hlt (by omega)⟩) fun W u pre p hpre hs4 hb h=>?_).mono ?_
  ·obtain⟨h1,h2,h3⟩:=hrow
   refine⟨h1,h2,fun hne=>?_⟩
   obtain⟨b,off,e1,e2,e3⟩:=h3 hne
   exact⟨b,off,e1,by omega,fun j hj=>⟨(b1.cell (p:=⟨b,off+j * 2,none⟩) e2).trans (e3 j hj).1,(b1.cell (p:=⟨b,off+j * 2+1,none⟩) e2).trans (e3 j hj).2⟩⟩
  ·obtain⟨hp1,_,hp3,_⟩:=zez (zf9 hpre)
   have hj:p.1<fs.length:=by simpa using hp1
   have hj':p.1<k.length:=hl ▸ hj
   have hm:=List.getElem_mem hj'
   have q:=hfE p.1 hj
   have e:p.2=fs[p.1]:=by rw [hp3];simp
   rw [zfl hj',e]
   refine h.1.stepC (X:=fun W u=>MuE (w1.heap.size+4<=·) W u) hEb hb hs4 q.1 q.2 (fun D' g1 g2 du _ d1=>(zsg (h.1.1.smv ok) (hs _ hm) g1 g2 du d1).mono ?_) (h.1.1.iv.lat fU0 (hk _ hm))
   rintro e W' ⟨u',rfl,hb',hd',hm'⟩
   exact⟨u',rfl,hb',hd',hm'.mono fun b hb=>Nat.le_trans hs4 hb⟩
  ·rintro e w' ⟨u,rfl,hI,hb⟩
   exact⟨u,rfl,hI.2,hb⟩
 have HF:=Lib.hid hfold
 have HB:=Lib.hid b1
 clear hfold b1 x1 x2 hwc hE hEb hrow hfs hfE hG hD hGE hDE d
 go_enter Tryz.func21,Tryz.ntmps21
 go_wp2_with (first
  | (go_at_call 35;refine(zex _ _ _ _ _).mono ?_;rintro e w' ⟨rfl,rfl⟩;rw [hw1])
  | (go_at_call 34;refine HF.out.mono ?_;rintro e w2 ⟨u,rfl,ho,hb2⟩;have ho':=ho;obtain⟨nu,au,cu,rfl,_⟩:=ho'))
 go_ret
 exact⟨_,rfl,HB.out.trans (hb2.mono (by omega)),ho.mono fun b hb=>by omega⟩
end Go.Proofs.YtopfkkogooocgaaGreat
