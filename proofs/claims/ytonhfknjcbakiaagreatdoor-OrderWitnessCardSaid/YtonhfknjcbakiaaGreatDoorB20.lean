import Derived.Test.YtonhfknjcbakiaaGreatDoorB19
set_option maxHeartbeats 16000000
set_option linter.unusedVariables false
set_option linter.unusedSimpArgs false
set_option maxRecDepth 100000
namespace Go.Proofs.YtonhfknjcbakiaaGreatDoor
open Go.RowKit Go.Maps
attribute [-go_sem] z7
theorem jL {n:Nat} {A B C:World} {S:Nat->Prop} (h:Below n A B) (hk:Keep S B C) (hs:∀ k,k<n->¬ S k) (hn:n<=A.heap.size):Below n A C:=
 ⟨hk.os.trans h.os,hk.tape.trans h.tape,hk.output.trans h.output,Nat.le_trans h.size hk.size,fun k hkn=>(hk.block k (by have:=h.size;omega) (hs k hkn)).trans (h.block k hkn)⟩
theorem yD {w w':World} {b r n YV:Nat} {D:DV} {left:Lit->Bool} (h:w.ranges Tryz.prog 24 rV b r n D left YV) (hb:w'.heap[b]? = w.heap[b]?) (hr:w'.heap[r]? = w.heap[r]?):w'.ranges Tryz.prog 24 rV b r n D left YV:=by
 obtain⟨es,clock,since,seen,c0,h1,F,hs,hD,h2,rest⟩:=h
 exact⟨es,clock,since,seen,c0,hb.trans h1,F,hs,hD,hr.trans h2,rest⟩
theorem zhV:∀(key:Value) (kl:Lit),keyOf Tryz.prog 24 key=some kl->∃ x:{r:Nat // r<zk},key=Value.int .u64 (x.1:Nat):=fun key kl h=>by
 obtain⟨x,rfl,_,hw⟩:=Maps.keyOf_int_inv Tryz.underlying24 h
 simp [Lit.wf,IntKind.min,IntKind.max,IntKind.signed,IntKind.bits] at hw
 refine⟨⟨x.toNat,by rw [zw];omega⟩,?_⟩
 rw [Int.toNat_of_nonneg (by omega)]
theorem QM {left:Lit->Bool} {r x:Nat}:(left (kR r) && !(kR r).sameKey (kR x))=false ↔ left (kR r)=false\/r=x:=by
 have h:(kR r).sameKey (kR x)=decide (r=x):=by
  simp [kR,Lit.sameKey]
  omega
 rw [h]
 cases left (kR r)<;>simp
theorem zeK:∀(r xs:List Nat),YN r->(∀ y ∈ r,y ∈ xs)->r.length<=xs.length:=by
 intro r
 induction r with
 | nil=>intro xs _ _;exact Nat.zero_le _
 | cons x r ih=>
   intro xs h hm
   have h':=List.pairwise_cons.1 h
   have:=ih (xs.erase x) h'.2 fun y hy=>by
    have h3:=h'.1 y hy
    exact(List.mem_erase_of_ne (by omega)).2 (hm y (by simp [hy]))
   have hx:x ∈ xs:=hm x (by simp)
   rw [List.length_erase_of_mem hx] at this
   have:=List.length_pos_of_mem hx
   simp;omega
theorem zkr (a1 a2:Option Addr) (n1 n2 c1 c2:Nat) (w:World):(Instr.index 200 (.agg #[.slice a1 n1 c1,.slice a2 n2 c2]) (.int .i64 0)).run Tryz.prog w=.ok (.slice a1 n1 c1) w:=by kernel_rfl
theorem zks (a1 a2:Option Addr) (n1 n2 c1 c2:Nat) (w:World):(Instr.index 200 (.agg #[.slice a1 n1 c1,.slice a2 n2 c2]) (.int .i64 1)).run Tryz.prog w=.ok (.slice a2 n2 c2) w:=by kernel_rfl
theorem zkk:(Tryz.prog.info? 38).map (fun i=>(i.zero,i.size,i.bytes))=some (some (.agg #[.int .u64 0,.int .u64 0,.slice none 0 0]),3,40):=by kernel_rfl
theorem OwnU.shape {base:Nat} {w:World} {v:Value} {l:List Nat} (h:OwnU base w v l):∃ ad cap,v=.slice ad l.length cap/\l.length<=cap/\cap<=maxLen/\(l≠[]->∃ g,ad=some ⟨g,0,none⟩/\g<w.heap.size/\∀ j (hj:j<l.length),w.cell? ⟨g,j,none⟩=some (.int .u64 (l[j]:Nat))):=by
 rcases h.cases with⟨rfl,rfl⟩ | ⟨g,cap,cur,rfl,h1,h2,h3,h4,h5,h6,h7⟩
 ·exact⟨none,0,rfl,Nat.le_refl _,Nat.zero_le _,fun h=>absurd rfl h⟩
 ·refine⟨_,cap,rfl,h4,h5,fun _=>⟨g,rfl,h2,fun j hj=>?_⟩⟩
  have:=World.ownsRow.cells h (g:=g) rfl j (uV l[j]) (by rw [List.getElem?_map,List.getElem?_eq_getElem hj];rfl)
  rw [zh,Nat.zero_add] at this
  exact this
theorem zac {f:Bool->Bool->Bool} {a b:List En} {r:Nat} {e:En} {ok:Bool} (h:Qi r (qy f (zT a r) (zT b r))=(e,ok)):vE f a b r=if ok=true then some e else none:=by
 unfold vE Xd
 rw [h]
theorem KZ {f:Bool->Bool->Bool} {a b:List En} {L:List Nat} {k:Nat} (hk:k<L.length):(L.take (k+1)).filterMap (vE f a b)=(L.take k).filterMap (vE f a b)++(vE f a b L[k]).toList:=by
 rw [List.take_succ_eq_append_getElem hk,List.filterMap_append,List.filterMap_cons,List.filterMap_nil]
 cases vE f a b L[k]<;>rfl
theorem Ja {P:Program} {f:FuncId} {t:Tmp} {xs:List Operand} {c:Call} {o:Oper} {a:Act} {w:World} {K:Act->World->Prop} {Q:Exit->Act->World->Prop} (ho:o.op=.call c) (hc:c.callee=.value (.tmp t)) (hv:a.eval (.tmp t)=.func (.func f) #[] #[]) (ha:c.args.toList=xs)
 (he:∀ args w,(callFunc f args).run P w=.ok (.enter f args) w)
 (h:Calls P f (xs.map a.eval).toArray w fun e w''=>match e with | .returned v=>K (a.put o.dst v) w'' | .panicked chain=>Q (.panic chain) a w'' | .outgrown=>LetsOut Q):o.wp P a w K Q:=by
 have hr:(execOp a.eval o).run P w=.ok (.enter f (xs.map a.eval).toArray) w:=by
  have e:c.args.map a.eval=(xs.map a.eval).toArray:=Array.toList_inj.1 (by rw [Array.toList_map,ha])
  simp only [execOp,ho,resolve,hc,e,hv,Deferred.ofValue,Sem.run_bind,Sem.run_pure,Result.andThen_ok,invoke]
  rw [show (#[]++(xs.map a.eval).toArray++#[]:Array Value)=(xs.map a.eval).toArray from by simp]
  exact he _ _
 unfold Oper.wp
 rw [hr,Oper.upon_enter]
 exact h.mono (fun e w' h=>by cases e<;>exact h)
theorem Zi {P:Program} {w:World} {o:Oper} {a:Act} {K:Act->World->Prop} {Q:Exit->Act->World->Prop} (s x:Operand) (t:TypeId)
 (ho:o.op=.call { callee:=.builtin .append,args:=#[s,x],argTypes:=#[t,t] })
 (base:Nat) (e:TypeId) (i:TypeInfo) (z:Value) (size bytes:Nat) (ht:P.underlying t=some (.slice e)) (hi:P.info? e=some i) (hz:i.zero=some z)
 (hsize:i.size=size) (hby:i.bytes=bytes) (hzs:z.cells.size=size) (hsz:0<size)
 (v:Value) (n:Nat) (xs:List Value) (hs:a.eval s=v) (hown:w.ownsRow base e size v n xs)
 (ad:Addr) (m c:Nat) (news:List Value) (hx:a.eval x=.slice (some ad) m c) (hl:news.length=m * size) (hnews:∀ j u,news[j]? = some u->w.cell? (ad.add j)=some u) (h1:∀ u ∈ news,u.oneCell'=true)
 (h63:n+m<=maxLen) (hbytes:(n+m) * bytes<=140737488355328) (hbase:base<=w.heap.size)
 (h:∀ v' w',w'.ownsRow base e size v' (n+m) (xs++news)->w.grownBy w' v.ownBlock->(v'=.slice none 0 0 ↔ v=.slice none 0 0/\m=0)->(v'.ownBlock=v.ownBlock\/v'.ownBlock=some w.heap.size)->K (a.put o.dst v') w') :
 o.wp P a w K Q:=by
 obtain⟨v',w',hr,h2,h3,h4,h5⟩:=run_append_own_at (P:=P) w base t o.type e i z size bytes ht hi hz hsize hby hzs hsz v n xs hown ad m c news hl hnews h1 h63 hbytes hbase
 unfold Oper.wp execOp
 simp only [ho,resolve,invoke,builtin,Sem.run_bind,Sem.run_pure,Result.andThen_ok,List.map_toArray,List.map_cons,List.map_nil,hs,hx,hr]
 exact h v' w' h2 h3 h4 h5
theorem zcD (C:Nat->Nat->Prop) (a b:List En) (va vb:Value) (w:World) (f:Bool->Bool->Bool) (op:FuncId) (hop:∀ r,Cn Tryz.prog op [rg (zT a r),rg (zT b r)] (rg (qy f (zT a r) (zT b r))))
 (ha:SmV a) (hb:SmV b) (ra:RdF C w.heap.size w va a) (rb:RdF C w.heap.size w vb b) (hC:∀ b o,C b o->b<w.heap.size) (hG:GL C w) :
 Calls Tryz.prog 112 #[va,vb,.func (.func op) #[] #[]] w fun e w'=>∃ v,e=.returned v/\Below w.heap.size w w'/\Dat (DL C w.heap.size w') w' v (vp (ks f a b)):=by
 have HP0:=Lib.hid (J4 C a b va vb w ha hb ra rb hC hG)
 have HGL:=Lib.hid hG
 have hent:=(hop 0).1
 have HOP:=Lib.hid hop
 have HM:=Lib.hid (Xr ha.1 hb.1)
 obtain⟨dom,hdom⟩:∃ dom,dom=zM a++zM b:=⟨_,rfl⟩
 have hdl:dom.length<=2097152:=by have h1:=ha.2.1;have h2:=hb.2.1;rw [hdom];simp [zM];omega
 have hlat:ks f a b=(srt dom).filterMap (vE f a b):=by rw [hdom];rfl
 rw [<-hdom] at HM
 have HLat:=Lib.hid hlat
 have HDom:=Lib.hid hdom
 clear hG ra rb hop hlat
 have tokA:True:=trivial
 have tokB:True:=trivial
 go_enter Tryz.func112,Tryz.ntmps112
 go_wp2_with (first
  | (go_at_call 159;have _t:=tokA;refine HP0.out.mono ?_;rintro e w1 ⟨rfl,hb1,D,hown,hpd⟩
     rw [<-hdom] at hpd
     have hmb:w.heap.size<w1.heap.size:=hown.lt
     have HO1:=Lib.hid hown
     have HP1:=Lib.hid hpd
     have HB1:=Lib.hid hb1
     clear hown hpd hb1 tokA)
  | (at_range;have _t:=tokB;refine wpList_range_own _ rfl _ 195 rfl 24 200 vF Tryz.underlying195 rV w.heap.size (a.length+b.length) D rfl (HO1.out.alloc _) ?_;intro w2 hrg2 hg2 hs2;clear tokB)
  | go_in)
 go_frame
 simp only [World.size_alloc] at hrg2 hs2 ⊢
 clear hdom
 have HG2:=Lib.hid hg2
 have hbx2:Boxed w2 w1.heap.size 198 (.slice none 0 0):=(Boxed.new w1 _ _).kept hg2 (by simp)
 have HK2:Hid (∀ k,k<w1.heap.size->w2.heap[k]? = w1.heap[k]?):=Lib.hid fun k hk=>(hg2.block k (by simp;omega) (by simp)).trans (Below.heap_alloc _ _ _ hk)
 have HB2:=Lib.hid (jL HB1.out (S:=fun _=>False) ⟨hg2.os,hg2.tape,hg2.output,Nat.le_trans (by simp) hg2.size,fun k hk _=>HK2.out k hk⟩ (fun _ _ h=>h) (Nat.le_refl _))
 clear hg2
 go_loopg [9] (Maps.size D) (fun g x wr=>∃ left xs v,wr.ranges Tryz.prog 24 rV w.heap.size (w1.heap.size+1) (a.length+b.length) D left g/\(∀ r,r ∈ xs ↔ r ∈ dom/\left (kR r)=false)/\(∀ r,left (kR r)=true->r ∈ dom) /\
  OwnU (w1.heap.size+2) wr v (srt xs)/\Boxed wr w1.heap.size 198 v/\Keep (fun k=>w1.heap.size<=k) w2 wr)
 case atStart=>
  have hpd:=HP1.out
  refine⟨Maps.has D,[],.slice none 0 0,hrg2,fun r=>?_,fun r h=>?_,?_,hbx2,Keep.refl _ _⟩
  ·rw [(hpd.2 r).1];simp
  ·rw [(hpd.2 r).1] at h;simpa using h
  ·rw [XB];exact World.ownsRow_nil _ _ _ _
 case round=>
  obtain⟨left,xs,v,hrg,hxs,hlf,hown,hbx,hK⟩:=hrel
  obtain⟨wl,hwl⟩:∃ x,x=wr:=⟨_,rfl⟩
  subst hwl
  have HRG:=Lib.hid hrg
  have HXS:=Lib.hid hxs
  have HLF:=Lib.hid hlf
  have HOW:=Lib.hid hown
  have HBX:=Lib.hid hbx
  have HKL:=Lib.hid hK
  have hsl:(srt xs).length<=2097152:=Nat.le_trans (zeK _ dom (yi xs) fun y hy=>((hxs y).1 (qr.1 hy)).1) hdl
  have hw2l:w2.heap.size<=wl.heap.size:=hK.size
  have HKW:Hid (∀ k,k<w1.heap.size->wl.heap[k]? = w1.heap[k]?):=Lib.hid fun k hk=>(hK.block k (by omega) (by omega)).trans (HK2.out k hk)
  have HBL:=Lib.hid (jL HB2.out hK (fun k hk=>by omega) (Nat.le_refl _))
  have HGW:Hid (GL C wl):=Lib.hid (HGL.out.mono (fun _ _ h=>h) fun j o x hj hx=>(World.cell?_of_block (a:=⟨j,o,none⟩) (HBL.out.block j (hC j o hj))).trans hx)
  clear hrg2 hbx2 hrg hxs hlf hown hbx hK
  go_wp2_with (first
   | (at_next;refine wpList_next_ranges _ rfl _ rfl 24 vF rV (fun r:{r:Nat // r<zk}=>Value.int .u64 (r.1:Nat)) (fun c:Value=>c) zhV (fun v y _=>⟨v,rfl⟩) w.heap.size (w1.heap.size+1) (a.length+b.length) D left gk rfl HRG.out ?_ ?_)
   | go_in)
  ·intro hc0 hl0
   have hL:srt xs=srt dom:=XA (yi dom) fun y=>by rw [qr,HXS.out y,hl0];simp
   have HOW2:=HOW.out
   rw [hL] at HOW2 hsl
   have c0:=HBX.out.cell
   have hown:=HRG.out.owns
   have HO:=Lib.hid hown
   clear hown hl0 hL HOW HXS HLF
   obtain⟨L,hLL⟩:∃ L,L=srt dom:=⟨_,rfl⟩
   rw [<-hLL] at HOW2 hsl
   obtain⟨ad,cap,rfl,hcap,hcm,hcl⟩:=HOW2.shape
   unfold maxLen at hcm
   have HCL:=Lib.hid hcl
   have HLL:=Lib.hid hLL
   clear hcl hLL HOW2
   go_wp2_with fail
   go_loopg [10,29] L.length (fun g y x wr=>∃ k,k<=L.length/\g=L.length - k/\x=.int .i64 k/\OutE C w.heap.size wl.heap.size wr y ((L.take k).filterMap (vE f a b))/\Keep (fun k=>wl.heap.size<=k) wl wr)
   case atStart=>exact⟨0,Nat.zero_le _,rfl,rfl,OutE.start _ _ _ _,Keep.refl _ _⟩
   case round=>
    obtain⟨k,hk,rfl,rfl,hout,hKr⟩:=hrel
    have HKR:=Lib.hid hKr
    have HOUT:=Lib.hid hout
    clear hKr hout
    have hwrl:=HKR.out.size
    have HRW:Hid (∀ j,j<wl.heap.size->wr.heap[j]? = wl.heap[j]?):=Lib.hid fun j hj=>HKR.out.block j hj (by omega)
    have HBR:=Lib.hid (jL HBL.out HKR.out (fun k hk=>by omega) (Nat.le_refl _))
    by_cases hlt:k<L.length
    ·obtain⟨g,had,hgl,hcells⟩:=HCL.out (fun e=>by rw [e] at hlt;simp at hlt)
     subst had
     obtain⟨r,hr⟩:∃ r,r=L[k]:=⟨_,rfl⟩
     have hrm:r<zk:=HM.out r (by rw [hr,<-HLL.out];exact List.getElem_mem hlt)
     have ck:wr.cell? ⟨g,k,none⟩=some (.int .u64 (r:Nat)):=by rw [hr];exact(World.cell?_of_block (a:=⟨g,k,none⟩) (HRW.out g hgl)).trans (hcells k hlt)
     obtain⟨s0,s1,hat,hd0,hd1⟩:=(HP1.out.2 r).2
     obtain⟨a0,n0,rfl⟩:=zK hd0
     obtain⟨a1,n1,rfl⟩:=zK hd1
     have hlk:=Qf (yg HO.out (HRW.out _ (by omega))) hrm hat
     have hmw:∀ j o x,DL C w.heap.size w1 j o->w1.cell? ⟨j,o,none⟩=some x->wr.cell? ⟨j,o,none⟩=some x:=fun j o x hj hx=>by
      have hj1:=World.block_lt_of_cell? w1 ⟨j,o,none⟩ hx
      exact(World.cell?_of_block (a:=⟨j,o,none⟩) ((HRW.out j (Nat.lt_of_lt_of_le hj1 (by omega))).trans (HKW.out j hj1))).trans hx
     have hdx:∀ j o,DL C w.heap.size w1 j o->DX C w.heap.size wr u10 j o:=fun j o hj=>⟨hj.imp id fun h=>⟨h.1,by omega⟩,fun e=>by
      have h5:=(HOUT.out.owns j e).1
      rcases hj with hj | hj
      ·have:=hC j o hj;omega
      ·omega⟩
     have hDXb:∀ j o,DX C w.heap.size wr u10 j o->j<wr.heap.size:=fun j o h=>h.1.elim (fun h=>by have:=hC j o h;omega) And.right
     have hGX:GL (DX C w.heap.size wr u10) wr:=HGW.out.mono (fun j o h=>⟨.inl h,fun e=>by have h5:=(HOUT.out.owns j e).1;have:=hC j o h;omega⟩) fun j o x hj hx=>(World.cell?_of_block (a:=⟨j,o,none⟩) (HRW.out j (by have:=hC j o hj;omega))).trans hx
     have HXB:=Lib.hid hDXb
     have HGX:=Lib.hid hGX
     have HOPC:=Lib.hid (jP (HOP.out r) hGX hDXb (vs:=#[.slice a0 (zT a r).length n0,.slice a1 (zT b r).length n1]) rfl (fun i p hp=>by
      match i,hp with
      | 0,hp=>cases hp;exact hd0.mono hdx hmw
      | 1,hp=>cases hp;exact hd1.mono hdx hmw
      | i+2,hp=>simp at hp))
     have hnr:Nrm (qy f (zT a r) (zT b r)):=qH (qi ha.1 r) (qi hb.1 r)
     have hol:(qy f (zT a r) (zT b r)).length<=80100:=by
      have h1:=xR f (zT a r) (zT b r)
      have h2:=ji (n:=1048576) (h:=10000) ha r
      have h3:=ji (n:=1048576) (h:=10000) hb r
      omega
     have hof:=zjT r (qy f (zT a r) (zT b r)) hnr (by omega)
     obtain⟨e,ok,hE⟩:∃ e ok,Qi r (qy f (zT a r) (zT b r))=(e,ok):=⟨_,_,rfl⟩
     rw [hE] at hof
     have HOF:=Lib.hid hof
     have hlo:=zac (f:=f) (a:=a) (b:=b) hE
     have hst:=KZ (f:=f) (a:=a) (b:=b) hlt
     rw [<-hr,hlo] at hst
     have HST:=Lib.hid hst
     have hhl:e.holes.length<=1000000:=by
      have:=J0 r (qy f (zT a r) (zT b r))
      rw [hE] at this
      simp only at this
      omega
     have hn0:(zT a r).length<=maxLen:=by have:=ji (n:=1048576) (h:=10000) ha r;unfold maxLen;omega
     have hn1:(zT b r).length<=maxLen:=by have:=ji (n:=1048576) (h:=10000) hb r;unfold maxLen;omega
     unfold maxLen at hn0 hn1
     have i0:=zkr a0 a1 (zT a r).length (zT b r).length n0 n1
     have i1:=zks a0 a1 (zT a r).length (zT b r).length n0 n1
     obtain⟨ls,hls⟩:∃ ls,ls=qy f (zT a r) (zT b r):=⟨_,rfl⟩
     rw [<-hls] at HOF HOPC hol
     clear hof hE hlo hst hat hd0 hd1 hmw hdx hcells hDXb hGX hnr hr hls
     have tokD:True:=trivial
     have tokE:True:=trivial
     have tokF:True:=trivial
     cases ok with
     | false=>
       go_wp2_with fail
       refine Ja (t:=35) (f:=op) (xs:=[.tmp 39,.tmp 43]) rfl rfl rfl rfl hent ?_
       refine HOPC.out.mono ?_
       rintro e' w3 ⟨v3,rfl,hb3,hd3⟩
       obtain⟨a3,n3,rfl⟩:=zK hd3
       have HB3:=Lib.hid hb3
       have HD3:=Lib.hid hd3
       clear hb3 hd3
       dsimp only
       go_wp2_with fail
       refine(jP HOF.out (D:=fun j o=>DX C w.heap.size wr u10 j o\/(wr.heap.size<=j/\j<w3.heap.size)) (HGX.out.mono (fun _ _ h=>.inl h) fun j o x hj hx=>(World.cell?_of_block (a:=⟨j,o,none⟩) (HB3.out.block j (HXB.out j o hj))).trans hx) (fun j o h=>h.elim (fun h=>Nat.lt_of_lt_of_le (HXB.out j o h) HB3.out.size) And.right) rfl (fun i p hp=>?_)).mono ?_
       ·match i,hp with
        | 0,hp=>cases hp;exact .v _
        | 1,hp=>cases hp;exact HD3.out
        | i+2,hp=>simp at hp
       rintro e' w4 ⟨v4,rfl,hb4,hd4⟩
       obtain⟨a4,n4,rfl,hd4'⟩:=Yk hd4
       have HB4:=Lib.hid hb4
       have HD4:=Lib.hid hd4'
       clear hb4 hd4 hd4'
       dsimp only
       go_wp2_with fail
       go_roundg (L.length - (k+1))
       case measure=>omega
       case rel=>
        have h34:=HB3.out.size
        have h44:=HB4.out.size
        refine⟨k+1,hlt,rfl,by simp,?_,HKR.out.trans (((Keep.of_below' HB3.out (Nat.le_refl _)).trans (Keep.of_below' HB4.out (Nat.le_refl _))).alloc _)⟩
        rw [HST.out]
        simp only [Bool.false_eq_true,if_false,Option.toList_none,List.append_nil]
        exact HOUT.out.keep (by simp;omega) fun j hj=>by rw [Below.heap_alloc _ _ _ (by omega),HB4.out.block j (by omega),HB3.out.block j hj]
     | true=>
       go_wp2_with fail
       refine Ja (t:=35) (f:=op) (xs:=[.tmp 39,.tmp 43]) rfl rfl rfl rfl hent ?_
       refine HOPC.out.mono ?_
       rintro e' w3 ⟨v3,rfl,hb3,hd3⟩
       obtain⟨a3,n3,rfl⟩:=zK hd3
       have HB3:=Lib.hid hb3
       have HD3:=Lib.hid hd3
       clear hb3 hd3
       dsimp only
       go_wp2_with fail
       refine(jP HOF.out (D:=fun j o=>DX C w.heap.size wr u10 j o\/(wr.heap.size<=j/\j<w3.heap.size)) (HGX.out.mono (fun _ _ h=>.inl h) fun j o x hj hx=>(World.cell?_of_block (a:=⟨j,o,none⟩) (HB3.out.block j (HXB.out j o hj))).trans hx) (fun j o h=>h.elim (fun h=>Nat.lt_of_lt_of_le (HXB.out j o h) HB3.out.size) And.right) rfl (fun i p hp=>?_)).mono ?_
       ·match i,hp with
        | 0,hp=>cases hp;exact .v _
        | 1,hp=>cases hp;exact HD3.out
        | i+2,hp=>simp at hp
       rintro e' w4 ⟨v4,rfl,hb4,hd4⟩
       obtain⟨a4,n4,rfl,hd4'⟩:=Yk hd4
       have HB4:=Lib.hid hb4
       have HD4:=Lib.hid hd4'
       clear hb4 hd4 hd4'
       dsimp only
       go_wp2_with fail
       have hz5:((w4.alloc (.cells #[.int .u64 e.rep,.int .u64 e.max,.slice a4 e.holes.length n4] 38)).alloc (.cells #[.int .u64 e.rep,.int .u64 e.max,.slice a4 e.holes.length n4] 38)).heap.size=w4.heap.size+2:=by simp
       have h34:=HB3.out.size
       have h44:=HB4.out.size
       have hb5:∀ j,j<wr.heap.size->((w4.alloc (.cells #[.int .u64 e.rep,.int .u64 e.max,.slice a4 e.holes.length n4] 38)).alloc (.cells #[.int .u64 e.rep,.int .u64 e.max,.slice a4 e.holes.length n4] 38)).heap[j]? = wr.heap[j]?:=fun j hj=>by
        rw [Below.heap_alloc _ _ _ (by simp;omega),Below.heap_alloc _ _ _ (by omega),HB4.out.block j (by omega),HB3.out.block j hj]
       obtain⟨xs5,h15,h25⟩:=HOUT.out.keep (by omega) hb5
       have hnb:((w4.alloc (.cells #[.int .u64 e.rep,.int .u64 e.max,.slice a4 e.holes.length n4] 38)).alloc (.cells #[.int .u64 e.rep,.int .u64 e.max,.slice a4 e.holes.length n4] 38)).heap[w4.heap.size+1]? = some (.cells #[.int .u64 e.rep,.int .u64 e.max,.slice a4 e.holes.length n4] 38 (0,0)):=by
        have:=World.alloc_heap_new (w4.alloc (.cells #[.int .u64 e.rep,.int .u64 e.max,.slice a4 e.holes.length n4] 38)) (.cells #[.int .u64 e.rep,.int .u64 e.max,.slice a4 e.holes.length n4] 38)
        rwa [World.size_alloc] at this
       have hd5:Dat (DX C w.heap.size ((w4.alloc (.cells #[.int .u64 e.rep,.int .u64 e.max,.slice a4 e.holes.length n4] 38)).alloc (.cells #[.int .u64 e.rep,.int .u64 e.max,.slice a4 e.holes.length n4] 38)) u10) ((w4.alloc (.cells #[.int .u64 e.rep,.int .u64 e.max,.slice a4 e.holes.length n4] 38)).alloc (.cells #[.int .u64 e.rep,.int .u64 e.max,.slice a4 e.holes.length n4] 38)) (.slice a4 e.holes.length n4) (rg e.holes):=by
        refine HD4.out.mono (fun j o h=>?_) fun j o x h hx=>?_
        ·have key:wr.heap.size<=j->j<w4.heap.size->DX C w.heap.size ((w4.alloc (.cells #[.int .u64 e.rep,.int .u64 e.max,.slice a4 e.holes.length n4] 38)).alloc (.cells #[.int .u64 e.rep,.int .u64 e.max,.slice a4 e.holes.length n4] 38)) u10 j o:=fun h1 h2=>⟨.inr ⟨by omega,by omega⟩,fun h=>by have:=(HOUT.out.owns j h).2;omega⟩
         rcases h with(h | h) | h
         ·exact⟨h.1.imp id fun h=>⟨h.1,by omega⟩,h.2⟩
         ·exact key h.1 (by omega)
         ·exact key (by omega) h.2
        ·have hj4:=World.block_lt_of_cell? w4 ⟨j,o,none⟩ hx
         exact(World.cell?_of_block (a:=⟨j,o,none⟩) (by rw [Below.heap_alloc _ _ _ (by simp;exact Nat.lt_succ_of_lt hj4),Below.heap_alloc _ _ _ hj4])).trans hx
       have hel:((L.take k).filterMap (vE f a b)).length<=k:=Nat.le_trans (List.length_filterMap_le _ _) (by simp;omega)
       obtain⟨ie,hie,hze,hse,hbe⟩:=info_parts zkk
       refine Zi _ _ 32 rfl wl.heap.size 38 ie _ 3 40 Tryz.underlying32 hie hze hse hbe rfl (by decide) _ _ xs5 rfl h15 ⟨w4.heap.size+1,0,none⟩ 1 1 [.int .u64 e.rep,.int .u64 e.max,.slice a4 e.holes.length n4] rfl rfl (fun j u hj=>by
        rw [zh,Nat.zero_add]
        exact(zW hnb j u (by simpa using hj)).1) (fun u hu=>by simp at hu;rcases hu with rfl | rfl | rfl<;>rfl) (by unfold maxLen;omega) (by omega) (by omega) ?_
       intro v6 w6 ho6 hg6 _ hbl6
       have HP6:=Lib.hid (OutE.push (mb:=w.heap.size) h25 h15 hd5 hC (by omega) ho6 hg6 hbl6)
       have HG6:=Lib.hid hg6
       have HB5:=Lib.hid hb5
       have HZ5:=Lib.hid hz5
       have HOB:=Lib.hid (fun j (h:u10.ownBlock=some j)=>(HOUT.out.owns j h).1)
       clear ho6 hg6 hbl6 h15 h25 hd5 hnb hb5 hz5
       go_wp2_with fail
       go_roundg (L.length - (k+1))
       case measure=>omega
       case rel=>
        refine⟨k+1,hlt,rfl,by simp,?_,HKR.out.trans ((((((Keep.of_below' HB3.out (Nat.le_refl _)).trans (Keep.of_below' HB4.out (Nat.le_refl _))).alloc _).alloc _).grown HG6.out fun j hj _=>HOB.out j hj))⟩
        rw [HST.out]
        simp only [if_true,Option.toList_some]
        exact HP6.out
    ·obtain rfl:k=L.length:=by omega
     go_wp2_with fail
     refine bodyPost_ret (results_tmp rfl _ _ _) rfl ?_
     have h:=HOUT.out.dat (by omega)
     rw [List.take_length,HLL.out,<-HLat.out] at h
     exact⟨_,rfl,HBR.out,h⟩
  ·intro x hx c kl y ys w3 cnt3 hkey hlk hv hat hrg3 hlt hg3 hs3 hen
   try dsimp only at hkey hen ⊢
   obtain rfl:kl=kR x:=by
    have:=(Zq hx).symm.trans hkey
    simpa using this.symm
   have HRG3:=Lib.hid hrg3
   have HK3:=Lib.hid ((HKL.out.grown hg3 (fun k hk _=>by cases hk;omega)))
   have hb3:∀ k,k≠w1.heap.size+1->k<wl.heap.size->w3.heap[k]? = wl.heap[k]?:=fun k hk hkl=>hg3.block k hkl (fun e=>hk (by cases e;rfl))
   have HB3:=Lib.hid hb3
   have hblt:=HBX.out.lt
   have HAD:=Lib.hid (zaD (C:=C) (base:=w1.heap.size+2) (rb:=w1.heap.size) (w:=w3) (v:=v) (xs:=xs) x (HOW.out.keep fun g hg=>hb3 g (by have:=(HOW.out.lt g hg).1;omega) (HOW.out.lt g hg).2) ((hb3 _ (by omega) hblt).trans HBX.out) (by omega) (fun h=>by have:=((HXS.out x).1 h).2;rw [hlk] at this;cases this) (by omega) (by omega)
    (fun b o h=>by have:=hC b o h;omega) (HGW.out.mono (fun _ _ h=>h) fun j o y hj hy=>(World.cell?_of_block (a:=⟨j,o,none⟩) (hb3 j (by have:=hC j o hj;omega) (by have:=hC j o hj;omega))).trans hy))
   clear hkey hv hat hrg3 hg3 hb3
   have tokC:True:=trivial
   go_wp2_with (first
    | (go_at_call 160;have _t:=tokC;refine HAD.out.mono ?_;rintro e w4 ⟨⟨u,rfl⟩,v',hbx4,ho4,hk4⟩;have HBX4:=Lib.hid hbx4;have HO4:=Lib.hid ho4;have HK4:=Lib.hid hk4;clear hbx4 ho4 hk4 tokC)
    | go_in)
   go_roundg cnt3
   case measure=>exact hlt
   case rel=>
    have hm:∀ k,k<w3.heap.size->k≠w1.heap.size->k<w1.heap.size+2->w4.heap[k]? = w3.heap[k]?:=fun k hk h1 h2=>HK4.out.block k hk (by omega)
    refine⟨_,xs++[x],v',yD HRG3.out (hm _ (by omega) (by omega) (by omega)) (hm _ (by omega) (by omega) (by omega)),fun r=>?_,fun r h=>?_,HO4.out,HBX4.out,HK3.out.trans (HK4.out.mono fun k _ h=>by omega)⟩
    ·rw [QM,List.mem_append,HXS.out r,List.mem_singleton]
     constructor
     ·rintro(⟨h1,h2⟩ | rfl)
      ·exact⟨h1,.inl h2⟩
      ·exact⟨HLF.out _ hlk,.inr rfl⟩
     ·rintro⟨h1,h2 | h2⟩
      ·exact .inl ⟨h1,h2⟩
      ·exact .inr h2
    ·exact HLF.out r (by cases h0:left (kR r) with | true=>rfl | false=>rw [h0] at h;simp at h)
end Go.Proofs.YtonhfknjcbakiaaGreatDoor
namespace Go.Proofs.YtonhfknjcbakiaaGreatDoor
open Go.ChangeShapes Go.WideShapes Go.ChangeAt Go.RowKit Go.Deep
section
variable {H:Type} {enc:TypeId × Value->H} {w:World} {base:Nat} {spare:Nat->Bool} {held:Bool}
def zhh (w:World) (b o:Nat) (ps:List PV):Prop:=∀(j:Nat) (p:PV),ps[j]? = some p->∃ u,w.cell? ⟨b,o+j,none⟩=some u/\u.oneCell'=true/\Dat (ZG w) w u p
def rdC {α:Type} (cv:α->List PV) (bd:α->Prop) (w:World) (b o:Nat) (x:α):Prop:=zhh w b o (cv x)/\bd x
theorem VQ {α:Type} {cv:α->List PV} {bd:α->Prop} {sz:Nat} {v:Value} {l:List α} (hsz:∀ x,(cv x).length=sz) (h:RdSl sz (rdC cv bd) 0 w.heap.size w v l):Dat (ZG w) w v (.sl (l.map cv) .sh)/\(∀ x ∈ l,bd x)/\l.length<=9223372036854775807:=by
 obtain⟨a,cap,rfl,h1,h2,h3⟩:=h
 have hlm:l.length<=9223372036854775807:=by unfold maxLen at h2;omega
 suffices hs:Dat (ZG w) w (.slice a (l.map cv).length cap) (.sl (l.map cv) .sh)/\∀ x ∈ l,bd x from ⟨by rw [List.length_map] at hs;exact hs.1,hs.2,hlm⟩
 by_cases hne:l=[]
 ·subst hne
  exact⟨.sl a cap sz [] .sh 0 0 (fun _=>undef) (by simp) (fun h=>by cases h) h2 (fun h=>absurd rfl h) (fun i e h=>by simp at h) (fun j h=>by simp at h) (fun i e j p h=>by simp at h),fun _ h=>by cases h⟩
 obtain⟨b,off,rfl,hb1,hb2,hc⟩:=h3 hne
 have key:∀ j,j<l.length * sz->∃ u,w.cell? ⟨b,off+j,none⟩=some u/\u.oneCell'=true/\∀(i k:Nat) (hi:i<l.length) (p:PV),j=i * sz+k->(cv l[i])[k]? = some p->Dat (ZG w) w u p:=fun j hj=>by
  have hp:0<sz:=by
   rcases Nat.eq_zero_or_pos sz with h0 | h0
   ·subst h0;simp at hj
   ·exact h0
  have hi:j / sz<l.length:=Nat.div_lt_of_lt_mul (by rw [Nat.mul_comm];exact hj)
  have hk:j % sz<(cv l[j / sz]).length:=by rw [hsz];exact Nat.mod_lt _ hp
  obtain⟨u,u1,u2,u3⟩:=(hc _ hi).1 (j % sz) _ (List.getElem?_eq_getElem hk)
  have e:off+j / sz * sz+j % sz=off+j:=by have:=Nat.div_add_mod j sz;rw [Nat.mul_comm] at this;omega
  rw [e] at u1
  refine⟨u,u1,u2,fun i k hi2 p hjk hp2=>?_⟩
  have hk2:k<sz:=by have:=(List.getElem?_eq_some_iff.1 hp2).1;rwa [hsz] at this
  have q1:j / sz=i:=by rw [hjk];rw [Nat.mul_comm,Nat.mul_add_div hp,Nat.div_eq_of_lt hk2];omega
  have q2:j % sz=k:=by rw [hjk];rw [Nat.mul_comm,Nat.mul_add_mod,Nat.mod_eq_of_lt hk2]
  subst q1
  subst q2
  rw [List.getElem?_eq_getElem hk] at hp2
  cases hp2
  exact u3
 obtain⟨f,hf⟩:∃ f:Nat->Value,∀ j,j<l.length * sz->w.cell? ⟨b,off+j,none⟩=some (f j)/\(f j).oneCell'=true/\∀(i k:Nat) (hi:i<l.length) (p:PV),j=i * sz+k->(cv l[i])[k]? = some p->Dat (ZG w) w (f j) p:=by
  refine⟨fun j=>if h:j<l.length * sz then (key j h).choose else undef,fun j hj=>?_⟩
  simp only [dif_pos hj]
  exact(key j hj).choose_spec
 refine⟨.sl _ cap sz _ .sh b off f (by simpa using h1) (fun h=>by cases h) h2 (fun _=>rfl) (fun i e h=>?_) (fun j hj=>?_) (fun i e j p he hp=>?_),fun x hx=>?_⟩
 ·simp only [List.getElem?_map,Option.map_eq_some_iff] at h
  obtain⟨s,_,rfl⟩:=h
  exact hsz s
 ·obtain⟨f1,f2,_⟩:=hf j (by simpa using hj)
  exact⟨hb2,f1,f2⟩
 ·have hi:i<l.length:=by have:=(List.getElem?_eq_some_iff.1 he).1;simpa using this
  rw [xo hi] at he
  cases he
  have hj:j<sz:=by have:=(List.getElem?_eq_some_iff.1 hp).1;rwa [hsz] at this
  have:i * sz+j<l.length * sz:=by
   have:=Nat.mul_le_mul_right sz (show i+1<=l.length from hi)
   rw [Nat.add_mul] at this;omega
  exact(hf _ this).2.2 i j hi p rfl hp
 ·obtain⟨i,hi,rfl⟩:=List.getElem_of_mem hx
  exact(hc i hi).2
theorem V2 {P:Program} {e:TypeId} {f0 f1 f2:Field} {n:Nat} {a:Addr} {cs:List Value} {y:DataW H × List MemPlace} (he:P.underlying e=some (.struct #[f0,f1,f2])) (o0:f0.offset=0) (o1:f1.offset=1) (o2:f2.offset=2) (c0:P.cellsOf f0.type=1) (c1:P.cellsOf f1.type=1) (c2:P.cellsOf f2.type=1)
 (h1:w.cells? base a 3=some cs) (h2:DataW.trod enc P w base spare held n e cs=some y) :
 ∃ v0 v1 v2 k y0 y1 y2,w.cell? a=some v0/\w.cell? (a.add 1)=some v1/\w.cell? (a.add 2)=some v2/\DataW.trod enc P w base spare held k f0.type [v0]=some y0/\DataW.trod enc P w base spare held k f1.type [v1]=some y1/\DataW.trod enc P w base spare held k f2.type [v2]=some y2:=by
 obtain⟨_,hlen,hcell⟩:=World.cells?_some h1
 obtain⟨xs,k,_,_,_,hxl,hf⟩:=DataW.trod_struct he h2
 match xs,hxl,cs,hlen with
 | [y0,y1,y2],_,[v0,v1,v2],_=>
   have g0:=hf 0 f0 rfl
   have g1:=hf 1 f1 rfl
   have g2:=hf 2 f2 rfl
   simp [o0,o1,o2,c0,c1,c2] at g0 g1 g2
   have e0:=hcell 0 (by omega)
   have e1:=hcell 1 (by omega)
   have e2:=hcell 2 (by omega)
   exact⟨v0,v1,v2,k,y0,y1,y2,by simpa [Addr.add] using e0,by simpa using e1,by simpa using e2,g0,g1,g2⟩
instance : Inhabited En:=⟨⟨0,0,[]⟩⟩
theorem zfb {n:Nat} {a:Addr} {cs:List Value} {y:DataW H × List MemPlace} (h1:w.cells? base a 3=some cs) (h2:DataW.trod enc Tryz.prog w base spare held n 38 cs=some y):a.spot=none/\a.block<w.heap.size/\∃ e,rdC ec (fun e=>ZL e/\e.holes.length<=9223372036854775807) w a.block a.off e:=by
 obtain⟨v0,v1,v2,k,y0,y1,y2,e0,e1,e2,g0,g1,g2⟩:=V2 Tryz.underlying38 rfl rfl rfl (by kernel_rfl) (by kernel_rfl) (by kernel_rfl) h1 h2
 obtain⟨m0,q0,hm0⟩:=kM Tryz.underlying24 g0
 obtain⟨m1,q1,hm1⟩:=kM Tryz.underlying24 g1
 obtain⟨v2',l,q2,hl⟩:=ZA g2
 obtain rfl:v0=_:=by simpa using q0
 obtain rfl:v1=_:=by simpa using q1
 obtain rfl:v2=v2':=by simpa using q2
 obtain⟨b,off,spot⟩:=a
 obtain rfl:spot=none:=World.cell?_spot e0
 refine⟨rfl,World.block_lt_of_cell? _ _ e0,⟨m0,m1,l⟩,fun j p hp=>?_,⟨hl.bound,hm1,hm0⟩,by have:=hl.len;unfold maxLen at this;omega⟩
 have hd:Dat (ZG w) w v2 (rg l):=jp hl fun _ _ _ h=>h
 obtain⟨aa,c,rfl,_⟩:=hl
 match j,hp with
 | 0,hp=>cases hp;exact⟨_,e0,rfl,.v _⟩
 | 1,hp=>cases hp;exact⟨_,by simpa [Addr.add] using e1,rfl,.v _⟩
 | 2,hp=>cases hp;exact⟨_,by simpa [Addr.add] using e2,rfl,hd⟩
theorem zet {fuel:Nat} {cs:List Value} {x:DataW H × List MemPlace} (h:DataW.trod enc Tryz.prog w base spare held fuel 32 cs=some x):∃ v l,cs=[v]/\RdSl 3 (rdC ec (fun e=>ZL e/\e.holes.length<=9223372036854775807)) 0 w.heap.size w v l:=
 Za (rdC ec (fun e=>ZL e/\e.holes.length<=9223372036854775807)) Tryz.underlying32 (by kernel_rfl) (fun _ _ _ _ h1 h2=>zfb h1 h2) h
end
end Go.Proofs.YtonhfknjcbakiaaGreatDoor
namespace Go.Proofs.YtonhfknjcbakiaaGreatDoor
open Go.RowKit
structure Fg where
 items:List Iv
 vec:List En
deriving DecidableEq
instance : Inhabited Fg:=⟨⟨[],[]⟩⟩
theorem Fg.ext' {f g:Fg} (h1:f.items=g.items) (h2:f.vec=g.vec):f=g:=by cases f;cases g;simp_all
def fc (f:Fg):List PV:=[rg f.items,vp f.vec]
def fp (f:Fg):PV:=.agg (fc f)
def kp (k:List Fg):PV:=.sl (k.map fc) .sh
attribute [go_sem] kp fp fc
def ZS (f:Fg):Prop:=Nrm f.items/\RightV f.vec
def RightK (k:List Fg):Prop:=∀ f ∈ k,ZS f
def BdF (f:Fg):Prop:=BdR f.items/\(∀ e ∈ f.vec,ZL e)/\f.items.length<=9223372036854775807/\f.vec.length<=9223372036854775807
def BdK (k:List Fg):Prop:=(∀ f ∈ k,BdF f)/\k.length<=9223372036854775807
def HlK (k:List Fg):Prop:=∀ f ∈ k,∀ e ∈ f.vec,e.holes.length<=9223372036854775807
def vx (k:List Fg):Bool:=k.all (fun f=>decide (f.items.length<=20) && JF f.vec) && decide (k.length<=12)
theorem Z3 {k:List Fg}:vx k=true ↔ (∀ f ∈ k,f.items.length<=20/\JF f.vec=true)/\k.length<=12:=by simp [vx]
def hkK:Nat->List Fg->Nat × Int
 | _,[]=>(0,-1)
 | i,f::r=>if (Zl f.items).1≠0 then ((Zl f.items).1,(i:Int)) else if (jx f.vec).1≠0 then ((jx f.vec).1,(i:Int)) else hkK (i+1) r
def ckK (k:List Fg):Nat × Int:=hkK 0 k
theorem Vd:∀(i:Nat) (k:List Fg),(hkK i k).1=0 ↔ ∀ f ∈ k,(Zl f.items).1=0/\(jx f.vec).1=0
 | _,[]=>by simp [hkK]
 | i,f::r=>by
   have ih:=Vd (i+1) r
   unfold hkK
   by_cases h1:(Zl f.items).1≠0
   ·rw [if_pos h1]
    exact⟨fun h=>absurd h h1,fun h=>(h f (by simp)).1⟩
   ·rw [if_neg h1]
    by_cases h2:(jx f.vec).1≠0
    ·rw [if_pos h2]
     exact⟨fun h=>absurd h h2,fun h=>(h f (by simp)).2⟩
    ·rw [if_neg h2,ih]
     constructor
     ·intro h g hg
      rcases List.mem_cons.1 hg with rfl | hg
      ·exact⟨by omega,by omega⟩
      ·exact h g hg
     ·intro h g hg
      exact h g (by simp [hg])
theorem ZN {k:List Fg} (hb:BdK k):(ckK k).1=0 ↔ RightK k:=by
 unfold ckK
 rw [Vd]
 constructor
 ·intro h f hf
  obtain⟨h1,h2⟩:=h f hf
  have hbf:=hb.1 f hf
  exact⟨(YT fun s hs=>(hbf.1 s hs).2).1 h1,(XP hbf.2.1).1 h2⟩
 ·intro h f hf
  have hbf:=hb.1 f hf
  exact⟨(YT fun s hs=>(hbf.1 s hs).2).2 (h f hf).1,(XP hbf.2.1).2 (h f hf).2⟩
def qd (i:Nat):Nat->List Fg->List (Nat × Fg)
 | _,[]=>[]
 | n,f::r=>if mem f.items i=true then (n,f)::qd i (n+1) r else qd i (n+1) r
theorem QR (i:Nat) (f:Fg):∀(n:Nat) (l:List Fg),qd i n (l++[f])=qd i n l++(if mem f.items i=true then [(n+l.length,f)] else [])
 | n,[]=>by simp [qd]
 | n,g::l=>by
   have ih:=QR i f (n+1) l
   have e:n+1+l.length=n+(l.length+1):=by omega
   rw [List.cons_append,qd,qd,ih,List.length_cons,e]
   split<;>simp
theorem j9 {k:List Fg} {j:Nat} (i:Nat) (h:j<k.length):qd i 0 (k.take (j+1))=qd i 0 (k.take j)++(if mem k[j].items i=true then [(j,k[j])] else []):=by
 rw [List.take_succ_eq_append_getElem h,QR,List.length_take,Nat.min_eq_left (by omega),Nat.zero_add]
theorem jv {i:Nat} {p:Nat × Fg}:∀ {n:Nat} {l:List Fg},p ∈ qd i n l->p.2 ∈ l/\mem p.2.items i=true/\n<=p.1/\p.1<n+l.length
 | n,[],h=>by cases h
 | n,f::l,h=>by
   unfold qd at h
   split at h
   ·rename_i hf
    rcases List.mem_cons.1 h with rfl | h
    ·exact⟨by simp,hf,Nat.le_refl _,by simp⟩
    ·obtain⟨h1,h2,h3,h4⟩:=jv h
     exact⟨by simp [h1],h2,by omega,by simp;omega⟩
   ·obtain⟨h1,h2,h3,h4⟩:=jv h
    exact⟨by simp [h1],h2,by omega,by simp;omega⟩
theorem Zg (i:Nat):∀(n:Nat) (l:List Fg),(qd i n l).length<=l.length
 | _,[]=>Nat.le_refl _
 | n,f::l=>by
   have:=Zg i (n+1) l
   unfold qd
   split<;>simp<;>omega
theorem YL {i:Nat} {q:Fg->Bool}:∀(n:Nat) (l:List Fg),(qd i n l).any (fun p=>q p.2)=l.any fun f=>mem f.items i && q f
 | _,[]=>rfl
 | n,f::l=>by
   have ih:=YL (i:=i) (q:=q) (n+1) l
   unfold qd
   rw [List.any_cons,<-ih]
   cases h:mem f.items i<;>simp
def zU (k:List Fg) (i:Nat):List Nat:=(qd i 0 k).map Prod.fst
theorem JX {k:List Fg} {j:Nat} (i:Nat) (h:j<k.length):zU (k.take (j+1)) i=zU (k.take j) i++(if mem k[j].items i=true then [j] else []):=by
 unfold zU
 rw [j9 i h,List.map_append]
 split<;>rfl
theorem zbk (k:List Fg) (i:Nat):(zU k i).length<=k.length:=by
 unfold zU
 rw [List.length_map]
 exact Zg _ _ _
def hasK (k:List Fg) (i r c:Nat):Bool:=k.any fun f=>mem f.items i && mem (zT f.vec r) c
theorem jh (k:List Fg) (i r c:Nat):(qd i 0 k).any (fun p=>mem (zT p.2.vec r) c)=hasK k i r c:=YL (q:=fun f=>mem (zT f.vec r) c) 0 k
noncomputable def qc (k:List Fg) (i:Nat):List En:=(qd i 0 k).foldl (fun o p=>ks zn o p.2.vec) []
theorem zbT (i:Nat):qc [] i=[]:=rfl
theorem Ku {k:List Fg} {j:Nat} (i:Nat) (h:j<k.length):qc (k.take (j+1)) i=if mem k[j].items i=true then ks zn (qc (k.take j) i) k[j].vec else qc (k.take j) i:=by
 unfold qc
 rw [j9 i h,List.foldl_append]
 split<;>rfl
def JM (k:List Fg):List Iv:=k.foldl (fun o f=>qy zn o f.items) []
theorem RightK.take {k:List Fg} (h:RightK k) (j:Nat):RightK (k.take j):=fun f hf=>h f (List.mem_of_mem_take hf)
def CK (k:List Fg) (r:Nat):List Nat:=k.flatMap fun f=>z6 (zT f.vec r)
def RK (k:List Fg):List Nat:=k.flatMap fun f=>zM f.vec
def CI (k:List Fg):List Nat:=k.flatMap fun f=>z6 f.items
theorem IV.frag {k:List Fg} (h:RightK k) {f:Fg} (hf:f ∈ k):IV (CK k) (RK k) f.vec:=
 (IV.of (h f hf).2).mono (fun r x hx=>List.mem_flatMap.2 ⟨f,hf,hx⟩) fun x hx=>List.mem_flatMap.2 ⟨f,hf,hx⟩
def IK (C:Nat->List Nat) (R:List Nat) (k:List Fg):Prop:=∀ f ∈ k,IV C R f.vec
theorem RightK.ik {k:List Fg} (h:RightK k):IK (CK k) (RK k) k:=fun f hf=>IV.frag h hf
theorem IK.take {C:Nat->List Nat} {R:List Nat} {k:List Fg} (h:IK C R k) (j:Nat):IK C R (k.take j):=fun f hf=>h f (List.mem_of_mem_take hf)
theorem zgT {C:Nat->List Nat} {R:List Nat}:∀(l:List (Nat × Fg)) (o:List En),(∀ p ∈ l,IV C R p.2.vec)->WV C R o->WV C R (l.foldl (fun o p=>ks zn o p.2.vec) o) /\
 ∀ r c,c<zk->mem (zT (l.foldl (fun o p=>ks zn o p.2.vec) o) r) c=(mem (zT o r) c || l.any fun p=>mem (zT p.2.vec r) c)
 | [],o,_,ho=>⟨ho,fun r c _=>by simp⟩
 | p::l,o,hl,ho=>by
   have hp:=hl p (by simp)
   obtain⟨h1,h2⟩:=zgT l (ks zn o p.2.vec) (fun q hq=>hl q (by simp [hq])) (ho.iv.lat fU0 hp)
   refine⟨h1,fun r c hc=>?_⟩
   rw [List.foldl_cons,h2 r c hc,JR fU0 ho.can.right hp.right,qj (qi ho.can.right r) (qi hp.right r) hc,List.any_cons]
   simp only [zn,Bool.or_assoc]
theorem IK.at {C:Nat->List Nat} {R:List Nat} {k:List Fg} (h:IK C R k) (i:Nat):WV C R (qc k i)/\∀ r c,c<zk->mem (zT (qc k i) r) c=hasK k i r c:=by
 obtain⟨h1,h2⟩:=zgT (qd i 0 k) [] (fun p hp=>h _ (jv hp).1) WV.nil
 refine⟨h1,fun r c hc=>?_⟩
 rw [<-jh]
 have:=h2 r c hc
 rw [kr,Xf,Bool.false_or] at this
 exact this
theorem Zp:∀(l:List Fg) (o:List Iv),Nrm o->(∀ f ∈ l,Nrm f.items)->Nrm (l.foldl (fun o f=>qy zn o f.items) o) /\
 (∀ x,x<zk->mem (l.foldl (fun o f=>qy zn o f.items) o) x=(mem o x || l.any fun f=>mem f.items x))/\∀ x,Ed (l.foldl (fun o f=>qy zn o f.items) o) x->Ed o x\/x ∈ CI l
 | [],o,ho,_=>⟨ho,fun x _=>by simp,fun x h=>.inl h⟩
 | f::l,o,ho,hl=>by
   have hf:=hl f (by simp)
   obtain⟨h1,h2,h3⟩:=Zp l (qy zn o f.items) (qH ho hf) fun g hg=>hl g (by simp [hg])
   refine⟨h1,fun x hx=>?_,fun x hx=>?_⟩
   ·rw [List.foldl_cons,h2 x hx,qj ho hf hx,List.any_cons]
    simp only [zn,Bool.or_assoc]
   ·rcases h3 x hx with h | h
    ·rcases zcM fU0 ho hf h with h | h
     ·exact .inl h
     ·exact .inr (List.mem_flatMap.2 ⟨f,by simp,Y3 hf.ivs2 h⟩)
    ·obtain⟨g,hg,h⟩:=List.mem_flatMap.1 h
     exact .inr (List.mem_flatMap.2 ⟨g,by simp [hg],h⟩)
theorem RightK.items {k:List Fg} (h:RightK k):Nrm (JM k)/\(∀ x,x<zk->mem (JM k) x=k.any fun f=>mem f.items x)/\(JM k).length<=(CI k).length:=by
 obtain⟨h1,h2,h3⟩:=Zp k [] trivial fun f hf=>(h f hf).1
 refine⟨h1,fun x hx=>?_,zcK h1 fun x hx=>?_⟩
 ·have:=h2 x hx
  rw [Xf,Bool.false_or] at this
  exact this
 ·exact(h3 x hx).resolve_left zcL
theorem qL {α β:Type} {g:α->List β} {n:Nat}:∀ {l:List α},(∀ x ∈ l,(g x).length<=n)->(l.flatMap g).length<=l.length * n
 | [],_=>by simp
 | x::l,h=>by
   have:=qL (l:=l) fun y hy=>h y (by simp [hy])
   have h1:=h x (by simp)
   rw [List.flatMap_cons,List.length_append,List.length_cons,Nat.add_mul,Nat.one_mul]
   omega
theorem X4 {k:List Fg} (h:vx k=true) (hr:RightK k):(∀ r,(CK k r).length<=1512)/\(RK k).length<=240/\(CI k).length<=480:=by
 obtain⟨h1,h2⟩:=Z3.1 h
 have hk:∀ n,k.length * n<=12 * n:=fun n=>Nat.mul_le_mul_right n h2
 refine⟨fun r=>?_,?_,?_⟩
 ·refine Nat.le_trans (qL (n:=126) fun f hf=>?_) (hk 126)
  have:=vw.1 (h1 f hf).2
  have l1:=vq (zT f.vec r)
  have l2:=ji (n:=20) (h:=30) ⟨(hr f hf).2,this.2,this.1⟩ r
  omega
 ·refine Nat.le_trans (qL (n:=20) fun f hf=>?_) (hk 20)
  have:=vw.1 (h1 f hf).2
  simp only [zM,List.length_map]
  omega
 ·refine Nat.le_trans (qL (n:=40) fun f hf=>?_) (hk 40)
  have l1:=vq f.items
  have:=(h1 f hf).1
  omega
def OkC (C:Nat->List Nat) (R:List Nat):Prop:=(∀ r,(C r).length<=9000)/\R.length<=1048576
end Go.Proofs.YtonhfknjcbakiaaGreatDoor
namespace Go.Proofs.YtonhfknjcbakiaaGreatDoor
open Go.RowKit Go.Maps
attribute [-go_sem] z7
theorem yZ {f:FuncId} {ps:List PV} {r:PV} (hr:r.own=none) (hent:∀ args w,(callFunc f args).run Tryz.prog w=.ok (.enter f args) w)
 (h:∀(D:Nat->Nat->Prop) (w:World) (vs:Array Value),GL D w->(∀ b o,D b o->b<w.heap.size)->vs.size=ps.length->(∀(i:Nat) p,ps[i]? = some p->Dat D w (vs.getD i undef) p) ->
   Calls Tryz.prog f vs w fun e w'=>∃ v,e=.returned v/\Below w.heap.size w w'/\Dat (fun b o=>D b o\/(w.heap.size<=b/\b<w'.heap.size)) w' v r):Cn Tryz.prog f ps r:=by
 refine⟨hent,fun D w vs hG hD hsz hd=>(h D w vs hG hD hsz hd).mono ?_⟩
 rintro e w' ⟨v,rfl,hb,hv⟩
 exact⟨v,_,rfl,hb,fun b o h=>.inl h,fun b o h=>h.imp id And.left,fun b o h=>h.elim (fun h=>Nat.lt_of_lt_of_le (hD b o h) hb.size) And.right,hv,zr hr⟩
theorem zjx {vs:Array Value} (h:vs.size=3):vs=#[vs.getD 0 undef,vs.getD 1 undef,vs.getD 2 undef]:=by
 obtain⟨l⟩:=vs
 match l,h with
 | [x,y,z],_=>rfl
theorem zcA {D:Nat->Nat->Prop} {w:World} {x:Value} {f:Fn} (h:Dat D w x (.fn f [] [])):x=.func f #[] #[]:=by
 cases h with
 | fn f va vb fs cs h1 h2 _ _=>
   rw [Array.size_eq_zero_iff.1 h1,Array.size_eq_zero_iff.1 h2]
theorem SmV.bd {v:List En} (h:SmV v):∀ e ∈ v,ZL e:=fun e he=>Jg (h.1.1 e he)
theorem zde (a b:List En) (f:Bool->Bool->Bool) (op:FuncId) (hop:∀ r,Cn Tryz.prog op [rg (zT a r),rg (zT b r)] (rg (qy f (zT a r) (zT b r)))) (ha:SmV a) (hb:SmV b) :
 Cn Tryz.prog 112 [vp a,vp b,.fn (.func op) [] []] (vp (ks f a b)):=by
 refine yZ rfl (enters_of Tryz.func112 (by kernel_rfl) rfl) fun D w vs hG hD hsz hd=>?_
 rw [zjx hsz,zcA (hd 2 _ rfl)]
 refine(zcD D a b _ _ w f op hop ha hb (KO (hd 0 _ rfl) hD ha.bd) (KO (hd 1 _ rfl) hD hb.bd) hD hG).mono ?_
 rintro e w' ⟨v,rfl,hbl,hd⟩
 exact⟨v,rfl,hbl,hd.mono (fun b o h=>h.imp id fun h=>⟨by omega,h.2⟩) fun _ _ _ _ h=>h⟩
theorem qS {v:List En} (h:SmV v) (r:Nat):Nrm (zT v r)/\(zT v r).length<=20003:=⟨qi h.1 r,ji (n:=1048576) (h:=10000) h r⟩
theorem zdc (a b:List En) (ha:SmV a) (hb:SmV b):Cn Tryz.prog 65 [vp a,vp b] (vp (ks zn a b)):=by
 have h:=zde a b zn 69 (fun r=>zaz _ _ (qS ha r).1 (qS hb r).1 (by have:=(qS ha r).2;have:=(qS hb r).2;omega)) ha hb
 refine zt Tryz.func65 2 ?_
 refine pw ?_
 (first | exact .d (h) | exact .q (h))
theorem zfC (a b:List En) (ha:SmV a) (hb:SmV b):Cn Tryz.prog 73 [vp a,vp b] (vp (ks y5 a b)):=by
 have h:=zde a b y5 80 (fun r=>zif _ _ (qS ha r).1 (qS hb r).1 (by have:=(qS ha r).2;have:=(qS hb r).2;omega)) ha hb
 refine zt Tryz.func73 2 ?_
 refine pw ?_
 (first | exact .d (h) | exact .q (h))
theorem zdb (a b:List En) (ha:SmV a) (hb:SmV b):Cn Tryz.prog 82 [vp a,vp b] (vp (ks zm a b)):=by
 have h:=zde a b zm 124 (fun r=>zfN _ _ (qS ha r).1 (qS hb r).1 (by have:=(qS ha r).2;have:=(qS hb r).2;omega)) ha hb
 refine zt Tryz.func82 2 ?_
 refine pw ?_
 (first | exact .d (h) | exact .q (h))
end Go.Proofs.YtonhfknjcbakiaaGreatDoor
namespace Go.Proofs.YtonhfknjcbakiaaGreatDoor
open Go.RowKit
def OutG (C:Nat->Nat->Prop) (mb base:Nat) (w:World) (v:Value) (o:List Fg):Prop:=
 ∃ xs,OwnC base w v o.length xs/\∀ i (h:i<o.length),∃ a b,xs[i * 2]? = some a/\xs[i * 2+1]? = some b/\Dat (DX C mb w v) w a (rg o[i].items)/\Dat (DX C mb w v) w b (vp o[i].vec)
theorem OutG.start (C:Nat->Nat->Prop) (mb base:Nat) (w:World):OutG C mb base w (.slice none 0 0) []:=⟨[],⟨World.ownsRow_nil _ _ _ _,rfl,by simp⟩,fun i h=>absurd h (by simp)⟩
theorem OutG.owns {C:Nat->Nat->Prop} {mb base:Nat} {w:World} {v:Value} {o:List Fg} (h:OutG C mb base w v o):∀ k,v.ownBlock=some k->base<=k/\k<w.heap.size:=by
 obtain⟨xs,h1,_⟩:=h
 exact h1.1.lt
theorem OutG.shape {C:Nat->Nat->Prop} {mb base:Nat} {w:World} {v:Value} {o:List Fg} (h:OutG C mb base w v o):∃ ad cap,v=.slice ad o.length cap/\o.length<=cap/\cap<=maxLen:=by
 obtain⟨xs,h1,_⟩:=h
 rcases h1.cases with⟨rfl,h0,_⟩ | ⟨g,cap,cur,rfl,_,_,_,h4,h5,_⟩
 ·exact⟨none,0,by rw [h0],by omega,by decide⟩
 ·exact⟨_,cap,rfl,h4,h5⟩
theorem OwnC.keep {base:Nat} {w w':World} {v:Value} {n:Nat} {xs:List Value} (h:OwnC base w v n xs) (hb:∀ k,v.ownBlock=some k->w'.heap[k]? = w.heap[k]?):OwnC base w' v n xs:=by
 refine⟨⟨h.1.1,?_⟩,h.2⟩
 rcases h.1.2 with h | ⟨g,cap,cur,e,hg,hc,r⟩
 ·exact .inl h
 ·exact .inr ⟨g,cap,cur,e,hg,(hb g (by rw [e];rfl)).trans hc,r⟩
theorem OutG.keep {C:Nat->Nat->Prop} {mb base:Nat} {w w':World} {v:Value} {o:List Fg} (h:OutG C mb base w v o) (hs:w.heap.size<=w'.heap.size) (hb:∀ k,k<w.heap.size->w'.heap[k]? = w.heap[k]?):OutG C mb base w' v o:=by
 obtain⟨xs,h1,h2⟩:=h
 refine⟨xs,h1.keep fun k hk=>hb k (h1.1.lt k hk).2,fun i hi=>?_⟩
 obtain⟨a,b,c,d,e,f⟩:=h2 i hi
 exact⟨a,b,c,d,DX.keep e hs fun k hk _=>hb k hk,DX.keep f hs fun k hk _=>hb k hk⟩
theorem DX.grown {C:Nat->Nat->Prop} {mb:Nat} {w w':World} {v v' x:Value} {p:PV} (h:Dat (DX C mb w v) w x p) (hC:∀ b o,C b o->b<mb) (hmb:mb<w.heap.size) (hg:w.grownBy w' v.ownBlock) (hv':v'.ownBlock=v.ownBlock\/v'.ownBlock=some w.heap.size):Dat (DX C mb w' v') w' x p:=
 h.mono (fun b o h=>⟨h.1.imp id fun h=>⟨h.1,Nat.lt_of_lt_of_le h.2 hg.size⟩,fun e=>by
  rcases hv' with hv' | hv'
  ·exact h.2 (hv'.symm.trans e)
  ·rw [hv'] at e
   cases e
   rcases h.1 with h | h
   ·have:=hC _ _ h;omega
   ·omega⟩) fun b o x h hx=>(World.cell?_of_block (a:=⟨b,o,none⟩) (hg.block b (World.block_lt_of_cell? w ⟨b,o,none⟩ hx) fun e=>h.2 e.symm)).trans hx
theorem zeu {D:Nat->Nat->Prop} {w:World} {v:Value} {l:List En} (h:Dat D w v (vp l)):v.oneCell'=true:=by
 have h':Dat D w v (.sl (l.map ec) .sh):=h
 obtain⟨ad,cap,sz,b,off,f,e1,_⟩:=(Rel.dat (ρ:=fun _=>0) (nb:=0) h').inv_sl
 rw [e1];rfl
theorem OutG.insK {C:Nat->Nat->Prop} {mb base:Nat} {w w':World} {v v':Value} {o:List Fg} {f:Fg} {xs:List Value} {p q:Value} {i:Nat} (hi:i<=o.length) (hl:xs.length=o.length * 2)
 (h2:∀ i (h:i<o.length),∃ a b,xs[i * 2]? = some a/\xs[i * 2+1]? = some b/\Dat (DX C mb w v) w a (rg o[i].items)/\Dat (DX C mb w v) w b (vp o[i].vec))
 (hp:Dat (DX C mb w v) w p (rg f.items)) (hq:Dat (DX C mb w v) w q (vp f.vec)) (key:∀ {x:Value} {p:PV},Dat (DX C mb w v) w x p->Dat (DX C mb w' v') w' x p)
 (ho:OwnC base w' v' (o.length+1) (xs.take (i * 2)++[p,q]++xs.drop (i * 2))):OutG C mb base w' v' (o.take i++f::o.drop i):=by
 have hlen:(o.take i++f::o.drop i).length=o.length+1:=by simp;omega
 have ht:(xs.take (i * 2)).length=i * 2:=by simp;omega
 refine⟨_,by rw [hlen];exact ho,fun j hj=>?_⟩
 rw [hlen] at hj
 rcases Nat.lt_trichotomy j i with hlt | heq | hgt
 ·obtain⟨a,b,c,d,e,k⟩:=h2 j (by omega)
  have hg1:(o.take i++f::o.drop i)[j]=o[j]'(by omega):=by
   rw [List.getElem_append_left (by simp;omega),List.getElem_take]
  rw [hg1]
  refine⟨a,b,?_,?_,key e,key k⟩
  ·rw [List.append_assoc,List.getElem?_append_left (by omega),List.getElem?_take,if_pos (by omega)];exact c
  ·rw [List.append_assoc,List.getElem?_append_left (by omega),List.getElem?_take,if_pos (by omega)];exact d
 ·subst heq
  have hg1:(o.take j++f::o.drop j)[j]=f:=by
   rw [List.getElem_append_right (by rw [List.length_take];exact Nat.min_le_left _ _)]
   simp [Nat.min_eq_left hi]
  rw [hg1]
  refine⟨p,q,?_,?_,key hp,key hq⟩
  ·rw [List.append_assoc,List.getElem?_append_right (by omega),ht,Nat.sub_self];rfl
  ·rw [List.append_assoc,List.getElem?_append_right (by omega),ht,show j * 2+1 - j * 2=1 by omega];rfl
 ·obtain⟨a,b,c,d,e,k⟩:=h2 (j - 1) (by omega)
  have hg1:(o.take i++f::o.drop i)[j]=o[j - 1]'(by omega):=by
   rw [List.getElem_append_right (by simp;omega)]
   obtain⟨m,rfl⟩:∃ m,j=i+1+m:=⟨j - (i+1),by omega⟩
   simp only [List.length_take,Nat.min_eq_left hi,show i+1+m - i=m+1 by omega,List.getElem_cons_succ,List.getElem_drop,show i+1+m - 1=i+m by omega]
  rw [hg1]
  have hpq:(xs.take (i * 2)++[p,q]).length=i * 2+2:=by simp;omega
  refine⟨a,b,?_,?_,key e,key k⟩
  ·rw [List.getElem?_append_right (by omega),hpq,List.getElem?_drop,show i * 2+(j * 2 - (i * 2+2))=(j - 1) * 2 by omega];exact c
  ·rw [List.getElem?_append_right (by omega),hpq,List.getElem?_drop,show i * 2+(j * 2+1 - (i * 2+2))=(j - 1) * 2+1 by omega];exact d
theorem OutG.ins {C:Nat->Nat->Prop} {mb base:Nat} {w w':World} {v v':Value} {o:List Fg} {f:Fg} {xs:List Value} {p q:Value} {i:Nat} (hi:i<=o.length) (hl:xs.length=o.length * 2)
 (h2:∀ i (h:i<o.length),∃ a b,xs[i * 2]? = some a/\xs[i * 2+1]? = some b/\Dat (DX C mb w v) w a (rg o[i].items)/\Dat (DX C mb w v) w b (vp o[i].vec))
 (hp:Dat (DX C mb w v) w p (rg f.items)) (hq:Dat (DX C mb w v) w q (vp f.vec)) (hC:∀ b o,C b o->b<mb) (hmb:mb<w.heap.size)
 (ho:OwnC base w' v' (o.length+1) (xs.take (i * 2)++[p,q]++xs.drop (i * 2))) (hg:w.grownBy w' v.ownBlock) (hv':v'.ownBlock=v.ownBlock\/v'.ownBlock=some w.heap.size):OutG C mb base w' v' (o.take i++f::o.drop i):=
 OutG.insK hi hl h2 hp hq (fun h=>DX.grown h hC hmb hg hv') ho
theorem DX.new {C:Nat->Nat->Prop} {mb:Nat} {w w':World} {v v' x:Value} {p:PV} (h:Dat (DX C mb w v) w x p) (hC:∀ b o,C b o->b<w.heap.size) (hb:Below w.heap.size w w') (hv':∀ k,v'.ownBlock=some k->w.heap.size<=k):Dat (DX C mb w' v') w' x p:=
 h.mono (fun b o h=>⟨h.1.imp id fun h=>⟨h.1,Nat.lt_of_lt_of_le h.2 hb.size⟩,fun e=>by
  have:=hv' b e
  rcases h.1 with h | h
  ·have:=hC _ _ h;omega
  ·omega⟩) fun b o x _ hx=>(World.cell?_of_block (a:=⟨b,o,none⟩) (hb.block b (World.block_lt_of_cell? w ⟨b,o,none⟩ hx))).trans hx
theorem OutG.set {C:Nat->Nat->Prop} {mb base g:Nat} {w:World} {cap:Nat} {o:List Fg} {l:List Iv} {a0:Value} {i:Nat} (h:OutG C mb base w (.slice (some ⟨g,0,none⟩) o.length cap) o) (hi:i<o.length) (ha:Dat (DX C mb w (.slice (some ⟨g,0,none⟩) o.length cap)) w a0 (rg l)) (hcap:0<cap) :
 OutG C mb base (w.setCell ⟨g,i * 2,none⟩ a0) (.slice (some ⟨g,0,none⟩) o.length cap) (o.take i++⟨l,o[i].vec⟩::o.drop (i+1)):=by
 obtain⟨xs,h1,h2⟩:=h
 have hlen:(o.take i++(⟨l,o[i].vec⟩:Fg)::o.drop (i+1)).length=o.length:=by simp;omega
 obtain⟨s1,s2⟩:=h1.1.stored (i * 2) a0
 have hbk:(Value.slice (some ⟨g,0,none⟩) o.length cap).ownBlock=some g:=by
  cases cap with
  | zero=>omega
  | succ c=>rfl
 have key:∀ {x:Value} {p:PV},Dat (DX C mb w (.slice (some ⟨g,0,none⟩) o.length cap)) w x p->Dat (DX C mb (w.setCell ⟨g,i * 2,none⟩ a0) (.slice (some ⟨g,0,none⟩) o.length cap)) (w.setCell ⟨g,i * 2,none⟩ a0) x p:=fun h=>
  DX.keep h (by simp) fun k hk hne=>Below.heap_setCell _ _ _ _ fun e=>hne (by rw [hbk];exact congrArg some e.symm)
 refine⟨xs.set (i * 2) a0,⟨by rw [hlen];exact s1,by rw [hlen,List.length_set];exact h1.2.1,fun u hu=>?_⟩,fun j hj=>?_⟩
 ·rcases List.mem_or_eq_of_mem_set hu with hu | rfl
  ·exact h1.2.2 u hu
  ·exact Ki ha
 ·have hj':j<o.length:=by rw [hlen] at hj;exact hj
  obtain⟨a,b,c,d,e,k⟩:=h2 j hj'
  have hxl:=h1.2.1
  by_cases hji:j=i
  ·subst hji
   have hg1:(o.take j++(⟨l,o[j].vec⟩:Fg)::o.drop (j+1))[j]=⟨l,o[j].vec⟩:=by
    rw [List.getElem_append_right (by rw [List.length_take];exact Nat.min_le_left _ _)]
    simp [Nat.min_eq_left (Nat.le_of_lt hi)]
   rw [hg1]
   refine⟨a0,b,?_,?_,key ha,key k⟩
   ·rw [List.getElem?_set_self (by omega)]
   ·rw [List.getElem?_set_ne (by omega)];exact d
  ·have hg1:(o.take i++(⟨l,o[i].vec⟩:Fg)::o.drop (i+1))[j]=o[j]:=by
    rcases Nat.lt_or_gt_of_ne hji with hlt | hgt
    ·rw [List.getElem_append_left (by simp;omega),List.getElem_take]
    ·rw [List.getElem_append_right (by simp;omega)]
     obtain⟨m,rfl⟩:∃ m,j=i+1+m:=⟨j - (i+1),by omega⟩
     simp only [List.length_take,Nat.min_eq_left (Nat.le_of_lt hi),show i+1+m - i=m+1 by omega,List.getElem_cons_succ,List.getElem_drop]
   rw [hg1]
   refine⟨a,b,?_,?_,key e,key k⟩
   ·rw [List.getElem?_set_ne (by omega)];exact c
   ·rw [List.getElem?_set_ne (by omega)];exact d
theorem OutG.setV {C:Nat->Nat->Prop} {mb base g:Nat} {w:World} {cap:Nat} {o:List Fg} {a0:Value} {i n:Nat} (hn:o.length=n) (h:OutG C mb base w (.slice (some ⟨g,0,none⟩) n cap) o) (hi:i<o.length) (ha:Dat (DX C mb w (.slice (some ⟨g,0,none⟩) n cap)) w a0 (vp o[i].vec)) (hcap:0<cap) :
 OutG C mb base (w.setCell ⟨g,i * 2+1,none⟩ a0) (.slice (some ⟨g,0,none⟩) n cap) o:=by
 subst hn
 obtain⟨xs,h1,h2⟩:=h
 obtain⟨s1,s2⟩:=h1.1.stored (i * 2+1) a0
 have hbk:(Value.slice (some ⟨g,0,none⟩) o.length cap).ownBlock=some g:=by
  cases cap with
  | zero=>omega
  | succ c=>rfl
 have key:∀ {x:Value} {p:PV},Dat (DX C mb w (.slice (some ⟨g,0,none⟩) o.length cap)) w x p->Dat (DX C mb (w.setCell ⟨g,i * 2+1,none⟩ a0) (.slice (some ⟨g,0,none⟩) o.length cap)) (w.setCell ⟨g,i * 2+1,none⟩ a0) x p:=fun h=>
  DX.keep h (by simp) fun k hk hne=>Below.heap_setCell _ _ _ _ fun e=>hne (by rw [hbk];exact congrArg some e.symm)
 refine⟨xs.set (i * 2+1) a0,⟨s1,by rw [List.length_set];exact h1.2.1,fun u hu=>?_⟩,fun j hj=>?_⟩
 ·rcases List.mem_or_eq_of_mem_set hu with hu | rfl
  ·exact h1.2.2 u hu
  ·exact zeu ha
 ·obtain⟨a,b,c,d,e,k⟩:=h2 j hj
  have hxl:=h1.2.1
  by_cases hji:j=i
  ·subst hji
   refine⟨a,a0,?_,?_,key e,key ha⟩
   ·rw [List.getElem?_set_ne (by omega)];exact c
   ·rw [List.getElem?_set_self (by omega)]
  ·refine⟨a,b,?_,?_,key e,key k⟩
   ·rw [List.getElem?_set_ne (by omega)];exact c
   ·rw [List.getElem?_set_ne (by omega)];exact d
theorem OutG.dat {C:Nat->Nat->Prop} {mb base:Nat} {w:World} {v:Value} {o:List Fg} (h:OutG C mb base w v o) (hb:mb<base):Dat (DL C mb w) w v (kp o):=by
 obtain⟨xs,h1,h2⟩:=h
 rcases h1.1.2 with⟨rfl,h0⟩ | ⟨g,cap,cur,rfl,hg,hc,hn,hm,hs,ht⟩
 ·obtain rfl:=List.length_eq_zero_iff.1 h0
  exact .sl none 0 2 [] .sh 0 0 (fun _=>undef) (by simp) (fun h=>by cases h) (by decide) (fun h=>absurd rfl h) (fun i e h=>by simp at h) (fun j h=>by simp at h) (fun i e j p h=>by simp at h)
 ·have hlt:=(Array.getElem?_eq_some_iff.1 hc).1
  have cells:∀ j x,xs[j]? = some x->w.cell? ⟨g,j,none⟩=some x:=fun j x hx=>by
   have:=h1.1.cells (g:=g) rfl j x hx
   rw [zh,Nat.zero_add] at this
   exact this
  have hcell:∀ i (h:i<o.length) j p,(fc o[i])[j]? = some p->∃ x,xs[i * 2+j]? = some x/\Dat (DL C mb w) w x p/\x.oneCell'=true:=fun i h j p hp=>by
   obtain⟨a,b,c,d,e,k⟩:=h2 i h
   match j,hp with
   | 0,hp=>cases hp;exact⟨_,c,e.mono (fun _ _ h=>h.1) fun _ _ _ _ h=>h,Ki e⟩
   | 1,hp=>cases hp;exact⟨_,d,k.mono (fun _ _ h=>h.1) fun _ _ _ _ h=>h,zeu k⟩
   | j+2,hp=>simp [fc] at hp
  have hmap:∀(i:Nat) (e:List PV),(o.map fc)[i]? = some e->∃ h:i<o.length,e=fc o[i]:=fun i e he=>by
   rw [List.getElem?_map] at he
   obtain⟨x,hx,rfl⟩:=Option.map_eq_some_iff.1 he
   obtain⟨h,rfl⟩:=List.getElem?_eq_some_iff.1 hx
   exact⟨h,rfl⟩
  have hlen:(o.map fc).length=o.length:=List.length_map _
  unfold kp
  rw [<-hlen]
  refine .sl (some ⟨g,0,none⟩) cap 2 (o.map fc) .sh g 0 (fun j=>(xs[j]?).getD undef) (by rw [hlen];exact hn) (fun h=>by cases h) hm (fun _=>rfl) (fun i e he=>?_) (fun j hj=>?_) (fun i e j p he hp=>?_)
  ·obtain⟨h,rfl⟩:=hmap i e he
   rfl
  ·rw [hlen] at hj
   have hi:j / 2<o.length:=by omega
   have h3:j % 2<(fc o[j / 2]).length:=Nat.mod_lt _ (by decide)
   obtain⟨x,hx,_,ho⟩:=hcell (j / 2) hi (j % 2) ((fc o[j / 2])[j % 2]) (List.getElem?_eq_getElem h3)
   rw [show j / 2 * 2+j % 2=j by omega] at hx
   rw [Nat.zero_add]
   refine⟨.inr ⟨by omega,hlt⟩,?_,?_⟩
   ·rw [hx];exact cells j x hx
   ·rw [hx];exact ho
  ·obtain⟨h,rfl⟩:=hmap i e he
   obtain⟨x,hx,hd,_⟩:=hcell i h j p hp
   rw [hx]
   exact hd
theorem OutG.box {C:Nat->Nat->Prop} {mb base rb:Nat} {w:World} {v x:Value} {o:List Fg} (h:OutG C mb base w v o) (hb:rb<mb) (hrb:rb<base) (hC:∀ b o,C b o->b≠rb):OutG C mb base (w.setCell ⟨rb,0,none⟩ x) v o:=by
 have key:∀ {y:Value} {p:PV},Dat (DX C mb w v) w y p->Dat (DX C mb (w.setCell ⟨rb,0,none⟩ x) v) (w.setCell ⟨rb,0,none⟩ x) y p:=fun h=>
  h.mono (fun b o h=>⟨h.1.imp id fun h=>⟨h.1,by simpa using h.2⟩,h.2⟩) fun b o y h hy=>(World.cell?_of_block (a:=⟨b,o,none⟩) (Below.heap_setCell _ _ _ _ (by
   show b≠rb
   rcases h.1 with h | h
   ·exact hC _ _ h
   ·omega))).trans hy
 obtain⟨xs,h1,h2⟩:=h
 refine⟨xs,h1.keep fun k hk=>Below.heap_setCell _ _ _ _ (by have:=(h1.1.lt k hk).1;show k≠rb;omega),fun i hi=>?_⟩
 obtain⟨a,b,c,d,e,f⟩:=h2 i hi
 exact⟨a,b,c,d,key e,key f⟩
end Go.Proofs.YtonhfknjcbakiaaGreatDoor
namespace Go.Proofs.YtonhfknjcbakiaaGreatDoor
open Go.ChangeShapes Go.WideShapes Go.ChangeAt Go.RowKit Go.Deep
section
variable {H:Type} {enc:TypeId × Value->H} {w:World} {base:Nat} {spare:Nat->Bool} {held:Bool}
theorem zfi {n:Nat} {a:Addr} {cs:List Value} {y:DataW H × List MemPlace} (h1:w.cells? base a 2=some cs) (h2:DataW.trod enc Tryz.prog w base spare held n 34 cs=some y):a.spot=none/\a.block<w.heap.size/\∃ f,rdC fc (fun f=>BdF f/\∀ e ∈ f.vec,e.holes.length<=9223372036854775807) w a.block a.off f:=by
 obtain⟨v0,v1,k,y0,y1,e0,e1,g0,g1⟩:=YB Tryz.underlying34 rfl rfl (by kernel_rfl) (by kernel_rfl) h1 h2
 obtain⟨v0',l,q0,hl⟩:=ZA g0
 obtain⟨v1',v,q1,hv⟩:=zet g1
 obtain rfl:v0=v0':=by simpa using q0
 obtain rfl:v1=v1':=by simpa using q1
 obtain⟨b,off,spot⟩:=a
 obtain rfl:spot=none:=World.cell?_spot e0
 obtain⟨d1,b1,n1⟩:=VQ (cv:=ec) (bd:=fun e=>ZL e/\e.holes.length<=9223372036854775807) (fun _=>rfl) hv
 have d0:Dat (ZG w) w v0 (rg l):=jp hl fun _ _ _ h=>h
 have hlb:=hl.bound
 have hll:l.length<=9223372036854775807:=by have:=hl.len;unfold maxLen at this;omega
 have o0:v0.oneCell'=true:=by obtain⟨a0,c0,rfl,_⟩:=hl;rfl
 have o1:v1.oneCell'=true:=by obtain⟨a0,c0,rfl,_⟩:=hv;rfl
 refine⟨rfl,World.block_lt_of_cell? _ _ e0,⟨l,v⟩,fun j p hp=>?_,⟨hlb,fun e he=>(b1 e he).1,hll,n1⟩,fun e he=>(b1 e he).2⟩
 match j,hp with
 | 0,hp=>cases hp;exact⟨_,e0,o0,d0⟩
 | 1,hp=>cases hp;exact⟨_,by simpa [Addr.add] using e1,o1,d1⟩
theorem zbd {fuel:Nat} {cs:List Value} {x:DataW H × List MemPlace} (h:DataW.trod enc Tryz.prog w base spare held fuel 23 cs=some x):∃ v l,cs=[v]/\RdSl 2 (rdC fc (fun f=>BdF f/\∀ e ∈ f.vec,e.holes.length<=9223372036854775807)) 0 w.heap.size w v l:=
 Za (rdC fc (fun f=>BdF f/\∀ e ∈ f.vec,e.holes.length<=9223372036854775807)) Tryz.underlying23 (by kernel_rfl) (fun _ _ _ _ h1 h2=>zfi h1 h2) h
theorem zo4 {r:Reach} {b0:Nat} {v:Value} {d:DataW H} {ps:List MemPlace} (hval:Value.okWide Tryz.prog w r b0 23 v) (h:DataW.Trod enc Tryz.prog w base spare held 23 v d ps):∃ l,Dat (ZG w) w v (kp l)/\BdK l/\HlK l:=by
 obtain⟨a,len,cap,rfl⟩:=okWide_slice Tryz.underlying23 hval
 obtain⟨fuel,hf⟩:=h
 obtain⟨v,l,hv,hl⟩:=zbd hf
 simp [Value.cells] at hv
 rw [<-hv] at hl
 obtain⟨h1,h2,h3⟩:=VQ (cv:=fc) (bd:=(fun f=>BdF f/\∀ e ∈ f.vec,e.holes.length<=9223372036854775807)) (fun _=>rfl) hl
 exact⟨l,h1,⟨fun f hf=>(h2 f hf).1,h3⟩,fun f hf=>(h2 f hf).2⟩
theorem zg2 {r:Reach} {b0:Nat} {v:Value} {d:DataW H} {ps:List MemPlace} (hval:Value.okWide Tryz.prog w r b0 23 v) (h:DataW.Trod enc Tryz.prog w base spare held 23 v d ps):∃ l,Dat (ZG w) w v (kp l)/\BdK l:=
 (zo4 hval h).imp fun _ h=>⟨h.1,h.2.1⟩
def xp (x:Nat × Nat × Nat):PV:=.agg [.v (.int .u64 (x.1:Nat)),.v (.int .u64 (x.2.1:Nat)),.v (.int .u64 (x.2.2:Nat))]
attribute [go_sem] xp
end
end Go.Proofs.YtonhfknjcbakiaaGreatDoor
namespace Go.Proofs.YtonhfknjcbakiaaGreatDoor
open Go.RowKit
def qX (k:List Fg) (x y:Nat):Bool:=k.all fun f=>mem f.items x == mem f.items y
theorem qo {k:List Fg} {x y:Nat}:qX k x y=true ↔ ∀ f ∈ k,mem f.items x=mem f.items y:=by simp [qX]
theorem j8 {x y:Nat}:∀ {k:List Fg} {n:Nat},(∀ f ∈ k,mem f.items x=mem f.items y)->qd x n k=qd y n k
 | [],_,_=>rfl
 | f::k,n,h=>by
   rw [qd,qd,j8 (k:=k) fun g hg=>h g (by simp [hg]),h f (by simp)]
theorem Zh {x y:Nat}:∀ {k:List Fg} {n:Nat},(qd x n k).map Prod.fst=(qd y n k).map Prod.fst->∀ f ∈ k,mem f.items x=mem f.items y
 | [],_,_,f,hf=>by cases hf
 | g::k,n,h,f,hf=>by
   have no:∀ z,n ∉ (qd z (n+1) k).map Prod.fst:=fun z hz=>by
    obtain⟨p,hp,e⟩:=List.mem_map.1 hz
    have:=(jv hp).2.2.1
    omega
   rw [qd,qd] at h
   cases hx:mem g.items x<;>cases hy:mem g.items y<;>rw [hx,hy] at h<;>simp only [if_true,if_false,Bool.false_eq_true,List.map_cons] at h
   ·rcases List.mem_cons.1 hf with rfl | hf
    ·rw [hx,hy]
    ·exact Zh h f hf
   ·exact absurd (h ▸ List.mem_cons_self) (no x)
   ·exact absurd (h ▸ List.mem_cons_self) (no y)
   ·rcases List.mem_cons.1 hf with rfl | hf
    ·rw [hx,hy]
    ·exact Zh (List.cons.inj h).2 f hf
theorem Vp {k:List Fg} {x y:Nat}:zU k x=zU k y ↔ qX k x y=true:=by
 rw [qo]
 exact⟨fun h=>Zh h,fun h=>by unfold zU;rw [j8 h]⟩
theorem Yt {k:List Fg} {x y:Nat} (h:qX k x y=true) (r c:Nat):hasK k x r c=hasK k y r c:=by rw [<-jh,<-jh,j8 (qo.1 h)]
theorem km {k:List Fg} {i r c:Nat}:hasK k i r c=true ↔ ∃ f ∈ k,mem f.items i=true/\mem (zT f.vec r) c=true:=by simp [hasK]
noncomputable def zq (k:List Fg):List Nat:=(zH (k.map Fg.items)).filter fun x=>decide (x=0) || !qX k (x - 1) x
theorem xc (k:List Fg):YN (zq k):=(x8 _).filter _
theorem vZ {k:List Fg} (h:RightK k) {x:Nat}:x ∈ zq k ↔ x<zk/\(x=0\/qX k (x - 1) x=false):=by
 unfold zq
 rw [List.mem_filter]
 constructor
 ·rintro⟨h1,h2⟩
  refine⟨Ze (fun l hl s hs=>?_) x h1,by simpa using h2⟩
  obtain⟨f,hf,rfl⟩:=List.mem_map.1 hl
  have:=NF.lo_ge (h f hf).1 s hs
  omega
 ·rintro⟨h1,h2⟩
  refine⟨?_,by simpa using h2⟩
  unfold zH
  rw [qr]
  unfold yU
  rcases Nat.eq_zero_or_pos x with h0 | h0
  ·simp [h0]
  ·have h3:=h2.resolve_left (by omega)
   refine List.mem_cons.2 (.inr ?_)
   have:∃ f ∈ k,mem f.items (x - 1)≠mem f.items x:=Classical.byContradiction fun hn=>by
    have:qX k (x - 1) x=true:=qo.2 fun f hf=>Classical.byContradiction fun he=>hn ⟨f,hf,he⟩
    rw [h3] at this
    cases this
   obtain⟨f,hf,hne⟩:=this
   exact List.mem_flatMap.2 ⟨f.items,List.mem_map.2 ⟨f,hf,rfl⟩,Y3 (h f hf).1.ivs2 ⟨h1,by rw [if_neg (by omega)];exact fun e=>hne e.symm⟩⟩
theorem XC {k:List Fg} (h:RightK k):0 ∈ zq k:=(vZ h).2 ⟨xM,.inl rfl⟩
theorem vY (k:List Fg):(zq k).length<=1+(CI k).length:=by
 have h1:(zq k).length<=(zH (k.map Fg.items)).length:=List.length_filter_le _ _
 have h2:(zH (k.map Fg.items)).length<=(yU (k.map Fg.items)).length:=ju _
 have h3:(yU (k.map Fg.items)).length=1+(CI k).length:=by
  unfold yU CI
  rw [List.length_cons,List.flatMap_map]
  omega
 omega
def vN:List Nat->List Iv
 | []=>[]
 | [x]=>[⟨x,zk - 1⟩]
 | x::y::r=>⟨x,y - 1⟩::vN (y::r)
theorem vO:∀ l:List Nat,(vN l).length=l.length
 | []=>rfl
 | [_]=>rfl
 | x::y::r=>by rw [vN,List.length_cons,vO (y::r)];rfl
theorem Vx:∀(l:List Nat) (i:Nat) (h:i<l.length),(vN l)[i]'(by rw [vO];exact h)=⟨l[i],if h:i+1<l.length then l[i+1] - 1 else zk - 1⟩
 | [x],0,_=>by simp [vN]
 | x::y::r,0,_=>by simp [vN]
 | x::y::r,i+1,h=>by
   have:=Vx (y::r) i (by simpa using h)
   simp only [vN,List.getElem_cons_succ]
   rw [this]
   simp
theorem YD:∀ {l:List Nat},YN l->(∀ x ∈ l,x<zk)->(∀ s ∈ vN l,s.lo<=s.hi/\s.hi<zk/\s.lo ∈ l)/\(vN l).Pairwise (fun s t=>s.hi<t.lo)/\(∀ s ∈ vN l,∀ y ∈ l,s.lo<y->s.hi<y)/\∀ i x r,l=x::r->x<=i->i<zk->∃ s ∈ vN l,s.lo<=i/\i<=s.hi
 | [],_,_=>⟨fun s h=>(by cases h),List.Pairwise.nil,fun s h=>(by cases h),fun i x r h=>by cases h⟩
 | [x],_,hl=>by
   have hx:=hl x (by simp)
   refine⟨fun s h=>?_,by simp [vN],fun s h y hy hlt=>?_,fun i y r h h1 h2=>?_⟩
   ·simp only [vN,List.mem_singleton] at h
    subst h
    exact⟨by simp only;omega,by simp only;omega,by simp⟩
   ·simp only [vN,List.mem_singleton] at h hy
    subst h hy
    simp at hlt
   ·cases h
    exact⟨⟨x,zk - 1⟩,by simp [vN],h1,by simp only;omega⟩
 | x::y::r,ha,hl=>by
   have hp:=List.pairwise_cons.1 ha
   have hxy:=hp.1 y (by simp)
   have hy:=hl y (by simp)
   obtain⟨h1,h2,h3,h4⟩:=YD hp.2 fun z hz=>hl z (by simp [hz])
   have hge:∀ z ∈ y::r,y<=z:=fun z hz=>by
    rcases List.mem_cons.1 hz with rfl | hz
    ·exact Nat.le_refl _
    ·exact Nat.le_of_lt ((List.pairwise_cons.1 hp.2).1 z hz)
   rw [vN]
   refine⟨fun s h=>?_,List.pairwise_cons.2 ⟨fun t ht=>?_,h2⟩,fun s h z hz hlt=>?_,fun i x' r' h k1 k2=>?_⟩
   ·rcases List.mem_cons.1 h with rfl | h
    ·exact⟨by simp only;omega,by simp only;omega,by simp⟩
    ·obtain⟨q1,q2,q3⟩:=h1 s h
     exact⟨q1,q2,by rw [List.mem_cons];exact .inr q3⟩
   ·have:=hge _ (h1 t ht).2.2
    simp only;omega
   ·rcases List.mem_cons.1 h with e | hs'
    ·subst e
     rcases List.mem_cons.1 hz with e | hz
     ·subst e;simp at hlt
     ·have:=hge z hz
      simp only;omega
    ·rcases List.mem_cons.1 hz with e | hz
     ·subst e
      have:=hge _ (h1 s hs').2.2
      omega
     ·exact h3 s hs' z hz hlt
   ·cases h
    rcases Nat.lt_or_ge i y with hi | hi
    ·exact⟨⟨x,y - 1⟩,by simp,k1,by simp only;omega⟩
    ·obtain⟨s,hs,q⟩:=h4 i y r rfl hi k2
     exact⟨s,by simp [hs],q⟩
noncomputable def y4 (k:List Fg):List Iv:=vN (zq k)
noncomputable def zu (k:List Fg):List Iv:=(y4 k).filter fun s=>decide (0<(zU k s.lo).length)
section
variable {k:List Fg} (h:RightK k)
include h
theorem x7:∀ x ∈ zq k,x<zk:=fun x hx=>((vZ h).1 hx).1
theorem xO:(∀ s ∈ y4 k,s.lo<=s.hi/\s.hi<zk/\s.lo ∈ zq k)/\(y4 k).Pairwise (fun s t=>s.hi<t.lo)/\(∀ s ∈ y4 k,∀ y ∈ zq k,s.lo<y->s.hi<y)/\∀ i,i<zk->∃ s ∈ y4 k,s.lo<=i/\i<=s.hi:=by
 obtain⟨h1,h2,h3,h4⟩:=YD (xc k) (x7 h)
 refine⟨h1,h2,h3,fun i hi=>?_⟩
 have h0:=XC h
 cases hs:zq k with
 | nil=>rw [hs] at h0;cases h0
 | cons x r=>
   have:x=0:=by
    rw [hs] at h0
    rcases List.mem_cons.1 h0 with e | e
    ·exact e.symm
    ·have ha:=xc k
     rw [hs] at ha
     have:=(List.pairwise_cons.1 ha).1 0 e
     omega
   exact h4 i x r hs (by omega) hi
theorem jR {s:Iv} (hs:s ∈ y4 k):∀ {x:Nat},s.lo<=x->x<=s.hi->qX k s.lo x=true:=by
 obtain⟨h1,_,h3,_⟩:=xO h
 intro x
 induction x with
 | zero=>intro hlo _;rw [show s.lo=0 by omega];exact qo.2 fun f _=>rfl
 | succ x ih=>
   intro hlo hhi
   rcases Nat.eq_or_lt_of_le hlo with e | hlt
   ·rw [e];exact qo.2 fun f _=>rfl
   ·have h5:=ih (by omega) (by omega)
    have h6:qX k x (x+1)=true:=by
     cases h7:qX k x (x+1) with
     | true=>rfl
     | false=>
       have:=h3 s hs (x+1) ((vZ h).2 ⟨by have:=(h1 s hs).2.1;omega,.inr (by rw [Nat.add_sub_cancel];exact h7)⟩) hlt
       omega
    exact qo.2 fun f hf=>(qo.1 h5 f hf).trans (qo.1 h6 f hf)
theorem Xj {i:Nat} (hi:i<zk) (hm:0<(zU k i).length):∃ s ∈ zu k,s.lo<=i/\i<=s.hi:=by
 obtain⟨s,hs,h1,h2⟩:=(xO h).2.2.2 i hi
 refine⟨s,List.mem_filter.2 ⟨hs,?_⟩,h1,h2⟩
 rw [decide_eq_true_eq,Vp.2 (jR h hs h1 h2)]
 exact hm
theorem yt:(∀ s ∈ zu k,s.lo<=s.hi/\s.hi<zk/\s ∈ y4 k/\0<(zU k s.lo).length)/\(zu k).Pairwise (fun s t=>s.hi<t.lo):=by
 refine⟨fun s hs=>?_,(xO h).2.1.filter _⟩
 obtain⟨h1,h2⟩:=List.mem_filter.1 hs
 obtain⟨q1,q2,_⟩:=(xO h).1 s h1
 exact⟨q1,q2,h1,by simpa using h2⟩
end
theorem xW (k:List Fg):(zu k).length<=1+(CI k).length:=by
 have h1:(zu k).length<=(y4 k).length:=List.length_filter_le _ _
 have h2:(y4 k).length=(zq k).length:=vO _
 have:=vY k
 omega
noncomputable def jq (k:List Fg):List Fg:=(zu k).map fun s=>⟨[s],qc k s.lo⟩
theorem ZB {k:List Fg} {f:Fg} (hf:f ∈ jq k):∃ s ∈ zu k,f=⟨[s],qc k s.lo⟩:=by
 obtain⟨s,hs,e⟩:=List.mem_map.1 hf
 exact⟨s,hs,e.symm⟩
theorem zfJ {s:Iv} {x:Nat}:mem [s] x=true ↔ s.lo<=x/\x<=s.hi:=by simp [mem]
def xh (k:List Fg):Prop:=k.Pairwise fun f g=>∀ x,x<zk->¬(mem f.items x=true/\mem g.items x=true)
theorem IK.refine {C:Nat->List Nat} {R:List Nat} {k:List Fg} (hk:IK C R k):∀ f ∈ jq k,WV C R f.vec:=fun f hf=>by
 obtain⟨s,_,rfl⟩:=ZB hf
 exact(hk.at s.lo).1
theorem Yb {k:List Fg} (h:RightK k):RightK (jq k):=fun f hf=>by
 obtain⟨s,hs,rfl⟩:=ZB hf
 obtain⟨h1,h2,_⟩:=(yt h).1 s hs
 exact⟨qG h1 h2,(h.ik.at s.lo).1.can.right⟩
theorem JJ {k:List Fg} (h:RightK k) {V:Nat->List En} {P:Nat->Nat->Nat->Bool} (hV:∀ x r c,x<zk->c<zk->mem (zT (V x) r) c=P x r c) (hs:∀ x y r c,qX k x y=true->P x r c=P y r c) (h0:∀ x r c,zU k x=[]->P x r c=false)
 {i r c:Nat} (hi:i<zk) (hc:c<zk):hasK ((zu k).map fun s=>⟨[s],V s.lo⟩) i r c=P i r c:=by
 rw [Bool.eq_iff_iff,km]
 constructor
 ·rintro⟨f,hf,h1,h2⟩
  obtain⟨s,hs',rfl⟩:=List.mem_map.1 hf
  obtain⟨q1,q2,q3,_⟩:=(yt h).1 s hs'
  have h3:=zfJ.1 h1
  rw [hV s.lo r c (by omega) hc,hs _ _ _ _ (jR h q3 h3.1 h3.2)] at h2
  exact h2
 ·intro hp
  have hm:0<(zU k i).length:=Nat.pos_of_ne_zero fun e=>by
   have:=h0 i r c (List.length_eq_zero_iff.1 e)
   rw [hp] at this
   cases this
  obtain⟨s,hs',h1,h2⟩:=Xj h hi hm
  obtain⟨q1,q2,q3,_⟩:=(yt h).1 s hs'
  refine⟨_,List.mem_map.2 ⟨s,hs',rfl⟩,zfJ.2 ⟨h1,h2⟩,?_⟩
  rw [hV s.lo r c (by omega) hc,hs _ _ _ _ (jR h q3 h1 h2)]
  exact hp
theorem zc0 {k:List Fg} {x:Nat} (r c:Nat) (h:zU k x=[]):hasK k x r c=false:=by
 rw [<-jh]
 unfold zU at h
 rw [List.map_eq_nil_iff.1 h]
 rfl
end Go.Proofs.YtonhfknjcbakiaaGreatDoor
namespace Go.Proofs.YtonhfknjcbakiaaGreatDoor
open Go.RowKit Go.Maps
attribute [-go_sem] z7
theorem zim {D:Nat->Nat->Prop} {w:World} {v:Value} {l:List Nat} (h:Dat D w v (ns l)):∃ ad cap,v=.slice ad l.length cap/\l.length<=cap/\cap<=maxLen/\(l≠[]->∃ b off,ad=some ⟨b,off,none⟩/\∀ j (hj:j<l.length),D b (off+j)/\w.cell? ⟨b,off+j,none⟩=some (.int .u64 (l[j]:Nat))):=by
 unfold ns at h
 generalize he:l.map yN=es at h
 cases h with
 | sl a cap sz es o b off u hc hz hm ha hsz hd hx=>
   have hl:es.length=l.length:=by rw [<-he];simp
   refine⟨a,cap,by rw [hl],by omega,hm,fun hne=>?_⟩
   have hpos:0<l.length:=List.length_pos_iff.2 hne
   have g:∀ i (h:i<l.length),es[i]? = some (yN l[i]):=fun i h=>by rw [<-he];exact xo h
   obtain rfl:1=sz:=hsz 0 _ (g 0 hpos)
   have hes:es≠[]:=by intro e;subst e;simp at hl;omega
   refine⟨b,off,ha hes,fun j hj=>?_⟩
   have e0:=(hx j _ 0 _ (g j hj) rfl).v_inv
   obtain⟨d1,d2,_⟩:=hd (j * 1+0) (by omega)
   rw [e0] at d2
   simp only [Nat.mul_one,Nat.add_zero] at d1 d2
   exact⟨d1,d2⟩
theorem ve {P:Program} (w:World) (t ty e:TypeId) (i:TypeInfo) (ht:P.underlying t=some (.slice e)) (hi:P.info? e=some i) (ba:Option Addr) (n cp c:Nat) (hn:n<=cp) :
 (Builtin.append_ #[t,t] ty #[.slice ba n cp,.slice none 0 c]).run P w=.ok (.slice ba n cp) w:=by
 cases ba<;>simp [Builtin.append_,run_underlying ht,sizeOf,typeInfo,hi,Builtin.lenOf,Builtin.firstCells,hn,storeCells]
theorem zbE (w:World) (t ty:TypeId) (ht:Tryz.prog.underlying t=some (.slice 24)) (base:Nat) (v:Value) (n:Nat) (xs:List Value) (hown:w.ownsRow base 24 1 v n xs) (ad:Option Addr) (m c:Nat) (news:List Value) (hl:news.length=m)
 (hnews:(m=0/\ad=none)\/∃ a,ad=some a/\∀ j u,news[j]? = some u->w.cell? (a.add j)=some u) (h1:∀ u ∈ news,u.oneCell'=true) (h63:n+m<=17179869184) (hbase:base<=w.heap.size) :
 ∃ v' w',(Builtin.append_ #[t,t] ty #[v,.slice ad m c]).run Tryz.prog w=.ok v' w'/\w'.ownsRow base 24 1 v' (n+m) (xs++news)/\w.grownBy w' v.ownBlock/\(v'.ownBlock=v.ownBlock\/v'.ownBlock=some w.heap.size):=by
 obtain⟨i0,hi0,hz0,hz1,hz2⟩:=info_parts Vf
 rcases hnews with⟨rfl,rfl⟩ | ⟨a,rfl,hn⟩
 ·obtain rfl:news=[]:=List.length_eq_zero_iff.1 hl
  obtain⟨ba,cp,rfl,hcp⟩:∃ ba cp,v=.slice ba n cp/\n<=cp:=by
   rcases hown.2 with⟨rfl,rfl⟩ | ⟨g,cap,cur,rfl,_,_,h,_⟩
   ·exact⟨none,0,rfl,Nat.le_refl _⟩
   ·exact⟨_,_,rfl,h⟩
  exact⟨_,w,ve w t ty _ i0 ht hi0 ba n cp c hcp,by simpa using hown,jW _ _,.inl rfl⟩
 ·obtain⟨v',w',r1,r2,r3,_,r5⟩:=run_append_own_at (P:=Tryz.prog) w base t ty 24 i0 _ 1 8 ht hi0 hz0 hz1 hz2 rfl (by decide) v n xs hown a m c news (by simpa using hl) hn h1 (by unfold maxLen;omega) (by omega) hbase
  exact⟨v',w',r1,r2,r3,r5⟩
theorem xK {ops:Array Oper} {o:Oper} {a:Act} {w:World} {K:Act->World->Prop} {Q:Exit->Act->World->Prop} {E:Prop} (s x:Operand) (t:TypeId) (hgd:o.guard=none)
 (ho:o.op=.call { callee:=.builtin .append,args:=#[s,x],argTypes:=#[t,t] }) (ht:Tryz.prog.underlying t=some (.slice 24)) (base:Nat) (v:Value) (n:Nat) (xs:List Value) (hs:a.eval s=v) (hown:w.ownsRow base 24 1 v n xs)
 (ad:Option Addr) (m c:Nat) (news:List Value) (hx:a.eval x=.slice ad m c) (hl:news.length=m) (hnews:(m=0/\ad=none)\/∃ a,ad=some a/\∀ j u,news[j]? = some u->w.cell? (a.add j)=some u) (h1:∀ u ∈ news,u.oneCell'=true) (h63:n+m<=17179869184) (hbase:base<=w.heap.size)
 (h:∀ v' w',w'.ownsRow base 24 1 v' (n+m) (xs++news)->w.grownBy w' v.ownBlock->(v'.ownBlock=v.ownBlock\/v'.ownBlock=some w.heap.size)->K (a.put o.dst v') w'):if Region.wanted o (yielded ops a.tmps)=true then Oper.wp Tryz.prog o a w K Q else E:=by
 have hw:Region.wanted o (yielded ops a.tmps)=true:=by simp [Region.wanted,hgd]
 rw [if_pos hw]
 obtain⟨v',w',hr,h2,h3,h4⟩:=zbE w t o.type ht base v n xs hown ad m c news hl hnews h1 h63 hbase
 unfold Oper.wp execOp
 simp only [ho,resolve,invoke,builtin,Sem.run_bind,Sem.run_pure,Result.andThen_ok,List.map_toArray,List.map_cons,List.map_nil,hs,hx,hr]
 exact h v' w' h2 h3 h4
theorem zdy {w:World} {base A:Nat} (hA:base<=A) (h:w.heap[A]? = some (.cells #[] 24 (0,0))):w.ownsRow base 24 1 (.slice (some ⟨A,0,none⟩) 0 0) 0 []:=⟨rfl,.inr ⟨A,0,#[],rfl,hA,h,Nat.le_refl _,Nat.zero_le _,rfl,rfl⟩⟩
theorem yw (w:World) (o o':Obj):((w.alloc o).alloc o').heap[w.heap.size]? = some o:=(Below.heap_alloc _ _ _ (by simp)).trans (World.alloc_heap_new w o)
theorem yx (w:World) (o o':Obj):((w.alloc o).alloc o').heap[w.heap.size+1]? = some o':=by
 have:=World.alloc_heap_new (w.alloc o) o'
 rwa [World.size_alloc] at this
theorem YR (w:World) (o:Obj):Below w.heap.size w (w.drew.alloc o):=⟨rfl,rfl,rfl,by simp,fun k hk=>Below.heap_alloc w.drew _ _ hk⟩
theorem XM (w:World) (o o':Obj):Below w.heap.size w ((w.drew.alloc o).alloc o'):=(YR w o).alloc (by simp) _
theorem zbw (C:Nat->Nat->Prop) (xs:List Nat) (x:Nat) (va:Value) (w:World) (hl:(srt xs).length<=4194304) (hd:Dat C w va (ns (srt xs))) (hC:∀ b o,C b o->b<w.heap.size) :
 Calls Tryz.prog 145 #[va,.int .u64 (x:Nat)] w fun e w'=>∃ v,e=.returned v/\Below w.heap.size w w'/\Dat (fun b o=>C b o\/(w.heap.size<=b/\b<w'.heap.size)) w' v (ns (srt (xs++[x]))):=by
 obtain⟨l,hls⟩:∃ l,l=srt xs:=⟨_,rfl⟩
 have HD:=Lib.hid hd
 rw [<-hls] at hl hd
 have HLS:=Lib.hid hls
 obtain⟨ad,cap,rfl,hcap,hcm,hcl⟩:=zim hd
 have HCL:=Lib.hid hcl
 clear hd hls hcl
 unfold maxLen at hcm
 go_enter Tryz.func145,Tryz.ntmps145
 go_wp2_with fail
 go_loopg [5] l.length (fun g y wr=>wr=w/\∃ k,k<=l.length/\g=l.length - k/\y=.int .i64 k/\∀ j,(h:j<l.length)->j<k->l[j]<x)
 case atStart=>exact⟨rfl,0,Nat.zero_le _,rfl,rfl,fun j _ h=>absurd h (by omega)⟩
 case round=>
  obtain⟨rfl,k,hk,rfl,rfl,hj⟩:=hrel
  have HJ:=Lib.hid hj
  clear hj
  by_cases hlt:k<l.length
  ·obtain⟨b,off,rfl,hcells⟩:=HCL.out (fun e=>by rw [e] at hlt;simp at hlt)
   have hck:=(hcells k hlt).2
   obtain⟨y,hy⟩:∃ y,y=l[k]:=⟨_,rfl⟩
   rw [<-hy] at hck
   have HY:=Lib.hid hy
   have HCs:=Lib.hid hcells
   clear hy hcells
   by_cases h2:y<x
   ·go_wp2_with fail
    go_roundg (l.length - (k+1))
    case measure=>omega
    case rel=>
     refine⟨rfl,k+1,hlt,rfl,by simp,fun j hj1 hj2=>?_⟩
     rcases Nat.lt_or_ge j k with h3 | h3
     ·exact HJ.out j hj1 h3
     ·obtain rfl:j=k:=by omega
      rw [<-HY.out];exact h2
   ·by_cases h3:y=x
    ·go_wp2_with fail
     refine bodyPost_ret (results_tmp rfl _ _ _) rfl ?_
     have hmem:x ∈ srt xs:=by rw [<-HLS.out,<-h3,HY.out];exact List.getElem_mem hlt
     rw [zaw hmem]
     exact⟨_,rfl,Below.refl _ _,HD.out.mono (fun _ _ h=>.inl h) fun _ _ _ _ h=>h⟩
    ·go_wp2_with fail
     have mixed:Tryz.prog.follows .mixedOrders=true:=by kernel_rfl
     have hone:∀ u ∈ (l.take k).map uV,u.oneCell'=true:=QN
     have hone2:∀ u ∈ (l.drop k).map uV,u.oneCell'=true:=QN
     have hone1:∀ u ∈ [uV x],u.oneCell'=true:=fun u hu=>by simp at hu;subst hu;rfl
     have hcell:∀ W:World,Below wr.heap.size wr W->∀ j (hj:j<l.length),W.cell? ⟨b,off+j,none⟩=some (uV l[j]):=fun W hB j hj=>(World.cell?_of_block (a:=⟨b,off+j,none⟩) (hB.block b (hC _ _ (HCs.out j hj).1))).trans (HCs.out j hj).2
     have hn1:∀ W:World,Below wr.heap.size wr W->(k=0/\(some (⟨b,off,none⟩:Addr))=none)\/∃ a,some (⟨b,off,none⟩:Addr)=some a/\∀ j u,((l.take k).map uV)[j]? = some u->W.cell? (a.add j)=some u:=fun W hB=>.inr ⟨_,rfl,fun j u h=>by
      rw [List.getElem?_map] at h
      obtain⟨y,hy,rfl⟩:=Option.map_eq_some_iff.1 h
      obtain⟨hj,rfl⟩:=List.getElem?_eq_some_iff.1 hy
      rw [zh,List.getElem_take]
      exact hcell W hB j (by simp at hj;omega)⟩
     have hn2:∀ W:World,Below wr.heap.size wr W->(l.length - k=0/\(some (⟨b,off+k,none⟩:Addr))=none)\/∃ a,some (⟨b,off+k,none⟩:Addr)=some a/\∀ j u,((l.drop k).map uV)[j]? = some u->W.cell? (a.add j)=some u:=fun W hB=>.inr ⟨_,rfl,fun j u h=>by
      rw [List.getElem?_map] at h
      obtain⟨y,hy,rfl⟩:=Option.map_eq_some_iff.1 h
      obtain⟨hj,rfl⟩:=List.getElem?_eq_some_iff.1 hy
      rw [zh,List.getElem_drop,show off+k+j=off+(k+j) by omega]
      exact hcell W hB (k+j) (by simp at hj;omega)⟩
     have HN1:=Lib.hid hn1
     have HN2:=Lib.hid hn2
     have hck:¬(cap=k):=by omega
     have hkc:k<=cap:=by omega
     have hkl:k<=l.length:=by omega
     have hfin:∀ v w,w.ownsRow wr.heap.size 24 1 v (k+1+(l.length - k)) ((l.take k).map uV++([uV x]++(l.drop k).map uV))->OwnN wr.heap.size w v (srt (xs++[x])):=fun v w h=>by
      have hi:=kJ (xs:=xs) (x:=x) (at_:=k) (by rw [<-HLS.out];omega) (fun j h5 h6=>by
       have h7:l[k]<=(srt xs)[j]:=by
        rcases Nat.eq_or_lt_of_le h6 with h8 | h8
        ·subst h8;simp only [HLS.out];exact Nat.le_refl _
        ·have:=jJ (yi xs) h5 h8
         simp only [HLS.out];omega
       have:=HY.out
       omega) (by
       rcases Nat.eq_zero_or_pos k with h5 | h5
       ·exact .inl h5
       ·refine .inr ⟨by rw [<-HLS.out];omega,?_⟩
        have h6:=HJ.out (k - 1) (by omega) (by omega)
        simpa only [HLS.out] using h6)
      rw [hi,<-HLS.out]
      unfold OwnN
      have e:(l.take k++x::l.drop k).length=k+1+(l.length - k):=by simp;omega
      rw [e]
      show w.ownsRow wr.heap.size 24 1 v _ (List.map uV _)
      rw [List.map_append,List.map_cons]
      exact h
     have HFIN:=Lib.hid hfin
     clear hfin hn1 hn2 hcell
     go_region_law_o (first
      | (refine xK (.tmp 33) (.tmp 36) 157 rfl rfl Tryz.underlying157 wr.heap.size (.slice (some ⟨_,0,none⟩) 0 0) 0 [] rfl (zdy (by omega) (by first | exact World.alloc_heap_new _ _ | exact World.alloc_heap_new wr _ | exact yw _ _ _ | exact yx _ _ _ | exact yw wr _ _ | exact yx wr _ _)) _ k _ ((l.take k).map uV) rfl (by simp<;>omega) (HN1.out _ (by first | exact YR _ _ | exact XM _ _ _)) hone (by omega) (by simp<;>omega) ?_
         intro v37 w37 ho37 hg37 hb37
         have b1:Below wr.heap.size wr w37:=by first | exact(YR wr _).grown hg37 (by simp<;>omega) (fun j hj=>by simp [Value.ownBlock] at hj;omega) | exact(XM wr _ _).grown hg37 (by simp<;>omega) (fun j hj=>by simp [Value.ownBlock] at hj;omega))
      | (refine xK (.tmp 37) (.tmp 39) 157 rfl rfl Tryz.underlying157 wr.heap.size _ (0+k) ([]++(l.take k).map uV) rfl (by first | exact ho37 | exact ho37.alloc _) _ 1 _ [uV x] rfl rfl (.inr ⟨_,rfl,vH (vt := 24) (by first | exact World.alloc_heap_new w37 _ | exact(hg37.block _ (by simp<;>omega) (by simp [Value.ownBlock]<;>omega)).trans (yw wr _ _) | exact(hg37.block _ (by simp<;>omega) (by simp [Value.ownBlock]<;>omega)).trans (yx wr _ _))⟩) hone1 (by omega) (by have:=hg37.size;simp at this ⊢<;>omega) ?_
         intro v40 w40 ho40 hg40 hb40
         have b2:Below wr.heap.size wr w40:=by first | exact b1.grown hg40 b1.size (fun j hj=>(ho37.lt j hj).1) | exact(b1.alloc b1.size _).grown hg40 (by have:=b1.size;simp<;>omega) (fun j hj=>(ho37.lt j hj).1))
      | (refine xK (.tmp 40) (.tmp 43) 157 rfl rfl Tryz.underlying157 wr.heap.size _ (0+k+1) ([]++(l.take k).map uV++[uV x]) rfl ho40 _ (l.length - k) _ ((l.drop k).map uV) rfl (by simp<;>omega) (HN2.out _ b2) hone2 (by omega) b2.size ?_
         intro v44 w44 ho44 hg44 hb44
         have b3:=b2.grown hg44 b2.size fun j hj=>(ho40.lt j hj).1))
     all_goals (go_wp2;all_goals (refine bodyPost_ret (results_tmp rfl _ _ _) rfl ?_;exact⟨v44,rfl,b3,vL (base:=wr.heap.size) (HFIN.out _ _ (by simpa using ho44)) fun b o h1 h2=>.inr ⟨h1,h2⟩⟩))
  ·obtain rfl:k=l.length:=by omega
   go_wp2_with fail
   have mixed:Tryz.prog.follows .mixedOrders=true:=by kernel_rfl
   obtain⟨ad2,cap2,had2⟩:∃ ad2 cap2,(ad2,cap2)=(if cap=l.length then ad else Option.map (fun x=>x.add l.length) ad,cap - l.length):=⟨_,_,rfl⟩
   have hl2:l.length+1<=17179869184:=by omega
   have hone:∀ u ∈ l.map uV,u.oneCell'=true:=QN
   have hone1:∀ u ∈ [uV x],u.oneCell'=true:=fun u hu=>by simp at hu;subst hu;rfl
   have hnl:∀ W:World,Below wr.heap.size wr W->(l.length=0/\ad=none)\/∃ a,ad=some a/\∀ j u,(l.map uV)[j]? = some u->W.cell? (a.add j)=some u:=fun W hB=>by
    by_cases h0:l=[]
    ·subst h0
     cases ad with
     | none=>exact .inl ⟨rfl,rfl⟩
     | some a=>exact .inr ⟨a,rfl,fun j u h=>by simp at h⟩
    ·obtain⟨b,off,rfl,hc⟩:=HCL.out h0
     refine .inr ⟨_,rfl,fun j u h=>?_⟩
     rw [List.getElem?_map] at h
     obtain⟨y,hy,rfl⟩:=Option.map_eq_some_iff.1 h
     obtain⟨hj,rfl⟩:=List.getElem?_eq_some_iff.1 hy
     rw [zh]
     exact(World.cell?_of_block (a:=⟨b,off+j,none⟩) (hB.block b (hC _ _ (hc j hj).1))).trans (hc j hj).2
   have hnone:(0=0/\(if cap=l.length then ad else Option.map (fun x=>x.add l.length) ad)=none)\/∃ a,(if cap=l.length then ad else Option.map (fun x=>x.add l.length) ad)=some a:=by
    cases ad<;>simp
    split<;>simp
   have HNL:=Lib.hid hnl
   have HNO:=Lib.hid hnone
   clear hnl hnone had2
   have hfin:∀ v w,w.ownsRow wr.heap.size 24 1 v (l.length+1) (l.map uV++[uV x])->OwnN wr.heap.size w v (srt (xs++[x])):=fun v w h=>by
    have hi:=kJ (xs:=xs) (x:=x) (at_:=(srt xs).length) (Nat.le_refl _) (fun j h1 h2=>by omega) (by
     rcases Nat.eq_zero_or_pos (srt xs).length with h5 | h5
     ·exact .inl h5
     ·refine .inr ⟨by omega,?_⟩
      have h6:=HJ.out ((srt xs).length - 1) (by rw [HLS.out];omega) (by rw [HLS.out];omega)
      simpa only [HLS.out] using h6)
    rw [hi,<-HLS.out,List.take_length,List.drop_length]
    unfold OwnN
    rw [List.length_append,List.length_singleton]
    show w.ownsRow wr.heap.size 24 1 v _ (List.map uV _)
    rw [List.map_append]
    exact h
   have HFIN:=Lib.hid hfin
   clear hfin
   go_region_law_o (first
    | (refine xK (.tmp 33) (.tmp 36) 157 rfl rfl Tryz.underlying157 wr.heap.size (.slice (some ⟨_,0,none⟩) 0 0) 0 [] rfl (zdy (by omega) (by first | exact World.alloc_heap_new _ _ | exact World.alloc_heap_new wr _ | exact yw _ _ _ | exact yx _ _ _ | exact yw wr _ _ | exact yx wr _ _)) _ l.length _ (l.map uV) rfl (by simp<;>omega) (HNL.out _ (by first | exact YR _ _ | exact XM _ _ _)) hone (by omega) (by simp<;>omega) ?_
       intro v37 w37 ho37 hg37 hb37
       have b1:Below wr.heap.size wr w37:=by first | exact(YR wr _).grown hg37 (by simp<;>omega) (fun j hj=>by simp [Value.ownBlock] at hj;omega) | exact(XM wr _ _).grown hg37 (by simp<;>omega) (fun j hj=>by simp [Value.ownBlock] at hj;omega))
    | (refine xK (.tmp 37) (.tmp 39) 157 rfl rfl Tryz.underlying157 wr.heap.size _ (0+l.length) ([]++l.map uV) rfl (by first | exact ho37 | exact ho37.alloc _) _ 1 _ [uV x] rfl rfl (.inr ⟨_,rfl,vH (vt := 24) (by first | exact World.alloc_heap_new w37 _ | exact(hg37.block _ (by simp<;>omega) (by simp [Value.ownBlock]<;>omega)).trans (yw wr _ _) | exact(hg37.block _ (by simp<;>omega) (by simp [Value.ownBlock]<;>omega)).trans (yx wr _ _))⟩) hone1 (by omega) (by have:=hg37.size;simp at this ⊢<;>omega) ?_
       intro v40 w40 ho40 hg40 hb40
       have b2:Below wr.heap.size wr w40:=by first | exact b1.grown hg40 b1.size (fun j hj=>(ho37.lt j hj).1) | exact(b1.alloc b1.size _).grown hg40 (by have:=b1.size;simp<;>omega) (fun j hj=>(ho37.lt j hj).1))
    | (refine xK (.tmp 40) (.tmp 43) 157 rfl rfl Tryz.underlying157 wr.heap.size _ (0+l.length+1) ([]++l.map uV++[uV x]) rfl ho40 _ 0 _ ([]) rfl (by simp<;>omega) (by rcases HNO.out with h | ⟨a,h⟩;exact .inl h;exact .inr ⟨a,h,fun j u hj=>by simp at hj⟩) (by simp) (by omega) b2.size ?_
       intro v44 w44 ho44 hg44 hb44
       have b3:=b2.grown hg44 b2.size fun j hj=>(ho40.lt j hj).1))
   all_goals (go_wp2;all_goals (refine bodyPost_ret (results_tmp rfl _ _ _) rfl ?_;exact⟨v44,rfl,b3,vL (base:=wr.heap.size) (HFIN.out _ _ (by simpa using ho44)) fun b o h1 h2=>.inr ⟨h1,h2⟩⟩))
end Go.Proofs.YtonhfknjcbakiaaGreatDoor
