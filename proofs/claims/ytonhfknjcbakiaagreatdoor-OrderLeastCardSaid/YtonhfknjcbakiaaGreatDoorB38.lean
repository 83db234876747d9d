import Derived.Test.YtonhfknjcbakiaaGreatDoorB36
import Derived.Test.YtonhfknjcbakiaaGreatDoorB37
set_option maxHeartbeats 16000000
set_option linter.unusedVariables false
set_option linter.unusedSimpArgs false
set_option maxRecDepth 100000
namespace Go.Proofs.YtonhfknjcbakiaaGreatDoor
open Go.RowKit
def us (l:List Nat):PV:=.sl (l.map yN) .sh
attribute [go_sem] us
theorem zik (x:Nat):Cn Tryz.prog 208 [.v (.int .u64 x)] (.v (.bool false)):=by
 refine zt Tryz.func208 1 ?_
 exact pd
theorem zie (x y:Nat):Cn Tryz.prog 207 [.v (.int .u64 x),.v (.int .u64 y)] (.v (.bool (decide (x<y)))):=by
 refine zt Tryz.func207 2 ?_
 refine pw ?_
 exact .d (zdn x)
theorem zaI (l:List Nat) (x i:Nat) (hi:i<=l.length) (h1:∀ j,(h:j<l.length)->j<i->l[j]<x) (h2:∀ j,(h:j<l.length)->i<=j->x<=l[j]) (hl:l.length<=1152921504606846976) :
 Cn Tryz.prog 192 [us l,.v (.int .u64 x)] (.tup [.v (.int .i64 i),.v (.bool (decide (l[i]? = some x)))]):=by
 refine zt Tryz.func192 2 ?_
 refine pw ?_
 refine pLoop.go (fun p:Nat × Nat=>p.1<=i/\i<=p.2/\p.2<=l.length) (fun p=>[(7,.v (.int .i64 (p.1:Nat))),(8,.v (.int .i64 (p.2:Nat)))]) (fun _=>[]) (fun p=>p.2 - p.1) (0,l.length) [7,8] ?_ ?_ ?_
 ·exact⟨Nat.zero_le _,hi,Nat.le_refl _⟩
 ·exact pd
 ·rintro⟨p,q⟩ ⟨k1,k2,k3⟩
  simp only at k1 k2 k3
  refine pw ?_
  refine .i ?_ ?_<;>intro h<;>(try simp only [zb] at h)<;>first | refine pw ?_ | exact pd
  ·have hm:(p+q) / 2<l.length:=by omega
   refine pw ?_
   refine .c (zie l[(p+q) / 2] x) ?_
   refine .i ?_ ?_<;>intro h4<;>(try simp only [zb] at h4)<;>first | refine pw ?_ | exact pd
   ·refine⟨((p+q) / 2+1,q),⟨?_,k2,k3⟩,by simp only;omega,rfl,rfl⟩
    simp only
    refine Nat.lt_of_not_le fun h5=>?_
    have:=h2 _ hm h5
    omega
   ·refine⟨(p,(p+q) / 2),⟨k1,?_,by simp only;omega⟩,by simp only;omega,rfl,rfl⟩
    simp only
    refine Nat.le_of_not_lt fun h5=>?_
    have:=h1 _ hm h5
    omega
  ·obtain rfl:p=i:=by omega
   obtain rfl:q=p:=by omega
   refine .i ?_ ?_<;>intro h4<;>(try simp only [zb] at h4)<;>first | refine pw ?_ | exact pd
   ·rw [show l[q]? = some l[q] from List.getElem?_eq_getElem h4]
    refine .i ?_ ?_<;>intro h5<;>(try simp only [zb] at h5)<;>first | refine pw ?_ | exact pd
    ·simp [h5]
    ·refine .c (zik l[q]) ?_
     simp [h5]
   ·rw [show l[q]? = none from List.getElem?_eq_none (by omega)]
    simp
end Go.Proofs.YtonhfknjcbakiaaGreatDoor
namespace Go.Proofs.YtonhfknjcbakiaaGreatDoor
open Go.RowKit Go.Maps
attribute [-go_sem] z7
theorem XY {D:Nat->Nat->Prop} {w:World} {x a b:Value} (h:Dat D w x (.tup [.v a,.v b])):x=.tuple #[a,b]:=by
 cases h with
 | tup vs cs hs h=>
   obtain⟨l⟩:=vs
   match l,hs with
   | [p,q],_=>
     have e0:=(h 0 _ rfl).v_inv
     have e1:=(h 1 _ rfl).v_inv
     simp at e0 e1
     rw [e0,e1]
theorem zhv {D:Nat->Nat->Prop} {w:World} {x:Value} {e:En} (h:Dat D w x (ep e)):∃ ah ch,x=.agg #[.int .u64 e.rep,.int .u64 e.max,.slice ah e.holes.length ch]/\Dat D w (.slice ah e.holes.length ch) (rg e.holes):=by
 have h':Dat D w x (.agg [.v (.int .u64 e.rep),.v (.int .u64 e.max),rg e.holes]):=h
 cases h' with
 | agg vs cs hs _ h=>
   obtain⟨l⟩:=vs
   match l,hs with
   | [p,q,r],_=>
     have e0:=(h 0 _ rfl).v_inv
     have e1:=(h 1 _ rfl).v_inv
     have e2:=h 2 _ rfl
     simp at e0 e1 e2
     obtain⟨ah,ch,rfl⟩:=zK e2
     rw [e0,e1]
     exact⟨ah,ch,rfl,e2⟩
theorem Yk {D:Nat->Nat->Prop} {w:World} {x:Value} {e:En} {b:Bool} (h:Dat D w x (.tup [ep e,.v (.bool b)])):∃ ah ch,x=.tuple #[.agg #[.int .u64 e.rep,.int .u64 e.max,.slice ah e.holes.length ch],.bool b]/\Dat D w (.slice ah e.holes.length ch) (rg e.holes):=by
 cases h with
 | tup vs cs hs h=>
   obtain⟨l⟩:=vs
   match l,hs with
   | [p,q],_=>
     have e0:=h 0 _ rfl
     have e1:=(h 1 _ rfl).v_inv
     simp at e0 e1
     obtain⟨ah,ch,rfl,hd⟩:=zhv e0
     rw [e1]
     exact⟨ah,ch,rfl,hd⟩
theorem jP {f:FuncId} {ps:List PV} {r:PV} (h:Cn Tryz.prog f ps r) {D:Nat->Nat->Prop} {w:World} {vs:Array Value} (hG:GL D w) (hD:∀ b o,D b o->b<w.heap.size) (hsz:vs.size=ps.length) (hd:∀(i:Nat) p,ps[i]? = some p->Dat D w (vs.getD i undef) p) :
 Calls Tryz.prog f vs w fun e w'=>∃ v,e=.returned v/\Below w.heap.size w w'/\Dat (fun b o=>D b o\/(w.heap.size<=b/\b<w'.heap.size)) w' v r:=by
 refine(h.2 D w vs hG hD hsz hd).mono ?_
 rintro e w' ⟨v,D',rfl,hb,_,q2,q3,hd,_⟩
 exact⟨v,rfl,hb,hd.mono (fun b o h=>(q2 b o h).imp id fun h'=>⟨h',q3 b o h⟩) fun _ _ _ _ h=>h⟩
theorem OwnU.keep {base:Nat} {w w':World} {v:Value} {l:List Nat} (h:OwnU base w v l) (hb:∀ g,v.ownBlock=some g->w'.heap[g]? = w.heap[g]?):OwnU base w' v l:=by
 refine⟨h.1,?_⟩
 rcases h.2 with h | ⟨g,cap,cur,e,hg,hc,r⟩
 ·exact .inl h
 ·exact .inr ⟨g,cap,cur,e,hg,(hb g (by rw [e];rfl)).trans hc,r⟩
theorem OwnU.lt {base:Nat} {w:World} {v:Value} {l:List Nat} (h:OwnU base w v l):∀ g,v.ownBlock=some g->base<=g/\g<w.heap.size:=fun g hg=>World.ownsRow.lt h g hg
theorem KC (x:Nat):∀ {l:List Nat},YN l->∃ i,i<=l.length/\(∀ j,(h:j<l.length)->j<i->l[j]<x)/\(∀ j,(h:j<l.length)->i<=j->x<=l[j])
 | [],_=>⟨0,Nat.le_refl _,fun j h=>absurd h (by simp),fun j h=>absurd h (by simp)⟩
 | y::l,h=>by
   have ⟨h1,h2⟩:=List.pairwise_cons.1 h
   by_cases hy:y<x
   ·obtain⟨i,hi,q1,q2⟩:=KC x h2
    refine⟨i+1,by simp;omega,fun j hj hji=>?_,fun j hj hij=>?_⟩
    ·match j with
     | 0=>exact hy
     | j+1=>exact q1 j (by simpa using hj) (by omega)
    ·match j with
     | 0=>omega
     | j+1=>exact q2 j (by simpa using hj) (by omega)
   ·refine⟨0,Nat.zero_le _,fun j _ hj=>by omega,fun j hj _=>?_⟩
    match j with
    | 0=>simp;omega
    | j+1=>
      have hj':j<l.length:=by simpa using hj
      have:=h1 _ (List.getElem_mem hj')
      simp only [List.getElem_cons_succ]
      omega
theorem zmj {C:Nat->Nat->Prop} {base:Nat} {w:World} {v:Value} {l:List Nat} (x i:Nat) (hown:OwnU base w v l) (hC:∀ b o,C b o->b<w.heap.size) (hG:GL C w) (hi:i<=l.length) (h1:∀ j,(h:j<l.length)->j<i->l[j]<x) (h2:∀ j,(h:j<l.length)->i<=j->x<=l[j]) (hl:l.length<=1152921504606846976) :
 Calls Tryz.prog 192 #[v,.int .u64 (x:Nat)] w fun e w'=>(∃ b,e=.returned (.tuple #[.int .i64 (i:Nat),.bool b]))/\Below w.heap.size w w':=by
 refine(jP (zaI l x i hi h1 h2 hl) (D:=fun b o=>C b o\/(base<=b/\b<w.heap.size)) (hG.mono (fun _ _ h=>.inl h) fun _ _ _ _ h=>h) (fun b o h=>h.elim (hC b o) And.right) rfl (fun j p hp=>?_)).mono ?_
 ·match j,hp with
  | 0,hp=>cases hp;exact vL hown fun b o h1 h2=>.inr ⟨h1,h2⟩
  | 1,hp=>cases hp;exact .v _
  | j+2,hp=>simp at hp
 ·rintro e w' ⟨v,rfl,hb,hd⟩
  rw [XY hd]
  exact⟨⟨_,rfl⟩,hb⟩
theorem zaD {C:Nat->Nat->Prop} {base rb:Nat} {w:World} {v:Value} {xs:List Nat} (x:Nat) (hown:OwnU base w v (srt xs)) (hbx:Boxed w rb 198 v) (hrb:rb<base) (hnot:x ∉ xs) (hl:(srt xs).length<=4194304) (hbase:base<=w.heap.size) (hC:∀ b o,C b o->b<w.heap.size) (hG:GL C w) :
 Calls Tryz.prog 160 #[.pointer (some ⟨rb,0,none⟩),.int .u64 (x:Nat)] w fun e w'=>(∃ u,e=.returned u)/\∃ v',Boxed w' rb 198 v'/\OwnU base w' v' (srt (xs++[x]))/\Keep (fun k=>k=rb\/base<=k) w w':=by
 obtain⟨i,hi,q1,q2⟩:=KC x (yi xs)
 have HBS:=Lib.hid (zmj x i hown hC hG hi q1 q2 (by omega))
 have hins:srt (xs++[x])=(srt xs).take i++x::(srt xs).drop i:=kJ hi (fun k hk hik=>by
  have h1:=q2 k hk hik
  have h2:(srt xs)[k]≠x:=fun e=>hnot (qr.1 (e ▸ List.getElem_mem hk))
  omega) (by
  rcases Nat.eq_zero_or_pos i with h0 | h0
  ·exact .inl h0
  ·exact .inr ⟨by omega,q1 _ (by omega) (by omega)⟩)
 have HI:=Lib.hid hins
 have HO:=Lib.hid hown
 have HX:=Lib.hid hbx
 have c0:=hbx.cell
 have hrw:=hbx.lt
 clear hins hown hbx hC hG q1 q2 hnot
 have tokA:True:=trivial
 have tokB:True:=trivial
 go_enter Tryz.func160,Tryz.ntmps160
 go_wp2_with (first
  | (go_at_call 192;have _t:=tokA;refine HBS.out.mono ?_;rintro e w1 ⟨⟨bb,rfl⟩,hb1⟩
     have c1:w1.cell? ⟨rb,0,none⟩=some v:=(World.cell?_of_block (a:=⟨rb,0,none⟩) (hb1.block rb hrw)).trans c0
     have HB1:=Lib.hid hb1
     clear hb1 tokA)
  | (go_at_call 193;have _t:=tokB
     refine(Y9 base w1.heap.size _ _ v (srt xs) x i hi (HO.out.keep fun g hg=>by rw [Below.heap_alloc _ _ _ (Nat.lt_of_lt_of_le (HO.out.lt g hg).2 HB1.out.size),HB1.out.block g (HO.out.lt g hg).2]) (World.alloc_heap_new w1 _) (fun e=>by have h8:=(HO.out.lt _ e).2;have h9:=HB1.out.size;omega) (by omega) (by have:=HB1.out.size;simp;omega)).mono ?_
     rintro e w3 ⟨v',rfl,ho3,hg3,_⟩
     have hx3:Boxed w3 rb 198 v:=((show Boxed w1 rb _ v from (HB1.out.block rb hrw).trans HX.out).alloc _).kept hg3 (fun e=>by have:=(HO.out.lt rb e.symm).1;omega)
     have c3:=hx3.cell
     have f3:=hx3.frozen
     have HX3:=Lib.hid hx3
     have HK3:=Lib.hid ((((Keep.of_below' (S:=fun k=>k=rb\/base<=k) HB1.out (Nat.le_refl _)).alloc _).grown hg3 fun k hk _=>.inr (HO.out.lt k hk).1))
     rw [<-HI.out] at ho3
     obtain⟨g3,cap3,cur3,rfl,_⟩:=(show _\/_ from ho3.cases).resolve_left (fun h=>by have:=h.2;rw [HI.out] at this;simp at this)
     have HO3:=Lib.hid ho3
     clear hx3 hg3 ho3 tokB)
  | go_in)
 go_end0
 exact⟨⟨_,rfl⟩,_,HX3.out.set _,HO3.out.keep fun g hg=>Below.heap_setCell _ _ _ _ (by have:=(HO3.out.lt g hg).1;show g≠rb;omega),HK3.out.setCell (fun _=>.inl rfl) _⟩
theorem jL {n:Nat} {A B C:World} {S:Nat->Prop} (h:Below n A B) (hk:Keep S B C) (hs:∀ k,k<n->¬ S k) (hn:n<=A.heap.size):Below n A C:=
 ⟨hk.os.trans h.os,hk.tape.trans h.tape,hk.output.trans h.output,Nat.le_trans h.size hk.size,fun k hkn=>(hk.block k (by have:=h.size;omega) (hs k hkn)).trans (h.block k hkn)⟩
theorem yD {w w':World} {b r n YV:Nat} {D:DV} {left:Lit->Bool} (h:w.ranges Tryz.prog 24 rV b r n D left YV) (hb:w'.heap[b]? = w.heap[b]?) (hr:w'.heap[r]? = w.heap[r]?):w'.ranges Tryz.prog 24 rV b r n D left YV:=by
 obtain⟨es,clock,since,seen,c0,h1,F,hs,hD,h2,rest⟩:=h
 exact⟨es,clock,since,seen,c0,hb.trans h1,F,hs,hD,hr.trans h2,rest⟩
theorem zhV:∀(key:Value) (kl:Lit),keyOf Tryz.prog 24 key=some kl->∃ x:{r:Nat // r<M64},key=Value.int .u64 (x.1:Nat):=fun key kl h=>by
 obtain⟨x,rfl,_,hw⟩:=Maps.keyOf_int_inv Tryz.underlying24 h
 simp [Lit.wf,IntKind.min,IntKind.max,IntKind.signed,IntKind.bits] at hw
 refine⟨⟨x.toNat,by rw [zw];omega⟩,?_⟩
 rw [Int.toNat_of_nonneg (by omega)]
theorem QM {left:Lit->Bool} {r x:Nat}:(left (kR r) && !(kR r).sameKey (kR x))=false ↔ left (kR r)=false\/r=x:=by
 have h:(kR r).sameKey (kR x)=decide (r=x):=by
  simp [kR,Lit.sameKey]
  omega
 rw [h]
 cases left (kR r)<;>simp
theorem zeK:∀(r xs:List Nat),YN r->(∀ y ∈ r,y ∈ xs)->r.length<=xs.length:=by
 intro r
 induction r with
 | nil=>intro xs _ _;exact Nat.zero_le _
 | cons x r ih=>
   intro xs h hm
   have h':=List.pairwise_cons.1 h
   have:=ih (xs.erase x) h'.2 fun y hy=>by
    have h3:=h'.1 y hy
    exact(List.mem_erase_of_ne (by omega)).2 (hm y (by simp [hy]))
   have hx:x ∈ xs:=hm x (by simp)
   rw [List.length_erase_of_mem hx] at this
   have:=List.length_pos_of_mem hx
   simp;omega
theorem zkr (a1 a2:Option Addr) (n1 n2 c1 c2:Nat) (w:World):(Instr.index 200 (.agg #[.slice a1 n1 c1,.slice a2 n2 c2]) (.int .i64 0)).run Tryz.prog w=.ok (.slice a1 n1 c1) w:=by kernel_rfl
theorem zks (a1 a2:Option Addr) (n1 n2 c1 c2:Nat) (w:World):(Instr.index 200 (.agg #[.slice a1 n1 c1,.slice a2 n2 c2]) (.int .i64 1)).run Tryz.prog w=.ok (.slice a2 n2 c2) w:=by kernel_rfl
theorem zkk:(Tryz.prog.info? 38).map (fun i=>(i.zero,i.size,i.bytes))=some (some (.agg #[.int .u64 0,.int .u64 0,.slice none 0 0]),3,40):=by kernel_rfl
theorem OwnU.shape {base:Nat} {w:World} {v:Value} {l:List Nat} (h:OwnU base w v l):∃ ad cap,v=.slice ad l.length cap/\l.length<=cap/\cap<=maxLen/\(l≠[]->∃ g,ad=some ⟨g,0,none⟩/\g<w.heap.size/\∀ j (hj:j<l.length),w.cell? ⟨g,j,none⟩=some (.int .u64 (l[j]:Nat))):=by
 rcases h.cases with⟨rfl,rfl⟩ | ⟨g,cap,cur,rfl,h1,h2,h3,h4,h5,h6,h7⟩
 ·exact⟨none,0,rfl,Nat.le_refl _,Nat.zero_le _,fun h=>absurd rfl h⟩
 ·refine⟨_,cap,rfl,h4,h5,fun _=>⟨g,rfl,h2,fun j hj=>?_⟩⟩
  have:=World.ownsRow.cells h (g:=g) rfl j (uV l[j]) (by rw [List.getElem?_map,List.getElem?_eq_getElem hj];rfl)
  rw [zh,Nat.zero_add] at this
  exact this
theorem zac {f:Bool->Bool->Bool} {a b:List En} {r:Nat} {e:En} {ok:Bool} (h:Qi r (qy f (zT a r) (zT b r))=(e,ok)):vE f a b r=if ok=true then some e else none:=by
 unfold vE Xd
 rw [h]
theorem KZ {f:Bool->Bool->Bool} {a b:List En} {L:List Nat} {k:Nat} (hk:k<L.length):(L.take (k+1)).filterMap (vE f a b)=(L.take k).filterMap (vE f a b)++(vE f a b L[k]).toList:=by
 rw [List.take_succ_eq_append_getElem hk,List.filterMap_append,List.filterMap_cons,List.filterMap_nil]
 cases vE f a b L[k]<;>rfl
theorem Ja {P:Program} {f:FuncId} {t:Tmp} {xs:List Operand} {c:Call} {o:Oper} {a:Act} {w:World} {K:Act->World->Prop} {Q:Exit->Act->World->Prop} (ho:o.op=.call c) (hc:c.callee=.value (.tmp t)) (hv:a.eval (.tmp t)=.func (.func f) #[] #[]) (ha:c.args.toList=xs)
 (he:∀ args w,(callFunc f args).run P w=.ok (.enter f args) w)
 (h:Calls P f (xs.map a.eval).toArray w fun e w''=>match e with | .returned v=>K (a.put o.dst v) w'' | .panicked chain=>Q (.panic chain) a w'' | .outgrown=>LetsOut Q):o.wp P a w K Q:=by
 have hr:(execOp a.eval o).run P w=.ok (.enter f (xs.map a.eval).toArray) w:=by
  have e:c.args.map a.eval=(xs.map a.eval).toArray:=Array.toList_inj.1 (by rw [Array.toList_map,ha])
  simp only [execOp,ho,resolve,hc,e,hv,Deferred.ofValue,Sem.run_bind,Sem.run_pure,Result.andThen_ok,invoke]
  rw [show (#[]++(xs.map a.eval).toArray++#[]:Array Value)=(xs.map a.eval).toArray from by simp]
  exact he _ _
 unfold Oper.wp
 rw [hr,Oper.upon_enter]
 exact h.mono (fun e w' h=>by cases e<;>exact h)
theorem Zi {P:Program} {w:World} {o:Oper} {a:Act} {K:Act->World->Prop} {Q:Exit->Act->World->Prop} (s x:Operand) (t:TypeId)
 (ho:o.op=.call { callee:=.builtin .append,args:=#[s,x],argTypes:=#[t,t] })
 (base:Nat) (e:TypeId) (i:TypeInfo) (z:Value) (size bytes:Nat) (ht:P.underlying t=some (.slice e)) (hi:P.info? e=some i) (hz:i.zero=some z)
 (hsize:i.size=size) (hby:i.bytes=bytes) (hzs:z.cells.size=size) (hsz:0<size)
 (v:Value) (n:Nat) (xs:List Value) (hs:a.eval s=v) (hown:w.ownsRow base e size v n xs)
 (ad:Addr) (m c:Nat) (news:List Value) (hx:a.eval x=.slice (some ad) m c) (hl:news.length=m * size) (hnews:∀ j u,news[j]? = some u->w.cell? (ad.add j)=some u) (h1:∀ u ∈ news,u.oneCell'=true)
 (h63:n+m<=maxLen) (hbytes:(n+m) * bytes<=140737488355328) (hbase:base<=w.heap.size)
 (h:∀ v' w',w'.ownsRow base e size v' (n+m) (xs++news)->w.grownBy w' v.ownBlock->(v'=.slice none 0 0 ↔ v=.slice none 0 0/\m=0)->(v'.ownBlock=v.ownBlock\/v'.ownBlock=some w.heap.size)->K (a.put o.dst v') w') :
 o.wp P a w K Q:=by
 obtain⟨v',w',hr,h2,h3,h4,h5⟩:=run_append_own_at (P:=P) w base t o.type e i z size bytes ht hi hz hsize hby hzs hsz v n xs hown ad m c news hl hnews h1 h63 hbytes hbase
 unfold Oper.wp execOp
 simp only [ho,resolve,invoke,builtin,Sem.run_bind,Sem.run_pure,Result.andThen_ok,List.map_toArray,List.map_cons,List.map_nil,hs,hx,hr]
 exact h v' w' h2 h3 h4 h5
theorem zcD (C:Nat->Nat->Prop) (a b:List En) (va vb:Value) (w:World) (f:Bool->Bool->Bool) (op:FuncId) (hop:∀ r,Cn Tryz.prog op [rg (zT a r),rg (zT b r)] (rg (qy f (zT a r) (zT b r))))
 (ha:SmV a) (hb:SmV b) (ra:RdF C w.heap.size w va a) (rb:RdF C w.heap.size w vb b) (hC:∀ b o,C b o->b<w.heap.size) (hG:GL C w) :
 Calls Tryz.prog 112 #[va,vb,.func (.func op) #[] #[]] w fun e w'=>∃ v,e=.returned v/\Below w.heap.size w w'/\Dat (DL C w.heap.size w') w' v (vp (ks f a b)):=by
 have HP0:=Lib.hid (J4 C a b va vb w ha hb ra rb hC hG)
 have HGL:=Lib.hid hG
 have hent:=(hop 0).1
 have HOP:=Lib.hid hop
 have HM:=Lib.hid (Xr ha.1 hb.1)
 obtain⟨dom,hdom⟩:∃ dom,dom=zM a++zM b:=⟨_,rfl⟩
 have hdl:dom.length<=2097152:=by have h1:=ha.2.1;have h2:=hb.2.1;rw [hdom];simp [zM];omega
 have hlat:ks f a b=(srt dom).filterMap (vE f a b):=by rw [hdom];rfl
 rw [<-hdom] at HM
 have HLat:=Lib.hid hlat
 have HDom:=Lib.hid hdom
 clear hG ra rb hop hlat
 have tokA:True:=trivial
 have tokB:True:=trivial
 go_enter Tryz.func112,Tryz.ntmps112
 go_wp2_with (first
  | (go_at_call 159;have _t:=tokA;refine HP0.out.mono ?_;rintro e w1 ⟨rfl,hb1,D,hown,hpd⟩
     rw [<-hdom] at hpd
     have hmb:w.heap.size<w1.heap.size:=hown.lt
     have HO1:=Lib.hid hown
     have HP1:=Lib.hid hpd
     have HB1:=Lib.hid hb1
     clear hown hpd hb1 tokA)
  | (at_range;have _t:=tokB;refine wpList_range_own _ rfl _ 195 rfl 24 200 vF Tryz.underlying195 rV w.heap.size (a.length+b.length) D rfl (HO1.out.alloc _) ?_;intro w2 hrg2 hg2 hs2;clear tokB)
  | go_in)
 go_frame
 simp only [World.size_alloc] at hrg2 hs2 ⊢
 clear hdom
 have HG2:=Lib.hid hg2
 have hbx2:Boxed w2 w1.heap.size 198 (.slice none 0 0):=(Boxed.new w1 _ _).kept hg2 (by simp)
 have HK2:Hid (∀ k,k<w1.heap.size->w2.heap[k]? = w1.heap[k]?):=Lib.hid fun k hk=>(hg2.block k (by simp;omega) (by simp)).trans (Below.heap_alloc _ _ _ hk)
 have HB2:=Lib.hid (jL HB1.out (S:=fun _=>False) ⟨hg2.os,hg2.tape,hg2.output,Nat.le_trans (by simp) hg2.size,fun k hk _=>HK2.out k hk⟩ (fun _ _ h=>h) (Nat.le_refl _))
 clear hg2
 go_loopg [9] (Maps.size D) (fun g x wr=>∃ left xs v,wr.ranges Tryz.prog 24 rV w.heap.size (w1.heap.size+1) (a.length+b.length) D left g/\(∀ r,r ∈ xs ↔ r ∈ dom/\left (kR r)=false)/\(∀ r,left (kR r)=true->r ∈ dom) /\
  OwnU (w1.heap.size+2) wr v (srt xs)/\Boxed wr w1.heap.size 198 v/\Keep (fun k=>w1.heap.size<=k) w2 wr)
 case atStart=>
  have hpd:=HP1.out
  refine⟨Maps.has D,[],.slice none 0 0,hrg2,fun r=>?_,fun r h=>?_,?_,hbx2,Keep.refl _ _⟩
  ·rw [(hpd.2 r).1];simp
  ·rw [(hpd.2 r).1] at h;simpa using h
  ·rw [XB];exact World.ownsRow_nil _ _ _ _
 case round=>
  obtain⟨left,xs,v,hrg,hxs,hlf,hown,hbx,hK⟩:=hrel
  obtain⟨wl,hwl⟩:∃ x,x=wr:=⟨_,rfl⟩
  subst hwl
  have HRG:=Lib.hid hrg
  have HXS:=Lib.hid hxs
  have HLF:=Lib.hid hlf
  have HOW:=Lib.hid hown
  have HBX:=Lib.hid hbx
  have HKL:=Lib.hid hK
  have hsl:(srt xs).length<=2097152:=Nat.le_trans (zeK _ dom (yi xs) fun y hy=>((hxs y).1 (qr.1 hy)).1) hdl
  have hw2l:w2.heap.size<=wl.heap.size:=hK.size
  have HKW:Hid (∀ k,k<w1.heap.size->wl.heap[k]? = w1.heap[k]?):=Lib.hid fun k hk=>(hK.block k (by omega) (by omega)).trans (HK2.out k hk)
  have HBL:=Lib.hid (jL HB2.out hK (fun k hk=>by omega) (Nat.le_refl _))
  have HGW:Hid (GL C wl):=Lib.hid (HGL.out.mono (fun _ _ h=>h) fun j o x hj hx=>(World.cell?_of_block (a:=⟨j,o,none⟩) (HBL.out.block j (hC j o hj))).trans hx)
  clear hrg2 hbx2 hrg hxs hlf hown hbx hK
  go_wp2_with (first
   | (at_next;refine wpList_next_ranges _ rfl _ rfl 24 vF rV (fun r:{r:Nat // r<M64}=>Value.int .u64 (r.1:Nat)) (fun c:Value=>c) zhV (fun v y _=>⟨v,rfl⟩) w.heap.size (w1.heap.size+1) (a.length+b.length) D left gk rfl HRG.out ?_ ?_)
   | go_in)
  ·intro hc0 hl0
   have hL:srt xs=srt dom:=XA (yi dom) fun y=>by rw [qr,HXS.out y,hl0];simp
   have HOW2:=HOW.out
   rw [hL] at HOW2 hsl
   have c0:=HBX.out.cell
   have hown:=HRG.out.owns
   have HO:=Lib.hid hown
   clear hown hl0 hL HOW HXS HLF
   obtain⟨L,hLL⟩:∃ L,L=srt dom:=⟨_,rfl⟩
   rw [<-hLL] at HOW2 hsl
   obtain⟨ad,cap,rfl,hcap,hcm,hcl⟩:=HOW2.shape
   unfold maxLen at hcm
   have HCL:=Lib.hid hcl
   have HLL:=Lib.hid hLL
   clear hcl hLL HOW2
   go_wp2_with fail
   go_loopg [10,29] L.length (fun g y x wr=>∃ k,k<=L.length/\g=L.length - k/\x=.int .i64 k/\OutE C w.heap.size wl.heap.size wr y ((L.take k).filterMap (vE f a b))/\Keep (fun k=>wl.heap.size<=k) wl wr)
   case atStart=>exact⟨0,Nat.zero_le _,rfl,rfl,OutE.start _ _ _ _,Keep.refl _ _⟩
   case round=>
    obtain⟨k,hk,rfl,rfl,hout,hKr⟩:=hrel
    have HKR:=Lib.hid hKr
    have HOUT:=Lib.hid hout
    clear hKr hout
    have hwrl:=HKR.out.size
    have HRW:Hid (∀ j,j<wl.heap.size->wr.heap[j]? = wl.heap[j]?):=Lib.hid fun j hj=>HKR.out.block j hj (by omega)
    have HBR:=Lib.hid (jL HBL.out HKR.out (fun k hk=>by omega) (Nat.le_refl _))
    by_cases hlt:k<L.length
    ·obtain⟨g,had,hgl,hcells⟩:=HCL.out (fun e=>by rw [e] at hlt;simp at hlt)
     subst had
     obtain⟨r,hr⟩:∃ r,r=L[k]:=⟨_,rfl⟩
     have hrm:r<M64:=HM.out r (by rw [hr,<-HLL.out];exact List.getElem_mem hlt)
     have ck:wr.cell? ⟨g,k,none⟩=some (.int .u64 (r:Nat)):=by rw [hr];exact(World.cell?_of_block (a:=⟨g,k,none⟩) (HRW.out g hgl)).trans (hcells k hlt)
     obtain⟨s0,s1,hat,hd0,hd1⟩:=(HP1.out.2 r).2
     obtain⟨a0,n0,rfl⟩:=zK hd0
     obtain⟨a1,n1,rfl⟩:=zK hd1
     have hlk:=Qf (yg HO.out (HRW.out _ (by omega))) hrm hat
     have hmw:∀ j o x,DL C w.heap.size w1 j o->w1.cell? ⟨j,o,none⟩=some x->wr.cell? ⟨j,o,none⟩=some x:=fun j o x hj hx=>by
      have hj1:=World.block_lt_of_cell? w1 ⟨j,o,none⟩ hx
      exact(World.cell?_of_block (a:=⟨j,o,none⟩) ((HRW.out j (Nat.lt_of_lt_of_le hj1 (by omega))).trans (HKW.out j hj1))).trans hx
     have hdx:∀ j o,DL C w.heap.size w1 j o->DX C w.heap.size wr u10 j o:=fun j o hj=>⟨hj.imp id fun h=>⟨h.1,by omega⟩,fun e=>by
      have h5:=(HOUT.out.owns j e).1
      rcases hj with hj | hj
      ·have:=hC j o hj;omega
      ·omega⟩
     have hDXb:∀ j o,DX C w.heap.size wr u10 j o->j<wr.heap.size:=fun j o h=>h.1.elim (fun h=>by have:=hC j o h;omega) And.right
     have hGX:GL (DX C w.heap.size wr u10) wr:=HGW.out.mono (fun j o h=>⟨.inl h,fun e=>by have h5:=(HOUT.out.owns j e).1;have:=hC j o h;omega⟩) fun j o x hj hx=>(World.cell?_of_block (a:=⟨j,o,none⟩) (HRW.out j (by have:=hC j o hj;omega))).trans hx
     have HXB:=Lib.hid hDXb
     have HGX:=Lib.hid hGX
     have HOPC:=Lib.hid (jP (HOP.out r) hGX hDXb (vs:=#[.slice a0 (zT a r).length n0,.slice a1 (zT b r).length n1]) rfl (fun i p hp=>by
      match i,hp with
      | 0,hp=>cases hp;exact hd0.mono hdx hmw
      | 1,hp=>cases hp;exact hd1.mono hdx hmw
      | i+2,hp=>simp at hp))
     have hnr:Nrm (qy f (zT a r) (zT b r)):=qH (qi ha.1 r) (qi hb.1 r)
     have hol:(qy f (zT a r) (zT b r)).length<=80100:=by
      have h1:=xR f (zT a r) (zT b r)
      have h2:=ji (n:=1048576) (h:=10000) ha r
      have h3:=ji (n:=1048576) (h:=10000) hb r
      omega
     have hof:=zjT r (qy f (zT a r) (zT b r)) hnr (by omega)
     obtain⟨e,ok,hE⟩:∃ e ok,Qi r (qy f (zT a r) (zT b r))=(e,ok):=⟨_,_,rfl⟩
     rw [hE] at hof
     have HOF:=Lib.hid hof
     have hlo:=zac (f:=f) (a:=a) (b:=b) hE
     have hst:=KZ (f:=f) (a:=a) (b:=b) hlt
     rw [<-hr,hlo] at hst
     have HST:=Lib.hid hst
     have hhl:e.holes.length<=1000000:=by
      have:=J0 r (qy f (zT a r) (zT b r))
      rw [hE] at this
      simp only at this
      omega
     have hn0:(zT a r).length<=maxLen:=by have:=ji (n:=1048576) (h:=10000) ha r;unfold maxLen;omega
     have hn1:(zT b r).length<=maxLen:=by have:=ji (n:=1048576) (h:=10000) hb r;unfold maxLen;omega
     unfold maxLen at hn0 hn1
     have i0:=zkr a0 a1 (zT a r).length (zT b r).length n0 n1
     have i1:=zks a0 a1 (zT a r).length (zT b r).length n0 n1
     obtain⟨ls,hls⟩:∃ ls,ls=qy f (zT a r) (zT b r):=⟨_,rfl⟩
     rw [<-hls] at HOF HOPC hol
     clear hof hE hlo hst hat hd0 hd1 hmw hdx hcells hDXb hGX hnr hr hls
     have tokD:True:=trivial
     have tokE:True:=trivial
     have tokF:True:=trivial
     cases ok with
     | false=>
       go_wp2_with fail
       refine Ja (t:=35) (f:=op) (xs:=[.tmp 39,.tmp 43]) rfl rfl rfl rfl hent ?_
       refine HOPC.out.mono ?_
       rintro e' w3 ⟨v3,rfl,hb3,hd3⟩
       obtain⟨a3,n3,rfl⟩:=zK hd3
       have HB3:=Lib.hid hb3
       have HD3:=Lib.hid hd3
       clear hb3 hd3
       dsimp only
       go_wp2_with fail
       refine(jP HOF.out (D:=fun j o=>DX C w.heap.size wr u10 j o\/(wr.heap.size<=j/\j<w3.heap.size)) (HGX.out.mono (fun _ _ h=>.inl h) fun j o x hj hx=>(World.cell?_of_block (a:=⟨j,o,none⟩) (HB3.out.block j (HXB.out j o hj))).trans hx) (fun j o h=>h.elim (fun h=>Nat.lt_of_lt_of_le (HXB.out j o h) HB3.out.size) And.right) rfl (fun i p hp=>?_)).mono ?_
       ·match i,hp with
        | 0,hp=>cases hp;exact .v _
        | 1,hp=>cases hp;exact HD3.out
        | i+2,hp=>simp at hp
       rintro e' w4 ⟨v4,rfl,hb4,hd4⟩
       obtain⟨a4,n4,rfl,hd4'⟩:=Yk hd4
       have HB4:=Lib.hid hb4
       have HD4:=Lib.hid hd4'
       clear hb4 hd4 hd4'
       dsimp only
       go_wp2_with fail
       go_roundg (L.length - (k+1))
       case measure=>omega
       case rel=>
        have h34:=HB3.out.size
        have h44:=HB4.out.size
        refine⟨k+1,hlt,rfl,by simp,?_,HKR.out.trans (((Keep.of_below' HB3.out (Nat.le_refl _)).trans (Keep.of_below' HB4.out (Nat.le_refl _))).alloc _)⟩
        rw [HST.out]
        simp only [Bool.false_eq_true,if_false,Option.toList_none,List.append_nil]
        exact HOUT.out.keep (by simp;omega) fun j hj=>by rw [Below.heap_alloc _ _ _ (by omega),HB4.out.block j (by omega),HB3.out.block j hj]
     | true=>
       go_wp2_with fail
       refine Ja (t:=35) (f:=op) (xs:=[.tmp 39,.tmp 43]) rfl rfl rfl rfl hent ?_
       refine HOPC.out.mono ?_
       rintro e' w3 ⟨v3,rfl,hb3,hd3⟩
       obtain⟨a3,n3,rfl⟩:=zK hd3
       have HB3:=Lib.hid hb3
       have HD3:=Lib.hid hd3
       clear hb3 hd3
       dsimp only
       go_wp2_with fail
       refine(jP HOF.out (D:=fun j o=>DX C w.heap.size wr u10 j o\/(wr.heap.size<=j/\j<w3.heap.size)) (HGX.out.mono (fun _ _ h=>.inl h) fun j o x hj hx=>(World.cell?_of_block (a:=⟨j,o,none⟩) (HB3.out.block j (HXB.out j o hj))).trans hx) (fun j o h=>h.elim (fun h=>Nat.lt_of_lt_of_le (HXB.out j o h) HB3.out.size) And.right) rfl (fun i p hp=>?_)).mono ?_
       ·match i,hp with
        | 0,hp=>cases hp;exact .v _
        | 1,hp=>cases hp;exact HD3.out
        | i+2,hp=>simp at hp
       rintro e' w4 ⟨v4,rfl,hb4,hd4⟩
       obtain⟨a4,n4,rfl,hd4'⟩:=Yk hd4
       have HB4:=Lib.hid hb4
       have HD4:=Lib.hid hd4'
       clear hb4 hd4 hd4'
       dsimp only
       go_wp2_with fail
       have hz5:((w4.alloc (.cells #[.int .u64 e.rep,.int .u64 e.max,.slice a4 e.holes.length n4] 38)).alloc (.cells #[.int .u64 e.rep,.int .u64 e.max,.slice a4 e.holes.length n4] 38)).heap.size=w4.heap.size+2:=by simp
       have h34:=HB3.out.size
       have h44:=HB4.out.size
       have hb5:∀ j,j<wr.heap.size->((w4.alloc (.cells #[.int .u64 e.rep,.int .u64 e.max,.slice a4 e.holes.length n4] 38)).alloc (.cells #[.int .u64 e.rep,.int .u64 e.max,.slice a4 e.holes.length n4] 38)).heap[j]? = wr.heap[j]?:=fun j hj=>by
        rw [Below.heap_alloc _ _ _ (by simp;omega),Below.heap_alloc _ _ _ (by omega),HB4.out.block j (by omega),HB3.out.block j hj]
       obtain⟨xs5,h15,h25⟩:=HOUT.out.keep (by omega) hb5
       have hnb:((w4.alloc (.cells #[.int .u64 e.rep,.int .u64 e.max,.slice a4 e.holes.length n4] 38)).alloc (.cells #[.int .u64 e.rep,.int .u64 e.max,.slice a4 e.holes.length n4] 38)).heap[w4.heap.size+1]? = some (.cells #[.int .u64 e.rep,.int .u64 e.max,.slice a4 e.holes.length n4] 38 (0,0)):=by
        have:=World.alloc_heap_new (w4.alloc (.cells #[.int .u64 e.rep,.int .u64 e.max,.slice a4 e.holes.length n4] 38)) (.cells #[.int .u64 e.rep,.int .u64 e.max,.slice a4 e.holes.length n4] 38)
        rwa [World.size_alloc] at this
       have hd5:Dat (DX C w.heap.size ((w4.alloc (.cells #[.int .u64 e.rep,.int .u64 e.max,.slice a4 e.holes.length n4] 38)).alloc (.cells #[.int .u64 e.rep,.int .u64 e.max,.slice a4 e.holes.length n4] 38)) u10) ((w4.alloc (.cells #[.int .u64 e.rep,.int .u64 e.max,.slice a4 e.holes.length n4] 38)).alloc (.cells #[.int .u64 e.rep,.int .u64 e.max,.slice a4 e.holes.length n4] 38)) (.slice a4 e.holes.length n4) (rg e.holes):=by
        refine HD4.out.mono (fun j o h=>?_) fun j o x h hx=>?_
        ·have key:wr.heap.size<=j->j<w4.heap.size->DX C w.heap.size ((w4.alloc (.cells #[.int .u64 e.rep,.int .u64 e.max,.slice a4 e.holes.length n4] 38)).alloc (.cells #[.int .u64 e.rep,.int .u64 e.max,.slice a4 e.holes.length n4] 38)) u10 j o:=fun h1 h2=>⟨.inr ⟨by omega,by omega⟩,fun h=>by have:=(HOUT.out.owns j h).2;omega⟩
         rcases h with(h | h) | h
         ·exact⟨h.1.imp id fun h=>⟨h.1,by omega⟩,h.2⟩
         ·exact key h.1 (by omega)
         ·exact key (by omega) h.2
        ·have hj4:=World.block_lt_of_cell? w4 ⟨j,o,none⟩ hx
         exact(World.cell?_of_block (a:=⟨j,o,none⟩) (by rw [Below.heap_alloc _ _ _ (by simp;exact Nat.lt_succ_of_lt hj4),Below.heap_alloc _ _ _ hj4])).trans hx
       have hel:((L.take k).filterMap (vE f a b)).length<=k:=Nat.le_trans (List.length_filterMap_le _ _) (by simp;omega)
       obtain⟨ie,hie,hze,hse,hbe⟩:=info_parts zkk
       refine Zi _ _ 32 rfl wl.heap.size 38 ie _ 3 40 Tryz.underlying32 hie hze hse hbe rfl (by decide) _ _ xs5 rfl h15 ⟨w4.heap.size+1,0,none⟩ 1 1 [.int .u64 e.rep,.int .u64 e.max,.slice a4 e.holes.length n4] rfl rfl (fun j u hj=>by
        rw [zh,Nat.zero_add]
        exact(zW hnb j u (by simpa using hj)).1) (fun u hu=>by simp at hu;rcases hu with rfl | rfl | rfl<;>rfl) (by unfold maxLen;omega) (by omega) (by omega) ?_
       intro v6 w6 ho6 hg6 _ hbl6
       have HP6:=Lib.hid (OutE.push (mb:=w.heap.size) h25 h15 hd5 hC (by omega) ho6 hg6 hbl6)
       have HG6:=Lib.hid hg6
       have HB5:=Lib.hid hb5
       have HZ5:=Lib.hid hz5
       have HOB:=Lib.hid (fun j (h:u10.ownBlock=some j)=>(HOUT.out.owns j h).1)
       clear ho6 hg6 hbl6 h15 h25 hd5 hnb hb5 hz5
       go_wp2_with fail
       go_roundg (L.length - (k+1))
       case measure=>omega
       case rel=>
        refine⟨k+1,hlt,rfl,by simp,?_,HKR.out.trans ((((((Keep.of_below' HB3.out (Nat.le_refl _)).trans (Keep.of_below' HB4.out (Nat.le_refl _))).alloc _).alloc _).grown HG6.out fun j hj _=>HOB.out j hj))⟩
        rw [HST.out]
        simp only [if_true,Option.toList_some]
        exact HP6.out
    ·obtain rfl:k=L.length:=by omega
     go_wp2_with fail
     refine bodyPost_ret (results_tmp rfl _ _ _) rfl ?_
     have h:=HOUT.out.dat (by omega)
     rw [List.take_length,HLL.out,<-HLat.out] at h
     exact⟨_,rfl,HBR.out,h⟩
  ·intro x hx c kl y ys w3 cnt3 hkey hlk hv hat hrg3 hlt hg3 hs3 hen
   try dsimp only at hkey hen ⊢
   obtain rfl:kl=kR x:=by
    have:=(Zq hx).symm.trans hkey
    simpa using this.symm
   have HRG3:=Lib.hid hrg3
   have HK3:=Lib.hid ((HKL.out.grown hg3 (fun k hk _=>by cases hk;omega)))
   have hb3:∀ k,k≠w1.heap.size+1->k<wl.heap.size->w3.heap[k]? = wl.heap[k]?:=fun k hk hkl=>hg3.block k hkl (fun e=>hk (by cases e;rfl))
   have HB3:=Lib.hid hb3
   have hblt:=HBX.out.lt
   have HAD:=Lib.hid (zaD (C:=C) (base:=w1.heap.size+2) (rb:=w1.heap.size) (w:=w3) (v:=v) (xs:=xs) x (HOW.out.keep fun g hg=>hb3 g (by have:=(HOW.out.lt g hg).1;omega) (HOW.out.lt g hg).2) ((hb3 _ (by omega) hblt).trans HBX.out) (by omega) (fun h=>by have:=((HXS.out x).1 h).2;rw [hlk] at this;cases this) (by omega) (by omega)
    (fun b o h=>by have:=hC b o h;omega) (HGW.out.mono (fun _ _ h=>h) fun j o y hj hy=>(World.cell?_of_block (a:=⟨j,o,none⟩) (hb3 j (by have:=hC j o hj;omega) (by have:=hC j o hj;omega))).trans hy))
   clear hkey hv hat hrg3 hg3 hb3
   have tokC:True:=trivial
   go_wp2_with (first
    | (go_at_call 160;have _t:=tokC;refine HAD.out.mono ?_;rintro e w4 ⟨⟨u,rfl⟩,v',hbx4,ho4,hk4⟩;have HBX4:=Lib.hid hbx4;have HO4:=Lib.hid ho4;have HK4:=Lib.hid hk4;clear hbx4 ho4 hk4 tokC)
    | go_in)
   go_roundg cnt3
   case measure=>exact hlt
   case rel=>
    have hm:∀ k,k<w3.heap.size->k≠w1.heap.size->k<w1.heap.size+2->w4.heap[k]? = w3.heap[k]?:=fun k hk h1 h2=>HK4.out.block k hk (by omega)
    refine⟨_,xs++[x],v',yD HRG3.out (hm _ (by omega) (by omega) (by omega)) (hm _ (by omega) (by omega) (by omega)),fun r=>?_,fun r h=>?_,HO4.out,HBX4.out,HK3.out.trans (HK4.out.mono fun k _ h=>by omega)⟩
    ·rw [QM,List.mem_append,HXS.out r,List.mem_singleton]
     constructor
     ·rintro(⟨h1,h2⟩ | rfl)
      ·exact⟨h1,.inl h2⟩
      ·exact⟨HLF.out _ hlk,.inr rfl⟩
     ·rintro⟨h1,h2 | h2⟩
      ·exact .inl ⟨h1,h2⟩
      ·exact .inr h2
    ·exact HLF.out r (by cases h0:left (kR r) with | true=>rfl | false=>rw [h0] at h;simp at h)
theorem yZ {f:FuncId} {ps:List PV} {r:PV} (hr:r.own=none) (hent:∀ args w,(callFunc f args).run Tryz.prog w=.ok (.enter f args) w)
 (h:∀(D:Nat->Nat->Prop) (w:World) (vs:Array Value),GL D w->(∀ b o,D b o->b<w.heap.size)->vs.size=ps.length->(∀(i:Nat) p,ps[i]? = some p->Dat D w (vs.getD i undef) p) ->
   Calls Tryz.prog f vs w fun e w'=>∃ v,e=.returned v/\Below w.heap.size w w'/\Dat (fun b o=>D b o\/(w.heap.size<=b/\b<w'.heap.size)) w' v r):Cn Tryz.prog f ps r:=by
 refine⟨hent,fun D w vs hG hD hsz hd=>(h D w vs hG hD hsz hd).mono ?_⟩
 rintro e w' ⟨v,rfl,hb,hv⟩
 exact⟨v,_,rfl,hb,fun b o h=>.inl h,fun b o h=>h.imp id And.left,fun b o h=>h.elim (fun h=>Nat.lt_of_lt_of_le (hD b o h) hb.size) And.right,hv,zr hr⟩
theorem zjx {vs:Array Value} (h:vs.size=3):vs=#[vs.getD 0 undef,vs.getD 1 undef,vs.getD 2 undef]:=by
 obtain⟨l⟩:=vs
 match l,h with
 | [x,y,z],_=>rfl
theorem zcA {D:Nat->Nat->Prop} {w:World} {x:Value} {f:Fn} (h:Dat D w x (.fn f [] [])):x=.func f #[] #[]:=by
 cases h with
 | fn f va vb fs cs h1 h2 _ _=>
   rw [Array.size_eq_zero_iff.1 h1,Array.size_eq_zero_iff.1 h2]
theorem SmV.bd {v:List En} (h:SmV v):∀ e ∈ v,ZL e:=fun e he=>Jg (h.1.1 e he)
theorem zde (a b:List En) (f:Bool->Bool->Bool) (op:FuncId) (hop:∀ r,Cn Tryz.prog op [rg (zT a r),rg (zT b r)] (rg (qy f (zT a r) (zT b r)))) (ha:SmV a) (hb:SmV b) :
 Cn Tryz.prog 112 [vp a,vp b,.fn (.func op) [] []] (vp (ks f a b)):=by
 refine yZ rfl (enters_of Tryz.func112 (by kernel_rfl) rfl) fun D w vs hG hD hsz hd=>?_
 rw [zjx hsz,zcA (hd 2 _ rfl)]
 refine(zcD D a b _ _ w f op hop ha hb (KO (hd 0 _ rfl) hD ha.bd) (KO (hd 1 _ rfl) hD hb.bd) hD hG).mono ?_
 rintro e w' ⟨v,rfl,hbl,hd⟩
 exact⟨v,rfl,hbl,hd.mono (fun b o h=>h.imp id fun h=>⟨by omega,h.2⟩) fun _ _ _ _ h=>h⟩
theorem qS {v:List En} (h:SmV v) (r:Nat):Nrm (zT v r)/\(zT v r).length<=20003:=⟨qi h.1 r,ji (n:=1048576) (h:=10000) h r⟩
theorem zdc (a b:List En) (ha:SmV a) (hb:SmV b):Cn Tryz.prog 65 [vp a,vp b] (vp (ks zn a b)):=by
 have h:=zde a b zn 69 (fun r=>zaz _ _ (qS ha r).1 (qS hb r).1 (by have:=(qS ha r).2;have:=(qS hb r).2;omega)) ha hb
 refine zt Tryz.func65 2 ?_
 refine pw ?_
 (first | exact .d (h) | exact .q (h))
theorem zfC (a b:List En) (ha:SmV a) (hb:SmV b):Cn Tryz.prog 73 [vp a,vp b] (vp (ks y5 a b)):=by
 have h:=zde a b y5 80 (fun r=>zif _ _ (qS ha r).1 (qS hb r).1 (by have:=(qS ha r).2;have:=(qS hb r).2;omega)) ha hb
 refine zt Tryz.func73 2 ?_
 refine pw ?_
 (first | exact .d (h) | exact .q (h))
theorem zdb (a b:List En) (ha:SmV a) (hb:SmV b):Cn Tryz.prog 82 [vp a,vp b] (vp (ks zm a b)):=by
 have h:=zde a b zm 124 (fun r=>zfN _ _ (qS ha r).1 (qS hb r).1 (by have:=(qS ha r).2;have:=(qS hb r).2;omega)) ha hb
 refine zt Tryz.func82 2 ?_
 refine pw ?_
 (first | exact .d (h) | exact .q (h))
end Go.Proofs.YtonhfknjcbakiaaGreatDoor
namespace Go.Proofs.YtonhfknjcbakiaaGreatDoor
open Go.RowKit
theorem RightV.take {v:List En} (h:RightV v) (k:Nat):RightV (v.take k):=⟨fun e he=>h.1 e (List.mem_of_mem_take he),h.2.sublist (List.take_sublist _ _)⟩
theorem kD (v:List En) (r:Nat) (hr:SmV v):Cn Tryz.prog 148 [vp v,.v (.int .u64 r)] (rg (zT v r)):=by
 have hl:=hr.2.1
 refine zt Tryz.func148 2 ?_
 refine pw ?_
 refine .rd (zbB v r (by omega)) rfl ?_
 rcases X2 r v 0 with⟨e1,e2⟩ | ⟨i,hi,e1,e2⟩
 ·rw [e1,qC e2]
  exact pd
 ·have hh:=hr.2.2 _ (List.getElem_mem hi)
  rw [e1,zh8 hr.1 hi e2,Nat.zero_add]
  refine pw ?_
  refine .i ?_ ?_<;>intro h0<;>(try simp only [zb] at h0)<;>first | refine pw ?_ | exact pd
  ·exact absurd h0 (by omega)
  ·exact .d (Vl v[i] (hr.1.1 _ (List.getElem_mem hi)) (by omega))
theorem zoF {r c:Nat} (hr:r<M64) (hc:c<M64):SmV (zl9 r c):=by
 have h:=zoD hr hc
 exact⟨h.1,by have:=h.2.1;omega,fun e he=>by have:=h.2.2 e he;omega⟩
theorem zoX (v:List En) (r c:Nat) (hv:SmV v) (hr:r<M64) (hc:c<M64):Cn Tryz.prog 91 [vp v,.v (.int .u64 r),.v (.int .u64 c)] (vp (ks zn v (zl9 r c))):=by
 have h:=zdc v (zl9 r c) hv (zoF hr hc)
 refine zt Tryz.func91 3 ?_
 refine pw ?_
 refine .c (zjT r [⟨c,c⟩] (zmc hc) (by simp)) ?_
 (first | exact .d (h) | exact .q (h))
def vps (vs:List (List En)):PV:=.sl (vs.map fun v=>[vp v]) .sh
attribute [go_sem] vps
theorem zo3 {x:List Iv} (hx:Nrm x):qy zm x []=x:=vK hx trivial hx fun t _=>by simp [zm]
theorem kn0 (r m:Nat) (hm:m<M64):kn ⟨r,m,[]⟩=[⟨0,m⟩]:=zo3 (qG (Nat.zero_le _) hm)
def u10:List En:=[⟨1,4,[]⟩,⟨2,3,[]⟩]
def c10:List En:=[⟨3,0,[]⟩]
theorem zdi {l:List Iv} {x:Nat} (hm:mem l x=true) (h0:x=0\/mem l (x - 1)=false):x ∈ l.map Iv.lo:=by
 obtain⟨s,hs,h1,h2⟩:=qf.1 hm
 refine List.mem_map.2 ⟨s,hs,?_⟩
 rcases Nat.lt_or_eq_of_le h1 with h3 | h3
 ·rcases h0 with h0 | h0
  ·omega
  ·have:mem l (x - 1)=true:=qf.2 ⟨s,hs,by omega,by omega⟩
   rw [this] at h0;cases h0
 ·exact h3
theorem zbS {a b:List Iv} (ha:Nrm a) (hb:Nrm b):(qy zn a b).length<=a.length+b.length:=by
 have hn:=qH (f:=zn) ha hb
 have:=Ji ((qy zn a b).map Iv.lo) (a.map Iv.lo++b.map Iv.lo) (NF.asc hn) fun y hy=>by
  obtain⟨s,hs,rfl⟩:=List.mem_map.1 hy
  have h1:=NF.lo_ge hn s hs
  have hm:mem (qy zn a b) s.lo=true:=qf.2 ⟨s,hs,Nat.le_refl _,h1.2.1⟩
  have hp:s.lo=0\/(mem a (s.lo - 1)=false/\mem b (s.lo - 1)=false):=by
   by_cases h0:s.lo=0
   ·exact .inl h0
   ·have h2:=NF.lo_prev hn s hs h0
    rw [qj ha hb (by omega)] at h2
    simp only [zn,Bool.or_eq_false_iff] at h2
    exact .inr h2
  rw [qj ha hb (by omega)] at hm
  simp only [zn,Bool.or_eq_true] at hm
  rcases hm with hm | hm
  ·exact List.mem_append_left _ (zdi hm (hp.imp id And.left))
  ·exact List.mem_append_right _ (zdi hm (hp.imp id And.right))
 simpa using this
def qE:List Fg->Nat
 | []=>0
 | f::k=>f.items.length+qE k
theorem kK:∀(a b:List Fg),qE (a++b)=qE a+qE b
 | [],b=>by simp [qE]
 | f::a,b=>by simp only [List.cons_append,qE,kK a b];omega
theorem yv:∀ {k:List Fg} {f:Fg},f ∈ k->f.items.length<=qE k
 | g::k,f,h=>by
   rcases List.mem_cons.1 h with rfl | h
   ·simp only [qE];omega
   ·have:=yv h;simp only [qE];omega
theorem YO:∀ k:List Fg,(CI k).length<=2 * qE k
 | []=>by simp [CI,qE]
 | f::k=>by
   have h1:=YO k
   have h2:=vq f.items
   have:CI (f::k)=z6 f.items++CI k:=rfl
   rw [this,List.length_append,qE];omega
theorem Zf (V:Iv->List En):∀ l:List Iv,qE (l.map fun s=>⟨[s],V s⟩)=l.length
 | []=>rfl
 | s::l=>by rw [List.map_cons,qE,Zf V l];simp;omega
theorem Vg:∀ {o:List Fg} {f:Fg},(∀ g ∈ o,Nrm g.items)->Nrm f.items->qE (qN o f)<=qE o+f.items.length/\(qN o f).length<=o.length+1/\∀ g ∈ qN o f,g.vec=f.vec\/∃ h ∈ o,g.vec=h.vec
 | [],f,_,_=>⟨by simp [qN,qE],by simp [qN],fun g hg=>by simp only [qN,List.mem_singleton] at hg;subst hg;exact .inl rfl⟩
 | g::o,f,ho,hf=>by
   have h1:=Vg (o:=o) (f:=f) (fun x hx=>ho x (by simp [hx])) hf
   have hg:=ho g (by simp)
   have hu:=zbS hg hf
   unfold qN
   by_cases c1:zZ (zv g.vec) (zv f.vec)<0
   ·rw [if_pos c1]
    refine⟨by simp only [qE];omega,by simp only [List.length_cons];omega,fun x hx=>?_⟩
    rcases List.mem_cons.1 hx with rfl | hx
    ·exact .inr ⟨_,by simp,rfl⟩
    ·exact(h1.2.2 x hx).imp id fun⟨y,hy,e⟩=>⟨y,by simp [hy],e⟩
   ·rw [if_neg c1]
    by_cases c2:zZ (zv g.vec) (zv f.vec)=0
    ·rw [if_pos c2]
     refine⟨by simp only [qE];omega,by simp,fun x hx=>?_⟩
     rcases List.mem_cons.1 hx with rfl | hx
     ·exact .inl rfl
     ·exact .inr ⟨x,by simp [hx],rfl⟩
    ·rw [if_neg c2]
     refine⟨by simp only [qE];omega,by simp,fun x hx=>?_⟩
     rcases List.mem_cons.1 hx with rfl | hx
     ·exact .inl rfl
     ·exact .inr ⟨x,hx,rfl⟩
theorem Yq:∀ {k o:List Fg},GrpI o->RightK k->qE (k.foldl yo o)<=qE o+qE k/\(k.foldl yo o).length<=o.length+k.length/\∀ g ∈ k.foldl yo o,(∃ f ∈ k,g.vec=zi f.vec)\/∃ h ∈ o,g.vec=h.vec
 | [],o,_,_=>⟨by simp,by simp,fun g hg=>.inr ⟨g,hg,rfl⟩⟩
 | f::k,o,ho,hk=>by
   have hf:=hk f (by simp)
   have h1:=Yq (k:=k) (o:=yo o f) (Yr ho hf).1 fun g hg=>hk g (by simp [hg])
   rw [List.foldl_cons]
   have h2:qE (yo o f)<=qE o+f.items.length/\(yo o f).length<=o.length+1/\∀ g ∈ yo o f,g.vec=zi f.vec\/∃ h ∈ o,g.vec=h.vec:=by
    unfold yo
    split
    ·exact⟨by omega,by omega,fun g hg=>.inr ⟨g,hg,rfl⟩⟩
    ·exact Vg (fun g hg=>(ho.ok g hg).2.2.1) hf.1
   refine⟨by simp only [qE];omega,by simp only [List.length_cons];omega,fun g hg=>?_⟩
   rcases h1.2.2 g hg with⟨x,hx,e⟩ | ⟨x,hx,e⟩
   ·exact .inl ⟨x,by simp [hx],e⟩
   ·rcases h2.2.2 x hx with e2 | ⟨y,hy,e2⟩
    ·exact .inl ⟨f,by simp,e.trans e2⟩
    ·exact .inr ⟨y,hy,e.trans e2⟩
theorem jU {k:List Fg} (h:RightK k):qE (zL k)<=qE k/\(zL k).length<=k.length/\∀ g ∈ zL k,∃ f ∈ k,g.vec=zi f.vec:=by
 have:=Yq (o:=[]) GrpI.nil h
 refine⟨by simpa [qE,zL] using this.1,by simpa [zL] using this.2.1,fun g hg=>?_⟩
 rcases this.2.2 g hg with h | ⟨x,hx,_⟩
 ·exact h
 ·cases hx
theorem Zo {k:List Fg} {j:Nat} (h:j<k.length):zL (k.take (j+1))=yo (zL (k.take j)) k[j]:=by
 unfold zL
 rw [List.take_succ_eq_append_getElem h,List.foldl_append]
 rfl
theorem zfS {v:List En} {h:Nat} (hh:∀ e ∈ v,e.holes.length<=h):(zv v).length<=1+v.length * (3+2 * h):=by
 have:∀ {v:List En},(∀ e ∈ v,e.holes.length<=h)->(v.flatMap zC).length<=v.length * (3+2 * h):=by
  intro v
  induction v with
  | nil=>intro _;simp
  | cons e v ih=>
    intro hv
    have h1:=ih fun f hf=>hv f (by simp [hf])
    have h2:=hv e (by simp)
    have h3:(v.length+1) * (3+2 * h)=v.length * (3+2 * h)+(3+2 * h):=Nat.succ_mul _ _
    simp only [List.flatMap_cons,List.length_append,zC,List.length_cons,xx,h3]
    omega
 have:=this hh
 unfold zv
 simp only [List.length_cons]
 omega
theorem WV.nlen {C:Nat->List Nat} {R:List Nat} {v:List En} (h:WV C R v) (hC:∀ r,(C r).length<=9000) (hR:R.length<=20000):(zv v).length<=1073741824:=by
 obtain⟨_,h1,h2⟩:=h.bv hC hR
 have h3:=zfS h2
 have h4:v.length * (3+2 * (9000+2))<=20000 * (3+2 * (9000+2)):=Nat.mul_le_mul_right _ h1
 omega
theorem zaJ:CanK []:=⟨GrpI.nil,List.Pairwise.nil⟩
theorem zcY (i r c:Nat):hasK [] i r c=false:=rfl
theorem KP {f:Bool->Bool->Bool} (hf:f false false=false) {a b:List Fg} (ha:RightK a) (hb:RightK b):vh f a b=[] ↔ ∀ i r c,i<M64->c<M64->f (hasK a i r c) (hasK b i r c)=false:=by
 constructor
 ·intro h i r c hi hc
  rw [<-zcZ hf ha hb hi hc,h];rfl
 ·intro h
  exact XN (ze5 ha hb) zaJ fun i r c hi hc=>by rw [zcZ hf ha hb hi hc,h i r c hi hc];rfl
theorem V0 {a b:List Fg} (ha:RightK a) (hb:RightK b):vh zm a b=[] ↔ ∀ i r c,i<M64->c<M64->hasK a i r c=true->hasK b i r c=true:=by
 rw [KP rfl ha hb]
 refine⟨fun h i r c hi hc h1=>?_,fun h i r c hi hc=>?_⟩
 ·have:=h i r c hi hc
  rw [h1] at this
  simpa [zm] using this
 ·have:=h i r c hi hc
  cases h1:hasK a i r c<;>cases h2:hasK b i r c<;>simp_all [zm]
noncomputable def zbC (a b:List Fg):Nat:=if vh zm a b=[] then (if vh zm b a=[] then 0 else 1) else (if vh zm b a=[] then 2 else 3)
theorem znU {f:Bool->Bool->Bool} (hf:f false false=false) (hs:∀ p q,f p q=f q p) {a b:List Fg} (ha:RightK a) (hb:RightK b):vh f a b=vh f b a:=
 znD hf ha hb (ze5 hb ha) fun i r x hi hx=>by rw [zcZ hf hb ha hi hx,hs]
theorem zoh {f:Bool->Bool->Bool} (hf:f false false=false) (hs:∀ p q r,f (f p q) r=f p (f q r)) {a b c:List Fg} (ha:RightK a) (hb:RightK b) (hc:RightK c):vh f (vh f a b) c=vh f a (vh f b c):=
 have hab:=(ze5 (f:=f) ha hb).right
 have hbc:=(ze5 (f:=f) hb hc).right
 znD hf hab hc (ze5 ha hbc) fun i r x hi hx=>by rw [zcZ hf ha hbc hi hx,zcZ hf hb hc hi hx,zcZ hf ha hb hi hx,hs]
theorem zow {a b c:List Fg} (ha:RightK a) (hb:RightK b) (hc:RightK c):vh y5 (vh zn a b) c=vh zn (vh y5 a c) (vh y5 b c):=
 have hab:=(ze5 (f:=zn) ha hb).right
 have hac:=(ze5 (f:=y5) ha hc).right
 have hbc:=(ze5 (f:=y5) hb hc).right
 znD rfl hab hc (ze5 hac hbc) fun i r x hi hx=>by
  rw [zcZ rfl hac hbc hi hx,zcZ rfl ha hc hi hx,zcZ rfl hb hc hi hx,zcZ rfl ha hb hi hx]
  cases hasK a i r x<;>cases hasK b i r x<;>cases hasK c i r x<;>rfl
theorem zox {a:List Fg} (ha:RightK a):vh y5 a a=zbx a:=
 znD rfl ha ha (zbX ha) fun i r x hi hx=>by rw [zbW ha hi hx];cases hasK a i r x<;>rfl
abbrev Tr:=Nat × Nat × Nat
def zeY (t u:Tr):Int:=zZ [t.1,t.2.1,t.2.2] [u.1,u.2.1,u.2.2]
def Vq (o:Option Tr) (t:Tr):Option Tr:=match o with
 | none=>some t
 | some u=>if zeY t u<0 then some t else some u
def XE (x:Nat) (e:En):List Tr:=match kn e with
 | []=>[]
 | s::_=>[(x,e.rep,s.lo)]
def V3 (f:Fg):List Tr:=match f.items with
 | []=>[]
 | s::_=>f.vec.flatMap (XE s.lo)
def kY (k:List Fg):Option Tr:=(k.flatMap V3).foldl Vq none
def leT (t u:Tr):Prop:=t.1<u.1\/(t.1=u.1/\(t.2.1<u.2.1\/(t.2.1=u.2.1/\t.2.2<=u.2.2)))
theorem zjg (t u:Tr):zeY t u<0 ↔ ¬ leT u t:=by
 unfold zeY leT
 simp only [zZ]
 repeat' split
 all_goals (constructor<;>intro h<;>omega)
theorem zgZ (t:Tr):leT t t:=by unfold leT;omega
theorem zgJ {t u v:Tr} (h1:leT t u) (h2:leT u v):leT t v:=by unfold leT at *;omega
theorem zjV {t u:Tr} (h:¬ leT u t):leT t u:=by unfold leT at *;omega
theorem zdf {t u:Tr} (h1:leT t u) (h2:leT u t):t=u:=by
 obtain⟨a,b,c⟩:=t
 obtain⟨a',b',c'⟩:=u
 unfold leT at h1 h2
 simp only at h1 h2
 have e1:a=a':=by omega
 have e2:b=b':=by omega
 have e3:c=c':=by omega
 rw [e1,e2,e3]
theorem zme (l:List Tr):∀(o:Option Tr),(l=[]/\l.foldl Vq o=o)\/∃ t,l.foldl Vq o=some t/\(t ∈ l\/o=some t)/\(∀ u ∈ l,leT t u)/\∀ u,o=some u->leT t u:=by
 induction l with
 | nil=>exact fun o=>.inl ⟨rfl,rfl⟩
 | cons x l ih=>
   intro o
   refine .inr ?_
   have key:∃ y,Vq o x=some y/\(y=x\/o=some y)/\leT y x/\∀ u,o=some u->leT y u:=by
    cases o with
    | none=>exact⟨x,rfl,.inl rfl,zgZ x,fun u h=>by cases h⟩
    | some u=>
      unfold Vq
      by_cases h:zeY x u<0
      ·exact⟨x,by simp [h],.inl rfl,zgZ x,fun v hv=>by cases hv;exact zjV ((zjg x u).1 h)⟩
      ·refine⟨u,by simp [h],.inr rfl,?_,fun v hv=>by cases hv;exact zgZ _⟩
       rw [zjg] at h
       exact Classical.not_not.1 h
   obtain⟨y,e,hy,h1,h2⟩:=key
   rw [List.foldl_cons,e]
   rcases ih (some y) with⟨rfl,e2⟩ | ⟨t,e2,h3,h4,h5⟩
   ·rw [e2]
    refine⟨y,rfl,hy.imp (fun e=>by simp [e]) id,fun u hu=>?_,h2⟩
    simp at hu
    rw [hu];exact h1
   ·have h6:=h5 y rfl
    refine⟨t,e2,?_,fun u hu=>?_,fun u hu=>zgJ h6 (h2 u hu)⟩
    ·rcases h3 with h3 | h3
     ·exact .inl (List.mem_cons_of_mem _ h3)
     ·cases h3
      exact hy.imp (fun e=>by simp [e]) id
    ·rcases List.mem_cons.1 hu with rfl | hu
     ·exact zgJ h6 h1
     ·exact h4 u hu
structure IsLeast (k:List Fg) (t:Tr):Prop where
 b1:t.1<M64
 b2:t.2.2<M64
 has:hasK k t.1 t.2.1 t.2.2=true
 le:∀ i r c,i<M64->c<M64->hasK k i r c=true->leT t (i,r,c)
theorem IsLeast.eq {k:List Fg} {t u:Tr} (h:IsLeast k t) (g:IsLeast k u):t=u:=
 zdf (h.le _ _ _ g.b1 g.b2 g.has) (g.le _ _ _ h.b1 h.b2 h.has)
theorem zgj {s:Iv} {l:List Iv} (h:Nrm (s::l)):s.lo<M64/\mem (s::l) s.lo=true/\∀ x,mem (s::l) x=true->s.lo<=x:=by
 have h1:=NF.lo_ge h s (by simp)
 refine⟨by omega,by rw [zz];simp [h1.2.1],fun x hx=>?_⟩
 have h2:=h
 unfold Nrm at h2
 rw [zz,Bool.or_eq_true,Bool.and_eq_true,decide_eq_true_eq,decide_eq_true_eq] at hx
 rcases hx with hx | hx
 ·exact hx.1
 ·obtain⟨t,ht,h3⟩:=List.any_eq_true.1 hx
  simp only [Bool.and_eq_true,decide_eq_true_eq] at h3
  have h4:NF (s.hi+2) l\/NF (s.hi+1) l:=by
   unfold NF at h2
   first | exact .inl h2.2.2.2 | exact .inl h2.2.2 | exact .inr h2.2.2.2 | exact .inr h2.2.2
  have h5:s.hi+1<=t.lo:=by
   rcases h4 with h4 | h4
   ·have:=(NF.lo_ge h4 t ht).1;omega
   ·exact(NF.lo_ge h4 t ht).1
  omega
theorem zjl {k:List Fg} {t:Tr}:t ∈ k.flatMap V3 ↔ ∃ f ∈ k,∃ s l,f.items=s::l/\∃ e ∈ f.vec,∃ s' l',kn e=s'::l'/\t=(s.lo,e.rep,s'.lo):=by
 rw [List.mem_flatMap]
 refine exists_congr fun f=>and_congr_right fun hf=>?_
 unfold V3
 cases h:f.items with
 | nil=>simp
 | cons s l=>
   simp only [List.mem_flatMap,XE]
   constructor
   ·rintro⟨e,he,ht⟩
    cases h2:kn e with
    | nil=>rw [h2] at ht;simp at ht
    | cons s' l'=>rw [h2] at ht;simp at ht;exact⟨s,l,rfl,e,he,s',l',h2,ht⟩
   ·rintro⟨s1,l1,e1,e,he,s',l',h2,rfl⟩
    cases e1
    exact⟨e,he,by rw [h2];simp⟩
theorem zfo {k:List Fg} (h:RightK k) {i r c:Nat}:hasK k i r c=true ↔ ∃ f ∈ k,mem f.items i=true/\∃ e ∈ f.vec,e.rep=r/\mem (kn e) c=true:=by
 rw [km]
 refine exists_congr fun f=>and_congr_right fun hf=>and_congr_right fun _=>?_
 have hv:=(h f hf).2
 constructor
 ·intro hm
  by_cases hn:∀ e ∈ f.vec,e.rep≠r
  ·rw [qC hn] at hm;cases hm
  ·simp only [Classical.not_forall,Classical.not_not] at hn
   obtain⟨e,he,hr⟩:=hn
   refine⟨e,he,hr,?_⟩
   rw [<-hr,kq hv.2 he] at hm
   exact hm
 ·rintro⟨e,he,rfl,hm⟩
  rw [kq hv.2 he];exact hm
theorem zgH {k:List Fg} (h:RightK k):(kY k=none/\∀ i r c,hasK k i r c=false)\/∃ t,kY k=some t/\IsLeast k t:=by
 have low:∀ i r c,hasK k i r c=true->∃ t ∈ k.flatMap V3,leT t (i,r,c):=fun i r c hh=>by
  obtain⟨f,hf,hi,e,he,rfl,hc⟩:=(zfo h).1 hh
  have hn1:=(h f hf).1
  have hn2:=qT ((h f hf).2.1 e he)
  cases h1:f.items with
  | nil=>rw [h1] at hi;cases hi
  | cons s l=>
    cases h2:kn e with
    | nil=>rw [h2] at hc;cases hc
    | cons s' l'=>
      rw [h1] at hn1 hi
      rw [h2] at hn2 hc
      refine⟨(s.lo,e.rep,s'.lo),zjl.2 ⟨f,hf,s,l,h1,e,he,s',l',h2,rfl⟩,?_⟩
      have a1:=(zgj hn1).2.2 i hi
      have a2:=(zgj hn2).2.2 c hc
      show s.lo<i\/(s.lo=i/\(e.rep<e.rep\/(e.rep=e.rep/\s'.lo<=c)))
      omega
 unfold kY
 rcases zme (k.flatMap V3) none with⟨e1,e2⟩ | ⟨t,e2,h3,h4,_⟩
 ·refine .inl ⟨e2,fun i r c=>?_⟩
  cases hh:hasK k i r c with
  | false=>rfl
  | true=>
    obtain⟨t,ht,_⟩:=low i r c hh
    rw [e1] at ht;cases ht
 ·refine .inr ⟨t,e2,?_⟩
  rcases h3 with h3 | h3
  ·obtain⟨f,hf,s,l,h1,e,he,s',l',h2,rfl⟩:=zjl.1 h3
   have hn1:=(h f hf).1
   have hn2:=qT ((h f hf).2.1 e he)
   rw [h1] at hn1
   rw [h2] at hn2
   have a1:=zgj hn1
   have a2:=zgj hn2
   refine⟨a1.1,a2.1,(zfo h).2 ⟨f,hf,by rw [h1];exact a1.2.1,e,he,rfl,by rw [h2];exact a2.2.1⟩,fun i r c _ _ hh=>?_⟩
   obtain⟨u,hu,h5⟩:=low i r c hh
   exact zgJ (h4 u hu) h5
  ·cases h3
end Go.Proofs.YtonhfknjcbakiaaGreatDoor
namespace Go.Proofs.YtonhfknjcbakiaaGreatDoor
open Go.RowKit Go.Maps
attribute [-go_sem] z7
theorem zim {D:Nat->Nat->Prop} {w:World} {v:Value} {l:List Nat} (h:Dat D w v (ns l)):∃ ad cap,v=.slice ad l.length cap/\l.length<=cap/\cap<=maxLen/\(l≠[]->∃ b off,ad=some ⟨b,off,none⟩/\∀ j (hj:j<l.length),D b (off+j)/\w.cell? ⟨b,off+j,none⟩=some (.int .u64 (l[j]:Nat))):=by
 unfold ns at h
 generalize he:l.map yN=es at h
 cases h with
 | sl a cap sz es o b off u hc hz hm ha hsz hd hx=>
   have hl:es.length=l.length:=by rw [<-he];simp
   refine⟨a,cap,by rw [hl],by omega,hm,fun hne=>?_⟩
   have hpos:0<l.length:=List.length_pos_iff.2 hne
   have g:∀ i (h:i<l.length),es[i]? = some (yN l[i]):=fun i h=>by rw [<-he];exact xo h
   obtain rfl:1=sz:=hsz 0 _ (g 0 hpos)
   have hes:es≠[]:=by intro e;subst e;simp at hl;omega
   refine⟨b,off,ha hes,fun j hj=>?_⟩
   have e0:=(hx j _ 0 _ (g j hj) rfl).v_inv
   obtain⟨d1,d2,_⟩:=hd (j * 1+0) (by omega)
   rw [e0] at d2
   simp only [Nat.mul_one,Nat.add_zero] at d1 d2
   exact⟨d1,d2⟩
theorem ve {P:Program} (w:World) (t ty e:TypeId) (i:TypeInfo) (ht:P.underlying t=some (.slice e)) (hi:P.info? e=some i) (ba:Option Addr) (n cp c:Nat) (hn:n<=cp) :
 (Builtin.append_ #[t,t] ty #[.slice ba n cp,.slice none 0 c]).run P w=.ok (.slice ba n cp) w:=by
 cases ba<;>simp [Builtin.append_,run_underlying ht,sizeOf,typeInfo,hi,Builtin.lenOf,Builtin.firstCells,hn,storeCells]
theorem zbE (w:World) (t ty:TypeId) (ht:Tryz.prog.underlying t=some (.slice 24)) (base:Nat) (v:Value) (n:Nat) (xs:List Value) (hown:w.ownsRow base 24 1 v n xs) (ad:Option Addr) (m c:Nat) (news:List Value) (hl:news.length=m)
 (hnews:(m=0/\ad=none)\/∃ a,ad=some a/\∀ j u,news[j]? = some u->w.cell? (a.add j)=some u) (h1:∀ u ∈ news,u.oneCell'=true) (h63:n+m<=17179869184) (hbase:base<=w.heap.size) :
 ∃ v' w',(Builtin.append_ #[t,t] ty #[v,.slice ad m c]).run Tryz.prog w=.ok v' w'/\w'.ownsRow base 24 1 v' (n+m) (xs++news)/\w.grownBy w' v.ownBlock/\(v'.ownBlock=v.ownBlock\/v'.ownBlock=some w.heap.size):=by
 obtain⟨i0,hi0,hz0,hz1,hz2⟩:=info_parts Vf
 rcases hnews with⟨rfl,rfl⟩ | ⟨a,rfl,hn⟩
 ·obtain rfl:news=[]:=List.length_eq_zero_iff.1 hl
  obtain⟨ba,cp,rfl,hcp⟩:∃ ba cp,v=.slice ba n cp/\n<=cp:=by
   rcases hown.2 with⟨rfl,rfl⟩ | ⟨g,cap,cur,rfl,_,_,h,_⟩
   ·exact⟨none,0,rfl,Nat.le_refl _⟩
   ·exact⟨_,_,rfl,h⟩
  exact⟨_,w,ve w t ty _ i0 ht hi0 ba n cp c hcp,by simpa using hown,jW _ _,.inl rfl⟩
 ·obtain⟨v',w',r1,r2,r3,_,r5⟩:=run_append_own_at (P:=Tryz.prog) w base t ty 24 i0 _ 1 8 ht hi0 hz0 hz1 hz2 rfl (by decide) v n xs hown a m c news (by simpa using hl) hn h1 (by unfold maxLen;omega) (by omega) hbase
  exact⟨v',w',r1,r2,r3,r5⟩
theorem xK {ops:Array Oper} {o:Oper} {a:Act} {w:World} {K:Act->World->Prop} {Q:Exit->Act->World->Prop} {E:Prop} (s x:Operand) (t:TypeId) (hgd:o.guard=none)
 (ho:o.op=.call { callee:=.builtin .append,args:=#[s,x],argTypes:=#[t,t] }) (ht:Tryz.prog.underlying t=some (.slice 24)) (base:Nat) (v:Value) (n:Nat) (xs:List Value) (hs:a.eval s=v) (hown:w.ownsRow base 24 1 v n xs)
 (ad:Option Addr) (m c:Nat) (news:List Value) (hx:a.eval x=.slice ad m c) (hl:news.length=m) (hnews:(m=0/\ad=none)\/∃ a,ad=some a/\∀ j u,news[j]? = some u->w.cell? (a.add j)=some u) (h1:∀ u ∈ news,u.oneCell'=true) (h63:n+m<=17179869184) (hbase:base<=w.heap.size)
 (h:∀ v' w',w'.ownsRow base 24 1 v' (n+m) (xs++news)->w.grownBy w' v.ownBlock->(v'.ownBlock=v.ownBlock\/v'.ownBlock=some w.heap.size)->K (a.put o.dst v') w'):if Region.wanted o (yielded ops a.tmps)=true then Oper.wp Tryz.prog o a w K Q else E:=by
 have hw:Region.wanted o (yielded ops a.tmps)=true:=by simp [Region.wanted,hgd]
 rw [if_pos hw]
 obtain⟨v',w',hr,h2,h3,h4⟩:=zbE w t o.type ht base v n xs hown ad m c news hl hnews h1 h63 hbase
 unfold Oper.wp execOp
 simp only [ho,resolve,invoke,builtin,Sem.run_bind,Sem.run_pure,Result.andThen_ok,List.map_toArray,List.map_cons,List.map_nil,hs,hx,hr]
 exact h v' w' h2 h3 h4
theorem zdy {w:World} {base A:Nat} (hA:base<=A) (h:w.heap[A]? = some (.cells #[] 24 (0,0))):w.ownsRow base 24 1 (.slice (some ⟨A,0,none⟩) 0 0) 0 []:=⟨rfl,.inr ⟨A,0,#[],rfl,hA,h,Nat.le_refl _,Nat.zero_le _,rfl,rfl⟩⟩
theorem yw (w:World) (o o':Obj):((w.alloc o).alloc o').heap[w.heap.size]? = some o:=(Below.heap_alloc _ _ _ (by simp)).trans (World.alloc_heap_new w o)
theorem yx (w:World) (o o':Obj):((w.alloc o).alloc o').heap[w.heap.size+1]? = some o':=by
 have:=World.alloc_heap_new (w.alloc o) o'
 rwa [World.size_alloc] at this
theorem YR (w:World) (o:Obj):Below w.heap.size w (w.drew.alloc o):=⟨rfl,rfl,rfl,by simp,fun k hk=>Below.heap_alloc w.drew _ _ hk⟩
theorem XM (w:World) (o o':Obj):Below w.heap.size w ((w.drew.alloc o).alloc o'):=(YR w o).alloc (by simp) _
theorem zbw (C:Nat->Nat->Prop) (xs:List Nat) (x:Nat) (va:Value) (w:World) (hl:(srt xs).length<=4194304) (hd:Dat C w va (ns (srt xs))) (hC:∀ b o,C b o->b<w.heap.size) :
 Calls Tryz.prog 145 #[va,.int .u64 (x:Nat)] w fun e w'=>∃ v,e=.returned v/\Below w.heap.size w w'/\Dat (fun b o=>C b o\/(w.heap.size<=b/\b<w'.heap.size)) w' v (ns (srt (xs++[x]))):=by
 obtain⟨l,hls⟩:∃ l,l=srt xs:=⟨_,rfl⟩
 have HD:=Lib.hid hd
 rw [<-hls] at hl hd
 have HLS:=Lib.hid hls
 obtain⟨ad,cap,rfl,hcap,hcm,hcl⟩:=zim hd
 have HCL:=Lib.hid hcl
 clear hd hls hcl
 unfold maxLen at hcm
 go_enter Tryz.func145,Tryz.ntmps145
 go_wp2_with fail
 go_loopg [5] l.length (fun g y wr=>wr=w/\∃ k,k<=l.length/\g=l.length - k/\y=.int .i64 k/\∀ j,(h:j<l.length)->j<k->l[j]<x)
 case atStart=>exact⟨rfl,0,Nat.zero_le _,rfl,rfl,fun j _ h=>absurd h (by omega)⟩
 case round=>
  obtain⟨rfl,k,hk,rfl,rfl,hj⟩:=hrel
  have HJ:=Lib.hid hj
  clear hj
  by_cases hlt:k<l.length
  ·obtain⟨b,off,rfl,hcells⟩:=HCL.out (fun e=>by rw [e] at hlt;simp at hlt)
   have hck:=(hcells k hlt).2
   obtain⟨y,hy⟩:∃ y,y=l[k]:=⟨_,rfl⟩
   rw [<-hy] at hck
   have HY:=Lib.hid hy
   have HCs:=Lib.hid hcells
   clear hy hcells
   by_cases h2:y<x
   ·go_wp2_with fail
    go_roundg (l.length - (k+1))
    case measure=>omega
    case rel=>
     refine⟨rfl,k+1,hlt,rfl,by simp,fun j hj1 hj2=>?_⟩
     rcases Nat.lt_or_ge j k with h3 | h3
     ·exact HJ.out j hj1 h3
     ·obtain rfl:j=k:=by omega
      rw [<-HY.out];exact h2
   ·by_cases h3:y=x
    ·go_wp2_with fail
     refine bodyPost_ret (results_tmp rfl _ _ _) rfl ?_
     have hmem:x ∈ srt xs:=by rw [<-HLS.out,<-h3,HY.out];exact List.getElem_mem hlt
     rw [zaw hmem]
     exact⟨_,rfl,Below.refl _ _,HD.out.mono (fun _ _ h=>.inl h) fun _ _ _ _ h=>h⟩
    ·go_wp2_with fail
     have mixed:Tryz.prog.follows .mixedOrders=true:=by kernel_rfl
     have hone:∀ u ∈ (l.take k).map uV,u.oneCell'=true:=QN
     have hone2:∀ u ∈ (l.drop k).map uV,u.oneCell'=true:=QN
     have hone1:∀ u ∈ [uV x],u.oneCell'=true:=fun u hu=>by simp at hu;subst hu;rfl
     have hcell:∀ W:World,Below wr.heap.size wr W->∀ j (hj:j<l.length),W.cell? ⟨b,off+j,none⟩=some (uV l[j]):=fun W hB j hj=>(World.cell?_of_block (a:=⟨b,off+j,none⟩) (hB.block b (hC _ _ (HCs.out j hj).1))).trans (HCs.out j hj).2
     have hn1:∀ W:World,Below wr.heap.size wr W->(k=0/\(some (⟨b,off,none⟩:Addr))=none)\/∃ a,some (⟨b,off,none⟩:Addr)=some a/\∀ j u,((l.take k).map uV)[j]? = some u->W.cell? (a.add j)=some u:=fun W hB=>.inr ⟨_,rfl,fun j u h=>by
      rw [List.getElem?_map] at h
      obtain⟨y,hy,rfl⟩:=Option.map_eq_some_iff.1 h
      obtain⟨hj,rfl⟩:=List.getElem?_eq_some_iff.1 hy
      rw [zh,List.getElem_take]
      exact hcell W hB j (by simp at hj;omega)⟩
     have hn2:∀ W:World,Below wr.heap.size wr W->(l.length - k=0/\(some (⟨b,off+k,none⟩:Addr))=none)\/∃ a,some (⟨b,off+k,none⟩:Addr)=some a/\∀ j u,((l.drop k).map uV)[j]? = some u->W.cell? (a.add j)=some u:=fun W hB=>.inr ⟨_,rfl,fun j u h=>by
      rw [List.getElem?_map] at h
      obtain⟨y,hy,rfl⟩:=Option.map_eq_some_iff.1 h
      obtain⟨hj,rfl⟩:=List.getElem?_eq_some_iff.1 hy
      rw [zh,List.getElem_drop,show off+k+j=off+(k+j) by omega]
      exact hcell W hB (k+j) (by simp at hj;omega)⟩
     have HN1:=Lib.hid hn1
     have HN2:=Lib.hid hn2
     have hck:¬(cap=k):=by omega
     have hkc:k<=cap:=by omega
     have hkl:k<=l.length:=by omega
     have hfin:∀ v w,w.ownsRow wr.heap.size 24 1 v (k+1+(l.length - k)) ((l.take k).map uV++([uV x]++(l.drop k).map uV))->OwnN wr.heap.size w v (srt (xs++[x])):=fun v w h=>by
      have hi:=kJ (xs:=xs) (x:=x) (at_:=k) (by rw [<-HLS.out];omega) (fun j h5 h6=>by
       have h7:l[k]<=(srt xs)[j]:=by
        rcases Nat.eq_or_lt_of_le h6 with h8 | h8
        ·subst h8;simp only [HLS.out];exact Nat.le_refl _
        ·have:=jJ (yi xs) h5 h8
         simp only [HLS.out];omega
       have:=HY.out
       omega) (by
       rcases Nat.eq_zero_or_pos k with h5 | h5
       ·exact .inl h5
       ·refine .inr ⟨by rw [<-HLS.out];omega,?_⟩
        have h6:=HJ.out (k - 1) (by omega) (by omega)
        simpa only [HLS.out] using h6)
      rw [hi,<-HLS.out]
      unfold OwnN
      have e:(l.take k++x::l.drop k).length=k+1+(l.length - k):=by simp;omega
      rw [e]
      show w.ownsRow wr.heap.size 24 1 v _ (List.map uV _)
      rw [List.map_append,List.map_cons]
      exact h
     have HFIN:=Lib.hid hfin
     clear hfin hn1 hn2 hcell
     go_region_law_o (first
      | (refine xK (.tmp 33) (.tmp 36) 157 rfl rfl Tryz.underlying157 wr.heap.size (.slice (some ⟨_,0,none⟩) 0 0) 0 [] rfl (zdy (by omega) (by first | exact World.alloc_heap_new _ _ | exact World.alloc_heap_new wr _ | exact yw _ _ _ | exact yx _ _ _ | exact yw wr _ _ | exact yx wr _ _)) _ k _ ((l.take k).map uV) rfl (by simp<;>omega) (HN1.out _ (by first | exact YR _ _ | exact XM _ _ _)) hone (by omega) (by simp<;>omega) ?_
         intro v37 w37 ho37 hg37 hb37
         have b1:Below wr.heap.size wr w37:=by first | exact(YR wr _).grown hg37 (by simp<;>omega) (fun j hj=>by simp [Value.ownBlock] at hj;omega) | exact(XM wr _ _).grown hg37 (by simp<;>omega) (fun j hj=>by simp [Value.ownBlock] at hj;omega))
      | (refine xK (.tmp 37) (.tmp 39) 157 rfl rfl Tryz.underlying157 wr.heap.size _ (0+k) ([]++(l.take k).map uV) rfl (by first | exact ho37 | exact ho37.alloc _) _ 1 _ [uV x] rfl rfl (.inr ⟨_,rfl,vH (vt := 24) (by first | exact World.alloc_heap_new w37 _ | exact(hg37.block _ (by simp<;>omega) (by simp [Value.ownBlock]<;>omega)).trans (yw wr _ _) | exact(hg37.block _ (by simp<;>omega) (by simp [Value.ownBlock]<;>omega)).trans (yx wr _ _))⟩) hone1 (by omega) (by have:=hg37.size;simp at this ⊢<;>omega) ?_
         intro v40 w40 ho40 hg40 hb40
         have b2:Below wr.heap.size wr w40:=by first | exact b1.grown hg40 b1.size (fun j hj=>(ho37.lt j hj).1) | exact(b1.alloc b1.size _).grown hg40 (by have:=b1.size;simp<;>omega) (fun j hj=>(ho37.lt j hj).1))
      | (refine xK (.tmp 40) (.tmp 43) 157 rfl rfl Tryz.underlying157 wr.heap.size _ (0+k+1) ([]++(l.take k).map uV++[uV x]) rfl ho40 _ (l.length - k) _ ((l.drop k).map uV) rfl (by simp<;>omega) (HN2.out _ b2) hone2 (by omega) b2.size ?_
         intro v44 w44 ho44 hg44 hb44
         have b3:=b2.grown hg44 b2.size fun j hj=>(ho40.lt j hj).1))
     all_goals (go_wp2;all_goals (refine bodyPost_ret (results_tmp rfl _ _ _) rfl ?_;exact⟨v44,rfl,b3,vL (base:=wr.heap.size) (HFIN.out _ _ (by simpa using ho44)) fun b o h1 h2=>.inr ⟨h1,h2⟩⟩))
  ·obtain rfl:k=l.length:=by omega
   go_wp2_with fail
   have mixed:Tryz.prog.follows .mixedOrders=true:=by kernel_rfl
   obtain⟨ad2,cap2,had2⟩:∃ ad2 cap2,(ad2,cap2)=(if cap=l.length then ad else Option.map (fun x=>x.add l.length) ad,cap - l.length):=⟨_,_,rfl⟩
   have hl2:l.length+1<=17179869184:=by omega
   have hone:∀ u ∈ l.map uV,u.oneCell'=true:=QN
   have hone1:∀ u ∈ [uV x],u.oneCell'=true:=fun u hu=>by simp at hu;subst hu;rfl
   have hnl:∀ W:World,Below wr.heap.size wr W->(l.length=0/\ad=none)\/∃ a,ad=some a/\∀ j u,(l.map uV)[j]? = some u->W.cell? (a.add j)=some u:=fun W hB=>by
    by_cases h0:l=[]
    ·subst h0
     cases ad with
     | none=>exact .inl ⟨rfl,rfl⟩
     | some a=>exact .inr ⟨a,rfl,fun j u h=>by simp at h⟩
    ·obtain⟨b,off,rfl,hc⟩:=HCL.out h0
     refine .inr ⟨_,rfl,fun j u h=>?_⟩
     rw [List.getElem?_map] at h
     obtain⟨y,hy,rfl⟩:=Option.map_eq_some_iff.1 h
     obtain⟨hj,rfl⟩:=List.getElem?_eq_some_iff.1 hy
     rw [zh]
     exact(World.cell?_of_block (a:=⟨b,off+j,none⟩) (hB.block b (hC _ _ (hc j hj).1))).trans (hc j hj).2
   have hnone:(0=0/\(if cap=l.length then ad else Option.map (fun x=>x.add l.length) ad)=none)\/∃ a,(if cap=l.length then ad else Option.map (fun x=>x.add l.length) ad)=some a:=by
    cases ad<;>simp
    split<;>simp
   have HNL:=Lib.hid hnl
   have HNO:=Lib.hid hnone
   clear hnl hnone had2
   have hfin:∀ v w,w.ownsRow wr.heap.size 24 1 v (l.length+1) (l.map uV++[uV x])->OwnN wr.heap.size w v (srt (xs++[x])):=fun v w h=>by
    have hi:=kJ (xs:=xs) (x:=x) (at_:=(srt xs).length) (Nat.le_refl _) (fun j h1 h2=>by omega) (by
     rcases Nat.eq_zero_or_pos (srt xs).length with h5 | h5
     ·exact .inl h5
     ·refine .inr ⟨by omega,?_⟩
      have h6:=HJ.out ((srt xs).length - 1) (by rw [HLS.out];omega) (by rw [HLS.out];omega)
      simpa only [HLS.out] using h6)
    rw [hi,<-HLS.out,List.take_length,List.drop_length]
    unfold OwnN
    rw [List.length_append,List.length_singleton]
    show w.ownsRow wr.heap.size 24 1 v _ (List.map uV _)
    rw [List.map_append]
    exact h
   have HFIN:=Lib.hid hfin
   clear hfin
   go_region_law_o (first
    | (refine xK (.tmp 33) (.tmp 36) 157 rfl rfl Tryz.underlying157 wr.heap.size (.slice (some ⟨_,0,none⟩) 0 0) 0 [] rfl (zdy (by omega) (by first | exact World.alloc_heap_new _ _ | exact World.alloc_heap_new wr _ | exact yw _ _ _ | exact yx _ _ _ | exact yw wr _ _ | exact yx wr _ _)) _ l.length _ (l.map uV) rfl (by simp<;>omega) (HNL.out _ (by first | exact YR _ _ | exact XM _ _ _)) hone (by omega) (by simp<;>omega) ?_
       intro v37 w37 ho37 hg37 hb37
       have b1:Below wr.heap.size wr w37:=by first | exact(YR wr _).grown hg37 (by simp<;>omega) (fun j hj=>by simp [Value.ownBlock] at hj;omega) | exact(XM wr _ _).grown hg37 (by simp<;>omega) (fun j hj=>by simp [Value.ownBlock] at hj;omega))
    | (refine xK (.tmp 37) (.tmp 39) 157 rfl rfl Tryz.underlying157 wr.heap.size _ (0+l.length) ([]++l.map uV) rfl (by first | exact ho37 | exact ho37.alloc _) _ 1 _ [uV x] rfl rfl (.inr ⟨_,rfl,vH (vt := 24) (by first | exact World.alloc_heap_new w37 _ | exact(hg37.block _ (by simp<;>omega) (by simp [Value.ownBlock]<;>omega)).trans (yw wr _ _) | exact(hg37.block _ (by simp<;>omega) (by simp [Value.ownBlock]<;>omega)).trans (yx wr _ _))⟩) hone1 (by omega) (by have:=hg37.size;simp at this ⊢<;>omega) ?_
       intro v40 w40 ho40 hg40 hb40
       have b2:Below wr.heap.size wr w40:=by first | exact b1.grown hg40 b1.size (fun j hj=>(ho37.lt j hj).1) | exact(b1.alloc b1.size _).grown hg40 (by have:=b1.size;simp<;>omega) (fun j hj=>(ho37.lt j hj).1))
    | (refine xK (.tmp 40) (.tmp 43) 157 rfl rfl Tryz.underlying157 wr.heap.size _ (0+l.length+1) ([]++l.map uV++[uV x]) rfl ho40 _ 0 _ ([]) rfl (by simp<;>omega) (by rcases HNO.out with h | ⟨a,h⟩;exact .inl h;exact .inr ⟨a,h,fun j u hj=>by simp at hj⟩) (by simp) (by omega) b2.size ?_
       intro v44 w44 ho44 hg44 hb44
       have b3:=b2.grown hg44 b2.size fun j hj=>(ho40.lt j hj).1))
   all_goals (go_wp2;all_goals (refine bodyPost_ret (results_tmp rfl _ _ _) rfl ?_;exact⟨v44,rfl,b3,vL (base:=wr.heap.size) (HFIN.out _ _ (by simpa using ho44)) fun b o h1 h2=>.inr ⟨h1,h2⟩⟩))
end Go.Proofs.YtonhfknjcbakiaaGreatDoor
