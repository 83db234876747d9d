import Derived.Test.YtonhfknjcbakiaaGreatDoorB38
import Derived.Test.YtonhfknjcbakiaaGreatDoorB39
import Derived.Test.YtonhfknjcbakiaaGreatDoorB40
set_option maxHeartbeats 16000000
set_option linter.unusedVariables false
set_option linter.unusedSimpArgs false
set_option maxRecDepth 100000
namespace Go.Proofs.YtonhfknjcbakiaaGreatDoor
open Go.RowKit
def us (l:List Nat):PV:=.sl (l.map yN) .sh
attribute [go_sem] us
theorem zik (x:Nat):Cn Tryz.prog 208 [.v (.int .u64 x)] (.v (.bool false)):=by
 refine zt Tryz.func208 1 ?_
 exact pd
theorem zie (x y:Nat):Cn Tryz.prog 207 [.v (.int .u64 x),.v (.int .u64 y)] (.v (.bool (decide (x<y)))):=by
 refine zt Tryz.func207 2 ?_
 refine pw ?_
 exact .d (zdn x)
theorem zaI (l:List Nat) (x i:Nat) (hi:i<=l.length) (C:∀ j,(h:j<l.length)->j<i->l[j]<x) (E:∀ j,(h:j<l.length)->i<=j->x<=l[j]) (hl:l.length<=1152921504606846976) :
 Cn Tryz.prog 192 [us l,.v (.int .u64 x)] (.tup [.v (.int .i64 i),.v (.bool (decide (l[i]? = some x)))]):=by
 refine zt Tryz.func192 2 ?_
 refine pw ?_
 refine pLoop.go (fun p:Nat × Nat=>p.1<=i/\i<=p.2/\p.2<=l.length) (fun p=>[(7,.v (.int .i64 (p.1:Nat))),(8,.v (.int .i64 (p.2:Nat)))]) (fun _=>[]) (fun p=>p.2 - p.1) (0,l.length) [7,8] ?_ ?_ ?_
 ·exact⟨Nat.zero_le _,hi,Nat.le_refl _⟩
 ·exact pd
 ·rintro⟨p,q⟩ ⟨y,A,B⟩
  simp only at y A B
  refine pw ?_
  refine .i ?_ ?_<;>intro h<;>(try simp only [nrm_l] at h)<;>first | refine pw ?_ | exact pd
  ·have w:(p+q) / 2<l.length:=by omega
   refine pw ?_
   refine .c (zie l[(p+q) / 2] x) ?_
   refine .i ?_ ?_<;>intro u<;>(try simp only [nrm_l] at u)<;>first | refine pw ?_ | exact pd
   ·refine⟨((p+q) / 2+1,q),⟨?_,A,B⟩,by simp only;omega,rfl,rfl⟩
    simp only
    refine Nat.lt_of_not_le fun a=>?_
    have:=E _ w a
    omega
   ·refine⟨(p,(p+q) / 2),⟨y,?_,by simp only;omega⟩,by simp only;omega,rfl,rfl⟩
    simp only
    refine Nat.le_of_not_lt fun a=>?_
    have:=C _ w a
    omega
  ·obtain rfl:p=i:=by omega
   obtain rfl:q=p:=by omega
   refine .i ?_ ?_<;>intro u<;>(try simp only [nrm_l] at u)<;>first | refine pw ?_ | exact pd
   ·rw [show l[q]? = some l[q] from List.getElem?_eq_getElem u]
    refine .i ?_ ?_<;>intro a<;>(try simp only [nrm_l] at a)<;>first | refine pw ?_ | exact pd
    ·simp [a]
    ·refine .c (zik l[q]) ?_
     simp [a]
   ·rw [show l[q]? = none from List.getElem?_eq_none (by omega)]
    simp
end Go.Proofs.YtonhfknjcbakiaaGreatDoor
namespace Go.Proofs.YtonhfknjcbakiaaGreatDoor
open Go.RowKit Go.Maps
attribute [-go_sem] nat_succ
theorem XY {D:Nat->Nat->Prop} {w:World} {x a b:Value} (h:Dat D w x (.tup [.v a,.v b])):x=.tuple #[a,b]:=by
 cases h with
 | tup vs cs hs h=>
   obtain⟨l⟩:=vs
   match l,hs with
   | [p,q],_=>
     have j:=(h 0 _ rfl).v_inv
     have e1:=(h 1 _ rfl).v_inv
     simp at j e1
     rw [j,e1]
theorem zhv {D:Nat->Nat->Prop} {w:World} {x:Value} {e:En} (h:Dat D w x (ep e)):∃ a j,x=.agg #[.int .u64 e.rep,.int .u64 e.max,.slice a e.holes.length j]/\Dat D w (.slice a e.holes.length j) (rg e.holes):=by
 have y:Dat D w x (.agg [.v (.int .u64 e.rep),.v (.int .u64 e.max),rg e.holes]):=h
 cases y with
 | agg vs cs hs _ h=>
   obtain⟨l⟩:=vs
   match l,hs with
   | [p,q,r],_=>
     have u:=(h 0 _ rfl).v_inv
     have e1:=(h 1 _ rfl).v_inv
     have e2:=h 2 _ rfl
     simp at u e1 e2
     obtain⟨a,j,rfl⟩:=zK e2
     rw [u,e1]
     exact⟨a,j,rfl,e2⟩
theorem Yk {D:Nat->Nat->Prop} {w:World} {x:Value} {e:En} {b:Bool} (h:Dat D w x (.tup [ep e,.v (.bool b)])):∃ a j,x=.tuple #[.agg #[.int .u64 e.rep,.int .u64 e.max,.slice a e.holes.length j],.bool b]/\Dat D w (.slice a e.holes.length j) (rg e.holes):=by
 cases h with
 | tup vs cs hs h=>
   obtain⟨l⟩:=vs
   match l,hs with
   | [p,q],_=>
     have u:=h 0 _ rfl
     have e1:=(h 1 _ rfl).v_inv
     simp at u e1
     obtain⟨a,j,rfl,y⟩:=zhv u
     rw [e1]
     exact⟨a,j,rfl,y⟩
theorem jP {f:FuncId} {y:List PV} {r:PV} (h:Cn Tryz.prog f y r) {D:Nat->Nat->Prop} {w:World} {vs:Array Value} (C:GL D w) (B:∀ b o,D b o->b<w.heap.size) (u:vs.size=y.length) (j:∀(i:Nat) p,y[i]? = some p->Dat D w (vs.getD i undef) p) :
 Calls Tryz.prog f vs w fun e a=>∃ v,e=.returned v/\Below w.heap.size w a/\Dat (fun b o=>D b o\/(w.heap.size<=b/\b<a.heap.size)) a v r:=by
 refine(h.2 D w vs C B u j).mono ?_
 rintro e a ⟨v,G,rfl,hb,_,E,F,j,_⟩
 exact⟨v,rfl,hb,j.mono (fun b o h=>(E b o h).imp id fun A=>⟨A,F b o h⟩) fun _ _ _ _ h=>h⟩
theorem OwnU.keep {base:Nat} {w w':World} {v:Value} {l:List Nat} (h:OwnU base w v l) (hb:∀ g,v.ownBlock=some g->w'.heap[g]? = w.heap[g]?):OwnU base w' v l:=by
 refine⟨h.1,?_⟩
 rcases h.2 with h | ⟨g,a,j,e,y,u,r⟩
 ·exact .inl h
 ·exact .inr ⟨g,a,j,e,y,(hb g (by rw [e];rfl)).trans u,r⟩
theorem OwnU.lt {base:Nat} {w:World} {v:Value} {l:List Nat} (h:OwnU base w v l):∀ g,v.ownBlock=some g->base<=g/\g<w.heap.size:=fun g a=>World.ownsRow.lt h g a
theorem KC (x:Nat):∀ {l:List Nat},YN l->∃ i,i<=l.length/\(∀ j,(h:j<l.length)->j<i->l[j]<x)/\(∀ j,(h:j<l.length)->i<=j->x<=l[j])
 | [],_=>⟨0,Nat.le_refl _,fun j h=>absurd h (by simp),fun j h=>absurd h (by simp)⟩
 | y::l,h=>by
   have ⟨h1,h2⟩:=List.pairwise_cons.1 h
   by_cases B:y<x
   ·obtain⟨i,hi,C,E⟩:=KC x h2
    refine⟨i+1,by simp;omega,fun j a A=>?_,fun j a w=>?_⟩
    ·match j with
     | 0=>exact B
     | j+1=>exact C j (by simpa using a) (by omega)
    ·match j with
     | 0=>omega
     | j+1=>exact E j (by simpa using a) (by omega)
   ·refine⟨0,Nat.zero_le _,fun j _ a=>by omega,fun j a _=>?_⟩
    match j with
    | 0=>simp;omega
    | j+1=>
      have u:j<l.length:=by simpa using a
      have:=h1 _ (List.getElem_mem u)
      simp only [List.getElem_cons_succ]
      omega
theorem zmj {C:Nat->Nat->Prop} {base:Nat} {w:World} {v:Value} {l:List Nat} (x i:Nat) (u:OwnU base w v l) (E:∀ b o,C b o->b<w.heap.size) (F:GL C w) (hi:i<=l.length) (y:∀ j,(h:j<l.length)->j<i->l[j]<x) (A:∀ j,(h:j<l.length)->i<=j->x<=l[j]) (hl:l.length<=1152921504606846976) :
 Calls Tryz.prog 192 #[v,.int .u64 (x:Nat)] w fun e B=>(∃ b,e=.returned (.tuple #[.int .i64 (i:Nat),.bool b]))/\Below w.heap.size w B:=by
 refine(jP (zaI l x i hi y A hl) (D:=fun b o=>C b o\/(base<=b/\b<w.heap.size)) (F.mono (fun _ _ h=>.inl h) fun _ _ _ _ h=>h) (fun b o h=>h.elim (E b o) And.right) rfl (fun j p a=>?_)).mono ?_
 ·match j,a with
  | 0,a=>cases a;exact vL u fun b o y A=>.inr ⟨y,A⟩
  | 1,a=>cases a;exact .v _
  | j+2,a=>simp at a
 ·rintro e B ⟨v,rfl,hb,G⟩
  rw [XY G]
  exact⟨⟨_,rfl⟩,hb⟩
theorem zaD {C:Nat->Nat->Prop} {base rb:Nat} {w:World} {v:Value} {xs:List Nat} (x:Nat) (y:OwnU base w v (srt xs)) (A:Boxed w rb 198 v) (ad:rb<base) (G:x ∉ xs) (hl:(srt xs).length<=4194304) (V:base<=w.heap.size) (hC:∀ b o,C b o->b<w.heap.size) (hG:GL C w) :
 Calls Tryz.prog 160 #[.pointer (some ⟨rb,0,none⟩),.int .u64 (x:Nat)] w fun e w'=>(∃ u,e=.returned u)/\∃ v',Boxed w' rb 198 v'/\OwnU base w' v' (srt (xs++[x]))/\Keep (fun k=>k=rb\/base<=k) w w':=by
 obtain⟨i,hi,Y,Z⟩:=KC x (yi xs)
 have Q:=Lib.hid (zmj x i y hC hG hi Y Z (by omega))
 have F:srt (xs++[x])=(srt xs).take i++x::(srt xs).drop i:=kJ hi (fun k hk X=>by
  have h1:=Z k hk X
  have h2:(srt xs)[k]≠x:=fun e=>G (qr.1 (e ▸ List.getElem_mem hk))
  omega) (by
  rcases Nat.eq_zero_or_pos i with h0 | h0
  ·exact .inl h0
  ·exact .inr ⟨by omega,Y _ (by omega) (by omega)⟩)
 have HI:=Lib.hid F
 have L:=Lib.hid y
 have HX:=Lib.hid A
 have c0:=A.cell
 have N:=A.lt
 clear F y A hC hG Y Z G
 have H:True:=trivial
 have I:True:=trivial
 go_enter Tryz.func160,Tryz.ntmps160
 go_wp2_with (first
  | (go_at_call 192;have _t:=H;refine Q.out.mono ?_;rintro e P ⟨⟨bb,rfl⟩,J⟩
     have c1:P.cell? ⟨rb,0,none⟩=some v:=(World.cell?_of_block (a:=⟨rb,0,none⟩) (J.block rb N)).trans c0
     have j:=Lib.hid J
     clear J H)
  | (go_at_call 193;have _t:=I
     refine(Y9 base P.heap.size _ _ v (srt xs) x i hi (L.out.keep fun g O=>by rw [Below.heap_alloc _ _ _ (Nat.lt_of_lt_of_le (L.out.lt g O).2 j.out.size),j.out.block g (L.out.lt g O).2]) (World.alloc_heap_new P _) (fun e=>by have h8:=(L.out.lt _ e).2;have h9:=j.out.size;omega) (by omega) (by have:=j.out.size;simp;omega)).mono ?_
     rintro e w3 ⟨v',rfl,B,K,_⟩
     have E:Boxed w3 rb 198 v:=((show Boxed P rb _ v from (j.out.block rb N).trans HX.out).alloc _).kept K (fun e=>by have:=(L.out.lt rb e.symm).1;omega)
     have c3:=E.cell
     have f3:=E.frozen
     have U:=Lib.hid E
     have T:=Lib.hid ((((Keep.of_below' (S:=fun k=>k=rb\/base<=k) j.out (Nat.le_refl _)).alloc _).grown K fun k hk _=>.inr (L.out.lt k hk).1))
     rw [<-HI.out] at B
     obtain⟨g3,ab,ac,rfl,_⟩:=(show _\/_ from B.cases).resolve_left (fun h=>by have:=h.2;rw [HI.out] at this;simp at this)
     have M:=Lib.hid B
     clear E K B I)
  | go_in)
 go_end0
 exact⟨⟨_,rfl⟩,_,U.out.set _,M.out.keep fun g O=>Below.heap_setCell _ _ _ _ (by have:=(M.out.lt g O).1;show g≠rb;omega),T.out.setCell (fun _=>.inl rfl) _⟩
theorem jL {n:Nat} {A B C:World} {S:Nat->Prop} (h:Below n A B) (hk:Keep S B C) (hs:∀ k,k<n->¬ S k) (j:n<=A.heap.size):Below n A C:=
 ⟨hk.os.trans h.os,hk.tape.trans h.tape,hk.output.trans h.output,Nat.le_trans h.size hk.size,fun k a=>(hk.block k (by have:=h.size;omega) (hs k a)).trans (h.block k a)⟩
theorem yD {w y:World} {b r n YV:Nat} {D:DV} {left:Lit->Bool} (h:w.ranges Tryz.prog 24 rV b r n D left YV) (hb:y.heap[b]? = w.heap[b]?) (H:y.heap[r]? = w.heap[r]?):y.ranges Tryz.prog 24 rV b r n D left YV:=by
 obtain⟨B,a,j,u,A,C,F,hs,G,E,rest⟩:=h
 exact⟨B,a,j,u,A,hb.trans C,F,hs,G,H.trans E,rest⟩
theorem zhV:∀(a:Value) (kl:Lit),keyOf Tryz.prog 24 a=some kl->∃ x:{r:Nat // r<M64},a=Value.int .u64 (x.1:Nat):=fun a kl h=>by
 obtain⟨x,rfl,_,j⟩:=Maps.keyOf_int_inv Tryz.underlying24 h
 simp [Lit.wf,IntKind.min,IntKind.max,IntKind.signed,IntKind.bits] at j
 refine⟨⟨x.toNat,by rw [zw];omega⟩,?_⟩
 rw [Int.toNat_of_nonneg (by omega)]
theorem QM {left:Lit->Bool} {r x:Nat}:(left (kR r) && !(kR r).sameKey (kR x))=false ↔ left (kR r)=false\/r=x:=by
 have h:(kR r).sameKey (kR x)=decide (r=x):=by
  simp [kR,Lit.sameKey]
  omega
 rw [h]
 cases left (kR r)<;>simp
theorem zeK:∀(r a:List Nat),YN r->(∀ y ∈ r,y ∈ a)->r.length<=a.length:=by
 intro r
 induction r with
 | nil=>intro a _ _;exact Nat.zero_le _
 | cons x r ih=>
   intro a h u
   have j:=List.pairwise_cons.1 h
   have:=ih (a.erase x) j.2 fun y A=>by
    have B:=j.1 y A
    exact(List.mem_erase_of_ne (by omega)).2 (u y (by simp [A]))
   have w:x ∈ a:=u x (by simp)
   rw [List.length_erase_of_mem w] at this
   have:=List.length_pos_of_mem w
   simp;omega
theorem zkr (a y:Option Addr) (u B j A:Nat) (w:World):(Instr.index 200 (.agg #[.slice a u j,.slice y B A]) (.int .i64 0)).run Tryz.prog w=.ok (.slice a u j) w:=by kernel_rfl
theorem zks (y a:Option Addr) (B u A j:Nat) (w:World):(Instr.index 200 (.agg #[.slice y B A,.slice a u j]) (.int .i64 1)).run Tryz.prog w=.ok (.slice a u j) w:=by kernel_rfl
theorem zkk:(Tryz.prog.info? 38).map (fun i=>(i.zero,i.size,i.bytes))=some (some (.agg #[.int .u64 0,.int .u64 0,.slice none 0 0]),3,40):=by kernel_rfl
theorem OwnU.shape {base:Nat} {w:World} {v:Value} {l:List Nat} (h:OwnU base w v l):∃ u a,v=.slice u l.length a/\l.length<=a/\a<=maxLen/\(l≠[]->∃ g,u=some ⟨g,0,none⟩/\g<w.heap.size/\∀ j (y:j<l.length),w.cell? ⟨g,j,none⟩=some (.int .u64 (l[j]:Nat))):=by
 rcases h.cases with⟨rfl,rfl⟩ | ⟨g,a,A,rfl,F,B,G,C,E,H,I⟩
 ·exact⟨none,0,rfl,Nat.le_refl _,Nat.zero_le _,fun h=>absurd rfl h⟩
 ·refine⟨_,a,rfl,C,E,fun _=>⟨g,rfl,B,fun j y=>?_⟩⟩
  have:=World.ownsRow.cells h (g:=g) rfl j (uV l[j]) (by rw [List.getElem?_map,List.getElem?_eq_getElem y];rfl)
  rw [zh,Nat.zero_add] at this
  exact this
theorem zac {f:Bool->Bool->Bool} {a b:List En} {r:Nat} {e:En} {ok:Bool} (h:Qi r (qy f (zT a r) (zT b r))=(e,ok)):vE f a b r=if ok=true then some e else none:=by
 unfold vE Xd
 rw [h]
theorem KZ {f:Bool->Bool->Bool} {a b:List En} {L:List Nat} {k:Nat} (hk:k<L.length):(L.take (k+1)).filterMap (vE f a b)=(L.take k).filterMap (vE f a b)++(vE f a b L[k]).toList:=by
 rw [List.take_succ_eq_append_getElem hk,List.filterMap_append,List.filterMap_cons,List.filterMap_nil]
 cases vE f a b L[k]<;>rfl
theorem Ja {P:Program} {f:FuncId} {t:Tmp} {xs:List Operand} {c:Call} {o:Oper} {a:Act} {w:World} {K:Act->World->Prop} {Q:Exit->Act->World->Prop} (ho:o.op=.call c) (A:c.callee=.value (.tmp t)) (E:a.eval (.tmp t)=.func (.func f) #[] #[]) (y:c.args.toList=xs)
 (B:∀ j w,(callFunc f j).run P w=.ok (.enter f j) w)
 (h:Calls P f (xs.map a.eval).toArray w fun e u=>match e with | .returned v=>K (a.put o.dst v) u | .panicked chain=>Q (.panic chain) a u | .outgrown=>LetsOut Q):o.wp P a w K Q:=by
 have C:(execOp a.eval o).run P w=.ok (.enter f (xs.map a.eval).toArray) w:=by
  have e:c.args.map a.eval=(xs.map a.eval).toArray:=Array.toList_inj.1 (by rw [Array.toList_map,y])
  simp only [execOp,ho,resolve,A,e,E,Deferred.ofValue,Sem.run_bind,Sem.run_pure,Result.andThen_ok,invoke]
  rw [show (#[]++(xs.map a.eval).toArray++#[]:Array Value)=(xs.map a.eval).toArray from by simp]
  exact B _ _
 unfold Oper.wp
 rw [C,Oper.upon_enter]
 exact h.mono (fun e F h=>by cases e<;>exact h)
theorem Zi {P:Program} {w:World} {o:Oper} {a:Act} {K:Act->World->Prop} {Q:Exit->Act->World->Prop} (s x:Operand) (t:TypeId)
 (ho:o.op=.call { callee:=.builtin .append,args:=#[s,x],argTypes:=#[t,t] })
 (base:Nat) (e:TypeId) (i:TypeInfo) (z:Value) (size A:Nat) (ht:P.underlying t=some (.slice e)) (hi:P.info? e=some i) (hz:i.zero=some z)
 (F:i.size=size) (M:i.bytes=A) (hzs:z.cells.size=size) (N:0<size)
 (v:Value) (n:Nat) (O:List Value) (hs:a.eval s=v) (H:w.ownsRow base e size v n O)
 (J:Addr) (m c:Nat) (y:List Value) (Z:a.eval x=.slice (some J) m c) (hl:y.length=m * size) (E:∀ j u,y[j]? = some u->w.cell? (J.add j)=some u) (S:∀ u ∈ y,u.oneCell'=true)
 (L:n+m<=maxLen) (B:(n+m) * A<=140737488355328) (C:base<=w.heap.size)
 (h:∀ G I,I.ownsRow base e size G (n+m) (O++y)->w.grownBy I v.ownBlock->(G=.slice none 0 0 ↔ v=.slice none 0 0/\m=0)->(G.ownBlock=v.ownBlock\/G.ownBlock=some w.heap.size)->K (a.put o.dst G) I) :
 o.wp P a w K Q:=by
 obtain⟨G,I,Y,T,U,V,X⟩:=run_append_own_at (P:=P) w base t o.type e i z size A ht hi hz F M hzs N v n O H J m c y hl E S L B C
 unfold Oper.wp execOp
 simp only [ho,resolve,invoke,builtin,Sem.run_bind,Sem.run_pure,Result.andThen_ok,List.map_toArray,List.map_cons,List.map_nil,hs,Z,Y]
 exact h G I T U V X
theorem zcD (C:Nat->Nat->Prop) (a b:List En) (va vb:Value) (w:World) (f:Bool->Bool->Bool) (op:FuncId) (aT:∀ r,Cn Tryz.prog op [rg (zT a r),rg (zT b r)] (rg (qy f (zT a r) (zT b r))))
 (ha:SmV a) (hb:SmV b) (ra:RdF C w.heap.size w va a) (rb:RdF C w.heap.size w vb b) (hC:∀ b o,C b o->b<w.heap.size) (hG:GL C w) :
 Calls Tryz.prog 112 #[va,vb,.func (.func op) #[] #[]] w fun e w'=>∃ v,e=.returned v/\Below w.heap.size w w'/\Dat (DL C w.heap.size w') w' v (vp (ks f a b)):=by
 have ce:=Lib.hid (J4 C a b va vb w ha hb ra rb hC hG)
 have bT:=Lib.hid hG
 have aw:=(aT 0).1
 have cc:=Lib.hid aT
 have HM:=Lib.hid (Xr ha.1 hb.1)
 obtain⟨I,K⟩:∃ I,I=zM a++zM b:=⟨_,rfl⟩
 have cn:I.length<=2097152:=by have h1:=ha.2.1;have h2:=hb.2.1;rw [K];simp [zM];omega
 have ax:ks f a b=(srt I).filterMap (vE f a b):=by rw [K];rfl
 rw [<-K] at HM
 have bf:=Lib.hid ax
 have cE:=Lib.hid K
 clear hG ra rb aT ax
 have aA:True:=trivial
 have aB:True:=trivial
 go_enter Tryz.func112,Tryz.ntmps112
 go_wp2_with (first
  | (go_at_call 159;have _t:=aA;refine ce.out.mono ?_;rintro e J ⟨rfl,bp,D,A,ab⟩
     rw [<-K] at ab
     have cS:w.heap.size<J.heap.size:=A.lt
     have bY:=Lib.hid A
     have bg:=Lib.hid ab
     have bO:=Lib.hid bp
     clear A ab bp aA)
  | (at_range;have _t:=aB;refine wpList_range_own _ rfl _ 195 rfl 24 200 vF Tryz.underlying195 rV w.heap.size (a.length+b.length) D rfl (bY.out.alloc _) ?_;intro w2 ak Q cz;clear aB)
  | go_in)
 go_frame
 simp only [World.size_alloc] at ak cz ⊢
 clear K
 have cM:=Lib.hid Q
 have au:Boxed w2 J.heap.size 198 (.slice none 0 0):=(Boxed.new J _ _).kept Q (by simp)
 have bb:Hid (∀ k,k<J.heap.size->w2.heap[k]? = J.heap[k]?):=Lib.hid fun k hk=>(Q.block k (by simp;omega) (by simp)).trans (Below.heap_alloc _ _ _ hk)
 have bP:=Lib.hid (jL bO.out (S:=fun _=>False) ⟨Q.os,Q.tape,Q.output,Nat.le_trans (by simp) Q.size,fun k hk _=>bb.out k hk⟩ (fun _ _ h=>h) (Nat.le_refl _))
 clear Q
 go_loopg [9] (Maps.size D) (fun g x wr=>∃ left xs v,wr.ranges Tryz.prog 24 rV w.heap.size (J.heap.size+1) (a.length+b.length) D left g/\(∀ r,r ∈ xs ↔ r ∈ I/\left (kR r)=false)/\(∀ r,left (kR r)=true->r ∈ I) /\
  OwnU (J.heap.size+2) wr v (srt xs)/\Boxed wr J.heap.size 198 v/\Keep (fun k=>J.heap.size<=k) w2 wr)
 case atStart=>
  have ab:=bg.out
  refine⟨Maps.has D,[],.slice none 0 0,ak,fun r=>?_,fun r h=>?_,?_,au,Keep.refl _ _⟩
  ·rw [(ab.2 r).1];simp
  ·rw [(ab.2 r).1] at h;simpa using h
  ·rw [XB];exact World.ownsRow_nil _ _ _ _
 case round=>
  obtain⟨left,xs,v,bJ,aV,bC,A,br,hK⟩:=hrel
  obtain⟨wl,cB⟩:∃ x,x=wr:=⟨_,rfl⟩
  subst cB
  have bh:=Lib.hid bJ
  have ao:=Lib.hid aV
  have aF:=Lib.hid bC
  have af:=Lib.hid A
  have aD:=Lib.hid br
  have bW:=Lib.hid hK
  have bK:(srt xs).length<=2097152:=Nat.le_trans (zeK _ I (yi xs) fun y hy=>((aV y).1 (qr.1 hy)).1) cn
  have cG:w2.heap.size<=wl.heap.size:=hK.size
  have bX:Hid (∀ k,k<J.heap.size->wl.heap[k]? = J.heap[k]?):=Lib.hid fun k hk=>(hK.block k (by omega) (by omega)).trans (bb.out k hk)
  have aW:=Lib.hid (jL bP.out hK (fun k hk=>by omega) (Nat.le_refl _))
  have aZ:Hid (GL C wl):=Lib.hid (bT.out.mono (fun _ _ h=>h) fun j o x B V=>(World.cell?_of_block (a:=⟨j,o,none⟩) (aW.out.block j (hC j o B))).trans V)
  clear ak au bJ aV bC A br hK
  go_wp2_with (first
   | (at_next;refine wpList_next_ranges _ rfl _ rfl 24 vF rV (fun r:{r:Nat // r<M64}=>Value.int .u64 (r.1:Nat)) (fun c:Value=>c) zhV (fun v y _=>⟨v,rfl⟩) w.heap.size (J.heap.size+1) (a.length+b.length) D left gk rfl bh.out ?_ ?_)
   | go_in)
  ·intro cP bB
   have hL:srt xs=srt I:=XA (yi I) fun y=>by rw [qr,ao.out y,bB];simp
   have Y:=af.out
   rw [hL] at Y bK
   have c0:=aD.out.cell
   have A:=bh.out.owns
   have HO:=Lib.hid A
   clear A bB hL af ao aF
   obtain⟨L,aJ⟩:∃ L,L=srt I:=⟨_,rfl⟩
   rw [<-aJ] at Y bK
   obtain⟨ad,cO,rfl,cF,cm,bt⟩:=Y.shape
   unfold maxLen at cm
   have bR:=Lib.hid bt
   have be:=Lib.hid aJ
   clear bt aJ Y
   go_wp2_with fail
   go_loopg [10,29] L.length (fun g y x wr=>∃ k,k<=L.length/\g=L.length - k/\x=.int .i64 k/\OutE C w.heap.size wl.heap.size wr y ((L.take k).filterMap (vE f a b))/\Keep (fun k=>wl.heap.size<=k) wl wr)
   case atStart=>exact⟨0,Nat.zero_le _,rfl,rfl,OutE.start _ _ _ _,Keep.refl _ _⟩
   case round=>
    obtain⟨k,hk,rfl,rfl,ay,bn⟩:=hrel
    have ac:=Lib.hid bn
    have F:=Lib.hid ay
    clear bn ay
    have cH:=ac.out.size
    have am:Hid (∀ j,j<wl.heap.size->wr.heap[j]? = wl.heap[j]?):=Lib.hid fun j B=>ac.out.block j B (by omega)
    have bQ:=Lib.hid (jL aW.out ac.out (fun k hk=>by omega) (Nat.le_refl _))
    by_cases M:k<L.length
    ·obtain⟨g,ci,cq,Z⟩:=bR.out (fun e=>by rw [e] at M;simp at M)
     subst ci
     obtain⟨r,hr⟩:∃ r,r=L[k]:=⟨_,rfl⟩
     have cy:r<M64:=HM.out r (by rw [hr,<-be.out];exact List.getElem_mem M)
     have ck:wr.cell? ⟨g,k,none⟩=some (.int .u64 (r:Nat)):=by rw [hr];exact(World.cell?_of_block (a:=⟨g,k,none⟩) (am.out g cq)).trans (Z k M)
     obtain⟨s0,s1,aq,aL,aM⟩:=(bg.out.2 r).2
     obtain⟨a0,n0,rfl⟩:=zK aL
     obtain⟨a1,n1,rfl⟩:=zK aM
     have aQ:=Qf (yg HO.out (am.out _ (by omega))) cy aq
     have aR:∀ j o x,DL C w.heap.size J j o->J.cell? ⟨j,o,none⟩=some x->wr.cell? ⟨j,o,none⟩=some x:=fun j o x B V=>by
      have bw:=World.block_lt_of_cell? J ⟨j,o,none⟩ V
      exact(World.cell?_of_block (a:=⟨j,o,none⟩) ((am.out j (Nat.lt_of_lt_of_le bw (by omega))).trans (bX.out j bw))).trans V
     have aN:∀ j o,DL C w.heap.size J j o->DX C w.heap.size wr u10 j o:=fun j o B=>⟨B.imp id fun h=>⟨h.1,by omega⟩,fun e=>by
      have h5:=(F.out.owns j e).1
      rcases B with B | B
      ·have:=hC j o B;omega
      ·omega⟩
     have ag:∀ j o,DX C w.heap.size wr u10 j o->j<wr.heap.size:=fun j o h=>h.1.elim (fun h=>by have:=hC j o h;omega) And.right
     have aI:GL (DX C w.heap.size wr u10) wr:=aZ.out.mono (fun j o h=>⟨.inl h,fun e=>by have h5:=(F.out.owns j e).1;have:=hC j o h;omega⟩) fun j o x B V=>(World.cell?_of_block (a:=⟨j,o,none⟩) (am.out j (by have:=hC j o B;omega))).trans V
     have an:=Lib.hid ag
     have ba:=Lib.hid aI
     have ae:=Lib.hid (jP (cc.out r) aI ag (vs:=#[.slice a0 (zT a r).length n0,.slice a1 (zT b r).length n1]) rfl (fun i p H=>by
      match i,H with
      | 0,H=>cases H;exact aL.mono aN aR
      | 1,H=>cases H;exact aM.mono aN aR
      | i+2,H=>simp at H))
     have bG:Nrm (qy f (zT a r) (zT b r)):=qH (qi ha.1 r) (qi hb.1 r)
     have cx:(qy f (zT a r) (zT b r)).length<=80100:=by
      have h1:=xR f (zT a r) (zT b r)
      have h2:=ji (n:=1048576) (h:=10000) ha r
      have h3:=ji (n:=1048576) (h:=10000) hb r
      omega
     have aS:=zjT r (qy f (zT a r) (zT b r)) bG (by omega)
     obtain⟨e,ok,hE⟩:∃ e ok,Qi r (qy f (zT a r) (zT b r))=(e,ok):=⟨_,_,rfl⟩
     rw [hE] at aS
     have aG:=Lib.hid aS
     have bD:=zac (f:=f) (a:=a) (b:=b) hE
     have aU:=KZ (f:=f) (a:=a) (b:=b) M
     rw [<-hr,bD] at aU
     have bj:=Lib.hid aU
     have cR:e.holes.length<=1000000:=by
      have:=J0 r (qy f (zT a r) (zT b r))
      rw [hE] at this
      simp only at this
      omega
     have ct:(zT a r).length<=maxLen:=by have:=ji (n:=1048576) (h:=10000) ha r;unfold maxLen;omega
     have cu:(zT b r).length<=maxLen:=by have:=ji (n:=1048576) (h:=10000) hb r;unfold maxLen;omega
     unfold maxLen at ct cu
     have i0:=zkr a0 a1 (zT a r).length (zT b r).length n0 n1
     have i1:=zks a0 a1 (zT a r).length (zT b r).length n0 n1
     obtain⟨ls,bE⟩:∃ ls,ls=qy f (zT a r) (zT b r):=⟨_,rfl⟩
     rw [<-bE] at aG ae cx
     clear aS hE bD aU aq aL aM aR aN Z ag aI bG hr bE
     have cI:True:=trivial
     have cJ:True:=trivial
     have cK:True:=trivial
     cases ok with
     | false=>
       go_wp2_with fail
       refine Ja (t:=35) (f:=op) (xs:=[.tmp 39,.tmp 43]) rfl rfl rfl rfl aw ?_
       refine ae.out.mono ?_
       rintro e' w3 ⟨v3,rfl,G,U⟩
       obtain⟨a3,n3,rfl⟩:=zK U
       have E:=Lib.hid G
       have aE:=Lib.hid U
       clear G U
       dsimp only
       go_wp2_with fail
       refine(jP aG.out (D:=fun j o=>DX C w.heap.size wr u10 j o\/(wr.heap.size<=j/\j<w3.heap.size)) (ba.out.mono (fun _ _ h=>.inl h) fun j o x B V=>(World.cell?_of_block (a:=⟨j,o,none⟩) (E.out.block j (an.out j o B))).trans V) (fun j o h=>h.elim (fun h=>Nat.lt_of_lt_of_le (an.out j o h) E.out.size) And.right) rfl (fun i p H=>?_)).mono ?_
       ·match i,H with
        | 0,H=>cases H;exact .v _
        | 1,H=>cases H;exact aE.out
        | i+2,H=>simp at H
       rintro e' X ⟨v4,rfl,ah,ai⟩
       obtain⟨N,O,rfl,P⟩:=Yk ai
       have T:=Lib.hid ah
       have aY:=Lib.hid P
       clear ah ai P
       dsimp only
       go_wp2_with fail
       go_roundg (L.length - (k+1))
       case measure=>omega
       case rel=>
        have cg:=E.out.size
        have ch:=T.out.size
        refine⟨k+1,M,rfl,by simp,?_,ac.out.trans (((Keep.of_below' E.out (Nat.le_refl _)).trans (Keep.of_below' T.out (Nat.le_refl _))).alloc _)⟩
        rw [bj.out]
        simp only [Bool.false_eq_true,if_false,Option.toList_none,List.append_nil]
        exact F.out.keep (by simp;omega) fun j B=>by rw [Below.heap_alloc _ _ _ (by omega),T.out.block j (by omega),E.out.block j B]
     | true=>
       go_wp2_with fail
       refine Ja (t:=35) (f:=op) (xs:=[.tmp 39,.tmp 43]) rfl rfl rfl rfl aw ?_
       refine ae.out.mono ?_
       rintro e' w3 ⟨v3,rfl,G,U⟩
       obtain⟨a3,n3,rfl⟩:=zK U
       have E:=Lib.hid G
       have aE:=Lib.hid U
       clear G U
       dsimp only
       go_wp2_with fail
       refine(jP aG.out (D:=fun j o=>DX C w.heap.size wr u10 j o\/(wr.heap.size<=j/\j<w3.heap.size)) (ba.out.mono (fun _ _ h=>.inl h) fun j o x B V=>(World.cell?_of_block (a:=⟨j,o,none⟩) (E.out.block j (an.out j o B))).trans V) (fun j o h=>h.elim (fun h=>Nat.lt_of_lt_of_le (an.out j o h) E.out.size) And.right) rfl (fun i p H=>?_)).mono ?_
       ·match i,H with
        | 0,H=>cases H;exact .v _
        | 1,H=>cases H;exact aE.out
        | i+2,H=>simp at H
       rintro e' X ⟨v4,rfl,ah,ai⟩
       obtain⟨N,O,rfl,P⟩:=Yk ai
       have T:=Lib.hid ah
       have aY:=Lib.hid P
       clear ah ai P
       dsimp only
       go_wp2_with fail
       have bL:((X.alloc (.cells #[.int .u64 e.rep,.int .u64 e.max,.slice N e.holes.length O] 38)).alloc (.cells #[.int .u64 e.rep,.int .u64 e.max,.slice N e.holes.length O] 38)).heap.size=X.heap.size+2:=by simp
       have cg:=E.out.size
       have ch:=T.out.size
       have aK:∀ j,j<wr.heap.size->((X.alloc (.cells #[.int .u64 e.rep,.int .u64 e.max,.slice N e.holes.length O] 38)).alloc (.cells #[.int .u64 e.rep,.int .u64 e.max,.slice N e.holes.length O] 38)).heap[j]? = wr.heap[j]?:=fun j B=>by
        rw [Below.heap_alloc _ _ _ (by simp;omega),Below.heap_alloc _ _ _ (by omega),T.out.block j (by omega),E.out.block j B]
       obtain⟨cD,aH,bm⟩:=F.out.keep (by omega) aK
       have bF:((X.alloc (.cells #[.int .u64 e.rep,.int .u64 e.max,.slice N e.holes.length O] 38)).alloc (.cells #[.int .u64 e.rep,.int .u64 e.max,.slice N e.holes.length O] 38)).heap[X.heap.size+1]? = some (.cells #[.int .u64 e.rep,.int .u64 e.max,.slice N e.holes.length O] 38 (0,0)):=by
        have:=World.alloc_heap_new (X.alloc (.cells #[.int .u64 e.rep,.int .u64 e.max,.slice N e.holes.length O] 38)) (.cells #[.int .u64 e.rep,.int .u64 e.max,.slice N e.holes.length O] 38)
        rwa [World.size_alloc] at this
       have bu:Dat (DX C w.heap.size ((X.alloc (.cells #[.int .u64 e.rep,.int .u64 e.max,.slice N e.holes.length O] 38)).alloc (.cells #[.int .u64 e.rep,.int .u64 e.max,.slice N e.holes.length O] 38)) u10) ((X.alloc (.cells #[.int .u64 e.rep,.int .u64 e.max,.slice N e.holes.length O] 38)).alloc (.cells #[.int .u64 e.rep,.int .u64 e.max,.slice N e.holes.length O] 38)) (.slice N e.holes.length O) (rg e.holes):=by
        refine aY.out.mono (fun j o h=>?_) fun j o x h V=>?_
        ·have bM:wr.heap.size<=j->j<X.heap.size->DX C w.heap.size ((X.alloc (.cells #[.int .u64 e.rep,.int .u64 e.max,.slice N e.holes.length O] 38)).alloc (.cells #[.int .u64 e.rep,.int .u64 e.max,.slice N e.holes.length O] 38)) u10 j o:=fun h1 h2=>⟨.inr ⟨by omega,by omega⟩,fun h=>by have:=(F.out.owns j h).2;omega⟩
         rcases h with(h | h) | h
         ·exact⟨h.1.imp id fun h=>⟨h.1,by omega⟩,h.2⟩
         ·exact bM h.1 (by omega)
         ·exact bM (by omega) h.2
        ·have bz:=World.block_lt_of_cell? X ⟨j,o,none⟩ V
         exact(World.cell?_of_block (a:=⟨j,o,none⟩) (by rw [Below.heap_alloc _ _ _ (by simp;exact Nat.lt_succ_of_lt bz),Below.heap_alloc _ _ _ bz])).trans V
       have cQ:((L.take k).filterMap (vE f a b)).length<=k:=Nat.le_trans (List.length_filterMap_le _ _) (by simp;omega)
       obtain⟨ie,cr,cC,cA,cj⟩:=info_parts zkk
       refine Zi _ _ 32 rfl wl.heap.size 38 ie _ 3 40 Tryz.underlying32 cr cC cA cj rfl (by decide) _ _ cD rfl aH ⟨X.heap.size+1,0,none⟩ 1 1 [.int .u64 e.rep,.int .u64 e.max,.slice N e.holes.length O] rfl rfl (fun j u B=>by
        rw [zh,Nat.zero_add]
        exact(zW bF j u (by simpa using B)).1) (fun u hu=>by simp at hu;rcases hu with rfl | rfl | rfl<;>rfl) (by unfold maxLen;omega) (by omega) (by omega) ?_
       intro v6 w6 bI aP _ ar
       have cf:=Lib.hid (OutE.push (mb:=w.heap.size) bm aH bu hC (by omega) bI aP ar)
       have bS:=Lib.hid aP
       have cL:=Lib.hid aK
       have cN:=Lib.hid bL
       have cb:=Lib.hid (fun j (h:u10.ownBlock=some j)=>(F.out.owns j h).1)
       clear bI aP ar aH bm bu bF aK bL
       go_wp2_with fail
       go_roundg (L.length - (k+1))
       case measure=>omega
       case rel=>
        refine⟨k+1,M,rfl,by simp,?_,ac.out.trans ((((((Keep.of_below' E.out (Nat.le_refl _)).trans (Keep.of_below' T.out (Nat.le_refl _))).alloc _).alloc _).grown bS.out fun j B _=>cb.out j B))⟩
        rw [bj.out]
        simp only [if_true,Option.toList_some]
        exact cf.out
    ·obtain rfl:k=L.length:=by omega
     go_wp2_with fail
     refine bodyPost_ret (results_tmp rfl _ _ _) rfl ?_
     have h:=F.out.dat (by omega)
     rw [List.take_length,be.out,<-bf.out] at h
     exact⟨_,rfl,bQ.out,h⟩
  ·intro x V c kl y ys w3 bl aj aQ hv aq az M aO cT co
   try dsimp only at aj co ⊢
   obtain rfl:kl=kR x:=by
    have:=(Zq V).symm.trans aj
    simpa using this.symm
   have bi:=Lib.hid az
   have bU:=Lib.hid ((bW.out.grown aO (fun k hk _=>by cases hk;omega)))
   have G:∀ k,k≠J.heap.size+1->k<wl.heap.size->w3.heap[k]? = wl.heap[k]?:=fun k hk cs=>aO.block k cs (fun e=>hk (by cases e;rfl))
   have E:=Lib.hid G
   have bq:=aD.out.lt
   have bN:=Lib.hid (zaD (C:=C) (base:=J.heap.size+2) (rb:=J.heap.size) (w:=w3) (v:=v) (xs:=xs) x (af.out.keep fun g hg=>G g (by have:=(af.out.lt g hg).1;omega) (af.out.lt g hg).2) ((G _ (by omega) bq).trans aD.out) (by omega) (fun h=>by have:=((ao.out x).1 h).2;rw [aQ] at this;cases this) (by omega) (by omega)
    (fun b o h=>by have:=hC b o h;omega) (aZ.out.mono (fun _ _ h=>h) fun j o y B hy=>(World.cell?_of_block (a:=⟨j,o,none⟩) (G j (by have:=hC j o B;omega) (by have:=hC j o B;omega))).trans hy))
   clear aj hv aq az aO G
   have aC:True:=trivial
   go_wp2_with (first
    | (go_at_call 160;have _t:=aC;refine bN.out.mono ?_;rintro e X ⟨⟨u,rfl⟩,v',av,bH,bA⟩;have aX:=Lib.hid av;have bZ:=Lib.hid bH;have bc:=Lib.hid bA;clear av bH bA aC)
    | go_in)
   go_roundg bl
   case measure=>exact M
   case rel=>
    have hm:∀ k,k<w3.heap.size->k≠J.heap.size->k<J.heap.size+2->X.heap[k]? = w3.heap[k]?:=fun k hk h1 h2=>bc.out.block k hk (by omega)
    refine⟨_,xs++[x],v',yD bi.out (hm _ (by omega) (by omega) (by omega)) (hm _ (by omega) (by omega) (by omega)),fun r=>?_,fun r h=>?_,bZ.out,aX.out,bU.out.trans (bc.out.mono fun k _ h=>by omega)⟩
    ·rw [QM,List.mem_append,ao.out r,List.mem_singleton]
     constructor
     ·rintro(⟨h1,h2⟩ | rfl)
      ·exact⟨h1,.inl h2⟩
      ·exact⟨aF.out _ aQ,.inr rfl⟩
     ·rintro⟨h1,h2 | h2⟩
      ·exact .inl ⟨h1,h2⟩
      ·exact .inr h2
    ·exact aF.out r (by cases h0:left (kR r) with | true=>rfl | false=>rw [h0] at h;simp at h)
theorem yZ {f:FuncId} {B:List PV} {r:PV} (G:r.own=none) (j:∀ a w,(callFunc f a).run Tryz.prog w=.ok (.enter f a) w)
 (h:∀(D:Nat->Nat->Prop) (w:World) (u:Array Value),GL D w->(∀ b o,D b o->b<w.heap.size)->u.size=B.length->(∀(i:Nat) p,B[i]? = some p->Dat D w (u.getD i undef) p) ->
   Calls Tryz.prog f u w fun e y=>∃ v,e=.returned v/\Below w.heap.size w y/\Dat (fun b o=>D b o\/(w.heap.size<=b/\b<y.heap.size)) y v r):Cn Tryz.prog f B r:=by
 refine⟨j,fun D w u E C A F=>(h D w u E C A F).mono ?_⟩
 rintro e y ⟨v,rfl,hb,H⟩
 exact⟨v,_,rfl,hb,fun b o h=>.inl h,fun b o h=>h.imp id And.left,fun b o h=>h.elim (fun h=>Nat.lt_of_lt_of_le (C b o h) hb.size) And.right,H,zr G⟩
theorem zjx {a:Array Value} (h:a.size=3):a=#[a.getD 0 undef,a.getD 1 undef,a.getD 2 undef]:=by
 obtain⟨l⟩:=a
 match l,h with
 | [x,y,z],_=>rfl
theorem zcA {D:Nat->Nat->Prop} {w:World} {x:Value} {f:Fn} (h:Dat D w x (.fn f [] [])):x=.func f #[] #[]:=by
 cases h with
 | fn f va vb fs cs h1 h2 _ _=>
   rw [Array.size_eq_zero_iff.1 h1,Array.size_eq_zero_iff.1 h2]
theorem SmV.bd {v:List En} (h:SmV v):∀ e ∈ v,ZL e:=fun e a=>Jg (h.1.1 e a)
theorem zde (a b:List En) (f:Bool->Bool->Bool) (op:FuncId) (A:∀ r,Cn Tryz.prog op [rg (zT a r),rg (zT b r)] (rg (qy f (zT a r) (zT b r)))) (C:SmV a) (hb:SmV b) :
 Cn Tryz.prog 112 [vp a,vp b,.fn (.func op) [] []] (vp (ks f a b)):=by
 refine yZ rfl (enters_of Tryz.func112 (by kernel_rfl) rfl) fun D w F E u B j=>?_
 rw [zjx B,zcA (j 2 _ rfl)]
 refine(zcD D a b _ _ w f op A C hb (KO (j 0 _ rfl) u C.bd) (KO (j 1 _ rfl) u hb.bd) u E).mono ?_
 rintro e G ⟨v,rfl,y,j⟩
 exact⟨v,rfl,y,j.mono (fun b o h=>h.imp id fun h=>⟨by omega,h.2⟩) fun _ _ _ _ h=>h⟩
theorem qS {v:List En} (h:SmV v) (r:Nat):Nrm (zT v r)/\(zT v r).length<=20003:=⟨qi h.1 r,ji (n:=1048576) (h:=10000) h r⟩
theorem zdc (a b:List En) (j:SmV a) (hb:SmV b):Cn Tryz.prog 65 [vp a,vp b] (vp (ks zn a b)):=by
 have h:=zde a b zn 69 (fun r=>zaz _ _ (qS j r).1 (qS hb r).1 (by have:=(qS j r).2;have:=(qS hb r).2;omega)) j hb
 refine zt Tryz.func65 2 ?_
 refine pw ?_
 (first | exact .d (h) | exact .q (h))
theorem zfC (a b:List En) (j:SmV a) (hb:SmV b):Cn Tryz.prog 73 [vp a,vp b] (vp (ks y5 a b)):=by
 have h:=zde a b y5 80 (fun r=>zif _ _ (qS j r).1 (qS hb r).1 (by have:=(qS j r).2;have:=(qS hb r).2;omega)) j hb
 refine zt Tryz.func73 2 ?_
 refine pw ?_
 (first | exact .d (h) | exact .q (h))
theorem zdb (a b:List En) (j:SmV a) (hb:SmV b):Cn Tryz.prog 82 [vp a,vp b] (vp (ks zm a b)):=by
 have h:=zde a b zm 124 (fun r=>zfN _ _ (qS j r).1 (qS hb r).1 (by have:=(qS j r).2;have:=(qS hb r).2;omega)) j hb
 refine zt Tryz.func82 2 ?_
 refine pw ?_
 (first | exact .d (h) | exact .q (h))
end Go.Proofs.YtonhfknjcbakiaaGreatDoor
namespace Go.Proofs.YtonhfknjcbakiaaGreatDoor
open Go.RowKit
theorem RightV.take {v:List En} (h:RightV v) (k:Nat):RightV (v.take k):=⟨fun e a=>h.1 e (List.mem_of_mem_take a),h.2.sublist (List.take_sublist _ _)⟩
theorem kD (v:List En) (r:Nat) (a:SmV v):Cn Tryz.prog 148 [vp v,.v (.int .u64 r)] (rg (zT v r)):=by
 have hl:=a.2.1
 refine zt Tryz.func148 2 ?_
 refine pw ?_
 refine .rd (zbB v r (by omega)) rfl ?_
 rcases X2 r v 0 with⟨e1,e2⟩ | ⟨i,hi,e1,e2⟩
 ·rw [e1,qC e2]
  exact pd
 ·have u:=a.2.2 _ (List.getElem_mem hi)
  rw [e1,zh8 a.1 hi e2,Nat.zero_add]
  refine pw ?_
  refine .i ?_ ?_<;>intro j<;>(try simp only [nrm_l] at j)<;>first | refine pw ?_ | exact pd
  ·exact absurd j (by omega)
  ·exact .d (Vl v[i] (a.1.1 _ (List.getElem_mem hi)) (by omega))
theorem zoF {r c:Nat} (u:r<M64) (a:c<M64):SmV (zl9 r c):=by
 have h:=zoD u a
 exact⟨h.1,by have:=h.2.1;omega,fun e j=>by have:=h.2.2 e j;omega⟩
theorem zoX (v:List En) (r c:Nat) (u:SmV v) (j:r<M64) (a:c<M64):Cn Tryz.prog 91 [vp v,.v (.int .u64 r),.v (.int .u64 c)] (vp (ks zn v (zl9 r c))):=by
 have h:=zdc v (zl9 r c) u (zoF j a)
 refine zt Tryz.func91 3 ?_
 refine pw ?_
 refine .c (zjT r [⟨c,c⟩] (zmc a) (by simp)) ?_
 (first | exact .d (h) | exact .q (h))
def vps (a:List (List En)):PV:=.sl (a.map fun v=>[vp v]) .sh
attribute [go_sem] vps
theorem zo3 {x:List Iv} (a:Nrm x):qy zm x []=x:=vK a trivial a fun t _=>by simp [zm]
theorem kn0 (r m:Nat) (a:m<M64):kn ⟨r,m,[]⟩=[⟨0,m⟩]:=zo3 (qG (Nat.zero_le _) a)
def u10:List En:=[⟨1,4,[]⟩,⟨2,3,[]⟩]
def c10:List En:=[⟨3,0,[]⟩]
theorem BV.sm {n h:Nat} {v:List En} (a:BV n h v) (u:n<=1048576) (w:h<=10000):SmV v:=⟨a.1,by have:=a.2.1;omega,fun e j=>by have:=a.2.2 e j;omega⟩
theorem zdi {l:List Iv} {x:Nat} (w:mem l x=true) (a:x=0\/mem l (x - 1)=false):x ∈ l.map Iv.lo:=by
 obtain⟨s,hs,u,y⟩:=qf.1 w
 refine List.mem_map.2 ⟨s,hs,?_⟩
 rcases Nat.lt_or_eq_of_le u with j | j
 ·rcases a with a | a
  ·omega
  ·have:mem l (x - 1)=true:=qf.2 ⟨s,hs,by omega,by omega⟩
   rw [this] at a;cases a
 ·exact j
theorem zbS {a b:List Iv} (w:Nrm a) (hb:Nrm b):(qy zn a b).length<=a.length+b.length:=by
 have A:=qH (f:=zn) w hb
 have:=Ji ((qy zn a b).map Iv.lo) (a.map Iv.lo++b.map Iv.lo) (NF.asc A) fun y F=>by
  obtain⟨s,hs,rfl⟩:=List.mem_map.1 F
  have E:=NF.lo_ge A s hs
  have j:mem (qy zn a b) s.lo=true:=qf.2 ⟨s,hs,Nat.le_refl _,E.2.1⟩
  have C:s.lo=0\/(mem a (s.lo - 1)=false/\mem b (s.lo - 1)=false):=by
   by_cases B:s.lo=0
   ·exact .inl B
   ·have u:=NF.lo_prev A s hs B
    rw [qj w hb (by omega)] at u
    simp only [zn,Bool.or_eq_false_iff] at u
    exact .inr u
  rw [qj w hb (by omega)] at j
  simp only [zn,Bool.or_eq_true] at j
  rcases j with j | j
  ·exact List.mem_append_left _ (zdi j (C.imp id And.left))
  ·exact List.mem_append_right _ (zdi j (C.imp id And.right))
 simpa using this
def qE:List Fg->Nat
 | []=>0
 | f::k=>f.items.length+qE k
theorem kK:∀(a b:List Fg),qE (a++b)=qE a+qE b
 | [],b=>by simp [qE]
 | f::a,b=>by simp only [List.cons_append,qE,kK a b];omega
theorem yv:∀ {k:List Fg} {f:Fg},f ∈ k->f.items.length<=qE k
 | g::k,f,h=>by
   rcases List.mem_cons.1 h with rfl | h
   ·simp only [qE];omega
   ·have:=yv h;simp only [qE];omega
theorem YO:∀ k:List Fg,(CI k).length<=2 * qE k
 | []=>by simp [CI,qE]
 | f::k=>by
   have a:=YO k
   have j:=vq f.items
   have:CI (f::k)=z6 f.items++CI k:=rfl
   rw [this,List.length_append,qE];omega
theorem Zf (V:Iv->List En):∀ l:List Iv,qE (l.map fun s=>⟨[s],V s⟩)=l.length
 | []=>rfl
 | s::l=>by rw [List.map_cons,qE,Zf V l];simp;omega
theorem Vg:∀ {o:List Fg} {f:Fg},(∀ g ∈ o,Nrm g.items)->Nrm f.items->qE (qN o f)<=qE o+f.items.length/\(qN o f).length<=o.length+1/\∀ g ∈ qN o f,g.vec=f.vec\/∃ h ∈ o,g.vec=h.vec
 | [],f,_,_=>⟨by simp [qN,qE],by simp [qN],fun g j=>by simp only [qN,List.mem_singleton] at j;subst j;exact .inl rfl⟩
 | g::o,f,ho,hf=>by
   have A:=Vg (o:=o) (f:=f) (fun x a=>ho x (by simp [a])) hf
   have j:=ho g (by simp)
   have B:=zbS j hf
   unfold qN
   by_cases u:zZ (zv g.vec) (zv f.vec)<0
   ·rw [if_pos u]
    refine⟨by simp only [qE];omega,by simp only [List.length_cons];omega,fun x a=>?_⟩
    rcases List.mem_cons.1 a with rfl | a
    ·exact .inr ⟨_,by simp,rfl⟩
    ·exact(A.2.2 x a).imp id fun⟨y,hy,e⟩=>⟨y,by simp [hy],e⟩
   ·rw [if_neg u]
    by_cases w:zZ (zv g.vec) (zv f.vec)=0
    ·rw [if_pos w]
     refine⟨by simp only [qE];omega,by simp,fun x a=>?_⟩
     rcases List.mem_cons.1 a with rfl | a
     ·exact .inl rfl
     ·exact .inr ⟨x,by simp [a],rfl⟩
    ·rw [if_neg w]
     refine⟨by simp only [qE];omega,by simp,fun x a=>?_⟩
     rcases List.mem_cons.1 a with rfl | a
     ·exact .inl rfl
     ·exact .inr ⟨x,a,rfl⟩
theorem Yq:∀ {k o:List Fg},GrpI o->RightK k->qE (k.foldl yo o)<=qE o+qE k/\(k.foldl yo o).length<=o.length+k.length/\∀ g ∈ k.foldl yo o,(∃ f ∈ k,g.vec=zi f.vec)\/∃ h ∈ o,g.vec=h.vec
 | [],o,_,_=>⟨by simp,by simp,fun g a=>.inr ⟨g,a,rfl⟩⟩
 | f::k,o,ho,hk=>by
   have u:=hk f (by simp)
   have w:=Yq (k:=k) (o:=yo o f) (Yr ho u).1 fun g a=>hk g (by simp [a])
   rw [List.foldl_cons]
   have A:qE (yo o f)<=qE o+f.items.length/\(yo o f).length<=o.length+1/\∀ g ∈ yo o f,g.vec=zi f.vec\/∃ h ∈ o,g.vec=h.vec:=by
    unfold yo
    split
    ·exact⟨by omega,by omega,fun g a=>.inr ⟨g,a,rfl⟩⟩
    ·exact Vg (fun g a=>(ho.ok g a).2.2.1) u.1
   refine⟨by simp only [qE];omega,by simp only [List.length_cons];omega,fun g a=>?_⟩
   rcases w.2.2 g a with⟨x,j,e⟩ | ⟨x,j,e⟩
   ·exact .inl ⟨x,by simp [j],e⟩
   ·rcases A.2.2 x j with e2 | ⟨y,B,e2⟩
    ·exact .inl ⟨f,by simp,e.trans e2⟩
    ·exact .inr ⟨y,B,e.trans e2⟩
theorem jU {k:List Fg} (h:RightK k):qE (zL k)<=qE k/\(zL k).length<=k.length/\∀ g ∈ zL k,∃ f ∈ k,g.vec=zi f.vec:=by
 have:=Yq (o:=[]) GrpI.nil h
 refine⟨by simpa [qE,zL] using this.1,by simpa [zL] using this.2.1,fun g a=>?_⟩
 rcases this.2.2 g a with h | ⟨x,j,_⟩
 ·exact h
 ·cases j
theorem Zo {k:List Fg} {j:Nat} (h:j<k.length):zL (k.take (j+1))=yo (zL (k.take j)) k[j]:=by
 unfold zL
 rw [List.take_succ_eq_append_getElem h,List.foldl_append]
 rfl
theorem zfS {v:List En} {h:Nat} (w:∀ e ∈ v,e.holes.length<=h):(zv v).length<=1+v.length * (3+2 * h):=by
 have:∀ {v:List En},(∀ e ∈ v,e.holes.length<=h)->(v.flatMap zC).length<=v.length * (3+2 * h):=by
  intro v
  induction v with
  | nil=>intro _;simp
  | cons e v ih=>
    intro a
    have y:=ih fun f u=>a f (by simp [u])
    have A:=a e (by simp)
    have j:(v.length+1) * (3+2 * h)=v.length * (3+2 * h)+(3+2 * h):=Nat.succ_mul _ _
    simp only [List.flatMap_cons,List.length_append,zC,List.length_cons,xx,j]
    omega
 have:=this w
 unfold zv
 simp only [List.length_cons]
 omega
theorem WV.nlen {C:Nat->List Nat} {R:List Nat} {v:List En} (h:WV C R v) (u:∀ r,(C r).length<=9000) (w:R.length<=20000):(zv v).length<=1073741824:=by
 obtain⟨_,a,j⟩:=h.bv u w
 have y:=zfS j
 have A:v.length * (3+2 * (9000+2))<=20000 * (3+2 * (9000+2)):=Nat.mul_le_mul_right _ a
 omega
theorem zaJ:CanK []:=⟨GrpI.nil,List.Pairwise.nil⟩
theorem zcY (i r c:Nat):hasK [] i r c=false:=rfl
theorem KP {f:Bool->Bool->Bool} (w:f false false=false) {a b:List Fg} (u:RightK a) (hb:RightK b):vh f a b=[] ↔ ∀ i r c,i<M64->c<M64->f (hasK a i r c) (hasK b i r c)=false:=by
 constructor
 ·intro h i r c hi j
  rw [<-zcZ w u hb hi j,h];rfl
 ·intro h
  exact XN (ze5 u hb) zaJ fun i r c hi j=>by rw [zcZ w u hb hi j,h i r c hi j];rfl
theorem V0 {a b:List Fg} (w:RightK a) (hb:RightK b):vh zm a b=[] ↔ ∀ i r c,i<M64->c<M64->hasK a i r c=true->hasK b i r c=true:=by
 rw [KP rfl w hb]
 refine⟨fun h i r c hi j u=>?_,fun h i r c hi j=>?_⟩
 ·have:=h i r c hi j
  rw [u] at this
  simpa [zm] using this
 ·have:=h i r c hi j
  cases u:hasK a i r c<;>cases h2:hasK b i r c<;>simp_all [zm]
theorem zqm {a b:List Iv} (j:Nrm a) (hb:Nrm b):(qy y5 a b).length<=2 * (a.length+b.length):=by
 have u:=zcK (C:=z6 a++z6 b) (qH (f:=y5) j hb) fun x w=>(zcM rfl j hb w).elim (fun h=>List.mem_append.2 (.inl (Y3 j.ivs2 h))) (fun h=>List.mem_append.2 (.inr (Y3 hb.ivs2 h)))
 have y:=vq a
 have A:=vq b
 rw [List.length_append] at u
 omega
def zl5 (k:List Fg) (items:List Iv):List Fg:=k.map fun f=>⟨qy y5 f.items items,f.vec⟩
theorem znX {k:List Fg} {items:List Iv} (h:RightK k) (hi:Nrm items):RightK (zl5 k items):=fun g j=>by
 obtain⟨f,a,rfl⟩:=List.mem_map.1 j
 exact⟨qH (h f a).1 hi,(h f a).2⟩
theorem zoG {items:List Iv} (hi:Nrm items):∀ {k:List Fg},RightK k->qE (zl5 k items)<=2 * qE k+2 * (k.length * items.length)
 | [],_=>Nat.zero_le _
 | f::k,h=>by
   have j:=zoG hi (k:=k) fun g a=>h g (by simp [a])
   have u:=zqm (h f (by simp)).1 hi
   have e:zl5 (f::k) items=⟨qy y5 f.items items,f.vec⟩::zl5 k items:=rfl
   rw [e]
   simp only [qE,List.length_cons,Nat.add_mul,Nat.one_mul]
   omega
theorem zn1 {k:List Fg} {items:List Iv} (h:RightK k) (hi:Nrm items):CanK (znF k items):=zbX (znX h hi)
end Go.Proofs.YtonhfknjcbakiaaGreatDoor
namespace Go.Proofs.YtonhfknjcbakiaaGreatDoor
open Go.RowKit Go.Maps
attribute [-go_sem] nat_succ
theorem zim {D:Nat->Nat->Prop} {w:World} {v:Value} {l:List Nat} (h:Dat D w v (ns l)):∃ G y,v=.slice G l.length y/\l.length<=y/\y<=maxLen/\(l≠[]->∃ b A,G=some ⟨b,A,none⟩/\∀ j (J:j<l.length),D b (A+j)/\w.cell? ⟨b,A+j,none⟩=some (.int .u64 (l[j]:Nat))):=by
 unfold ns at h
 generalize I:l.map yN=es at h
 cases h with
 | sl a y sz es o b A u hc hz hm ha hsz hd hx=>
   have hl:es.length=l.length:=by rw [<-I];simp
   refine⟨a,y,by rw [hl],by omega,hm,fun F=>?_⟩
   have B:0<l.length:=List.length_pos_iff.2 F
   have g:∀ i (h:i<l.length),es[i]? = some (yN l[i]):=fun i h=>by rw [<-I];exact xo h
   obtain rfl:1=sz:=hsz 0 _ (g 0 B)
   have E:es≠[]:=by intro e;subst e;simp at hl;omega
   refine⟨b,A,ha E,fun j J=>?_⟩
   have K:=(hx j _ 0 _ (g j J) rfl).v_inv
   obtain⟨H,C,_⟩:=hd (j * 1+0) (by omega)
   rw [K] at C
   simp only [Nat.mul_one,Nat.add_zero] at H C
   exact⟨H,C⟩
theorem ve {P:Program} (w:World) (t u e:TypeId) (i:TypeInfo) (ht:P.underlying t=some (.slice e)) (hi:P.info? e=some i) (a:Option Addr) (n cp c:Nat) (j:n<=cp) :
 (Builtin.append_ #[t,t] u #[.slice a n cp,.slice none 0 c]).run P w=.ok (.slice a n cp) w:=by
 cases a<;>simp [Builtin.append_,run_underlying ht,sizeOf,typeInfo,hi,Builtin.lenOf,Builtin.firstCells,j,storeCells]
theorem zbE (w:World) (t N:TypeId) (ht:Tryz.prog.underlying t=some (.slice 24)) (base:Nat) (v:Value) (n:Nat) (O:List Value) (A:w.ownsRow base 24 1 v n O) (H:Option Addr) (m c:Nat) (y:List Value) (hl:y.length=m)
 (C:(m=0/\H=none)\/∃ a,H=some a/\∀ j u,y[j]? = some u->w.cell? (a.add j)=some u) (U:∀ u ∈ y,u.oneCell'=true) (V:n+m<=17179869184) (B:base<=w.heap.size) :
 ∃ E G,(Builtin.append_ #[t,t] N #[v,.slice H m c]).run Tryz.prog w=.ok E G/\G.ownsRow base 24 1 E (n+m) (O++y)/\w.grownBy G v.ownBlock/\(E.ownBlock=v.ownBlock\/E.ownBlock=some w.heap.size):=by
 obtain⟨Q,F,K,L,M⟩:=info_parts Vf
 rcases C with⟨rfl,rfl⟩ | ⟨a,rfl,X⟩
 ·obtain rfl:y=[]:=List.length_eq_zero_iff.1 hl
  obtain⟨I,cp,rfl,J⟩:∃ I cp,v=.slice I n cp/\n<=cp:=by
   rcases A.2 with⟨rfl,rfl⟩ | ⟨g,S,T,rfl,_,_,h,_⟩
   ·exact⟨none,0,rfl,Nat.le_refl _⟩
   ·exact⟨_,_,rfl,h⟩
  exact⟨_,w,ve w t N _ Q ht F I n cp c J,by simpa using A,jW _ _,.inl rfl⟩
 ·obtain⟨E,G,Y,Z,r3,_,r5⟩:=run_append_own_at (P:=Tryz.prog) w base t N 24 Q _ 1 8 ht F K L M rfl (by decide) v n O A a m c y (by simpa using hl) X U (by unfold maxLen;omega) (by omega) B
  exact⟨E,G,Y,Z,r3,r5⟩
theorem xK {G:Array Oper} {o:Oper} {a:Act} {w:World} {K:Act->World->Prop} {Q:Exit->Act->World->Prop} {E:Prop} (s x:Operand) (t:TypeId) (L:o.guard=none)
 (ho:o.op=.call { callee:=.builtin .append,args:=#[s,x],argTypes:=#[t,t] }) (ht:Tryz.prog.underlying t=some (.slice 24)) (base:Nat) (v:Value) (n:Nat) (M:List Value) (hs:a.eval s=v) (F:w.ownsRow base 24 1 v n M)
 (I:Option Addr) (m c:Nat) (y:List Value) (V:a.eval x=.slice I m c) (hl:y.length=m) (B:(m=0/\I=none)\/∃ a,I=some a/\∀ j u,y[j]? = some u->w.cell? (a.add j)=some u) (N:∀ u ∈ y,u.oneCell'=true) (J:n+m<=17179869184) (A:base<=w.heap.size)
 (h:∀ C H,H.ownsRow base 24 1 C (n+m) (M++y)->w.grownBy H v.ownBlock->(C.ownBlock=v.ownBlock\/C.ownBlock=some w.heap.size)->K (a.put o.dst C) H):if Region.wanted o (yielded G a.tmps)=true then Oper.wp Tryz.prog o a w K Q else E:=by
 have U:Region.wanted o (yielded G a.tmps)=true:=by simp [Region.wanted,L]
 rw [if_pos U]
 obtain⟨C,H,T,O,P,S⟩:=zbE w t o.type ht base v n M F I m c y hl B N J A
 unfold Oper.wp execOp
 simp only [ho,resolve,invoke,builtin,Sem.run_bind,Sem.run_pure,Result.andThen_ok,List.map_toArray,List.map_cons,List.map_nil,hs,V,T]
 exact h C H O P S
theorem zdy {w:World} {base A:Nat} (a:base<=A) (h:w.heap[A]? = some (.cells #[] 24 (0,0))):w.ownsRow base 24 1 (.slice (some ⟨A,0,none⟩) 0 0) 0 []:=⟨rfl,.inr ⟨A,0,#[],rfl,a,h,Nat.le_refl _,Nat.zero_le _,rfl,rfl⟩⟩
theorem yw (w:World) (o a:Obj):((w.alloc o).alloc a).heap[w.heap.size]? = some o:=(Below.heap_alloc _ _ _ (by simp)).trans (World.alloc_heap_new w o)
theorem yx (w:World) (o a:Obj):((w.alloc o).alloc a).heap[w.heap.size+1]? = some a:=by
 have:=World.alloc_heap_new (w.alloc o) a
 rwa [World.size_alloc] at this
theorem YR (w:World) (o:Obj):Below w.heap.size w (w.drew.alloc o):=⟨rfl,rfl,rfl,by simp,fun k hk=>Below.heap_alloc w.drew _ _ hk⟩
theorem XM (w:World) (o a:Obj):Below w.heap.size w ((w.drew.alloc o).alloc a):=(YR w o).alloc (by simp) _
theorem zbw (C:Nat->Nat->Prop) (N:List Nat) (x:Nat) (va:Value) (w:World) (hl:(srt N).length<=4194304) (hd:Dat C w va (ns (srt N))) (hC:∀ b o,C b o->b<w.heap.size) :
 Calls Tryz.prog 145 #[va,.int .u64 (x:Nat)] w fun e w'=>∃ v,e=.returned v/\Below w.heap.size w w'/\Dat (fun b o=>C b o\/(w.heap.size<=b/\b<w'.heap.size)) w' v (ns (srt (N++[x]))):=by
 obtain⟨l,ac⟩:∃ l,l=srt N:=⟨_,rfl⟩
 have HD:=Lib.hid hd
 rw [<-ac] at hl hd
 have F:=Lib.hid ac
 obtain⟨Y,O,rfl,aI,aD,au⟩:=zim hd
 have ai:=Lib.hid au
 clear hd ac au
 unfold maxLen at aD
 go_enter Tryz.func145,Tryz.ntmps145
 go_wp2_with fail
 go_loopg [5] l.length (fun g y wr=>wr=w/\∃ k,k<=l.length/\g=l.length - k/\y=.int .i64 k/\∀ j,(h:j<l.length)->j<k->l[j]<x)
 case atStart=>exact⟨rfl,0,Nat.zero_le _,rfl,rfl,fun j _ h=>absurd h (by omega)⟩
 case round=>
  obtain⟨rfl,k,hk,rfl,rfl,B⟩:=hrel
  have HJ:=Lib.hid B
  clear B
  by_cases S:k<l.length
  ·obtain⟨b,G,rfl,H⟩:=ai.out (fun e=>by rw [e] at S;simp at S)
   have ar:=(H k S).2
   obtain⟨y,Z⟩:∃ y,y=l[k]:=⟨_,rfl⟩
   rw [<-Z] at ar
   have HY:=Lib.hid Z
   have aj:=Lib.hid H
   clear Z H
   by_cases h2:y<x
   ·go_wp2_with fail
    go_roundg (l.length - (k+1))
    case measure=>omega
    case rel=>
     refine⟨rfl,k+1,S,rfl,by simp,fun j aE aJ=>?_⟩
     rcases Nat.lt_or_ge j k with h3 | h3
     ·exact HJ.out j aE h3
     ·obtain rfl:j=k:=by omega
      rw [<-HY.out];exact h2
   ·by_cases h3:y=x
    ·go_wp2_with fail
     refine bodyPost_ret (results_tmp rfl _ _ _) rfl ?_
     have av:x ∈ srt N:=by rw [<-F.out,<-h3,HY.out];exact List.getElem_mem S
     rw [zaw av]
     exact⟨_,rfl,Below.refl _ _,HD.out.mono (fun _ _ h=>.inl h) fun _ _ _ _ h=>h⟩
    ·go_wp2_with fail
     have af:Tryz.prog.follows .mixedOrders=true:=by kernel_rfl
     have V:∀ u ∈ (l.take k).map uV,u.oneCell'=true:=QN
     have ae:∀ u ∈ (l.drop k).map uV,u.oneCell'=true:=QN
     have M:∀ u ∈ [uV x],u.oneCell'=true:=fun u hu=>by simp at hu;subst hu;rfl
     have L:∀ W:World,Below wr.heap.size wr W->∀ j (B:j<l.length),W.cell? ⟨b,G+j,none⟩=some (uV l[j]):=fun W hB j B=>(World.cell?_of_block (a:=⟨b,G+j,none⟩) (hB.block b (hC _ _ (aj.out j B).1))).trans (aj.out j B).2
     have aw:∀ W:World,Below wr.heap.size wr W->(k=0/\(some (⟨b,G,none⟩:Addr))=none)\/∃ a,some (⟨b,G,none⟩:Addr)=some a/\∀ j u,((l.take k).map uV)[j]? = some u->W.cell? (a.add j)=some u:=fun W hB=>.inr ⟨_,rfl,fun j u h=>by
      rw [List.getElem?_map] at h
      obtain⟨y,Z,rfl⟩:=Option.map_eq_some_iff.1 h
      obtain⟨B,rfl⟩:=List.getElem?_eq_some_iff.1 Z
      rw [zh,List.getElem_take]
      exact L W hB j (by simp at B;omega)⟩
     have ax:∀ W:World,Below wr.heap.size wr W->(l.length - k=0/\(some (⟨b,G+k,none⟩:Addr))=none)\/∃ a,some (⟨b,G+k,none⟩:Addr)=some a/\∀ j u,((l.drop k).map uV)[j]? = some u->W.cell? (a.add j)=some u:=fun W hB=>.inr ⟨_,rfl,fun j u h=>by
      rw [List.getElem?_map] at h
      obtain⟨y,Z,rfl⟩:=Option.map_eq_some_iff.1 h
      obtain⟨B,rfl⟩:=List.getElem?_eq_some_iff.1 Z
      rw [zh,List.getElem_drop,show G+k+j=G+(k+j) by omega]
      exact L W hB (k+j) (by simp at B;omega)⟩
     have az:=Lib.hid aw
     have aA:=Lib.hid ax
     have ar:¬(O=k):=by omega
     have aK:k<=O:=by omega
     have aL:k<=l.length:=by omega
     have I:∀ v w,w.ownsRow wr.heap.size 24 1 v (k+1+(l.length - k)) ((l.take k).map uV++([uV x]++(l.drop k).map uV))->OwnN wr.heap.size w v (srt (N++[x])):=fun v w h=>by
      have hi:=kJ (xs:=N) (x:=x) (at_:=k) (by rw [<-F.out];omega) (fun j h5 h6=>by
       have h7:l[k]<=(srt N)[j]:=by
        rcases Nat.eq_or_lt_of_le h6 with h8 | h8
        ·subst h8;simp only [F.out];exact Nat.le_refl _
        ·have:=jJ (yi N) h5 h8
         simp only [F.out];omega
       have:=HY.out
       omega) (by
       rcases Nat.eq_zero_or_pos k with h5 | h5
       ·exact .inl h5
       ·refine .inr ⟨by rw [<-F.out];omega,?_⟩
        have h6:=HJ.out (k - 1) (by omega) (by omega)
        simpa only [F.out] using h6)
      rw [hi,<-F.out]
      unfold OwnN
      have e:(l.take k++x::l.drop k).length=k+1+(l.length - k):=by simp;omega
      rw [e]
      show w.ownsRow wr.heap.size 24 1 v _ (List.map uV _)
      rw [List.map_append,List.map_cons]
      exact h
     have P:=Lib.hid I
     clear I aw ax L
     go_region_law_o (first
      | (refine xK (.tmp 33) (.tmp 36) 157 rfl rfl Tryz.underlying157 wr.heap.size (.slice (some ⟨_,0,none⟩) 0 0) 0 [] rfl (zdy (by omega) (by first | exact World.alloc_heap_new _ _ | exact World.alloc_heap_new wr _ | exact yw _ _ _ | exact yx _ _ _ | exact yw wr _ _ | exact yx wr _ _)) _ k _ ((l.take k).map uV) rfl (by simp<;>omega) (az.out _ (by first | exact YR _ _ | exact XM _ _ _)) V (by omega) (by simp<;>omega) ?_
         intro aF X E A an
         have b1:Below wr.heap.size wr X:=by first | exact(YR wr _).grown A (by simp<;>omega) (fun j B=>by simp [Value.ownBlock] at B;omega) | exact(XM wr _ _).grown A (by simp<;>omega) (fun j B=>by simp [Value.ownBlock] at B;omega))
      | (refine xK (.tmp 37) (.tmp 39) 157 rfl rfl Tryz.underlying157 wr.heap.size _ (0+k) ([]++(l.take k).map uV) rfl (by first | exact E | exact E.alloc _) _ 1 _ [uV x] rfl rfl (.inr ⟨_,rfl,vH (vt := 24) (by first | exact World.alloc_heap_new X _ | exact(A.block _ (by simp<;>omega) (by simp [Value.ownBlock]<;>omega)).trans (yw wr _ _) | exact(A.block _ (by simp<;>omega) (by simp [Value.ownBlock]<;>omega)).trans (yx wr _ _))⟩) M (by omega) (by have:=A.size;simp at this ⊢<;>omega) ?_
         intro aG ah K J ao
         have b2:Below wr.heap.size wr ah:=by first | exact b1.grown J b1.size (fun j B=>(E.lt j B).1) | exact(b1.alloc b1.size _).grown J (by have:=b1.size;simp<;>omega) (fun j B=>(E.lt j B).1))
      | (refine xK (.tmp 40) (.tmp 43) 157 rfl rfl Tryz.underlying157 wr.heap.size _ (0+k+1) ([]++(l.take k).map uV++[uV x]) rfl K _ (l.length - k) _ ((l.drop k).map uV) rfl (by simp<;>omega) (aA.out _ b2) ae (by omega) b2.size ?_
         intro ag aH U Q aq
         have b3:=b2.grown Q b2.size fun j B=>(K.lt j B).1))
     all_goals (go_wp2;all_goals (refine bodyPost_ret (results_tmp rfl _ _ _) rfl ?_;exact⟨ag,rfl,b3,vL (base:=wr.heap.size) (P.out _ _ (by simpa using U)) fun b o h1 h2=>.inr ⟨h1,h2⟩⟩))
  ·obtain rfl:k=l.length:=by omega
   go_wp2_with fail
   have af:Tryz.prog.follows .mixedOrders=true:=by kernel_rfl
   obtain⟨ak,ab,am⟩:∃ ak ab,(ak,ab)=(if O=l.length then Y else Option.map (fun x=>x.add l.length) Y,O - l.length):=⟨_,_,rfl⟩
   have aM:l.length+1<=17179869184:=by omega
   have V:∀ u ∈ l.map uV,u.oneCell'=true:=QN
   have M:∀ u ∈ [uV x],u.oneCell'=true:=fun u hu=>by simp at hu;subst hu;rfl
   have ay:∀ W:World,Below wr.heap.size wr W->(l.length=0/\Y=none)\/∃ a,Y=some a/\∀ j u,(l.map uV)[j]? = some u->W.cell? (a.add j)=some u:=fun W hB=>by
    by_cases h0:l=[]
    ·subst h0
     cases Y with
     | none=>exact .inl ⟨rfl,rfl⟩
     | some a=>exact .inr ⟨a,rfl,fun j u h=>by simp at h⟩
    ·obtain⟨b,G,rfl,hc⟩:=ai.out h0
     refine .inr ⟨_,rfl,fun j u h=>?_⟩
     rw [List.getElem?_map] at h
     obtain⟨y,Z,rfl⟩:=Option.map_eq_some_iff.1 h
     obtain⟨B,rfl⟩:=List.getElem?_eq_some_iff.1 Z
     rw [zh]
     exact(World.cell?_of_block (a:=⟨b,G+j,none⟩) (hB.block b (hC _ _ (hc j B).1))).trans (hc j B).2
   have T:(0=0/\(if O=l.length then Y else Option.map (fun x=>x.add l.length) Y)=none)\/∃ a,(if O=l.length then Y else Option.map (fun x=>x.add l.length) Y)=some a:=by
    cases Y<;>simp
    split<;>simp
   have aB:=Lib.hid ay
   have aC:=Lib.hid T
   clear ay T am
   have I:∀ v w,w.ownsRow wr.heap.size 24 1 v (l.length+1) (l.map uV++[uV x])->OwnN wr.heap.size w v (srt (N++[x])):=fun v w h=>by
    have hi:=kJ (xs:=N) (x:=x) (at_:=(srt N).length) (Nat.le_refl _) (fun j h1 h2=>by omega) (by
     rcases Nat.eq_zero_or_pos (srt N).length with h5 | h5
     ·exact .inl h5
     ·refine .inr ⟨by omega,?_⟩
      have h6:=HJ.out ((srt N).length - 1) (by rw [F.out];omega) (by rw [F.out];omega)
      simpa only [F.out] using h6)
    rw [hi,<-F.out,List.take_length,List.drop_length]
    unfold OwnN
    rw [List.length_append,List.length_singleton]
    show w.ownsRow wr.heap.size 24 1 v _ (List.map uV _)
    rw [List.map_append]
    exact h
   have P:=Lib.hid I
   clear I
   go_region_law_o (first
    | (refine xK (.tmp 33) (.tmp 36) 157 rfl rfl Tryz.underlying157 wr.heap.size (.slice (some ⟨_,0,none⟩) 0 0) 0 [] rfl (zdy (by omega) (by first | exact World.alloc_heap_new _ _ | exact World.alloc_heap_new wr _ | exact yw _ _ _ | exact yx _ _ _ | exact yw wr _ _ | exact yx wr _ _)) _ l.length _ (l.map uV) rfl (by simp<;>omega) (aB.out _ (by first | exact YR _ _ | exact XM _ _ _)) V (by omega) (by simp<;>omega) ?_
       intro aF X E A an
       have b1:Below wr.heap.size wr X:=by first | exact(YR wr _).grown A (by simp<;>omega) (fun j B=>by simp [Value.ownBlock] at B;omega) | exact(XM wr _ _).grown A (by simp<;>omega) (fun j B=>by simp [Value.ownBlock] at B;omega))
    | (refine xK (.tmp 37) (.tmp 39) 157 rfl rfl Tryz.underlying157 wr.heap.size _ (0+l.length) ([]++l.map uV) rfl (by first | exact E | exact E.alloc _) _ 1 _ [uV x] rfl rfl (.inr ⟨_,rfl,vH (vt := 24) (by first | exact World.alloc_heap_new X _ | exact(A.block _ (by simp<;>omega) (by simp [Value.ownBlock]<;>omega)).trans (yw wr _ _) | exact(A.block _ (by simp<;>omega) (by simp [Value.ownBlock]<;>omega)).trans (yx wr _ _))⟩) M (by omega) (by have:=A.size;simp at this ⊢<;>omega) ?_
       intro aG ah K J ao
       have b2:Below wr.heap.size wr ah:=by first | exact b1.grown J b1.size (fun j B=>(E.lt j B).1) | exact(b1.alloc b1.size _).grown J (by have:=b1.size;simp<;>omega) (fun j B=>(E.lt j B).1))
    | (refine xK (.tmp 40) (.tmp 43) 157 rfl rfl Tryz.underlying157 wr.heap.size _ (0+l.length+1) ([]++l.map uV++[uV x]) rfl K _ 0 _ ([]) rfl (by simp<;>omega) (by rcases aC.out with h | ⟨a,h⟩;exact .inl h;exact .inr ⟨a,h,fun j u B=>by simp at B⟩) (by simp) (by omega) b2.size ?_
       intro ag aH U Q aq
       have b3:=b2.grown Q b2.size fun j B=>(K.lt j B).1))
   all_goals (go_wp2;all_goals (refine bodyPost_ret (results_tmp rfl _ _ _) rfl ?_;exact⟨ag,rfl,b3,vL (base:=wr.heap.size) (P.out _ _ (by simpa using U)) fun b o h1 h2=>.inr ⟨h1,h2⟩⟩))
end Go.Proofs.YtonhfknjcbakiaaGreatDoor
