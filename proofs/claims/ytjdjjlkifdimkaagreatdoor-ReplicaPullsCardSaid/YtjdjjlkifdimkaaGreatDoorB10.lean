import Derived.Sort.Walk7a
import Derived.Sort.WalkB12
import Derived.Sort.WalkA
import Derived.Sort.WalkA6
import Derived.Sort.WalkC
import Derived.Sort.WalkC4
import Derived.Sort.Walk7
import Derived.Test.YtjdjjlkifdimkaaGreatDoorB1
import Derived.Test.YtjdjjlkifdimkaaGreatDoorB9
set_option maxHeartbeats 16000000
set_option linter.all false
set_option maxRecDepth 100000
namespace Go.Proofs.YtjdjjlkifdimkaaGreatDoor
def tK:=@Go.Calls.quiet_of_same
def tL:=@Go.World.drewN_drewN
def tU:=@Go.Sort.holds_ahead
def tY:=@Go.Sort.size_swp
def tZ:=@Go.RowKit.cell?_setCell_some
def Th:=@Go.Sort.putRow_self
def Tj:=@Go.Sort.frozen?_putRow
def Tl:=@Go.Sort.holds_putRow
def TD:=@Go.Sort.cell?_putRow
def TZ:=@Go.bits_xor_u64_nat
open Go.RowKit
open Go.Proofs.Tryz
open Go.Proofs.Tryz renaming prog->xT
section
attribute [local go_sem] Oper.semAt_some
def zaB(n:Nat)(W:World)(k:Nat):Prop:=n<=k/\∃j f,W.heap[k]?=some (.cells j 3 f)
def SF(j:Nat)(t:TypeId)(A B:World):Prop:=(∃v,Boxed A j t v)/\Keep (λk=>k=j\/zaB (j+4) A k) A B
def SF.pt{o E C:Nat}{t:TypeId}{A B:World}(h:SF o t A B)(J:E<o)(K:C<o)(ht:t ≠ 50)(hi : 3 ≠ 50):PtF o E C A B:=by
 obtain⟨⟨v,H⟩,hk⟩:=h;refine⟨hk.size,λk w j=>hk.block k w ?_⟩;rintro(rfl|⟨L,F,f,u⟩)
 .rcases j with j|j|j|⟨F,f,j⟩
  .omega
  .omega
  .omega
  .have y:A.heap[k]?=some (.cells #[v] t (0,0)):=H;rw[y]at j;cases j;exact ht rfl
 .rcases j with j|j|j|⟨G,I,j⟩
  .omega
  .omega
  .omega
  .rw[u]at j;cases j
def X8{α:Type}(V:Nat)(lb:Array Value)(Bk Bi:Nat)(xs:List (Nat×Fv))(w:World)(J:Option Addr)(K:Nat)(eg:∀T w,(callFunc V T).run xT w=.ok (.enter V T) w)
 (hit:∀W,Below w.heap.size w W->v7 xT V lb Y4 (λ_=>False) (PtF w.heap.size Bk Bi) xs W) (au:Bk<w.heap.size) (ar:Bi<w.heap.size)
 (E:World->Value->α->Prop) (step:α->Nat×Fv->α) (a0:α) (af:∀W,Below w.heap.size w W->E W (.slice J 0 K) a0) (ah:∀W u a,E W u a->∃ad n c,u=.slice ad n c)
 (ag:∀A B u a,E A u a->Keep (λk=>k=w.heap.size\/k=w.heap.size+2\/k=w.heap.size+3) A B->E B u a)
 (N:∀W u pre p,pre++[p] <+: xs->w.heap.size+4<=W.heap.size->Below w.heap.size w W->E W u (pre.foldl step a0)->Calls xT 156 #[u,.int .i64 (p.1:Nat),.agg #[sv p.2.1,sv p.2.2]] W λe W'=>
   ∃u',e=.returned u'/\E W' u' (step (pre.foldl step a0) p)/\Keep (zaB (w.heap.size+4) W) W W') :
 Calls xT 155 #[.func (.func V) #[] lb,.slice J 0 K,.func (.func 156) #[] #[]] w λe w'=>∃u,e=.returned u/\E w' u (xs.foldl step a0)/\Below w.heap.size w w':=by
 have an:=qL hit;have ak:=qL af;have U:=qL ah;have M:=qL ag;have aq:=qL N;clear hit af ah ag N;refine callsIn_wide.1 (Tg (n:=9) func155 rfl trivial ?_ rfl);simp only[ntmps155,WE,wD,WB,Nat.reduceAdd,Nat.reduceSub,uA,uB,uO,uE,XV,Yf]
 gi_wp2
 obtain⟨I,L⟩:=xt (((w.alloc (Obj.cells #[Value.slice J 0 K] 48)).alloc (Obj.cells #[Value.func (Fn.func 156) #[] #[]] 236)));have ay:I.heap.size=w.heap.size+2:=by rw[<-L];simp
 have b0:Boxed I w.heap.size 48 (Value.slice J 0 K):=by rw[<-L];exact(t8 w _ _).alloc _
 have b1:Boxed I (w.heap.size+1) 236 (Value.func (Fn.func 156) #[] #[]):=by rw[<-L];have:=t8 (w.alloc (Obj.cells #[Value.slice J 0 K] 48)) 236 (Value.func (Fn.func 156) #[] #[]);rw[tE]at this;exact this
 have X:Below w.heap.size w I:=by rw[<-L];exact((tB _ _).alloc (Zp _) _).alloc b8 _
 try simp only[tE]
 rw [L];clear L;refine Xt (w:=I) V lb rfl eg Y4 (λ_=>rfl) (λ_=>False) (PtF w.heap.size Bk Bi) xs ?hit
  (SF w.heap.size 48) (λA B h k hk O=>h.2.block k O (by rintro(e|⟨e,_⟩)<;>omega)) (λA B h=>h.pt au ar dE dE)
  ?hPt ?hPt0 ⟨id,id⟩
  (λpre W=>(∃u,Boxed W w.heap.size 48 u/\E W u (pre.foldl step a0))/\Boxed W (w.heap.size+1) 236 (Value.func (Fn.func 156) #[] #[])/\Below w.heap.size w W)
  (λ_ _ _=>False) ?hI (λ_ _ _ _ h _=>h) ⟨⟨_,b0,ak.o _ X⟩,b1,X⟩
  (λpre x a' W=>((∃u,Boxed W w.heap.size 48 u/\E W u (pre.foldl step a0))/\Boxed W (w.heap.size+1) 236 (Value.func (Fn.func 156) #[] #[])/\Below w.heap.size w W) /\
    ∃Q,W.heap[Q]?=some (.cells #[sv x.2.1,sv x.2.2] 50 (0,0))/\I.heap.size+2<=Q /\
    a'={ tmps:=#[Value.func (Fn.func V) #[] lb,Value.slice J 0 K,Value.func (Fn.func 156) #[] #[],undef,Value.pointer (some ⟨w.heap.size,0,none⟩),Value.pointer (some ⟨w.heap.size+1,0,none⟩),Value.slice none 0 0,.int .i64 (x.1:Nat),Value.pointer (some ⟨Q,0,none⟩),Value.func (Fn.func V) #[] lb,.int .i64 (x.1:Nat),.agg #[sv x.2.1,sv x.2.2],undef,undef,undef,undef,undef,undef],defers:=[] })
  ?hAx ?hassign ?hbody ?hdone (λ_ _ _ _ h _=>h.elim)
 case hit=>intro W hk ax;exact an.o W (X.trans (hk.below b6 λ_ _=>id))
 case hPt=>
  rintro A B C ⟨j,G⟩ ⟨H,y⟩;refine⟨V3 j H,λk hk F=>?_⟩;have e1:=G k hk F;refine(y k b6 ?_).trans e1;rcases F with F|F|F|⟨cs,f,F⟩
  .exact .inl F
  .exact .inr (.inl F)
  .exact .inr (.inr (.inl F))
  .exact .inr (.inr (.inr ⟨cs,f,by rw[e1];exact F⟩))
 case hPt0=>
  rintro A B hk ⟨o,ho⟩;refine⟨hk.size,λk O F=>hk.block k O ?_⟩;rintro rfl;rcases F with F|F|F|⟨cs,f,F⟩
  .omega
  .omega
  .omega
  .rw[ho]at F;cases F
 case hI=>rintro pre A B ⟨⟨u,j,G⟩,H,y⟩ av;have hk:Keep (λk=>k=I.heap.size\/k=I.heap.size+1) A B:=av.mono λ_ _ h=>h.elim False.elim id;exact⟨⟨u,hk.boxed j b6,M.o _ _ _ _ G (hk.mono λk _ h=>b6)⟩,hk.boxed H b6,y.trans (hk.below y.size λk hk=>b6)⟩
 case hAx=>rintro pre x a' A B ⟨⟨⟨u,j,G⟩,H,y⟩,Q,h5,h6,rfl⟩ hk;exact⟨⟨⟨u,hk.boxed j b6,M.o _ _ _ _ G (hk.mono λk _ h=>b6)⟩,hk.boxed H b6,y.trans (hk.below y.size λk hk=>b6)⟩,Q,hk.obj h5 b6,h6,rfl⟩
 case hassign=>
  rintro l pre ⟨i,⟨⟨x0,x1,x2⟩,⟨y0,y1,y2⟩⟩⟩ W ac O ⟨⟨u,j,G⟩,H,y⟩;clear ac;dsimp only[Y4,sv];have HX:=qL (And.intro j (And.intro G (And.intro H y)));clear j G H y
  gi_wp2
  obtain⟨j,G,H,y⟩:=HX.o;have P:∀o S,Keep S W (W.alloc o):=λo S=>(Keep.refl _ _).alloc _;refine⟨⟨⟨u,j⟩,P _ _⟩,⟨⟨u,(P _ (λ_=>False)).boxed j id,M.o _ _ _ _ G (P _ _)⟩,(P _ (λ_=>False)).boxed H id,y.alloc y.size _⟩,W.heap.size,tx W _,b6,rfl⟩
 case hbody=>
  rintro l pre ⟨i,⟨⟨x0,x1,x2⟩,⟨y0,y1,y2⟩⟩⟩ a' W ac O ⟨⟨⟨u,j,G⟩,H,y⟩,Q,h5,h6,rfl⟩;obtain⟨ua,un,uc,rfl⟩:=U.o _ _ _ G;have ae:=aq.o W _ pre _ ac b6 y G;dsimp only[sv]at ae h5⊢;have c0:=j.cell;have c1:=H.cell;have c2:W.cell? ⟨Q,0,none⟩=some (.slice x0 x1 x2):=(by simp[World.cell?,h5]);have c3:W.cell? ⟨Q,1,none⟩=some (.slice y0 y1 y2):=(by simp[World.cell?,h5]);have HS:=qL ae;have HX:=qL (And.intro j (And.intro H y));clear ae j G H y h5
  gi_wp2_with (refine⟨trivial,?_⟩;gi_at_call 156;refine(callsIn_wide.2 HS.o).mono ?_;rintro e W1 ⟨u',rfl,Y,Z⟩
               obtain⟨va,vn,vc,rfl⟩:=U.o _ _ _ Y;have j:Boxed W1 w.heap.size 48 (.slice ua un uc):=Z.boxed HX.o.1 (λh=>by have:=h.1;omega);have d0:=j.cell;have d1:=j.frozen;have am:=qL Y;have ao:=qL Z;have aj:=qL j;clear Y Z j)
  have aw:Keep (λk=>k=w.heap.size) W1 (W1.setCell ⟨w.heap.size,0,none⟩ (.slice va vn vc)):=(Keep.refl (λk=>k=w.heap.size) W1).setCell (p:=⟨w.heap.size,0,none⟩) (λ_=>rfl) _;obtain⟨j,H,y⟩:=HX.o;have ab:Keep (λk=>k=w.heap.size\/zaB (w.heap.size+4) W k) W (W1.setCell ⟨w.heap.size,0,none⟩ (.slice va vn vc)):=(ao.o.mono λk _ h=>.inr h).setCell (p:=⟨w.heap.size,0,none⟩) (λ_=>.inl rfl) _;refine⟨⟨⟨_,j⟩,ab⟩,⟨_,aj.o.set _,?_⟩,ab.boxed H (by rintro(e|⟨e,_⟩)<;>omega),y.trans (ab.below y.size λk hk=>by rintro(e|⟨e,_⟩)<;>omega)⟩;rw[W8];exact M.o _ _ _ _ am.o (aw.mono λk _ h=>.inl h)
 case hdone=>
  rintro W ⟨⟨u,j,G⟩,H,y⟩ hD;obtain⟨ua,un,uc,rfl⟩:=U.o _ _ _ G;have F:=j.cell;have HX:=qL (And.intro G y);clear j G H y
  gi_wp2
  refine⟨b8,.inl ⟨_,_,rfl,Ti hD,?_⟩⟩;have ai:Keep (λk=>k=I.heap.size) W (W.putObj I.heap.size (.deferred none)):=(Keep.refl (λk=>k=I.heap.size) W).putObj (λ_=>rfl) _;exact⟨_,tR rfl _ _ _,_,rfl,M.o _ _ _ _ HX.o.1 (ai.mono λk _ h=>b6),HX.o.2.trans (ai.below HX.o.2.size λk hk=>b6)⟩
def X7{α:Type}(V:Nat)(lb:Array Value)(Bk Bi:Nat)(xs:List (Nat×Fv))(w:World)(J:Option Addr)(K:Nat)(eg:∀T w,(callFunc V T).run xT w=.ok (.enter V T) w)
 (hit:∀W,Below w.heap.size w W->v7 xT V lb Y4 (λ_=>False) (PtF w.heap.size Bk Bi) xs W) (au:Bk<w.heap.size) (ar:Bi<w.heap.size)
 (E:World->Value->α->Prop) (step:α->Nat×Fv->α) (a0:α) (af:∀W,Below w.heap.size w W->E W (.slice J 0 K) a0) (ah:∀W u a,E W u a->∃ad n c,u=.slice ad n c)
 (ag:∀A B u a,E A u a->Keep (λk=>k=w.heap.size\/k=w.heap.size+2\/k=w.heap.size+3) A B->E B u a)
 (N:∀W u pre p,pre++[p] <+: xs->w.heap.size+4<=W.heap.size->Below w.heap.size w W->E W u (pre.foldl step a0)->Calls xT 193 #[u,.int .i64 (p.1:Nat),.agg #[sv p.2.1,sv p.2.2]] W λe W'=>
   ∃u',e=.returned u'/\E W' u' (step (pre.foldl step a0) p)/\Keep (zaB (w.heap.size+4) W) W W') :
 Calls xT 192 #[.func (.func V) #[] lb,.slice J 0 K,.func (.func 193) #[] #[]] w λe w'=>∃u,e=.returned u/\E w' u (xs.foldl step a0)/\Below w.heap.size w w':=by
 have an:=qL hit;have ak:=qL af;have U:=qL ah;have M:=qL ag;have aq:=qL N;clear hit af ah ag N;refine callsIn_wide.1 (Tg (n:=9) func192 rfl trivial ?_ rfl);simp only[ntmps192,WE,wD,WB,Nat.reduceAdd,Nat.reduceSub,uA,uB,uO,uE,XV,Yf]
 gi_wp2
 obtain⟨I,L⟩:=xt (((w.alloc (Obj.cells #[Value.slice J 0 K] 223)).alloc (Obj.cells #[Value.func (Fn.func 193) #[] #[]] 271)));have ay:I.heap.size=w.heap.size+2:=by rw[<-L];simp
 have b0:Boxed I w.heap.size 223 (Value.slice J 0 K):=by rw[<-L];exact(t8 w _ _).alloc _
 have b1:Boxed I (w.heap.size+1) 271 (Value.func (Fn.func 193) #[] #[]):=by rw[<-L];have:=t8 (w.alloc (Obj.cells #[Value.slice J 0 K] 223)) 271 (Value.func (Fn.func 193) #[] #[]);rw[tE]at this;exact this
 have X:Below w.heap.size w I:=by rw[<-L];exact((tB _ _).alloc (Zp _) _).alloc b8 _
 try simp only[tE]
 rw [L];clear L;refine Xt (w:=I) V lb rfl eg Y4 (λ_=>rfl) (λ_=>False) (PtF w.heap.size Bk Bi) xs ?hit
  (SF w.heap.size 223) (λA B h k hk O=>h.2.block k O (by rintro(e|⟨e,_⟩)<;>omega)) (λA B h=>h.pt au ar dE dE)
  ?hPt ?hPt0 ⟨id,id⟩
  (λpre W=>(∃u,Boxed W w.heap.size 223 u/\E W u (pre.foldl step a0))/\Boxed W (w.heap.size+1) 271 (Value.func (Fn.func 193) #[] #[])/\Below w.heap.size w W)
  (λ_ _ _=>False) ?hI (λ_ _ _ _ h _=>h) ⟨⟨_,b0,ak.o _ X⟩,b1,X⟩
  (λpre x a' W=>((∃u,Boxed W w.heap.size 223 u/\E W u (pre.foldl step a0))/\Boxed W (w.heap.size+1) 271 (Value.func (Fn.func 193) #[] #[])/\Below w.heap.size w W) /\
    ∃Q,W.heap[Q]?=some (.cells #[sv x.2.1,sv x.2.2] 50 (0,0))/\I.heap.size+2<=Q /\
    a'={ tmps:=#[Value.func (Fn.func V) #[] lb,Value.slice J 0 K,Value.func (Fn.func 193) #[] #[],undef,Value.pointer (some ⟨w.heap.size,0,none⟩),Value.pointer (some ⟨w.heap.size+1,0,none⟩),Value.slice none 0 0,.int .i64 (x.1:Nat),Value.pointer (some ⟨Q,0,none⟩),Value.func (Fn.func V) #[] lb,.int .i64 (x.1:Nat),.agg #[sv x.2.1,sv x.2.2],undef,undef,undef,undef,undef,undef],defers:=[] })
  ?hAx ?hassign ?hbody ?hdone (λ_ _ _ _ h _=>h.elim)
 case hit=>intro W hk ax;exact an.o W (X.trans (hk.below b6 λ_ _=>id))
 case hPt=>
  rintro A B C ⟨j,G⟩ ⟨H,y⟩;refine⟨V3 j H,λk hk F=>?_⟩;have e1:=G k hk F;refine(y k b6 ?_).trans e1;rcases F with F|F|F|⟨cs,f,F⟩
  .exact .inl F
  .exact .inr (.inl F)
  .exact .inr (.inr (.inl F))
  .exact .inr (.inr (.inr ⟨cs,f,by rw[e1];exact F⟩))
 case hPt0=>
  rintro A B hk ⟨o,ho⟩;refine⟨hk.size,λk O F=>hk.block k O ?_⟩;rintro rfl;rcases F with F|F|F|⟨cs,f,F⟩
  .omega
  .omega
  .omega
  .rw[ho]at F;cases F
 case hI=>rintro pre A B ⟨⟨u,j,G⟩,H,y⟩ av;have hk:Keep (λk=>k=I.heap.size\/k=I.heap.size+1) A B:=av.mono λ_ _ h=>h.elim False.elim id;exact⟨⟨u,hk.boxed j b6,M.o _ _ _ _ G (hk.mono λk _ h=>b6)⟩,hk.boxed H b6,y.trans (hk.below y.size λk hk=>b6)⟩
 case hAx=>rintro pre x a' A B ⟨⟨⟨u,j,G⟩,H,y⟩,Q,h5,h6,rfl⟩ hk;exact⟨⟨⟨u,hk.boxed j b6,M.o _ _ _ _ G (hk.mono λk _ h=>b6)⟩,hk.boxed H b6,y.trans (hk.below y.size λk hk=>b6)⟩,Q,hk.obj h5 b6,h6,rfl⟩
 case hassign=>
  rintro l pre ⟨i,⟨⟨x0,x1,x2⟩,⟨y0,y1,y2⟩⟩⟩ W ac O ⟨⟨u,j,G⟩,H,y⟩;clear ac;dsimp only[Y4,sv];have HX:=qL (And.intro j (And.intro G (And.intro H y)));clear j G H y
  gi_wp2
  obtain⟨j,G,H,y⟩:=HX.o;have P:∀o S,Keep S W (W.alloc o):=λo S=>(Keep.refl _ _).alloc _;refine⟨⟨⟨u,j⟩,P _ _⟩,⟨⟨u,(P _ (λ_=>False)).boxed j id,M.o _ _ _ _ G (P _ _)⟩,(P _ (λ_=>False)).boxed H id,y.alloc y.size _⟩,W.heap.size,tx W _,b6,rfl⟩
 case hbody=>
  rintro l pre ⟨i,⟨⟨x0,x1,x2⟩,⟨y0,y1,y2⟩⟩⟩ a' W ac O ⟨⟨⟨u,j,G⟩,H,y⟩,Q,h5,h6,rfl⟩;obtain⟨ua,un,uc,rfl⟩:=U.o _ _ _ G;have ae:=aq.o W _ pre _ ac b6 y G;dsimp only[sv]at ae h5⊢;have c0:=j.cell;have c1:=H.cell;have c2:W.cell? ⟨Q,0,none⟩=some (.slice x0 x1 x2):=(by simp[World.cell?,h5]);have c3:W.cell? ⟨Q,1,none⟩=some (.slice y0 y1 y2):=(by simp[World.cell?,h5]);have HS:=qL ae;have HX:=qL (And.intro j (And.intro H y));clear ae j G H y h5
  gi_wp2_with (refine⟨trivial,?_⟩;gi_at_call 193;refine(callsIn_wide.2 HS.o).mono ?_;rintro e W1 ⟨u',rfl,Y,Z⟩
               obtain⟨va,vn,vc,rfl⟩:=U.o _ _ _ Y;have j:Boxed W1 w.heap.size 223 (.slice ua un uc):=Z.boxed HX.o.1 (λh=>by have:=h.1;omega);have d0:=j.cell;have d1:=j.frozen;have am:=qL Y;have ao:=qL Z;have aj:=qL j;clear Y Z j)
  have aw:Keep (λk=>k=w.heap.size) W1 (W1.setCell ⟨w.heap.size,0,none⟩ (.slice va vn vc)):=(Keep.refl (λk=>k=w.heap.size) W1).setCell (p:=⟨w.heap.size,0,none⟩) (λ_=>rfl) _;obtain⟨j,H,y⟩:=HX.o;have ab:Keep (λk=>k=w.heap.size\/zaB (w.heap.size+4) W k) W (W1.setCell ⟨w.heap.size,0,none⟩ (.slice va vn vc)):=(ao.o.mono λk _ h=>.inr h).setCell (p:=⟨w.heap.size,0,none⟩) (λ_=>.inl rfl) _;refine⟨⟨⟨_,j⟩,ab⟩,⟨_,aj.o.set _,?_⟩,ab.boxed H (by rintro(e|⟨e,_⟩)<;>omega),y.trans (ab.below y.size λk hk=>by rintro(e|⟨e,_⟩)<;>omega)⟩;rw[W8];exact M.o _ _ _ _ am.o (aw.mono λk _ h=>.inl h)
 case hdone=>
  rintro W ⟨⟨u,j,G⟩,H,y⟩ hD;obtain⟨ua,un,uc,rfl⟩:=U.o _ _ _ G;have F:=j.cell;have HX:=qL (And.intro G y);clear j G H y
  gi_wp2
  refine⟨b8,.inl ⟨_,_,rfl,Ti hD,?_⟩⟩;have ai:Keep (λk=>k=I.heap.size) W (W.putObj I.heap.size (.deferred none)):=(Keep.refl (λk=>k=I.heap.size) W).putObj (λ_=>rfl) _;exact⟨_,tR rfl _ _ _,_,rfl,M.o _ _ _ _ HX.o.1 (ai.mono λk _ h=>b6),HX.o.2.trans (ai.below HX.o.2.size λk hk=>b6)⟩
def zgV(P:Program)(w:Nat)(u:List Nat)(id:Nat)(o:Array Oper)(j:Bool):PC:=(qx P w u (.region id o j)).getD .sk
def zgW(c:Operand):PO:=(po c).getD (.c .und)
def pcT(P:Program)(o:Nat)(j:List Nat)(k:Nat)(X:PC):Code->PC
 |.region id ops draw=>if id=k then X else zgV P o j id ops draw
 |.seq a b=>.sq (pcT P o j k X a) (pcT P o j k X b)
 |.cond c a b=>.cd (zgW c) (pcT P o j k X a) (pcT P o j k X b)
 |.block id a=>.bk id (pcT P o j k X a)
 |.loop a=>.lp [] (pcT P o j k X a)
 |.exit id=>.ex id
 |.ret=>.rt
 |.scope a=>pcT P o j k X a
 |_=>.sk
def zhs{P:Program}{f:FuncId}{fn:Func}(B:P.funcs[f]?=some fn)(j:List Nat){o:List PV}{r:PV}(n:Nat)(u:zbo P fn j n=true)(C:o.length=n)(w:∀p∈o,p.own=none)(k:Nat)(X:PC){c:Code}(A:xN fn=c)(E:qx P fn.ntmps j c=some (pcT P fn.ntmps j k X c))(y:pW P fn.ntmps True (pcT P fn.ntmps j k X c) (jG (zgk P fn) r) ⟨qQ 0 o,[]⟩):Cn P f o r:=by refine zgM B j n u C w ?_;unfold zbt;rw[A,E,WX];exact y
attribute [local go_sem] Oper.semAt_some
def zsw{w:World}{g:Nat}{o:Array Value}{T:TypeId}(h:w.heap[g]?=some (.cells o T (0,0)))(i:Nat)(v:Value):(w.setCell ⟨g,i,none⟩ v).heap[g]?=some (.cells (o.setIfInBounds i v) T (0,0)):=by obtain⟨j,hk⟩:=Y1.1 h;show (w.heap.modify g _)[g]?=_;rw[Wj (by rw[Array.size_modify];exact j),Array.getElem_modify_self,hk];simp
end
section
open Go.Sort
abbrev zg:Int->Value:=Value.int .u64
def Zb(x:Int)(w:World):Calls xT 197 #[.int .u64 x] w λe j=>e=.returned (.bool false)/\j=w:=by
 go_enter func197,ntmps197
 go_wp2;go_ret;exact⟨b8,rfl⟩
def za(x y:Int)(w:World):Calls xT 204 #[.int .u64 x,.int .u64 y] w λe j=>e=.returned (.bool (Sort.ltInt x y))/\j=w:=by
 go_enter func204,ntmps204
 go_wp2_with (go_at_call 197;refine(Zb _ _).mono ?_;rintro e j ⟨rfl,rfl⟩)
 go_ret;exact⟨rfl,rfl⟩
def Zd(rb j X:Nat)(G:X<18446744073709551616)(w:World)(M:w.cell? ⟨rb,j,none⟩=some (.int .u64 X))(N:w.frozen? ⟨rb,j,none⟩=false):
 Calls xT 219 #[.pointer (some ⟨rb,j,none⟩)] w λe K=>e=.returned (.int .u64 (xorNextN X:Nat))/\K=(w.setCell ⟨rb,j,none⟩ (.int .u64 (xorNextN X:Nat))).drewN 3:=by
 obtain⟨A,o⟩:∃A:Nat,A=X ^^^ (X*8192%18446744073709551616):=⟨_,rfl⟩;obtain⟨B,u⟩:∃B:Nat,B=A ^^^ (A/128):=⟨_,rfl⟩;obtain⟨C,y⟩:∃C:Nat,C=B ^^^ (B*131072%18446744073709551616):=⟨_,rfl⟩;have I:A<18446744073709551616:=by rw[o];exact Nat.xor_lt_two_pow (n:=64) b6 b6
 have J:B<18446744073709551616:=by rw[u];exact Nat.xor_lt_two_pow (n:=64) b6 b6
 have e1:bits .xor .u64 (X:Int) (IntKind.u64.wrap ((X:Int)*8192))=(A:Int):=by rw[IntKind.wrap_u64,show ((X:Int)*8192%18446744073709551616)=((X*8192%18446744073709551616:Nat):Int) by omega,TZ _ _ G b6,o]
 have e2:bits .xor .u64 (A:Int) ((A:Int)/128)=(B:Int):=by rw[show ((A:Int)/128)=((A/128:Nat):Int) by omega,TZ _ _ I b6,u]
 have L:bits .xor .u64 (B:Int) (IntKind.u64.wrap ((B:Int)*131072))=(C:Int):=by rw[IntKind.wrap_u64,show ((B:Int)*131072%18446744073709551616)=((B*131072%18446744073709551616:Nat):Int) by omega,TZ _ _ J b6,y]
 have E:xorNextN X=C:=by unfold xorNextN;simp only[];rw[<-o,<-u,<-y]
 rw[E];clear o u y E;have H:∀v F,(w.setCell ⟨rb,j,none⟩ v).setCell ⟨rb,j,none⟩ F=w.setCell ⟨rb,j,none⟩ F:=setCell_setCell w rb j;go_enter func219,ntmps219
 go_wp2;go_region;all_goals go_wp2
 all_goals go_region
 all_goals go_wp2
 all_goals go_region
 all_goals go_wp2
 go_ret;exact⟨rfl,rfl⟩
def kI(n:Nat)(u:n<4611686018427387904)(w:World):
 Calls xT 218 #[.int .i64 n] w λe o=>e=.returned (.int .u64 ((1 <<< bitsLen n:Nat):Int))/\o=w:=by
 have j:∀w,Calls xT 164 #[.int .u64 (n:Int)] w λe o=>e=.returned (.int .i64 (bitsLen n:Nat))/\o=w:=λw=>by
  have h:=ZC (n:Int) w b6 b6
  rwa[Int.toNat_natCast,bitLen_eq _ b6]at h
 have hk:bitsLen n<=62:=(bitsLen_le_iff n 62).2 b6;have y:=wrap_two_pow (bitsLen n) hk;go_enter func218,ntmps218
 go_wp2_with (first|(go_at_call 164;refine(j _).mono ?_;rintro e o ⟨rfl,rfl⟩))
 go_ret;exact⟨rfl,rfl⟩
set_option maxRecDepth 1000000 in
def jB(zc j H:Nat)(d:Array Int)(a b:Nat)(w:World)(I:Holds zg w zc j d)(M:a<=b)(hb:b<=d.size)(O:d.size<4611686018427387904):
 Calls xT 202 #[.slice (some ⟨zc,j,none⟩) d.size H,.int .i64 a,.int .i64 b] w λe S=>e=.returned (.tuple #[])/\∃n,S=putRow zg (Sort.ahead w n) zc j (reverseRange d a b):=by
 go_enter func202,ntmps202
 go_wp2;go_loopg [6,7] (b-a) (λk P Q wr=>∃(i jn:Nat) (C:Int) (o:Array Int) (n:Nat),P=.int .i64 i/\Q=.int .i64 C/\((i:Int)<C->C=jn/\jn<d.size)/\(¬(i:Int)<C->¬i<jn)/\jn-i<=k /\
  o.size=d.size/\wr=putRow zg (Sort.ahead w n) zc j o/\reverseLoop i jn o=reverseLoop a (b-1) d)
 case atStart=>exact⟨a,b-1,(b:Int)-1,d,0,rfl,rfl,λh=>⟨b6,b6⟩,λh=>b6,b6,rfl,(Th zg w zc j d I).symm,rfl⟩
 case round=>
  obtain⟨i,jn,C,o,n,rfl,rfl,K,L,hk,E,B,u⟩:=hrel;by_cases F:(i:Int)<C
  .obtain⟨rfl,N⟩:=K F;have J:i<jn:=b6;have y:Holds zg wr zc j o:=(by rw[B];exact Tl zg _ zc j d o (tU zg w n zc j d I) E);obtain⟨T,fi⟩:=y i b6;obtain⟨U,V⟩:=y jn b6;have A:qA (wr=putRow zg (Sort.ahead w n) zc j o):=B;clear B y I K L
   go_wp2_with fail
   go_region
   go_wp2;go_roundg (jn-1-(i+1));case measure=>omega
   case rel=>
    rw[reverseLoop,VS J]at u;exact⟨i+1,jn-1,(jn:Int)-1,swp o i jn,n+1,b8,rfl,λh=>⟨b6,b6⟩,λh=>b6,Zp _,by rw[tY];exact E,
     swap_world zg b6 b6 A.o (by simp[zg,tv,show jn<o.size by omega]) rfl,u⟩
  .have G:=L F
   go_wp2
   go_end0
   refine⟨rfl,n,?_⟩;rw[reverseLoop,V2 G]at u;rw[reverseRange,<-u]
def vV(zc o J a b:Nat)(d:Array Int)(w:World)(H:Holds zg w zc o d)(ab:a<=b)(hb:b<=d.size)(ai:d.size<4611686018427387904):
 Calls xT 198 #[.slice (some ⟨zc,o,none⟩) d.size J,.int .i64 a,.int .i64 b] w λe w'=>
  e=.returned (.tuple #[])/\∃n,w'=putRow zg (Sort.ahead w n) zc o (Sort.insertionSort ltInt d a b):=by
 go_enter func198,ntmps198
 go_wp2
 go_loopw [6] (λQ wr=>∃(i n:Nat) (A:Array Int),Q=.int .i64 i/\a<i/\i<=b+1/\A.size=d.size/\wr=putRow zg (Sort.ahead w n) zc o A /\
  insOuter ltInt a b i A=insOuter ltInt a b (a+1) d) (λQ _=>b+1-(intOf Q).toNat)
 case atStart=>exact⟨a+1,0,d,by go_num,b6,b6,rfl,(Th _ _ _ _ _ H).symm,rfl⟩
 case round=>
  obtain⟨i,n,A,rfl,ac,ag,P,aj,Z⟩:=hrel;have V:qA (insOuter ltInt a b i A=insOuter ltInt a b (a+1) d):=Z;clear Z
  go_wp2
  ·
   go_loopw [7] (λS T=>∃(j m:Nat) (u:Array Int),S=.int .i64 j/\a<=j/\j<=i/\u.size=d.size/\T=putRow zg (Sort.ahead w m) zc o u /\
    insInner ltInt a j u=insInner ltInt a i A) (λS _=>(intOf S).toNat)
   case atStart=>exact⟨i,n,A,rfl,b6,Zp _,P,rfl,rfl⟩
   case round=>
    obtain⟨j,m,u,rfl,ad,ah,C,y,Y⟩:=hrel;have O:i<b:=dF;obtain⟨G,K⟩:∃G:Nat->Int,∀t,G t=u[t]!:=⟨λt=>u[t]!,λ_=>rfl⟩;have ae:∀t,t<d.size->wr.cell? ⟨zc,o+t,none⟩=some (.int .u64 (G t)):=λt ht=>(by rw[y,K];exact TD _ _ _ _ d u (tU _ _ _ _ _ _ H) C t b6);have af:∀t,t<d.size->wr.frozen? ⟨zc,o+t,none⟩=false:=λt ht=>(by rw[y,Tj];exact((tU _ _ m _ _ _ H) t ht).2);have X:qA (wr=putRow zg (Sort.ahead w m) zc o u):=y;have HG:qA (∀t,G t=u[t]!):=K;have U:qA (insInner ltInt a j u=insInner ltInt a i A):=Y;clear y K Y H;have F:(j<=a\/ltInt u[j]! u[j-1]! = false)->∀q,∃I n' B,Value.int .i64 ((i:Int)+1)=.int .i64 (I:Nat)/\a<I/\I<=b+1/\B.size=d.size /\
     wr.drewN q=putRow zg (Sort.ahead w n') zc o B/\insOuter ltInt a b I B=insOuter ltInt a b (a+1) d:=λhs q=>
     ⟨i+1,m+q,u,by go_num,b6,b6,C,by rw[X.o];exact putRow_drewN _ _ _ _ _ _ _,
      by rw[<-V.o,insOuter_go _ _ _ _ _ O,<-U.o,insInner_stop _ _ _ _ hs]⟩
    have E:qA _:=F;clear F
    go_wp2;by_cases M:a<j
    .go_quiet (first|(go_at_call 204;refine tK (za _ _ _)))
     go_wp2
     ·
      have N:ltInt (G j) (G (j-1))=true:=dF;go_region;all_goals go_wp2
      go_roundw
      case rel=>
       refine⟨j-1,m+(nq+1),swp u j (j-1),by congr 1;omega,b6,b6,by rw[tY];exact C,?_,?_⟩
       .rw[X.o,HG.o,HG.o];exact swap_worldA _ w m (nq+1) zc o u j (j-1) b6 b6
       .rw[<-U.o,insInner_go ltInt a j u M (by rw[<-HG.o,<-HG.o];exact N)]
      case measure=>simp[intOf];omega
     ·
      have N:ltInt (G j) (G (j-1))=false:=dF
      go_roundw
      case rel=>exact E.o (Or.inr (by rw[<-HG.o,<-HG.o];exact N)) nq
      case measure=>simp[intOf];omega
    .go_quiet (first|(go_at_call 204;refine tK (za _ _ _)))
     go_wp2
     go_roundw
     case rel=>exact E.o (Or.inl b6) nq
     case measure=>simp[intOf];omega
  ·
   have L:¬i<b:=dF
   go_end0
   exact⟨rfl,n,by unfold Sort.insertionSort;rw[<-V.o,insOuter_stop _ _ _ _ _ L]⟩
def yE(zc o ai a b:Nat)(d:Array Int)(w:World)(hH:Holds zg w zc o d)(an:a<b)(hb:b<=d.size)(aw:d.size<4611686018427387904):
 Calls xT 203 #[.slice (some ⟨zc,o,none⟩) d.size ai,.int .i64 a,.int .i64 b] w λe w'=>
  e=.returned (.bool (Sort.partialInsertionSort ltInt d a b).2)/\∃n,w'=putRow zg (Sort.ahead w n) zc o (Sort.partialInsertionSort ltInt d a b).1:=by
 have Q:qA (Holds zg w zc o d):=hH;have ah:qA (w=putRow zg (Sort.ahead w 0) zc o d):=(Th _ _ _ _ _ hH).symm;clear hH;go_enter func203,ntmps203
 go_wp2
 go_loopw [7,8] (λvi vs wr=>∃(i s n:Nat) (y:Array Int),vi=.int .i64 i/\vs=.int .i64 s/\s<=5/\a<i/\i<=b/\y.size=d.size/\wr=putRow zg (Sort.ahead w n) zc o y /\
  partialIns ltInt a b (5-s) i y=partialIns ltInt a b 5 (a+1) d) (λ_ vs _=>5-(intOf vs).toNat)
 case atStart=>exact⟨a+1,0,0,d,by go_num,rfl,b6,b6,b6,rfl,ah.o,rfl⟩
 case round=>
  obtain⟨i,s,n,y,rfl,rfl,av,ao,aj,ag,ax,hO⟩:=hrel;have N:qA (partialIns ltInt a b (5-s) i y=partialIns ltInt a b 5 (a+1) d):=hO;clear hO
  go_wp2
  ·
   have hs:s<5:=b6
   go_loopw [7] (λvi K=>∃(k m:Nat),vi=.int .i64 k/\i<=k/\k<=b/\K=putRow zg (Sort.ahead w m) zc o y/\scanSorted ltInt y b k=scanSorted ltInt y b i) (λvi _=>b-(intOf vi).toNat)
   case atStart=>exact⟨i,n,rfl,Zp _,aj,rfl,rfl⟩
   case round=>
    obtain⟨k,m,rfl,aq,au,J,hS⟩:=hrel;obtain⟨G,H⟩:∃G:Nat->Int,∀t,G t=y[t]!:=⟨λt=>y[t]!,λ_=>rfl⟩;have T:∀t,t<d.size->wr.cell? ⟨zc,o+t,none⟩=some (.int .u64 (G t)):=λt ht=>(by rw[J,H];exact TD _ _ _ _ d y (tU _ _ _ _ _ _ Q.o) ag t b6);have U:∀t,t<d.size->wr.frozen? ⟨zc,o+t,none⟩=false:=λt ht=>(by rw[J,Tj];exact((tU _ _ m _ _ _ Q.o) t ht).2);have A:qA (wr=putRow zg (Sort.ahead w m) zc o y):=J;have HG:qA (∀t,G t=y[t]!):=H;have HS:qA (scanSorted ltInt y b k=scanSorted ltInt y b i):=hS;clear J H hS
    go_wp2;by_cases ae:k<b
    ·go_quiet (first | (go_at_call 204;refine tK (za _ _ _)))
     go_wp2;all_goals first
      | (at_end
         have I:ltInt (G k) (G (k-1))=false:=(by have h:(!ltInt (G k) (G (k-1)))=true:=dF;simpa using h)
         go_roundw
         case rel=>exact⟨k+1,m+nq,by go_num,b6,b6,by rw[A.o];exact putRow_drewN _ _ _ _ _ _ _,by rw[<-HS.o,scanSorted_go ltInt y b k ae (by rw[<-HG.o,<-HG.o];exact I)]⟩
         case measure=>simp[intOf];omega)
      | (have I:ltInt (G k) (G (k-1))=true:=by have h:(!ltInt (G k) (G (k-1)))=false:=dF;simpa using h
         have S:qA (scanSorted ltInt y b i=k):=(by show scanSorted ltInt y b i=k;rw[<-HS.o,scanSorted_stop ltInt y b k (Or.inr (by rw[<-HG.o,<-HG.o];exact I))]);first
          | (at_ret
             have hv:Sort.partialInsertionSort ltInt d a b=(y,false):=(by unfold Sort.partialInsertionSort;rw[<-N.o,pi_short ltInt a b s i y hs (by rw[S.o];omega) b6]);rw[hv];go_ret;exact⟨rfl,m+nq,by rw[A.o];exact putRow_drewN _ _ _ _ _ _ _⟩)
          | (at_region 11
             have am:¬b-a<50:=b6;go_region;have ak:((wr.drewN (nq+1)).setCell ⟨zc,o+k,none⟩ (.int .u64 (G (k-1)))).setCell ⟨zc,o+(k-1),none⟩ (.int .u64 (G k))=putRow zg (Sort.ahead w (m+(nq+1))) zc o (swp y k (k-1)):=(by rw[A.o,HG.o,HG.o];exact swap_worldA _ w m (nq+1) zc o y k (k-1) b6 b6);have Y:(swp y k (k-1)).size=d.size:=(by rw[tY];exact ag)
             go_wp2;all_goals first
              | (at_loop
                 have ad:k-a≥2:=b6
                 go_loopw [9] (λL K=>∃(j Z:Nat) (B:Array Int),L=.int .i64 j/\j<=k-1/\B.size=d.size/\K=putRow zg (Sort.ahead w Z) zc o B /\
                  shiftDown ltInt j B=shiftDown ltInt (k-1) (swp y k (k-1))) (λL _=>(intOf L).toNat)
                 case atStart=>exact⟨k-1,_,(swp y k (k-1)),by congr 1;omega,Zp _,Y,rfl,rfl⟩
                 case round=>
                  obtain⟨j,Z,B,rfl,ar,M,J,ab⟩:=hrel;obtain⟨G,H⟩:∃G:Nat->Int,∀t,G t=B[t]!:=⟨λt=>B[t]!,λ_=>rfl⟩;have T:∀t,t<d.size->wr.cell? ⟨zc,o+t,none⟩=some (.int .u64 (G t)):=λt ht=>(by rw[J,H];exact TD _ _ _ _ d B (tU _ _ _ _ _ _ Q.o) M t b6);have U:∀t,t<d.size->wr.frozen? ⟨zc,o+t,none⟩=false:=λt ht=>(by rw[J,Tj];exact((tU _ _ Z _ _ _ Q.o) t ht).2);have A:qA (wr=putRow zg (Sort.ahead w Z) zc o B):=J;have HG:qA (∀t,G t=B[t]!):=H;have X:qA (shiftDown ltInt j B=shiftDown ltInt (k-1) (swp y k (k-1))):=ab;clear J H ab ak
                  go_wp2;all_goals first
                   | (at_region 16
                      go_quiet (first|(go_at_call 204;refine tK (za _ _ _)))
                      go_wp2;all_goals first
                       | (at_region 17
                          have I:ltInt (G j) (G (j-1))=true:=(by have h:(!ltInt (G j) (G (j-1)))=false:=dF;simpa using h);go_region;all_goals go_wp2
                          go_roundw
                          case rel=>
                           refine⟨j-1,Z+(nq+1),swp B j (j-1),by congr 1;omega,b6,by rw[tY];exact M,?_,?_⟩
                           .rw[A.o,HG.o,HG.o];exact swap_worldA _ w Z (nq+1) zc o B j (j-1) b6 b6
                           .rw[<-X.o,shiftDown_go ltInt j B b6 (by rw[<-HG.o,<-HG.o];exact I)]
                          case measure=>simp[intOf];omega)
                       |(-- break
                          have I:ltInt (G j) (G (j-1))=false:=(by have h:(!ltInt (G j) (G (j-1)))=true:=dF;simpa using h);have O:qA (fixDown ltInt a k (swp y k (k-1))=B):=(by show fixDown ltInt a k (swp y k (k-1))=B;unfold fixDown;rw[VS ad,<-X.o,shiftDown_stop ltInt j B (Or.inr (by rw[<-HG.o,<-HG.o];exact I))]);first
                           | (at_end
                              go_roundw
                              case rel=>refine⟨k,s+1,_,B,rfl,by go_num,b6,b6,b6,M,(by first|rfl|exact A.o|(rw[A.o];exact putRow_drewN _ _ _ _ _ _ _)),?_⟩;rw[<-N.o,pi_go ltInt a b s i k y hs S.o b6 b6,O.o,show fixUp ltInt b k B=B from by unfold fixUp;rw[V2 b6]]
                              case measure=>simp[intOf];omega)
                           | (at_loop
                              go_loopw [10] (λL K=>∃(j F:Nat) (u:Array Int),L=.int .i64 j/\k+1<=j/\j<=b/\u.size=d.size/\K=putRow zg (Sort.ahead w F) zc o u /\
                               shiftUp ltInt b j u=shiftUp ltInt b (k+1) B) (λL _=>b-(intOf L).toNat)
                              case atStart=>exact⟨k+1,_,B,by go_num,Zp _,b6,M,(by first|rfl|exact A.o|(rw[A.o];exact putRow_drewN _ _ _ _ _ _ _)),rfl⟩
                              case round=>
                               obtain⟨j,F,u,rfl,af,ac,C,E,V⟩:=hrel;obtain⟨G,H⟩:∃G:Nat->Int,∀t,G t=u[t]!:=⟨λt=>u[t]!,λ_=>rfl⟩;have T:∀t,t<d.size->wr.cell? ⟨zc,o+t,none⟩=some (.int .u64 (G t)):=λt ht=>(by rw[E,H];exact TD _ _ _ _ d u (tU _ _ _ _ _ _ Q.o) C t b6);have U:∀t,t<d.size->wr.frozen? ⟨zc,o+t,none⟩=false:=λt ht=>(by rw[E,Tj];exact((tU _ _ F _ _ _ Q.o) t ht).2);have A:qA (wr=putRow zg (Sort.ahead w F) zc o u):=E;have HG:qA (∀t,G t=u[t]!):=H;have P:qA (shiftUp ltInt b j u=shiftUp ltInt b (k+1) B):=V;clear E H V
                               go_wp2;all_goals first
                                | (at_region 22
                                   go_quiet (first|(go_at_call 204;refine tK (za _ _ _)))
                                   go_wp2;all_goals first
                                    | (at_region 23
                                       have I:ltInt (G j) (G (j-1))=true:=(by have h:(!ltInt (G j) (G (j-1)))=false:=dF;simpa using h);go_region;all_goals go_wp2
                                       go_roundw
                                       case rel=>
                                        refine⟨j+1,F+(nq+1),swp u j (j-1),by go_num,b6,b6,by rw[tY];exact C,?_,?_⟩
                                        .rw[A.o,HG.o,HG.o];exact swap_worldA _ w F (nq+1) zc o u j (j-1) b6 b6
                                        .rw[<-P.o,shiftUp_go ltInt b j u b6 (by rw[<-HG.o,<-HG.o];exact I)]
                                       case measure=>simp[intOf];omega)
                                    | (at_end
                                       have I:ltInt (G j) (G (j-1))=false:=(by have h:(!ltInt (G j) (G (j-1)))=true:=dF;simpa using h)
                                       go_roundw
                                       case rel=>refine⟨k,s+1,_,u,rfl,by go_num,b6,b6,b6,C,(by first|rfl|exact A.o|(rw[A.o];exact putRow_drewN _ _ _ _ _ _ _)),?_⟩;rw[<-N.o,pi_go ltInt a b s i k y hs S.o b6 b6,O.o,show fixUp ltInt b k B=u from by unfold fixUp;rw[VS b6,<-P.o,shiftUp_stop ltInt b j u (Or.inr (by rw[<-HG.o,<-HG.o];exact I))]]
                                       case measure=>simp[intOf];omega))
                                | (at_end
                                   go_roundw
                                   case rel=>refine⟨k,s+1,_,u,rfl,by go_num,b6,b6,b6,C,(by first|rfl|exact A.o|(rw[A.o];exact putRow_drewN _ _ _ _ _ _ _)),?_⟩;rw[<-N.o,pi_go ltInt a b s i k y hs S.o b6 b6,O.o,show fixUp ltInt b k B=u from by unfold fixUp;rw[VS b6,<-P.o,shiftUp_stop ltInt b j u (Or.inl b6)]]
                                   case measure=>simp[intOf];omega))))
                   |(-- j<1
                      have O:qA (fixDown ltInt a k (swp y k (k-1))=B):=(by show fixDown ltInt a k (swp y k (k-1))=B;unfold fixDown;rw[VS ad,<-X.o,shiftDown_stop ltInt j B (Or.inl b6)]);first
                       | (at_end
                          go_roundw
                          case rel=>refine⟨k,s+1,_,B,rfl,by go_num,b6,b6,b6,M,(by first|rfl|exact A.o|(rw[A.o];exact putRow_drewN _ _ _ _ _ _ _)),?_⟩;rw[<-N.o,pi_go ltInt a b s i k y hs S.o b6 b6,O.o,show fixUp ltInt b k B=B from by unfold fixUp;rw[V2 b6]]
                          case measure=>simp[intOf];omega)
                       | (at_loop
                          go_loopw [10] (λL K=>∃(j F:Nat) (u:Array Int),L=.int .i64 j/\k+1<=j/\j<=b/\u.size=d.size/\K=putRow zg (Sort.ahead w F) zc o u /\
                           shiftUp ltInt b j u=shiftUp ltInt b (k+1) B) (λL _=>b-(intOf L).toNat)
                          case atStart=>exact⟨k+1,_,B,by go_num,Zp _,b6,M,(by first|rfl|exact A.o|(rw[A.o];exact putRow_drewN _ _ _ _ _ _ _)),rfl⟩
                          case round=>
                           obtain⟨j,F,u,rfl,af,ac,C,E,V⟩:=hrel;obtain⟨G,H⟩:∃G:Nat->Int,∀t,G t=u[t]!:=⟨λt=>u[t]!,λ_=>rfl⟩;have T:∀t,t<d.size->wr.cell? ⟨zc,o+t,none⟩=some (.int .u64 (G t)):=λt ht=>(by rw[E,H];exact TD _ _ _ _ d u (tU _ _ _ _ _ _ Q.o) C t b6);have U:∀t,t<d.size->wr.frozen? ⟨zc,o+t,none⟩=false:=λt ht=>(by rw[E,Tj];exact((tU _ _ F _ _ _ Q.o) t ht).2);have A:qA (wr=putRow zg (Sort.ahead w F) zc o u):=E;have HG:qA (∀t,G t=u[t]!):=H;have P:qA (shiftUp ltInt b j u=shiftUp ltInt b (k+1) B):=V;clear E H V
                           go_wp2;all_goals first
                            | (at_region 22
                               go_quiet (first|(go_at_call 204;refine tK (za _ _ _)))
                               go_wp2;all_goals first
                                | (at_region 23
                                   have I:ltInt (G j) (G (j-1))=true:=(by have h:(!ltInt (G j) (G (j-1)))=false:=dF;simpa using h);go_region;all_goals go_wp2
                                   go_roundw
                                   case rel=>
                                    refine⟨j+1,F+(nq+1),swp u j (j-1),by go_num,b6,b6,by rw[tY];exact C,?_,?_⟩
                                    .rw[A.o,HG.o,HG.o];exact swap_worldA _ w F (nq+1) zc o u j (j-1) b6 b6
                                    .rw[<-P.o,shiftUp_go ltInt b j u b6 (by rw[<-HG.o,<-HG.o];exact I)]
                                   case measure=>simp[intOf];omega)
                                | (at_end
                                   have I:ltInt (G j) (G (j-1))=false:=(by have h:(!ltInt (G j) (G (j-1)))=true:=dF;simpa using h)
                                   go_roundw
                                   case rel=>refine⟨k,s+1,_,u,rfl,by go_num,b6,b6,b6,C,(by first|rfl|exact A.o|(rw[A.o];exact putRow_drewN _ _ _ _ _ _ _)),?_⟩;rw[<-N.o,pi_go ltInt a b s i k y hs S.o b6 b6,O.o,show fixUp ltInt b k B=u from by unfold fixUp;rw[VS b6,<-P.o,shiftUp_stop ltInt b j u (Or.inr (by rw[<-HG.o,<-HG.o];exact I))]]
                                   case measure=>simp[intOf];omega))
                            | (at_end
                               go_roundw
                               case rel=>refine⟨k,s+1,_,u,rfl,by go_num,b6,b6,b6,C,(by first|rfl|exact A.o|(rw[A.o];exact putRow_drewN _ _ _ _ _ _ _)),?_⟩;rw[<-N.o,pi_go ltInt a b s i k y hs S.o b6 b6,O.o,show fixUp ltInt b k B=u from by unfold fixUp;rw[VS b6,<-P.o,shiftUp_stop ltInt b j u (Or.inl b6)]]
                               case measure=>simp[intOf];omega))))
              |(-- i-a<2
                 have O:qA (fixDown ltInt a k (swp y k (k-1))=(swp y k (k-1))):=(by show fixDown ltInt a k (swp y k (k-1))=(swp y k (k-1));unfold fixDown;rw[V2 b6]);first
                  | (at_end
                     go_roundw
                     case rel=>refine⟨k,s+1,_,(swp y k (k-1)),rfl,by go_num,b6,b6,b6,Y,(by first|rfl|exact A.o|(rw[A.o];exact putRow_drewN _ _ _ _ _ _ _)),?_⟩;rw[<-N.o,pi_go ltInt a b s i k y hs S.o b6 b6,O.o,show fixUp ltInt b k (swp y k (k-1))=(swp y k (k-1)) from by unfold fixUp;rw[V2 b6]]
                     case measure=>simp[intOf];omega)
                  | (at_loop
                     go_loopw [10] (λL K=>∃(j F:Nat) (u:Array Int),L=.int .i64 j/\k+1<=j/\j<=b/\u.size=d.size/\K=putRow zg (Sort.ahead w F) zc o u /\
                      shiftUp ltInt b j u=shiftUp ltInt b (k+1) (swp y k (k-1))) (λL _=>b-(intOf L).toNat)
                     case atStart=>exact⟨k+1,_,(swp y k (k-1)),by go_num,Zp _,b6,Y,(by first|rfl|exact A.o|(rw[A.o];exact putRow_drewN _ _ _ _ _ _ _)),rfl⟩
                     case round=>
                      obtain⟨j,F,u,rfl,af,ac,C,E,V⟩:=hrel;obtain⟨G,H⟩:∃G:Nat->Int,∀t,G t=u[t]!:=⟨λt=>u[t]!,λ_=>rfl⟩;have T:∀t,t<d.size->wr.cell? ⟨zc,o+t,none⟩=some (.int .u64 (G t)):=λt ht=>(by rw[E,H];exact TD _ _ _ _ d u (tU _ _ _ _ _ _ Q.o) C t b6);have U:∀t,t<d.size->wr.frozen? ⟨zc,o+t,none⟩=false:=λt ht=>(by rw[E,Tj];exact((tU _ _ F _ _ _ Q.o) t ht).2);have A:qA (wr=putRow zg (Sort.ahead w F) zc o u):=E;have HG:qA (∀t,G t=u[t]!):=H;have P:qA (shiftUp ltInt b j u=shiftUp ltInt b (k+1) (swp y k (k-1))):=V;clear E H V
                      go_wp2;all_goals first
                       | (at_region 22
                          go_quiet (first|(go_at_call 204;refine tK (za _ _ _)))
                          go_wp2;all_goals first
                           | (at_region 23
                              have I:ltInt (G j) (G (j-1))=true:=(by have h:(!ltInt (G j) (G (j-1)))=false:=dF;simpa using h);go_region;all_goals go_wp2
                              go_roundw
                              case rel=>
                               refine⟨j+1,F+(nq+1),swp u j (j-1),by go_num,b6,b6,by rw[tY];exact C,?_,?_⟩
                               .rw[A.o,HG.o,HG.o];exact swap_worldA _ w F (nq+1) zc o u j (j-1) b6 b6
                               .rw[<-P.o,shiftUp_go ltInt b j u b6 (by rw[<-HG.o,<-HG.o];exact I)]
                              case measure=>simp[intOf];omega)
                           | (at_end
                              have I:ltInt (G j) (G (j-1))=false:=(by have h:(!ltInt (G j) (G (j-1)))=true:=dF;simpa using h)
                              go_roundw
                              case rel=>refine⟨k,s+1,_,u,rfl,by go_num,b6,b6,b6,C,(by first|rfl|exact A.o|(rw[A.o];exact putRow_drewN _ _ _ _ _ _ _)),?_⟩;rw[<-N.o,pi_go ltInt a b s i k y hs S.o b6 b6,O.o,show fixUp ltInt b k (swp y k (k-1))=u from by unfold fixUp;rw[VS b6,<-P.o,shiftUp_stop ltInt b j u (Or.inr (by rw[<-HG.o,<-HG.o];exact I))]]
                              case measure=>simp[intOf];omega))
                       | (at_end
                          go_roundw
                          case rel=>refine⟨k,s+1,_,u,rfl,by go_num,b6,b6,b6,C,(by first|rfl|exact A.o|(rw[A.o];exact putRow_drewN _ _ _ _ _ _ _)),?_⟩;rw[<-N.o,pi_go ltInt a b s i k y hs S.o b6 b6,O.o,show fixUp ltInt b k (swp y k (k-1))=u from by unfold fixUp;rw[VS b6,<-P.o,shiftUp_stop ltInt b j u (Or.inl b6)]]
                          case measure=>simp[intOf];omega)))))
    ·
     go_quiet (first|(go_at_call 204;refine tK (za _ _ _)))
     go_wp2;obtain rfl:k=b:=b6;have hv:Sort.partialInsertionSort ltInt d a k=(y,true):=by unfold Sort.partialInsertionSort;rw[<-N.o,pi_true ltInt a k s i y hs (by rw[<-HS.o,scanSorted_stop ltInt y k k (Or.inl b6)])]
     rw[hv];go_ret;exact⟨rfl,m+nq,by rw[A.o];exact putRow_drewN _ _ _ _ _ _ _⟩
  ·
   obtain rfl:s=5:=b6;have hv:Sort.partialInsertionSort ltInt d a b=(y,false):=(by unfold Sort.partialInsertionSort;rw[<-N.o,pi_end]);rw[hv];go_ret;exact⟨rfl,n,rfl⟩
def vg(zc u ai a b o:Nat)(d:Array Int)(w:World)(hH:Holds zg w zc u d)(aq:a<=o)(av:o<b)(hb:b<=d.size)(aw:d.size<4611686018427387904):
 Calls xT 205 #[.slice (some ⟨zc,u,none⟩) d.size ai,.int .i64 a,.int .i64 b,.int .i64 o] w λe w'=>
  e=.returned (.int .i64 (Sort.partitionEqual Sort.ltInt d a b o).1)/\∃n,w'=(putRow zg w zc u (Sort.partitionEqual Sort.ltInt d a b o).2).drewN n:=by
 have ab:a<d.size:=b6
 have ac:o<d.size:=b6
 obtain⟨G,U⟩:∃G:Nat->Int,∀j,G j=d[j]!:=⟨λj=>d[j]!,λ_=>rfl⟩;have ca:w.cell? ⟨zc,u+a,none⟩=some (.int .u64 (G a)):=by rw[U];exact(hH a ab).1
 have fa:=(hH a ab).2;have cp:w.cell? ⟨zc,u+o,none⟩=some (.int .u64 (G o)):=by rw[U];exact(hH o ac).1
 have fp:=(hH o ac).2;obtain⟨v',am⟩:=tZ (w:=w) (p:=⟨zc,u+a,none⟩) (x:=.int .u64 (G o)) (q:=⟨zc,u+o,none⟩) cp;have L:qA (∀j,G j=d[j]!):=U;have AH:qA (Holds zg w zc u d):=hH;clear U hH;go_enter func205,ntmps205
 go_wp2;go_region
 go_wp2
 go_loopw [9,10] (λvi T wr=>∃(i j n:Nat) (y:Array Int),vi=.int .i64 i/\T=.int .i64 j/\a<i/\i<=j+1/\j<b/\y.size=d.size/\wr=(putRow zg w zc u y).drewN n /\
  Sort.partEqLoop Sort.ltInt a i j y=Sort.partEqLoop Sort.ltInt a (a+1) (b-1) (Sort.swp d a o))
  (λvi T _=>(intOf T).toNat+1-(intOf vi).toNat)
 case atStart=>refine⟨a+1,b-1,1,Sort.swp d a o,by go_num,by go_num,b6,b6,b6,tY _ _ _,?_,rfl⟩;have e:=swap_worldC zg w zc u d 0 a o ab ac;rw[Th _ w zc u d AH.o]at e;rw[L.o a,L.o o];exact e
 case round=>
  obtain⟨i,j,n,y,rfl,rfl,ao,aj,au,hs,hw,ae⟩:=hrel;clear ca fa cp fp am v' L
  rename World=>W1
  have Y:Holds zg W1 zc u y:=(by rw[hw];exact Tl zg w zc u d y AH.o hs);obtain⟨F,U⟩:∃F:Nat->Int,∀t,F t=y[t]!:=⟨λt=>y[t]!,λ_=>rfl⟩;have hc:∀t,t<d.size->W1.cell? ⟨zc,u+t,none⟩=some (.int .u64 (F t)):=λt ht=>(by rw[U];exact(Y t b6).1);have hf:∀t,t<d.size->W1.frozen? ⟨zc,u+t,none⟩=false:=λt ht=>(Y t b6).2;have L:qA (∀t,F t=y[t]!):=U;have AW:qA (W1=(putRow zg w zc u y).drewN n):=hw;have AE:qA (Sort.partEqLoop Sort.ltInt a i j y=Sort.partEqLoop Sort.ltInt a (a+1) (b-1) (Sort.swp d a o)):=ae;clear U hw ae Y
  go_wp2
  go_loopw [9] (λvi w1=>∃(A X:Nat),vi=.int .i64 A/\i<=A/\A<=j+1/\w1=W1.drewN X /\
   qA (Sort.scanUp (λx=>!Sort.ltInt y[a]! x) y j A=Sort.scanUp (λx=>!Sort.ltInt y[a]! x) y j i))
   (λvi _=>j+1-(intOf vi).toNat)
  case atStart=>exact⟨i,0,rfl,Zp _,aj,rfl,rfl⟩
  case round=>
   obtain⟨A,X,rfl,ar,V,ad,S⟩:=hrel;have K:∀t,t<d.size->wr.cell? ⟨zc,u+t,none⟩=some (.int .u64 (F t)):=λt ht=>(by rw[ad];exact hc t ht);have N:qA (wr=W1.drewN X):=ad;clear ad;by_cases ah:A<=j
   .go_wp2_with fail
    go_big_quiet (first|(go_at_call 204;refine tK (za _ _ _)))
    go_wp2
    ·
     have ht:(!Sort.ltInt (F a) (F A))=true:=dF
     go_roundw
     case rel=>exact⟨A+1,X+nq,by go_num,b6,b6,by rw[N.o,tL],(scanUp_go (λx=>!Sort.ltInt y[a]! x) y j A ah (by rw[<-L.o a,<-L.o A];exact ht)).symm.trans S.o⟩
     case measure=>simp[intOf];omega
    ·
     have ht:(!Sort.ltInt (F a) (F A))=false:=dF;have Q:qA (A=Sort.scanUp (λx=>!Sort.ltInt y[a]! x) y j i):=(scanUp_end (λx=>!Sort.ltInt y[a]! x) y j A (Or.inr (by rw[<-L.o a,<-L.o A];exact ht))).symm.trans S.o;clear ht;have E:wr.drewN nq=W1.drewN (X+nq):=(by rw[N.o,tL]);clear K N S
     go_loopw [10] (λT w2=>∃(C J:Nat),T=.int .i64 C/\C<=j/\A<=C+1/\w2=W1.drewN J /\
      qA (Sort.scanDown (λx=>Sort.ltInt y[a]! x) y A C=Sort.scanDown (λx=>Sort.ltInt y[a]! x) y A j))
      (λT _=>(intOf T).toNat)
     case atStart=>exact⟨j,X+nq,rfl,Zp _,V,E,rfl⟩
     case round=>
      clear E;obtain⟨C,J,rfl,ak,ag,E,I⟩:=hrel;have K:∀t,t<d.size->wr.cell? ⟨zc,u+t,none⟩=some (.int .u64 (F t)):=λt ht=>(by rw[E];exact hc t ht);have O:qA (wr=W1.drewN J):=E;clear E;by_cases H:A<=C
      .go_wp2_with fail
       go_big_quiet (first|(go_at_call 204;refine tK (za _ _ _)))
       go_wp2
       ·
        have ht:Sort.ltInt (F a) (F C)=true:=dF
        go_roundw
        case rel=>exact⟨C-1,J+nq,by go_num,b6,b6,by rw[O.o,tL],(scanDown_go (λx=>Sort.ltInt y[a]! x) y A C H b6 (by rw[<-L.o a,<-L.o C];exact ht)).symm.trans I.o⟩
        case measure=>simp[intOf];omega
       ·
        have ht:Sort.ltInt (F a) (F C)=false:=dF;have M:qA (C=Sort.scanDown (λx=>Sort.ltInt y[a]! x) y A j):=(scanDown_end (λx=>Sort.ltInt y[a]! x) y A C (Or.inr (by rw[<-L.o a,<-L.o C];exact ht))).symm.trans I.o;clear K I ht;have B:wr.drewN nq=W1.drewN (J+nq):=(by rw[O.o,tL]);generalize wr.drewN nq=W3 at B⊢;have Z:∀t,t<d.size->W3.cell? ⟨zc,u+t,none⟩=some (.int .u64 (F t)):=λt ht=>(by rw[B];exact hc t ht);have af:∀t,t<d.size->W3.frozen? ⟨zc,u+t,none⟩=false:=λt ht=>(by rw[B];exact hf t ht);have P:qA (W3=W1.drewN (J+nq)):=B;clear B;obtain⟨v3,ax⟩:=tZ (w:=W3) (p:=⟨zc,u+A,none⟩) (x:=.int .u64 (F C)) (q:=⟨zc,u+C,none⟩) (Z C b6);have an:=scans_lt Sort.ltInt a i j y b6 Q.o M.o H
        go_wp2;go_region;all_goals go_wp2
        all_goals go_roundw
        case rel=>
         refine⟨A+1,C-1,n+(J+nq)+1,Sort.swp y A C,by go_num,by go_num,b6,b6,b6,by rw[tY];exact hs,?_,?_⟩
         .rw[P.o,AW.o,tL,L.o A,L.o C];exact swap_worldC zg w zc u y _ A C b6 b6
         .rw[<-AE.o];exact(partEq_go Sort.ltInt a i j y Q.o M.o b6).symm
        case measure=>simp[intOf];omega
      .go_wp2_with fail
       go_big_quiet (first|(go_at_call 204;refine tK (za _ _ _)))
       have M:qA (C=Sort.scanDown (λx=>Sort.ltInt y[a]! x) y A j):=(scanDown_end (λx=>Sort.ltInt y[a]! x) y A C (Or.inl H)).symm.trans I.o;clear K I;have B:wr.drewN nq=W1.drewN (J+nq):=(by rw[O.o,tL]);generalize wr.drewN nq=W3 at B⊢;have Z:∀t,t<d.size->W3.cell? ⟨zc,u+t,none⟩=some (.int .u64 (F t)):=λt ht=>(by rw[B];exact hc t ht);have af:∀t,t<d.size->W3.frozen? ⟨zc,u+t,none⟩=false:=λt ht=>(by rw[B];exact hf t ht);have P:qA (W3=W1.drewN (J+nq)):=B;clear B
       go_wp2;go_ret;have e:=partEq_break Sort.ltInt a i j y Q.o M.o b6;refine⟨?_,n+(J+nq),?_⟩
       .unfold Sort.partitionEqual;rw[<-AE.o,e];rfl
       .unfold Sort.partitionEqual;rw[<-AE.o,e,P.o,AW.o,tL]
   .go_wp2_with fail
    go_big_quiet (first|(go_at_call 204;refine tK (za _ _ _)))
    go_wp2;have Q:qA (A=Sort.scanUp (λx=>!Sort.ltInt y[a]! x) y j i):=(scanUp_end (λx=>!Sort.ltInt y[a]! x) y j A (Or.inl ah)).symm.trans S.o;have E:wr.drewN nq=W1.drewN (X+nq):=(by rw[N.o,tL]);clear K N S
    go_loopw [10] (λT w2=>∃(C J:Nat),T=.int .i64 C/\C<=j/\A<=C+1/\w2=W1.drewN J /\
     qA (Sort.scanDown (λx=>Sort.ltInt y[a]! x) y A C=Sort.scanDown (λx=>Sort.ltInt y[a]! x) y A j))
     (λT _=>(intOf T).toNat)
    case atStart=>exact⟨j,X+nq,rfl,Zp _,V,E,rfl⟩
    case round=>
     clear E;obtain⟨C,J,rfl,ak,ag,E,I⟩:=hrel;have K:∀t,t<d.size->wr.cell? ⟨zc,u+t,none⟩=some (.int .u64 (F t)):=λt ht=>(by rw[E];exact hc t ht);have O:qA (wr=W1.drewN J):=E;clear E;by_cases H:A<=C
     .exfalso;omega
     .go_wp2_with fail
      go_big_quiet (first|(go_at_call 204;refine tK (za _ _ _)))
      have M:qA (C=Sort.scanDown (λx=>Sort.ltInt y[a]! x) y A j):=(scanDown_end (λx=>Sort.ltInt y[a]! x) y A C (Or.inl H)).symm.trans I.o;clear K I;have B:wr.drewN nq=W1.drewN (J+nq):=(by rw[O.o,tL]);generalize wr.drewN nq=W3 at B⊢;have Z:∀t,t<d.size->W3.cell? ⟨zc,u+t,none⟩=some (.int .u64 (F t)):=λt ht=>(by rw[B];exact hc t ht);have af:∀t,t<d.size->W3.frozen? ⟨zc,u+t,none⟩=false:=λt ht=>(by rw[B];exact hf t ht);have P:qA (W3=W1.drewN (J+nq)):=B;clear B
      go_wp2;go_ret;have e:=partEq_break Sort.ltInt a i j y Q.o M.o b6;refine⟨?_,n+(J+nq),?_⟩
      .unfold Sort.partitionEqual;rw[<-AE.o,e];rfl
      .unfold Sort.partitionEqual;rw[<-AE.o,e,P.o,AW.o,tL]
def yz(zc o u a b j:Nat)(d:Array Int)(w:World)(C:Holds zg w zc o d)(y:a<=j)(A:j<b)(hb:b<=d.size)(B:d.size<4611686018427387904):
 Calls xT 205 #[.slice (some ⟨zc,o,none⟩) d.size u,.int .i64 a,.int .i64 b,.int .i64 j] w λe E=>
  e=.returned (.int .i64 (Sort.partitionEqual Sort.ltInt d a b j).1)/\∃n,E=putRow zg (Sort.ahead w n) zc o (Sort.partitionEqual Sort.ltInt d a b j).2:=
 (vg zc o u a b j d w C y A hb B).mono λ_ _ ⟨he,n,hw⟩=>⟨he,n,hw⟩
def Zc(zc o au a b u:Nat)(d:Array Int)(w:World)(hH:Holds zg w zc o d)(az:a<=u)(aA:u<b)(hb:b<=d.size)(aB:d.size<4611686018427387904):
 Calls xT 206 #[.slice (some ⟨zc,o,none⟩) d.size au,.int .i64 a,.int .i64 b,.int .i64 u] w λe w'=>
  e=.returned (.tuple #[.int .i64 (Sort.partition Sort.ltInt d a b u).1,.bool (Sort.partition Sort.ltInt d a b u).2.1])/\∃n,w'=(putRow zg w zc o (Sort.partition Sort.ltInt d a b u).2.2).drewN n:=by
 have aj:a<d.size:=b6
 have am:u<d.size:=b6
 obtain⟨G,hG⟩:∃G:Nat->Int,∀j,G j=d[j]!:=⟨λj=>d[j]!,λ_=>rfl⟩;have ca:w.cell? ⟨zc,o+a,none⟩=some (.int .u64 (G a)):=by rw[hG];exact(hH a aj).1
 have fa:=(hH a aj).2;have cp:w.cell? ⟨zc,o+u,none⟩=some (.int .u64 (G u)):=by rw[hG];exact(hH u am).1
 have fp:=(hH u am).2;obtain⟨v',ay⟩:=tZ (w:=w) (p:=⟨zc,o+a,none⟩) (x:=.int .u64 (G u)) (q:=⟨zc,o+u,none⟩) cp;have hw:((w.setCell ⟨zc,o+a,none⟩ (.int .u64 (G u))).setCell ⟨zc,o+u,none⟩ (.int .u64 (G a))).drew=(putRow zg w zc o (Sort.swp d a u)).drewN 1:=by have e:=swap_worldC zg w zc o d 0 a u aj am;rw[Th _ w zc o d hH]at e;rw[hG a,hG u];exact e
 have AH:qA (Holds zg w zc o d):=hH;have an:=qL hw;clear hG hH hw;go_enter func206,ntmps206
 go_wp2;go_region
 go_wp2;clear ca fa cp fp ay v';have hw:=an.o;clear an;generalize ((w.setCell ⟨zc,o+a,none⟩ (.int .u64 (G u))).setCell ⟨zc,o+u,none⟩ (.int .u64 (G a))).drew=W1 at hw⊢;obtain⟨y,af⟩:=xm (Sort.swp d a u);obtain⟨n,hn⟩:∃n:Nat,n=1:=⟨_,rfl⟩;rw[<-af,<-hn]at hw;clear hn;have hs:y.size=d.size:=by rw[af,tY]
 have e1:((a:Int)+1)=((a+1:Nat):Int):=b6
 have e2:((b:Int)-1)=((b-1:Nat):Int):=b6
 rw[e1,e2];clear e1 e2;obtain⟨i,hi⟩:=xm (a+1);obtain⟨j,hj⟩:=xm (b-1);rw[<-hi,<-hj];have av:a<i:=b6
 have ah:i<=j+1:=b6
 have ax:j<b:=b6
 have HI:=qL hi;have HJ:=qL hj;have ag:=qL af;clear hi hj af;have Y:Holds zg W1 zc o y:=by rw[hw];exact Tl zg w zc o d y AH.o hs
 obtain⟨F,hG⟩:∃F:Nat->Int,∀t,F t=y[t]!:=⟨λt=>y[t]!,λ_=>rfl⟩;have hc:∀t,t<d.size->W1.cell? ⟨zc,o+t,none⟩=some (.int .u64 (F t)):=λt ht=>by rw[hG];exact(Y t b6).1
 have hf:∀t,t<d.size->W1.frozen? ⟨zc,o+t,none⟩=false:=λt ht=>(Y t b6).2;have L:qA (∀t,F t=y[t]!):=hG;have AW:qA (W1=(putRow zg w zc o y).drewN n):=hw;clear hG hw Y
 go_loopw [10] (λvi w1=>∃(B X:Nat),vi=.int .i64 B/\i<=B/\B<=j+1/\w1=W1.drewN X /\
  qA (Sort.scanUp (λx=>Sort.ltInt x y[a]!) y j B=Sort.scanUp (λx=>Sort.ltInt x y[a]!) y j i))
  (λvi _=>j+1-(intOf vi).toNat)
 case atStart=>exact⟨i,0,rfl,Zp _,ah,rfl,rfl⟩
 case round=>
  obtain⟨B,X,rfl,aw,V,Z,T⟩:=hrel;have K:∀t,t<d.size->wr.cell? ⟨zc,o+t,none⟩=some (.int .u64 (F t)):=λt ht=>(by rw[Z];exact hc t ht);have Q:qA (wr=W1.drewN X):=Z;clear Z;by_cases ae:B<=j
  ·go_wp2_with fail
   go_big_quiet (first|(go_at_call 204;refine tK (za _ _ _)))
   go_wp2
   ·
    have ht:Sort.ltInt (F B) (F a)=true:=dF
    go_roundw
    case rel=>exact⟨B+1,X+nq,by go_num,b6,b6,by rw[Q.o,tL],(scanUp_go (λx=>Sort.ltInt x y[a]!) y j B ae (by rw[<-L.o a,<-L.o B];exact ht)).symm.trans T.o⟩
    case measure=>simp[intOf];omega
   ·
    have ht:Sort.ltInt (F B) (F a)=false:=dF;have P:qA (B=Sort.scanUp (λx=>Sort.ltInt x y[a]!) y j i):=(scanUp_end (λx=>Sort.ltInt x y[a]!) y j B (Or.inr (by rw[<-L.o a,<-L.o B];exact ht))).symm.trans T.o;clear ht;have E:wr.drewN nq=W1.drewN (X+nq):=(by rw[Q.o,tL]);clear K Q T
    go_loopw [11] (λU w2=>∃(A J:Nat),U=.int .i64 A/\A<=j/\B<=A+1/\w2=W1.drewN J /\
     qA (Sort.scanDown (λx=>!Sort.ltInt x y[a]!) y B A=Sort.scanDown (λx=>!Sort.ltInt x y[a]!) y B j))
     (λU _=>(intOf U).toNat)
    case atStart=>exact⟨j,X+nq,rfl,Zp _,V,E,rfl⟩
    case round=>
     clear E;obtain⟨A,J,rfl,ai,ad,E,I⟩:=hrel;have K:∀t,t<d.size->wr.cell? ⟨zc,o+t,none⟩=some (.int .u64 (F t)):=λt ht=>(by rw[E];exact hc t ht);have S:qA (wr=W1.drewN J):=E;clear E;by_cases H:B<=A
     .go_wp2_with fail
      go_big_quiet (first|(go_at_call 204;refine tK (za _ _ _)))
      go_wp2
      ·
       have ht:(!Sort.ltInt (F A) (F a))=true:=dF
       go_roundw
       case rel=>exact⟨A-1,J+nq,by go_num,b6,b6,by rw[S.o,tL],(scanDown_go (λx=>!Sort.ltInt x y[a]!) y B A H b6 (by rw[<-L.o a,<-L.o A];exact ht)).symm.trans I.o⟩
       case measure=>simp[intOf];omega
      ·
       have ht:(!Sort.ltInt (F A) (F a))=false:=dF;have M:qA (A=Sort.scanDown (λx=>!Sort.ltInt x y[a]!) y B j):=(scanDown_end (λx=>!Sort.ltInt x y[a]!) y B A (Or.inr (by rw[<-L.o a,<-L.o A];exact ht))).symm.trans I.o;clear K I ht;have C:wr.drewN nq=W1.drewN (J+nq):=(by rw[S.o,tL]);generalize wr.drewN nq=W3 at C⊢;have O:∀t,t<d.size->W3.cell? ⟨zc,o+t,none⟩=some (.int .u64 (F t)):=λt ht=>(by rw[C];exact hc t ht);have ab:∀t,t<d.size->W3.frozen? ⟨zc,o+t,none⟩=false:=λt ht=>(by rw[C];exact hf t ht);have N:qA (W3=W1.drewN (J+nq)):=C;clear C;obtain⟨v3,ac⟩:=tZ (w:=W3) (p:=⟨zc,o+B,none⟩) (x:=.int .u64 (F A)) (q:=⟨zc,o+A,none⟩) (O A b6);have aq:=part_scans_lt Sort.ltInt a i j y b6 P.o M.o H
       go_wp2;go_region;all_goals go_wp2
       obtain⟨R,hR⟩:=xm (Sort.partLoop Sort.ltInt a (B+1) (A-1) (Sort.swp y B A));have HP:qA (Sort.partition Sort.ltInt d a b u=(R.1,false,Sort.swp R.2 R.1 a)):=(by rw[hR];exact part_first_go Sort.ltInt d a b u HI.o HJ.o ag.o P.o M.o b6);have ar:((W3.setCell ⟨zc,o+B,none⟩ (.int .u64 (F A))).setCell ⟨zc,o+A,none⟩ (.int .u64 (F B))).drew=(putRow zg w zc o (Sort.swp y B A)).drewN (n+(J+nq)+1):=(by rw[N.o,AW.o,tL,L.o B,L.o A];exact swap_worldC zg w zc o y _ B A b6 b6);have HR:qA (R=Sort.partLoop Sort.ltInt a (B+1) (A-1) (Sort.swp y B A)):=hR;clear hR hc hf O ab ac N AW L P M
       go_loopw [10,11] (λvi U wr=>∃(i j n:Nat) (y:Array Int),vi=.int .i64 i/\U=.int .i64 j/\a<i/\i<=j+1/\j<b/\y.size=d.size/\wr=(putRow zg w zc o y).drewN n /\
        Sort.partLoop Sort.ltInt a i j y=R)
        (λvi U _=>(intOf U).toNat+1-(intOf vi).toNat)
       case atStart=>exact⟨B+1,A-1,_,Sort.swp y B A,by go_num,by go_num,b6,b6,b6,by rw[tY];exact hs,ar,HR.o.symm⟩
       case round=>
        clear ar HR;obtain⟨i,j,n,y,rfl,rfl,av,ah,ax,hs,hw,ao⟩:=hrel
        rename World=>W1
        have AE:qA (Sort.partLoop Sort.ltInt a i j y=R):=ao;clear ao;have Y:Holds zg W1 zc o y:=(by rw[hw];exact Tl zg w zc o d y AH.o hs);obtain⟨F,hG⟩:∃F:Nat->Int,∀t,F t=y[t]!:=⟨λt=>y[t]!,λ_=>rfl⟩;have hc:∀t,t<d.size->W1.cell? ⟨zc,o+t,none⟩=some (.int .u64 (F t)):=λt ht=>(by rw[hG];exact(Y t b6).1);have hf:∀t,t<d.size->W1.frozen? ⟨zc,o+t,none⟩=false:=λt ht=>(Y t b6).2;have L:qA (∀t,F t=y[t]!):=hG;have AW:qA (W1=(putRow zg w zc o y).drewN n):=hw;clear hG hw Y
        go_wp2
        go_loopw [10] (λvi w1=>∃(B X:Nat),vi=.int .i64 B/\i<=B/\B<=j+1/\w1=W1.drewN X /\
         qA (Sort.scanUp (λx=>Sort.ltInt x y[a]!) y j B=Sort.scanUp (λx=>Sort.ltInt x y[a]!) y j i))
         (λvi _=>j+1-(intOf vi).toNat)
        case atStart=>exact⟨i,0,rfl,Zp _,ah,rfl,rfl⟩
        case round=>
         obtain⟨B,X,rfl,aw,V,Z,T⟩:=hrel;have K:∀t,t<d.size->wr.cell? ⟨zc,o+t,none⟩=some (.int .u64 (F t)):=λt ht=>(by rw[Z];exact hc t ht);have Q:qA (wr=W1.drewN X):=Z;clear Z;by_cases ae:B<=j
         .go_wp2_with fail
          go_big_quiet (first|(go_at_call 204;refine tK (za _ _ _)))
          go_wp2
          ·
           have ht:Sort.ltInt (F B) (F a)=true:=dF
           go_roundw
           case rel=>exact⟨B+1,X+nq,by go_num,b6,b6,by rw[Q.o,tL],(scanUp_go (λx=>Sort.ltInt x y[a]!) y j B ae (by rw[<-L.o a,<-L.o B];exact ht)).symm.trans T.o⟩
           case measure=>simp[intOf];omega
          ·
           have ht:Sort.ltInt (F B) (F a)=false:=dF;have P:qA (B=Sort.scanUp (λx=>Sort.ltInt x y[a]!) y j i):=(scanUp_end (λx=>Sort.ltInt x y[a]!) y j B (Or.inr (by rw[<-L.o a,<-L.o B];exact ht))).symm.trans T.o;clear ht;have E:wr.drewN nq=W1.drewN (X+nq):=(by rw[Q.o,tL]);clear K Q T
           go_loopw [11] (λU w2=>∃(A J:Nat),U=.int .i64 A/\A<=j/\B<=A+1/\w2=W1.drewN J /\
            qA (Sort.scanDown (λx=>!Sort.ltInt x y[a]!) y B A=Sort.scanDown (λx=>!Sort.ltInt x y[a]!) y B j))
            (λU _=>(intOf U).toNat)
           case atStart=>exact⟨j,X+nq,rfl,Zp _,V,E,rfl⟩
           case round=>
            clear E;obtain⟨A,J,rfl,ai,ad,E,I⟩:=hrel;have K:∀t,t<d.size->wr.cell? ⟨zc,o+t,none⟩=some (.int .u64 (F t)):=λt ht=>(by rw[E];exact hc t ht);have S:qA (wr=W1.drewN J):=E;clear E;by_cases H:B<=A
            .go_wp2_with fail
             go_big_quiet (first|(go_at_call 204;refine tK (za _ _ _)))
             go_wp2
             ·
              have ht:(!Sort.ltInt (F A) (F a))=true:=dF
              go_roundw
              case rel=>exact⟨A-1,J+nq,by go_num,b6,b6,by rw[S.o,tL],(scanDown_go (λx=>!Sort.ltInt x y[a]!) y B A H b6 (by rw[<-L.o a,<-L.o A];exact ht)).symm.trans I.o⟩
              case measure=>simp[intOf];omega
             ·
              have ht:(!Sort.ltInt (F A) (F a))=false:=dF;have M:qA (A=Sort.scanDown (λx=>!Sort.ltInt x y[a]!) y B j):=(scanDown_end (λx=>!Sort.ltInt x y[a]!) y B A (Or.inr (by rw[<-L.o a,<-L.o A];exact ht))).symm.trans I.o;clear K I ht;have C:wr.drewN nq=W1.drewN (J+nq):=(by rw[S.o,tL]);generalize wr.drewN nq=W3 at C⊢;have O:∀t,t<d.size->W3.cell? ⟨zc,o+t,none⟩=some (.int .u64 (F t)):=λt ht=>(by rw[C];exact hc t ht);have ab:∀t,t<d.size->W3.frozen? ⟨zc,o+t,none⟩=false:=λt ht=>(by rw[C];exact hf t ht);have N:qA (W3=W1.drewN (J+nq)):=C;clear C;obtain⟨v3,ac⟩:=tZ (w:=W3) (p:=⟨zc,o+B,none⟩) (x:=.int .u64 (F A)) (q:=⟨zc,o+A,none⟩) (O A b6);have aq:=part_scans_lt Sort.ltInt a i j y b6 P.o M.o H
              go_wp2;go_region;all_goals go_wp2
              all_goals go_roundw
              case rel=>
               refine⟨B+1,A-1,n+(J+nq)+1,Sort.swp y B A,by go_num,by go_num,b6,b6,b6,by rw[tY];exact hs,?_,?_⟩
               .rw[N.o,AW.o,tL,L.o B,L.o A];exact swap_worldC zg w zc o y _ B A b6 b6
               .exact(part_go Sort.ltInt a i j y P.o M.o b6).symm.trans AE.o
              case measure=>simp[intOf];omega
            .go_wp2_with fail
             go_big_quiet (first|(go_at_call 204;refine tK (za _ _ _)))
             have M:qA (A=Sort.scanDown (λx=>!Sort.ltInt x y[a]!) y B j):=(scanDown_end (λx=>!Sort.ltInt x y[a]!) y B A (Or.inl H)).symm.trans I.o;clear K I;have C:wr.drewN nq=W1.drewN (J+nq):=(by rw[S.o,tL]);generalize wr.drewN nq=W3 at C⊢;have O:∀t,t<d.size->W3.cell? ⟨zc,o+t,none⟩=some (.int .u64 (F t)):=λt ht=>(by rw[C];exact hc t ht);have ab:∀t,t<d.size->W3.frozen? ⟨zc,o+t,none⟩=false:=λt ht=>(by rw[C];exact hf t ht);have N:qA (W3=W1.drewN (J+nq)):=C;clear C;obtain⟨v3,ac⟩:=tZ (w:=W3) (p:=⟨zc,o+A,none⟩) (x:=.int .u64 (F a)) (q:=⟨zc,o+a,none⟩) (O a b6);have ak:A<d.size:=b6
             go_wp2;go_region;all_goals go_wp2
             all_goals go_ret2
             have e:Sort.partition Sort.ltInt d a b u=(A,false,Sort.swp y A a):=(by have e0:=(part_break Sort.ltInt a i j y P.o M.o b6).symm.trans AE.o;rw[HP.o,<-e0]);refine⟨?_,n+(J+nq)+1,?_⟩
             .rw[e];rfl
             .rw[e,N.o,AW.o,tL,L.o a,L.o A];exact swap_worldC zg w zc o y _ A a b6 b6
         .go_wp2_with fail
          go_big_quiet (first|(go_at_call 204;refine tK (za _ _ _)))
          go_wp2;have P:qA (B=Sort.scanUp (λx=>Sort.ltInt x y[a]!) y j i):=(scanUp_end (λx=>Sort.ltInt x y[a]!) y j B (Or.inl ae)).symm.trans T.o;have E:wr.drewN nq=W1.drewN (X+nq):=(by rw[Q.o,tL]);clear K Q T
          go_loopw [11] (λU w2=>∃(A J:Nat),U=.int .i64 A/\A<=j/\B<=A+1/\w2=W1.drewN J /\
           qA (Sort.scanDown (λx=>!Sort.ltInt x y[a]!) y B A=Sort.scanDown (λx=>!Sort.ltInt x y[a]!) y B j))
           (λU _=>(intOf U).toNat)
          case atStart=>exact⟨j,X+nq,rfl,Zp _,V,E,rfl⟩
          case round=>
           clear E;obtain⟨A,J,rfl,ai,ad,E,I⟩:=hrel;have K:∀t,t<d.size->wr.cell? ⟨zc,o+t,none⟩=some (.int .u64 (F t)):=λt ht=>(by rw[E];exact hc t ht);have S:qA (wr=W1.drewN J):=E;clear E;by_cases H:B<=A
           .exfalso;omega
           .go_wp2_with fail
            go_big_quiet (first|(go_at_call 204;refine tK (za _ _ _)))
            have M:qA (A=Sort.scanDown (λx=>!Sort.ltInt x y[a]!) y B j):=(scanDown_end (λx=>!Sort.ltInt x y[a]!) y B A (Or.inl H)).symm.trans I.o;clear K I;have C:wr.drewN nq=W1.drewN (J+nq):=(by rw[S.o,tL]);generalize wr.drewN nq=W3 at C⊢;have O:∀t,t<d.size->W3.cell? ⟨zc,o+t,none⟩=some (.int .u64 (F t)):=λt ht=>(by rw[C];exact hc t ht);have ab:∀t,t<d.size->W3.frozen? ⟨zc,o+t,none⟩=false:=λt ht=>(by rw[C];exact hf t ht);have N:qA (W3=W1.drewN (J+nq)):=C;clear C;obtain⟨v3,ac⟩:=tZ (w:=W3) (p:=⟨zc,o+A,none⟩) (x:=.int .u64 (F a)) (q:=⟨zc,o+a,none⟩) (O a b6);have ak:A<d.size:=b6
            go_wp2;go_region;all_goals go_wp2
            all_goals go_ret2
            have e:Sort.partition Sort.ltInt d a b u=(A,false,Sort.swp y A a):=(by have e0:=(part_break Sort.ltInt a i j y P.o M.o b6).symm.trans AE.o;rw[HP.o,<-e0]);refine⟨?_,n+(J+nq)+1,?_⟩
            .rw[e];rfl
            .rw[e,N.o,AW.o,tL,L.o a,L.o A];exact swap_worldC zg w zc o y _ A a b6 b6
     .go_wp2_with fail
      go_big_quiet (first|(go_at_call 204;refine tK (za _ _ _)))
      have M:qA (A=Sort.scanDown (λx=>!Sort.ltInt x y[a]!) y B j):=(scanDown_end (λx=>!Sort.ltInt x y[a]!) y B A (Or.inl H)).symm.trans I.o;clear K I;have C:wr.drewN nq=W1.drewN (J+nq):=(by rw[S.o,tL]);generalize wr.drewN nq=W3 at C⊢;have O:∀t,t<d.size->W3.cell? ⟨zc,o+t,none⟩=some (.int .u64 (F t)):=λt ht=>(by rw[C];exact hc t ht);have ab:∀t,t<d.size->W3.frozen? ⟨zc,o+t,none⟩=false:=λt ht=>(by rw[C];exact hf t ht);have N:qA (W3=W1.drewN (J+nq)):=C;clear C;obtain⟨v3,ac⟩:=tZ (w:=W3) (p:=⟨zc,o+A,none⟩) (x:=.int .u64 (F a)) (q:=⟨zc,o+a,none⟩) (O a b6);have ak:A<d.size:=b6
      go_wp2;go_region;all_goals go_wp2
      all_goals go_ret2
      have e:Sort.partition Sort.ltInt d a b u=(A,true,Sort.swp y A a):=part_first_break Sort.ltInt d a b u HI.o HJ.o ag.o P.o M.o b6;refine⟨?_,n+(J+nq)+1,?_⟩
      .rw[e];rfl
      .rw[e,N.o,AW.o,tL,L.o a,L.o A];exact swap_worldC zg w zc o y _ A a b6 b6
  .go_wp2_with fail
   go_big_quiet (first|(go_at_call 204;refine tK (za _ _ _)))
   go_wp2;have P:qA (B=Sort.scanUp (λx=>Sort.ltInt x y[a]!) y j i):=(scanUp_end (λx=>Sort.ltInt x y[a]!) y j B (Or.inl ae)).symm.trans T.o;have E:wr.drewN nq=W1.drewN (X+nq):=(by rw[Q.o,tL]);clear K Q T
   go_loopw [11] (λU w2=>∃(A J:Nat),U=.int .i64 A/\A<=j/\B<=A+1/\w2=W1.drewN J /\
    qA (Sort.scanDown (λx=>!Sort.ltInt x y[a]!) y B A=Sort.scanDown (λx=>!Sort.ltInt x y[a]!) y B j))
    (λU _=>(intOf U).toNat)
   case atStart=>exact⟨j,X+nq,rfl,Zp _,V,E,rfl⟩
   case round=>
    clear E;obtain⟨A,J,rfl,ai,ad,E,I⟩:=hrel;have K:∀t,t<d.size->wr.cell? ⟨zc,o+t,none⟩=some (.int .u64 (F t)):=λt ht=>(by rw[E];exact hc t ht);have S:qA (wr=W1.drewN J):=E;clear E;by_cases H:B<=A
    .exfalso;omega
    .go_wp2_with fail
     go_big_quiet (first|(go_at_call 204;refine tK (za _ _ _)))
     have M:qA (A=Sort.scanDown (λx=>!Sort.ltInt x y[a]!) y B j):=(scanDown_end (λx=>!Sort.ltInt x y[a]!) y B A (Or.inl H)).symm.trans I.o;clear K I;have C:wr.drewN nq=W1.drewN (J+nq):=(by rw[S.o,tL]);generalize wr.drewN nq=W3 at C⊢;have O:∀t,t<d.size->W3.cell? ⟨zc,o+t,none⟩=some (.int .u64 (F t)):=λt ht=>(by rw[C];exact hc t ht);have ab:∀t,t<d.size->W3.frozen? ⟨zc,o+t,none⟩=false:=λt ht=>(by rw[C];exact hf t ht);have N:qA (W3=W1.drewN (J+nq)):=C;clear C;obtain⟨v3,ac⟩:=tZ (w:=W3) (p:=⟨zc,o+A,none⟩) (x:=.int .u64 (F a)) (q:=⟨zc,o+a,none⟩) (O a b6);have ak:A<d.size:=b6
     go_wp2;go_region;all_goals go_wp2
     all_goals go_ret2
     have e:Sort.partition Sort.ltInt d a b u=(A,true,Sort.swp y A a):=part_first_break Sort.ltInt d a b u HI.o HJ.o ag.o P.o M.o b6;refine⟨?_,n+(J+nq)+1,?_⟩
     .rw[e];rfl
     .rw[e,N.o,AW.o,tL,L.o a,L.o A];exact swap_worldC zg w zc o y _ A a b6 b6
def xJ(zc o u a b j:Nat)(d:Array Int)(w:World)(C:Holds zg w zc o d)(y:a<=j)(A:j<b)(hb:b<=d.size)(B:d.size<4611686018427387904):
 Calls xT 206 #[.slice (some ⟨zc,o,none⟩) d.size u,.int .i64 a,.int .i64 b,.int .i64 j] w λe E=>
  e=.returned (.tuple #[.int .i64 (Sort.partition Sort.ltInt d a b j).1,.bool (Sort.partition Sort.ltInt d a b j).2.1])/\∃n,E=putRow zg (Sort.ahead w n) zc o (Sort.partition Sort.ltInt d a b j).2.2:=
 (Zc zc o u a b j d w C y A hb B).mono λ_ _ ⟨he,n,hw⟩=>⟨he,n,hw⟩
def xI(zc j T a L:Nat)(d:Array Int)(w:World)(V:Holds zg w zc j d)(u:zc<w.heap.size)(hb:a+L<=d.size)(ai:d.size<4611686018427387904)(h8:8<=L):
 Calls xT 200 #[.slice (some ⟨zc,j,none⟩) d.size T,.int .i64 a,.int .i64 ((a+L:Nat):Int)] w λe H=>
  e=.returned (.tuple #[])/\∃n os,H=grow (putRow zg (Sort.ahead w n) zc j (breakPatterns d a (a+L))) os:=by
 rw[breakPatterns_eq d a L h8];obtain⟨M,J⟩:∃M:Nat,M=1 <<< bitsLen L:=⟨_,rfl⟩;have ae:1<=M:=by rw[J,Nat.one_shiftLeft];exact Nat.two_pow_pos _
 have af:M<=2*L:=by rw[J,Nat.one_shiftLeft];exact two_pow_bitsLen_le b6
 have Y:∀w,Calls xT 218 #[.int .i64 (L:Int)] w λe H=>e=.returned (.int .u64 (M:Int))/\H=w:=by rw[J];exact λw=>kI L b6 w
 rw[<-J];clear J;have HH:qA (Holds zg w zc j d):=V;have Q:qA (w.alloc (Obj.cells #[.int .u64 (L:Int)] 294)=grow (putRow zg (Sort.ahead w 0) zc j d) #[Obj.cells #[.int .u64 ((UInt64.ofNat L).toNat:Int)] 294]):=by show _=_;rw[show Sort.ahead w 0=w from rfl,Th _ _ _ _ _ V,alloc_eq_grow,show (UInt64.ofNat L).toNat=L from by simp;omega]
 clear V;go_enter func200,ntmps200
 go_wp2_with (first|(go_at_call 218;rw[show ((a:Int)+(L:Int)-(a:Int))=(L:Int) by omega];refine(Y _).mono ?_;rintro e H ⟨rfl,rfl⟩))
 go_loopw [9] (λvi wr=>∃(t n:Nat) (r:UInt64) (o:Array Int),vi=.int .i64 ((a+L/4*2-1+t:Nat):Int)/\t<=3/\o.size=d.size /\
  wr=grow (putRow zg (Sort.ahead w n) zc j o) #[Obj.cells #[.int .u64 (r.toNat:Int)] 294] /\
  bpRest a L M (a+L/4*2-1) (3-t) t (r,o)=bpRest a L M (a+L/4*2-1) 3 0 (UInt64.ofNat L,d)) (λvi _=>a+L/4*2+3-(intOf vi).toNat)
 case atStart=>exact⟨0,0,UInt64.ofNat L,d,by congr 1;omega,b6,rfl,Q.o,rfl⟩
 case round=>
  obtain⟨t,n,r,o,rfl,ht,F,I,hR⟩:=hrel;obtain⟨R,B⟩:∃R:Nat,R=r.toNat:=⟨_,rfl⟩;have lR:R<18446744073709551616:=(by rw[B];exact r.toNat_lt);obtain⟨y,A⟩:∃y:Nat,y=xorNextN R:=⟨_,rfl⟩;have ac:y<18446744073709551616:=(by rw[A];exact xorNextN_lt R lR);obtain⟨O,N⟩:∃O:Nat,O=y &&& (M-1):=⟨_,rfl⟩;have lO:O<=M-1:=(by rw[N];exact Nat.and_le_right);have ad:bits .and .u64 (y:Int) ((M:Int)-1)=(O:Int):=(by rw[show ((M:Int)-1)=((M-1:Nat):Int) by omega,bits_and_u64_nat _ _ ac b6,N]);obtain⟨G,U⟩:∃G:Nat->Int,∀x,G x=o[x]!:=⟨λx=>o[x]!,λ_=>rfl⟩;have hz:(putRow zg (Sort.ahead w n) zc j o).heap.size=w.heap.size:=b8;have ag:∀x,x<d.size->wr.cell? ⟨zc,j+x,none⟩=some (.int .u64 (G x)):=λx hx=>(by rw[I,cell?_grow _ _ _ (by rw[hz];exact u),U];exact TD _ _ _ _ d o (tU _ _ _ _ _ _ HH.o) F x b6);have ah:∀x,x<d.size->wr.frozen? ⟨zc,j+x,none⟩=false:=λx hx=>(by rw[I,frozen?_grow _ _ _ (by rw[hz];exact u),Tj];exact((tU _ _ n _ _ _ HH.o) x hx).2);have Z:wr.cell? ⟨w.heap.size,0,none⟩=some (.int .u64 (R:Int)):=(by rw[I,B,<-hz];exact grow_one_cell _ _ _);have ab:wr.frozen? ⟨w.heap.size,0,none⟩=false:=(by rw[I,<-hz];exact grow_one_frozen _ _ _);have E:Calls xT 219 #[.pointer (some ⟨w.heap.size,0,none⟩)] wr λe H=>e=.returned (.int .u64 (y:Int))/\H=(wr.setCell ⟨w.heap.size,0,none⟩ (.int .u64 (y:Int))).drewN 3:=(by rw[A];exact Zd _ _ R lR wr Z ab)
  have S:qA (wr=grow (putRow zg (Sort.ahead w n) zc j o) #[Obj.cells #[.int .u64 (r.toNat:Int)] 294]):=I;have HG:qA (∀x,G x=o[x]!):=U;have P:qA (bpRest a L M (a+L/4*2-1) (3-t) t (r,o)=bpRest a L M (a+L/4*2-1) 3 0 (UInt64.ofNat L,d)):=hR;have K:qA (y=(xorNext r).toNat/\O=(xorNext r).toNat &&& (M-1)):=(by have e:y=(xorNext r).toNat:=(by rw[A,B,xorNext_toNat]);exact⟨e,by rw[N,e]⟩);clear I U hR B A N
  go_wp2_with (first|(go_at_call 219;refine E.mono ?_;rintro e H ⟨rfl,rfl⟩))
  ·
   have X:L<=O:=b6;by_cases C:a+L/4*2-1+t=a+(O-L);all_goals
    go_region;all_goals go_wp2
    go_roundw
    case rel=>
     refine⟨t+1,n+4,xorNext r,swp o (a+L/4*2-1+t) (a+(O-L)),by first|rfl|(congr 1<;>omega),b6,by rw[tY];exact F,?_,?_⟩
     ·(try rw[C])
      rw[S.o,K.o.1];simp only[HG.o];exact step_world zg w n 4 zc j o _ _ u b6 b6 _ _ _
     .rw[<-P.o,bp_step a L M _ t r o (O-L) b6 (by rw[<-K.o.2,VS b6])]
    case measure=>simp[intOf];omega
  .have X:¬L<=O:=b6;by_cases C:a+L/4*2-1+t=a+O;all_goals
    go_region;all_goals go_wp2
    go_roundw
    case rel=>
     refine⟨t+1,n+4,xorNext r,swp o (a+L/4*2-1+t) (a+O),by first|rfl|(congr 1<;>omega),b6,by rw[tY];exact F,?_,?_⟩
     ·(try rw[C])
      rw[S.o,K.o.1];simp only[HG.o];exact step_world zg w n 4 zc j o _ _ u b6 b6 _ _ _
     .rw[<-P.o,bp_step a L M _ t r o O b6 (by rw[<-K.o.2,V2 b6])]
    case measure=>simp[intOf];omega
  ·
   obtain rfl:t=3:=b6
   go_end0
   exact⟨rfl,n,_,by rw[<-P.o,S.o];rfl⟩
def vU(zc j o a b:Nat)(d:Array Int)(w:World)(A:Holds zg w zc j d)(u:zc<w.heap.size)(E:a<=b)(hb:b<=d.size)(B:d.size<4611686018427387904):
 Calls xT 200 #[.slice (some ⟨zc,j,none⟩) d.size o,.int .i64 a,.int .i64 b] w λe G=>
  e=.returned (.tuple #[])/\∃n os,G=grow (putRow zg (Sort.ahead w n) zc j (breakPatterns d a b)) os:=by
 obtain⟨L,rfl⟩:∃L,b=a+L:=⟨b-a,b6⟩;by_cases C:8<=L
 .exact xI zc j o a L d w A u hb B C
 .have F:breakPatterns d a (a+L)=d:=(by unfold breakPatterns;simp only[Nat.add_sub_cancel_left];rw[V2 C]);rw[F];have y:qA (w=grow (putRow zg (Sort.ahead w 0) zc j d) #[]):=(by show _=_;rw[grow_empty,show Sort.ahead w 0=w from rfl,Th _ _ _ _ _ A]);clear A;go_enter func200,ntmps200
  go_wp2
  go_end0
  exact⟨rfl,0,#[],y.o⟩
end
end Go.Proofs.YtjdjjlkifdimkaaGreatDoor
