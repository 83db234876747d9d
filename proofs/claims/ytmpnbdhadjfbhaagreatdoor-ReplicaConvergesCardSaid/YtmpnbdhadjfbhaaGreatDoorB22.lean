import Derived.Maps.OwnSet
import Derived.WideKeyEntry
import Derived.Test.YtmpnbdhadjfbhaaGreatDoorB12
import Derived.Test.YtmpnbdhadjfbhaaGreatDoorB21
set_option maxHeartbeats 16000000
set_option linter.all false
set_option maxRecDepth 100000
namespace Go.Proofs.YtmpnbdhadjfbhaaGreatDoor
def TE:=@Go.MapKept.run_getObj_map
def TF:=@Go.MapKept.run_setObj_map
open Go.RowKit
open Go.Proofs.Tryz
open Go.Proofs.Tryz renaming prog->xT
section
open Go.Maps Go.ChangeMaps
attribute [-go_sem] z7
def zR:Value:=.agg #[.int .u64 0,.int .u64 0,.int .u64 0,.string ⟨#[]⟩]
def zsv(w:World):(zeroValue 47).run xT w=.ok zR w:=dK
def zRc:Rc:=⟨0,0,0,⟨#[]⟩⟩
def MR(t B:Nat)(w:World)(l:List Rc):Prop:=∃D,w.ownsMap xT 36 rV B t D/\IsMap D/\(∀r,has D (kR r)=(zrZ l r).isSome)/\∀r,D.atKey (kR r) (.held zR)=.held (rcv ((zrZ l r).getD zRc))
def MR.made(w:World):MR 0 w.heap.size (w.alloc (.map #[] 0)) []:=⟨_,TN _ _ _ _,⟨[],rfl⟩,λr=>by simp[has,zrZ],λr=>by simp[zrZ];rfl⟩
def MR.keep{t B:Nat}{w w':World}{l:List Rc}(h:MR t B w l)(hb:w'.heap[B]?=w.heap[B]?):MR t B w' l:=by obtain⟨D,j,o⟩:=h;exact⟨D,yg j hb,o⟩
def MR.lt{t B:Nat}{w:World}{l:List Rc}(h:MR t B w l):B<w.heap.size:=by obtain⟨D,j,_⟩:=h;exact j.lt
def MR.mono{t j B:Nat}{w:World}{l:List Rc}(h:MR t B w l)(ht:t<=j):MR j B w l:=by obtain⟨D,o,u⟩:=h;exact⟨D,o.mono ht,u⟩
def zsX{t B:Nat}{w:World}{l:List Rc}{j:Array Oper}{rest:List Oper}{o:Oper}{a:Act}{Q:Exit->Act->World->Prop}(G:o.guard=none)(m x:Operand)(u:o.op=.lookup 82 m x true)
 (H:a.eval m=.map (some B)) (h:MR t B w l) {r:Nat} (J:r<zk) (K:a.eval x=.int .u64 (r:Nat))
 (I:zrZ l r=none->wpList xT j Q rest (a.put o.dst (.tuple #[.agg #[.int .u64 0,.int .u64 0,.int .u64 0,.string ⟨#[]⟩],.bool false])) w) (hs:∀y,zrZ l r=some y->wpList xT j Q rest (a.put o.dst (.tuple #[.agg #[.int .u64 y.item,.int .u64 y.rep,.int .u64 y.ctr,.string y.val],.bool true])) w):wpList xT j Q (o::rest) a w:=by
 obtain⟨D,C,L,E,F⟩:=h;refine wpList_lookup_own_ok w G m x _ u 36 47 vF underlying82 rV (zsv w) (.held zR) [] rfl B t D H C _ (kR r) K (Zq J) λv M A=>?_;rw[F r]at A;unfold rV at A;cases A;rw[E r];cases hq:zrZ l r with
 |none=>exact I hq
 |some y=>exact hs y hq
def ztf{t B:Nat}{w:World}{l:List Rc}{u:Array Oper}{rest:List Oper}{o:Oper}{a:Act}{Q:Exit->Act->World->Prop}(H:o.guard=none)(m x:Operand)(C:o.op=.lookup 82 m x false)
 (I:a.eval m=.map (some B)) (h:MR t B w l) {r:Nat} (J:r<zk) (K:a.eval x=.int .u64 (r:Nat)) {y:Rc} (L:zrZ l r=some y) (hs:wpList xT u Q rest (a.put o.dst (.agg #[.int .u64 y.item,.int .u64 y.rep,.int .u64 y.ctr,.string y.val])) w):wpList xT u Q (o::rest) a w:=by
 obtain⟨D,F,N,O,G⟩:=h;refine TU H λM A=>?_;obtain⟨v,P,j,E⟩:=F.lookup vF underlying82 (zsv w) (zd:=.held zR) (zp:=[]) rfl (Zq J);rw[G r,L]at E;unfold rV at E;cases E;unfold Oper.wp;simp[execOp,C,I,K,j,Result.andThen];exact A _ _ hs
def MR.put{t B:Nat}{u:World}{D:DV}{l:List Rc}{y:Rc}(j:IsMap D)(w:∀r,has D (kR r)=(zrZ l r).isSome)(A:∀r,D.atKey (kR r) (.held zR)=.held (rcv ((zrZ l r).getD zRc)))(o:zr8 l)(C:u.ownsMap xT 36 rV B t (D.put (kR y.item) (.held (rcv y)))):MR t B u (zr4 l y):=by
 refine⟨_,C,j.put _ _,λs=>?_,λs=>?_⟩
 .rw[zsb s o];by_cases e:s=y.item
  .subst e;rw[TV j (Qc _),vD rfl];rfl
  .rw[TR (λh=>e (Xa h)),w s,Vq (λh=>e h.symm)]
 .rw[zsb s o];by_cases e:s=y.item
  .subst e;rw[vD rfl];exact atKey_put_same j (Qc _) _ _
  .rw[Vq (λh=>e h.symm),TZ (λh=>e (Xa h))];exact A s
open Go.WideElems Go.MapKept Go.ChangeMaps in
def zuk{w:World}{B:Nat}{u:Array MapEntry}{c:Nat}{y v:Value}{kl:Lit}(hb:w.heap[B]?=some (.map u c))(F:WideElems.Fit (H:=Value) xT 36 rV u c)(hk:keyOf xT 36 y=some kl):
 ∃(v0:Value) (st:Nat) (J:Array MapEntry) (Y:Nat),(Instr.mapEntry 82 (.map (some B)) y).run xT w=.ok (.tuple #[v0,goInt st]) (setBlock w B (.map J Y))/\∀N:World,N.heap[B]?=some (.map J Y) ->
  ∃K Z,(Instr.entryStore 82 (.map (some B)) (goInt st) v).run xT N=.ok () (setBlock N B (.map K Z))/\(Instr.mapUpdate 82 (.map (some B)) y v).run xT w=.ok () (setBlock w B (.map K Z)):=by
 have S:=tG (w:=w) underlying82
 have Q:=TE (P:=xT) hb;have C:=λem=>vF.check w em hk;have E:=λo=>TF (P:=xT) o hb;rcases vF.find w hk u.toList F.keys with⟨L,_⟩|⟨j,I,L,G,O⟩
 .refine⟨zR,c,u.push ⟨y,zR,c⟩,c+1,?_,λN M=>⟨u.push ⟨y,v,c⟩,c+1,?_,?_⟩⟩
  .simp[Instr.mapEntry,S,Q,C,L,zsv,E,Result.andThen,setBlock];exact⟨rfl,rfl⟩
  .have V:((u.push ⟨y,zR,c⟩).toList.map (·.born)).Nodup:=(by rw[UU,WJ,Uq];refine⟨F.stamped.2.1,b6,λa ha b hb e=>?_⟩;obtain⟨x,hx,rfl⟩:=wB.1 ha;have:=F.stamped.1 x hx;simp at hb;omega);have A:=findIdx_born V (j:=u.size) (e0:=⟨y,zR,c⟩) b6;rw[<-findIdx_arr]at A;have U:(u.push ⟨y,zR,c⟩).modify u.size (λe=>{ e with val:=v })=u.push ⟨y,v,c⟩:=Array.ext' (by
    rw[Uf,UU,UU,<-Array.length_toList,modify_last])
   simp[Instr.entryStore,TE M,asInt,asIntOf,goInt,A,U,TF _ M,Result.andThen,setBlock]
  .simp[Instr.mapUpdate,S,Q,C,L,E,Result.andThen,setBlock]
 .have hj:u[j]?=some I:=(dJ G);have T:({ I with key:=y }:MapEntry)=I:=(by rw[<-O]);have X:u.modify j (λe=>{ e with key:=y })=u:=Array.ext' (by rw[Uf,modify_eq_set _ _ _ _ G,T];exact set_self _ _ _ G);refine⟨I.val,I.born,u,c,?_,λN M=>⟨u.modify j (λe=>{ e with key:=y,val:=v }),c,?_,?_⟩⟩
  .simp[Instr.mapEntry,S,Q,C,L,hj,O,vF.stays w hk,X,E,Result.andThen,setBlock]
  .have A:=findIdx_born F.stamped.2.1 G;rw[<-findIdx_arr]at A;have U:u.modify j (λe=>{ e with val:=v })=u.modify j (λe=>{ e with key:=y,val:=v }):=Array.ext' (by rw[Uf,Uf,modify_eq_set _ _ _ _ G,modify_eq_set _ _ _ _ G,<-O]);simp[Instr.entryStore,TE M,asInt,asIntOf,goInt,A,U,TF _ M,Result.andThen,setBlock]
  .simp[Instr.mapUpdate,S,Q,C,L,hj,O,vF.stays w hk,E,Result.andThen,setBlock]
def zu8{t B:Nat}{w:World}{l:List Rc}(h:MR t B w l)(T:zr8 l)(U:t<maxLen){y:Rc}(N:y.item<zk):∃(I:Value) (st:Int) (J K:World),(Instr.mapEntry 82 (.map (some B)) (.int .u64 (y.item:Nat))).run xT w=.ok (.tuple #[I,.int .i64 st]) J /\
 (Instr.entryStore 82 (.map (some B)) (.int .i64 st) (rcv y)).run xT J=.ok () K/\MR (t+1) B K (zr4 l y)/\w.grownBy K (some B)/\(∀k,k≠B->J.heap[k]?=w.heap[k]?):=by
 obtain⟨D,M,P,Q,S⟩:=h;obtain⟨w',j,X,Y⟩:=M.update vF underlying82 U (Zq N) (val:=rcv y) rfl;have E:=M;obtain⟨Z,C,hb,F,_,_⟩:=E;obtain⟨I,st,o,A,e1,e2⟩:=zuk (v:=rcv y) hb F (Zq N);have H:=(XV.1 hb).1;have G:(setBlock w B (.map o A)).heap[B]?=some (.map o A):=by simp[setBlock,H]
 obtain⟨u,L,O,V⟩:=e2 _ G;rw[V]at j;cases j;have e:setBlock (setBlock w B (.map o A)) B (.map u L)=setBlock w B (.map u L):=by simp[setBlock]
 rw[e]at O;exact⟨I,st,_,_,e1,O,MR.put P Q S T X,Y,λk hk=>by simp[setBlock,uP hk]⟩
end
def OutG(C:Qk)(mb base:Nat)(w:World)(v:Value)(o:List Fg):Prop:=
 ∃j,OwnC base w v o.length j/\∀i (h:i<o.length),∃a b,j[i*2]?=some a/\j[i*2+1]?=some b/\Dat (DX C mb w v) w a (rg o[i].items)/\Dat (DX C mb w v) w b (vp o[i].vec)
def OutG.start(C:Qk)(j base:Nat)(w:World):OutG C j base w (.slice none 0 0) []:=⟨[],⟨tR _ _ _ _,rfl,b6⟩,λi h=>absurd h b6⟩
def OutG.owns{C:Qk}{u base:Nat}{w:World}{v:Value}{o:List Fg}(h:OutG C u base w v o):∀k,v.ownBlock=some k->base<=k/\k<w.heap.size:=by obtain⟨y,j,_⟩:=h;exact j.1.lt
def OutG.shape{C:Qk}{G base:Nat}{w:World}{v:Value}{o:List Fg}(h:OutG C G base w v o):∃u j,v=.slice u o.length j/\o.length<=j/\j<=maxLen:=by
 obtain⟨H,B,_⟩:=h;rcases B.cases with⟨rfl,A,_⟩|⟨g,j,y,rfl,_,_,_,E,F,_⟩
 .exact⟨none,0,by rw[A],a8,b8⟩
 .exact⟨_,j,rfl,E,F⟩
def OwnC.keep{base:Nat}{w w':World}{v:Value}{n:Nat}{xs:List Value}(h:OwnC base w v n xs)(hb:∀k,v.ownBlock=some k->w'.heap[k]?=w.heap[k]?):OwnC base w' v n xs:=by
 refine⟨⟨h.1.1,?_⟩,h.2⟩;rcases h.1.2 with h|⟨g,j,o,e,y,u,r⟩
 .exact .inl h
 .exact .inr ⟨g,j,o,e,y,(hb g (by rw[e];rfl)).trans u,r⟩
def OutG.keep{C:Qk}{u base:Nat}{w w':World}{v:Value}{o:List Fg}(h:OutG C u base w v o)(hs:w.heap.size<=w'.heap.size)(hb:∀k,k<w.heap.size->w'.heap[k]?=w.heap[k]?):OutG C u base w' v o:=by obtain⟨xs,j,y⟩:=h;refine⟨xs,j.keep λk hk=>hb k (j.1.lt k hk).2,λi hi=>?_⟩;obtain⟨a,b,c,d,e,f⟩:=y i hi;exact⟨a,b,c,d,DX.keep e hs λk hk _=>hb k hk,DX.keep f hs λk hk _=>hb k hk⟩
def DX.grown{C:Qk}{u:Nat}{w A:World}{v y x:Value}{p:PV}(h:Dat (DX C u w v) w x p)(F:∀b o,C b o->b<u)(G:u<w.heap.size)(B:w.grownBy A v.ownBlock)(j:y.ownBlock=v.ownBlock\/y.ownBlock=some w.heap.size):Dat (DX C u A y) A x p:=
 h.mono (λb o h=>⟨h.1.imp id λh=>⟨h.1,Vm h.2 B.size⟩,λe=>by
  rcases j with j|j
  .exact h.2 (j.symm.trans e)
  .rw[j]at e;cases e;rcases h.1 with h|h
   .have:=F _ _ h;omega
   .omega⟩) λb o x h E=>(tl (a:=⟨b,o,none⟩) (B.block b (tp w ⟨b,o,none⟩ E) λe=>h.2 e.symm)).trans E
def zeu{D:Qk}{w:World}{v:Value}{l:List En}(h:Dat D w v (vp l)):v.oneCell'=true:=by have o:Dat D w v (.sl (l.map ec) .sh):=h;obtain⟨y,j,A,b,u,f,e1,_⟩:=(Rel.dat (ρ:=λ_=>0) (nb:=0) o).inv_sl;rw[e1];rfl
def OutG.insK{C:Qk}{B base:Nat}{w G:World}{v I:Value}{o:List Fg}{f:Fg}{E:List Value}{p q:Value}{i:Nat}(hi:i<=o.length)(P:E.length=o.length*2)
 (J:∀i (h:i<o.length),∃a b,E[i*2]?=some a/\E[i*2+1]?=some b/\Dat (DX C B w v) w a (rg o[i].items)/\Dat (DX C B w v) w b (vp o[i].vec))
 (N:Dat (DX C B w v) w p (rg f.items)) (O:Dat (DX C B w v) w q (vp f.vec)) (u:∀{x:Value}{p:PV},Dat (DX C B w v) w x p->Dat (DX C B G I) G x p)
 (ho:OwnC base G I (o.length+1) (E.take (i*2)++[p,q]++E.drop (i*2))):OutG C B base G I (o.take i++f::o.drop i):=by
 have A:(o.take i++f::o.drop i).length=o.length+1:=a9
 have ht:(E.take (i*2)).length=i*2:=a9
 refine⟨_,by rw[A];exact ho,λj L=>?_⟩;rw[A]at L;rcases WL j i with M|H|K
 .obtain⟨a,b,c,d,e,k⟩:=J j a8;have y:(o.take i++f::o.drop i)[j]=o[j]'a8:=(by rw[ut a9,uZ]);rw[y];refine⟨a,b,?_,?_,u e,u k⟩
  .rw[wQ,wh a8,wt,vD a8];exact c
  .rw[wQ,wh a8,wt,vD a8];exact d
 .subst H;have y:(o.take j++f::o.drop j)[j]=f:=by rw[Wu (by rw[Wc];exact UG _ _)];simp[WZ hi]
  rw[y];refine⟨p,q,?_,?_,u N,u O⟩
  .rw[wQ,V2 a8,ht,UM];rfl
  .rw[wQ,V2 a8,ht,show j*2+1-j*2=1 by omega];rfl
 .obtain⟨a,b,c,d,e,k⟩:=J (j-1) a8;have y:(o.take i++f::o.drop i)[j]=o[j-1]'a8:=(by rw[Wu a9];obtain⟨m,rfl⟩:∃m,j=i+1+m:=⟨j-(i+1),a8⟩;simp only[Wc,WZ hi,show i+1+m-i=m+1 by omega,WN,Us,show i+1+m-1=i+m by omega]);rw[y];have F:(E.take (i*2)++[p,q]).length=i*2+2:=a9;refine⟨a,b,?_,?_,u e,u k⟩
  .rw[V2 a8,F,Wi,show i*2+(j*2-(i*2+2))=(j-1)*2 by omega];exact c
  .rw[V2 a8,F,Wi,show i*2+(j*2+1-(i*2+2))=(j-1)*2+1 by omega];exact d
def OutG.ins{C:Qk}{j base:Nat}{w E:World}{v y:Value}{o:List Fg}{f:Fg}{u:List Value}{p q:Value}{i:Nat}(hi:i<=o.length)(I:u.length=o.length*2)
 (F:∀i (h:i<o.length),∃a b,u[i*2]?=some a/\u[i*2+1]?=some b/\Dat (DX C j w v) w a (rg o[i].items)/\Dat (DX C j w v) w b (vp o[i].vec))
 (J:Dat (DX C j w v) w p (rg f.items)) (K:Dat (DX C j w v) w q (vp f.vec)) (G:∀b o,C b o->b<j) (A:j<w.heap.size)
 (ho:OwnC base E y (o.length+1) (u.take (i*2)++[p,q]++u.drop (i*2))) (H:w.grownBy E v.ownBlock) (B:y.ownBlock=v.ownBlock\/y.ownBlock=some w.heap.size):OutG C j base E y (o.take i++f::o.drop i):=
 OutG.insK hi I F J K (λh=>DX.grown h G A H B) ho
def DX.new{C:Qk}{A:Nat}{w u:World}{v B x:Value}{p:PV}(h:Dat (DX C A w v) w x p)(E:∀b o,C b o->b<w.heap.size)(hb:Below w.heap.size w u)(j:∀k,B.ownBlock=some k->w.heap.size<=k):Dat (DX C A u B) u x p:=
 h.mono (λb o h=>⟨h.1.imp id λh=>⟨h.1,Vm h.2 hb.size⟩,λe=>by
  have:=j b e;rcases h.1 with h|h
  .have:=E _ _ h;omega
  .omega⟩) λb o x _ y=>(tl (a:=⟨b,o,none⟩) (hb.block b (tp w ⟨b,o,none⟩ y))).trans y
def OutG.set{C:Qk}{H base g:Nat}{w:World}{y:Nat}{o:List Fg}{l:List Iv}{E:Value}{i:Nat}(h:OutG C H base w (.slice (some ⟨g,0,none⟩) o.length y) o)(hi:i<o.length)(N:Dat (DX C H w (.slice (some ⟨g,0,none⟩) o.length y)) w E (rg l))(O:0<y):
 OutG C H base (w.setCell ⟨g,i*2,none⟩ E) (.slice (some ⟨g,0,none⟩) o.length y) (o.take i++⟨l,o[i].vec⟩::o.drop (i+1)):=by
 obtain⟨X,I,Q⟩:=h;have A:(o.take i++(⟨l,o[i].vec⟩:Fg)::o.drop (i+1)).length=o.length:=a9
 obtain⟨V,Y⟩:=I.1.stored (i*2) E;have J:(Value.slice (some ⟨g,0,none⟩) o.length y).ownBlock=some g:=by
  cases y with
  |zero=>omega
  |succ c=>rfl
 have B:∀{x:Value}{p:PV},Dat (DX C H w (.slice (some ⟨g,0,none⟩) o.length y)) w x p->Dat (DX C H (w.setCell ⟨g,i*2,none⟩ E) (.slice (some ⟨g,0,none⟩) o.length y)) (w.setCell ⟨g,i*2,none⟩ E) x p:=λh=>
  DX.keep h b6 λk hk L=>tw _ _ _ _ λe=>L (by rw[J];exact W8 some e.symm)
 refine⟨X.set (i*2) E,⟨by rw[A];exact V,by rw[A,Ui];exact I.2.1,λu M=>?_⟩,λj P=>?_⟩
 .rcases Ue M with M|rfl
  .exact I.2.2 u M
  .exact Ki N
 .have K:j<o.length:=(by rw[A]at P;exact P);obtain⟨a,b,c,d,e,k⟩:=Q j K;have U:=I.2.1;by_cases G:j=i
  .subst G;have F:(o.take j++(⟨l,o[j].vec⟩:Fg)::o.drop (j+1))[j]=⟨l,o[j].vec⟩:=by rw[Wu (by rw[Wc];exact UG _ _)];simp[WZ (uy hi)]
   rw[F];refine⟨E,b,?_,?_,B N,B k⟩
   .rw[WM a8]
   .rw[wU a8];exact d
  .have F:(o.take i++(⟨l,o[i].vec⟩:Fg)::o.drop (i+1))[j]=o[j]:=by
    rcases Nat.lt_or_gt_of_ne G with T|S
    .rw[ut a9,uZ]
    .rw[Wu a9];obtain⟨m,rfl⟩:∃m,j=i+1+m:=⟨j-(i+1),a8⟩;simp only[Wc,WZ (uy hi),show i+1+m-i=m+1 by omega,WN,Us]
   rw[F];refine⟨a,b,?_,?_,B e,B k⟩
   .rw[wU a8];exact c
   .rw[wU a8];exact d
def OutG.setV{C:Qk}{B base g:Nat}{w:World}{y:Nat}{o:List Fg}{a0:Value}{i n:Nat}(N:o.length=n)(h:OutG C B base w (.slice (some ⟨g,0,none⟩) n y) o)(hi:i<o.length)(J:Dat (DX C B w (.slice (some ⟨g,0,none⟩) n y)) w a0 (vp o[i].vec))(K:0<y):
 OutG C B base (w.setCell ⟨g,i*2+1,none⟩ a0) (.slice (some ⟨g,0,none⟩) n y) o:=by
 subst N;obtain⟨Q,E,L⟩:=h;obtain⟨P,S⟩:=E.1.stored (i*2+1) a0;have F:(Value.slice (some ⟨g,0,none⟩) o.length y).ownBlock=some g:=by
  cases y with
  |zero=>omega
  |succ c=>rfl
 have A:∀{x:Value}{p:PV},Dat (DX C B w (.slice (some ⟨g,0,none⟩) o.length y)) w x p->Dat (DX C B (w.setCell ⟨g,i*2+1,none⟩ a0) (.slice (some ⟨g,0,none⟩) o.length y)) (w.setCell ⟨g,i*2+1,none⟩ a0) x p:=λh=>
  DX.keep h b6 λk hk H=>tw _ _ _ _ λe=>H (by rw[F];exact W8 some e.symm)
 refine⟨Q.set (i*2+1) a0,⟨P,by rw[Ui];exact E.2.1,λu I=>?_⟩,λj M=>?_⟩
 .rcases Ue I with I|rfl
  .exact E.2.2 u I
  .exact zeu J
 .obtain⟨a,b,c,d,e,k⟩:=L j M;have O:=E.2.1;by_cases G:j=i
  .subst G;refine⟨a,a0,?_,?_,A e,A J⟩
   .rw[wU a8];exact c
   .rw[WM a8]
  .refine⟨a,b,?_,?_,A e,A k⟩
   .rw[wU a8];exact c
   .rw[wU a8];exact d
def OutG.dat{C:Qk}{H base:Nat}{w:World}{v:Value}{o:List Fg}(h:OutG C H base w v o)(hb:H<base):Dat (DL C H w) w v (kp o):=by
 obtain⟨K,L,O⟩:=h;rcases L.1.2 with⟨rfl,N⟩|⟨g,I,M,rfl,X,Q,V,U,hs,ht⟩
 .obtain rfl:=wW.1 N;exact .sl none 0 2 [] .sh 0 0 (λ_=>undef) b6 (λh=>by cases h) b8 (λh=>absurd rfl h) (λi e h=>by simp at h) (λj h=>by simp at h) (λi e j p h=>by simp at h)
 .have J:=(XV.1 Q).1;have F:∀j x,K[j]?=some x->w.cell? ⟨g,j,none⟩=some x:=λj x A=>(by have:=L.1.cells (g:=g) rfl j x A;rw[zh,wn]at this;exact this);have u:∀i (h:i<o.length) j p,(fc o[i])[j]?=some p->∃x,K[i*2+j]?=some x/\Dat (DL C H w) w x p/\x.oneCell'=true:=λi h j p B=>by
   obtain⟨a,b,c,d,e,k⟩:=O i h;match j,B with
   |0,B=>cases B;exact⟨_,c,e.mono (λ_ _ h=>h.1) λ_ _ _ _ h=>h,Ki e⟩
   |1,B=>cases B;exact⟨_,d,k.mono (λ_ _ h=>h.1) λ_ _ _ _ h=>h,zeu k⟩
   |j+2,B=>simp[fc]at B
  have E:∀(i:Nat)(e:List PV),(o.map fc)[i]?=some e->∃h:i<o.length,e=fc o[i]:=λi e G=>(by rw[wk]at G;obtain⟨x,A,rfl⟩:=ZZ.1 G;obtain⟨h,rfl⟩:=Zw.1 A;exact⟨h,rfl⟩);have y:(o.map fc).length=o.length:=ww _;unfold kp;rw[<-y];refine .sl (some ⟨g,0,none⟩) I 2 (o.map fc) .sh g 0 (λj=>(K[j]?).getD undef) (by rw[y];exact V) (λh=>by cases h) U (λ_=>rfl) (λi e G=>?_) (λj T=>?_) (λi e j p G B=>?_)
  .obtain⟨h,rfl⟩:=E i e G;rfl
  .rw[y]at T;have hi:j/2<o.length:=a8;have P:j%2<(fc o[j/2]).length:=U1 _ b8;obtain⟨x,A,_,ho⟩:=u (j/2) hi (j%2) ((fc o[j/2])[j%2]) (Zv P);rw[show j/2*2+j%2=j by omega]at A;rw[wn];refine⟨.inr ⟨a8,J⟩,?_,?_⟩
   .rw[A];exact F j x A
   .rw[A];exact ho
  .obtain⟨h,rfl⟩:=E i e G;obtain⟨x,A,S,_⟩:=u i h j p B;rw[A];exact S
def OutG.box{C:Qk}{u base rb:Nat}{w:World}{v x:Value}{o:List Fg}(h:OutG C u base w v o)(hb:rb<u)(F:rb<base)(E:∀b o,C b o->b≠rb):OutG C u base (w.setCell ⟨rb,0,none⟩ x) v o:=by
 have j:∀{y:Value}{p:PV},Dat (DX C u w v) w y p->Dat (DX C u (w.setCell ⟨rb,0,none⟩ x) v) (w.setCell ⟨rb,0,none⟩ x) y p:=λh=>
  h.mono (λb o h=>⟨h.1.imp id λh=>⟨h.1,dJ h.2⟩,h.2⟩) λb o y h G=>(tl (a:=⟨b,o,none⟩) (tw _ _ _ _ (by
   show b≠rb;rcases h.1 with h|h
   .exact E _ _ h
   .omega))).trans G
 obtain⟨H,A,B⟩:=h;refine⟨H,A.keep λk hk=>tw _ _ _ _ (by have:=(A.1.lt k hk).1;show k≠rb;omega),λi hi=>?_⟩;obtain⟨a,b,c,d,e,f⟩:=B i hi;exact⟨a,b,c,d,j e,j f⟩
def ZH(v w:List En):Prop:=zZ (zv v) (zv w)<0
def ku(v:List En):¬ZH v v:=by unfold ZH;rw[(cmpL_zero _ _).2 rfl];decide
def k8{a b c:List En}(j:ZH a b)(o:ZH b c):ZH a c:=by
 unfold ZH at *;have u:=ZW _ _ _ (Int.le_of_lt j) (Int.le_of_lt o);rcases Int.lt_or_eq_of_le u with h|h
 .exact h
 .have e:=Vv ((cmpL_zero _ _).1 h);subst e;have:=ZV (zv a) (zv b);omega
def zfI{a b:List En}(j:¬ZH a b)(o:zZ (zv a) (zv b)≠0):ZH b a:=by unfold ZH at *;have:=ZV (zv a) (zv b);omega
def YU{a b:List En}(h:zZ (zv a) (zv b)=0):a=b:=Vv ((cmpL_zero _ _).1 h)
def qN:List Fg->Fg->List Fg
 |[],f=>[f]
 |g::r,f=>if zZ (zv g.vec) (zv f.vec)<0 then g::qN r f else if zZ (zv g.vec) (zv f.vec)=0 then ⟨qy zn g.items f.items,f.vec⟩::r else f::g::r
def yo(o:List Fg)(f:Fg):List Fg:=if zi f.vec=[]\/f.items=[] then o else qN o ⟨f.items,zi f.vec⟩
def zL(k:List Fg):List Fg:=k.foldl yo []
def OkG(f:Fg):Prop:=CanV f.vec/\f.vec≠[]/\Nrm f.items/\f.items≠[]
structure GrpI(k:List Fg):Prop where
 ok:∀f∈k,OkG f
 srt:k.Pairwise λf g=>ZH f.vec g.vec
def GrpI.nil:GrpI []:=⟨λf h=>(by cases h),List.Pairwise.nil⟩
def GrpI.tail{f:Fg}{k:List Fg}(h:GrpI (f::k)):GrpI k:=⟨λg j=>h.ok g (by simp[j]),(V3.1 h.srt).2⟩
def GrpI.right{k:List Fg}(h:GrpI k):RightK k:=λf j=>⟨(h.ok f j).2.2.1,(h.ok f j).1.right⟩
def JZ{l:List Iv}(h:Nrm l)(j:l≠[]):∃x,x<zk/\mem l x=true:=by
 cases l with
 |nil=>exact absurd rfl j
 |cons s l=>have:=NF.lo_ge h s b6;exact⟨s.lo,a8,qf.2 ⟨s,b6,Zp _,this.2.1⟩⟩
def zig{l:List Iv}{x:Nat}(h:mem l x=true):l≠[]:=λe=>by rw[e]at h;cases h
def Yw:∀{o:List Fg}{f:Fg},GrpI o->OkG f->(∀g∈qN o f,OkG g/\(g.vec=f.vec\/g∈o))/\GrpI (qN o f)/\(∀i r c,i<zk->hasK (qN o f) i r c=(hasK o i r c || (mem f.items i && mem (zT f.vec r) c)))
 |[],f,_,hf=>⟨λg u=>by simp only[qN,wD]at u;subst u;exact⟨hf,.inl rfl⟩,⟨λg u=>by simp only[qN,wD]at u;subst u;exact hf,by simp[qN]⟩,λi r c _=>by simp[qN,hasK]⟩
 | g::o,f,ho,hf=>by
   have u:=ho.ok g b6;have A:=V3.1 ho.srt;unfold qN;by_cases w:zZ (zv g.vec) (zv f.vec)<0
   .rw[vD w];obtain⟨B,G,H⟩:=Yw ho.tail hf;refine⟨λx j=>?_,⟨λx j=>?_,V3.2 ⟨λx j=>?_,G.srt⟩⟩,λi r c hi=>?_⟩
    .rcases wi.1 j with rfl|j
     .exact⟨u,.inr b6⟩
     .exact⟨(B x j).1,(B x j).2.imp id λh=>by simp[h]⟩
    .rcases wi.1 j with rfl|j
     .exact u
     .exact(B x j).1
    .rcases (B x j).2 with e|e
     .rw[e];exact w
     .exact A.1 x e
    .have:=H i r c hi;unfold hasK at this⊢;rw[ur,ur,this,UD]
   .rw[Vq w];by_cases y:zZ (zv g.vec) (zv f.vec)=0
    .rw[vD y];have e:g.vec=f.vec:=YU y;have E:OkG ⟨qy zn g.items f.items,f.vec⟩:=by refine⟨hf.1,hf.2.1,qH u.2.2.1 hf.2.2.1,?_⟩;obtain⟨x,j,F⟩:=JZ u.2.2.1 u.2.2.2;refine zig (x:=x) ?_;show mem (qy zn g.items f.items) x=true;rw[qj u.2.2.1 hf.2.2.1 j,F];rfl
     refine⟨λx j=>?_,⟨λx j=>?_,V3.2 ⟨λx j=>?_,A.2⟩⟩,λi r c hi=>?_⟩
     .rcases wi.1 j with rfl|j
      .exact⟨E,.inl rfl⟩
      .exact⟨ho.ok x (by simp[j]),.inr (by simp[j])⟩
     .rcases wi.1 j with rfl|j
      .exact E
      .exact ho.ok x (by simp[j])
     .have:=A.1 x j;rw[e]at this;exact this
     .unfold hasK;rw[ur,ur];simp only;rw[qj u.2.2.1 hf.2.2.1 hi,e];simp only[zn];cases mem g.items i<;>cases mem f.items i<;>cases mem (zT f.vec r) c<;>simp
    .rw[Vq y];have C:ZH f.vec g.vec:=zfI w y;refine⟨λx j=>?_,⟨λx j=>?_,V3.2 ⟨λx j=>?_,ho.srt⟩⟩,λi r c hi=>?_⟩
     .rcases wi.1 j with rfl|j
      .exact⟨hf,.inl rfl⟩
      .exact⟨ho.ok x j,.inr j⟩
     .rcases wi.1 j with rfl|j
      .exact hf
      .exact ho.ok x j
     .rcases wi.1 j with rfl|j
      .exact C
      .exact k8 C (A.1 x j)
     .unfold hasK;rw[ur,Bool.or_comm]
def Yi{f:Fg}(h:ZS f)(j:¬(zi f.vec=[]\/f.items=[])):OkG ⟨f.items,zi f.vec⟩:=⟨jN h.2,λe=>j (.inl e),h.1,λe=>j (.inr e)⟩
def Yr{o:List Fg}{f:Fg}(ho:GrpI o)(j:ZS f):GrpI (yo o f)/\∀i r c,i<zk->hasK (yo o f) i r c=(hasK o i r c || (mem f.items i && mem (zT f.vec r) c)):=by
 unfold yo;split
 .rename_i h;refine⟨ho,λi r c _=>?_⟩;rcases h with h|h
  .rw[<-ja j.2,h,knV_nil];simp
  .rw[h];simp
 .rename_i h;obtain⟨_,u,w⟩:=Yw ho (Yi j h);refine⟨u,λi r c hi=>?_⟩;rw[w i r c hi];simp only;rw[ja j.2]
def jV:∀{k:List Fg}{o:List Fg},GrpI o->RightK k->GrpI (k.foldl yo o)/\∀i r c,i<zk->hasK (k.foldl yo o) i r c=(hasK o i r c || hasK k i r c)
 |[],o,ho,_=>⟨ho,λi r c _=>by simp[hasK]⟩
 |f::k,o,ho,hk=>by obtain⟨j,u⟩:=Yr ho (hk f b6);obtain⟨w,y⟩:=jV (k:=k) j λg A=>hk g (by simp[A]);refine⟨w,λi r c hi=>?_⟩;rw[WI,y i r c hi,u i r c hi,UD];rfl
def vB{k:List Fg}(h:RightK k):GrpI (zL k):=(jV GrpI.nil h).1
def za5{k:List Fg}(h:RightK k){i r c:Nat}(hi:i<zk):hasK (zL k) i r c=hasK k i r c:=by have:=(jV GrpI.nil h).2 i r c hi;rw[show hasK [] i r c=false from rfl,uz]at this;exact this
def Qa:∀{o:List Fg}{f:Fg},(∀g∈o,Nrm g.items)->Nrm f.items->xh o->(∀g∈o,∀x,x<zk->¬(mem g.items x=true/\mem f.items x=true)) ->
 xh (qN o f)/\∀g∈qN o f,Nrm g.items/\∀x,x<zk->mem g.items x=true->mem f.items x=true\/∃H∈o,mem H.items x=true
 |[],f,_,hf,_,_=>⟨by simp[qN,xh],λg A=>by simp only[qN,wD]at A;subst A;exact⟨hf,λx _ u=>.inl u⟩⟩
 | g::o,f,ho,hf,ha,hd=>by
   have A:=ho g b6;have B:=V3.1 ha;unfold qN;by_cases F:zZ (zv g.vec) (zv f.vec)<0
   .rw[vD F];obtain⟨I,E⟩:=Qa (λx j=>ho x (by simp[j])) hf B.2 λx j=>hd x (by simp[j]);refine⟨V3.2 ⟨λx j z hz ⟨w,m2⟩=>?_,I⟩,λx j=>?_⟩
    .rcases (E x j).2 z hz m2 with e|⟨y,C,e⟩
     .exact hd g b6 z hz ⟨w,e⟩
     .exact B.1 y C z hz ⟨w,e⟩
    .rcases wi.1 j with rfl|j
     .exact⟨A,λz _ u=>.inr ⟨x,b6,u⟩⟩
     .refine⟨(E x j).1,λz hz u=>((E x j).2 z hz u).imp id ?_⟩;rintro⟨y,C,e⟩;exact⟨y,by simp[C],e⟩
   ·rw [Vq F];by_cases G:zZ (zv g.vec) (zv f.vec)=0
    .rw[vD G];refine⟨V3.2 ⟨λx j z hz ⟨w,m2⟩=>?_,B.2⟩,λx j=>?_⟩
     .simp only at w;rw[qj A hf hz]at w;simp only[zn,WH]at w;rcases w with w|w
      .exact B.1 x j z hz ⟨w,m2⟩
      .exact hd x (by simp[j]) z hz ⟨m2,w⟩
     .rcases wi.1 j with rfl|j
      .refine⟨qH A hf,λz hz u=>?_⟩;simp only at u;rw[qj A hf hz]at u;simp only[zn,WH]at u;rcases u with u|u
       .exact .inr ⟨g,b6,u⟩
       .exact .inl u
      .exact⟨ho x (by simp[j]),λz _ u=>.inr ⟨x,by simp[j],u⟩⟩
    .rw[Vq G];refine⟨V3.2 ⟨λx j z hz ⟨w,m2⟩=>hd x j z hz ⟨m2,w⟩,ha⟩,λx j=>?_⟩;rcases wi.1 j with rfl|j
     .exact⟨hf,λz _ u=>.inl u⟩
     .exact⟨ho x j,λz _ u=>.inr ⟨x,j,u⟩⟩
def vA:∀{k o:List Fg},(∀g∈o,Nrm g.items)->(∀f∈k,Nrm f.items)->xh o->xh k->(∀g∈o,∀f∈k,∀x,x<zk->¬(mem g.items x=true/\mem f.items x=true))->xh (k.foldl yo o)
 |[],o,_,_,ha,_,_=>ha
 | f::k,o,ho,hk,ha,hak,hd=>by
   have A:=V3.1 hak;rw[WI];unfold yo;split
   .exact vA ho (λg j=>hk g (by simp[j])) ha A.2 λg j w u=>hd g j w (by simp[u])
   .obtain⟨E,B⟩:=Qa (f:=⟨f.items,zi f.vec⟩) ho (hk f b6) ha λg j=>hd g j f b6;refine vA (λg j=>(B g j).1) (λg j=>hk g (by simp[j])) E A.2 λg j w u x hx ⟨m1,m2⟩=>?_;rcases (B g j).2 x hx m1 with e|⟨y,C,e⟩
    .exact A.1 w u x hx ⟨e,m2⟩
    .exact hd y C w (by simp[u]) x hx ⟨e,m2⟩
structure CanK(k:List Fg):Prop where
 gi:GrpI k
 apart:xh k
def za4{k:List Fg}(h:RightK k)(j:xh k):CanK (zL k):=⟨vB h,vA (λg h=>(by cases h)) (λf o=>(h f o).1) List.Pairwise.nil j λg h=>(by cases h)⟩
def CanK.one{k:List Fg}(h:CanK k){f:Fg}(w:f∈k){i:Nat}(hi:i<zk)(j:mem f.items i=true)(r c:Nat):hasK k i r c=mem (zT f.vec r) c:=by
 rw[Wz,km];constructor
 .rintro⟨g,A,y,o⟩;have:f=g:=by
   obtain⟨a,u,rfl⟩:=Wj w;obtain⟨b,hb,rfl⟩:=Wj A;rcases WL a b with e|e|e
   .exact absurd ⟨j,y⟩ (wP.1 h.apart a b u hb e i hi)
   .subst e;rfl
   .exact absurd ⟨y,j⟩ (wP.1 h.apart b a hb u e i hi)
  subst this;exact o
 .intro o;exact⟨f,w,j,o⟩
def CanK.vec{k:List Fg}(h:CanK k){f g:Fg}(u:f∈k)(w:g∈k)(e:f.vec=g.vec):f=g:=by
 obtain⟨a,o,rfl⟩:=Wj u;obtain⟨b,hb,rfl⟩:=Wj w;rcases WL a b with j|j|j
 .have:=wP.1 h.gi.srt a b o hb j;rw[e]at this;exact absurd this (ku _)
 .subst j;rfl
 .have:=wP.1 h.gi.srt b a hb o j;rw[e]at this;exact absurd this (ku _)
def zaK{v:List En}(h:CanV v)(u:v≠[]):∃r c,c<zk/\mem (zT v r) c=true:=by
 cases v with
 |nil=>exact absurd rfl u
 |cons e v=>have j:=h.1 e b6;obtain⟨x,w,o⟩:=JZ (qT j.1) (jO j).1;exact⟨e.rep,x,w,by rw[qm,vD rfl];exact o⟩
def Yh{a b:List Fg}(B:CanK a)(hb:CanK b)(h:∀i r c,i<zk->c<zk->hasK a i r c=hasK b i r c){f:Fg}(E:f∈a):∃g∈b,g.vec=f.vec/\∀x,x<zk->mem f.items x=true->mem g.items x=true:=by
 have ok:=B.gi.ok f E;have u:∀x,x<zk->mem f.items x=true->∃g∈b,g.vec=f.vec/\mem g.items x=true:=λx j A=>by obtain⟨r,c,C,hk⟩:=zaK ok.1 ok.2.1;have H:=B.one E j A r c;rw[hk,h x r c j C]at H;obtain⟨g,o,I,_⟩:=km.1 H;refine⟨g,o,?_,I⟩;have w:=hb.gi.ok g o;refine Zk w.1 ok.1 λr=>Nrm.unique (qi w.1.right r) (qi ok.1.right r) λc C=>?_;rw[<-hb.one o j I r c,<-B.one E j A r c,h x r c j C]
 obtain⟨x,j,A⟩:=JZ ok.2.2.1 ok.2.2.2;obtain⟨g,o,e,_⟩:=u x j A;refine⟨g,o,e,λy K G=>?_⟩;obtain⟨M,F,J,L⟩:=u y K G;rw[hb.vec o F (e.trans J.symm)];exact L
def ZD:∀{a b:List Fg},a.Pairwise (λf g=>ZH f.vec g.vec)->b.Pairwise (λf g=>ZH f.vec g.vec)->(∀f,f∈a↔f∈b)->a=b
 |[],[],_,_,_=>rfl
 |[],y::b,_,_,h=>absurd ((h y).2 b6) b6
 |x::a,[],_,_,h=>absurd ((h x).1 b6) b6
 | x::a,y::b,ha,hb,h=>by
   have j:=V3.1 ha;have o:=V3.1 hb;have A:x=y:=by
    have u:=(h x).1 b6;have w:=(h y).2 b6;simp at u w;rcases u with u|u
    .exact u
    .rcases w with w|w
     .exact w.symm
     .exact absurd (k8 (o.1 x u) (j.1 y w)) (ku _)
   subst A;congr 1;refine ZD j.2 o.2 λz=>?_;have:=h z;simp at this;constructor
   .intro hz;rcases this.1 (.inr hz)with e|e
    .subst e;exact absurd (j.1 z hz) (ku _)
    .exact e
   .intro hz;rcases this.2 (.inr hz)with e|e
    .subst e;exact absurd (o.1 z hz) (ku _)
    .exact e
def XN{a b:List Fg}(j:CanK a)(hb:CanK b)(h:∀i r c,i<zk->c<zk->hasK a i r c=hasK b i r c):a=b:=by
 have o:∀{a b:List Fg},CanK a->CanK b->(∀i r c,i<zk->c<zk->hasK a i r c=hasK b i r c)->∀f∈a,f∈b:=λ{a b} j hb h f hf=>by
  obtain⟨g,y,e,hi⟩:=Yh j hb h hf;obtain⟨u,w,F,A⟩:=Yh hb j (λi r c B C=>(h i r c B C).symm) y;have:u=f:=j.vec w hf (F.trans e);subst this;have:g=u:=Fg.ext' (Nrm.unique (hb.gi.ok g y).2.2.1 (j.gi.ok u hf).2.2.1 λx E=>by
   rw[Wz];exact⟨A x E,hi x E⟩) e
  rw[<-this];exact y
 exact ZD j.gi.srt hb.gi.srt λf=>⟨o j hb h f,o hb j (λi r c B C=>(h i r c B C).symm) f⟩
noncomputable def zbx (k:List Fg):List Fg:=zL (jq k)
noncomputable def yy (f:XE) (a b:List Fg):List Fg:=(zu (a++b)).map λs=>⟨[s],ks f (qc a s.lo) (qc b s.lo)⟩
noncomputable def vh (f:XE) (a b:List Fg):List Fg:=zL (yy f a b)
noncomputable def znF (k:List Fg) (items:List Iv):List Fg:=zbx (k.map λf=>⟨qy fMeet f.items items,f.vec⟩)
def zbX{k:List Fg}(h:RightK k):CanK (zbx k):=za4 (Yb h) (zeD h)
def zbW{k:List Fg}(h:RightK k){i r c:Nat}(hi:i<zk)(j:c<zk):hasK (zbx k) i r c=hasK k i r c:=by unfold zbx;rw[za5 (Yb h) hi,zfp h hi j]
def RightK.app{a b:List Fg}(j:RightK a)(hb:RightK b):RightK (a++b):=λf o=>(wC.1 o).elim (j f) (hb f)
def xU{f:XE}{a b:List Fg}(j:RightK a)(hb:RightK b):RightK (yy f a b):=λg w=>by obtain⟨s,hs,rfl⟩:=wB.1 w;obtain⟨o,u,_⟩:=(yt (j.app hb)).1 s hs;exact⟨qG o u,(Xe f (j.ik.at s.lo).1.can.right (hb.ik.at s.lo).1.can.right).right⟩
def Xh{f:XE}{a b:List Fg}(j:RightK a)(hb:RightK b):xh (yy f a b):=by unfold xh yy;rw[uH];refine(yt (j.app hb)).2.imp λhst x _ ⟨h1,h2⟩=>?_;have:=zfJ.1 h1;have:=zfJ.1 h2;omega
def ze5{f:XE}{a b:List Fg}(j:RightK a)(hb:RightK b):CanK (vh f a b):=za4 (xU j hb) (Xh j hb)
def zcZ{f:XE}(E:f false false=false){a b:List Fg}(B:RightK a)(hb:RightK b){i r c:Nat}(hi:i<zk)(j:c<zk):hasK (vh f a b) i r c=f (hasK a i r c) (hasK b i r c):=by
 unfold vh;rw[za5 (xU B hb) hi];refine JJ (B.app hb) (V:=λx=>ks f (qc a x) (qc b x)) (P:=λx r c=>f (hasK a x r c) (hasK b x r c)) (λx r c _ j=>?_) (λx y r c hs=>?_) (λx r c F=>?_) hi j
 .have w:=B.ik.at x;have A:=hb.ik.at x;rw[JR E w.1.can.right A.1.can.right,qj (qi w.1.can.right r) (qi A.1.can.right r) j,w.2 r c j,A.2 r c j]
 .have o:=qo.1 hs;rw[Yt (k:=a) (qo.2 λg C=>o g (by simp[C])),Yt (k:=b) (qo.2 λg C=>o g (by simp[C]))]
 .have u:=zc0 (k:=a++b) r c F;unfold hasK at u⊢;rw[UE,te]at u;rw[u.1,u.2,E]
def zof{k:List Fg}{items:List Iv}(h:RightK k)(hi:Nrm items){i r c:Nat}(o:i<zk)(A:c<zk):hasK (znF k items) i r c=(mem items i && hasK k i r c):=by
 have B:RightK (k.map λf=>(⟨qy fMeet f.items items,f.vec⟩:Fg)):=λg y=>by obtain⟨f,j,rfl⟩:=wB.1 y;exact⟨qH (h f j).1 hi,(h f j).2⟩
 unfold znF;rw[zbW B o A,Wz,V0,km,km];constructor
 .rintro⟨g,y,u,w⟩;obtain⟨f,j,rfl⟩:=wB.1 y;simp only at u w;rw[qj (h f j).1 hi o]at u;simp only[fMeet,V0]at u;exact⟨u.2,f,j,u.1,w⟩
 .rintro⟨C,f,j,u,w⟩;refine⟨_,wB.2 ⟨f,j,rfl⟩,?_,w⟩;simp only;rw[qj (h f j).1 hi o,C,u];rfl
def CanK.right{k:List Fg}(h:CanK k):RightK k:=h.gi.right
def znD{f:XE}(w:f false false=false){a b c:List Fg}(j:RightK a)(hb:RightK b)(u:CanK c)(h:∀i r x,i<zk->x<zk->hasK c i r x=f (hasK a i r x) (hasK b i r x)):vh f a b=c:=
 XN (ze5 j hb) u λi r x hi o=>by rw[zcZ w j hb hi o,h i r x hi o]
def Vh(k:List Fg)(hb:BdK k)(hz:QW k):Cn xT 40 [kp k] (jS (ckK k).1 (ckK k).2):=by
 have G:=hz.1;refine zt func40 1 ?_;refine pw ?_;refine pLoop.go (λj=>j<=k.length/\ckK k=hkK j (k.drop j)) (λj=>[(9,.v (.int .i64 (j:Nat)))]) (λ_=>[]) (λj=>k.length-j) 0 [9] ?_ ?_ ?_
 .exact⟨X4 _,rfl⟩
 .exact pd
 .rintro j ⟨F,y⟩;refine pw ?_;refine .i ?_ ?_<;>intro h<;>first|refine pw ?_|exact pd
  .rw[VS h,hkK]at y;have B:=hb.1 _ (Y1 h);have A:=hz.2 _ (Y1 h);have u:=Ju (Zl k[j].items).1 (Zl k[j].items).2;have w:=Ju (jx k[j].vec).1 (jx k[j].vec).2;refine pw ?_;refine .rd (rcheck_c k[j].items B.1 A.1 (.inr (KL 2))) rfl ?_;by_cases C:(Zl k[j].items).1=0
   .rw[yk C];rw[Vq a8]at y;refine pw ?_;refine .rd (zes k[j].vec B.2.1 A.2.1 A.2.2) rfl ?_;by_cases E:(jx k[j].vec).1=0
    .rw[yk E];rw[Vq a8]at y;refine pw ?_;exact⟨j+1,⟨h,y⟩,a8,rfl⟩
    .rw[vD E]at y;rw[y];rw[vu E]at w⊢;refine pw ?_
     (first|refine .c (w) ?_|refine .o (w) ?_)
     refine .c (jT (jx k[j].vec).1 j) ?_;exact ym _ _
   .rw[vD C]at y;rw[y];rw[vu C]at u⊢;refine pw ?_
    (first|refine .c (u) ?_|refine .o (u) ?_)
    refine .c (jT (Zl k[j].items).1 j) ?_;exact ym _ _
  .rw[y,wE a8];exact .eq _ rfl
def zjX(a b:List Nat)(A:a.length<=1152921504606846976):Cn xT 177 [is a,is b] (.v (.bool (decide (a=b)))):=by
 refine zt func177 2 ?_;refine pw ?_;refine .i ?_ ?_<;>intro o<;>first|refine pw ?_|exact pd
 .symm;rw[uN];rintro rfl;exact o rfl
 .have w:a.length=b.length:=(dJ o);clear o;refine pLoop.go (λk=>k<=a.length/\(a=b↔a.drop k=b.drop k)) (λk=>[(13,.v (.int .i64 (k:Nat)))]) (λ_=>[]) (λk=>a.length-k) 0 [13] ?_ ?_ ?_
  .exact⟨X4 _,UZ⟩
  .exact pd
  .rintro k ⟨hk,j⟩;refine pw ?_;refine .i ?_ ?_<;>intro h<;>first|refine pw ?_|exact pd
   .have u:k<b.length:=a8;rw[VS h,VS u,Ws]at j;refine pw ?_;refine .i ?_ ?_<;>intro e<;>first|refine pw ?_|exact pd
    .symm;rw[uN];intro y;exact absurd (j.1 y).1 a8
    .refine⟨k+1,⟨h,?_⟩,a8,rfl⟩;rw[j];have e:a[k]=b[k]:=a8;exact⟨λh=>h.2,λh=>⟨e,h⟩⟩
   .rw[eq_comm,wG,j,wE a8,wE a8]
def u11:List En:=[⟨1,3,[]⟩,⟨2,0,[]⟩]
def b11:List Fg:=[⟨[⟨2,1⟩],[]⟩]
def zhj(f:Fg)(v:List En)(j:∀e∈f.vec,ZL e)(o:∀e∈v,ZL e)(u:(zv f.vec).length<=1073741824)(w:(zv v).length<=1073741824):Cn xT 172 [fp f,vp v] (.v (.int .i64 (zZ (zv f.vec) (zv v)))):=by refine zt func172 2 ?_;refine pw ?_;exact .d (Ks f.vec v j o u w)
def zhm(k:List Fg)(v:List En)(i:Nat)(hi:i<=k.length)(H:∀j,(h:j<k.length)->j<i->ZH k[j].vec v)(I:∀j,(h:j<k.length)->i<=j->¬ZH k[j].vec v)(J:k.length<=1152921504606846976)
 (w:∀f∈k,Cn xT 172 [fp f,vp v] (.v (.int .i64 (zZ (zv f.vec) (zv v))))) :
 Cn xT 171 [kp k,vp v,.fn (.func 172) [] []] (.tup [.v (.int .i64 i),.v (.bool (if h:i<k.length then decide (zZ (zv k[i].vec) (zv v)=0) else false))]):=by
 refine zt func171 3 ?_;refine pw ?_;refine pLoop.go (λp:Nat×Nat=>p.1<=i/\i<=p.2/\p.2<=k.length) (λp=>[(9,.v (.int .i64 (p.1:Nat))),(10,.v (.int .i64 (p.2:Nat)))]) (λ_=>[]) (λp=>p.2-p.1) (0,k.length) [9,10] ?_ ?_ ?_
 .exact⟨X4 _,hi,Zp _⟩
 .exact pd
 .rintro⟨p,q⟩ ⟨B,C,E⟩;simp only at B C E;refine pw ?_;refine .i ?_ ?_<;>intro h<;>first|refine pw ?_|exact pd
  .have y:(p+q)/2<k.length:=a8;have F:=H _ y;have G:=I _ y;refine pw ?_
   (first|refine .c (w k[(p+q)/2] (Y1 y)) ?_|refine .o (w k[(p+q)/2] (Y1 y)) ?_)
   refine .i ?_ ?_<;>intro u<;>first|refine pw ?_|exact pd
   .refine⟨((p+q)/2+1,q),⟨?_,C,E⟩,by simp only;omega,rfl,rfl⟩;simp only;exact Uz λA=>G A u
   .refine⟨(p,(p+q)/2),⟨B,?_,by simp only;omega⟩,by simp only;omega,rfl,rfl⟩;simp only;refine ul λA=>?_;have:=F A;unfold ZH at this;omega
  .obtain rfl:p=i:=a8;obtain rfl:q=p:=a8;refine .i ?_ ?_<;>intro u<;>first|refine pw ?_|exact pd
   ·(first|refine .c (w k[q] (Y1 u)) ?_|refine .o (w k[q] (Y1 u)) ?_)
    rw[uj u];try simp
   .rw[UL a8]
def Qo:∀{k:List Fg}(v:List En),k.Pairwise (λf g=>ZH f.vec g.vec)->∃i,i<=k.length/\(∀j,(h:j<k.length)->j<i->ZH k[j].vec v)/\(∀j,(h:j<k.length)->i<=j->¬ZH k[j].vec v)
 |[],v,_=>⟨0,Zp _,λj h=>by simp at h,λj h=>by simp at h⟩
 | f::k,v,hp=>by
   have w:=V3.1 hp;by_cases h:ZH f.vec v
   .obtain⟨i,C,y,A⟩:=Qo v w.2;refine⟨i+1,a9,λj u o=>?_,λj u B=>?_⟩
    .cases j with
     |zero=>exact h
     |succ j=>exact y j (dJ u) a8
    .cases j with
     |zero=>omega
     |succ j=>exact A j (dJ u) a8
   .refine⟨0,X4 _,λj _ h=>absurd h (Uh _),λj u _ o=>?_⟩;cases j with
    |zero=>exact h o
    |succ j=>exact h (k8 (w.1 _ (Y1 (dJ u))) o)
def Y8:∀{k:List Fg}{f:Fg}{i:Nat},i<=k.length->(∀j,(h:j<k.length)->j<i->ZH k[j].vec f.vec)->(∀j,(h:j<k.length)->i<=j->¬ZH k[j].vec f.vec) ->
 qN k f=if h:i<k.length then (if zZ (zv k[i].vec) (zv f.vec)=0 then k.take i++⟨qy zn k[i].items f.items,f.vec⟩::k.drop (i+1) else k.take i++f::k.drop i) else k++[f]
 |[],f,i,h0,h1,h2=>by simp[qN]
 | g::k,f,i,h0,h1,h2=>by
   cases i with
   |zero=>have A:=h2 0 b6 (Zp _);have u:¬zZ (zv g.vec) (zv f.vec)<0:=A;rw[qN,Vq u,uj b6];simp only[ux,wZ,Yf,Wg,wM]
   | succ i=>
     have B:zZ (zv g.vec) (zv f.vec)<0:=h1 0 b6 a8;rw[qN,vD B,Y8 (i:=i) (dJ h0) (λj o y=>h1 (j+1) (dJ o) a8) (λj o w=>h2 (j+1) (dJ o) a8)];simp only[wv,WN,wO,wM,yb,Nat.add_lt_add_iff_right];split
     .split<;>rfl
     .rfl
section
attribute [-go_sem] z7
structure AddOk(o:List Fg)(f:Fg):Prop where
 gi:GrpI o
 fo:OkG f
 l:o.length<=1048576
 fi:f.items.length<=100000000
 oi:∀g∈o,g.items.length<=100000000
 bd:∀e∈f.vec,ZL e
 bo:∀g∈o,∀e∈g.vec,ZL e
 nf:(zv f.vec).length<=1073741824
 no:∀g∈o,(zv g.vec).length<=1073741824
def xL{D:Qk}{w:World}{v:Value}{l:List En}(h:Dat D w v (vp l)):∃o j,v=.slice o l.length j:=by have u:Dat D w v (.sl (l.map ec) .sh):=h;obtain⟨o,j,A,b,y,f,e1,_⟩:=(Rel.dat (ρ:=λ_=>0) (nb:=0) u).inv_sl;rw[ww]at e1;exact⟨o,j,e1⟩
def zc1(o:List Fg)(f:Fg)(i:Nat):Bool:=if h:i<o.length then decide (zZ (zv o[i].vec) (zv f.vec)=0) else false
def zjH{C:Qk}{rb base:Nat}{w:World}{v G:Value}{o:List Fg}{f:Fg}(i:Nat)(r:Bool)(O:zc1 o f i=r)(ho:AddOk o f)(A:OutG C rb base w v o)(I:Dat (DL C rb w) w G (vp f.vec))(hb:rb<base)(L:∀b o,C b o->b<rb)(E:rb<w.heap.size)(M:GL C w)
 (hi:i<=o.length) (J:∀j,(h:j<o.length)->j<i->ZH o[j].vec f.vec) (K:∀j,(h:j<o.length)->i<=j->¬ZH o[j].vec f.vec) :
 Calls xT 171 #[v,G,.func (.func 172) #[] #[]] w λe H=>e=.returned (.tuple #[.int .i64 (i:Nat),.bool r])/\Below w.heap.size w H:=by
 subst O;refine(jP (D:=DL C rb w) (zhm o f.vec i hi J K (by have:=ho.l;omega) λg F=>zhj g f.vec (ho.bo g F) ho.bd (ho.no g F) ho.nf) (M.mono (λ_ _ h=>.inl h) λ_ _ _ _ h=>h) (λb o h=>h.elim (λh=>UK (L b o h) E) ub) rfl (λj p y=>?_)).mono ?_
 .match j,y with
  |0,y=>cases y;exact A.dat hb
  |1,y=>cases y;exact I
  |2,y=>cases y;exact .fn _ #[] #[] [] [] rfl rfl (λ_ _ h=>by simp at h) (λ_ _ h=>by simp at h)
  |j+3,y=>simp at y
 .rintro e H ⟨u,rfl,B,N⟩;rw[XY N];exact⟨rfl,B⟩
def zeo{C:Qk}{rb:Nat}{w:World}{v a b:Value}{l m:List Iv}(J:Nrm l)(K:Nrm m)(hs:l.length+m.length<=1073741824)(G:Dat (DX C rb w v) w a (rg l))(db:Dat (DX C rb w v) w b (rg m))(F:∀k,v.ownBlock=some k->rb<k/\k<w.heap.size)(E:∀b o,C b o->b<rb)(B:rb<w.heap.size)(H:GL C w):
 Calls xT 108 #[a,b] w λe A=>∃u,e=.returned u/\Below w.heap.size w A/\Dat (DX C rb A v) A u (rg (qy zn l m)):=by
 refine(jP (D:=DX C rb w v) (zaz l m J K hs) (H.mono (λb o h=>⟨.inl h,λe=>by have:=(F b e).1;have:=E b o h;omega⟩) λ_ _ _ _ h=>h) (λb o h=>h.1.elim (λh=>UK (E b o h) B) ub) rfl (λj p y=>?_)).mono ?_
 .match j,y with
  |0,y=>cases y;exact G
  |1,y=>cases y;exact db
  |j+2,y=>simp at y
 .rintro e A ⟨u,rfl,hb,I⟩;exact⟨u,rfl,hb,I.mono (λb o h=>by
   rcases h with h|h
   .exact⟨h.1.imp id λh=>⟨h.1,Vm h.2 hb.size⟩,h.2⟩
   .exact⟨.inr ⟨a8,h.2⟩,λe=>by have:=(F b e).2;omega⟩) λ_ _ _ _ h=>h⟩
def zhT{o:List Fg}{f:Fg}{i:Nat}(h:zc1 o f i=true):∃hi:i<o.length,zZ (zv o[i].vec) (zv f.vec)=0:=by
 unfold zc1 at h;split at h
 .rename_i hi;exact⟨hi,dJ h⟩
 .cases h
def Jh{C:Qk}{base rb:Nat}{w:World}{v va vv:Value}{o:List Fg}{f:Fg}(T:AddOk o f)(ao:OutG C (rb+1) base w v o)(aL:Boxed w rb 224 v)(bI:rb+1<base)(bC:base<=w.heap.size)(hC:∀b o,C b o->b<rb)(hG:GL C w)
 (da:Dat (DX C (rb+1) w v) w va (rg f.items)) (dv:Dat (DX C (rb+1) w v) w vv (vp f.vec)) :
 Calls xT 140 #[.pointer (some ⟨rb,0,none⟩),.agg #[va,vv]] w λe w'=>(∃u,e=.returned u)/\∃v',Boxed w' rb 224 v'/\OutG C (rb+1) base w' v' (qN o f)/\Keep (λk=>k=rb\/base<=k) w w':=by
 obtain⟨i,hi,q1,q2⟩:=Qo f.vec T.gi.srt;have M:=Y8 hi q1 q2;have bJ:=aL.lt;obtain⟨O,ar⟩:=xm (w.alloc (.cells #[va,vv] 59));have bQ:O.heap.size=w.heap.size+1:=by rw[ar];simp
 have ac:∀j,j<w.heap.size->O.heap[j]?=w.heap[j]?:=λj hj=>by rw[ar];exact tu _ _ _ hj
 have az:O.heap[w.heap.size]?=some (.cells #[va,vv] 59 (0,0)):=by rw[ar];exact tn w _
 have ae:=ao.keep (w':=O) a8 ac;have aX:Dat (DX C (rb+1) O v) O va (rg f.items):=DX.keep da a8 λk hk _=>ac k hk;have aH:Dat (DX C (rb+1) O v) O vv (vp f.vec):=DX.keep dv a8 λk hk _=>ac k hk;have ak:Boxed O rb 224 v:=(ac rb bJ).trans aL;have aJ:GL C O:=hG.mono (λ_ _ h=>h) λb o x A hx=>(tl (a:=⟨b,o,none⟩) (ac b (by have:=hC b o A;omega))).trans hx;obtain⟨ad,I,rfl,bP,bD⟩:=ao.shape;unfold maxLen at bD;obtain⟨aa,ca,rfl⟩:=zK da;obtain⟨av,cv,rfl⟩:=xL dv;obtain⟨r,P⟩:=xt (zc1 o f i);have aY:∀W,Below O.heap.size O W->Calls xT 171 #[.slice ad o.length I,.slice av f.vec.length cv,.func (.func 172) #[] #[]] W λe w'=>e=.returned (.tuple #[.int .i64 (i:Nat),.bool r])/\Below W.heap.size W w':=λW V=>
  zjH i r P T (ae.keep V.size λk hk=>V.block k hk) ((DX.keep aH V.size λk hk _=>V.block k hk).mono (λ_ _ h=>h.1) λ_ _ _ _ h=>h) bI (λb o h=>uh (hC b o h)) (by have:=V.size;omega) (aJ.mono (λ_ _ h=>h) λb o x A hx=>(tl (a:=⟨b,o,none⟩) (V.block b (by have:=hC b o A;omega))).trans hx) hi q1 q2
 have bh:=qL aY;have c0:=ak.cell;have e0:=(zW az 0 _ rfl).1;have e1:=(zW az 1 _ rfl).1;have aT:=qL ar;have aE:=qL ae;have aS:=qL aX;have bj:=qL aH;have aU:=qL ak;have bl:=qL aJ;have aC:=qL M;have bt:=qL az;have aB:=qL P;have bN:=qL ac;clear M ac az ae aX aH ak aJ P da dv ao aL hG q1 q2 aY;have bM:True:=trivial;have aZ:Below O.heap.size O O.drew:=(tr _ _).drew;have aR:xT.follows .mixedOrders=true:=dK
 go_enter func140,ntmps140
 go_wp2_with fail
 rw[<-ar];refine Kg (Sw:=qe) 12 51 (λN=>Below O.heap.size O N/\N.cell? ⟨rb,0,none⟩=some (.slice ad o.length I)/\N.cell? ⟨w.heap.size,1,none⟩=some (.slice av f.vec.length cv)) dK dK rfl ⟨aZ,c0,e1⟩ ?_;simp only[wO,wZ];refine Jz ?_;refine V7 (λu _=>u=.tuple #[.int .i64 (i:Nat),.bool r]) (yj _) rfl ?_ ?_
 .intro a2 y A hk P K hK;have HK:=qL hK;clear hK;simp[Rds,zA,lk,Op.operands,Call.operands,RdEq]at P;go_simp;refine(bh.o _ A.1).mono ?_;rintro e w3 ⟨rfl,hb⟩;have J:Keep qe y w3:=Keep.of_below' hb (Zp _);exact HK.o _ _ J ⟨A.1.trans (hb.mono A.1.size),J.cell_some A.2.1 id,J.cell_some A.2.2 id⟩ rfl
 simp only[Yf,yb];refine Jz ?_;intro y H S;simp only[finG,WQ,Yf,yb,wM,Wg,WR];simp only[Act.put,wy,wR,wS];have B:=qL H.1;have c2:=H.2.1;have f2:=(H.1.block _ a8).trans (show O.heap[w.heap.size]?=_ from bt.o);have g0:=(zW f2 0 _ rfl).1;have g1:=(zW f2 1 _ rfl).1;clear H S aZ;cases r with
 | true=>
   obtain⟨an,hz⟩:=zhT aB.o;have U:=aE.o.keep (w':=y) B.o.size λk hk=>B.o.block k hk;have bq:=qL U;obtain⟨xs,Y,ay⟩:=id U;obtain⟨a,b,ea,eb,aI,bB⟩:=ay i an;obtain⟨g,aV,bO,ev,bG,bH,be,_,_,_,_⟩:=Y.cases.resolve_left (λh=>a8);obtain⟨rfl,_,rfl⟩:ad=some ⟨g,0,none⟩/\o.length=o.length/\I=aV:=(dJ ev);have aW:y.cell? ⟨g,i*2,none⟩=some a:=(by have:=tI Y.1 (g:=g) rfl (i*2) a ea;rw[zh,wn]at this;exact this);have aK:∀k,(Value.slice (some ⟨g,0,none⟩) o.length I).ownBlock=some k->rb+1<k/\k<y.heap.size:=λk hk=>(by have:=U.owns k hk;omega);obtain⟨ai,ci,rfl⟩:=zK aI;have bg:∀W,Below y.heap.size y W->Calls xT 108 #[.slice ai o[i].items.length ci,.slice aa f.items.length ca] W λe w'=>∃u,e=.returned u/\Below W.heap.size W w'/\Dat (DX C (rb+1) w' (.slice (some ⟨g,0,none⟩) o.length I)) w' u (rg (qy zn o[i].items f.items)):=λW V=>
    zeo (T.gi.ok _ (Y1 an)).2.2.1 T.fo.2.2.1 (by have:=T.oi _ (Y1 an);have:=T.fi;omega) (DX.keep aI V.size λk hk _=>V.block k hk) (DX.keep aS.o (V1 B.o.size V.size) λk hk _=>(V.block k (Vm hk B.o.size)).trans (B.o.block k hk)) (λk hk=>⟨(aK k hk).1,Vm (aK k hk).2 V.size⟩) (λb o h=>uh (hC b o h)) (by have:=B.o.size;have:=V.size;omega) (bl.o.mono (λ_ _ h=>h) λb o x A hx=>(tl (a:=⟨b,o,none⟩) ((V.block b (by have:=hC b o A;have:=B.o.size;omega)).trans (B.o.block b (by have:=hC b o A;omega)))).trans hx)
   have br:=qL bg;have ax:Below y.heap.size y y.drew:=(tr _ _).drew;have bn:=qL be;have ba:0<I:=a8;have aq:=B.o.size;clear bg U Y ay ea eb aI bB be aK;obtain⟨Q,aQ⟩:=xm (y);subst aQ
   go_wp2_with fail
   refine Kg (Sw:=qe) 16 51 (λN=>Below Q.heap.size Q N/\N.cell? ⟨rb,0,none⟩=some (.slice (some ⟨g,0,none⟩) o.length I)/\N.cell? ⟨g,i*2,none⟩=some (.slice ai o[i].items.length ci)/\N.cell? ⟨w.heap.size,0,none⟩=some (.slice aa f.items.length ca)) dK dK rfl ⟨ax,c2,aW,g0⟩ ?_;simp only[wO,wZ];refine Jz ?_;refine V7 (λu N=>Dat (DX C (rb+1) N (.slice (some ⟨g,0,none⟩) o.length I)) N u (rg (qy zn o[i].items f.items))) (λu wa Q h hk=>DX.keep h hk.size λk S _=>hk.block k S id) rfl ?_ ?_
   .intro a2 y A hk P K hK;have HK:=qL hK;clear hK;simp[Rds,zA,lk,Op.operands,Call.operands,RdEq]at P;go_simp;refine(br.o _ A.1).mono ?_;rintro e w3 ⟨u,rfl,hb,hd⟩;have J:Keep qe _ w3:=Keep.of_below' hb (Zp _);exact HK.o _ _ J ⟨A.1.trans (hb.mono A.1.size),J.cell_some A.2.1 id,J.cell_some A.2.2.1 id,J.cell_some A.2.2.2 id⟩ hd
   simp only[Yf,yb];refine Jz ?_;intro y H S;simp only[finG,WQ,Yf,yb,wM,Wg,WR];simp only[Act.put,wy,wR,wS];intro u hu;obtain⟨F,G,rfl⟩:=zK hu;have HU:=qL hu;have aw:=qL H.1;have c3:=H.2.2.1;have f3:y.frozen? ⟨g,i*2,none⟩=false:=by have:=(H.1.block g bH).trans bn.o;simp[World.frozen?,this]
   clear hu H S ax c2 aW g0 g1 f2
   go_wp2
   (try simp only[Exit.inBlock,Exit.then]);refine tz (tK rfl _ _ _) rfl ?_
   have ah:=(bq.o.keep (w':=y) aw.o.size λk hk=>aw.o.block k hk).set an HU.o ba;have M:qN o f=o.take i++⟨qy zn o[i].items f.items,o[i].vec⟩::o.drop (i+1):=(by rw[aC.o,uj an,vD hz,<-YU hz]);rw[M];refine⟨⟨_,rfl⟩,_,?_,ah,?_⟩
   .refine(tw _ _ _ _ (by show rb≠g;omega)).trans ((aw.o.block rb a8).trans ((B.o.block rb a8).trans aU.o))
   .have aN:Keep (λk=>k=rb\/base<=k) w O:=(by rw[aT.o];exact(Keep.refl _ w).alloc _);exact((aN.trans (Keep.of_below' B.o (Zp _))).trans (Keep.of_below' aw.o (Zp _))).setCell (λ_=>.inr bG) _
 | false=>
   have M:qN o f=o.take i++f::o.drop i:=by
    rw[aC.o];have hh:=aB.o;unfold zc1 at hh;split at hh
    .rename_i h;rw[uj h,Vq (dJ hh)]
    .rename_i h;rw[UL h,wm a8,wE a8]
   have bp:=qL M;have aq:=B.o.size;have bc:∀W,Below y.heap.size y W->Calls xT 72 #[.slice aa f.items.length ca] W λe w'=>∃F G,e=.returned (.slice F f.items.length G)/\OwnR W.heap.size w' (.slice F f.items.length G) f.items/\Below W.heap.size W w':=λW V=>(by have bE:=DX.keep aS.o (V1 aq V.size) λk hk _=>(V.block k (Vm hk aq)).trans (B.o.block k hk);refine(zeX (je bE (λb o h=>h.1.elim (λh=>by have:=hC b o h;have:=V.size;omega) ub) T.fo.2.2.1.lt) (by have:=T.fi;omega)).mono ?_;rintro e w' ⟨v',rfl,h1,h2⟩;obtain⟨F,G,rfl⟩:=zK (jp (D:=λ_ _=>True) h1.rd λ_ _ _ _=>trivial);exact⟨F,G,rfl,h1,h2⟩);have bi:=qL bc;clear bc M;have ax:Below y.heap.size y y.drew:=(tr _ _).drew;obtain⟨Q,aQ⟩:=xm (y);subst aQ
   go_wp2_with fail
   refine znC [1,2,3,4,5,6,7,8,9,10,11,12,0,13,14,15,16] 12 51 (λN=>Below Q.heap.size Q N/\N.cell? ⟨rb,0,none⟩=some (.slice ad o.length I)/\N.cell? ⟨w.heap.size,0,none⟩=some (.slice aa f.items.length ca)/\N.cell? ⟨w.heap.size,1,none⟩=some (.slice av f.vec.length cv)) aR dK dK rfl ⟨ax,c2,g0,g1⟩ _ _ rfl rfl rfl rfl _ rfl ?_;simp only[z8,Wx,W6,List.getD_cons_zero,List.getD_cons_succ,wO,wZ,wM,Wg];repeat (refine Pl.wdetK ?_ rfl (λa w A _ P=>?_) ?_;rotate_left;(simp[Pl.Rds,zA,Pl.lk,Op.operands,Call.operands,RdEq]at P;go_simp;with_reducible rfl);simp only[Yf,yb])
   refine Pl.wgenK (λu N=>∃F G,u=.slice F f.items.length G/\OwnR Q.heap.size N u f.items) (λu _ _ h hk=>by obtain⟨F,G,e,h⟩:=h;exact⟨F,G,e,h.keep hk λ_ _ h=>h⟩) rfl ?_ ?_
   .intro a2 y A hk P K hK;have HK:=qL hK;clear hK;simp[Pl.Rds,zA,Pl.lk,Op.operands,Call.operands,RdEq]at P;go_simp;refine(bi.o _ A.1).mono ?_;rintro e w3 ⟨F,G,rfl,ho,hb⟩;have J:Keep qe _ w3:=Keep.of_below' hb (Zp _);exact HK.o _ _ J ⟨A.1.trans (hb.mono A.1.size),J.cell_some A.2.1 id,J.cell_some A.2.2.1 id,J.cell_some A.2.2.2 id⟩ ⟨F,G,rfl,ho.mono A.1.size⟩
   simp only[Yf,yb];repeat (refine Pl.wdetK ?_ rfl (λa w A _ P=>?_) ?_;rotate_left;(simp[Pl.Rds,zA,Pl.lk,Op.operands,Call.operands,RdEq]at P;go_simp;with_reducible rfl);simp only[Yf,yb])
   refine Pl.wgenK (λu N=>∃F G,u=.agg #[.slice F f.items.length G,.slice av f.vec.length cv]/\OwnR Q.heap.size N (.slice F f.items.length G) f.items) (λu _ _ h hk=>by obtain⟨F,G,e,h⟩:=h;exact⟨F,G,e,h.keep hk λ_ _ h=>h⟩) rfl ?_ ?_
   .intro a2 y A hk P K hK;have HK:=qL hK;clear hK;simp[Pl.Rds,zA,Pl.lk,Op.operands,Call.operands,RdEq]at P;obtain⟨⟨_,⟨e1,e2⟩,⟨F,G,rfl⟩,ho⟩,e3,e4⟩:=P;go_simp;exact HK.o _ _ (Keep.refl _ _) A ⟨F,G,rfl,ho⟩
   simp only[Yf,yb];refine Pl.wgenK (λu N=>∃Z F G vt,u=.slice (some ⟨Z,0,none⟩) 1 1/\N.heap[Z]?=some (.cells #[.slice F f.items.length G,.slice av f.vec.length cv] vt (0,0))/\Q.heap.size<=Z/\OwnR Q.heap.size N (.slice F f.items.length G) f.items) (λu _ _ h hk=>by obtain⟨Z,F,G,vt,e,h1,h2,h3⟩:=h;exact⟨Z,F,G,vt,e,hk.obj h1 id,h2,h3.keep hk λ_ _ h=>h⟩) rfl ?_ ?_
   .intro a2 y A hk P K hK;have HK:=qL hK;clear hK;simp[Pl.Rds,zA,Pl.lk,Op.operands,Call.operands,RdEq]at P;obtain⟨_,⟨e1,e2⟩,F,G,rfl,ho⟩:=P;go_simp;refine HK.o _ _ ((Keep.refl _ _).alloc _) ⟨A.1.alloc A.1.size _,?_,?_,?_⟩ ⟨y.heap.size,F,G,_,rfl,tn y _,A.1.size,ho.keep ((Keep.refl qe _).alloc _) λ_ _ h=>h⟩
    .exact((Keep.refl qe _).alloc _).cell_some A.2.1 id
    .exact((Keep.refl qe _).alloc _).cell_some A.2.2.1 id
    .exact((Keep.refl qe _).alloc _).cell_some A.2.2.2 id
   simp only[Yf,yb];repeat (refine Pl.wdetK ?_ rfl (λa w A _ P=>?_) ?_;rotate_left;(simp[Pl.Rds,zA,Pl.lk,Op.operands,Call.operands,RdEq]at P;go_simp;with_reducible rfl);simp only[Yf,yb])
   have ah:∀(y:World)(Z:Nat) (F G) (vt:TypeId),Below Q.heap.size Q y->y.heap[Z]?=some (.cells #[.slice F f.items.length G,.slice av f.vec.length cv] vt (0,0))->Q.heap.size<=Z->OwnR Q.heap.size y (.slice F f.items.length G) f.items ->
    Calls xT 174 #[.slice ad o.length I,.int .i64 (i:Nat),.slice (some ⟨Z,0,none⟩) 1 1] y λe w3=>∃g3 L,e=.returned (.slice (some ⟨g3,0,none⟩) (o.length+1) L)/\Boxed w3 rb 224 (.slice ad o.length I)/\OutG C (rb+1) base (w3.setCell ⟨rb,0,none⟩ (.slice (some ⟨g3,0,none⟩) (o.length+1) L)) (.slice (some ⟨g3,0,none⟩) (o.length+1) L) (qN o f)/\Keep (λk=>k=rb\/base<=k) w w3:=by
    intro y Z F G vt ab ag aj af;have aO:=(aE.o.keep (w':=Q) aq λk hk=>B.o.block k hk).keep (w':=y) ab.size λk hk=>ab.block k hk;obtain⟨xs,Y,ay⟩:=id aO;have aP:=(aE.o.keep (w':=Q) aq λk hk=>B.o.block k hk).owns;refine(Q1 base Z vt y _ o.length xs _ _ i rfl rfl hi Y ag (λe=>by have:=(aP Z e).2;omega) (by have:=T.l;omega) (by have:=ab.size;omega)).mono ?_;rintro e w3 ⟨v',rfl,X,aM,bK⟩;have bR:=ab.size;have hp:Dat (DX C (rb+1) y (.slice ad o.length I)) y (.slice F f.items.length G) (rg f.items):=jp af.rd λb o h1 h2=>⟨.inr ⟨a8,h2⟩,λe=>by have:=(aP b e).2;omega⟩;have hq:Dat (DX C (rb+1) y (.slice ad o.length I)) y (.slice av f.vec.length cv) (vp f.vec):=DX.keep bj.o a8 λk hk _=>(ab.block k a8).trans (B.o.block k hk);have bF:=OutG.ins hi Y.2.1 ay hp hq (λb o h=>uh (hC b o h)) a8 X aM bK;obtain⟨g3,L,bL,rfl,_⟩:=X.cases.resolve_left λh=>a8;have E:Boxed w3 rb 224 (.slice ad o.length I):=Boxed.kept ((ab.block rb a8).trans ((B.o.block rb a8).trans aU.o)) aM λe=>(by have:=(aP rb e.symm);have:=(Y.1.lt rb e.symm).1;omega);refine⟨g3,L,rfl,E,?_,?_⟩
    .rw[bp.o];exact bF.box a8 a8 λb o h=>by have:=hC b o h;omega
    .have aN:Keep (λk=>k=rb\/base<=k) w O:=(by rw[aT.o];exact(Keep.refl _ w).alloc _);exact(((aN.trans (Keep.of_below' B.o (Zp _))).trans (Keep.of_below' ab (Zp _)))).grown aM λk hk _=>.inr (Y.1.lt k hk).1
   have aA:=qL ah;clear ah;refine⟨λy H S=>?_,λy H S=>?_⟩<;>(simp only[Pl.finG,WQ,Yf,yb,wO,wZ,wM,Wg,WR,jA,Option.map_none];simp only[Act.put,wy,wR,wS])
   .rintro _ ⟨bu,bz,rfl,_⟩ _ ⟨bw,bA,rfl,_⟩ _ ⟨Z,F,G,vt,rfl,ag,aj,af⟩;have HQ:=qL (aA.o y Z F G vt H.1 ag aj af);clear ag af H S
    go_wp2_with (first
     | (go_at_call 174;refine HQ.o.mono ?_;rintro e w3 ⟨g3,L,rfl,E,X,am⟩
        have aF:=qL X;have aD:=qL am;have aG:=qL E;have c9:=E.cell;have f9:=E.frozen;clear X am E)
     |go_in)
    go_end0
    exact⟨⟨_,rfl⟩,_,aG.o.set _,aF.o,aD.o.setCell (λ_=>.inl rfl) _⟩
   .rintro _ ⟨bu,bz,rfl,_⟩ _ ⟨bw,bA,rfl,_⟩ _ ⟨Z,F,G,vt,rfl,ag,aj,af⟩;have HQ:=qL (aA.o y Z F G vt H.1 ag aj af);clear ag af H S
    go_wp2_with (first
     | (go_at_call 174;refine HQ.o.mono ?_;rintro e w3 ⟨g3,L,rfl,E,X,am⟩
        have aF:=qL X;have aD:=qL am;have aG:=qL E;have c9:=E.cell;have f9:=E.frozen;clear X am E)
     |go_in)
    go_end0
    exact⟨⟨_,rfl⟩,_,aG.o.set _,aF.o,aD.o.setCell (λ_=>.inl rfl) _⟩
end
def zdi{l:List Iv}{x:Nat}(w:mem l x=true)(j:x=0\/mem l (x-1)=false):x∈l.map Iv.lo:=by
 obtain⟨s,hs,u,y⟩:=qf.1 w;refine wB.2 ⟨s,hs,?_⟩;rcases uB u with o|o
 .rcases j with j|j
  .omega
  .have:mem l (x-1)=true:=qf.2 ⟨s,hs,a8,a8⟩;rw[this]at j;cases j
 .exact o
def zbS{a b:List Iv}(u:Nrm a)(hb:Nrm b):(qy zn a b).length<=a.length+b.length:=by
 have w:=qH (f:=zn) u hb;have:=Ji ((qy zn a b).map Iv.lo) (a.map Iv.lo++b.map Iv.lo) (NF.asc w) λy E=>by
  obtain⟨s,hs,rfl⟩:=wB.1 E;have C:=NF.lo_ge w s hs;have j:mem (qy zn a b) s.lo=true:=qf.2 ⟨s,hs,Zp _,C.2.1⟩;have B:s.lo=0\/(mem a (s.lo-1)=false/\mem b (s.lo-1)=false):=by
   by_cases A:s.lo=0
   .exact .inl A
   .have o:=NF.lo_prev w s hs A;rw[qj u hb a8]at o;simp only[zn,te]at o;exact .inr o
  rw[qj u hb a8]at j;simp only[zn,WH]at j;rcases j with j|j
  .exact Ub _ (zdi j (B.imp id UQ))
  .exact U7 _ (zdi j (B.imp id ub))
 simpa using this
def qE:List Fg->Nat
 |[]=>0
 |f::k=>f.items.length+qE k
def kK:∀(a b:List Fg),qE (a++b)=qE a+qE b
 |[],b=>by simp[qE]
 |f::a,b=>by simp only[yb,qE,kK a b];omega
def yv:∀{k:List Fg}{f:Fg},f∈k->f.items.length<=qE k
 | g::k,f,h=>by
   rcases wi.1 h with rfl|h
   .simp only[qE];omega
   .have:=yv h;simp only[qE];omega
def YO:∀k:List Fg,(CI k).length<=2*qE k
 |[]=>by simp[CI,qE]
 |f::k=>by have j:=YO k;have o:=vq f.items;have:CI (f::k)=z6 f.items++CI k:=rfl;rw[this,wj,qE];omega
def Zf(V:Iv->List En):∀l:List Iv,qE (l.map λs=>⟨[s],V s⟩)=l.length
 |[]=>rfl
 |s::l=>by rw[Wx,qE,Zf V l];simp;omega
def Vg:∀{o:List Fg}{f:Fg},(∀g∈o,Nrm g.items)->Nrm f.items->qE (qN o f)<=qE o+f.items.length/\(qN o f).length<=o.length+1/\∀g∈qN o f,g.vec=f.vec\/∃h∈o,g.vec=h.vec
 |[],f,_,_=>⟨by simp[qN,qE],by simp[qN],λg u=>by simp only[qN,wD]at u;subst u;exact .inl rfl⟩
 | g::o,f,ho,hf=>by
   have B:=Vg (o:=o) (f:=f) (λx j=>ho x (by simp[j])) hf;have u:=ho g b6;have C:=zbS u hf;unfold qN;by_cases w:zZ (zv g.vec) (zv f.vec)<0
   .rw[vD w];refine⟨by simp only[qE];omega,by simp only[wv];omega,λx j=>?_⟩;rcases wi.1 j with rfl|j
    .exact .inr ⟨_,b6,rfl⟩
    .exact(B.2.2 x j).imp id λ⟨y,hy,e⟩=>⟨y,by simp[hy],e⟩
   .rw[Vq w];by_cases A:zZ (zv g.vec) (zv f.vec)=0
    .rw[vD A];refine⟨by simp only[qE];omega,b6,λx j=>?_⟩;rcases wi.1 j with rfl|j
     .exact .inl rfl
     .exact .inr ⟨x,by simp[j],rfl⟩
    .rw[Vq A];refine⟨by simp only[qE];omega,b6,λx j=>?_⟩;rcases wi.1 j with rfl|j
     .exact .inl rfl
     .exact .inr ⟨x,j,rfl⟩
def Yq:∀{k o:List Fg},GrpI o->RightK k->qE (k.foldl yo o)<=qE o+qE k/\(k.foldl yo o).length<=o.length+k.length/\∀g∈k.foldl yo o,(∃f∈k,g.vec=zi f.vec)\/∃h∈o,g.vec=h.vec
 |[],o,_,_=>⟨b6,b6,λg j=>.inr ⟨g,j,rfl⟩⟩
 | f::k,o,ho,hk=>by
   have w:=hk f b6;have A:=Yq (k:=k) (o:=yo o f) (Yr ho w).1 λg j=>hk g (by simp[j]);rw[WI];have B:qE (yo o f)<=qE o+f.items.length/\(yo o f).length<=o.length+1/\∀g∈yo o f,g.vec=zi f.vec\/∃h∈o,g.vec=h.vec:=by
    unfold yo;split
    .exact⟨a8,a8,λg j=>.inr ⟨g,j,rfl⟩⟩
    .exact Vg (λg j=>(ho.ok g j).2.2.1) w.1
   refine⟨by simp only[qE];omega,by simp only[wv];omega,λg j=>?_⟩;rcases A.2.2 g j with⟨x,u,e⟩|⟨x,u,e⟩
   .exact .inl ⟨x,by simp[u],e⟩
   .rcases B.2.2 x u with e2|⟨y,C,e2⟩
    .exact .inl ⟨f,b6,e.trans e2⟩
    .exact .inr ⟨y,C,e.trans e2⟩
def jU{k:List Fg}(h:RightK k):qE (zL k)<=qE k/\(zL k).length<=k.length/\∀g∈zL k,∃f∈k,g.vec=zi f.vec:=by
 have:=Yq (o:=[]) GrpI.nil h;refine⟨by simpa[qE,zL]using this.1,by simpa[zL]using this.2.1,λg j=>?_⟩;rcases this.2.2 g j with h|⟨x,u,_⟩
 .exact h
 .cases u
def Zo{k:List Fg}{j:Nat}(h:j<k.length):zL (k.take (j+1))=yo (zL (k.take j)) k[j]:=by unfold zL;rw[vj h,WW];rfl
def zfS{v:List En}{h:Nat}(w:∀e∈v,e.holes.length<=h):(zv v).length<=1+v.length*(3+2*h):=by
 have:∀{v:List En},(∀e∈v,e.holes.length<=h)->(v.flatMap zC).length<=v.length*(3+2*h):=by
  intro v;induction v with
  |nil=>intro _;simp
  |cons e v ih=>intro j;have y:=ih λf u=>j f (by simp[u]);have A:=j e b6;have o:(v.length+1)*(3+2*h)=v.length*(3+2*h)+(3+2*h):=Nat.succ_mul _ _;simp only[We,wj,zC,wv,xx,o];omega
 have:=this w;unfold zv;simp only[wv];omega
def WV.nlen{C:Q9}{R:List Nat}{v:List En}(h:WV C R v)(u:∀r,(C r).length<=9000)(w:R.length<=20000):(zv v).length<=1073741824:=by obtain⟨_,j,o⟩:=h.bv u w;have y:=zfS o;have A:v.length*(3+2*(9000+2))<=20000*(3+2*(9000+2)):=Wq _ j;omega
section
open Go.Sort
def OwnU.base{base j:Nat}{w:World}{v:Value}{l:List Nat}(h:OwnU base w v l)(hb:j<=base):OwnU j w v l:=by
 refine⟨h.1,?_⟩;rcases h.2 with h|⟨g,o,u,e,y,r⟩
 .exact .inl h
 .exact .inr ⟨g,o,u,e,V1 hb y,r⟩
def zeb{w:World}{base:Nat}{v:Value}{l:List Nat}(h:OwnU base w v l)(T:l≠[])(hl:l.length<4611686018427387904):∃V,V.Perm l/\V.Pairwise (·<=·) /\
 Calls xT 110 #[v] w λe X=>e=.returned (.tuple #[])/\OwnU base X v V/\w.grownBy X v.ownBlock:=by
 obtain⟨E,hzs⟩:∃E:List Int,E=l.map λx:Nat=>(x:Int):=⟨_,rfl⟩;have J:E.length=l.length:=by rw[hzs];simp
 obtain⟨u,I⟩:∃u:List Int,u=E.mergeSort λx y=>decide (x<=y):=⟨_,rfl⟩;have o:u.Perm E:=by rw[I];exact List.mergeSort_perm _ _
 have G:u.Pairwise (λx y=>x<=y):=by
  have:=List.pairwise_mergeSort (le:=fun(x y:Int)=>decide (x<=y)) (λa b c Y P=>by simp at *;omega) (λa b=>a9) E;rw[<-I]at this;exact this.imp λh=>dJ h
 have C:∀z∈u,∃x:Nat,x∈l/\z=(x:Int):=λz hz=>by have:=o.mem_iff.1 hz;rw[hzs,wB]at this;obtain⟨x,U,rfl⟩:=this;exact⟨x,U,rfl⟩
 have S:(u.map Int.toNat).map (λx:Nat=>(x:Int))=u:=by rw[Ud];refine(UI (g:=id) λz hz=>?_).trans (List.map_id _);obtain⟨x,_,rfl⟩:=C z hz;simp
 refine⟨u.map Int.toNat,?_,?_,?_⟩
 .have:=o.map Int.toNat
  rw[hzs,Ud]at this
  rwa[show l.map (Int.toNat∘λx:Nat=>(x:Int))=l from (UI (g:=id) λ_ _=>rfl).trans (List.map_id _)]at this
 .rw[uH];exact G.imp λh=>a8
 .rcases h.cases with⟨_,h0⟩|⟨g,K,A,rfl,Y,P,Q,h4,h5,h6,h7⟩
  .exact absurd h0 T
  .have hH:Holds zg w g 0 E.toArray:=(by intro j L;have M:j<l.length:=(by rw[<-J];simpa using L);refine⟨?_,by simp[World.frozen?,Q]⟩;have q:(A.toList.take l.length)[j]?=(l.map uV)[j]?:=(by rw[h7]);rw[UW M]at q;simp only[World.cell?,Q,wn];simp only[Option.isSome_none,uA,UX];rw[<-uU,q];simp[M,hzs,uV]);have Z:=j7 g 0 K E w hH P a8;rw[J]at Z;refine Z.mono ?_;rintro e X ⟨rfl,n,os,rfl⟩;rw[<-I];have B:u.length=l.length:=(by rw[o.length_eq,J]);have F:(Sort.grow (Sort.putRow zg (Sort.ahead w n) g 0 u.toArray) os).heap[g]?=some (.cells (Sort.putCells zg 0 u.toArray A) 36 (0,0)):=(by rw[Sort.heap_grow_old _ _ (dJ P)];simp[Sort.putRow,Sort.mapBlock,Sort.ahead,U8,Q,Sort.onCells]);have H:(Sort.putCells zg 0 u.toArray A).toList.take l.length=(u.map Int.toNat).map uV:=by
    apply Uo;intro j;by_cases L:j<l.length
    .rw[UW L,uU];have N:j<u.length:=a8;obtain⟨x,_,U⟩:=C u[j] (Y1 N);simp[Sort.putCells,N,show j<A.size by omega,uV,U]
    .rw[List.getElem?_take_eq_none a8,WU a9]
   refine⟨rfl,⟨by simp[B],.inr ⟨g,K,_,by simp[B],Y,F,by simpa[B]using h4,h5,by simp[Sort.putCells,h6],?_⟩⟩,⟨rfl,rfl,rfl,b6,λj L O=>?_⟩⟩
   .rw[ww,Uj,B];exact H
   .rw[Sort.heap_grow_old _ _ (dJ L)];have:g≠j:=λe=>O (by rw[<-e];rfl);simp[Sort.putRow,Sort.mapBlock,Sort.ahead,U8,this]
end
end Go.Proofs.YtmpnbdhadjfbhaaGreatDoor
