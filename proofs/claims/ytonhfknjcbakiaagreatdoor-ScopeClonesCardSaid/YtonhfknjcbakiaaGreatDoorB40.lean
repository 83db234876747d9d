import Derived.Test.YtonhfknjcbakiaaGreatDoorB38
import Derived.Test.YtonhfknjcbakiaaGreatDoorB39
set_option maxHeartbeats 16000000
set_option linter.unusedVariables false
set_option linter.unusedSimpArgs false
set_option maxRecDepth 100000
namespace Go.Proofs.YtonhfknjcbakiaaGreatDoor
open Go.RowKit Go.Maps
attribute [-go_sem] z7
def MapS (D:DV) (S:List Nat):Prop:=IsMap D/\∀ r,has D (kR r)=decide (r ∈ S)
theorem MapS.nil:MapS (.map []) []:=⟨⟨[],rfl⟩,fun r=>by simp [has]⟩
theorem MapS.put {D:DV} {S:List Nat} (h:MapS D S) (r:Nat) (v:DV):MapS (D.put (kR r) v) (S++[r]):=by
 refine⟨h.1.put _ _,fun s=>?_⟩
 by_cases e:s=r
 ·subst e
  rw [has_put_same h.1 (Qc _)];simp
 ·rw [has_put_other (fun h=>e (Xa h)),h.2 s];simp [e]
def MI (B:Nat) (w:World) (S:List Nat):Prop:=∃ D,w.ownsMap Tryz.prog 24 rV B S.length D/\MapS D S
theorem MI.made (w:World):MI w.heap.size (w.alloc (.map #[] 0)) []:=⟨_,World.ownsMap_made _ _ _ _,MapS.nil⟩
theorem MI.keep {B:Nat} {w w':World} {S:List Nat} (h:MI B w S) (hb:w'.heap[B]? = w.heap[B]?):MI B w' S:=by
 obtain⟨D,h1,h2⟩:=h
 exact⟨D,yg h1 hb,h2⟩
theorem MI.lt {B:Nat} {w:World} {S:List Nat} (h:MI B w S):B<w.heap.size:=by
 obtain⟨D,h1,_⟩:=h
 exact h1.lt
def rdG (n0:Nat) (w:World) (b o:Nat) (f:Fg):Prop:=(∃ hv,w.cell? ⟨b,o,none⟩=some hv/\RdR 0 n0 w hv f.items)/\∃ ad n c,w.cell? ⟨b,o+1,none⟩=some (.slice ad n c)
theorem RdG.keep {n0:Nat} {w w':World} {v:Value} {k:List Fg} (h:RdSl 2 (rdG n0) 0 n0 w v k) (hb:∀ j,j<n0->w'.heap[j]? = w.heap[j]?):RdSl 2 (rdG n0) 0 n0 w' v k:=
 RdSl.keep h (Nat.le_refl _) (Nat.le_refl _) fun b o x _ h2 ⟨⟨hv,c0,c1⟩,ad,n,c,c2⟩=>
  ⟨⟨hv,(World.cell?_of_block (a:=⟨b,o,none⟩) (hb b h2)).trans c0,c1.keep (Nat.le_refl _) (Nat.le_refl _) fun b _ h=>hb b h⟩,ad,n,c,(World.cell?_of_block (a:=⟨b,o+1,none⟩) (hb b h2)).trans c2⟩
def RgS (B r n:Nat) (S:List Nat) (keep:Nat->Bool) (g:Nat) (left:Lit->Bool) (w:World):Prop:=
 ∃ D,w.ranges Tryz.prog 24 rV B r n D left g/\IsMap D/\(∀ x,has D (kR x)=(decide (x ∈ S) && (left (kR x) || keep x)))/\∀ x,left (kR x)=true->x ∈ S
def GotS (S:List Nat) (left:Lit->Bool) (l:List Nat):Prop:=l.Nodup/\∀ x,x ∈ l ↔ x ∈ S/\left (kR x)=false
theorem zay {left:Lit->Bool} {r x:Nat}:(left (kR r) && !(kR r).sameKey (kR x))=(left (kR r) && !decide (r=x)):=by
 have h:(kR r).sameKey (kR x)=decide (r=x):=by
  simp [kR,Lit.sameKey]
  omega
 rw [h]
section
variable {B r n g x:Nat} {S:List Nat} {kp:Nat->Bool} {left:Lit->Bool} {w:World} {D:DV}
theorem RgS.next (hD:IsMap D) (hh:∀ y,has D (kR y)=(decide (y ∈ S) && (left (kR y) || kp y))) (hl:∀ y,left (kR y)=true->y ∈ S) (hx:left (kR x)=true) (hk:kp x=true)
 (h:w.ranges Tryz.prog 24 rV B r n D (fun z=>left z && !z.sameKey (kR x)) g):RgS B r n S kp g (fun z=>left z && !z.sameKey (kR x)) w:=by
 refine⟨D,h,hD,fun y=>?_,fun y hy=>hl y ?_⟩
 ·dsimp only
  rw [hh y,zay]
  by_cases e:y=x
  ·subst e;simp [hk]
  ·simp [e]
 ·dsimp only at hy
  cases h0:left (kR y) with
  | true=>rfl
  | false=>rw [h0] at hy;simp at hy
theorem RgS.keep {w':World} (h:RgS B r n S kp g left w) (hb:w'.heap[B]? = w.heap[B]?) (hr:w'.heap[r]? = w.heap[r]?):RgS B r n S kp g left w':=by
 obtain⟨D,h1,h2⟩:=h
 exact⟨D,yD h1 hb hr,h2⟩
theorem GotS.nil (h:∀ y,left (kR y)=true ↔ y ∈ S):GotS S left []:=
 ⟨List.nodup_nil,fun y=>by
  constructor
  ·intro h;cases h
  ·rintro⟨h1,h2⟩
   rw [(h y).2 h1] at h2
   cases h2⟩
theorem GotS.push {l:List Nat} (h:GotS S left l) (hx:left (kR x)=true) (hS:x ∈ S):GotS S (fun z=>left z && !z.sameKey (kR x)) (l++[x]):=by
 refine⟨List.nodup_append.2 ⟨h.1,by simp,fun a ha b hb e=>?_⟩,fun y=>?_⟩
 ·rw [List.mem_singleton] at hb
  rw [e,hb] at ha
  have:=((h.2 x).1 ha).2
  rw [hx] at this
  cases this
 ·dsimp only
  rw [QM,List.mem_append,List.mem_singleton,h.2 y]
  constructor
  ·rintro(⟨h1,h2⟩ | rfl)
   ·exact⟨h1,.inl h2⟩
   ·exact⟨hS,.inr rfl⟩
  ·rintro⟨h1,h2 | h2⟩
   ·exact .inl ⟨h1,h2⟩
   ·exact .inr h2
end
def MemV (C:Nat->Nat->Prop) (l:List Nat) (u:Value) (w:World):Prop:=∃ D:Nat->Nat->Prop,(∀ b o,C b o->D b o)/\(∀ b o,D b o->b<w.heap.size)/\Dat D w u (is l)
theorem MemV.stab {C:Nat->Nat->Prop} {l:List Nat} (u:Value) (w w':World) (h:MemV C l u w) (hk:Keep qe w w'):MemV C l u w':=by
 obtain⟨D,h1,h2,h3⟩:=h
 exact⟨D,h1,fun b o hd=>Nat.lt_of_lt_of_le (h2 b o hd) hk.size,h3.mono (fun _ _ h=>h) fun b o x hd hx=>(World.cell?_of_block (a:=⟨b,o,none⟩) (hk.block b (h2 b o hd) id)).trans hx⟩
end Go.Proofs.YtonhfknjcbakiaaGreatDoor
namespace Go.Proofs.YtonhfknjcbakiaaGreatDoor
open Go.RowKit
structure Ok12 (C:Nat->List Nat) (R:List Nat) (k:List Fg):Prop where
 r:RightK k
 z:SzK k
 l:k.length<=1048576
 t:(CI k).length<=1000000
 i:∀ f ∈ k,f.items.length<=1048576
 ik:IK C R k
 ok:OkC C R
 s:∀ f ∈ k,SmV f.vec
def OkX (C:Nat->List Nat) (R:List Nat):Prop:=(∀ r,(C r).length<=9000)/\R.length<=1000
theorem OkX.c {C:Nat->List Nat} {R:List Nat} (h:OkX C R):OkC C R:=⟨h.1,by have:=h.2;omega⟩
structure Kn (C:Nat->List Nat) (R:List Nat) (n:Nat) (k:List Fg):Prop where
 r:RightK k
 ik:IK C R k
 s:∀ f ∈ k,SmV f.vec
 m:qE k<=n
 l:k.length<=n
theorem Kn.z {C:Nat->List Nat} {R:List Nat} {n:Nat} {k:List Fg} (h:Kn C R n k) (hn:n<=400000):SzK k:=
 ⟨by have:=h.l;omega,fun f hf=>⟨by have:=yv hf;have:=h.m;omega,by have:=(h.s f hf).2.1;omega,fun e he=>by have:=(h.s f hf).2.2 e he;omega⟩⟩
theorem Kn.mono {C C':Nat->List Nat} {R R':List Nat} {n m:Nat} {k:List Fg} (h:Kn C R n k) (hC:∀ r x,x ∈ C r->x ∈ C' r) (hR:∀ x ∈ R,x ∈ R') (hn:n<=m):Kn C' R' m k:=
 ⟨h.r,fun f hf=>(h.ik f hf).mono hC hR,h.s,by have:=h.m;omega,by have:=h.l;omega⟩
theorem V1:∀ {k:List Fg},(∀ f ∈ k,f.items.length<=20)->qE k<=k.length * 20
 | [],_=>Nat.zero_le _
 | f::k,h=>by
   have h1:=V1 (k:=k) fun g hg=>h g (by simp [hg])
   have h2:=h f (by simp)
   simp only [qE,List.length_cons];omega
theorem Kn.few {k:List Fg} (h:vx k=true) (hr:RightK k):Kn (CK k) (RK k) 240 k:=by
 have h1:=X3 h
 have h2:=V1 fun f hf=>(h1.2 f hf).1
 exact⟨hr,hr.ik,fun f hf=>zfh h hr hf,by omega,by omega⟩
theorem Kn.refine {C:Nat->List Nat} {R:List Nat} {n:Nat} {k:List Fg} (h:Kn C R n k) (ok:OkX C R):Kn C R (1+2 * n) (jq k):=by
 have h1:=xW k
 have h2:=YO k
 have h3:=h.m
 have hw:=h.ik.refine
 refine⟨Yb h.r,fun f hf=>(hw f hf).iv,fun f hf=>(hw f hf).smv ok.c,?_,?_⟩
 ·unfold jq;rw [Zf];omega
 ·unfold jq;rw [List.length_map];omega
theorem Kn.take {C:Nat->List Nat} {R:List Nat} {n:Nat} {k:List Fg} (h:Kn C R n k) (j:Nat):Kn C R n (k.take j):=by
 refine⟨h.r.take j,h.ik.take j,fun f hf=>h.s f (List.mem_of_mem_take hf),?_,?_⟩
 ·have h1:=kK (k.take j) (k.drop j)
  rw [List.take_append_drop] at h1
  have:=h.m;omega
 ·have:=h.l
  have:=List.length_take_le j k
  have:=List.length_take_le' j k
  omega
end Go.Proofs.YtonhfknjcbakiaaGreatDoor
namespace Go.Proofs.YtonhfknjcbakiaaGreatDoor
open Go.RowKit
attribute [-go_sem] z7
theorem OutG.at {C:Nat->Nat->Prop} {mb base:Nat} {w:World} {ad:Option Addr} {cap:Nat} {o:List Fg} (h:OutG C mb base w (.slice ad o.length cap) o) {i:Nat} (hi:i<o.length) :
 ∃ g ai ci av cv cur,ad=some ⟨g,0,none⟩/\base<=g/\w.heap[g]? = some (.cells cur 34 (0,0))/\w.cell? ⟨g,i * 2,none⟩=some (.slice ai o[i].items.length ci)/\w.cell? ⟨g,i * 2+1,none⟩=some (.slice av o[i].vec.length cv) /\
  Dat (DX C mb w (.slice ad o.length cap)) w (.slice ai o[i].items.length ci) (rg o[i].items)/\Dat (DX C mb w (.slice ad o.length cap)) w (.slice av o[i].vec.length cv) (vp o[i].vec):=by
 obtain⟨xs,hxs,hel⟩:=h
 obtain⟨a,b,ea,eb,da,db⟩:=hel i hi
 obtain⟨g,cap',cur,ev,hgb,hgl,hgc,_⟩:=hxs.cases.resolve_left (fun h=>by omega)
 obtain⟨rfl,_,rfl⟩:ad=some ⟨g,0,none⟩/\o.length=o.length/\cap=cap':=by simpa using ev
 have hc:∀ j x,xs[j]? = some x->w.cell? ⟨g,j,none⟩=some x:=fun j x hx=>by
  have:=World.ownsRow.cells hxs.1 (g:=g) rfl j x hx
  rw [zh,Nat.zero_add] at this
  exact this
 obtain⟨ai,ci,rfl⟩:=zK da
 obtain⟨av,cv,rfl⟩:=xL db
 exact⟨g,ai,ci,av,cv,cur,rfl,hgb,hgc,hc _ _ ea,hc _ _ eb,da,db⟩
theorem vi {D:Nat->Nat->Prop} {w:World} {x:Value} {es:List (List PV)} {sz:Nat} (h:Dat D w x (.sl es .sh)) (hs:∀ e ∈ es,e.length=sz) :
 ∃ ad cap xs,x=.slice ad es.length cap/\es.length<=cap/\cap<=maxLen/\xs.length=es.length * sz/\(∀ u ∈ xs,u.oneCell'=true)/\((es.length=0/\xs=[])\/∃ b off,ad=some ⟨b,off,none⟩/\∀(j:Nat) (u:Value),xs[j]? = some u->D b (off+j)/\w.cell? ⟨b,off+j,none⟩=some u) /\
  ∀(i:Nat) (e:List PV) (j:Nat) (p:PV),es[i]? = some e->e[j]? = some p->∃ u,xs[i * sz+j]? = some u/\Dat D w u p:=by
 generalize ho:Ow.sh=o at h
 cases h with
 | sl a cap sz' es o b off u hc hz hm ha hsz hD hd=>
   by_cases hn:es=[]
   ·subst hn
    exact⟨a,cap,[],rfl,hc,hm,by simp,fun _ h=>by simp at h,.inl ⟨rfl,rfl⟩,fun i e j p h=>by simp at h⟩
   ·obtain rfl:sz'=sz:=by
     cases es with
     | nil=>exact absurd rfl hn
     | cons e es=>exact(hsz 0 e rfl).symm.trans (hs e (by simp))
    refine⟨a,cap,(List.range (es.length * sz')).map u,rfl,hc,hm,by simp,fun v hv=>?_,.inr ⟨b,off,ha hn,fun j v hv=>?_⟩,fun i e j p he hp=>?_⟩
    ·obtain⟨j,hj,rfl⟩:=List.mem_map.1 hv
     exact(hD j (by simpa using hj)).2.2
    ·rw [List.getElem?_map] at hv
     obtain⟨k,hk,rfl⟩:=Option.map_eq_some_iff.1 hv
     obtain⟨h1,rfl⟩:=List.getElem?_eq_some_iff.1 hk
     simp at h1
     rw [List.getElem_range]
     exact⟨(hD j h1).1,(hD j h1).2.1⟩
    ·have hi:=(List.getElem?_eq_some_iff.1 he).1
     have hj:j<sz':=by rw [<-hsz i e he];exact(List.getElem?_eq_some_iff.1 hp).1
     have hlt:i * sz'+j<es.length * sz':=by
      have:=Nat.mul_le_mul_right sz' (show i+1<=es.length from hi)
      rw [Nat.add_mul] at this;omega
     refine⟨u (i * sz'+j),?_,hd i e j p he hp⟩
     rw [List.getElem?_map,List.getElem?_range hlt]
     rfl
theorem v5 (w:World) (t ty e:TypeId) (i0:TypeInfo) (z:Value) (sz by':Nat) (ht:Tryz.prog.underlying t=some (.slice e)) (hi:Tryz.prog.info? e=some i0) (hz:i0.zero=some z) (hs:i0.size=sz) (hb:i0.bytes=by') (hzs:z.cells.size=sz) (hsz:0<sz) (hby:by'<=64)
 (base:Nat) (v:Value) (n:Nat) (xs:List Value) (hown:w.ownsRow base e sz v n xs) (ad:Option Addr) (m c:Nat) (news:List Value) (hl:news.length=m * sz)
 (hnews:(m=0/\ad=none)\/∃ a,ad=some a/\∀ j u,news[j]? = some u->w.cell? (a.add j)=some u) (h1:∀ u ∈ news,u.oneCell'=true) (h63:n+m<=1073741824) (hbase:base<=w.heap.size) :
 ∃ v' w',(Builtin.append_ #[t,t] ty #[v,.slice ad m c]).run Tryz.prog w=.ok v' w'/\w'.ownsRow base e sz v' (n+m) (xs++news)/\w.grownBy w' v.ownBlock/\(v'.ownBlock=v.ownBlock\/v'.ownBlock=some w.heap.size):=by
 rcases hnews with⟨rfl,rfl⟩ | ⟨a,rfl,hn⟩
 ·obtain rfl:news=[]:=List.length_eq_zero_iff.1 (by simpa using hl)
  obtain⟨ba,cp,rfl,hcp⟩:∃ ba cp,v=.slice ba n cp/\n<=cp:=by
   rcases hown.2 with⟨rfl,rfl⟩ | ⟨g,cap,cur,rfl,_,_,h,_⟩
   ·exact⟨none,0,rfl,Nat.le_refl _⟩
   ·exact⟨_,_,rfl,h⟩
  exact⟨_,w,ve w t ty _ i0 ht hi ba n cp c hcp,by simpa using hown,jW _ _,.inl rfl⟩
 ·obtain⟨v',w',r1,r2,r3,_,r5⟩:=run_append_own_at (P:=Tryz.prog) w base t ty e i0 z sz by' ht hi hz hs hb hzs hsz v n xs hown a m c news hl hn h1 (by unfold maxLen;omega) (by
   calc (n+m) * by'<=1073741824 * 64:=Nat.mul_le_mul h63 hby
    _<=140737488355328:=by decide) hbase
  exact⟨v',w',r1,r2,r3,r5⟩
theorem zq6 {ops:Array Oper} {rest:List Oper} {o:Oper} {a:Act} {w:World} {Q:Exit->Act->World->Prop} (s x:Operand) (t e:TypeId) (hgd:o.guard=none)
 (ho:o.op=.call { callee:=.builtin .append,args:=#[s,x],argTypes:=#[t,t] }) (i0:TypeInfo) (z:Value) (sz by':Nat) (ht:Tryz.prog.underlying t=some (.slice e)) (hi:Tryz.prog.info? e=some i0) (hz:i0.zero=some z) (hss:i0.size=sz) (hb:i0.bytes=by') (hzs:z.cells.size=sz) (hsz:0<sz) (hby:by'<=64)
 (base:Nat) (v:Value) (n:Nat) (xs:List Value) (hs:a.eval s=v) (hown:w.ownsRow base e sz v n xs)
 (ad:Option Addr) (m c:Nat) (news:List Value) (hx:a.eval x=.slice ad m c) (hl:news.length=m * sz) (hnews:(m=0/\ad=none)\/∃ a,ad=some a/\∀ j u,news[j]? = some u->w.cell? (a.add j)=some u) (h1:∀ u ∈ news,u.oneCell'=true) (h63:n+m<=1073741824) (hbase:base<=w.heap.size)
 (h:∀ v' w',w'.ownsRow base e sz v' (n+m) (xs++news)->w.grownBy w' v.ownBlock->(v'.ownBlock=v.ownBlock\/v'.ownBlock=some w.heap.size)->wpList Tryz.prog ops Q rest (a.put o.dst v') w'):wpList Tryz.prog ops Q (o::rest) a w:=by
 have hw:Region.wanted o (yielded ops a.tmps)=true:=by simp [Region.wanted,hgd]
 unfold wpList
 rw [if_pos hw]
 refine .inl ?_
 obtain⟨v',w',hr,h2,h3,h4⟩:=v5 w t o.type e i0 z sz by' ht hi hz hss hb hzs hsz hby base v n xs hown ad m c news hl hnews h1 h63 hbase
 unfold Oper.wp execOp
 simp only [ho,resolve,invoke,builtin,Sem.run_bind,Sem.run_pure,Result.andThen_ok,List.map_toArray,List.map_cons,List.map_nil,hs,hx,hr]
 exact h v' w' h2 h3 h4
theorem zrH {w:World} {base A:Nat} {e:TypeId} {sz:Nat} (hA:base<=A) (h:w.heap[A]? = some (.cells #[] e (0,0))):w.ownsRow base e sz (.slice (some ⟨A,0,none⟩) 0 0) 0 []:=⟨by simp,.inr ⟨A,0,#[],rfl,hA,h,Nat.le_refl _,Nat.zero_le _,by simp,by simp⟩⟩
theorem eqlV_some (ad:Addr) (n c:Nat) (w:World):(binOp .eql 32 (.slice (some ad) n c) (.slice none 0 0)).run Tryz.prog w=.ok (.bool false) w:=by kernel_rfl
theorem vv (n c:Nat) (w:World):(binOp .eql 32 (.slice none n c) (.slice none 0 0)).run Tryz.prog w=.ok (.bool true) w:=by kernel_rfl
theorem zqZ:(Tryz.prog.info? 38).map (fun i=>(i.zero,i.size,i.bytes))=some (some (.agg #[.int .u64 0,.int .u64 0,.slice none 0 0]),3,40):=by kernel_rfl
theorem znV {D:Nat->Nat->Prop} {w:World} {x:Value} {es:List (List PV)} (d:Dat D w x (.sl es .sh)) (hs:∀ e ∈ es,e.length=3) (hl:es.length<=1073741824) :
 Calls Tryz.prog 108 #[x] w fun e w'=>∃ u xs,e=.returned u/\Below w.heap.size w w'/\w'.ownsRow w.heap.size 38 3 u es.length xs/\∀(i:Nat) (e:List PV) (j:Nat) (p:PV),es[i]? = some e->e[j]? = some p->∃ v,xs[i * 3+j]? = some v/\Dat D w v p:=by
 obtain⟨ad,cap,xs,rfl,_,_,h1,h2,h3,h4⟩:=vi d hs
 obtain⟨i0,hi0,hz0,hz1,hz2⟩:=info_parts zqZ
 cases ad with
 | none=>
   obtain⟨e0,rfl⟩:es.length=0/\xs=[]:=by
    rcases h3 with h | ⟨b,off,e,_⟩
    ·exact h
    ·cases e
   have hq:=vv es.length cap
   have H4:=Lib.hid h4
   have E0:=Lib.hid e0
   clear h1 h2 h3 h4 d hl hi0 hz0 hz1 hz2 e0
   go_enter Tryz.func108,Tryz.ntmps108
   go_wp2
   go_ret
   refine⟨_,[],rfl,Below.refl _ _,?_,H4.out⟩
   rw [E0.out]
   exact World.ownsRow_nil _ _ _ _
 | some ad=>
   have hq:=eqlV_some ad es.length cap
   have hcell:∀(j:Nat) (u:Value),xs[j]? = some u->(w.alloc (.cells #[] 38)).cell? (ad.add j)=some u:=fun j u hu=>by
    rcases h3 with⟨_,e⟩ | ⟨b,off,e,h⟩
    ·rw [e] at hu;simp at hu
    ·cases e
     have hx:=(h j u hu).2
     rw [zh]
     exact(World.cell?_of_block (a:=⟨b,off+j,none⟩) (Below.heap_alloc _ _ _ (World.block_lt_of_cell? w _ hx))).trans hx
   have HN:=Lib.hid (World.alloc_heap_new w (.cells #[] 38 (0,0)))
   have HC:=Lib.hid hcell
   have H1:=Lib.hid h1
   have H2:=Lib.hid h2
   have H4:=Lib.hid h4
   have HI:=Lib.hid (And.intro hi0 (And.intro hz0 (And.intro hz1 hz2)))
   clear h1 h2 h3 h4 d hcell hi0 hz0 hz1 hz2
   go_enter Tryz.func108,Tryz.ntmps108
   go_wp2_with (at_builtin;refine zq6 _ _ 32 38 rfl rfl i0 _ 3 40 Tryz.underlying32 HI.out.1 HI.out.2.1 HI.out.2.2.1 HI.out.2.2.2 rfl (by decide) (by decide) w.heap.size _ 0 [] rfl (zrH (Nat.le_refl _) HN.out) _ es.length cap xs rfl H1.out (.inr ⟨_,rfl,HC.out⟩) H2.out (by omega) (by simp) ?_;intro v' w' ho hg hv)
   go_ret
   rw [Nat.zero_add] at ho
   refine⟨v',xs,rfl,?_,ho,H4.out⟩
   exact(((Below.refl _ w).alloc (Nat.le_refl _) _).grown hg (by simp) fun j hj=>by cases hj;exact Nat.le_refl _)
def RwE (base:Nat) (w:World) (u:Value) (v:List En) (X:Nat->En->Value->Prop):Prop:=
 ∃ xs,w.ownsRow base 38 3 u v.length xs/\∀ i (h:i<v.length),xs[i * 3]? = some (uV v[i].rep)/\xs[i * 3+1]? = some (uV v[i].max)/\∃ hv,xs[i * 3+2]? = some hv/\X i v[i] hv
theorem RwE.imp {base:Nat} {w:World} {u:Value} {v:List En} {X Y:Nat->En->Value->Prop} (h:RwE base w u v X) (hi:∀ i e hv,i<v.length->X i e hv->Y i e hv):RwE base w u v Y:=by
 obtain⟨xs,h1,h2⟩:=h
 refine⟨xs,h1,fun i hi'=>?_⟩
 obtain⟨a,b,hv,c,d⟩:=h2 i hi'
 exact⟨a,b,hv,c,hi i _ hv hi' d⟩
theorem RwE.shape {base:Nat} {w:World} {u:Value} {v:List En} {X:Nat->En->Value->Prop} (h:RwE base w u v X):∃ ad cap,u=.slice ad v.length cap/\v.length<=cap/\cap<=maxLen/\(v≠[]->∃ g cur,ad=some ⟨g,0,none⟩/\base<=g/\g<w.heap.size/\w.heap[g]? = some (.cells cur 38 (0,0))/\0<cap):=by
 obtain⟨xs,h1,_⟩:=h
 rcases h1.2 with⟨rfl,h0⟩ | ⟨g,cap,cur,rfl,hg,hc,hn,hm,_,_⟩
 ·have:v=[]:=List.length_eq_zero_iff.1 h0
  subst this
  exact⟨none,0,rfl,Nat.le_refl _,by decide,fun h=>absurd rfl h⟩
 ·refine⟨_,cap,rfl,hn,hm,fun hne=>⟨g,cur,rfl,hg,(Array.getElem?_eq_some_iff.1 hc).1,hc,?_⟩⟩
  have:=List.length_pos_iff.2 hne
  omega
theorem RwE.at {base g n cap:Nat} {w:World} {v:List En} {X:Nat->En->Value->Prop} (h:RwE base w (.slice (some ⟨g,0,none⟩) n cap) v X) (h0:0<cap) {i:Nat} (hi:i<v.length) :
 w.cell? ⟨g,i * 3,none⟩=some (uV v[i].rep)/\w.frozen? ⟨g,i * 3,none⟩=false/\w.cell? ⟨g,i * 3+1,none⟩=some (uV v[i].max)/\w.frozen? ⟨g,i * 3+1,none⟩=false/\∃ hv,w.cell? ⟨g,i * 3+2,none⟩=some hv/\w.frozen? ⟨g,i * 3+2,none⟩=false/\X i v[i] hv:=by
 obtain⟨xs,h1,h2⟩:=h
 obtain⟨a,b,hv,c,d⟩:=h2 i hi
 have hf:∀ o,w.frozen? ⟨g,o,none⟩=false:=by
  rcases h1.2 with⟨e,_⟩ | ⟨g',cap',cur,e,_,hc,_⟩
  ·cases e
  ·cases e
   intro o
   simp [World.frozen?,hc]
 have key:∀ j x,xs[j]? = some x->w.cell? ⟨g,j,none⟩=some x:=fun j x hx=>by
  have:=World.ownsRow.cells h1 (g:=g) (by cases cap with | zero=>omega | succ c=>rfl) j x hx
  rw [zh,Nat.zero_add] at this
  exact this
 exact⟨key _ _ a,hf _,key _ _ b,hf _,hv,key _ _ c,hf _,d⟩
theorem RwE.set {base g cap j:Nat} {w:World} {v:List En} {X:Nat->En->Value->Prop} {a0:Value} (h:RwE base w (.slice (some ⟨g,0,none⟩) v.length cap) v X) {Y:Nat->En->Value->Prop} (hY:∀ i (h:i<v.length) hv,i≠j->X i v[i] hv->Y i v[i] hv) (hj:j<v.length) (h0:Y j v[j] a0) :
 RwE base (w.setCell ⟨g,j * 3+2,none⟩ a0) (.slice (some ⟨g,0,none⟩) v.length cap) v Y:=by
 obtain⟨xs,h1,h2⟩:=h
 obtain⟨s1,_⟩:=h1.stored (j * 3+2) a0
 refine⟨xs.set (j * 3+2) a0,s1,fun i hi=>?_⟩
 obtain⟨a,b,hv,c,d⟩:=h2 i hi
 refine⟨by rw [List.getElem?_set_ne (by omega)];exact a,by rw [List.getElem?_set_ne (by omega)];exact b,?_⟩
 by_cases hij:i=j
 ·subst hij
  have hlt:=(List.getElem?_eq_some_iff.1 c).1
  exact⟨a0,by rw [List.getElem?_set_self hlt],h0⟩
 ·exact⟨hv,by rw [List.getElem?_set_ne (by omega)];exact c,hY i hi hv hij d⟩
theorem RwE.keep {base:Nat} {w w':World} {u:Value} {v:List En} {X:Nat->En->Value->Prop} (h:RwE base w u v X) (hb:∀ k,k<w.heap.size->w'.heap[k]? = w.heap[k]?):RwE base w' u v X:=by
 obtain⟨xs,h1,h2⟩:=h
 refine⟨xs,⟨h1.1,?_⟩,h2⟩
 rcases h1.2 with h | ⟨g,cap,cur,e,hg,hc,r⟩
 ·exact .inl h
 ·exact .inr ⟨g,cap,cur,e,hg,(hb g (Array.getElem?_eq_some_iff.1 hc).1).trans hc,r⟩
theorem RwE.mu {base:Nat} {w:World} {u:Value} {v:List En} {X:Nat->En->Value->Prop} (h:RwE base w u v X) (hX:∀ i e hv,X i e hv->MuI (base<=·) w hv):MuE (base<=·) w u:=by
 obtain⟨ad,cap,rfl,h1,h2,h3⟩:=h.shape
 refine⟨v.length,ad,cap,rfl,h1,h2,fun hn=>?_⟩
 have hne:v≠[]:=fun e=>by rw [e] at hn;exact hn rfl
 obtain⟨g,cur,rfl,hg,_,_,h0⟩:=h3 hne
 refine⟨g,0,rfl,fun j hj=>?_⟩
 obtain⟨a,b,c,d,hv,e,_,f⟩:=h.at h0 hj
 simp only [Nat.zero_add]
 exact⟨⟨hg,_,a,b⟩,⟨hg,_,c,d⟩,hv,e,hX _ _ _ f⟩
theorem RwE.dat {D:Nat->Nat->Prop} {base:Nat} {w:World} {u:Value} {v:List En} {X:Nat->En->Value->Prop} (h:RwE base w u v X) (hX:∀ i e hv,X i e hv->Dat D w hv (rg e.holes)) (hD:∀ b o,base<=b->b<w.heap.size->D b o):Dat D w u (vp v):=by
 obtain⟨ad,cap,rfl,h1,h2,h3⟩:=h.shape
 have hlen:(v.map ec).length=v.length:=List.length_map _
 unfold vp
 by_cases hne:v=[]
 ·subst hne
  exact .sl ad cap 3 [] .sh 0 0 (fun _=>undef) (Nat.zero_le _) (fun h=>by cases h) h2 (fun h=>absurd rfl h) (fun i e h=>by simp at h) (fun j h=>by simp at h) (fun i e j p h=>by simp at h)
 obtain⟨g,cur,rfl,hg,hgl,_,h0⟩:=h3 hne
 have hcell:∀ i (hi:i<v.length) j p,(ec v[i])[j]? = some p->∃ x,w.cell? ⟨g,i * 3+j,none⟩=some x/\Dat D w x p/\x.oneCell'=true:=fun i hi j p hp=>by
  obtain⟨a,_,b,_,hv,c,_,d⟩:=h.at h0 hi
  match j,hp with
  | 0,hp=>cases hp;exact⟨_,a,.v _,rfl⟩
  | 1,hp=>cases hp;exact⟨_,b,.v _,rfl⟩
  | 2,hp=>cases hp;exact⟨_,c,hX _ _ _ d,Ki (hX _ _ _ d)⟩
  | j+3,hp=>simp [ec] at hp
 rw [<-hlen]
 refine .sl (some ⟨g,0,none⟩) cap 3 (v.map ec) .sh g 0 (fun j=>(w.cell? ⟨g,j,none⟩).getD undef) (by rw [hlen];exact h1) (fun h=>by cases h) h2 (fun _=>rfl) (fun i e he=>?_) (fun j hj=>?_) (fun i e j p he hp=>?_)
 ·rw [List.getElem?_map] at he
  obtain⟨x,_,rfl⟩:=Option.map_eq_some_iff.1 he
  rfl
 ·rw [hlen] at hj
  have hi:j / 3<v.length:=by omega
  have h3':j % 3<(ec v[j / 3]).length:=Nat.mod_lt _ (by decide)
  obtain⟨x,hx,_,ho⟩:=hcell (j / 3) hi (j % 3) ((ec v[j / 3])[j % 3]) (List.getElem?_eq_getElem h3')
  rw [show j / 3 * 3+j % 3=j by omega] at hx
  simp only [Nat.zero_add,hx,Option.getD_some]
  exact⟨hD _ _ hg hgl,trivial,ho⟩
 ·rw [List.getElem?_map] at he
  obtain⟨x,hx,rfl⟩:=Option.map_eq_some_iff.1 he
  obtain⟨hi,rfl⟩:=List.getElem?_eq_some_iff.1 hx
  obtain⟨y,hy,hd,_⟩:=hcell i hi j p hp
  simp only [hy,Option.getD_some]
  exact hd
theorem zq3 {D:Nat->Nat->Prop} {w:World} {x:Value} (v:List En) (d:Dat D w x (vp v)) (hD:∀ b o,D b o->b<w.heap.size) (hb:∀ e ∈ v,ZL e) (hl:v.length<=1073741824) (hh:∀ e ∈ v,e.holes.length<=1073741824) :
 Calls Tryz.prog 60 #[x] w fun e w'=>∃ u,e=.returned u/\Below w.heap.size w w'/\RwE w.heap.size w' u v (fun _ e hv=>OwnR w.heap.size w' hv e.holes):=by
 have hcl:=znV (es:=v.map ec) d (fun e he=>by obtain⟨x,_,rfl⟩:=List.mem_map.1 he;rfl) (by rw [List.length_map];exact hl)
 have HCL:=Lib.hid hcl
 have HDD:=Lib.hid hD
 have HB:=Lib.hid hb
 have HH:=Lib.hid hh
 clear hcl d hD hb hh
 go_enter Tryz.func60,Tryz.ntmps60
 go_upto_region 2 with(go_at_call 108;refine HCL.out.mono ?_;rintro e w1 ⟨u,xs,rfl,hb1,ho1,hx1⟩)
 have hrw:RwE w.heap.size w1 u v (fun _ e hv=>Dat D w hv (rg e.holes)):=by
  refine⟨xs,by rw [List.length_map] at ho1;exact ho1,fun i hi=>?_⟩
  have he:(v.map ec)[i]? = some (ec v[i]):=by rw [List.getElem?_map,List.getElem?_eq_getElem hi];rfl
  obtain⟨x0,a0,d0⟩:=hx1 i _ 0 _ he rfl
  obtain⟨x1,a1,d1⟩:=hx1 i _ 1 _ he rfl
  obtain⟨x2,a2,d2⟩:=hx1 i _ 2 _ he rfl
  have e0:=(Rel.dat (ρ:=fun _=>0) (nb:=0) d0).v_inv
  have e1:=(Rel.dat (ρ:=fun _=>0) (nb:=0) d1).v_inv
  rw [e0] at a0
  rw [e1] at a1
  exact⟨a0,a1,x2,a2,d2⟩
 obtain⟨ad,cap,rfl,hcap,hcm,hrow⟩:=hrw.shape
 unfold maxLen at hcm
 have HRW:=Lib.hid hrw
 have HB1:=Lib.hid hb1
 have HROW:=Lib.hid hrow
 have hsz1:=hb1.size
 clear hrw ho1 hx1 hb1 hrow
 go_wp2_with fail
 go_loopg [9] v.length (fun gh x wr=>∃ j,j<=v.length/\gh=v.length - j/\x=.int .i64 j/\RwE w.heap.size wr (.slice ad v.length cap) v (fun i e hv=>(i<j->OwnR w1.heap.size wr hv e.holes)/\(j<=i->Dat D w hv (rg e.holes)))/\Below w.heap.size w wr/\w1.heap.size<=wr.heap.size)
 case atStart=>exact⟨0,Nat.zero_le _,rfl,rfl,HRW.out.imp fun i e hv _ h=>⟨fun h0=>absurd h0 (Nat.not_lt_zero _),fun _=>h⟩,HB1.out,Nat.le_refl _⟩
 case round=>
  obtain⟨j,hj,rfl,rfl,hrw,hbr,hsr⟩:=hrel
  have HR:=Lib.hid hrw
  have HBR:=Lib.hid hbr
  by_cases hlt:j<v.length
  ·obtain⟨g,cur,rfl,hg,hgl,_,h0⟩:=HROW.out (by intro e;subst e;simp at hlt)
   obtain⟨_,_,_,_,hv,ch,fh,_,hdv⟩:=hrw.at h0 hlt
   have hdv:=hdv (Nat.le_refl _)
   have hem:=List.getElem_mem hlt
   obtain⟨av,cv,rfl⟩:=zK hdv
   have hrd:∀ W,Below w.heap.size w W->RdR 0 W.heap.size W (.slice av v[j].holes.length cv) v[j].holes:=fun W hW=>je (hdv.mono (fun _ _ h=>h) fun b o x h hx=>(World.cell?_of_block (a:=⟨b,o,none⟩) (hW.block b (HDD.out b o h))).trans hx) (fun b o h=>Nat.lt_of_lt_of_le (HDD.out b o h) hW.size) (HB.out _ hem).1
   have HRD:=Lib.hid hrd
   have hhl:=HH.out _ hem
   clear hrw hbr hdv hrd hem
   go_wp2_with fail
   refine(zeX (HRD.out _ HBR.out) (by omega)).mono ?_
   rintro e w3 ⟨u3,rfl,ho3,hb3⟩
   obtain⟨au,cu,rfl⟩:=ho3.val
   have c3:=(World.cell?_of_block (a:=⟨g,j * 3+2,none⟩) (hb3.block g (by omega))).trans ch
   have f3:w3.frozen? ⟨g,j * 3+2,none⟩=false:=by
    have e:=hb3.block g (by omega)
    simp only [World.frozen?,e] at fh ⊢
    exact fh
   have HO3:=Lib.hid ho3
   have HB3:=Lib.hid hb3
   have hs3:=hb3.size
   clear ho3 hb3 ch fh
   dsimp only
   go_wp2_with fail
   go_roundg (v.length - (j+1))
   case measure=>omega
   case rel=>
    refine⟨j+1,hlt,rfl,by simp,(HR.out.keep fun k hk=>HB3.out.block k hk).set (fun i hi hv hne hx=>⟨fun hij=>?_,fun hij=>hx.2 (by omega)⟩) hlt ⟨fun _=>?_,fun h=>by omega⟩,?_,by simp;omega⟩
    ·exact((hx.1 (by omega)).below HB3.out (Nat.le_refl _)).keep ((Keep.refl (fun k=>k=g) w3).setCell (fun _=>rfl) _) fun k hk e=>by omega
    ·exact(HO3.out.mono hsr).keep ((Keep.refl (fun k=>k=g) w3).setCell (fun _=>rfl) _) fun k hk e=>by omega
    ·exact Below.setCell (HBR.out.trans (HB3.out.mono (by omega))) (by show w.heap.size<=g;omega) _
  ·obtain rfl:j=v.length:=by omega
   go_wp2_with fail
   refine bodyPost_ret (results_tmp rfl _ _ _) rfl ?_
   exact⟨_,rfl,HBR.out,HR.out.imp fun i e hv hi hx=>(hx.1 hi).mono (by omega)⟩
theorem zrs (ad:Addr) (n c:Nat) (w:World):(binOp .eql 23 (.slice (some ad) n c) (.slice none 0 0)).run Tryz.prog w=.ok (.bool false) w:=by kernel_rfl
theorem zrr (n c:Nat) (w:World):(binOp .eql 23 (.slice none n c) (.slice none 0 0)).run Tryz.prog w=.ok (.bool true) w:=by kernel_rfl
theorem zry {D:Nat->Nat->Prop} {w:World} {x:Value} {es:List (List PV)} (d:Dat D w x (.sl es .sh)) (hs:∀ e ∈ es,e.length=2) (hl:es.length<=1073741824) :
 Calls Tryz.prog 58 #[x] w fun e w'=>∃ u xs,e=.returned u/\Below w.heap.size w w'/\w'.ownsRow w.heap.size 34 2 u es.length xs/\∀(i:Nat) (e:List PV) (j:Nat) (p:PV),es[i]? = some e->e[j]? = some p->∃ v,xs[i * 2+j]? = some v/\Dat D w v p:=by
 obtain⟨ad,cap,xs,rfl,_,_,h1,h2,h3,h4⟩:=vi d hs
 obtain⟨i0,hi0,hz0,hz1,hz2⟩:=info_parts Z9
 cases ad with
 | none=>
   obtain⟨e0,rfl⟩:es.length=0/\xs=[]:=by
    rcases h3 with h | ⟨b,off,e,_⟩
    ·exact h
    ·cases e
   have hq:=zrr es.length cap
   have H4:=Lib.hid h4
   have E0:=Lib.hid e0
   clear h1 h2 h3 h4 d hl hi0 hz0 hz1 hz2 e0
   go_enter Tryz.func58,Tryz.ntmps58
   go_wp2
   go_ret
   refine⟨_,[],rfl,Below.refl _ _,?_,H4.out⟩
   rw [E0.out]
   exact World.ownsRow_nil _ _ _ _
 | some ad=>
   have hq:=zrs ad es.length cap
   have hcell:∀(j:Nat) (u:Value),xs[j]? = some u->(w.alloc (.cells #[] 34)).cell? (ad.add j)=some u:=fun j u hu=>by
    rcases h3 with⟨_,e⟩ | ⟨b,off,e,h⟩
    ·rw [e] at hu;simp at hu
    ·cases e
     have hx:=(h j u hu).2
     rw [zh]
     exact(World.cell?_of_block (a:=⟨b,off+j,none⟩) (Below.heap_alloc _ _ _ (World.block_lt_of_cell? w _ hx))).trans hx
   have HN:=Lib.hid (World.alloc_heap_new w (.cells #[] 34 (0,0)))
   have HC:=Lib.hid hcell
   have H1:=Lib.hid h1
   have H2:=Lib.hid h2
   have H4:=Lib.hid h4
   have HI:=Lib.hid (And.intro hi0 (And.intro hz0 (And.intro hz1 hz2)))
   clear h1 h2 h3 h4 d hcell hi0 hz0 hz1 hz2
   go_enter Tryz.func58,Tryz.ntmps58
   go_wp2_with (at_builtin;refine zq6 _ _ 23 34 rfl rfl i0 _ 2 48 Tryz.underlying23 HI.out.1 HI.out.2.1 HI.out.2.2.1 HI.out.2.2.2 rfl (by decide) (by decide) w.heap.size _ 0 [] rfl (zrH (Nat.le_refl _) HN.out) _ es.length cap xs rfl H1.out (.inr ⟨_,rfl,HC.out⟩) H2.out (by omega) (by simp) ?_;intro v' w' ho hg hv)
   go_ret
   rw [Nat.zero_add] at ho
   refine⟨v',xs,rfl,?_,ho,H4.out⟩
   exact(((Below.refl _ w).alloc (Nat.le_refl _) _).grown hg (by simp) fun j hj=>by cases hj;exact Nat.le_refl _)
def VO (base:Nat) (w:World) (u:Value) (v:List En):Prop:=RwE base w u v (fun _ e hv=>OwnR base w hv e.holes)
theorem VO.keep {base:Nat} {S:Nat->Prop} {w w':World} {u:Value} {v:List En} (h:VO base w u v) (hk:Keep S w w') (hS:∀ g,base<=g->¬ S g):VO base w' u v:=by
 obtain⟨xs,h1,h2⟩:=h
 refine⟨xs,hk.ownsRow h1 fun g hg=>hS g ((h1.lt g hg).1),fun i hi=>?_⟩
 obtain⟨a,b,hv,c,d⟩:=h2 i hi
 exact⟨a,b,hv,c,d.keep hk hS⟩
theorem VO.mono {base base':Nat} {w:World} {u:Value} {v:List En} (h:VO base w u v) (hb:base'<=base):VO base' w u v:=by
 obtain⟨xs,h1,h2⟩:=h
 refine⟨xs,⟨h1.1,?_⟩,fun i hi=>?_⟩
 ·rcases h1.2 with hn | ⟨g,cap,cur,hv,hg,r⟩
  ·exact .inl hn
  ·exact .inr ⟨g,cap,cur,hv,Nat.le_trans hb hg,r⟩
 ·obtain⟨a,b,hv,c,d⟩:=h2 i hi
  exact⟨a,b,hv,c,d.mono hb⟩
theorem VO.shape {base:Nat} {w:World} {u:Value} {v:List En} (h:VO base w u v):∃ a c,u=.slice a v.length c:=by
 obtain⟨a,c,e,_⟩:=RwE.shape h
 exact⟨a,c,e⟩
def RwF (base:Nat) (w:World) (u:Value) (k:List Fg) (X:Nat->Fg->Value->Value->Prop):Prop:=
 ∃ xs,w.ownsRow base 34 2 u k.length xs/\∀ i (h:i<k.length),∃ ha hb,xs[i * 2]? = some ha/\xs[i * 2+1]? = some hb/\X i k[i] ha hb
theorem RwF.imp {base:Nat} {w:World} {u:Value} {k:List Fg} {X Y:Nat->Fg->Value->Value->Prop} (h:RwF base w u k X) (hi:∀ i f a b,i<k.length->X i f a b->Y i f a b):RwF base w u k Y:=by
 obtain⟨xs,h1,h2⟩:=h
 refine⟨xs,h1,fun i hi'=>?_⟩
 obtain⟨a,b,c,d,e⟩:=h2 i hi'
 exact⟨a,b,c,d,hi i _ a b hi' e⟩
theorem RwF.shape {base:Nat} {w:World} {u:Value} {k:List Fg} {X:Nat->Fg->Value->Value->Prop} (h:RwF base w u k X):∃ ad cap,u=.slice ad k.length cap/\k.length<=cap/\cap<=maxLen/\(k≠[]->∃ g cur,ad=some ⟨g,0,none⟩/\base<=g/\g<w.heap.size/\w.heap[g]? = some (.cells cur 34 (0,0))/\0<cap):=by
 obtain⟨xs,h1,_⟩:=h
 rcases h1.2 with⟨rfl,h0⟩ | ⟨g,cap,cur,rfl,hg,hc,hn,hm,_,_⟩
 ·have:k=[]:=List.length_eq_zero_iff.1 h0
  subst this
  exact⟨none,0,rfl,Nat.le_refl _,by decide,fun h=>absurd rfl h⟩
 ·refine⟨_,cap,rfl,hn,hm,fun hne=>⟨g,cur,rfl,hg,(Array.getElem?_eq_some_iff.1 hc).1,hc,?_⟩⟩
  have:=List.length_pos_iff.2 hne
  omega
theorem RwF.at {base g n cap:Nat} {w:World} {k:List Fg} {X:Nat->Fg->Value->Value->Prop} (h:RwF base w (.slice (some ⟨g,0,none⟩) n cap) k X) (h0:0<cap) {i:Nat} (hi:i<k.length) :
 ∃ ha hb,w.cell? ⟨g,i * 2,none⟩=some ha/\w.frozen? ⟨g,i * 2,none⟩=false/\w.cell? ⟨g,i * 2+1,none⟩=some hb/\w.frozen? ⟨g,i * 2+1,none⟩=false/\X i k[i] ha hb:=by
 obtain⟨xs,h1,h2⟩:=h
 obtain⟨a,b,c,d,e⟩:=h2 i hi
 have hf:∀ o,w.frozen? ⟨g,o,none⟩=false:=by
  rcases h1.2 with⟨e,_⟩ | ⟨g',cap',cur,e,_,hc,_⟩
  ·cases e
  ·cases e
   intro o
   simp [World.frozen?,hc]
 have key:∀ j x,xs[j]? = some x->w.cell? ⟨g,j,none⟩=some x:=fun j x hx=>by
  have:=World.ownsRow.cells h1 (g:=g) (by cases cap with | zero=>omega | succ c=>rfl) j x hx
  rw [zh,Nat.zero_add] at this
  exact this
 exact⟨a,b,key _ _ c,hf _,key _ _ d,hf _,e⟩
theorem RwF.set {base g cap j:Nat} {w:World} {k:List Fg} {X:Nat->Fg->Value->Value->Prop} {a0 b0:Value} (h:RwF base w (.slice (some ⟨g,0,none⟩) k.length cap) k X) {Y:Nat->Fg->Value->Value->Prop} (hY:∀ i (h:i<k.length) a b,i≠j->X i k[i] a b->Y i k[i] a b) (hj:j<k.length) (h0:Y j k[j] a0 b0) :
 RwF base ((w.setCell ⟨g,j * 2,none⟩ a0).setCell ⟨g,j * 2+1,none⟩ b0) (.slice (some ⟨g,0,none⟩) k.length cap) k Y:=by
 obtain⟨xs,h1,h2⟩:=h
 obtain⟨s1,_⟩:=h1.stored (j * 2) a0
 obtain⟨s2,_⟩:=s1.stored (j * 2+1) b0
 refine⟨_,s2,fun i hi=>?_⟩
 obtain⟨a,b,c,d,e⟩:=h2 i hi
 by_cases hij:i=j
 ·subst hij
  have l1:=(List.getElem?_eq_some_iff.1 c).1
  have l2:=(List.getElem?_eq_some_iff.1 d).1
  exact⟨a0,b0,by rw [List.getElem?_set_ne (by omega),List.getElem?_set_self l1],by rw [List.getElem?_set_self (by simpa using l2)],h0⟩
 ·exact⟨a,b,by rw [List.getElem?_set_ne (by omega),List.getElem?_set_ne (by omega)];exact c,by rw [List.getElem?_set_ne (by omega),List.getElem?_set_ne (by omega)];exact d,hY i hi a b hij e⟩
theorem RwF.keep {base:Nat} {w w':World} {u:Value} {k:List Fg} {X:Nat->Fg->Value->Value->Prop} (h:RwF base w u k X) (hb:∀ k,k<w.heap.size->w'.heap[k]? = w.heap[k]?):RwF base w' u k X:=by
 obtain⟨xs,h1,h2⟩:=h
 refine⟨xs,⟨h1.1,?_⟩,h2⟩
 rcases h1.2 with h | ⟨g,cap,cur,e,hg,hc,r⟩
 ·exact .inl h
 ·exact .inr ⟨g,cap,cur,e,hg,(hb g (Array.getElem?_eq_some_iff.1 hc).1).trans hc,r⟩
def KO (base:Nat) (w:World) (u:Value) (k:List Fg):Prop:=RwF base w u k (fun _ f a b=>OwnR base w a f.items/\VO base w b f.vec)
theorem KO.mu {base:Nat} {w:World} {u:Value} {k:List Fg} (h:KO base w u k):MuF (base<=·) w u:=by
 obtain⟨ad,cap,rfl,h1,h2,h3⟩:=RwF.shape h
 refine⟨k.length,ad,cap,rfl,h1,h2,fun hn=>?_⟩
 have hne:k≠[]:=fun e=>by rw [e] at hn;exact hn rfl
 obtain⟨g,cur,rfl,hg,_,_,h0⟩:=h3 hne
 refine⟨g,0,rfl,fun j hj=>?_⟩
 obtain⟨ha,hb,a,_,b,_,e,f⟩:=RwF.at h h0 hj
 simp only [Nat.zero_add]
 exact⟨⟨ha,a,e.mu.mono fun b h=>h.1⟩,hb,b,RwE.mu f fun _ _ _ h=>h.mu.mono fun b h=>h.1⟩
theorem KO.dat {D:Nat->Nat->Prop} {base:Nat} {w:World} {u:Value} {k:List Fg} (h:KO base w u k) (hD:∀ b o,base<=b->b<w.heap.size->D b o):Dat D w u (kp k):=by
 obtain⟨ad,cap,rfl,h1,h2,h3⟩:=RwF.shape h
 have hlen:(k.map fc).length=k.length:=List.length_map _
 unfold kp
 by_cases hne:k=[]
 ·subst hne
  exact .sl ad cap 2 [] .sh 0 0 (fun _=>undef) (Nat.zero_le _) (fun h=>by cases h) h2 (fun h=>absurd rfl h) (fun i e h=>by simp at h) (fun j h=>by simp at h) (fun i e j p h=>by simp at h)
 obtain⟨g,cur,rfl,hg,hgl,_,h0⟩:=h3 hne
 have hcell:∀ i (hi:i<k.length) j p,(fc k[i])[j]? = some p->∃ x,w.cell? ⟨g,i * 2+j,none⟩=some x/\Dat D w x p/\x.oneCell'=true:=fun i hi j p hp=>by
  obtain⟨ha,hb,a,_,b,_,c,d⟩:=RwF.at h h0 hi
  match j,hp with
  | 0,hp=>
    cases hp
    have hd:=jp (D:=D) c.rd fun b o h1 h2=>hD b o h1 h2
    exact⟨_,a,hd,Ki hd⟩
  | 1,hp=>
    cases hp
    have hd:=RwE.dat (D:=D) d (fun i e hv h=>jp h.rd fun b o h1 h2=>hD b o h1 h2) fun b o h1 h2=>hD b o h1 h2
    obtain⟨a',c',e⟩:=d.shape
    exact⟨_,b,hd,by rw [e];rfl⟩
  | j+2,hp=>simp [fc] at hp
 rw [<-hlen]
 refine .sl (some ⟨g,0,none⟩) cap 2 (k.map fc) .sh g 0 (fun j=>(w.cell? ⟨g,j,none⟩).getD undef) (by rw [hlen];exact h1) (fun h=>by cases h) h2 (fun _=>rfl) (fun i e he=>?_) (fun j hj=>?_) (fun i e j p he hp=>?_)
 ·rw [List.getElem?_map] at he
  obtain⟨x,_,rfl⟩:=Option.map_eq_some_iff.1 he
  rfl
 ·rw [hlen] at hj
  have hi:j / 2<k.length:=by omega
  have h3':j % 2<(fc k[j / 2]).length:=Nat.mod_lt _ (by decide)
  obtain⟨x,hx,_,ho⟩:=hcell (j / 2) hi (j % 2) ((fc k[j / 2])[j % 2]) (List.getElem?_eq_getElem h3')
  rw [show j / 2 * 2+j % 2=j by omega] at hx
  simp only [Nat.zero_add,hx,Option.getD_some]
  exact⟨hD _ _ hg hgl,trivial,ho⟩
 ·rw [List.getElem?_map] at he
  obtain⟨x,hx,rfl⟩:=Option.map_eq_some_iff.1 he
  obtain⟨hi,rfl⟩:=List.getElem?_eq_some_iff.1 hx
  obtain⟨y,hy,hd,_⟩:=hcell i hi j p hp
  simp only [Nat.zero_add,hy,Option.getD_some]
  exact hd
theorem zss {D:Nat->Nat->Prop} {w:World} {x:Value} {v:List En} (h:Dat D w x (vp v)):∃ a c,x=.slice a v.length c:=by
 obtain⟨⟨a,n,c⟩,rfl,e⟩:=kH h
 simp only [List.length_map] at e
 subst e
 exact⟨a,c,rfl⟩
theorem zrM {D:Nat->Nat->Prop} {w:World} {x:Value} (k:List Fg) (d:Dat D w x (kp k)) (hD:∀ b o,D b o->b<w.heap.size) (hb:∀ f ∈ k,(∀ s ∈ f.items,s.lo<zk/\s.hi<zk)/\∀ e ∈ f.vec,ZL e) (hl:k.length<=1000000) (hz:∀ f ∈ k,f.items.length<=1000000/\f.vec.length<=1000000/\∀ e ∈ f.vec,e.holes.length<=1000000) :
 Calls Tryz.prog 15 #[x] w fun e w'=>∃ u,e=.returned u/\Below w.heap.size w w'/\KO w.heap.size w' u k:=by
 have hcl:=zry (es:=k.map fc) d (fun e he=>by obtain⟨x,_,rfl⟩:=List.mem_map.1 he;rfl) (by rw [List.length_map];omega)
 obtain⟨aa,ca,fs,rfl,hla,hrow,hfs⟩:=kX d hD
 have hca:=hrow.1
 have hcam:=hrow.2.1
 unfold maxLen at hcam
 rw [hla] at hca
 have HCL:=Lib.hid hcl
 have HROW:=Lib.hid hrow
 have HFS:=Lib.hid hfs
 have HDD:=Lib.hid hD
 have HB:=Lib.hid hb
 have HZ:=Lib.hid hz
 have mixed:Tryz.prog.follows .mixedOrders=true:=by kernel_rfl
 clear hcl d hD hb hz hrow hfs
 go_enter Tryz.func15,Tryz.ntmps15
 go_upto_region 2 with(go_at_call 58;refine HCL.out.mono ?_;rintro e w1 ⟨u,xs,rfl,hb1,ho1,hx1⟩)
 have hrw:RwF w.heap.size w1 u k (fun _ _ _ _=>True):=by
  refine⟨xs,by rw [List.length_map] at ho1;exact ho1,fun i hi=>?_⟩
  have he:(k.map fc)[i]? = some (fc k[i]):=by rw [List.getElem?_map,List.getElem?_eq_getElem hi];rfl
  obtain⟨x0,a0,_⟩:=hx1 i _ 0 _ he rfl
  obtain⟨x1,a1,_⟩:=hx1 i _ 1 _ he rfl
  exact⟨x0,x1,a0,a1,trivial⟩
 obtain⟨ad,cap,rfl,hcap,hcm,hrg⟩:=hrw.shape
 unfold maxLen at hcm
 have HRW:=Lib.hid hrw
 have HB1:=Lib.hid hb1
 have HRG:=Lib.hid hrg
 have hsz1:=hb1.size
 clear hrw ho1 hx1 hb1 hrg
 go_wp2_with fail
 go_loopg [10] k.length (fun gh x wr=>∃ j,j<=k.length/\gh=k.length - j/\x=.int .i64 j/\RwF w.heap.size wr (.slice ad k.length cap) k (fun i f a b=>i<j->OwnR w1.heap.size wr a f.items/\VO w1.heap.size wr b f.vec)/\Below w.heap.size w wr/\w1.heap.size<=wr.heap.size)
 case atStart=>exact⟨0,Nat.zero_le _,rfl,rfl,HRW.out.imp fun i f a b _ _=>fun h0=>absurd h0 (Nat.not_lt_zero _),HB1.out,Nat.le_refl _⟩
 case round=>
  obtain⟨j,hj,rfl,rfl,hrw,hbr,hsr⟩:=hrel
  have HR:=Lib.hid hrw
  have HBR:=Lib.hid hbr
  by_cases hlt:j<k.length
  ·obtain⟨g,cur,rfl,hg,hgl,_,h0⟩:=HRG.out (by intro e;subst e;simp at hlt)
   have hltf:j<fs.length:=by omega
   obtain⟨bb,off,rfl,hbn,hcel⟩:=HROW.out.2.2 (by intro e;subst e;simp at hltf)
   obtain⟨c0,c1⟩:=hcel j hltf
   obtain⟨d0,d1⟩:=HFS.out j hltf
   replace c0:=(hbr.cell (p:=⟨bb,off+j * 2,none⟩) hbn).trans c0
   replace c1:=(hbr.cell (p:=⟨bb,off+j * 2+1,none⟩) hbn).trans c1
   have hfm:=List.getElem_mem hlt
   have hbf:=HB.out _ hfm
   have hzf:=HZ.out _ hfm
   obtain⟨f,hf⟩:∃ f,f=k[j]:=⟨_,rfl⟩
   obtain⟨q,hq⟩:∃ q,q=fs[j]:=⟨_,rfl⟩
   rw [<-hf] at d0 d1 hbf hzf
   rw [<-hq] at d0 d1 c0 c1
   obtain⟨af,cf,e0⟩:=zK d0
   obtain⟨av,cv,e1⟩:=zss d1
   rw [e0] at c0 d0
   rw [e1] at c1 d1
   have HF:=Lib.hid hf
   clear hq e0 e1 hf hfm hcel
   obtain⟨wb,hwb⟩:∃ wb,wb=wr.alloc (.cells #[.slice af f.items.length cf,.slice av f.vec.length cv] 34):=⟨_,rfl⟩
   have hxb:wb.heap[wr.heap.size]? = some (.cells #[.slice af f.items.length cf,.slice av f.vec.length cv] 34 (0,0)):=by rw [hwb];exact World.alloc_heap_new wr _
   have hbb:Below wr.heap.size wr wb:=by rw [hwb];exact(Below.refl _ wr).alloc (Nat.le_refl _) _
   have hsb:wb.heap.size=wr.heap.size+1:=by rw [hwb];simp
   have hBW:∀ W,Below wb.heap.size wb W->Below w.heap.size w W:=fun W hW=>hbr.trans ((hbb.mono (by omega)).trans (hW.mono (by omega)))
   have hw:∀ W,Below wb.heap.size wb W->∀ b o x,D b o->w.cell? ⟨b,o,none⟩=some x->W.cell? ⟨b,o,none⟩=some x:=fun W hW b o x h hx=>(World.cell?_of_block (a:=⟨b,o,none⟩) ((hBW W hW).block b (HDD.out b o h))).trans hx
   have hD1:∀ W,Below wb.heap.size wb W->∀ b o,D b o->b<W.heap.size:=fun W hW b o h=>Nat.lt_of_lt_of_le (HDD.out b o h) (hBW W hW).size
   have HC1:=Lib.hid (fun W (hW:Below wb.heap.size wb W)=>zeX (je (d0.mono (fun _ _ h=>h) (hw W hW)) (hD1 W hW) hbf.1) (by omega))
   have HC2:=Lib.hid (fun W (hW:Below wb.heap.size wb W)=>zq3 f.vec (d1.mono (fun _ _ h=>h) (hw W hW)) (hD1 W hW) hbf.2 (by omega) fun e he=>by have:=hzf.2.2 e he;omega)
   have HXB:=Lib.hid hxb
   have HBB:=Lib.hid hbb
   have g0:=(zW hxb 0 _ rfl).1
   have g1:=(zW hxb 1 _ rfl).1
   clear d0 d1 hxb hbb hBW hw hD1 hbf hzf hrw hbr
   go_wp2_with fail
   rw [<-hwb]
   have hc1:Below wb.heap.size wb wb.drew:=(Below.refl _ _).drew
   clear hwb
   refine Kg (Sw:=qe) 9 27 (fun w9=>Below wb.heap.size wb w9/\w9.cell? ⟨wr.heap.size,0,none⟩=some (.slice af f.items.length cf)/\w9.cell? ⟨wr.heap.size,1,none⟩=some (.slice av f.vec.length cv)) (by kernel_rfl) (by kernel_rfl) rfl ⟨hc1,g0,g1⟩ ?_
   simp only [List.take_succ_cons,List.take_zero]
   refine Jz ?_
   refine V7 (fun u w9=>∃ au cu,u=.slice au f.items.length cu/\OwnR wb.heap.size w9 u f.items) (fun u wa wb h hk=>by obtain⟨au,cu,e,h⟩:=h;exact⟨au,cu,e,h.keep hk fun _ _=>id⟩) rfl ?_ ?_
   ·intro a2 w2 hc hk hr K hK
    have HK:=Lib.hid hK
    clear hK
    simp [Rds,zA,lk,Op.operands,Call.operands,RdEq] at hr
    go_simp
    refine(HC1.out _ hc.1).mono ?_
    rintro e w3 ⟨u,rfl,ho,hb⟩
    obtain⟨au,cu,rfl⟩:=ho.val
    have hkb:Keep qe _ w3:=Keep.of_below' hb (Nat.le_refl _)
    exact HK.out _ _ hkb ⟨hc.1.trans (hb.mono hc.1.size),hkb.cell_some hc.2.1 id,hkb.cell_some hc.2.2 id⟩ ⟨au,cu,rfl,ho.mono hc.1.size⟩
   dsimp only [List.nil_append,List.cons_append]
   refine Jz ?_
   refine V7 (fun u w9=>∃ au cu,u=.slice au f.vec.length cu/\VO wb.heap.size w9 u f.vec) (fun u wa wb h hk=>by obtain⟨au,cu,e,h⟩:=h;exact⟨au,cu,e,h.keep hk fun _ _=>id⟩) rfl ?_ ?_
   ·intro a2 w2 hc hk hr K hK
    have HK:=Lib.hid hK
    clear hK
    simp [Rds,zA,lk,Op.operands,Call.operands,RdEq] at hr
    go_simp
    refine(HC2.out _ hc.1).mono ?_
    rintro e w3 ⟨u,rfl,hb,ho⟩
    have ho:VO _ w3 u f.vec:=ho
    obtain⟨au,cu,rfl⟩:=ho.shape
    have hkb:Keep qe _ w3:=Keep.of_below' hb (Nat.le_refl _)
    exact HK.out _ _ hkb ⟨hc.1.trans (hb.mono hc.1.size),hkb.cell_some hc.2.1 id,hkb.cell_some hc.2.2 id⟩ ⟨au,cu,rfl,ho.mono hc.1.size⟩
   dsimp only [List.nil_append,List.cons_append]
   refine Jz ?_
   refine V7 (fun u w9=>∃ a1 n1 a2 n2,u=.agg #[.slice a1 f.items.length n1,.slice a2 f.vec.length n2]/\OwnR wb.heap.size w9 (.slice a1 f.items.length n1) f.items/\VO wb.heap.size w9 (.slice a2 f.vec.length n2) f.vec) (fun u wa wb h hk=>by obtain⟨a1,n1,a2,n2,e,h,h'⟩:=h;exact⟨a1,n1,a2,n2,e,h.keep hk fun _ _=>id,h'.keep hk fun _ _=>id⟩) rfl ?_ ?_
   ·intro a2 w2 hc hk hr K hK
    have HK:=Lib.hid hK
    clear hK
    simp [Rds,zA,lk,Op.operands,Call.operands,RdEq] at hr
    obtain⟨⟨_,⟨e1,e2⟩,⟨au,cu,rfl⟩,ho⟩,_,⟨e3,e4⟩,⟨aw,cw,rfl⟩,hv⟩:=hr
    go_simp
    exact HK.out _ _ (Keep.refl _ _) hc ⟨au,cu,aw,cw,rfl,ho,hv⟩
   dsimp only [List.nil_append,List.cons_append]
   intro w2 hc2 hk2
   simp only [finG,forall_eq,List.nil_append,List.cons_append,List.drop_succ_cons,List.drop_zero,List.drop_nil]
   simp only [Act.put,List.setIfInBounds_toArray,List.set_cons_succ,List.set_cons_zero]
   rintro _ ⟨_,_,rfl,_⟩ _ ⟨_,_,rfl,_⟩ _ ⟨a1,n1,a2,n2,rfl,hu,hv⟩
   have HU:=Lib.hid hu
   have HV:=Lib.hid hv
   have HCB:=Lib.hid hc2.1
   have hsz2:=hc2.1.size
   have hrw2:=HR.out.keep (w':=w2) (fun b hb=>(HCB.out.block b (by omega)).trans (HBB.out.block b hb))
   obtain⟨xa,xb,cia,fia,cib,fib,_⟩:=hrw2.at h0 hlt
   have HR2:=Lib.hid hrw2
   clear hu hv hc2 hk2 hc1 hrw2 g0 g1 c0 c1
   go_wp2_with fail
   go_roundg (k.length - (j+1))
   case measure=>omega
   case rel=>
    have hS:∀ x,w1.heap.size<=x->¬ x=g:=fun x hx e=>by omega
    refine⟨j+1,hlt,rfl,by simp,HR2.out.set (fun i hi a b hne hx hij=>?_) hlt (fun _=>?_),?_,by simp;omega⟩
    ·have hkk:=(((Keep.of_below' (S:=fun x=>x=g) HBB.out (Nat.le_refl _)).trans (Keep.of_below' HCB.out (Nat.le_refl _))).setCell (p:=⟨g,j * 2,none⟩) (fun _=>rfl) (.slice a1 f.items.length n1)).setCell (p:=⟨g,j * 2+1,none⟩) (fun _=>rfl) (.slice a2 f.vec.length n2)
     obtain⟨h1,h2⟩:=hx (by omega)
     exact⟨h1.keep hkk hS,h2.keep hkk hS⟩
    ·have hkk:=((Keep.refl (fun x=>x=g) w2).setCell (p:=⟨g,j * 2,none⟩) (fun _=>rfl) (.slice a1 f.items.length n1)).setCell (p:=⟨g,j * 2+1,none⟩) (fun _=>rfl) (.slice a2 f.vec.length n2)
     rw [<-HF.out]
     exact⟨(HU.out.mono (by omega)).keep hkk hS,(HV.out.mono (by omega)).keep hkk hS⟩
    ·exact Below.setCell (Below.setCell (HBR.out.trans ((HBB.out.mono (by omega)).trans (HCB.out.mono (by omega)))) (by show w.heap.size<=g;omega) _) (by show w.heap.size<=g;omega) _
  ·obtain rfl:j=k.length:=by omega
   go_wp2_with fail
   refine bodyPost_ret (results_tmp rfl _ _ _) rfl ?_
   exact⟨_,rfl,HBR.out,HR.out.imp fun i f a b hi hx=>⟨(hx hi).1.mono (by omega),(hx hi).2.mono (by omega)⟩⟩
theorem zrv {D:Nat->Nat->Prop} {w:World} {x:Value} (k:List Fg) (i0:Nat) (d:Dat D w x (kp k)) (hD:∀ b o,D b o->b<w.heap.size) (hG:GL D w) (hb:BdK k):Calls Tryz.prog 3 #[x,.int .u64 (i0:Nat)] w fun e w'=>e=.returned (.bool true)/\Below w.heap.size w w':=by
 have hat:∀ W,Below w.heap.size w W->Dat D W x (kp k)/\GL D W/\∀ b o,D b o->b<W.heap.size:=fun W hW=>by
  have hw:∀ b o x,D b o->w.cell? ⟨b,o,none⟩=some x->W.cell? ⟨b,o,none⟩=some x:=fun b o x h hx=>(World.cell?_of_block (a:=⟨b,o,none⟩) (hW.block b (hD b o h))).trans hx
  exact⟨d.mono (fun _ _ h=>h) hw,hG.mono (fun _ _ h=>h) hw,fun b o h=>Nat.lt_of_lt_of_le (hD b o h) hW.size⟩
 obtain⟨ax,cx,_,rfl,_⟩:=kX d hD
 have hfew:Calls Tryz.prog 13 #[.slice ax k.length cx] w fun e w'=>e=.returned (.bool (vx k))/\Below w.heap.size w w':=
  zS (zc8 k hb) hG hD rfl fun i p hp=>by
   match i,hp with
   | 0,hp=>cases hp;exact d
   | i+1,hp=>simp at hp
 have hal:∀ W,Below w.heap.size w W->Calls Tryz.prog 14 #[] W fun e w'=>e=.returned (.bool true)/\Below W.heap.size W w':=fun W hW=>
  zS zrq (hat W hW).2.1 (hat W hW).2.2 rfl fun i p hp=>by simp at hp
 have HAT:=Lib.hid hat
 have HAL:=Lib.hid hal
 clear hat hal d hD hG
 cases hf:vx k with
 | false=>
   rw [hf] at hfew
   have HF:=Lib.hid hfew
   clear hfew hf
   go_enter Tryz.func3,Tryz.ntmps3
   go_wp2_with (first
    | (go_at_call 13;refine HF.out.mono ?_;rintro e w1 ⟨rfl,hb1⟩)
    | (go_at_call 14;refine(HAL.out _ hb1).mono ?_;rintro e w2 ⟨rfl,hb2⟩))
   go_ret
   exact⟨rfl,hb1.trans (hb2.mono hb1.size)⟩
 | true=>
   rw [hf] at hfew
   have hg:=zcS hf
   have hs:=X3 hf
   have hcl:∀ W,Below w.heap.size w W->Calls Tryz.prog 15 #[.slice ax k.length cx] W fun e w'=>∃ u,e=.returned u/\Below W.heap.size W w'/\KO W.heap.size w' u k:=fun W hW=>
    zrM k (HAT.out W hW).1 (HAT.out W hW).2.2 (fun f hf=>⟨(hb.1 f hf).1,(hb.1 f hf).2.1⟩) (by omega) fun f hf=>by
     have h:=hs.2 f hf
     exact⟨by omega,by omega,fun e he=>by have:=h.2.2 e he;omega⟩
   have hsame:∀(W:World) (u:Value) (m n:Nat),Below w.heap.size w W->n<=W.heap.size->Dat (fun b _=>m<=b/\b<n) W u (kp k)->Calls Tryz.prog 16 #[u,.slice ax k.length cx] W fun e w'=>e=.returned (.bool true)/\Below W.heap.size W w':=fun W u m n hW hn hu=>by
    have hc:=zfq k k hg
    rw [decide_eq_true rfl] at hc
    refine zS hc (D:=fun b o=>D b o\/(m<=b/\b<n)) ((HAT.out W hW).2.1.mono (fun _ _ h=>.inl h) fun _ _ _ _ h=>h) (fun b o h=>h.elim ((HAT.out W hW).2.2 b o) fun h=>Nat.lt_of_lt_of_le h.2 hn) rfl fun i p hp=>?_
    match i,hp with
    | 0,hp=>cases hp;exact hu.mono (fun _ _ h=>.inr h) fun _ _ _ _ h=>h
    | 1,hp=>cases hp;exact(HAT.out W hW).1.mono (fun _ _ h=>.inl h) fun _ _ _ _ h=>h
    | i+2,hp=>simp at hp
   have hrt:∀ W,Below w.heap.size w W->Calls Tryz.prog 17 #[.slice ax k.length cx] W fun e w'=>e=.returned (.bool (decide ((ckK k).1=0)))/\Below W.heap.size W w':=fun W hW=>
    zS (Vm k hb hg) (HAT.out W hW).2.1 (HAT.out W hW).2.2 rfl fun i p hp=>by
     match i,hp with
     | 0,hp=>cases hp;exact(HAT.out W hW).1
     | i+1,hp=>simp at hp
   have hka:(ckK k).1=0->∀(W:World) (u:Value) (m n:Nat),Below w.heap.size w W->n<=W.heap.size->Dat (fun b _=>m<=b/\b<n) W u (kp k)->Calls Tryz.prog 18 #[u,.int .u64 (i0:Nat)] W fun e w'=>∃ v,e=.returned v/\Below W.heap.size W w'/\MuE (W.heap.size<=·) w' v:=fun h0 W u m n hW hn hu=>by
    have hr:=(ZN hb).1 h0
    exact zsk k i0 hr.ik (zrk hf hr) hr (fun f hm=>zfh hf hr hm) hg (D:=fun b o=>D b o\/(m<=b/\b<n)) ((HAT.out W hW).2.1.mono (fun _ _ h=>.inl h) fun _ _ _ _ h=>h) (fun b o h=>h.elim ((HAT.out W hW).2.2 b o) fun h=>Nat.lt_of_lt_of_le h.2 hn) (hu.mono (fun _ _ h=>.inr h) fun _ _ _ _ h=>h)
   have hki:(ckK k).1=0->∀(W:World) (u:Value) (m n:Nat),Below w.heap.size w W->n<=W.heap.size->Dat (fun b _=>m<=b/\b<n) W u (kp k)->Calls Tryz.prog 19 #[u] W fun e w'=>∃ v,e=.returned v/\Below W.heap.size W w'/\MuI (W.heap.size<=·) w' v:=fun h0 W u m n hW hn hu=>by
    have hr:=(ZN hb).1 h0
    have hl:=X4 hf hr
    exact zrI k hr hg (fun f hm=>by have:=(hs.2 f hm).1;omega) (by omega) (D:=fun b o=>D b o\/(m<=b/\b<n)) ((HAT.out W hW).2.1.mono (fun _ _ h=>.inl h) fun _ _ _ _ h=>h) (fun b o h=>h.elim ((HAT.out W hW).2.2 b o) fun h=>Nat.lt_of_lt_of_le h.2 hn) (hu.mono (fun _ _ h=>.inr h) fun _ _ _ _ h=>h)
   have HF:=Lib.hid hfew
   have HCL:=Lib.hid hcl
   have HSM:=Lib.hid hsame
   have HRT:=Lib.hid hrt
   have HKA:=Lib.hid hka
   have HKI:=Lib.hid hki
   clear hfew hf hcl hsame hrt hka hki hb hg hs
   have tokA:True:=trivial
   have tokB:True:=trivial
   have tokC:True:=trivial
   go_enter Tryz.func3,Tryz.ntmps3
   go_upto_region 6 with(first
    | (go_at_call 13;refine HF.out.mono ?_;rintro e w1 ⟨rfl,hb1⟩;have HB1:=Lib.hid hb1;clear hb1)
    | (go_at_call 15;have _t:=tokA;refine(HCL.out _ HB1.out).mono ?_;rintro e w2 ⟨u2,rfl,hb2,hr2⟩;obtain⟨a2,c2,rfl,hc2,hm2,_⟩:=RwF.shape hr2;have HR2:=Lib.hid hr2;have HB12:=Lib.hid hb2;have HB2:=Lib.hid (HB1.out.trans (hb2.mono HB1.out.size));clear hb2 hr2 tokA)
    | (go_at_call 15;have _t:=tokB;refine(HCL.out _ HB2.out).mono ?_;rintro e w3 ⟨u3,rfl,hb3,hr3⟩;obtain⟨a3,c3,rfl,hc3,hm3,_⟩:=RwF.shape hr3;have HR3:=Lib.hid hr3;have HB23:=Lib.hid hb3;have HB3:=Lib.hid (HB2.out.trans (hb3.mono HB2.out.size));clear hb3 hr3 tokB)
    | (go_at_call 16;have _t:=tokC
       refine(HSM.out _ (.slice a2 k.length c2) w1.heap.size w2.heap.size HB3.out HB23.out.size (KO.dat (D:=fun b _=>w1.heap.size<=b/\b<w2.heap.size) HR2.out (fun b o h1 h2=>⟨h1,h2⟩) |>.mono (fun _ _ h=>h) fun b o x h hx=>(World.cell?_of_block (a:=⟨b,o,none⟩) (HB23.out.block b h.2)).trans hx)).mono ?_
       rintro e w4 ⟨rfl,hb4⟩
       have HB34:=Lib.hid hb4
       have HB4:=Lib.hid (HB3.out.trans (hb4.mono HB3.out.size))
       clear hb4 tokC))
   have hmu:MuF (fun b=>w1.heap.size<=b/\b<w2.heap.size) w4 (.slice a2 k.length c2):=(KO.mu HR2.out).lt.kd (Kd.of_below (HB23.out.trans (HB34.out.mono HB23.out.size)) (base:=w1.heap.size) HB12.out.size)
   have hd3:∀ W,(∀ j,w2.heap.size<=j->j<w3.heap.size->W.heap[j]? = w3.heap[j]?)->Dat (fun b _=>w2.heap.size<=b/\b<w3.heap.size) W (.slice a3 k.length c3) (kp k):=fun W hW=>
    (KO.dat (D:=fun b _=>w2.heap.size<=b/\b<w3.heap.size) HR3.out fun b o h1 h2=>⟨h1,h2⟩).mono (fun _ _ h=>h) fun b o x h hx=>(World.cell?_of_block (a:=⟨b,o,none⟩) (hW b h.1 h.2)).trans hx
   have hp4:Pw w w3 w2.heap.size w3.heap.size w4:=⟨HB4.out,fun j _ h=>HB34.out.block j h,HB34.out.size⟩
   have hA:w.heap.size<=w1.heap.size:=HB1.out.size
   have hA2:w.heap.size<=w2.heap.size:=HB2.out.size
   have hN:w2.heap.size<=w3.heap.size:=HB23.out.size
   clear HB1 HB12 HB2 HB23 HB3 HB34 HB4 HR2 HR3
   unfold maxLen at hm2 hm3
   obtain⟨A,hAe⟩:∃ A,w1.heap.size=A:=⟨_,rfl⟩
   obtain⟨M,hMe⟩:∃ M,w2.heap.size=M:=⟨_,rfl⟩
   obtain⟨N,hNe⟩:∃ N,w3.heap.size=N:=⟨_,rfl⟩
   rw [hAe] at hmu hA
   rw [hMe] at hmu hd3 hp4 hA2 hN
   rw [hNe] at hd3 hp4 hN
   have HM:=Lib.hid hmu
   have HD3:=Lib.hid hd3
   have HP4:=Lib.hid hp4
   clear hmu hd3 hp4 hAe hMe hNe
   obtain⟨n,hn⟩:∃ n,n=k.length:=⟨_,rfl⟩
   have HND:=Lib.hid hn
   go_wp2_with fail
   go_loopg [30] k.length (fun g x wr=>∃ i:Nat,x=.int .i64 i/\i<=k.length/\g=k.length - i/\Jd A M w4 wr)
   case atStart=>exact⟨0,rfl,Nat.zero_le _,rfl,Jd.refl _ _ _⟩
   case round=>
    obtain⟨i,rfl,hi,rfl,hk⟩:=hrel
    have HK:=Lib.hid hk
    clear hk
    by_cases hlt:i<k.length
    ·obtain⟨b,off,ai,li,ci,av,lv,cv,rfl,s0,hl1,hl2,hmi,s1,hl3,hl4,hme⟩:=zsm (HM.out.kd HK.out.1) hlt
     obtain⟨wz,hwz⟩:∃ wz,wz=wr:=⟨wr,rfl⟩
     subst hwz
     have HS0:=Lib.hid s0
     have HS1:=Lib.hid s1
     have HMI:=Lib.hid hmi
     have HME:=Lib.hid hme
     clear s1 hmi hme
     go_wp2_with fail
     clear s0
     go_loopg [39] li (fun g x wl=>∃ j:Nat,x=.int .i64 j/\j<=li/\g=li - j/\Jd A M wz wl)
     case atStart=>exact⟨0,rfl,Nat.zero_le _,rfl,Jd.refl _ _ _⟩
     case round=>
      obtain⟨j,rfl,hj,rfl,hkl⟩:=hrel
      have HKL:=Lib.hid hkl
      clear hkl
      by_cases hjl:j<li
      ·obtain⟨bh,oh,n0,n1,rfl,hbh,t0,f0,t1,f1⟩:=zrm (HMI.out.kd HKL.out.1) hjl
       have s0:=HKL.out.1.keep HS0.out (by intro m e;cases e)
       go_wp2
       go_roundg (li - (j+1))
       case measure=>omega
       case rel=>exact⟨j+1,rfl,by omega,rfl,HKL.out.set hbh t0 _⟩
      ·obtain⟨wy,hwy⟩:∃ wy,wy=wr:=⟨wr,rfl⟩
       subst hwy
       have s1:=HKL.out.1.keep HS1.out (by intro m e;cases e)
       go_wp2_with fail
       clear s1
       go_loopg [61] lv (fun g x wl=>∃ m:Nat,x=.int .i64 m/\m<=lv/\g=lv - m/\Jd A M wz wl)
       case atStart=>exact⟨0,rfl,Nat.zero_le _,rfl,HKL.out⟩
       case round=>
        clear HKL
        obtain⟨m,rfl,hm,rfl,hkm⟩:=hrel
        have HKM:=Lib.hid hkm
        clear hkm
        by_cases hml:m<lv
        ·obtain⟨bv,ov,m0,m1,ah,lh,ch,rfl,hb0,s0,f0,s1,f1,s2,hl5,hl6,hmh⟩:=vj (HME.out.kd HKM.out.1) hml
         have sv1:=HKM.out.1.keep HS1.out (by intro m e;cases e)
         obtain⟨wx,hwx⟩:∃ wx,wx=wr:=⟨wr,rfl⟩
         subst hwx
         go_upto_region 18 with fail
         refine wp_some (R:=Jd A M wz) (HKM.out.set hb0 s1 _) ?_
         clear HKM s0 f0 s1 f1 s2 hl5 hl6 hmh hb0 sv1
         intro wo hko
         obtain⟨b',off',m0,m1,ah,lh,ch,hbo,hb0,s0,f0,s1,f1,s2,hl5,hl6,hmh⟩:=vj (HME.out.kd hko.1) hml
         cases hbo
         have sv1:=hko.1.keep HS1.out (by intro m e;cases e)
         have HSV:=Lib.hid sv1
         have HS2:=Lib.hid s2
         have HMH:=Lib.hid hmh
         have HK5:=Lib.hid hko
         clear s0 f0 s1 f1 hko hmh hb0
         go_wp2_with fail
         clear s2 sv1
         go_loopg [86] lh (fun g x wl=>∃ h:Nat,x=.int .i64 h/\h<=lh/\g=lh - h/\Jd A M wo wl)
         case atStart=>exact⟨0,rfl,Nat.zero_le _,rfl,Jd.refl _ _ _⟩
         case round=>
          obtain⟨h,rfl,hh,rfl,hkh⟩:=hrel
          have HKH:=Lib.hid hkh
          clear hkh
          by_cases hhl:h<lh
          ·obtain⟨bh,oh,n0,n1,rfl,hbh,t0,f0,t1,f1⟩:=zrm (HMH.out.kd HKH.out.1) hhl
           have s2:=HKH.out.1.keep HS2.out (by intro m e;cases e)
           have sv1:=HKH.out.1.keep HSV.out (by intro m e;cases e)
           go_wp2
           go_roundg (lh - (h+1))
           case measure=>omega
           case rel=>exact⟨h+1,rfl,by omega,rfl,HKH.out.set hbh t1 _⟩
          ·go_wp2_with fail
           go_roundg (lv - (m+1))
           case measure=>omega
           case rel=>exact⟨m+1,rfl,by omega,rfl,HK5.out.trans HKH.out⟩
        ·go_wp2_with fail
         go_roundg (k.length - (i+1))
         case measure=>omega
         case rel=>exact⟨i+1,rfl,by omega,rfl,HK.out.trans HKM.out⟩
    ·obtain⟨wp,hwp⟩:∃ wp,wp=wr:=⟨wr,rfl⟩
     subst hwp
     have HPp:=Lib.hid (HP4.out.jd HK.out hA)
     clear HM HK
     obtain⟨ok,hok⟩:∃ ok,ok=decide ((ckK k).1=0):=⟨_,rfl⟩
     rw [<-hok] at HRT
     have HOK:=Lib.hid hok
     clear hok hn
     have tokD:True:=trivial
     have tokE:True:=trivial
     have tokF:True:=trivial
     have tokG:True:=trivial
     cases ok with
     | false=>
       go_wp2_with (first
        | (go_at_call 17;have _t:=tokD;refine(HRT.out _ HPp.out.1).mono ?_;rintro e w7 ⟨rfl,hb7⟩;have HP7:=Lib.hid (HPp.out.below hb7);clear hb7 tokD)
        | (go_at_call 14;have _t:=tokE;refine(HAL.out _ HP7.out.1).mono ?_;rintro e w8 ⟨rfl,hb8⟩;have HP8:=Lib.hid (HP7.out.below hb8);clear hb8 tokE)
        | (go_at_call 16;have _t:=tokF;refine(HSM.out _ (.slice a3 k.length c3) M N HP8.out.1 HP8.out.2.2 (HD3.out _ HP8.out.2.1)).mono ?_;rintro e w9 ⟨rfl,hb9⟩;have HP9:=Lib.hid (HP8.out.below hb9);clear hb9 tokF))
       go_ret
       exact⟨rfl,HP9.out.1⟩
     | true=>
       have HK0:=Lib.hid (show (ckK k).1=0 from of_decide_eq_true HOK.out.symm)
       clear HOK
       go_upto_region 27 with(first
        | (go_at_call 17;have _t:=tokD;refine(HRT.out _ HPp.out.1).mono ?_;rintro e w7 ⟨rfl,hb7⟩;have HP7:=Lib.hid (HPp.out.below hb7);clear hb7 tokD)
        | (go_at_call 18;have _t:=tokE;refine(HKA.out HK0.out _ (.slice a3 k.length c3) M N HP7.out.1 HP7.out.2.2 (HD3.out _ HP7.out.2.1)).mono ?_;rintro e w8 ⟨u8,rfl,hb8,hmu8⟩;have HP8:=Lib.hid (HP7.out.below hb8);clear hb8 tokE))
       have hB8:w.heap.size<=w7.heap.size:=HP7.out.1.size
       have hN8:N<=w7.heap.size:=HP7.out.2.2
       obtain⟨B8,hBe⟩:∃ B8,w7.heap.size=B8:=⟨_,rfl⟩
       rw [hBe] at hmu8 hB8 hN8
       clear hBe
       have hmu2:=hmu8
       obtain⟨n8,a8,c8,rfl,hn8,hm8,_⟩:=hmu2
       unfold maxLen at hm8
       have HM:=Lib.hid hmu8
       clear hmu8
       go_wp2_with fail
       go_loopg [115] n8 (fun g x wr=>∃ i:Nat,x=.int .i64 i/\i<=n8/\g=n8 - i/\Kd B8 w8 wr)
       case atStart=>exact⟨0,rfl,Nat.zero_le _,rfl,Kd.refl _ _⟩
       case round=>
        obtain⟨i,rfl,hi,rfl,hk⟩:=hrel
        have HK:=Lib.hid hk
        clear hk
        by_cases hlt8:i<n8
        ·obtain⟨b,off,m0,m1,ah,lh,ch,rfl,hb0,s0,f0,s1,f1,s2,hl1,hl2,hmi⟩:=vj (HM.out.kd HK.out) hlt8
         obtain⟨wz,hwz⟩:∃ wz,wz=wr:=⟨wr,rfl⟩
         subst hwz
         have HI:=Lib.hid hmi
         have HS2:=Lib.hid s2
         clear s0 f0 s1 f1 hmi hb0
         go_wp2_with fail
         clear s2
         go_loopg [124] lh (fun g x wl=>∃ j:Nat,x=.int .i64 j/\j<=lh/\g=lh - j/\Kd B8 wz wl)
         case atStart=>exact⟨0,rfl,Nat.zero_le _,rfl,Kd.refl _ _⟩
         case round=>
          obtain⟨j,rfl,hj,rfl,hkl⟩:=hrel
          have HKL:=Lib.hid hkl
          by_cases hjl:j<lh
          ·obtain⟨bh,oh,n0,n1,rfl,hbh,t0,f0,t1,f1⟩:=zrm (HI.out.kd hkl) hjl
           have s2:=hkl.keep HS2.out (by intro m e;cases e)
           clear hkl
           go_wp2
           go_roundg (lh - (j+1))
           case measure=>omega
           case rel=>exact⟨j+1,rfl,by omega,rfl,HKL.out.set hbh t0 _⟩
          ·clear hkl
           go_wp2_with fail
           go_roundg (n8 - (i+1))
           case measure=>omega
           case rel=>exact⟨i+1,rfl,by omega,rfl,HK.out.trans HKL.out⟩
        ·obtain⟨wq,hwq⟩:∃ wq,wq=wr:=⟨wr,rfl⟩
         subst hwq
         have HPq:=Lib.hid (HP8.out.kd HK.out hB8 hN8)
         clear HM HK
         go_upto_region 37 with(go_at_call 19;refine(HKI.out HK0.out _ (.slice a3 k.length c3) M N HPq.out.1 HPq.out.2.2 (HD3.out _ HPq.out.2.1)).mono ?_;rintro e w9 ⟨u9,rfl,hb9,hmu9⟩)
         have HP9:=Lib.hid (HPq.out.below hb9)
         have hB9:w.heap.size<=wq.heap.size:=HPq.out.1.size
         have hN9:N<=wq.heap.size:=HPq.out.2.2
         obtain⟨B9,hBe⟩:∃ B9,wq.heap.size=B9:=⟨_,rfl⟩
         rw [hBe] at hmu9 hB9 hN9
         clear hBe hb9
         have hmu2:=hmu9
         obtain⟨n9,a9,c9,rfl,hn9,hm9,_⟩:=hmu2
         unfold maxLen at hm9
         have HM:=Lib.hid hmu9
         clear hmu9
         go_wp2_with fail
         go_loopg [145] n9 (fun g x wl=>∃ j:Nat,x=.int .i64 j/\j<=n9/\g=n9 - j/\Kd B9 w9 wl)
         case atStart=>exact⟨0,rfl,Nat.zero_le _,rfl,Kd.refl _ _⟩
         case round=>
          obtain⟨j,rfl,hj,rfl,hkl⟩:=hrel
          have HKL:=Lib.hid hkl
          by_cases hjl9:j<n9
          ·obtain⟨bh,oh,n0,n1,rfl,hbh,t0,f0,t1,f1⟩:=zrm (HM.out.kd hkl) hjl9
           clear hkl
           go_wp2
           go_roundg (n9 - (j+1))
           case measure=>omega
           case rel=>exact⟨j+1,rfl,by omega,rfl,HKL.out.set hbh t1 _⟩
          ·clear hkl
           have HPr:=Lib.hid (HP9.out.kd HKL.out hB9 hN9)
           go_wp2_with (first
            | (go_at_call 14;have _t:=tokF;refine(HAL.out _ HPr.out.1).mono ?_;rintro e w10 ⟨rfl,hb10⟩;have HP10:=Lib.hid (HPr.out.below hb10);clear hb10 tokF)
            | (go_at_call 16;have _t:=tokG;refine(HSM.out _ (.slice a3 k.length c3) M N HP10.out.1 HP10.out.2.2 (HD3.out _ HP10.out.2.1)).mono ?_;rintro e w11 ⟨rfl,hb11⟩;have HP11:=Lib.hid (HP10.out.below hb11);clear hb11 tokG))
           go_ret
           exact⟨rfl,HP11.out.1⟩
theorem zru (k:List Fg) (i:Nat) (hb:BdK k) (_:i<zk):Cn Tryz.prog 3 [kp k,.v (.int .u64 i)] (.v (.bool true)):=by
 refine⟨enters_of Tryz.func3 (by kernel_rfl) rfl,fun D w vs hG hD hsz hp=>?_⟩
 have h1:=(hp 1 _ rfl).v_inv
 rw [show vs=#[vs.getD 0 undef,.int .u64 (i:Nat)] from by
  rw [<-h1]
  obtain⟨l⟩:=vs;match l,hsz with | [x,y],_=>rfl]
 refine(zrv k i (hp 0 _ rfl) hD hG hb).mono ?_
 rintro e w' ⟨rfl,hb⟩
 exact⟨_,D,rfl,hb,fun _ _ h=>h,fun _ _ h=>.inl h,fun b o h=>Nat.lt_of_lt_of_le (hD b o h) hb.size,.v _,trivial⟩
end Go.Proofs.YtonhfknjcbakiaaGreatDoor
