import Derived.Test.YtonhfknjcbakiaaDoorB37
import Derived.Test.YtonhfknjcbakiaaDoorB38
set_option maxHeartbeats 16000000
set_option linter.unusedVariables false
set_option linter.unusedSimpArgs false
set_option maxRecDepth 100000
namespace Go.Proofs.YtonhfknjcbakiaaDoor
open Go.RowKit Go.Maps
attribute [-go_sem] z7
def MapS (D:DV) (S:List Nat):Prop:=IsMap D/\∀ r,has D (kR r)=decide (r ∈ S)
theorem MapS.nil:MapS (.map []) []:=⟨⟨[],rfl⟩,fun r=>by simp [has]⟩
theorem MapS.put {D:DV} {S:List Nat} (h:MapS D S) (r:Nat) (v:DV):MapS (D.put (kR r) v) (S++[r]):=by
 refine⟨h.1.put _ _,fun s=>?_⟩
 by_cases e:s=r
 ·subst e
  rw [has_put_same h.1 (Qc _)];simp
 ·rw [has_put_other (fun h=>e (Xa h)),h.2 s];simp [e]
def MI (B:Nat) (w:World) (S:List Nat):Prop:=∃ D,w.ownsMap Tryd.prog 28 rV B S.length D/\MapS D S
theorem MI.made (w:World):MI w.heap.size (w.alloc (.map #[] 0)) []:=⟨_,World.ownsMap_made _ _ _ _,MapS.nil⟩
theorem MI.keep {B:Nat} {w w':World} {S:List Nat} (h:MI B w S) (hb:w'.heap[B]? = w.heap[B]?):MI B w' S:=by
 obtain⟨D,h1,h2⟩:=h
 exact⟨D,yg h1 hb,h2⟩
theorem MI.lt {B:Nat} {w:World} {S:List Nat} (h:MI B w S):B<w.heap.size:=by
 obtain⟨D,h1,_⟩:=h
 exact h1.lt
def rdG (n0:Nat) (w:World) (b o:Nat) (f:Fg):Prop:=(∃ hv,w.cell? ⟨b,o,none⟩=some hv/\RdR 0 n0 w hv f.items)/\∃ ad n c,w.cell? ⟨b,o+1,none⟩=some (.slice ad n c)
theorem RdG.keep {n0:Nat} {w w':World} {v:Value} {k:List Fg} (h:RdSl 2 (rdG n0) 0 n0 w v k) (hb:∀ j,j<n0->w'.heap[j]? = w.heap[j]?):RdSl 2 (rdG n0) 0 n0 w' v k:=
 RdSl.keep h (Nat.le_refl _) (Nat.le_refl _) fun b o x _ h2 ⟨⟨hv,c0,c1⟩,ad,n,c,c2⟩=>
  ⟨⟨hv,(World.cell?_of_block (a:=⟨b,o,none⟩) (hb b h2)).trans c0,c1.keep (Nat.le_refl _) (Nat.le_refl _) fun b _ h=>hb b h⟩,ad,n,c,(World.cell?_of_block (a:=⟨b,o+1,none⟩) (hb b h2)).trans c2⟩
def RgS (B r n:Nat) (S:List Nat) (keep:Nat->Bool) (g:Nat) (left:Lit->Bool) (w:World):Prop:=
 ∃ D,w.ranges Tryd.prog 28 rV B r n D left g/\IsMap D/\(∀ x,has D (kR x)=(decide (x ∈ S) && (left (kR x) || keep x)))/\∀ x,left (kR x)=true->x ∈ S
def GotS (S:List Nat) (left:Lit->Bool) (l:List Nat):Prop:=l.Nodup/\∀ x,x ∈ l ↔ x ∈ S/\left (kR x)=false
theorem zay {left:Lit->Bool} {r x:Nat}:(left (kR r) && !(kR r).sameKey (kR x))=(left (kR r) && !decide (r=x)):=by
 have h:(kR r).sameKey (kR x)=decide (r=x):=by
  simp [kR,Lit.sameKey]
  omega
 rw [h]
section
variable {B r n g x:Nat} {S:List Nat} {kp:Nat->Bool} {left:Lit->Bool} {w:World} {D:DV}
theorem RgS.next (hD:IsMap D) (hh:∀ y,has D (kR y)=(decide (y ∈ S) && (left (kR y) || kp y))) (hl:∀ y,left (kR y)=true->y ∈ S) (hx:left (kR x)=true) (hk:kp x=true)
 (h:w.ranges Tryd.prog 28 rV B r n D (fun z=>left z && !z.sameKey (kR x)) g):RgS B r n S kp g (fun z=>left z && !z.sameKey (kR x)) w:=by
 refine⟨D,h,hD,fun y=>?_,fun y hy=>hl y ?_⟩
 ·dsimp only
  rw [hh y,zay]
  by_cases e:y=x
  ·subst e;simp [hk]
  ·simp [e]
 ·dsimp only at hy
  cases h0:left (kR y) with
  | true=>rfl
  | false=>rw [h0] at hy;simp at hy
theorem RgS.keep {w':World} (h:RgS B r n S kp g left w) (hb:w'.heap[B]? = w.heap[B]?) (hr:w'.heap[r]? = w.heap[r]?):RgS B r n S kp g left w':=by
 obtain⟨D,h1,h2⟩:=h
 exact⟨D,yD h1 hb hr,h2⟩
theorem GotS.nil (h:∀ y,left (kR y)=true ↔ y ∈ S):GotS S left []:=
 ⟨List.nodup_nil,fun y=>by
  constructor
  ·intro h;cases h
  ·rintro⟨h1,h2⟩
   rw [(h y).2 h1] at h2
   cases h2⟩
theorem GotS.push {l:List Nat} (h:GotS S left l) (hx:left (kR x)=true) (hS:x ∈ S):GotS S (fun z=>left z && !z.sameKey (kR x)) (l++[x]):=by
 refine⟨List.nodup_append.2 ⟨h.1,by simp,fun a ha b hb e=>?_⟩,fun y=>?_⟩
 ·rw [List.mem_singleton] at hb
  rw [e,hb] at ha
  have:=((h.2 x).1 ha).2
  rw [hx] at this
  cases this
 ·dsimp only
  rw [QM,List.mem_append,List.mem_singleton,h.2 y]
  constructor
  ·rintro(⟨h1,h2⟩ | rfl)
   ·exact⟨h1,.inl h2⟩
   ·exact⟨hS,.inr rfl⟩
  ·rintro⟨h1,h2 | h2⟩
   ·exact .inl ⟨h1,h2⟩
   ·exact .inr h2
end
def MemV (C:Nat->Nat->Prop) (l:List Nat) (u:Value) (w:World):Prop:=∃ D:Nat->Nat->Prop,(∀ b o,C b o->D b o)/\(∀ b o,D b o->b<w.heap.size)/\Dat D w u (is l)
theorem MemV.stab {C:Nat->Nat->Prop} {l:List Nat} (u:Value) (w w':World) (h:MemV C l u w) (hk:Keep qe w w'):MemV C l u w':=by
 obtain⟨D,h1,h2,h3⟩:=h
 exact⟨D,h1,fun b o hd=>Nat.lt_of_lt_of_le (h2 b o hd) hk.size,h3.mono (fun _ _ h=>h) fun b o x hd hx=>(World.cell?_of_block (a:=⟨b,o,none⟩) (hk.block b (h2 b o hd) id)).trans hx⟩
end Go.Proofs.YtonhfknjcbakiaaDoor
namespace Go.Proofs.YtonhfknjcbakiaaDoor
open Go.RowKit
structure Ok12 (C:Nat->List Nat) (R:List Nat) (k:List Fg):Prop where
 r:RightK k
 z:SzK k
 l:k.length<=1048576
 t:(CI k).length<=1000000
 i:∀ f ∈ k,f.items.length<=1048576
 ik:IK C R k
 ok:OkC C R
 s:∀ f ∈ k,SmV f.vec
def OkX (C:Nat->List Nat) (R:List Nat):Prop:=(∀ r,(C r).length<=9000)/\R.length<=1000
theorem OkX.c {C:Nat->List Nat} {R:List Nat} (h:OkX C R):OkC C R:=⟨h.1,by have:=h.2;omega⟩
structure Kn (C:Nat->List Nat) (R:List Nat) (n:Nat) (k:List Fg):Prop where
 r:RightK k
 ik:IK C R k
 s:∀ f ∈ k,SmV f.vec
 m:qE k<=n
 l:k.length<=n
theorem Kn.z {C:Nat->List Nat} {R:List Nat} {n:Nat} {k:List Fg} (h:Kn C R n k) (hn:n<=400000):SzK k:=
 ⟨by have:=h.l;omega,fun f hf=>⟨by have:=yv hf;have:=h.m;omega,by have:=(h.s f hf).2.1;omega,fun e he=>by have:=(h.s f hf).2.2 e he;omega⟩⟩
theorem Kn.mono {C C':Nat->List Nat} {R R':List Nat} {n m:Nat} {k:List Fg} (h:Kn C R n k) (hC:∀ r x,x ∈ C r->x ∈ C' r) (hR:∀ x ∈ R,x ∈ R') (hn:n<=m):Kn C' R' m k:=
 ⟨h.r,fun f hf=>(h.ik f hf).mono hC hR,h.s,by have:=h.m;omega,by have:=h.l;omega⟩
theorem Kn.refine {C:Nat->List Nat} {R:List Nat} {n:Nat} {k:List Fg} (h:Kn C R n k) (ok:OkX C R):Kn C R (1+2 * n) (jq k):=by
 have h1:=xW k
 have h2:=YO k
 have h3:=h.m
 have hw:=h.ik.refine
 refine⟨Yb h.r,fun f hf=>(hw f hf).iv,fun f hf=>(hw f hf).smv ok.c,?_,?_⟩
 ·unfold jq;rw [Zf];omega
 ·unfold jq;rw [List.length_map];omega
theorem Kn.take {C:Nat->List Nat} {R:List Nat} {n:Nat} {k:List Fg} (h:Kn C R n k) (j:Nat):Kn C R n (k.take j):=by
 refine⟨h.r.take j,h.ik.take j,fun f hf=>h.s f (List.mem_of_mem_take hf),?_,?_⟩
 ·have h1:=kK (k.take j) (k.drop j)
  rw [List.take_append_drop] at h1
  have:=h.m;omega
 ·have:=h.l
  have:=List.length_take_le j k
  have:=List.length_take_le' j k
  omega
end Go.Proofs.YtonhfknjcbakiaaDoor
namespace Go.Proofs.YtonhfknjcbakiaaDoor
open Go.RowKit
attribute [-go_sem] z7
theorem vi {D:Nat->Nat->Prop} {w:World} {x:Value} {es:List (List PV)} {sz:Nat} (h:Dat D w x (.sl es .sh)) (hs:∀ e ∈ es,e.length=sz) :
 ∃ ad cap xs,x=.slice ad es.length cap/\es.length<=cap/\cap<=maxLen/\xs.length=es.length * sz/\(∀ u ∈ xs,u.oneCell'=true)/\((es.length=0/\xs=[])\/∃ b off,ad=some ⟨b,off,none⟩/\∀(j:Nat) (u:Value),xs[j]? = some u->D b (off+j)/\w.cell? ⟨b,off+j,none⟩=some u) /\
  ∀(i:Nat) (e:List PV) (j:Nat) (p:PV),es[i]? = some e->e[j]? = some p->∃ u,xs[i * sz+j]? = some u/\Dat D w u p:=by
 generalize ho:Ow.sh=o at h
 cases h with
 | sl a cap sz' es o b off u hc hz hm ha hsz hD hd=>
   by_cases hn:es=[]
   ·subst hn
    exact⟨a,cap,[],rfl,hc,hm,by simp,fun _ h=>by simp at h,.inl ⟨rfl,rfl⟩,fun i e j p h=>by simp at h⟩
   ·obtain rfl:sz'=sz:=by
     cases es with
     | nil=>exact absurd rfl hn
     | cons e es=>exact(hsz 0 e rfl).symm.trans (hs e (by simp))
    refine⟨a,cap,(List.range (es.length * sz')).map u,rfl,hc,hm,by simp,fun v hv=>?_,.inr ⟨b,off,ha hn,fun j v hv=>?_⟩,fun i e j p he hp=>?_⟩
    ·obtain⟨j,hj,rfl⟩:=List.mem_map.1 hv
     exact(hD j (by simpa using hj)).2.2
    ·rw [List.getElem?_map] at hv
     obtain⟨k,hk,rfl⟩:=Option.map_eq_some_iff.1 hv
     obtain⟨h1,rfl⟩:=List.getElem?_eq_some_iff.1 hk
     simp at h1
     rw [List.getElem_range]
     exact⟨(hD j h1).1,(hD j h1).2.1⟩
    ·have hi:=(List.getElem?_eq_some_iff.1 he).1
     have hj:j<sz':=by rw [<-hsz i e he];exact(List.getElem?_eq_some_iff.1 hp).1
     have hlt:i * sz'+j<es.length * sz':=by
      have:=Nat.mul_le_mul_right sz' (show i+1<=es.length from hi)
      rw [Nat.add_mul] at this;omega
     refine⟨u (i * sz'+j),?_,hd i e j p he hp⟩
     rw [List.getElem?_map,List.getElem?_range hlt]
     rfl
theorem v5 (w:World) (t ty e:TypeId) (i0:TypeInfo) (z:Value) (sz by':Nat) (ht:Tryd.prog.underlying t=some (.slice e)) (hi:Tryd.prog.info? e=some i0) (hz:i0.zero=some z) (hs:i0.size=sz) (hb:i0.bytes=by') (hzs:z.cells.size=sz) (hsz:0<sz) (hby:by'<=64)
 (base:Nat) (v:Value) (n:Nat) (xs:List Value) (hown:w.ownsRow base e sz v n xs) (ad:Option Addr) (m c:Nat) (news:List Value) (hl:news.length=m * sz)
 (hnews:(m=0/\ad=none)\/∃ a,ad=some a/\∀ j u,news[j]? = some u->w.cell? (a.add j)=some u) (h1:∀ u ∈ news,u.oneCell'=true) (h63:n+m<=1073741824) (hbase:base<=w.heap.size) :
 ∃ v' w',(Builtin.append_ #[t,t] ty #[v,.slice ad m c]).run Tryd.prog w=.ok v' w'/\w'.ownsRow base e sz v' (n+m) (xs++news)/\w.grownBy w' v.ownBlock/\(v'.ownBlock=v.ownBlock\/v'.ownBlock=some w.heap.size):=by
 rcases hnews with⟨rfl,rfl⟩ | ⟨a,rfl,hn⟩
 ·obtain rfl:news=[]:=List.length_eq_zero_iff.1 (by simpa using hl)
  obtain⟨ba,cp,rfl,hcp⟩:∃ ba cp,v=.slice ba n cp/\n<=cp:=by
   rcases hown.2 with⟨rfl,rfl⟩ | ⟨g,cap,cur,rfl,_,_,h,_⟩
   ·exact⟨none,0,rfl,Nat.le_refl _⟩
   ·exact⟨_,_,rfl,h⟩
  exact⟨_,w,ve w t ty _ i0 ht hi ba n cp c hcp,by simpa using hown,jW _ _,.inl rfl⟩
 ·obtain⟨v',w',r1,r2,r3,_,r5⟩:=run_append_own_at (P:=Tryd.prog) w base t ty e i0 z sz by' ht hi hz hs hb hzs hsz v n xs hown a m c news hl hn h1 (by unfold maxLen;omega) (by
   calc (n+m) * by'<=1073741824 * 64:=Nat.mul_le_mul h63 hby
    _<=140737488355328:=by decide) hbase
  exact⟨v',w',r1,r2,r3,r5⟩
theorem zq6 {ops:Array Oper} {rest:List Oper} {o:Oper} {a:Act} {w:World} {Q:Exit->Act->World->Prop} (s x:Operand) (t e:TypeId) (hgd:o.guard=none)
 (ho:o.op=.call { callee:=.builtin .append,args:=#[s,x],argTypes:=#[t,t] }) (i0:TypeInfo) (z:Value) (sz by':Nat) (ht:Tryd.prog.underlying t=some (.slice e)) (hi:Tryd.prog.info? e=some i0) (hz:i0.zero=some z) (hss:i0.size=sz) (hb:i0.bytes=by') (hzs:z.cells.size=sz) (hsz:0<sz) (hby:by'<=64)
 (base:Nat) (v:Value) (n:Nat) (xs:List Value) (hs:a.eval s=v) (hown:w.ownsRow base e sz v n xs)
 (ad:Option Addr) (m c:Nat) (news:List Value) (hx:a.eval x=.slice ad m c) (hl:news.length=m * sz) (hnews:(m=0/\ad=none)\/∃ a,ad=some a/\∀ j u,news[j]? = some u->w.cell? (a.add j)=some u) (h1:∀ u ∈ news,u.oneCell'=true) (h63:n+m<=1073741824) (hbase:base<=w.heap.size)
 (h:∀ v' w',w'.ownsRow base e sz v' (n+m) (xs++news)->w.grownBy w' v.ownBlock->(v'.ownBlock=v.ownBlock\/v'.ownBlock=some w.heap.size)->wpList Tryd.prog ops Q rest (a.put o.dst v') w'):wpList Tryd.prog ops Q (o::rest) a w:=by
 have hw:Region.wanted o (yielded ops a.tmps)=true:=by simp [Region.wanted,hgd]
 unfold wpList
 rw [if_pos hw]
 refine .inl ?_
 obtain⟨v',w',hr,h2,h3,h4⟩:=v5 w t o.type e i0 z sz by' ht hi hz hss hb hzs hsz hby base v n xs hown ad m c news hl hnews h1 h63 hbase
 unfold Oper.wp execOp
 simp only [ho,resolve,invoke,builtin,Sem.run_bind,Sem.run_pure,Result.andThen_ok,List.map_toArray,List.map_cons,List.map_nil,hs,hx,hr]
 exact h v' w' h2 h3 h4
theorem zrH {w:World} {base A:Nat} {e:TypeId} {sz:Nat} (hA:base<=A) (h:w.heap[A]? = some (.cells #[] e (0,0))):w.ownsRow base e sz (.slice (some ⟨A,0,none⟩) 0 0) 0 []:=⟨by simp,.inr ⟨A,0,#[],rfl,hA,h,Nat.le_refl _,Nat.zero_le _,by simp,by simp⟩⟩
theorem v3 (ad:Addr) (n c:Nat) (w:World):(binOp .eql 23 (.slice (some ad) n c) (.slice none 0 0)).run Tryd.prog w=.ok (.bool false) w:=by kernel_rfl
theorem vv (n c:Nat) (w:World):(binOp .eql 23 (.slice none n c) (.slice none 0 0)).run Tryd.prog w=.ok (.bool true) w:=by kernel_rfl
theorem zqZ:(Tryd.prog.info? 32).map (fun i=>(i.zero,i.size,i.bytes))=some (some (.agg #[.int .u64 0,.int .u64 0,.slice none 0 0]),3,40):=by kernel_rfl
theorem znV {D:Nat->Nat->Prop} {w:World} {x:Value} {es:List (List PV)} (d:Dat D w x (.sl es .sh)) (hs:∀ e ∈ es,e.length=3) (hl:es.length<=1073741824) :
 Calls Tryd.prog 18 #[x] w fun e w'=>∃ u xs,e=.returned u/\Below w.heap.size w w'/\w'.ownsRow w.heap.size 32 3 u es.length xs/\∀(i:Nat) (e:List PV) (j:Nat) (p:PV),es[i]? = some e->e[j]? = some p->∃ v,xs[i * 3+j]? = some v/\Dat D w v p:=by
 obtain⟨ad,cap,xs,rfl,_,_,h1,h2,h3,h4⟩:=vi d hs
 obtain⟨i0,hi0,hz0,hz1,hz2⟩:=info_parts zqZ
 cases ad with
 | none=>
   obtain⟨e0,rfl⟩:es.length=0/\xs=[]:=by
    rcases h3 with h | ⟨b,off,e,_⟩
    ·exact h
    ·cases e
   have hq:=vv es.length cap
   have H4:=Lib.hid h4
   have E0:=Lib.hid e0
   clear h1 h2 h3 h4 d hl hi0 hz0 hz1 hz2 e0
   go_enter Tryd.func18,Tryd.ntmps18
   go_wp2
   go_ret
   refine⟨_,[],rfl,Below.refl _ _,?_,H4.out⟩
   rw [E0.out]
   exact World.ownsRow_nil _ _ _ _
 | some ad=>
   have hq:=v3 ad es.length cap
   have hcell:∀(j:Nat) (u:Value),xs[j]? = some u->(w.alloc (.cells #[] 32)).cell? (ad.add j)=some u:=fun j u hu=>by
    rcases h3 with⟨_,e⟩ | ⟨b,off,e,h⟩
    ·rw [e] at hu;simp at hu
    ·cases e
     have hx:=(h j u hu).2
     rw [zh]
     exact(World.cell?_of_block (a:=⟨b,off+j,none⟩) (Below.heap_alloc _ _ _ (World.block_lt_of_cell? w _ hx))).trans hx
   have HN:=Lib.hid (World.alloc_heap_new w (.cells #[] 32 (0,0)))
   have HC:=Lib.hid hcell
   have H1:=Lib.hid h1
   have H2:=Lib.hid h2
   have H4:=Lib.hid h4
   have HI:=Lib.hid (And.intro hi0 (And.intro hz0 (And.intro hz1 hz2)))
   clear h1 h2 h3 h4 d hcell hi0 hz0 hz1 hz2
   go_enter Tryd.func18,Tryd.ntmps18
   go_wp2_with (at_builtin;refine zq6 _ _ 23 32 rfl rfl i0 _ 3 40 Tryd.underlying23 HI.out.1 HI.out.2.1 HI.out.2.2.1 HI.out.2.2.2 rfl (by decide) (by decide) w.heap.size _ 0 [] rfl (zrH (Nat.le_refl _) HN.out) _ es.length cap xs rfl H1.out (.inr ⟨_,rfl,HC.out⟩) H2.out (by omega) (by simp) ?_;intro v' w' ho hg hv)
   go_ret
   rw [Nat.zero_add] at ho
   refine⟨v',xs,rfl,?_,ho,H4.out⟩
   exact(((Below.refl _ w).alloc (Nat.le_refl _) _).grown hg (by simp) fun j hj=>by cases hj;exact Nat.le_refl _)
def RwE (base:Nat) (w:World) (u:Value) (v:List En) (X:Nat->En->Value->Prop):Prop:=
 ∃ xs,w.ownsRow base 32 3 u v.length xs/\∀ i (h:i<v.length),xs[i * 3]? = some (uV v[i].rep)/\xs[i * 3+1]? = some (uV v[i].max)/\∃ hv,xs[i * 3+2]? = some hv/\X i v[i] hv
theorem RwE.imp {base:Nat} {w:World} {u:Value} {v:List En} {X Y:Nat->En->Value->Prop} (h:RwE base w u v X) (hi:∀ i e hv,i<v.length->X i e hv->Y i e hv):RwE base w u v Y:=by
 obtain⟨xs,h1,h2⟩:=h
 refine⟨xs,h1,fun i hi'=>?_⟩
 obtain⟨a,b,hv,c,d⟩:=h2 i hi'
 exact⟨a,b,hv,c,hi i _ hv hi' d⟩
theorem RwE.shape {base:Nat} {w:World} {u:Value} {v:List En} {X:Nat->En->Value->Prop} (h:RwE base w u v X):∃ ad cap,u=.slice ad v.length cap/\v.length<=cap/\cap<=maxLen/\(v≠[]->∃ g cur,ad=some ⟨g,0,none⟩/\base<=g/\g<w.heap.size/\w.heap[g]? = some (.cells cur 32 (0,0))/\0<cap):=by
 obtain⟨xs,h1,_⟩:=h
 rcases h1.2 with⟨rfl,h0⟩ | ⟨g,cap,cur,rfl,hg,hc,hn,hm,_,_⟩
 ·have:v=[]:=List.length_eq_zero_iff.1 h0
  subst this
  exact⟨none,0,rfl,Nat.le_refl _,by decide,fun h=>absurd rfl h⟩
 ·refine⟨_,cap,rfl,hn,hm,fun hne=>⟨g,cur,rfl,hg,(Array.getElem?_eq_some_iff.1 hc).1,hc,?_⟩⟩
  have:=List.length_pos_iff.2 hne
  omega
theorem RwE.at {base g n cap:Nat} {w:World} {v:List En} {X:Nat->En->Value->Prop} (h:RwE base w (.slice (some ⟨g,0,none⟩) n cap) v X) (h0:0<cap) {i:Nat} (hi:i<v.length) :
 w.cell? ⟨g,i * 3,none⟩=some (uV v[i].rep)/\w.frozen? ⟨g,i * 3,none⟩=false/\w.cell? ⟨g,i * 3+1,none⟩=some (uV v[i].max)/\w.frozen? ⟨g,i * 3+1,none⟩=false/\∃ hv,w.cell? ⟨g,i * 3+2,none⟩=some hv/\w.frozen? ⟨g,i * 3+2,none⟩=false/\X i v[i] hv:=by
 obtain⟨xs,h1,h2⟩:=h
 obtain⟨a,b,hv,c,d⟩:=h2 i hi
 have hf:∀ o,w.frozen? ⟨g,o,none⟩=false:=by
  rcases h1.2 with⟨e,_⟩ | ⟨g',cap',cur,e,_,hc,_⟩
  ·cases e
  ·cases e
   intro o
   simp [World.frozen?,hc]
 have key:∀ j x,xs[j]? = some x->w.cell? ⟨g,j,none⟩=some x:=fun j x hx=>by
  have:=World.ownsRow.cells h1 (g:=g) (by cases cap with | zero=>omega | succ c=>rfl) j x hx
  rw [zh,Nat.zero_add] at this
  exact this
 exact⟨key _ _ a,hf _,key _ _ b,hf _,hv,key _ _ c,hf _,d⟩
theorem RwE.set {base g cap j:Nat} {w:World} {v:List En} {X:Nat->En->Value->Prop} {a0:Value} (h:RwE base w (.slice (some ⟨g,0,none⟩) v.length cap) v X) {Y:Nat->En->Value->Prop} (hY:∀ i (h:i<v.length) hv,i≠j->X i v[i] hv->Y i v[i] hv) (hj:j<v.length) (h0:Y j v[j] a0) :
 RwE base (w.setCell ⟨g,j * 3+2,none⟩ a0) (.slice (some ⟨g,0,none⟩) v.length cap) v Y:=by
 obtain⟨xs,h1,h2⟩:=h
 obtain⟨s1,_⟩:=h1.stored (j * 3+2) a0
 refine⟨xs.set (j * 3+2) a0,s1,fun i hi=>?_⟩
 obtain⟨a,b,hv,c,d⟩:=h2 i hi
 refine⟨by rw [List.getElem?_set_ne (by omega)];exact a,by rw [List.getElem?_set_ne (by omega)];exact b,?_⟩
 by_cases hij:i=j
 ·subst hij
  have hlt:=(List.getElem?_eq_some_iff.1 c).1
  exact⟨a0,by rw [List.getElem?_set_self hlt],h0⟩
 ·exact⟨hv,by rw [List.getElem?_set_ne (by omega)];exact c,hY i hi hv hij d⟩
theorem RwE.keep {base:Nat} {w w':World} {u:Value} {v:List En} {X:Nat->En->Value->Prop} (h:RwE base w u v X) (hb:∀ k,k<w.heap.size->w'.heap[k]? = w.heap[k]?):RwE base w' u v X:=by
 obtain⟨xs,h1,h2⟩:=h
 refine⟨xs,⟨h1.1,?_⟩,h2⟩
 rcases h1.2 with h | ⟨g,cap,cur,e,hg,hc,r⟩
 ·exact .inl h
 ·exact .inr ⟨g,cap,cur,e,hg,(hb g (Array.getElem?_eq_some_iff.1 hc).1).trans hc,r⟩
theorem RwE.mu {base:Nat} {w:World} {u:Value} {v:List En} {X:Nat->En->Value->Prop} (h:RwE base w u v X) (hX:∀ i e hv,X i e hv->MuI (base<=·) w hv):MuE (base<=·) w u:=by
 obtain⟨ad,cap,rfl,h1,h2,h3⟩:=h.shape
 refine⟨v.length,ad,cap,rfl,h1,h2,fun hn=>?_⟩
 have hne:v≠[]:=fun e=>by rw [e] at hn;exact hn rfl
 obtain⟨g,cur,rfl,hg,_,_,h0⟩:=h3 hne
 refine⟨g,0,rfl,fun j hj=>?_⟩
 obtain⟨a,b,c,d,hv,e,_,f⟩:=h.at h0 hj
 simp only [Nat.zero_add]
 exact⟨⟨hg,_,a,b⟩,⟨hg,_,c,d⟩,hv,e,hX _ _ _ f⟩
theorem RwE.dat {D:Nat->Nat->Prop} {base:Nat} {w:World} {u:Value} {v:List En} {X:Nat->En->Value->Prop} (h:RwE base w u v X) (hX:∀ i e hv,X i e hv->Dat D w hv (rg e.holes)) (hD:∀ b o,base<=b->b<w.heap.size->D b o):Dat D w u (vp v):=by
 obtain⟨ad,cap,rfl,h1,h2,h3⟩:=h.shape
 have hlen:(v.map ec).length=v.length:=List.length_map _
 unfold vp
 by_cases hne:v=[]
 ·subst hne
  exact .sl ad cap 3 [] .sh 0 0 (fun _=>undef) (Nat.zero_le _) (fun h=>by cases h) h2 (fun h=>absurd rfl h) (fun i e h=>by simp at h) (fun j h=>by simp at h) (fun i e j p h=>by simp at h)
 obtain⟨g,cur,rfl,hg,hgl,_,h0⟩:=h3 hne
 have hcell:∀ i (hi:i<v.length) j p,(ec v[i])[j]? = some p->∃ x,w.cell? ⟨g,i * 3+j,none⟩=some x/\Dat D w x p/\x.oneCell'=true:=fun i hi j p hp=>by
  obtain⟨a,_,b,_,hv,c,_,d⟩:=h.at h0 hi
  match j,hp with
  | 0,hp=>cases hp;exact⟨_,a,.v _,rfl⟩
  | 1,hp=>cases hp;exact⟨_,b,.v _,rfl⟩
  | 2,hp=>cases hp;exact⟨_,c,hX _ _ _ d,Ki (hX _ _ _ d)⟩
  | j+3,hp=>simp [ec] at hp
 rw [<-hlen]
 refine .sl (some ⟨g,0,none⟩) cap 3 (v.map ec) .sh g 0 (fun j=>(w.cell? ⟨g,j,none⟩).getD undef) (by rw [hlen];exact h1) (fun h=>by cases h) h2 (fun _=>rfl) (fun i e he=>?_) (fun j hj=>?_) (fun i e j p he hp=>?_)
 ·rw [List.getElem?_map] at he
  obtain⟨x,_,rfl⟩:=Option.map_eq_some_iff.1 he
  rfl
 ·rw [hlen] at hj
  have hi:j / 3<v.length:=by omega
  have h3':j % 3<(ec v[j / 3]).length:=Nat.mod_lt _ (by decide)
  obtain⟨x,hx,_,ho⟩:=hcell (j / 3) hi (j % 3) ((ec v[j / 3])[j % 3]) (List.getElem?_eq_getElem h3')
  rw [show j / 3 * 3+j % 3=j by omega] at hx
  simp only [Nat.zero_add,hx,Option.getD_some]
  exact⟨hD _ _ hg hgl,trivial,ho⟩
 ·rw [List.getElem?_map] at he
  obtain⟨x,hx,rfl⟩:=Option.map_eq_some_iff.1 he
  obtain⟨hi,rfl⟩:=List.getElem?_eq_some_iff.1 hx
  obtain⟨y,hy,hd,_⟩:=hcell i hi j p hp
  simp only [hy,Option.getD_some]
  exact hd
theorem zq3 {D:Nat->Nat->Prop} {w:World} {x:Value} (v:List En) (d:Dat D w x (vp v)) (hD:∀ b o,D b o->b<w.heap.size) (hb:∀ e ∈ v,ZL e) (hl:v.length<=1073741824) (hh:∀ e ∈ v,e.holes.length<=1073741824) :
 Calls Tryd.prog 6 #[x] w fun e w'=>∃ u,e=.returned u/\Below w.heap.size w w'/\RwE w.heap.size w' u v (fun _ e hv=>OwnR w.heap.size w' hv e.holes):=by
 have hcl:=znV (es:=v.map ec) d (fun e he=>by obtain⟨x,_,rfl⟩:=List.mem_map.1 he;rfl) (by rw [List.length_map];exact hl)
 have HCL:=Lib.hid hcl
 have HDD:=Lib.hid hD
 have HB:=Lib.hid hb
 have HH:=Lib.hid hh
 clear hcl d hD hb hh
 go_enter Tryd.func6,Tryd.ntmps6
 go_upto_region 2 with(go_at_call 18;refine HCL.out.mono ?_;rintro e w1 ⟨u,xs,rfl,hb1,ho1,hx1⟩)
 have hrw:RwE w.heap.size w1 u v (fun _ e hv=>Dat D w hv (rg e.holes)):=by
  refine⟨xs,by rw [List.length_map] at ho1;exact ho1,fun i hi=>?_⟩
  have he:(v.map ec)[i]? = some (ec v[i]):=by rw [List.getElem?_map,List.getElem?_eq_getElem hi];rfl
  obtain⟨x0,a0,d0⟩:=hx1 i _ 0 _ he rfl
  obtain⟨x1,a1,d1⟩:=hx1 i _ 1 _ he rfl
  obtain⟨x2,a2,d2⟩:=hx1 i _ 2 _ he rfl
  have e0:=(Rel.dat (ρ:=fun _=>0) (nb:=0) d0).v_inv
  have e1:=(Rel.dat (ρ:=fun _=>0) (nb:=0) d1).v_inv
  rw [e0] at a0
  rw [e1] at a1
  exact⟨a0,a1,x2,a2,d2⟩
 obtain⟨ad,cap,rfl,hcap,hcm,hrow⟩:=hrw.shape
 unfold maxLen at hcm
 have HRW:=Lib.hid hrw
 have HB1:=Lib.hid hb1
 have HROW:=Lib.hid hrow
 have hsz1:=hb1.size
 clear hrw ho1 hx1 hb1 hrow
 go_wp2_with fail
 go_loopg [9] v.length (fun gh x wr=>∃ j,j<=v.length/\gh=v.length - j/\x=.int .i64 j/\RwE w.heap.size wr (.slice ad v.length cap) v (fun i e hv=>(i<j->OwnR w1.heap.size wr hv e.holes)/\(j<=i->Dat D w hv (rg e.holes)))/\Below w.heap.size w wr/\w1.heap.size<=wr.heap.size)
 case atStart=>exact⟨0,Nat.zero_le _,rfl,rfl,HRW.out.imp fun i e hv _ h=>⟨fun h0=>absurd h0 (Nat.not_lt_zero _),fun _=>h⟩,HB1.out,Nat.le_refl _⟩
 case round=>
  obtain⟨j,hj,rfl,rfl,hrw,hbr,hsr⟩:=hrel
  have HR:=Lib.hid hrw
  have HBR:=Lib.hid hbr
  by_cases hlt:j<v.length
  ·obtain⟨g,cur,rfl,hg,hgl,_,h0⟩:=HROW.out (by intro e;subst e;simp at hlt)
   obtain⟨_,_,_,_,hv,ch,fh,_,hdv⟩:=hrw.at h0 hlt
   have hdv:=hdv (Nat.le_refl _)
   have hem:=List.getElem_mem hlt
   obtain⟨av,cv,rfl⟩:=zK hdv
   have hrd:∀ W,Below w.heap.size w W->RdR 0 W.heap.size W (.slice av v[j].holes.length cv) v[j].holes:=fun W hW=>je (hdv.mono (fun _ _ h=>h) fun b o x h hx=>(World.cell?_of_block (a:=⟨b,o,none⟩) (hW.block b (HDD.out b o h))).trans hx) (fun b o h=>Nat.lt_of_lt_of_le (HDD.out b o h) hW.size) (HB.out _ hem).1
   have HRD:=Lib.hid hrd
   have hhl:=HH.out _ hem
   clear hrw hbr hdv hrd hem
   go_wp2_with fail
   refine(zeX (HRD.out _ HBR.out) (by omega)).mono ?_
   rintro e w3 ⟨u3,rfl,ho3,hb3⟩
   obtain⟨au,cu,rfl⟩:=ho3.val
   have c3:=(World.cell?_of_block (a:=⟨g,j * 3+2,none⟩) (hb3.block g (by omega))).trans ch
   have f3:w3.frozen? ⟨g,j * 3+2,none⟩=false:=by
    have e:=hb3.block g (by omega)
    simp only [World.frozen?,e] at fh ⊢
    exact fh
   have HO3:=Lib.hid ho3
   have HB3:=Lib.hid hb3
   have hs3:=hb3.size
   clear ho3 hb3 ch fh
   dsimp only
   go_wp2_with fail
   go_roundg (v.length - (j+1))
   case measure=>omega
   case rel=>
    refine⟨j+1,hlt,rfl,by simp,(HR.out.keep fun k hk=>HB3.out.block k hk).set (fun i hi hv hne hx=>⟨fun hij=>?_,fun hij=>hx.2 (by omega)⟩) hlt ⟨fun _=>?_,fun h=>by omega⟩,?_,by simp;omega⟩
    ·exact((hx.1 (by omega)).below HB3.out (Nat.le_refl _)).keep ((Keep.refl (fun k=>k=g) w3).setCell (fun _=>rfl) _) fun k hk e=>by omega
    ·exact(HO3.out.mono hsr).keep ((Keep.refl (fun k=>k=g) w3).setCell (fun _=>rfl) _) fun k hk e=>by omega
    ·exact Below.setCell (HBR.out.trans (HB3.out.mono (by omega))) (by show w.heap.size<=g;omega) _
  ·obtain rfl:j=v.length:=by omega
   go_wp2_with fail
   refine bodyPost_ret (results_tmp rfl _ _ _) rfl ?_
   exact⟨_,rfl,HBR.out,HR.out.imp fun i e hv hi hx=>(hx.1 hi).mono (by omega)⟩
theorem Lax2.mu {n:Nat} {u:Value} {w:World} (h:Lax2 n u w):MuI (fun b=>n<=b/\b<w.heap.size) w u:=by
 obtain⟨a,k,cap,rfl,h1,h2,h3⟩:=h
 refine⟨k,a,cap,rfl,h1,h2,fun hn=>?_⟩
 obtain⟨b,rfl,hb,hf,hc⟩:=h3 hn
 refine⟨b,0,rfl,fun j hj=>?_⟩
 obtain⟨m,hm⟩:=hc (j * 2) (by omega)
 obtain⟨m',hm'⟩:=hc (j * 2+1) (by omega)
 simp only [Nat.zero_add]
 have hlt:=World.block_lt_of_cell? _ _ hm
 exact⟨⟨⟨hb,hlt⟩,m,hm,hf _⟩,⟨hb,hlt⟩,m',hm',hf _⟩
def OwE (base:Nat) (w:World) (u:Value) (N:Nat):Prop:=
 ∃ n xs,n<=N/\w.ownsRow base 32 3 u n xs/\xs.length=n * 3/\∀ i,i<n->∃ r m hv,xs[i * 3]? = some (.int .u64 r)/\xs[i * 3+1]? = some (.int .u64 m)/\xs[i * 3+2]? = some hv/\MuI (fun b=>(base<=b/\b<w.heap.size)/\u.ownBlock≠some b) w hv
theorem OwE.nil (base:Nat) (w:World):OwE base w (.slice none 0 0) 0:=⟨0,[],Nat.le_refl _,World.ownsRow_nil _ _ _ _,rfl,fun i h=>absurd h (Nat.not_lt_zero _)⟩
theorem OwE.keep {base N:Nat} {w w':World} {u:Value} (h:OwE base w u N) (hs:w.heap.size<=w'.heap.size) (hb:∀ k,k<w.heap.size->w'.heap[k]? = w.heap[k]?):OwE base w' u N:=by
 obtain⟨n,xs,hn,h1,hl,h2⟩:=h
 refine⟨n,xs,hn,⟨h1.1,?_⟩,hl,fun i hi=>?_⟩
 ·rcases h1.2 with h | ⟨g,cap,cur,e,hg,hc,r⟩
  ·exact .inl h
  ·exact .inr ⟨g,cap,cur,e,hg,(hb g (Array.getElem?_eq_some_iff.1 hc).1).trans hc,r⟩
 ·obtain⟨r,m,hv,a,b,c,d⟩:=h2 i hi
  exact⟨r,m,hv,a,b,c,(d.same fun b _ hb'=>hb b hb').mono fun b h=>⟨⟨h.1.1,Nat.lt_of_lt_of_le h.1.2 hs⟩,h.2⟩⟩
theorem OwE.mu {base N:Nat} {w:World} {u:Value} (h:OwE base w u N):MuE (base<=·) w u:=by
 obtain⟨n,xs,_,h1,hl,h2⟩:=h
 rcases h1.2 with⟨rfl,h0⟩ | ⟨g,cap,cur,rfl,hg,hc,hn,hm,hs,ht⟩
 ·subst h0
  exact⟨0,MuR.nil⟩
 ·refine⟨n,some ⟨g,0,none⟩,cap,rfl,hn,hm,fun _=>⟨g,0,rfl,fun j hj=>?_⟩⟩
  have key:∀ i x,xs[i]? = some x->w.cell? ⟨g,i,none⟩=some x/\w.frozen? ⟨g,i,none⟩=false:=fun i x hx=>by
   rw [<-ht] at hx
   have hx':cur[i]? = some x:=by
    rw [List.getElem?_take] at hx
    split at hx
    ·simpa using hx
    ·cases hx
   simp [World.cell?,World.frozen?,hc,hx']
  obtain⟨r,m,hv,a,b,c,d⟩:=h2 j hj
  obtain⟨a1,a2⟩:=key _ _ a
  obtain⟨b1,b2⟩:=key _ _ b
  simp only [Nat.zero_add]
  exact⟨⟨hg,r,a1,a2⟩,⟨hg,m,b1,b2⟩,hv,(key _ _ c).1,d.mono fun b h=>h.1.1⟩
theorem OwE.push {base N:Nat} {w w':World} {u u':Value} {n:Nat} {xs:List Value} {r m:Int} {hv:Value} (hN:n<=N) (h1:w.ownsRow base 32 3 u n xs) (hl:xs.length=n * 3)
 (h2:∀ i,i<n->∃ r m hv,xs[i * 3]? = some (.int .u64 r)/\xs[i * 3+1]? = some (.int .u64 m)/\xs[i * 3+2]? = some hv/\MuI (fun b=>(base<=b/\b<w.heap.size)/\u.ownBlock≠some b) w hv)
 (hd:MuI (fun b=>(base<=b/\b<w.heap.size)/\u.ownBlock≠some b) w hv) (ho:w'.ownsRow base 32 3 u' (n+1) (xs++[.int .u64 r,.int .u64 m,hv])) (hg:w.grownBy w' u.ownBlock) (hu:u'.ownBlock=u.ownBlock\/u'.ownBlock=some w.heap.size):OwE base w' u' (N+1):=by
 have key:∀ {x:Value},MuI (fun b=>(base<=b/\b<w.heap.size)/\u.ownBlock≠some b) w x->MuI (fun b=>(base<=b/\b<w'.heap.size)/\u'.ownBlock≠some b) w' x:=fun h=>
  (h.same (w':=w') fun b hb hlt=>hg.block b hlt fun e=>hb.2 e.symm).mono fun b h=>⟨⟨h.1.1,Nat.lt_of_lt_of_le h.1.2 hg.size⟩,fun e=>by
    rcases hu with hu | hu
    ·exact h.2 (hu.symm.trans e)
    ·rw [hu] at e
     cases e
     exact absurd h.1.2 (Nat.lt_irrefl _)⟩
 refine⟨n+1,_,by omega,ho,by simp [hl];omega,fun i hi=>?_⟩
 by_cases hlt:i<n
 ·obtain⟨r',m',hv',a,b,c,d⟩:=h2 i hlt
  exact⟨r',m',hv',by rw [List.getElem?_append_left (by omega)];exact a,by rw [List.getElem?_append_left (by omega)];exact b,by rw [List.getElem?_append_left (by omega)];exact c,key d⟩
 ·obtain rfl:i=n:=by omega
  exact⟨r,m,hv,by rw [List.getElem?_append_right (by omega),show i * 3 - xs.length=0 by omega];rfl,by rw [List.getElem?_append_right (by omega),show i * 3+1 - xs.length=1 by omega];rfl,by rw [List.getElem?_append_right (by omega),show i * 3+2 - xs.length=2 by omega];rfl,key hd⟩
theorem jn {D:Nat->Nat->Prop} {w:World} {x:Value} (v:List En) (d:Dat D w x (vp v)) (hD:∀ b o,D b o->b<w.heap.size) (hb:∀ e ∈ v,ZL e) (hl:v.length<=1048576) (hh:∀ e ∈ v,e.holes.length<=10000) :
 Calls Tryd.prog 9 #[x] w fun e w'=>∃ u,e=.returned u/\Below w.heap.size w w'/\OwE w.heap.size w' u v.length:=by
 obtain⟨ad,cap,xs,rfl,hcap,hcm,h1,h2,h3,h4⟩:=vi (es:=v.map ec) (sz:=3) d (fun e he=>by obtain⟨x,_,rfl⟩:=List.mem_map.1 he;rfl)
 have hcell:∀(j:Nat) (hj:j<v.length),∃ b off vh,ad=some ⟨b,off,none⟩/\b<w.heap.size/\w.cell? ⟨b,off+j * 3,none⟩=some (.int .u64 (v[j].rep:Nat))/\w.cell? ⟨b,off+(j * 3+1),none⟩=some (.int .u64 (v[j].max:Nat))/\w.cell? ⟨b,off+(j * 3+2),none⟩=some vh/\Dat D w vh (rg v[j].holes):=fun j hj=>by
  have he:(v.map ec)[j]? = some (ec v[j]):=by rw [List.getElem?_map,List.getElem?_eq_getElem hj];rfl
  obtain⟨x0,a0,d0⟩:=h4 j _ 0 _ he rfl
  obtain⟨x1,a1,d1⟩:=h4 j _ 1 _ he rfl
  obtain⟨x2,a2,d2⟩:=h4 j _ 2 _ he rfl
  have e0:=(Rel.dat (ρ:=fun _=>0) (nb:=0) d0).v_inv
  have e1:=(Rel.dat (ρ:=fun _=>0) (nb:=0) d1).v_inv
  rw [e0] at a0
  rw [e1] at a1
  rcases h3 with⟨h,_⟩ | ⟨b,off,rfl,h⟩
  ·simp at h
   subst h
   simp at hj
  ·exact⟨b,off,x2,rfl,hD _ _ (h _ _ a0).1,(h _ _ a0).2,(h _ _ a1).2,(h _ _ a2).2,d2⟩
 rw [List.length_map] at hcap d ⊢
 have HC:=Lib.hid hcell
 have HDD:=Lib.hid hD
 have HB:=Lib.hid hb
 have HH:=Lib.hid hh
 unfold maxLen at hcm
 clear d hD hb hh h1 h2 h3 h4 hcell
 obtain⟨i0,hi0,hz0,hz1,hz2⟩:=info_parts zqZ
 have HI:=Lib.hid (And.intro hi0 (And.intro hz0 (And.intro hz1 hz2)))
 clear hi0 hz0 hz1 hz2
 go_enter Tryd.func9,Tryd.ntmps9
 go_wp2_with fail
 go_loopg [3,10] v.length (fun gh y x wr=>∃ j,j<=v.length/\gh=v.length - j/\x=.int .i64 j/\OwE w.heap.size wr y j/\Below w.heap.size w wr)
 case atStart=>exact⟨0,Nat.zero_le _,rfl,rfl,OwE.nil _ _,Below.refl _ _⟩
 case round=>
  obtain⟨j,hj,rfl,rfl,how,hbr⟩:=hrel
  have HO:=Lib.hid how
  have HBR:=Lib.hid hbr
  have hsr:=hbr.size
  clear how hbr
  by_cases hlt:j<v.length
  ·obtain⟨b,off,vh,rfl,hbl,c0,c1,c2,hdv⟩:=HC.out j hlt
   obtain⟨av,cv,rfl⟩:=zK hdv
   have hem:=List.getElem_mem hlt
   have hrd:∀ W,Below w.heap.size w W->RdR 0 W.heap.size W (.slice av v[j].holes.length cv) v[j].holes:=fun W hW=>je (hdv.mono (fun _ _ h=>h) fun b o x h hx=>(World.cell?_of_block (a:=⟨b,o,none⟩) (hW.block b (HDD.out b o h))).trans hx) (fun b o h=>Nat.lt_of_lt_of_le (HDD.out b o h) hW.size) (HB.out _ hem).1
   have HRD:=Lib.hid hrd
   have hhl:=HH.out _ hem
   replace c0:=(World.cell?_of_block (a:=⟨b,off+j * 3,none⟩) (HBR.out.block b hbl)).trans c0
   replace c1:=(World.cell?_of_block (a:=⟨b,off+(j * 3+1),none⟩) (HBR.out.block b hbl)).trans c1
   replace c2:=(World.cell?_of_block (a:=⟨b,off+(j * 3+2),none⟩) (HBR.out.block b hbl)).trans c2
   rw [<-Nat.add_assoc] at c1 c2
   clear hdv hrd hem
   go_wp2_with fail
   refine(zra (HRD.out _ (HBR.out.alloc hsr _)) (by omega)).mono ?_
   rintro e w3 ⟨r,m,u3,bb,rfl,hlx,hb3⟩
   obtain⟨a3,k3,n3,rfl,hq⟩:=id hlx
   have hmu:=hlx.mu
   have hs3:=hb3.size
   simp only [World.size_alloc] at hs3 hmu
   have HMU:=Lib.hid hmu
   have HB3:=Lib.hid (((Below.refl _ wr).alloc (Nat.le_refl _) _).trans (hb3.mono (by simp)))
   clear hlx hq hb3 hmu c0 c1 c2
   dsimp only
   cases bb with
   | false=>
     go_wp2_with fail
     go_roundg (v.length - (j+1))
     case measure=>omega
     case rel=>
      obtain⟨n,xs',hn,q⟩:=HO.out.keep (w':=w3.alloc (.cells #[.int .u64 r,.int .u64 m,.slice a3 k3 n3] 32)) (by simp;omega) fun k hk=>(Below.heap_alloc _ _ _ (by omega)).trans (HB3.out.block k hk)
      exact⟨j+1,hlt,rfl,by simp,⟨n,xs',by omega,q⟩,(HBR.out.trans (HB3.out.mono hsr)).alloc (by omega) _⟩
   | true=>
     go_wp2_with fail
     obtain⟨z5,hz5⟩:∃ z5,z5=(w3.alloc (.cells #[.int .u64 r,.int .u64 m,.slice a3 k3 n3] 32)).alloc (.cells #[.int .u64 r,.int .u64 m,.slice a3 k3 n3] 32):=⟨_,rfl⟩
     have hs5:z5.heap.size=w3.heap.size+2:=by rw [hz5];simp
     have hb35:∀ k,k<w3.heap.size->z5.heap[k]? = w3.heap[k]?:=fun k hk=>by rw [hz5];exact(Below.heap_alloc _ _ _ (by simp;omega)).trans (Below.heap_alloc _ _ _ hk)
     have hnb:z5.heap[w3.heap.size+1]? = some (.cells #[.int .u64 r,.int .u64 m,.slice a3 k3 n3] 32 (0,0)):=by rw [hz5];exact zrF _ _ _
     have hbz:Below w.heap.size w z5:=by rw [hz5];exact((HBR.out.trans (HB3.out.mono hsr)).alloc (by omega) _).alloc (by simp;omega) _
     obtain⟨n,xs',hn,h15,hl5,h25⟩:=HO.out.keep (w':=z5) (by omega) fun k hk=>(hb35 k (by omega)).trans (HB3.out.block k hk)
     have hown:=h15.lt
     have hu3:∀ k,u3.ownBlock=some k->k<wr.heap.size:=fun k hk=>by
      obtain⟨_,_,_,h16,_⟩:=HO.out
      exact(h16.lt k hk).2
     have hd5:MuI (fun b=>(w.heap.size<=b/\b<z5.heap.size)/\u3.ownBlock≠some b) z5 (.slice a3 k3 n3):=(HMU.out.same fun b _ hb=>hb35 b hb).mono fun b h=>⟨⟨by omega,by omega⟩,fun e=>by have:=hu3 b e;omega⟩
     rw [<-hz5]
     refine Zi _ _ 23 rfl w.heap.size 32 i0 _ 3 40 Tryd.underlying23 HI.out.1 HI.out.2.1 HI.out.2.2.1 HI.out.2.2.2 rfl (by decide) _ _ xs' rfl h15 ⟨w3.heap.size+1,0,none⟩ 1 1 [.int .u64 r,.int .u64 m,.slice a3 k3 n3] rfl rfl (fun j u hj=>by
      rw [zh,Nat.zero_add]
      exact(zW hnb j u (by simpa using hj)).1) (fun u hu=>by simp at hu;rcases hu with rfl | rfl | rfl<;>rfl) (by unfold maxLen;omega) (by omega) (by omega) ?_
     intro v6 w6 ho6 hg6 _ hbl6
     have HP6:=Lib.hid (OwE.push hn h15 hl5 h25 hd5 ho6 hg6 hbl6)
     have HG6:=Lib.hid (hbz.grown hg6 hbz.size fun k hk=>(hown k hk).1)
     clear ho6 hg6 hbl6 h15 h25 hl5 hd5 hnb hbz hz5 hb35 hn
     go_wp2_with fail
     go_roundg (v.length - (j+1))
     case measure=>omega
     case rel=>exact⟨j+1,hlt,rfl,by simp,HP6.out,HG6.out⟩
  ·obtain rfl:j=v.length:=by omega
   go_wp2_with fail
   refine bodyPost_ret (results_tmp rfl _ _ _) rfl ?_
   exact⟨_,rfl,HBR.out,HO.out⟩
theorem zS {f:FuncId} {ps:List PV} {b:Bool} (hc:Cn Tryd.prog f ps (.v (.bool b))) {D:Nat->Nat->Prop} {w:World} {vs:Array Value} (hG:GL D w) (hD:∀ b o,D b o->b<w.heap.size) (hsz:vs.size=ps.length) (hd:∀(i:Nat) p,ps[i]? = some p->Dat D w (vs.getD i undef) p) :
 Calls Tryd.prog f vs w fun e w'=>e=.returned (.bool b)/\Below w.heap.size w w':=by
 refine(jP hc hG hD hsz hd).mono ?_
 rintro e w' ⟨u,rfl,hb,hd⟩
 have e:=(Rel.dat (ρ:=fun _=>0) (nb:=0) hd).v_inv
 rw [e]
 exact⟨rfl,hb⟩
theorem vj {S:Nat->Prop} {w:World} {a:Option Addr} {n c:Nat} (h:MuE S w (.slice a n c)) {j:Nat} (hj:j<n):∃ b off m0 m1 ah lh ch,a=some ⟨b,off,none⟩/\S b/\w.cell? ⟨b,off+j * 3,none⟩=some (.int .u64 m0)/\w.frozen? ⟨b,off+j * 3,none⟩=false/\w.cell? ⟨b,off+j * 3+1,none⟩=some (.int .u64 m1)/\w.frozen? ⟨b,off+j * 3+1,none⟩=false/\w.cell? ⟨b,off+j * 3+2,none⟩=some (.slice ah lh ch)/\lh<=ch/\ch<=2 ^ 63 - 1/\MuI S w (.slice ah lh ch):=by
 obtain⟨n',a',cap,e,_,_,h3⟩:=h
 cases e
 obtain⟨b,off,rfl,h4⟩:=h3 (by omega)
 obtain⟨⟨q0,m0,q1,q2⟩,⟨_,m1,q3,q4⟩,v,q5,q6⟩:=h4 j hj
 have q7:=q6
 obtain⟨lh,ah,ch,rfl,hl,hm,_⟩:=q7
 exact⟨b,off,m0,m1,ah,lh,ch,rfl,q0,q1,q2,q3,q4,q5,hl,hm,q6⟩
theorem zrm {S:Nat->Prop} {w:World} {a:Option Addr} {n c:Nat} (h:MuI S w (.slice a n c)) {j:Nat} (hj:j<n):∃ b off m0 m1,a=some ⟨b,off,none⟩/\S b/\w.cell? ⟨b,off+j * 2,none⟩=some (.int .u64 m0)/\w.frozen? ⟨b,off+j * 2,none⟩=false/\w.cell? ⟨b,off+j * 2+1,none⟩=some (.int .u64 m1)/\w.frozen? ⟨b,off+j * 2+1,none⟩=false:=by
 obtain⟨n',a',cap,e,_,_,h3⟩:=h
 cases e
 obtain⟨b,off,rfl,h4⟩:=h3 (by omega)
 obtain⟨⟨q0,m0,q1,q2⟩,⟨_,m1,q3,q4⟩⟩:=h4 j hj
 exact⟨b,off,m0,m1,rfl,q0,q1,q2,q3,q4⟩
theorem vt {P:Program} {c:Code} {a:Act} {W:World} {Q:Exit->Act->World->Prop} {R:World->Prop} (h:R W) (k:∀ W,R W->c.wp P Q a W):c.wp P Q a W:=k W h
theorem zq5 {D:Nat->Nat->Prop} {w:World} {x:Value} (v:List En) (d:Dat D w x (vp v)) (hD:∀ b o,D b o->b<w.heap.size) (hG:GL D w) (hb:BdV v):Calls Tryd.prog 3 #[x] w fun e w'=>e=.returned (.bool true)/\Below w.heap.size w w':=by
 have hat:∀ W,Below w.heap.size w W->Dat D W x (vp v)/\GL D W/\∀ b o,D b o->b<W.heap.size:=fun W hW=>by
  have hw:∀ b o x,D b o->w.cell? ⟨b,o,none⟩=some x->W.cell? ⟨b,o,none⟩=some x:=fun b o x h hx=>(World.cell?_of_block (a:=⟨b,o,none⟩) (hW.block b (hD b o h))).trans hx
  exact⟨d.mono (fun _ _ h=>h) hw,hG.mono (fun _ _ h=>h) hw,fun b o h=>Nat.lt_of_lt_of_le (hD b o h) hW.size⟩
 obtain⟨ax,cx,rfl⟩:=xL d
 have hfew:Calls Tryd.prog 4 #[.slice ax v.length cx] w fun e w'=>e=.returned (.bool (JF v))/\Below w.heap.size w w':=
  zS (zj5 v hb.2) hG hD rfl fun i p hp=>by
   match i,hp with
   | 0,hp=>cases hp;exact d
   | i+1,hp=>simp at hp
 have hal:∀ W,Below w.heap.size w W->Calls Tryd.prog 5 #[] W fun e w'=>e=.returned (.bool true)/\Below W.heap.size W w':=fun W hW=>
  zS kb (hat W hW).2.1 (hat W hW).2.2 rfl fun i p hp=>by simp at hp
 have HAT:=Lib.hid hat
 have HAL:=Lib.hid hal
 clear hat hal d hD hG
 cases hf:JF v with
 | false=>
   rw [hf] at hfew
   have HF:=Lib.hid hfew
   clear hfew hf
   go_enter Tryd.func3,Tryd.ntmps3
   go_wp2_with (first
    | (go_at_call 4;refine HF.out.mono ?_;rintro e w1 ⟨rfl,hb1⟩)
    | (go_at_call 5;refine(HAL.out _ hb1).mono ?_;rintro e w2 ⟨rfl,hb2⟩))
   go_ret
   exact⟨rfl,hb1.trans (hb2.mono hb1.size)⟩
 | true=>
   rw [hf] at hfew
   obtain⟨hh,hl⟩:=vw.1 hf
   have hcl:∀ W,Below w.heap.size w W->Calls Tryd.prog 6 #[.slice ax v.length cx] W fun e w'=>∃ u,e=.returned u/\Below W.heap.size W w'/\RwE W.heap.size w' u v (fun _ e hv=>OwnR W.heap.size w' hv e.holes):=fun W hW=>
    zq3 v (HAT.out W hW).1 (HAT.out W hW).2.2 hb.1 (by omega) fun e he=>by have:=hh e he;omega
   have hsame:∀(W:World) (u:Value) (n0:Nat),Below w.heap.size w W->(∀ b o,D b o->b<n0)->Dat (fun b o=>D b o\/(n0<=b/\b<W.heap.size)) W u (vp v)->Calls Tryd.prog 7 #[u,.slice ax v.length cx] W fun e w'=>e=.returned (.bool true)/\Below W.heap.size W w':=fun W u n0 hW _ hu=>by
    have hc:=zji v v (by omega) (fun e he=>by have:=hh e he;omega)
    rw [decide_eq_true rfl] at hc
    refine zS hc (D:=fun b o=>D b o\/(n0<=b/\b<W.heap.size)) ((HAT.out W hW).2.1.mono (fun _ _ h=>.inl h) fun _ _ _ _ h=>h) (fun b o h=>h.elim ((HAT.out W hW).2.2 b o) And.right) rfl fun i p hp=>?_
    match i,hp with
    | 0,hp=>cases hp;exact hu
    | 1,hp=>cases hp;exact(HAT.out W hW).1.mono (fun _ _ h=>.inl h) fun _ _ _ _ h=>h
    | i+2,hp=>simp at hp
   have hrt:∀ W,Below w.heap.size w W->Calls Tryd.prog 8 #[.slice ax v.length cx] W fun e w'=>e=.returned (.bool (decide ((jx v).1=0)))/\Below W.heap.size W w':=fun W hW=>
    zS (zq1 v hb.1 (by omega) fun e he=>by have:=hh e he;omega) (HAT.out W hW).2.1 (HAT.out W hW).2.2 rfl fun i p hp=>by
     match i,hp with
     | 0,hp=>cases hp;exact(HAT.out W hW).1
     | i+1,hp=>simp at hp
   have HF:=Lib.hid hfew
   have HCL:=Lib.hid hcl
   have HSM:=Lib.hid hsame
   have HRT:=Lib.hid hrt
   have HH:=Lib.hid hh
   have HBV:=Lib.hid hb
   clear hfew hf hcl hsame hrt hh hb
   have tokA:True:=trivial
   have tokB:True:=trivial
   go_enter Tryd.func3,Tryd.ntmps3
   go_upto_region 6 with(first
    | (go_at_call 4;refine HF.out.mono ?_;rintro e w1 ⟨rfl,hb1⟩;have HB1:=Lib.hid hb1;clear hb1)
    | (go_at_call 6;have _t:=tokA;refine(HCL.out _ HB1.out).mono ?_;rintro e w2 ⟨u2,rfl,hb2,hr2⟩;have HR2:=Lib.hid hr2;have HB12:=Lib.hid hb2;have HB2:=Lib.hid (HB1.out.trans (hb2.mono HB1.out.size));clear hb2 hr2 tokA)
    | (go_at_call 7;have _t:=tokB
       refine(HSM.out _ u2 w1.heap.size HB2.out (fun b o h=>(HAT.out _ HB1.out).2.2 b o h) (HR2.out.dat (fun i e hv h=>jp h.rd fun b o h1 h2=>.inr ⟨h1,h2⟩) fun b o h1 h2=>.inr ⟨h1,h2⟩)).mono ?_
       rintro e w3 ⟨rfl,hb3⟩
       have HB23:=Lib.hid hb3
       have HB3:=Lib.hid (HB2.out.trans (hb3.mono HB2.out.size))
       clear hb3 tokB))
   have hmu:=(HR2.out.mu (fun i e hv h=>h.mu.mono fun b h=>h.1)).kd (Kd.of_below HB23.out (base:=w1.heap.size) HB12.out.size)
   obtain⟨B,hB⟩:∃ B,w1.heap.size=B:=⟨_,rfl⟩
   rw [hB] at hmu
   have hB1:w.heap.size<=B:=by rw [<-hB];exact HB1.out.size
   have hB3:Below w.heap.size w w3:=HB3.out
   clear hB HB1 HB12 HB2 HB23 HB3 HR2
   have HB3:=Lib.hid hB3
   have hmu2:=hmu
   obtain⟨n,a2,c2,rfl,hn2,hm2,_⟩:=hmu2
   unfold maxLen at hm2
   have HM:=Lib.hid hmu
   clear hmu hB3
   go_wp2_with fail
   go_loopg [22] n (fun g x wr=>∃ i:Nat,x=.int .i64 i/\i<=n/\g=n - i/\Kd B w3 wr)
   case atStart=>exact⟨0,rfl,Nat.zero_le _,rfl,Kd.refl _ _⟩
   case round=>
    obtain⟨i,rfl,hi,rfl,hk⟩:=hrel
    have HK:=Lib.hid hk
    clear hk
    by_cases hlt:i<n
    ·obtain⟨b,off,m0,m1,ah,lh,ch,rfl,hb0,s0,f0,s1,f1,s2,hl1,hl2,hmi⟩:=vj (HM.out.kd HK.out) hlt
     obtain⟨wz,hwz⟩:∃ wz,wz=wr:=⟨wr,rfl⟩
     subst hwz
     go_upto_region 10 with fail
     refine vt (R:=Kd B w3) (HK.out.set hb0 s0 _) ?_
     clear HK s0 f0 s1 f1 s2 hl1 hl2 hmi hb0
     intro wo hko
     obtain⟨b',off',m0,m1,ah,lh,ch,hbo,hb0,s0,f0,s1,f1,s2,hl1,hl2,hmi⟩:=vj (HM.out.kd hko) hlt
     cases hbo
     have HI:=Lib.hid hmi
     have HK:=Lib.hid hko
     clear s0 f0 s1 f1 hko hmi hb0
     go_wp2_with fail
     have HS2:=Lib.hid s2
     clear s2
     go_loopg [39] lh (fun g x wl=>∃ j:Nat,x=.int .i64 j/\j<=lh/\g=lh - j/\Kd B wo wl)
     case atStart=>exact⟨0,rfl,Nat.zero_le _,rfl,Kd.refl _ _⟩
     case round=>
      obtain⟨j,rfl,hj,rfl,hkl⟩:=hrel
      have HKL:=Lib.hid hkl
      by_cases hjl:j<lh
      ·obtain⟨bh,oh,n0,n1,rfl,hbh,t0,f0,t1,f1⟩:=zrm (HI.out.kd hkl) hjl
       have s2:=hkl.keep HS2.out (by intro m e;cases e)
       clear hkl
       go_wp2
       go_roundg (lh - (j+1))
       case measure=>omega
       case rel=>exact⟨j+1,rfl,by omega,rfl,HKL.out.set hbh t0 _⟩
      ·clear hkl
       go_wp2_with fail
       go_roundg (n - (i+1))
       case measure=>omega
       case rel=>exact⟨i+1,rfl,by omega,rfl,HK.out.trans HKL.out⟩
    ·obtain⟨wp,hwp⟩:∃ wp,wp=wr:=⟨wr,rfl⟩
     subst hwp
     have HBp:=Lib.hid (HB3.out.trans (HK.out.below.mono hB1))
     clear HM HK
     go_upto_region 17 with(go_at_call 6;refine(HCL.out _ HBp.out).mono ?_;rintro e w6 ⟨u6,rfl,hb6,hr6⟩)
     have hs6:∀ W,Below w6.heap.size w6 W->Dat (fun b o=>wp.heap.size<=b/\b<w6.heap.size) W u6 (vp v):=fun W hW=>
      (hr6.dat (D:=fun b o=>wp.heap.size<=b/\b<w6.heap.size) (fun i e hv h=>jp h.rd fun b o h1 h2=>⟨h1,h2⟩) fun b o h1 h2=>⟨h1,h2⟩).mono (fun _ _ h=>h) fun b o x h hx=>(World.cell?_of_block (a:=⟨b,o,none⟩) (hW.block b h.2)).trans hx
     obtain⟨a6,c6,rfl,hn6,hm6,_⟩:=hr6.shape
     unfold maxLen at hm6
     have HS6:=Lib.hid hs6
     have HB6:=Lib.hid (HBp.out.trans (hb6.mono HBp.out.size))
     clear hs6 hr6 hb6
     obtain⟨ok,hok⟩:∃ ok,ok=decide ((jx v).1=0):=⟨_,rfl⟩
     rw [<-hok] at HRT
     clear hok
     have tokA:True:=trivial
     have tokB:True:=trivial
     have tokC:True:=trivial
     have tokD:True:=trivial
     cases ok with
     | false=>
       go_wp2_with (first
        | (go_at_call 8;have _t:=tokA;refine(HRT.out _ HB6.out).mono ?_;rintro e w7 ⟨rfl,hb7⟩;have HC7:=Lib.hid hb7;have HB7:=Lib.hid (HB6.out.trans (hb7.mono HB6.out.size));clear hb7 tokA)
        | (go_at_call 5;have _t:=tokB;refine(HAL.out _ HB7.out).mono ?_;rintro e w8 ⟨rfl,hb8⟩;have HC8:=Lib.hid (HC7.out.trans (hb8.mono HC7.out.size));have HB8:=Lib.hid (HB7.out.trans (hb8.mono HB7.out.size));clear hb8 tokB)
        | (go_at_call 7;have _t:=tokC
           refine(HSM.out _ (.slice a6 v.length c6) wp.heap.size HB8.out (fun b o h=>(HAT.out _ HBp.out).2.2 b o h) ((HS6.out _ HC8.out).mono (fun b o h=>.inr ⟨h.1,Nat.lt_of_lt_of_le h.2 HC8.out.size⟩) fun _ _ _ _ h=>h)).mono ?_
           rintro e w9 ⟨rfl,hb9⟩
           have HB9:=Lib.hid (HB8.out.trans (hb9.mono HB8.out.size))
           clear hb9 tokC))
       go_ret
       exact⟨rfl,HB9.out⟩
     | true=>
       go_upto_region 19 with(first
        | (go_at_call 8;have _t:=tokA;refine(HRT.out _ HB6.out).mono ?_;rintro e w7 ⟨rfl,hb7⟩;have HC7:=Lib.hid hb7;have HB7:=Lib.hid (HB6.out.trans (hb7.mono HB6.out.size));clear hb7 tokA)
        | (go_at_call 9;have _t:=tokB
           refine(jn v (HS6.out _ HC7.out) (fun b o h=>Nat.lt_of_lt_of_le h.2 HC7.out.size) HBV.out.1 (by omega) (fun e he=>by have:=HH.out e he;omega)).mono ?_
           rintro e w8 ⟨u8,rfl,hb8,ho8⟩
           have hmu8:=ho8.mu
           have HC8:=Lib.hid (HC7.out.trans (hb8.mono HC7.out.size))
           have HB8:=Lib.hid (HB7.out.trans (hb8.mono HB7.out.size))
           clear hb8 tokB ho8))
       have hB7:w6.heap.size<=w7.heap.size:=HC7.out.size
       have hB6:w.heap.size<=w6.heap.size:=HB6.out.size
       obtain⟨B8,hB8⟩:∃ B8,w7.heap.size=B8:=⟨_,rfl⟩
       rw [hB8] at hmu8 hB7
       clear hB8
       have hmu2:=hmu8
       obtain⟨n8,a8,c8,rfl,hn8,hm8,_⟩:=hmu2
       unfold maxLen at hm8
       have HM:=Lib.hid hmu8
       clear hmu8
       go_wp2_with fail
       go_loopg [64] n8 (fun g x wr=>∃ i:Nat,x=.int .i64 i/\i<=n8/\g=n8 - i/\Kd B8 w8 wr)
       case atStart=>exact⟨0,rfl,Nat.zero_le _,rfl,Kd.refl _ _⟩
       case round=>
        obtain⟨i,rfl,hi,rfl,hk⟩:=hrel
        have HK:=Lib.hid hk
        clear hk
        by_cases hlt:i<n8
        ·obtain⟨b,off,m0,m1,ah,lh,ch,rfl,hb0,s0,f0,s1,f1,s2,hl1,hl2,hmi⟩:=vj (HM.out.kd HK.out) hlt
         obtain⟨wz,hwz⟩:∃ wz,wz=wr:=⟨wr,rfl⟩
         subst hwz
         go_upto_region 23 with fail
         refine vt (R:=Kd B8 w8) (HK.out.set hb0 s1 _) ?_
         clear HK s0 f0 s1 f1 s2 hl1 hl2 hmi hb0
         intro wo hko
         obtain⟨b',off',m0,m1,ah,lh,ch,hbo,hb0,s0,f0,s1,f1,s2,hl1,hl2,hmi⟩:=vj (HM.out.kd hko) hlt
         cases hbo
         have HI:=Lib.hid hmi
         have HK:=Lib.hid hko
         clear s0 f0 s1 f1 hko hmi hb0
         go_wp2_with fail
         have HS2:=Lib.hid s2
         clear s2
         go_loopg [81] lh (fun g x wl=>∃ j:Nat,x=.int .i64 j/\j<=lh/\g=lh - j/\Kd B8 wo wl)
         case atStart=>exact⟨0,rfl,Nat.zero_le _,rfl,Kd.refl _ _⟩
         case round=>
          obtain⟨j,rfl,hj,rfl,hkl⟩:=hrel
          have HKL:=Lib.hid hkl
          by_cases hjl:j<lh
          ·obtain⟨bh,oh,n0,n1,rfl,hbh,t0,f0,t1,f1⟩:=zrm (HI.out.kd hkl) hjl
           have s2:=hkl.keep HS2.out (by intro m e;cases e)
           clear hkl
           go_wp2
           go_roundg (lh - (j+1))
           case measure=>omega
           case rel=>exact⟨j+1,rfl,by omega,rfl,HKL.out.set hbh t1 _⟩
          ·clear hkl
           go_wp2_with fail
           go_roundg (n8 - (i+1))
           case measure=>omega
           case rel=>exact⟨i+1,rfl,by omega,rfl,HK.out.trans HKL.out⟩
        ·obtain⟨wq,hwq⟩:∃ wq,wq=wr:=⟨wr,rfl⟩
         subst hwq
         have HCq:=Lib.hid (HC8.out.trans (HK.out.below.mono hB7))
         have HBq:=Lib.hid (HB8.out.trans (HK.out.below.mono (Nat.le_trans hB6 hB7)))
         clear HM HK
         go_wp2_with (first
          | (go_at_call 5;have _t:=tokC;refine(HAL.out _ HBq.out).mono ?_;rintro e w10 ⟨rfl,hb10⟩;have HC10:=Lib.hid (HCq.out.trans (hb10.mono HCq.out.size));have HB10:=Lib.hid (HBq.out.trans (hb10.mono HBq.out.size));clear hb10 tokC)
          | (go_at_call 7;have _t:=tokD
             refine(HSM.out _ (.slice a6 v.length c6) wp.heap.size HB10.out (fun b o h=>(HAT.out _ HBp.out).2.2 b o h) ((HS6.out _ HC10.out).mono (fun b o h=>.inr ⟨h.1,Nat.lt_of_lt_of_le h.2 HC10.out.size⟩) fun _ _ _ _ h=>h)).mono ?_
             rintro e w9 ⟨rfl,hb9⟩
             have HB9:=Lib.hid (HB10.out.trans (hb9.mono HB10.out.size))
             clear hb9 tokD))
         go_ret
         exact⟨rfl,HB9.out⟩
theorem zq4 (v:List En) (hb:BdV v):Cn Tryd.prog 3 [vp v] (.v (.bool true)):=by
 refine⟨enters_of Tryd.func3 (by kernel_rfl) rfl,fun D w vs hG hD hsz hp=>?_⟩
 rw [show vs=#[vs.getD 0 undef] from by obtain⟨l⟩:=vs;match l,hsz with | [x],_=>rfl]
 refine(zq5 v (hp 0 _ rfl) hD hG hb).mono ?_
 rintro e w' ⟨rfl,hb⟩
 exact⟨_,D,rfl,hb,fun _ _ h=>h,fun _ _ h=>.inl h,fun b o h=>Nat.lt_of_lt_of_le (hD b o h) hb.size,.v _,trivial⟩
end Go.Proofs.YtonhfknjcbakiaaDoor
