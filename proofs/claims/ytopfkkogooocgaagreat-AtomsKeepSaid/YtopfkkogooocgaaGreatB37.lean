import Derived.Test.YtopfkkogooocgaaGreatB35
import Derived.Test.YtopfkkogooocgaaGreatB36
set_option maxHeartbeats 16000000
set_option linter.unusedVariables false
set_option linter.unusedSimpArgs false
set_option maxRecDepth 100000
namespace Go.Proofs.YtopfkkogooocgaaGreat
open Go.RowKit
theorem CanV.bd {v:List En} (h:CanV v):∀ e ∈ v,ZL e:=fun e he=>Jg (h.1 e he).1
end Go.Proofs.YtopfkkogooocgaaGreat
namespace Go.Proofs.YtopfkkogooocgaaGreat
open Go.ChangeShapes Go.WideShapes Go.ChangeAt Go.RowKit Go.Deep
section
variable {H:Type} {enc:TypeId × Value->H} {w:World} {base:Nat} {spare:Nat->Bool} {held:Bool}
def zhh (w:World) (b o:Nat) (ps:List PV):Prop:=∀(j:Nat) (p:PV),ps[j]? = some p->∃ u,w.cell? ⟨b,o+j,none⟩=some u/\u.oneCell'=true/\Dat (ZG w) w u p
def rdC {α:Type} (cv:α->List PV) (bd:α->Prop) (w:World) (b o:Nat) (x:α):Prop:=zhh w b o (cv x)/\bd x
theorem VQ {α:Type} {cv:α->List PV} {bd:α->Prop} {sz:Nat} {v:Value} {l:List α} (hsz:∀ x,(cv x).length=sz) (h:RdSl sz (rdC cv bd) 0 w.heap.size w v l):Dat (ZG w) w v (.sl (l.map cv) .sh)/\(∀ x ∈ l,bd x)/\l.length<=9223372036854775807:=by
 obtain⟨a,cap,rfl,h1,h2,h3⟩:=h
 have hlm:l.length<=9223372036854775807:=by unfold maxLen at h2;omega
 suffices hs:Dat (ZG w) w (.slice a (l.map cv).length cap) (.sl (l.map cv) .sh)/\∀ x ∈ l,bd x from ⟨by rw [List.length_map] at hs;exact hs.1,hs.2,hlm⟩
 by_cases hne:l=[]
 ·subst hne
  exact⟨.sl a cap sz [] .sh 0 0 (fun _=>undef) (by simp) (fun h=>by cases h) h2 (fun h=>absurd rfl h) (fun i e h=>by simp at h) (fun j h=>by simp at h) (fun i e j p h=>by simp at h),fun _ h=>by cases h⟩
 obtain⟨b,off,rfl,hb1,hb2,hc⟩:=h3 hne
 have key:∀ j,j<l.length * sz->∃ u,w.cell? ⟨b,off+j,none⟩=some u/\u.oneCell'=true/\∀(i k:Nat) (hi:i<l.length) (p:PV),j=i * sz+k->(cv l[i])[k]? = some p->Dat (ZG w) w u p:=fun j hj=>by
  have hp:0<sz:=by
   rcases Nat.eq_zero_or_pos sz with h0 | h0
   ·subst h0;simp at hj
   ·exact h0
  have hi:j / sz<l.length:=Nat.div_lt_of_lt_mul (by rw [Nat.mul_comm];exact hj)
  have hk:j % sz<(cv l[j / sz]).length:=by rw [hsz];exact Nat.mod_lt _ hp
  obtain⟨u,u1,u2,u3⟩:=(hc _ hi).1 (j % sz) _ (List.getElem?_eq_getElem hk)
  have e:off+j / sz * sz+j % sz=off+j:=by have:=Nat.div_add_mod j sz;rw [Nat.mul_comm] at this;omega
  rw [e] at u1
  refine⟨u,u1,u2,fun i k hi2 p hjk hp2=>?_⟩
  have hk2:k<sz:=by have:=(List.getElem?_eq_some_iff.1 hp2).1;rwa [hsz] at this
  have q1:j / sz=i:=by rw [hjk];rw [Nat.mul_comm,Nat.mul_add_div hp,Nat.div_eq_of_lt hk2];omega
  have q2:j % sz=k:=by rw [hjk];rw [Nat.mul_comm,Nat.mul_add_mod,Nat.mod_eq_of_lt hk2]
  subst q1
  subst q2
  rw [List.getElem?_eq_getElem hk] at hp2
  cases hp2
  exact u3
 obtain⟨f,hf⟩:∃ f:Nat->Value,∀ j,j<l.length * sz->w.cell? ⟨b,off+j,none⟩=some (f j)/\(f j).oneCell'=true/\∀(i k:Nat) (hi:i<l.length) (p:PV),j=i * sz+k->(cv l[i])[k]? = some p->Dat (ZG w) w (f j) p:=by
  refine⟨fun j=>if h:j<l.length * sz then (key j h).choose else undef,fun j hj=>?_⟩
  simp only [dif_pos hj]
  exact(key j hj).choose_spec
 refine⟨.sl _ cap sz _ .sh b off f (by simpa using h1) (fun h=>by cases h) h2 (fun _=>rfl) (fun i e h=>?_) (fun j hj=>?_) (fun i e j p he hp=>?_),fun x hx=>?_⟩
 ·simp only [List.getElem?_map,Option.map_eq_some_iff] at h
  obtain⟨s,_,rfl⟩:=h
  exact hsz s
 ·obtain⟨f1,f2,_⟩:=hf j (by simpa using hj)
  exact⟨hb2,f1,f2⟩
 ·have hi:i<l.length:=by have:=(List.getElem?_eq_some_iff.1 he).1;simpa using this
  rw [xo hi] at he
  cases he
  have hj:j<sz:=by have:=(List.getElem?_eq_some_iff.1 hp).1;rwa [hsz] at this
  have:i * sz+j<l.length * sz:=by
   have:=Nat.mul_le_mul_right sz (show i+1<=l.length from hi)
   rw [Nat.add_mul] at this;omega
  exact(hf _ this).2.2 i j hi p rfl hp
 ·obtain⟨i,hi,rfl⟩:=List.getElem_of_mem hx
  exact(hc i hi).2
theorem V2 {P:Program} {e:TypeId} {f0 f1 f2:Field} {n:Nat} {a:Addr} {cs:List Value} {y:DataW H × List MemPlace} (he:P.underlying e=some (.struct #[f0,f1,f2])) (o0:f0.offset=0) (o1:f1.offset=1) (o2:f2.offset=2) (c0:P.cellsOf f0.type=1) (c1:P.cellsOf f1.type=1) (c2:P.cellsOf f2.type=1)
 (h1:w.cells? base a 3=some cs) (h2:DataW.trod enc P w base spare held n e cs=some y) :
 ∃ v0 v1 v2 k y0 y1 y2,w.cell? a=some v0/\w.cell? (a.add 1)=some v1/\w.cell? (a.add 2)=some v2/\DataW.trod enc P w base spare held k f0.type [v0]=some y0/\DataW.trod enc P w base spare held k f1.type [v1]=some y1/\DataW.trod enc P w base spare held k f2.type [v2]=some y2:=by
 obtain⟨_,hlen,hcell⟩:=World.cells?_some h1
 obtain⟨xs,k,_,_,_,hxl,hf⟩:=DataW.trod_struct he h2
 match xs,hxl,cs,hlen with
 | [y0,y1,y2],_,[v0,v1,v2],_=>
   have g0:=hf 0 f0 rfl
   have g1:=hf 1 f1 rfl
   have g2:=hf 2 f2 rfl
   simp [o0,o1,o2,c0,c1,c2] at g0 g1 g2
   have e0:=hcell 0 (by omega)
   have e1:=hcell 1 (by omega)
   have e2:=hcell 2 (by omega)
   exact⟨v0,v1,v2,k,y0,y1,y2,by simpa [Addr.add] using e0,by simpa using e1,by simpa using e2,g0,g1,g2⟩
instance : Inhabited En:=⟨⟨0,0,[]⟩⟩
theorem zfb {n:Nat} {a:Addr} {cs:List Value} {y:DataW H × List MemPlace} (h1:w.cells? base a 3=some cs) (h2:DataW.trod enc Tryz.prog w base spare held n 37 cs=some y):a.spot=none/\a.block<w.heap.size/\∃ e,rdC ec (fun e=>ZL e/\e.holes.length<=9223372036854775807) w a.block a.off e:=by
 obtain⟨v0,v1,v2,k,y0,y1,y2,e0,e1,e2,g0,g1,g2⟩:=V2 Tryz.underlying37 rfl rfl rfl (by kernel_rfl) (by kernel_rfl) (by kernel_rfl) h1 h2
 obtain⟨m0,q0,hm0⟩:=kM Tryz.underlying33 g0
 obtain⟨m1,q1,hm1⟩:=kM Tryz.underlying33 g1
 obtain⟨v2',l,q2,hl⟩:=ZA g2
 obtain rfl:v0=_:=by simpa using q0
 obtain rfl:v1=_:=by simpa using q1
 obtain rfl:v2=v2':=by simpa using q2
 obtain⟨b,off,spot⟩:=a
 obtain rfl:spot=none:=World.cell?_spot e0
 refine⟨rfl,World.block_lt_of_cell? _ _ e0,⟨m0,m1,l⟩,fun j p hp=>?_,⟨hl.bound,hm1,hm0⟩,by have:=hl.len;unfold maxLen at this;omega⟩
 have hd:Dat (ZG w) w v2 (rg l):=jp hl fun _ _ _ h=>h
 obtain⟨aa,c,rfl,_⟩:=hl
 match j,hp with
 | 0,hp=>cases hp;exact⟨_,e0,rfl,.v _⟩
 | 1,hp=>cases hp;exact⟨_,by simpa [Addr.add] using e1,rfl,.v _⟩
 | 2,hp=>cases hp;exact⟨_,by simpa [Addr.add] using e2,rfl,hd⟩
theorem zet {fuel:Nat} {cs:List Value} {x:DataW H × List MemPlace} (h:DataW.trod enc Tryz.prog w base spare held fuel 30 cs=some x):∃ v l,cs=[v]/\RdSl 3 (rdC ec (fun e=>ZL e/\e.holes.length<=9223372036854775807)) 0 w.heap.size w v l:=
 Za (rdC ec (fun e=>ZL e/\e.holes.length<=9223372036854775807)) Tryz.underlying30 (by kernel_rfl) (fun _ _ _ _ h1 h2=>zfb h1 h2) h
end
end Go.Proofs.YtopfkkogooocgaaGreat
namespace Go.Proofs.YtopfkkogooocgaaGreat
open Go.RowKit
attribute [-go_sem] z7
def RwE (base:Nat) (w:World) (u:Value) (v:List En) (X:Nat->En->Value->Prop):Prop:=
 ∃ xs,w.ownsRow base 37 3 u v.length xs/\∀ i (h:i<v.length),xs[i * 3]? = some (uV v[i].rep)/\xs[i * 3+1]? = some (uV v[i].max)/\∃ hv,xs[i * 3+2]? = some hv/\X i v[i] hv
theorem RwE.imp {base:Nat} {w:World} {u:Value} {v:List En} {X Y:Nat->En->Value->Prop} (h:RwE base w u v X) (hi:∀ i e hv,i<v.length->X i e hv->Y i e hv):RwE base w u v Y:=by
 obtain⟨xs,h1,h2⟩:=h
 refine⟨xs,h1,fun i hi'=>?_⟩
 obtain⟨a,b,hv,c,d⟩:=h2 i hi'
 exact⟨a,b,hv,c,hi i _ hv hi' d⟩
theorem RwE.shape {base:Nat} {w:World} {u:Value} {v:List En} {X:Nat->En->Value->Prop} (h:RwE base w u v X):∃ ad cap,u=.slice ad v.length cap/\v.length<=cap/\cap<=maxLen/\(v≠[]->∃ g cur,ad=some ⟨g,0,none⟩/\base<=g/\g<w.heap.size/\w.heap[g]? = some (.cells cur 37 (0,0))/\0<cap):=by
 obtain⟨xs,h1,_⟩:=h
 rcases h1.2 with⟨rfl,h0⟩ | ⟨g,cap,cur,rfl,hg,hc,hn,hm,_,_⟩
 ·have:v=[]:=List.length_eq_zero_iff.1 h0
  subst this
  exact⟨none,0,rfl,Nat.le_refl _,by decide,fun h=>absurd rfl h⟩
 ·refine⟨_,cap,rfl,hn,hm,fun hne=>⟨g,cur,rfl,hg,(Array.getElem?_eq_some_iff.1 hc).1,hc,?_⟩⟩
  have:=List.length_pos_iff.2 hne
  omega
theorem RwE.at {base g n cap:Nat} {w:World} {v:List En} {X:Nat->En->Value->Prop} (h:RwE base w (.slice (some ⟨g,0,none⟩) n cap) v X) (h0:0<cap) {i:Nat} (hi:i<v.length) :
 w.cell? ⟨g,i * 3,none⟩=some (uV v[i].rep)/\w.frozen? ⟨g,i * 3,none⟩=false/\w.cell? ⟨g,i * 3+1,none⟩=some (uV v[i].max)/\w.frozen? ⟨g,i * 3+1,none⟩=false/\∃ hv,w.cell? ⟨g,i * 3+2,none⟩=some hv/\w.frozen? ⟨g,i * 3+2,none⟩=false/\X i v[i] hv:=by
 obtain⟨xs,h1,h2⟩:=h
 obtain⟨a,b,hv,c,d⟩:=h2 i hi
 have hf:∀ o,w.frozen? ⟨g,o,none⟩=false:=by
  rcases h1.2 with⟨e,_⟩ | ⟨g',cap',cur,e,_,hc,_⟩
  ·cases e
  ·cases e
   intro o
   simp [World.frozen?,hc]
 have key:∀ j x,xs[j]? = some x->w.cell? ⟨g,j,none⟩=some x:=fun j x hx=>by
  have:=World.ownsRow.cells h1 (g:=g) (by cases cap with | zero=>omega | succ c=>rfl) j x hx
  rw [zh,Nat.zero_add] at this
  exact this
 exact⟨key _ _ a,hf _,key _ _ b,hf _,hv,key _ _ c,hf _,d⟩
theorem RwE.set {base g cap j:Nat} {w:World} {v:List En} {X:Nat->En->Value->Prop} {a0:Value} (h:RwE base w (.slice (some ⟨g,0,none⟩) v.length cap) v X) {Y:Nat->En->Value->Prop} (hY:∀ i (h:i<v.length) hv,i≠j->X i v[i] hv->Y i v[i] hv) (hj:j<v.length) (h0:Y j v[j] a0) :
 RwE base (w.setCell ⟨g,j * 3+2,none⟩ a0) (.slice (some ⟨g,0,none⟩) v.length cap) v Y:=by
 obtain⟨xs,h1,h2⟩:=h
 obtain⟨s1,_⟩:=h1.stored (j * 3+2) a0
 refine⟨xs.set (j * 3+2) a0,s1,fun i hi=>?_⟩
 obtain⟨a,b,hv,c,d⟩:=h2 i hi
 refine⟨by rw [List.getElem?_set_ne (by omega)];exact a,by rw [List.getElem?_set_ne (by omega)];exact b,?_⟩
 by_cases hij:i=j
 ·subst hij
  have hlt:=(List.getElem?_eq_some_iff.1 c).1
  exact⟨a0,by rw [List.getElem?_set_self hlt],h0⟩
 ·exact⟨hv,by rw [List.getElem?_set_ne (by omega)];exact c,hY i hi hv hij d⟩
theorem RwE.keep {base:Nat} {w w':World} {u:Value} {v:List En} {X:Nat->En->Value->Prop} (h:RwE base w u v X) (hb:∀ k,k<w.heap.size->w'.heap[k]? = w.heap[k]?):RwE base w' u v X:=by
 obtain⟨xs,h1,h2⟩:=h
 refine⟨xs,⟨h1.1,?_⟩,h2⟩
 rcases h1.2 with h | ⟨g,cap,cur,e,hg,hc,r⟩
 ·exact .inl h
 ·exact .inr ⟨g,cap,cur,e,hg,(hb g (Array.getElem?_eq_some_iff.1 hc).1).trans hc,r⟩
theorem RwE.mu {base:Nat} {w:World} {u:Value} {v:List En} {X:Nat->En->Value->Prop} (h:RwE base w u v X) (hX:∀ i e hv,X i e hv->MuI (base<=·) w hv):MuE (base<=·) w u:=by
 obtain⟨ad,cap,rfl,h1,h2,h3⟩:=h.shape
 refine⟨v.length,ad,cap,rfl,h1,h2,fun hn=>?_⟩
 have hne:v≠[]:=fun e=>by rw [e] at hn;exact hn rfl
 obtain⟨g,cur,rfl,hg,_,_,h0⟩:=h3 hne
 refine⟨g,0,rfl,fun j hj=>?_⟩
 obtain⟨a,b,c,d,hv,e,_,f⟩:=h.at h0 hj
 simp only [Nat.zero_add]
 exact⟨⟨hg,_,a,b⟩,⟨hg,_,c,d⟩,hv,e,hX _ _ _ f⟩
theorem RwE.dat {D:Nat->Nat->Prop} {base:Nat} {w:World} {u:Value} {v:List En} {X:Nat->En->Value->Prop} (h:RwE base w u v X) (hX:∀ i e hv,X i e hv->Dat D w hv (rg e.holes)) (hD:∀ b o,base<=b->b<w.heap.size->D b o):Dat D w u (vp v):=by
 obtain⟨ad,cap,rfl,h1,h2,h3⟩:=h.shape
 have hlen:(v.map ec).length=v.length:=List.length_map _
 unfold vp
 by_cases hne:v=[]
 ·subst hne
  exact .sl ad cap 3 [] .sh 0 0 (fun _=>undef) (Nat.zero_le _) (fun h=>by cases h) h2 (fun h=>absurd rfl h) (fun i e h=>by simp at h) (fun j h=>by simp at h) (fun i e j p h=>by simp at h)
 obtain⟨g,cur,rfl,hg,hgl,_,h0⟩:=h3 hne
 have hcell:∀ i (hi:i<v.length) j p,(ec v[i])[j]? = some p->∃ x,w.cell? ⟨g,i * 3+j,none⟩=some x/\Dat D w x p/\x.oneCell'=true:=fun i hi j p hp=>by
  obtain⟨a,_,b,_,hv,c,_,d⟩:=h.at h0 hi
  match j,hp with
  | 0,hp=>cases hp;exact⟨_,a,.v _,rfl⟩
  | 1,hp=>cases hp;exact⟨_,b,.v _,rfl⟩
  | 2,hp=>cases hp;exact⟨_,c,hX _ _ _ d,Ki (hX _ _ _ d)⟩
  | j+3,hp=>simp [ec] at hp
 rw [<-hlen]
 refine .sl (some ⟨g,0,none⟩) cap 3 (v.map ec) .sh g 0 (fun j=>(w.cell? ⟨g,j,none⟩).getD undef) (by rw [hlen];exact h1) (fun h=>by cases h) h2 (fun _=>rfl) (fun i e he=>?_) (fun j hj=>?_) (fun i e j p he hp=>?_)
 ·rw [List.getElem?_map] at he
  obtain⟨x,_,rfl⟩:=Option.map_eq_some_iff.1 he
  rfl
 ·rw [hlen] at hj
  have hi:j / 3<v.length:=by omega
  have h3':j % 3<(ec v[j / 3]).length:=Nat.mod_lt _ (by decide)
  obtain⟨x,hx,_,ho⟩:=hcell (j / 3) hi (j % 3) ((ec v[j / 3])[j % 3]) (List.getElem?_eq_getElem h3')
  rw [show j / 3 * 3+j % 3=j by omega] at hx
  simp only [Nat.zero_add,hx,Option.getD_some]
  exact⟨hD _ _ hg hgl,trivial,ho⟩
 ·rw [List.getElem?_map] at he
  obtain⟨x,hx,rfl⟩:=Option.map_eq_some_iff.1 he
  obtain⟨hi,rfl⟩:=List.getElem?_eq_some_iff.1 hx
  obtain⟨y,hy,hd,_⟩:=hcell i hi j p hp
  simp only [hy,Option.getD_some]
  exact hd
theorem zq3 {D:Nat->Nat->Prop} {w:World} {x:Value} (v:List En) (d:Dat D w x (vp v)) (hD:∀ b o,D b o->b<w.heap.size) (hb:∀ e ∈ v,ZL e) (hl:v.length<=1073741824) (hh:∀ e ∈ v,e.holes.length<=1073741824) :
 Calls Tryz.prog 20 #[x] w fun e w'=>∃ u,e=.returned u/\Below w.heap.size w w'/\RwE w.heap.size w' u v (fun _ e hv=>OwnR w.heap.size w' hv e.holes):=by
 have hcl:=znV (es:=v.map ec) d (fun e he=>by obtain⟨x,_,rfl⟩:=List.mem_map.1 he;rfl) (by rw [List.length_map];exact hl)
 have HCL:=Lib.hid hcl
 have HDD:=Lib.hid hD
 have HB:=Lib.hid hb
 have HH:=Lib.hid hh
 clear hcl d hD hb hh
 go_enter Tryz.func20,Tryz.ntmps20
 go_upto_region 2 with(go_at_call 33;refine HCL.out.mono ?_;rintro e w1 ⟨u,xs,rfl,hb1,ho1,hx1⟩)
 have hrw:RwE w.heap.size w1 u v (fun _ e hv=>Dat D w hv (rg e.holes)):=by
  refine⟨xs,by rw [List.length_map] at ho1;exact ho1,fun i hi=>?_⟩
  have he:(v.map ec)[i]? = some (ec v[i]):=by rw [List.getElem?_map,List.getElem?_eq_getElem hi];rfl
  obtain⟨x0,a0,d0⟩:=hx1 i _ 0 _ he rfl
  obtain⟨x1,a1,d1⟩:=hx1 i _ 1 _ he rfl
  obtain⟨x2,a2,d2⟩:=hx1 i _ 2 _ he rfl
  have e0:=(Rel.dat (ρ:=fun _=>0) (nb:=0) d0).v_inv
  have e1:=(Rel.dat (ρ:=fun _=>0) (nb:=0) d1).v_inv
  rw [e0] at a0
  rw [e1] at a1
  exact⟨a0,a1,x2,a2,d2⟩
 obtain⟨ad,cap,rfl,hcap,hcm,hrow⟩:=hrw.shape
 unfold maxLen at hcm
 have HRW:=Lib.hid hrw
 have HB1:=Lib.hid hb1
 have HROW:=Lib.hid hrow
 have hsz1:=hb1.size
 clear hrw ho1 hx1 hb1 hrow
 go_wp2_with fail
 go_loopg [9] v.length (fun gh x wr=>∃ j,j<=v.length/\gh=v.length - j/\x=.int .i64 j/\RwE w.heap.size wr (.slice ad v.length cap) v (fun i e hv=>(i<j->OwnR w1.heap.size wr hv e.holes)/\(j<=i->Dat D w hv (rg e.holes)))/\Below w.heap.size w wr/\w1.heap.size<=wr.heap.size)
 case atStart=>exact⟨0,Nat.zero_le _,rfl,rfl,HRW.out.imp fun i e hv _ h=>⟨fun h0=>absurd h0 (Nat.not_lt_zero _),fun _=>h⟩,HB1.out,Nat.le_refl _⟩
 case round=>
  obtain⟨j,hj,rfl,rfl,hrw,hbr,hsr⟩:=hrel
  have HR:=Lib.hid hrw
  have HBR:=Lib.hid hbr
  by_cases hlt:j<v.length
  ·obtain⟨g,cur,rfl,hg,hgl,_,h0⟩:=HROW.out (by intro e;subst e;simp at hlt)
   obtain⟨_,_,_,_,hv,ch,fh,_,hdv⟩:=hrw.at h0 hlt
   have hdv:=hdv (Nat.le_refl _)
   have hem:=List.getElem_mem hlt
   obtain⟨av,cv,rfl⟩:=zK hdv
   have hrd:∀ W,Below w.heap.size w W->RdR 0 W.heap.size W (.slice av v[j].holes.length cv) v[j].holes:=fun W hW=>je (hdv.mono (fun _ _ h=>h) fun b o x h hx=>(World.cell?_of_block (a:=⟨b,o,none⟩) (hW.block b (HDD.out b o h))).trans hx) (fun b o h=>Nat.lt_of_lt_of_le (HDD.out b o h) hW.size) (HB.out _ hem).1
   have HRD:=Lib.hid hrd
   have hhl:=HH.out _ hem
   clear hrw hbr hdv hrd hem
   go_wp2_with fail
   refine(zeX (HRD.out _ HBR.out) (by omega)).mono ?_
   rintro e w3 ⟨u3,rfl,ho3,hb3⟩
   obtain⟨au,cu,rfl⟩:=ho3.val
   have c3:=(World.cell?_of_block (a:=⟨g,j * 3+2,none⟩) (hb3.block g (by omega))).trans ch
   have f3:w3.frozen? ⟨g,j * 3+2,none⟩=false:=by
    have e:=hb3.block g (by omega)
    simp only [World.frozen?,e] at fh ⊢
    exact fh
   have HO3:=Lib.hid ho3
   have HB3:=Lib.hid hb3
   have hs3:=hb3.size
   clear ho3 hb3 ch fh
   dsimp only
   go_wp2_with fail
   go_roundg (v.length - (j+1))
   case measure=>omega
   case rel=>
    refine⟨j+1,hlt,rfl,by simp,(HR.out.keep fun k hk=>HB3.out.block k hk).set (fun i hi hv hne hx=>⟨fun hij=>?_,fun hij=>hx.2 (by omega)⟩) hlt ⟨fun _=>?_,fun h=>by omega⟩,?_,by simp;omega⟩
    ·exact((hx.1 (by omega)).below HB3.out (Nat.le_refl _)).keep ((Keep.refl (fun k=>k=g) w3).setCell (fun _=>rfl) _) fun k hk e=>by omega
    ·exact(HO3.out.mono hsr).keep ((Keep.refl (fun k=>k=g) w3).setCell (fun _=>rfl) _) fun k hk e=>by omega
    ·exact Below.setCell (HBR.out.trans (HB3.out.mono (by omega))) (by show w.heap.size<=g;omega) _
  ·obtain rfl:j=v.length:=by omega
   go_wp2_with fail
   refine bodyPost_ret (results_tmp rfl _ _ _) rfl ?_
   exact⟨_,rfl,HBR.out,HR.out.imp fun i e hv hi hx=>(hx.1 hi).mono (by omega)⟩
end Go.Proofs.YtopfkkogooocgaaGreat
