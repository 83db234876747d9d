import Derived.Test.YtonhfknjcbakiaaDoorB30
set_option linter.unusedVariables false
set_option linter.unusedSimpArgs false
set_option maxRecDepth 100000
namespace Go.Proofs.YtonhfknjcbakiaaDoor
open Go.ChangeShapes Go.WideShapes Go.ChangeAt Go.RowKit Go.Deep
section
variable {H:Type} {enc:TypeId × Value->H} {w:World} {base:Nat} {spare:Nat->Bool} {held:Bool}
end
section
variable {H:Type} {enc:TypeId × Value->H} {w:World} {base:Nat} {spare:Nat->Bool} {held:Bool}
def zhh (w:World) (b o:Nat) (ps:List PV):Prop:=∀(j:Nat) (p:PV),ps[j]? = some p->∃ u,w.cell? ⟨b,o+j,none⟩=some u/\u.oneCell'=true/\Dat (ZG w) w u p
def rdC {α:Type} (cv:α->List PV) (bd:α->Prop) (w:World) (b o:Nat) (x:α):Prop:=zhh w b o (cv x)/\bd x
theorem VQ {α:Type} {cv:α->List PV} {bd:α->Prop} {sz:Nat} {v:Value} {l:List α} (hsz:∀ x,(cv x).length=sz) (h:RdSl sz (rdC cv bd) 0 w.heap.size w v l):Dat (ZG w) w v (.sl (l.map cv) .sh)/\(∀ x ∈ l,bd x)/\l.length<=9223372036854775807:=by
 obtain⟨a,cap,rfl,h1,h2,h3⟩:=h
 have hlm:l.length<=9223372036854775807:=by unfold maxLen at h2;omega
 suffices hs:Dat (ZG w) w (.slice a (l.map cv).length cap) (.sl (l.map cv) .sh)/\∀ x ∈ l,bd x from ⟨by rw [List.length_map] at hs;exact hs.1,hs.2,hlm⟩
 by_cases hne:l=[]
 ·subst hne
  exact⟨.sl a cap sz [] .sh 0 0 (fun _=>undef) (by simp) (fun h=>by cases h) h2 (fun h=>absurd rfl h) (fun i e h=>by simp at h) (fun j h=>by simp at h) (fun i e j p h=>by simp at h),fun _ h=>by cases h⟩
 obtain⟨b,off,rfl,hb1,hb2,hc⟩:=h3 hne
 have key:∀ j,j<l.length * sz->∃ u,w.cell? ⟨b,off+j,none⟩=some u/\u.oneCell'=true/\∀(i k:Nat) (hi:i<l.length) (p:PV),j=i * sz+k->(cv l[i])[k]? = some p->Dat (ZG w) w u p:=fun j hj=>by
  have hp:0<sz:=by
   rcases Nat.eq_zero_or_pos sz with h0 | h0
   ·subst h0;simp at hj
   ·exact h0
  have hi:j / sz<l.length:=Nat.div_lt_of_lt_mul (by rw [Nat.mul_comm];exact hj)
  have hk:j % sz<(cv l[j / sz]).length:=by rw [hsz];exact Nat.mod_lt _ hp
  obtain⟨u,u1,u2,u3⟩:=(hc _ hi).1 (j % sz) _ (List.getElem?_eq_getElem hk)
  have e:off+j / sz * sz+j % sz=off+j:=by have:=Nat.div_add_mod j sz;rw [Nat.mul_comm] at this;omega
  rw [e] at u1
  refine⟨u,u1,u2,fun i k hi2 p hjk hp2=>?_⟩
  have hk2:k<sz:=by have:=(List.getElem?_eq_some_iff.1 hp2).1;rwa [hsz] at this
  have q1:j / sz=i:=by rw [hjk];rw [Nat.mul_comm,Nat.mul_add_div hp,Nat.div_eq_of_lt hk2];omega
  have q2:j % sz=k:=by rw [hjk];rw [Nat.mul_comm,Nat.mul_add_mod,Nat.mod_eq_of_lt hk2]
  subst q1
  subst q2
  rw [List.getElem?_eq_getElem hk] at hp2
  cases hp2
  exact u3
 obtain⟨f,hf⟩:∃ f:Nat->Value,∀ j,j<l.length * sz->w.cell? ⟨b,off+j,none⟩=some (f j)/\(f j).oneCell'=true/\∀(i k:Nat) (hi:i<l.length) (p:PV),j=i * sz+k->(cv l[i])[k]? = some p->Dat (ZG w) w (f j) p:=by
  refine⟨fun j=>if h:j<l.length * sz then (key j h).choose else undef,fun j hj=>?_⟩
  simp only [dif_pos hj]
  exact(key j hj).choose_spec
 refine⟨.sl _ cap sz _ .sh b off f (by simpa using h1) (fun h=>by cases h) h2 (fun _=>rfl) (fun i e h=>?_) (fun j hj=>?_) (fun i e j p he hp=>?_),fun x hx=>?_⟩
 ·simp only [List.getElem?_map,Option.map_eq_some_iff] at h
  obtain⟨s,_,rfl⟩:=h
  exact hsz s
 ·obtain⟨f1,f2,_⟩:=hf j (by simpa using hj)
  exact⟨hb2,f1,f2⟩
 ·have hi:i<l.length:=by have:=(List.getElem?_eq_some_iff.1 he).1;simpa using this
  rw [xo hi] at he
  cases he
  have hj:j<sz:=by have:=(List.getElem?_eq_some_iff.1 hp).1;rwa [hsz] at this
  have:i * sz+j<l.length * sz:=by
   have:=Nat.mul_le_mul_right sz (show i+1<=l.length from hi)
   rw [Nat.add_mul] at this;omega
  exact(hf _ this).2.2 i j hi p rfl hp
 ·obtain⟨i,hi,rfl⟩:=List.getElem_of_mem hx
  exact(hc i hi).2
theorem V2 {P:Program} {e:TypeId} {f0 f1 f2:Field} {n:Nat} {a:Addr} {cs:List Value} {y:DataW H × List MemPlace} (he:P.underlying e=some (.struct #[f0,f1,f2])) (o0:f0.offset=0) (o1:f1.offset=1) (o2:f2.offset=2) (c0:P.cellsOf f0.type=1) (c1:P.cellsOf f1.type=1) (c2:P.cellsOf f2.type=1)
 (h1:w.cells? base a 3=some cs) (h2:DataW.trod enc P w base spare held n e cs=some y) :
 ∃ v0 v1 v2 k y0 y1 y2,w.cell? a=some v0/\w.cell? (a.add 1)=some v1/\w.cell? (a.add 2)=some v2/\DataW.trod enc P w base spare held k f0.type [v0]=some y0/\DataW.trod enc P w base spare held k f1.type [v1]=some y1/\DataW.trod enc P w base spare held k f2.type [v2]=some y2:=by
 obtain⟨_,hlen,hcell⟩:=World.cells?_some h1
 obtain⟨xs,k,_,_,_,hxl,hf⟩:=DataW.trod_struct he h2
 match xs,hxl,cs,hlen with
 | [y0,y1,y2],_,[v0,v1,v2],_=>
   have g0:=hf 0 f0 rfl
   have g1:=hf 1 f1 rfl
   have g2:=hf 2 f2 rfl
   simp [o0,o1,o2,c0,c1,c2] at g0 g1 g2
   have e0:=hcell 0 (by omega)
   have e1:=hcell 1 (by omega)
   have e2:=hcell 2 (by omega)
   exact⟨v0,v1,v2,k,y0,y1,y2,by simpa [Addr.add] using e0,by simpa using e1,by simpa using e2,g0,g1,g2⟩
instance : Inhabited En:=⟨⟨0,0,[]⟩⟩
theorem zfb {n:Nat} {a:Addr} {cs:List Value} {y:DataW H × List MemPlace} (h1:w.cells? base a 3=some cs) (h2:DataW.trod enc Tryd.prog w base spare held n 32 cs=some y):a.spot=none/\a.block<w.heap.size/\∃ e,rdC ec (fun e=>ZL e/\e.holes.length<=9223372036854775807) w a.block a.off e:=by
 obtain⟨v0,v1,v2,k,y0,y1,y2,e0,e1,e2,g0,g1,g2⟩:=V2 Tryd.underlying32 rfl rfl rfl (by kernel_rfl) (by kernel_rfl) (by kernel_rfl) h1 h2
 obtain⟨m0,q0,hm0⟩:=kM Tryd.underlying28 g0
 obtain⟨m1,q1,hm1⟩:=kM Tryd.underlying28 g1
 obtain⟨v2',l,q2,hl⟩:=ZA g2
 obtain rfl:v0=_:=by simpa using q0
 obtain rfl:v1=_:=by simpa using q1
 obtain rfl:v2=v2':=by simpa using q2
 obtain⟨b,off,spot⟩:=a
 obtain rfl:spot=none:=World.cell?_spot e0
 refine⟨rfl,World.block_lt_of_cell? _ _ e0,⟨m0,m1,l⟩,fun j p hp=>?_,⟨hl.bound,hm1,hm0⟩,by have:=hl.len;unfold maxLen at this;omega⟩
 have hd:Dat (ZG w) w v2 (rg l):=jp hl fun _ _ _ h=>h
 obtain⟨aa,c,rfl,_⟩:=hl
 match j,hp with
 | 0,hp=>cases hp;exact⟨_,e0,rfl,.v _⟩
 | 1,hp=>cases hp;exact⟨_,by simpa [Addr.add] using e1,rfl,.v _⟩
 | 2,hp=>cases hp;exact⟨_,by simpa [Addr.add] using e2,rfl,hd⟩
theorem zet {fuel:Nat} {cs:List Value} {x:DataW H × List MemPlace} (h:DataW.trod enc Tryd.prog w base spare held fuel 23 cs=some x):∃ v l,cs=[v]/\RdSl 3 (rdC ec (fun e=>ZL e/\e.holes.length<=9223372036854775807)) 0 w.heap.size w v l:=
 Za (rdC ec (fun e=>ZL e/\e.holes.length<=9223372036854775807)) Tryd.underlying23 (by kernel_rfl) (fun _ _ _ _ h1 h2=>zfb h1 h2) h
theorem zrG {r:Reach} {b0:Nat} {v:Value} {d:DataW H} {ps:List MemPlace} (hval:Value.okWide Tryd.prog w r b0 23 v) (h:DataW.Trod enc Tryd.prog w base spare held 23 v d ps):∃ l,Dat (ZG w) w v (vp l)/\BdV l:=by
 obtain⟨a,len,cap,rfl⟩:=okWide_slice Tryd.underlying23 hval
 obtain⟨fuel,hf⟩:=h
 obtain⟨v,l,hv,hl⟩:=zet hf
 simp [Value.cells] at hv
 rw [<-hv] at hl
 obtain⟨h1,h2,h3⟩:=VQ (cv:=ec) (bd:=fun e=>ZL e/\e.holes.length<=9223372036854775807) (fun _=>rfl) hl
 exact⟨l,h1,fun e he=>(h2 e he).1,h3⟩
end
end Go.Proofs.YtonhfknjcbakiaaDoor
