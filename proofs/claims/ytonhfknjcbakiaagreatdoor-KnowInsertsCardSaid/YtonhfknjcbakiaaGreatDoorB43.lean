import Derived.Test.YtonhfknjcbakiaaGreatDoorB37
set_option linter.unusedVariables false
set_option linter.unusedSimpArgs false
set_option maxRecDepth 100000
namespace Go.Proofs.YtonhfknjcbakiaaGreatDoor
open Go.ChangeShapes Go.WideShapes Go.ChangeAt Go.RowKit Go.Deep
theorem zl7 {D:Nat->Nat->Prop} {w:World} {x y z:Value} {p q r:PV} (B:x.oneCell'=true) (C:y.oneCell'=true) (hz:z.oneCell'=true) (j:Dat D w x p) (u:Dat D w y q) (A:Dat D w z r):Dat D w (.agg #[x,y,z]) (.agg [p,q,r]):=by
 refine .agg _ _ rfl (fun i hi=>?_) fun i p a=>?_
 ·match i,hi with
  | 0,_=>exact B
  | 1,_=>exact C
  | 2,_=>exact hz
 ·match i,a with
  | 0,a=>cases a;exact j
  | 1,a=>cases a;exact u
  | 2,a=>cases a;exact A
section
variable {H:Type} {enc:TypeId × Value->H} {w:World} {base:Nat} {spare:Nat->Bool} {held:Bool}
end
section
variable {H:Type} {enc:TypeId × Value->H} {w:World} {base:Nat} {spare:Nat->Bool} {held:Bool}
def zhh (w:World) (b o:Nat) (a:List PV):Prop:=∀(j:Nat) (p:PV),a[j]? = some p->∃ u,w.cell? ⟨b,o+j,none⟩=some u/\u.oneCell'=true/\Dat (ZG w) w u p
def rdC {α:Type} (cv:α->List PV) (bd:α->Prop) (w:World) (b o:Nat) (x:α):Prop:=zhh w b o (cv x)/\bd x
theorem VQ {α:Type} {cv:α->List PV} {bd:α->Prop} {y:Nat} {v:Value} {l:List α} (B:∀ x,(cv x).length=y) (h:RdSl y (rdC cv bd) 0 w.heap.size w v l):Dat (ZG w) w v (.sl (l.map cv) .sh)/\(∀ x ∈ l,bd x)/\l.length<=9223372036854775807:=by
 obtain⟨a,E,rfl,X,M,Y⟩:=h
 have P:l.length<=9223372036854775807:=by unfold maxLen at M;omega
 suffices hs:Dat (ZG w) w (.slice a (l.map cv).length E) (.sl (l.map cv) .sh)/\∀ x ∈ l,bd x from ⟨by rw [List.length_map] at hs;exact hs.1,hs.2,P⟩
 by_cases I:l=[]
 ·subst I
  exact⟨.sl a E y [] .sh 0 0 (fun _=>undef) (by simp) (fun h=>by cases h) M (fun h=>absurd rfl h) (fun i e h=>by simp at h) (fun j h=>by simp at h) (fun i e j p h=>by simp at h),fun _ h=>by cases h⟩
 obtain⟨b,A,rfl,Z,N,Q⟩:=Y I
 have K:∀ j,j<l.length * y->∃ u,w.cell? ⟨b,A+j,none⟩=some u/\u.oneCell'=true/\∀(i k:Nat) (hi:i<l.length) (p:PV),j=i * y+k->(cv l[i])[k]? = some p->Dat (ZG w) w u p:=fun j C=>by
  have J:0<y:=by
   rcases Nat.eq_zero_or_pos y with L | L
   ·subst L;simp at C
   ·exact L
  have hi:j / y<l.length:=Nat.div_lt_of_lt_mul (by rw [Nat.mul_comm];exact C)
  have hk:j % y<(cv l[j / y]).length:=by rw [B];exact Nat.mod_lt _ J
  obtain⟨u,T,u2,u3⟩:=(Q _ hi).1 (j % y) _ (List.getElem?_eq_getElem hk)
  have e:A+j / y * y+j % y=A+j:=by have:=Nat.div_add_mod j y;rw [Nat.mul_comm] at this;omega
  rw [e] at T
  refine⟨u,T,u2,fun i k ab p G F=>?_⟩
  have H:k<y:=by have:=(List.getElem?_eq_some_iff.1 F).1;rwa [B] at this
  have q1:j / y=i:=by rw [G];rw [Nat.mul_comm,Nat.mul_add_div J,Nat.div_eq_of_lt H];omega
  have q2:j % y=k:=by rw [G];rw [Nat.mul_comm,Nat.mul_add_mod,Nat.mod_eq_of_lt H]
  subst q1
  subst q2
  rw [List.getElem?_eq_getElem hk] at F
  cases F
  exact u3
 obtain⟨f,S⟩:∃ f:Nat->Value,∀ j,j<l.length * y->w.cell? ⟨b,A+j,none⟩=some (f j)/\(f j).oneCell'=true/\∀(i k:Nat) (hi:i<l.length) (p:PV),j=i * y+k->(cv l[i])[k]? = some p->Dat (ZG w) w (f j) p:=by
  refine⟨fun j=>if h:j<l.length * y then (K j h).choose else undef,fun j C=>?_⟩
  simp only [dif_pos C]
  exact(K j C).choose_spec
 refine⟨.sl _ E y _ .sh b A f (by simpa using X) (fun h=>by cases h) M (fun _=>rfl) (fun i e h=>?_) (fun j C=>?_) (fun i e j p O J=>?_),fun x hx=>?_⟩
 ·simp only [List.getElem?_map,Option.map_eq_some_iff] at h
  obtain⟨s,_,rfl⟩:=h
  exact B s
 ·obtain⟨U,V,_⟩:=S j (by simpa using C)
  exact⟨N,U,V⟩
 ·have hi:i<l.length:=by have:=(List.getElem?_eq_some_iff.1 O).1;simpa using this
  rw [xo hi] at O
  cases O
  have C:j<y:=by have:=(List.getElem?_eq_some_iff.1 J).1;rwa [B] at this
  have:i * y+j<l.length * y:=by
   have:=Nat.mul_le_mul_right y (show i+1<=l.length from hi)
   rw [Nat.add_mul] at this;omega
  exact(S _ this).2.2 i j hi p rfl J
 ·obtain⟨i,hi,rfl⟩:=List.getElem_of_mem hx
  exact(Q i hi).2
theorem V2 {P:Program} {e:TypeId} {u A B:Field} {n:Nat} {a:Addr} {I:List Value} {y:DataW H × List MemPlace} (he:P.underlying e=some (.struct #[u,A,B])) (o0:u.offset=0) (o1:A.offset=1) (o2:B.offset=2) (T:P.cellsOf u.type=1) (U:P.cellsOf A.type=1) (V:P.cellsOf B.type=1)
 (Y:w.cells? base a 3=some I) (Z:DataW.trod enc P w base spare held n e I=some y) :
 ∃ E F G k L M N,w.cell? a=some E/\w.cell? (a.add 1)=some F/\w.cell? (a.add 2)=some G/\DataW.trod enc P w base spare held k u.type [E]=some L/\DataW.trod enc P w base spare held k A.type [F]=some M/\DataW.trod enc P w base spare held k B.type [G]=some N:=by
 obtain⟨_,C,j⟩:=World.cells?_some Y
 obtain⟨xs,k,_,_,_,K,J⟩:=DataW.trod_struct he Z
 match xs,K,I,C with
 | [L,M,N],_,[E,F,G],_=>
   have O:=J 0 u rfl
   have Q:=J 1 A rfl
   have S:=J 2 B rfl
   simp [o0,o1,o2,T,U,V] at O Q S
   have X:=j 0 (by omega)
   have e1:=j 1 (by omega)
   have e2:=j 2 (by omega)
   exact⟨E,F,G,k,L,M,N,by simpa [Addr.add] using X,by simpa using e1,by simpa using e2,O,Q,S⟩
instance : Inhabited En:=⟨⟨0,0,[]⟩⟩
theorem zfb {n:Nat} {a:Addr} {G:List Value} {y:DataW H × List MemPlace} (M:w.cells? base a 3=some G) (N:DataW.trod enc Tryz.prog w base spare held n 38 G=some y):a.spot=none/\a.block<w.heap.size/\∃ e,rdC ec (fun e=>ZL e/\e.holes.length<=9223372036854775807) w a.block a.off e:=by
 obtain⟨X,Y,I,k,Z,y1,y2,B,e1,e2,J,K,L⟩:=V2 Tryz.underlying38 rfl rfl rfl (by kernel_rfl) (by kernel_rfl) (by kernel_rfl) M N
 obtain⟨P,T,C⟩:=kM Tryz.underlying24 J
 obtain⟨Q,U,E⟩:=kM Tryz.underlying24 K
 obtain⟨F,l,V,hl⟩:=ZA L
 obtain rfl:X=_:=by simpa using T
 obtain rfl:Y=_:=by simpa using U
 obtain rfl:I=F:=by simpa using V
 obtain⟨b,S,A⟩:=a
 obtain rfl:A=none:=World.cell?_spot B
 refine⟨rfl,World.block_lt_of_cell? _ _ B,⟨P,Q,l⟩,fun j p u=>?_,⟨hl.bound,E,C⟩,by have:=hl.len;unfold maxLen at this;omega⟩
 have O:Dat (ZG w) w I (rg l):=jp hl fun _ _ _ h=>h
 obtain⟨aa,c,rfl,_⟩:=hl
 match j,u with
 | 0,u=>cases u;exact⟨_,B,rfl,.v _⟩
 | 1,u=>cases u;exact⟨_,by simpa [Addr.add] using e1,rfl,.v _⟩
 | 2,u=>cases u;exact⟨_,by simpa [Addr.add] using e2,rfl,O⟩
theorem zet {a:Nat} {j:List Value} {x:DataW H × List MemPlace} (h:DataW.trod enc Tryz.prog w base spare held a 32 j=some x):∃ v l,j=[v]/\RdSl 3 (rdC ec (fun e=>ZL e/\e.holes.length<=9223372036854775807)) 0 w.heap.size w v l:=
 Za (rdC ec (fun e=>ZL e/\e.holes.length<=9223372036854775807)) Tryz.underlying32 (by kernel_rfl) (fun _ _ _ _ u y=>zfb u y) h
end
section
variable {H:Type} {enc:TypeId × Value->H} {w:World} {base:Nat} {spare:Nat->Bool} {held:Bool}
theorem zfi {n:Nat} {a:Addr} {K:List Value} {y:DataW H × List MemPlace} (T:w.cells? base a 2=some K) (U:DataW.trod enc Tryz.prog w base spare held n 34 K=some y):a.spot=none/\a.block<w.heap.size/\∃ f,rdC fc (fun f=>BdF f/\∀ e ∈ f.vec,e.holes.length<=9223372036854775807) w a.block a.off f:=by
 obtain⟨G,M,k,y0,y1,B,e1,Q,S⟩:=YB Tryz.underlying34 rfl rfl (by kernel_rfl) (by kernel_rfl) T U
 obtain⟨I,l,q0,hl⟩:=ZA Q
 obtain⟨J,v,q1,L⟩:=zet S
 obtain rfl:G=I:=by simpa using q0
 obtain rfl:M=J:=by simpa using q1
 obtain⟨b,Z,A⟩:=a
 obtain rfl:A=none:=World.cell?_spot B
 obtain⟨P,b1,V⟩:=VQ (cv:=ec) (bd:=fun e=>ZL e/\e.holes.length<=9223372036854775807) (fun _=>rfl) L
 have d0:Dat (ZG w) w G (rg l):=jp hl fun _ _ _ h=>h
 have E:=hl.bound
 have F:l.length<=9223372036854775807:=by have:=hl.len;unfold maxLen at this;omega
 have X:G.oneCell'=true:=by obtain⟨N,O,rfl,_⟩:=hl;rfl
 have Y:M.oneCell'=true:=by obtain⟨N,O,rfl,_⟩:=L;rfl
 refine⟨rfl,World.block_lt_of_cell? _ _ B,⟨l,v⟩,fun j p u=>?_,⟨E,fun e C=>(b1 e C).1,F,V⟩,fun e C=>(b1 e C).2⟩
 match j,u with
 | 0,u=>cases u;exact⟨_,B,X,d0⟩
 | 1,u=>cases u;exact⟨_,by simpa [Addr.add] using e1,Y,P⟩
theorem zbd {a:Nat} {j:List Value} {x:DataW H × List MemPlace} (h:DataW.trod enc Tryz.prog w base spare held a 23 j=some x):∃ v l,j=[v]/\RdSl 2 (rdC fc (fun f=>BdF f/\∀ e ∈ f.vec,e.holes.length<=9223372036854775807)) 0 w.heap.size w v l:=
 Za (rdC fc (fun f=>BdF f/\∀ e ∈ f.vec,e.holes.length<=9223372036854775807)) Tryz.underlying23 (by kernel_rfl) (fun _ _ _ _ u y=>zfi u y) h
theorem zo4 {r:Reach} {C:Nat} {v:Value} {d:DataW H} {I:List MemPlace} (u:Value.okWide Tryz.prog w r C 23 v) (h:DataW.Trod enc Tryz.prog w base spare held 23 v d I):∃ l,Dat (ZG w) w v (kp l)/\BdK l/\HlK l:=by
 obtain⟨a,len,E,rfl⟩:=okWide_slice Tryz.underlying23 u
 obtain⟨y,j⟩:=h
 obtain⟨v,l,B,hl⟩:=zbd j
 simp [Value.cells] at B
 rw [<-B] at hl
 obtain⟨F,A,G⟩:=VQ (cv:=fc) (bd:=(fun f=>BdF f/\∀ e ∈ f.vec,e.holes.length<=9223372036854775807)) (fun _=>rfl) hl
 exact⟨l,F,⟨fun f j=>(A f j).1,G⟩,fun f j=>(A f j).2⟩
theorem zg2 {r:Reach} {j:Nat} {v:Value} {d:DataW H} {u:List MemPlace} (a:Value.okWide Tryz.prog w r j 23 v) (h:DataW.Trod enc Tryz.prog w base spare held 23 v d u):∃ l,Dat (ZG w) w v (kp l)/\BdK l:=
 (zo4 a h).imp fun _ h=>⟨h.1,h.2.1⟩
def xp (x:Nat × Nat × Nat):PV:=.agg [.v (.int .u64 (x.1:Nat)),.v (.int .u64 (x.2.1:Nat)),.v (.int .u64 (x.2.2:Nat))]
attribute [go_sem] xp
def BdX (x:Nat × Nat × Nat):Prop:=x.1<M64/\x.2.1<M64/\x.2.2<M64
theorem zob {r:Reach} {j:Nat} {v:Value} {d:DataW H} {J:List MemPlace} (a:Value.okWide Tryz.prog w r j 54 v) (h:DataW.Trod enc Tryz.prog w base spare held 54 v d J):∃ x,Dat (ZG w) w v (xp x)/\BdX x:=by
 obtain⟨N,O,P,Q,S,T,n,rfl,_,_,u,y,A⟩:=Go.Joins.open_agg3 Tryz.underlying54 (by kernel_rfl) (by kernel_rfl) a h
 obtain⟨F,K,B⟩:=kM Tryz.underlying24 u
 obtain⟨G,L,C⟩:=kM Tryz.underlying24 y
 obtain⟨I,M,E⟩:=kM Tryz.underlying24 A
 obtain rfl:N=_:=by simpa using K
 obtain rfl:O=_:=by simpa using L
 obtain rfl:P=_:=by simpa using M
 exact⟨(F,G,I),zl7 (by simp [Value.oneCell']) (by simp [Value.oneCell']) (by simp [Value.oneCell']) (.v _) (.v _) (.v _),B,C,E⟩
end
end Go.Proofs.YtonhfknjcbakiaaGreatDoor
