import Derived.ChangeAt
import Derived.DataElems
import Derived.Deep.Slices
import Derived.WalkKit
import Derived.ProofKit
import Derived.Lib.SmallJoins
import Derived.Test.YtonhfknjcbakiaaGreatDoorB3
set_option linter.unusedVariables false
set_option linter.unusedSimpArgs false
set_option maxRecDepth 100000
namespace Go.Proofs.YtonhfknjcbakiaaGreatDoor
open Go.ChangeShapes Go.WideShapes Go.ChangeAt Go.RowKit Go.Deep
section
variable {H:Type} {enc:TypeId × Value->H} {w:World} {base:Nat} {spare:Nat->Bool} {held:Bool}
instance : Inhabited Iv:=⟨⟨0,0⟩⟩
theorem zgC {n:Int} (h:(Lit.int .u64 n).wf=true):∃ x:Nat,n=x/\x<M64:=by
 simp [Lit.wf,IntKind.min,IntKind.max,IntKind.signed,IntKind.bits] at h
 exact⟨n.toNat,by omega,by rw [zw];omega⟩
theorem kM {t:TypeId} {a:Nat} {j:List Value} {x:DataW H × List MemPlace} (ht:Tryz.prog.underlying t=some (.int .u64)) (h:DataW.trod enc Tryz.prog w base spare held a t j=some x):∃ n:Nat,j=[.int .u64 n]/\n<M64:=by
 obtain⟨n,rfl,_,y⟩:=DataW.trod_int ht h
 obtain⟨m,rfl,u⟩:=zgC y
 exact⟨m,rfl,u⟩
theorem zaC (a:Addr) (i:Nat):(a.add i).block=a.block:=by unfold Addr.add;split<;>rfl
theorem Za {α:Type} [Inhabited α] {t e:TypeId} {E B:Nat} {P:List Value} {x:DataW H × List MemPlace} (rd:World->Nat->Nat->α->Prop) (ht:Tryz.prog.underlying t=some (.slice e)) (O:Tryz.prog.cellsOf e=B)
 (J:∀(n:Nat) (a:Addr) (u:List Value) (y:DataW H × List MemPlace),w.cells? base a B=some u->DataW.trod enc Tryz.prog w base spare held n e u=some y->a.spot=none/\a.block<w.heap.size/\∃ x,rd w a.block a.off x)
 (h:DataW.trod enc Tryz.prog w base spare held E t P=some x):∃ v l,P=[v]/\RdSl B rd 0 w.heap.size w v l:=by
 rcases open_slice ht h with⟨rfl,_⟩ | ⟨a,len,G,m,n,D,Y,rfl,hb,hl,V,M,_,X⟩
 ·exact⟨_,[],rfl,RdSl.nil _ _ (by decide)⟩
 have U:len<=m:=by rw [M];split<;>omega
 have C:∀ i,i<len->∃ y,(a.add (i * B)).spot=none/\a.block<w.heap.size/\rd w a.block ((a.add (i * B)).off) y:=by
  intro i hi
  obtain⟨u,S,T⟩:=X i (by omega)
  rw [O] at S
  obtain⟨e1,e2,y,Q⟩:=J _ _ _ _ S T
  rw [zaC] at e2 Q
  exact⟨y,e1,e2,Q⟩
 obtain⟨f,K⟩:=choose_lt C
 refine⟨_,(List.range len).map f,rfl,some a,G,by simp,by simpa using hl,V,fun N=>?_⟩
 have j:0<len:=by
  rcases Nat.eq_zero_or_pos len with I | I
  ·subst I;simp at N
  ·exact I
 obtain⟨b,A,F⟩:=a
 have hs:F=none:=by
  have:=(K 0 j).1
  simpa [Addr.add] using this
 subst hs
 refine⟨b,A,rfl,Nat.zero_le _,(K 0 j).2.1,fun i hi=>?_⟩
 have L:i<len:=by simpa using hi
 have:=(K i L).2.2
 have e:((⟨b,A,none⟩:Addr).add (i * B)).off=A+i * B:=by unfold Addr.add;split<;>simp_all
 rw [e] at this
 simpa using this
theorem YB {P:Program} {e:TypeId} {u A:Field} {n:Nat} {a:Addr} {F:List Value} {y:DataW H × List MemPlace} (U:P.underlying e=some (.struct #[u,A])) (V:u.offset=0) (X:A.offset=1) (N:P.cellsOf u.type=1) (O:P.cellsOf A.type=1)
 (S:w.cells? base a 2=some F) (T:DataW.trod enc P w base spare held n e F=some y) :
 ∃ C E k I J,w.cell? a=some C/\w.cell? (a.add 1)=some E/\DataW.trod enc P w base spare held k u.type [C]=some I/\DataW.trod enc P w base spare held k A.type [E]=some J:=by
 obtain⟨_,B,j⟩:=World.cells?_some S
 obtain⟨Y,k,_,_,_,G,M⟩:=DataW.trod_struct U T
 match Y,G,F,B with
 | [I,J],_,[C,E],_=>
   have K:=M 0 u rfl
   have L:=M 1 A rfl
   simp [V,X,N,O] at K L
   have Q:=j 0 (by omega)
   have e1:=j 1 (by omega)
   exact⟨C,E,k,I,J,by simpa [Addr.add] using Q,by simpa using e1,K,L⟩
theorem zfA {n:Nat} {a:Addr} {C:List Value} {y:DataW H × List MemPlace} (G:w.cells? base a 2=some C) (I:DataW.trod enc Tryz.prog w base spare held n 36 C=some y):a.spot=none/\a.block<w.heap.size/\∃ s,rdIv w a.block a.off s:=by
 obtain⟨M,N,k,O,P,u,e1,E,F⟩:=YB Tryz.underlying36 rfl rfl (by kernel_rfl) (by kernel_rfl) G I
 obtain⟨lo,K,B⟩:=kM Tryz.underlying24 E
 obtain⟨hi,L,A⟩:=kM Tryz.underlying24 F
 obtain rfl:M=_:=by simpa using K
 obtain rfl:N=_:=by simpa using L
 obtain⟨b,J,j⟩:=a
 obtain rfl:j=none:=World.cell?_spot u
 exact⟨rfl,World.block_lt_of_cell? _ _ u,⟨lo,hi⟩,u,by simpa [Addr.add] using e1,B,A⟩
theorem ZA {a:Nat} {j:List Value} {x:DataW H × List MemPlace} (h:DataW.trod enc Tryz.prog w base spare held a 30 j=some x):∃ v l,j=[v]/\RdR 0 w.heap.size w v l:=
 Za rdIv Tryz.underlying30 (by kernel_rfl) (fun _ _ _ _ u y=>zfA u y) h
theorem zpo {r:Reach} {A:Nat} {v:Value} {d:DataW H} {E:List MemPlace} (j:Value.okWide Tryz.prog w r A 30 v) (h:DataW.Trod enc Tryz.prog w base spare held 30 v d E):∃ l,RdR 0 w.heap.size w v l:=by
 obtain⟨a,len,B,rfl⟩:=okWide_slice Tryz.underlying30 j
 obtain⟨u,C⟩:=h
 obtain⟨v,l,y,hl⟩:=ZA C
 simp [Value.cells] at y
 exact⟨l,by rw [y];exact hl⟩
end
end Go.Proofs.YtonhfknjcbakiaaGreatDoor
