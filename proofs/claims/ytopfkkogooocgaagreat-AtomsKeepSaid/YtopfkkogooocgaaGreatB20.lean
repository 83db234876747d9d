import Derived.ChangeAt
import Derived.DataElems
import Derived.Deep.Slices
import Derived.WalkKit
import Derived.ProofKit
import Derived.Lib.SmallJoins
import Derived.Test.YtopfkkogooocgaaGreatB3
set_option linter.unusedVariables false
set_option linter.unusedSimpArgs false
set_option maxRecDepth 100000
namespace Go.Proofs.YtopfkkogooocgaaGreat
open Go.ChangeShapes Go.WideShapes Go.ChangeAt Go.RowKit Go.Deep
section
variable {H:Type} {enc:TypeId × Value->H} {w:World} {base:Nat} {spare:Nat->Bool} {held:Bool}
instance : Inhabited Iv:=⟨⟨0,0⟩⟩
theorem zgC {n:Int} (h:(Lit.int .u64 n).wf=true):∃ x:Nat,n=x/\x<zk:=by
 simp [Lit.wf,IntKind.min,IntKind.max,IntKind.signed,IntKind.bits] at h
 exact⟨n.toNat,by omega,by rw [zw];omega⟩
theorem kM {t:TypeId} {fuel:Nat} {cs:List Value} {x:DataW H × List MemPlace} (ht:Tryz.prog.underlying t=some (.int .u64)) (h:DataW.trod enc Tryz.prog w base spare held fuel t cs=some x):∃ n:Nat,cs=[.int .u64 n]/\n<zk:=by
 obtain⟨n,rfl,_,hw⟩:=DataW.trod_int ht h
 obtain⟨m,rfl,hm⟩:=zgC hw
 exact⟨m,rfl,hm⟩
theorem zaC (a:Addr) (i:Nat):(a.add i).block=a.block:=by unfold Addr.add;split<;>rfl
theorem Za {α:Type} [Inhabited α] {t e:TypeId} {fuel sz:Nat} {cs:List Value} {x:DataW H × List MemPlace} (rd:World->Nat->Nat->α->Prop) (ht:Tryz.prog.underlying t=some (.slice e)) (hsz:Tryz.prog.cellsOf e=sz)
 (hel:∀(n:Nat) (a:Addr) (cs':List Value) (y:DataW H × List MemPlace),w.cells? base a sz=some cs'->DataW.trod enc Tryz.prog w base spare held n e cs'=some y->a.spot=none/\a.block<w.heap.size/\∃ x,rd w a.block a.off x)
 (h:DataW.trod enc Tryz.prog w base spare held fuel t cs=some x):∃ v l,cs=[v]/\RdSl sz rd 0 w.heap.size w v l:=by
 rcases open_slice ht h with⟨rfl,_⟩ | ⟨a,len,cap,m,n,D,Pl,rfl,hb,hl,hm,hmm,_,hx⟩
 ·exact⟨_,[],rfl,RdSl.nil _ _ (by decide)⟩
 have hlm:len<=m:=by rw [hmm];split<;>omega
 have each:∀ i,i<len->∃ y,(a.add (i * sz)).spot=none/\a.block<w.heap.size/\rd w a.block ((a.add (i * sz)).off) y:=by
  intro i hi
  obtain⟨cs',h1,h2⟩:=hx i (by omega)
  rw [hsz] at h1
  obtain⟨e1,e2,y,e3⟩:=hel _ _ _ _ h1 h2
  rw [zaC] at e2 e3
  exact⟨y,e1,e2,e3⟩
 obtain⟨f,hf⟩:=choose_lt each
 refine⟨_,(List.range len).map f,rfl,some a,cap,by simp,by simpa using hl,hm,fun hne=>?_⟩
 have hpos:0<len:=by
  rcases Nat.eq_zero_or_pos len with h0 | h0
  ·subst h0;simp at hne
  ·exact h0
 obtain⟨b,off,spot⟩:=a
 have hs:spot=none:=by
  have:=(hf 0 hpos).1
  simpa [Addr.add] using this
 subst hs
 refine⟨b,off,rfl,Nat.zero_le _,(hf 0 hpos).2.1,fun i hi=>?_⟩
 have hi':i<len:=by simpa using hi
 have:=(hf i hi').2.2
 have e:((⟨b,off,none⟩:Addr).add (i * sz)).off=off+i * sz:=by unfold Addr.add;split<;>simp_all
 rw [e] at this
 simpa using this
theorem YB {P:Program} {e:TypeId} {f0 f1:Field} {n:Nat} {a:Addr} {cs:List Value} {y:DataW H × List MemPlace} (he:P.underlying e=some (.struct #[f0,f1])) (o0:f0.offset=0) (o1:f1.offset=1) (c0:P.cellsOf f0.type=1) (c1:P.cellsOf f1.type=1)
 (h1:w.cells? base a 2=some cs) (h2:DataW.trod enc P w base spare held n e cs=some y) :
 ∃ v0 v1 k y0 y1,w.cell? a=some v0/\w.cell? (a.add 1)=some v1/\DataW.trod enc P w base spare held k f0.type [v0]=some y0/\DataW.trod enc P w base spare held k f1.type [v1]=some y1:=by
 obtain⟨_,hlen,hcell⟩:=World.cells?_some h1
 obtain⟨xs,k,_,_,_,hxl,hf⟩:=DataW.trod_struct he h2
 match xs,hxl,cs,hlen with
 | [y0,y1],_,[v0,v1],_=>
   have g0:=hf 0 f0 rfl
   have g1:=hf 1 f1 rfl
   simp [o0,o1,c0,c1] at g0 g1
   have e0:=hcell 0 (by omega)
   have e1:=hcell 1 (by omega)
   exact⟨v0,v1,k,y0,y1,by simpa [Addr.add] using e0,by simpa using e1,g0,g1⟩
theorem zfA {n:Nat} {a:Addr} {cs:List Value} {y:DataW H × List MemPlace} (h1:w.cells? base a 2=some cs) (h2:DataW.trod enc Tryz.prog w base spare held n 35 cs=some y):a.spot=none/\a.block<w.heap.size/\∃ s,rdIv w a.block a.off s:=by
 obtain⟨v0,v1,k,y0,y1,e0,e1,g0,g1⟩:=YB Tryz.underlying35 rfl rfl (by kernel_rfl) (by kernel_rfl) h1 h2
 obtain⟨lo,q0,hlo⟩:=kM Tryz.underlying33 g0
 obtain⟨hi,q1,hhi⟩:=kM Tryz.underlying33 g1
 obtain rfl:v0=_:=by simpa using q0
 obtain rfl:v1=_:=by simpa using q1
 obtain⟨b,off,spot⟩:=a
 obtain rfl:spot=none:=World.cell?_spot e0
 exact⟨rfl,World.block_lt_of_cell? _ _ e0,⟨lo,hi⟩,e0,by simpa [Addr.add] using e1,hlo,hhi⟩
theorem ZA {fuel:Nat} {cs:List Value} {x:DataW H × List MemPlace} (h:DataW.trod enc Tryz.prog w base spare held fuel 28 cs=some x):∃ v l,cs=[v]/\RdR 0 w.heap.size w v l:=
 Za rdIv Tryz.underlying28 (by kernel_rfl) (fun _ _ _ _ h1 h2=>zfA h1 h2) h
end
end Go.Proofs.YtopfkkogooocgaaGreat
