import Derived.Test.YtonhfknjcbakiaaGreatDoorB47
set_option linter.unusedVariables false
set_option linter.unusedSimpArgs false
set_option maxRecDepth 100000
namespace Go.Proofs.YtonhfknjcbakiaaGreatDoor
open Go.RowKit
abbrev Tr:=Nat × Nat × Nat
def leT (t u:Tr):Prop:=t.1<u.1\/(t.1=u.1/\(t.2.1<u.2.1\/(t.2.1=u.2.1/\t.2.2<=u.2.2)))
theorem zdf {t u:Tr} (j:leT t u) (w:leT u t):t=u:=by
 obtain⟨a,b,c⟩:=t
 obtain⟨y,A,B⟩:=u
 unfold leT at j w
 simp only at j w
 have e1:a=y:=by omega
 have e2:b=A:=by omega
 have C:c=B:=by omega
 rw [e1,e2,C]
structure IsLeast (k:List Fg) (t:Tr):Prop where
 b1:t.1<M64
 b2:t.2.2<M64
 has:hasK k t.1 t.2.1 t.2.2=true
 le:∀ i r c,i<M64->c<M64->hasK k i r c=true->leT t (i,r,c)
theorem IsLeast.eq {k:List Fg} {t u:Tr} (h:IsLeast k t) (g:IsLeast k u):t=u:=
 zdf (h.le _ _ _ g.b1 g.b2 g.has) (g.le _ _ _ h.b1 h.b2 h.has)
theorem zfo {k:List Fg} (h:RightK k) {i r c:Nat}:hasK k i r c=true ↔ ∃ f ∈ k,mem f.items i=true/\∃ e ∈ f.vec,e.rep=r/\mem (kn e) c=true:=by
 rw [hasK_iff]
 refine exists_congr fun f=>and_congr_right fun A=>and_congr_right fun _=>?_
 have y:=(h f A).2
 constructor
 ·intro a
  by_cases u:∀ e ∈ f.vec,e.rep≠r
  ·rw [qC u] at a;cases a
  ·simp only [Classical.not_forall,Classical.not_not] at u
   obtain⟨e,j,w⟩:=u
   refine⟨e,j,w,?_⟩
   rw [<-w,kq y.2 j] at a
   exact a
 ·rintro⟨e,j,rfl,a⟩
  rw [kq y.2 j];exact a
def trc (t:Tr):List PV:=[.v (.int .u64 t.1),.v (.int .u64 t.2.1),.v (.int .u64 t.2.2)]
def trp (t:Tr):PV:=.agg (trc t)
attribute [go_sem] trc trp
end Go.Proofs.YtonhfknjcbakiaaGreatDoor
