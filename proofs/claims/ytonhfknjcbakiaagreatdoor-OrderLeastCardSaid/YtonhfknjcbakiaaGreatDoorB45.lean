import Derived.Test.YtonhfknjcbakiaaGreatDoorB38
set_option linter.unusedVariables false
set_option linter.unusedSimpArgs false
namespace Go.Proofs.YtonhfknjcbakiaaGreatDoor
open Go.RowKit
theorem znA {e:En} (h:YP e):∃ s l,kn e=s::l:=by
 have hm:mem (kn e) e.max=true:=by rw [vC h.1 h.1.2.2.1,zeO h];simp
 cases hk:kn e with
 | nil=>rw [hk] at hm;cases hm
 | cons s l=>exact⟨s,l,rfl⟩
theorem zje {C:Nat->List Nat} {R:List Nat} {k:List Fg} (hk:IK C R k) (hr:RightK k) {j:Nat} (hj:j<(zu k).length) (h0:∀ i (h:i<(zu k).length),i<j->qc k (zu k)[i].lo=[]) {e:En} {v:List En} (hv:qc k (zu k)[j].lo=e::v) {s:Iv} {l:List Iv} (hs:kn e=s::l) :
 kY k=some ((zu k)[j].lo,e.rep,s.lo):=by
 have hp:=yt hr
 obtain⟨p1,p2,p3,_⟩:=hp.1 _ (List.getElem_mem hj)
 have hat:∀ x,WV C R (qc k x)/\∀ r c,c<M64->mem (zT (qc k x) r) c=hasK k x r c:=fun x=>hk.at x
 have hw:=(hat (zu k)[j].lo).1
 rw [hv] at hw
 have hce:YP e:=hw.can.1 e (by simp)
 have hn:=qT hce.1
 rw [hs] at hn
 have hl:=zgj hn
 have hkv:zT (e::v) e.rep=kn e:=by rw [qm,if_pos rfl]
 have hleast:IsLeast k ((zu k)[j].lo,e.rep,s.lo):=by
  refine⟨show (zu k)[j].lo<M64 by omega,hl.1,?_,fun i r c hi hc hh=>?_⟩
  ·show hasK k (zu k)[j].lo e.rep s.lo=true
   rw [<-(hat _).2 _ _ hl.1,hv,hkv,hs]
   exact hl.2.1
  ·have hm:0<(zU k i).length:=by
    cases hm:zU k i with
    | nil=>rw [zc0 r c hm] at hh;cases hh
    | cons a b=>simp
   obtain⟨t,ht,h1,h2⟩:=Xj hr hi hm
   obtain⟨q1,q2,q3,_⟩:=hp.1 t ht
   have hsame:=jR hr q3 h1 h2
   rw [<-Yt hsame,<-(hat _).2 _ _ hc] at hh
   obtain⟨j',hj',rfl⟩:=List.mem_iff_getElem.1 ht
   rcases Nat.lt_trichotomy j' j with hlt | rfl | hgt
   ·rw [h0 j' hj' hlt] at hh;cases hh
   ·rw [hv] at hh
    show (zu k)[j'].lo<i\/((zu k)[j'].lo=i/\(e.rep<r\/(e.rep=r/\s.lo<=c)))
    by_cases her:e.rep=r
    ·rw [qm,if_pos her,hs] at hh
     have:=hl.2.2 c hh
     omega
    ·have hlt:e.rep<r:=by
      rw [qm,if_neg her] at hh
      by_cases hnone:∀ f ∈ v,f.rep≠r
      ·rw [qC hnone] at hh;cases hh
      ·simp only [Classical.not_forall,Classical.not_not] at hnone
       obtain⟨f,hf,rfl⟩:=hnone
       exact(List.pairwise_cons.1 hw.can.2).1 f hf
     omega
   ·have:=List.pairwise_iff_getElem.1 hp.2 j j' hj hj' hgt
    show (zu k)[j].lo<i\/_
    exact .inl (by omega)
 rcases zgH hr with⟨e1,e2⟩ | ⟨t,e1,e2⟩
 ·have:=hleast.has
  rw [e2] at this;cases this
 ·rw [e1,e2.eq hleast]
theorem zjd {C:Nat->List Nat} {R:List Nat} {k:List Fg} (hk:IK C R k) (hr:RightK k) (h0:∀ i (h:i<(zu k).length),qc k (zu k)[i].lo=[]):kY k=none:=by
 rcases zgH hr with⟨e1,_⟩ | ⟨t,e1,e2⟩
 ·exact e1
 ·exfalso
  have hh:=e2.has
  have hm:0<(zU k t.1).length:=by
   cases hm:zU k t.1 with
   | nil=>rw [zc0 _ _ hm] at hh;cases hh
   | cons a b=>simp
  obtain⟨s,hs,h1,h2⟩:=Xj hr e2.b1 hm
  obtain⟨q1,q2,q3,_⟩:=(yt hr).1 s hs
  obtain⟨j',hj',rfl⟩:=List.mem_iff_getElem.1 hs
  rw [<-Yt (jR hr q3 h1 h2),<-(hk.at _).2 _ _ e2.b2,h0 j' hj'] at hh
  cases hh
end Go.Proofs.YtonhfknjcbakiaaGreatDoor
