import Derived.BigQuiet
import Derived.Deep.QuietTactic
import Derived.Test.YtopfkkogooocgaaGreatB5
set_option linter.unusedVariables false
set_option linter.unusedSimpArgs false
namespace Go.Proofs.YtopfkkogooocgaaGreat
open Go.RowKit
def QZ:Option Iv->List Iv->Nat->Nat × Int
 | _,[],_=>(0,-1)
 | p,s::l,i=>if s.lo<=s.hi then (if (match p with | none=>0 | some q=>zR q s)=0 then QZ (some s) l (i+1) else (3,(i:Int))) else (2,(i:Int))
def Zl (l:List Iv):Nat × Int:=QZ none l 0
theorem KJ:∀(l:List Iv) (p:Option Iv) (i:Nat),(∀ s ∈ l,s.hi<zk)->((QZ p l i).1=0 ↔ match p with | none=>NF 0 l | some q=>(∀ s ∈ l,s.lo<=s.hi->zR q s=0\/True)/\(l=[]\/∃ s r,l=s::r/\s.lo<=s.hi/\zR q s=0/\NF (s.hi+2) r))
 | [],p,i,_=>by cases p<;>simp [QZ,NF]
 | s::l,p,i,hb=>by
   have ih:=KJ l (some s) (i+1) (fun t ht=>hb t (by simp [ht]))
   have hs:=hb s (by simp)
   have key:(QZ (some s) l (i+1)).1=0 ↔ NF (s.hi+2) l:=by
    rw [ih]
    constructor
    ·rintro⟨_,rfl | ⟨t,r,rfl,h1,h2,h3⟩⟩
     ·trivial
     ·refine⟨?_,h1,hb t (by simp),h3⟩
      unfold zR at h2
      split at h2
      ·split at h2
       ·cases h2
       ·omega
      ·split at h2
       ·split at h2<;>cases h2
       ·cases h2
    ·intro h
     refine⟨fun _ _ _=>.inr trivial,?_⟩
     cases l with
     | nil=>exact .inl rfl
     | cons t r=>
       have:=h.1
       exact .inr ⟨t,r,rfl,h.2.1,by unfold zR;rw [if_pos (by omega),if_neg (by omega)],h.2.2.2⟩
   unfold QZ
   by_cases h1:s.lo<=s.hi
   ·rw [if_pos h1]
    cases p with
    | none=>
      simp only [if_true]
      rw [key]
      exact⟨fun h=>⟨Nat.zero_le _,h1,hs,h⟩,fun h=>h.2.2.2⟩
    | some q=>
      simp only
      by_cases h2:zR q s=0
      ·rw [if_pos h2,key]
       exact⟨fun h=>⟨fun _ _ _=>.inr trivial,.inr ⟨s,l,rfl,h1,h2,h⟩⟩,fun h=>by
        rcases h.2 with h | ⟨t,r,e,_,_,h⟩
        ·cases h
        ·cases e;exact h⟩
      ·rw [if_neg h2]
       simp
       intro _ h;exact absurd h h2
   ·rw [if_neg h1]
    cases p with
    | none=>simp [NF,h1]
    | some q=>
      simp
      intro h;exact absurd h h1
theorem YT {l:List Iv} (h:∀ s ∈ l,s.hi<zk):(Zl l).1=0 ↔ Nrm l:=KJ l none 0 h
theorem Yj {l:List Iv} {k:Nat} {p:Option Iv} (h:k<l.length):QZ p (l.drop k) k=if l[k].lo<=l[k].hi then (if (match p with | none=>0 | some q=>zR q l[k])=0 then QZ (some l[k]) (l.drop (k+1)) (k+1) else (3,(k:Int))) else (2,(k:Int)):=by
 rw [List.drop_eq_getElem_cons h];rfl
end Go.Proofs.YtopfkkogooocgaaGreat
