import Derived.Test.YtonhfknjcbakiaaGreatDoorB27
import Derived.Test.YtonhfknjcbakiaaGreatDoorB40
set_option linter.unusedVariables false
set_option linter.unusedSimpArgs false
set_option maxRecDepth 100000
namespace Go.Proofs.YtonhfknjcbakiaaGreatDoor
open Go.RowKit Go.Sort
theorem OwnU.base {base a:Nat} {w:World} {v:Value} {l:List Nat} (h:OwnU base w v l) (hb:a<=base):OwnU a w v l:=by
 refine⟨h.1,?_⟩
 rcases h.2 with h | ⟨g,j,u,e,y,r⟩
 ·exact .inl h
 ·exact .inr ⟨g,j,u,e,Nat.le_trans hb y,r⟩
theorem zeb {w:World} {base:Nat} {v:Value} {l:List Nat} (h:OwnU base w v l) (U:l≠[]) (hl:l.length<4611686018427387904):∃ X,X.Perm l/\X.Pairwise (·<=·) /\
 Calls Tryz.prog 198 #[v] w fun e Y=>e=.returned (.tuple #[])/\OwnU base Y v X/\w.grownBy Y v.ownBlock:=by
 obtain⟨F,hzs⟩:∃ F:List Int,F=l.map fun x:Nat=>(x:Int):=⟨_,rfl⟩
 have K:F.length=l.length:=by rw [hzs];simp
 obtain⟨A,J⟩:∃ A:List Int,A=F.mergeSort fun x y=>decide (x<=y):=⟨_,rfl⟩
 have u:A.Perm F:=by rw [J];exact List.mergeSort_perm _ _
 have H:A.Pairwise (fun x y=>x<=y):=by
  have:=List.pairwise_mergeSort (le:=fun(x y:Int)=>decide (x<=y)) (fun a b c Z Q=>by simp at *;omega) (fun a b=>by simp;omega) F
  rw [<-J] at this
  exact this.imp fun h=>by simpa using h
 have E:∀ z ∈ A,∃ x:Nat,x ∈ l/\z=(x:Int):=fun z hz=>by
  have:=u.mem_iff.1 hz
  rw [hzs,List.mem_map] at this
  obtain⟨x,V,rfl⟩:=this
  exact⟨x,V,rfl⟩
 have T:(A.map Int.toNat).map (fun x:Nat=>(x:Int))=A:=by
  rw [List.map_map]
  refine(List.map_congr_left (g:=id) fun z hz=>?_).trans (List.map_id _)
  obtain⟨x,_,rfl⟩:=E z hz
  simp
 refine⟨A.map Int.toNat,?_,?_,?_⟩
 ·have:=u.map Int.toNat
  rw [hzs,List.map_map] at this
  rwa [show l.map (Int.toNat ∘ fun x:Nat=>(x:Int))=l from (List.map_congr_left (g:=id) fun _ _=>rfl).trans (List.map_id _)] at this
 ·rw [List.pairwise_map]
  exact H.imp fun h=>by omega
 ·rcases h.cases with⟨_,h0⟩ | ⟨g,L,B,rfl,Z,Q,S,h4,h5,h6,h7⟩
  ·exact absurd h0 U
  ·have hH:Holds zg w g 0 F.toArray:=by
    intro j M
    have N:j<l.length:=by rw [<-K];simpa using M
    refine⟨?_,by simp [World.frozen?,S]⟩
    have q:(B.toList.take l.length)[j]? = (l.map uV)[j]?:=by rw [h7]
    rw [List.getElem?_take_of_lt N] at q
    simp only [World.cell?,S,Nat.zero_add]
    simp only [Option.isSome_none,Bool.false_eq_true,if_false]
    rw [<-Array.getElem?_toList,q]
    simp [N,hzs,uV]
   have hc:=j7 g 0 L F w hH Q (by omega)
   rw [K] at hc
   refine hc.mono ?_
   rintro e Y ⟨rfl,n,os,rfl⟩
   rw [<-J]
   have C:A.length=l.length:=by rw [u.length_eq,K]
   have G:(Sort.grow (Sort.putRow zg (Sort.ahead w n) g 0 A.toArray) os).heap[g]? = some (.cells (Sort.putCells zg 0 A.toArray B) 24 (0,0)):=by
    rw [Sort.heap_grow_old _ _ (by simpa using Q)]
    simp [Sort.putRow,Sort.mapBlock,Sort.ahead,Array.getElem?_modify,S,Sort.onCells]
   have I:(Sort.putCells zg 0 A.toArray B).toList.take l.length=(A.map Int.toNat).map uV:=by
    apply List.ext_getElem?
    intro j
    by_cases M:j<l.length
    ·rw [List.getElem?_take_of_lt M,Array.getElem?_toList]
     have O:j<A.length:=by omega
     obtain⟨x,_,V⟩:=E A[j] (List.getElem_mem O)
     simp [Sort.putCells,O,show j<B.size by omega,uV,V]
    ·rw [List.getElem?_take_eq_none (by omega),List.getElem?_eq_none (by simp;omega)]
   refine⟨rfl,⟨by simp [C],.inr ⟨g,L,_,by simp [C],Z,G,by simpa [C] using h4,h5,by simp [Sort.putCells,h6],?_⟩⟩,⟨rfl,rfl,rfl,by simp,fun j M P=>?_⟩⟩
   ·rw [List.length_map,Nat.mul_one,C]
    exact I
   ·rw [Sort.heap_grow_old _ _ (by simpa using M)]
    have:g≠j:=fun e=>P (by rw [<-e];rfl)
    simp [Sort.putRow,Sort.mapBlock,Sort.ahead,Array.getElem?_modify,this]
end Go.Proofs.YtonhfknjcbakiaaGreatDoor
