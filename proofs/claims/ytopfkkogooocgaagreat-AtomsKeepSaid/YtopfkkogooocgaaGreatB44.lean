import Derived.Test.YtopfkkogooocgaaGreatB28
import Derived.Test.YtopfkkogooocgaaGreatB32
set_option linter.unusedVariables false
set_option linter.unusedSimpArgs false
set_option maxRecDepth 100000
namespace Go.Proofs.YtopfkkogooocgaaGreat
open Go.RowKit Go.Sort
theorem OwnU.base {base base':Nat} {w:World} {v:Value} {l:List Nat} (h:OwnU base w v l) (hb:base'<=base):OwnU base' w v l:=by
 refine⟨h.1,?_⟩
 rcases h.2 with h | ⟨g,cap,cur,e,hg,r⟩
 ·exact .inl h
 ·exact .inr ⟨g,cap,cur,e,Nat.le_trans hb hg,r⟩
theorem zeb {w:World} {base:Nat} {v:Value} {l:List Nat} (h:OwnU base w v l) (hne:l≠[]) (hl:l.length<4611686018427387904):∃ l',l'.Perm l/\l'.Pairwise (·<=·) /\
 Calls Tryz.prog 32 #[v] w fun e w'=>e=.returned (.tuple #[])/\OwnU base w' v l'/\w.grownBy w' v.ownBlock:=by
 obtain⟨zs,hzs⟩:∃ zs:List Int,zs=l.map fun x:Nat=>(x:Int):=⟨_,rfl⟩
 have hzl:zs.length=l.length:=by rw [hzs];simp
 obtain⟨ts,hts⟩:∃ ts:List Int,ts=zs.mergeSort fun x y=>decide (x<=y):=⟨_,rfl⟩
 have hperm:ts.Perm zs:=by rw [hts];exact List.mergeSort_perm _ _
 have hsort:ts.Pairwise (fun x y=>x<=y):=by
  have:=List.pairwise_mergeSort (le:=fun(x y:Int)=>decide (x<=y)) (fun a b c h1 h2=>by simp at *;omega) (fun a b=>by simp;omega) zs
  rw [<-hts] at this
  exact this.imp fun h=>by simpa using h
 have hnat:∀ z ∈ ts,∃ x:Nat,x ∈ l/\z=(x:Int):=fun z hz=>by
  have:=hperm.mem_iff.1 hz
  rw [hzs,List.mem_map] at this
  obtain⟨x,hx,rfl⟩:=this
  exact⟨x,hx,rfl⟩
 have hback:(ts.map Int.toNat).map (fun x:Nat=>(x:Int))=ts:=by
  rw [List.map_map]
  refine(List.map_congr_left (g:=id) fun z hz=>?_).trans (List.map_id _)
  obtain⟨x,_,rfl⟩:=hnat z hz
  simp
 refine⟨ts.map Int.toNat,?_,?_,?_⟩
 ·have:=hperm.map Int.toNat
  rw [hzs,List.map_map] at this
  rwa [show l.map (Int.toNat ∘ fun x:Nat=>(x:Int))=l from (List.map_congr_left (g:=id) fun _ _=>rfl).trans (List.map_id _)] at this
 ·rw [List.pairwise_map]
  exact hsort.imp fun h=>by omega
 ·rcases h.cases with⟨_,h0⟩ | ⟨g,cap,cur,rfl,h1,h2,h3,h4,h5,h6,h7⟩
  ·exact absurd h0 hne
  ·have hH:Holds zg w g 0 zs.toArray:=by
    intro j hj
    have hj':j<l.length:=by rw [<-hzl];simpa using hj
    refine⟨?_,by simp [World.frozen?,h3]⟩
    have q:(cur.toList.take l.length)[j]? = (l.map uV)[j]?:=by rw [h7]
    rw [List.getElem?_take_of_lt hj'] at q
    simp only [World.cell?,h3,Nat.zero_add]
    simp only [Option.isSome_none,Bool.false_eq_true,if_false]
    rw [<-Array.getElem?_toList,q]
    simp [hj',hzs,uV]
   have hc:=j7 g 0 cap zs w hH h2 (by omega)
   rw [hzl] at hc
   refine hc.mono ?_
   rintro e w' ⟨rfl,n,os,rfl⟩
   rw [<-hts]
   have htl:ts.length=l.length:=by rw [hperm.length_eq,hzl]
   have hheap:(Sort.grow (Sort.putRow zg (Sort.ahead w n) g 0 ts.toArray) os).heap[g]? = some (.cells (Sort.putCells zg 0 ts.toArray cur) 33 (0,0)):=by
    rw [Sort.heap_grow_old _ _ (by simpa using h2)]
    simp [Sort.putRow,Sort.mapBlock,Sort.ahead,Array.getElem?_modify,h3,Sort.onCells]
   have htake:(Sort.putCells zg 0 ts.toArray cur).toList.take l.length=(ts.map Int.toNat).map uV:=by
    apply List.ext_getElem?
    intro j
    by_cases hj:j<l.length
    ·rw [List.getElem?_take_of_lt hj,Array.getElem?_toList]
     have hjt:j<ts.length:=by omega
     obtain⟨x,_,hx⟩:=hnat ts[j] (List.getElem_mem hjt)
     simp [Sort.putCells,hjt,show j<cur.size by omega,uV,hx]
    ·rw [List.getElem?_take_eq_none (by omega),List.getElem?_eq_none (by simp;omega)]
   refine⟨rfl,⟨by simp [htl],.inr ⟨g,cap,_,by simp [htl],h1,hheap,by simpa [htl] using h4,h5,by simp [Sort.putCells,h6],?_⟩⟩,⟨rfl,rfl,rfl,by simp,fun j hj hne'=>?_⟩⟩
   ·rw [List.length_map,Nat.mul_one,htl]
    exact htake
   ·rw [Sort.heap_grow_old _ _ (by simpa using hj)]
    have:g≠j:=fun e=>hne' (by rw [<-e];rfl)
    simp [Sort.putRow,Sort.mapBlock,Sort.ahead,Array.getElem?_modify,this]
end Go.Proofs.YtopfkkogooocgaaGreat
