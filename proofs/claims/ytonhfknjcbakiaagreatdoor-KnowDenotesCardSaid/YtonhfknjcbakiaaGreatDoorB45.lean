import Derived.Test.YtonhfknjcbakiaaGreatDoorB44
set_option linter.unusedVariables false
set_option linter.unusedSimpArgs false
set_option maxRecDepth 100000
namespace Go.Proofs.YtonhfknjcbakiaaGreatDoor
open Go.RowKit
theorem zqB (z:Value) (n:Nat):(madeCells #[z,z] (n * 2)).toList=List.replicate (n * 2) z:=by
 apply List.ext_getElem?
 intro j
 by_cases hj:j<n * 2
 ·have h2:j % 2=0\/j % 2=1:=by omega
  rcases h2 with h2 | h2<;>simp [madeCells,hj,h2]
 ·simp [madeCells,hj]
theorem OutG.zeros {C:Nat->Nat->Prop} {mb base g n:Nat} {w:World} (ho:w.ownsRow base 34 2 (.slice (some ⟨g,0,none⟩) n n) n (List.replicate (n * 2) (.slice none 0 0))):OutG C mb base w (.slice (some ⟨g,0,none⟩) n n) (List.replicate n ⟨[],[]⟩):=by
 refine⟨List.replicate (n * 2) (.slice none 0 0),⟨by rw [List.length_replicate];exact ho,by simp,fun u hu=>by rw [List.eq_of_mem_replicate hu];rfl⟩,fun i hi=>?_⟩
 have hi':i<n:=by simpa using hi
 refine⟨.slice none 0 0,.slice none 0 0,by rw [List.getElem?_replicate,if_pos (by omega)],by rw [List.getElem?_replicate,if_pos (by omega)],?_,?_⟩
 ·rw [List.getElem_replicate];exact zog
 ·rw [List.getElem_replicate];exact zog
theorem OutG.setW {C:Nat->Nat->Prop} {mb base g:Nat} {w:World} {cap:Nat} {o:List Fg} {l:List En} {a0:Value} {i n:Nat} (hn:o.length=n) (h:OutG C mb base w (.slice (some ⟨g,0,none⟩) n cap) o) (hi:i<o.length) (ha:Dat (DX C mb w (.slice (some ⟨g,0,none⟩) n cap)) w a0 (vp l)) (hcap:0<cap) :
 OutG C mb base (w.setCell ⟨g,i * 2+1,none⟩ a0) (.slice (some ⟨g,0,none⟩) n cap) (o.take i++⟨o[i].items,l⟩::o.drop (i+1)):=by
 subst hn
 obtain⟨xs,h1,h2⟩:=h
 have hlen:(o.take i++(⟨o[i].items,l⟩:Fg)::o.drop (i+1)).length=o.length:=by simp;omega
 obtain⟨s1,s2⟩:=h1.1.stored (i * 2+1) a0
 have hbk:(Value.slice (some ⟨g,0,none⟩) o.length cap).ownBlock=some g:=by
  cases cap with
  | zero=>omega
  | succ c=>rfl
 have key:∀ {x:Value} {p:PV},Dat (DX C mb w (.slice (some ⟨g,0,none⟩) o.length cap)) w x p->Dat (DX C mb (w.setCell ⟨g,i * 2+1,none⟩ a0) (.slice (some ⟨g,0,none⟩) o.length cap)) (w.setCell ⟨g,i * 2+1,none⟩ a0) x p:=fun h=>
  DX.keep h (by simp) fun k hk hne=>Below.heap_setCell _ _ _ _ fun e=>hne (by rw [hbk];exact congrArg some e.symm)
 refine⟨xs.set (i * 2+1) a0,⟨by rw [hlen];exact s1,by rw [hlen,List.length_set];exact h1.2.1,fun u hu=>?_⟩,fun j hj=>?_⟩
 ·rcases List.mem_or_eq_of_mem_set hu with hu | rfl
  ·exact h1.2.2 u hu
  ·exact zeu ha
 ·have hj':j<o.length:=by rw [hlen] at hj;exact hj
  obtain⟨a,b,c,d,e,k⟩:=h2 j hj'
  have hxl:=h1.2.1
  by_cases hji:j=i
  ·subst hji
   have hg1:(o.take j++(⟨o[j].items,l⟩:Fg)::o.drop (j+1))[j]=⟨o[j].items,l⟩:=by
    rw [List.getElem_append_right (by rw [List.length_take];exact Nat.min_le_left _ _)]
    simp [Nat.min_eq_left (Nat.le_of_lt hi)]
   rw [hg1]
   refine⟨a,a0,?_,?_,key e,key ha⟩
   ·rw [List.getElem?_set_ne (by omega)];exact c
   ·rw [List.getElem?_set_self (by omega)]
  ·have hg1:(o.take i++(⟨o[i].items,l⟩:Fg)::o.drop (i+1))[j]=o[j]:=by
    rcases Nat.lt_or_gt_of_ne hji with hlt | hgt
    ·rw [List.getElem_append_left (by simp;omega),List.getElem_take]
    ·rw [List.getElem_append_right (by simp;omega)]
     obtain⟨m,rfl⟩:∃ m,j=i+1+m:=⟨j - (i+1),by omega⟩
     simp only [List.length_take,Nat.min_eq_left (Nat.le_of_lt hi),show i+1+m - i=m+1 by omega,List.getElem_cons_succ,List.getElem_drop]
   rw [hg1]
   refine⟨a,b,?_,?_,key e,key k⟩
   ·rw [List.getElem?_set_ne (by omega)];exact c
   ·rw [List.getElem?_set_ne (by omega)];exact d
theorem OutG.put {C:Nat->Nat->Prop} {mb base g n:Nat} {w:World} {cap:Nat} {o:List Fg} {f:Fg} {a0 b0:Value} {i:Nat} (hn:o.length=n) (h:OutG C mb base w (.slice (some ⟨g,0,none⟩) n cap) o) (hi:i<n) (ha:Dat (DX C mb w (.slice (some ⟨g,0,none⟩) n cap)) w a0 (rg f.items)) (hb:Dat (DX C mb w (.slice (some ⟨g,0,none⟩) n cap)) w b0 (vp f.vec)) (hcap:0<cap) :
 OutG C mb base ((w.setCell ⟨g,i * 2,none⟩ a0).setCell ⟨g,i * 2+1,none⟩ b0) (.slice (some ⟨g,0,none⟩) n cap) (o.take i++f::o.drop (i+1)):=by
 subst hn
 have hbk:(Value.slice (some ⟨g,0,none⟩) o.length cap).ownBlock=some g:=by
  cases cap with
  | zero=>omega
  | succ c=>rfl
 have hb':Dat (DX C mb (w.setCell ⟨g,i * 2,none⟩ a0) (.slice (some ⟨g,0,none⟩) o.length cap)) (w.setCell ⟨g,i * 2,none⟩ a0) b0 (vp f.vec):=
  DX.keep hb (by simp) fun k hk hne=>Below.heap_setCell _ _ _ _ fun e=>hne (by rw [hbk];exact congrArg some e.symm)
 have h1:=h.set hi ha hcap
 have hl1:(o.take i++(⟨f.items,o[i].vec⟩:Fg)::o.drop (i+1)).length=o.length:=by simp;omega
 have h2:=OutG.setW (i:=i) (l:=f.vec) (a0:=b0) hl1 h1 (by rw [hl1];exact hi) hb' hcap
 have ht:(o.take i).length=i:=by simp;omega
 have e1:(o.take i++(⟨f.items,o[i].vec⟩:Fg)::o.drop (i+1)).take i=o.take i:=by rw [List.take_append_of_le_length (by omega),List.take_of_length_le (by omega)]
 have e2:(o.take i++(⟨f.items,o[i].vec⟩:Fg)::o.drop (i+1)).drop (i+1)=o.drop (i+1):=by
  rw [List.drop_append,ht,List.drop_of_length_le (by omega),show i+1 - i=1 by omega];rfl
 have e3:(o.take i++(⟨f.items,o[i].vec⟩:Fg)::o.drop (i+1))[i]'(by rw [hl1];exact hi)=⟨f.items,o[i].vec⟩:=by
  rw [List.getElem_append_right (by omega)]
  simp [ht]
 rw [e1,e2,e3] at h2
 exact h2
def zoL (k:List Fg) (items:List Iv) (j:Nat):List Fg:=(zl5 k items).take j++List.replicate (k.length - j) ⟨[],[]⟩
theorem zqq {k:List Fg} {items:List Iv} {j:Nat} (hj:j<=k.length):(zoL k items j).length=k.length:=by
 have:(zl5 k items).length=k.length:=List.length_map _
 unfold zoL
 rw [List.length_append,List.length_take,List.length_replicate]
 omega
theorem zp6 (k:List Fg) (items:List Iv):zoL k items 0=List.replicate k.length ⟨[],[]⟩:=rfl
theorem zqp (k:List Fg) (items:List Iv):zoL k items k.length=zl5 k items:=by
 have:(zl5 k items).length=k.length:=List.length_map _
 unfold zoL
 rw [List.take_of_length_le (by omega),Nat.sub_self]
 simp
theorem zp5 {k:List Fg} {items:List Iv} {j:Nat} (hj:j<k.length):zoL k items (j+1)=(zoL k items j).take j++⟨qy y5 k[j].items items,k[j].vec⟩::(zoL k items j).drop (j+1):=by
 have hl:(zl5 k items).length=k.length:=List.length_map _
 have ht:((zl5 k items).take j).length=j:=by rw [List.length_take];omega
 have hg:(zl5 k items)[j]'(by omega)=⟨qy y5 k[j].items items,k[j].vec⟩:=List.getElem_map _
 unfold zoL
 rw [List.take_succ_eq_append_getElem (by omega),hg,List.append_assoc,List.take_append_of_le_length (by omega),List.take_of_length_le (l:=(zl5 k items).take j) (by omega)]
 congr 1
 rw [List.drop_append,List.drop_of_length_le (by omega),ht,List.drop_replicate,show k.length - j - (j+1 - j)=k.length - (j+1) by omega]
 rfl
end Go.Proofs.YtonhfknjcbakiaaGreatDoor
