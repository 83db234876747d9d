import Derived.Test.YtopfkkogooocgaaGreatB38
import Derived.Test.YtopfkkogooocgaaGreatB40
set_option linter.unusedVariables false
set_option linter.unusedSimpArgs false
set_option maxRecDepth 100000
namespace Go.Proofs.YtopfkkogooocgaaGreat
open Go.RowKit
def OutG (C:Nat->Nat->Prop) (mb base:Nat) (w:World) (v:Value) (o:List Fg):Prop:=
 ∃ xs,OwnC base w v o.length xs/\∀ i (h:i<o.length),∃ a b,xs[i * 2]? = some a/\xs[i * 2+1]? = some b/\Dat (DX C mb w v) w a (rg o[i].items)/\Dat (DX C mb w v) w b (vp o[i].vec)
theorem OutG.start (C:Nat->Nat->Prop) (mb base:Nat) (w:World):OutG C mb base w (.slice none 0 0) []:=⟨[],⟨World.ownsRow_nil _ _ _ _,rfl,by simp⟩,fun i h=>absurd h (by simp)⟩
theorem OutG.owns {C:Nat->Nat->Prop} {mb base:Nat} {w:World} {v:Value} {o:List Fg} (h:OutG C mb base w v o):∀ k,v.ownBlock=some k->base<=k/\k<w.heap.size:=by
 obtain⟨xs,h1,_⟩:=h
 exact h1.1.lt
theorem OutG.shape {C:Nat->Nat->Prop} {mb base:Nat} {w:World} {v:Value} {o:List Fg} (h:OutG C mb base w v o):∃ ad cap,v=.slice ad o.length cap/\o.length<=cap/\cap<=maxLen:=by
 obtain⟨xs,h1,_⟩:=h
 rcases h1.cases with⟨rfl,h0,_⟩ | ⟨g,cap,cur,rfl,_,_,_,h4,h5,_⟩
 ·exact⟨none,0,by rw [h0],by omega,by decide⟩
 ·exact⟨_,cap,rfl,h4,h5⟩
theorem OwnC.keep {base:Nat} {w w':World} {v:Value} {n:Nat} {xs:List Value} (h:OwnC base w v n xs) (hb:∀ k,v.ownBlock=some k->w'.heap[k]? = w.heap[k]?):OwnC base w' v n xs:=by
 refine⟨⟨h.1.1,?_⟩,h.2⟩
 rcases h.1.2 with h | ⟨g,cap,cur,e,hg,hc,r⟩
 ·exact .inl h
 ·exact .inr ⟨g,cap,cur,e,hg,(hb g (by rw [e];rfl)).trans hc,r⟩
theorem OutG.keep {C:Nat->Nat->Prop} {mb base:Nat} {w w':World} {v:Value} {o:List Fg} (h:OutG C mb base w v o) (hs:w.heap.size<=w'.heap.size) (hb:∀ k,k<w.heap.size->w'.heap[k]? = w.heap[k]?):OutG C mb base w' v o:=by
 obtain⟨xs,h1,h2⟩:=h
 refine⟨xs,h1.keep fun k hk=>hb k (h1.1.lt k hk).2,fun i hi=>?_⟩
 obtain⟨a,b,c,d,e,f⟩:=h2 i hi
 exact⟨a,b,c,d,DX.keep e hs fun k hk _=>hb k hk,DX.keep f hs fun k hk _=>hb k hk⟩
theorem DX.grown {C:Nat->Nat->Prop} {mb:Nat} {w w':World} {v v' x:Value} {p:PV} (h:Dat (DX C mb w v) w x p) (hC:∀ b o,C b o->b<mb) (hmb:mb<w.heap.size) (hg:w.grownBy w' v.ownBlock) (hv':v'.ownBlock=v.ownBlock\/v'.ownBlock=some w.heap.size):Dat (DX C mb w' v') w' x p:=
 h.mono (fun b o h=>⟨h.1.imp id fun h=>⟨h.1,Nat.lt_of_lt_of_le h.2 hg.size⟩,fun e=>by
  rcases hv' with hv' | hv'
  ·exact h.2 (hv'.symm.trans e)
  ·rw [hv'] at e
   cases e
   rcases h.1 with h | h
   ·have:=hC _ _ h;omega
   ·omega⟩) fun b o x h hx=>(World.cell?_of_block (a:=⟨b,o,none⟩) (hg.block b (World.block_lt_of_cell? w ⟨b,o,none⟩ hx) fun e=>h.2 e.symm)).trans hx
theorem zeu {D:Nat->Nat->Prop} {w:World} {v:Value} {l:List En} (h:Dat D w v (vp l)):v.oneCell'=true:=by
 have h':Dat D w v (.sl (l.map ec) .sh):=h
 obtain⟨ad,cap,sz,b,off,f,e1,_⟩:=(Rel.dat (ρ:=fun _=>0) (nb:=0) h').inv_sl
 rw [e1];rfl
theorem OutG.insK {C:Nat->Nat->Prop} {mb base:Nat} {w w':World} {v v':Value} {o:List Fg} {f:Fg} {xs:List Value} {p q:Value} {i:Nat} (hi:i<=o.length) (hl:xs.length=o.length * 2)
 (h2:∀ i (h:i<o.length),∃ a b,xs[i * 2]? = some a/\xs[i * 2+1]? = some b/\Dat (DX C mb w v) w a (rg o[i].items)/\Dat (DX C mb w v) w b (vp o[i].vec))
 (hp:Dat (DX C mb w v) w p (rg f.items)) (hq:Dat (DX C mb w v) w q (vp f.vec)) (key:∀ {x:Value} {p:PV},Dat (DX C mb w v) w x p->Dat (DX C mb w' v') w' x p)
 (ho:OwnC base w' v' (o.length+1) (xs.take (i * 2)++[p,q]++xs.drop (i * 2))):OutG C mb base w' v' (o.take i++f::o.drop i):=by
 have hlen:(o.take i++f::o.drop i).length=o.length+1:=by simp;omega
 have ht:(xs.take (i * 2)).length=i * 2:=by simp;omega
 refine⟨_,by rw [hlen];exact ho,fun j hj=>?_⟩
 rw [hlen] at hj
 rcases Nat.lt_trichotomy j i with hlt | heq | hgt
 ·obtain⟨a,b,c,d,e,k⟩:=h2 j (by omega)
  have hg1:(o.take i++f::o.drop i)[j]=o[j]'(by omega):=by
   rw [List.getElem_append_left (by simp;omega),List.getElem_take]
  rw [hg1]
  refine⟨a,b,?_,?_,key e,key k⟩
  ·rw [List.append_assoc,List.getElem?_append_left (by omega),List.getElem?_take,if_pos (by omega)];exact c
  ·rw [List.append_assoc,List.getElem?_append_left (by omega),List.getElem?_take,if_pos (by omega)];exact d
 ·subst heq
  have hg1:(o.take j++f::o.drop j)[j]=f:=by
   rw [List.getElem_append_right (by rw [List.length_take];exact Nat.min_le_left _ _)]
   simp [Nat.min_eq_left hi]
  rw [hg1]
  refine⟨p,q,?_,?_,key hp,key hq⟩
  ·rw [List.append_assoc,List.getElem?_append_right (by omega),ht,Nat.sub_self];rfl
  ·rw [List.append_assoc,List.getElem?_append_right (by omega),ht,show j * 2+1 - j * 2=1 by omega];rfl
 ·obtain⟨a,b,c,d,e,k⟩:=h2 (j - 1) (by omega)
  have hg1:(o.take i++f::o.drop i)[j]=o[j - 1]'(by omega):=by
   rw [List.getElem_append_right (by simp;omega)]
   obtain⟨m,rfl⟩:∃ m,j=i+1+m:=⟨j - (i+1),by omega⟩
   simp only [List.length_take,Nat.min_eq_left hi,show i+1+m - i=m+1 by omega,List.getElem_cons_succ,List.getElem_drop,show i+1+m - 1=i+m by omega]
  rw [hg1]
  have hpq:(xs.take (i * 2)++[p,q]).length=i * 2+2:=by simp;omega
  refine⟨a,b,?_,?_,key e,key k⟩
  ·rw [List.getElem?_append_right (by omega),hpq,List.getElem?_drop,show i * 2+(j * 2 - (i * 2+2))=(j - 1) * 2 by omega];exact c
  ·rw [List.getElem?_append_right (by omega),hpq,List.getElem?_drop,show i * 2+(j * 2+1 - (i * 2+2))=(j - 1) * 2+1 by omega];exact d
theorem OutG.ins {C:Nat->Nat->Prop} {mb base:Nat} {w w':World} {v v':Value} {o:List Fg} {f:Fg} {xs:List Value} {p q:Value} {i:Nat} (hi:i<=o.length) (hl:xs.length=o.length * 2)
 (h2:∀ i (h:i<o.length),∃ a b,xs[i * 2]? = some a/\xs[i * 2+1]? = some b/\Dat (DX C mb w v) w a (rg o[i].items)/\Dat (DX C mb w v) w b (vp o[i].vec))
 (hp:Dat (DX C mb w v) w p (rg f.items)) (hq:Dat (DX C mb w v) w q (vp f.vec)) (hC:∀ b o,C b o->b<mb) (hmb:mb<w.heap.size)
 (ho:OwnC base w' v' (o.length+1) (xs.take (i * 2)++[p,q]++xs.drop (i * 2))) (hg:w.grownBy w' v.ownBlock) (hv':v'.ownBlock=v.ownBlock\/v'.ownBlock=some w.heap.size):OutG C mb base w' v' (o.take i++f::o.drop i):=
 OutG.insK hi hl h2 hp hq (fun h=>DX.grown h hC hmb hg hv') ho
theorem DX.new {C:Nat->Nat->Prop} {mb:Nat} {w w':World} {v v' x:Value} {p:PV} (h:Dat (DX C mb w v) w x p) (hC:∀ b o,C b o->b<w.heap.size) (hb:Below w.heap.size w w') (hv':∀ k,v'.ownBlock=some k->w.heap.size<=k):Dat (DX C mb w' v') w' x p:=
 h.mono (fun b o h=>⟨h.1.imp id fun h=>⟨h.1,Nat.lt_of_lt_of_le h.2 hb.size⟩,fun e=>by
  have:=hv' b e
  rcases h.1 with h | h
  ·have:=hC _ _ h;omega
  ·omega⟩) fun b o x _ hx=>(World.cell?_of_block (a:=⟨b,o,none⟩) (hb.block b (World.block_lt_of_cell? w ⟨b,o,none⟩ hx))).trans hx
theorem OutG.set {C:Nat->Nat->Prop} {mb base g:Nat} {w:World} {cap:Nat} {o:List Fg} {l:List Iv} {a0:Value} {i:Nat} (h:OutG C mb base w (.slice (some ⟨g,0,none⟩) o.length cap) o) (hi:i<o.length) (ha:Dat (DX C mb w (.slice (some ⟨g,0,none⟩) o.length cap)) w a0 (rg l)) (hcap:0<cap) :
 OutG C mb base (w.setCell ⟨g,i * 2,none⟩ a0) (.slice (some ⟨g,0,none⟩) o.length cap) (o.take i++⟨l,o[i].vec⟩::o.drop (i+1)):=by
 obtain⟨xs,h1,h2⟩:=h
 have hlen:(o.take i++(⟨l,o[i].vec⟩:Fg)::o.drop (i+1)).length=o.length:=by simp;omega
 obtain⟨s1,s2⟩:=h1.1.stored (i * 2) a0
 have hbk:(Value.slice (some ⟨g,0,none⟩) o.length cap).ownBlock=some g:=by
  cases cap with
  | zero=>omega
  | succ c=>rfl
 have key:∀ {x:Value} {p:PV},Dat (DX C mb w (.slice (some ⟨g,0,none⟩) o.length cap)) w x p->Dat (DX C mb (w.setCell ⟨g,i * 2,none⟩ a0) (.slice (some ⟨g,0,none⟩) o.length cap)) (w.setCell ⟨g,i * 2,none⟩ a0) x p:=fun h=>
  DX.keep h (by simp) fun k hk hne=>Below.heap_setCell _ _ _ _ fun e=>hne (by rw [hbk];exact congrArg some e.symm)
 refine⟨xs.set (i * 2) a0,⟨by rw [hlen];exact s1,by rw [hlen,List.length_set];exact h1.2.1,fun u hu=>?_⟩,fun j hj=>?_⟩
 ·rcases List.mem_or_eq_of_mem_set hu with hu | rfl
  ·exact h1.2.2 u hu
  ·exact Ki ha
 ·have hj':j<o.length:=by rw [hlen] at hj;exact hj
  obtain⟨a,b,c,d,e,k⟩:=h2 j hj'
  have hxl:=h1.2.1
  by_cases hji:j=i
  ·subst hji
   have hg1:(o.take j++(⟨l,o[j].vec⟩:Fg)::o.drop (j+1))[j]=⟨l,o[j].vec⟩:=by
    rw [List.getElem_append_right (by rw [List.length_take];exact Nat.min_le_left _ _)]
    simp [Nat.min_eq_left (Nat.le_of_lt hi)]
   rw [hg1]
   refine⟨a0,b,?_,?_,key ha,key k⟩
   ·rw [List.getElem?_set_self (by omega)]
   ·rw [List.getElem?_set_ne (by omega)];exact d
  ·have hg1:(o.take i++(⟨l,o[i].vec⟩:Fg)::o.drop (i+1))[j]=o[j]:=by
    rcases Nat.lt_or_gt_of_ne hji with hlt | hgt
    ·rw [List.getElem_append_left (by simp;omega),List.getElem_take]
    ·rw [List.getElem_append_right (by simp;omega)]
     obtain⟨m,rfl⟩:∃ m,j=i+1+m:=⟨j - (i+1),by omega⟩
     simp only [List.length_take,Nat.min_eq_left (Nat.le_of_lt hi),show i+1+m - i=m+1 by omega,List.getElem_cons_succ,List.getElem_drop]
   rw [hg1]
   refine⟨a,b,?_,?_,key e,key k⟩
   ·rw [List.getElem?_set_ne (by omega)];exact c
   ·rw [List.getElem?_set_ne (by omega)];exact d
theorem OutG.dat {C:Nat->Nat->Prop} {mb base:Nat} {w:World} {v:Value} {o:List Fg} (h:OutG C mb base w v o) (hb:mb<base):Dat (DL C mb w) w v (kp o):=by
 obtain⟨xs,h1,h2⟩:=h
 rcases h1.1.2 with⟨rfl,h0⟩ | ⟨g,cap,cur,rfl,hg,hc,hn,hm,hs,ht⟩
 ·obtain rfl:=List.length_eq_zero_iff.1 h0
  exact .sl none 0 2 [] .sh 0 0 (fun _=>undef) (by simp) (fun h=>by cases h) (by decide) (fun h=>absurd rfl h) (fun i e h=>by simp at h) (fun j h=>by simp at h) (fun i e j p h=>by simp at h)
 ·have hlt:=(Array.getElem?_eq_some_iff.1 hc).1
  have cells:∀ j x,xs[j]? = some x->w.cell? ⟨g,j,none⟩=some x:=fun j x hx=>by
   have:=h1.1.cells (g:=g) rfl j x hx
   rw [zh,Nat.zero_add] at this
   exact this
  have hcell:∀ i (h:i<o.length) j p,(fc o[i])[j]? = some p->∃ x,xs[i * 2+j]? = some x/\Dat (DL C mb w) w x p/\x.oneCell'=true:=fun i h j p hp=>by
   obtain⟨a,b,c,d,e,k⟩:=h2 i h
   match j,hp with
   | 0,hp=>cases hp;exact⟨_,c,e.mono (fun _ _ h=>h.1) fun _ _ _ _ h=>h,Ki e⟩
   | 1,hp=>cases hp;exact⟨_,d,k.mono (fun _ _ h=>h.1) fun _ _ _ _ h=>h,zeu k⟩
   | j+2,hp=>simp [fc] at hp
  have hmap:∀(i:Nat) (e:List PV),(o.map fc)[i]? = some e->∃ h:i<o.length,e=fc o[i]:=fun i e he=>by
   rw [List.getElem?_map] at he
   obtain⟨x,hx,rfl⟩:=Option.map_eq_some_iff.1 he
   obtain⟨h,rfl⟩:=List.getElem?_eq_some_iff.1 hx
   exact⟨h,rfl⟩
  have hlen:(o.map fc).length=o.length:=List.length_map _
  unfold kp
  rw [<-hlen]
  refine .sl (some ⟨g,0,none⟩) cap 2 (o.map fc) .sh g 0 (fun j=>(xs[j]?).getD undef) (by rw [hlen];exact hn) (fun h=>by cases h) hm (fun _=>rfl) (fun i e he=>?_) (fun j hj=>?_) (fun i e j p he hp=>?_)
  ·obtain⟨h,rfl⟩:=hmap i e he
   rfl
  ·rw [hlen] at hj
   have hi:j / 2<o.length:=by omega
   have h3:j % 2<(fc o[j / 2]).length:=Nat.mod_lt _ (by decide)
   obtain⟨x,hx,_,ho⟩:=hcell (j / 2) hi (j % 2) ((fc o[j / 2])[j % 2]) (List.getElem?_eq_getElem h3)
   rw [show j / 2 * 2+j % 2=j by omega] at hx
   rw [Nat.zero_add]
   refine⟨.inr ⟨by omega,hlt⟩,?_,?_⟩
   ·rw [hx];exact cells j x hx
   ·rw [hx];exact ho
  ·obtain⟨h,rfl⟩:=hmap i e he
   obtain⟨x,hx,hd,_⟩:=hcell i h j p hp
   rw [hx]
   exact hd
theorem OutG.box {C:Nat->Nat->Prop} {mb base rb:Nat} {w:World} {v x:Value} {o:List Fg} (h:OutG C mb base w v o) (hb:rb<mb) (hrb:rb<base) (hC:∀ b o,C b o->b≠rb):OutG C mb base (w.setCell ⟨rb,0,none⟩ x) v o:=by
 have key:∀ {y:Value} {p:PV},Dat (DX C mb w v) w y p->Dat (DX C mb (w.setCell ⟨rb,0,none⟩ x) v) (w.setCell ⟨rb,0,none⟩ x) y p:=fun h=>
  h.mono (fun b o h=>⟨h.1.imp id fun h=>⟨h.1,by simpa using h.2⟩,h.2⟩) fun b o y h hy=>(World.cell?_of_block (a:=⟨b,o,none⟩) (Below.heap_setCell _ _ _ _ (by
   show b≠rb
   rcases h.1 with h | h
   ·exact hC _ _ h
   ·omega))).trans hy
 obtain⟨xs,h1,h2⟩:=h
 refine⟨xs,h1.keep fun k hk=>Below.heap_setCell _ _ _ _ (by have:=(h1.1.lt k hk).1;show k≠rb;omega),fun i hi=>?_⟩
 obtain⟨a,b,c,d,e,f⟩:=h2 i hi
 exact⟨a,b,c,d,key e,key f⟩
theorem zq9 {w:World} {base:Nat} {e:TypeId} {sz:Nat} {v:Value} {n:Nat} {xs ys:List Value} (h:w.ownsRow base e sz v n xs) (g:w.ownsRow base e sz v n ys):xs=ys:=by
 have h1:=h.1
 have g1:=g.1
 rcases h.2 with⟨rfl,h0⟩ | ⟨b,cap,cur,rfl,_,hc,_,_,_,ht⟩
 ·subst h0
  rw [List.length_eq_zero_iff.1 (by omega:xs.length=0),List.length_eq_zero_iff.1 (by omega:ys.length=0)]
 ·rcases g.2 with⟨e,_⟩ | ⟨b',cap',cur',e,_,hc',_,_,_,ht'⟩
  ·cases e
  ·cases e
   rw [hc] at hc'
   cases hc'
   exact ht.symm.trans ht'
def Bo (base:Nat) (w:World) (v:Value) (b:Nat):Prop:=(base<=b/\b<w.heap.size)/\v.ownBlock≠some b
def MG (base:Nat) (w:World) (v:Value) (n:Nat):Prop:=
 ∃ xs,w.ownsRow base 32 2 v n xs/\∀ i,i<n->∃ a b,xs[i * 2]? = some a/\xs[i * 2+1]? = some b/\MuI (Bo base w v) w a/\MuE (Bo base w v) w b
theorem MG.nil (base:Nat) (w:World):MG base w (.slice none 0 0) 0:=⟨[],World.ownsRow_nil _ _ _ _,fun i h=>absurd h (Nat.not_lt_zero _)⟩
theorem Bo.keep {base:Nat} {w w':World} {v:Value} {b:Nat} (h:Bo base w v b) (hs:w.heap.size<=w'.heap.size):Bo base w' v b:=⟨⟨h.1.1,Nat.lt_of_lt_of_le h.1.2 hs⟩,h.2⟩
theorem MG.keep {base n:Nat} {w w':World} {v:Value} (h:MG base w v n) (hs:w.heap.size<=w'.heap.size) (hb:∀ k,base<=k->k<w.heap.size->w'.heap[k]? = w.heap[k]?):MG base w' v n:=by
 obtain⟨xs,h1,h2⟩:=h
 refine⟨xs,⟨h1.1,?_⟩,fun i hi=>?_⟩
 ·rcases h1.2 with h | ⟨g,cap,cur,e,hg,hc,r⟩
  ·exact .inl h
  ·exact .inr ⟨g,cap,cur,e,hg,(hb g hg (Array.getElem?_eq_some_iff.1 hc).1).trans hc,r⟩
 ·obtain⟨a,b,c,d,e,f⟩:=h2 i hi
  exact⟨a,b,c,d,(e.same fun b h hl=>hb b h.1.1 hl).mono fun b h=>h.keep hs,(f.same fun b h hl=>hb b h.1.1 hl).mono fun b h=>h.keep hs⟩
theorem Bo.grown {base:Nat} {w w':World} {v v':Value} {b:Nat} (h:Bo base w v b) (hs:w.heap.size<=w'.heap.size) (hv:v'.ownBlock=v.ownBlock\/v'.ownBlock=some w.heap.size):Bo base w' v' b:=⟨⟨h.1.1,Nat.lt_of_lt_of_le h.1.2 hs⟩,fun e=>by
 rcases hv with hv | hv
 ·exact h.2 (hv.symm.trans e)
 ·rw [hv] at e
  cases e
  exact absurd h.1.2 (Nat.lt_irrefl _)⟩
theorem MG.ins {base n i:Nat} {w w':World} {v v':Value} {xs:List Value} {p q:Value} (h:MG base w v n) (hi:i<=n) (hx:w.ownsRow base 32 2 v n xs) (hp:MuI (Bo base w v) w p) (hq:MuE (Bo base w v) w q)
 (ho:w'.ownsRow base 32 2 v' (n+1) (xs.take (i * 2)++[p,q]++xs.drop (i * 2))) (hg:w.grownBy w' v.ownBlock) (hv':v'.ownBlock=v.ownBlock\/v'.ownBlock=some w.heap.size):MG base w' v' (n+1):=by
 obtain⟨ys,h1,h2⟩:=h
 obtain rfl:=zq9 h1 hx
 have hl:=h1.1
 have kI:∀ {x:Value},MuI (Bo base w v) w x->MuI (Bo base w' v') w' x:=fun h=>(h.same fun b hb hlt=>hg.block b hlt fun e=>hb.2 e.symm).mono fun b h=>h.grown hg.size hv'
 have kE:∀ {x:Value},MuE (Bo base w v) w x->MuE (Bo base w' v') w' x:=fun h=>(h.same fun b hb hlt=>hg.block b hlt fun e=>hb.2 e.symm).mono fun b h=>h.grown hg.size hv'
 have ht:(ys.take (i * 2)).length=i * 2:=by simp;omega
 refine⟨_,ho,fun j hj=>?_⟩
 rcases Nat.lt_trichotomy j i with hlt | heq | hgt
 ·obtain⟨a,b,c,d,e,k⟩:=h2 j (by omega)
  refine⟨a,b,?_,?_,kI e,kE k⟩
  ·rw [List.append_assoc,List.getElem?_append_left (by omega),List.getElem?_take,if_pos (by omega)];exact c
  ·rw [List.append_assoc,List.getElem?_append_left (by omega),List.getElem?_take,if_pos (by omega)];exact d
 ·subst heq
  refine⟨p,q,?_,?_,kI hp,kE hq⟩
  ·rw [List.append_assoc,List.getElem?_append_right (by omega),ht,Nat.sub_self];rfl
  ·rw [List.append_assoc,List.getElem?_append_right (by omega),ht,show j * 2+1 - j * 2=1 by omega];rfl
 ·obtain⟨a,b,c,d,e,k⟩:=h2 (j - 1) (by omega)
  have hpq:(ys.take (i * 2)++[p,q]).length=i * 2+2:=by simp;omega
  refine⟨a,b,?_,?_,kI e,kE k⟩
  ·rw [List.getElem?_append_right (by omega),hpq,List.getElem?_drop,show i * 2+(j * 2 - (i * 2+2))=(j - 1) * 2 by omega];exact c
  ·rw [List.getElem?_append_right (by omega),hpq,List.getElem?_drop,show i * 2+(j * 2+1 - (i * 2+2))=(j - 1) * 2+1 by omega];exact d
theorem MG.set {base g n cap i:Nat} {w:World} {a0:Value} (h:MG base w (.slice (some ⟨g,0,none⟩) n cap) n) (hi:i<n) (ha:MuI (Bo base w (.slice (some ⟨g,0,none⟩) n cap)) w a0) (hcap:0<cap):MG base (w.setCell ⟨g,i * 2,none⟩ a0) (.slice (some ⟨g,0,none⟩) n cap) n:=by
 obtain⟨xs,h1,h2⟩:=h
 have hbk:(Value.slice (some ⟨g,0,none⟩) n cap).ownBlock=some g:=by
  cases cap with
  | zero=>omega
  | succ c=>rfl
 have hn:∀ b,Bo base w (.slice (some ⟨g,0,none⟩) n cap) b->b<w.heap.size->(w.setCell ⟨g,i * 2,none⟩ a0).heap[b]? = w.heap[b]?:=fun b hb _=>Below.heap_setCell _ _ _ _ fun e=>hb.2 (by rw [hbk];exact congrArg some e.symm)
 have hm:∀ b,Bo base w (.slice (some ⟨g,0,none⟩) n cap) b->Bo base (w.setCell ⟨g,i * 2,none⟩ a0) (.slice (some ⟨g,0,none⟩) n cap) b:=fun b hb=>hb.keep (by simp)
 obtain⟨s1,_⟩:=h1.stored (i * 2) a0
 refine⟨_,s1,fun j hj=>?_⟩
 obtain⟨a,b,c,d,e,k⟩:=h2 j hj
 by_cases hji:j=i
 ·subst hji
  have l1:=(List.getElem?_eq_some_iff.1 c).1
  exact⟨a0,b,by rw [List.getElem?_set_self l1],by rw [List.getElem?_set_ne (by omega)];exact d,(ha.same hn).mono hm,(k.same hn).mono hm⟩
 ·exact⟨a,b,by rw [List.getElem?_set_ne (by omega)];exact c,by rw [List.getElem?_set_ne (by omega)];exact d,(e.same hn).mono hm,(k.same hn).mono hm⟩
theorem MG.push {base n:Nat} {w w':World} {v v':Value} {xs:List Value} {p q:Value} (h:MG base w v n) (hx:w.ownsRow base 32 2 v n xs) (hp:MuI (Bo base w v) w p) (hq:MuE (Bo base w v) w q)
 (ho:w'.ownsRow base 32 2 v' (n+1) (xs++[p,q])) (hg:w.grownBy w' v.ownBlock) (hv':v'.ownBlock=v.ownBlock\/v'.ownBlock=some w.heap.size):MG base w' v' (n+1):=by
 have hl:=hx.1
 refine h.ins (Nat.le_refl n) hx hp hq ?_ hg hv'
 rw [List.take_of_length_le (by omega),List.drop_of_length_le (by omega),List.append_nil]
 exact ho
theorem MG.mu {base n:Nat} {w:World} {v:Value} (h:MG base w v n):MuF (base<=·) w v:=by
 obtain⟨xs,h1,h2⟩:=h
 rcases h1.2 with⟨rfl,h0⟩ | ⟨g,cap,cur,rfl,hg,hc,hn,hm,hs,ht⟩
 ·exact⟨0,MuR.nil⟩
 ·refine⟨n,some ⟨g,0,none⟩,cap,rfl,hn,hm,fun _=>⟨g,0,rfl,fun j hj=>?_⟩⟩
  have key:∀ i x,xs[i]? = some x->w.cell? ⟨g,i,none⟩=some x:=fun i x hx=>by
   rw [<-ht] at hx
   have hx':cur[i]? = some x:=by
    rw [List.getElem?_take] at hx
    split at hx
    ·simpa using hx
    ·cases hx
   simp [World.cell?,hc,hx']
  obtain⟨a,b,c,d,e,f⟩:=h2 j hj
  simp only [Nat.zero_add]
  exact⟨⟨a,key _ _ c,e.mono fun b h=>h.1.1⟩,b,key _ _ d,f.mono fun b h=>h.1.1⟩
theorem MG.app {base n m:Nat} {w w':World} {v v':Value} {xs ys:List Value} (h:MG base w v n) (hx:w.ownsRow base 32 2 v n xs)
 (hy:∀ i,i<m->∃ a b,ys[i * 2]? = some a/\ys[i * 2+1]? = some b/\MuI (Bo base w v) w a/\MuE (Bo base w v) w b)
 (ho:w'.ownsRow base 32 2 v' (n+m) (xs++ys)) (hg:w.grownBy w' v.ownBlock) (hv':v'.ownBlock=v.ownBlock\/v'.ownBlock=some w.heap.size):MG base w' v' (n+m):=by
 obtain⟨zs,h1,h2⟩:=h
 obtain rfl:=zq9 h1 hx
 have hl:=h1.1
 have kI:∀ {x:Value},MuI (Bo base w v) w x->MuI (Bo base w' v') w' x:=fun h=>(h.same fun b hb hlt=>hg.block b hlt fun e=>hb.2 e.symm).mono fun b h=>h.grown hg.size hv'
 have kE:∀ {x:Value},MuE (Bo base w v) w x->MuE (Bo base w' v') w' x:=fun h=>(h.same fun b hb hlt=>hg.block b hlt fun e=>hb.2 e.symm).mono fun b h=>h.grown hg.size hv'
 refine⟨_,ho,fun j hj=>?_⟩
 by_cases hlt:j<n
 ·obtain⟨a,b,c,d,e,k⟩:=h2 j hlt
  exact⟨a,b,by rw [List.getElem?_append_left (by omega)];exact c,by rw [List.getElem?_append_left (by omega)];exact d,kI e,kE k⟩
 ·obtain⟨a,b,c,d,e,k⟩:=hy (j - n) (by omega)
  refine⟨a,b,?_,?_,kI e,kE k⟩
  ·rw [List.getElem?_append_right (by omega),hl,show j * 2 - n * 2=(j - n) * 2 by omega];exact c
  ·rw [List.getElem?_append_right (by omega),hl,show j * 2+1 - n * 2=(j - n) * 2+1 by omega];exact d
theorem MuF.row {S:Nat->Prop} {w:World} {a:Option Addr} {m c:Nat} (h:MuF S w (.slice a m c)):∃ ys:List Value,ys.length=m * 2/\((m=0/\a=none)\/∃ p,a=some p/\∀ j u,ys[j]? = some u->w.cell? (p.add j)=some u)/\(∀ u ∈ ys,u.oneCell'=true) /\
 ∀ i,i<m->∃ x y,ys[i * 2]? = some x/\ys[i * 2+1]? = some y/\MuI S w x/\MuE S w y:=by
 by_cases h0:m=0
 ·subst h0
  refine⟨[],rfl,?_,fun _ h=>by simp at h,fun i h=>absurd h (Nat.not_lt_zero _)⟩
  cases a with
  | none=>exact .inl ⟨rfl,rfl⟩
  | some p=>exact .inr ⟨p,rfl,fun j u h=>by simp at h⟩
 ·obtain⟨n',a',cap,e,_,_,h3⟩:=h
  cases e
  obtain⟨b,off,rfl,h4⟩:=h3 h0
  have key:∀ j,j<m * 2->∃ u,w.cell? ⟨b,off+j,none⟩=some u/\u.oneCell'=true:=fun j hj=>by
   obtain⟨⟨x,q1,q2⟩,y,q3,q4⟩:=h4 (j / 2) (by omega)
   rcases Nat.mod_two_eq_zero_or_one j with e | e
   ·rw [show off+j / 2 * 2=off+j by omega] at q1
    obtain⟨_,_,_,rfl,_⟩:=q2
    exact⟨_,q1,rfl⟩
   ·rw [show off+j / 2 * 2+1=off+j by omega] at q3
    obtain⟨_,_,_,rfl,_⟩:=q4
    exact⟨_,q3,rfl⟩
  refine⟨(List.range (m * 2)).map fun j=>(w.cell? ⟨b,off+j,none⟩).getD undef,by simp,.inr ⟨_,rfl,fun j u hu=>?_⟩,fun u hu=>?_,fun i hi=>?_⟩
  ·rw [List.getElem?_map] at hu
   obtain⟨k,hk,rfl⟩:=Option.map_eq_some_iff.1 hu
   obtain⟨hk1,rfl⟩:=List.getElem?_eq_some_iff.1 hk
   rw [List.length_range] at hk1
   obtain⟨u,hu,_⟩:=key j hk1
   rw [zh,List.getElem_range,hu]
   rfl
  ·obtain⟨j,hj,rfl⟩:=List.mem_map.1 hu
   obtain⟨u,hu,ho⟩:=key j (by simpa using hj)
   rw [hu]
   exact ho
  ·obtain⟨⟨x,q1,q2⟩,y,q3,q4⟩:=h4 i hi
   refine⟨x,y,?_,?_,q2,q4⟩
   ·rw [List.getElem?_map,List.getElem?_range (by omega),Option.map_some,q1];rfl
   ·rw [List.getElem?_map,List.getElem?_range (by omega),Option.map_some,<-Nat.add_assoc,q3];rfl
end Go.Proofs.YtopfkkogooocgaaGreat
