import Derived.Test.YtjimggclhlnfbaaGreatB15
set_option maxHeartbeats 16000000
set_option linter.unusedVariables false
set_option linter.unusedSimpArgs false
set_option maxRecDepth 100000
namespace Go.Proofs.YtjimggclhlnfbaaGreat
open Go.RowKit
theorem zgG {x:List Iv} (hx:Nrm x):qF zO x []=x:=xC hx trivial hx fun t _=>by simp [zO]
theorem kn0 (r m:Nat) (hm:m<zk):kn ⟨r,m,[]⟩=[⟨0,m⟩]:=zgG (qN (Nat.zero_le _) hm)
def u10:List En:=[⟨1,4,[]⟩,⟨2,3,[]⟩]
theorem zbJ {l:List Iv} {x:Nat} (hm:mem l x=true) (h0:x=0\/mem l (x - 1)=false):x ∈ l.map Iv.lo:=by
 obtain⟨s,hs,h1,h2⟩:=qb.1 hm
 refine List.mem_map.2 ⟨s,hs,?_⟩
 rcases Nat.lt_or_eq_of_le h1 with h3 | h3
 ·rcases h0 with h0 | h0
  ·omega
  ·have:mem l (x - 1)=true:=qb.2 ⟨s,hs,by omega,by omega⟩
   rw [this] at h0;cases h0
 ·exact h3
theorem zaj {a b:List Iv} (ha:Nrm a) (hb:Nrm b):(qF zr a b).length<=a.length+b.length:=by
 have hn:=qO (f:=zr) ha hb
 have:=X5 ((qF zr a b).map Iv.lo) (a.map Iv.lo++b.map Iv.lo) (NF.asc hn) fun y hy=>by
  obtain⟨s,hs,rfl⟩:=List.mem_map.1 hy
  have h1:=NF.lo_ge hn s hs
  have hm:mem (qF zr a b) s.lo=true:=qb.2 ⟨s,hs,Nat.le_refl _,h1.2.1⟩
  have hp:s.lo=0\/(mem a (s.lo - 1)=false/\mem b (s.lo - 1)=false):=by
   by_cases h0:s.lo=0
   ·exact .inl h0
   ·have h2:=NF.lo_prev hn s hs h0
    rw [qz ha hb (by omega)] at h2
    simp only [zr,Bool.or_eq_false_iff] at h2
    exact .inr h2
  rw [qz ha hb (by omega)] at hm
  simp only [zr,Bool.or_eq_true] at hm
  rcases hm with hm | hm
  ·exact List.mem_append_left _ (zbJ hm (hp.imp id And.left))
  ·exact List.mem_append_right _ (zbJ hm (hp.imp id And.right))
 simpa using this
def qx:List Fg->Nat
 | []=>0
 | f::k=>f.items.length+qx k
theorem XK:∀(a b:List Fg),qx (a++b)=qx a+qx b
 | [],b=>by simp [qx]
 | f::a,b=>by simp only [List.cons_append,qx,XK a b];omega
theorem xq:∀ {k:List Fg} {f:Fg},f ∈ k->f.items.length<=qx k
 | g::k,f,h=>by
   rcases List.mem_cons.1 h with rfl | h
   ·simp only [qx];omega
   ·have:=xq h;simp only [qx];omega
theorem X2:∀ k:List Fg,(CI k).length<=2 * qx k
 | []=>by simp [CI,qx]
 | f::k=>by
   have h1:=X2 k
   have h2:=x3 f.items
   have:CI (f::k)=zZ f.items++CI k:=rfl
   rw [this,List.length_append,qx];omega
theorem QN (V:Iv->List En):∀ l:List Iv,qx (l.map fun s=>⟨[s],V s⟩)=l.length
 | []=>rfl
 | s::l=>by rw [List.map_cons,qx,QN V l];simp;omega
theorem Y7:∀ {o:List Fg} {f:Fg},(∀ g ∈ o,Nrm g.items)->Nrm f.items->qx (yf o f)<=qx o+f.items.length/\(yf o f).length<=o.length+1/\∀ g ∈ yf o f,g.vec=f.vec\/∃ h ∈ o,g.vec=h.vec
 | [],f,_,_=>⟨by simp [yf,qx],by simp [yf],fun g hg=>by simp only [yf,List.mem_singleton] at hg;subst hg;exact .inl rfl⟩
 | g::o,f,ho,hf=>by
   have h1:=Y7 (o:=o) (f:=f) (fun x hx=>ho x (by simp [hx])) hf
   have hg:=ho g (by simp)
   have hu:=zaj hg hf
   unfold yf
   by_cases c1:qf (zx g.vec) (zx f.vec)<0
   ·rw [if_pos c1]
    refine⟨by simp only [qx];omega,by simp only [List.length_cons];omega,fun x hx=>?_⟩
    rcases List.mem_cons.1 hx with rfl | hx
    ·exact .inr ⟨_,by simp,rfl⟩
    ·exact(h1.2.2 x hx).imp id fun⟨y,hy,e⟩=>⟨y,by simp [hy],e⟩
   ·rw [if_neg c1]
    by_cases c2:qf (zx g.vec) (zx f.vec)=0
    ·rw [if_pos c2]
     refine⟨by simp only [qx];omega,by simp,fun x hx=>?_⟩
     rcases List.mem_cons.1 hx with rfl | hx
     ·exact .inl rfl
     ·exact .inr ⟨x,by simp [hx],rfl⟩
    ·rw [if_neg c2]
     refine⟨by simp only [qx];omega,by simp,fun x hx=>?_⟩
     rcases List.mem_cons.1 hx with rfl | hx
     ·exact .inl rfl
     ·exact .inr ⟨x,hx,rfl⟩
theorem Qu:∀ {k o:List Fg},GrpI o->RightK k->qx (k.foldl xA o)<=qx o+qx k/\(k.foldl xA o).length<=o.length+k.length/\∀ g ∈ k.foldl xA o,(∃ f ∈ k,g.vec=zE f.vec)\/∃ h ∈ o,g.vec=h.vec
 | [],o,_,_=>⟨by simp,by simp,fun g hg=>.inr ⟨g,hg,rfl⟩⟩
 | f::k,o,ho,hk=>by
   have hf:=hk f (by simp)
   have h1:=Qu (k:=k) (o:=xA o f) (Qv ho hf).1 fun g hg=>hk g (by simp [hg])
   rw [List.foldl_cons]
   have h2:qx (xA o f)<=qx o+f.items.length/\(xA o f).length<=o.length+1/\∀ g ∈ xA o f,g.vec=zE f.vec\/∃ h ∈ o,g.vec=h.vec:=by
    unfold xA
    split
    ·exact⟨by omega,by omega,fun g hg=>.inr ⟨g,hg,rfl⟩⟩
    ·exact Y7 (fun g hg=>(ho.ok g hg).2.2.1) hf.1
   refine⟨by simp only [qx];omega,by simp only [List.length_cons];omega,fun g hg=>?_⟩
   rcases h1.2.2 g hg with⟨x,hx,e⟩ | ⟨x,hx,e⟩
   ·exact .inl ⟨x,by simp [hx],e⟩
   ·rcases h2.2.2 x hx with e2 | ⟨y,hy,e2⟩
    ·exact .inl ⟨f,by simp,e.trans e2⟩
    ·exact .inr ⟨y,hy,e.trans e2⟩
theorem Zg {k:List Fg} (h:RightK k):qx (ql k)<=qx k/\(ql k).length<=k.length/\∀ g ∈ ql k,∃ f ∈ k,g.vec=zE f.vec:=by
 have:=Qu (o:=[]) GrpI.nil h
 refine⟨by simpa [qx,ql] using this.1,by simpa [ql] using this.2.1,fun g hg=>?_⟩
 rcases this.2.2 g hg with h | ⟨x,hx,_⟩
 ·exact h
 ·cases hx
theorem YZ {k:List Fg} {j:Nat} (h:j<k.length):ql (k.take (j+1))=xA (ql (k.take j)) k[j]:=by
 unfold ql
 rw [List.take_succ_eq_append_getElem h,List.foldl_append]
 rfl
theorem zd2 {v:List En} {h:Nat} (hh:∀ e ∈ v,e.holes.length<=h):(zx v).length<=1+v.length * (3+2 * h):=by
 have:∀ {v:List En},(∀ e ∈ v,e.holes.length<=h)->(v.flatMap zy).length<=v.length * (3+2 * h):=by
  intro v
  induction v with
  | nil=>intro _;simp
  | cons e v ih=>
    intro hv
    have h1:=ih fun f hf=>hv f (by simp [hf])
    have h2:=hv e (by simp)
    have h3:(v.length+1) * (3+2 * h)=v.length * (3+2 * h)+(3+2 * h):=Nat.succ_mul _ _
    simp only [List.flatMap_cons,List.length_append,zy,List.length_cons,jZ,h3]
    omega
 have:=this hh
 unfold zx
 simp only [List.length_cons]
 omega
theorem WV.nlen {C:Nat->List Nat} {R:List Nat} {v:List En} (h:WV C R v) (hC:∀ r,(C r).length<=9000) (hR:R.length<=20000):(zx v).length<=1073741824:=by
 obtain⟨_,h1,h2⟩:=h.bv hC hR
 have h3:=zd2 h2
 have h4:v.length * (3+2 * (9000+2))<=20000 * (3+2 * (9000+2)):=Nat.mul_le_mul_right _ h1
 omega
def kJ:List Fg:=[⟨[⟨1,5⟩],[⟨1,0,[]⟩]⟩,⟨[⟨4,9⟩],[⟨2,0,[]⟩]⟩]
def Qh:List En:=[⟨1,0,[]⟩]
def Qi:List En:=[⟨1,0,[]⟩,⟨2,0,[]⟩]
def Qj:List En:=[⟨2,0,[]⟩]
theorem zdP (r:Nat):kn ⟨r,0,[]⟩=[⟨0,0⟩]:=kn0 _ _ (by rw [zw];omega)
theorem r12:RightK kJ:=by simp [kJ,RightK,kW,RightV,zK,zw,Nrm,NF]
theorem XO:CanV Qh:=⟨by simp [Qh,kG,zK,zw,Nrm,NF],by simp [Qh]⟩
theorem XP:CanV Qi:=⟨by simp [Qi,kG,zK,zw,Nrm,NF],by simp [Qi]⟩
theorem XQ:CanV Qj:=⟨by simp [Qj,kG,zK,zw,Nrm,NF],by simp [Qj]⟩
theorem zj6:zl kJ=[0,1,4,6,10]:=xu (yi _) (by simp [Qk]) fun x=>by
 rw [yP r12,zw]
 simp only [kJ,qG,List.all_cons,List.all_nil,mem,List.any_cons,List.any_nil,Bool.or_false,Bool.and_true,List.mem_cons,List.not_mem_nil,or_false]
 by_cases h1:x=0
 ·subst h1;simp
 ·simp only [h1,false_or]
  constructor
  ·rintro⟨h2,h3⟩
   by_cases h4:x=1\/x=4\/x=6\/x=10
   ·exact h4
   ·have e1:(decide (1<=x - 1) && decide (x - 1<=5))=(decide (1<=x) && decide (x<=5)):=by
     rw [Bool.eq_iff_iff];simp;omega
    have e2:(decide (4<=x - 1) && decide (x - 1<=9))=(decide (4<=x) && decide (x<=9)):=by
     rw [Bool.eq_iff_iff];simp;omega
    rw [e1,e2] at h3
    simp at h3
  ·rintro(rfl | rfl | rfl | rfl)<;>simp
theorem zjq:zA kJ=[⟨1,3⟩,⟨4,5⟩,⟨6,9⟩]:=by
 unfold zA yw
 rw [zj6]
 have h0:(zG kJ 0).length=0:=by decide
 have h1:(zG kJ 1).length=1:=by decide
 have h2:(zG kJ 4).length=2:=by decide
 have h3:(zG kJ 6).length=1:=by decide
 have h4:(zG kJ 10).length=0:=by decide
 simp [xR,h0,h1,h2,h3,h4]
theorem zbr (i r c:Nat):hasK kJ i r c=((mem [⟨1,5⟩] i && mem (if 1=r then [⟨0,0⟩] else []) c) || (mem [⟨4,9⟩] i && mem (if 2=r then [⟨0,0⟩] else []) c)):=by
 simp only [hasK,kJ,List.any_cons,List.any_nil,z4,yp,zdP,Bool.or_false]
theorem zfw {i:Nat} {v:List En} (hv:CanV v) (h:∀ r c,c<zk->mem (zL v r) c=hasK kJ i r c):qI kJ i=v:=by
 have h1:=r12.ik.at i
 exact xW h1.1.can hv fun r=>Nrm.unique (qt h1.1.can.right r) (qt hv.right r) fun c hc=>by rw [h1.2 r c hc,h r c hc]
theorem zjR:z8 kJ=[⟨[⟨1,3⟩],Qh⟩,⟨[⟨4,5⟩],Qi⟩,⟨[⟨6,9⟩],Qj⟩]:=by
 have ha:qI kJ 1=Qh:=zfw XO fun r c _=>by
  rw [zbr];simp only [Qh,z4,yp,zdP];simp [mem]
 have hb:qI kJ 4=Qi:=zfw XP fun r c _=>by
  rw [zbr];simp only [Qi,z4,yp,zdP]
  by_cases h1:1=r
  ·rw [if_pos h1,if_pos h1,if_neg (by omega)];simp [mem]
  ·rw [if_neg h1,if_neg h1];simp [mem]
 have hc:qI kJ 6=Qj:=zfw XQ fun r c _=>by
  rw [zbr];simp only [Qj,z4,yp,zdP];simp [mem]
 unfold z8
 rw [zjq]
 simp [ha,hb,hc]
theorem zkE:(ql (z8 kJ)).length=3:=by
 rw [zjR]
 unfold ql
 have ea:=xX XO
 have eb:=xX XP
 have ec:=xX XQ
 have na:Qh≠[]:=by simp [Qh]
 have nb:Qi≠[]:=by simp [Qi]
 have nc:Qj≠[]:=by simp [Qj]
 have c1:qf (zx Qh) (zx Qi)=-1:=by decide
 have c2:qf (zx Qh) (zx Qj)=-1:=by decide
 have c3:qf (zx Qi) (zx Qj)=1:=by decide
 simp [List.foldl,xA,yf,ea,eb,ec,na,nb,nc,c1,c2,c3]
theorem JX (xs:List Nat) (x:Nat) (hl:(srt xs).length<=4194304):Cn Tryz.prog 95 [ns (srt xs),.v (.int .u64 x)] (ns (srt (xs++[x]))):=by
 refine xw rfl (enters_of Tryz.func95 (by kernel_rfl) rfl) fun D w vs hG hD hsz hd=>?_
 rw [zc0 hsz,(hd 1 _ rfl).v_inv]
 refine(KY D xs x _ w hl (hd 0 _ rfl) hD).mono ?_
 rintro e w' ⟨v,rfl,hb,hv⟩
 exact⟨v,rfl,hb,hv⟩
theorem XG {v:List En} {xs:List Nat} {k:Nat} (hv:v.length<=1048576) (hx:xs.length<=1048576):(srt (xs++zM (v.take k))).length<=4194304:=by
 have h1:=vO (xs++zM (v.take k))
 have h2:(v.take k).length<=1048576:=Nat.le_trans (List.length_take_le' _ _) hv
 simp only [zM,List.length_append,List.length_map] at h1 h2
 simp only [zM]
 omega
theorem QK {v:List En} {k:Nat} (h:k<v.length):zM (v.take (k+1))=zM (v.take k)++[v[k].rep]:=by
 unfold zM
 rw [List.take_succ_eq_append_getElem h,List.map_append]
 rfl
theorem zfK (a b:List En) (op:Nat) (ho:op<3) (ha:SmV a) (hb:SmV b):Cn Tryz.prog 63 [vp a,vp b,.v (.int .i64 op)] (vp (QA (VK op) a b)):=by
 have la:=ha.2.1
 have lb:=hb.2.1
 have h0:VK op false false=false:=by
  match op,ho with
  | 0,_=>rfl
  | 1,_=>rfl
  | 2,_=>rfl
 refine zfG Tryz.func63 [] 3 (by kernel_rfl) rfl (by simp [go_sem,seval]) 14 (.dr [⟨(some 47),none,(.mv (.t 7))⟩,⟨(some 48),none,(.mv (.t 11))⟩,⟨(some 49),none,(.ia (.t 47) (.t 48) 1)⟩,⟨(some 50),none,(.ld (.t 49) false 1)⟩,⟨(some 51),none,(.mv (.t 0))⟩,⟨(some 52),none,(.mv (.t 7))⟩,⟨(some 53),none,(.mv (.t 11))⟩,⟨(some 54),none,(.ia (.t 52) (.t 53) 1)⟩,⟨(some 55),none,(.ld (.t 54) false 1)⟩,⟨(some 56),none,(.ca 97 [(.t 51),(.t 55)])⟩,⟨(some 57),none,(.mv (.t 1))⟩,⟨(some 58),none,(.mv (.t 7))⟩,⟨(some 59),none,(.mv (.t 11))⟩,⟨(some 60),none,(.ia (.t 58) (.t 59) 1)⟩,⟨(some 61),none,(.ld (.t 60) false 1)⟩,⟨(some 62),none,(.ca 97 [(.t 57),(.t 61)])⟩,⟨(some 63),none,(.mv (.t 2))⟩,⟨(some 64),none,(.ca 70 [(.t 56),(.t 62),(.t 63)])⟩,⟨(some 65),none,(.ca 96 [(.t 50),(.t 64)])⟩,⟨(some 46),none,(.mv (.t 65))⟩,⟨(some 66),none,(.ex (.t 46) 0)⟩,⟨(some 67),none,(.ex (.t 46) 1)⟩] [⟨(some 12),none,(.al [(.v (.int .u64 0)),(.v (.int .u64 0)),(.sl [] .sh)])⟩,⟨none,none,(.st (.t 12) (.t 66) 3)⟩,⟨(some 13),none,(.mv (.t 67))⟩]) rfl (by kernel_rfl) ?_
 conv=>enter [4,6];(unfold xY;simp only [Tryz.f63])
 simp only [pcT,Nat.reduceEqDiff,if_false,if_true,reduceIte]
 repeat (conv in (ze8 _ _ _ _ _ _)=>cbv)
 repeat (conv in (ze9 _)=>cbv)
 conv=>enter [5,1];cbv
 refine pw ?_
 refine pLoop.go (fun k=>k<=a.length) (fun k=>[(7,ns (srt ([]++zM (a.take k)))),(8,.v (.int .i64 (k:Nat)))]) (fun _=>[]) (fun k=>a.length - k) 0 [7,8] ?_ ?_ ?_
 ·exact Nat.zero_le _
 ·simp only [List.take_zero,zM,List.map_nil,List.append_nil,Yy]
  exact pd
 ·rintro k hk
  refine pw ?_
  refine .i ?_ ?_<;>intro h<;>(try simp only [zf] at h)<;>first | refine pw ?_ | exact pd
  ·refine .c (JX ([]++zM (a.take k)) a[k].rep (XG (xs:=[]) la (by simp))) ?_
   refine⟨k+1,h,by omega,?_,rfl⟩
   rw [QK h]
  ·rw [show k=a.length by omega,List.take_length]
   refine pLoop.go (fun k=>k<=b.length) (fun k=>[(7,ns (srt (zM a++zM (b.take k)))),(9,.v (.int .i64 (k:Nat)))]) (fun _=>[]) (fun k=>b.length - k) 0 [7,9] ?_ ?_ ?_
   ·exact Nat.zero_le _
   ·simp only [List.take_zero,zM,List.map_nil,List.append_nil]
    exact pd
   ·rintro k hk
    refine pw ?_
    refine .i ?_ ?_<;>intro h2<;>(try simp only [zf] at h2)<;>first | refine pw ?_ | exact pd
    ·refine .c (JX (zM a++zM (b.take k)) b[k].rep (XG (xs:=zM a) lb (by simp [zM];omega))) ?_
     refine⟨k+1,h2,by omega,?_,rfl⟩
     rw [QK h2,List.append_assoc]
    ·rw [show k=b.length by omega,List.take_length]
     obtain⟨L,hL⟩:∃ L,L=srt (zM a++zM b):=⟨_,rfl⟩
     have hll:L.length<=2097152:=by
      have h1:=vO (zM a++zM b)
      simp only [zM,List.length_append,List.length_map] at h1
      rw [hL]
      simp only [zM]
      omega
     have hlm:∀ r ∈ L,r<zk:=by rw [hL];exact Yo ha.1 hb.1
     have hlat:QA (VK op) a b=L.filterMap (vd (VK op) a b):=by rw [hL];rfl
     rw [<-hL,hlat]
     clear hlat hL
     refine pLoop.go (fun k=>k<=L.length) (fun k=>[(10,.sl (((L.take k).filterMap (vd (VK op) a b)).map ec) (.r 72 3)),(11,.v (.int .i64 (k:Nat)))]) (fun _=>[]) (fun k=>L.length - k) 0 [10,11,72] ?_ ?_ ?_
     ·exact Nat.zero_le _
     ·simp only [List.take_zero,List.filterMap_nil,List.map_nil]
      exact pd
     ·rintro k hk
      have hfl:((L.take k).filterMap (vd (VK op) a b)).length<=k:=Nat.le_trans (List.length_filterMap_le _ _) (by simp;omega)
      refine pw ?_
      refine .i ?_ ?_<;>intro h3<;>(try simp only [zf] at h3)<;>first | refine pw ?_ | exact pd
      ·have ka:=j9 ha L[k]
       have kb:=j9 hb L[k]
       have hol:(qF (VK op) (zL a L[k]) (zL b L[k])).length<=80100:=by
        have h1:=xD (VK op) (zL a L[k]) (zL b L[k])
        omega
       have hof:=zi5 L[k] (qF (VK op) (zL a L[k]) (zL b L[k])) (qO ka.1 kb.1) (by omega)
       have hst:=JA (f:=VK op) (a:=a) (b:=b) h3
       obtain⟨e,ok,hE⟩:∃ e ok,Zs L[k] (qF (VK op) (zL a L[k]) (zL b L[k]))=(e,ok):=⟨_,_,rfl⟩
       rw [JK hE] at hst
       rw [hE] at hof
       refine .c (jH a L[k] ha) ?_
       refine .c (jH b L[k] hb) ?_
       refine .c (zhU (zL a L[k]) (zL b L[k]) op ka.1 kb.1 ho (by omega) (by omega)) ?_
       cases ok with
       | true=>
         (first | refine .c (hof) ?_ | refine .o (hof) ?_)
         refine⟨k+1,h3,by omega,?_,rfl⟩
         rw [hst]
         simp
         rfl
       | false=>
         (first | refine .c (hof) ?_ | refine .o (hof) ?_)
         refine⟨k+1,h3,by omega,?_,rfl⟩
         rw [hst]
         simp
      ·rw [show k=L.length by omega,List.take_length]
theorem SmV.g {v:List En} (h:SmV v):v.length<=1152921504606846976/\∀ e ∈ v,e.holes.length<=1152921504606846976:=⟨by have:=h.2.1;omega,fun e he=>by have:=h.2.2 e he;omega⟩
theorem WV.smv {C:Nat->List Nat} {R:List Nat} {v:List En} (h:WV C R v) (ok:OkC C R):SmV v:=(h.bv ok.1 ok.2).mono (Nat.le_refl _) (by omega)
theorem zdy {k:List Fg} (h:jX k=true) (hr:RightK k) {f:Fg} (hf:f ∈ k):SmV f.vec:=by
 have:=x6.1 ((Zd.1 h).1 f hf).2
 exact⟨(hr f hf).2,by omega,fun e he=>by have:=this.1 e he;omega⟩
theorem jK {D:Nat->Nat->Prop} {w:World} {x:Value} {es:List (List PV)} {o:Ow} (h:Dat D w x (.sl es o)):∃ s:Sv,x=sv s/\s.2.1=es.length:=by
 obtain⟨ad,cap,sz,b,off,f,e1,_⟩:=(Rel.dat (ρ:=fun _=>0) (nb:=0) h).inv_sl
 exact⟨(ad,es.length,cap),e1,rfl⟩
theorem Yd {D:Nat->Nat->Prop} {n0:Nat} {w:World} {v:Value} {k:List Fg} (h:Dat D w v (kp k)) (hD:∀ b o,D b o->b<n0) :
 ∃ a cap fs,v=.slice a k.length cap/\∃ hl:fs.length=k.length,zfu n0 w a cap fs/\∀ i (h:i<fs.length),Dat D w (sv fs[i].1) (rg (k[i]'(hl ▸ h)).items)/\Dat D w (sv fs[i].2) (vp (k[i]'(hl ▸ h)).vec):=by
 unfold kp at h
 generalize he:k.map fc=es at h
 cases h with
 | sl a cap sz es o b off u hc hz hm ha hsz hd hx=>
   have hl:es.length=k.length:=by rw [<-he];simp
   have g:∀ i (h:i<k.length),es[i]? = some (fc k[i]):=fun i h=>by rw [<-he];exact yX h
   have each:∀ i,i<k.length->∃ f:Fv,∀ h:i<k.length,(sz=2/\u (i * 2)=sv f.1/\u (i * 2+1)=sv f.2)/\Dat D w (sv f.1) (rg k[i].items)/\Dat D w (sv f.2) (vp k[i].vec):=fun i hi=>by
    obtain rfl:2=sz:=hsz i _ (g i hi)
    have d0:Dat D w (u (i * 2+0)) (rg k[i].items):=hx i _ 0 _ (g i hi) rfl
    have d1:Dat D w (u (i * 2+1)) (vp k[i].vec):=hx i _ 1 _ (g i hi) rfl
    obtain⟨s0,e0,_⟩:=jK d0
    obtain⟨s1,e1,_⟩:=jK d1
    rw [e0] at d0
    rw [e1] at d1
    exact⟨(s0,s1),fun _=>⟨⟨rfl,e0,e1⟩,d0,d1⟩⟩
   obtain⟨F,hF⟩:=Go.Deep.choose_lt each
   refine⟨a,cap,(List.range k.length).map F,by rw [hl],by simp,⟨by simp;omega,hm,fun hne=>?_⟩,fun i hi=>?_⟩
   ·have hpos:0<k.length:=by
     rcases Nat.eq_zero_or_pos k.length with h0 | h0
     ·rw [h0] at hne;simp at hne
     ·exact h0
    obtain⟨⟨rfl,_⟩,_⟩:=hF 0 hpos hpos
    have hes:es≠[]:=by intro e;subst e;simp at hl;omega
    refine⟨b,off,ha hes,hD _ _ (hd 0 (by omega)).1,fun i hi=>?_⟩
    have hi':i<k.length:=by simpa using hi
    obtain⟨⟨_,e0,e1⟩,_⟩:=hF i hi' hi'
    have c0:=(hd (i * 2) (by omega)).2.1
    have c1:=(hd (i * 2+1) (by omega)).2.1
    rw [e0] at c0
    rw [e1] at c1
    simp only [List.getElem_map,List.getElem_range]
    exact⟨c0,c1⟩
   ·have hi':i<k.length:=by simpa using hi
    simp only [List.getElem_map,List.getElem_range]
    exact(hF i hi' hi').2
theorem Jd {hit:Nat->Bool} {p:Nat × Fv}:∀ {l:List Fv} {n:Nat},p ∈ wl hit n l->∃ h:p.1 - n<l.length,n<=p.1/\p.2=l[p.1 - n]/\hit p.1=true
 | [],n,h=>by cases h
 | f::l,n,h=>by
   unfold wl at h
   have rst:p ∈ wl hit (n+1) l->∃ h:p.1 - n<(f::l).length,n<=p.1/\p.2=(f::l)[p.1 - n]/\hit p.1=true:=fun h=>by
    obtain⟨h1,h2,h3,h4⟩:=Jd h
    refine⟨by simp;omega,by omega,?_,h4⟩
    rw [h3]
    have e:p.1 - n=(p.1 - (n+1))+1:=by omega
    simp only [e,List.getElem_cons_succ]
   split at h
   ·rename_i hh
    rcases List.mem_cons.1 h with rfl | h
    ·exact⟨by simp,Nat.le_refl _,by simp,hh⟩
    ·exact rst h
   ·exact rst h
theorem j4 {α:Type} {k:List Fg} {fs:List Fv} (hl:fs.length=k.length) (item:Nat) (step:α->Nat->Fg->α) (a0:α) :
 (wl (fun j=>mem (k.getD j default).items item) 0 fs).foldl (fun a p=>step a p.1 (k.getD p.1 default)) a0=(z6 item 0 k).foldl (fun a p=>step a p.1 p.2) a0:=by
 have key:∀ j,j<=k.length->(wl (fun j=>mem (k.getD j default).items item) 0 (fs.take j)).foldl (fun a p=>step a p.1 (k.getD p.1 default)) a0=(z6 item 0 (k.take j)).foldl (fun a p=>step a p.1 p.2) a0:=by
  intro j
  induction j with
  | zero=>intro _;rfl
  | succ j ih=>
    intro hj
    rw [YB (by omega),jl item (by omega),List.foldl_append,List.foldl_append,ih (by omega)]
    have e:k.getD j default=k[j]:=by simp [List.getD_eq_getElem?_getD,List.getElem?_eq_getElem (show j<k.length by omega)]
    simp only [e]
    split
    ·show step _ j (k.getD j default)=step _ j k[j]
     rw [e]
    ·rfl
 have:=key k.length (Nat.le_refl _)
 rwa [<-hl,List.take_length,hl,List.take_length] at this
def XV (k:List Fg) (i:Nat):PV:=.fn (.func 72) [] [.cp [kp k] 0,.cp [.v (.int .u64 i)] 0]
attribute [go_sem] XV
theorem zdQ (k:List Fg) (i:Nat):Cn Tryz.prog 45 [kp k,.v (.int .u64 i)] (XV k i):=by
 refine zz Tryz.func45 2 ?_
 exact pd
theorem zhF (v:List En) (i:Nat) (f:Fg) (hv:SmV v) (hf:SmV f.vec):Cn Tryz.prog 60 [vp v,.v (.int .i64 i),fp f] (vp (QA zr v f.vec)):=by
 refine zz Tryz.func60 3 ?_
 refine pw ?_
 exact .d (zbE v f.vec hv hf)
end Go.Proofs.YtjimggclhlnfbaaGreat
namespace Go.Proofs.YtjimggclhlnfbaaGreat
open Go.RowKit Go.Maps
attribute [-go_sem] qo
def MapS (D:DV) (S:List Nat):Prop:=IsMap D/\∀ r,has D (kR r)=decide (r ∈ S)
theorem MapS.nil:MapS (.map []) []:=⟨⟨[],rfl⟩,fun r=>by simp [has]⟩
theorem MapS.put {D:DV} {S:List Nat} (h:MapS D S) (r:Nat) (v:DV):MapS (D.put (kR r) v) (S++[r]):=by
 refine⟨h.1.put _ _,fun s=>?_⟩
 by_cases e:s=r
 ·subst e
  rw [has_put_same h.1 (Zl _)];simp
 ·rw [has_put_other (fun h=>e (Ya h)),h.2 s];simp [e]
def MI (B:Nat) (w:World) (S:List Nat):Prop:=∃ D,w.ownsMap Tryz.prog 28 rV B S.length D/\MapS D S
theorem MI.made (w:World):MI w.heap.size (w.alloc (.map #[] 0)) []:=⟨_,World.ownsMap_made _ _ _ _,MapS.nil⟩
theorem MI.keep {B:Nat} {w w':World} {S:List Nat} (h:MI B w S) (hb:w'.heap[B]? = w.heap[B]?):MI B w' S:=by
 obtain⟨D,h1,h2⟩:=h
 exact⟨D,q9 h1 hb,h2⟩
theorem MI.lt {B:Nat} {w:World} {S:List Nat} (h:MI B w S):B<w.heap.size:=by
 obtain⟨D,h1,_⟩:=h
 exact h1.lt
theorem yR {w:World} {ops:Array Oper} {rest:List Oper} {o:Oper} {a:Act} {Q:Exit->Act->World->Prop} (hg:o.guard=none) (m x v:Operand)
 (hop:o.op=.mapUpdate 48 m x v\/o.op=.insert 48 m x v) {B:Nat} {S:List Nat} (hm:a.eval m=.map (some B)) (h:MI B w S) (hn:S.length<maxLen) {r:Nat} (hr:r<zk) (hx:a.eval x=.int .u64 (r:Nat))
 (hK:∀ w',MI B w' (S++[r])->w.grownBy w' (some B)->wpList Tryz.prog ops Q rest (a.put o.dst undef) w'):wpList Tryz.prog ops Q (o::rest) a w:=by
 obtain⟨D,h1,h2⟩:=h
 refine wpList_plain hg fun K' hK'=>?_
 obtain⟨w',hrun,r1,r2⟩:=h1.update ve Tryz.underlying48 hn (ku hr) (val:=a.eval v) rfl
 unfold Oper.wp
 rcases hop with hop | hop
 ·simp [execOp,hop,hm,hx,hrun,Result.andThen]
  exact hK' _ _ (hK w' ⟨_,by simpa using r1,h2.put r _⟩ r2)
 ·simp [execOp,hop,hm,hx,hrun,Result.andThen]
  exact hK' _ _ (hK w' ⟨_,by simpa using r1,h2.put r _⟩ r2)
def rdG (n0:Nat) (w:World) (b o:Nat) (f:Fg):Prop:=(∃ hv,w.cell? ⟨b,o,none⟩=some hv/\RdR 0 n0 w hv f.items)/\∃ ad n c,w.cell? ⟨b,o+1,none⟩=some (.slice ad n c)
theorem zdk {D:Nat->Nat->Prop} {w:World} {x:Value} {k:List Fg} (h:Dat D w x (kp k)) (hD:∀ b o,D b o->b<w.heap.size) (hb:RightK k):RdSl 2 (rdG w.heap.size) 0 w.heap.size w x k:=by
 unfold kp at h
 generalize he:k.map fc=es at h
 cases h with
 | sl a cap sz es o b off u hc hz hm ha hsz hd hx=>
   have hl:es.length=k.length:=by rw [<-he];simp
   refine⟨a,cap,by rw [hl],by omega,hm,fun hne=>?_⟩
   have hpos:0<k.length:=List.length_pos_iff.2 hne
   have g:∀ i (h:i<k.length),es[i]? = some (fc k[i]):=fun i h=>by rw [<-he];exact yX h
   obtain rfl:2=sz:=hsz 0 _ (g 0 hpos)
   have hes:es≠[]:=by intro e;subst e;simp at hl;omega
   have hdlt:b<w.heap.size:=hD _ _ (hd 0 (by omega)).1
   refine⟨b,off,ha hes,Nat.zero_le _,hdlt,fun i hi=>?_⟩
   have e0:=hx i _ 0 _ (g i hi) rfl
   have e1:=hx i _ 1 _ (g i hi) rfl
   have c0:=(hd (i * 2+0) (by omega)).2.1
   have c1:=(hd (i * 2+1) (by omega)).2.1
   obtain⟨ad,c,sz',b',off',f',q,_⟩:=(Rel.dat (ρ:=fun _=>0) (nb:=0) (show Dat D w (u (i * 2+1)) (.sl (k[i].vec.map ec) .sh) from e1)).inv_sl
   rw [q] at c1
   exact⟨⟨_,c0,vF e0 hD (hb _ (List.getElem_mem hi)).1.lt⟩,_,_,_,c1⟩
theorem RdG.keep {n0:Nat} {w w':World} {v:Value} {k:List Fg} (h:RdSl 2 (rdG n0) 0 n0 w v k) (hb:∀ j,j<n0->w'.heap[j]? = w.heap[j]?):RdSl 2 (rdG n0) 0 n0 w' v k:=
 RdSl.keep h (Nat.le_refl _) (Nat.le_refl _) fun b o x _ h2 ⟨⟨hv,c0,c1⟩,ad,n,c,c2⟩=>
  ⟨⟨hv,(World.cell?_of_block (a:=⟨b,o,none⟩) (hb b h2)).trans c0,c1.keep (Nat.le_refl _) (Nat.le_refl _) fun b _ h=>hb b h⟩,ad,n,c,(World.cell?_of_block (a:=⟨b,o+1,none⟩) (hb b h2)).trans c2⟩
theorem Jf {k:List Fg} {i:Nat} (hi:i<k.length):CI (k.take (i+1))=CI (k.take i)++zZ k[i].items:=by
 unfold CI
 rw [List.take_succ_eq_append_getElem hi,List.flatMap_append]
 simp
theorem Ku {l:List Iv} {j:Nat} (hj:j<l.length):zZ (l.take (j+1))=zZ (l.take j)++v7 l[j]:=by
 unfold zZ
 rw [List.take_succ_eq_append_getElem hj,List.flatMap_append]
 simp
theorem zdi {s:Iv} (h:s.hi=zk - 1):v7 s=[s.lo]:=by unfold v7;rw [if_neg (by omega)]
theorem za3 {s:Iv} (h:s.hi<zk - 1):v7 s=[s.lo]++[s.hi+1]:=by unfold v7;rw [if_pos h];rfl
theorem zdZ (w:World):Calls Tryz.prog 27 #[.int .u64 18446744073709551615] w fun e w'=>e=.returned (.tuple #[.int .u64 0,.bool false])/\w'=w:=by
 go_enter Tryz.func27,Tryz.ntmps27
 go_wp2
 all_goals (refine bodyPost_ret (results_tmp2 rfl _ _ _) rfl ?_;refine⟨?_,rfl⟩;simp;try omega)
theorem zbS (x:Nat) (hx:x<18446744073709551615) (w:World):Calls Tryz.prog 27 #[.int .u64 (x:Nat)] w fun e w'=>e=.returned (.tuple #[.int .u64 ((x:Int)+1),.bool true])/\w'=w:=by
 go_enter Tryz.func27,Tryz.ntmps27
 go_wp2
 all_goals (refine bodyPost_ret (results_tmp2 rfl _ _ _) rfl ?_;refine⟨?_,rfl⟩;simp;try omega)
theorem zem (w:World):Calls Tryz.prog 28 #[.int .u64 0] w fun e w'=>e=.returned (.tuple #[.int .u64 0,.bool false])/\w'=w:=by
 go_enter Tryz.func28,Tryz.ntmps28
 go_wp2
 all_goals (refine bodyPost_ret (results_tmp2 rfl _ _ _) rfl ?_;refine⟨?_,rfl⟩;simp;try omega)
theorem Xs (x:Nat) (hx:x<18446744073709551615) (w:World):Calls Tryz.prog 28 #[.int .u64 ((x:Int)+1)] w fun e w'=>e=.returned (.tuple #[.int .u64 (x:Nat),.bool true])/\w'=w:=by
 go_enter Tryz.func28,Tryz.ntmps28
 go_wp2
 all_goals (refine bodyPost_ret (results_tmp2 rfl _ _ _) rfl ?_;refine⟨?_,rfl⟩;simp;try omega)
def RgS (B r n:Nat) (S:List Nat) (keep:Nat->Bool) (g:Nat) (left:Lit->Bool) (w:World):Prop:=
 ∃ D,w.ranges Tryz.prog 28 rV B r n D left g/\IsMap D/\(∀ x,has D (kR x)=(decide (x ∈ S) && (left (kR x) || keep x)))/\∀ x,left (kR x)=true->x ∈ S
def GotS (S:List Nat) (left:Lit->Bool) (l:List Nat):Prop:=l.Nodup/\∀ x,x ∈ l ↔ x ∈ S/\left (kR x)=false
theorem J7 {left:Lit->Bool} {r x:Nat}:(left (kR r) && !(kR r).sameKey (kR x))=(left (kR r) && !decide (r=x)):=by
 have h:(kR r).sameKey (kR x)=decide (r=x):=by
  simp [kR,Lit.sameKey]
  omega
 rw [h]
section
variable {B r n g x:Nat} {S:List Nat} {kp:Nat->Bool} {left:Lit->Bool} {w:World} {D:DV}
theorem RgS.next (hD:IsMap D) (hh:∀ y,has D (kR y)=(decide (y ∈ S) && (left (kR y) || kp y))) (hl:∀ y,left (kR y)=true->y ∈ S) (hx:left (kR x)=true) (hk:kp x=true)
 (h:w.ranges Tryz.prog 28 rV B r n D (fun z=>left z && !z.sameKey (kR x)) g):RgS B r n S kp g (fun z=>left z && !z.sameKey (kR x)) w:=by
 refine⟨D,h,hD,fun y=>?_,fun y hy=>hl y ?_⟩
 ·dsimp only
  rw [hh y,J7]
  by_cases e:y=x
  ·subst e;simp [hk]
  ·simp [e]
 ·dsimp only at hy
  cases h0:left (kR y) with
  | true=>rfl
  | false=>rw [h0] at hy;simp at hy
theorem RgS.del (hD:IsMap D) (hh:∀ y,has D (kR y)=(decide (y ∈ S) && (left (kR y) || kp y))) (hl:∀ y,left (kR y)=true->y ∈ S) (hk:kp x=false)
 (h:w.ranges Tryz.prog 28 rV B r n (D.del (kR x)) (fun z=>(left z && !z.sameKey (kR x)) && !z.sameKey (kR x)) g):RgS B r n S kp g (fun z=>left z && !z.sameKey (kR x)) w:=by
 rw [Maps.strike_twice] at h
 refine⟨_,h,hD.del _,fun y=>?_,fun y hy=>hl y ?_⟩
 ·dsimp only
  rw [J7]
  by_cases e:y=x
  ·subst e;rw [has_del_same];simp [hk]
  ·rw [has_del_other (fun h=>e (Ya h)),hh y];simp [e]
 ·dsimp only at hy
  cases h0:left (kR y) with
  | true=>rfl
  | false=>rw [h0] at hy;simp at hy
theorem RgS.keep {w':World} (h:RgS B r n S kp g left w) (hb:w'.heap[B]? = w.heap[B]?) (hr:w'.heap[r]? = w.heap[r]?):RgS B r n S kp g left w':=by
 obtain⟨D,h1,h2⟩:=h
 exact⟨D,yq h1 hb hr,h2⟩
theorem GotS.nil (h:∀ y,left (kR y)=true ↔ y ∈ S):GotS S left []:=
 ⟨List.nodup_nil,fun y=>by
  constructor
  ·intro h;cases h
  ·rintro⟨h1,h2⟩
   rw [(h y).2 h1] at h2
   cases h2⟩
theorem GotS.push {l:List Nat} (h:GotS S left l) (hx:left (kR x)=true) (hS:x ∈ S):GotS S (fun z=>left z && !z.sameKey (kR x)) (l++[x]):=by
 refine⟨List.nodup_append.2 ⟨h.1,by simp,fun a ha b hb e=>?_⟩,fun y=>?_⟩
 ·rw [List.mem_singleton] at hb
  rw [e,hb] at ha
  have:=((h.2 x).1 ha).2
  rw [hx] at this
  cases this
 ·dsimp only
  rw [ZQ,List.mem_append,List.mem_singleton,h.2 y]
  constructor
  ·rintro(⟨h1,h2⟩ | rfl)
   ·exact⟨h1,.inl h2⟩
   ·exact⟨hS,.inr rfl⟩
  ·rintro⟨h1,h2 | h2⟩
   ·exact .inl ⟨h1,h2⟩
   ·exact .inr h2
end
def kpB (k:List Fg) (x:Nat):Bool:=decide (x=0) || !decide (zG k (x - 1)=zG k x)
theorem Qf {k:List Fg} (hr:RightK k) {l:List Nat} (hp:l.Pairwise (·<=·)) (hn:l.Nodup) (hm:∀ x,x ∈ l ↔ x ∈ 0::CI k/\(x=0\/zG k (x - 1)≠zG k x)):l=zl k:=by
 have ha:Qk l:=by
  refine(List.pairwise_and_iff.2 ⟨hp,hn⟩).imp ?_
  intro a b h
  have:=h.1
  have:=h.2
  omega
 refine xu ha (yi k) fun x=>?_
 rw [hm,zl,List.mem_filter,zH,qm,yI]
 have e1:(k.map Fg.items).flatMap zZ=CI k:=by unfold CI;rw [List.flatMap_map]
 rw [e1]
 simp only [Bool.or_eq_true,decide_eq_true_eq,Bool.not_eq_true']
 refine and_congr_right fun _=>or_congr_right ?_
 rw [ne_eq,Xc,Bool.not_eq_true]
end Go.Proofs.YtjimggclhlnfbaaGreat
namespace Go.Proofs.YtjimggclhlnfbaaGreat
open Go.RowKit
def InvD {α:Type} (D0:Nat->Nat->Prop) (n:Nat) (pv:α->PV) (P:α->Prop) (W:World) (u:Value) (a:α):Prop:=
 P a/\∃ D:Nat->Nat->Prop,GL D W/\(∀ b o,D b o->b<W.heap.size/\b≠n/\b≠n+2/\b≠n+3)/\(∀ b o,D b o->D0 b o\/n<=b)/\(∀ b o,D0 b o->D b o)/\Dat D W u (pv a)
section
variable {α:Type} {D0:Nat->Nat->Prop} {pv:α->PV} {P:α->Prop} {w W A B:World} {u:Value} {a:α}
theorem InvD.start {u0:Value} (h0:Dat D0 w u0 (.sl [] .sh)) (hG:GL D0 w) (hD:∀ b o,D0 b o->b<w.heap.size) (hb:Below w.heap.size w W) (hP:P a) (hp:pv a=.sl [] .sh):InvD D0 w.heap.size pv P W u0 a:=by
 have hw:∀ b o x,D0 b o->w.cell? ⟨b,o,none⟩=some x->W.cell? ⟨b,o,none⟩=some x:=fun b o x hd hx=>(hb.cell (p:=⟨b,o,none⟩) (hD b o hd)).trans hx
 refine⟨hP,D0,hG.mono (fun _ _ h=>h) hw,fun b o h=>?_,fun _ _ h=>.inl h,fun _ _ h=>h,?_⟩
 ·have:=hD b o h
  have:=hb.size
  exact⟨by omega,by omega,by omega,by omega⟩
 ·rw [hp]
  exact h0.mono (fun _ _ h=>h) hw
theorem InvD.shape {n:Nat} (h:InvD D0 n pv P W u a) (hp:∃ es,pv a=.sl es .sh):∃ ad n c,u=.slice ad n c:=by
 obtain⟨_,D,_,_,_,_,hd⟩:=h
 obtain⟨es,e⟩:=hp
 rw [e] at hd
 obtain⟨s,rfl,_⟩:=jK hd
 exact⟨_,_,_,rfl⟩
theorem InvD.keep {n:Nat} (h:InvD D0 n pv P A u a) (hk:Keep (fun k=>k=n\/k=n+2\/k=n+3) A B):InvD D0 n pv P B u a:=by
 obtain⟨hP,D,h1,h2,h3,h4,h5⟩:=h
 have hw:∀ b o x,D b o->A.cell? ⟨b,o,none⟩=some x->B.cell? ⟨b,o,none⟩=some x:=fun b o x hd hx=>
  (World.cell?_of_block (a:=⟨b,o,none⟩) (hk.block b (h2 b o hd).1 (by have:=h2 b o hd;omega))).trans hx
 exact⟨hP,D,h1.mono (fun _ _ h=>h) hw,fun b o hd=>⟨Nat.lt_of_lt_of_le (h2 b o hd).1 hk.size,(h2 b o hd).2⟩,h3,h4,h5.mono (fun _ _ h=>h) hw⟩
theorem zfT {D:Nat->Nat->Prop} {f:Fv} {g:Fg} (h0:Dat D w (sv f.1) (rg g.items)) (h1:Dat D w (sv f.2) (vp g.vec)):Dat D w (.agg #[sv f.1,sv f.2]) (fp g):=by
 refine .agg _ _ rfl (fun i hi=>?_) fun i p hp=>?_
 ·match i,hi with
  | 0,_=>rfl
  | 1,_=>rfl
 ·match i,hp with
  | 0,hp=>cases hp;exact h0
  | 1,hp=>cases hp;exact h1
  | i+2,hp=>simp [fc] at hp
theorem InvD.step {F1:FuncId} {i:Nat} {f:Fv} {g:Fg} {a':α} (h:InvD D0 w.heap.size pv P W u a) (hD:∀ b o,D0 b o->b<w.heap.size) (hb:Below w.heap.size w W) (hs:w.heap.size+4<=W.heap.size) (h0:Dat D0 w (sv f.1) (rg g.items)) (h1:Dat D0 w (sv f.2) (vp g.vec))
 (hc:Cn Tryz.prog F1 [pv a,.v (.int .i64 i),fp g] (pv a')) (hP:P a') :
 Calls Tryz.prog F1 #[u,.int .i64 (i:Nat),.agg #[sv f.1,sv f.2]] W fun e W'=>∃ u',e=.returned u'/\InvD D0 w.heap.size pv P W' u' a'/\Keep (Ka (w.heap.size+4) W) W W':=by
 obtain⟨_,D,g1,g2,g3,g4,g5⟩:=h
 have hw:∀ b o x,D0 b o->w.cell? ⟨b,o,none⟩=some x->W.cell? ⟨b,o,none⟩=some x:=fun b o x hd hx=>(hb.cell (p:=⟨b,o,none⟩) (hD b o hd)).trans hx
 refine(jV hc g1 (fun b o h=>(g2 b o h).1) rfl (fun j p hp=>?_)).mono ?_
 ·match j,hp with
  | 0,hp=>cases hp;exact g5
  | 1,hp=>cases hp;exact .v _
  | 2,hp=>cases hp;exact(zfT h0 h1).mono g4 hw
  | j+3,hp=>simp at hp
 ·rintro e W' ⟨v,rfl,hb',hd⟩
  refine⟨v,rfl,⟨hP,_,g1.mono (fun _ _ h=>.inl h) fun b o x hd hx=>(hb'.cell (p:=⟨b,o,none⟩) (g2 b o hd).1).trans hx,fun b o h=>?_,fun b o h=>?_,fun b o h=>.inl (g4 b o h),hd⟩,Keep.of_below' hb' (Nat.le_refl _)⟩
  ·rcases h with h | h
   ·exact⟨Nat.lt_of_lt_of_le (g2 b o h).1 hb'.size,(g2 b o h).2⟩
   ·exact⟨h.2,by omega,by omega,by omega⟩
  ·rcases h with h | h
   ·exact g3 b o h
   ·exact .inr (by omega)
theorem InvD.done (h:InvD D0 w.heap.size pv P W u a):Dat (fun b o=>D0 b o\/(w.heap.size<=b/\b<W.heap.size)) W u (pv a):=by
 obtain⟨_,D,g1,g2,g3,g4,g5⟩:=h
 exact g5.mono (fun b o h=>(g3 b o h).imp id fun h'=>⟨h',(g2 b o h).1⟩) fun _ _ _ _ h=>h
end
theorem za1 {D:Nat->Nat->Prop} {w:World} {x:Value} {p:PV} (h:Dat D w x (.cp [p] 0)):∃ b o y,x=.pointer (some ⟨b,o,none⟩)/\D b o/\w.cell? ⟨b,o,none⟩=some y/\Dat D w y p:=by
 obtain⟨b,off,f,e,h1,h2⟩:=(Rel.dat (ρ:=fun _=>0) (nb:=0) h).inv_cp
 have:=h1 0 (by simp)
 exact⟨b,off,f 0,e,by simpa using this.1,by simpa using this.2.1,h2 0 p rfl⟩
theorem zam {D:Nat->Nat->Prop} {w:World} {x:Value} {k:List Fg} {i:Nat} (h:Dat D w x (XV k i)):∃ bk ok bi oi v,x=.func (.func 72) #[] #[.pointer (some ⟨bk,ok,none⟩),.pointer (some ⟨bi,oi,none⟩)]/\D bk ok/\D bi oi/\w.cell? ⟨bk,ok,none⟩=some v/\w.cell? ⟨bi,oi,none⟩=some (.int .u64 (i:Nat))/\Dat D w v (kp k):=by
 unfold XV at h
 cases h with
 | fn f va vb fs cs h1 h2 h3 h4=>
   rw [Array.size_eq_zero_iff.1 h1]
   obtain⟨l⟩:=vb
   match l,h2 with
   | [y,z],_=>
     obtain⟨bk,ok,v,e1,d1,c1,q1⟩:=za1 (h4 0 _ rfl)
     obtain⟨bi,oi,u,e2,d2,c2,q2⟩:=za1 (h4 1 _ rfl)
     rw [q2.v_inv] at c2
     simp at e1 e2
     subst e1 e2
     exact⟨bk,ok,bi,oi,v,rfl,d1,d2,c1,c2,q1⟩
theorem zd0 {D:Nat->Nat->Prop} {w:World} {x:Value} (h:Dat D w x (.sl [] .sh)):∃ ad c,x=.slice ad 0 c:=by
 obtain⟨⟨a,n,c⟩,rfl,e⟩:=jK h
 simp only [List.length_nil] at e
 subst e
 exact⟨a,c,rfl⟩
def Z0 (k:List Fg):Prop:=k.length<=1152921504606846976/\∀ f ∈ k,f.items.length<=1152921504606846976/\f.vec.length<=1152921504606846976/\∀ e ∈ f.vec,e.holes.length<=1152921504606846976
theorem QP {D:Nat->Nat->Prop} {w:World} {k:List Fg} {i bk ok bi oi:Nat} {a:Option Addr} {cap:Nat} {fs:List Fv} (hr:RightK k) (hz:Z0 k) (hG:GL D w) (hD:∀ b o,D b o->b<w.heap.size) (d1:D bk ok) (d2:D bi oi) (c1:w.cell? ⟨bk,ok,none⟩=some (.slice a k.length cap)) (c2:w.cell? ⟨bi,oi,none⟩=some (.int .u64 (i:Nat)))
 (hl:fs.length=k.length) (hrow:zfu w.heap.size w a cap fs) (hfs:∀ j (h:j<fs.length),Dat D w (sv fs[j].1) (rg (k[j]'(hl ▸ h)).items)/\Dat D w (sv fs[j].2) (vp (k[j]'(hl ▸ h)).vec)) {W:World} (hb:Below w.heap.size w W) :
 xr Tryz.prog 72 #[.pointer (some ⟨bk,ok,none⟩),.pointer (some ⟨bi,oi,none⟩)] kI (fun _=>False) (PtF w.heap.size bk bi) (wl (fun j=>mem (k.getD j default).items i) 0 fs) W:=by
 have hw:∀ b o x,D b o->w.cell? ⟨b,o,none⟩=some x->W.cell? ⟨b,o,none⟩=some x:=fun b o x hd hx=>(hb.cell (p:=⟨b,o,none⟩) (hD b o hd)).trans hx
 refine XU fs _ a cap bk ok bi oi w.heap.size i W ?_ (by rw [hl];exact hw _ _ _ d1 c1) (hw _ _ _ d2 c2) hb.size fun w' j hj hlow hsz=>?_
 ·obtain⟨h1,h2,h3⟩:=hrow
  refine⟨h1,h2,fun hne=>?_⟩
  obtain⟨b,off,e1,e2,e3⟩:=h3 hne
  exact⟨b,off,e1,e2,fun j hj=>⟨(hb.cell (p:=⟨b,off+j * 2,none⟩) e2).trans (e3 j hj).1,(hb.cell (p:=⟨b,off+j * 2+1,none⟩) e2).trans (e3 j hj).2⟩⟩
 ·have hw':∀ b o x,D b o->w.cell? ⟨b,o,none⟩=some x->w'.cell? ⟨b,o,none⟩=some x:=fun b o x hd hx=>(World.cell?_of_block (a:=⟨b,o,none⟩) (hlow b (hD b o hd))).trans (hw b o x hd hx)
  have hj':j<k.length:=hl ▸ hj
  have hm:=List.getElem_mem hj'
  have e:k.getD j default=k[j]:=by rw [List.getD_eq_getElem?_getD,List.getElem?_eq_getElem hj'];rfl
  simp only [e]
  refine(jV (V2 k[j].items i (hr _ hm).1 (hz.2 _ hm).1) (hG.mono (fun _ _ h=>h) hw') (fun b o h=>Nat.lt_of_lt_of_le (hD b o h) hsz) rfl (fun t p hp=>?_)).mono ?_
  ·match t,hp with
   | 0,hp=>cases hp;exact(hfs j hj).1.mono (fun _ _ h=>h) hw'
   | 1,hp=>cases hp;exact .v _
   | t+2,hp=>simp at hp
  ·rintro e W' ⟨v,rfl,hb',hd⟩
   rw [hd.v_inv]
   exact⟨rfl,hb'⟩
def is (l:List Nat):PV:=.sl (l.map fun x=>[.v (.int .i64 (x:Nat))]) .sh
attribute [go_sem] is
theorem Q7 {k:List Fg} {j:Nat} (h:j<k.length):k.getD j default=k[j]:=by rw [List.getD_eq_getElem?_getD,List.getElem?_eq_getElem h];rfl
theorem zej {α:Type} {pre xs:List α} {p:α} (h:pre++[p] <+: xs):p ∈ xs:=h.subset (by simp)
theorem zdB {C:Nat->List Nat} {R:List Nat} (k:List Fg) (i:Nat) (hk:IK C R k) (ok:OkC C R) (hr:RightK k) (hs:∀ f ∈ k,SmV f.vec) (hz:Z0 k) :
 Cn Tryz.prog 59 [XV k i,.sl [] .sh,.fn (.func 60) [] []] (vp (qI k i)):=by
 refine xw rfl (enters_of Tryz.func59 (by kernel_rfl) rfl) fun D w vs hG hD hsz hd=>?_
 obtain⟨bk,ok',bi,oi,v,e0,d1,d2,c1,c2,hkv⟩:=zam (hd 0 _ rfl)
 obtain⟨a,cap,fs,rfl,hl,hrow,hfs⟩:=Yd hkv hD
 have hn0:=hd 1 _ rfl
 obtain⟨ad0,c0',e1⟩:=zd0 hn0
 rw [e1] at hn0
 rw [zhE hsz,e0,e1,za4 (hd 2 _ rfl)]
 refine(YW 72 _ bk bi _ w ad0 c0' (enters_of Tryz.func72 (by kernel_rfl) rfl) (fun W hb=>QP hr hz hG hD d1 d2 c1 c2 hl hrow hfs hb) (hD _ _ d1) (hD _ _ d2)
  (InvD D w.heap.size vp (WV C R)) (fun o p=>QA zr o (k.getD p.1 default).vec) [] (fun W hb=>InvD.start hn0 hG hD hb WV.nil rfl) (fun W u a h=>h.shape ⟨_,rfl⟩) (fun A B u a h hk=>h.keep hk) fun W u pre p hpre hs4 hb h=>?_).mono ?_
 ·obtain⟨hp1,_,hp3,_⟩:=Jd (zej hpre)
  have hj:p.1<fs.length:=by simpa using hp1
  have hj':p.1<k.length:=hl ▸ hj
  have hm:=List.getElem_mem hj'
  have q:=hfs p.1 hj
  have e:p.2=fs[p.1]:=by rw [hp3];simp
  rw [Q7 hj',e]
  exact h.step hD hb hs4 q.1 q.2 (zhF _ p.1 k[p.1] (h.1.smv ok) (hs _ hm)) (h.1.iv.lat fU0 (hk _ hm))
 ·rintro e w' ⟨u,rfl,hI,hb⟩
  have h:=hI.done
  rw [j4 hl i (fun o _ f=>QA zr o f.vec) []] at h
  exact⟨u,rfl,hb,h⟩
theorem zbY {D:Nat->Nat->Prop} {base:Nat} {w:World} {v:Value} {l:List Nat} (h:OwnI base w v l) (hD:∀ b o,base<=b->b<w.heap.size->D b o):Dat D w v (is l):=by
 unfold is
 have hlen:(l.map fun x=>[PV.v (.int .i64 (x:Nat))]).length=l.length:=by simp
 rcases id h.2 with⟨rfl,h0⟩ | ⟨g,cap,cur,rfl,hg,hh,hn,hc,_⟩
 ·obtain rfl:l=[]:=List.length_eq_zero_iff.1 h0
  exact .sl none 0 1 [] .sh 0 0 (fun _=>undef) (by simp) (fun h=>by cases h) (by unfold maxLen;omega) (fun h=>absurd rfl h) (fun i e h=>by simp at h) (fun j h=>by simp at h) (fun i e j p h=>by simp at h)
 ·rw [<-hlen]
  refine .sl _ cap 1 _ .sh g 0 (fun j=>.int .i64 (l.getD j 0:Nat)) (by simpa using hn) (fun h=>by cases h) hc (fun _=>rfl) (fun i e h=>?_) (fun j hj=>?_) (fun i e j p he hp=>?_)
  ·simp only [List.getElem?_map,Option.map_eq_some_iff] at h
   obtain⟨s,_,rfl⟩:=h
   rfl
  ·simp only [List.length_map,Nat.mul_one] at hj
   refine⟨hD _ _ hg (Array.getElem?_eq_some_iff.1 hh).1,?_,rfl⟩
   rw [Nat.zero_add,h.cellAt _ (by simpa using hj)]
   simp [hj]
  ·have hi:i<l.length:=by have:=(List.getElem?_eq_some_iff.1 he).1;simpa using this
   rw [List.getElem?_map,List.getElem?_eq_getElem hi] at he
   cases he
   match j,hp with
   | 0,hp=>cases hp;simp [hi];exact .v _
   | j+1,hp=>simp at hp
theorem KM (l:List (Nat × Fv)):∀ a:List Nat,l.foldl (fun o p=>o++[p.1]) a=a++l.map Prod.fst:=by
 induction l with
 | nil=>intro a;simp
 | cons p l ih=>intro a;rw [List.foldl_cons,ih];simp
theorem VE (l:List (Nat × Fg)):∀ a:List Nat,l.foldl (fun o p=>o++[p.1]) a=a++l.map Prod.fst:=by
 induction l with
 | nil=>intro a;simp
 | cons p l ih=>intro a;rw [List.foldl_cons,ih];simp
theorem zcQ (hit:Nat->Bool):∀(n:Nat) (l:List Fv),(wl hit n l).length<=l.length
 | _,[]=>Nat.le_refl _
 | n,f::l=>by
   have:=zcQ hit (n+1) l
   unfold wl
   split<;>simp<;>omega
theorem JI (k:List Fg) (i:Nat) (hr:RightK k) (hz:Z0 k) (hkl:k.length<=1073741824):Cn Tryz.prog 30 [kp k,.v (.int .u64 i)] (is (zG k i)):=by
 refine xw rfl (enters_of Tryz.func30 (by kernel_rfl) rfl) fun D w vs hG hD hsz hd=>?_
 obtain⟨a,cap,fs,e0,hl,hrow,hfs⟩:=Yd (hd 0 _ rfl) hD
 rw [zc0 hsz,e0,(hd 1 _ rfl).v_inv]
 obtain⟨w1,hw1⟩:∃ w1,(w.alloc (.cells #[.slice a k.length cap] 23)).alloc (.cells #[.int .u64 (i:Nat)] 28)=w1:=⟨_,rfl⟩
 have hs1:w1.heap.size=w.heap.size+2:=by rw [<-hw1];simp
 have b1:Below w.heap.size w w1:=by rw [<-hw1];exact((Below.refl _ _).alloc (Nat.le_refl _) _).alloc (by simp) _
 have x1:Boxed w1 w.heap.size 23 (.slice a k.length cap):=by rw [<-hw1];exact(Boxed.new w _ _).alloc _
 have x2:Boxed w1 (w.heap.size+1) 28 (.int .u64 (i:Nat)):=by rw [<-hw1];have:=Boxed.new (w.alloc (.cells #[.slice a k.length cap] 23)) 28 (.int .u64 (i:Nat));rw [World.size_alloc] at this;exact this
 have hwc:∀ b o x,D b o->w.cell? ⟨b,o,none⟩=some x->w1.cell? ⟨b,o,none⟩=some x:=fun b o x hd hx=>(b1.cell (p:=⟨b,o,none⟩) (hD b o hd)).trans hx
 obtain⟨E,hE⟩:∃ E:Nat->Nat->Prop,E=fun b o=>D b o\/(w.heap.size<=b/\b<w1.heap.size):=⟨_,rfl⟩
 have hEb:∀ b o,E b o->b<w1.heap.size:=fun b o h=>by rw [hE] at h;exact h.elim (fun h=>by have:=hD b o h;omega) And.right
 have hfold:Calls Tryz.prog 54 #[.func (.func 72) #[] #[.pointer (some ⟨w.heap.size,0,none⟩),.pointer (some ⟨w.heap.size+1,0,none⟩)],.slice none 0 0,.func (.func 55) #[] #[]] w1 fun e w'=>∃ u,e=.returned u/\OwnI (w1.heap.size+4) w' u (zG k i)/\Below w1.heap.size w1 w':=by
  refine(YV 72 _ w.heap.size (w.heap.size+1) _ w1 none 0 (enters_of Tryz.func72 (by kernel_rfl) rfl) (fun W hb=>QP (D:=E) (a:=a) (cap:=cap) (fs:=fs) hr hz (hG.mono (fun b o h=>by rw [hE];exact .inl h) hwc) hEb (by rw [hE];exact .inr (by omega)) (by rw [hE];exact .inr (by omega)) x1.cell x2.cell hl ?_ (fun j hj=>⟨(hfs j hj).1.mono (fun b o h=>by rw [hE];exact .inl h) hwc,(hfs j hj).2.mono (fun b o h=>by rw [hE];exact .inl h) hwc⟩) hb) (by omega) (by omega)
   (fun W u l=>OwnI (w1.heap.size+4) W u l) (fun o p=>o++[p.1]) [] (fun W _=>OwnI.nil _ _) (fun W u a h=>h.shape) (fun A B u a h hk=>h.keep hk fun g hg _=>by omega) fun W u pre p hpre hs4 hb h=>?_).mono ?_
  ·obtain⟨h1,h2,h3⟩:=hrow
   refine⟨h1,h2,fun hne=>?_⟩
   obtain⟨b,off,e1,e2,e3⟩:=h3 hne
   exact⟨b,off,e1,by omega,fun j hj=>⟨(b1.cell (p:=⟨b,off+j * 2,none⟩) e2).trans (e3 j hj).1,(b1.cell (p:=⟨b,off+j * 2+1,none⟩) e2).trans (e3 j hj).2⟩⟩
  ·have hpl:pre.length<=k.length:=by
    have h1:=hpre.length_le
    have h2:=zcQ (fun j=>mem (k.getD j default).items i) 0 fs
    simp only [List.length_append,List.length_cons,List.length_nil] at h1
    omega
   refine VH (w1.heap.size+4) W u _ p.1 _ _ h (by omega) ?_
   rw [KM]
   simp
   omega
  ·rintro e w' ⟨u,rfl,hI,hb⟩
   rw [j4 hl i (fun o j _=>o++[j]) [],VE,List.nil_append] at hI
   exact⟨u,rfl,hI,hb⟩
 have HF:=Lib.hid hfold
 have HB:=Lib.hid b1
 clear hfold b1 x1 x2 hwc hE hEb hrow hfs hd hG hD
 go_enter Tryz.func30,Tryz.ntmps30
 go_wp2_with (first
  | (go_at_call 45;refine(XW _ _ _ _ _).mono ?_;rintro e w' ⟨rfl,rfl⟩;rw [hw1])
  | (go_at_call 54;refine HF.out.mono ?_;rintro e w2 ⟨u,rfl,ho,hb2⟩;obtain⟨au,nu,cu,rfl⟩:=ho.shape))
 go_ret
 exact⟨_,rfl,HB.out.trans (hb2.mono (by omega)),zbY ho fun b o h1 h2=>.inr (by omega)⟩
theorem jS {β:Type} (q:β->Bool):∀(l:List β) (b:Bool),l.foldl (fun b x=>b || q x) b=(b || l.any q)
 | [],b=>by simp
 | x::l,b=>by rw [List.foldl_cons,jS q l,List.any_cons,Bool.or_assoc]
theorem zhi {k:List Fg} {fs:List Fv} (hl:fs.length=k.length) (item:Nat) (q:Fg->Bool) :
 (wl (fun j=>mem (k.getD j default).items item) 0 fs).any (fun p=>q (k.getD p.1 default))=(z6 item 0 k).any fun p=>q p.2:=by
 have h:=j4 hl item (fun b _ f=>b || q f) false
 have h1:=jS (fun p:Nat × Fv=>q (k.getD p.1 default)) (wl (fun j=>mem (k.getD j default).items item) 0 fs) false
 have h2:=jS (fun p:Nat × Fg=>q p.2) (z6 item 0 k) false
 rw [Bool.false_or] at h1 h2
 rw [<-h1,<-h2]
 exact h
theorem zgr (k:List Fg) (i r c:Nat) (hr:RightK k) (hc:c<zk) (hz:Z0 k):Cn Tryz.prog 22 [kp k,.v (.int .u64 i),.v (.int .u64 r),.v (.int .u64 c)] (.v (.bool (hasK k i r c))):=by
 refine xw rfl (enters_of Tryz.func22 (by kernel_rfl) rfl) fun D w vs hG hD hsz hd=>?_
 obtain⟨a,cap,fs,e0,hl,hrow,hfs⟩:=Yd (hd 0 _ rfl) hD
 have hvs:vs=#[.slice a k.length cap,.int .u64 (i:Nat),.int .u64 (r:Nat),.int .u64 (c:Nat)]:=by
  have q1:=(hd 1 _ rfl).v_inv
  have q2:=(hd 2 _ rfl).v_inv
  have q3:=(hd 3 _ rfl).v_inv
  obtain⟨l⟩:=vs
  match l,hsz with
  | [x,y,z,t],_=>
    simp at e0 q1 q2 q3
    rw [e0,q1,q2,q3]
 rw [hvs]
 refine(KB a k.length cap i r c (wl (fun j=>mem (k.getD j default).items i) 0 fs) (fun p=>mem (zL (k.getD p.1 default).vec r) c) w (fun W hlow hs5 c3 c4=>?_) fun W p hp hb=>?_).mono ?_
 ·have hw:∀ b o x,D b o->w.cell? ⟨b,o,none⟩=some x->W.cell? ⟨b,o,none⟩=some x:=fun b o x hd hx=>(World.cell?_of_block (a:=⟨b,o,none⟩) (hlow b (hD b o hd))).trans hx
  refine XU fs _ a cap _ 0 _ 0 w.heap.size i W ?_ (by rw [hl];exact c3) c4 (by omega) fun w' j hj hlow' hsz'=>?_
  ·obtain⟨h1,h2,h3⟩:=hrow
   refine⟨h1,h2,fun hne=>?_⟩
   obtain⟨b,off,e1,e2,e3⟩:=h3 hne
   exact⟨b,off,e1,e2,fun j hj=>⟨(World.cell?_of_block (a:=⟨b,off+j * 2,none⟩) (hlow b e2)).trans (e3 j hj).1,(World.cell?_of_block (a:=⟨b,off+j * 2+1,none⟩) (hlow b e2)).trans (e3 j hj).2⟩⟩
  ·have hw':∀ b o x,D b o->w.cell? ⟨b,o,none⟩=some x->w'.cell? ⟨b,o,none⟩=some x:=fun b o x hd hx=>(World.cell?_of_block (a:=⟨b,o,none⟩) (hlow' b (hD b o hd))).trans (hw b o x hd hx)
   have hj':j<k.length:=hl ▸ hj
   have hm:=List.getElem_mem hj'
   simp only [Q7 hj']
   refine(jV (V2 k[j].items i (hr _ hm).1 (hz.2 _ hm).1) (hG.mono (fun _ _ h=>h) hw') (fun b o h=>Nat.lt_of_lt_of_le (hD b o h) hsz') rfl (fun t p hp=>?_)).mono ?_
   ·match t,hp with
    | 0,hp=>cases hp;exact(hfs j hj).1.mono (fun _ _ h=>h) hw'
    | 1,hp=>cases hp;exact .v _
    | t+2,hp=>simp at hp
   ·rintro e W' ⟨v,rfl,hb',hd⟩
    rw [hd.v_inv]
    exact⟨rfl,hb'⟩
 ·have hw:∀ b o x,D b o->w.cell? ⟨b,o,none⟩=some x->W.cell? ⟨b,o,none⟩=some x:=fun b o x hd hx=>(hb.cell (p:=⟨b,o,none⟩) (hD b o hd)).trans hx
  obtain⟨hp1,_,hp3,_⟩:=Jd hp
  have hj:p.1<fs.length:=by simpa using hp1
  have hj':p.1<k.length:=hl ▸ hj
  have hm:=List.getElem_mem hj'
  have e:p.2=fs[p.1]:=by rw [hp3];simp
  simp only [Q7 hj',e]
  refine(jV (zhg k[p.1].vec r c (hr _ hm).2 hc (hz.2 _ hm).2.1 (hz.2 _ hm).2.2) (hG.mono (fun _ _ h=>h) hw) (fun b o h=>Nat.lt_of_lt_of_le (hD b o h) hb.size) rfl (fun t p' hp'=>?_)).mono ?_
  ·match t,hp' with
   | 0,hp'=>cases hp';exact(hfs p.1 hj).2.mono (fun _ _ h=>h) hw
   | 1,hp'=>cases hp';exact .v _
   | 2,hp'=>cases hp';exact .v _
   | t+3,hp'=>simp at hp'
  ·rintro e W' ⟨v,rfl,hb',hd⟩
   rw [hd.v_inv]
   exact⟨rfl,hb'⟩
 ·rintro e w' ⟨rfl,hb⟩
  rw [zhi hl i (fun f=>mem (zL f.vec r) c),y7]
  exact⟨_,rfl,hb,.v _⟩
theorem ziz {C:Nat->List Nat} {R:List Nat} (k:List Fg) (i:Nat) (hk:IK C R k) (ok:OkC C R) (hr:RightK k) (hs:∀ f ∈ k,SmV f.vec) (hz:Z0 k):Cn Tryz.prog 36 [kp k,.v (.int .u64 i)] (vp (qI k i)):=by
 refine zz Tryz.func36 2 ?_
 refine pw ?_
 refine .c (zdQ k i) ?_
 exact .d (zdB k i hk ok hr hs hz)
theorem zgq (k:List Fg) (hb:BdK k):Cn Tryz.prog 25 [kp k] (.v (.bool (jX k))):=by
 have hl:=hb.2
 refine zz Tryz.func25 1 ?_
 refine pw ?_
 refine pLoop.go (fun j=>j<=k.length/\jX k=((k.drop j).all (fun f=>decide (f.items.length<=20) && Vo f.vec) && decide (k.length<=12))) (fun j=>[(3,.v (.int .i64 (j:Nat)))]) (fun _=>[]) (fun j=>k.length - j) 0 [3] ?_ ?_ ?_
 ·exact⟨Nat.zero_le _,rfl⟩
 ·exact pd
 ·rintro j ⟨hj,hm⟩
  refine pw ?_
  refine .i ?_ ?_<;>intro h<;>(try simp only [zf] at h)<;>first | refine pw ?_ | exact pd
  ·rw [List.drop_eq_getElem_cons h,List.all_cons] at hm
   have hbj:=hb.1 _ (List.getElem_mem h)
   have hbi:=hbj.2.2.1
   refine pw ?_
   refine .i ?_ ?_<;>intro h2<;>(try simp only [zf] at h2)<;>first | refine pw ?_ | exact pd
   ·rw [hm,decide_eq_false (by omega)]
    rfl
   ·rw [decide_eq_true (by omega),Bool.true_and] at hm
    refine .c (zh9 k[j].vec hbj.2.2.2) ?_
    refine .i ?_ ?_<;>intro h3<;>(try simp only [zf] at h3)<;>first | refine pw ?_ | exact pd
    ·rw [hm,h3]
     rfl
    ·rw [h3,Bool.true_and] at hm
     exact⟨j+1,⟨h,hm⟩,by omega,rfl⟩
  ·rw [hm,List.drop_of_length_le (by omega)]
   simp
   omega
theorem Xz (k:List Fg) (hb:BdK k) (hz:Z0 k):Cn Tryz.prog 53 [kp k] (.tup [.v (.int .i64 (ckK k).1),.v (.int .i64 (ckK k).2)]):=by
 have hl:=hz.1
 refine zz Tryz.func53 1 ?_
 refine pw ?_
 refine pLoop.go (fun j=>j<=k.length/\ckK k=hkK j (k.drop j)) (fun j=>[(4,.v (.int .i64 (j:Nat)))]) (fun _=>[]) (fun j=>k.length - j) 0 [4] ?_ ?_ ?_
 ·exact⟨Nat.zero_le _,rfl⟩
 ·exact pd
 ·rintro j ⟨hj,hm⟩
  refine pw ?_
  refine .i ?_ ?_<;>intro h<;>(try simp only [zf] at h)<;>first | refine pw ?_ | exact pd
  ·rw [List.drop_eq_getElem_cons h,hkK] at hm
   have hbj:=hb.1 _ (List.getElem_mem h)
   have hzj:=hz.2 _ (List.getElem_mem h)
   refine pw ?_
   refine .c (YH k[j].items hzj.1 hbj.1) ?_
   refine .i ?_ ?_<;>intro h2<;>(try simp only [zf] at h2)<;>first | refine pw ?_ | exact pd
   ·rw [if_neg (by omega)] at hm
    refine .c (VW k[j].vec hbj.2.1 hzj.2.1 hzj.2.2) ?_
    refine .i ?_ ?_<;>intro h3<;>(try simp only [zf] at h3)<;>first | refine pw ?_ | exact pd
    ·rw [if_pos (by omega)] at hm
     rw [hm]
    ·rw [if_neg (by omega)] at hm
     exact⟨j+1,⟨h,hm⟩,by omega,rfl⟩
   ·rw [if_pos (by omega)] at hm
    refine .i ?_ ?_<;>intro h3<;>(try simp only [zf] at h3)<;>first | refine pw ?_ | exact pd
    ·rw [hm]
    ·exact absurd h3 (by omega)
  ·rw [hm,List.drop_of_length_le (by omega)]
   rfl
theorem zbD (k:List Fg) (hb:BdK k) (hz:Z0 k):Cn Tryz.prog 26 [kp k] (.v (.bool (decide ((ckK k).1=0)))):=by
 refine zz Tryz.func26 1 ?_
 refine pw ?_
 exact .d (Xz k hb hz)
theorem K5 (k:List Fg) (i r c:Nat) (hr:RightK k) (hc:c<zk) (hz:Z0 k):Cn Tryz.prog 23 [kp k,.v (.int .u64 i),.v (.int .u64 r),.v (.int .u64 c)] (.v (.bool (hasK k i r c))):=by
 have hl:=hz.1
 refine zz Tryz.func23 4 ?_
 refine pw ?_
 refine pLoop.go (fun j=>j<=k.length/\hasK k i r c=hasK (k.drop j) i r c) (fun j=>[(9,.v (.int .i64 (j:Nat)))]) (fun _=>[]) (fun j=>k.length - j) 0 [9] ?_ ?_ ?_
 ·exact⟨Nat.zero_le _,rfl⟩
 ·exact pd
 ·rintro j ⟨hj,hm⟩
  refine pw ?_
  refine .i ?_ ?_<;>intro h<;>(try simp only [zf] at h)<;>first | refine pw ?_ | exact pd
  ·rw [List.drop_eq_getElem_cons h] at hm
   have hm':hasK k i r c=((mem k[j].items i && mem (zL k[j].vec r) c) || hasK (k.drop (j+1)) i r c):=hm
   have hzj:=hz.2 _ (List.getElem_mem h)
   have hrj:=hr _ (List.getElem_mem h)
   refine pw ?_
   refine .c (x9 k[j].items i hzj.1) ?_
   refine .i ?_ ?_<;>intro h2<;>(try simp only [zf] at h2)<;>first | refine pw ?_ | exact pd
   ·refine .c (zcq k[j].vec r c hrj.2 hc hzj.2.1 hzj.2.2) ?_
    rw [h2,Bool.true_and] at hm'
    refine .i ?_ ?_<;>intro h3<;>(try simp only [zf] at h3)<;>first | refine pw ?_ | exact pd
    ·rw [hm',h3]
     rfl
    ·rw [h3,Bool.false_or] at hm'
     exact⟨j+1,⟨h,hm'⟩,by omega,rfl⟩
   ·rw [h2,Bool.false_and,Bool.false_or] at hm'
    exact⟨j+1,⟨h,hm'⟩,by omega,rfl⟩
  ·rw [hm,List.drop_of_length_le (by omega)]
   rfl
theorem zcr {C:Nat->List Nat} {R:List Nat} (k:List Fg) (i:Nat) (hk:IK C R k) (ok:OkC C R) (hr:RightK k) (hs:∀ f ∈ k,SmV f.vec) (hz:Z0 k):Cn Tryz.prog 38 [kp k,.v (.int .u64 i)] (vp (qI k i)):=by
 have hl:=hz.1
 refine zz Tryz.func38 2 ?_
 refine pw ?_
 refine pLoop.go (fun j=>j<=k.length) (fun j=>[(5,vp (qI (k.take j) i)),(6,.v (.int .i64 (j:Nat)))]) (fun _=>[]) (fun j=>k.length - j) 0 [5,6] ?_ ?_ ?_
 ·exact Nat.zero_le _
 ·simp only [List.take_zero,zak]
  exact pd
 ·rintro j hj
  refine pw ?_
  refine .i ?_ ?_<;>intro h<;>(try simp only [zf] at h)<;>first | refine pw ?_ | exact pd
  ·have hst:=Jb i h
   have hzj:=hz.2 _ (List.getElem_mem h)
   have hsm:=((hk.take j).at i).1.smv ok
   refine pw ?_
   refine .c (x9 k[j].items i hzj.1) ?_
   refine .i ?_ ?_<;>intro h2<;>(try simp only [zf] at h2)<;>first | refine pw ?_ | exact pd
   ·rw [if_pos h2] at hst
    refine .c (zfK (qI (k.take j) i) k[j].vec 0 (by omega) hsm (hs _ (List.getElem_mem h))) ?_
    rw [zlo]
    exact⟨j+1,h,by omega,by rw [hst],rfl⟩
   ·rw [if_neg (by rw [h2];simp)] at hst
    exact⟨j+1,h,by omega,by rw [hst],rfl⟩
  ·rw [show k.take j=k from List.take_of_length_le (by omega)]
theorem VX (k:List Fg) (i:Nat) (hz:Z0 k) (hkl:k.length<=1073741824):Cn Tryz.prog 34 [kp k,.v (.int .u64 i)] (is (zG k i)):=by
 have hl:=hz.1
 refine zz Tryz.func34 2 ?_
 refine pw ?_
 refine pLoop.go (fun j=>j<=k.length) (fun j=>[(5,.sl ((zG (k.take j) i).map fun x=>[.v (.int .i64 (x:Nat))]) (.r 23 1)),(6,.v (.int .i64 (j:Nat)))]) (fun _=>[]) (fun j=>k.length - j) 0 [5,6,23] ?_ ?_ ?_
 ·exact Nat.zero_le _
 ·simp only [List.take_zero,zG,z6,List.map_nil]
  exact pd
 ·rintro j hj
  have hml:=KN (k.take j) i
  have hml2:(zG (k.take j) i).length<=j:=by simp at hml;omega
  refine pw ?_
  refine .i ?_ ?_<;>intro h<;>(try simp only [zf] at h)<;>first | refine pw ?_ | exact pd
  ·have hst:=VF i h
   have hzj:=hz.2 _ (List.getElem_mem h)
   refine pw ?_
   refine .c (x9 k[j].items i hzj.1) ?_
   refine .i ?_ ?_<;>intro h2<;>(try simp only [zf] at h2)<;>first | refine pw ?_ | exact pd
   ·rw [if_pos h2] at hst
    refine⟨j+1,h,by omega,?_,rfl⟩
    rw [hst]
    simp
   ·rw [if_neg (by rw [h2];simp),List.append_nil] at hst
    exact⟨j+1,h,by omega,by rw [hst],rfl⟩
  ·rw [show k.take j=k from List.take_of_length_le (by omega)]
theorem VY (a b:List Fg) (hz:Z0 a):Cn Tryz.prog 17 [kp a,kp b] (.v (.bool (decide (a=b)))):=by
 have hl:=hz.1
 refine zz Tryz.func17 2 ?_
 refine pw ?_
 refine .i ?_ ?_<;>intro h0<;>(try simp only [zf] at h0)<;>first | refine pw ?_ | exact pd
 ·symm
  rw [decide_eq_false_iff_not]
  rintro rfl
  exact h0 rfl
 ·have h0':a.length=b.length:=by simpa using h0
  clear h0
  refine pLoop.go (fun k=>k<=a.length/\(a=b ↔ a.drop k=b.drop k)) (fun k=>[(5,.v (.int .i64 (k:Nat)))]) (fun _=>[]) (fun k=>a.length - k) 0 [5] ?_ ?_ ?_
  ·exact⟨Nat.zero_le _,Iff.rfl⟩
  ·exact pd
  ·rintro k ⟨hk,hm⟩
   refine pw ?_
   refine .i ?_ ?_<;>intro h<;>(try simp only [zf] at h)<;>first | refine pw ?_ | exact pd
   ·have hk':k<b.length:=by omega
    have hzj:=hz.2 _ (List.getElem_mem h)
    rw [List.drop_eq_getElem_cons h,List.drop_eq_getElem_cons hk',List.cons.injEq] at hm
    refine pw ?_
    refine .c (Ys a[k].items b[k].items hzj.1) ?_
    refine .i ?_ ?_<;>intro e<;>(try simp only [zf] at e)<;>first | refine pw ?_ | exact pd
    ·symm
     rw [decide_eq_false_iff_not]
     intro he
     exact e (congrArg Fg.items (hm.1 he).1)
    ·refine .c (zex a[k].vec b[k].vec hzj.2.1 hzj.2.2) ?_
     refine .i ?_ ?_<;>intro e2<;>(try simp only [zf] at e2)<;>first | refine pw ?_ | exact pd
     ·symm
      rw [decide_eq_false_iff_not]
      intro he
      exact e2 (congrArg Fg.vec (hm.1 he).1)
     ·refine⟨k+1,⟨h,?_⟩,by omega,rfl⟩
      rw [hm]
      exact⟨fun h=>h.2,fun h=>⟨Fg.ext' e e2,h⟩⟩
   ·rw [eq_comm,decide_eq_true_eq,hm,List.drop_of_length_le (by omega),List.drop_of_length_le (by omega)]
theorem zh3 (a b:List Nat) (ha:a.length<=1152921504606846976):Cn Tryz.prog 29 [is a,is b] (.v (.bool (decide (a=b)))):=by
 refine zz Tryz.func29 2 ?_
 refine pw ?_
 refine .i ?_ ?_<;>intro h0<;>(try simp only [zf] at h0)<;>first | refine pw ?_ | exact pd
 ·symm
  rw [decide_eq_false_iff_not]
  rintro rfl
  exact h0 rfl
 ·have h0':a.length=b.length:=by simpa using h0
  clear h0
  refine pLoop.go (fun k=>k<=a.length/\(a=b ↔ a.drop k=b.drop k)) (fun k=>[(13,.v (.int .i64 (k:Nat)))]) (fun _=>[]) (fun k=>a.length - k) 0 [13] ?_ ?_ ?_
  ·exact⟨Nat.zero_le _,Iff.rfl⟩
  ·exact pd
  ·rintro k ⟨hk,hm⟩
   refine pw ?_
   refine .i ?_ ?_<;>intro h<;>(try simp only [zf] at h)<;>first | refine pw ?_ | exact pd
   ·have hk':k<b.length:=by omega
    rw [List.drop_eq_getElem_cons h,List.drop_eq_getElem_cons hk',List.cons.injEq] at hm
    refine pw ?_
    refine .i ?_ ?_<;>intro e<;>(try simp only [zf] at e)<;>first | refine pw ?_ | exact pd
    ·symm
     rw [decide_eq_false_iff_not]
     intro he
     exact absurd (hm.1 he).1 (by omega)
    ·refine⟨k+1,⟨h,?_⟩,by omega,rfl⟩
     rw [hm]
     have e:a[k]=b[k]:=by omega
     exact⟨fun h=>h.2,fun h=>⟨e,h⟩⟩
   ·rw [eq_comm,decide_eq_true_eq,hm,List.drop_of_length_le (by omega),List.drop_of_length_le (by omega)]
end Go.Proofs.YtjimggclhlnfbaaGreat
namespace Go.Proofs.YtjimggclhlnfbaaGreat
open Go.RowKit Go.Maps
attribute [-go_sem] qo
def MemV (C:Nat->Nat->Prop) (l:List Nat) (u:Value) (w:World):Prop:=∃ D:Nat->Nat->Prop,(∀ b o,C b o->D b o)/\(∀ b o,D b o->b<w.heap.size)/\Dat D w u (is l)
theorem MemV.stab {C:Nat->Nat->Prop} {l:List Nat} (u:Value) (w w':World) (h:MemV C l u w) (hk:Keep qc w w'):MemV C l u w':=by
 obtain⟨D,h1,h2,h3⟩:=h
 exact⟨D,h1,fun b o hd=>Nat.lt_of_lt_of_le (h2 b o hd) hk.size,h3.mono (fun _ _ h=>h) fun b o x hd hx=>(World.cell?_of_block (a:=⟨b,o,none⟩) (hk.block b (h2 b o hd) id)).trans hx⟩
theorem Yg {C:Nat->Nat->Prop} {w0 w:World} {k:List Fg} {v:Value} (x:Nat) (hr:RightK k) (hz:Z0 k) (hkl:k.length<=1073741824) (hd:Dat C w0 v (kp k)) (hC:∀ b o,C b o->b<w0.heap.size) (hG:GL C w0) (hb:Below w0.heap.size w0 w) :
 Calls Tryz.prog 30 #[v,.int .u64 (x:Nat)] w fun e w'=>∃ u,e=.returned u/\Below w.heap.size w w'/\MemV C (zG k x) u w':=by
 have hw:∀ b o y,C b o->w0.cell? ⟨b,o,none⟩=some y->w.cell? ⟨b,o,none⟩=some y:=fun b o y hc hy=>(World.cell?_of_block (a:=⟨b,o,none⟩) (hb.block b (hC b o hc))).trans hy
 have hC':∀ b o,C b o->b<w.heap.size:=fun b o h=>Nat.lt_of_lt_of_le (hC b o h) hb.size
 refine(jV (JI k x hr hz hkl) (hG.mono (fun _ _ h=>h) hw) hC' (vs:=#[v,.int .u64 (x:Nat)]) rfl (fun i p hp=>by
  match i,hp with
  | 0,hp=>cases hp;exact hd.mono (fun _ _ h=>h) hw
  | 1,hp=>cases hp;exact .v _
  | i+2,hp=>simp at hp)).mono ?_
 rintro e w' ⟨u,rfl,hb',hd'⟩
 exact⟨u,rfl,hb',_,fun b o h=>.inl h,fun b o h=>h.elim (fun h=>Nat.lt_of_lt_of_le (hC' b o h) hb'.size) And.right,hd'⟩
theorem ze3 {C:Nat->Nat->Prop} {w0 w:World} {a b:List Nat} {u v:Value} (r:Bool) (hr:decide (a=b)=r) (ha:a.length<=1152921504606846976) (hC:∀ b o,C b o->b<w0.heap.size) (hG:GL C w0) (hb:Below w0.heap.size w0 w) (hu:MemV C a u w) (hv:MemV C b v w) :
 Calls Tryz.prog 29 #[u,v] w fun e w'=>e=.returned (.bool r)/\Below w.heap.size w w':=by
 subst hr
 obtain⟨D1,p1,p2,p3⟩:=hu
 obtain⟨D2,q1,q2,q3⟩:=hv
 have hw:∀ b o y,C b o->w0.cell? ⟨b,o,none⟩=some y->w.cell? ⟨b,o,none⟩=some y:=fun b o y hc hy=>(World.cell?_of_block (a:=⟨b,o,none⟩) (hb.block b (hC b o hc))).trans hy
 refine(jV (D:=fun b o=>D1 b o\/D2 b o) (zh3 a b ha) (hG.mono (fun b o h=>.inl (p1 b o h)) hw) (fun b o h=>h.elim (p2 b o) (q2 b o)) (vs:=#[u,v]) rfl (fun i p hp=>by
  match i,hp with
  | 0,hp=>cases hp;exact p3.mono (fun _ _ h=>.inl h) fun _ _ _ _ h=>h
  | 1,hp=>cases hp;exact q3.mono (fun _ _ h=>.inr h) fun _ _ _ _ h=>h
  | i+2,hp=>simp at hp)).mono ?_
 rintro e w' ⟨r,rfl,hb',hd'⟩
 rw [hd'.v_inv]
 exact⟨rfl,hb'⟩
theorem YF {k:List Fg} (i:Nat):(CI (k.take i)).length<=(CI k).length:=by
 have:CI k=CI (k.take i)++CI (k.drop i):=by unfold CI;rw [<-List.flatMap_append,List.take_append_drop]
 rw [this,List.length_append];omega
theorem Z4 {l:List Iv} (j:Nat):(zZ (l.take j)).length<=(zZ l).length:=by
 have:zZ l=zZ (l.take j)++zZ (l.drop j):=by unfold zZ;rw [<-List.flatMap_append,List.take_append_drop]
 rw [this,List.length_append];omega
theorem YA (C:Nat->Nat->Prop) (k:List Fg) (vk:Value) (w:World) (hr:RightK k) (hz:Z0 k) (hkl:k.length<=1073741824) (hT:(CI k).length<=1000000) (rk:Dat C w vk (kp k)) (hC:∀ b o,C b o->b<w.heap.size) (hG:GL C w) :
 Calls Tryz.prog 11 #[vk] w fun e w'=>∃ v,e=.returned v/\Below w.heap.size w w'/\OwnU w.heap.size w' v (zl k):=by
 have hmm:=@run_makeMap Tryz.prog
 have rg:=zdk rk hC hr
 have RK:=Lib.hid rk
 have RG:=Lib.hid rg
 have HR:=Lib.hid hr
 have HGL:=Lib.hid hG
 obtain⟨aa,ca,rfl,hac,ham,_⟩:=rg
 unfold maxLen at ham
 clear rk hG
 have tokA:True:=trivial
 go_enter Tryz.func11,Tryz.ntmps11
 go_wp2_with (first
  | (have _t:=tokA;refine yR rfl _ _ _ (.inr rfl) rfl (MI.made w) (by decide) (r:=0) xt rfl ?_;clear tokA;intro w1 hmi hg1;dsimp only [Act.put])
  | go_in)
 have hs1:w.heap.size<w1.heap.size:=hmi.lt
 have HB1:Hid (Below w.heap.size w w1):=Lib.hid (((Below.refl _ w).alloc (Nat.le_refl _) (.map #[] 0)).grown hg1 (by simp) fun j hj=>by cases hj;exact Nat.le_refl _)
 have HM1:=Lib.hid hmi
 clear hmi hg1
 go_wp2_with fail
 go_loopg [19] k.length (fun g x wr=>∃ i,i<=k.length/\g=k.length - i/\x=.int .i64 i/\MI w.heap.size wr (0::CI (k.take i))/\Below w.heap.size w wr)
 case atStart=>exact⟨0,Nat.zero_le _,rfl,rfl,by simpa [CI] using HM1.out,HB1.out⟩
 case round=>
  obtain⟨i,hi,rfl,rfl,hmi,hB⟩:=hrel
  clear HM1 HB1 hs1
  have HMI:=Lib.hid hmi
  have HB:=Lib.hid hB
  clear hmi hB
  by_cases hlt:i<k.length
  ·obtain⟨a',cap',hav,_,_,hcl⟩:=id RG.out
   obtain⟨bb,off,hab,_,hbn,hcel⟩:=hcl (by intro e;subst e;simp at hlt)
   obtain⟨rfl,_,rfl⟩:aa=a'/\k.length=k.length/\ca=cap':=by simpa using hav
   subst hab
   obtain⟨⟨hv,c0,hrr⟩,av,nv,cv,c1⟩:=hcel i hlt
   replace c0:=(HB.out.cell (p:=⟨bb,off+i * 2,none⟩) hbn).trans c0
   replace c1:=(HB.out.cell (p:=⟨bb,off+i * 2+1,none⟩) hbn).trans c1
   have HE:Hid (∃ f,f=k[i]):=⟨_,rfl⟩
   obtain⟨f,hf⟩:=HE.out
   rw [<-hf] at hrr
   have HF:=Lib.hid hf
   have hfr:kW f:=by rw [hf];exact hr _ (List.getElem_mem hlt)
   have HFR:=Lib.hid hfr
   obtain⟨ai,ci,rfl,hic,him,_⟩:=id hrr
   have HRR:=Lib.hid hrr
   have hlen:(CI (k.take i)).length+(zZ f.items).length<=1000000:=by
    have:=YF (k:=k) (i+1)
    rw [Jf hlt,<-hf,List.length_append] at this
    omega
   clear hcl hcel hav hrr hf HE hfr
   unfold maxLen at him
   obtain⟨wo,hwo⟩:∃ wo,wo=wr:=⟨_,rfl⟩
   subst hwo
   go_wp2_with fail
   go_loopg [26] f.items.length (fun g x wq=>∃ j,j<=f.items.length/\g=f.items.length - j/\x=.int .i64 j/\MI w.heap.size wq (0::CI (k.take i)++zZ (f.items.take j))/\Below w.heap.size w wq)
   case atStart=>exact⟨0,Nat.zero_le _,rfl,rfl,by simpa [zZ] using HMI.out.keep (Below.heap_alloc _ _ _ HMI.out.lt),HB.out.alloc HB.out.size _⟩
   case round=>
    obtain⟨j,hj,rfl,rfl,hmq,hbq⟩:=hrel
    have HMQ:=Lib.hid hmq
    have HBQ:=Lib.hid hbq
    clear HMI hmq hbq
    by_cases hjl:j<f.items.length
    ·obtain⟨a',cap',hav,_,_,hcl⟩:=HRR.out.keep (w':=wr) (Nat.le_refl _) (Nat.le_refl _) fun b _ h=>HBQ.out.block b h
     obtain⟨bi,oi,hab,_,hbn,hcel⟩:=hcl (by intro e;rw [e] at hjl;simp at hjl)
     obtain⟨rfl,_,rfl⟩:ai=a'/\f.items.length=f.items.length/\ci=cap':=by simpa using hav
     subst hab
     obtain⟨d0,d1,l0,l1⟩:=hcel j hjl
     obtain⟨s,hs⟩:∃ s,s=f.items[j]:=⟨_,rfl⟩
     have hle:s.lo<=s.hi/\s.hi<zk:=by rw [hs];exact HFR.out.1.ivs2 _ (List.getElem_mem hjl)
     have hct:=Ku hjl
     have hcl2:=Z4 (l:=f.items) (j+1)
     rw [<-hs] at d0 d1 l0 l1 hct
     rw [hct,List.length_append] at hcl2
     have HCT:=Lib.hid hct
     clear hcl hcel hav hs hct
     have tokB:True:=trivial
     have tokC:True:=trivial
     by_cases hlast:s.hi=zk - 1
     ·have hc1:=zdi hlast
      have hh:((s.hi:Nat):Int)=18446744073709551615:=by rw [hlast,zw];rfl
      rw [hh] at d1
      have HC1:=Lib.hid hc1
      clear hc1 hlast hh
      have hBl:=HMQ.out.lt
      go_wp2_with (first
       | (at_mapUpdate;have _t:=tokB;refine yR rfl _ _ _ (.inl rfl) rfl (HMQ.out.keep (Below.heap_alloc _ _ _ HMQ.out.lt)) (by simp;unfold maxLen;omega) (r:=s.lo) l0 rfl ?_;clear tokB;intro w2 hm2 hg2
          have hx2:w2.heap[wr.heap.size]? = some (.cells #[.int .u64 s.lo,.int .u64 18446744073709551615] 41 (0,0)):=(hg2.block _ (by simp) (by simp;omega)).trans (World.alloc_heap_new _ _)
          have f2:=(zU hx2 1 _ rfl).1
          have HM2:=Lib.hid hm2;have HG2:=Lib.hid hg2;clear hm2 hg2 hx2;dsimp only [Act.put])
       | (go_at_call 27;refine(zdZ _).mono ?_;rintro e w' ⟨rfl,rfl⟩)
       | go_in)
      go_roundg (f.items.length - (j+1))
      case measure=>omega
      case rel=>
       refine⟨j+1,hjl,rfl,by simp,?_,((HBQ.out.alloc HBQ.out.size _).grown HG2.out (by simp;have:=HBQ.out.size;omega) fun j hj=>by cases hj;exact Nat.le_refl _)⟩
       rw [HCT.out,HC1.out,<-List.append_assoc];exact HM2.out
     ·obtain⟨y,hy⟩:∃ y,s.hi=y:=⟨_,rfl⟩
      have hM:=zw
      have hc1:=za3 (s:=s) (by omega)
      rw [hy] at d1 hc1 hlast hle l1
      have HC1:=Lib.hid hc1
      have hy64:y<18446744073709551615:=by omega
      have hy65:y+1<zk:=by omega
      rw [hc1,List.length_append] at hcl2
      simp at hcl2
      clear hc1 hlast hy hM
      have hBl:=HMQ.out.lt
      go_wp2_with (first
       | (at_mapUpdate;have _t:=tokB;refine yR rfl _ _ _ (.inl rfl) rfl (HMQ.out.keep (Below.heap_alloc _ _ _ HMQ.out.lt)) (by simp;unfold maxLen;omega) (r:=s.lo) l0 rfl ?_;clear tokB;intro w2 hm2 hg2
          have hx2:w2.heap[wr.heap.size]? = some (.cells #[.int .u64 s.lo,.int .u64 y] 41 (0,0)):=(hg2.block _ (by simp) (by simp;omega)).trans (World.alloc_heap_new _ _)
          have f2:=(zU hx2 1 _ rfl).1
          have HM2:=Lib.hid hm2;have HG2:=Lib.hid hg2;clear hm2 hg2 hx2;dsimp only [Act.put])
       | (go_at_call 27;refine(zbS y hy64 _).mono ?_;rintro e w' ⟨rfl,rfl⟩)
       | (at_mapUpdate;have _t:=tokC;refine yR rfl _ _ _ (.inl rfl) rfl HM2.out (by simp;unfold maxLen;omega) (r:=y+1) hy65 rfl ?_;clear tokC;intro w3 hm3 hg3;have HM3:=Lib.hid hm3;have HG3:=Lib.hid hg3;clear hm3 hg3;dsimp only [Act.put])
       | go_in)
      go_roundg (f.items.length - (j+1))
      case measure=>omega
      case rel=>
       refine⟨j+1,hjl,rfl,by simp,?_,((HBQ.out.alloc HBQ.out.size _).grown HG2.out (by simp;have:=HBQ.out.size;omega) fun j hj=>by cases hj;exact Nat.le_refl _).grown HG3.out (by have:=HBQ.out.size;have:=HG2.out.size;simp at this;omega) fun j hj=>by cases hj;exact Nat.le_refl _⟩
       have:=HM3.out
       rw [HCT.out,HC1.out]
       simpa using this
    ·obtain rfl:j=f.items.length:=by omega
     rw [List.take_length] at HMQ
     go_wp2_with fail
     go_roundg (k.length - (i+1))
     case measure=>omega
     case rel=>
      refine⟨i+1,hlt,rfl,by simp,?_,HBQ.out⟩
      rw [Jf hlt,<-HF.out]
      exact HMQ.out
  ·obtain rfl:i=k.length:=by omega
   rw [List.take_length] at HMI
   obtain⟨S,hS⟩:∃ S,S=0::CI k:=⟨_,rfl⟩
   rw [<-hS] at HMI
   have hSl:S.length<=1000001:=by rw [hS];simp;omega
   have HS:=Lib.hid hS
   clear hS
   obtain⟨D,hown,hms⟩:=HMI.out
   have hBl:=hown.lt
   have HO:=Lib.hid hown
   have HMS:=Lib.hid hms
   clear hown hms
   obtain⟨wo,hwo⟩:∃ wo,wo=wr:=⟨_,rfl⟩
   subst hwo
   have tokB:True:=trivial
   go_wp2_with (first
    | (at_range;have _t:=tokB;refine wpList_range_own _ rfl _ 48 rfl 28 4 ve Tryz.underlying48 rV w.heap.size S.length D rfl HO.out ?_;intro w2 hrg2 hg2 hs2;clear tokB)
    | go_in)
   go_frame
   have HR2:Hid (RgS w.heap.size wo.heap.size S.length S (kpB k) (Maps.size D) (Maps.has D) w2):=Lib.hid ⟨D,hrg2,HMS.out.1,fun x=>by rw [HMS.out.2 x];simp;exact .inl,fun x h=>by rw [HMS.out.2 x] at h;simpa using h⟩
   have HB2:Hid (Below w.heap.size w w2):=Lib.hid (HB.out.grown hg2 HB.out.size fun j hj=>by cases hj)
   clear hrg2 hg2 HO HMI HMS
   go_loopg [] (Maps.size D) (fun g wr=>∃ left,RgS w.heap.size wo.heap.size S.length S (kpB k) g left wr/\Below w.heap.size w wr)
   case atStart=>exact⟨_,HR2.out,HB2.out⟩
   case round=>
    obtain⟨left,hrs,hB3⟩:=hrel
    obtain⟨D3,hrg,hIM,hhas,hlf⟩:=hrs
    have HRG:=Lib.hid hrg
    have HIM:=Lib.hid hIM
    have HHS:=Lib.hid hhas
    have HLF:=Lib.hid hlf
    have HB3:=Lib.hid hB3
    clear hrg hIM hhas hlf hB3 HR2 HB2
    go_wp2_with (first
     | (at_next;refine wpList_next_ranges _ rfl _ rfl 28 ve rV (fun r:{r:Nat // r<zk}=>Value.int .u64 (r.1:Nat)) (fun c:Value=>c) zgd (fun v y _=>⟨v,rfl⟩) w.heap.size wo.heap.size S.length D3 left gk rfl HRG.out ?_ ?_)
     | go_in)
    ·intro hc0 hl0
     obtain⟨wl,hwl⟩:∃ wl,wl=wr:=⟨_,rfl⟩
     subst hwl
     obtain⟨S2,hS2⟩:∃ S2,S2=S.filter (kpB k):=⟨_,rfl⟩
     have hms2:∀ y,has D3 (kR y)=decide (y ∈ S2):=fun y=>by rw [HHS.out y,hl0,hS2,Bool.false_or];simp [List.mem_filter]
     have hS2l:S2.length<=1000001:=by have:=List.length_filter_le (kpB k) S;rw [<-hS2] at this;omega
     have HM2:=Lib.hid hms2
     have HS2:=Lib.hid hS2
     have hown:=HRG.out.owns
     have HO:=Lib.hid hown
     have hwlw:w.heap.size<wl.heap.size:=hown.lt
     clear hms2 hS2 hown hl0 hc0
     have tokG:True:=trivial
     go_wp2_with (first
      | (at_range;have _t:=tokG;refine wpList_range_own _ rfl _ 48 rfl 28 4 ve Tryz.underlying48 rV w.heap.size S.length D3 rfl HO.out ?_;intro w5 hrg5 hg5 hs5;clear tokG)
      | go_in)
     go_frame
     have HR5:=Lib.hid hrg5
     have HB5:Hid (Below w.heap.size w w5):=Lib.hid (HB3.out.grown hg5 HB3.out.size fun j hj=>by cases hj)
     have hs5':wl.heap.size+1<=w5.heap.size:=by omega
     clear hrg5 hg5
     go_loopg [13] (Maps.size D3) (fun g v wr=>∃ left l,wr.ranges Tryz.prog 28 rV w.heap.size wl.heap.size S.length D3 left g/\GotS S2 left l/\(∀ y,left (kR y)=true->y ∈ S2)/\OwnU (wl.heap.size+1) wr v l/\Below w.heap.size w wr)
     case atStart=>exact⟨_,[],HR5.out,GotS.nil fun y=>by rw [HM2.out y,decide_eq_true_iff],fun y h=>by rw [HM2.out y] at h;simpa using h,World.ownsRow_nil _ _ _ _,HB5.out⟩
     case round=>
      obtain⟨left2,l,hrg,hgot,hlf,hown,hB6⟩:=hrel
      have HRG6:=Lib.hid hrg
      have HGT:=Lib.hid hgot
      have HLF6:=Lib.hid hlf
      have HOW:=Lib.hid hown
      have HB6:=Lib.hid hB6
      have hll:l.length<=1000001:=Nat.le_trans (qE l S2 hgot.1 fun y hy=>((hgot.2 y).1 hy).1) hS2l
      have hrs6:=hrg.lt
      obtain⟨ad,cap,rfl,hlc,hcm,_⟩:=hown.shape
      unfold maxLen at hcm
      clear hrg hgot hlf hown hB6 HR5 HB5
      go_wp2_with (first
       | (at_next;refine wpList_next_ranges _ rfl _ rfl 28 ve rV (fun r:{r:Nat // r<zk}=>Value.int .u64 (r.1:Nat)) (fun c:Value=>c) zgd (fun v y _=>⟨v,rfl⟩) w.heap.size wl.heap.size S.length D3 left2 gk rfl HRG6.out ?_ ?_)
       | go_in)
      ·intro hc0 hl0
       have hmem:∀ y,y ∈ l ↔ y ∈ S2:=fun y=>by rw [HGT.out.2 y,hl0];simp
       have h0l:0 ∈ l:=(hmem 0).2 (by rw [HS2.out,List.mem_filter,HS.out];exact⟨by simp,by simp [kpB]⟩)
       have hlne:l≠[]:=fun e=>by rw [e] at h0l;cases h0l
       obtain⟨l',hperm,hpw,hcall⟩:=zcB HOW.out hlne (by omega)
       have hfin:l'=zl k:=Qf hr hpw (hperm.nodup_iff.2 HGT.out.1) fun y=>by
        rw [hperm.mem_iff,hmem,HS2.out,HS.out,List.mem_filter]
        refine and_congr_right fun _=>?_
        simp [kpB]
       have hob:∀ j,(Value.slice ad l.length cap).ownBlock=some j->wl.heap.size+1<=j:=fun j hj=>(HOW.out.lt j hj).1
       have HFN:=Lib.hid hfin
       have HCL:=Lib.hid hcall
       have HOB:=Lib.hid hob
       clear hmem h0l hlne hperm hpw hfin hcall hl0 hc0 hob
       have tokH:True:=trivial
       go_wp2_with (first
        | (go_at_call 31;have _t:=tokH;refine HCL.out.mono ?_;rintro e w9 ⟨rfl,ho9,hg9⟩;have HO9:=Lib.hid ho9;have HG9:=Lib.hid hg9;clear ho9 hg9 tokH)
        | go_in)
       refine bodyPost_ret (results_tmp rfl _ _ _) rfl ?_
       exact⟨_,rfl,HB6.out.grown HG9.out HB6.out.size fun j hj=>by have:=HOB.out j hj;omega,by rw [<-HFN.out];exact HO9.out.base (by omega)⟩
      ·intro x hx c kl y ys w7 cnt7 hkey hlk hv hat hrg7 hlt7 hg7 hs7 hen
       try dsimp only at hkey hen ⊢
       obtain rfl:kl=kR x:=by
        have:=(ku hx).symm.trans hkey
        simpa using this.symm
       have HRG7:=Lib.hid hrg7
       have HG7:=Lib.hid hg7
       have HS7:=Lib.hid hs7
       have hs7w:wl.heap.size+1<=w7.heap.size:=by omega
       have HLK:=Lib.hid hlk
       obtain⟨i0,hi0,hz0,hz1,hz2⟩:=info_parts Y6
       have HO7:Hid (OwnU (wl.heap.size+1) (w7.alloc (.cells #[.int .u64 (x:Nat)] 28)) (.slice ad l.length cap) l):=Lib.hid (HOW.out.keep fun g hg=>by
        have h1:=HOW.out.lt g hg
        rw [Below.heap_alloc _ _ _ (by rw [HS7.out];exact h1.2),HG7.out.block g h1.2 (fun e=>by cases e;omega)])
       have hnb:=World.alloc_heap_new w7 (.cells #[.int .u64 (x:Nat)] 28 (0,0))
       clear hkey hv hat hrg7 hg7 hlk hs7
       have tokH:True:=trivial
       go_wp2_with (first
        | (at_builtin;have _t:=tokH;refine wpList_append_own_at _ rfl _ _ 27 rfl (wl.heap.size+1) 28 i0 (.int .u64 0) 1 8 Tryz.underlying27 hi0 hz0 hz1 hz2 rfl (by decide) _ _ _ rfl HO7.out ⟨w7.heap.size,0,none⟩ 1 1 [.int .u64 (x:Nat)] rfl rfl (jA (cs:=#[.int .u64 (x:Nat)]) (t := 28) (fr:=(0,0)) hnb) (by simp [Value.oneCell']) (by unfold maxLen;omega) (by omega) (by simp;omega) ?_;intro v' w8 ho hgr _ _;clear tokH;have HO8:=Lib.hid ho;have HG8:=Lib.hid hgr;clear ho hgr)
        | go_in)
       have hob:∀ j,(Value.slice ad l.length cap).ownBlock=some j->wl.heap.size+1<=j:=fun j hj=>(HOW.out.lt j hj).1
       have hb78:∀ j,j<wl.heap.size+1->w8.heap[j]? = w7.heap[j]?:=fun j hj=>by
        rw [HG8.out.block j (by simp;omega) (fun e=>by have:=hob j e.symm;omega),Below.heap_alloc _ _ _ (by omega)]
       go_roundg cnt7
       case measure=>exact hlt7
       case rel=>
        refine⟨_,l++[x],yq HRG7.out (hb78 _ (by omega)) (hb78 _ (by omega)),HGT.out.push HLK.out (HLF6.out _ HLK.out),fun r h=>?_,?_,?_⟩
        ·exact HLF6.out r (by cases h0:left2 (kR r) with | true=>rfl | false=>rw [h0] at h;simp at h)
        ·have:=HO8.out
         unfold OwnU
         simpa [uV] using this
        ·exact((HB6.out.grown HG7.out HB6.out.size fun j hj=>by cases hj;omega).alloc (by have:=HG7.out.size;have:=HB6.out.size;omega) _).grown HG8.out (by simp;have:=HB6.out.size;omega) fun j hj=>by have:=hob j hj;omega
    ·intro x hx c kl y ys w3 cnt3 hkey hlk hv hat hrg3 hlt hg3 hs3 hen
     try dsimp only at hkey hen ⊢
     obtain rfl:kl=kR x:=by
      have:=(ku hx).symm.trans hkey
      simpa using this.symm
     have HRG3:=Lib.hid hrg3
     have HB4:Hid (Below w.heap.size w w3):=Lib.hid (HB3.out.grown hg3 HB3.out.size fun j hj=>by cases hj;exact HB.out.size)
     have HLK:=Lib.hid hlk
     clear hkey hv hat hrg3 hg3 hlk
     cases x with
     | zero=>
       go_wp2_with (first | (go_at_call 28;refine(zem _).mono ?_;rintro e w' ⟨rfl,rfl⟩) | go_in)
       go_roundg cnt3
       case measure=>exact hlt
       case rel=>exact⟨_,RgS.next HIM.out HHS.out HLF.out HLK.out (by simp [kpB]) HRG3.out,HB4.out⟩
     | succ x=>
       have hx64:x<18446744073709551615:=by have:=zw;omega
       have hml:(zG k x).length<=1152921504606846976:=by
        have h1:=kj x 0 k
        unfold zG
        rw [List.length_map]
        omega
       have tokC:True:=trivial
       have tokD:True:=trivial
       have tokE:True:=trivial
       have tokF:True:=trivial
       by_cases heq:zG k x=zG k (x+1)
       ·have HQ:=Lib.hid (show decide (zG k x=zG k (x+1))=true from decide_eq_true heq)
        have HKB:=Lib.hid (show kpB k (x+1)=false by simp [kpB,heq])
        clear heq
        go_wp2_with (first
         | (go_at_call 28;refine(Xs x hx64 _).mono ?_;rintro e w' ⟨rfl,rfl⟩)
         | (go_at_call 30;have _t:=tokC;refine(Yg x hr hz hkl RK.out hC HGL.out HB4.out).mono ?_;rintro e w4 ⟨u1,rfl,hb1,hm1⟩;have HB5:=Lib.hid hb1;have HM5:=Lib.hid hm1;clear hb1 hm1 tokC)
         | (go_at_call 30;have _t:=tokD;refine(Yg (x+1) hr hz hkl RK.out hC HGL.out (HB4.out.trans (HB5.out.mono HB4.out.size))).mono ?_;rintro e w5 ⟨u2,rfl,hb1,hm1⟩;have HB6:=Lib.hid hb1;have HM6:=Lib.hid hm1;clear hb1 hm1 tokD)
         | (go_at_call 29;have _t:=tokE;refine(ze3 true HQ.out hml hC HGL.out ((HB4.out.trans (HB5.out.mono HB4.out.size)).trans (HB6.out.mono ((HB4.out.trans (HB5.out.mono HB4.out.size)).size))) (HM5.out.stab _ _ _ (Keep.of_below' HB6.out (Nat.le_refl _))) HM6.out).mono ?_;rintro e w6 ⟨rfl,hb1⟩;have HB7:=Lib.hid (((Below.refl _ _).trans HB5.out).trans ((HB6.out.mono HB5.out.size).trans (hb1.mono (Nat.le_trans HB5.out.size HB6.out.size))));clear hb1 tokE)
         | (at_delete;have _t:=tokF;refine wpList_delete_ranges _ rfl _ _ 48 28 rfl 4 ve Tryz.underlying48 rV w.heap.size wo.heap.size S.length D3 _ cnt3 rfl (yq HRG3.out (HB7.out.block _ (Nat.lt_trans hBl HRG3.out.lt)) (HB7.out.block _ HRG3.out.lt)) _ (kR (x+1)) rfl (ku hx) ?_;intro w7 cnt4 hrg7 hle7 hturn;clear tokF;have HRG7:=Lib.hid hrg7;have HG7:=Lib.hid hturn.grown;clear hrg7 hturn;dsimp only [Act.put])
         | go_in)
        go_roundg cnt4
        case measure=>omega
        case rel=>exact⟨_,RgS.del HIM.out HHS.out HLF.out HKB.out HRG7.out,(HB4.out.trans (HB7.out.mono HB4.out.size)).grown HG7.out (HB4.out.trans (HB7.out.mono HB4.out.size)).size fun j hj=>by cases hj;exact Nat.le_refl _⟩
       ·have HQ:=Lib.hid (show decide (zG k x=zG k (x+1))=false from decide_eq_false heq)
        have HKB:=Lib.hid (show kpB k (x+1)=true by simp [kpB,heq])
        clear heq
        go_wp2_with (first
         | (go_at_call 28;refine(Xs x hx64 _).mono ?_;rintro e w' ⟨rfl,rfl⟩)
         | (go_at_call 30;have _t:=tokC;refine(Yg x hr hz hkl RK.out hC HGL.out HB4.out).mono ?_;rintro e w4 ⟨u1,rfl,hb1,hm1⟩;have HB5:=Lib.hid hb1;have HM5:=Lib.hid hm1;clear hb1 hm1 tokC)
         | (go_at_call 30;have _t:=tokD;refine(Yg (x+1) hr hz hkl RK.out hC HGL.out (HB4.out.trans (HB5.out.mono HB4.out.size))).mono ?_;rintro e w5 ⟨u2,rfl,hb1,hm1⟩;have HB6:=Lib.hid hb1;have HM6:=Lib.hid hm1;clear hb1 hm1 tokD)
         | (go_at_call 29;have _t:=tokE;refine(ze3 false HQ.out hml hC HGL.out ((HB4.out.trans (HB5.out.mono HB4.out.size)).trans (HB6.out.mono ((HB4.out.trans (HB5.out.mono HB4.out.size)).size))) (HM5.out.stab _ _ _ (Keep.of_below' HB6.out (Nat.le_refl _))) HM6.out).mono ?_;rintro e w6 ⟨rfl,hb1⟩;have HB7:=Lib.hid (((Below.refl _ _).trans HB5.out).trans ((HB6.out.mono HB5.out.size).trans (hb1.mono (Nat.le_trans HB5.out.size HB6.out.size))));clear hb1 tokE)
         | go_in)
        go_roundg cnt3
        case measure=>exact hlt
        case rel=>exact⟨_,(RgS.next HIM.out HHS.out HLF.out HLK.out HKB.out HRG3.out).keep (HB7.out.block _ (Nat.lt_trans hBl HRG3.out.lt)) (HB7.out.block _ HRG3.out.lt),HB4.out.trans (HB7.out.mono HB4.out.size)⟩
end Go.Proofs.YtjimggclhlnfbaaGreat
namespace Go.Proofs.YtjimggclhlnfbaaGreat
open Go.RowKit
theorem YS {k:List Fg} (h:jX k=true):k.length<=12/\∀ f ∈ k,f.items.length<=20/\f.vec.length<=20/\∀ e ∈ f.vec,e.holes.length<=30:=by
 obtain⟨h1,h2⟩:=Zd.1 h
 exact⟨h2,fun f hf=>⟨(h1 f hf).1,(x6.1 (h1 f hf).2).2,(x6.1 (h1 f hf).2).1⟩⟩
theorem zfS {k:List Fg} (h:jX k=true):Z0 k:=by
 obtain⟨h1,h2⟩:=YS h
 exact⟨by omega,fun f hf=>by
  obtain⟨q1,q2,q3⟩:=h2 f hf
  exact⟨by omega,by omega,fun e he=>by have:=q3 e he;omega⟩⟩
theorem zfv (f:Fg) (v:List En) (hf:∀ e ∈ f.vec,kV e) (hv:∀ e ∈ v,kV e) (lf:(zx f.vec).length<=1073741824) (lv:(zx v).length<=1073741824):Cn Tryz.prog 65 [fp f,vp v] (.v (.int .i64 (qf (zx f.vec) (zx v)))):=by
 refine zz Tryz.func65 2 ?_
 refine pw ?_
 exact .d (Ja f.vec v hf hv lf lv)
theorem zfz (k:List Fg) (v:List En) (i:Nat) (hi:i<=k.length) (h1:∀ j,(h:j<k.length)->j<i->ZX k[j].vec v) (h2:∀ j,(h:j<k.length)->i<=j->¬ ZX k[j].vec v) (hl:k.length<=1152921504606846976)
 (hc:∀ f ∈ k,Cn Tryz.prog 65 [fp f,vp v] (.v (.int .i64 (qf (zx f.vec) (zx v))))) :
 Cn Tryz.prog 64 [kp k,vp v,.fn (.func 65) [] []] (.tup [.v (.int .i64 i),.v (.bool (if h:i<k.length then decide (qf (zx k[i].vec) (zx v)=0) else false))]):=by
 refine zz Tryz.func64 3 ?_
 refine pw ?_
 refine pLoop.go (fun p:Nat × Nat=>p.1<=i/\i<=p.2/\p.2<=k.length) (fun p=>[(9,.v (.int .i64 (p.1:Nat))),(10,.v (.int .i64 (p.2:Nat)))]) (fun _=>[]) (fun p=>p.2 - p.1) (0,k.length) [9,10] ?_ ?_ ?_
 ·exact⟨Nat.zero_le _,hi,Nat.le_refl _⟩
 ·exact pd
 ·rintro⟨p,q⟩ ⟨k1,k2,k3⟩
  simp only at k1 k2 k3
  refine pw ?_
  refine .i ?_ ?_<;>intro h<;>(try simp only [zf] at h)<;>first | refine pw ?_ | exact pd
  ·have hm:(p+q) / 2<k.length:=by omega
   have a1:=h1 _ hm
   have a2:=h2 _ hm
   refine pw ?_
   (first | refine .c (hc k[(p+q) / 2] (List.getElem_mem hm)) ?_ | refine .o (hc k[(p+q) / 2] (List.getElem_mem hm)) ?_)
   refine .i ?_ ?_<;>intro h4<;>(try simp only [zf] at h4)<;>first | refine pw ?_ | exact pd
   ·refine⟨((p+q) / 2+1,q),⟨?_,k2,k3⟩,by simp only;omega,rfl,rfl⟩
    simp only
    exact Nat.lt_of_not_le fun h5=>a2 h5 h4
   ·refine⟨(p,(p+q) / 2),⟨k1,?_,by simp only;omega⟩,by simp only;omega,rfl,rfl⟩
    simp only
    refine Nat.le_of_not_lt fun h5=>?_
    have:=a1 h5
    unfold ZX at this
    omega
  ·obtain rfl:p=i:=by omega
   obtain rfl:q=p:=by omega
   refine .i ?_ ?_<;>intro h4<;>(try simp only [zf] at h4)<;>first | refine pw ?_ | exact pd
   ·(first | refine .c (hc k[q] (List.getElem_mem h4)) ?_ | refine .o (hc k[q] (List.getElem_mem h4)) ?_)
    rw [dif_pos h4]
    try simp
   ·rw [dif_neg (by omega)]
theorem Xj:∀ {k:List Fg} (v:List En),k.Pairwise (fun f g=>ZX f.vec g.vec)->∃ i,i<=k.length/\(∀ j,(h:j<k.length)->j<i->ZX k[j].vec v)/\(∀ j,(h:j<k.length)->i<=j->¬ ZX k[j].vec v)
 | [],v,_=>⟨0,Nat.le_refl _,fun j h=>by simp at h,fun j h=>by simp at h⟩
 | f::k,v,hp=>by
   have hp':=List.pairwise_cons.1 hp
   by_cases h:ZX f.vec v
   ·obtain⟨i,h0,h1,h2⟩:=Xj v hp'.2
    refine⟨i+1,by simp;omega,fun j hj hlt=>?_,fun j hj hle=>?_⟩
    ·cases j with
     | zero=>exact h
     | succ j=>exact h1 j (by simpa using hj) (by omega)
    ·cases j with
     | zero=>omega
     | succ j=>exact h2 j (by simpa using hj) (by omega)
   ·refine⟨0,Nat.zero_le _,fun j _ h=>absurd h (Nat.not_lt_zero _),fun j hj _ hlt=>?_⟩
    cases j with
    | zero=>exact h hlt
    | succ j=>exact h (QC (hp'.1 _ (List.getElem_mem (by simpa using hj))) hlt)
theorem JE:∀ {k:List Fg} {f:Fg} {i:Nat},i<=k.length->(∀ j,(h:j<k.length)->j<i->ZX k[j].vec f.vec)->(∀ j,(h:j<k.length)->i<=j->¬ ZX k[j].vec f.vec) ->
 yf k f=if h:i<k.length then (if qf (zx k[i].vec) (zx f.vec)=0 then k.take i++⟨qF zr k[i].items f.items,f.vec⟩::k.drop (i+1) else k.take i++f::k.drop i) else k++[f]
 | [],f,i,h0,h1,h2=>by simp [yf]
 | g::k,f,i,h0,h1,h2=>by
   cases i with
   | zero=>
     have hn:=h2 0 (by simp) (Nat.le_refl _)
     have hn':¬ qf (zx g.vec) (zx f.vec)<0:=hn
     rw [yf,if_neg hn',dif_pos (by simp)]
     simp only [List.getElem_cons_zero,List.take_zero,List.nil_append,List.drop_zero,List.drop_succ_cons]
   | succ i=>
     have hy:qf (zx g.vec) (zx f.vec)<0:=h1 0 (by simp) (by omega)
     rw [yf,if_pos hy,JE (i:=i) (by simpa using h0) (fun j hj hlt=>h1 (j+1) (by simpa using hj) (by omega)) (fun j hj hle=>h2 (j+1) (by simpa using hj) (by omega))]
     simp only [List.length_cons,List.getElem_cons_succ,List.take_succ_cons,List.drop_succ_cons,List.cons_append,Nat.add_lt_add_iff_right]
     split
     ·split<;>rfl
     ·rfl
end Go.Proofs.YtjimggclhlnfbaaGreat
