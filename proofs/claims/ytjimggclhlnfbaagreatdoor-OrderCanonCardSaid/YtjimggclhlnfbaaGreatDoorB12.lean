import Derived.Deep.LoopGhost
import Derived.Deep.DeepCutAuto
import Derived.Deep.CutBlock
import Derived.Sort.Walk13
import Derived.Sort.WalkA14
import Derived.Sort.AssemblyPlain
import Derived.Test.YtjimggclhlnfbaaGreatDoorB11
set_option maxHeartbeats 16000000
set_option linter.unusedVariables false
set_option linter.unusedSimpArgs false
set_option maxRecDepth 100000
namespace Go.Proofs.YtjimggclhlnfbaaGreatDoor
open Go.RowKit
def Suf (a a':List Iv) (x:Nat):Prop:=∃ d,a=d++a'/\∀ s ∈ d,s.hi<x
theorem Suf.refl (a:List Iv) (x:Nat):Suf a a x:=⟨[],rfl,fun _ h=>by cases h⟩
theorem Suf.mono {a a':List Iv} {x y:Nat} (h:Suf a a' x) (hy:x<=y):Suf a a' y:=by
 obtain⟨d,h1,h2⟩:=h;exact⟨d,h1,fun s hs=>by have:=h2 s hs;omega⟩
theorem Suf.drop {a a':List Iv} {s:Iv} {x:Nat} (h:Suf a (s::a') x) (hs:s.hi<x):Suf a a' x:=by
 obtain⟨d,h1,h2⟩:=h
 exact⟨d++[s],by simp [h1],fun t ht=>by simp at ht;rcases ht with ht | rfl;exact h2 t ht;exact hs⟩
theorem Suf.mem_eq {a a':List Iv} {x z:Nat} (h:Suf a a' x) (hz:x<=z):mem a z=mem a' z:=by
 obtain⟨d,rfl,h2⟩:=h
 rw [yd]
 have:mem d z=false:=by
  cases e:mem d z with
  | false=>rfl
  | true=>obtain⟨s,hs,_,h3⟩:=qf.1 e;have:=h2 s hs;omega
 rw [this,Bool.false_or]
theorem Suf.nrm {a a':List Iv} {x n:Nat} (ha:NF n a) (h:Suf a a' x):NF n a':=by
 obtain⟨d,rfl,h2⟩:=h
 clear h2
 induction d generalizing n with
 | nil=>exact ha
 | cons s d ih=>exact ih ha.tail
theorem Suf.nxt_eq {a a':List Iv} {x z n:Nat} (ha:NF n a) (h:Suf a a' x) (hz:x<=z):ye a z=ye a' z:=by
 obtain⟨d,rfl,h2⟩:=h
 induction d generalizing n with
 | nil=>rfl
 | cons s d ih=>
   rw [List.cons_append,zdt (by have:=h2 s (by simp);omega) ha.2.1]
   exact ih (fun t ht=>h2 t (by simp [ht])) ha.2.2.2
theorem Qg {a':List Iv} {s:Iv} {x n:Nat} (ha:NF n (s::a')) (h:x<=s.hi):mem (s::a') x=decide (s.lo<=x):=by
 rw [zz,ha.2.2.2.mem_lt (by omega)]
 simp [h]
def za1 (x:Iv × Bool × Bool):Array Value:=#[.agg #[.int .u64 x.1.lo,.int .u64 x.1.hi],.agg #[.bool x.2.1,.bool x.2.2]]
structure PInv (a b:List Iv) (Ba Bb n0:Nat) (w:World) (x:Nat) (a' b':List Iv) (va vb:Value):Prop where
 bxa:Boxed w Ba 30 va
 bxb:Boxed w Bb 30 vb
 ra:RdR 0 n0 w va a'
 rb:RdR 0 n0 w vb b'
 sa:Suf a a' x
 sb:Suf b b' x
theorem PInv.at {a b:List Iv} {Ba Bb n0:Nat} {S:Nat->Prop} {w w':World} {x y:Nat} {a' b':List Iv} {va vb:Value} (h:PInv a b Ba Bb n0 w x a' b' va vb) (hk:Keep S w w') (hn:n0<=w.heap.size) (hs:∀ k,k<n0\/k=Ba\/k=Bb->¬ S k) (hy:x<=y) :
 PInv a b Ba Bb n0 w' y a' b' va vb:=
 ⟨hk.boxed h.bxa (hs _ (.inr (.inl rfl))),hk.boxed h.bxb (hs _ (.inr (.inr rfl))),h.ra.keep (Nat.le_refl _) (Nat.le_refl _) fun b _ h2=>hk.block b (by omega) (hs b (.inl h2)),
  h.rb.keep (Nat.le_refl _) (Nat.le_refl _) fun b _ h2=>hk.block b (by omega) (hs b (.inl h2)),h.sa.mono hy,h.sb.mono hy⟩
theorem PInv.setA {a b:List Iv} {Ba Bb n0:Nat} {w:World} {x:Nat} {s:Iv} {a' b':List Iv} {va va' vb:Value} (h:PInv a b Ba Bb n0 w x (s::a') b' va vb) (hB:n0<=Ba) (hne:Ba≠Bb) (hs:s.hi<x) (hr:RdR 0 n0 w va' a') :
 PInv a b Ba Bb n0 (w.setCell ⟨Ba,0,none⟩ va') x a' b' va' vb:=
 ⟨h.bxa.set va',h.bxb.other hne.symm va',hr.keep (Nat.le_refl _) (Nat.le_refl _) fun b _ h2=>Below.heap_setCell _ _ _ _ (by show b≠Ba;omega),
  h.rb.keep (Nat.le_refl _) (Nat.le_refl _) fun b _ h2=>Below.heap_setCell _ _ _ _ (by show b≠Ba;omega),h.sa.drop hs,h.sb⟩
theorem PInv.setB {a b:List Iv} {Ba Bb n0:Nat} {w:World} {x:Nat} {s:Iv} {a' b':List Iv} {va vb vb':Value} (h:PInv a b Ba Bb n0 w x a' (s::b') va vb) (hB:n0<=Bb) (hne:Ba≠Bb) (hs:s.hi<x) (hr:RdR 0 n0 w vb' b') :
 PInv a b Ba Bb n0 (w.setCell ⟨Bb,0,none⟩ vb') x a' b' va vb':=
 ⟨h.bxa.other hne vb',h.bxb.set vb',h.ra.keep (Nat.le_refl _) (Nat.le_refl _) fun b _ h2=>Below.heap_setCell _ _ _ _ (by show b≠Bb;omega),
  hr.keep (Nat.le_refl _) (Nat.le_refl _) fun b _ h2=>Below.heap_setCell _ _ _ _ (by show b≠Bb;omega),h.sa,h.sb.drop hs⟩
def Fit (a':List Iv) (x:Nat):Prop:=∀ s r,a'=s::r->x<=s.hi
theorem RdR.tail {hi:Nat} {w:World} {ad:Option Addr} {n cap:Nat} {s:Iv} {l:List Iv} (h:RdR 0 hi w (.slice ad n cap) (s::l)) :
 ∃ b off,ad=some ⟨b,off,none⟩/\n=l.length+1/\b<hi/\rdIv w b off s/\l.length+1<=cap/\cap<=maxLen/\RdR 0 hi w (.slice (if cap=1 then some ⟨b,off,none⟩ else some ⟨b,off+2,none⟩) l.length (cap - 1)) l:=by
 obtain⟨a,c,hv,h1,h2,h3⟩:=h
 obtain⟨rfl,rfl,rfl⟩:ad=a/\n=(s::l).length/\cap=c:=by simpa using hv
 obtain⟨b,off,rfl,_,hb,hc⟩:=h3 (by simp)
 refine⟨b,off,rfl,rfl,hb,(by have:=hc 0 (by simp);rwa [Nat.zero_mul,Nat.add_zero] at this),by simpa using h1,h2,?_⟩
 refine⟨_,_,rfl,by simp at h1;omega,by omega,fun hne=>?_⟩
 have hl:0<l.length:=List.length_pos_iff.2 hne
 refine⟨b,off+2,by rw [if_neg (by simp at h1;omega)],Nat.zero_le _,hb,fun i hi=>?_⟩
 have:=hc (i+1) (by simp;omega)
 rw [show off+(i+1) * 2=off+2+i * 2 from by omega] at this
 simpa using this
theorem J7 (a b:List Iv) (va0 vb0:Value) (Ba Bb n0:Nat) (W0:World) (ha:Nrm a) (hb:Nrm b) (hne:Ba≠Bb) (hBa:n0<=Ba) (hBb:n0<=Bb)
 (h00:PInv a b Ba Bb n0 W0 0 a b va0 vb0) :
 zbY Tryz.prog 199 #[.pointer (some ⟨Ba,0,none⟩),.pointer (some ⟨Bb,0,none⟩)] za1 (fun k=>k=Ba\/k=Bb) (fun k=>k<n0\/k=Ba\/k=Bb) (yO a b) W0:=by
 intro l J Jx hJ hJx hY h0
 refine callsIn_wide.2 ?_
 show Calls Tryz.prog 199 #[.func (.yield l) #[] #[],.pointer (some ⟨Ba,0,none⟩),.pointer (some ⟨Bb,0,none⟩)] W0 _
 have HJ:=Lib.hid hJ
 have HJx:=Lib.hid hJx
 have HY:=Lib.hid hY
 clear hJ hJx hY
 go_enter Tryz.func199,Tryz.ntmps199
 go_wp2_with fail
 go_loopg [4] zk (fun g x wr=>∃(xn f:Nat) (a' b':List Iv) (va vb:Value) (pre:List (Iv × Bool × Bool)),x=.int .u64 xn/\xn<zk/\g=zk - xn/\PInv a b Ba Bb n0 wr xn a' b' va vb/\Hid (yO a b=pre++QU a b f xn)/\zk<=f+xn/\J pre wr)
 case atStart=>exact⟨0,zk,a,b,va0,vb0,[],rfl,xM,rfl,h00,rfl,by omega,h0⟩
 case round=>
  obtain⟨xn,f,a',b',va,vb,pre,rfl,hx,rfl,hP,hpc,hf,hJp⟩:=hrel
  clear h0 h00
  go_upto_block 2 with fail
  go_cut [] (fun wc=>∃ a2 va2,PInv a b Ba Bb n0 wc xn a2 b' va2 vb/\Fit a2 xn/\J pre wc)
  case first=>
   go_wp2_with fail
   go_loopg [] a'.length (fun g wl=>∃(a2:List Iv) (va2:Value),g=a2.length/\PInv a b Ba Bb n0 wl xn a2 b' va2 vb/\J pre wl)
   case atStart=>exact⟨a',va,rfl,hP,hJp⟩
   case round=>
    clear hP hJp
    obtain⟨a2,va2,rfl,hP,hJp⟩:=hrel
    have hca:=hP.bxa.cell
    have hfa:=hP.bxa.frozen
    have hra:=hP.ra
    cases a2 with
    | nil=>
      obtain⟨ad,cap,rfl,_⟩:=hra
      go_wp2
      go_meet
      exact⟨[],_,hP,(fun _ _ e=>by cases e),hJp⟩
    | cons s r=>
      have hva:=hra
      obtain⟨ad,cap,rfl,_⟩:=hva
      obtain⟨bb,off,rfl,_,hbb,hs,hcap,hcm,htl⟩:=hra.tail
      obtain⟨c1,c2,s1,s2⟩:=hs
      have HT:=Lib.hid htl
      clear hra htl
      unfold maxLen at hcm
      by_cases hlt:s.hi<xn
      ·by_cases h1:cap=1
       ·subst h1
        obtain rfl:r=[]:=List.eq_nil_of_length_eq_zero (by omega)
        go_wp2
        go_roundg 0
        case measure=>simp
        case rel=>exact⟨[],_,rfl,hP.setA hBa hne hlt (by have:=HT.out;simpa using this),HJ.out _ _ _ hJp ((Keep.refl _ _).setCell (p:=⟨Ba,0,none⟩) (fun _=>.inl rfl) _)⟩
       ·go_wp2
        go_roundg r.length
        case measure=>simp
        case rel=>exact⟨r,_,rfl,hP.setA hBa hne hlt (by have:=HT.out;rw [if_neg h1] at this;simpa using this),HJ.out _ _ _ hJp ((Keep.refl _ _).setCell (p:=⟨Ba,0,none⟩) (fun _=>.inl rfl) _)⟩
      ·go_wp2
       go_meet
       exact⟨s::r,_,hP,(fun _ _ e=>by cases e;omega),hJp⟩
  case rest=>
   clear hP hJp
   obtain⟨a2,va2,hP,hFa,hJp⟩:=hcut
   go_upto_block 4 with fail
   go_cut [] (fun wc=>∃ b2 vb2,PInv a b Ba Bb n0 wc xn a2 b2 va2 vb2/\Fit b2 xn/\J pre wc)
   case first=>
    go_wp2_with fail
    go_loopg [] b'.length (fun g wl=>∃(b2:List Iv) (vb2:Value),g=b2.length/\PInv a b Ba Bb n0 wl xn a2 b2 va2 vb2/\J pre wl)
    case atStart=>exact⟨b',vb,rfl,hP,hJp⟩
    case round=>
     clear hP hJp
     obtain⟨b2,vb2,rfl,hP,hJp⟩:=hrel
     have hca:=hP.bxb.cell
     have hfa:=hP.bxb.frozen
     have hra:=hP.rb
     cases b2 with
     | nil=>
       obtain⟨ad,cap,rfl,_⟩:=hra
       go_wp2
       go_meet
       exact⟨[],_,hP,(fun _ _ e=>by cases e),hJp⟩
     | cons s r=>
       have hva:=hra
       obtain⟨ad,cap,rfl,_⟩:=hva
       obtain⟨bb,off,rfl,_,hbb,hs,hcap,hcm,htl⟩:=hra.tail
       obtain⟨c1,c2,s1,s2⟩:=hs
       have HT:=Lib.hid htl
       clear hra htl
       unfold maxLen at hcm
       by_cases hlt:s.hi<xn
       ·by_cases h1:cap=1
        ·subst h1
         obtain rfl:r=[]:=List.eq_nil_of_length_eq_zero (by omega)
         go_wp2
         go_roundg 0
         case measure=>simp
         case rel=>exact⟨[],_,rfl,hP.setB hBb hne hlt (by have:=HT.out;simpa using this),HJ.out _ _ _ hJp ((Keep.refl _ _).setCell (p:=⟨Bb,0,none⟩) (fun _=>.inr rfl) _)⟩
        ·go_wp2
         go_roundg r.length
         case measure=>simp
         case rel=>exact⟨r,_,rfl,hP.setB hBb hne hlt (by have:=HT.out;rw [if_neg h1] at this;simpa using this),HJ.out _ _ _ hJp ((Keep.refl _ _).setCell (p:=⟨Bb,0,none⟩) (fun _=>.inr rfl) _)⟩
       ·go_wp2
        go_meet
        exact⟨s::r,_,hP,(fun _ _ e=>by cases e;omega),hJp⟩
   case rest=>
    clear hP hJp
    obtain⟨b2,vb2,hP,hFb,hJp⟩:=hcut
    go_upto_region 5 with fail
    go_cut [5] (fun s5 wd=>∃ Bs,s5=.pointer (some ⟨Bs,0,none⟩)/\PInv a b Ba Bb n0 wd xn a2 b2 va2 vb2/\J pre wd/\wd.cell? ⟨Bs,0,none⟩=some (.bool (mem a xn))/\wd.cell? ⟨Bs,1,none⟩=some (.bool (mem b xn))/\n0<=wd.heap.size)
    case first=>
     have hma:=hP.sa.mem_eq (Nat.le_refl _)
     have hmb:=hP.sb.mem_eq (Nat.le_refl _)
     have hna:=hP.sa.nrm ha
     have hnb:=hP.sb.nrm hb
     have ca:=hP.bxa.cell
     have cb:=hP.bxb.cell
     have hlt1:=hP.bxa.lt
     have hlt2:=hP.bxb.lt
     have hra:=hP.ra
     have hrb:=hP.rb
     cases a2 with
     | nil=>
       obtain⟨ad,capa,rfl,_⟩:=hra
       have HMA:=Lib.hid hma
       clear hma hna
       cases b2 with
       | nil=>
         obtain⟨bd,capb,rfl,_⟩:=hrb
         have HMB:=Lib.hid hmb
         clear hmb hnb
         have hwn:n0<=wc.heap.size:=by omega
         have HP:=Lib.hid (And.intro hP (And.intro hJp (And.intro hFa hFb)))
         clear hP hFa hFb hlt1 hlt2 hf
         refine Kg (Sw:=qe) 24 99 (fun w'=>w'.cell? ⟨Ba,0,none⟩=some (.slice ad 0 capa)/\w'.cell? ⟨Bb,0,none⟩=some (.slice bd 0 capb)) (by kernel_rfl) (by kernel_rfl) rfl ⟨ca,cb⟩ ?_
         simp only [List.take_succ_cons,List.take_zero]
         repeat (first
          | (refine zev ?_ rfl (fun a w hc _ hr=>?_) ?_;rotate_left;(simp [Rds,zA,lk,Op.operands,Call.operands,RdEq] at hr;go_simp;with_reducible rfl);dsimp only [List.nil_append,List.cons_append])
          | (refine jI rfl ?_ ?_;(first | exact .inl (zG rfl rfl) | exact .inr (zG rfl rfl));dsimp only [List.nil_append,List.cons_append])
          | (refine V6 rfl ?_ ?_ (fun a w hc _ hr=>?_) ?_;exact(zG rfl rfl);rotate_left;(simp [Rds,zA,lk,Op.operands,Call.operands,RdEq] at hr;go_simp;with_reducible rfl);dsimp only [List.nil_append,List.cons_append]))
         refine V7 (fun u w=>∃ B,u=.pointer (some ⟨B,0,none⟩)/\w.heap[B]? = some (.cells #[.bool false,.bool false] 140 (0,0))/\wc.heap.size<=B) (fun u w w' ⟨B,h1,h2,h3⟩ hk=>⟨B,h1,hk.obj h2 id,h3⟩) rfl ?_ ?_
         ·intro a w hc hk hr K hK
          have HK:=Lib.hid hK
          clear hK
          go_simp
          exact HK.out _ _ ((Keep.refl _ _).alloc _) ⟨((Keep.refl qe w).alloc _).cell_some hc.1 id,((Keep.refl qe w).alloc _).cell_some hc.2 id⟩ ⟨w.heap.size,rfl,World.alloc_heap_new w _,hk.size⟩
         dsimp only [List.nil_append,List.cons_append]
         intro w hc hk
         simp only [finG,forall_eq]
         rintro u ⟨B,rfl,hB,hBn⟩
         simp only [List.drop_succ_cons,List.drop_zero]
         have c0:w.cell? ⟨B,0,none⟩=some (.bool false):=by simp [World.cell?,hB]
         have c1:w.cell? ⟨B,1,none⟩=some (.bool false):=by simp [World.cell?,hB]
         have f0:w.frozen? ⟨B,0,none⟩=false:=by simp [World.frozen?,hB]
         have f1:w.frozen? ⟨B,1,none⟩=false:=by simp [World.frozen?,hB]
         clear hB hc
         simp only [Act.put,List.setIfInBounds_toArray,List.set_cons_succ,List.set_cons_zero]
         go_wp2
         go_meet
         have hkk:∀ u v,Keep qe wc ((w.setCell ⟨B,0,none⟩ u).setCell ⟨B,1,none⟩ v):=fun u v=>((((Keep.refl qe wc).drew).trans hk).setCell (p:=⟨B,0,none⟩) (fun h=>by exact absurd h (by simpa using hBn)) _).setCell (p:=⟨B,1,none⟩) (fun h=>by exact absurd h (by simpa using hBn)) _
         exact⟨B,rfl,HP.out.1.at (hkk _ _) hwn (fun _ _=>id) (Nat.le_refl _),HJ.out _ _ _ HP.out.2.1 ((hkk _ _).mono fun _ _ h=>h.elim),by rw [HMA.out];go_simp,by rw [HMB.out];go_simp,Nat.le_trans hwn (hkk _ _).size⟩
       | cons t r2=>
         have hvb:=hrb
         obtain⟨bd,capb,rfl,_⟩:=hvb
         obtain⟨bb,ob,rfl,_,_,hsb,hcapb,hcmb,_⟩:=hrb.tail
         have HMB:=Lib.hid (hmb.trans (Qg hnb (hFb _ _ rfl)))
         have ct:=hsb.1
         unfold maxLen at hcmb
         clear hmb hnb hrb hsb
         have hwn:n0<=wc.heap.size:=by omega
         have HP:=Lib.hid (And.intro hP (And.intro hJp (And.intro hFa hFb)))
         clear hP hFa hFb hlt1 hlt2 hf
         refine Kg (Sw:=qe) 24 99 (fun w'=>w'.cell? ⟨Ba,0,none⟩=some (.slice ad 0 capa)/\w'.cell? ⟨Bb,0,none⟩=some (.slice (some ⟨bb,ob,none⟩) (r2.length+1) capb)/\w'.cell? ⟨bb,ob,none⟩=some (.int .u64 t.lo)) (by kernel_rfl) (by kernel_rfl) rfl ⟨ca,cb,ct⟩ ?_
         simp only [List.take_succ_cons,List.take_zero]
         repeat (first
          | (refine zev ?_ rfl (fun a w hc _ hr=>?_) ?_;rotate_left;(simp [Rds,zA,lk,Op.operands,Call.operands,RdEq] at hr;go_simp;with_reducible rfl);dsimp only [List.nil_append,List.cons_append])
          | (refine jI rfl ?_ ?_;(first | exact .inl (zG rfl rfl) | exact .inr (zG rfl rfl));dsimp only [List.nil_append,List.cons_append])
          | (refine V6 rfl ?_ ?_ (fun a w hc _ hr=>?_) ?_;exact(zG rfl rfl);rotate_left;(simp [Rds,zA,lk,Op.operands,Call.operands,RdEq] at hr;go_simp;with_reducible rfl);dsimp only [List.nil_append,List.cons_append]))
         refine V7 (fun u w=>∃ B,u=.pointer (some ⟨B,0,none⟩)/\w.heap[B]? = some (.cells #[.bool false,.bool false] 140 (0,0))/\wc.heap.size<=B) (fun u w w' ⟨B,h1,h2,h3⟩ hk=>⟨B,h1,hk.obj h2 id,h3⟩) rfl ?_ ?_
         ·intro a w hc hk hr K hK
          have HK:=Lib.hid hK
          clear hK
          go_simp
          exact HK.out _ _ ((Keep.refl _ _).alloc _) ⟨((Keep.refl qe w).alloc _).cell_some hc.1 id,((Keep.refl qe w).alloc _).cell_some hc.2.1 id,((Keep.refl qe w).alloc _).cell_some hc.2.2 id⟩ ⟨w.heap.size,rfl,World.alloc_heap_new w _,hk.size⟩
         dsimp only [List.nil_append,List.cons_append]
         intro w hc hk
         simp only [finG,forall_eq]
         rintro u ⟨B,rfl,hB,hBn⟩
         simp only [List.drop_succ_cons,List.drop_zero]
         have c0:w.cell? ⟨B,0,none⟩=some (.bool false):=by simp [World.cell?,hB]
         have c1:w.cell? ⟨B,1,none⟩=some (.bool false):=by simp [World.cell?,hB]
         have f0:w.frozen? ⟨B,0,none⟩=false:=by simp [World.frozen?,hB]
         have f1:w.frozen? ⟨B,1,none⟩=false:=by simp [World.frozen?,hB]
         clear hB hc
         simp only [Act.put,List.setIfInBounds_toArray,List.set_cons_succ,List.set_cons_zero]
         go_wp2
         go_meet
         have hkk:∀ u v,Keep qe wc ((w.setCell ⟨B,0,none⟩ u).setCell ⟨B,1,none⟩ v):=fun u v=>((((Keep.refl qe wc).drew).trans hk).setCell (p:=⟨B,0,none⟩) (fun h=>by exact absurd h (by simpa using hBn)) _).setCell (p:=⟨B,1,none⟩) (fun h=>by exact absurd h (by simpa using hBn)) _
         exact⟨B,rfl,HP.out.1.at (hkk _ _) hwn (fun _ _=>id) (Nat.le_refl _),HJ.out _ _ _ HP.out.2.1 ((hkk _ _).mono fun _ _ h=>h.elim),by rw [HMA.out];go_simp,by rw [HMB.out];go_simp,Nat.le_trans hwn (hkk _ _).size⟩
     | cons s r1=>
       have hva:=hra
       obtain⟨ad,capa,rfl,_⟩:=hva
       obtain⟨ba,oa,rfl,_,_,hsa,hcapa,hcma,_⟩:=hra.tail
       have HMA:=Lib.hid (hma.trans (Qg hna (hFa _ _ rfl)))
       have cs:=hsa.1
       unfold maxLen at hcma
       clear hma hna hra hsa
       cases b2 with
       | nil=>
         obtain⟨bd,capb,rfl,_⟩:=hrb
         have HMB:=Lib.hid hmb
         clear hmb hnb
         have hwn:n0<=wc.heap.size:=by omega
         have HP:=Lib.hid (And.intro hP (And.intro hJp (And.intro hFa hFb)))
         clear hP hFa hFb hlt1 hlt2 hf
         refine Kg (Sw:=qe) 24 99 (fun w'=>w'.cell? ⟨Ba,0,none⟩=some (.slice (some ⟨ba,oa,none⟩) (r1.length+1) capa)/\w'.cell? ⟨Bb,0,none⟩=some (.slice bd 0 capb)/\w'.cell? ⟨ba,oa,none⟩=some (.int .u64 s.lo)) (by kernel_rfl) (by kernel_rfl) rfl ⟨ca,cb,cs⟩ ?_
         simp only [List.take_succ_cons,List.take_zero]
         repeat (first
          | (refine zev ?_ rfl (fun a w hc _ hr=>?_) ?_;rotate_left;(simp [Rds,zA,lk,Op.operands,Call.operands,RdEq] at hr;go_simp;with_reducible rfl);dsimp only [List.nil_append,List.cons_append])
          | (refine jI rfl ?_ ?_;(first | exact .inl (zG rfl rfl) | exact .inr (zG rfl rfl));dsimp only [List.nil_append,List.cons_append])
          | (refine V6 rfl ?_ ?_ (fun a w hc _ hr=>?_) ?_;exact(zG rfl rfl);rotate_left;(simp [Rds,zA,lk,Op.operands,Call.operands,RdEq] at hr;go_simp;with_reducible rfl);dsimp only [List.nil_append,List.cons_append]))
         refine V7 (fun u w=>∃ B,u=.pointer (some ⟨B,0,none⟩)/\w.heap[B]? = some (.cells #[.bool false,.bool false] 140 (0,0))/\wc.heap.size<=B) (fun u w w' ⟨B,h1,h2,h3⟩ hk=>⟨B,h1,hk.obj h2 id,h3⟩) rfl ?_ ?_
         ·intro a w hc hk hr K hK
          have HK:=Lib.hid hK
          clear hK
          go_simp
          exact HK.out _ _ ((Keep.refl _ _).alloc _) ⟨((Keep.refl qe w).alloc _).cell_some hc.1 id,((Keep.refl qe w).alloc _).cell_some hc.2.1 id,((Keep.refl qe w).alloc _).cell_some hc.2.2 id⟩ ⟨w.heap.size,rfl,World.alloc_heap_new w _,hk.size⟩
         dsimp only [List.nil_append,List.cons_append]
         intro w hc hk
         simp only [finG,forall_eq]
         rintro u ⟨B,rfl,hB,hBn⟩
         simp only [List.drop_succ_cons,List.drop_zero]
         have c0:w.cell? ⟨B,0,none⟩=some (.bool false):=by simp [World.cell?,hB]
         have c1:w.cell? ⟨B,1,none⟩=some (.bool false):=by simp [World.cell?,hB]
         have f0:w.frozen? ⟨B,0,none⟩=false:=by simp [World.frozen?,hB]
         have f1:w.frozen? ⟨B,1,none⟩=false:=by simp [World.frozen?,hB]
         clear hB hc
         simp only [Act.put,List.setIfInBounds_toArray,List.set_cons_succ,List.set_cons_zero]
         go_wp2
         go_meet
         have hkk:∀ u v,Keep qe wc ((w.setCell ⟨B,0,none⟩ u).setCell ⟨B,1,none⟩ v):=fun u v=>((((Keep.refl qe wc).drew).trans hk).setCell (p:=⟨B,0,none⟩) (fun h=>by exact absurd h (by simpa using hBn)) _).setCell (p:=⟨B,1,none⟩) (fun h=>by exact absurd h (by simpa using hBn)) _
         exact⟨B,rfl,HP.out.1.at (hkk _ _) hwn (fun _ _=>id) (Nat.le_refl _),HJ.out _ _ _ HP.out.2.1 ((hkk _ _).mono fun _ _ h=>h.elim),by rw [HMA.out];go_simp,by rw [HMB.out];go_simp,Nat.le_trans hwn (hkk _ _).size⟩
       | cons t r2=>
         have hvb:=hrb
         obtain⟨bd,capb,rfl,_⟩:=hvb
         obtain⟨bb,ob,rfl,_,_,hsb,hcapb,hcmb,_⟩:=hrb.tail
         have HMB:=Lib.hid (hmb.trans (Qg hnb (hFb _ _ rfl)))
         have ct:=hsb.1
         unfold maxLen at hcmb
         clear hmb hnb hrb hsb
         have hwn:n0<=wc.heap.size:=by omega
         have HP:=Lib.hid (And.intro hP (And.intro hJp (And.intro hFa hFb)))
         clear hP hFa hFb hlt1 hlt2 hf
         refine Kg (Sw:=qe) 24 99 (fun w'=>w'.cell? ⟨Ba,0,none⟩=some (.slice (some ⟨ba,oa,none⟩) (r1.length+1) capa)/\w'.cell? ⟨Bb,0,none⟩=some (.slice (some ⟨bb,ob,none⟩) (r2.length+1) capb)/\w'.cell? ⟨ba,oa,none⟩=some (.int .u64 s.lo)/\w'.cell? ⟨bb,ob,none⟩=some (.int .u64 t.lo)) (by kernel_rfl) (by kernel_rfl) rfl ⟨ca,cb,cs,ct⟩ ?_
         simp only [List.take_succ_cons,List.take_zero]
         repeat (first
          | (refine zev ?_ rfl (fun a w hc _ hr=>?_) ?_;rotate_left;(simp [Rds,zA,lk,Op.operands,Call.operands,RdEq] at hr;go_simp;with_reducible rfl);dsimp only [List.nil_append,List.cons_append])
          | (refine jI rfl ?_ ?_;(first | exact .inl (zG rfl rfl) | exact .inr (zG rfl rfl));dsimp only [List.nil_append,List.cons_append])
          | (refine V6 rfl ?_ ?_ (fun a w hc _ hr=>?_) ?_;exact(zG rfl rfl);rotate_left;(simp [Rds,zA,lk,Op.operands,Call.operands,RdEq] at hr;go_simp;with_reducible rfl);dsimp only [List.nil_append,List.cons_append]))
         refine V7 (fun u w=>∃ B,u=.pointer (some ⟨B,0,none⟩)/\w.heap[B]? = some (.cells #[.bool false,.bool false] 140 (0,0))/\wc.heap.size<=B) (fun u w w' ⟨B,h1,h2,h3⟩ hk=>⟨B,h1,hk.obj h2 id,h3⟩) rfl ?_ ?_
         ·intro a w hc hk hr K hK
          have HK:=Lib.hid hK
          clear hK
          go_simp
          exact HK.out _ _ ((Keep.refl _ _).alloc _) ⟨((Keep.refl qe w).alloc _).cell_some hc.1 id,((Keep.refl qe w).alloc _).cell_some hc.2.1 id,((Keep.refl qe w).alloc _).cell_some hc.2.2.1 id,((Keep.refl qe w).alloc _).cell_some hc.2.2.2 id⟩ ⟨w.heap.size,rfl,World.alloc_heap_new w _,hk.size⟩
         dsimp only [List.nil_append,List.cons_append]
         intro w hc hk
         simp only [finG,forall_eq]
         rintro u ⟨B,rfl,hB,hBn⟩
         simp only [List.drop_succ_cons,List.drop_zero]
         have c0:w.cell? ⟨B,0,none⟩=some (.bool false):=by simp [World.cell?,hB]
         have c1:w.cell? ⟨B,1,none⟩=some (.bool false):=by simp [World.cell?,hB]
         have f0:w.frozen? ⟨B,0,none⟩=false:=by simp [World.frozen?,hB]
         have f1:w.frozen? ⟨B,1,none⟩=false:=by simp [World.frozen?,hB]
         clear hB hc
         simp only [Act.put,List.setIfInBounds_toArray,List.set_cons_succ,List.set_cons_zero]
         go_wp2
         go_meet
         have hkk:∀ u v,Keep qe wc ((w.setCell ⟨B,0,none⟩ u).setCell ⟨B,1,none⟩ v):=fun u v=>((((Keep.refl qe wc).drew).trans hk).setCell (p:=⟨B,0,none⟩) (fun h=>by exact absurd h (by simpa using hBn)) _).setCell (p:=⟨B,1,none⟩) (fun h=>by exact absurd h (by simpa using hBn)) _
         exact⟨B,rfl,HP.out.1.at (hkk _ _) hwn (fun _ _=>id) (Nat.le_refl _),HJ.out _ _ _ HP.out.2.1 ((hkk _ _).mono fun _ _ h=>h.elim),by rw [HMA.out];go_simp,by rw [HMB.out];go_simp,Nat.le_trans hwn (hkk _ _).size⟩
    case rest=>
     clear hP hJp
     obtain⟨Bs,rfl,hP,hJp,hs0,hs1,hn0⟩:=hcut
     have hnA:ye a xn=ye a2 xn:=hP.sa.nxt_eq ha (Nat.le_refl _)
     have hnB:ye b xn=ye b2 xn:=hP.sb.nxt_eq hb (Nat.le_refl _)
     have HNA:=Lib.hid hnA
     have HNB:=Lib.hid hnB
     clear hnA hnB hFa hFb
     obtain⟨pa,hpa⟩:∃ p,mem a xn=p:=⟨_,rfl⟩
     obtain⟨pb,hpb⟩:∃ p,mem b xn=p:=⟨_,rfl⟩
     rw [hpa] at hs0
     rw [hpb] at hs1
     have HPA:=Lib.hid hpa
     have HPB:=Lib.hid hpb
     clear hpa hpb
     have ca:=hP.bxa.cell
     have hlb:=hP.bxb.lt
     have hls:Bs<wc.heap.size:=World.block_lt_of_cell? wc _ hs0
     go_wp2_with fail
     refine(Vs a2 va2 xn _ (hP.ra.keep (Nat.le_refl _) hn0 fun _ _ _=>rfl)).mono ?_
     rintro e w1 ⟨n1,m1,rfl,hm1,hb1⟩
     clear ca
     have hP1:=hP.at (S:=qe) (Keep.of_below' hb1 (Nat.le_refl _)) hn0 (fun _ _=>id) (Nat.le_refl _)
     have hJ1:=HJ.out _ _ _ hJp (Keep.of_below' hb1 (Nat.le_refl _))
     have hs0:=(hb1.cell (p:=⟨Bs,0,none⟩) hls).trans hs0
     have hs1:=(hb1.cell (p:=⟨Bs,1,none⟩) hls).trans hs1
     have hn1:n0<=w1.heap.size:=Nat.le_trans hn0 hb1.size
     have hls:=World.block_lt_of_cell? w1 _ hs0
     clear hP hJp hb1 hn0
     have cb:=hP1.bxb.cell
     go_wp2_with fail
     refine(Vs b2 vb2 xn _ (hP1.rb.keep (Nat.le_refl _) hn1 fun _ _ _=>rfl)).mono ?_
     rintro e w2 ⟨n2,m2,rfl,hm2,hb2⟩
     clear cb
     have hP2:=hP1.at (S:=qe) (Keep.of_below' hb2 (Nat.le_refl _)) hn1 (fun _ _=>id) (Nat.le_refl _)
     have hJ2:=HJ.out _ _ _ hJ1 (Keep.of_below' hb2 (Nat.le_refl _))
     have hs0:=(hb2.cell (p:=⟨Bs,0,none⟩) hls).trans hs0
     have hs1:=(hb2.cell (p:=⟨Bs,1,none⟩) hls).trans hs1
     have hn2:n0<=w2.heap.size:=Nat.le_trans hn1 hb2.size
     clear hP1 hJ1 hb2 hn1
     go_upto_region 8 with fail
     go_cut [81] (fun s81 wx=>∃ c:Bool,s81=.bool c/\wx=w2/\Hid (c=(m2 && (!m1 || decide (n2<n1)))))
     case first=>
      cases m2
      ·go_wp2_with fail
       go_meet
       exact⟨false,rfl,rfl,rfl⟩
      ·cases m1
       ·go_wp2_with fail
        go_meet
        exact⟨true,rfl,rfl,rfl⟩
       ·go_wp2_with fail
        go_meet
        exact⟨_,rfl,rfl,by simp [Hid]⟩
     case rest=>
      obtain⟨c,rfl,rfl,hc⟩:=hcut
      cases c with
      | true=>
        have hm:m2=true/\kv (ye a xn) (ye b xn)=some n2:=by
         have:=hc.out
         rw [HNA.out,HNB.out,hm1.out,hm2.out]
         cases m2<;>cases m1<;>simp [kv] at this ⊢
         omega
        obtain⟨rfl,hmin⟩:=hm
        have hmin:=Lib.hid hmin
        have hnx:Hid (ye b xn=some n2):=by show _=_;rw [HNB.out,hm2.out];rfl
        clear hc hm1 hm2 HNA HNB
        have hy0:xn<n2/\n2<zk:=by
         have h:=hnx.out
         exact⟨xr h,vJ hb h⟩
        obtain⟨f',rfl⟩:∃ f',f=f'+1:=⟨f - 1,by omega⟩
        have hpcs:Hid (QU a b (f'+1) xn=(⟨xn,n2 - 1⟩,pa,pb)::QU a b f' n2):=by
         show QU a b (f'+1) xn=_
         conv=>lhs;unfold QU
         rw [hmin.out,HPA.out,HPB.out]
        obtain⟨fn,tmps,assign,body,hy,hR⟩:=HY.out pre (⟨xn,n2 - 1⟩,pa,pb) wc hJ2 ⟨QU a b f' n2,by rw [hpc.out,hpcs.out];simp⟩
        dsimp only [za1] at hy
        have hw1:IntKind.u64.wrap ((n2:Int) - 1)=((n2 - 1:Nat):Int):=Zj (by omega) hy0.2
        obtain⟨y1,hy1⟩:∃ y1,y1=n2 - 1:=⟨_,rfl⟩
        rw [<-hy1] at hy hw1 hR
        have HY1:=Lib.hid hy1
        clear hy1
        go_upto_region 13 with fail
        refine(wpIn_wide (n:=8)).1 ?_
        gi_wp2
        refine hR.mono ?_
        rintro e w3 (⟨rfl,hJ3,hk3⟩ | ⟨rfl,hJx3⟩)
        ·gi_wp2
         go_wp2
         go_roundg (zk - n2)
         case measure=>omega
         case rel=>exact⟨n2,f',a2,b2,va2,vb2,pre++[(⟨xn,y1⟩,pa,pb)],rfl,hy0.2,rfl,hP2.at hk3 hn2 (fun k hk h=>h hk) (by omega),by show yO a b=_;rw [hpc.out,hpcs.out,HY1.out];simp,by omega,hJ3⟩
        ·gi_wp2
         go_wp2
         refine bodyPost_ret (results_none rfl _ _ _) rfl ?_
         exact⟨⟨_,rfl⟩,.inr ⟨pre++[(⟨xn,y1⟩,pa,pb)],⟨QU a b f' n2,by rw [hpc.out,hpcs.out,HY1.out];simp⟩,hJx3⟩⟩
      | false=>
        cases m1 with
        | true=>
          have hmin:Hid (kv (ye a xn) (ye b xn)=some n1):=by
           have:=hc.out
           show _=_
           rw [HNA.out,HNB.out,hm1.out,hm2.out]
           cases m2<;>simp [kv] at this ⊢
           omega
          have hnx:Hid (ye a xn=some n1):=by show _=_;rw [HNA.out,hm1.out];rfl
          clear hc hm1 hm2 HNA HNB
          have hy0:xn<n1/\n1<zk:=by
           have h:=hnx.out
           exact⟨xr h,vJ ha h⟩
          obtain⟨f',rfl⟩:∃ f',f=f'+1:=⟨f - 1,by omega⟩
          have hpcs:Hid (QU a b (f'+1) xn=(⟨xn,n1 - 1⟩,pa,pb)::QU a b f' n1):=by
           show QU a b (f'+1) xn=_
           conv=>lhs;unfold QU
           rw [hmin.out,HPA.out,HPB.out]
          obtain⟨fn,tmps,assign,body,hy,hR⟩:=HY.out pre (⟨xn,n1 - 1⟩,pa,pb) wc hJ2 ⟨QU a b f' n1,by rw [hpc.out,hpcs.out];simp⟩
          dsimp only [za1] at hy
          have hw1:IntKind.u64.wrap ((n1:Int) - 1)=((n1 - 1:Nat):Int):=Zj (by omega) hy0.2
          obtain⟨y1,hy1⟩:∃ y1,y1=n1 - 1:=⟨_,rfl⟩
          rw [<-hy1] at hy hw1 hR
          have HY1:=Lib.hid hy1
          clear hy1
          go_upto_region 13 with fail
          refine(wpIn_wide (n:=8)).1 ?_
          gi_wp2
          refine hR.mono ?_
          rintro e w3 (⟨rfl,hJ3,hk3⟩ | ⟨rfl,hJx3⟩)
          ·gi_wp2
           go_wp2
           go_roundg (zk - n1)
           case measure=>omega
           case rel=>exact⟨n1,f',a2,b2,va2,vb2,pre++[(⟨xn,y1⟩,pa,pb)],rfl,hy0.2,rfl,hP2.at hk3 hn2 (fun k hk h=>h hk) (by omega),by show yO a b=_;rw [hpc.out,hpcs.out,HY1.out];simp,by omega,hJ3⟩
          ·gi_wp2
           go_wp2
           refine bodyPost_ret (results_none rfl _ _ _) rfl ?_
           exact⟨⟨_,rfl⟩,.inr ⟨pre++[(⟨xn,y1⟩,pa,pb)],⟨QU a b f' n1,by rw [hpc.out,hpcs.out,HY1.out];simp⟩,hJx3⟩⟩
        | false=>
          have hmin:Hid (kv (ye a xn) (ye b xn)=none):=by
           have:=hc.out
           show _=_
           rw [HNA.out,HNB.out,hm1.out,hm2.out]
           cases m2<;>simp [kv] at this ⊢
          clear hc hm1 hm2 HNA HNB
          obtain⟨f',rfl⟩:∃ f',f=f'+1:=⟨f - 1,by omega⟩
          have hpcs:Hid (QU a b (f'+1) xn=[(⟨xn,zk - 1⟩,pa,pb)]):=by
           show QU a b (f'+1) xn=_
           conv=>lhs;unfold QU
           rw [hmin.out,HPA.out,HPB.out]
          obtain⟨fn,tmps,assign,body,hy,hR⟩:=HY.out pre (⟨xn,zk - 1⟩,pa,pb) wc hJ2 ⟨[],by rw [hpc.out,hpcs.out];simp⟩
          dsimp only [za1] at hy
          rw [show ((zk - 1:Nat):Int)=18446744073709551615 from rfl] at hy
          go_upto_region 13 with fail
          refine(wpIn_wide (n:=8)).1 ?_
          gi_wp2
          refine hR.mono ?_
          rintro e w3 (⟨rfl,hJ3,hk3⟩ | ⟨rfl,hJx3⟩)
          ·gi_wp2
           go_wp2
           refine bodyPost_ret (results_none rfl _ _ _) rfl ?_
           exact⟨⟨_,rfl⟩,.inl (by rw [hpc.out,hpcs.out];exact hJ3)⟩
          ·gi_wp2
           go_wp2
           refine bodyPost_ret (results_none rfl _ _ _) rfl ?_
           exact⟨⟨_,rfl⟩,.inr ⟨pre++[(⟨xn,zk - 1⟩,pa,pb)],⟨[],by rw [hpc.out,hpcs.out];simp⟩,hJx3⟩⟩
end Go.Proofs.YtjimggclhlnfbaaGreatDoor
namespace Go.Proofs.YtjimggclhlnfbaaGreatDoor
open Go.RowKit Go.Sort
structure CalU:Prop where
 ins:∀(zc off cap a b:Nat) (d:Array Int) (w:World),Holds zg w zc off d->a<=b->b<=d.size->d.size<4611686018427387904 ->
  Calls Tryz.prog 223 #[.slice (some ⟨zc,off,none⟩) d.size cap,.int .i64 a,.int .i64 b] w fun e w'=>e=.returned (.tuple #[])/\∃ n,w'=putRow zg (Sort.ahead w n) zc off (insertionSort ltInt d a b)
 brk:∀(zc off cap a b:Nat) (d:Array Int) (w:World),Holds zg w zc off d->zc<w.heap.size->a<=b->b<=d.size->d.size<4611686018427387904 ->
  Calls Tryz.prog 225 #[.slice (some ⟨zc,off,none⟩) d.size cap,.int .i64 a,.int .i64 b] w fun e w'=>e=.returned (.tuple #[])/\∃ n os,w'=grow (putRow zg (Sort.ahead w n) zc off (breakPatterns d a b)) os
 piv:∀(zc off cap a b:Nat) (d:Array Int) (w:World),Holds zg w zc off d->zc<w.heap.size->a<b->b<=d.size->d.size<4611686018427387904 ->
  Calls Tryz.prog 226 #[.slice (some ⟨zc,off,none⟩) d.size cap,.int .i64 a,.int .i64 b] w fun e w'=>e=.returned (.tuple #[.int .i64 (choosePivot ltInt d a b).1,.int .i64 (hintCode (choosePivot ltInt d a b).2)])/\∃ n os,w'=grow (Sort.ahead w n) os
 par:∀(zc off cap a b:Nat) (d:Array Int) (w:World),Holds zg w zc off d->a<b->b<=d.size->d.size<4611686018427387904 ->
  Calls Tryz.prog 228 #[.slice (some ⟨zc,off,none⟩) d.size cap,.int .i64 a,.int .i64 b] w fun e w'=>e=.returned (.bool (partialInsertionSort ltInt d a b).2)/\∃ n,w'=putRow zg (Sort.ahead w n) zc off (partialInsertionSort ltInt d a b).1
 peq:∀(zc off cap a b pivot:Nat) (d:Array Int) (w:World),Holds zg w zc off d->a<=pivot->pivot<b->b<=d.size->d.size<4611686018427387904 ->
  Calls Tryz.prog 229 #[.slice (some ⟨zc,off,none⟩) d.size cap,.int .i64 a,.int .i64 b,.int .i64 pivot] w fun e w'=>e=.returned (.int .i64 (partitionEqual ltInt d a b pivot).1)/\∃ n,w'=putRow zg (Sort.ahead w n) zc off (partitionEqual ltInt d a b pivot).2
 prt:∀(zc off cap a b pivot:Nat) (d:Array Int) (w:World),Holds zg w zc off d->a<=pivot->pivot<b->b<=d.size->d.size<4611686018427387904 ->
  Calls Tryz.prog 230 #[.slice (some ⟨zc,off,none⟩) d.size cap,.int .i64 a,.int .i64 b,.int .i64 pivot] w fun e w'=>e=.returned (.tuple #[.int .i64 (partition ltInt d a b pivot).1,.bool (partition ltInt d a b pivot).2.1])/\∃ n,w'=putRow zg (Sort.ahead w n) zc off (partition ltInt d a b pivot).2.2
structure PlnU:Prop where
 swo:SWO ltInt
 ins:insertionSort_stmt ltInt
 par:partialInsertionSort_stmt ltInt
 prt:partition_stmt ltInt
 peq:partitionEqual_stmt ltInt
 pdq:pdq_stmt ltInt
set_option maxRecDepth 1000000 in
theorem QJ (C:CalU) (S:PlnU):∀(N zc off cap a b limit:Nat) (d:Array Int) (w:World),b - a<N->Holds zg w zc off d->zc<w.heap.size->a<=b->b<=d.size->d.size<4611686018427387904->limit<4611686018427387904->Below ltInt a b d ->
 Calls Tryz.prog 216 #[.slice (some ⟨zc,off,none⟩) d.size cap,.int .i64 a,.int .i64 b,.int .i64 limit] w fun e w'=>e=.returned (.tuple #[])/\At zg w zc off (pdq ltInt d a b limit true true) w':=by
 intro N
 induction N with
 | zero=>intro _ _ _ _ _ _ _ _ h;exact absurd h (Nat.not_lt_zero _)
 | succ N ih=>
   intro zc off cap a b limit d w hN hH hblk hab hb hsz hlimit hBel0
   go_enter Tryz.func216,Tryz.ntmps216
   go_wp2
   go_loopg [1,2,3,8,9] (b - a) (fun k s1 s2 s3 s8 s9 wr=>∃(a' b' lim:Nat) (wb wp:Bool) (dk:Array Int),s1=.int .i64 a'/\s2=.int .i64 b'/\s3=.int .i64 lim/\s8=.bool wb/\s9=.bool wp /\
    a'<=b'/\b'<=d.size/\b' - a'<=k/\k<=b - a/\lim<=limit/\dk.size=d.size/\Below ltInt a' b' dk/\At zg w zc off dk wr/\pdq ltInt dk a' b' lim wb wp=pdq ltInt d a b limit true true)
   case atStart=>exact⟨a,b,limit,true,true,d,rfl,rfl,rfl,rfl,rfl,hab,hb,Nat.le_refl _,Nat.le_refl _,Nat.le_refl _,rfl,hBel0,At.refl hH,rfl⟩
   case round=>
    obtain⟨a',b',lim,wb,wp,dk,rfl,rfl,rfl,rfl,rfl,hab',hb',hk,hkN,hlim,hds,hBel,hAt,heq⟩:=hrel
    obtain⟨hHk,hblk'⟩:=hAt.holds hH hds hblk
    have A:Aside (pdq ltInt dk a' b' lim wb wp=pdq ltInt d a b limit true true):=heq
    clear heq
    by_cases h12:b' - a'<=12
    ·
     have h12z:(b':Int) - (a':Int)<=12:=by omega
     have hc:=C.ins zc off cap a' b' dk wr hHk hab' (by omega) (by omega)
     rw [hds] at hc
     go_wp2_with (go_at_call 223;refine hc.mono ?_;rintro e w1 ⟨rfl,hw1⟩)
     (try simp only [Exit.inBlock,Exit.then]);refine bodyPost_ret (results_none rfl _ _ _) rfl ?_
     refine⟨rfl,?_⟩
     rw [<-A.out,pdq_small h12]
     exact hAt.step hblk (S.ins S.swo dk a' b' hab' (by omega)).1.1 hw1
    ·have h12z:¬((b':Int) - (a':Int)<=12):=by omega
     by_cases hl0:lim=0
     ·
      subst hl0
      have hc:=ZK zc off d.size cap dk hds a' b' wr hHk hab' (by omega) (by omega)
      go_wp2_with (go_at_call 224;refine hc.mono ?_;rintro e w1 ⟨rfl,hw1⟩)
      (try simp only [Exit.inBlock,Exit.then]);refine bodyPost_ret (results_none rfl _ _ _) rfl ?_
      refine⟨rfl,?_⟩
      rw [<-A.out,pdq_heap h12 rfl]
      exact hAt.step hblk (heapSort_holds S.swo dk a' b' hab' (by omega)).1.1 hw1
     ·have hl0z:¬((lim:Int)=0):=by omega
      obtain⟨s1,B1,hc1,s2,B2,hpv,s3,B3⟩:=rd_facts (limit:=lim) (wb:=wb) (wp:=wp) S.swo S.par reverseRange_holds (show a'<b' by omega) (show b'<=dk.size by omega) hBel
      go_upto_if 35 with fail
      go_cut [3] from 19 (fun s3 wc=>s3=.int .i64 (rd ltInt dk a' b' lim wb wp).lim/\At zg w zc off (rd ltInt dk a' b' lim wb wp).d1 wc)
      case first=>
       cases wb
       ·have hc:=C.brk zc off cap a' b' dk wr hHk hblk' hab' (by omega) (by omega)
        rw [hds] at hc
        go_wp2_with (go_at_call 225;refine hc.mono ?_;rintro e w1 ⟨rfl,hw1⟩)
        go_meet
        case rel=>
         refine⟨?_,hAt.stepG hblk s1 hw1⟩
         show Value.int .i64 ((lim:Int) - 1)=Value.int .i64 ((lim - 1:Nat):Int)
         congr 1
         omega
       ·go_wp2_with fail
        go_meet
        case rel=>exact⟨rfl,hAt⟩
      case rest=>
       obtain⟨rfl,hAt1⟩:=hcut
       obtain⟨hH1,hblk1⟩:=hAt1.holds hH (s1.trans hds) hblk
       have hc17:Calls Tryz.prog 226 #[.slice (some ⟨zc,off,none⟩) d.size cap,.int .i64 a',.int .i64 b'] wc fun e w'=>e=.returned (.tuple #[.int .i64 (rd ltInt dk a' b' lim wb wp).c.1,.int .i64 (hintCode (rd ltInt dk a' b' lim wb wp).c.2)])/\∃ n os,w'=grow (Sort.ahead wc n) os:=by
        have:=C.piv zc off cap a' b' (rd ltInt dk a' b' lim wb wp).d1 wc hH1 hblk1 (by omega) (by omega) (by omega)
        rw [s1,hds] at this
        exact this
       go_upto_if 50 with(go_at_call 226;refine hc17.mono ?_;rintro e w2 ⟨rfl,hw2⟩)
       have hAt2:At zg w zc off (rd ltInt dk a' b' lim wb wp).d1 w2:=hAt1.same hH (s1.trans hds) hblk hw2
       obtain⟨hH2,hblk2⟩:=hAt2.holds hH (s1.trans hds) hblk
       go_cut [11,12] from 19 (fun s11 s12 wc=>s11=.int .i64 (rd ltInt dk a' b' lim wb wp).pivot/\s12=.int .i64 (hintCode (rd ltInt dk a' b' lim wb wp).hint)/\At zg w zc off (rd ltInt dk a' b' lim wb wp).d2 wc)
       case first=>
        by_cases hh:(rd ltInt dk a' b' lim wb wp).c.2=.decreasing
        ·have hcode:hintCode (rd ltInt dk a' b' lim wb wp).c.2=2:=by rw [hh];rfl
         obtain⟨e2,epv,eht⟩:=rd_dec hh
         have hc18:=jB zc off cap (rd ltInt dk a' b' lim wb wp).d1 a' b' w2 hH2 hab' (by omega) (by omega)
         rw [s1,hds] at hc18
         go_wp2_with (go_at_call 227;refine hc18.mono ?_;rintro e w3 ⟨rfl,hw3⟩)
         go_meet
         case rel=>
          refine⟨?_,by rw [eht];rfl,by rw [e2];exact hAt2.step hblk (by rw [<-e2,s2,s1]) hw3⟩
          rw [epv]
          congr 1
          omega
        ·have hcode:¬(hintCode (rd ltInt dk a' b' lim wb wp).c.2=2):=fun h=>hh (hintCode_two h)
         obtain⟨e2,epv,eht⟩:=rd_not hh
         go_wp2_with fail
         go_meet
         case rel=>exact⟨by rw [epv],by rw [eht],by rw [e2];exact hAt2⟩
       case rest=>
        obtain⟨rfl,rfl,hAt3⟩:=hcut
        obtain⟨hH3,hblk3⟩:=hAt3.holds hH (s2.trans hds) hblk
        go_upto_region 15 with fail
        go_cut [12,68] from 19 (fun s12 s68 wx=>s12=.int .i64 (hintCode (rd ltInt dk a' b' lim wb wp).hint)/\s68=.bool (wb && wp && decide ((rd ltInt dk a' b' lim wb wp).hint=.increasing))/\wx=wc)
        case first=>
         cases wb<;>cases wp<;>cases hh3:(rd ltInt dk a' b' lim _ _).hint <;>
          (have hcode3:=congrArg hintCode hh3
           simp only [hintCode] at hcode3
           go_wp2_with fail
           go_meet
           exact⟨by simp [hh3,hintCode],by simp [hh3,hintCode],rfl⟩)
        case rest=>
         obtain⟨rfl,rfl,rfl⟩:=hcut
         go_upto_if 68 with fail
         go_cut [] from 19 (fun wx=>(rd ltInt dk a' b' lim wb wp).pi.2=false/\At zg w zc off (rd ltInt dk a' b' lim wb wp).pi.1 wx)
         case first=>
          cases h68:(wb && wp && decide ((rd ltInt dk a' b' lim wb wp).hint=.increasing))
          ·have epi:=rd_pi_no h68
           go_wp2_with fail
           go_meet
           case rel=>exact⟨by rw [epi],by rw [epi];exact hAt3⟩
          ·have epi:=rd_pi_yes h68
           have hc19:=C.par zc off cap a' b' (rd ltInt dk a' b' lim wb wp).d2 wc hH3 (by omega) (by omega) (by omega)
           rw [s2,hds,<-epi] at hc19
           go_wp2_with (go_at_call 228;refine hc19.mono ?_;rintro e w4 ⟨rfl,hw4⟩)
           all_goals first
            | (have hp2:(rd ltInt dk a' b' lim wb wp).pi.2=false:=by rw [epi];assumption
               go_meet
               exact⟨hp2,hAt3.step hblk (by rw [s3,s2]) hw4⟩)
            | (have hp2:(rd ltInt dk a' b' lim wb wp).pi.2=true:=by rw [epi];assumption
               (try simp only [Exit.inBlock,Exit.then]);refine bodyPost_ret (results_none rfl _ _ _) rfl ?_
               refine⟨rfl,?_⟩
               rw [<-A.out,pdq_done h12 hl0 hp2]
               exact hAt3.step hblk (by rw [s3,s2]) hw4)
         case rest=>
          obtain⟨hp2,hAt5⟩:=hcut
          obtain⟨hH5,hblk5⟩:=hAt5.holds hH (s3.trans hds) hblk
          have hcw:∀ t,t<d.size->wc.cell? ⟨zc,off+t,none⟩=some (.int .u64 (rd ltInt dk a' b' lim wb wp).pi.1[t]!):=fun t ht=>(hH5 t (by omega)).1
          have hfw:∀ t,t<d.size->wc.frozen? ⟨zc,off+t,none⟩=false:=fun t ht=>(hH5 t (by omega)).2
          go_upto_region 17 with fail
          go_cut [87] from 19 (fun s87 wx=>s87=.bool (decide (a' > 0) && !ltInt (rd ltInt dk a' b' lim wb wp).pi.1[a' - 1]! (rd ltInt dk a' b' lim wb wp).pi.1[(rd ltInt dk a' b' lim wb wp).pivot]!)/\At zg w zc off (rd ltInt dk a' b' lim wb wp).pi.1 wx)
          case first=>
           rcases Nat.eq_zero_or_pos a' with ha0 | ha0
           ·have ha0z:decide ((a':Int) > 0)=false:=decide_eq_false (by omega)
            go_big_quiet (first | (go_at_call 212;refine Calls.quiet_of_same (za _ _ _)))
            go_wp2_with fail
            go_meet
            case rel=>exact⟨by simp [ha0],hAt5.ahead nq⟩
           ·have ha0z:(a':Int) > 0:=by omega
            go_big_quiet (first | (go_at_call 212;refine Calls.quiet_of_same (za _ _ _)))
            go_wp2_with fail
            go_meet
            case rel=>exact⟨by simp [ha0],hAt5.ahead nq⟩
          case rest=>
           obtain⟨rfl,hAt6⟩:=hcut
           obtain⟨hH6,hblk6⟩:=hAt6.holds hH (s3.trans hds) hblk
           clear hcw hfw
           cases h87:(decide (a' > 0) && !ltInt (rd ltInt dk a' b' lim wb wp).pi.1[a' - 1]! (rd ltInt dk a' b' lim wb wp).pi.1[(rd ltInt dk a' b' lim wb wp).pivot]!)
           ·
            obtain⟨mid,ap,d4,hx⟩:∃ mid ap d4,partition ltInt (rd ltInt dk a' b' lim wb wp).pi.1 a' b' (rd ltInt dk a' b' lim wb wp).pivot=(mid,ap,d4):=⟨(partition ltInt (rd ltInt dk a' b' lim wb wp).pi.1 a' b' (rd ltInt dk a' b' lim wb wp).pivot).1,(partition ltInt (rd ltInt dk a' b' lim wb wp).pi.1 a' b' (rd ltInt dk a' b' lim wb wp).pivot).2.1,(partition ltInt (rd ltInt dk a' b' lim wb wp).pi.1 a' b' (rd ltInt dk a' b' lim wb wp).pivot).2.2,rfl⟩
            obtain⟨r1,r2,r3,r4,r5,r6,r7⟩:=round_part S.swo S.prt hpv.1 hpv.2 (show b'<=(rd ltInt dk a' b' lim wb wp).pi.1.size by omega) B3 hx
            have hc22:=C.prt zc off cap a' b' (rd ltInt dk a' b' lim wb wp).pivot (rd ltInt dk a' b' lim wb wp).pi.1 wc hH6 hpv.1 hpv.2 (by omega) (by omega)
            rw [s3,hds,hx] at hc22
            have X:Aside (partition ltInt (rd ltInt dk a' b' lim wb wp).pi.1 a' b' (rd ltInt dk a' b' lim wb wp).pivot=(mid,ap,d4)):=hx
            clear hx
            go_upto_if 113 with(go_at_call 230;refine hc22.mono ?_;rintro e w7 ⟨rfl,hw7⟩)
            have hx:=X.out
            have hAt7:At zg w zc off d4 w7:=hAt6.step hblk r3 hw7
            obtain⟨hH7,hblk7⟩:=hAt7.holds hH (r3.trans (s3.trans hds)) hblk
            by_cases h4:mid - a'<b' - mid
            ·have h4z:(mid:Int) - (a':Int)<(b':Int) - (mid:Int):=by omega
             have hih:=ih zc off cap a' mid (rd ltInt dk a' b' lim wb wp).lim d4 w7 (by omega) hH7 hblk7 (by omega) (by omega) (by omega) (Nat.lt_of_le_of_lt (Nat.le_trans rd_lim_le hlim) hlimit) r4
             rw [r3,s3,hds] at hih
             obtain⟨pL,sL⟩:=S.pdq S.swo d4 a' mid (rd ltInt dk a' b' lim wb wp).lim true true (by omega) (by omega) r4
             go_wp2_with (go_at_call 216;refine hih.mono ?_;rintro e w8 ⟨rfl,hw8⟩)
             go_roundg (b' - (mid+1))
             case measure=>omega
             case rel=>
              refine⟨mid+1,b',(rd ltInt dk a' b' lim wb wp).lim,decide (mid - a' ≥ (b' - a') / 8),ap,pdq ltInt d4 a' mid (rd ltInt dk a' b' lim wb wp).lim true true,by simp,rfl,rfl,?_,rfl,by omega,by omega,Nat.le_refl _,by omega,Nat.le_trans rd_lim_le hlim,by rw [pL.1,r3,s3,hds],(r6 _ pL sL).1,hAt7.stepG hblk pL.1 hw8,?_⟩
              ·exact congrArg Value.bool (eighth (by omega) (by omega))
              ·rw [<-A.out,pdq_left h12 hl0 hp2 h87 (by rw [hx];exact⟨r1,r2⟩) (by rw [hx];exact h4),hx]
            ·have h4z:¬((mid:Int) - (a':Int)<(b':Int) - (mid:Int)):=by omega
             have hih:=ih zc off cap (mid+1) b' (rd ltInt dk a' b' lim wb wp).lim d4 w7 (by omega) hH7 hblk7 (by omega) (by omega) (by omega) (Nat.lt_of_le_of_lt (Nat.le_trans rd_lim_le hlim) hlimit) r5
             rw [r3,s3,hds] at hih
             obtain⟨pL,sL⟩:=S.pdq S.swo d4 (mid+1) b' (rd ltInt dk a' b' lim wb wp).lim true true (by omega) (by omega) r5
             go_wp2_with (go_at_call 216;refine hih.mono ?_;rintro e w8 ⟨rfl,hw8⟩)
             go_roundg (mid - a')
             case measure=>omega
             case rel=>
              refine⟨a',mid,(rd ltInt dk a' b' lim wb wp).lim,decide (b' - mid ≥ (b' - a') / 8),ap,pdq ltInt d4 (mid+1) b' (rd ltInt dk a' b' lim wb wp).lim true true,rfl,rfl,rfl,?_,rfl,by omega,by omega,Nat.le_refl _,by omega,Nat.le_trans rd_lim_le hlim,by rw [pL.1,r3,s3,hds],(r7 _ pL sL).1,hAt7.stepG hblk pL.1 hw8,?_⟩
              ·exact congrArg Value.bool (eighth (by omega) (by omega))
              ·rw [<-A.out,pdq_right h12 hl0 hp2 h87 (by rw [hx];exact⟨r1,r2⟩) (by rw [hx];exact h4),hx]
           ·
            have h87':=h87
            simp only [Bool.and_eq_true,decide_eq_true_eq,Bool.not_eq_true'] at h87'
            obtain⟨mid,d4,hx⟩:∃ mid d4,partitionEqual ltInt (rd ltInt dk a' b' lim wb wp).pi.1 a' b' (rd ltInt dk a' b' lim wb wp).pivot=(mid,d4):=⟨(partitionEqual ltInt (rd ltInt dk a' b' lim wb wp).pi.1 a' b' (rd ltInt dk a' b' lim wb wp).pivot).1,(partitionEqual ltInt (rd ltInt dk a' b' lim wb wp).pi.1 a' b' (rd ltInt dk a' b' lim wb wp).pivot).2,rfl⟩
            obtain⟨r1,r2,r3,r4,_⟩:=round_eq S.swo S.peq h87'.1 hpv.1 hpv.2 (show b'<=(rd ltInt dk a' b' lim wb wp).pi.1.size by omega) B3 h87'.2 hx
            have hc21:=C.peq zc off cap a' b' (rd ltInt dk a' b' lim wb wp).pivot (rd ltInt dk a' b' lim wb wp).pi.1 wc hH6 hpv.1 hpv.2 (by omega) (by omega)
            rw [s3,hds,hx] at hc21
            have X:Aside (partitionEqual ltInt (rd ltInt dk a' b' lim wb wp).pi.1 a' b' (rd ltInt dk a' b' lim wb wp).pivot=(mid,d4)):=hx
            clear hx
            go_wp2_with (go_at_call 229;refine hc21.mono ?_;rintro e w7 ⟨rfl,hw7⟩)
            go_roundg (b' - mid)
            case measure=>omega
            case rel=>
             have hx:=X.out
             exact⟨mid,b',(rd ltInt dk a' b' lim wb wp).lim,wb,wp,d4,rfl,rfl,rfl,rfl,rfl,r2,hb',Nat.le_refl _,by omega,Nat.le_trans rd_lim_le hlim,by rw [r3,s3,hds],r4,hAt6.step hblk r3 hw7,by rw [<-A.out,pdq_eq h12 hl0 hp2 h87 (by rw [hx];exact⟨r1,r2⟩),hx]⟩
end Go.Proofs.YtjimggclhlnfbaaGreatDoor
namespace Go.Proofs.YtjimggclhlnfbaaGreatDoor
open Go.RowKit
attribute [local go_sem] Oper.semAt_some
def zaB (n:Nat) (W:World) (k:Nat):Prop:=n<=k/\∃ cs f,W.heap[k]? = some (.cells cs 3 f)
def SF (n0:Nat) (t:TypeId) (A B:World):Prop:=(∃ v,Boxed A n0 t v)/\Keep (fun k=>k=n0\/zaB (n0+4) A k) A B
theorem SF.pt {n0 Bk Bi:Nat} {t:TypeId} {A B:World} (h:SF n0 t A B) (h1:Bk<n0) (h2:Bi<n0) (ht:t ≠ 34) (hi : 3 ≠ 34):PtF n0 Bk Bi A B:=by
 obtain⟨⟨v,hv⟩,hk⟩:=h
 refine⟨hk.size,fun k hlt hc=>hk.block k hlt ?_⟩
 rintro(rfl | ⟨h4,cs,f,hcs⟩)
 ·rcases hc with hc | hc | hc | ⟨cs,f,hc⟩
  ·omega
  ·omega
  ·omega
  ·have hv':A.heap[k]? = some (.cells #[v] t (0,0)):=hv
   rw [hv'] at hc
   cases hc
   exact ht rfl
 ·rcases hc with hc | hc | hc | ⟨cs2,f2,hc⟩
  ·omega
  ·omega
  ·omega
  ·rw [hcs] at hc
   cases hc
theorem X8 {α:Type} (gf:Nat) (lb:Array Value) (Bk Bi:Nat) (xs:List (Nat × Fv)) (w:World) (ad0:Option Addr) (c0':Nat) (eg:∀ args w,(callFunc gf args).run Tryz.prog w=.ok (.enter gf args) w)
 (hit:∀ W,Below w.heap.size w W->v7 Tryz.prog gf lb Y4 (fun _=>False) (PtF w.heap.size Bk Bi) xs W) (hBk:Bk<w.heap.size) (hBi:Bi<w.heap.size)
 (Inv:World->Value->α->Prop) (step:α->Nat × Fv->α) (a0:α) (hI0:∀ W,Below w.heap.size w W->Inv W (.slice ad0 0 c0') a0) (hIs:∀ W u a,Inv W u a->∃ ad n c,u=.slice ad n c)
 (hIk:∀ A B u a,Inv A u a->Keep (fun k=>k=w.heap.size\/k=w.heap.size+2\/k=w.heap.size+3) A B->Inv B u a)
 (hStep:∀ W u pre p,pre++[p] <+: xs->w.heap.size+4<=W.heap.size->Below w.heap.size w W->Inv W u (pre.foldl step a0)->Calls Tryz.prog 69 #[u,.int .i64 (p.1:Nat),.agg #[sv p.2.1,sv p.2.2]] W fun e W'=>
   ∃ u',e=.returned u'/\Inv W' u' (step (pre.foldl step a0) p)/\Keep (zaB (w.heap.size+4) W) W W') :
 Calls Tryz.prog 67 #[.func (.func gf) #[] lb,.slice ad0 0 c0',.func (.func 69) #[] #[]] w fun e w'=>∃ u,e=.returned u/\Inv w' u (xs.foldl step a0)/\Below w.heap.size w w':=by
 have HIT:=Lib.hid hit
 have HI0:=Lib.hid hI0
 have HIS:=Lib.hid hIs
 have HIK:=Lib.hid hIk
 have HST:=Lib.hid hStep
 clear hit hI0 hIs hIk hStep
 refine callsIn_wide.1 (callsIn_of_wp_marks (n:=9) Tryz.func67 rfl trivial ?_ rfl)
 simp only [Tryz.ntmps67,List.size_toArray,List.length_cons,List.length_nil,Nat.reduceAdd,Nat.reduceSub,Array.replicate_succ,Array.replicate_zero,List.push_toArray,List.append_toArray,List.nil_append,List.cons_append]
 gi_wp2
 obtain⟨W0,hW0⟩:∃ W0,((w.alloc (Obj.cells #[Value.slice ad0 0 c0'] 32)).alloc (Obj.cells #[Value.func (Fn.func 69) #[] #[]] 100))=W0:=⟨_,rfl⟩
 have hsz:W0.heap.size=w.heap.size+2:=by rw [<-hW0];simp
 have b0:Boxed W0 w.heap.size 32 (Value.slice ad0 0 c0'):=by rw [<-hW0];exact(Boxed.new w _ _).alloc _
 have b1:Boxed W0 (w.heap.size+1) 100 (Value.func (Fn.func 69) #[] #[]):=by rw [<-hW0];have:=Boxed.new (w.alloc (Obj.cells #[Value.slice ad0 0 c0'] 32)) 100 (Value.func (Fn.func 69) #[] #[]);rw [World.size_alloc] at this;exact this
 have hB0:Below w.heap.size w W0:=by rw [<-hW0];exact((Below.refl _ _).alloc (Nat.le_refl _) _).alloc (by simp) _
 try simp only [World.size_alloc]
 rw [hW0]
 clear hW0
 refine Xt (w:=W0) gf lb rfl eg Y4 (fun _=>rfl) (fun _=>False) (PtF w.heap.size Bk Bi) xs ?hit
  (SF w.heap.size 32) (fun A B h k hk hlt=>h.2.block k hlt (by rintro(e | ⟨e,_⟩)<;>omega)) (fun A B h=>h.pt hBk hBi (by decide) (by decide))
  ?hPt ?hPt0 ⟨id,id⟩
  (fun pre W=>(∃ u,Boxed W w.heap.size 32 u/\Inv W u (pre.foldl step a0))/\Boxed W (w.heap.size+1) 100 (Value.func (Fn.func 69) #[] #[])/\Below w.heap.size w W)
  (fun _ _ _=>False) ?hI (fun _ _ _ _ h _=>h) ⟨⟨_,b0,HI0.out _ hB0⟩,b1,hB0⟩
  (fun pre x a' W=>((∃ u,Boxed W w.heap.size 32 u/\Inv W u (pre.foldl step a0))/\Boxed W (w.heap.size+1) 100 (Value.func (Fn.func 69) #[] #[])/\Below w.heap.size w W) /\
    ∃ B8,W.heap[B8]? = some (.cells #[sv x.2.1,sv x.2.2] 34 (0,0))/\W0.heap.size+2<=B8 /\
    a'={ tmps:=#[Value.func (Fn.func gf) #[] lb,Value.slice ad0 0 c0',Value.func (Fn.func 69) #[] #[],undef,Value.pointer (some ⟨w.heap.size,0,none⟩),Value.pointer (some ⟨w.heap.size+1,0,none⟩),Value.slice none 0 0,.int .i64 (x.1:Nat),Value.pointer (some ⟨B8,0,none⟩),Value.func (Fn.func gf) #[] lb,.int .i64 (x.1:Nat),.agg #[sv x.2.1,sv x.2.2],undef,undef,undef,undef,undef,undef],defers:=[] })
  ?hAx ?hassign ?hbody ?hdone (fun _ _ _ _ h _=>h.elim)
 case hit=>
  intro W hk hWs
  exact HIT.out W (hB0.trans (hk.below (by omega) fun _ _=>id))
 case hPt=>
  rintro A B C ⟨h1,h2⟩ ⟨h3,h4⟩
  refine⟨Nat.le_trans h1 h3,fun k hk hc=>?_⟩
  have e1:=h2 k hk hc
  refine(h4 k (by omega) ?_).trans e1
  rcases hc with hc | hc | hc | ⟨cs,f,hc⟩
  ·exact .inl hc
  ·exact .inr (.inl hc)
  ·exact .inr (.inr (.inl hc))
  ·exact .inr (.inr (.inr ⟨cs,f,by rw [e1];exact hc⟩))
 case hPt0=>
  rintro A B hk ⟨o,ho⟩
  refine⟨hk.size,fun k hlt hc=>hk.block k hlt ?_⟩
  rintro rfl
  rcases hc with hc | hc | hc | ⟨cs,f,hc⟩
  ·omega
  ·omega
  ·omega
  ·rw [ho] at hc;cases hc
 case hI=>
  rintro pre A B ⟨⟨u,h1,h2⟩,h3,h4⟩ hk0
  have hk:Keep (fun k=>k=W0.heap.size\/k=W0.heap.size+1) A B:=hk0.mono fun _ _ h=>h.elim False.elim id
  exact⟨⟨u,hk.boxed h1 (by omega),HIK.out _ _ _ _ h2 (hk.mono fun k _ h=>by omega)⟩,hk.boxed h3 (by omega),h4.trans (hk.below h4.size fun k hk=>by omega)⟩
 case hAx=>
  rintro pre x a' A B ⟨⟨⟨u,h1,h2⟩,h3,h4⟩,B8,h5,h6,rfl⟩ hk
  exact⟨⟨⟨u,hk.boxed h1 (by omega),HIK.out _ _ _ _ h2 (hk.mono fun k _ h=>by omega)⟩,hk.boxed h3 (by omega),h4.trans (hk.below h4.size fun k hk=>by omega)⟩,B8,hk.obj h5 (by omega),h6,rfl⟩
 case hassign=>
  rintro l pre ⟨i,⟨⟨x0,x1,x2⟩,⟨y0,y1,y2⟩⟩⟩ W hpx hlt ⟨⟨u,h1,h2⟩,h3,h4⟩
  clear hpx
  dsimp only [Y4,sv]
  have HX:=Lib.hid (And.intro h1 (And.intro h2 (And.intro h3 h4)))
  clear h1 h2 h3 h4
  gi_wp2
  obtain⟨h1,h2,h3,h4⟩:=HX.out
  have hka:∀ o S,Keep S W (W.alloc o):=fun o S=>(Keep.refl _ _).alloc _
  refine⟨⟨⟨u,h1⟩,hka _ _⟩,⟨⟨u,(hka _ (fun _=>False)).boxed h1 id,HIK.out _ _ _ _ h2 (hka _ _)⟩,(hka _ (fun _=>False)).boxed h3 id,h4.alloc h4.size _⟩,W.heap.size,World.alloc_heap_new W _,by omega,rfl⟩
 case hbody=>
  rintro l pre ⟨i,⟨⟨x0,x1,x2⟩,⟨y0,y1,y2⟩⟩⟩ a' W hpx hlt ⟨⟨⟨u,h1,h2⟩,h3,h4⟩,B8,h5,h6,rfl⟩
  obtain⟨ua,un,uc,rfl⟩:=HIS.out _ _ _ h2
  have hst:=HST.out W _ pre _ hpx (by omega) h4 h2
  dsimp only [sv] at hst h5 ⊢
  have c0:=h1.cell
  have c1:=h3.cell
  have c2:W.cell? ⟨B8,0,none⟩=some (.slice x0 x1 x2):=by simp [World.cell?,h5]
  have c3:W.cell? ⟨B8,1,none⟩=some (.slice y0 y1 y2):=by simp [World.cell?,h5]
  have HS:=Lib.hid hst
  have HX:=Lib.hid (And.intro h1 (And.intro h3 h4))
  clear hst h1 h2 h3 h4 h5
  gi_wp2_with (refine⟨trivial,?_⟩;gi_at_call 69;refine(callsIn_wide.2 HS.out).mono ?_;rintro e W1 ⟨u',rfl,hi1,hk1⟩
               obtain⟨va,vn,vc,rfl⟩:=HIS.out _ _ _ hi1
               have h1:Boxed W1 w.heap.size 32 (.slice ua un uc):=hk1.boxed HX.out.1 (fun h=>by have:=h.1;omega)
               have d0:=h1.cell
               have d1:=h1.frozen
               have HI1:=Lib.hid hi1
               have HK1:=Lib.hid hk1
               have HB1:=Lib.hid h1
               clear hi1 hk1 h1)
  have hkx:Keep (fun k=>k=w.heap.size) W1 (W1.setCell ⟨w.heap.size,0,none⟩ (.slice va vn vc)):=(Keep.refl (fun k=>k=w.heap.size) W1).setCell (p:=⟨w.heap.size,0,none⟩) (fun _=>rfl) _
  obtain⟨h1,h3,h4⟩:=HX.out
  have hkk:Keep (fun k=>k=w.heap.size\/zaB (w.heap.size+4) W k) W (W1.setCell ⟨w.heap.size,0,none⟩ (.slice va vn vc)):=(HK1.out.mono fun k _ h=>.inr h).setCell (p:=⟨w.heap.size,0,none⟩) (fun _=>.inl rfl) _
  refine⟨⟨⟨_,h1⟩,hkk⟩,⟨_,HB1.out.set _,?_⟩,hkk.boxed h3 (by rintro(e | ⟨e,_⟩)<;>omega),h4.trans (hkk.below h4.size fun k hk=>by rintro(e | ⟨e,_⟩)<;>omega)⟩
  rw [List.foldl_append]
  exact HIK.out _ _ _ _ HI1.out (hkx.mono fun k _ h=>.inl h)
 case hdone=>
  rintro W ⟨⟨u,h1,h2⟩,h3,h4⟩ hD
  obtain⟨ua,un,uc,rfl⟩:=HIS.out _ _ _ h2
  have hc:=h1.cell
  have HX:=Lib.hid (And.intro h2 h4)
  clear h1 h2 h3 h4
  gi_wp2
  refine⟨by simp,.inl ⟨_,_,rfl,run_takeDeferred hD,?_⟩⟩
  have hkD:Keep (fun k=>k=W0.heap.size) W (W.putObj W0.heap.size (.deferred none)):=(Keep.refl (fun k=>k=W0.heap.size) W).putObj (fun _=>rfl) _
  exact⟨_,results_tmp rfl _ _ _,_,rfl,HIK.out _ _ _ _ HX.out.1 (hkD.mono fun k _ h=>by omega),HX.out.2.trans (hkD.below HX.out.2.size fun k hk=>by omega)⟩
theorem X7 {α:Type} (gf:Nat) (lb:Array Value) (Bk Bi:Nat) (xs:List (Nat × Fv)) (w:World) (ad0:Option Addr) (c0':Nat) (eg:∀ args w,(callFunc gf args).run Tryz.prog w=.ok (.enter gf args) w)
 (hit:∀ W,Below w.heap.size w W->v7 Tryz.prog gf lb Y4 (fun _=>False) (PtF w.heap.size Bk Bi) xs W) (hBk:Bk<w.heap.size) (hBi:Bi<w.heap.size)
 (Inv:World->Value->α->Prop) (step:α->Nat × Fv->α) (a0:α) (hI0:∀ W,Below w.heap.size w W->Inv W (.slice ad0 0 c0') a0) (hIs:∀ W u a,Inv W u a->∃ ad n c,u=.slice ad n c)
 (hIk:∀ A B u a,Inv A u a->Keep (fun k=>k=w.heap.size\/k=w.heap.size+2\/k=w.heap.size+3) A B->Inv B u a)
 (hStep:∀ W u pre p,pre++[p] <+: xs->w.heap.size+4<=W.heap.size->Below w.heap.size w W->Inv W u (pre.foldl step a0)->Calls Tryz.prog 112 #[u,.int .i64 (p.1:Nat),.agg #[sv p.2.1,sv p.2.2]] W fun e W'=>
   ∃ u',e=.returned u'/\Inv W' u' (step (pre.foldl step a0) p)/\Keep (zaB (w.heap.size+4) W) W W') :
 Calls Tryz.prog 111 #[.func (.func gf) #[] lb,.slice ad0 0 c0',.func (.func 112) #[] #[]] w fun e w'=>∃ u,e=.returned u/\Inv w' u (xs.foldl step a0)/\Below w.heap.size w w':=by
 have HIT:=Lib.hid hit
 have HI0:=Lib.hid hI0
 have HIS:=Lib.hid hIs
 have HIK:=Lib.hid hIk
 have HST:=Lib.hid hStep
 clear hit hI0 hIs hIk hStep
 refine callsIn_wide.1 (callsIn_of_wp_marks (n:=9) Tryz.func111 rfl trivial ?_ rfl)
 simp only [Tryz.ntmps111,List.size_toArray,List.length_cons,List.length_nil,Nat.reduceAdd,Nat.reduceSub,Array.replicate_succ,Array.replicate_zero,List.push_toArray,List.append_toArray,List.nil_append,List.cons_append]
 gi_wp2
 obtain⟨W0,hW0⟩:∃ W0,((w.alloc (Obj.cells #[Value.slice ad0 0 c0'] 90)).alloc (Obj.cells #[Value.func (Fn.func 112) #[] #[]] 134))=W0:=⟨_,rfl⟩
 have hsz:W0.heap.size=w.heap.size+2:=by rw [<-hW0];simp
 have b0:Boxed W0 w.heap.size 90 (Value.slice ad0 0 c0'):=by rw [<-hW0];exact(Boxed.new w _ _).alloc _
 have b1:Boxed W0 (w.heap.size+1) 134 (Value.func (Fn.func 112) #[] #[]):=by rw [<-hW0];have:=Boxed.new (w.alloc (Obj.cells #[Value.slice ad0 0 c0'] 90)) 134 (Value.func (Fn.func 112) #[] #[]);rw [World.size_alloc] at this;exact this
 have hB0:Below w.heap.size w W0:=by rw [<-hW0];exact((Below.refl _ _).alloc (Nat.le_refl _) _).alloc (by simp) _
 try simp only [World.size_alloc]
 rw [hW0]
 clear hW0
 refine Xt (w:=W0) gf lb rfl eg Y4 (fun _=>rfl) (fun _=>False) (PtF w.heap.size Bk Bi) xs ?hit
  (SF w.heap.size 90) (fun A B h k hk hlt=>h.2.block k hlt (by rintro(e | ⟨e,_⟩)<;>omega)) (fun A B h=>h.pt hBk hBi (by decide) (by decide))
  ?hPt ?hPt0 ⟨id,id⟩
  (fun pre W=>(∃ u,Boxed W w.heap.size 90 u/\Inv W u (pre.foldl step a0))/\Boxed W (w.heap.size+1) 134 (Value.func (Fn.func 112) #[] #[])/\Below w.heap.size w W)
  (fun _ _ _=>False) ?hI (fun _ _ _ _ h _=>h) ⟨⟨_,b0,HI0.out _ hB0⟩,b1,hB0⟩
  (fun pre x a' W=>((∃ u,Boxed W w.heap.size 90 u/\Inv W u (pre.foldl step a0))/\Boxed W (w.heap.size+1) 134 (Value.func (Fn.func 112) #[] #[])/\Below w.heap.size w W) /\
    ∃ B8,W.heap[B8]? = some (.cells #[sv x.2.1,sv x.2.2] 34 (0,0))/\W0.heap.size+2<=B8 /\
    a'={ tmps:=#[Value.func (Fn.func gf) #[] lb,Value.slice ad0 0 c0',Value.func (Fn.func 112) #[] #[],undef,Value.pointer (some ⟨w.heap.size,0,none⟩),Value.pointer (some ⟨w.heap.size+1,0,none⟩),Value.slice none 0 0,.int .i64 (x.1:Nat),Value.pointer (some ⟨B8,0,none⟩),Value.func (Fn.func gf) #[] lb,.int .i64 (x.1:Nat),.agg #[sv x.2.1,sv x.2.2],undef,undef,undef,undef,undef,undef],defers:=[] })
  ?hAx ?hassign ?hbody ?hdone (fun _ _ _ _ h _=>h.elim)
 case hit=>
  intro W hk hWs
  exact HIT.out W (hB0.trans (hk.below (by omega) fun _ _=>id))
 case hPt=>
  rintro A B C ⟨h1,h2⟩ ⟨h3,h4⟩
  refine⟨Nat.le_trans h1 h3,fun k hk hc=>?_⟩
  have e1:=h2 k hk hc
  refine(h4 k (by omega) ?_).trans e1
  rcases hc with hc | hc | hc | ⟨cs,f,hc⟩
  ·exact .inl hc
  ·exact .inr (.inl hc)
  ·exact .inr (.inr (.inl hc))
  ·exact .inr (.inr (.inr ⟨cs,f,by rw [e1];exact hc⟩))
 case hPt0=>
  rintro A B hk ⟨o,ho⟩
  refine⟨hk.size,fun k hlt hc=>hk.block k hlt ?_⟩
  rintro rfl
  rcases hc with hc | hc | hc | ⟨cs,f,hc⟩
  ·omega
  ·omega
  ·omega
  ·rw [ho] at hc;cases hc
 case hI=>
  rintro pre A B ⟨⟨u,h1,h2⟩,h3,h4⟩ hk0
  have hk:Keep (fun k=>k=W0.heap.size\/k=W0.heap.size+1) A B:=hk0.mono fun _ _ h=>h.elim False.elim id
  exact⟨⟨u,hk.boxed h1 (by omega),HIK.out _ _ _ _ h2 (hk.mono fun k _ h=>by omega)⟩,hk.boxed h3 (by omega),h4.trans (hk.below h4.size fun k hk=>by omega)⟩
 case hAx=>
  rintro pre x a' A B ⟨⟨⟨u,h1,h2⟩,h3,h4⟩,B8,h5,h6,rfl⟩ hk
  exact⟨⟨⟨u,hk.boxed h1 (by omega),HIK.out _ _ _ _ h2 (hk.mono fun k _ h=>by omega)⟩,hk.boxed h3 (by omega),h4.trans (hk.below h4.size fun k hk=>by omega)⟩,B8,hk.obj h5 (by omega),h6,rfl⟩
 case hassign=>
  rintro l pre ⟨i,⟨⟨x0,x1,x2⟩,⟨y0,y1,y2⟩⟩⟩ W hpx hlt ⟨⟨u,h1,h2⟩,h3,h4⟩
  clear hpx
  dsimp only [Y4,sv]
  have HX:=Lib.hid (And.intro h1 (And.intro h2 (And.intro h3 h4)))
  clear h1 h2 h3 h4
  gi_wp2
  obtain⟨h1,h2,h3,h4⟩:=HX.out
  have hka:∀ o S,Keep S W (W.alloc o):=fun o S=>(Keep.refl _ _).alloc _
  refine⟨⟨⟨u,h1⟩,hka _ _⟩,⟨⟨u,(hka _ (fun _=>False)).boxed h1 id,HIK.out _ _ _ _ h2 (hka _ _)⟩,(hka _ (fun _=>False)).boxed h3 id,h4.alloc h4.size _⟩,W.heap.size,World.alloc_heap_new W _,by omega,rfl⟩
 case hbody=>
  rintro l pre ⟨i,⟨⟨x0,x1,x2⟩,⟨y0,y1,y2⟩⟩⟩ a' W hpx hlt ⟨⟨⟨u,h1,h2⟩,h3,h4⟩,B8,h5,h6,rfl⟩
  obtain⟨ua,un,uc,rfl⟩:=HIS.out _ _ _ h2
  have hst:=HST.out W _ pre _ hpx (by omega) h4 h2
  dsimp only [sv] at hst h5 ⊢
  have c0:=h1.cell
  have c1:=h3.cell
  have c2:W.cell? ⟨B8,0,none⟩=some (.slice x0 x1 x2):=by simp [World.cell?,h5]
  have c3:W.cell? ⟨B8,1,none⟩=some (.slice y0 y1 y2):=by simp [World.cell?,h5]
  have HS:=Lib.hid hst
  have HX:=Lib.hid (And.intro h1 (And.intro h3 h4))
  clear hst h1 h2 h3 h4 h5
  gi_wp2_with (refine⟨trivial,?_⟩;gi_at_call 112;refine(callsIn_wide.2 HS.out).mono ?_;rintro e W1 ⟨u',rfl,hi1,hk1⟩
               obtain⟨va,vn,vc,rfl⟩:=HIS.out _ _ _ hi1
               have h1:Boxed W1 w.heap.size 90 (.slice ua un uc):=hk1.boxed HX.out.1 (fun h=>by have:=h.1;omega)
               have d0:=h1.cell
               have d1:=h1.frozen
               have HI1:=Lib.hid hi1
               have HK1:=Lib.hid hk1
               have HB1:=Lib.hid h1
               clear hi1 hk1 h1)
  have hkx:Keep (fun k=>k=w.heap.size) W1 (W1.setCell ⟨w.heap.size,0,none⟩ (.slice va vn vc)):=(Keep.refl (fun k=>k=w.heap.size) W1).setCell (p:=⟨w.heap.size,0,none⟩) (fun _=>rfl) _
  obtain⟨h1,h3,h4⟩:=HX.out
  have hkk:Keep (fun k=>k=w.heap.size\/zaB (w.heap.size+4) W k) W (W1.setCell ⟨w.heap.size,0,none⟩ (.slice va vn vc)):=(HK1.out.mono fun k _ h=>.inr h).setCell (p:=⟨w.heap.size,0,none⟩) (fun _=>.inl rfl) _
  refine⟨⟨⟨_,h1⟩,hkk⟩,⟨_,HB1.out.set _,?_⟩,hkk.boxed h3 (by rintro(e | ⟨e,_⟩)<;>omega),h4.trans (hkk.below h4.size fun k hk=>by rintro(e | ⟨e,_⟩)<;>omega)⟩
  rw [List.foldl_append]
  exact HIK.out _ _ _ _ HI1.out (hkx.mono fun k _ h=>.inl h)
 case hdone=>
  rintro W ⟨⟨u,h1,h2⟩,h3,h4⟩ hD
  obtain⟨ua,un,uc,rfl⟩:=HIS.out _ _ _ h2
  have hc:=h1.cell
  have HX:=Lib.hid (And.intro h2 h4)
  clear h1 h2 h3 h4
  gi_wp2
  refine⟨by simp,.inl ⟨_,_,rfl,run_takeDeferred hD,?_⟩⟩
  have hkD:Keep (fun k=>k=W0.heap.size) W (W.putObj W0.heap.size (.deferred none)):=(Keep.refl (fun k=>k=W0.heap.size) W).putObj (fun _=>rfl) _
  exact⟨_,results_tmp rfl _ _ _,_,rfl,HIK.out _ _ _ _ HX.out.1 (hkD.mono fun k _ h=>by omega),HX.out.2.trans (hkD.below HX.out.2.size fun k hk=>by omega)⟩
attribute [local go_sem] Oper.semAt_some
theorem zex (a:Option Addr) (n c item:Nat) (w:World):Calls Tryz.prog 68 #[.slice a n c,.int .u64 (item:Nat)] w fun e w'=>e=.returned (.func (.func 115) #[] #[.pointer (some ⟨w.heap.size,0,none⟩),.pointer (some ⟨w.heap.size+1,0,none⟩)])/\w'=(w.alloc (.cells #[.slice a n c] 23)).alloc (.cells #[.int .u64 (item:Nat)] 24):=by
 go_enter Tryz.func68,Tryz.ntmps68
 go_wp2
 go_ret
 exact⟨rfl,rfl⟩
def SH (n:Nat) (A B:World):Prop:=(∃ v,Boxed A n 4 v)/\Keep (fun k=>k=n) A B
theorem SH.pt {n n0 Bk Bi:Nat} {A B:World} (h:SH n A B) (h0:n0<=n) (h1:Bk≠n) (h2:Bi≠n):PtF n0 Bk Bi A B:=by
 obtain⟨⟨v,hv⟩,hk⟩:=h
 refine⟨hk.size,fun k hlt hc=>hk.block k hlt ?_⟩
 rintro rfl
 rcases hc with hc | hc | hc | ⟨cs,f,hc⟩
 ·omega
 ·exact h1 hc.symm
 ·exact h2 hc.symm
 ·have hv':A.heap[k]? = some (.cells #[v] 4 (0,0)):=hv
  rw [hv'] at hc
  cases hc
def OwnI (base:Nat) (w:World) (v:Value) (xs:List Nat):Prop:=w.ownsRow base 3 1 v xs.length (xs.map fun x=>.int .i64 (x:Nat))
theorem OwnI.nil (base:Nat) (w:World):OwnI base w (.slice none 0 0) []:=World.ownsRow_nil _ _ _ _
theorem OwnI.keep {base:Nat} {S:Nat->Prop} {w w':World} {v:Value} {l:List Nat} (h:OwnI base w v l) (hb:Keep S w w') (hs:∀ g,base<=g->g<w.heap.size->¬ S g):OwnI base w' v l:=
 hb.ownsRow h fun g hg=>hs g (h.lt g hg).1 (h.lt g hg).2
theorem OwnI.shape {base:Nat} {w:World} {v:Value} {l:List Nat} (h:OwnI base w v l):∃ ad n c,v=.slice ad n c:=by
 rcases h.2 with⟨rfl,_⟩ | ⟨g,cap,cur,rfl,_⟩
 ·exact⟨_,_,_,rfl⟩
 ·exact⟨_,_,_,rfl⟩
theorem Tryz.infoInt:(Tryz.prog.info? 3).map (fun i=>(i.zero,i.size,i.bytes))=some (some (Value.int .i64 0),1,8):=by kernel_rfl
theorem JY (base:Nat) (W:World) (v:Value) (l:List Nat) (i:Nat) (x0 x1:Value) (hown:OwnI base W v l) (hbase:base<=W.heap.size) (hl:l.length<=1099511627776) :
 Calls Tryz.prog 112 #[v,.int .i64 (i:Nat),.agg #[x0,x1]] W fun e W'=>∃ v',e=.returned v'/\OwnI base W' v' (l++[i])/\Keep (fun k=>base<=k/\∃ cs f,W.heap[k]? = some (.cells cs 3 f)) W W':=by
 obtain⟨i0,hi0,hz0,hz1,hz2⟩:=info_parts Tryz.infoInt
 have HO:=Lib.hid hown
 obtain⟨ad,n,c,rfl⟩:=hown.shape
 clear hown
 go_enter Tryz.func112,Tryz.ntmps112
 have hk0:Keep (fun _=>False) W ((W.alloc (.cells #[x0,x1] 34)).alloc (.cells #[.int .i64 (i:Nat)] 3)):=((Keep.refl _ W).alloc _).alloc _
 have hnb:((W.alloc (.cells #[x0,x1] 34)).alloc (.cells #[.int .i64 (i:Nat)] 3)).heap[W.heap.size+1]? = some (.cells #[.int .i64 (i:Nat)] 3 (0,0)):=by
  have:=World.alloc_heap_new (W.alloc (.cells #[x0,x1] 34)) (.cells #[.int .i64 (i:Nat)] 3)
  rwa [World.size_alloc] at this
 have HO2:=Lib.hid (HO.out.keep hk0 fun _ _ _=>id)
 go_wp2_with (at_builtin;refine wpList_append_own_at _ rfl _ _ 90 rfl base 3 i0 (.int .i64 0) 1 8 Tryz.underlying90 hi0 hz0 hz1 hz2 rfl (by decide) _ _ _ rfl HO2.out ⟨W.heap.size+1,0,none⟩ 1 1 [.int .i64 (i:Nat)] rfl rfl (kw (cs:=#[.int .i64 (i:Nat)]) (t := 3) (fr:=(0,0)) hnb) (by simp [Value.oneCell']) (by unfold maxLen;omega) (by omega) (by simp;omega) ?_;intro v' w3 ho hgr _ _)
 go_ret
 refine⟨_,rfl,by unfold OwnI;simpa using ho,(((Keep.refl _ W).alloc _).alloc _).grown hgr fun k hk _=>?_⟩
 have hk2:(Value.slice ad n c).ownBlock=some k:=hk
 refine⟨(HO.out.lt k hk2).1,?_⟩
 rcases HO.out.2 with⟨e,_⟩ | ⟨g,cap,cur,e,_,hh,_⟩
 ·rw [e] at hk2;cases hk2
 ·rw [e] at hk2
  have:g=k:=by simpa [Value.ownBlock] using hk2
  subst this
  exact⟨_,_,hh⟩
end Go.Proofs.YtjimggclhlnfbaaGreatDoor
