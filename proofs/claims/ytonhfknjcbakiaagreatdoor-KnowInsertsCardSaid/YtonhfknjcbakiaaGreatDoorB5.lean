import Derived.Deep.LoopGhost
import Derived.Deep.DeepCutAuto
import Derived.Deep.CutBlock
import Derived.Test.YtonhfknjcbakiaaGreatDoorB3
import Derived.Test.YtonhfknjcbakiaaGreatDoorB4
set_option maxHeartbeats 16000000
set_option linter.unusedVariables false
set_option linter.unusedSimpArgs false
set_option maxRecDepth 100000
namespace Go.Proofs.YtonhfknjcbakiaaGreatDoor
open Go.RowKit
attribute [local go_sem] Oper.semAt_some
def zk0:Option Nat->Value
 | some y=>.tuple #[.int .u64 (y:Int),.bool true]
 | none=>.tuple #[.int .u64 0,.bool false]
theorem zdu {l:List Iv} {k x:Nat} (h:k<l.length):ye (l.drop k) x=if x<l[k].lo then some l[k].lo else if l[k].hi+1<M64/\x<l[k].hi+1 then some (l[k].hi+1) else ye (l.drop (k+1)) x:=by
 rw [List.drop_eq_getElem_cons h];rfl
theorem zdq (l:List Iv) (v:Value) (x:Nat) (w:World) (hl:RdR 0 w.heap.size w v l) :
 Calls Tryz.prog 195 #[v,.int .u64 x] w fun e I=>e=.returned (zk0 (ye l x))/\Below w.heap.size w I:=by
 obtain⟨a,P,rfl,T,L,O⟩:=hl
 unfold maxLen at L
 go_enter Tryz.func195,Tryz.ntmps195
 go_wp2_with fail
 go_loopw [12] (fun i wr=>∃ k:Nat,k<=l.length/\i=.int .i64 k/\Hid (ye l x=ye (l.drop k) x)/\Below w.heap.size w wr) (fun i _=>l.length - (intOf i).toNat)
 case atStart=>exact⟨0,Nat.zero_le _,rfl,rfl,Below.refl _ _⟩
 case round=>
  obtain⟨k,hk,rfl,u,B⟩:=hrel
  by_cases C:k<l.length
  ·obtain⟨b,G,rfl,_,hb,j⟩:=O (by intro e;subst e;simp at C)
   obtain⟨J,K,Q,S⟩:=j k C
   have hs:=zdu (x:=x) C
   obtain⟨lo,F⟩:∃ lo,lo=l[k].lo:=⟨_,rfl⟩
   obtain⟨hi,E⟩:∃ hi,hi=l[k].hi:=⟨_,rfl⟩
   rw [<-F] at J Q hs
   rw [<-E] at K S hs
   clear F E j O
   have V:wr.cell? ⟨b,G+k * 2,none⟩=some (.int .u64 lo):=(B.cell (p:=⟨b,_,none⟩) hb).trans J
   have X:wr.cell? ⟨b,G+k * 2+1,none⟩=some (.int .u64 hi):=(B.cell (p:=⟨b,_,none⟩) hb).trans K
   clear J K
   have A:=B.size
   by_cases H:x<lo
   ·have y:Hid (ye l x=some lo):=by rw [u.out,hs,if_pos H];rfl
    clear hs u
    go_wp2
    go_ret2
    rw [y.out]
    exact⟨rfl,B.alloc A _⟩
   ·by_cases N:hi+1<M64
    ·by_cases U:x<hi+1
     ·have y:Hid (ye l x=some (hi+1)):=by rw [u.out,hs,if_neg H,if_pos ⟨N,U⟩];rfl
      clear hs u
      go_wp2_with (go_at_call 196;with_reducible refine(kO _ _ N).mono ?_;rintro e I ⟨rfl,rfl⟩)
      go_ret2
      rw [y.out]
      exact⟨by simp [zk0],B.alloc A _⟩
     ·have y:Hid (ye l x=ye (l.drop (k+1)) x):=by rw [u.out,hs,if_neg H,if_neg (by omega)];rfl
      clear hs u
      go_wp2_with (go_at_call 196;with_reducible refine(kO _ _ N).mono ?_;rintro e I ⟨rfl,rfl⟩)
      go_roundw
      case rel=>exact⟨k+1,by omega,by go_num,y,B.alloc A _⟩
      case measure=>simp [intOf];omega
    ·have y:Hid (ye l x=ye (l.drop (k+1)) x):=by rw [u.out,hs,if_neg H,if_neg (by omega)];rfl
     clear hs u
     obtain rfl:hi=M64 - 1:=by omega
     go_wp2_with (go_at_call 196;with_reducible refine(V9 _).mono ?_;rintro e I ⟨rfl,rfl⟩)
     go_roundw
     case rel=>exact⟨k+1,by omega,by go_num,y,B.alloc A _⟩
     case measure=>simp [intOf];omega
  ·have M:k=l.length:=by omega
   have y:Hid (ye l x=none):=by rw [u.out,M,List.drop_length];rfl
   clear u
   go_wp2
   go_ret2
   rw [y.out]
   exact⟨rfl,B⟩
theorem Vs (l:List Iv) (v:Value) (x:Nat) (w:World) (hl:RdR 0 w.heap.size w v l) :
 Calls Tryz.prog 195 #[v,.int .u64 x] w fun e a=>∃(n:Nat) (m:Bool),e=.returned (.tuple #[.int .u64 n,.bool m])/\Hid (ye l x=if m=true then some n else none)/\Below w.heap.size w a:=
 (zdq l v x w hl).mono fun e a ⟨he,hb⟩=>by
   cases h:ye l x with
   | none=>exact⟨0,false,by rw [he,h];rfl,rfl,hb⟩
   | some y=>exact⟨y,true,by rw [he,h];rfl,rfl,hb⟩
theorem Kq (p q:Bool) (w:World):Calls Tryz.prog 115 #[.agg #[.bool p,.bool q]] w fun e a=>e=.returned (.bool (p || q))/\Below w.heap.size w a:=by
 cases p<;>cases q <;>
  (go_enter Tryz.func115,Tryz.ntmps115
   go_wp2
   go_ret
   exact⟨rfl,(Below.refl _ _).alloc (Nat.le_refl _) _⟩)
theorem zbP (p q:Bool) (w:World):Calls Tryz.prog 123 #[.agg #[.bool p,.bool q]] w fun e a=>e=.returned (.bool (p && q))/\Below w.heap.size w a:=by
 cases p<;>cases q <;>
  (go_enter Tryz.func123,Tryz.ntmps123
   go_wp2
   go_ret
   exact⟨rfl,(Below.refl _ _).alloc (Nat.le_refl _) _⟩)
theorem Kp (p q:Bool) (w:World):Calls Tryz.prog 169 #[.agg #[.bool p,.bool q]] w fun e a=>e=.returned (.bool (p && !q))/\Below w.heap.size w a:=by
 cases p<;>cases q <;>
  (go_enter Tryz.func169,Tryz.ntmps169
   go_wp2
   go_ret
   exact⟨rfl,(Below.refl _ _).alloc (Nat.le_refl _) _⟩)
theorem Xi (a j:Option Addr) (A B u y:Nat) (w:World):Calls Tryz.prog 161 #[.slice a A u,.slice j B y] w fun e C=>
 e=.returned (.func (.func 194) #[] #[.pointer (some ⟨w.heap.size,0,none⟩),.pointer (some ⟨w.heap.size+1,0,none⟩)]) /\
  C=(w.alloc (.cells #[.slice a A u] 30)).alloc (.cells #[.slice j B y] 30):=by
 go_enter Tryz.func161,Tryz.ntmps161
 go_wp2
 go_ret
 exact⟨rfl,rfl⟩
def Suf (a j:List Iv) (x:Nat):Prop:=∃ d,a=d++j/\∀ s ∈ d,s.hi<x
theorem Suf.refl (a:List Iv) (x:Nat):Suf a a x:=⟨[],rfl,fun _ h=>by cases h⟩
theorem Suf.mono {a j:List Iv} {x y:Nat} (h:Suf a j x) (A:x<=y):Suf a j y:=by
 obtain⟨d,u,w⟩:=h;exact⟨d,u,fun s hs=>by have:=w s hs;omega⟩
theorem Suf.drop {a j:List Iv} {s:Iv} {x:Nat} (h:Suf a (s::j) x) (hs:s.hi<x):Suf a j x:=by
 obtain⟨d,u,w⟩:=h
 exact⟨d++[s],by simp [u],fun t ht=>by simp at ht;rcases ht with ht | rfl;exact w t ht;exact hs⟩
theorem Suf.mem_eq {a j:List Iv} {x z:Nat} (h:Suf a j x) (hz:x<=z):mem a z=mem j z:=by
 obtain⟨d,rfl,u⟩:=h
 rw [yd]
 have:mem d z=false:=by
  cases e:mem d z with
  | false=>rfl
  | true=>obtain⟨s,hs,_,w⟩:=qf.1 e;have:=u s hs;omega
 rw [this,Bool.false_or]
theorem Suf.nrm {a j:List Iv} {x n:Nat} (u:NF n a) (h:Suf a j x):NF n j:=by
 obtain⟨d,rfl,w⟩:=h
 clear w
 induction d generalizing n with
 | nil=>exact u
 | cons s d ih=>exact ih u.tail
theorem Suf.nxt_eq {a j:List Iv} {x z n:Nat} (w:NF n a) (h:Suf a j x) (hz:x<=z):ye a z=ye j z:=by
 obtain⟨d,rfl,u⟩:=h
 induction d generalizing n with
 | nil=>rfl
 | cons s d ih=>
   rw [List.cons_append,zdt (by have:=u s (by simp);omega) w.2.1]
   exact ih (fun t ht=>u t (by simp [ht])) w.2.2.2
theorem Qg {a:List Iv} {s:Iv} {x n:Nat} (j:NF n (s::a)) (h:x<=s.hi):mem (s::a) x=decide (s.lo<=x):=by
 rw [zz,j.2.2.2.mem_lt (by omega)]
 simp [h]
def za1 (x:Iv × Bool × Bool):Array Value:=#[.agg #[.int .u64 x.1.lo,.int .u64 x.1.hi],.agg #[.bool x.2.1,.bool x.2.2]]
structure PInv (a b:List Iv) (Ba Bb n0:Nat) (w:World) (x:Nat) (a' b':List Iv) (va vb:Value):Prop where
 bxa:Boxed w Ba 30 va
 bxb:Boxed w Bb 30 vb
 ra:RdR 0 n0 w va a'
 rb:RdR 0 n0 w vb b'
 sa:Suf a a' x
 sb:Suf b b' x
theorem PInv.at {a b:List Iv} {j u n0:Nat} {S:Nat->Prop} {w H:World} {x y:Nat} {B C:List Iv} {F G:Value} (h:PInv a b j u n0 w x B C F G) (hk:Keep S w H) (I:n0<=w.heap.size) (hs:∀ k,k<n0\/k=j\/k=u->¬ S k) (E:x<=y) :
 PInv a b j u n0 H y B C F G:=
 ⟨hk.boxed h.bxa (hs _ (.inr (.inl rfl))),hk.boxed h.bxb (hs _ (.inr (.inr rfl))),h.ra.keep (Nat.le_refl _) (Nat.le_refl _) fun b _ A=>hk.block b (by omega) (hs b (.inl A)),
  h.rb.keep (Nat.le_refl _) (Nat.le_refl _) fun b _ A=>hk.block b (by omega) (hs b (.inl A)),h.sa.mono E,h.sb.mono E⟩
theorem PInv.setA {a b:List Iv} {u A y:Nat} {w:World} {x:Nat} {s:Iv} {B E:List Iv} {I j F:Value} (h:PInv a b u A y w x (s::B) E I F) (J:y<=u) (C:u≠A) (hs:s.hi<x) (H:RdR 0 y w j B) :
 PInv a b u A y (w.setCell ⟨u,0,none⟩ j) x B E j F:=
 ⟨h.bxa.set j,h.bxb.other C.symm j,H.keep (Nat.le_refl _) (Nat.le_refl _) fun b _ G=>Below.heap_setCell _ _ _ _ (by show b≠u;omega),
  h.rb.keep (Nat.le_refl _) (Nat.le_refl _) fun b _ G=>Below.heap_setCell _ _ _ _ (by show b≠u;omega),h.sa.drop hs,h.sb⟩
theorem PInv.setB {a b:List Iv} {A u y:Nat} {w:World} {x:Nat} {s:Iv} {E B:List Iv} {F I j:Value} (h:PInv a b A u y w x E (s::B) F I) (J:y<=u) (C:A≠u) (hs:s.hi<x) (H:RdR 0 y w j B) :
 PInv a b A u y (w.setCell ⟨u,0,none⟩ j) x E B F j:=
 ⟨h.bxa.other C j,h.bxb.set j,h.ra.keep (Nat.le_refl _) (Nat.le_refl _) fun b _ G=>Below.heap_setCell _ _ _ _ (by show b≠u;omega),
  H.keep (Nat.le_refl _) (Nat.le_refl _) fun b _ G=>Below.heap_setCell _ _ _ _ (by show b≠u;omega),h.sa,h.sb.drop hs⟩
def Fit (a:List Iv) (x:Nat):Prop:=∀ s r,a=s::r->x<=s.hi
theorem RdR.tail {hi:Nat} {w:World} {y:Option Addr} {n u:Nat} {s:Iv} {l:List Iv} (h:RdR 0 hi w (.slice y n u) (s::l)) :
 ∃ b j,y=some ⟨b,j,none⟩/\n=l.length+1/\b<hi/\rdIv w b j s/\l.length+1<=u/\u<=maxLen/\RdR 0 hi w (.slice (if u=1 then some ⟨b,j,none⟩ else some ⟨b,j+2,none⟩) l.length (u - 1)) l:=by
 obtain⟨a,c,G,A,E,F⟩:=h
 obtain⟨rfl,rfl,rfl⟩:y=a/\n=(s::l).length/\u=c:=by simpa using G
 obtain⟨b,j,rfl,_,hb,C⟩:=F (by simp)
 refine⟨b,j,rfl,rfl,hb,(by have:=C 0 (by simp);rwa [Nat.zero_mul,Nat.add_zero] at this),by simpa using A,E,?_⟩
 refine⟨_,_,rfl,by simp at A;omega,by omega,fun B=>?_⟩
 have hl:0<l.length:=List.length_pos_iff.2 B
 refine⟨b,j+2,by rw [if_neg (by simp at A;omega)],Nat.zero_le _,hb,fun i hi=>?_⟩
 have:=C (i+1) (by simp;omega)
 rw [show j+(i+1) * 2=j+2+i * 2 from by omega] at this
 simpa using this
theorem J7 (a b:List Iv) (bu bw:Value) (U V n0:Nat) (W0:World) (ha:Nrm a) (hb:Nrm b) (aO:U≠V) (bg:n0<=U) (bh:n0<=V)
 (bf:PInv a b U V n0 W0 0 a b bu bw) :
 zbY Tryz.prog 194 #[.pointer (some ⟨U,0,none⟩),.pointer (some ⟨V,0,none⟩)] za1 (fun k=>k=U\/k=V) (fun k=>k<n0\/k=U\/k=V) (yO a b) W0:=by
 intro l J Jx hJ bj hY h0
 refine callsIn_wide.2 ?_
 show Calls Tryz.prog 194 #[.func (.yield l) #[] #[],.pointer (some ⟨U,0,none⟩),.pointer (some ⟨V,0,none⟩)] W0 _
 have HJ:=Lib.hid hJ
 have bF:=Lib.hid bj
 have HY:=Lib.hid hY
 clear hJ bj hY
 go_enter Tryz.func194,Tryz.ntmps194
 go_wp2_with fail
 go_loopg [4] M64 (fun g x wr=>∃(y f:Nat) (a' b':List Iv) (va vb:Value) (pre:List (Iv × Bool × Bool)),x=.int .u64 y/\y<M64/\g=M64 - y/\PInv a b U V n0 wr y a' b' va vb/\Hid (yO a b=pre++QU a b f y)/\M64<=f+y/\J pre wr)
 case atStart=>exact⟨0,M64,a,b,bu,bw,[],rfl,xM,rfl,bf,rfl,by omega,h0⟩
 case round=>
  obtain⟨y,f,a',b',va,vb,pre,rfl,hx,rfl,A,X,hf,j⟩:=hrel
  clear h0 bf
  go_upto_block 2 with fail
  go_cut [] (fun wc=>∃ a2 P,PInv a b U V n0 wc y a2 b' P vb/\Fit a2 y/\J pre wc)
  case first=>
   go_wp2_with fail
   go_loopg [] a'.length (fun g wl=>∃(a2:List Iv) (P:Value),g=a2.length/\PInv a b U V n0 wl y a2 b' P vb/\J pre wl)
   case atStart=>exact⟨a',va,rfl,A,j⟩
   case round=>
    clear A j
    obtain⟨a2,P,rfl,A,j⟩:=hrel
    have bA:=A.bxa.cell
    have bC:=A.bxa.frozen
    have G:=A.ra
    cases a2 with
    | nil=>
      obtain⟨ad,az,rfl,_⟩:=G
      go_wp2
      go_meet
      exact⟨[],_,A,(fun _ _ e=>by cases e),j⟩
    | cons s r=>
      have aH:=G
      obtain⟨ad,az,rfl,_⟩:=aH
      obtain⟨bb,bD,rfl,_,bz,hs,bm,aV,aG⟩:=G.tail
      obtain⟨c1,c2,s1,s2⟩:=hs
      have HT:=Lib.hid aG
      clear G aG
      unfold maxLen at aV
      by_cases aD:s.hi<y
      ·by_cases h1:az=1
       ·subst h1
        obtain rfl:r=[]:=List.eq_nil_of_length_eq_zero (by omega)
        go_wp2
        go_roundg 0
        case measure=>simp
        case rel=>exact⟨[],_,rfl,A.setA bg aO aD (by have:=HT.out;simpa using this),HJ.out _ _ _ j ((Keep.refl _ _).setCell (p:=⟨U,0,none⟩) (fun _=>.inl rfl) _)⟩
       ·go_wp2
        go_roundg r.length
        case measure=>simp
        case rel=>exact⟨r,_,rfl,A.setA bg aO aD (by have:=HT.out;rw [if_neg h1] at this;simpa using this),HJ.out _ _ _ j ((Keep.refl _ _).setCell (p:=⟨U,0,none⟩) (fun _=>.inl rfl) _)⟩
      ·go_wp2
       go_meet
       exact⟨s::r,_,A,(fun _ _ e=>by cases e;omega),j⟩
  case rest=>
   clear A j
   obtain⟨a2,P,A,T,j⟩:=hcut
   go_upto_block 4 with fail
   go_cut [] (fun wc=>∃ b2 Z,PInv a b U V n0 wc y a2 b2 P Z/\Fit b2 y/\J pre wc)
   case first=>
    go_wp2_with fail
    go_loopg [] b'.length (fun g wl=>∃(b2:List Iv) (Z:Value),g=b2.length/\PInv a b U V n0 wl y a2 b2 P Z/\J pre wl)
    case atStart=>exact⟨b',vb,rfl,A,j⟩
    case round=>
     clear A j
     obtain⟨b2,Z,rfl,A,j⟩:=hrel
     have bA:=A.bxb.cell
     have bC:=A.bxb.frozen
     have G:=A.rb
     cases b2 with
     | nil=>
       obtain⟨ad,az,rfl,_⟩:=G
       go_wp2
       go_meet
       exact⟨[],_,A,(fun _ _ e=>by cases e),j⟩
     | cons s r=>
       have aH:=G
       obtain⟨ad,az,rfl,_⟩:=aH
       obtain⟨bb,bD,rfl,_,bz,hs,bm,aV,aG⟩:=G.tail
       obtain⟨c1,c2,s1,s2⟩:=hs
       have HT:=Lib.hid aG
       clear G aG
       unfold maxLen at aV
       by_cases aD:s.hi<y
       ·by_cases h1:az=1
        ·subst h1
         obtain rfl:r=[]:=List.eq_nil_of_length_eq_zero (by omega)
         go_wp2
         go_roundg 0
         case measure=>simp
         case rel=>exact⟨[],_,rfl,A.setB bh aO aD (by have:=HT.out;simpa using this),HJ.out _ _ _ j ((Keep.refl _ _).setCell (p:=⟨V,0,none⟩) (fun _=>.inr rfl) _)⟩
        ·go_wp2
         go_roundg r.length
         case measure=>simp
         case rel=>exact⟨r,_,rfl,A.setB bh aO aD (by have:=HT.out;rw [if_neg h1] at this;simpa using this),HJ.out _ _ _ j ((Keep.refl _ _).setCell (p:=⟨V,0,none⟩) (fun _=>.inr rfl) _)⟩
       ·go_wp2
        go_meet
        exact⟨s::r,_,A,(fun _ _ e=>by cases e;omega),j⟩
   case rest=>
    clear A j
    obtain⟨b2,Z,A,M,j⟩:=hcut
    go_upto_region 5 with fail
    go_cut [5] (fun s5 wd=>∃ Bs,s5=.pointer (some ⟨Bs,0,none⟩)/\PInv a b U V n0 wd y a2 b2 P Z/\J pre wd/\wd.cell? ⟨Bs,0,none⟩=some (.bool (mem a y))/\wd.cell? ⟨Bs,1,none⟩=some (.bool (mem b y))/\n0<=wd.heap.size)
    case first=>
     have aL:=A.sa.mem_eq (Nat.le_refl _)
     have ae:=A.sb.mem_eq (Nat.le_refl _)
     have aW:=A.sa.nrm ha
     have aw:=A.sb.nrm hb
     have ca:=A.bxa.cell
     have cb:=A.bxb.cell
     have aq:=A.bxa.lt
     have ar:=A.bxb.lt
     have G:=A.ra
     have af:=A.rb
     cases a2 with
     | nil=>
       obtain⟨ad,ab,rfl,_⟩:=G
       have ax:=Lib.hid aL
       clear aL aW
       cases b2 with
       | nil=>
         obtain⟨bd,H,rfl,_⟩:=af
         have ag:=Lib.hid ae
         clear ae aw
         have O:n0<=wc.heap.size:=by omega
         have HP:=Lib.hid (And.intro A (And.intro j (And.intro T M)))
         clear A T M aq ar hf
         refine Kg (Sw:=qe) 24 99 (fun w'=>w'.cell? ⟨U,0,none⟩=some (.slice ad 0 ab)/\w'.cell? ⟨V,0,none⟩=some (.slice bd 0 H)) (by kernel_rfl) (by kernel_rfl) rfl ⟨ca,cb⟩ ?_
         simp only [List.take_succ_cons,List.take_zero]
         repeat (first
          | (refine zev ?_ rfl (fun a w C _ Y=>?_) ?_;rotate_left;(simp [Rds,zA,lk,Op.operands,Call.operands,RdEq] at Y;go_simp;with_reducible rfl);dsimp only [List.nil_append,List.cons_append])
          | (refine jI rfl ?_ ?_;(first | exact .inl (zG rfl rfl) | exact .inr (zG rfl rfl));dsimp only [List.nil_append,List.cons_append])
          | (refine V6 rfl ?_ ?_ (fun a w C _ Y=>?_) ?_;exact(zG rfl rfl);rotate_left;(simp [Rds,zA,lk,Op.operands,Call.operands,RdEq] at Y;go_simp;with_reducible rfl);dsimp only [List.nil_append,List.cons_append]))
         refine V7 (fun u w=>∃ B,u=.pointer (some ⟨B,0,none⟩)/\w.heap[B]? = some (.cells #[.bool false,.bool false] 139 (0,0))/\wc.heap.size<=B) (fun u w w' ⟨B,h1,h2,h3⟩ hk=>⟨B,h1,hk.obj h2 id,h3⟩) rfl ?_ ?_
         ·intro a w C hk Y K hK
          have HK:=Lib.hid hK
          clear hK
          go_simp
          exact HK.out _ _ ((Keep.refl _ _).alloc _) ⟨((Keep.refl qe w).alloc _).cell_some C.1 id,((Keep.refl qe w).alloc _).cell_some C.2 id⟩ ⟨w.heap.size,rfl,World.alloc_heap_new w _,hk.size⟩
         dsimp only [List.nil_append,List.cons_append]
         intro w C hk
         simp only [finG,forall_eq]
         rintro u ⟨B,rfl,I,L⟩
         simp only [List.drop_succ_cons,List.drop_zero]
         have c0:w.cell? ⟨B,0,none⟩=some (.bool false):=by simp [World.cell?,I]
         have c1:w.cell? ⟨B,1,none⟩=some (.bool false):=by simp [World.cell?,I]
         have f0:w.frozen? ⟨B,0,none⟩=false:=by simp [World.frozen?,I]
         have f1:w.frozen? ⟨B,1,none⟩=false:=by simp [World.frozen?,I]
         clear I C
         simp only [Act.put,List.setIfInBounds_toArray,List.set_cons_succ,List.set_cons_zero]
         go_wp2
         go_meet
         have F:∀ u v,Keep qe wc ((w.setCell ⟨B,0,none⟩ u).setCell ⟨B,1,none⟩ v):=fun u v=>((((Keep.refl qe wc).drew).trans hk).setCell (p:=⟨B,0,none⟩) (fun h=>by exact absurd h (by simpa using L)) _).setCell (p:=⟨B,1,none⟩) (fun h=>by exact absurd h (by simpa using L)) _
         exact⟨B,rfl,HP.out.1.at (F _ _) O (fun _ _=>id) (Nat.le_refl _),HJ.out _ _ _ HP.out.2.1 ((F _ _).mono fun _ _ h=>h.elim),by rw [ax.out];go_simp,by rw [ag.out];go_simp,Nat.le_trans O (F _ _).size⟩
       | cons t r2=>
         have bc:=af
         obtain⟨bd,H,rfl,_⟩:=bc
         obtain⟨bb,ob,rfl,_,_,aF,aU,aB,_⟩:=af.tail
         have ag:=Lib.hid (ae.trans (Qg aw (M _ _ rfl)))
         have ct:=aF.1
         unfold maxLen at aB
         clear ae aw af aF
         have O:n0<=wc.heap.size:=by omega
         have HP:=Lib.hid (And.intro A (And.intro j (And.intro T M)))
         clear A T M aq ar hf
         refine Kg (Sw:=qe) 24 99 (fun w'=>w'.cell? ⟨U,0,none⟩=some (.slice ad 0 ab)/\w'.cell? ⟨V,0,none⟩=some (.slice (some ⟨bb,ob,none⟩) (r2.length+1) H)/\w'.cell? ⟨bb,ob,none⟩=some (.int .u64 t.lo)) (by kernel_rfl) (by kernel_rfl) rfl ⟨ca,cb,ct⟩ ?_
         simp only [List.take_succ_cons,List.take_zero]
         repeat (first
          | (refine zev ?_ rfl (fun a w C _ Y=>?_) ?_;rotate_left;(simp [Rds,zA,lk,Op.operands,Call.operands,RdEq] at Y;go_simp;with_reducible rfl);dsimp only [List.nil_append,List.cons_append])
          | (refine jI rfl ?_ ?_;(first | exact .inl (zG rfl rfl) | exact .inr (zG rfl rfl));dsimp only [List.nil_append,List.cons_append])
          | (refine V6 rfl ?_ ?_ (fun a w C _ Y=>?_) ?_;exact(zG rfl rfl);rotate_left;(simp [Rds,zA,lk,Op.operands,Call.operands,RdEq] at Y;go_simp;with_reducible rfl);dsimp only [List.nil_append,List.cons_append]))
         refine V7 (fun u w=>∃ B,u=.pointer (some ⟨B,0,none⟩)/\w.heap[B]? = some (.cells #[.bool false,.bool false] 139 (0,0))/\wc.heap.size<=B) (fun u w w' ⟨B,h1,h2,h3⟩ hk=>⟨B,h1,hk.obj h2 id,h3⟩) rfl ?_ ?_
         ·intro a w C hk Y K hK
          have HK:=Lib.hid hK
          clear hK
          go_simp
          exact HK.out _ _ ((Keep.refl _ _).alloc _) ⟨((Keep.refl qe w).alloc _).cell_some C.1 id,((Keep.refl qe w).alloc _).cell_some C.2.1 id,((Keep.refl qe w).alloc _).cell_some C.2.2 id⟩ ⟨w.heap.size,rfl,World.alloc_heap_new w _,hk.size⟩
         dsimp only [List.nil_append,List.cons_append]
         intro w C hk
         simp only [finG,forall_eq]
         rintro u ⟨B,rfl,I,L⟩
         simp only [List.drop_succ_cons,List.drop_zero]
         have c0:w.cell? ⟨B,0,none⟩=some (.bool false):=by simp [World.cell?,I]
         have c1:w.cell? ⟨B,1,none⟩=some (.bool false):=by simp [World.cell?,I]
         have f0:w.frozen? ⟨B,0,none⟩=false:=by simp [World.frozen?,I]
         have f1:w.frozen? ⟨B,1,none⟩=false:=by simp [World.frozen?,I]
         clear I C
         simp only [Act.put,List.setIfInBounds_toArray,List.set_cons_succ,List.set_cons_zero]
         go_wp2
         go_meet
         have F:∀ u v,Keep qe wc ((w.setCell ⟨B,0,none⟩ u).setCell ⟨B,1,none⟩ v):=fun u v=>((((Keep.refl qe wc).drew).trans hk).setCell (p:=⟨B,0,none⟩) (fun h=>by exact absurd h (by simpa using L)) _).setCell (p:=⟨B,1,none⟩) (fun h=>by exact absurd h (by simpa using L)) _
         exact⟨B,rfl,HP.out.1.at (F _ _) O (fun _ _=>id) (Nat.le_refl _),HJ.out _ _ _ HP.out.2.1 ((F _ _).mono fun _ _ h=>h.elim),by rw [ax.out];go_simp,by rw [ag.out];go_simp,Nat.le_trans O (F _ _).size⟩
     | cons s r1=>
       have aH:=G
       obtain⟨ad,ab,rfl,_⟩:=aH
       obtain⟨ba,oa,rfl,_,_,bt,bB,bn,_⟩:=G.tail
       have ax:=Lib.hid (aL.trans (Qg aW (T _ _ rfl)))
       have cs:=bt.1
       unfold maxLen at bn
       clear aL aW G bt
       cases b2 with
       | nil=>
         obtain⟨bd,H,rfl,_⟩:=af
         have ag:=Lib.hid ae
         clear ae aw
         have O:n0<=wc.heap.size:=by omega
         have HP:=Lib.hid (And.intro A (And.intro j (And.intro T M)))
         clear A T M aq ar hf
         refine Kg (Sw:=qe) 24 99 (fun w'=>w'.cell? ⟨U,0,none⟩=some (.slice (some ⟨ba,oa,none⟩) (r1.length+1) ab)/\w'.cell? ⟨V,0,none⟩=some (.slice bd 0 H)/\w'.cell? ⟨ba,oa,none⟩=some (.int .u64 s.lo)) (by kernel_rfl) (by kernel_rfl) rfl ⟨ca,cb,cs⟩ ?_
         simp only [List.take_succ_cons,List.take_zero]
         repeat (first
          | (refine zev ?_ rfl (fun a w C _ Y=>?_) ?_;rotate_left;(simp [Rds,zA,lk,Op.operands,Call.operands,RdEq] at Y;go_simp;with_reducible rfl);dsimp only [List.nil_append,List.cons_append])
          | (refine jI rfl ?_ ?_;(first | exact .inl (zG rfl rfl) | exact .inr (zG rfl rfl));dsimp only [List.nil_append,List.cons_append])
          | (refine V6 rfl ?_ ?_ (fun a w C _ Y=>?_) ?_;exact(zG rfl rfl);rotate_left;(simp [Rds,zA,lk,Op.operands,Call.operands,RdEq] at Y;go_simp;with_reducible rfl);dsimp only [List.nil_append,List.cons_append]))
         refine V7 (fun u w=>∃ B,u=.pointer (some ⟨B,0,none⟩)/\w.heap[B]? = some (.cells #[.bool false,.bool false] 139 (0,0))/\wc.heap.size<=B) (fun u w w' ⟨B,h1,h2,h3⟩ hk=>⟨B,h1,hk.obj h2 id,h3⟩) rfl ?_ ?_
         ·intro a w C hk Y K hK
          have HK:=Lib.hid hK
          clear hK
          go_simp
          exact HK.out _ _ ((Keep.refl _ _).alloc _) ⟨((Keep.refl qe w).alloc _).cell_some C.1 id,((Keep.refl qe w).alloc _).cell_some C.2.1 id,((Keep.refl qe w).alloc _).cell_some C.2.2 id⟩ ⟨w.heap.size,rfl,World.alloc_heap_new w _,hk.size⟩
         dsimp only [List.nil_append,List.cons_append]
         intro w C hk
         simp only [finG,forall_eq]
         rintro u ⟨B,rfl,I,L⟩
         simp only [List.drop_succ_cons,List.drop_zero]
         have c0:w.cell? ⟨B,0,none⟩=some (.bool false):=by simp [World.cell?,I]
         have c1:w.cell? ⟨B,1,none⟩=some (.bool false):=by simp [World.cell?,I]
         have f0:w.frozen? ⟨B,0,none⟩=false:=by simp [World.frozen?,I]
         have f1:w.frozen? ⟨B,1,none⟩=false:=by simp [World.frozen?,I]
         clear I C
         simp only [Act.put,List.setIfInBounds_toArray,List.set_cons_succ,List.set_cons_zero]
         go_wp2
         go_meet
         have F:∀ u v,Keep qe wc ((w.setCell ⟨B,0,none⟩ u).setCell ⟨B,1,none⟩ v):=fun u v=>((((Keep.refl qe wc).drew).trans hk).setCell (p:=⟨B,0,none⟩) (fun h=>by exact absurd h (by simpa using L)) _).setCell (p:=⟨B,1,none⟩) (fun h=>by exact absurd h (by simpa using L)) _
         exact⟨B,rfl,HP.out.1.at (F _ _) O (fun _ _=>id) (Nat.le_refl _),HJ.out _ _ _ HP.out.2.1 ((F _ _).mono fun _ _ h=>h.elim),by rw [ax.out];go_simp,by rw [ag.out];go_simp,Nat.le_trans O (F _ _).size⟩
       | cons t r2=>
         have bc:=af
         obtain⟨bd,H,rfl,_⟩:=bc
         obtain⟨bb,ob,rfl,_,_,aF,aU,aB,_⟩:=af.tail
         have ag:=Lib.hid (ae.trans (Qg aw (M _ _ rfl)))
         have ct:=aF.1
         unfold maxLen at aB
         clear ae aw af aF
         have O:n0<=wc.heap.size:=by omega
         have HP:=Lib.hid (And.intro A (And.intro j (And.intro T M)))
         clear A T M aq ar hf
         refine Kg (Sw:=qe) 24 99 (fun w'=>w'.cell? ⟨U,0,none⟩=some (.slice (some ⟨ba,oa,none⟩) (r1.length+1) ab)/\w'.cell? ⟨V,0,none⟩=some (.slice (some ⟨bb,ob,none⟩) (r2.length+1) H)/\w'.cell? ⟨ba,oa,none⟩=some (.int .u64 s.lo)/\w'.cell? ⟨bb,ob,none⟩=some (.int .u64 t.lo)) (by kernel_rfl) (by kernel_rfl) rfl ⟨ca,cb,cs,ct⟩ ?_
         simp only [List.take_succ_cons,List.take_zero]
         repeat (first
          | (refine zev ?_ rfl (fun a w C _ Y=>?_) ?_;rotate_left;(simp [Rds,zA,lk,Op.operands,Call.operands,RdEq] at Y;go_simp;with_reducible rfl);dsimp only [List.nil_append,List.cons_append])
          | (refine jI rfl ?_ ?_;(first | exact .inl (zG rfl rfl) | exact .inr (zG rfl rfl));dsimp only [List.nil_append,List.cons_append])
          | (refine V6 rfl ?_ ?_ (fun a w C _ Y=>?_) ?_;exact(zG rfl rfl);rotate_left;(simp [Rds,zA,lk,Op.operands,Call.operands,RdEq] at Y;go_simp;with_reducible rfl);dsimp only [List.nil_append,List.cons_append]))
         refine V7 (fun u w=>∃ B,u=.pointer (some ⟨B,0,none⟩)/\w.heap[B]? = some (.cells #[.bool false,.bool false] 139 (0,0))/\wc.heap.size<=B) (fun u w w' ⟨B,h1,h2,h3⟩ hk=>⟨B,h1,hk.obj h2 id,h3⟩) rfl ?_ ?_
         ·intro a w C hk Y K hK
          have HK:=Lib.hid hK
          clear hK
          go_simp
          exact HK.out _ _ ((Keep.refl _ _).alloc _) ⟨((Keep.refl qe w).alloc _).cell_some C.1 id,((Keep.refl qe w).alloc _).cell_some C.2.1 id,((Keep.refl qe w).alloc _).cell_some C.2.2.1 id,((Keep.refl qe w).alloc _).cell_some C.2.2.2 id⟩ ⟨w.heap.size,rfl,World.alloc_heap_new w _,hk.size⟩
         dsimp only [List.nil_append,List.cons_append]
         intro w C hk
         simp only [finG,forall_eq]
         rintro u ⟨B,rfl,I,L⟩
         simp only [List.drop_succ_cons,List.drop_zero]
         have c0:w.cell? ⟨B,0,none⟩=some (.bool false):=by simp [World.cell?,I]
         have c1:w.cell? ⟨B,1,none⟩=some (.bool false):=by simp [World.cell?,I]
         have f0:w.frozen? ⟨B,0,none⟩=false:=by simp [World.frozen?,I]
         have f1:w.frozen? ⟨B,1,none⟩=false:=by simp [World.frozen?,I]
         clear I C
         simp only [Act.put,List.setIfInBounds_toArray,List.set_cons_succ,List.set_cons_zero]
         go_wp2
         go_meet
         have F:∀ u v,Keep qe wc ((w.setCell ⟨B,0,none⟩ u).setCell ⟨B,1,none⟩ v):=fun u v=>((((Keep.refl qe wc).drew).trans hk).setCell (p:=⟨B,0,none⟩) (fun h=>by exact absurd h (by simpa using L)) _).setCell (p:=⟨B,1,none⟩) (fun h=>by exact absurd h (by simpa using L)) _
         exact⟨B,rfl,HP.out.1.at (F _ _) O (fun _ _=>id) (Nat.le_refl _),HJ.out _ _ _ HP.out.2.1 ((F _ _).mono fun _ _ h=>h.elim),by rw [ax.out];go_simp,by rw [ag.out];go_simp,Nat.le_trans O (F _ _).size⟩
    case rest=>
     clear A j
     obtain⟨Bs,rfl,A,j,am,aE,aM⟩:=hcut
     have bq:ye a y=ye a2 y:=A.sa.nxt_eq ha (Nat.le_refl _)
     have br:ye b y=ye b2 y:=A.sb.nxt_eq hb (Nat.le_refl _)
     have ah:=Lib.hid bq
     have ai:=Lib.hid br
     clear bq br T M
     obtain⟨pa,aY⟩:∃ p,mem a y=p:=⟨_,rfl⟩
     obtain⟨pb,aZ⟩:∃ p,mem b y=p:=⟨_,rfl⟩
     rw [aY] at am
     rw [aZ] at aE
     have aR:=Lib.hid aY
     have aS:=Lib.hid aZ
     clear aY aZ
     have ca:=A.bxa.cell
     have bG:=A.bxb.lt
     have aC:Bs<wc.heap.size:=World.block_lt_of_cell? wc _ am
     go_wp2_with fail
     refine(Vs a2 P y _ (A.ra.keep (Nat.le_refl _) aM fun _ _ _=>rfl)).mono ?_
     rintro e w1 ⟨n1,m1,rfl,aj,au⟩
     clear ca
     have aJ:=A.at (S:=qe) (Keep.of_below' au (Nat.le_refl _)) aM (fun _ _=>id) (Nat.le_refl _)
     have bi:=HJ.out _ _ _ j (Keep.of_below' au (Nat.le_refl _))
     have am:=(au.cell (p:=⟨Bs,0,none⟩) aC).trans am
     have aE:=(au.cell (p:=⟨Bs,1,none⟩) aC).trans aE
     have aN:n0<=w1.heap.size:=Nat.le_trans aM au.size
     have aC:=World.block_lt_of_cell? w1 _ am
     clear A j au aM
     have cb:=aJ.bxb.cell
     go_wp2_with fail
     refine(Vs b2 Z y _ (aJ.rb.keep (Nat.le_refl _) aN fun _ _ _=>rfl)).mono ?_
     rintro e w2 ⟨n2,m2,rfl,ak,av⟩
     clear cb
     have bl:=aJ.at (S:=qe) (Keep.of_below' av (Nat.le_refl _)) aN (fun _ _=>id) (Nat.le_refl _)
     have aT:=HJ.out _ _ _ bi (Keep.of_below' av (Nat.le_refl _))
     have am:=(av.cell (p:=⟨Bs,0,none⟩) aC).trans am
     have aE:=(av.cell (p:=⟨Bs,1,none⟩) aC).trans aE
     have bp:n0<=w2.heap.size:=Nat.le_trans aN av.size
     clear aJ bi av aN
     go_upto_region 8 with fail
     go_cut [81] (fun bE wx=>∃ c:Bool,bE=.bool c/\wx=w2/\Hid (c=(m2 && (!m1 || decide (n2<n1)))))
     case first=>
      cases m2
      ·go_wp2_with fail
       go_meet
       exact⟨false,rfl,rfl,rfl⟩
      ·cases m1
       ·go_wp2_with fail
        go_meet
        exact⟨true,rfl,rfl,rfl⟩
       ·go_wp2_with fail
        go_meet
        exact⟨_,rfl,rfl,by simp [Hid]⟩
     case rest=>
      obtain⟨c,rfl,rfl,C⟩:=hcut
      cases c with
      | true=>
        have hm:m2=true/\kv (ye a y) (ye b y)=some n2:=by
         have:=C.out
         rw [ah.out,ai.out,aj.out,ak.out]
         cases m2<;>cases m1<;>simp [kv] at this ⊢
         omega
        obtain⟨rfl,N⟩:=hm
        have N:=Lib.hid N
        have aX:Hid (ye b y=some n2):=by show _=_;rw [ai.out,ak.out];rfl
        clear C aj ak ah ai
        have aI:y<n2/\n2<M64:=by
         have h:=aX.out
         exact⟨xr h,vJ hb h⟩
        obtain⟨Q,rfl⟩:∃ Q,f=Q+1:=⟨f - 1,by omega⟩
        have E:Hid (QU a b (Q+1) y=(⟨y,n2 - 1⟩,pa,pb)::QU a b Q n2):=by
         show QU a b (Q+1) y=_
         conv=>lhs;unfold QU
         rw [N.out,aR.out,aS.out]
        obtain⟨fn,aQ,ao,aP,hy,hR⟩:=HY.out pre (⟨y,n2 - 1⟩,pa,pb) wc aT ⟨QU a b Q n2,by rw [X.out,E.out];simp⟩
        dsimp only [za1] at hy
        have be:IntKind.u64.wrap ((n2:Int) - 1)=((n2 - 1:Nat):Int):=Zj (by omega) aI.2
        obtain⟨y1,an⟩:∃ y1,y1=n2 - 1:=⟨_,rfl⟩
        rw [<-an] at hy be hR
        have ay:=Lib.hid an
        clear an
        go_upto_region 13 with fail
        refine(wpIn_wide (n:=8)).1 ?_
        gi_wp2
        refine hR.mono ?_
        rintro e w3 (⟨rfl,aA,aK⟩ | ⟨rfl,ac⟩)
        ·gi_wp2
         go_wp2
         go_roundg (M64 - n2)
         case measure=>omega
         case rel=>exact⟨n2,Q,a2,b2,P,Z,pre++[(⟨y,y1⟩,pa,pb)],rfl,aI.2,rfl,bl.at aK bp (fun k hk h=>h hk) (by omega),by show yO a b=_;rw [X.out,E.out,ay.out];simp,by omega,aA⟩
        ·gi_wp2
         go_wp2
         refine bodyPost_ret (results_none rfl _ _ _) rfl ?_
         exact⟨⟨_,rfl⟩,.inr ⟨pre++[(⟨y,y1⟩,pa,pb)],⟨QU a b Q n2,by rw [X.out,E.out,ay.out];simp⟩,ac⟩⟩
      | false=>
        cases m1 with
        | true=>
          have N:Hid (kv (ye a y) (ye b y)=some n1):=by
           have:=C.out
           show _=_
           rw [ah.out,ai.out,aj.out,ak.out]
           cases m2<;>simp [kv] at this ⊢
           omega
          have aX:Hid (ye a y=some n1):=by show _=_;rw [ah.out,aj.out];rfl
          clear C aj ak ah ai
          have aI:y<n1/\n1<M64:=by
           have h:=aX.out
           exact⟨xr h,vJ ha h⟩
          obtain⟨Q,rfl⟩:∃ Q,f=Q+1:=⟨f - 1,by omega⟩
          have E:Hid (QU a b (Q+1) y=(⟨y,n1 - 1⟩,pa,pb)::QU a b Q n1):=by
           show QU a b (Q+1) y=_
           conv=>lhs;unfold QU
           rw [N.out,aR.out,aS.out]
          obtain⟨fn,aQ,ao,aP,hy,hR⟩:=HY.out pre (⟨y,n1 - 1⟩,pa,pb) wc aT ⟨QU a b Q n1,by rw [X.out,E.out];simp⟩
          dsimp only [za1] at hy
          have be:IntKind.u64.wrap ((n1:Int) - 1)=((n1 - 1:Nat):Int):=Zj (by omega) aI.2
          obtain⟨y1,an⟩:∃ y1,y1=n1 - 1:=⟨_,rfl⟩
          rw [<-an] at hy be hR
          have ay:=Lib.hid an
          clear an
          go_upto_region 13 with fail
          refine(wpIn_wide (n:=8)).1 ?_
          gi_wp2
          refine hR.mono ?_
          rintro e w3 (⟨rfl,aA,aK⟩ | ⟨rfl,ac⟩)
          ·gi_wp2
           go_wp2
           go_roundg (M64 - n1)
           case measure=>omega
           case rel=>exact⟨n1,Q,a2,b2,P,Z,pre++[(⟨y,y1⟩,pa,pb)],rfl,aI.2,rfl,bl.at aK bp (fun k hk h=>h hk) (by omega),by show yO a b=_;rw [X.out,E.out,ay.out];simp,by omega,aA⟩
          ·gi_wp2
           go_wp2
           refine bodyPost_ret (results_none rfl _ _ _) rfl ?_
           exact⟨⟨_,rfl⟩,.inr ⟨pre++[(⟨y,y1⟩,pa,pb)],⟨QU a b Q n1,by rw [X.out,E.out,ay.out];simp⟩,ac⟩⟩
        | false=>
          have N:Hid (kv (ye a y) (ye b y)=none):=by
           have:=C.out
           show _=_
           rw [ah.out,ai.out,aj.out,ak.out]
           cases m2<;>simp [kv] at this ⊢
          clear C aj ak ah ai
          obtain⟨Q,rfl⟩:∃ Q,f=Q+1:=⟨f - 1,by omega⟩
          have E:Hid (QU a b (Q+1) y=[(⟨y,M64 - 1⟩,pa,pb)]):=by
           show QU a b (Q+1) y=_
           conv=>lhs;unfold QU
           rw [N.out,aR.out,aS.out]
          obtain⟨fn,aQ,ao,aP,hy,hR⟩:=HY.out pre (⟨y,M64 - 1⟩,pa,pb) wc aT ⟨[],by rw [X.out,E.out];simp⟩
          dsimp only [za1] at hy
          rw [show ((M64 - 1:Nat):Int)=18446744073709551615 from rfl] at hy
          go_upto_region 13 with fail
          refine(wpIn_wide (n:=8)).1 ?_
          gi_wp2
          refine hR.mono ?_
          rintro e w3 (⟨rfl,aA,aK⟩ | ⟨rfl,ac⟩)
          ·gi_wp2
           go_wp2
           refine bodyPost_ret (results_none rfl _ _ _) rfl ?_
           exact⟨⟨_,rfl⟩,.inl (by rw [X.out,E.out];exact aA)⟩
          ·gi_wp2
           go_wp2
           refine bodyPost_ret (results_none rfl _ _ _) rfl ?_
           exact⟨⟨_,rfl⟩,.inr ⟨pre++[(⟨y,M64 - 1⟩,pa,pb)],⟨[],by rw [X.out,E.out];simp⟩,ac⟩⟩
attribute [local go_sem] Oper.semAt_some
def Jd (l:List Iv):List Nat:=l.flatMap fun s=>[s.lo,s.hi+1]
theorem ZY (l:List Iv):(Jd l).length=2 * l.length:=by
 induction l with
 | nil=>rfl
 | cons s l ih=>simp [Jd] at ih ⊢;omega
theorem zah {l:List Iv} {x y:Nat} (h:ye l x=some y):y ∈ Jd l:=by
 induction l with
 | nil=>cases h
 | cons s l ih=>
   unfold ye at h
   split at h
   ·cases h;simp [Jd]
   ·split at h
    ·cases h;simp [Jd]
    ·have:=ih h;simp [Jd] at this ⊢;exact .inr (.inr this)
def YV (l:List Nat) (x:Nat):Nat:=l.countP fun y=>decide (x<y)
theorem ZX (l:List Nat) {x y:Nat} (h:x<y):YV l y<=YV l x:=by
 unfold YV
 exact List.countP_mono_left fun z _ hz=>by simp at hz ⊢;omega
theorem zcr {l:List Nat} {x y:Nat} (h:x<y) (a:y ∈ l):YV l y+1<=YV l x:=by
 induction l with
 | nil=>cases a
 | cons z l ih=>
   unfold YV
   rw [List.countP_cons,List.countP_cons]
   rcases List.mem_cons.1 a with rfl | a
   ·have:=ZX l h
    unfold YV at this
    simp [h];omega
   ·have:=ih a
    unfold YV at this
    by_cases j:y<z
    ·have u:x<z:=by omega
     simp [j,u];omega
    ·simp [j];omega
theorem Qs (a b:List Iv):∀(f x:Nat),(QU a b f x).length<=YV (Jd a) x+YV (Jd b) x+1
 | 0,_=>Nat.zero_le _
 | f+1,x=>by
   unfold QU
   cases h:kv (ye a x) (ye b x) with
   | none=>simp
   | some y=>
     have ih:=Qs a b f y
     have:YV (Jd a) y+YV (Jd b) y+1<=YV (Jd a) x+YV (Jd b) x:=by
      have j:ye a x=some y\/ye b x=some y:=by
       cases ea:ye a x<;>cases eb:ye b x<;>rw [ea,eb] at h<;>simp only [kv] at h
       ·cases h
       ·exact .inr h
       ·exact .inl h
       ·split at h
        ·exact .inr h
        ·exact .inl h
      rcases j with h | h
      ·have:=zcr (xr h) (zah h)
       have:=ZX (Jd b) (xr h)
       omega
      ·have:=zcr (xr h) (zah h)
       have:=ZX (Jd a) (xr h)
       omega
     simp;omega
theorem jF (a b:List Iv):(yO a b).length<=2 * (a.length+b.length)+1:=by
 have j:=Qs a b M64 0
 have u:YV (Jd a) 0<=2 * a.length:=by rw [<-ZY];exact List.countP_le_length
 have w:YV (Jd b) 0<=2 * b.length:=by rw [<-ZY];exact List.countP_le_length
 unfold yO;omega
theorem J9 (a:List Iv) (s:Iv):(Q8 a s).length<=a.length+1:=by
 unfold Q8
 split
 ·simp
 ·rename_i t ht
  split
  ·have:a≠[]:=by intro e;subst e;simp at ht
   have:=List.length_pos_iff.2 this
   simp
   try omega
  ·simp
theorem jD (f:Bool->Bool->Bool) (j:List (Iv × Bool × Bool)):∀ a:List Iv,(qg f a j).length<=a.length+j.length:=by
 induction j with
 | nil=>intro a;simp [qg]
 | cons x j ih=>
   intro a
   obtain⟨s,p,q⟩:=x
   simp only [qg]
   by_cases e:f p q=true
   ·have u:=ih (Q8 a s)
    have w:=J9 a s
    rw [if_pos e]
    simp only [List.length_cons];omega
   ·have u:=ih a
    rw [if_neg e]
    simp only [List.length_cons];omega
theorem xq {f:Bool->Bool->Bool} {a b:List Iv}:∀(pre:List (Iv × Bool × Bool)) (x:Nat) (j:List Iv) (y:Iv × Bool × Bool) (r:List (Iv × Bool × Bool)),Cov a b x (pre++y::r)->Nrm j->(∀ t ∈ j,t.hi<x) ->
 Nrm (qg f j pre)/\(∀ t ∈ qg f j pre,t.hi<y.1.lo)/\y.1.lo<=y.1.hi/\y.1.hi<M64
 | [],x,j,(s,p,q),r,⟨h1,h2,h3,_⟩,ho,ht=>⟨ho,fun t h=>by have:=ht t h;show t.hi<s.lo;omega,by show s.lo<=s.hi;omega,h3⟩
 | (s,p,q)::pre,x,j,y,r,⟨h1,h2,h3,_,h5⟩,ho,ht=>by
   simp only [qg]
   have g:=Xm (s:=s) ho (fun t h=>by have:=ht t h;omega) (by omega) h3
   split
   ·exact xq pre _ _ y r h5 g.1 fun t h=>by have:=g.2.2 t h;omega
   ·exact xq pre _ _ y r h5 ho fun t h=>by have:=ht t h;omega
theorem zcT (o:List Iv) (t:Iv) (hi:Nat):(xw (o++[t])).set (o.length * 2+1) (.int .u64 hi)=xw (o++[⟨t.lo,hi⟩]):=by
 rw [vy,vy,List.set_append_right _ _ (by rw [y6];omega),y6]
 congr 1
 rw [show o.length * 2+1 - o.length * 2=1 from by omega]
 rfl
theorem OwnR.last {base:Nat} {w:World} {y:Option Addr} {n a:Nat} {o:List Iv} {t:Iv} (h:OwnR base w (.slice y n a) (o++[t])) :
 ∃ g,base<=g/\y=some ⟨g,0,none⟩/\o.length+1<=a/\a<=maxLen/\w.cell? ⟨g,o.length * 2,none⟩=some (.int .u64 t.lo)/\w.cell? ⟨g,o.length * 2+1,none⟩=some (.int .u64 t.hi)/\t.lo<M64/\t.hi<M64:=by
 have hb:=h.2 t (by simp)
 have j:=h.1
 rcases id j.2 with⟨_,E⟩ | ⟨g,A,C,B,G,I,H,F,_⟩
 ·simp at E
 ·simp only [Value.slice.injEq] at B
  obtain⟨rfl,rfl,rfl⟩:=B
  have u:=vz (o++[t]) o.length (by simp)
  simp only [List.getElem_concat_length] at u
  refine⟨g,G,rfl,by simpa using H,F,?_,?_,hb⟩
  ·rw [j.cellAt _ (by simp)];exact u.1
  ·rw [j.cellAt _ (by simp;omega)];exact u.2
theorem OwnR.setHi {base:Nat} {w:World} {g n a:Nat} {o:List Iv} {t:Iv} (h:OwnR base w (.slice (some ⟨g,0,none⟩) n a) (o++[t])) (B:n=o.length+1) (hi:Nat) (A:hi<M64) :
 OwnR base (w.setCell ⟨g,o.length * 2+1,none⟩ (.int .u64 hi)) (.slice (some ⟨g,0,none⟩) n a) (o++[⟨t.lo,hi⟩]):=by
 subst B
 have y:=h.1
 simp only [List.length_append,List.length_cons,List.length_nil,Nat.zero_add] at y
 have:=(y.stored (o.length * 2+1) (.int .u64 hi)).1
 rw [zcT] at this
 refine⟨by simpa using this,fun u j=>?_⟩
 simp at j
 rcases j with j | rfl
 ·exact h.2 u (by simp [j])
 ·exact⟨(h.2 t (by simp)).1,A⟩
theorem vG (f:Bool->Bool->Bool) (E:Nat) (aX:∀ ao w,(callFunc E ao).run Tryz.prog w=.ok (.enter E ao) w)
 (aT:∀ p q w,Calls Tryz.prog E #[.agg #[.bool p,.bool q]] w fun e Q=>e=.returned (.bool (f p q))/\Below w.heap.size w Q)
 (a b:List Iv) (va vb:Value) (w:World) (ha:Nrm a) (hb:Nrm b) (ra:RdR 0 w.heap.size w va a) (rb:RdR 0 w.heap.size w vb b) (aY:a.length+b.length<=1073741824) :
 Calls Tryz.prog 114 #[va,vb,.func (.func E) #[] #[]] w fun e Q=>∃ v,e=.returned v/\OwnR w.heap.size Q v (qy f a b)/\Below w.heap.size w Q:=by
 obtain⟨aa,ca,rfl,_⟩:=id ra
 obtain⟨ab,cb,rfl,_⟩:=id rb
 refine callsIn_wide.1 (callsIn_of_wp_marks (n:=9) Tryz.func114 rfl trivial ?_ rfl)
 simp only [Tryz.ntmps114,List.size_toArray,List.length_cons,List.length_nil,Nat.reduceAdd,Nat.reduceSub,Array.replicate_succ,Array.replicate_zero,List.push_toArray,List.append_toArray,List.nil_append,List.cons_append]
 gi_wp2_with (refine⟨trivial,?_⟩;gi_at_call 161;refine(callsIn_wide.2 (Xi _ _ _ _ _ _ _)).mono ?_;rintro e Q ⟨rfl,rfl⟩)
 obtain⟨W0,O⟩:∃ W0,((((w.alloc (Obj.cells #[Value.func (Fn.func E) #[] #[]] 140)).alloc (Obj.cells #[Value.slice none 0 0] 30)).alloc (Obj.cells #[Value.slice aa a.length ca] 30)).alloc (Obj.cells #[Value.slice ab b.length cb] 30))=W0:=⟨_,rfl⟩
 have bb:W0.heap.size=w.heap.size+4:=by rw [<-O];simp
 have b0:Boxed W0 w.heap.size 140 (Value.func (Fn.func E) #[] #[]):=by rw [<-O];exact(((Boxed.new w _ _).alloc _).alloc _).alloc _
 have b1:Boxed W0 (w.heap.size+1) 30 (Value.slice none 0 0):=by rw [<-O];have:=Boxed.new (w.alloc (Obj.cells #[Value.func (Fn.func E) #[] #[]] 140)) 30 (Value.slice none 0 0);rw [World.size_alloc] at this;exact(this.alloc _).alloc _
 have b2:Boxed W0 (w.heap.size+1+1) 30 (Value.slice aa a.length ca):=by rw [<-O];have:=Boxed.new ((w.alloc (Obj.cells #[Value.func (Fn.func E) #[] #[]] 140)).alloc (Obj.cells #[Value.slice none 0 0] 30)) 30 (Value.slice aa a.length ca);simp only [World.size_alloc] at this;exact this.alloc _
 have b3:Boxed W0 (w.heap.size+1+1+1) 30 (Value.slice ab b.length cb):=by rw [<-O];have:=Boxed.new (((w.alloc (Obj.cells #[Value.func (Fn.func E) #[] #[]] 140)).alloc (Obj.cells #[Value.slice none 0 0] 30)).alloc (Obj.cells #[Value.slice aa a.length ca] 30)) 30 (Value.slice ab b.length cb);simp only [World.size_alloc] at this;exact this
 have ax:Below w.heap.size w W0:=by rw [<-O];exact((((Below.refl _ _).alloc (Nat.le_refl _) _).alloc (by simp) _).alloc (by simp;omega) _).alloc (by simp;omega) _
 rw [O]
 clear O
 have ag:=j4 ha hb
 have aS:=jF a b
 refine ziP (w:=W0) 194 #[.pointer (some ⟨w.heap.size+1+1,0,none⟩),.pointer (some ⟨w.heap.size+1+1+1,0,none⟩)] rfl (enters_of Tryz.func194 (by kernel_rfl) rfl) za1 (fun _=>rfl)
  (fun k=>k=w.heap.size+1+1\/k=w.heap.size+1+1+1) (fun k=>k<w.heap.size\/k=w.heap.size+1+1\/k=w.heap.size+1+1+1) (yO a b) ?hit
  (fun k=>k=w.heap.size+1\/w.heap.size+6<=k) (fun k hk=>by omega) (by omega) ⟨by omega,by omega⟩
  (fun pre W=>(∃ v,Boxed W (w.heap.size+1) 30 v/\OwnR (w.heap.size+6) W v (qg f [] pre))/\Boxed W w.heap.size 140 (Value.func (Fn.func E) #[] #[])/\Below w.heap.size w W)
  (fun _ _ _=>False) ?hI (fun _ _ _ _ h _=>h) ⟨⟨_,b1,OwnR.nil _ _⟩,b0,ax⟩
  (fun pre x a' W=>((∃ v,Boxed W (w.heap.size+1) 30 v/\OwnR (w.heap.size+6) W v (qg f [] pre))/\Boxed W w.heap.size 140 (Value.func (Fn.func E) #[] #[])/\Below w.heap.size w W) /\
    ∃ L Bs,W.heap[L]? = some (.cells #[.int .u64 x.1.lo,.int .u64 x.1.hi] 36 (0,0))/\W.heap[Bs]? = some (.cells #[.bool x.2.1,.bool x.2.2] 139 (0,0))/\w.heap.size+6<=L/\w.heap.size+6<=Bs /\
    a'={ tmps:=#[Value.slice aa a.length ca,Value.slice ab b.length cb,Value.func (Fn.func E) #[] #[],undef,undef,Value.pointer (some ⟨w.heap.size,0,none⟩),Value.slice none 0 0,Value.pointer (some ⟨w.heap.size+1,0,none⟩),Value.pointer (some ⟨L,0,none⟩),Value.pointer (some ⟨Bs,0,none⟩),undef,Value.slice aa a.length ca,Value.slice ab b.length cb,Value.func (Fn.func 194) #[] #[Value.pointer (some ⟨w.heap.size+1+1,0,none⟩),Value.pointer (some ⟨w.heap.size+1+1+1,0,none⟩)],.agg #[.int .u64 x.1.lo,.int .u64 x.1.hi],.agg #[.bool x.2.1,.bool x.2.2],undef,undef,undef,undef,undef,undef,undef,undef,undef,undef,undef,undef,undef,undef,undef,undef,undef,undef,undef,undef,undef,undef,undef,undef,undef,undef,undef,undef,undef],defers:=[] })
  ?hAx ?hassign ?hbody ?hdone (fun _ _ _ _ h _=>h.elim)
 case hit=>
  intro W hk _
  exact J7 a b _ _ (w.heap.size+1+1) (w.heap.size+1+1+1) w.heap.size W ha hb (by omega) (by omega) (by omega)
   ⟨hk.boxed b2 id,hk.boxed b3 id,ra.below (ax.trans (hk.below (by omega) fun _ _=>id)) (Nat.le_refl _),rb.below (ax.trans (hk.below (by omega) fun _ _=>id)) (Nat.le_refl _),Suf.refl _ _,Suf.refl _ _⟩
 case hI=>
  rintro pre A B ⟨⟨v,h1,h2⟩,h3,T⟩ hk
  exact⟨⟨v,hk.boxed h1 (by omega),h2.keep hk (fun g hg=>by omega)⟩,hk.boxed h3 (by omega),T.trans (hk.below T.size fun k hk=>by omega)⟩
 case hAx=>
  rintro pre x a' A B ⟨⟨⟨v,h1,h2⟩,h3,T⟩,L,Bs,hp,hs,aF,aG,rfl⟩ hk
  exact⟨⟨⟨v,hk.boxed h1 (by omega),h2.keep hk (fun g hg=>by omega)⟩,hk.boxed h3 (by omega),T.trans (hk.below T.size fun k hk=>by omega)⟩,L,Bs,hk.obj hp (by omega),hk.obj hs (by omega),aF,aG,rfl⟩
 case hassign=>
  rintro l pre ⟨⟨lo,hi⟩,p,q⟩ W Z aQ ⟨⟨v,h1,h2⟩,h3,T⟩
  clear Z
  dsimp only [za1]
  gi_wp2
  have aP:∀ o1 o2,Keep (fun k=>k=w.heap.size+1\/w.heap.size+6<=k) W ((W.alloc o1).alloc o2):=fun o1 o2=>((Keep.refl _ _).alloc _).alloc _
  refine⟨aP _ _,⟨⟨v,(h1.alloc _).alloc _,(h2.keep ((Keep.refl qe W).alloc _) fun _ _=>id).keep ((Keep.refl qe _).alloc _) fun _ _=>id⟩,(h3.alloc _).alloc _,(T.alloc T.size _).alloc (by simp;have:=T.size;omega) _⟩,
   W.heap.size,W.heap.size+1,?_,?_,by omega,by omega,rfl⟩
  ·exact(Below.heap_alloc _ _ _ (by simp)).trans (World.alloc_heap_new W _)
  ·have:=World.alloc_heap_new (W.alloc (.cells #[.int .u64 lo,.int .u64 hi] 36)) (.cells #[.bool p,.bool q] 139)
   rwa [World.size_alloc] at this
 case hbody=>
  rintro l pre x a' W ⟨r,Z⟩ aQ ⟨⟨⟨v,h1,h2⟩,h3,T⟩,L,Bs,hp,hs,aF,aG,rfl⟩
  obtain⟨⟨lo,hi⟩,p,q⟩:=x
  obtain⟨m1,m2,m3,m4⟩:=xq (f:=f) pre 0 [] (⟨lo,hi⟩,p,q) r (by rw [show pre++(⟨lo,hi⟩,p,q)::r=yO a b from by rw [<-Z];simp];exact ag) trivial (fun _ h=>by cases h)
  have aR:=jD f pre []
  have ba:pre.length+1<=(yO a b).length:=by rw [<-Z];simp
  have c3:=h3.cell
  have aL:W.cell? ⟨Bs,0,none⟩=some (.bool p):=by simp [World.cell?,hs]
  have aM:W.cell? ⟨Bs,1,none⟩=some (.bool q):=by simp [World.cell?,hs]
  obtain⟨i0,aB,aI,aJ,aK⟩:=info_parts Tryz.infoIv
  have HM:=Lib.hid (And.intro Z (And.intro ag (And.intro aS (And.intro m1 (And.intro m2 m3)))))
  dsimp only at m3 m4
  clear Z ag m1 m2 hs
  gi_wp2_with fail
  refine⟨trivial,CallsIn.mono (CallsIn.inRound l (callsIn_wide.2 (aT p q W))) ?_⟩
  rintro e W1 ⟨rfl,ay⟩
  have Y:Keep qe W W1:=Keep.of_below' ay (Nat.le_refl _)
  have N:=Y.boxed h1 id
  have af:=h2.keep Y fun _ _=>id
  have V:=Y.boxed h3 id
  have J:=T.trans (ay.mono T.size)
  have aE:=Y.obj hp id
  have au:w.heap.size+6<=W1.heap.size:=by have:=Y.size;omega
  have ai:=Lib.hid Y
  clear ay Y h1 h2 h3 T hp c3 aL aM
  obtain⟨az,ah⟩:∃ az,az=qg f [] pre:=⟨_,rfl⟩
  rw [<-ah] at af aR
  have HO:=Lib.hid ah
  clear ah
  have c1:=N.cell
  have U:W1.cell? ⟨L,0,none⟩=some (.int .u64 lo):=by simp [World.cell?,aE]
  have M:W1.cell? ⟨L,1,none⟩=some (.int .u64 hi):=by simp [World.cell?,aE]
  cases ht:f p q with
  | false=>
    have HT:=Lib.hid ht
    gi_wp2
    exact⟨ai.out.mono fun _ _ h=>h.elim,⟨v,N,by rw [yf];simp only [qg,HT.out,<-HO.out];exact af⟩,V,J⟩
  | true=>
    have HT:=Lib.hid ht
    obtain⟨ad,aj,rfl⟩:=af.val
    have HH:=Lib.hid af
    clear af
    rcases List.eq_nil_or_concat az with rfl | ⟨F,t,rfl⟩
    ·gi_wp2_with fail
     refine Kh (Sw:=qe) (fun _=>trivial) 11 45 (fun _=>True) (by kernel_rfl) (by kernel_rfl) rfl trivial ?_
     simp only [List.take_succ_cons,List.take_zero]
     repeat (first
      | (refine V5 (fun _=>trivial) ?_ rfl (fun a w I _ H=>?_) ?_;rotate_left;(simp [Rds,zA,lk,Op.operands,Call.operands,RdEq] at H;go_simp;with_reducible rfl);dsimp only [List.nil_append,List.cons_append])
      | (refine jI rfl ?_ ?_;(first | exact .inl (zG rfl rfl) | exact .inr (zG rfl rfl));dsimp only [List.nil_append,List.cons_append])
      | (refine QQ (fun _=>trivial) rfl ?_ ?_ (fun a w I _ H=>?_) ?_;exact(zG rfl rfl);rotate_left;(simp [Rds,zA,lk,Op.operands,Call.operands,RdEq] at H;go_simp;with_reducible rfl);dsimp only [List.nil_append,List.cons_append]))
     intro C _ P
     simp only [finG,forall_eq,List.nil_append,List.cons_append,List.drop_succ_cons,List.drop_zero,List.drop_nil]
     simp only [Act.put,List.setIfInBounds_toArray,List.set_cons_succ,List.set_cons_zero]
     have j:Keep qe W1 C:=((Keep.refl qe W1).drew).trans P
     have e1:=j.boxed N id
     have e3:=j.boxed V id
     have e4:=J.trans (j.below J.size fun _ _=>id)
     have eo:=(HH.out).keep j fun _ _=>id
     have S:=Lib.hid (And.intro eo (And.intro e3 e4))
     have d1:=e1.cell
     have d2:C.cell? ⟨L,0,none⟩=some (.int .u64 lo):=j.cell_some U id
     have d3:C.cell? ⟨L,1,none⟩=some (.int .u64 hi):=j.cell_some M id
     have aD:w.heap.size+6<=C.heap.size:=Nat.le_trans au j.size
     have ae:=Lib.hid j
     clear P j e3 e4 eo c1 U M N V J
     gi_wp2_with (gi_at_builtin;go_loud (refine wpListIn_append_own _ rfl _ _ 30 rfl (w.heap.size+6) 36 i0 (.agg #[.int .u64 0,.int .u64 0]) 2 16 Tryz.underlying30 aB aI aJ aK rfl (by decide) _ _ _ rfl (S.out.1.1.alloc _) ⟨C.heap.size,0,none⟩ 1 1 [.int .u64 lo,.int .u64 hi] rfl rfl (kw (cs:=#[.int .u64 lo,.int .u64 hi]) (t := 36) (fr:=(0,0)) (World.alloc_heap_new C _)) (by simp [Value.oneCell']) (by unfold maxLen;first | decide | omega) (by first | decide | omega) (by rw [World.size_alloc];omega) ?_);intro v' w3 G X _;obtain⟨g',aA,rfl⟩:=ownsRow_succ G;obtain⟨q1,q2,q3,q4⟩:=qO e1 (by decide) S.out.1.1 G X;have aU:=q1.cell;have aV:=q1.frozen)
     refine⟨((ai.out.trans ae.out).mono fun _ _ h=>h.elim).trans (q4.mono fun k _ h=>h),⟨_,q2,?_⟩,q4.boxed S.out.2.1 (by omega),S.out.2.2.trans (q4.below S.out.2.2.size fun k _=>by omega)⟩
     rw [yf]
     simp only [qg,HT.out,if_true,<-HO.out]
     exact S.out.1.snoc ⟨by show lo<M64;omega,by show hi<M64;omega⟩ q3
    ·simp only [List.concat_eq_append,List.length_append,List.length_cons,List.length_nil,Nat.zero_add] at *
     obtain⟨g,aO,rfl,aW,aN,aq,ar,bc⟩:=HH.out.last
     have an:t.lo<=t.hi/\t.hi<M64:=by
      have:=NF.lo_ge HM.out.2.2.2.1 t (by rw [<-HO.out];simp)
      exact⟨this.2.1,this.2.2⟩
     have aH:t.hi<lo:=HM.out.2.2.2.2.1 t (by rw [<-HO.out];simp)
     have aw:W1.cell? ⟨g,F.length * 2,none⟩=some (.int .u64 t.lo):=aq
     have ak:W1.cell? ⟨g,F.length * 2+1,none⟩=some (.int .u64 t.hi):=ar
     clear aq ar
     unfold maxLen at aN
     have aZ:((F.length:Nat):Int)<(F.length:Int)+1:=by omega
     gi_wp2_with fail
     by_cases ac:t.hi+1=lo
     ·have hrel:(((zR t ⟨lo,hi⟩:Nat):Int) == 1)=true:=by
       have:zR t ⟨lo,hi⟩=1:=by unfold zR;rw [if_pos aH,if_pos ac]
       rw [this];rfl
      have av:=Lib.hid ac
      clear ac
      refine Kh (Sw:=qe) (fun _=>trivial) 11 45 (fun Q=>Q.cell? ⟨w.heap.size+1,0,none⟩=some (.slice (some ⟨g,0,none⟩) (F.length+1) aj)/\Q.cell? ⟨g,F.length * 2,none⟩=some (.int .u64 t.lo)/\Q.cell? ⟨g,F.length * 2+1,none⟩=some (.int .u64 t.hi)/\Q.cell? ⟨L,0,none⟩=some (.int .u64 lo)/\Q.cell? ⟨L,1,none⟩=some (.int .u64 hi)) (by kernel_rfl) (by kernel_rfl) rfl ⟨c1,aw,ak,U,M⟩ ?_
      simp only [List.take_succ_cons,List.take_zero]
      repeat (first
       | (refine V5 (fun _=>trivial) ?_ rfl (fun a w I _ H=>?_) ?_;rotate_left;(simp [Rds,zA,lk,Op.operands,Call.operands,RdEq] at H;go_simp;with_reducible rfl);dsimp only [List.nil_append,List.cons_append])
       | (refine jI rfl ?_ ?_;(first | exact .inl (zG rfl rfl) | exact .inr (zG rfl rfl));dsimp only [List.nil_append,List.cons_append])
       | (refine QQ (fun _=>trivial) rfl ?_ ?_ (fun a w I _ H=>?_) ?_;exact(zG rfl rfl);rotate_left;(simp [Rds,zA,lk,Op.operands,Call.operands,RdEq] at H;go_simp;with_reducible rfl);dsimp only [List.nil_append,List.cons_append]))
      refine zhg (fun u _=>u=.int .i64 ((zR t ⟨lo,hi⟩:Nat):Int)) (yj _) rfl (zG rfl rfl) ?_ ?_
      ·intro a2 C I hk H K hK
       have HK:=Lib.hid hK
       clear hK
       simp [Rds,zA,lk,Op.operands,Call.operands,RdEq] at H
       refine⟨fun _ _=>trivial,?_⟩
       go_simp
       refine CallsIn.mono (CallsIn.inRound l (callsIn_wide.2 (QF t ⟨lo,hi⟩ _ an.1 (by show lo<=hi;omega) an.2 (by show hi<M64;omega)))) ?_
       rintro e w3 ⟨rfl,hb⟩
       have y:Keep qe C w3:=Keep.of_below' hb (Nat.le_refl _)
       exact HK.out _ _ y ⟨y.cell_some I.1 id,y.cell_some I.2.1 id,y.cell_some I.2.2.1 id,y.cell_some I.2.2.2.1 id,y.cell_some I.2.2.2.2 id⟩ rfl
      dsimp only [List.nil_append,List.cons_append]
      repeat (first
       | (refine V5 (fun _=>trivial) ?_ rfl (fun a w I _ H=>?_) ?_;rotate_left;(simp [Rds,zA,lk,Op.operands,Call.operands,RdEq] at H;go_simp;with_reducible rfl);dsimp only [List.nil_append,List.cons_append])
       | (refine jI rfl ?_ ?_;(first | exact .inl (zG rfl rfl) | exact .inr (zG rfl rfl));dsimp only [List.nil_append,List.cons_append])
       | (refine QQ (fun _=>trivial) rfl ?_ ?_ (fun a w I _ H=>?_) ?_;exact(zG rfl rfl);rotate_left;(simp [Rds,zA,lk,Op.operands,Call.operands,RdEq] at H;go_simp;with_reducible rfl);dsimp only [List.nil_append,List.cons_append]))
      intro C _ P
      simp only [finG,forall_eq,List.nil_append,List.cons_append,List.drop_succ_cons,List.drop_zero,List.drop_nil]
      simp only [Act.put,List.setIfInBounds_toArray,List.set_cons_succ,List.set_cons_zero]
      have j:Keep qe W1 C:=((Keep.refl qe W1).drew).trans P
      have e1:=j.boxed N id
      have e3:=j.boxed V id
      have e4:=J.trans (j.below J.size fun _ _=>id)
      have eo:=(HH.out).keep j fun _ _=>id
      have er:C.ownsRow (w.heap.size+6) 36 2 (.slice (some ⟨g,0,none⟩) (F.length+1) aj) (F.length+1) (xw (F++[t])):=by have:=eo.1;simpa using this
      have ER:=Lib.hid er
      have S:=Lib.hid (And.intro eo (And.intro e3 e4))
      have d1:=e1.cell
      have d3:C.cell? ⟨L,1,none⟩=some (.int .u64 hi):=j.cell_some M id
      have d4:C.cell? ⟨g,F.length * 2+1,none⟩=some (.int .u64 t.hi):=j.cell_some ak id
      have d5:C.frozen? ⟨g,F.length * 2+1,none⟩=false:=er.frozenAt _
      have ae:=Lib.hid j
      clear P j e3 e4 eo er c1 U M aw ak N V J
      gi_wp2
      have am:Keep (fun k=>k=g) C (C.setCell ⟨g,F.length * 2+1,none⟩ (.int .u64 hi)):=(Keep.refl (fun k=>k=g) C).setCell (p:=⟨g,F.length * 2+1,none⟩) (fun _=>rfl) _
      refine⟨((ai.out.trans ae.out).mono fun _ _ h=>h.elim).trans (am.mono fun k _ h=>.inr (by rw [h];exact aO)),⟨_,am.boxed e1 (by omega),?_⟩,am.boxed S.out.2.1 (by omega),S.out.2.2.trans (am.below S.out.2.2.size fun k hk=>by omega)⟩
      rw [yf]
      simp only [qg,HT.out,if_true,<-HO.out]
      rw [show Q8 (F++[t]) ⟨lo,hi⟩=F++[⟨t.lo,hi⟩] from by unfold Q8;rw [List.getLast?_concat];simp only;rw [if_pos av.out,List.dropLast_concat]]
      exact S.out.1.setHi rfl hi (by omega)
     ·have hrel:(((zR t ⟨lo,hi⟩:Nat):Int) == 1)=false:=by
       have:zR t ⟨lo,hi⟩=0:=by unfold zR;rw [if_pos aH,if_neg ac]
       rw [this];rfl
      have av:=Lib.hid ac
      clear ac
      refine Kh (Sw:=qe) (fun _=>trivial) 11 45 (fun Q=>Q.cell? ⟨w.heap.size+1,0,none⟩=some (.slice (some ⟨g,0,none⟩) (F.length+1) aj)/\Q.cell? ⟨g,F.length * 2,none⟩=some (.int .u64 t.lo)/\Q.cell? ⟨g,F.length * 2+1,none⟩=some (.int .u64 t.hi)/\Q.cell? ⟨L,0,none⟩=some (.int .u64 lo)/\Q.cell? ⟨L,1,none⟩=some (.int .u64 hi)) (by kernel_rfl) (by kernel_rfl) rfl ⟨c1,aw,ak,U,M⟩ ?_
      simp only [List.take_succ_cons,List.take_zero]
      repeat (first
       | (refine V5 (fun _=>trivial) ?_ rfl (fun a w I _ H=>?_) ?_;rotate_left;(simp [Rds,zA,lk,Op.operands,Call.operands,RdEq] at H;go_simp;with_reducible rfl);dsimp only [List.nil_append,List.cons_append])
       | (refine jI rfl ?_ ?_;(first | exact .inl (zG rfl rfl) | exact .inr (zG rfl rfl));dsimp only [List.nil_append,List.cons_append])
       | (refine QQ (fun _=>trivial) rfl ?_ ?_ (fun a w I _ H=>?_) ?_;exact(zG rfl rfl);rotate_left;(simp [Rds,zA,lk,Op.operands,Call.operands,RdEq] at H;go_simp;with_reducible rfl);dsimp only [List.nil_append,List.cons_append]))
      refine zhg (fun u _=>u=.int .i64 ((zR t ⟨lo,hi⟩:Nat):Int)) (yj _) rfl (zG rfl rfl) ?_ ?_
      ·intro a2 C I hk H K hK
       have HK:=Lib.hid hK
       clear hK
       simp [Rds,zA,lk,Op.operands,Call.operands,RdEq] at H
       refine⟨fun _ _=>trivial,?_⟩
       go_simp
       refine CallsIn.mono (CallsIn.inRound l (callsIn_wide.2 (QF t ⟨lo,hi⟩ _ an.1 (by show lo<=hi;omega) an.2 (by show hi<M64;omega)))) ?_
       rintro e w3 ⟨rfl,hb⟩
       have y:Keep qe C w3:=Keep.of_below' hb (Nat.le_refl _)
       exact HK.out _ _ y ⟨y.cell_some I.1 id,y.cell_some I.2.1 id,y.cell_some I.2.2.1 id,y.cell_some I.2.2.2.1 id,y.cell_some I.2.2.2.2 id⟩ rfl
      dsimp only [List.nil_append,List.cons_append]
      repeat (first
       | (refine V5 (fun _=>trivial) ?_ rfl (fun a w I _ H=>?_) ?_;rotate_left;(simp [Rds,zA,lk,Op.operands,Call.operands,RdEq] at H;go_simp;with_reducible rfl);dsimp only [List.nil_append,List.cons_append])
       | (refine jI rfl ?_ ?_;(first | exact .inl (zG rfl rfl) | exact .inr (zG rfl rfl));dsimp only [List.nil_append,List.cons_append])
       | (refine QQ (fun _=>trivial) rfl ?_ ?_ (fun a w I _ H=>?_) ?_;exact(zG rfl rfl);rotate_left;(simp [Rds,zA,lk,Op.operands,Call.operands,RdEq] at H;go_simp;with_reducible rfl);dsimp only [List.nil_append,List.cons_append]))
      intro C _ P
      simp only [finG,forall_eq,List.nil_append,List.cons_append,List.drop_succ_cons,List.drop_zero,List.drop_nil]
      simp only [Act.put,List.setIfInBounds_toArray,List.set_cons_succ,List.set_cons_zero]
      have j:Keep qe W1 C:=((Keep.refl qe W1).drew).trans P
      have e1:=j.boxed N id
      have e3:=j.boxed V id
      have e4:=J.trans (j.below J.size fun _ _=>id)
      have eo:=(HH.out).keep j fun _ _=>id
      have er:C.ownsRow (w.heap.size+6) 36 2 (.slice (some ⟨g,0,none⟩) (F.length+1) aj) (F.length+1) (xw (F++[t])):=by have:=eo.1;simpa using this
      have ER:=Lib.hid er
      have S:=Lib.hid (And.intro eo (And.intro e3 e4))
      have d1:=e1.cell
      have d2:C.cell? ⟨L,0,none⟩=some (.int .u64 lo):=j.cell_some U id
      have d3:C.cell? ⟨L,1,none⟩=some (.int .u64 hi):=j.cell_some M id
      have aD:w.heap.size+6<=C.heap.size:=Nat.le_trans au j.size
      have ae:=Lib.hid j
      clear P j e3 e4 eo er c1 U M N V J
      gi_wp2_with (gi_at_builtin;go_loud (refine wpListIn_append_own _ rfl _ _ 30 rfl (w.heap.size+6) 36 i0 (.agg #[.int .u64 0,.int .u64 0]) 2 16 Tryz.underlying30 aB aI aJ aK rfl (by decide) _ _ _ rfl (ER.out.alloc _) ⟨C.heap.size,0,none⟩ 1 1 [.int .u64 lo,.int .u64 hi] rfl rfl (kw (cs:=#[.int .u64 lo,.int .u64 hi]) (t := 36) (fr:=(0,0)) (World.alloc_heap_new C _)) (by simp [Value.oneCell']) (by unfold maxLen;first | decide | omega) (by first | decide | omega) (by rw [World.size_alloc];omega) ?_);intro v' w3 G X _;obtain⟨g',aA,rfl⟩:=ownsRow_succ G;obtain⟨q1,q2,q3,q4⟩:=qO e1 (by decide) ER.out G X;have aU:=q1.cell;have aV:=q1.frozen)
      refine⟨((ai.out.trans ae.out).mono fun _ _ h=>h.elim).trans (q4.mono fun k _ h=>h),⟨_,q2,?_⟩,q4.boxed S.out.2.1 (by omega),S.out.2.2.trans (q4.below S.out.2.2.size fun k _=>by omega)⟩
      rw [yf]
      simp only [qg,HT.out,if_true,<-HO.out]
      rw [show Q8 (F++[t]) ⟨lo,hi⟩=F++[t]++[⟨lo,hi⟩] from by unfold Q8;rw [List.getLast?_concat];simp only;rw [if_neg av.out]]
      exact S.out.1.snoc ⟨by show lo<M64;omega,by show hi<M64;omega⟩ (by simpa using q3)
 case hdone=>
  rintro W ⟨⟨v,h1,h2⟩,h3,T⟩ hD
  have I:=h1.cell
  gi_wp2
  refine⟨by simp,.inl ⟨_,_,rfl,run_takeDeferred hD,?_⟩⟩
  have aC:Keep (fun k=>k=W0.heap.size) W (W.putObj W0.heap.size (.deferred none)):=(Keep.refl (fun k=>k=W0.heap.size) W).putObj (fun _=>rfl) _
  exact⟨_,results_tmp rfl _ _ _,v,rfl,(h2.keep aC fun g hg=>by omega).mono (by omega),T.trans (aC.below T.size fun k hk=>by omega)⟩
attribute [local go_sem] Oper.semAt_some
def zn (p q:Bool):Bool:=p || q
def y5 (p q:Bool):Bool:=p && q
def zm (p q:Bool):Bool:=p && !q
theorem V4 (a b:List Iv) (u y:Value) (w:World) (E:Nrm a) (hb:Nrm b) (ra:RdR 0 w.heap.size w u a) (rb:RdR 0 w.heap.size w y b) (j:a.length+b.length<=1073741824) :
 Calls Tryz.prog 69 #[u,y] w fun e A=>∃ v,e=.returned v/\OwnR w.heap.size A v (qy zn a b)/\Below w.heap.size w A:=by
 have B:=vG zn 115 (enters_of Tryz.func115 (by kernel_rfl) rfl) Kq a b u y w E hb ra rb j
 have C:=Lib.hid B
 clear B
 obtain⟨F,H,rfl,_⟩:=ra
 obtain⟨G,I,rfl,_⟩:=rb
 go_enter Tryz.func69,Tryz.ntmps69
 go_wp2_with (go_at_call 114;refine C.out.mono ?_;rintro e A ⟨v,rfl,J,hb⟩)
 go_ret
 exact⟨_,rfl,‹_›,‹_›⟩
theorem JW (a b:List Iv) (u y:Value) (w:World) (E:Nrm a) (hb:Nrm b) (ra:RdR 0 w.heap.size w u a) (rb:RdR 0 w.heap.size w y b) (j:a.length+b.length<=1073741824) :
 Calls Tryz.prog 80 #[u,y] w fun e A=>∃ v,e=.returned v/\OwnR w.heap.size A v (qy y5 a b)/\Below w.heap.size w A:=by
 have B:=vG y5 123 (enters_of Tryz.func123 (by kernel_rfl) rfl) zbP a b u y w E hb ra rb j
 have C:=Lib.hid B
 clear B
 obtain⟨F,H,rfl,_⟩:=ra
 obtain⟨G,I,rfl,_⟩:=rb
 go_enter Tryz.func80,Tryz.ntmps80
 go_wp2_with (go_at_call 114;refine C.out.mono ?_;rintro e A ⟨v,rfl,J,hb⟩)
 go_ret
 exact⟨_,rfl,‹_›,‹_›⟩
theorem Zu (a b:List Iv) (u y:Value) (w:World) (E:Nrm a) (hb:Nrm b) (ra:RdR 0 w.heap.size w u a) (rb:RdR 0 w.heap.size w y b) (j:a.length+b.length<=1073741824) :
 Calls Tryz.prog 124 #[u,y] w fun e A=>∃ v,e=.returned v/\OwnR w.heap.size A v (qy zm a b)/\Below w.heap.size w A:=by
 have B:=vG zm 169 (enters_of Tryz.func169 (by kernel_rfl) rfl) Kp a b u y w E hb ra rb j
 have C:=Lib.hid B
 clear B
 obtain⟨F,H,rfl,_⟩:=ra
 obtain⟨G,I,rfl,_⟩:=rb
 go_enter Tryz.func124,Tryz.ntmps124
 go_wp2_with (go_at_call 114;refine C.out.mono ?_;rintro e A ⟨v,rfl,J,hb⟩)
 go_ret
 exact⟨_,rfl,‹_›,‹_›⟩
theorem ziL {w:World} {B:Nat} {s:Iv} (h:w.heap[B]? = some (.cells #[.int .u64 s.lo,.int .u64 s.hi] 36 (0,0))) (a:s.lo<M64) (j:s.hi<M64):RdR 0 w.heap.size w (.slice (some ⟨B,0,none⟩) 1 1) [s]:=by
 refine⟨_,1,rfl,by simp,by decide,fun _=>⟨B,0,rfl,Nat.zero_le _,(Array.getElem?_eq_some_iff.1 h).1,fun i hi=>?_⟩⟩
 obtain rfl:i=0:=by simpa using hi
 exact⟨by simp [World.cell?,h],by simp [World.cell?,h],a,j⟩
theorem zbn (a:List Iv) (C:Value) (s:Iv) (w:World) (F:Nrm a) (hs:s.lo<=s.hi) (y:s.hi<M64) (ra:RdR 0 w.heap.size w C a) (B:a.length<=1073741823) :
 Calls Tryz.prog 126 #[C,.agg #[.int .u64 s.lo,.int .u64 s.hi]] w fun e E=>∃ v,e=.returned v/\OwnR w.heap.size E v (qy zm [s] a)/\Below w.heap.size w E:=by
 obtain⟨I,J,rfl,_⟩:=id ra
 go_enter Tryz.func126,Tryz.ntmps126
 go_wp2_with fail
 obtain⟨A,u⟩:∃ A,((w.alloc (Obj.cells #[Value.int IntKind.u64 s.lo,Value.int IntKind.u64 s.hi] 36)).alloc (Obj.cells #[Value.int IntKind.u64 s.lo,Value.int IntKind.u64 s.hi] 36))=A:=⟨_,rfl⟩
 have j:Below w.heap.size w A:=by rw [<-u];exact((Below.refl _ _).alloc (Nat.le_refl _) _).alloc (by simp) _
 have G:A.heap[w.heap.size+1]? = some (.cells #[.int .u64 s.lo,.int .u64 s.hi] 36 (0,0)):=by
  rw [<-u];have:=World.alloc_heap_new (w.alloc (Obj.cells #[Value.int IntKind.u64 s.lo,Value.int IntKind.u64 s.hi] 36)) (Obj.cells #[Value.int IntKind.u64 s.lo,Value.int IntKind.u64 s.hi] 36);rwa [World.size_alloc] at this
 rw [u]
 clear u
 refine(Zu [s] a _ _ A ⟨Nat.zero_le _,hs,y,trivial⟩ F (ziL G (by omega) y) ((ra.below j (Nat.le_refl _)).keep (Nat.le_refl _) j.size fun _ _ _=>rfl) (by simp;omega)).mono ?_
 rintro e K ⟨v,rfl,H,hb⟩
 go_wp2
 go_ret
 exact⟨_,rfl,H.mono j.size,j.trans (hb.mono j.size)⟩
end Go.Proofs.YtonhfknjcbakiaaGreatDoor
namespace Go.Proofs.YtonhfknjcbakiaaGreatDoor
theorem xR (f:Bool->Bool->Bool) (a b:List Iv):(qy f a b).length<=2 * (a.length+b.length)+1:=Nat.le_trans (jD f _ _) (by simpa using jF a b)
structure En where
 rep:Nat
 max:Nat
 holes:List Iv
deriving DecidableEq
theorem En.ext' {e f:En} (a:e.rep=f.rep) (j:e.max=f.max) (u:e.holes=f.holes):e=f:=by cases e;cases f;simp_all
def zO (e:En):Prop:=Nrm e.holes/\(∀ s ∈ e.holes,s.hi<=e.max)/\e.max<M64/\e.rep<M64
theorem qG {m n:Nat} (h:m<=n) (a:n<M64):Nrm [⟨m,n⟩]:=⟨Nat.zero_le _,h,a,trivial⟩
theorem jl (m n x:Nat):mem [⟨m,n⟩] x=(decide (m<=x) && decide (x<=n)):=by simp [mem]
def kn (e:En):List Iv:=qy zm [⟨0,e.max⟩] e.holes
theorem qT {e:En} (h:zO e):Nrm (kn e):=qH (qG (Nat.zero_le _) h.2.2.1) h.1
theorem vC {e:En} (h:zO e) {x:Nat} (a:x<M64):mem (kn e) x=(decide (x<=e.max) && !mem e.holes x):=by
 unfold kn
 rw [qj (qG (Nat.zero_le _) h.2.2.1) h.1 a,jl]
 simp [zm]
def QV (l:List Iv):Nat:=match l.getLast? with
 | some s=>s.hi
 | none=>0
theorem Kr {l:List Iv} (h:0<l.length):l[l.length - 1].hi=QV l:=by
 unfold QV
 rw [List.getLast?_eq_getElem?,List.getElem?_eq_getElem (by omega)]
theorem x9 {l:List Iv} (hl:Nrm l) (h:l≠[]):mem l (QV l)=true/\QV l<M64:=by
 have a:0<l.length:=List.length_pos_iff.2 h
 have:=NF.lo_ge hl l[l.length - 1] (List.getElem_mem _)
 rw [<-Kr a]
 exact⟨qf.2 ⟨_,List.getElem_mem _,this.2.1,Nat.le_refl _⟩,this.2.2⟩
theorem zek {l:List Iv} (hl:Nrm l) {x:Nat} (u:mem l x=true):x<=QV l:=by
 obtain⟨s,hs,w,j⟩:=qf.1 u
 have a:l≠[]:=by intro e;subst e;cases hs
 obtain⟨k,t,rfl⟩:=List.eq_nil_or_concat l |>.resolve_left a
 unfold QV
 rw [List.concat_eq_append] at *
 rw [List.getLast?_concat]
 rcases List.mem_append.1 hs with h | h
 ·have:=hl.last_lt s h
  have:=(NF.lo_ge hl t (by simp)).2.1
  simp only;omega
 ·simp at h;subst h;exact j
def Qi (r:Nat) (l:List Iv):En × Bool:=if l=[] then (⟨0,0,[]⟩,false) else (⟨r,QV l,qy zm [⟨0,QV l⟩] l⟩,true)
theorem qD {r:Nat} {l:List Iv} (h:l≠[]):Qi r l=(⟨r,QV l,qy zm [⟨0,QV l⟩] l⟩,true):=if_neg h
theorem zaj (r:Nat) (l:List Iv):(Qi r l).2=decide (l≠[]):=by
 unfold Qi
 split
 ·rename_i h;simp [h]
 ·rename_i h;simp [h]
theorem k9 {r:Nat} {l:List Iv} (w:r<M64) (hl:Nrm l):zO (Qi r l).1:=by
 by_cases h:l=[]
 ·subst h;exact⟨trivial,(fun _ h=>by cases h),xM,xM⟩
 ·rw [qD h]
  have ht:=(x9 hl h).2
  have u:Nrm (qy zm [⟨0,QV l⟩] l):=qH (qG (Nat.zero_le _) ht) hl
  refine⟨u,fun s hs=>?_,ht,w⟩
  have j:=NF.lo_ge u s hs
  have a:mem (qy zm [⟨0,QV l⟩] l) s.hi=true:=qf.2 ⟨s,hs,j.2.1,Nat.le_refl _⟩
  rw [qj (qG (Nat.zero_le _) ht) hl j.2.2,jl] at a
  simp [zm] at a
  exact a.1
theorem JO {r:Nat} {l:List Iv} (w:r<M64) (hl:Nrm l) (h:l≠[]):kn (Qi r l).1=l:=by
 have j:=k9 w hl
 refine Nrm.unique (qT j) hl fun x u=>?_
 rw [vC j u]
 rw [qD h]
 have ht:=(x9 hl h).2
 simp only
 rw [qj (qG (Nat.zero_le _) ht) hl u,jl]
 simp only [zm]
 by_cases a:x<=QV l
 ·simp [a]
 ·have:mem l x=false:=by
   cases e:mem l x with
   | false=>rfl
   | true=>exact absurd (zek hl e) a
  simp [a,this]
def YP (e:En):Prop:=zO e/\∀ s ∈ e.holes,s.hi<e.max
theorem zeO {e:En} (h:YP e):mem e.holes e.max=false:=by
 cases h':mem e.holes e.max with
 | false=>rfl
 | true=>
   obtain⟨s,hs,_,a⟩:=qf.1 h'
   have:=h.2 s hs
   omega
theorem jO {e:En} (h:YP e):kn e≠[]/\QV (kn e)=e.max:=by
 have u:mem (kn e) e.max=true:=by rw [vC h.1 h.1.2.2.1,zeO h];simp
 have a:kn e≠[]:=by intro w;rw [w] at u;cases u
 refine⟨a,?_⟩
 have y:=zek (qT h.1) u
 have j:=x9 (qT h.1) a
 rw [vC h.1 j.2] at j
 simp at j
 omega
theorem ZM {e:En} (h:YP e):Qi e.rep (kn e)=(e,true):=by
 obtain⟨u,j⟩:=jO h
 rw [qD u,j]
 have:qy zm [⟨0,e.max⟩] (kn e)=e.holes:=by
  refine vK (qG (Nat.zero_le _) h.1.2.2.1) (qT h.1) h.1.1 fun x w=>?_
  rw [vC h.1 w,jl]
  simp only [zm]
  by_cases a:x<=e.max
  ·simp [a]
  ·have:mem e.holes x=false:=by
    cases h':mem e.holes x with
    | false=>rfl
    | true=>
      obtain⟨s,hs,_,j⟩:=qf.1 h'
      have:=h.1.2.1 s hs
      omega
   simp [a,this]
 rw [this]
theorem zak {r:Nat} {l:List Iv} (w:r<M64) (hl:Nrm l) (h:l≠[]):YP (Qi r l).1:=by
 refine⟨k9 w hl,fun s hs=>?_⟩
 have u:=k9 w hl
 have B:=u.2.1 s hs
 rcases Nat.lt_or_eq_of_le B with y | y
 ·exact y
 ·have j:mem (Qi r l).1.holes (Qi r l).1.max=true:=qf.2 ⟨s,hs,by have:=NF.lo_ge u.1 s hs;omega,by omega⟩
  have A:=x9 hl h
  have a:mem (kn (Qi r l).1) (QV l)=true:=by rw [JO w hl h];exact A.1
  rw [vC u A.2] at a
  rw [qD h] at j a
  simp only at j a
  rw [j] at a
  simp at a
theorem Jm {e:En} (h:zO e) {l:List Iv} {s:Iv} (hs:e.holes=l++[s]) (F:e.max<=s.hi) (E:0<s.lo):zO ⟨e.rep,s.lo - 1,l⟩/\kn ⟨e.rep,s.lo - 1,l⟩=kn e:=by
 have u:Nrm (l++[s]):=hs ▸ h.1
 have C:=NF.lo_ge u s (by simp)
 have j:zO ⟨e.rep,s.lo - 1,l⟩:=by
  refine⟨u.init,fun t ht=>?_,?_,h.2.2.2⟩
  ·have:=u.last_lt t ht
   simp only;omega
  ·simp only;omega
 refine⟨j,Nrm.unique (qT j) (qT h) fun x y=>?_⟩
 have w:s.hi=e.max:=by have:=h.2.1 s (by rw [hs];simp);omega
 rw [vC j y,vC h y,hs,yd,mem_one' s x]
 simp only
 by_cases a:x<=s.lo - 1
 ·have e1:x<=e.max:=by omega
  have e2:¬ s.lo<=x:=by omega
  simp [a,e1,e2]
 ·by_cases B:x<=e.max
  ·have e2:s.lo<=x:=by omega
   have A:x<=s.hi:=by omega
   simp [a,e2,A]
  ·simp [a,B]
where mem_one' (s:Iv) (x:Nat):mem [s] x=(decide (s.lo<=x) && decide (x<=s.hi)):=by simp [mem]
theorem Jl {e:En} (h:zO e) {l:List Iv} {s:Iv} (hs:e.holes=l++[s]) (w:e.max<=s.hi) (u:s.lo=0):kn e=[]:=by
 refine Nrm.unique (qT h) trivial fun x j=>?_
 rw [vC h j,hs,yd]
 by_cases a:x<=e.max
 ·have:mem [s] x=true:=qf.2 ⟨s,by simp,by omega,by omega⟩
  simp [this]
 ·simp [a]
theorem Xb {e:En} (h:zO e) (a:e.holes=[]):YP e:=⟨h,fun s hs=>by rw [a] at hs;cases hs⟩
theorem zcc {e:En} (h:zO e) {l:List Iv} {s:Iv} (hs:e.holes=l++[s]) (u:s.hi<e.max):YP e:=by
 refine⟨h,fun t ht=>?_⟩
 rw [hs] at ht
 have j:Nrm (l++[s]):=hs ▸ h.1
 have w:=NF.lo_ge j s (by simp)
 rcases List.mem_append.1 ht with a | a
 ·have:=j.last_lt t a;omega
 ·simp at a;subst a;exact u
theorem J0 (r:Nat) (l:List Iv):(Qi r l).1.holes.length<=2 * l.length+3:=by
 by_cases h:l=[]
 ·subst h;simp [Qi]
 ·rw [qD h]
  have:=xR zm [⟨0,QV l⟩] l
  simp at this ⊢
  omega
theorem kW (e:En):(kn e).length<=2 * e.holes.length+3:=by
 have:=xR zm [⟨0,e.max⟩] e.holes
 simp at this
 unfold kn;omega
end Go.Proofs.YtonhfknjcbakiaaGreatDoor
namespace Go.Proofs.YtonhfknjcbakiaaGreatDoor
open Go.RowKit
def rdE (j:Nat) (w:World) (b o:Nat) (e:En):Prop:=w.cell? ⟨b,o,none⟩=some (.int .u64 e.rep)/\w.cell? ⟨b,o+1,none⟩=some (.int .u64 e.max)/\(∃ a,w.cell? ⟨b,o+2,none⟩=some a/\RdR 0 j w a e.holes)/\e.rep<M64/\e.max<M64
def RdV (a:Nat) (w:World) (v:Value) (l:List En):Prop:=RdSl 3 (rdE a) 0 a w v l
theorem RdV.keep {j:Nat} {w w':World} {v:Value} {l:List En} (h:RdV j w v l) (hb:∀ k,k<j->w'.heap[k]? = w.heap[k]?):RdV j w' v l:=
 RdSl.keep h (Nat.le_refl _) (Nat.le_refl _) fun b o x _ h2 ⟨c0,c1,⟨hv,c2,c3⟩,c4⟩=>
  ⟨(World.cell?_of_block (a:=⟨b,o,none⟩) (hb b h2)).trans c0,(World.cell?_of_block (a:=⟨b,o+1,none⟩) (hb b h2)).trans c1,⟨hv,(World.cell?_of_block (a:=⟨b,o+2,none⟩) (hb b h2)).trans c2,c3.keep (Nat.le_refl _) (Nat.le_refl _) fun b _ h=>hb b h⟩,c4⟩
def zC (e:En):List Nat:=e.rep::e.max::e.holes.length::e.holes.flatMap fun s=>[s.lo,s.hi]
def zv (v:List En):List Nat:=v.length::v.flatMap zC
def PtE (u a:Nat) (A B:World):Prop:=A.heap.size<=B.heap.size/\∀ k,k<A.heap.size->(k<u\/k=a\/∃ j f t,A.heap[k]? = some (.cells j t f)/\(t = 38 \/ t = 36))->B.heap[k]? = A.heap[k]?
theorem RdV.pt {a u:Nat} {w j:World} {v:Value} {l:List En} (h:RdV a w v l) (y:PtE a u w j) (A:a<=w.heap.size):RdV a j v l:=h.keep fun k hk=>y.2 k (by omega) (.inl hk)
theorem zko (x y z:Int) (w:World):(Instr.index 58 (.agg #[.int .u64 x,.int .u64 y,.int .u64 z]) (.int .i64 0)).run Tryz.prog w=.ok (.int .u64 x) w:=by kernel_rfl
theorem zkp (x y z:Int) (w:World):(Instr.index 58 (.agg #[.int .u64 x,.int .u64 y,.int .u64 z]) (.int .i64 1)).run Tryz.prog w=.ok (.int .u64 y) w:=by kernel_rfl
theorem zkq (x y z:Int) (w:World):(Instr.index 58 (.agg #[.int .u64 x,.int .u64 y,.int .u64 z]) (.int .i64 2)).run Tryz.prog w=.ok (.int .u64 z) w:=by kernel_rfl
theorem zfR {v:List En} {k:Nat} (h:k<v.length):zv v=(v.length::(v.take k).flatMap zC)++zC v[k]++(v.drop (k+1)).flatMap zC:=by
 unfold zv
 conv=>lhs;rw [<-List.take_append_drop k v,List.drop_eq_getElem_cons h,List.flatMap_append,List.flatMap_cons]
 simp
theorem Vt (v:List En) (va:Value) (Bv B:Nat) (W0:World) (hv:RdV B W0 va v) (hb:Boxed W0 Bv 32 va) (aF:B<=W0.heap.size) :
 v7 Tryz.prog 229 #[.pointer (some ⟨Bv,0,none⟩)] (fun x:Nat=>#[.int .u64 x]) (fun _=>False) (PtE B Bv) (zv v) W0:=by
 intro l J Jx hJ aq hY h0
 refine callsIn_wide.2 ?_
 show Calls Tryz.prog 229 #[.func (.yield l) #[] #[],.pointer (some ⟨Bv,0,none⟩)] W0 _
 have HJ:=Lib.hid hJ
 have bj:=Lib.hid aq
 have HY:=Lib.hid hY
 have HV:=Lib.hid hv
 clear hJ aq hY
 have bq:=hv.len
 obtain⟨av,L,rfl,ba,aB,ae⟩:=hv
 unfold maxLen at aB
 have hM:=zw
 have br:IntKind.u64.wrap ((v.length:Nat):Int)=(v.length:Int):=ZR (by omega)
 have aY:=hb.cell
 obtain⟨fn,K,u,H,T,N⟩:=HY.out [] v.length W0 h0 ⟨v.flatMap zC,rfl⟩
 dsimp only at T
 clear hM
 go_enter Tryz.func229,Tryz.ntmps229
 go_upto_region 0 with fail
 refine(wpIn_wide (n:=8)).1 ?_
 gi_wp2
 refine N.mono ?_
 rintro e w1 (⟨rfl,an,V⟩ | ⟨rfl,ar⟩)
 ·gi_wp2
  have az:Boxed w1 Bv 32 (.slice av v.length L):=(V.2 Bv hb.lt (.inr (.inl rfl))).trans hb
  have aj:=Lib.hid (HV.out.pt V aF)
  have aG:B<=w1.heap.size:=Nat.le_trans aF V.1
  have aZ:=az.cell
  clear T N aY hb az h0
  go_wp2_with fail
  go_loopg [17] v.length (fun g x wr=>∃ k:Nat,k<=v.length/\g=v.length - k/\x=.int .i64 k/\J (v.length::(v.take k).flatMap zC) wr/\RdV B wr (.slice av v.length L) v/\B<=wr.heap.size)
  case atStart=>exact⟨0,Nat.zero_le _,rfl,rfl,by simpa using an,aj.out,aG⟩
  case round=>
   obtain⟨k,hk,rfl,rfl,U,aT,bp⟩:=hrel
   obtain⟨wo,bf⟩:∃ wo,wo=wr:=⟨_,rfl⟩
   subst bf
   clear an aj aG V aZ ae
   by_cases X:k<v.length
   ·obtain⟨a',am,ay,_,_,aA⟩:=aT
    obtain⟨b,Y,aU,_,aW,Q⟩:=aA (by intro e;subst e;simp at X)
    obtain⟨rfl,_,rfl⟩:av=a'/\v.length=v.length/\L=am:=by simpa using ay
    subst aU
    obtain⟨c0,c1,⟨hv,c2,ag⟩,bc,be⟩:=Q k X
    have aM:Hid (RdV B wo (.slice (some ⟨b,Y,none⟩) v.length L) v):=⟨_,_,rfl,ba,by unfold maxLen;exact aB,fun _=>⟨b,Y,rfl,Nat.zero_le _,aW,Q⟩⟩
    have HE:Hid (∃ e,e=v[k]):=⟨_,rfl⟩
    obtain⟨e,he⟩:=HE.out
    rw [<-he] at c0 c1 ag bc be
    have HK:=Lib.hid he
    have bn:=ag.len
    obtain⟨ah,w,rfl,aD,af,I⟩:=ag
    unfold maxLen at af
    have bt:IntKind.u64.wrap ((e.holes.length:Nat):Int)=(e.holes.length:Int):=ZR (by rw [zw];omega)
    have HH:Hid (RdR 0 B wo (.slice ah e.holes.length w) e.holes):=⟨_,_,rfl,aD,by unfold maxLen;exact af,I⟩
    clear aA Q he HE ay I
    have HP:Hid (zv v=(v.length::(v.take k).flatMap zC)++zC e++(v.drop (k+1)).flatMap zC):=by show zv v=_;rw [HK.out];exact zfR X
    go_wp2_with fail
    go_loopg [30] 3 (fun g x wr=>((g=3/\x=.int .i64 0/\J (v.length::(v.take k).flatMap zC) wr)\/(g=2/\x=.int .i64 1/\J ((v.length::(v.take k).flatMap zC)++[e.rep]) wr)\/(g=1/\x=.int .i64 2/\J ((v.length::(v.take k).flatMap zC)++[e.rep,e.max]) wr)\/(g=0/\x=.int .i64 3/\J ((v.length::(v.take k).flatMap zC)++[e.rep,e.max,e.holes.length]) wr)) /\
     RdV B wr (.slice (some ⟨b,Y,none⟩) v.length L) v/\B<=wr.heap.size/\wr.heap[wo.heap.size]? = some (.cells #[.int .u64 e.rep,.int .u64 e.max,.slice ah e.holes.length w] 38 (0,0))/\RdR 0 B wr (.slice ah e.holes.length w) e.holes)
    case atStart=>exact⟨.inl ⟨rfl,rfl,HJ.out _ _ _ U ((Keep.refl _ _).alloc _)⟩,aM.out.keep fun j hj=>Below.heap_alloc _ _ _ (by omega),by simp;omega,World.alloc_heap_new _ _,HH.out.keep (Nat.le_refl _) (Nat.le_refl _) fun j _ hj=>Below.heap_alloc _ _ _ (by omega)⟩
    case round=>
     obtain⟨aC,P,E,A,O⟩:=hrel
     clear U
     have i0:=zko
     have i1:=zkp
     have i2:=zkq
     rcases aC with⟨rfl,rfl,C⟩ | ⟨rfl,rfl,C⟩ | ⟨rfl,rfl,C⟩ | ⟨rfl,rfl,C⟩
     ·obtain⟨fn,K,u,H,T,N⟩:=HY.out ((v.length::(v.take k).flatMap zC)) e.rep wr C ⟨e.max::e.holes.length::(e.holes.flatMap fun s=>[s.lo,s.hi])++(v.drop (k+1)).flatMap zC,by rw [HP.out];simp [zC]⟩
      try dsimp only at T
      go_upto_region 7 with fail
      refine(wpIn_wide (n:=8)).1 ?_
      gi_wp2
      refine N.mono ?_
      rintro e' w3 (⟨rfl,F,a⟩ | ⟨rfl,y⟩)
      ·gi_wp2
       go_wp2
       go_roundg 2
       case measure=>omega
       case rel=>exact⟨.inr (.inl ⟨rfl,rfl,by simpa using F⟩),P.pt a E,Nat.le_trans E a.1,(a.2 _ (Array.getElem?_eq_some_iff.1 A).1 (.inr (.inr ⟨_,_,_,A,.inl rfl⟩))).trans A,O.keep (Nat.le_refl _) (Nat.le_refl _) fun j _ hj=>a.2 j (by omega) (.inl hj)⟩
      ·gi_wp2
       go_wp2
       refine bodyPost_ret (results_none rfl _ _ _) rfl ?_
       exact⟨⟨_,rfl⟩,.inr ⟨((v.length::(v.take k).flatMap zC))++[e.rep],⟨e.max::e.holes.length::(e.holes.flatMap fun s=>[s.lo,s.hi])++(v.drop (k+1)).flatMap zC,by rw [HP.out];simp [zC]⟩,y⟩⟩
     ·obtain⟨fn,K,u,H,T,N⟩:=HY.out ((v.length::(v.take k).flatMap zC)++[e.rep]) e.max wr C ⟨e.holes.length::(e.holes.flatMap fun s=>[s.lo,s.hi])++(v.drop (k+1)).flatMap zC,by rw [HP.out];simp [zC]⟩
      try dsimp only at T
      go_upto_region 7 with fail
      refine(wpIn_wide (n:=8)).1 ?_
      gi_wp2
      refine N.mono ?_
      rintro e' w3 (⟨rfl,F,a⟩ | ⟨rfl,y⟩)
      ·gi_wp2
       go_wp2
       go_roundg 1
       case measure=>omega
       case rel=>exact⟨.inr (.inr (.inl ⟨rfl,rfl,by simpa using F⟩)),P.pt a E,Nat.le_trans E a.1,(a.2 _ (Array.getElem?_eq_some_iff.1 A).1 (.inr (.inr ⟨_,_,_,A,.inl rfl⟩))).trans A,O.keep (Nat.le_refl _) (Nat.le_refl _) fun j _ hj=>a.2 j (by omega) (.inl hj)⟩
      ·gi_wp2
       go_wp2
       refine bodyPost_ret (results_none rfl _ _ _) rfl ?_
       exact⟨⟨_,rfl⟩,.inr ⟨((v.length::(v.take k).flatMap zC)++[e.rep])++[e.max],⟨e.holes.length::(e.holes.flatMap fun s=>[s.lo,s.hi])++(v.drop (k+1)).flatMap zC,by rw [HP.out];simp [zC]⟩,y⟩⟩
     ·obtain⟨fn,K,u,H,T,N⟩:=HY.out ((v.length::(v.take k).flatMap zC)++[e.rep,e.max]) e.holes.length wr C ⟨(e.holes.flatMap fun s=>[s.lo,s.hi])++(v.drop (k+1)).flatMap zC,by rw [HP.out];simp [zC]⟩
      try dsimp only at T
      go_upto_region 7 with fail
      refine(wpIn_wide (n:=8)).1 ?_
      gi_wp2
      refine N.mono ?_
      rintro e' w3 (⟨rfl,F,a⟩ | ⟨rfl,y⟩)
      ·gi_wp2
       go_wp2
       go_roundg 0
       case measure=>omega
       case rel=>exact⟨.inr (.inr (.inr (⟨rfl,rfl,by simpa using F⟩))),P.pt a E,Nat.le_trans E a.1,(a.2 _ (Array.getElem?_eq_some_iff.1 A).1 (.inr (.inr ⟨_,_,_,A,.inl rfl⟩))).trans A,O.keep (Nat.le_refl _) (Nat.le_refl _) fun j _ hj=>a.2 j (by omega) (.inl hj)⟩
      ·gi_wp2
       go_wp2
       refine bodyPost_ret (results_none rfl _ _ _) rfl ?_
       exact⟨⟨_,rfl⟩,.inr ⟨((v.length::(v.take k).flatMap zC)++[e.rep,e.max])++[e.holes.length],⟨(e.holes.flatMap fun s=>[s.lo,s.hi])++(v.drop (k+1)).flatMap zC,by rw [HP.out];simp [zC]⟩,y⟩⟩
     ·have d0:wr.cell? ⟨wo.heap.size,2,none⟩=some (.slice ah e.holes.length w):=by simp [World.cell?,A]
      go_wp2_with fail
      go_loopg [41] e.holes.length (fun g x wr=>∃ j:Nat,j<=e.holes.length/\g=e.holes.length - j/\x=.int .i64 j/\J (((v.length::(v.take k).flatMap zC)++[e.rep,e.max,e.holes.length])++(e.holes.take j).flatMap fun s=>[s.lo,s.hi]) wr/\RdV B wr (.slice (some ⟨b,Y,none⟩) v.length L) v/\B<=wr.heap.size/\RdR 0 B wr (.slice ah e.holes.length w) e.holes)
      case atStart=>exact⟨0,Nat.zero_le _,rfl,rfl,by simpa using C,P,E,O⟩
      case round=>
       obtain⟨j,hj,rfl,rfl,ao,ad,aH,aS⟩:=hrel
       clear C P E O d0 A
       obtain⟨M,aI⟩:∃ wo,wo=wr:=⟨_,rfl⟩
       subst aI
       by_cases S:j<e.holes.length
       ·obtain⟨aN,ac,ax,_,_,Z⟩:=aS
        obtain⟨bh,ab,aw,_,aV,G⟩:=Z (by intro e';rw [e'] at S;simp at S)
        obtain⟨rfl,rfl⟩:ah=aN/\w=ac:=by simpa using ax
        subst aw
        obtain⟨c3,c4,s1,s2⟩:=G j S
        obtain⟨s,hs⟩:∃ s,s=e.holes[j]:=⟨_,rfl⟩
        rw [<-hs] at c3 c4 s1 s2
        have HS:=Lib.hid hs
        have aK:Hid (RdR 0 B M (.slice (some ⟨bh,ab,none⟩) e.holes.length w) e.holes):=⟨_,_,rfl,aD,by unfold maxLen;exact af,fun _=>⟨bh,ab,rfl,Nat.zero_le _,aV,G⟩⟩
        clear hs Z G ax
        have aL:=Lib.hid ad
        clear ad
        have aP:=HJ.out _ _ _ ao ((Keep.refl _ M).alloc (.cells #[.int .u64 s.lo,.int .u64 s.hi] 36))
        have HF:Hid (zv v=((v.length::(v.take k).flatMap zC)++[e.rep,e.max,e.holes.length])++((e.holes.take j).flatMap fun s=>[s.lo,s.hi])++[s.lo,s.hi]++(((e.holes.drop (j+1)).flatMap fun s=>[s.lo,s.hi])++(v.drop (k+1)).flatMap zC)):=by
         show zv v=_
         rw [HP.out]
         unfold zC
         conv=>lhs;rw [<-List.take_append_drop j e.holes,List.drop_eq_getElem_cons S,<-HS.out]
         simp
         omega
        obtain⟨fn,K,u,H,T,N⟩:=HY.out (((v.length::(v.take k).flatMap zC)++[e.rep,e.max,e.holes.length])++((e.holes.take j).flatMap fun s=>[s.lo,s.hi])) s.lo _ aP ⟨s.hi::(((e.holes.drop (j+1)).flatMap fun s=>[s.lo,s.hi])++(v.drop (k+1)).flatMap zC),by rw [HF.out];simp only [List.append_assoc,List.cons_append,List.nil_append]⟩
        try dsimp only at T
        go_upto_region 12 with fail
        refine(wpIn_wide (n:=8)).1 ?_
        gi_wp2
        refine N.mono ?_
        rintro e' w3 (⟨rfl,F,a⟩ | ⟨rfl,y⟩)
        ·have aX:w3.heap[M.heap.size]? = some (.cells #[.int .u64 s.lo,.int .u64 s.hi] 36 (0,0)):=(a.2 _ (by simp) (.inr (.inr ⟨_,_,_,World.alloc_heap_new _ _,.inr rfl⟩))).trans (World.alloc_heap_new _ _)
         have bm:w3.cell? ⟨M.heap.size,1,none⟩=some (.int .u64 s.hi):=by simp [World.cell?,aX]
         have bb:B<=w3.heap.size:=Nat.le_trans aH (Nat.le_trans (by simp) a.1)
         have aJ:Hid (∀ q,q<B->w3.heap[q]? = M.heap[q]?):=fun q hq=>(a.2 q (by simp;omega) (.inl hq)).trans (Below.heap_alloc _ _ _ (by omega))
         obtain⟨bl,bi,ak,aO,bg,aR⟩:=HY.out ((((v.length::(v.take k).flatMap zC)++[e.rep,e.max,e.holes.length])++((e.holes.take j).flatMap fun s=>[s.lo,s.hi]))++[s.lo]) s.hi w3 F ⟨(((e.holes.drop (j+1)).flatMap fun s=>[s.lo,s.hi])++(v.drop (k+1)).flatMap zC),by rw [HF.out];simp only [List.append_assoc,List.cons_append,List.nil_append]⟩
         try dsimp only at bg
         clear T N
         gi_wp2
         refine aR.mono ?_
         rintro e2 w4 (⟨rfl,aQ,aE⟩ | ⟨rfl,au⟩)
         ·gi_wp2
          go_wp2
          go_roundg (e.holes.length - (j+1))
          case measure=>omega
          case rel=>
           have ai:∀ q,q<B->w4.heap[q]? = M.heap[q]?:=fun q hq=>(aE.2 q (by omega) (.inl hq)).trans (aJ.out q hq)
           refine⟨j+1,by omega,rfl,by go_num,?_,aL.out.keep ai,Nat.le_trans bb aE.1,aK.out.keep (Nat.le_refl _) (Nat.le_refl _) fun q _ hq=>ai q hq⟩
           rw [List.take_succ_eq_append_getElem S,List.flatMap_append,<-HS.out]
           simpa using aQ
         ·gi_wp2
          go_wp2
          refine bodyPost_ret (results_none rfl _ _ _) rfl ?_
          exact⟨⟨_,rfl⟩,.inr ⟨_,⟨(((e.holes.drop (j+1)).flatMap fun s=>[s.lo,s.hi])++(v.drop (k+1)).flatMap zC),by rw [HF.out];simp only [List.append_assoc,List.cons_append,List.nil_append]⟩,au⟩⟩
        ·gi_wp2
         refine⟨fun f hf=>(by cases hf),?_⟩
         gi_wp2
         go_wp2
         refine bodyPost_ret (results_none rfl _ _ _) rfl ?_
         exact⟨⟨_,rfl⟩,.inr ⟨_,⟨s.hi::(((e.holes.drop (j+1)).flatMap fun s=>[s.lo,s.hi])++(v.drop (k+1)).flatMap zC),by rw [HF.out];simp only [List.append_assoc,List.cons_append,List.nil_append]⟩,y⟩⟩
       ·obtain rfl:j=e.holes.length:=by omega
        go_wp2
        go_roundg (v.length - (k+1))
        case measure=>omega
        case rel=>
         refine⟨k+1,by omega,rfl,by go_num,?_,ad,aH⟩
         rw [List.take_succ_eq_append_getElem X,List.flatMap_append,<-HK.out]
         simpa [zC] using ao
   ·obtain rfl:k=v.length:=by omega
    go_wp2
    refine bodyPost_end (results_none rfl _ _ _) rfl ?_
    rw [List.take_of_length_le (Nat.le_refl _)] at U
    exact⟨⟨_,rfl⟩,.inl U⟩
 ·gi_wp2
  go_wp2
  refine bodyPost_ret (results_none rfl _ _ _) rfl ?_
  exact⟨⟨_,rfl⟩,.inr ⟨[v.length],⟨v.flatMap zC,rfl⟩,ar⟩⟩
end Go.Proofs.YtonhfknjcbakiaaGreatDoor
