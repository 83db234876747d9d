import Derived.Tactics2
import Derived.Defers
import Derived.Recover
import Derived.Laws.Pointers
import Derived.WalkLawsBesides
import Derived.Deep.Cut
import Derived.Test.YtonhfknjcbakiaaGreatDoorB27
import Derived.Test.YtonhfknjcbakiaaGreatDoorB41
import Derived.Test.YtonhfknjcbakiaaGreatDoorB42
set_option maxHeartbeats 16000000
set_option linter.unusedVariables false
set_option linter.unusedSimpArgs false
set_option maxRecDepth 100000
namespace Go.Proofs.YtonhfknjcbakiaaGreatDoor
open Go.RowKit Go.Maps
attribute [-go_sem] z7
def MapS (D:DV) (S:List Nat):Prop:=IsMap D/\∀ r,has D (kR r)=decide (r ∈ S)
theorem MapS.nil:MapS (.map []) []:=⟨⟨[],rfl⟩,fun r=>by simp [has]⟩
theorem MapS.put {D:DV} {S:List Nat} (h:MapS D S) (r:Nat) (v:DV):MapS (D.put (kR r) v) (S++[r]):=by
 refine⟨h.1.put _ _,fun s=>?_⟩
 by_cases e:s=r
 ·subst e
  rw [has_put_same h.1 (Qc _)];simp
 ·rw [has_put_other (fun h=>e (Xa h)),h.2 s];simp [e]
def MI (B:Nat) (w:World) (S:List Nat):Prop:=∃ D,w.ownsMap Tryz.prog 24 rV B S.length D/\MapS D S
theorem MI.made (w:World):MI w.heap.size (w.alloc (.map #[] 0)) []:=⟨_,World.ownsMap_made _ _ _ _,MapS.nil⟩
theorem MI.keep {B:Nat} {w w':World} {S:List Nat} (h:MI B w S) (hb:w'.heap[B]? = w.heap[B]?):MI B w' S:=by
 obtain⟨D,h1,h2⟩:=h
 exact⟨D,yg h1 hb,h2⟩
theorem MI.lt {B:Nat} {w:World} {S:List Nat} (h:MI B w S):B<w.heap.size:=by
 obtain⟨D,h1,_⟩:=h
 exact h1.lt
theorem xe {w:World} {ops:Array Oper} {rest:List Oper} {o:Oper} {a:Act} {Q:Exit->Act->World->Prop} (hg:o.guard=none) (m x v:Operand)
 (hop:o.op=.mapUpdate 245 m x v\/o.op=.insert 245 m x v) {B:Nat} {S:List Nat} (hm:a.eval m=.map (some B)) (h:MI B w S) (hn:S.length<maxLen) {r:Nat} (hr:r<M64) (hx:a.eval x=.int .u64 (r:Nat))
 (hK:∀ w',MI B w' (S++[r])->w.grownBy w' (some B)->wpList Tryz.prog ops Q rest (a.put o.dst undef) w'):wpList Tryz.prog ops Q (o::rest) a w:=by
 obtain⟨D,h1,h2⟩:=h
 refine wpList_plain hg fun K' hK'=>?_
 obtain⟨w',hrun,r1,r2⟩:=h1.update vF Tryz.underlying245 hn (Zq hr) (val:=a.eval v) rfl
 unfold Oper.wp
 rcases hop with hop | hop
 ·simp [execOp,hop,hm,hx,hrun,Result.andThen]
  exact hK' _ _ (hK w' ⟨_,by simpa using r1,h2.put r _⟩ r2)
 ·simp [execOp,hop,hm,hx,hrun,Result.andThen]
  exact hK' _ _ (hK w' ⟨_,by simpa using r1,h2.put r _⟩ r2)
def rdG (n0:Nat) (w:World) (b o:Nat) (f:Fg):Prop:=(∃ hv,w.cell? ⟨b,o,none⟩=some hv/\RdR 0 n0 w hv f.items)/\∃ ad n c,w.cell? ⟨b,o+1,none⟩=some (.slice ad n c)
theorem ze3 {D:Nat->Nat->Prop} {w:World} {x:Value} {k:List Fg} (h:Dat D w x (kp k)) (hD:∀ b o,D b o->b<w.heap.size) (hb:RightK k):RdSl 2 (rdG w.heap.size) 0 w.heap.size w x k:=by
 unfold kp at h
 generalize he:k.map fc=es at h
 cases h with
 | sl a cap sz es o b off u hc hz hm ha hsz hd hx=>
   have hl:es.length=k.length:=by rw [<-he];simp
   refine⟨a,cap,by rw [hl],by omega,hm,fun hne=>?_⟩
   have hpos:0<k.length:=List.length_pos_iff.2 hne
   have g:∀ i (h:i<k.length),es[i]? = some (fc k[i]):=fun i h=>by rw [<-he];exact xo h
   obtain rfl:2=sz:=hsz 0 _ (g 0 hpos)
   have hes:es≠[]:=by intro e;subst e;simp at hl;omega
   have hdlt:b<w.heap.size:=hD _ _ (hd 0 (by omega)).1
   refine⟨b,off,ha hes,Nat.zero_le _,hdlt,fun i hi=>?_⟩
   have e0:=hx i _ 0 _ (g i hi) rfl
   have e1:=hx i _ 1 _ (g i hi) rfl
   have c0:=(hd (i * 2+0) (by omega)).2.1
   have c1:=(hd (i * 2+1) (by omega)).2.1
   obtain⟨ad,c,sz',b',off',f',q,_⟩:=(Rel.dat (ρ:=fun _=>0) (nb:=0) (show Dat D w (u (i * 2+1)) (.sl (k[i].vec.map ec) .sh) from e1)).inv_sl
   rw [q] at c1
   exact⟨⟨_,c0,je e0 hD (hb _ (List.getElem_mem hi)).1.lt⟩,_,_,_,c1⟩
theorem RdG.keep {n0:Nat} {w w':World} {v:Value} {k:List Fg} (h:RdSl 2 (rdG n0) 0 n0 w v k) (hb:∀ j,j<n0->w'.heap[j]? = w.heap[j]?):RdSl 2 (rdG n0) 0 n0 w' v k:=
 RdSl.keep h (Nat.le_refl _) (Nat.le_refl _) fun b o x _ h2 ⟨⟨hv,c0,c1⟩,ad,n,c,c2⟩=>
  ⟨⟨hv,(World.cell?_of_block (a:=⟨b,o,none⟩) (hb b h2)).trans c0,c1.keep (Nat.le_refl _) (Nat.le_refl _) fun b _ h=>hb b h⟩,ad,n,c,(World.cell?_of_block (a:=⟨b,o+1,none⟩) (hb b h2)).trans c2⟩
theorem Ky {k:List Fg} {i:Nat} (hi:i<k.length):CI (k.take (i+1))=CI (k.take i)++z6 k[i].items:=by
 unfold CI
 rw [List.take_succ_eq_append_getElem hi,List.flatMap_append]
 simp
theorem zaV {l:List Iv} {j:Nat} (hj:j<l.length):z6 (l.take (j+1))=z6 (l.take j)++jQ l[j]:=by
 unfold z6
 rw [List.take_succ_eq_append_getElem hj,List.flatMap_append]
 simp
theorem ze0 {s:Iv} (h:s.hi=M64 - 1):jQ s=[s.lo]:=by unfold jQ;rw [if_neg (by omega)]
theorem zcz {s:Iv} (h:s.hi<M64 - 1):jQ s=[s.lo]++[s.hi+1]:=by unfold jQ;rw [if_pos h];rfl
theorem zfO (w:World):Calls Tryz.prog 196 #[.int .u64 18446744073709551615] w fun e w'=>e=.returned (.tuple #[.int .u64 0,.bool false])/\w'=w:=by
 go_enter Tryz.func196,Tryz.ntmps196
 go_wp2
 all_goals (refine bodyPost_ret (results_tmp2 rfl _ _ _) rfl ?_;refine⟨?_,rfl⟩;simp;try omega)
theorem zdr (x:Nat) (hx:x<18446744073709551615) (w:World):Calls Tryz.prog 196 #[.int .u64 (x:Nat)] w fun e w'=>e=.returned (.tuple #[.int .u64 ((x:Int)+1),.bool true])/\w'=w:=by
 go_enter Tryz.func196,Tryz.ntmps196
 go_wp2
 all_goals (refine bodyPost_ret (results_tmp2 rfl _ _ _) rfl ?_;refine⟨?_,rfl⟩;simp;try omega)
theorem zgc (w:World):Calls Tryz.prog 197 #[.int .u64 0] w fun e w'=>e=.returned (.tuple #[.int .u64 0,.bool false])/\w'=w:=by
 go_enter Tryz.func197,Tryz.ntmps197
 go_wp2
 all_goals (refine bodyPost_ret (results_tmp2 rfl _ _ _) rfl ?_;refine⟨?_,rfl⟩;simp;try omega)
theorem VH (x:Nat) (hx:x<18446744073709551615) (w:World):Calls Tryz.prog 197 #[.int .u64 ((x:Int)+1)] w fun e w'=>e=.returned (.tuple #[.int .u64 (x:Nat),.bool true])/\w'=w:=by
 go_enter Tryz.func197,Tryz.ntmps197
 go_wp2
 all_goals (refine bodyPost_ret (results_tmp2 rfl _ _ _) rfl ?_;refine⟨?_,rfl⟩;simp;try omega)
def RgS (B r n:Nat) (S:List Nat) (keep:Nat->Bool) (g:Nat) (left:Lit->Bool) (w:World):Prop:=
 ∃ D,w.ranges Tryz.prog 24 rV B r n D left g/\IsMap D/\(∀ x,has D (kR x)=(decide (x ∈ S) && (left (kR x) || keep x)))/\∀ x,left (kR x)=true->x ∈ S
def GotS (S:List Nat) (left:Lit->Bool) (l:List Nat):Prop:=l.Nodup/\∀ x,x ∈ l ↔ x ∈ S/\left (kR x)=false
theorem zay {left:Lit->Bool} {r x:Nat}:(left (kR r) && !(kR r).sameKey (kR x))=(left (kR r) && !decide (r=x)):=by
 have h:(kR r).sameKey (kR x)=decide (r=x):=by
  simp [kR,Lit.sameKey]
  omega
 rw [h]
section
variable {B r n g x:Nat} {S:List Nat} {kp:Nat->Bool} {left:Lit->Bool} {w:World} {D:DV}
theorem RgS.next (hD:IsMap D) (hh:∀ y,has D (kR y)=(decide (y ∈ S) && (left (kR y) || kp y))) (hl:∀ y,left (kR y)=true->y ∈ S) (hx:left (kR x)=true) (hk:kp x=true)
 (h:w.ranges Tryz.prog 24 rV B r n D (fun z=>left z && !z.sameKey (kR x)) g):RgS B r n S kp g (fun z=>left z && !z.sameKey (kR x)) w:=by
 refine⟨D,h,hD,fun y=>?_,fun y hy=>hl y ?_⟩
 ·dsimp only
  rw [hh y,zay]
  by_cases e:y=x
  ·subst e;simp [hk]
  ·simp [e]
 ·dsimp only at hy
  cases h0:left (kR y) with
  | true=>rfl
  | false=>rw [h0] at hy;simp at hy
theorem RgS.del (hD:IsMap D) (hh:∀ y,has D (kR y)=(decide (y ∈ S) && (left (kR y) || kp y))) (hl:∀ y,left (kR y)=true->y ∈ S) (hk:kp x=false)
 (h:w.ranges Tryz.prog 24 rV B r n (D.del (kR x)) (fun z=>(left z && !z.sameKey (kR x)) && !z.sameKey (kR x)) g):RgS B r n S kp g (fun z=>left z && !z.sameKey (kR x)) w:=by
 rw [Maps.strike_twice] at h
 refine⟨_,h,hD.del _,fun y=>?_,fun y hy=>hl y ?_⟩
 ·dsimp only
  rw [zay]
  by_cases e:y=x
  ·subst e;rw [has_del_same];simp [hk]
  ·rw [has_del_other (fun h=>e (Xa h)),hh y];simp [e]
 ·dsimp only at hy
  cases h0:left (kR y) with
  | true=>rfl
  | false=>rw [h0] at hy;simp at hy
theorem RgS.keep {w':World} (h:RgS B r n S kp g left w) (hb:w'.heap[B]? = w.heap[B]?) (hr:w'.heap[r]? = w.heap[r]?):RgS B r n S kp g left w':=by
 obtain⟨D,h1,h2⟩:=h
 exact⟨D,yD h1 hb hr,h2⟩
theorem GotS.nil (h:∀ y,left (kR y)=true ↔ y ∈ S):GotS S left []:=
 ⟨List.nodup_nil,fun y=>by
  constructor
  ·intro h;cases h
  ·rintro⟨h1,h2⟩
   rw [(h y).2 h1] at h2
   cases h2⟩
theorem GotS.push {l:List Nat} (h:GotS S left l) (hx:left (kR x)=true) (hS:x ∈ S):GotS S (fun z=>left z && !z.sameKey (kR x)) (l++[x]):=by
 refine⟨List.nodup_append.2 ⟨h.1,by simp,fun a ha b hb e=>?_⟩,fun y=>?_⟩
 ·rw [List.mem_singleton] at hb
  rw [e,hb] at ha
  have:=((h.2 x).1 ha).2
  rw [hx] at this
  cases this
 ·dsimp only
  rw [QM,List.mem_append,List.mem_singleton,h.2 y]
  constructor
  ·rintro(⟨h1,h2⟩ | rfl)
   ·exact⟨h1,.inl h2⟩
   ·exact⟨hS,.inr rfl⟩
  ·rintro⟨h1,h2 | h2⟩
   ·exact .inl ⟨h1,h2⟩
   ·exact .inr h2
end
def kpB (k:List Fg) (x:Nat):Bool:=decide (x=0) || !decide (zU k (x - 1)=zU k x)
theorem Yd {k:List Fg} (hr:RightK k) {l:List Nat} (hp:l.Pairwise (·<=·)) (hn:l.Nodup) (hm:∀ x,x ∈ l ↔ x ∈ 0::CI k/\(x=0\/zU k (x - 1)≠zU k x)):l=zq k:=by
 have ha:YN l:=by
  refine(List.pairwise_and_iff.2 ⟨hp,hn⟩).imp ?_
  intro a b h
  have:=h.1
  have:=h.2
  omega
 refine jK ha (xc k) fun x=>?_
 rw [hm,zq,List.mem_filter,zH,qr,yU]
 have e1:(k.map Fg.items).flatMap z6=CI k:=by unfold CI;rw [List.flatMap_map]
 rw [e1]
 simp only [Bool.or_eq_true,decide_eq_true_eq,Bool.not_eq_true']
 refine and_congr_right fun _=>or_congr_right ?_
 rw [ne_eq,Vp,Bool.not_eq_true]
def MemV (C:Nat->Nat->Prop) (l:List Nat) (u:Value) (w:World):Prop:=∃ D:Nat->Nat->Prop,(∀ b o,C b o->D b o)/\(∀ b o,D b o->b<w.heap.size)/\Dat D w u (is l)
theorem MemV.stab {C:Nat->Nat->Prop} {l:List Nat} (u:Value) (w w':World) (h:MemV C l u w) (hk:Keep qe w w'):MemV C l u w':=by
 obtain⟨D,h1,h2,h3⟩:=h
 exact⟨D,h1,fun b o hd=>Nat.lt_of_lt_of_le (h2 b o hd) hk.size,h3.mono (fun _ _ h=>h) fun b o x hd hx=>(World.cell?_of_block (a:=⟨b,o,none⟩) (hk.block b (h2 b o hd) id)).trans hx⟩
theorem Xg {C:Nat->Nat->Prop} {w0 w:World} {k:List Fg} {v:Value} (x:Nat) (hr:RightK k) (hz:SzK k) (hkl:k.length<=1073741824) (hd:Dat C w0 v (kp k)) (hC:∀ b o,C b o->b<w0.heap.size) (hG:GL C w0) (hb:Below w0.heap.size w0 w) :
 Calls Tryz.prog 57 #[v,.int .u64 (x:Nat)] w fun e w'=>∃ u,e=.returned u/\Below w.heap.size w w'/\MemV C (zU k x) u w':=by
 have hw:∀ b o y,C b o->w0.cell? ⟨b,o,none⟩=some y->w.cell? ⟨b,o,none⟩=some y:=fun b o y hc hy=>(World.cell?_of_block (a:=⟨b,o,none⟩) (hb.block b (hC b o hc))).trans hy
 have hC':∀ b o,C b o->b<w.heap.size:=fun b o h=>Nat.lt_of_lt_of_le (hC b o h) hb.size
 refine(jP (K9 k x hr hz hkl) (hG.mono (fun _ _ h=>h) hw) hC' (vs:=#[v,.int .u64 (x:Nat)]) rfl (fun i p hp=>by
  match i,hp with
  | 0,hp=>cases hp;exact hd.mono (fun _ _ h=>h) hw
  | 1,hp=>cases hp;exact .v _
  | i+2,hp=>simp at hp)).mono ?_
 rintro e w' ⟨u,rfl,hb',hd'⟩
 exact⟨u,rfl,hb',_,fun b o h=>.inl h,fun b o h=>h.elim (fun h=>Nat.lt_of_lt_of_le (hC' b o h) hb'.size) And.right,hd'⟩
theorem zgP {C:Nat->Nat->Prop} {w0 w:World} {a b:List Nat} {u v:Value} (r:Bool) (hr:decide (a=b)=r) (ha:a.length<=1152921504606846976) (hC:∀ b o,C b o->b<w0.heap.size) (hG:GL C w0) (hb:Below w0.heap.size w0 w) (hu:MemV C a u w) (hv:MemV C b v w) :
 Calls Tryz.prog 56 #[u,v] w fun e w'=>e=.returned (.bool r)/\Below w.heap.size w w':=by
 subst hr
 obtain⟨D1,p1,p2,p3⟩:=hu
 obtain⟨D2,q1,q2,q3⟩:=hv
 have hw:∀ b o y,C b o->w0.cell? ⟨b,o,none⟩=some y->w.cell? ⟨b,o,none⟩=some y:=fun b o y hc hy=>(World.cell?_of_block (a:=⟨b,o,none⟩) (hb.block b (hC b o hc))).trans hy
 refine(jP (D:=fun b o=>D1 b o\/D2 b o) (zjX a b ha) (hG.mono (fun b o h=>.inl (p1 b o h)) hw) (fun b o h=>h.elim (p2 b o) (q2 b o)) (vs:=#[u,v]) rfl (fun i p hp=>by
  match i,hp with
  | 0,hp=>cases hp;exact p3.mono (fun _ _ h=>.inl h) fun _ _ _ _ h=>h
  | 1,hp=>cases hp;exact q3.mono (fun _ _ h=>.inr h) fun _ _ _ _ h=>h
  | i+2,hp=>simp at hp)).mono ?_
 rintro e w' ⟨r,rfl,hb',hd'⟩
 rw [hd'.v_inv]
 exact⟨rfl,hb'⟩
theorem XJ {k:List Fg} (i:Nat):(CI (k.take i)).length<=(CI k).length:=by
 have:CI k=CI (k.take i)++CI (k.drop i):=by unfold CI;rw [<-List.flatMap_append,List.take_append_drop]
 rw [this,List.length_append];omega
theorem Q0 {l:List Iv} (j:Nat):(z6 (l.take j)).length<=(z6 l).length:=by
 have:z6 l=z6 (l.take j)++z6 (l.drop j):=by unfold z6;rw [<-List.flatMap_append,List.take_append_drop]
 rw [this,List.length_append];omega
theorem XD (C:Nat->Nat->Prop) (k:List Fg) (vk:Value) (w:World) (hr:RightK k) (hz:SzK k) (hkl:k.length<=1073741824) (hT:(CI k).length<=1000000) (rk:Dat C w vk (kp k)) (hC:∀ b o,C b o->b<w.heap.size) (hG:GL C w) :
 Calls Tryz.prog 162 #[vk] w fun e w'=>∃ v,e=.returned v/\Below w.heap.size w w'/\OwnU w.heap.size w' v (zq k):=by
 have hmm:=@run_makeMap Tryz.prog
 have rg:=ze3 rk hC hr
 have RK:=Lib.hid rk
 have RG:=Lib.hid rg
 have HR:=Lib.hid hr
 have HGL:=Lib.hid hG
 obtain⟨aa,ca,rfl,hac,ham,_⟩:=rg
 unfold maxLen at ham
 clear rk hG
 have tokA:True:=trivial
 go_enter Tryz.func162,Tryz.ntmps162
 go_wp2_with (first
  | (have _t:=tokA;refine xe rfl _ _ _ (.inr rfl) rfl (MI.made w) (by decide) (r:=0) xM rfl ?_;clear tokA;intro w1 hmi hg1;dsimp only [Act.put])
  | go_in)
 have hs1:w.heap.size<w1.heap.size:=hmi.lt
 have HB1:Hid (Below w.heap.size w w1):=Lib.hid (((Below.refl _ w).alloc (Nat.le_refl _) (.map #[] 0)).grown hg1 (by simp) fun j hj=>by cases hj;exact Nat.le_refl _)
 have HM1:=Lib.hid hmi
 clear hmi hg1
 go_wp2_with fail
 go_loopg [19] k.length (fun g x wr=>∃ i,i<=k.length/\g=k.length - i/\x=.int .i64 i/\MI w.heap.size wr (0::CI (k.take i))/\Below w.heap.size w wr)
 case atStart=>exact⟨0,Nat.zero_le _,rfl,rfl,by simpa [CI] using HM1.out,HB1.out⟩
 case round=>
  obtain⟨i,hi,rfl,rfl,hmi,hB⟩:=hrel
  clear HM1 HB1 hs1
  have HMI:=Lib.hid hmi
  have HB:=Lib.hid hB
  clear hmi hB
  by_cases hlt:i<k.length
  ·obtain⟨a',cap',hav,_,_,hcl⟩:=id RG.out
   obtain⟨bb,off,hab,_,hbn,hcel⟩:=hcl (by intro e;subst e;simp at hlt)
   obtain⟨rfl,_,rfl⟩:aa=a'/\k.length=k.length/\ca=cap':=by simpa using hav
   subst hab
   obtain⟨⟨hv,c0,hrr⟩,av,nv,cv,c1⟩:=hcel i hlt
   replace c0:=(HB.out.cell (p:=⟨bb,off+i * 2,none⟩) hbn).trans c0
   replace c1:=(HB.out.cell (p:=⟨bb,off+i * 2+1,none⟩) hbn).trans c1
   have HE:Hid (∃ f,f=k[i]):=⟨_,rfl⟩
   obtain⟨f,hf⟩:=HE.out
   rw [<-hf] at hrr
   have HF:=Lib.hid hf
   have hfr:ZS f:=by rw [hf];exact hr _ (List.getElem_mem hlt)
   have HFR:=Lib.hid hfr
   obtain⟨ai,ci,rfl,hic,him,_⟩:=id hrr
   have HRR:=Lib.hid hrr
   have hlen:(CI (k.take i)).length+(z6 f.items).length<=1000000:=by
    have:=XJ (k:=k) (i+1)
    rw [Ky hlt,<-hf,List.length_append] at this
    omega
   clear hcl hcel hav hrr hf HE hfr
   unfold maxLen at him
   obtain⟨wo,hwo⟩:∃ wo,wo=wr:=⟨_,rfl⟩
   subst hwo
   go_wp2_with fail
   go_loopg [26] f.items.length (fun g x wq=>∃ j,j<=f.items.length/\g=f.items.length - j/\x=.int .i64 j/\MI w.heap.size wq (0::CI (k.take i)++z6 (f.items.take j))/\Below w.heap.size w wq)
   case atStart=>exact⟨0,Nat.zero_le _,rfl,rfl,by simpa [z6] using HMI.out.keep (Below.heap_alloc _ _ _ HMI.out.lt),HB.out.alloc HB.out.size _⟩
   case round=>
    obtain⟨j,hj,rfl,rfl,hmq,hbq⟩:=hrel
    have HMQ:=Lib.hid hmq
    have HBQ:=Lib.hid hbq
    clear HMI hmq hbq
    by_cases hjl:j<f.items.length
    ·obtain⟨a',cap',hav,_,_,hcl⟩:=HRR.out.keep (w':=wr) (Nat.le_refl _) (Nat.le_refl _) fun b _ h=>HBQ.out.block b h
     obtain⟨bi,oi,hab,_,hbn,hcel⟩:=hcl (by intro e;rw [e] at hjl;simp at hjl)
     obtain⟨rfl,_,rfl⟩:ai=a'/\f.items.length=f.items.length/\ci=cap':=by simpa using hav
     subst hab
     obtain⟨d0,d1,l0,l1⟩:=hcel j hjl
     obtain⟨s,hs⟩:∃ s,s=f.items[j]:=⟨_,rfl⟩
     have hle:s.lo<=s.hi/\s.hi<M64:=by rw [hs];exact HFR.out.1.ivs2 _ (List.getElem_mem hjl)
     have hct:=zaV hjl
     have hcl2:=Q0 (l:=f.items) (j+1)
     rw [<-hs] at d0 d1 l0 l1 hct
     rw [hct,List.length_append] at hcl2
     have HCT:=Lib.hid hct
     clear hcl hcel hav hs hct
     have tokB:True:=trivial
     have tokC:True:=trivial
     by_cases hlast:s.hi=M64 - 1
     ·have hc1:=ze0 hlast
      have hh:((s.hi:Nat):Int)=18446744073709551615:=by rw [hlast,zw];rfl
      rw [hh] at d1
      have HC1:=Lib.hid hc1
      clear hc1 hlast hh
      have hBl:=HMQ.out.lt
      go_wp2_with (first
       | (at_mapUpdate;have _t:=tokB;refine xe rfl _ _ _ (.inl rfl) rfl (HMQ.out.keep (Below.heap_alloc _ _ _ HMQ.out.lt)) (by simp;unfold maxLen;omega) (r:=s.lo) l0 rfl ?_;clear tokB;intro w2 hm2 hg2
          have hx2:w2.heap[wr.heap.size]? = some (.cells #[.int .u64 s.lo,.int .u64 18446744073709551615] 36 (0,0)):=(hg2.block _ (by simp) (by simp;omega)).trans (World.alloc_heap_new _ _)
          have f2:=(zW hx2 1 _ rfl).1
          have HM2:=Lib.hid hm2;have HG2:=Lib.hid hg2;clear hm2 hg2 hx2;dsimp only [Act.put])
       | (go_at_call 196;refine(zfO _).mono ?_;rintro e w' ⟨rfl,rfl⟩)
       | go_in)
      go_roundg (f.items.length - (j+1))
      case measure=>omega
      case rel=>
       refine⟨j+1,hjl,rfl,by simp,?_,((HBQ.out.alloc HBQ.out.size _).grown HG2.out (by simp;have:=HBQ.out.size;omega) fun j hj=>by cases hj;exact Nat.le_refl _)⟩
       rw [HCT.out,HC1.out,<-List.append_assoc];exact HM2.out
     ·obtain⟨y,hy⟩:∃ y,s.hi=y:=⟨_,rfl⟩
      have hM:=zw
      have hc1:=zcz (s:=s) (by omega)
      rw [hy] at d1 hc1 hlast hle l1
      have HC1:=Lib.hid hc1
      have hy64:y<18446744073709551615:=by omega
      have hy65:y+1<M64:=by omega
      rw [hc1,List.length_append] at hcl2
      simp at hcl2
      clear hc1 hlast hy hM
      have hBl:=HMQ.out.lt
      go_wp2_with (first
       | (at_mapUpdate;have _t:=tokB;refine xe rfl _ _ _ (.inl rfl) rfl (HMQ.out.keep (Below.heap_alloc _ _ _ HMQ.out.lt)) (by simp;unfold maxLen;omega) (r:=s.lo) l0 rfl ?_;clear tokB;intro w2 hm2 hg2
          have hx2:w2.heap[wr.heap.size]? = some (.cells #[.int .u64 s.lo,.int .u64 y] 36 (0,0)):=(hg2.block _ (by simp) (by simp;omega)).trans (World.alloc_heap_new _ _)
          have f2:=(zW hx2 1 _ rfl).1
          have HM2:=Lib.hid hm2;have HG2:=Lib.hid hg2;clear hm2 hg2 hx2;dsimp only [Act.put])
       | (go_at_call 196;refine(zdr y hy64 _).mono ?_;rintro e w' ⟨rfl,rfl⟩)
       | (at_mapUpdate;have _t:=tokC;refine xe rfl _ _ _ (.inl rfl) rfl HM2.out (by simp;unfold maxLen;omega) (r:=y+1) hy65 rfl ?_;clear tokC;intro w3 hm3 hg3;have HM3:=Lib.hid hm3;have HG3:=Lib.hid hg3;clear hm3 hg3;dsimp only [Act.put])
       | go_in)
      go_roundg (f.items.length - (j+1))
      case measure=>omega
      case rel=>
       refine⟨j+1,hjl,rfl,by simp,?_,((HBQ.out.alloc HBQ.out.size _).grown HG2.out (by simp;have:=HBQ.out.size;omega) fun j hj=>by cases hj;exact Nat.le_refl _).grown HG3.out (by have:=HBQ.out.size;have:=HG2.out.size;simp at this;omega) fun j hj=>by cases hj;exact Nat.le_refl _⟩
       have:=HM3.out
       rw [HCT.out,HC1.out]
       simpa using this
    ·obtain rfl:j=f.items.length:=by omega
     rw [List.take_length] at HMQ
     go_wp2_with fail
     go_roundg (k.length - (i+1))
     case measure=>omega
     case rel=>
      refine⟨i+1,hlt,rfl,by simp,?_,HBQ.out⟩
      rw [Ky hlt,<-HF.out]
      exact HMQ.out
  ·obtain rfl:i=k.length:=by omega
   rw [List.take_length] at HMI
   obtain⟨S,hS⟩:∃ S,S=0::CI k:=⟨_,rfl⟩
   rw [<-hS] at HMI
   have hSl:S.length<=1000001:=by rw [hS];simp;omega
   have HS:=Lib.hid hS
   clear hS
   obtain⟨D,hown,hms⟩:=HMI.out
   have hBl:=hown.lt
   have HO:=Lib.hid hown
   have HMS:=Lib.hid hms
   clear hown hms
   obtain⟨wo,hwo⟩:∃ wo,wo=wr:=⟨_,rfl⟩
   subst hwo
   have tokB:True:=trivial
   go_wp2_with (first
    | (at_range;have _t:=tokB;refine wpList_range_own _ rfl _ 245 rfl 24 4 vF Tryz.underlying245 rV w.heap.size S.length D rfl HO.out ?_;intro w2 hrg2 hg2 hs2;clear tokB)
    | go_in)
   go_frame
   have HR2:Hid (RgS w.heap.size wo.heap.size S.length S (kpB k) (Maps.size D) (Maps.has D) w2):=Lib.hid ⟨D,hrg2,HMS.out.1,fun x=>by rw [HMS.out.2 x];simp;exact .inl,fun x h=>by rw [HMS.out.2 x] at h;simpa using h⟩
   have HB2:Hid (Below w.heap.size w w2):=Lib.hid (HB.out.grown hg2 HB.out.size fun j hj=>by cases hj)
   clear hrg2 hg2 HO HMI HMS
   go_loopg [] (Maps.size D) (fun g wr=>∃ left,RgS w.heap.size wo.heap.size S.length S (kpB k) g left wr/\Below w.heap.size w wr)
   case atStart=>exact⟨_,HR2.out,HB2.out⟩
   case round=>
    obtain⟨left,hrs,hB3⟩:=hrel
    obtain⟨D3,hrg,hIM,hhas,hlf⟩:=hrs
    have HRG:=Lib.hid hrg
    have HIM:=Lib.hid hIM
    have HHS:=Lib.hid hhas
    have HLF:=Lib.hid hlf
    have HB3:=Lib.hid hB3
    clear hrg hIM hhas hlf hB3 HR2 HB2
    go_wp2_with (first
     | (at_next;refine wpList_next_ranges _ rfl _ rfl 24 vF rV (fun r:{r:Nat // r<M64}=>Value.int .u64 (r.1:Nat)) (fun c:Value=>c) zhV (fun v y _=>⟨v,rfl⟩) w.heap.size wo.heap.size S.length D3 left gk rfl HRG.out ?_ ?_)
     | go_in)
    ·intro hc0 hl0
     obtain⟨wl,hwl⟩:∃ wl,wl=wr:=⟨_,rfl⟩
     subst hwl
     obtain⟨S2,hS2⟩:∃ S2,S2=S.filter (kpB k):=⟨_,rfl⟩
     have hms2:∀ y,has D3 (kR y)=decide (y ∈ S2):=fun y=>by rw [HHS.out y,hl0,hS2,Bool.false_or];simp [List.mem_filter]
     have hS2l:S2.length<=1000001:=by have:=List.length_filter_le (kpB k) S;rw [<-hS2] at this;omega
     have HM2:=Lib.hid hms2
     have HS2:=Lib.hid hS2
     have hown:=HRG.out.owns
     have HO:=Lib.hid hown
     have hwlw:w.heap.size<wl.heap.size:=hown.lt
     clear hms2 hS2 hown hl0 hc0
     have tokG:True:=trivial
     go_wp2_with (first
      | (at_range;have _t:=tokG;refine wpList_range_own _ rfl _ 245 rfl 24 4 vF Tryz.underlying245 rV w.heap.size S.length D3 rfl HO.out ?_;intro w5 hrg5 hg5 hs5;clear tokG)
      | go_in)
     go_frame
     have HR5:=Lib.hid hrg5
     have HB5:Hid (Below w.heap.size w w5):=Lib.hid (HB3.out.grown hg5 HB3.out.size fun j hj=>by cases hj)
     have hs5':wl.heap.size+1<=w5.heap.size:=by omega
     clear hrg5 hg5
     go_loopg [13] (Maps.size D3) (fun g v wr=>∃ left l,wr.ranges Tryz.prog 24 rV w.heap.size wl.heap.size S.length D3 left g/\GotS S2 left l/\(∀ y,left (kR y)=true->y ∈ S2)/\OwnU (wl.heap.size+1) wr v l/\Below w.heap.size w wr)
     case atStart=>exact⟨_,[],HR5.out,GotS.nil fun y=>by rw [HM2.out y,decide_eq_true_iff],fun y h=>by rw [HM2.out y] at h;simpa using h,World.ownsRow_nil _ _ _ _,HB5.out⟩
     case round=>
      obtain⟨left2,l,hrg,hgot,hlf,hown,hB6⟩:=hrel
      have HRG6:=Lib.hid hrg
      have HGT:=Lib.hid hgot
      have HLF6:=Lib.hid hlf
      have HOW:=Lib.hid hown
      have HB6:=Lib.hid hB6
      have hll:l.length<=1000001:=Nat.le_trans (qM l S2 hgot.1 fun y hy=>((hgot.2 y).1 hy).1) hS2l
      have hrs6:=hrg.lt
      obtain⟨ad,cap,rfl,hlc,hcm,_⟩:=hown.shape
      unfold maxLen at hcm
      clear hrg hgot hlf hown hB6 HR5 HB5
      go_wp2_with (first
       | (at_next;refine wpList_next_ranges _ rfl _ rfl 24 vF rV (fun r:{r:Nat // r<M64}=>Value.int .u64 (r.1:Nat)) (fun c:Value=>c) zhV (fun v y _=>⟨v,rfl⟩) w.heap.size wl.heap.size S.length D3 left2 gk rfl HRG6.out ?_ ?_)
       | go_in)
      ·intro hc0 hl0
       have hmem:∀ y,y ∈ l ↔ y ∈ S2:=fun y=>by rw [HGT.out.2 y,hl0];simp
       have h0l:0 ∈ l:=(hmem 0).2 (by rw [HS2.out,List.mem_filter,HS.out];exact⟨by simp,by simp [kpB]⟩)
       have hlne:l≠[]:=fun e=>by rw [e] at h0l;cases h0l
       obtain⟨l',hperm,hpw,hcall⟩:=zeb HOW.out hlne (by omega)
       have hfin:l'=zq k:=Yd hr hpw (hperm.nodup_iff.2 HGT.out.1) fun y=>by
        rw [hperm.mem_iff,hmem,HS2.out,HS.out,List.mem_filter]
        refine and_congr_right fun _=>?_
        simp [kpB]
       have hob:∀ j,(Value.slice ad l.length cap).ownBlock=some j->wl.heap.size+1<=j:=fun j hj=>(HOW.out.lt j hj).1
       have HFN:=Lib.hid hfin
       have HCL:=Lib.hid hcall
       have HOB:=Lib.hid hob
       clear hmem h0l hlne hperm hpw hfin hcall hl0 hc0 hob
       have tokH:True:=trivial
       go_wp2_with (first
        | (go_at_call 198;have _t:=tokH;refine HCL.out.mono ?_;rintro e w9 ⟨rfl,ho9,hg9⟩;have HO9:=Lib.hid ho9;have HG9:=Lib.hid hg9;clear ho9 hg9 tokH)
        | go_in)
       refine bodyPost_ret (results_tmp rfl _ _ _) rfl ?_
       exact⟨_,rfl,HB6.out.grown HG9.out HB6.out.size fun j hj=>by have:=HOB.out j hj;omega,by rw [<-HFN.out];exact HO9.out.base (by omega)⟩
      ·intro x hx c kl y ys w7 cnt7 hkey hlk hv hat hrg7 hlt7 hg7 hs7 hen
       try dsimp only at hkey hen ⊢
       obtain rfl:kl=kR x:=by
        have:=(Zq hx).symm.trans hkey
        simpa using this.symm
       have HRG7:=Lib.hid hrg7
       have HG7:=Lib.hid hg7
       have HS7:=Lib.hid hs7
       have hs7w:wl.heap.size+1<=w7.heap.size:=by omega
       have HLK:=Lib.hid hlk
       obtain⟨i0,hi0,hz0,hz1,hz2⟩:=info_parts Vf
       have HO7:Hid (OwnU (wl.heap.size+1) (w7.alloc (.cells #[.int .u64 (x:Nat)] 24)) (.slice ad l.length cap) l):=Lib.hid (HOW.out.keep fun g hg=>by
        have h1:=HOW.out.lt g hg
        rw [Below.heap_alloc _ _ _ (by rw [HS7.out];exact h1.2),HG7.out.block g h1.2 (fun e=>by cases e;omega)])
       have hnb:=World.alloc_heap_new w7 (.cells #[.int .u64 (x:Nat)] 24 (0,0))
       clear hkey hv hat hrg7 hg7 hlk hs7
       have tokH:True:=trivial
       go_wp2_with (first
        | (at_builtin;have _t:=tokH;refine wpList_append_own_at _ rfl _ _ 157 rfl (wl.heap.size+1) 24 i0 (.int .u64 0) 1 8 Tryz.underlying157 hi0 hz0 hz1 hz2 rfl (by decide) _ _ _ rfl HO7.out ⟨w7.heap.size,0,none⟩ 1 1 [.int .u64 (x:Nat)] rfl rfl (kw (cs:=#[.int .u64 (x:Nat)]) (t := 24) (fr:=(0,0)) hnb) (by simp [Value.oneCell']) (by unfold maxLen;omega) (by omega) (by simp;omega) ?_;intro v' w8 ho hgr _ _;clear tokH;have HO8:=Lib.hid ho;have HG8:=Lib.hid hgr;clear ho hgr)
        | go_in)
       have hob:∀ j,(Value.slice ad l.length cap).ownBlock=some j->wl.heap.size+1<=j:=fun j hj=>(HOW.out.lt j hj).1
       have hb78:∀ j,j<wl.heap.size+1->w8.heap[j]? = w7.heap[j]?:=fun j hj=>by
        rw [HG8.out.block j (by simp;omega) (fun e=>by have:=hob j e.symm;omega),Below.heap_alloc _ _ _ (by omega)]
       go_roundg cnt7
       case measure=>exact hlt7
       case rel=>
        refine⟨_,l++[x],yD HRG7.out (hb78 _ (by omega)) (hb78 _ (by omega)),HGT.out.push HLK.out (HLF6.out _ HLK.out),fun r h=>?_,?_,?_⟩
        ·exact HLF6.out r (by cases h0:left2 (kR r) with | true=>rfl | false=>rw [h0] at h;simp at h)
        ·have:=HO8.out
         unfold OwnU
         simpa [uV] using this
        ·exact((HB6.out.grown HG7.out HB6.out.size fun j hj=>by cases hj;omega).alloc (by have:=HG7.out.size;have:=HB6.out.size;omega) _).grown HG8.out (by simp;have:=HB6.out.size;omega) fun j hj=>by have:=hob j hj;omega
    ·intro x hx c kl y ys w3 cnt3 hkey hlk hv hat hrg3 hlt hg3 hs3 hen
     try dsimp only at hkey hen ⊢
     obtain rfl:kl=kR x:=by
      have:=(Zq hx).symm.trans hkey
      simpa using this.symm
     have HRG3:=Lib.hid hrg3
     have HB4:Hid (Below w.heap.size w w3):=Lib.hid (HB3.out.grown hg3 HB3.out.size fun j hj=>by cases hj;exact HB.out.size)
     have HLK:=Lib.hid hlk
     clear hkey hv hat hrg3 hg3 hlk
     cases x with
     | zero=>
       go_wp2_with (first | (go_at_call 197;refine(zgc _).mono ?_;rintro e w' ⟨rfl,rfl⟩) | go_in)
       go_roundg cnt3
       case measure=>exact hlt
       case rel=>exact⟨_,RgS.next HIM.out HHS.out HLF.out HLK.out (by simp [kpB]) HRG3.out,HB4.out⟩
     | succ x=>
       have hx64:x<18446744073709551615:=by have:=zw;omega
       have hml:(zU k x).length<=1152921504606846976:=by
        have h1:=Zg x 0 k
        unfold zU
        rw [List.length_map]
        omega
       have tokC:True:=trivial
       have tokD:True:=trivial
       have tokE:True:=trivial
       have tokF:True:=trivial
       by_cases heq:zU k x=zU k (x+1)
       ·have HQ:=Lib.hid (show decide (zU k x=zU k (x+1))=true from decide_eq_true heq)
        have HKB:=Lib.hid (show kpB k (x+1)=false by simp [kpB,heq])
        clear heq
        go_wp2_with (first
         | (go_at_call 197;refine(VH x hx64 _).mono ?_;rintro e w' ⟨rfl,rfl⟩)
         | (go_at_call 57;have _t:=tokC;refine(Xg x hr hz hkl RK.out hC HGL.out HB4.out).mono ?_;rintro e w4 ⟨u1,rfl,hb1,hm1⟩;have HB5:=Lib.hid hb1;have HM5:=Lib.hid hm1;clear hb1 hm1 tokC)
         | (go_at_call 57;have _t:=tokD;refine(Xg (x+1) hr hz hkl RK.out hC HGL.out (HB4.out.trans (HB5.out.mono HB4.out.size))).mono ?_;rintro e w5 ⟨u2,rfl,hb1,hm1⟩;have HB6:=Lib.hid hb1;have HM6:=Lib.hid hm1;clear hb1 hm1 tokD)
         | (go_at_call 56;have _t:=tokE;refine(zgP true HQ.out hml hC HGL.out ((HB4.out.trans (HB5.out.mono HB4.out.size)).trans (HB6.out.mono ((HB4.out.trans (HB5.out.mono HB4.out.size)).size))) (HM5.out.stab _ _ _ (Keep.of_below' HB6.out (Nat.le_refl _))) HM6.out).mono ?_;rintro e w6 ⟨rfl,hb1⟩;have HB7:=Lib.hid (((Below.refl _ _).trans HB5.out).trans ((HB6.out.mono HB5.out.size).trans (hb1.mono (Nat.le_trans HB5.out.size HB6.out.size))));clear hb1 tokE)
         | (at_delete;have _t:=tokF;refine wpList_delete_ranges _ rfl _ _ 245 24 rfl 4 vF Tryz.underlying245 rV w.heap.size wo.heap.size S.length D3 _ cnt3 rfl (yD HRG3.out (HB7.out.block _ (Nat.lt_trans hBl HRG3.out.lt)) (HB7.out.block _ HRG3.out.lt)) _ (kR (x+1)) rfl (Zq hx) ?_;intro w7 cnt4 hrg7 hle7 hturn;clear tokF;have HRG7:=Lib.hid hrg7;have HG7:=Lib.hid hturn.grown;clear hrg7 hturn;dsimp only [Act.put])
         | go_in)
        go_roundg cnt4
        case measure=>omega
        case rel=>exact⟨_,RgS.del HIM.out HHS.out HLF.out HKB.out HRG7.out,(HB4.out.trans (HB7.out.mono HB4.out.size)).grown HG7.out (HB4.out.trans (HB7.out.mono HB4.out.size)).size fun j hj=>by cases hj;exact Nat.le_refl _⟩
       ·have HQ:=Lib.hid (show decide (zU k x=zU k (x+1))=false from decide_eq_false heq)
        have HKB:=Lib.hid (show kpB k (x+1)=true by simp [kpB,heq])
        clear heq
        go_wp2_with (first
         | (go_at_call 197;refine(VH x hx64 _).mono ?_;rintro e w' ⟨rfl,rfl⟩)
         | (go_at_call 57;have _t:=tokC;refine(Xg x hr hz hkl RK.out hC HGL.out HB4.out).mono ?_;rintro e w4 ⟨u1,rfl,hb1,hm1⟩;have HB5:=Lib.hid hb1;have HM5:=Lib.hid hm1;clear hb1 hm1 tokC)
         | (go_at_call 57;have _t:=tokD;refine(Xg (x+1) hr hz hkl RK.out hC HGL.out (HB4.out.trans (HB5.out.mono HB4.out.size))).mono ?_;rintro e w5 ⟨u2,rfl,hb1,hm1⟩;have HB6:=Lib.hid hb1;have HM6:=Lib.hid hm1;clear hb1 hm1 tokD)
         | (go_at_call 56;have _t:=tokE;refine(zgP false HQ.out hml hC HGL.out ((HB4.out.trans (HB5.out.mono HB4.out.size)).trans (HB6.out.mono ((HB4.out.trans (HB5.out.mono HB4.out.size)).size))) (HM5.out.stab _ _ _ (Keep.of_below' HB6.out (Nat.le_refl _))) HM6.out).mono ?_;rintro e w6 ⟨rfl,hb1⟩;have HB7:=Lib.hid (((Below.refl _ _).trans HB5.out).trans ((HB6.out.mono HB5.out.size).trans (hb1.mono (Nat.le_trans HB5.out.size HB6.out.size))));clear hb1 tokE)
         | go_in)
        go_roundg cnt3
        case measure=>exact hlt
        case rel=>exact⟨_,(RgS.next HIM.out HHS.out HLF.out HLK.out HKB.out HRG3.out).keep (HB7.out.block _ (Nat.lt_trans hBl HRG3.out.lt)) (HB7.out.block _ HRG3.out.lt),HB4.out.trans (HB7.out.mono HB4.out.size)⟩
end Go.Proofs.YtonhfknjcbakiaaGreatDoor
namespace Go.Proofs.YtonhfknjcbakiaaGreatDoor
open Go.RowKit
theorem zaG (k:List Fg) (hr:RightK k) (hz:SzK k) (hkl:k.length<=1073741824) (hT:(CI k).length<=1000000):Cn Tryz.prog 162 [kp k] (ns (zq k)):=by
 refine yZ rfl (enters_of Tryz.func162 (by kernel_rfl) rfl) fun D w vs hG hD hsz hd=>?_
 rw [KB hsz]
 refine(XD D k _ w hr hz hkl hT (hd 0 _ rfl) hD hG).mono ?_
 rintro e w' ⟨v,rfl,hb,ho⟩
 exact⟨v,rfl,hb,vL ho fun b o h1 h2=>.inr ⟨h1,h2⟩⟩
noncomputable def Vy (k:List Fg) (j:Nat):List Iv:=((y4 k).take j).filter fun s=>decide (0<(zU k s.lo).length)
theorem Vz (k:List Fg) {j:Nat} (h:(zq k).length<=j):Vy k j=zu k:=by
 unfold Vy zu
 rw [List.take_of_length_le (by unfold y4;rw [vO];exact h)]
theorem VB (k:List Fg) (j:Nat):(Vy k j).length<=j:=Nat.le_trans (List.length_filter_le _ _) (List.length_take_le _ _)
theorem YE {k:List Fg} {j:Nat} (h:j<(zq k).length):Vy k (j+1)=Vy k j++if zU k (zq k)[j]=[] then [] else [⟨(zq k)[j],if h:j+1<(zq k).length then (zq k)[j+1] - 1 else M64 - 1⟩]:=by
 have hc:j<(y4 k).length:=by unfold y4;rw [vO];exact h
 unfold Vy
 rw [List.take_succ_eq_append_getElem hc,List.filter_append]
 congr 1
 have hg:(y4 k)[j]=⟨(zq k)[j],if h:j+1<(zq k).length then (zq k)[j+1] - 1 else M64 - 1⟩:=Vx _ _ h
 rw [hg]
 by_cases h0:zU k (zq k)[j]=[]
 ·rw [if_pos h0];simp [h0]
 ·rw [if_neg h0];simp [List.length_pos_iff.2 h0]
theorem ZE {k:List Fg} (hr:RightK k) {j:Nat} (h:j+1<(zq k).length):1<=(zq k)[j+1]/\(zq k)[j+1]<M64:=by
 refine⟨?_,x7 hr _ (List.getElem_mem h)⟩
 have:=List.pairwise_iff_getElem.1 (xc k) j (j+1) (by omega) h (by omega)
 omega
theorem zdF (k:List Fg) (hr:RightK k) (hz:SzK k) (hkl:k.length<=1073741824) (hT:(CI k).length<=1000000):Cn Tryz.prog 116 [kp k] (rg (zu k)):=by
 have hsl:=vY k
 have hM:=zw
 refine zt Tryz.func116 1 ?_
 refine pw ?_
 refine .c (zaG k hr hz hkl hT) ?_
 refine pLoop.go (fun j=>j<=(zq k).length) (fun j=>[(3,.sl ((Vy k j).map Q2) (.r 38 2)),(12,.v (.int .i64 (j:Nat)))]) (fun _=>[]) (fun j=>(zq k).length - j) 0 [3,12] ?_ ?_ ?_
 ·exact Nat.zero_le _
 ·refine pw ?_
  rfl
 ·rintro j hj
  have hpl:=VB k j
  refine pw ?_
  refine .i ?_ ?_<;>intro h<;>(try simp only [zb] at h)<;>first | refine pw ?_ | exact pd
  ·have hst:=YE h
   have hlt:=x7 hr _ (List.getElem_mem h)
   refine pw ?_
   refine .c (K9 k (zq k)[j] hr hz hkl) ?_
   refine .i ?_ ?_<;>intro h2<;>(try simp only [zb] at h2)<;>first | refine pw ?_ | exact pd
   ·rw [if_pos h2,List.append_nil] at hst
    exact⟨j+1,h,by omega,by rw [hst],rfl⟩
   ·rw [if_neg h2] at hst
    refine .i ?_ ?_<;>intro h3<;>(try simp only [zb] at h3)<;>first | refine pw ?_ | exact pd
    ·obtain⟨n1,n2⟩:=ZE hr h3
     rw [dif_pos h3] at hst
     refine pw ?_
     refine⟨j+1,h,by omega,?_,rfl⟩
     rw [hst]
     simp [Q2]
    ·rw [dif_neg (by omega)] at hst
     refine pw ?_
     refine⟨j+1,h,by omega,?_,rfl⟩
     rw [hst]
     simp [Q2,hM]
  ·rw [Vz k (by omega)]
theorem QG (f:Fg) (r:List Fg) (x y:Nat):qX (f::r) x y=((mem f.items x == mem f.items y) && qX r x y):=rfl
theorem Ke (k:List Fg) (x y:Nat) (hz:SzK k):Cn Tryz.prog 172 [kp k,.v (.int .u64 x),.v (.int .u64 y)] (.v (.bool (qX k x y))):=by
 have hl:=hz.1
 refine zt Tryz.func172 3 ?_
 refine pw ?_
 refine pLoop.go (fun j=>j<=k.length/\qX k x y=qX (k.drop j) x y) (fun j=>[(7,.v (.int .i64 (j:Nat)))]) (fun _=>[]) (fun j=>k.length - j) 0 [7] ?_ ?_ ?_
 ·exact⟨Nat.zero_le _,rfl⟩
 ·exact pd
 ·rintro j ⟨hj,hm⟩
  refine pw ?_
  refine .i ?_ ?_<;>intro h<;>(try simp only [zb] at h)<;>first | refine pw ?_ | exact pd
  ·rw [List.drop_eq_getElem_cons h] at hm
   have hzj:=hz.2 _ (List.getElem_mem h)
   refine pw ?_
   refine .c (kU k[j].items x hzj.1) ?_
   refine .c (kU k[j].items y hzj.1) ?_
   refine .i ?_ ?_<;>intro h2<;>(try simp only [zb] at h2)<;>first | refine pw ?_ | exact pd
   ·rw [hm,QG,h2,Bool.false_and]
   ·refine⟨j+1,⟨h,?_⟩,by omega,rfl⟩
    rw [hm,QG,h2,Bool.true_and]
  ·rw [hm,List.drop_of_length_le (by omega)]
   rfl
def zbb (k:List Fg) (l:List Nat):List Nat:=l.filter fun x=>decide (x=0) || !qX k (x - 1) x
theorem zbc (k:List Fg) {l:List Nat} {j:Nat} (h:j<l.length):zbb k (l.take (j+1))=zbb k (l.take j)++if (decide (l[j]=0) || !qX k (l[j] - 1) l[j])=true then [l[j]] else []:=by
 unfold zbb
 rw [List.take_succ_eq_append_getElem h,List.filter_append]
 congr 1
 by_cases h0:(decide (l[j]=0) || !qX k (l[j] - 1) l[j])=true
 ·rw [if_pos h0];simp only [List.filter_cons,List.filter_nil];exact if_pos h0
 ·rw [if_neg h0];simp only [List.filter_cons,List.filter_nil];exact if_neg h0
theorem zc7 (k:List Fg) (l:List Nat) (j:Nat):(zbb k (l.take j)).length<=j:=Nat.le_trans (List.length_filter_le _ _) (List.length_take_le _ _)
theorem Ya (k:List Fg) (hr:RightK k) (hz:SzK k) (hkl:k.length<=1048576) (hT:(CI k).length<=1000000) (hi:∀ f ∈ k,f.items.length<=1048576):Cn Tryz.prog 130 [kp k] (ns (zq k)):=by
 have hM:=zw
 have hsl:(zH (k.map Fg.items)).length<=1048576:=by
  have h2:(zH (k.map Fg.items)).length<=(yU (k.map Fg.items)).length:=ju _
  have h3:(yU (k.map Fg.items)).length=1+(CI k).length:=by unfold yU CI;rw [List.length_cons,List.flatMap_map];omega
  omega
 have hlt:∀ x ∈ zH (k.map Fg.items),x<M64:=fun x hx=>Ze (fun l hl s hs=>by
  obtain⟨f,hf,rfl⟩:=List.mem_map.1 hl
  have:=NF.lo_ge (hr f hf).1 s hs
  omega) x hx
 have hcs:=VX (k.map Fg.items) (by simp;omega) (fun l hl=>by
  obtain⟨f,hf,rfl⟩:=List.mem_map.1 hl
  exact hi f hf) (by unfold yU;rw [List.length_cons,List.flatMap_map];unfold CI at hT;omega) (fun l hl=>by
  obtain⟨f,hf,rfl⟩:=List.mem_map.1 hl
  exact(hr f hf).1.lt)
 rw [show rgs (k.map Fg.items)=.sl (k.map fun f=>[rg f.items]) .sh by unfold rgs;rw [List.map_map];rfl] at hcs
 refine zt Tryz.func130 1 ?_
 refine pw ?_
 refine pLoop.go (fun j=>j<=k.length) (fun j=>[(3,.sl ((k.take j).map fun f=>[rg f.items]) (.r 21 1)),(4,.v (.int .i64 (j:Nat)))]) (fun _=>[]) (fun j=>k.length - j) 0 [3,4] ?_ ?_ ?_
 ·exact Nat.zero_le _
 ·exact pd
 ·rintro j hj
  refine pw ?_
  refine .i ?_ ?_<;>intro h<;>(try simp only [zb] at h)<;>first | refine pw ?_ | exact pd
  ·refine⟨j+1,h,by omega,?_,rfl⟩
   rw [List.take_succ_eq_append_getElem h,List.map_append]
   rfl
  ·rw [show k.take j=k from List.take_of_length_le (by omega)]
   (first | refine .rd (hcs) rfl ?_ | refine .mk (hcs) rfl ?_)
   obtain⟨l,hl⟩:∃ l,l=zH (k.map Fg.items):=⟨_,rfl⟩
   rw [<-hl] at hsl hlt ⊢
   have hfin:zbb k l=zq k:=by rw [hl];rfl
   refine pw ?_
   refine pLoop.go (fun j=>j<=l.length) (fun j=>[(6,.sl ((zbb k (l.take j)).map yN) (.r 55 1)),(7,.v (.int .i64 (j:Nat)))]) (fun _=>[]) (fun j=>l.length - j) 0 [6,7] ?_ ?_ ?_
   ·exact Nat.zero_le _
   ·refine pw ?_
    rfl
   ·rintro j hj
    have hkl2:=zc7 k l j
    refine pw ?_
    refine .i ?_ ?_<;>intro h<;>(try simp only [zb] at h)<;>first | refine pw ?_ | exact pd
    ·have hst:=zbc k h
     have hx:=hlt _ (List.getElem_mem h)
     refine .i ?_ ?_<;>intro h0<;>(try simp only [zb] at h0)<;>first | refine pw ?_ | exact pd
     ·rw [if_pos (by simp [h0])] at hst
      refine⟨j+1,h,by omega,?_,rfl⟩
      rw [hst]
      simp [yN]
     ·refine .c (Ke k (l[j] - 1) l[j] hz) ?_
      refine .i ?_ ?_<;>intro h2<;>(try simp only [zb] at h2)<;>first | refine pw ?_ | exact pd
      ·rw [if_pos (by rw [h2];simp)] at hst
       refine⟨j+1,h,by omega,?_,rfl⟩
       rw [hst]
       simp [yN]
      ·rw [if_neg (by rw [h2];simpa using h0),List.append_nil] at hst
       exact⟨j+1,h,by omega,by rw [hst],rfl⟩
    ·rw [show l.take j=l from List.take_of_length_le (by omega),hfin]
theorem VT (k:List Fg) (hr:RightK k) (hz:SzK k) (hkl:k.length<=1048576) (hT:(CI k).length<=1000000) (hst:Cn Tryz.prog 130 [kp k] (ns (zq k))):Cn Tryz.prog 87 [kp k] (rg (zu k)):=by
 have hsl:=vY k
 have hM:=zw
 refine zt Tryz.func87 1 ?_
 refine pw ?_
 (first | refine .c (hst) ?_ | refine .o (hst) ?_)
 refine pLoop.go (fun j=>j<=(zq k).length) (fun j=>[(4,.sl ((Vy k j).map Q2) (.r 27 2)),(5,.v (.int .i64 (j:Nat)))]) (fun _=>[]) (fun j=>(zq k).length - j) 0 [4,5] ?_ ?_ ?_
 ·exact Nat.zero_le _
 ·refine pw ?_
  rfl
 ·rintro j hj
  have hpl:=VB k j
  refine pw ?_
  refine .i ?_ ?_<;>intro h<;>(try simp only [zb] at h)<;>first | refine pw ?_ | exact pd
  ·have hst:=YE h
   have hlt:=x7 hr _ (List.getElem_mem h)
   refine pw ?_
   refine .c (Kd k (zq k)[j] hz (by omega)) ?_
   refine .i ?_ ?_<;>intro h2<;>(try simp only [zb] at h2)<;>first | refine pw ?_ | exact pd
   ·refine .c (zan (zq k) j h (by omega) (fun h=>ZE hr h)) ?_
    rw [if_neg (by intro e;rw [e] at h2;simp at h2)] at hst
    refine⟨j+1,h,by omega,?_,rfl⟩
    rw [hst]
    simp [Q2]
   ·rw [if_pos (by simpa using h2),List.append_nil] at hst
    exact⟨j+1,h,by omega,by rw [hst],rfl⟩
  ·rw [Vz k (by omega)]
structure Ok12 (C:Nat->List Nat) (R:List Nat) (k:List Fg):Prop where
 r:RightK k
 z:SzK k
 l:k.length<=1048576
 t:(CI k).length<=1000000
 i:∀ f ∈ k,f.items.length<=1048576
 ik:IK C R k
 ok:OkC C R
 s:∀ f ∈ k,SmV f.vec
noncomputable def zij (k:List Fg) (s:Iv):Fg:=⟨[s],qc k s.lo⟩
theorem zil (k:List Fg) {j:Nat} (h:j<(zu k).length):((zu k).take (j+1)).map (fun s=>fc (zij k s))=((zu k).take j).map (fun s=>fc (zij k s))++[fc (zij k (zu k)[j])]:=by
 rw [List.take_succ_eq_append_getElem h,List.map_append];rfl
theorem zjf (k:List Fg) {j:Nat} (h:(zu k).length<=j):((zu k).take j).map (fun s=>fc (zij k s))=(jq k).map fc:=by
 rw [List.take_of_length_le h];unfold jq;rw [List.map_map];rfl
theorem ziJ {C:Nat->List Nat} {R:List Nat} (k:List Fg) (h12:Ok12 C R k):Cn Tryz.prog 75 [kp k] (kp (jq k)):=by
 have hpl:=xW k
 have h12t:=h12.t
 refine zt Tryz.func75 1 ?_
 refine pw ?_
 refine .c (zdF k h12.r h12.z (by have:=h12.l;omega) h12.t) ?_
 refine pLoop.go (fun j=>j<=(zu k).length) (fun j=>[(3,.sl (((zu k).take j).map (fun s=>fc (zij k s))) (.r 22 2)),(9,.v (.int .i64 (j:Nat)))]) (fun _=>[]) (fun j=>(zu k).length - j) 0 [3,9] ?_ ?_ ?_
 ·exact Nat.zero_le _
 ·exact pd
 ·rintro j hj
  refine pw ?_
  refine .i ?_ ?_<;>intro h<;>(try simp only [zb] at h)<;>first | refine pw ?_ | exact pd
  ·have hst:=zil k h
   refine .c (zgU k (zu k)[j].lo h12.ik h12.ok h12.r h12.s h12.z) ?_
   refine cutP.full rfl ?_ rfl ?_ ?_
   ·exact pd
   ·exact pd
   ·refine pw ?_
    exact⟨j+1,h,by omega,hst.symm,rfl⟩
  ·exact zjf k (by omega)
def OkX (C:Nat->List Nat) (R:List Nat):Prop:=(∀ r,(C r).length<=9000)/\R.length<=1000
theorem OkX.c {C:Nat->List Nat} {R:List Nat} (h:OkX C R):OkC C R:=⟨h.1,by have:=h.2;omega⟩
structure Kn (C:Nat->List Nat) (R:List Nat) (n:Nat) (k:List Fg):Prop where
 r:RightK k
 ik:IK C R k
 s:∀ f ∈ k,SmV f.vec
 m:qE k<=n
 l:k.length<=n
theorem Kn.z {C:Nat->List Nat} {R:List Nat} {n:Nat} {k:List Fg} (h:Kn C R n k) (hn:n<=400000):SzK k:=
 ⟨by have:=h.l;omega,fun f hf=>⟨by have:=yv hf;have:=h.m;omega,by have:=(h.s f hf).2.1;omega,fun e he=>by have:=(h.s f hf).2.2 e he;omega⟩⟩
theorem Kn.ok12 {C:Nat->List Nat} {R:List Nat} {n:Nat} {k:List Fg} (h:Kn C R n k) (ok:OkX C R) (hn:n<=400000):Ok12 C R k:=
 ⟨h.r,h.z hn,by have:=h.l;omega,by have:=YO k;have:=h.m;omega,fun f hf=>by have:=yv hf;have:=h.m;omega,h.ik,ok.c,h.s⟩
theorem Kn.mono {C C':Nat->List Nat} {R R':List Nat} {n m:Nat} {k:List Fg} (h:Kn C R n k) (hC:∀ r x,x ∈ C r->x ∈ C' r) (hR:∀ x ∈ R,x ∈ R') (hn:n<=m):Kn C' R' m k:=
 ⟨h.r,fun f hf=>(h.ik f hf).mono hC hR,h.s,by have:=h.m;omega,by have:=h.l;omega⟩
theorem V1:∀ {k:List Fg},(∀ f ∈ k,f.items.length<=20)->qE k<=k.length * 20
 | [],_=>Nat.zero_le _
 | f::k,h=>by
   have h1:=V1 (k:=k) fun g hg=>h g (by simp [hg])
   have h2:=h f (by simp)
   simp only [qE,List.length_cons];omega
theorem Kn.few {k:List Fg} (h:vx k=true) (hr:RightK k):Kn (CK k) (RK k) 240 k:=by
 have h1:=X3 h
 have h2:=V1 fun f hf=>(h1.2 f hf).1
 exact⟨hr,hr.ik,fun f hf=>zfh h hr hf,by omega,by omega⟩
theorem Kn.refine {C:Nat->List Nat} {R:List Nat} {n:Nat} {k:List Fg} (h:Kn C R n k) (ok:OkX C R):Kn C R (1+2 * n) (jq k):=by
 have h1:=xW k
 have h2:=YO k
 have h3:=h.m
 have hw:=h.ik.refine
 refine⟨Yb h.r,fun f hf=>(hw f hf).iv,fun f hf=>(hw f hf).smv ok.c,?_,?_⟩
 ·unfold jq;rw [Zf];omega
 ·unfold jq;rw [List.length_map];omega
theorem Kn.group {C:Nat->List Nat} {R:List Nat} {n:Nat} {k:List Fg} (h:Kn C R n k) (ok:OkX C R):Kn C R n (zL k):=by
 have h1:=jU h.r
 have hw:∀ g ∈ zL k,WV C R g.vec:=fun g hg=>by
  obtain⟨f,hf,e⟩:=h1.2.2 g hg
  rw [e]
  exact(h.ik f hf).canVec
 exact⟨(vB h.r).right,fun g hg=>(hw g hg).iv,fun g hg=>(hw g hg).smv ok.c,by have:=h.m;omega,by have:=h.l;omega⟩
theorem Kn.take {C:Nat->List Nat} {R:List Nat} {n:Nat} {k:List Fg} (h:Kn C R n k) (j:Nat):Kn C R n (k.take j):=by
 refine⟨h.r.take j,h.ik.take j,fun f hf=>h.s f (List.mem_of_mem_take hf),?_,?_⟩
 ·have h1:=kK (k.take j) (k.drop j)
  rw [List.take_append_drop] at h1
  have:=h.m;omega
 ·have:=h.l
  have:=List.length_take_le j k
  have:=List.length_take_le' j k
  omega
end Go.Proofs.YtonhfknjcbakiaaGreatDoor
namespace Go.Proofs.YtonhfknjcbakiaaGreatDoor
open Go.RowKit
attribute [-go_sem] z7
theorem XK {C:Nat->List Nat} {R:List Nat} {n j:Nat} {k:List Fg} (h:Kn C R n k) (ok:OkX C R) (hn:n<=400000) (hj:j<k.length) (hne:¬(zi k[j].vec=[]\/k[j].items=[])):AddOk (zL (k.take j)) ⟨k[j].items,zi k[j].vec⟩:=by
 have ht:=h.take j
 have hg:=ht.group ok
 have gi:=vB ht.r
 have hm:=List.getElem_mem hj
 have hw:=(h.ik _ hm).canVec
 have hs:=jU ht.r
 have hv:∀ g ∈ zL (k.take j),WV C R g.vec:=fun g hg=>by
  obtain⟨f,hf,e⟩:=hs.2.2 g hg
  rw [e];exact(ht.ik f hf).canVec
 exact⟨gi,Yi (h.r _ hm) hne,by have:=hg.l;omega,by have:=yv hm;have:=h.m;show k[j].items.length<=_;omega,fun g h1=>by have:=yv h1;have:=hg.m;omega,hw.can.bd,fun g h1=>(gi.ok g h1).1.bd,hw.nlen ok.1 (by have:=ok.2;omega),fun g h1=>(hv g h1).nlen ok.1 (by have:=ok.2;omega)⟩
theorem zeA {P:Program} {f:FuncId} {t:Tmp} {p:Value} {xs:List Operand} {c:Call} {o:Oper} {a:Act} {w:World} {K:Act->World->Prop} {Q:Exit->Act->World->Prop} (ho:o.op=.call c) (hc:c.callee=.value (.tmp t)) (hv:a.eval (.tmp t)=.func (.func f) #[p] #[]) (ha:c.args.toList=xs)
 (he:∀ args w,(callFunc f args).run P w=.ok (.enter f args) w)
 (h:Calls P f (p::xs.map a.eval).toArray w fun e w''=>match e with | .returned v=>K (a.put o.dst v) w'' | .panicked chain=>Q (.panic chain) a w'' | .outgrown=>LetsOut Q):o.wp P a w K Q:=by
 have hr:(execOp a.eval o).run P w=.ok (.enter f (p::xs.map a.eval).toArray) w:=by
  have e:c.args.map a.eval=(xs.map a.eval).toArray:=Array.toList_inj.1 (by rw [Array.toList_map,ha])
  simp only [execOp,ho,resolve,hc,e,hv,Deferred.ofValue,Sem.run_bind,Sem.run_pure,Result.andThen_ok,invoke]
  rw [show (#[p]++(xs.map a.eval).toArray++#[]:Array Value)=(p::xs.map a.eval).toArray from by simp]
  exact he _ _
 unfold Oper.wp
 rw [hr,Oper.upon_enter]
 exact h.mono (fun e w' h=>by cases e<;>exact h)
theorem Vb {B:Nat->List Nat} {R:List Nat} {n:Nat} (C:Nat->Nat->Prop) (k:List Fg) (vk:Value) (w:World) (hk:Kn B R n k) (ok:OkX B R) (hn:n<=400000) (rk:Dat C w vk (kp k)) (hC:∀ b o,C b o->b<w.heap.size) (hG:GL C w) :
 Calls Tryz.prog 74 #[vk] w fun e w'=>∃ v,e=.returned v/\Keep (fun b=>w.heap.size<=b) w w'/\Dat (DL C w.heap.size w') w' v (kp (zL k)):=by
 have hmf:∀(fn:Fn) (first cap:Array Value) (w:World),(Instr.makeFunc fn first cap).run Tryz.prog w=.ok (.func fn first cap) w:=fun _ _ _ _=>rfl
 obtain⟨aa,ca,fs,rfl,hl,hrow,hfs⟩:=kX rk hC
 have hkl:=hk.l
 have HK:=Lib.hid hk
 have HROW:=Lib.hid hrow
 have HFS:=Lib.hid hfs
 have HGL:=Lib.hid hG
 have hca:=hrow.1
 have hcm:=hrow.2.1
 unfold maxLen at hcm
 rw [hl] at hca
 have hent:∀ args w,(callFunc 117 args).run Tryz.prog w=.ok (.enter 117 args) w:=enters_of Tryz.func117 (by kernel_rfl) rfl
 have HEN:=Lib.hid hent
 clear rk hrow hfs hG hent hk
 go_enter Tryz.func74,Tryz.ntmps74
 go_wp2_with fail
 go_loopg [11] k.length (fun g x wr=>∃ j u,j<=k.length/\g=k.length - j/\x=.int .i64 j/\Boxed wr w.heap.size 142 u/\OutG C (w.heap.size+1) (w.heap.size+2) wr u (zL (k.take j))/\Keep (fun b=>w.heap.size<=b) w wr)
 case atStart=>exact⟨0,_,Nat.zero_le _,rfl,rfl,World.alloc_heap_new w _,OutG.start _ _ _ _,(Keep.refl _ w).alloc _⟩
 case round=>
  obtain⟨j,u,hj,rfl,rfl,hbx,hout,hkr⟩:=hrel
  have HBX:=Lib.hid hbx
  have HOUT:=Lib.hid hout
  have HKR:=Lib.hid hkr
  have hrw:=hbx.lt
  have cb:=hbx.cell
  clear hbx hout hkr
  by_cases hlt:j<k.length
  ·have hltf:j<fs.length:=by omega
   obtain⟨bb,off,rfl,hbn,hcel⟩:=HROW.out.2.2 (by intro e;subst e;simp at hltf)
   obtain⟨c0,c1⟩:=hcel j hltf
   obtain⟨d0,d1⟩:=HFS.out j hltf
   replace c0:=(HKR.out.cell (p:=⟨bb,off+j * 2,none⟩) (by show bb<_;omega) (by show ¬ w.heap.size<=bb;omega)).trans c0
   replace c1:=(HKR.out.cell (p:=⟨bb,off+j * 2+1,none⟩) (by show bb<_;omega) (by show ¬ w.heap.size<=bb;omega)).trans c1
   have HAO:=Lib.hid (fun hne=>XK HK.out ok hn hlt hne)
   have HGT:=Lib.hid (Zo hlt)
   have hfm:=List.getElem_mem hlt
   have hsm:=HK.out.s _ hfm
   have hfr:=HK.out.r _ hfm
   have hil:k[j].items.length<=400000:=by have:=yv hfm;have:=HK.out.m;omega
   generalize k[j]=f at *
   generalize fs[j]=q at *
   obtain⟨ai,ci,e0⟩:=zK d0
   obtain⟨av,cv,e1⟩:=xL d1
   rw [e0] at c0 d0
   rw [e1] at c1 d1
   have hCr:∀ b o,C b o->b<wr.heap.size:=fun b o h=>by have:=hC b o h;omega
   have hGr:GL C wr:=HGL.out.mono (fun _ _ h=>h) fun b o x hc hx=>HKR.out.cell_some hx (by have:=hC b o hc;show ¬ w.heap.size<=b;omega)
   have hdm:∀(x:Value) (p:PV),Dat C w x p->∀ W,Below wr.heap.size wr W->Dat C W x p:=fun x p h W hW=>h.mono (fun _ _ h=>h) fun b o x hc hx=>(World.cell?_of_block (a:=⟨b,o,none⟩) (hW.block b (hCr b o hc))).trans (HKR.out.cell_some hx (by have:=hC b o hc;show ¬ w.heap.size<=b;omega))
   have hGW:∀ W,Below wr.heap.size wr W->GL C W:=fun W hW=>hGr.mono (fun _ _ h=>h) fun b o x hc hx=>(World.cell?_of_block (a:=⟨b,o,none⟩) (hW.block b (hCr b o hc))).trans hx
   have hcan:∀ W,Below wr.heap.size wr W->Calls Tryz.prog 118 #[.slice av f.vec.length cv] W fun e w'=>∃ a c,e=.returned (.slice a (zi f.vec).length c)/\Below W.heap.size W w'/\Dat (fun b o=>C b o\/(W.heap.size<=b/\b<w'.heap.size)) w' (.slice a (zi f.vec).length c) (vp (zi f.vec)):=fun W hW=>by
    refine(jP (D:=C) (zer f.vec hfr.2 hsm.2.1 hsm.2.2) (hGW W hW) (fun b o h=>Nat.lt_of_lt_of_le (hCr b o h) hW.size) rfl (fun i p hp=>?_)).mono ?_
    ·match i,hp with
     | 0,hp=>cases hp;exact hdm _ _ d1 W hW
     | i+1,hp=>simp at hp
    ·rintro e w' ⟨v,rfl,hb,hd⟩
     obtain⟨a,c,rfl⟩:=xL hd
     exact⟨a,c,rfl,hb,hd⟩
   have HCAN:=Lib.hid hcan
   have HD0:=Lib.hid d0
   have HDM:=Lib.hid hdm
   have HGW:=Lib.hid hGW
   have HCR:=Lib.hid hCr
   clear hcan d0 d1 hdm hGW hCr hGr hcel hfm hsm hfr e0 e1
   have tokA:True:=trivial
   by_cases h1:0<(zi f.vec).length
   ·by_cases h2:0<f.items.length
    ·go_wp2_with (first
      | (go_at_call 118;have _t:=tokA;refine(HCAN.out _ ((Below.refl _ _).alloc (Nat.le_refl _) _)).mono ?_;rintro e w3 ⟨a3,n3,rfl,hb3,hd3⟩
         have hx3:w3.heap[wr.heap.size]? = some (.cells #[.slice ai f.items.length ci,.slice av f.vec.length cv] 34 (0,0)):=(hb3.block _ (by simp)).trans (World.alloc_heap_new wr _)
         have f0:=(zW hx3 0 _ rfl).1
         have HB3:=Lib.hid (((Below.refl _ wr).alloc (Nat.le_refl _) _).trans (hb3.mono (by simp)))
         have hs3:=hb3.size
         simp only [World.size_alloc] at hs3
         have HD3:=Lib.hid hd3
         clear hb3 hd3 hx3 tokA)
      | go_in)
     refine zeA (t:=27) (xs:=[.tmp 31]) rfl rfl rfl rfl HEN.out ?_
     have hne:¬(zi f.vec=[]\/f.items=[]):=fun e=>by
      rcases e with e | e
      ·rw [e] at h1;simp at h1
      ·rw [e] at h2;simp at h2
     have hsu:=HOUT.out.owns
     refine(Jh (C:=C) (base:=w.heap.size+2) (rb:=w.heap.size) (v:=u) (o:=zL (k.take j)) (f:=⟨f.items,zi f.vec⟩) (va:=.slice ai f.items.length ci) (vv:=.slice a3 (zi f.vec).length n3) (HAO.out hne) (HOUT.out.keep (by omega) fun b hb=>HB3.out.block b hb) ((HB3.out.block _ hrw).trans HBX.out) (by omega) (by omega) hC (HGW.out _ HB3.out) ?_ ?_).mono ?_
     ·exact(HDM.out _ _ HD0.out _ HB3.out).mono (fun b o h=>⟨.inl h,fun e=>by have:=(hsu b e).1;have:=hC b o h;omega⟩) fun _ _ _ _ h=>h
     ·refine HD3.out.mono (fun b o h=>?_) fun _ _ _ _ h=>h
      rcases h with h | h
      ·exact⟨.inl h,fun e=>by have:=(hsu b e).1;have:=hC b o h;omega⟩
      ·simp only [World.size_alloc] at h
       exact⟨.inr ⟨by omega,h.2⟩,fun e=>by have:=(hsu b e).2;omega⟩
     rintro e w4 ⟨⟨u',rfl⟩,v',hbx4,hout4,hk4⟩
     have HBX4:=Lib.hid hbx4
     have HOUT4:=Lib.hid hout4
     have HK4:=Lib.hid hk4
     clear hbx4 hout4 hk4
     dsimp only
     go_wp2_with fail
     go_roundg (k.length - (j+1))
     case measure=>omega
     case rel=>
      refine⟨j+1,v',hlt,rfl,by simp,HBX4.out,?_,(HKR.out.trans (Keep.of_below' HB3.out (Nat.le_refl _))).trans (HK4.out.mono fun b _ h=>by omega)⟩
      rw [HGT.out,yo,if_neg hne]
      exact HOUT4.out
    ·have h0:f.items=[]:=by cases hf:f.items with | nil=>rfl | cons a l=>rw [hf] at h2;simp at h2
     have H0:=Lib.hid h0
     clear h0
     go_wp2_with (first
      | (go_at_call 118;have _t:=tokA;refine(HCAN.out _ ((Below.refl _ _).alloc (Nat.le_refl _) _)).mono ?_;rintro e w3 ⟨a3,n3,rfl,hb3,hd3⟩
         have hx3:w3.heap[wr.heap.size]? = some (.cells #[.slice ai f.items.length ci,.slice av f.vec.length cv] 34 (0,0)):=(hb3.block _ (by simp)).trans (World.alloc_heap_new wr _)
         have f0:=(zW hx3 0 _ rfl).1
         have HB3:=Lib.hid (((Below.refl _ wr).alloc (Nat.le_refl _) _).trans (hb3.mono (by simp)))
         have hs3:=hb3.size
         simp only [World.size_alloc] at hs3
         clear hb3 hd3 hx3 tokA)
      | go_in)
     go_roundg (k.length - (j+1))
     case measure=>omega
     case rel=>
      refine⟨j+1,u,hlt,rfl,by simp,(HB3.out.block _ hrw).trans HBX.out,?_,HKR.out.trans (Keep.of_below' HB3.out (Nat.le_refl _))⟩
      rw [HGT.out,yo,if_pos (.inr H0.out)]
      exact HOUT.out.keep (by omega) fun b hb=>HB3.out.block b hb
   ·have h0:zi f.vec=[]:=by cases hf:zi f.vec with | nil=>rfl | cons a l=>rw [hf] at h1;simp at h1
    have H0:=Lib.hid h0
    clear h0
    go_wp2_with (first
     | (go_at_call 118;have _t:=tokA;refine(HCAN.out _ ((Below.refl _ _).alloc (Nat.le_refl _) _)).mono ?_;rintro e w3 ⟨a3,n3,rfl,hb3,hd3⟩
        have HB3:=Lib.hid (((Below.refl _ wr).alloc (Nat.le_refl _) _).trans (hb3.mono (by simp)))
        have hs3:=hb3.size
        simp only [World.size_alloc] at hs3
        clear hb3 hd3 tokA)
     | go_in)
    go_roundg (k.length - (j+1))
    case measure=>omega
    case rel=>
     refine⟨j+1,u,hlt,rfl,by simp,(HB3.out.block _ hrw).trans HBX.out,?_,HKR.out.trans (Keep.of_below' HB3.out (Nat.le_refl _))⟩
     rw [HGT.out,yo,if_pos (.inl H0.out)]
     exact HOUT.out.keep (by omega) fun b hb=>HB3.out.block b hb
  ·obtain rfl:j=k.length:=by omega
   go_wp2_with fail
   refine bodyPost_ret (results_tmp rfl _ _ _) rfl ?_
   have h:=HOUT.out.dat (by omega)
   rw [List.take_length] at h
   exact⟨_,rfl,HKR.out,h.mono (fun b o h=>h.imp id fun h=>⟨by omega,h.2⟩) fun _ _ _ _ h=>h⟩
theorem zfn {B:Nat->List Nat} {R:List Nat} {n:Nat} (k:List Fg) (hk:Kn B R n k) (ok:OkX B R) (hn:n<=400000):Cn Tryz.prog 74 [kp k] (kp (zL k)):=by
 refine yZ rfl (enters_of Tryz.func74 (by kernel_rfl) rfl) fun D w vs hG hD hsz hd=>?_
 rw [KB hsz]
 refine(Vb D k _ w hk ok hn (hd 0 _ rfl) hD hG).mono ?_
 rintro e w' ⟨v,rfl,hb,hv⟩
 exact⟨v,rfl,hb.below (Nat.le_refl _) fun _ h h'=>by omega,hv.mono (fun _ _ h=>h.imp id fun h=>⟨Nat.le_of_lt h.1,h.2⟩) fun _ _ _ _ h=>h⟩
theorem YI (w:World) (t ty:TypeId) (ht:Tryz.prog.underlying t=some (.slice 34)) (base:Nat) (v:Value) (n:Nat) (xs:List Value) (hown:w.ownsRow base 34 2 v n xs) (ad:Option Addr) (m c:Nat) (news:List Value) (hl:news.length=m * 2)
 (hnews:(m=0/\ad=none)\/∃ a,ad=some a/\∀ j u,news[j]? = some u->w.cell? (a.add j)=some u) (h1:∀ u ∈ news,u.oneCell'=true) (h63:n+m<=1073741824) (hbase:base<=w.heap.size) :
 ∃ v' w',(Builtin.append_ #[t,t] ty #[v,.slice ad m c]).run Tryz.prog w=.ok v' w'/\w'.ownsRow base 34 2 v' (n+m) (xs++news)/\w.grownBy w' v.ownBlock/\(v'.ownBlock=v.ownBlock\/v'.ownBlock=some w.heap.size):=by
 obtain⟨i0,hi0,hz0,hz1,hz2⟩:=info_parts Z9
 rcases hnews with⟨rfl,rfl⟩ | ⟨a,rfl,hn⟩
 ·obtain rfl:news=[]:=List.length_eq_zero_iff.1 hl
  obtain⟨ba,cp,rfl,hcp⟩:∃ ba cp,v=.slice ba n cp/\n<=cp:=by
   rcases hown.2 with⟨rfl,rfl⟩ | ⟨g,cap,cur,rfl,_,_,h,_⟩
   ·exact⟨none,0,rfl,Nat.le_refl _⟩
   ·exact⟨_,_,rfl,h⟩
  exact⟨_,w,ve w t ty _ i0 ht hi0 ba n cp c hcp,by simpa using hown,jW _ _,.inl rfl⟩
 ·obtain⟨v',w',r1,r2,r3,_,r5⟩:=run_append_own_at (P:=Tryz.prog) w base t ty 34 i0 _ 2 48 ht hi0 hz0 hz1 hz2 rfl (by decide) v n xs hown a m c news (by simpa using hl) hn h1 (by unfold maxLen;omega) (by omega) hbase
  exact⟨v',w',r1,r2,r3,r5⟩
theorem OutG.at {C:Nat->Nat->Prop} {mb base:Nat} {w:World} {ad:Option Addr} {cap:Nat} {o:List Fg} (h:OutG C mb base w (.slice ad o.length cap) o) {i:Nat} (hi:i<o.length) :
 ∃ g ai ci av cv cur,ad=some ⟨g,0,none⟩/\base<=g/\w.heap[g]? = some (.cells cur 34 (0,0))/\w.cell? ⟨g,i * 2,none⟩=some (.slice ai o[i].items.length ci)/\w.cell? ⟨g,i * 2+1,none⟩=some (.slice av o[i].vec.length cv) /\
  Dat (DX C mb w (.slice ad o.length cap)) w (.slice ai o[i].items.length ci) (rg o[i].items)/\Dat (DX C mb w (.slice ad o.length cap)) w (.slice av o[i].vec.length cv) (vp o[i].vec):=by
 obtain⟨xs,hxs,hel⟩:=h
 obtain⟨a,b,ea,eb,da,db⟩:=hel i hi
 obtain⟨g,cap',cur,ev,hgb,hgl,hgc,_⟩:=hxs.cases.resolve_left (fun h=>by omega)
 obtain⟨rfl,_,rfl⟩:ad=some ⟨g,0,none⟩/\o.length=o.length/\cap=cap':=by simpa using ev
 have hc:∀ j x,xs[j]? = some x->w.cell? ⟨g,j,none⟩=some x:=fun j x hx=>by
  have:=World.ownsRow.cells hxs.1 (g:=g) rfl j x hx
  rw [zh,Nat.zero_add] at this
  exact this
 obtain⟨ai,ci,rfl⟩:=zK da
 obtain⟨av,cv,rfl⟩:=xL db
 exact⟨g,ai,ci,av,cv,cur,rfl,hgb,hgc,hc _ _ ea,hc _ _ eb,da,db⟩
theorem zdp (s:ByteArray) (w:World):Calls Tryz.prog 78 #[.string s,.nilIface] w fun e w'=>(∃ u,e=.returned u)/\w'=w:=by
 go_enter Tryz.func78,Tryz.ntmps78
 go_wp2
 go_end0
 exact⟨⟨_,rfl⟩,rfl⟩
theorem zod (s:ByteArray) (t:TypeId) (x:Value) (w:World):Calls Tryz.prog 83 #[.string s,.iface t x] w fun e w'=>e=.returned ((.iface 150 (.agg #[.string s,.iface t x])))/\w'=w:=by
 go_enter Tryz.func83,Tryz.ntmps83
 go_wp2
 refine bodyPost_ret (results_tmp rfl _ _ _) rfl ?_
 exact⟨rfl,rfl⟩
theorem zn9 (s:ByteArray) (t:TypeId) (x:Value) (w:World):Calls Tryz.prog 78 #[.string s,.iface t x] w fun e w'=>e=.panicked [{ v:=.iface 147 (.agg #[(.iface 150 (.agg #[.string s,.iface t x]))]),recovered:=false }]/\w'=w:=by
 go_enter Tryz.func78,Tryz.ntmps78
 go_wp2_with (first
  | (go_at_call 83;refine(zod _ _ _ _).mono ?_;rintro e w' ⟨rfl,rfl⟩)
  | go_in)
 exact⟨rfl,rfl,rfl⟩
theorem JI (p:Addr) (w:World) :
 CallsD Tryz.prog 77 #[.pointer (some p)] .returning w fun e u' w'=>e=.returned (.tuple #[])/\u'=.returning/\w'=w:=by
 refine callsD_of_wpS Tryz.func77 rfl fun c₀ cs hu=>?_
 apply wpS_seq
 apply wpS_region
 simp [wpOpsS,go_sem,recoverD,hu,Tryz.ntmps77,Exit.thenS]
 refine wpS_of_wp ?_
 go_wp2
 cases c₀
 simp_all [bodyPostS,results,Tryz.results77]
theorem znO (rb:Nat) (y:Value) (tz:TypeId) (xz:Value) (older:List PanicEntry) (w:World) (hb:Boxed w rb 44 y) :
 CallsD Tryz.prog 77 #[.pointer (some ⟨rb,0,none⟩)] (.panicking ({ v:=.iface 147 (.agg #[.iface tz xz]),recovered:=false }::older)) w fun e u' w'=>
  e=.returned (.tuple #[])/\u'=.panicking ({ v:=.iface 147 (.agg #[.iface tz xz]),recovered:=true }::older)/\Boxed w' rb 44 (.iface tz xz)/\Keep (fun k=>k=rb) w w':=by
 have hta:∀ w:World,(Instr.typeAssert (.iface 147 (.agg #[.iface tz xz])) 20 147 true).run Tryz.prog w=.ok (.tuple #[.agg #[.iface tz xz],.bool true]) w:=fun w=>by kernel_rfl
 have hrw:=hb.lt
 have HB:=Lib.hid hb
 have c0:=hb.cell
 have f0:=hb.frozen
 refine callsD_of_wpS Tryz.func77 rfl fun c₀ cs hu=>?_
 apply wpS_seq
 apply wpS_region
 simp [wpOpsS,go_sem,recoverD,hu,Tryz.ntmps77,Exit.thenS]
 refine wpS_of_wp ?_
 clear hb
 go_wp2
 cases c₀
 simp_all [bodyPostS,results,Tryz.results77]
 exact⟨(HB.out.set _).alloc _,((Keep.refl (fun k=>k=rb) w).setCell (fun _=>rfl) _).alloc _⟩
end Go.Proofs.YtonhfknjcbakiaaGreatDoor
namespace Go.Proofs.YtonhfknjcbakiaaGreatDoor
open Go.RowKit
end Go.Proofs.YtonhfknjcbakiaaGreatDoor
namespace Go.Proofs.YtonhfknjcbakiaaGreatDoor
open Go.RowKit
attribute [-go_sem] z7
theorem BdK.of {k:List Fg} (h:RightK k) (hz:SzK k):BdK k:=by
 refine⟨fun f hf=>⟨?_,fun e he=>Jg ((h f hf).2.1 e he),by have:=(hz.2 f hf).1;omega,by have:=(hz.2 f hf).2.1;omega⟩,by have:=hz.1;omega⟩
 intro s hs
 have:=NF.lo_ge (h f hf).1 s hs
 omega
theorem KH {C:Nat->Nat->Prop} {w0 w:World} {k:List Fg} {v:Value} (hr:RightK k) (hz:SzK k) (hd:Dat C w0 v (kp k)) (hC:∀ b o,C b o->b<w0.heap.size) (hG:GL C w0) (hb:Below w0.heap.size w0 w) :
 Calls Tryz.prog 54 #[v] w fun e w'=>e=.returned .nilIface/\Below w.heap.size w w':=by
 have hbd:=BdK.of hr hz
 have hc:=Vh k hbd hz
 rw [yk ((ZN hbd).2 hr)] at hc
 have hw:∀ b o x,C b o->w0.cell? ⟨b,o,none⟩=some x->w.cell? ⟨b,o,none⟩=some x:=fun b o x h hx=>(World.cell?_of_block (a:=⟨b,o,none⟩) (hb.block b (hC b o h))).trans hx
 refine(jP (D:=C) hc (hG.mono (fun _ _ h=>h) hw) (fun b o h=>Nat.lt_of_lt_of_le (hC b o h) hb.size) rfl (fun i p hp=>?_)).mono ?_
 ·match i,hp with
  | 0,hp=>cases hp;exact hd.mono (fun _ _ h=>h) hw
  | i+1,hp=>simp at hp
 ·rintro e w' ⟨u,rfl,hb',hd'⟩
  have e:=(Rel.dat (ρ:=fun _=>0) (nb:=0) hd').v_inv
  rw [e]
  exact⟨rfl,hb'⟩
theorem zl4 {D:Nat->Nat->Prop} {w:World} {v:Value} {k:List Fg} (h:Dat D w v (kp k)):∃ ad cap,v=.slice ad k.length cap/\k.length<=cap/\cap<=maxLen:=by
 unfold kp at h
 generalize he:k.map fc=es at h
 cases h with
 | sl a cap sz es o b off u hc hz hm ha hsz hd hx=>
   have hl:es.length=k.length:=by rw [<-he];simp
   exact⟨a,cap,by rw [hl],by omega,hm⟩
theorem zn6 (k:List Fg) (i r c:Nat) (hr:RightK k) (hz:SzK k) (hc:c<M64):Cn Tryz.prog 35 [kp k,.v (.int .u64 i),.v (.int .u64 r),.v (.int .u64 c)] (.tup [.v (.bool (hasK k i r c)),.v .nilIface]):=by
 refine yZ rfl (enters_of Tryz.func35 (by kernel_rfl) rfl) fun D w vs hG hD hsz hd=>?_
 have d0:=hd 0 _ rfl
 have d1:=(Rel.dat (ρ:=fun _=>0) (nb:=0) (hd 1 _ rfl)).v_inv
 have d2:=(Rel.dat (ρ:=fun _=>0) (nb:=0) (hd 2 _ rfl)).v_inv
 have d3:=(Rel.dat (ρ:=fun _=>0) (nb:=0) (hd 3 _ rfl)).v_inv
 obtain⟨v0,hv0⟩:∃ v0,v0=vs.getD 0 undef:=⟨_,rfl⟩
 obtain rfl:vs=#[v0,.int .u64 i,.int .u64 r,.int .u64 c]:=by
  obtain⟨l⟩:=vs
  match l,hsz with
  | [p,q,s,t],_=>
    simp at d1 d2 d3 hv0
    rw [hv0,d1,d2,d3]
 clear d1 d2 d3 hsz hv0
 have d0':Dat D w v0 (kp k):=d0
 obtain⟨ad,cap,rfl,_,_⟩:=zl4 d0'
 have HCK:=Lib.hid (fun W (hW:Below w.heap.size w W)=>KH hr hz d0' hD hG hW)
 have hkh:∀ W,Below w.heap.size w W->Calls Tryz.prog 46 #[.slice ad k.length cap,.int .u64 i,.int .u64 r,.int .u64 c] W fun e w'=>e=.returned (.bool (hasK k i r c))/\Below W.heap.size W w':=fun W hW=>by
  have hw:∀ b o x,D b o->w.cell? ⟨b,o,none⟩=some x->W.cell? ⟨b,o,none⟩=some x:=fun b o x h hx=>(World.cell?_of_block (a:=⟨b,o,none⟩) (hW.block b (hD b o h))).trans hx
  refine(jP (D:=D) (zoW k i r c hr hc hz) (hG.mono (fun _ _ h=>h) hw) (fun b o h=>Nat.lt_of_lt_of_le (hD b o h) hW.size) rfl (fun j p hp=>?_)).mono ?_
  ·match j,hp with
   | 0,hp=>cases hp;exact d0'.mono (fun _ _ h=>h) hw
   | 1,hp=>cases hp;exact .v _
   | 2,hp=>cases hp;exact .v _
   | 3,hp=>cases hp;exact .v _
   | j+4,hp=>simp at hp
  ·rintro e w' ⟨u,rfl,hb',hd'⟩
   have e:=(Rel.dat (ρ:=fun _=>0) (nb:=0) hd').v_inv
   rw [e]
   exact⟨rfl,hb'⟩
 have HKH:=Lib.hid hkh
 clear hkh d0 d0' hd hG hD
 have tokA:True:=trivial
 have tokB:True:=trivial
 go_enter_defers Tryz.func35,Tryz.ntmps35
 go_wp2_with (first
  | (go_at_call 54;have _t:=tokA;refine(HCK.out _ ((Below.refl _ _).alloc (Nat.le_refl _) _)).mono ?_;rintro e w1 ⟨rfl,hb1⟩
     have hx1:Boxed w1 w.heap.size 44 .nilIface:=(hb1.block _ (by simp)).trans (World.alloc_heap_new w _)
     have HX1:=Lib.hid hx1
     have HB1:=Lib.hid (((Below.refl _ w).alloc (Nat.le_refl _) _).trans (hb1.mono (by simp)))
     clear hb1 hx1 tokA)
  | (go_at_call 78;refine(zdp _ _).mono ?_;rintro e w' ⟨⟨u,rfl⟩,rfl⟩)
  | (go_at_call 46;have _t:=tokB;refine(HKH.out _ HB1.out).mono ?_;rintro e w2 ⟨rfl,hb2⟩
     have hx2:Boxed w2 w.heap.size 44 .nilIface:=(hb2.block _ HX1.out.lt).trans HX1.out
     have c2:=hx2.cell
     have f2:=hx2.frozen
     have HX2:=Lib.hid hx2
     have HB2:=Lib.hid (HB1.out.trans (hb2.mono HB1.out.size))
     clear hb2 hx2 tokB)
  | go_in)
 refine leaves_cons (f := 77) (args:=#[.pointer (some ⟨w.heap.size,0,none⟩)]) (by simp) (by simp [go_sem]) ?_
 refine(JI ⟨w.heap.size,0,none⟩ _).mono ?_
 rintro e u' w'' ⟨rfl,rfl,rfl⟩
 have hx3:=(HX2.out.set .nilIface).cell
 simp [Leaves,settle,results,Tryz.results35,go_sem,hx3]
 refine⟨HB2.out.setCell (Nat.le_refl _) _,.tup _ _ rfl fun j p hp=>?_⟩
 match j,hp with
 | 0,hp=>cases hp;exact .v _
 | 1,hp=>cases hp;exact .v _
 | j+2,hp=>simp at hp
end Go.Proofs.YtonhfknjcbakiaaGreatDoor
namespace Go.Proofs.YtonhfknjcbakiaaGreatDoor
open Go.RowKit
structure Rt12 (k:List Fg):Prop where
 f:vx k=true
 r:RightK k
 kn:Kn (CK k) (RK k) 240 k
 ok:OkX (CK k) (RK k)
theorem Rt12.o {k:List Fg} (h:Rt12 k):Ok12 (CK k) (RK k) k:=h.kn.ok12 h.ok (by omega)
def CKL (l:List (List Fg)) (r:Nat):List Nat:=l.flatMap fun k=>CK k r
def RKL (l:List (List Fg)):List Nat:=l.flatMap RK
theorem zam {l:List (List Fg)} (hl:l.length<=4) (h:∀ k ∈ l,vx k=true/\RightK k):OkX (CKL l) (RKL l):=by
 refine⟨fun r=>?_,?_⟩
 ·have h1:(CKL l r).length<=l.length * 1512:=qL (n:=1512) fun k hk=>(X4 (h k hk).1 (h k hk).2).1 r
  omega
 ·have h1:(RKL l).length<=l.length * 240:=qL (n:=240) fun k hk=>(X4 (h k hk).1 (h k hk).2).2.1
  omega
theorem Kn.all {l:List (List Fg)} {k:List Fg} (hk:k ∈ l) (h:vx k=true) (hr:RightK k):Kn (CKL l) (RKL l) 240 k:=
 (Kn.few h hr).mono (fun r x hx=>List.mem_flatMap.2 ⟨k,hk,hx⟩) (fun x hx=>List.mem_flatMap.2 ⟨k,hk,hx⟩) (Nat.le_refl _)
theorem Kn.at {C:Nat->List Nat} {R:List Nat} {n:Nat} {k:List Fg} (h:Kn C R n k) (ok:OkX C R) (x:Nat):SmV (qc k x):=(h.ik.at x).1.smv ok.c
theorem Kn.app {C:Nat->List Nat} {R:List Nat} {n m:Nat} {a b:List Fg} (ha:Kn C R n a) (hb:Kn C R m b):Kn C R (n+m) (a++b):=by
 refine⟨ha.r.app hb.r,fun f hf=>(List.mem_append.1 hf).elim (ha.ik f) (hb.ik f),fun f hf=>(List.mem_append.1 hf).elim (ha.s f) (hb.s f),?_,?_⟩
 ·have:=kK a b;have:=ha.m;have:=hb.m;omega
 ·rw [List.length_append];have:=ha.l;have:=hb.l;omega
theorem Kn.parts {C:Nat->List Nat} {R:List Nat} {n m:Nat} {f:Bool->Bool->Bool} (hf:f false false=false) {a b:List Fg} (ha:Kn C R n a) (hb:Kn C R m b) (ok:OkX C R):Kn C R (1+2 * (n+m)) (yy f a b):=by
 have h1:=xW (a++b)
 have h2:=YO (a++b)
 have h3:=kK a b
 have h4:=ha.m
 have h5:=hb.m
 have hw:∀ g ∈ yy f a b,WV C R g.vec:=fun g hg=>by
  obtain⟨s,_,rfl⟩:=List.mem_map.1 hg
  exact IV.lat hf (ha.ik.at s.lo).1.iv (hb.ik.at s.lo).1.iv
 refine⟨xU ha.r hb.r,fun f hf=>(hw f hf).iv,fun f hf=>(hw f hf).smv ok.c,?_,?_⟩
 ·unfold yy;rw [Zf];omega
 ·unfold yy;rw [List.length_map];omega
theorem Kn.do {C:Nat->List Nat} {R:List Nat} {n m:Nat} {f:Bool->Bool->Bool} (hf:f false false=false) {a b:List Fg} (ha:Kn C R n a) (hb:Kn C R m b) (ok:OkX C R):Kn C R (1+2 * (n+m)) (vh f a b):=(ha.parts hf hb ok).group ok
theorem Kn.canon {C:Nat->List Nat} {R:List Nat} {n:Nat} {k:List Fg} (h:Kn C R n k) (ok:OkX C R):Kn C R (1+2 * n) (zbx k):=(h.refine ok).group ok
def orI:List Int->Int
 | []=>0
 | x::l=>if x=0 then orI l else x
theorem zng (l:List Int) (hl:l.length<=1000):Cn Tryz.prog 128 [.sl (l.map fun x=>[.v (.int .i64 x)]) .sh] (.v (.int .i64 (orI l))):=by
 refine zt Tryz.func128 1 ?_
 refine pw ?_
 refine pLoop.go (fun k=>k<=l.length/\orI l=orI (l.drop k)) (fun k=>[(8,.v (.int .i64 (k:Nat)))]) (fun _=>[]) (fun k=>l.length - k) 0 [8] ?_ ?_ ?_
 ·exact⟨Nat.zero_le _,rfl⟩
 ·exact pd
 ·rintro k ⟨hk,ho⟩
  refine pw ?_
  refine .i ?_ ?_<;>intro h<;>(try simp only [zb] at h)<;>first | refine pw ?_ | exact pd
  ·have hd:orI (l.drop k)=if l[k]=0 then orI (l.drop (k+1)) else l[k]:=by
    rw [List.drop_eq_getElem_cons h];rfl
   refine .i ?_ ?_<;>intro h2<;>(try simp only [zb] at h2)<;>first | refine pw ?_ | exact pd
   ·rw [ho,hd,if_neg h2]
   ·refine⟨k+1,⟨h,?_⟩,by omega,rfl⟩
    rw [ho,hd,if_pos (by omega)]
  ·rw [ho,List.drop_of_length_le (by omega)];rfl
def trc (t:Tr):List PV:=[.v (.int .u64 t.1),.v (.int .u64 t.2.1),.v (.int .u64 t.2.2)]
def trp (t:Tr):PV:=.agg (trc t)
attribute [go_sem] trc trp
theorem zi6 (t u:Tr):Cn Tryz.prog 86 [trp t,trp u] (.v (.int .i64 (zeY t u))):=by
 have ho:=zng [if t.1<u.1 then -1 else if u.1<t.1 then 1 else 0,if t.2.1<u.2.1 then -1 else if u.2.1<t.2.1 then 1 else 0,if t.2.2<u.2.2 then -1 else if u.2.2<t.2.2 then 1 else 0] (by simp)
 have e:orI [if t.1<u.1 then -1 else if u.1<t.1 then 1 else 0,if t.2.1<u.2.1 then -1 else if u.2.1<t.2.1 then 1 else 0,if t.2.2<u.2.2 then -1 else if u.2.2<t.2.2 then 1 else 0]=zeY t u:=by
  unfold zeY
  simp only [orI,zZ]
  repeat' split
  all_goals first | rfl | omega
 rw [e] at ho
 refine zt Tryz.func86 2 ?_
 refine pw ?_
 refine .c (XQ t.1 u.1) ?_
 refine .c (XQ t.2.1 u.2.1) ?_
 refine .c (XQ t.2.2 u.2.2) ?_
 (first | exact .d (ho) | exact .q (ho))
def qA (l:List Iv):Iv:=if h:0<l.length then ⟨l[0].lo,(l[l.length - 1]'(by omega)).hi⟩ else ⟨0,0⟩
theorem zhU (l:List Iv) (hl:l.length<=9223372036854775807):Cn Tryz.prog 125 [rg l] (.tup [Je (qA l),.v (.bool (decide (0<l.length)))]):=by
 refine zt Tryz.func125 1 ?_
 refine pw ?_
 refine .i ?_ ?_<;>intro h<;>(try simp only [zb] at h)<;>first | refine pw ?_ | exact pd
 ·subst h
  rfl
 ·have hp:0<l.length:=List.length_pos_iff.2 h
  rw [qA,dif_pos hp,decide_eq_true hp]
  exact pd
theorem KY (l:List Iv) (hl:l.length<=9223372036854775807):Cn Tryz.prog 84 [rg l] (.tup [.v (.int .u64 (qA l).lo),.v (.bool (decide (0<l.length)))]):=by
 refine zt Tryz.func84 1 ?_
 refine pw ?_
 exact .d (zhU l hl)
theorem K5 {s:Iv} {l:List Iv}:(qA (s::l)).lo=s.lo:=by simp [qA]
def xm (k:List Fg) (j:Nat):Option Tr:=((k.take j).flatMap V3).foldl Vq none
theorem zbi (k:List Fg):xm k 0=none:=rfl
def kt (o:Option Tr) (x:Nat) (v:List En) (i:Nat):Option Tr:=((v.take i).flatMap (XE x)).foldl Vq o
theorem zbg (o:Option Tr) (x:Nat) (v:List En):kt o x v 0=o:=rfl
theorem zbh {k:List Fg} {j:Nat} (h:j<k.length):xm k (j+1)=(V3 k[j]).foldl Vq (xm k j):=by
 unfold xm
 rw [List.take_succ_eq_append_getElem h,List.flatMap_append,List.foldl_append]
 simp
theorem zbf {o:Option Tr} {x:Nat} {v:List En} {i:Nat} (h:i<v.length):kt o x v (i+1)=(XE x v[i]).foldl Vq (kt o x v i):=by
 unfold kt
 rw [List.take_succ_eq_append_getElem h,List.flatMap_append,List.foldl_append]
 simp
theorem zem {f:Fg} (h:¬ 0<f.items.length):V3 f=[]:=by
 unfold V3
 rw [List.length_eq_zero_iff.1 (show f.items.length=0 by omega)]
theorem zbR {f:Fg} (h:0<f.items.length):V3 f=f.vec.flatMap (XE (qA f.items).lo):=by
 unfold V3
 cases hf:f.items with
 | nil=>rw [hf] at h;cases h
 | cons s l=>rw [K5]
theorem zel {x:Nat} {e:En} (h:¬ 0<(kn e).length):XE x e=[]:=by
 unfold XE
 rw [List.length_eq_zero_iff.1 (show (kn e).length=0 by omega)]
theorem zbQ {x:Nat} {e:En} (h:0<(kn e).length):XE x e=[(x,e.rep,(qA (kn e)).lo)]:=by
 unfold XE
 cases hf:kn e with
 | nil=>rw [hf] at h;cases h
 | cons s l=>rw [K5]
theorem zfE {C:Nat->List Nat} {R:List Nat} (k:List Fg) (h12:Ok12 C R k):Cn Tryz.prog 31 [kp k] (.tup [trp ((kY k).getD (0,0,0)),.v (.bool (kY k).isSome),.v .nilIface]):=by
 have hr:=h12.r
 have hz:=h12.z
 have hbd:=BdK.of hr hz
 have hc:=Vh k hbd hz
 rw [yk ((ZN hbd).2 hr)] at hc
 have hz1:=hz.1
 refine zt Tryz.func31 1 ?_
 refine pw ?_
 (first | refine .c (hc) ?_ | refine .o (hc) ?_)
 refine pLoop.go (fun j=>j<=k.length) (fun j=>[(7,.v (.bool (xm k j).isSome)),(26,.v (.int .i64 (j:Nat)))]) (fun j=>[trc (0,0,0),trc ((xm k j).getD (0,0,0))]) (fun j=>k.length - j) 0 [7,26] ?_ ?_ ?_
 ·exact Nat.zero_le _
 ·simp only [zbi,Option.isSome_none,Option.getD_none]
  exact pd
 ·rintro j hj
  refine pw ?_
  refine .i ?_ ?_<;>intro h<;>(try simp only [zb] at h)<;>first | refine pw ?_ | exact pd
  ·have hf:=hz.2 _ (List.getElem_mem h)
   have hrf:=hr _ (List.getElem_mem h)
   have hsv:=h12.s _ (List.getElem_mem h)
   have hs:=zbh h
   refine .c (KY k[j].items (by omega)) ?_
   refine .i ?_ ?_<;>intro h2<;>(try simp only [zb] at h2)<;>first | refine pw ?_ | exact pd
   ·rw [zem (by omega)] at hs
    have e:xm k (j+1)=xm k j:=hs
    exact⟨j+1,h,by omega,⟨by rw [e],rfl⟩,by rw [e],by rw [e],by rw [e]⟩
   ·rw [zbR h2] at hs
    refine pLoop.go (fun i=>i<=k[j].vec.length) (fun i=>[(7,.v (.bool (kt (xm k j) (qA k[j].items).lo k[j].vec i).isSome)),(41,.v (.int .i64 (i:Nat)))]) (fun i=>[trc (0,0,0),trc ((kt (xm k j) (qA k[j].items).lo k[j].vec i).getD (0,0,0)),fc k[j]]) (fun i=>k[j].vec.length - i) 0 [7,41] ?_ ?_ ?_
    ·exact Nat.zero_le _
    ·simp only [zbg]
     exact pd
    ·rintro i hi
     refine pw ?_
     refine .i ?_ ?_<;>intro h3<;>(try simp only [zb] at h3)<;>first | refine pw ?_ | exact pd
     ·have hre:=hrf.2.1 _ (List.getElem_mem h3)
      have hhl:=hsv.2.2 _ (List.getElem_mem h3)
      have hkl:=kW k[j].vec[i]
      have hI:=zbf (o:=xm k j) (x:=(qA k[j].items).lo) h3
      refine .c (XZ k[j].vec[i] hre (by omega)) ?_
      refine .c (KY (kn k[j].vec[i]) (by omega)) ?_
      refine .i ?_ ?_<;>intro h4<;>(try simp only [zb] at h4)<;>first | refine pw ?_ | exact pd
      ·rw [zbQ h4] at hI
       cases ho:kt (xm k j) (qA k[j].items).lo k[j].vec i with
       | none=>
         simp only [ho,Option.isSome_none,Option.getD_none]
         rw [ho] at hI
         refine pw ?_
         have e:kt (xm k j) (qA k[j].items).lo k[j].vec (i+1)=some ((qA k[j].items).lo,k[j].vec[i].rep,(qA (kn k[j].vec[i])).lo):=hI
         exact⟨i+1,h3,by omega,⟨by rw [e];rfl,rfl⟩,by rw [e];rfl,by rw [e];rfl,by rw [e];rfl⟩
       | some u=>
         simp only [ho,Option.isSome_some,Option.getD_some]
         rw [ho] at hI
         refine pw ?_
         refine .c (zi6 ((qA k[j].items).lo,k[j].vec[i].rep,(qA (kn k[j].vec[i])).lo) u) ?_
         refine .i ?_ ?_<;>intro h5<;>(try simp only [zb] at h5)<;>first | refine pw ?_ | exact pd
         ·have e:kt (xm k j) (qA k[j].items).lo k[j].vec (i+1)=some ((qA k[j].items).lo,k[j].vec[i].rep,(qA (kn k[j].vec[i])).lo):=by rw [hI];simp only [List.foldl_cons,List.foldl_nil,Vq,if_pos h5]
          exact⟨i+1,h3,by omega,⟨by rw [e];rfl,rfl⟩,by rw [e];rfl,by rw [e];rfl,by rw [e];rfl⟩
         ·have e:kt (xm k j) (qA k[j].items).lo k[j].vec (i+1)=some u:=by rw [hI];simp only [List.foldl_cons,List.foldl_nil,Vq];rw [if_neg (by omega)]
          exact⟨i+1,h3,by omega,⟨by rw [e];rfl,rfl⟩,by rw [e];rfl,by rw [e];rfl,by rw [e];rfl⟩
      ·rw [zel (by omega)] at hI
       have e:kt (xm k j) (qA k[j].items).lo k[j].vec (i+1)=kt (xm k j) (qA k[j].items).lo k[j].vec i:=hI
       exact⟨i+1,h3,by omega,⟨by rw [e],rfl⟩,by rw [e],by rw [e],by rw [e]⟩
     ·have e:xm k (j+1)=kt (xm k j) (qA k[j].items).lo k[j].vec i:=by
       rw [hs];unfold kt;rw [List.take_of_length_le (by omega)]
      exact⟨j+1,h,by omega,⟨by rw [e],rfl⟩,by rw [e],by rw [e],by rw [e]⟩
  ·have e:xm k j=kY k:=by unfold xm kY;rw [List.take_of_length_le (by omega)]
   rw [e]
end Go.Proofs.YtonhfknjcbakiaaGreatDoor
namespace Go.Proofs.YtonhfknjcbakiaaGreatDoor
open Go.RowKit
attribute [-go_sem] z7
def qB (fs:List Fv):List Value:=fs.flatMap fun f=>[sv f.1,sv f.2]
theorem Yo:∀(fs:List Fv) (j:Nat) (u:Value),(qB fs)[j]? = some u->∃ i,∃ h:i<fs.length,(j=i * 2/\u=sv fs[i].1)\/(j=i * 2+1/\u=sv fs[i].2)
 | [],j,u,h=>by simp [qB] at h
 | f::fs,0,u,h=>⟨0,by simp,.inl ⟨rfl,by simpa [qB] using h.symm⟩⟩
 | f::fs,1,u,h=>⟨0,by simp,.inr ⟨rfl,by simpa [qB] using h.symm⟩⟩
 | f::fs,j+2,u,h=>by
   obtain⟨i,hi,h'⟩:=Yo fs j u (by simpa [qB] using h)
   refine⟨i+1,by simp;omega,?_⟩
   rcases h' with⟨e,e2⟩ | ⟨e,e2⟩
   ·exact .inl ⟨by omega,by simpa using e2⟩
   ·exact .inr ⟨by omega,by simpa using e2⟩
theorem Z5:∀(fs:List Fv) (i:Nat) (h:i<fs.length),(qB fs)[i * 2]? = some (sv fs[i].1)/\(qB fs)[i * 2+1]? = some (sv fs[i].2)
 | f::fs,0,h=>⟨rfl,rfl⟩
 | f::fs,i+1,h=>by
   have:=Z5 fs i (by simpa using h)
   rw [show (i+1) * 2=i * 2+2 by omega]
   exact⟨by simpa [qB] using this.1,by simpa [qB] using this.2⟩
theorem jf (fs:List Fv):(qB fs).length=fs.length * 2:=by
 induction fs with
 | nil=>rfl
 | cons f fs ih=>simp [qB] at ih ⊢;omega
theorem jg (fs:List Fv):∀ u ∈ qB fs,u.oneCell'=true:=fun u hu=>by
 obtain⟨f,_,hf⟩:=List.mem_flatMap.1 hu
 simp at hf
 rcases hf with rfl | rfl<;>rfl
theorem Zn {n0:Nat} {w W:World} {av:Option Addr} {cap:Nat} {fs:List Fv} (h:zeF n0 w av cap fs) (hW:∀ b o x,b<n0->w.cell? ⟨b,o,none⟩=some x->W.cell? ⟨b,o,none⟩=some x):(fs.length=0/\av=none)\/∃ a,av=some a/\∀ j u,(qB fs)[j]? = some u->W.cell? (a.add j)=some u:=by
 by_cases h0:fs=[]
 ·subst h0
  cases av with
  | none=>exact .inl ⟨rfl,rfl⟩
  | some a=>exact .inr ⟨a,rfl,fun j u h=>by simp [qB] at h⟩
 ·obtain⟨b,off,rfl,hb,hc⟩:=h.2.2 h0
  refine .inr ⟨_,rfl,fun j u hj=>?_⟩
  obtain⟨i,hi,h'⟩:=Yo fs j u hj
  rw [zh]
  rcases h' with⟨rfl,rfl⟩ | ⟨rfl,rfl⟩
  ·exact hW _ _ _ hb (hc i hi).1
  ·exact hW _ _ _ hb (by rw [<-Nat.add_assoc];exact(hc i hi).2)
theorem Jb {ops:Array Oper} {rest:List Oper} {o:Oper} {a:Act} {w:World} {Q:Exit->Act->World->Prop} (s x:Operand) (t:TypeId) (hgd:o.guard=none)
 (ho:o.op=.call { callee:=.builtin .append,args:=#[s,x],argTypes:=#[t,t] }) (ht:Tryz.prog.underlying t=some (.slice 34)) (base:Nat) (v:Value) (n:Nat) (xs:List Value) (hs:a.eval s=v) (hown:w.ownsRow base 34 2 v n xs)
 (ad:Option Addr) (m c:Nat) (news:List Value) (hx:a.eval x=.slice ad m c) (hl:news.length=m * 2) (hnews:(m=0/\ad=none)\/∃ a,ad=some a/\∀ j u,news[j]? = some u->w.cell? (a.add j)=some u) (h1:∀ u ∈ news,u.oneCell'=true) (h63:n+m<=1073741824) (hbase:base<=w.heap.size)
 (h:∀ v' w',w'.ownsRow base 34 2 v' (n+m) (xs++news)->w.grownBy w' v.ownBlock->(v'.ownBlock=v.ownBlock\/v'.ownBlock=some w.heap.size)->wpList Tryz.prog ops Q rest (a.put o.dst v') w'):wpList Tryz.prog ops Q (o::rest) a w:=by
 have hw:Region.wanted o (yielded ops a.tmps)=true:=by simp [Region.wanted,hgd]
 unfold wpList
 rw [if_pos hw]
 refine .inl ?_
 obtain⟨v',w',hr,h2,h3,h4⟩:=YI w t o.type ht base v n xs hown ad m c news hl hnews h1 h63 hbase
 unfold Oper.wp execOp
 simp only [ho,resolve,invoke,builtin,Sem.run_bind,Sem.run_pure,Result.andThen_ok,List.map_toArray,List.map_cons,List.map_nil,hs,hx,hr]
 exact h v' w' h2 h3 h4
theorem OutG.two {C:Nat->Nat->Prop} {mb base:Nat} {w0 w:World} {v:Value} {a b:List Fg} {fa fb:List Fv} (hla:fa.length=a.length) (hlb:fb.length=b.length) (ho:w.ownsRow base 34 2 v (0+a.length+b.length) ([]++qB fa++qB fb))
 (hC:∀ b o,C b o->b<w0.heap.size) (hb:Below w0.heap.size w0 w) (hbase:w0.heap.size<=base)
 (da:∀ i (h:i<fa.length),Dat C w0 (sv fa[i].1) (rg (a[i]'(hla ▸ h)).items)/\Dat C w0 (sv fa[i].2) (vp (a[i]'(hla ▸ h)).vec)) (db:∀ i (h:i<fb.length),Dat C w0 (sv fb[i].1) (rg (b[i]'(hlb ▸ h)).items)/\Dat C w0 (sv fb[i].2) (vp (b[i]'(hlb ▸ h)).vec)):OutG C mb base w v (a++b):=by
 have key:∀ {x:Value} {p:PV},Dat C w0 x p->Dat (DX C mb w v) w x p:=fun h=>h.mono (fun b o h=>⟨.inl h,fun e=>by have:=(ho.lt b e).1;have:=hC b o h;omega⟩) fun b o x hc hx=>(World.cell?_of_block (a:=⟨b,o,none⟩) (hb.block b (hC b o hc))).trans hx
 have hl:=jf fa
 have hl2:=jf fb
 refine⟨qB fa++qB fb,⟨by rw [List.length_append,<-Nat.zero_add a.length];exact ho,by simp;omega,fun u hu=>?_⟩,fun i hi=>?_⟩
 ·rcases List.mem_append.1 hu with hu | hu
  ·exact jg fa u hu
  ·exact jg fb u hu
 ·by_cases h1:i<a.length
  ·obtain⟨e1,e2⟩:=Z5 fa i (by omega)
   obtain⟨d1,d2⟩:=da i (by omega)
   have hg:(a++b)[i]=a[i]:=List.getElem_append_left h1
   rw [hg]
   exact⟨_,_,by rw [List.getElem?_append_left (by omega)];exact e1,by rw [List.getElem?_append_left (by omega)];exact e2,key d1,key d2⟩
  ·have hib:i - a.length<b.length:=by simp at hi;omega
   obtain⟨e1,e2⟩:=Z5 fb (i - a.length) (by omega)
   obtain⟨d1,d2⟩:=db (i - a.length) (by omega)
   have hg:(a++b)[i]=b[i - a.length]:=List.getElem_append_right (by omega)
   rw [hg]
   exact⟨_,_,by rw [List.getElem?_append_right (by omega),hl,show i * 2 - fa.length * 2=(i - a.length) * 2 by omega];exact e1,by rw [List.getElem?_append_right (by omega),hl,show i * 2+1 - fa.length * 2=(i - a.length) * 2+1 by omega];exact e2,key d1,key d2⟩
end Go.Proofs.YtonhfknjcbakiaaGreatDoor
namespace Go.Proofs.YtonhfknjcbakiaaGreatDoor
open Go.RowKit
noncomputable def Zx (f:Bool->Bool->Bool) (a b:List Fg) (s:Iv):Fg:=⟨[s],ks f (qc a s.lo) (qc b s.lo)⟩
theorem Qr (f:Bool->Bool->Bool) (a b:List Fg) {j:Nat} (h:j<(zu (a++b)).length):((zu (a++b)).take (j+1)).map (fun s=>fc (Zx f a b s))=((zu (a++b)).take j).map (fun s=>fc (Zx f a b s))++[fc (Zx f a b (zu (a++b))[j])]:=by
 rw [List.take_succ_eq_append_getElem h,List.map_append];rfl
theorem YC (f:Bool->Bool->Bool) (a b:List Fg) {j:Nat} (h:(zu (a++b)).length<=j):((zu (a++b)).take j).map (fun s=>fc (Zx f a b s))=(yy f a b).map fc:=by
 rw [List.take_of_length_le h];unfold yy;rw [List.map_map];rfl
def KQ:Nat->Code->Code
 | 0,c=>c
 | n+1,.seq _ c=>KQ n c
 | _,c=>c
theorem zjO {B:Nat->List Nat} {R:List Nat} {n:Nat} (f:Bool->Bool->Bool) (hf:f false false=false) (op:FuncId) (a b:List Fg) (ha:Kn B R n a) (hb:Kn B R n b) (ok:OkX B R) (hn:n<=40000)
 (hop:∀ x,Cn Tryz.prog op [vp (qc a x),vp (qc b x)] (vp (ks f (qc a x) (qc b x)))) :
 pW Tryz.prog Tryz.f70.ntmps True ((qx Tryz.prog Tryz.f70.ntmps [] (KQ 7 (xN Tryz.f70))).getD .sk) (jG [.t 6,.c 7 false 1] (.tup [kp (vh f a b),.v .nilIface])) ⟨[(0,kp a),(1,kp b),(2,.fn (.func op) [] []),(7,.bx 0 0),(8,kp (a++b)),(9,.sl [] .z)],[[.v .nilIface]]⟩:=by
 have hab:=ha.app hb
 have h12:=hab.ok12 ok (by omega)
 have ha12:=ha.ok12 ok (by omega)
 have hb12:=hb.ok12 ok (by omega)
 have hpl:=xW (a++b)
 have h12t:=h12.t
 have hpa:=ha.parts hf hb ok
 have hgr:=zfn (yy f a b) hpa ok (by omega)
 conv=>arg 4;cbv
 refine pw ?_
 refine .c (zdF (a++b) h12.r h12.z (by have:=h12.l;omega) h12.t) ?_
 refine pLoop.go (fun j=>j<=(zu (a++b)).length) (fun j=>[(9,.sl (((zu (a++b)).take j).map (fun s=>fc (Zx f a b s))) (.r 51 2)),(32,.v (.int .i64 (j:Nat)))]) (fun _=>[[.v .nilIface]]) (fun j=>(zu (a++b)).length - j) 0 [9,32] ?_ ?_ ?_
 ·exact Nat.zero_le _
 ·exact pd
 ·rintro j hj
  refine pw ?_
  refine .i ?_ ?_<;>intro h<;>(try simp only [zb] at h)<;>first | refine pw ?_ | exact pd
  ·have hst:=Qr f a b h
   refine .c (zgU a (zu (a++b))[j].lo ha12.ik ha12.ok ha12.r ha12.s ha12.z) ?_
   refine .c (zgU b (zu (a++b))[j].lo hb12.ik hb12.ok hb12.r hb12.s hb12.z) ?_
   have hcl:=hop (zu (a++b))[j].lo
   (first | refine .c (hcl) ?_ | refine .o (hcl) ?_)
   refine cutP.full rfl ?_ rfl ?_ ?_
   ·exact pd
   ·exact pd
   ·refine pw ?_
    exact⟨j+1,h,by omega,hst.symm,rfl⟩
  ·have hg2:Cn Tryz.prog 74 [.sl (((zu (a++b)).take j).map (fun s=>fc (Zx f a b s))) .sh] (kp (vh f a b)):=by rw [YC f a b (by omega)];exact hgr
   (first | exact .d (hg2) | exact .q (hg2))
end Go.Proofs.YtonhfknjcbakiaaGreatDoor
