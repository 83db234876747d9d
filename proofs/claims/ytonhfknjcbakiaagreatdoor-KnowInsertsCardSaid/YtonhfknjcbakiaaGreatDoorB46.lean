import Derived.Test.YtonhfknjcbakiaaGreatDoorB44
import Derived.Test.YtonhfknjcbakiaaGreatDoorB45
set_option maxHeartbeats 16000000
set_option linter.unusedVariables false
set_option linter.unusedSimpArgs false
set_option maxRecDepth 100000
namespace Go.Proofs.YtonhfknjcbakiaaGreatDoor
open Go.RowKit Go.Maps
attribute [-go_sem] nat_succ
def MapS (D:DV) (S:List Nat):Prop:=IsMap D/\∀ r,has D (kR r)=decide (r ∈ S)
theorem MapS.nil:MapS (.map []) []:=⟨⟨[],rfl⟩,fun r=>by simp [has]⟩
theorem MapS.put {D:DV} {S:List Nat} (h:MapS D S) (r:Nat) (v:DV):MapS (D.put (kR r) v) (S++[r]):=by
 refine⟨h.1.put _ _,fun s=>?_⟩
 by_cases e:s=r
 ·subst e
  rw [has_put_same h.1 (Qc _)];simp
 ·rw [has_put_other (fun h=>e (Xa h)),h.2 s];simp [e]
def MI (B:Nat) (w:World) (S:List Nat):Prop:=∃ D,w.ownsMap Tryz.prog 24 rV B S.length D/\MapS D S
theorem MI.made (w:World):MI w.heap.size (w.alloc (.map #[] 0)) []:=⟨_,World.ownsMap_made _ _ _ _,MapS.nil⟩
theorem MI.keep {B:Nat} {w w':World} {S:List Nat} (h:MI B w S) (hb:w'.heap[B]? = w.heap[B]?):MI B w' S:=by
 obtain⟨D,a,j⟩:=h
 exact⟨D,yg a hb,j⟩
theorem MI.lt {B:Nat} {w:World} {S:List Nat} (h:MI B w S):B<w.heap.size:=by
 obtain⟨D,a,_⟩:=h
 exact a.lt
theorem xe {w:World} {C:Array Oper} {rest:List Oper} {o:Oper} {a:Act} {Q:Exit->Act->World->Prop} (L:o.guard=none) (m x v:Operand)
 (j:o.op=.mapUpdate 245 m x v\/o.op=.insert 245 m x v) {B:Nat} {S:List Nat} (G:a.eval m=.map (some B)) (h:MI B w S) (M:S.length<maxLen) {r:Nat} (N:r<M64) (H:a.eval x=.int .u64 (r:Nat))
 (F:∀ y,MI B y (S++[r])->w.grownBy y (some B)->wpList Tryz.prog C Q rest (a.put o.dst undef) y):wpList Tryz.prog C Q (o::rest) a w:=by
 obtain⟨D,K,E⟩:=h
 refine wpList_plain L fun O A=>?_
 obtain⟨y,u,I,J⟩:=K.update vF Tryz.underlying245 M (Zq N) (val:=a.eval v) rfl
 unfold Oper.wp
 rcases j with j | j
 ·simp [execOp,j,G,H,u,Result.andThen]
  exact A _ _ (F y ⟨_,by simpa using I,E.put r _⟩ J)
 ·simp [execOp,j,G,H,u,Result.andThen]
  exact A _ _ (F y ⟨_,by simpa using I,E.put r _⟩ J)
def rdG (u:Nat) (w:World) (b o:Nat) (f:Fg):Prop:=(∃ a,w.cell? ⟨b,o,none⟩=some a/\RdR 0 u w a f.items)/\∃ j n c,w.cell? ⟨b,o+1,none⟩=some (.slice j n c)
theorem ze3 {D:Nat->Nat->Prop} {w:World} {x:Value} {k:List Fg} (h:Dat D w x (kp k)) (E:∀ b o,D b o->b<w.heap.size) (hb:RightK k):RdSl 2 (rdG w.heap.size) 0 w.heap.size w x k:=by
 unfold kp at h
 generalize F:k.map fc=es at h
 cases h with
 | sl a cap sz es o b off u hc hz hm ha hsz hd hx=>
   have hl:es.length=k.length:=by rw [<-F];simp
   refine⟨a,cap,by rw [hl],by omega,hm,fun B=>?_⟩
   have y:0<k.length:=List.length_pos_iff.2 B
   have g:∀ i (h:i<k.length),es[i]? = some (fc k[i]):=fun i h=>by rw [<-F];exact xo h
   obtain rfl:2=sz:=hsz 0 _ (g 0 y)
   have A:es≠[]:=by intro e;subst e;simp at hl;omega
   have j:b<w.heap.size:=E _ _ (hd 0 (by omega)).1
   refine⟨b,off,ha A,Nat.zero_le _,j,fun i hi=>?_⟩
   have I:=hx i _ 0 _ (g i hi) rfl
   have e1:=hx i _ 1 _ (g i hi) rfl
   have H:=(hd (i * 2+0) (by omega)).2.1
   have C:=(hd (i * 2+1) (by omega)).2.1
   obtain⟨K,c,J,L,G,M,q,_⟩:=(Rel.dat (ρ:=fun _=>0) (nb:=0) (show Dat D w (u (i * 2+1)) (.sl (k[i].vec.map ec) .sh) from e1)).inv_sl
   rw [q] at C
   exact⟨⟨_,H,je I E (hb _ (List.getElem_mem hi)).1.lt⟩,_,_,_,C⟩
theorem RdG.keep {u:Nat} {w w':World} {v:Value} {k:List Fg} (h:RdSl 2 (rdG u) 0 u w v k) (hb:∀ j,j<u->w'.heap[j]? = w.heap[j]?):RdSl 2 (rdG u) 0 u w' v k:=
 RdSl.keep h (Nat.le_refl _) (Nat.le_refl _) fun b o x _ h2 ⟨⟨hv,c0,c1⟩,ad,n,c,c2⟩=>
  ⟨⟨hv,(World.cell?_of_block (a:=⟨b,o,none⟩) (hb b h2)).trans c0,c1.keep (Nat.le_refl _) (Nat.le_refl _) fun b _ h=>hb b h⟩,ad,n,c,(World.cell?_of_block (a:=⟨b,o+1,none⟩) (hb b h2)).trans c2⟩
theorem Ky {k:List Fg} {i:Nat} (hi:i<k.length):CI (k.take (i+1))=CI (k.take i)++z6 k[i].items:=by
 unfold CI
 rw [List.take_succ_eq_append_getElem hi,List.flatMap_append]
 simp
theorem zaV {l:List Iv} {j:Nat} (a:j<l.length):z6 (l.take (j+1))=z6 (l.take j)++jQ l[j]:=by
 unfold z6
 rw [List.take_succ_eq_append_getElem a,List.flatMap_append]
 simp
theorem ze0 {s:Iv} (h:s.hi=M64 - 1):jQ s=[s.lo]:=by unfold jQ;rw [if_neg (by omega)]
theorem zcz {s:Iv} (h:s.hi<M64 - 1):jQ s=[s.lo]++[s.hi+1]:=by unfold jQ;rw [if_pos h];rfl
theorem zfO (w:World):Calls Tryz.prog 196 #[.int .u64 18446744073709551615] w fun e a=>e=.returned (.tuple #[.int .u64 0,.bool false])/\a=w:=by
 go_enter Tryz.func196,Tryz.ntmps196
 go_wp2
 all_goals (refine bodyPost_ret (results_tmp2 rfl _ _ _) rfl ?_;refine⟨?_,rfl⟩;simp;try omega)
theorem zdr (x:Nat) (j:x<18446744073709551615) (w:World):Calls Tryz.prog 196 #[.int .u64 (x:Nat)] w fun e a=>e=.returned (.tuple #[.int .u64 ((x:Int)+1),.bool true])/\a=w:=by
 go_enter Tryz.func196,Tryz.ntmps196
 go_wp2
 all_goals (refine bodyPost_ret (results_tmp2 rfl _ _ _) rfl ?_;refine⟨?_,rfl⟩;simp;try omega)
theorem zgc (w:World):Calls Tryz.prog 197 #[.int .u64 0] w fun e a=>e=.returned (.tuple #[.int .u64 0,.bool false])/\a=w:=by
 go_enter Tryz.func197,Tryz.ntmps197
 go_wp2
 all_goals (refine bodyPost_ret (results_tmp2 rfl _ _ _) rfl ?_;refine⟨?_,rfl⟩;simp;try omega)
theorem VH (x:Nat) (j:x<18446744073709551615) (w:World):Calls Tryz.prog 197 #[.int .u64 ((x:Int)+1)] w fun e a=>e=.returned (.tuple #[.int .u64 (x:Nat),.bool true])/\a=w:=by
 go_enter Tryz.func197,Tryz.ntmps197
 go_wp2
 all_goals (refine bodyPost_ret (results_tmp2 rfl _ _ _) rfl ?_;refine⟨?_,rfl⟩;simp;try omega)
def RgS (B r n:Nat) (S:List Nat) (keep:Nat->Bool) (g:Nat) (left:Lit->Bool) (w:World):Prop:=
 ∃ D,w.ranges Tryz.prog 24 rV B r n D left g/\IsMap D/\(∀ x,has D (kR x)=(decide (x ∈ S) && (left (kR x) || keep x)))/\∀ x,left (kR x)=true->x ∈ S
def GotS (S:List Nat) (left:Lit->Bool) (l:List Nat):Prop:=l.Nodup/\∀ x,x ∈ l ↔ x ∈ S/\left (kR x)=false
theorem zay {left:Lit->Bool} {r x:Nat}:(left (kR r) && !(kR r).sameKey (kR x))=(left (kR r) && !decide (r=x)):=by
 have h:(kR r).sameKey (kR x)=decide (r=x):=by
  simp [kR,Lit.sameKey]
  omega
 rw [h]
section
variable {B r n g x:Nat} {S:List Nat} {kp:Nat->Bool} {left:Lit->Bool} {w:World} {D:DV}
theorem RgS.next (j:IsMap D) (u:∀ y,has D (kR y)=(decide (y ∈ S) && (left (kR y) || kp y))) (hl:∀ y,left (kR y)=true->y ∈ S) (A:left (kR x)=true) (hk:kp x=true)
 (h:w.ranges Tryz.prog 24 rV B r n D (fun z=>left z && !z.sameKey (kR x)) g):RgS B r n S kp g (fun z=>left z && !z.sameKey (kR x)) w:=by
 refine⟨D,h,j,fun y=>?_,fun y a=>hl y ?_⟩
 ·dsimp only
  rw [u y,zay]
  by_cases e:y=x
  ·subst e;simp [hk]
  ·simp [e]
 ·dsimp only at a
  cases h0:left (kR y) with
  | true=>rfl
  | false=>rw [h0] at a;simp at a
theorem RgS.del (j:IsMap D) (u:∀ y,has D (kR y)=(decide (y ∈ S) && (left (kR y) || kp y))) (hl:∀ y,left (kR y)=true->y ∈ S) (hk:kp x=false)
 (h:w.ranges Tryz.prog 24 rV B r n (D.del (kR x)) (fun z=>(left z && !z.sameKey (kR x)) && !z.sameKey (kR x)) g):RgS B r n S kp g (fun z=>left z && !z.sameKey (kR x)) w:=by
 rw [Maps.strike_twice] at h
 refine⟨_,h,j.del _,fun y=>?_,fun y a=>hl y ?_⟩
 ·dsimp only
  rw [zay]
  by_cases e:y=x
  ·subst e;rw [has_del_same];simp [hk]
  ·rw [has_del_other (fun h=>e (Xa h)),u y];simp [e]
 ·dsimp only at a
  cases h0:left (kR y) with
  | true=>rfl
  | false=>rw [h0] at a;simp at a
theorem RgS.keep {w':World} (h:RgS B r n S kp g left w) (hb:w'.heap[B]? = w.heap[B]?) (u:w'.heap[r]? = w.heap[r]?):RgS B r n S kp g left w':=by
 obtain⟨D,a,j⟩:=h
 exact⟨D,yD a hb u,j⟩
theorem GotS.nil (h:∀ y,left (kR y)=true ↔ y ∈ S):GotS S left []:=
 ⟨List.nodup_nil,fun y=>by
  constructor
  ·intro h;cases h
  ·rintro⟨j,a⟩
   rw [(h y).2 j] at a
   cases a⟩
theorem GotS.push {l:List Nat} (h:GotS S left l) (B:left (kR x)=true) (A:x ∈ S):GotS S (fun z=>left z && !z.sameKey (kR x)) (l++[x]):=by
 refine⟨List.nodup_append.2 ⟨h.1,by simp,fun a w b hb e=>?_⟩,fun y=>?_⟩
 ·rw [List.mem_singleton] at hb
  rw [e,hb] at w
  have:=((h.2 x).1 w).2
  rw [B] at this
  cases this
 ·dsimp only
  rw [QM,List.mem_append,List.mem_singleton,h.2 y]
  constructor
  ·rintro(⟨u,j⟩ | rfl)
   ·exact⟨u,.inl j⟩
   ·exact⟨A,.inr rfl⟩
  ·rintro⟨u,j | j⟩
   ·exact .inl ⟨u,j⟩
   ·exact .inr j
end
def kpB (k:List Fg) (x:Nat):Bool:=decide (x=0) || !decide (zU k (x - 1)=zU k x)
theorem Yd {k:List Fg} (A:RightK k) {l:List Nat} (y:l.Pairwise (·<=·)) (w:l.Nodup) (u:∀ x,x ∈ l ↔ x ∈ 0::CI k/\(x=0\/zU k (x - 1)≠zU k x)):l=zq k:=by
 have j:YN l:=by
  refine(List.pairwise_and_iff.2 ⟨y,w⟩).imp ?_
  intro a b h
  have:=h.1
  have:=h.2
  omega
 refine jK j (xc k) fun x=>?_
 rw [u,zq,List.mem_filter,zH,qr,yU]
 have e1:(k.map Fg.items).flatMap z6=CI k:=by unfold CI;rw [List.flatMap_map]
 rw [e1]
 simp only [Bool.or_eq_true,decide_eq_true_eq,Bool.not_eq_true']
 refine and_congr_right fun _=>or_congr_right ?_
 rw [ne_eq,Vp,Bool.not_eq_true]
def MemV (C:Nat->Nat->Prop) (l:List Nat) (u:Value) (w:World):Prop:=∃ D:Nat->Nat->Prop,(∀ b o,C b o->D b o)/\(∀ b o,D b o->b<w.heap.size)/\Dat D w u (is l)
theorem MemV.stab {C:Nat->Nat->Prop} {l:List Nat} (u:Value) (w A:World) (h:MemV C l u w) (hk:Keep qe w A):MemV C l u A:=by
 obtain⟨D,B,y,E⟩:=h
 exact⟨D,B,fun b o j=>Nat.lt_of_lt_of_le (y b o j) hk.size,E.mono (fun _ _ h=>h) fun b o x j F=>(World.cell?_of_block (a:=⟨b,o,none⟩) (hk.block b (y b o j) id)).trans F⟩
theorem Xg {C:Nat->Nat->Prop} {w0 w:World} {k:List Fg} {v:Value} (x:Nat) (M:RightK k) (hz:SzK k) (F:k.length<=1073741824) (L:Dat C w0 v (kp k)) (H:∀ b o,C b o->b<w0.heap.size) (J:GL C w0) (hb:Below w0.heap.size w0 w) :
 Calls Tryz.prog 57 #[v,.int .u64 (x:Nat)] w fun e G=>∃ u,e=.returned u/\Below w.heap.size w G/\MemV C (zU k x) u G:=by
 have I:∀ b o y,C b o->w0.cell? ⟨b,o,none⟩=some y->w.cell? ⟨b,o,none⟩=some y:=fun b o y K N=>(World.cell?_of_block (a:=⟨b,o,none⟩) (hb.block b (H b o K))).trans N
 have A:∀ b o,C b o->b<w.heap.size:=fun b o h=>Nat.lt_of_lt_of_le (H b o h) hb.size
 refine(jP (K9 k x M hz F) (J.mono (fun _ _ h=>h) I) A (vs:=#[v,.int .u64 (x:Nat)]) rfl (fun i p j=>by
  match i,j with
  | 0,j=>cases j;exact L.mono (fun _ _ h=>h) I
  | 1,j=>cases j;exact .v _
  | i+2,j=>simp at j)).mono ?_
 rintro e G ⟨u,rfl,B,E⟩
 exact⟨u,rfl,B,_,fun b o h=>.inl h,fun b o h=>h.elim (fun h=>Nat.lt_of_lt_of_le (A b o h) B.size) And.right,E⟩
theorem zgP {C:Nat->Nat->Prop} {w0 w:World} {a b:List Nat} {u v:Value} (r:Bool) (L:decide (a=b)=r) (J:a.length<=1152921504606846976) (H:∀ b o,C b o->b<w0.heap.size) (I:GL C w0) (hb:Below w0.heap.size w0 w) (M:MemV C a u w) (N:MemV C b v w) :
 Calls Tryz.prog 56 #[u,v] w fun e E=>e=.returned (.bool r)/\Below w.heap.size w E:=by
 subst L
 obtain⟨F,Q,S,T⟩:=M
 obtain⟨G,X,U,V⟩:=N
 have O:∀ b o y,C b o->w0.cell? ⟨b,o,none⟩=some y->w.cell? ⟨b,o,none⟩=some y:=fun b o y K P=>(World.cell?_of_block (a:=⟨b,o,none⟩) (hb.block b (H b o K))).trans P
 refine(jP (D:=fun b o=>F b o\/G b o) (zjX a b J) (I.mono (fun b o h=>.inl (Q b o h)) O) (fun b o h=>h.elim (S b o) (U b o)) (vs:=#[u,v]) rfl (fun i p j=>by
  match i,j with
  | 0,j=>cases j;exact T.mono (fun _ _ h=>.inl h) fun _ _ _ _ h=>h
  | 1,j=>cases j;exact V.mono (fun _ _ h=>.inr h) fun _ _ _ _ h=>h
  | i+2,j=>simp at j)).mono ?_
 rintro e E ⟨r,rfl,A,B⟩
 rw [B.v_inv]
 exact⟨rfl,A⟩
theorem XJ {k:List Fg} (i:Nat):(CI (k.take i)).length<=(CI k).length:=by
 have:CI k=CI (k.take i)++CI (k.drop i):=by unfold CI;rw [<-List.flatMap_append,List.take_append_drop]
 rw [this,List.length_append];omega
theorem Q0 {l:List Iv} (j:Nat):(z6 (l.take j)).length<=(z6 l).length:=by
 have:z6 l=z6 (l.take j)++z6 (l.drop j):=by unfold z6;rw [<-List.flatMap_append,List.take_append_drop]
 rw [this,List.length_append];omega
theorem XD (C:Nat->Nat->Prop) (k:List Fg) (vk:Value) (w:World) (hr:RightK k) (hz:SzK k) (aS:k.length<=1073741824) (hT:(CI k).length<=1000000) (rk:Dat C w vk (kp k)) (hC:∀ b o,C b o->b<w.heap.size) (hG:GL C w) :
 Calls Tryz.prog 162 #[vk] w fun e w'=>∃ v,e=.returned v/\Below w.heap.size w w'/\OwnU w.heap.size w' v (zq k):=by
 have dg:=@run_makeMap Tryz.prog
 have rg:=ze3 rk hC hr
 have RK:=Lib.hid rk
 have RG:=Lib.hid rg
 have HR:=Lib.hid hr
 have ag:=Lib.hid hG
 obtain⟨aa,ca,rfl,db,cI,_⟩:=rg
 unfold maxLen at cI
 clear rk hG
 have bg:True:=trivial
 go_enter Tryz.func162,Tryz.ntmps162
 go_wp2_with (first
  | (have _t:=bg;refine xe rfl _ _ _ (.inr rfl) rfl (MI.made w) (by decide) (r:=0) xM rfl ?_;clear bg;intro w1 ak bY;dsimp only [Act.put])
  | go_in)
 have cP:w.heap.size<w1.heap.size:=ak.lt
 have bF:Hid (Below w.heap.size w w1):=Lib.hid (((Below.refl _ w).alloc (Nat.le_refl _) (.map #[] 0)).grown bY (by simp) fun j F=>by cases F;exact Nat.le_refl _)
 have bJ:=Lib.hid ak
 clear ak bY
 go_wp2_with fail
 go_loopg [19] k.length (fun g x wr=>∃ i,i<=k.length/\g=k.length - i/\x=.int .i64 i/\MI w.heap.size wr (0::CI (k.take i))/\Below w.heap.size w wr)
 case atStart=>exact⟨0,Nat.zero_le _,rfl,rfl,by simpa [CI] using bJ.out,bF.out⟩
 case round=>
  obtain⟨i,hi,rfl,rfl,ak,hB⟩:=hrel
  clear bJ bF cP
  have X:=Lib.hid ak
  have HB:=Lib.hid hB
  clear ak hB
  by_cases O:i<k.length
  ·obtain⟨a',au,ax,_,_,az⟩:=id RG.out
   obtain⟨bb,ct,bz,_,bB,T⟩:=az (by intro e;subst e;simp at O)
   obtain⟨rfl,_,rfl⟩:aa=a'/\k.length=k.length/\ca=au:=by simpa using ax
   subst bz
   obtain⟨⟨hv,c0,aT⟩,av,nv,cv,c1⟩:=T i O
   replace c0:=(HB.out.cell (p:=⟨bb,ct+i * 2,none⟩) bB).trans c0
   replace c1:=(HB.out.cell (p:=⟨bb,ct+i * 2+1,none⟩) bB).trans c1
   have HE:Hid (∃ f,f=k[i]):=⟨_,rfl⟩
   obtain⟨f,hf⟩:=HE.out
   rw [<-hf] at aT
   have HF:=Lib.hid hf
   have bX:ZS f:=by rw [hf];exact hr _ (List.getElem_mem O)
   have cy:=Lib.hid bX
   obtain⟨ai,ci,rfl,dc,cL,_⟩:=id aT
   have cG:=Lib.hid aT
   have cV:(CI (k.take i)).length+(z6 f.items).length<=1000000:=by
    have:=XJ (k:=k) (i+1)
    rw [Ky O,<-hf,List.length_append] at this
    omega
   clear az T ax aT hf HE bX
   unfold maxLen at cL
   obtain⟨wo,bE⟩:∃ wo,wo=wr:=⟨_,rfl⟩
   subst bE
   go_wp2_with fail
   go_loopg [26] f.items.length (fun g x wq=>∃ j,j<=f.items.length/\g=f.items.length - j/\x=.int .i64 j/\MI w.heap.size wq (0::CI (k.take i)++z6 (f.items.take j))/\Below w.heap.size w wq)
   case atStart=>exact⟨0,Nat.zero_le _,rfl,rfl,by simpa [z6] using X.out.keep (Below.heap_alloc _ _ _ X.out.lt),HB.out.alloc HB.out.size _⟩
   case round=>
    obtain⟨j,F,rfl,rfl,cj,bW⟩:=hrel
    have Q:=Lib.hid cj
    have N:=Lib.hid bW
    clear X cj bW
    by_cases Z:j<f.items.length
    ·obtain⟨a',au,ax,_,_,az⟩:=cG.out.keep (w':=wr) (Nat.le_refl _) (Nat.le_refl _) fun b _ h=>N.out.block b h
     obtain⟨bi,oi,bz,_,bB,T⟩:=az (by intro e;rw [e] at Z;simp at Z)
     obtain⟨rfl,_,rfl⟩:ai=a'/\f.items.length=f.items.length/\ci=au:=by simpa using ax
     subst bz
     obtain⟨d0,d1,l0,l1⟩:=T j Z
     obtain⟨s,hs⟩:∃ s,s=f.items[j]:=⟨_,rfl⟩
     have cM:s.lo<=s.hi/\s.hi<M64:=by rw [hs];exact cy.out.1.ivs2 _ (List.getElem_mem Z)
     have aR:=zaV Z
     have aA:=Q0 (l:=f.items) (j+1)
     rw [<-hs] at d0 d1 l0 l1 aR
     rw [aR,List.length_append] at aA
     have bH:=Lib.hid aR
     clear az T ax hs aR
     have K:True:=trivial
     have L:True:=trivial
     by_cases I:s.hi=M64 - 1
     ·have Y:=ze0 I
      have hh:((s.hi:Nat):Int)=18446744073709551615:=by rw [I,zw];rfl
      rw [hh] at d1
      have bl:=Lib.hid Y
      clear Y I hh
      have aP:=Q.out.lt
      go_wp2_with (first
       | (at_mapUpdate;have _t:=K;refine xe rfl _ _ _ (.inl rfl) rfl (Q.out.keep (Below.heap_alloc _ _ _ Q.out.lt)) (by simp;unfold maxLen;omega) (r:=s.lo) l0 rfl ?_;clear K;intro w2 aF M
          have aJ:w2.heap[wr.heap.size]? = some (.cells #[.int .u64 s.lo,.int .u64 18446744073709551615] 36 (0,0)):=(M.block _ (by simp) (by simp;omega)).trans (World.alloc_heap_new _ _)
          have f2:=(zW aJ 1 _ rfl).1
          have ah:=Lib.hid aF;have aM:=Lib.hid M;clear aF M aJ;dsimp only [Act.put])
       | (go_at_call 196;refine(zfO _).mono ?_;rintro e w' ⟨rfl,rfl⟩)
       | go_in)
      go_roundg (f.items.length - (j+1))
      case measure=>omega
      case rel=>
       refine⟨j+1,Z,rfl,by simp,?_,((N.out.alloc N.out.size _).grown aM.out (by simp;have:=N.out.size;omega) fun j F=>by cases F;exact Nat.le_refl _)⟩
       rw [bH.out,bl.out,<-List.append_assoc];exact ah.out
     ·obtain⟨y,hy⟩:∃ y,s.hi=y:=⟨_,rfl⟩
      have hM:=zw
      have Y:=zcz (s:=s) (by omega)
      rw [hy] at d1 Y I cM l1
      have bl:=Lib.hid Y
      have cq:y<18446744073709551615:=by omega
      have cr:y+1<M64:=by omega
      rw [Y,List.length_append] at aA
      simp at aA
      clear Y I hy hM
      have aP:=Q.out.lt
      go_wp2_with (first
       | (at_mapUpdate;have _t:=K;refine xe rfl _ _ _ (.inl rfl) rfl (Q.out.keep (Below.heap_alloc _ _ _ Q.out.lt)) (by simp;unfold maxLen;omega) (r:=s.lo) l0 rfl ?_;clear K;intro w2 aF M
          have aJ:w2.heap[wr.heap.size]? = some (.cells #[.int .u64 s.lo,.int .u64 y] 36 (0,0)):=(M.block _ (by simp) (by simp;omega)).trans (World.alloc_heap_new _ _)
          have f2:=(zW aJ 1 _ rfl).1
          have ah:=Lib.hid aF;have aM:=Lib.hid M;clear aF M aJ;dsimp only [Act.put])
       | (go_at_call 196;refine(zdr y cq _).mono ?_;rintro e w' ⟨rfl,rfl⟩)
       | (at_mapUpdate;have _t:=L;refine xe rfl _ _ _ (.inl rfl) rfl ah.out (by simp;unfold maxLen;omega) (r:=y+1) cr rfl ?_;clear L;intro w3 cg aB;have cB:=Lib.hid cg;have cz:=Lib.hid aB;clear cg aB;dsimp only [Act.put])
       | go_in)
      go_roundg (f.items.length - (j+1))
      case measure=>omega
      case rel=>
       refine⟨j+1,Z,rfl,by simp,?_,((N.out.alloc N.out.size _).grown aM.out (by simp;have:=N.out.size;omega) fun j F=>by cases F;exact Nat.le_refl _).grown cz.out (by have:=N.out.size;have:=aM.out.size;simp at this;omega) fun j F=>by cases F;exact Nat.le_refl _⟩
       have:=cB.out
       rw [bH.out,bl.out]
       simpa using this
    ·obtain rfl:j=f.items.length:=by omega
     rw [List.take_length] at Q
     go_wp2_with fail
     go_roundg (k.length - (i+1))
     case measure=>omega
     case rel=>
      refine⟨i+1,O,rfl,by simp,?_,N.out⟩
      rw [Ky O,<-HF.out]
      exact Q.out
  ·obtain rfl:i=k.length:=by omega
   rw [List.take_length] at X
   obtain⟨S,hS⟩:∃ S,S=0::CI k:=⟨_,rfl⟩
   rw [<-hS] at X
   have da:S.length<=1000001:=by rw [hS];simp;omega
   have HS:=Lib.hid hS
   clear hS
   obtain⟨D,A,ck⟩:=X.out
   have aP:=A.lt
   have HO:=Lib.hid A
   have aO:=Lib.hid ck
   clear A ck
   obtain⟨wo,bE⟩:∃ wo,wo=wr:=⟨_,rfl⟩
   subst bE
   have K:True:=trivial
   go_wp2_with (first
    | (at_range;have _t:=K;refine wpList_range_own _ rfl _ 245 rfl 24 4 vF Tryz.underlying245 rV w.heap.size S.length D rfl HO.out ?_;intro w2 ba M dh;clear K)
    | go_in)
   go_frame
   have bK:Hid (RgS w.heap.size wo.heap.size S.length S (kpB k) (Maps.size D) (Maps.has D) w2):=Lib.hid ⟨D,ba,aO.out.1,fun x=>by rw [aO.out.2 x];simp;exact .inl,fun x h=>by rw [aO.out.2 x] at h;simpa using h⟩
   have bG:Hid (Below w.heap.size w w2):=Lib.hid (HB.out.grown M HB.out.size fun j F=>by cases F)
   clear ba M HO X aO
   go_loopg [] (Maps.size D) (fun g wr=>∃ left,RgS w.heap.size wo.heap.size S.length S (kpB k) g left wr/\Below w.heap.size w wr)
   case atStart=>exact⟨_,bK.out,bG.out⟩
   case round=>
    obtain⟨left,cO,bR⟩:=hrel
    obtain⟨D3,am,bT,aX,aD⟩:=cO
    have bM:=Lib.hid am
    have bn:=Lib.hid bT
    have aN:=Lib.hid aX
    have bq:=Lib.hid aD
    have aL:=Lib.hid bR
    clear am bT aX aD bR bK bG
    go_wp2_with (first
     | (at_next;refine wpList_next_ranges _ rfl _ rfl 24 vF rV (fun r:{r:Nat // r<M64}=>Value.int .u64 (r.1:Nat)) (fun c:Value=>c) zhV (fun v y _=>⟨v,rfl⟩) w.heap.size wo.heap.size S.length D3 left gk rfl bM.out ?_ ?_)
     | go_in)
    ·intro bC aC
     obtain⟨wl,cQ⟩:∃ wl,wl=wr:=⟨_,rfl⟩
     subst cQ
     obtain⟨S2,aQ⟩:∃ S2,S2=S.filter (kpB k):=⟨_,rfl⟩
     have aZ:∀ y,has D3 (kR y)=decide (y ∈ S2):=fun y=>by rw [aN.out y,aC,aQ,Bool.false_or];simp [List.mem_filter]
     have bU:S2.length<=1000001:=by have:=List.length_filter_le (kpB k) S;rw [<-aQ] at this;omega
     have ah:=Lib.hid aZ
     have bO:=Lib.hid aQ
     have A:=bM.out.owns
     have HO:=Lib.hid A
     have cZ:w.heap.size<wl.heap.size:=A.lt
     clear aZ aQ A aC bC
     have bj:True:=trivial
     go_wp2_with (first
      | (at_range;have _t:=bj;refine wpList_range_own _ rfl _ 245 rfl 24 4 vF Tryz.underlying245 rV w.heap.size S.length D3 rfl HO.out ?_;intro w5 be bZ dj;clear bj)
      | go_in)
     go_frame
     have bL:=Lib.hid be
     have B:Hid (Below w.heap.size w w5):=Lib.hid (aL.out.grown bZ aL.out.size fun j F=>by cases F)
     have cX:wl.heap.size+1<=w5.heap.size:=by omega
     clear be bZ
     go_loopg [13] (Maps.size D3) (fun g v wr=>∃ left l,wr.ranges Tryz.prog 24 rV w.heap.size wl.heap.size S.length D3 left g/\GotS S2 left l/\(∀ y,left (kR y)=true->y ∈ S2)/\OwnU (wl.heap.size+1) wr v l/\Below w.heap.size w wr)
     case atStart=>exact⟨_,[],bL.out,GotS.nil fun y=>by rw [ah.out y,decide_eq_true_iff],fun y h=>by rw [ah.out y] at h;simpa using h,World.ownsRow_nil _ _ _ _,B.out⟩
     case round=>
      obtain⟨aK,l,am,ac,aD,A,bS⟩:=hrel
      have bN:=Lib.hid am
      have bm:=Lib.hid ac
      have aU:=Lib.hid aD
      have aq:=Lib.hid A
      have E:=Lib.hid bS
      have de:l.length<=1000001:=Nat.le_trans (qM l S2 ac.1 fun y hy=>((ac.2 y).1 hy).1) bU
      have cW:=am.lt
      obtain⟨ad,bu,rfl,dd,cJ,_⟩:=A.shape
      unfold maxLen at cJ
      clear am ac aD A bS bL B
      go_wp2_with (first
       | (at_next;refine wpList_next_ranges _ rfl _ rfl 24 vF rV (fun r:{r:Nat // r<M64}=>Value.int .u64 (r.1:Nat)) (fun c:Value=>c) zhV (fun v y _=>⟨v,rfl⟩) w.heap.size wl.heap.size S.length D3 aK gk rfl bN.out ?_ ?_)
       | go_in)
      ·intro bC aC
       have aG:∀ y,y ∈ l ↔ y ∈ S2:=fun y=>by rw [bm.out.2 y,aC];simp
       have bw:0 ∈ l:=(aG 0).2 (by rw [bO.out,List.mem_filter,HS.out];exact⟨by simp,by simp [kpB]⟩)
       have aY:l≠[]:=fun e=>by rw [e] at bw;cases bw
       obtain⟨l',ab,cn,ay⟩:=zeb aq.out aY (by omega)
       have aW:l'=zq k:=Yd hr cn (ab.nodup_iff.2 bm.out.1) fun y=>by
        rw [ab.mem_iff,aG,bO.out,HS.out,List.mem_filter]
        refine and_congr_right fun _=>?_
        simp [kpB]
       have aH:∀ j,(Value.slice ad l.length bu).ownBlock=some j->wl.heap.size+1<=j:=fun j F=>(aq.out.lt j F).1
       have cx:=Lib.hid aW
       have cu:=Lib.hid ay
       have cF:=Lib.hid aH
       clear aG bw aY ab cn aW ay aC bC aH
       have V:True:=trivial
       go_wp2_with (first
        | (go_at_call 198;have _t:=V;refine cu.out.mono ?_;rintro e w9 ⟨rfl,cm,cc⟩;have cE:=Lib.hid cm;have cA:=Lib.hid cc;clear cm cc V)
        | go_in)
       refine bodyPost_ret (results_tmp rfl _ _ _) rfl ?_
       exact⟨_,rfl,E.out.grown cA.out E.out.size fun j F=>by have:=cF.out j F;omega,by rw [<-cx.out];exact cE.out.base (by omega)⟩
      ·intro x hx c kl y ys w7 bQ H aE hv bA U cf cb co bD
       try dsimp only at H bD ⊢
       obtain rfl:kl=kR x:=by
        have:=(Zq hx).symm.trans H
        simpa using this.symm
       have ar:=Lib.hid U
       have an:=Lib.hid cb
       have cH:=Lib.hid co
       have cY:wl.heap.size+1<=w7.heap.size:=by omega
       have ao:=Lib.hid aE
       obtain⟨i0,cK,cR,cS,cT⟩:=info_parts Vf
       have cC:Hid (OwnU (wl.heap.size+1) (w7.alloc (.cells #[.int .u64 (x:Nat)] 24)) (.slice ad l.length bu) l):=Lib.hid (aq.out.keep fun g hg=>by
        have h1:=aq.out.lt g hg
        rw [Below.heap_alloc _ _ _ (by rw [cH.out];exact h1.2),an.out.block g h1.2 (fun e=>by cases e;omega)])
       have cN:=World.alloc_heap_new w7 (.cells #[.int .u64 (x:Nat)] 24 (0,0))
       clear H hv bA U cb aE co
       have V:True:=trivial
       go_wp2_with (first
        | (at_builtin;have _t:=V;refine wpList_append_own_at _ rfl _ _ 157 rfl (wl.heap.size+1) 24 i0 (.int .u64 0) 1 8 Tryz.underlying157 cK cR cS cT rfl (by decide) _ _ _ rfl cC.out ⟨w7.heap.size,0,none⟩ 1 1 [.int .u64 (x:Nat)] rfl rfl (kw (cs:=#[.int .u64 (x:Nat)]) (t := 24) (fr:=(0,0)) cN) (by simp [Value.oneCell']) (by unfold maxLen;omega) (by omega) (by simp;omega) ?_;intro v' w8 ho ce _ _;clear V;have cD:=Lib.hid ho;have bI:=Lib.hid ce;clear ho ce)
        | go_in)
       have aH:∀ j,(Value.slice ad l.length bu).ownBlock=some j->wl.heap.size+1<=j:=fun j F=>(aq.out.lt j F).1
       have aV:∀ j,j<wl.heap.size+1->w8.heap[j]? = w7.heap[j]?:=fun j F=>by
        rw [bI.out.block j (by simp;omega) (fun e=>by have:=aH j e.symm;omega),Below.heap_alloc _ _ _ (by omega)]
       go_roundg bQ
       case measure=>exact cf
       case rel=>
        refine⟨_,l++[x],yD ar.out (aV _ (by omega)) (aV _ (by omega)),bm.out.push ao.out (aU.out _ ao.out),fun r h=>?_,?_,?_⟩
        ·exact aU.out r (by cases h0:aK (kR r) with | true=>rfl | false=>rw [h0] at h;simp at h)
        ·have:=cD.out
         unfold OwnU
         simpa [uV] using this
        ·exact((E.out.grown an.out E.out.size fun j F=>by cases F;omega).alloc (by have:=an.out.size;have:=E.out.size;omega) _).grown bI.out (by simp;have:=E.out.size;omega) fun j F=>by have:=aH j F;omega
    ·intro x hx c kl y ys w3 aw H aE hv bA bc O aB di bD
     try dsimp only at H bD ⊢
     obtain rfl:kl=kR x:=by
      have:=(Zq hx).symm.trans H
      simpa using this.symm
     have G:=Lib.hid bc
     have a:Hid (Below w.heap.size w w3):=Lib.hid (aL.out.grown aB aL.out.size fun j F=>by cases F;exact HB.out.size)
     have ao:=Lib.hid aE
     clear H hv bA bc aB aE
     cases x with
     | zero=>
       go_wp2_with (first | (go_at_call 197;refine(zgc _).mono ?_;rintro e w' ⟨rfl,rfl⟩) | go_in)
       go_roundg aw
       case measure=>exact O
       case rel=>exact⟨_,RgS.next bn.out aN.out bq.out ao.out (by simp [kpB]) G.out,a.out⟩
     | succ x=>
       have bf:x<18446744073709551615:=by have:=zw;omega
       have ch:(zU k x).length<=1152921504606846976:=by
        have h1:=Zg x 0 k
        unfold zU
        rw [List.length_map]
        omega
       have L:True:=trivial
       have ae:True:=trivial
       have af:True:=trivial
       have bh:True:=trivial
       by_cases aj:zU k x=zU k (x+1)
       ·have HQ:=Lib.hid (show decide (zU k x=zU k (x+1))=true from decide_eq_true aj)
        have bp:=Lib.hid (show kpB k (x+1)=false by simp [kpB,aj])
        clear aj
        go_wp2_with (first
         | (go_at_call 197;refine(VH x bf _).mono ?_;rintro e w' ⟨rfl,rfl⟩)
         | (go_at_call 57;have _t:=L;refine(Xg x hr hz aS RK.out hC ag.out a.out).mono ?_;rintro e w4 ⟨u1,rfl,u,J⟩;have B:=Lib.hid u;have br:=Lib.hid J;clear u J L)
         | (go_at_call 57;have _t:=ae;refine(Xg (x+1) hr hz aS RK.out hC ag.out (a.out.trans (B.out.mono a.out.size))).mono ?_;rintro e w5 ⟨u2,rfl,u,J⟩;have E:=Lib.hid u;have bt:=Lib.hid J;clear u J ae)
         | (go_at_call 56;have _t:=af;refine(zgP true HQ.out ch hC ag.out ((a.out.trans (B.out.mono a.out.size)).trans (E.out.mono ((a.out.trans (B.out.mono a.out.size)).size))) (br.out.stab _ _ _ (Keep.of_below' E.out (Nat.le_refl _))) bt.out).mono ?_;rintro e w6 ⟨rfl,u⟩;have P:=Lib.hid (((Below.refl _ _).trans B.out).trans ((E.out.mono B.out.size).trans (u.mono (Nat.le_trans B.out.size E.out.size))));clear u af)
         | (at_delete;have _t:=bh;refine wpList_delete_ranges _ rfl _ _ 245 24 rfl 4 vF Tryz.underlying245 rV w.heap.size wo.heap.size S.length D3 _ aw rfl (yD G.out (P.out.block _ (Nat.lt_trans aP G.out.lt)) (P.out.block _ G.out.lt)) _ (kR (x+1)) rfl (Zq hx) ?_;intro w7 bP U cU aI;clear bh;have ar:=Lib.hid U;have an:=Lib.hid aI.grown;clear U aI;dsimp only [Act.put])
         | go_in)
        go_roundg bP
        case measure=>omega
        case rel=>exact⟨_,RgS.del bn.out aN.out bq.out bp.out ar.out,(a.out.trans (P.out.mono a.out.size)).grown an.out (a.out.trans (P.out.mono a.out.size)).size fun j F=>by cases F;exact Nat.le_refl _⟩
       ·have HQ:=Lib.hid (show decide (zU k x=zU k (x+1))=false from decide_eq_false aj)
        have bp:=Lib.hid (show kpB k (x+1)=true by simp [kpB,aj])
        clear aj
        go_wp2_with (first
         | (go_at_call 197;refine(VH x bf _).mono ?_;rintro e w' ⟨rfl,rfl⟩)
         | (go_at_call 57;have _t:=L;refine(Xg x hr hz aS RK.out hC ag.out a.out).mono ?_;rintro e w4 ⟨u1,rfl,u,J⟩;have B:=Lib.hid u;have br:=Lib.hid J;clear u J L)
         | (go_at_call 57;have _t:=ae;refine(Xg (x+1) hr hz aS RK.out hC ag.out (a.out.trans (B.out.mono a.out.size))).mono ?_;rintro e w5 ⟨u2,rfl,u,J⟩;have E:=Lib.hid u;have bt:=Lib.hid J;clear u J ae)
         | (go_at_call 56;have _t:=af;refine(zgP false HQ.out ch hC ag.out ((a.out.trans (B.out.mono a.out.size)).trans (E.out.mono ((a.out.trans (B.out.mono a.out.size)).size))) (br.out.stab _ _ _ (Keep.of_below' E.out (Nat.le_refl _))) bt.out).mono ?_;rintro e w6 ⟨rfl,u⟩;have P:=Lib.hid (((Below.refl _ _).trans B.out).trans ((E.out.mono B.out.size).trans (u.mono (Nat.le_trans B.out.size E.out.size))));clear u af)
         | go_in)
        go_roundg aw
        case measure=>exact O
        case rel=>exact⟨_,(RgS.next bn.out aN.out bq.out ao.out bp.out G.out).keep (P.out.block _ (Nat.lt_trans aP G.out.lt)) (P.out.block _ G.out.lt),a.out.trans (P.out.mono a.out.size)⟩
end Go.Proofs.YtonhfknjcbakiaaGreatDoor
namespace Go.Proofs.YtonhfknjcbakiaaGreatDoor
open Go.RowKit
theorem zaG (k:List Fg) (F:RightK k) (hz:SzK k) (a:k.length<=1073741824) (C:(CI k).length<=1000000):Cn Tryz.prog 162 [kp k] (ns (zq k)):=by
 refine yZ rfl (enters_of Tryz.func162 (by kernel_rfl) rfl) fun D w G B A j E=>?_
 rw [KB j]
 refine(XD D k _ w F hz a C (E 0 _ rfl) A B).mono ?_
 rintro e H ⟨v,rfl,hb,ho⟩
 exact⟨v,rfl,hb,vL ho fun b o u y=>.inr ⟨u,y⟩⟩
noncomputable def Vy (k:List Fg) (j:Nat):List Iv:=((y4 k).take j).filter fun s=>decide (0<(zU k s.lo).length)
theorem Vz (k:List Fg) {j:Nat} (h:(zq k).length<=j):Vy k j=zu k:=by
 unfold Vy zu
 rw [List.take_of_length_le (by unfold y4;rw [vO];exact h)]
theorem VB (k:List Fg) (j:Nat):(Vy k j).length<=j:=Nat.le_trans (List.length_filter_le _ _) (List.length_take_le _ _)
theorem YE {k:List Fg} {j:Nat} (h:j<(zq k).length):Vy k (j+1)=Vy k j++if zU k (zq k)[j]=[] then [] else [⟨(zq k)[j],if h:j+1<(zq k).length then (zq k)[j+1] - 1 else M64 - 1⟩]:=by
 have u:j<(y4 k).length:=by unfold y4;rw [vO];exact h
 unfold Vy
 rw [List.take_succ_eq_append_getElem u,List.filter_append]
 congr 1
 have w:(y4 k)[j]=⟨(zq k)[j],if h:j+1<(zq k).length then (zq k)[j+1] - 1 else M64 - 1⟩:=Vx _ _ h
 rw [w]
 by_cases a:zU k (zq k)[j]=[]
 ·rw [if_pos a];simp [a]
 ·rw [if_neg a];simp [List.length_pos_iff.2 a]
theorem ZE {k:List Fg} (a:RightK k) {j:Nat} (h:j+1<(zq k).length):1<=(zq k)[j+1]/\(zq k)[j+1]<M64:=by
 refine⟨?_,x7 a _ (List.getElem_mem h)⟩
 have:=List.pairwise_iff_getElem.1 (xc k) j (j+1) (by omega) h (by omega)
 omega
theorem zdF (k:List Fg) (w:RightK k) (hz:SzK k) (u:k.length<=1073741824) (C:(CI k).length<=1000000):Cn Tryz.prog 116 [kp k] (rg (zu k)):=by
 have G:=vY k
 have B:=zw
 refine zt Tryz.func116 1 ?_
 refine pw ?_
 refine .c (zaG k w hz u C) ?_
 refine pLoop.go (fun j=>j<=(zq k).length) (fun j=>[(3,.sl ((Vy k j).map Q2) (.r 38 2)),(12,.v (.int .i64 (j:Nat)))]) (fun _=>[]) (fun j=>(zq k).length - j) 0 [3,12] ?_ ?_ ?_
 ·exact Nat.zero_le _
 ·refine pw ?_
  rfl
 ·rintro j H
  have F:=VB k j
  refine pw ?_
  refine .i ?_ ?_<;>intro h<;>(try simp only [nrm_l] at h)<;>first | refine pw ?_ | exact pd
  ·have a:=YE h
   have E:=x7 w _ (List.getElem_mem h)
   refine pw ?_
   refine .c (K9 k (zq k)[j] w hz u) ?_
   refine .i ?_ ?_<;>intro y<;>(try simp only [nrm_l] at y)<;>first | refine pw ?_ | exact pd
   ·rw [if_pos y,List.append_nil] at a
    exact⟨j+1,h,by omega,by rw [a],rfl⟩
   ·rw [if_neg y] at a
    refine .i ?_ ?_<;>intro A<;>(try simp only [nrm_l] at A)<;>first | refine pw ?_ | exact pd
    ·obtain⟨I,J⟩:=ZE w A
     rw [dif_pos A] at a
     refine pw ?_
     refine⟨j+1,h,by omega,?_,rfl⟩
     rw [a]
     simp [Q2]
    ·rw [dif_neg (by omega)] at a
     refine pw ?_
     refine⟨j+1,h,by omega,?_,rfl⟩
     rw [a]
     simp [Q2,B]
  ·rw [Vz k (by omega)]
theorem QG (f:Fg) (r:List Fg) (x y:Nat):qX (f::r) x y=((mem f.items x == mem f.items y) && qX r x y):=rfl
theorem Ke (k:List Fg) (x y:Nat) (hz:SzK k):Cn Tryz.prog 172 [kp k,.v (.int .u64 x),.v (.int .u64 y)] (.v (.bool (qX k x y))):=by
 have hl:=hz.1
 refine zt Tryz.func172 3 ?_
 refine pw ?_
 refine pLoop.go (fun j=>j<=k.length/\qX k x y=qX (k.drop j) x y) (fun j=>[(7,.v (.int .i64 (j:Nat)))]) (fun _=>[]) (fun j=>k.length - j) 0 [7] ?_ ?_ ?_
 ·exact⟨Nat.zero_le _,rfl⟩
 ·exact pd
 ·rintro j ⟨A,u⟩
  refine pw ?_
  refine .i ?_ ?_<;>intro h<;>(try simp only [nrm_l] at h)<;>first | refine pw ?_ | exact pd
  ·rw [List.drop_eq_getElem_cons h] at u
   have a:=hz.2 _ (List.getElem_mem h)
   refine pw ?_
   refine .c (kU k[j].items x a.1) ?_
   refine .c (kU k[j].items y a.1) ?_
   refine .i ?_ ?_<;>intro w<;>(try simp only [nrm_l] at w)<;>first | refine pw ?_ | exact pd
   ·rw [u,QG,w,Bool.false_and]
   ·refine⟨j+1,⟨h,?_⟩,by omega,rfl⟩
    rw [u,QG,w,Bool.true_and]
  ·rw [u,List.drop_of_length_le (by omega)]
   rfl
def zbb (k:List Fg) (l:List Nat):List Nat:=l.filter fun x=>decide (x=0) || !qX k (x - 1) x
theorem zbc (k:List Fg) {l:List Nat} {j:Nat} (h:j<l.length):zbb k (l.take (j+1))=zbb k (l.take j)++if (decide (l[j]=0) || !qX k (l[j] - 1) l[j])=true then [l[j]] else []:=by
 unfold zbb
 rw [List.take_succ_eq_append_getElem h,List.filter_append]
 congr 1
 by_cases a:(decide (l[j]=0) || !qX k (l[j] - 1) l[j])=true
 ·rw [if_pos a];simp only [List.filter_cons,List.filter_nil];exact if_pos a
 ·rw [if_neg a];simp only [List.filter_cons,List.filter_nil];exact if_neg a
theorem zc7 (k:List Fg) (l:List Nat) (j:Nat):(zbb k (l.take j)).length<=j:=Nat.le_trans (List.length_filter_le _ _) (List.length_take_le _ _)
theorem Ya (k:List Fg) (G:RightK k) (hz:SzK k) (K:k.length<=1048576) (I:(CI k).length<=1000000) (hi:∀ f ∈ k,f.items.length<=1048576):Cn Tryz.prog 130 [kp k] (ns (zq k)):=by
 have M:=zw
 have E:(zH (k.map Fg.items)).length<=1048576:=by
  have B:(zH (k.map Fg.items)).length<=(yU (k.map Fg.items)).length:=ju _
  have L:(yU (k.map Fg.items)).length=1+(CI k).length:=by unfold yU CI;rw [List.length_cons,List.flatMap_map];omega
  omega
 have A:∀ x ∈ zH (k.map Fg.items),x<M64:=fun x H=>Ze (fun l hl s hs=>by
  obtain⟨f,w,rfl⟩:=List.mem_map.1 hl
  have:=NF.lo_ge (G f w).1 s hs
  omega) x H
 have u:=VX (k.map Fg.items) (by simp;omega) (fun l hl=>by
  obtain⟨f,w,rfl⟩:=List.mem_map.1 hl
  exact hi f w) (by unfold yU;rw [List.length_cons,List.flatMap_map];unfold CI at I;omega) (fun l hl=>by
  obtain⟨f,w,rfl⟩:=List.mem_map.1 hl
  exact(G f w).1.lt)
 rw [show rgs (k.map Fg.items)=.sl (k.map fun f=>[rg f.items]) .sh by unfold rgs;rw [List.map_map];rfl] at u
 refine zt Tryz.func130 1 ?_
 refine pw ?_
 refine pLoop.go (fun j=>j<=k.length) (fun j=>[(3,.sl ((k.take j).map fun f=>[rg f.items]) (.r 21 1)),(4,.v (.int .i64 (j:Nat)))]) (fun _=>[]) (fun j=>k.length - j) 0 [3,4] ?_ ?_ ?_
 ·exact Nat.zero_le _
 ·exact pd
 ·rintro j J
  refine pw ?_
  refine .i ?_ ?_<;>intro h<;>(try simp only [nrm_l] at h)<;>first | refine pw ?_ | exact pd
  ·refine⟨j+1,h,by omega,?_,rfl⟩
   rw [List.take_succ_eq_append_getElem h,List.map_append]
   rfl
  ·rw [show k.take j=k from List.take_of_length_le (by omega)]
   (first | refine .rd (u) rfl ?_ | refine .mk (u) rfl ?_)
   obtain⟨l,hl⟩:∃ l,l=zH (k.map Fg.items):=⟨_,rfl⟩
   rw [<-hl] at E A ⊢
   have y:zbb k l=zq k:=by rw [hl];rfl
   refine pw ?_
   refine pLoop.go (fun j=>j<=l.length) (fun j=>[(6,.sl ((zbb k (l.take j)).map yN) (.r 55 1)),(7,.v (.int .i64 (j:Nat)))]) (fun _=>[]) (fun j=>l.length - j) 0 [6,7] ?_ ?_ ?_
   ·exact Nat.zero_le _
   ·refine pw ?_
    rfl
   ·rintro j J
    have F:=zc7 k l j
    refine pw ?_
    refine .i ?_ ?_<;>intro h<;>(try simp only [nrm_l] at h)<;>first | refine pw ?_ | exact pd
    ·have a:=zbc k h
     have H:=A _ (List.getElem_mem h)
     refine .i ?_ ?_<;>intro C<;>(try simp only [nrm_l] at C)<;>first | refine pw ?_ | exact pd
     ·rw [if_pos (by simp [C])] at a
      refine⟨j+1,h,by omega,?_,rfl⟩
      rw [a]
      simp [yN]
     ·refine .c (Ke k (l[j] - 1) l[j] hz) ?_
      refine .i ?_ ?_<;>intro B<;>(try simp only [nrm_l] at B)<;>first | refine pw ?_ | exact pd
      ·rw [if_pos (by rw [B];simp)] at a
       refine⟨j+1,h,by omega,?_,rfl⟩
       rw [a]
       simp [yN]
      ·rw [if_neg (by rw [B];simpa using C),List.append_nil] at a
       exact⟨j+1,h,by omega,by rw [a],rfl⟩
    ·rw [show l.take j=l from List.take_of_length_le (by omega),y]
theorem VT (k:List Fg) (w:RightK k) (hz:SzK k) (y:k.length<=1048576) (F:(CI k).length<=1000000) (a:Cn Tryz.prog 130 [kp k] (ns (zq k))):Cn Tryz.prog 87 [kp k] (rg (zu k)):=by
 have C:=vY k
 have E:=zw
 refine zt Tryz.func87 1 ?_
 refine pw ?_
 (first | refine .c (a) ?_ | refine .o (a) ?_)
 refine pLoop.go (fun j=>j<=(zq k).length) (fun j=>[(4,.sl ((Vy k j).map Q2) (.r 27 2)),(5,.v (.int .i64 (j:Nat)))]) (fun _=>[]) (fun j=>(zq k).length - j) 0 [4,5] ?_ ?_ ?_
 ·exact Nat.zero_le _
 ·refine pw ?_
  rfl
 ·rintro j G
  have B:=VB k j
  refine pw ?_
  refine .i ?_ ?_<;>intro h<;>(try simp only [nrm_l] at h)<;>first | refine pw ?_ | exact pd
  ·have a:=YE h
   have A:=x7 w _ (List.getElem_mem h)
   refine pw ?_
   refine .c (Kd k (zq k)[j] hz (by omega)) ?_
   refine .i ?_ ?_<;>intro u<;>(try simp only [nrm_l] at u)<;>first | refine pw ?_ | exact pd
   ·refine .c (zan (zq k) j h (by omega) (fun h=>ZE w h)) ?_
    rw [if_neg (by intro e;rw [e] at u;simp at u)] at a
    refine⟨j+1,h,by omega,?_,rfl⟩
    rw [a]
    simp [Q2]
   ·rw [if_pos (by simpa using u),List.append_nil] at a
    exact⟨j+1,h,by omega,by rw [a],rfl⟩
  ·rw [Vz k (by omega)]
structure Ok12 (C:Nat->List Nat) (R:List Nat) (k:List Fg):Prop where
 r:RightK k
 z:SzK k
 l:k.length<=1048576
 t:(CI k).length<=1000000
 i:∀ f ∈ k,f.items.length<=1048576
 ik:IK C R k
 ok:OkC C R
 s:∀ f ∈ k,SmV f.vec
noncomputable def zij (k:List Fg) (s:Iv):Fg:=⟨[s],qc k s.lo⟩
theorem zil (k:List Fg) {j:Nat} (h:j<(zu k).length):((zu k).take (j+1)).map (fun s=>fc (zij k s))=((zu k).take j).map (fun s=>fc (zij k s))++[fc (zij k (zu k)[j])]:=by
 rw [List.take_succ_eq_append_getElem h,List.map_append];rfl
theorem zjf (k:List Fg) {j:Nat} (h:(zu k).length<=j):((zu k).take j).map (fun s=>fc (zij k s))=(jq k).map fc:=by
 rw [List.take_of_length_le h];unfold jq;rw [List.map_map];rfl
theorem ziJ {C:Nat->List Nat} {R:List Nat} (k:List Fg) (a:Ok12 C R k):Cn Tryz.prog 75 [kp k] (kp (jq k)):=by
 have y:=xW k
 have w:=a.t
 refine zt Tryz.func75 1 ?_
 refine pw ?_
 refine .c (zdF k a.r a.z (by have:=a.l;omega) a.t) ?_
 refine pLoop.go (fun j=>j<=(zu k).length) (fun j=>[(3,.sl (((zu k).take j).map (fun s=>fc (zij k s))) (.r 22 2)),(9,.v (.int .i64 (j:Nat)))]) (fun _=>[]) (fun j=>(zu k).length - j) 0 [3,9] ?_ ?_ ?_
 ·exact Nat.zero_le _
 ·exact pd
 ·rintro j A
  refine pw ?_
  refine .i ?_ ?_<;>intro h<;>(try simp only [nrm_l] at h)<;>first | refine pw ?_ | exact pd
  ·have u:=zil k h
   refine .c (zgU k (zu k)[j].lo a.ik a.ok a.r a.s a.z) ?_
   refine cutP.full rfl ?_ rfl ?_ ?_
   ·exact pd
   ·exact pd
   ·refine pw ?_
    exact⟨j+1,h,by omega,u.symm,rfl⟩
  ·exact zjf k (by omega)
theorem zqk {C:Nat->List Nat} {R:List Nat} (k:List Fg) (a:Ok12 C R k):Cn Tryz.prog 152 [kp k] (kp (jq k)):=by
 have y:=xW k
 have w:=a.t
 refine zt Tryz.func152 1 ?_
 refine pw ?_
 refine .c (VT k a.r a.z a.l a.t (Ya k a.r a.z a.l a.t a.i)) ?_
 refine pLoop.go (fun j=>j<=(zu k).length) (fun j=>[(4,.sl (((zu k).take j).map (fun s=>fc (zij k s))) (.r 29 2)),(5,.v (.int .i64 (j:Nat)))]) (fun _=>[]) (fun j=>(zu k).length - j) 0 [4,5] ?_ ?_ ?_
 ·exact Nat.zero_le _
 ·exact pd
 ·rintro j A
  refine pw ?_
  refine .i ?_ ?_<;>intro h<;>(try simp only [nrm_l] at h)<;>first | refine pw ?_ | exact pd
  ·have u:=zil k h
   refine .c (VR k (zu k)[j].lo a.ik a.ok a.r a.s a.z) ?_
   refine cutP.full rfl ?_ rfl ?_ ?_
   ·exact pd
   ·exact pd
   ·refine pw ?_
    exact⟨j+1,h,by omega,u.symm,rfl⟩
  ·exact zjf k (by omega)
def OkX (C:Nat->List Nat) (R:List Nat):Prop:=(∀ r,(C r).length<=9000)/\R.length<=1000
theorem OkX.c {C:Nat->List Nat} {R:List Nat} (h:OkX C R):OkC C R:=⟨h.1,by have:=h.2;omega⟩
structure Kn (C:Nat->List Nat) (R:List Nat) (n:Nat) (k:List Fg):Prop where
 r:RightK k
 ik:IK C R k
 s:∀ f ∈ k,SmV f.vec
 m:qE k<=n
 l:k.length<=n
theorem Kn.z {C:Nat->List Nat} {R:List Nat} {n:Nat} {k:List Fg} (h:Kn C R n k) (u:n<=400000):SzK k:=
 ⟨by have:=h.l;omega,fun f a=>⟨by have:=yv a;have:=h.m;omega,by have:=(h.s f a).2.1;omega,fun e j=>by have:=(h.s f a).2.2 e j;omega⟩⟩
theorem Kn.ok12 {C:Nat->List Nat} {R:List Nat} {n:Nat} {k:List Fg} (h:Kn C R n k) (ok:OkX C R) (j:n<=400000):Ok12 C R k:=
 ⟨h.r,h.z j,by have:=h.l;omega,by have:=YO k;have:=h.m;omega,fun f a=>by have:=yv a;have:=h.m;omega,h.ik,ok.c,h.s⟩
theorem Kn.mono {C a:Nat->List Nat} {R j:List Nat} {n m:Nat} {k:List Fg} (h:Kn C R n k) (u:∀ r x,x ∈ C r->x ∈ a r) (w:∀ x ∈ R,x ∈ j) (A:n<=m):Kn a j m k:=
 ⟨h.r,fun f y=>(h.ik f y).mono u w,h.s,by have:=h.m;omega,by have:=h.l;omega⟩
theorem V1:∀ {k:List Fg},(∀ f ∈ k,f.items.length<=20)->qE k<=k.length * 20
 | [],_=>Nat.zero_le _
 | f::k,h=>by
   have j:=V1 (k:=k) fun g a=>h g (by simp [a])
   have u:=h f (by simp)
   simp only [qE,List.length_cons];omega
theorem Kn.few {k:List Fg} (h:vx k=true) (j:RightK k):Kn (CK k) (RK k) 240 k:=by
 have u:=X3 h
 have w:=V1 fun f a=>(u.2 f a).1
 exact⟨j,j.ik,fun f a=>zfh h j a,by omega,by omega⟩
theorem zqC {k:List Fg} (h:vx k=true) (a:RightK k):OkX (CK k) (RK k):=by
 have:=X4 h a
 exact⟨fun r=>by have:=this.1 r;omega,by omega⟩
theorem Kn.refine {C:Nat->List Nat} {R:List Nat} {n:Nat} {k:List Fg} (h:Kn C R n k) (ok:OkX C R):Kn C R (1+2 * n) (jq k):=by
 have u:=xW k
 have w:=YO k
 have y:=h.m
 have j:=h.ik.refine
 refine⟨Yb h.r,fun f a=>(j f a).iv,fun f a=>(j f a).smv ok.c,?_,?_⟩
 ·unfold jq;rw [Zf];omega
 ·unfold jq;rw [List.length_map];omega
theorem Kn.group {C:Nat->List Nat} {R:List Nat} {n:Nat} {k:List Fg} (h:Kn C R n k) (ok:OkX C R):Kn C R n (zL k):=by
 have u:=jU h.r
 have j:∀ g ∈ zL k,WV C R g.vec:=fun g a=>by
  obtain⟨f,w,e⟩:=u.2.2 g a
  rw [e]
  exact(h.ik f w).canVec
 exact⟨(vB h.r).right,fun g a=>(j g a).iv,fun g a=>(j g a).smv ok.c,by have:=h.m;omega,by have:=h.l;omega⟩
theorem Kn.take {C:Nat->List Nat} {R:List Nat} {n:Nat} {k:List Fg} (h:Kn C R n k) (j:Nat):Kn C R n (k.take j):=by
 refine⟨h.r.take j,h.ik.take j,fun f u=>h.s f (List.mem_of_mem_take u),?_,?_⟩
 ·have a:=kK (k.take j) (k.drop j)
  rw [List.take_append_drop] at a
  have:=h.m;omega
 ·have:=h.l
  have:=List.length_take_le j k
  have:=List.length_take_le' j k
  omega
end Go.Proofs.YtonhfknjcbakiaaGreatDoor
namespace Go.Proofs.YtonhfknjcbakiaaGreatDoor
open Go.RowKit
attribute [-go_sem] nat_succ
theorem XK {C:Nat->List Nat} {R:List Nat} {n j:Nat} {k:List Fg} (h:Kn C R n k) (ok:OkX C R) (G:n<=400000) (E:j<k.length) (y:¬(zi k[j].vec=[]\/k[j].items=[])):AddOk (zL (k.take j)) ⟨k[j].items,zi k[j].vec⟩:=by
 have ht:=h.take j
 have u:=ht.group ok
 have gi:=vB ht.r
 have w:=List.getElem_mem E
 have A:=(h.ik _ w).canVec
 have hs:=jU ht.r
 have F:∀ g ∈ zL (k.take j),WV C R g.vec:=fun g u=>by
  obtain⟨f,B,e⟩:=hs.2.2 g u
  rw [e];exact(ht.ik f B).canVec
 exact⟨gi,Yi (h.r _ w) y,by have:=u.l;omega,by have:=yv w;have:=h.m;show k[j].items.length<=_;omega,fun g a=>by have:=yv a;have:=u.m;omega,A.can.bd,fun g a=>(gi.ok g a).1.bd,A.nlen ok.1 (by have:=ok.2;omega),fun g a=>(F g a).nlen ok.1 (by have:=ok.2;omega)⟩
theorem zeA {P:Program} {f:FuncId} {t:Tmp} {p:Value} {xs:List Operand} {c:Call} {o:Oper} {a:Act} {w:World} {K:Act->World->Prop} {Q:Exit->Act->World->Prop} (ho:o.op=.call c) (A:c.callee=.value (.tmp t)) (E:a.eval (.tmp t)=.func (.func f) #[p] #[]) (y:c.args.toList=xs)
 (B:∀ j w,(callFunc f j).run P w=.ok (.enter f j) w)
 (h:Calls P f (p::xs.map a.eval).toArray w fun e u=>match e with | .returned v=>K (a.put o.dst v) u | .panicked chain=>Q (.panic chain) a u | .outgrown=>LetsOut Q):o.wp P a w K Q:=by
 have C:(execOp a.eval o).run P w=.ok (.enter f (p::xs.map a.eval).toArray) w:=by
  have e:c.args.map a.eval=(xs.map a.eval).toArray:=Array.toList_inj.1 (by rw [Array.toList_map,y])
  simp only [execOp,ho,resolve,A,e,E,Deferred.ofValue,Sem.run_bind,Sem.run_pure,Result.andThen_ok,invoke]
  rw [show (#[p]++(xs.map a.eval).toArray++#[]:Array Value)=(p::xs.map a.eval).toArray from by simp]
  exact B _ _
 unfold Oper.wp
 rw [C,Oper.upon_enter]
 exact h.mono (fun e F h=>by cases e<;>exact h)
theorem Vb {B:Nat->List Nat} {R:List Nat} {n:Nat} (C:Nat->Nat->Prop) (k:List Fg) (vk:Value) (w:World) (hk:Kn B R n k) (ok:OkX B R) (hn:n<=400000) (rk:Dat C w vk (kp k)) (hC:∀ b o,C b o->b<w.heap.size) (hG:GL C w) :
 Calls Tryz.prog 74 #[vk] w fun e w'=>∃ v,e=.returned v/\Keep (fun b=>w.heap.size<=b) w w'/\Dat (DL C w.heap.size w') w' v (kp (zL k)):=by
 have aO:∀(fn:Fn) (first ao:Array Value) (w:World),(Instr.makeFunc fn first ao).run Tryz.prog w=.ok (.func fn first ao) w:=fun _ _ _ _=>rfl
 obtain⟨aa,ca,fs,rfl,hl,H,au⟩:=kX rk hC
 have aN:=hk.l
 have HK:=Lib.hid hk
 have an:=Lib.hid H
 have aE:=Lib.hid au
 have aF:=Lib.hid hG
 have aI:=H.1
 have aJ:=H.2.1
 unfold maxLen at aJ
 rw [hl] at aI
 have Z:∀ U w,(callFunc 117 U).run Tryz.prog w=.ok (.enter 117 U) w:=enters_of Tryz.func117 (by kernel_rfl) rfl
 have aD:=Lib.hid Z
 clear rk H au hG Z hk
 go_enter Tryz.func74,Tryz.ntmps74
 go_wp2_with fail
 go_loopg [11] k.length (fun g x wr=>∃ j u,j<=k.length/\g=k.length - j/\x=.int .i64 j/\Boxed wr w.heap.size 142 u/\OutG C (w.heap.size+1) (w.heap.size+2) wr u (zL (k.take j))/\Keep (fun b=>w.heap.size<=b) w wr)
 case atStart=>exact⟨0,_,Nat.zero_le _,rfl,rfl,World.alloc_heap_new w _,OutG.start _ _ _ _,(Keep.refl _ w).alloc _⟩
 case round=>
  obtain⟨j,u,hj,rfl,rfl,Q,ab,ax⟩:=hrel
  have ac:=Lib.hid Q
  have G:=Lib.hid ab
  have F:=Lib.hid ax
  have ah:=Q.lt
  have cb:=Q.cell
  clear Q ab ax
  by_cases J:j<k.length
  ·have M:j<fs.length:=by omega
   obtain⟨bb,ay,rfl,aL,Y⟩:=an.out.2.2 (by intro e;subst e;simp at M)
   obtain⟨c0,c1⟩:=Y j M
   obtain⟨d0,d1⟩:=aE.out j M
   replace c0:=(F.out.cell (p:=⟨bb,ay+j * 2,none⟩) (by show bb<_;omega) (by show ¬ w.heap.size<=bb;omega)).trans c0
   replace c1:=(F.out.cell (p:=⟨bb,ay+j * 2+1,none⟩) (by show bb<_;omega) (by show ¬ w.heap.size<=bb;omega)).trans c1
   have az:=Lib.hid (fun T=>XK HK.out ok hn J T)
   have ad:=Lib.hid (Zo J)
   have S:=List.getElem_mem J
   have aj:=HK.out.s _ S
   have ar:=HK.out.r _ S
   have aM:k[j].items.length<=400000:=by have:=yv S;have:=HK.out.m;omega
   generalize k[j]=f at *
   generalize fs[j]=q at *
   obtain⟨ai,ci,e0⟩:=zK d0
   obtain⟨av,cv,e1⟩:=xL d1
   rw [e0] at c0 d0
   rw [e1] at c1 d1
   have L:∀ b o,C b o->b<wr.heap.size:=fun b o h=>by have:=hC b o h;omega
   have aq:GL C wr:=aF.out.mono (fun _ _ h=>h) fun b o x hc hx=>F.out.cell_some hx (by have:=hC b o hc;show ¬ w.heap.size<=b;omega)
   have ag:∀(x:Value) (p:PV),Dat C w x p->∀ W,Below wr.heap.size wr W->Dat C W x p:=fun x p h W hW=>h.mono (fun _ _ h=>h) fun b o x hc hx=>(World.cell?_of_block (a:=⟨b,o,none⟩) (hW.block b (L b o hc))).trans (F.out.cell_some hx (by have:=hC b o hc;show ¬ w.heap.size<=b;omega))
   have af:∀ W,Below wr.heap.size wr W->GL C W:=fun W hW=>aq.mono (fun _ _ h=>h) fun b o x hc hx=>(World.cell?_of_block (a:=⟨b,o,none⟩) (hW.block b (L b o hc))).trans hx
   have X:∀ W,Below wr.heap.size wr W->Calls Tryz.prog 118 #[.slice av f.vec.length cv] W fun e w'=>∃ a c,e=.returned (.slice a (zi f.vec).length c)/\Below W.heap.size W w'/\Dat (fun b o=>C b o\/(W.heap.size<=b/\b<w'.heap.size)) w' (.slice a (zi f.vec).length c) (vp (zi f.vec)):=fun W hW=>by
    refine(jP (D:=C) (zer f.vec ar.2 aj.2.1 aj.2.2) (af W hW) (fun b o h=>Nat.lt_of_lt_of_le (L b o h) hW.size) rfl (fun i p hp=>?_)).mono ?_
    ·match i,hp with
     | 0,hp=>cases hp;exact ag _ _ d1 W hW
     | i+1,hp=>simp at hp
    ·rintro e w' ⟨v,rfl,hb,hd⟩
     obtain⟨a,c,rfl⟩:=xL hd
     exact⟨a,c,rfl,hb,hd⟩
   have K:=Lib.hid X
   have aA:=Lib.hid d0
   have aC:=Lib.hid ag
   have aG:=Lib.hid af
   have aK:=Lib.hid L
   clear X d0 d1 ag af L aq Y S aj ar e0 e1
   have E:True:=trivial
   by_cases h1:0<(zi f.vec).length
   ·by_cases h2:0<f.items.length
    ·go_wp2_with (first
      | (go_at_call 118;have _t:=E;refine(K.out _ ((Below.refl _ _).alloc (Nat.le_refl _) _)).mono ?_;rintro e w3 ⟨a3,n3,rfl,A,I⟩
         have P:w3.heap[wr.heap.size]? = some (.cells #[.slice ai f.items.length ci,.slice av f.vec.length cv] 34 (0,0)):=(A.block _ (by simp)).trans (World.alloc_heap_new wr _)
         have f0:=(zW P 0 _ rfl).1
         have y:=Lib.hid (((Below.refl _ wr).alloc (Nat.le_refl _) _).trans (A.mono (by simp)))
         have O:=A.size
         simp only [World.size_alloc] at O
         have aB:=Lib.hid I
         clear A I P E)
      | go_in)
     refine zeA (t:=27) (xs:=[.tmp 31]) rfl rfl rfl rfl aD.out ?_
     have T:¬(zi f.vec=[]\/f.items=[]):=fun e=>by
      rcases e with e | e
      ·rw [e] at h1;simp at h1
      ·rw [e] at h2;simp at h2
     have ak:=G.out.owns
     refine(Jh (C:=C) (base:=w.heap.size+2) (rb:=w.heap.size) (v:=u) (o:=zL (k.take j)) (f:=⟨f.items,zi f.vec⟩) (va:=.slice ai f.items.length ci) (vv:=.slice a3 (zi f.vec).length n3) (az.out T) (G.out.keep (by omega) fun b hb=>y.out.block b hb) ((y.out.block _ ah).trans ac.out) (by omega) (by omega) hC (aG.out _ y.out) ?_ ?_).mono ?_
     ·exact(aC.out _ _ aA.out _ y.out).mono (fun b o h=>⟨.inl h,fun e=>by have:=(ak b e).1;have:=hC b o h;omega⟩) fun _ _ _ _ h=>h
     ·refine aB.out.mono (fun b o h=>?_) fun _ _ _ _ h=>h
      rcases h with h | h
      ·exact⟨.inl h,fun e=>by have:=(ak b e).1;have:=hC b o h;omega⟩
      ·simp only [World.size_alloc] at h
       exact⟨.inr ⟨by omega,h.2⟩,fun e=>by have:=(ak b e).2;omega⟩
     rintro e w4 ⟨⟨u',rfl⟩,v',V,N,aw⟩
     have am:=Lib.hid V
     have ae:=Lib.hid N
     have aH:=Lib.hid aw
     clear V N aw
     dsimp only
     go_wp2_with fail
     go_roundg (k.length - (j+1))
     case measure=>omega
     case rel=>
      refine⟨j+1,v',J,rfl,by simp,am.out,?_,(F.out.trans (Keep.of_below' y.out (Nat.le_refl _))).trans (aH.out.mono fun b _ h=>by omega)⟩
      rw [ad.out,yo,if_neg T]
      exact ae.out
    ·have h0:f.items=[]:=by cases hf:f.items with | nil=>rfl | cons a l=>rw [hf] at h2;simp at h2
     have H0:=Lib.hid h0
     clear h0
     go_wp2_with (first
      | (go_at_call 118;have _t:=E;refine(K.out _ ((Below.refl _ _).alloc (Nat.le_refl _) _)).mono ?_;rintro e w3 ⟨a3,n3,rfl,A,I⟩
         have P:w3.heap[wr.heap.size]? = some (.cells #[.slice ai f.items.length ci,.slice av f.vec.length cv] 34 (0,0)):=(A.block _ (by simp)).trans (World.alloc_heap_new wr _)
         have f0:=(zW P 0 _ rfl).1
         have y:=Lib.hid (((Below.refl _ wr).alloc (Nat.le_refl _) _).trans (A.mono (by simp)))
         have O:=A.size
         simp only [World.size_alloc] at O
         clear A I P E)
      | go_in)
     go_roundg (k.length - (j+1))
     case measure=>omega
     case rel=>
      refine⟨j+1,u,J,rfl,by simp,(y.out.block _ ah).trans ac.out,?_,F.out.trans (Keep.of_below' y.out (Nat.le_refl _))⟩
      rw [ad.out,yo,if_pos (.inr H0.out)]
      exact G.out.keep (by omega) fun b hb=>y.out.block b hb
   ·have h0:zi f.vec=[]:=by cases hf:zi f.vec with | nil=>rfl | cons a l=>rw [hf] at h1;simp at h1
    have H0:=Lib.hid h0
    clear h0
    go_wp2_with (first
     | (go_at_call 118;have _t:=E;refine(K.out _ ((Below.refl _ _).alloc (Nat.le_refl _) _)).mono ?_;rintro e w3 ⟨a3,n3,rfl,A,I⟩
        have y:=Lib.hid (((Below.refl _ wr).alloc (Nat.le_refl _) _).trans (A.mono (by simp)))
        have O:=A.size
        simp only [World.size_alloc] at O
        clear A I E)
     | go_in)
    go_roundg (k.length - (j+1))
    case measure=>omega
    case rel=>
     refine⟨j+1,u,J,rfl,by simp,(y.out.block _ ah).trans ac.out,?_,F.out.trans (Keep.of_below' y.out (Nat.le_refl _))⟩
     rw [ad.out,yo,if_pos (.inl H0.out)]
     exact G.out.keep (by omega) fun b hb=>y.out.block b hb
  ·obtain rfl:j=k.length:=by omega
   go_wp2_with fail
   refine bodyPost_ret (results_tmp rfl _ _ _) rfl ?_
   have h:=G.out.dat (by omega)
   rw [List.take_length] at h
   exact⟨_,rfl,F.out,h.mono (fun b o h=>h.imp id fun h=>⟨by omega,h.2⟩) fun _ _ _ _ h=>h⟩
theorem zfn {B:Nat->List Nat} {R:List Nat} {n:Nat} (k:List Fg) (hk:Kn B R n k) (ok:OkX B R) (A:n<=400000):Cn Tryz.prog 74 [kp k] (kp (zL k)):=by
 refine yZ rfl (enters_of Tryz.func74 (by kernel_rfl) rfl) fun D w F u j a y=>?_
 rw [KB a]
 refine(Vb D k _ w hk ok A (y 0 _ rfl) j u).mono ?_
 rintro e G ⟨v,rfl,hb,C⟩
 exact⟨v,rfl,hb.below (Nat.le_refl _) fun _ h E=>by omega,C.mono (fun _ _ h=>h.imp id fun h=>⟨Nat.le_of_lt h.1,h.2⟩) fun _ _ _ _ h=>h⟩
theorem YI (w:World) (t N:TypeId) (ht:Tryz.prog.underlying t=some (.slice 34)) (base:Nat) (v:Value) (n:Nat) (O:List Value) (A:w.ownsRow base 34 2 v n O) (H:Option Addr) (m c:Nat) (y:List Value) (hl:y.length=m * 2)
 (C:(m=0/\H=none)\/∃ a,H=some a/\∀ j u,y[j]? = some u->w.cell? (a.add j)=some u) (U:∀ u ∈ y,u.oneCell'=true) (V:n+m<=1073741824) (B:base<=w.heap.size) :
 ∃ E G,(Builtin.append_ #[t,t] N #[v,.slice H m c]).run Tryz.prog w=.ok E G/\G.ownsRow base 34 2 E (n+m) (O++y)/\w.grownBy G v.ownBlock/\(E.ownBlock=v.ownBlock\/E.ownBlock=some w.heap.size):=by
 obtain⟨Q,F,K,L,M⟩:=info_parts Z9
 rcases C with⟨rfl,rfl⟩ | ⟨a,rfl,X⟩
 ·obtain rfl:y=[]:=List.length_eq_zero_iff.1 hl
  obtain⟨I,cp,rfl,J⟩:∃ I cp,v=.slice I n cp/\n<=cp:=by
   rcases A.2 with⟨rfl,rfl⟩ | ⟨g,S,T,rfl,_,_,h,_⟩
   ·exact⟨none,0,rfl,Nat.le_refl _⟩
   ·exact⟨_,_,rfl,h⟩
  exact⟨_,w,ve w t N _ Q ht F I n cp c J,by simpa using A,jW _ _,.inl rfl⟩
 ·obtain⟨E,G,Y,Z,r3,_,r5⟩:=run_append_own_at (P:=Tryz.prog) w base t N 34 Q _ 2 48 ht F K L M rfl (by decide) v n O A a m c y (by simpa using hl) X U (by unfold maxLen;omega) (by omega) B
  exact⟨E,G,Y,Z,r3,r5⟩
theorem yH {G:Array Oper} {o:Oper} {a:Act} {w:World} {K:Act->World->Prop} {Q:Exit->Act->World->Prop} {E:Prop} (s x:Operand) (t:TypeId) (L:o.guard=none)
 (ho:o.op=.call { callee:=.builtin .append,args:=#[s,x],argTypes:=#[t,t] }) (ht:Tryz.prog.underlying t=some (.slice 34)) (base:Nat) (v:Value) (n:Nat) (M:List Value) (hs:a.eval s=v) (F:w.ownsRow base 34 2 v n M)
 (I:Option Addr) (m c:Nat) (y:List Value) (V:a.eval x=.slice I m c) (hl:y.length=m * 2) (B:(m=0/\I=none)\/∃ a,I=some a/\∀ j u,y[j]? = some u->w.cell? (a.add j)=some u) (N:∀ u ∈ y,u.oneCell'=true) (J:n+m<=1073741824) (A:base<=w.heap.size)
 (h:∀ C H,H.ownsRow base 34 2 C (n+m) (M++y)->w.grownBy H v.ownBlock->(C.ownBlock=v.ownBlock\/C.ownBlock=some w.heap.size)->K (a.put o.dst C) H):if Region.wanted o (yielded G a.tmps)=true then Oper.wp Tryz.prog o a w K Q else E:=by
 have U:Region.wanted o (yielded G a.tmps)=true:=by simp [Region.wanted,L]
 rw [if_pos U]
 obtain⟨C,H,T,O,P,S⟩:=YI w t o.type ht base v n M F I m c y hl B N J A
 unfold Oper.wp execOp
 simp only [ho,resolve,invoke,builtin,Sem.run_bind,Sem.run_pure,Result.andThen_ok,List.map_toArray,List.map_cons,List.map_nil,hs,V,T]
 exact h C H O P S
theorem zdz {w:World} {base A:Nat} (a:base<=A) (h:w.heap[A]? = some (.cells #[] 34 (0,0))):w.ownsRow base 34 2 (.slice (some ⟨A,0,none⟩) 0 0) 0 []:=⟨rfl,.inr ⟨A,0,#[],rfl,a,h,Nat.le_refl _,Nat.zero_le _,rfl,rfl⟩⟩
theorem OutG.at {C:Nat->Nat->Prop} {L base:Nat} {w:World} {A:Option Addr} {u:Nat} {o:List Fg} (h:OutG C L base w (.slice A o.length u) o) {i:Nat} (hi:i<o.length) :
 ∃ g F H G cv y,A=some ⟨g,0,none⟩/\base<=g/\w.heap[g]? = some (.cells y 34 (0,0))/\w.cell? ⟨g,i * 2,none⟩=some (.slice F o[i].items.length H)/\w.cell? ⟨g,i * 2+1,none⟩=some (.slice G o[i].vec.length cv) /\
  Dat (DX C L w (.slice A o.length u)) w (.slice F o[i].items.length H) (rg o[i].items)/\Dat (DX C L w (.slice A o.length u)) w (.slice G o[i].vec.length cv) (vp o[i].vec):=by
 obtain⟨S,E,I⟩:=h
 obtain⟨a,b,ea,eb,M,N⟩:=I i hi
 obtain⟨g,B,y,ev,J,P,K,_⟩:=E.cases.resolve_left (fun h=>by omega)
 obtain⟨rfl,_,rfl⟩:A=some ⟨g,0,none⟩/\o.length=o.length/\u=B:=by simpa using ev
 have O:∀ j x,S[j]? = some x->w.cell? ⟨g,j,none⟩=some x:=fun j x Q=>by
  have:=World.ownsRow.cells E.1 (g:=g) rfl j x Q
  rw [zh,Nat.zero_add] at this
  exact this
 obtain⟨F,H,rfl⟩:=zK M
 obtain⟨G,cv,rfl⟩:=xL N
 exact⟨g,F,H,G,cv,y,rfl,J,K,O _ _ ea,O _ _ eb,M,N⟩
theorem zep {C:Nat->Nat->Prop} {rb:Nat} {w:World} {v a b:Value} {l m:List Iv} (hl:Nrm l) (L:Nrm m) (G:l.length<=131072) (H:m.length<=131072) (E:Dat (DX C rb w v) w a (rg l)) (F:Dat (DX C rb w v) w b (rg m)) (N:∀ k,v.ownBlock=some k->k<w.heap.size) (B:∀ b o,C b o->v.ownBlock≠some b) (I:∀ b o,C b o->b<w.heap.size) (M:rb<w.heap.size) (J:GL C w) :
 Calls Tryz.prog 151 #[a,b] w fun e A=>∃ u,e=.returned u/\Below w.heap.size w A/\Dat (DX C rb A v) A u (rg (qy zn l m)):=by
 refine(jP (D:=DX C rb w v) (Kf l m hl L G H) (J.mono (fun b o h=>⟨.inl h,B b o h⟩) fun _ _ _ _ h=>h) (fun b o h=>h.1.elim (I b o) And.right) rfl (fun j p y=>?_)).mono ?_
 ·match j,y with
  | 0,y=>cases y;exact E
  | 1,y=>cases y;exact F
  | j+2,y=>simp at y
 ·rintro e A ⟨u,rfl,hb,K⟩
  exact⟨u,rfl,hb,K.mono (fun b o h=>by
   rcases h with h | h
   ·exact⟨h.1.imp id fun h=>⟨h.1,Nat.lt_of_lt_of_le h.2 hb.size⟩,h.2⟩
   ·exact⟨.inr ⟨by omega,h.2⟩,fun e=>by have:=N b e;omega⟩) fun _ _ _ _ h=>h⟩
theorem zhr {C:Nat->Nat->Prop} {rb:Nat} {w:World} {v a b:Value} {l m:List En} (c:Int) (J:zZ (zv l) (zv m)=c) (hl:l.length<=1024/\∀ e ∈ l,e.holes.length<=1048576) (B:m.length<=1024/\∀ e ∈ m,e.holes.length<=1048576) (F:Dat (DX C rb w v) w a (vp l)) (G:Dat (DX C rb w v) w b (vp m)) (A:∀ b o,C b o->v.ownBlock≠some b) (H:∀ b o,C b o->b<w.heap.size) (I:GL C w) :
 Calls Tryz.prog 150 #[a,b] w fun e E=>e=.returned (.int .i64 c)/\Below w.heap.size w E:=by
 subst J
 refine(jP (D:=DX C rb w v) (Xp l m hl.2 B.2 hl.1 B.1) (I.mono (fun b o h=>⟨.inl h,A b o h⟩) fun _ _ _ _ h=>h) (fun b o h=>h.1.elim (H b o) And.right) rfl (fun j p y=>?_)).mono ?_
 ·match j,y with
  | 0,y=>cases y;exact F
  | 1,y=>cases y;exact G
  | j+2,y=>simp at y
 ·rintro e E ⟨u,rfl,hb,K⟩
  have e:=(Rel.dat (ρ:=fun _=>0) (nb:=0) K).v_inv
  rw [e]
  exact⟨rfl,hb⟩
theorem zfP {D:Nat->Nat->Prop} {w:World} {u:Option Addr} {a:Nat} (h:a<=maxLen):Dat D w (.slice u 0 a) (kp []):=
 .sl u a 2 [] .sh 0 0 (fun _=>undef) (by simp) (fun h=>by cases h) h (fun h=>absurd rfl h) (fun i e h=>by simp at h) (fun j h=>by simp at h) (fun i e j p h=>by simp at h)
end Go.Proofs.YtonhfknjcbakiaaGreatDoor
