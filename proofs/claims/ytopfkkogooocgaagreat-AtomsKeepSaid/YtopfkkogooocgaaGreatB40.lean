import Derived.Test.YtopfkkogooocgaaGreatB35
set_option linter.unusedVariables false
set_option linter.unusedSimpArgs false
set_option maxRecDepth 100000
namespace Go.Proofs.YtopfkkogooocgaaGreat
open Go.RowKit
theorem cn_bool {f:FuncId} {ps:List PV} {b:Bool} (hc:Cn Tryz.prog f ps (.v (.bool b))) {D:Nat->Nat->Prop} {w:World} {vs:Array Value} (hG:GL D w) (hD:∀ b o,D b o->b<w.heap.size) (hsz:vs.size=ps.length) (hd:∀(i:Nat) p,ps[i]? = some p->Dat D w (vs.getD i undef) p) :
 Calls Tryz.prog f vs w fun e w'=>e=.returned (.bool b)/\Below w.heap.size w w':=by
 refine(jP hc hG hD hsz hd).mono ?_
 rintro e w' ⟨u,rfl,hb,hd⟩
 have e:=(Rel.dat (ρ:=fun _=>0) (nb:=0) hd).v_inv
 rw [e]
 exact⟨rfl,hb⟩
theorem mu_at {S:Nat->Prop} {w:World} {a:Option Addr} {n c:Nat} (h:MuE S w (.slice a n c)) {j:Nat} (hj:j<n):∃ b off m0 m1 ah lh ch,a=some ⟨b,off,none⟩/\S b/\w.cell? ⟨b,off+j * 3,none⟩=some (.int .u64 m0)/\w.frozen? ⟨b,off+j * 3,none⟩=false/\w.cell? ⟨b,off+j * 3+1,none⟩=some (.int .u64 m1)/\w.frozen? ⟨b,off+j * 3+1,none⟩=false/\w.cell? ⟨b,off+j * 3+2,none⟩=some (.slice ah lh ch)/\lh<=ch/\ch<=2 ^ 63 - 1/\MuI S w (.slice ah lh ch):=by
 obtain⟨n',a',cap,e,_,_,h3⟩:=h
 cases e
 obtain⟨b,off,rfl,h4⟩:=h3 (by omega)
 obtain⟨⟨q0,m0,q1,q2⟩,⟨_,m1,q3,q4⟩,v,q5,q6⟩:=h4 j hj
 have q7:=q6
 obtain⟨lh,ah,ch,rfl,hl,hm,_⟩:=q7
 exact⟨b,off,m0,m1,ah,lh,ch,rfl,q0,q1,q2,q3,q4,q5,hl,hm,q6⟩
theorem zrm {S:Nat->Prop} {w:World} {a:Option Addr} {n c:Nat} (h:MuI S w (.slice a n c)) {j:Nat} (hj:j<n):∃ b off m0 m1,a=some ⟨b,off,none⟩/\S b/\w.cell? ⟨b,off+j * 2,none⟩=some (.int .u64 m0)/\w.frozen? ⟨b,off+j * 2,none⟩=false/\w.cell? ⟨b,off+j * 2+1,none⟩=some (.int .u64 m1)/\w.frozen? ⟨b,off+j * 2+1,none⟩=false:=by
 obtain⟨n',a',cap,e,_,_,h3⟩:=h
 cases e
 obtain⟨b,off,rfl,h4⟩:=h3 (by omega)
 obtain⟨⟨q0,m0,q1,q2⟩,⟨_,m1,q3,q4⟩⟩:=h4 j hj
 exact⟨b,off,m0,m1,rfl,q0,q1,q2,q3,q4⟩
theorem wp_some {P:Program} {c:Code} {a:Act} {W:World} {Q:Exit->Act->World->Prop} {R:World->Prop} (h:R W) (k:∀ W,R W->c.wp P Q a W):c.wp P Q a W:=k W h
theorem zsm {S:Nat->Prop} {w:World} {a:Option Addr} {n c:Nat} (h:MuF S w (.slice a n c)) {j:Nat} (hj:j<n):∃ b off ai li ci av lv cv,a=some ⟨b,off,none⟩/\w.cell? ⟨b,off+j * 2,none⟩=some (.slice ai li ci)/\li<=ci/\ci<=2 ^ 63 - 1/\MuI S w (.slice ai li ci)/\w.cell? ⟨b,off+j * 2+1,none⟩=some (.slice av lv cv)/\lv<=cv/\cv<=2 ^ 63 - 1/\MuE S w (.slice av lv cv):=by
 obtain⟨n',a',cap,e,_,_,h3⟩:=h
 cases e
 obtain⟨b,off,rfl,h4⟩:=h3 (by omega)
 obtain⟨⟨x,q1,q2⟩,y,q3,q4⟩:=h4 j hj
 have q5:=q2
 have q6:=q4
 obtain⟨li,ai,ci,rfl,l1,l2,_⟩:=q5
 obtain⟨lv,av,cv,rfl,l3,l4,_⟩:=q6
 exact⟨b,off,ai,li,ci,av,lv,cv,rfl,q1,l1,l2,q2,q3,l3,l4,q4⟩
theorem NumAt.lt {S:Nat->Prop} {w:World} {b o:Nat} (h:NumAt S w b o):NumAt (fun b=>S b/\b<w.heap.size) w b o:=⟨⟨h.1,by
 obtain⟨_,m,h1,_⟩:=h
 exact World.block_lt_of_cell? _ _ h1⟩,h.2⟩
theorem MuI.lt {S:Nat->Prop} {w:World} {v:Value} (h:MuI S w v):MuI (fun b=>S b/\b<w.heap.size) w v:=h.imp fun _ h=>h.imp fun _ _ h=>⟨h.1.lt,h.2.lt⟩
theorem MuE.lt {S:Nat->Prop} {w:World} {v:Value} (h:MuE S w v):MuE (fun b=>S b/\b<w.heap.size) w v:=h.imp fun _ h=>h.imp fun _ _ h=>⟨h.1.lt,h.2.1.lt,h.2.2.imp fun _ g=>⟨g.1,g.2.lt⟩⟩
theorem MuF.lt {S:Nat->Prop} {w:World} {v:Value} (h:MuF S w v):MuF (fun b=>S b/\b<w.heap.size) w v:=h.imp fun _ h=>h.imp fun _ _ h=>⟨h.1.imp fun _ g=>⟨g.1,g.2.lt⟩,h.2.imp fun _ g=>⟨g.1,g.2.lt⟩⟩
def Jd (A M:Nat) (w w':World):Prop:=Kd A w w'/\Keep (fun k=>A<=k/\k<M) w w'
theorem Jd.refl (A M:Nat) (w:World):Jd A M w w:=⟨Kd.refl _ _,Keep.refl _ _⟩
theorem Jd.trans {A M:Nat} {w w1 w2:World} (h:Jd A M w w1) (g:Jd A M w1 w2):Jd A M w w2:=⟨h.1.trans g.1,h.2.trans g.2⟩
theorem Jd.set {A M:Nat} {w w1:World} (h:Jd A M w w1) {b o:Nat} {m:Int} (hb:A<=b/\b<M) (hc:w1.cell? ⟨b,o,none⟩=some (.int .u64 m)) (x:Int):Jd A M w (w1.setCell ⟨b,o,none⟩ (.int .u64 x)):=
 ⟨h.1.set hb.1 hc x,h.2.setCell (p:=⟨b,o,none⟩) (fun _=>hb) _⟩
def Pw (w w3:World) (M N:Nat) (W:World):Prop:=Below w.heap.size w W/\(∀ j,M<=j->j<N->W.heap[j]? = w3.heap[j]?)/\N<=W.heap.size
theorem Pw.below {w w3 W W':World} {M N:Nat} (h:Pw w w3 M N W) (hb:Below W.heap.size W W'):Pw w w3 M N W':=
 ⟨h.1.trans (hb.mono h.1.size),fun j h1 h2=>(hb.block j (Nat.lt_of_lt_of_le h2 h.2.2)).trans (h.2.1 j h1 h2),Nat.le_trans h.2.2 hb.size⟩
theorem Pw.kd {w w3 W W':World} {M N B:Nat} (h:Pw w w3 M N W) (hb:Kd B W W') (hB:w.heap.size<=B) (hN:N<=B):Pw w w3 M N W':=
 ⟨h.1.trans (hb.below.mono hB),fun j h1 h2=>(hb.below.block j (Nat.lt_of_lt_of_le h2 hN)).trans (h.2.1 j h1 h2),Nat.le_trans h.2.2 hb.below.size⟩
end Go.Proofs.YtopfkkogooocgaaGreat
