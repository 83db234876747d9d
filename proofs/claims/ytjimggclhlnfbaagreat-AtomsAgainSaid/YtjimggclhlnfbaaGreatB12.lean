import Derived.Attr
import Derived.Test.YtjimggclhlnfbaaGreatProg
import Derived.Test.YtjimggclhlnfbaaGreatB11
set_option linter.unusedVariables false
set_option linter.unusedSimpArgs false
set_option maxRecDepth 100000
namespace Go.Proofs.YtjimggclhlnfbaaGreat
open Go.RowKit
section
variable {P : Program} {nt : Nat} {fr : Prop} {d : Option Nat} {t : List (Nat × PV)} {b : List (List PV)} {s : PS} {K : PS -> Prop} {Q : PX -> PS -> Prop} {l : List PI}
theorem put_some (i : Nat) (p : PV) : PS.put ⟨t, b⟩ (some i) p = ⟨(i, p) :: t, b⟩ := Eq.trans rfl rfl
theorem put_none (p : PV) : PS.put ⟨t, b⟩ none p = ⟨t, b⟩ := Eq.trans rfl rfl
theorem get_mk (i : Nat) : PS.get ⟨t, b⟩ i = lkp t i := Eq.trans rfl rfl
theorem ev_t (i : Nat) : PS.ev ⟨t, b⟩ (.t i) = lkp t i := Eq.trans rfl rfl
theorem ev_c (p : PV) : PS.ev s (.c p) = p := Eq.trans rfl rfl
theorem ev_f (f : FuncId) : PS.ev s (.f f) = .fn (.func f) [] [] := Eq.trans rfl rfl
theorem lkp_cons (j i : Nat) (p : PV) (r : List (Nat × PV)) : lkp ((j, p) :: r) i = if j = i then p else lkp r i := Eq.trans rfl rfl
theorem lkp_nil (i : Nat) : lkp [] i = .und := Eq.trans rfl rfl
theorem down_mk (n : Nat) : PS.down n ⟨t, b⟩ = ⟨t.map fun y => (y.1, y.2.down n), b.map fun cs => cs.map (PV.down n)⟩ := Eq.trans rfl rfl
theorem pW_sk : pW P nt fr .sk Q s = Q .n s := Eq.trans rfl rfl
theorem pW_rg (l : List PI) : pW P nt fr (.rg l) Q s = pList P l (Q .n) s := Eq.trans rfl rfl
theorem pW_dr (h l : List PI) : pW P nt fr (.dr h l) Q s = pHead P h (pTail P fr h s.clean l (Q .n)) s.clean := Eq.trans rfl rfl
theorem pW_sq (x y : PC) : pW P nt fr (.sq x y) Q s = pW P nt fr x (thenX (pW P nt fr y Q) Q) s := Eq.trans rfl rfl
theorem pW_bk (id : Nat) (x : PC) : pW P nt fr (.bk id x) Q s = pW P nt fr x (blockX id Q) s := Eq.trans rfl rfl
theorem pW_ex (id : Nat) : pW P nt fr (.ex id) Q s = Q (.x id) s := Eq.trans rfl rfl
theorem pW_rt : pW P nt fr .rt Q s = Q .r s := Eq.trans rfl rfl
theorem pW_lp (w : List Nat) (x : PC) : pW P nt fr (.lp w x) Q s = pLoop (pW P nt fr x) Q s := Eq.trans rfl rfl
theorem pList_nil : pList P [] K s = K s := Eq.trans rfl rfl
theorem pHead_nil : pHead P [] K s = K s := Eq.trans rfl rfl
theorem pTail_nil (h : List PI) (s0 : PS) : pTail P fr h s0 [] K s = K s := Eq.trans rfl rfl
theorem pTail_st (h : List PI) (s0 : PS) (d : Option Nat) (x y : PO) (n : Nat) (l : List PI) : pTail P fr h s0 (⟨d, none, .st x y n⟩ :: l) K s = pList P (⟨d, none, .st x y n⟩ :: l) K s := by cases d <;> rfl
theorem pTail_al (h : List PI) (s0 : PS) (d : Option Nat) (zs : List PV) (l : List PI) : pTail P fr h s0 (⟨d, none, .al zs⟩ :: l) K s = pList P (⟨d, none, .al zs⟩ :: l) K s := by cases d <;> rfl
theorem pTail_bo (h : List PI) (s0 : PS) (d : Option Nat) (x : PO) (l : List PI) : pTail P fr h s0 (⟨d, none, .bo x⟩ :: l) K s = pList P (⟨d, none, .bo x⟩ :: l) K s := by cases d <;> rfl
theorem thenX_n (K : PS -> Prop) : thenX K Q .n s = K s := Eq.trans rfl rfl
theorem thenX_x (K : PS -> Prop) (i : Nat) : thenX K Q (.x i) s = Q (.x i) s := Eq.trans rfl rfl
theorem thenX_r (K : PS -> Prop) : thenX K Q .r s = Q .r s := Eq.trans rfl rfl
theorem blockX_n (id : Nat) : blockX id Q .n s = Q .n s := Eq.trans rfl rfl
theorem blockX_r (id : Nat) : blockX id Q .r s = Q .r s := Eq.trans rfl rfl
theorem blockX_x (id i : Nat) : blockX id Q (.x i) s = if i = id then Q .n s else Q (.x i) s := Eq.trans rfl rfl
theorem postF_n (rs : List RV) (r : PV) : postF rs r .n s = RetOk rs s r := Eq.trans rfl rfl
theorem postF_r (rs : List RV) (r : PV) : postF rs r .r s = RetOk rs s r := Eq.trans rfl rfl
theorem postF_x (rs : List RV) (r : PV) (i : Nat) : postF rs r (.x i) s = False := Eq.trans rfl rfl
theorem ret_one (i : Nat) (r : PV) : RetOk [.t i] s r = SubP 0 (s.get i) r := Eq.trans rfl rfl
def postOV (rs : List (List PV)) (sz : Nat) : PV -> Prop
 | .sl es (.r _ sz') => es = rs /\ sz' = sz
 | _ => False
theorem postO_n (i sz : Nat) (rs : List (List PV)) : postO i rs sz .n s = postOV rs sz (s.get i) := by
 show (match s.get i with | .sl es (.r _ sz') => es = rs /\ sz' = sz | _ => False) = _
 cases s.get i <;> rfl
theorem postO_r (i sz : Nat) (rs : List (List PV)) : postO i rs sz .r s = postOV rs sz (s.get i) := by
 show (match s.get i with | .sl es (.r _ sz') => es = rs /\ sz' = sz | _ => False) = _
 cases s.get i <;> rfl
theorem postOV_r (es rs : List (List PV)) (n m sz : Nat) : postOV rs sz (.sl es (.r n m)) = (es = rs /\ m = sz) := Eq.trans rfl rfl
def ret1 : Option PV -> PV -> Prop
 | some p, r => p.resD = true /\ SubP 0 p.sh r /\ r.own = none
 | none, _ => False
def retM : Option (List PV) -> PV -> Prop
 | some ps, r => ps.all PV.resD = true /\ SubP 0 (.tup (ps.map PV.sh)) r
 | none, _ => False
def rvC : Option PV -> Option (List PV) -> Option (List PV)
 | some p, some ps => some (p :: ps)
 | _, _ => none
def rvB : Option (List PV) -> Nat -> Bool -> Nat -> Option PV
 | some cs, o, true, n => if o + n <= cs.length then some (.agg ((cs.drop o).take n)) else none
 | some cs, o, false, _ => cs[o]?
 | none, _, _, _ => none
def rvA : PV -> List (List PV) -> Bool -> Nat -> Option PV
 | .bx j o, b, ag, n => rvB b[j]? o ag n
 | _, _, _, _ => none
theorem ret_c (i : Nat) (ag : Bool) (n : Nat) (r : PV) : RetOk [.c i ag n] s r = ret1 (RV.get s (.c i ag n)) r := by
 show (match RV.get s (.c i ag n) with | some p => _ | none => False) = _
 cases RV.get s (.c i ag n) <;> rfl
theorem ret_m (x y : RV) (l : List RV) (r : PV) : RetOk (x :: y :: l) s r = retM (rvs s (x :: y :: l)) r := by
 have : RetOk (x :: y :: l) s r = (match rvs s (x :: y :: l) with | some ps => ps.all PV.resD = true /\ SubP 0 (.tup (ps.map PV.sh)) r | none => False) := by cases x <;> rfl
 rw [this]
 cases rvs s (x :: y :: l) <;> rfl
theorem ret1_s (p r : PV) : ret1 (some p) r = (p.resD = true /\ SubP 0 p.sh r /\ r.own = none) := Eq.trans rfl rfl
theorem retM_s (ps : List PV) (r : PV) : retM (some ps) r = (ps.all PV.resD = true /\ SubP 0 (.tup (ps.map PV.sh)) r) := Eq.trans rfl rfl
theorem rvs_nil : rvs s [] = some [] := Eq.trans rfl rfl
theorem rvs_cons (x : RV) (l : List RV) : rvs s (x :: l) = rvC (x.get s) (rvs s l) := by
 show ((x.get s).bind fun p => (rvs s l).map fun ps => p :: ps) = _
 cases x.get s <;> cases rvs s l <;> rfl
theorem rvC_s (p : PV) (ps : List PV) : rvC (some p) (some ps) = some (p :: ps) := Eq.trans rfl rfl
theorem rvg_t (i : Nat) : RV.get ⟨t, b⟩ (.t i) = some (lkp t i) := Eq.trans rfl rfl
theorem rvg_c (i : Nat) (ag : Bool) (n : Nat) : RV.get ⟨t, b⟩ (.c i ag n) = rvA (lkp t i) b ag n := by
 unfold RV.get
 simp only [get_mk]
 cases lkp t i <;> try rfl
 dsimp only [rvA]
 rename_i j o
 generalize b[j]? = c
 cases c <;> cases ag <;> rfl
theorem rvA_b (j o : Nat) (ag : Bool) (n : Nat) : rvA (.bx j o) b ag n = rvB b[j]? o ag n := Eq.trans rfl rfl
theorem rvB_t (cs : List PV) (o n : Nat) : rvB (some cs) o true n = if o + n <= cs.length then some (.agg ((cs.drop o).take n)) else none := Eq.trans rfl rfl
theorem rvB_f (cs : List PV) (o n : Nat) : rvB (some cs) o false n = cs[o]? := Eq.trans rfl rfl
def anyD (h : List PI) (x : Nat) : Bool := h.any fun i => i.d == some x
def cutP (P : Program) (h : List PI) (s0 : PS) (n d : Nat) (E : Prop) (p : PV) (l : List PI) (K : PS -> Prop) (F : Prop) : Prop := (E /\ ∃ keep, keepOk h n s0 keep /\ pList P l K ⟨(d, p) :: keep.map (fun j => (j, s0.get j)), []⟩) \/ F
def fullP (P : Program) (h : List PI) (s0 : PS) (d n sz i x : Nat) (es0 es : List (List PV)) (y : PO) (l : List PI) (K : PS -> Prop) (p : PV) (s : PS) : Prop :=
 (h.all fun y => !(y.d == some i)) = true /\ s.get i = s0.get i /\ es0 = es /\ (s.put (some x) (.sl es (.r n sz))).ev y = s.ev y /\ pList P l K (((s.put (some x) (.sl es (.r n sz))).down n).put (some d) p)
def keepL (s : PS) : List Nat -> List (Nat × PV)
 | [] => []
 | j :: r => (j, s.get j) :: keepL s r
theorem keepL_eq (s : PS) : ∀ l, keepL s l = l.map fun j => (j, s.get j)
 | [] => rfl
 | j :: r => by simp [keepL, keepL_eq s r]
theorem keepL_nil (s : PS) : keepL s [] = [] := rfl
theorem keepL_cons (s : PS) (j : Nat) (r : List Nat) : keepL s (j :: r) = (j, s.get j) :: keepL s r := rfl
theorem cutP.mk {h : List PI} {s0 : PS} {n d : Nat} {E : Prop} {p : PV} {F : Prop} (keep : List Nat) (hE : E) (hk : keepOk h n s0 keep) (hl : pList P l K ⟨(d, p) :: keepL s0 keep, []⟩) : cutP P h s0 n d E p l K F := .inl ⟨hE, keep, hk, by rw [<- keepL_eq]; exact hl⟩
theorem cutP.full {h : List PI} {s0 : PS} {n d i x : Nat} {E : Prop} {p : PV} {y : PO} {es0 es : List (List PV)} {sz : Nat} (h1 : (h.all fun y => !(y.d == some i)) = true) (h2 : s.get i = s0.get i) (h3 : es0 = es) (h4 : (s.put (some x) (.sl es (.r n sz))).ev y = s.ev y) (hl : pList P l K (((s.put (some x) (.sl es (.r n sz))).down n).put (some d) p)) :
 cutP P h s0 n d E p l K (fullP P h s0 d n sz i x es0 es y l K p s) := .inr ⟨h1, h2, h3, h4, hl⟩
theorem keepOk.mk2 {h : List PI} {s0 : PS} {n i j : Nat} (h1 : (h.all fun y => !(y.d == some i)) = true) (h2 : (h.all fun y => !(y.d == some j)) = true) (s1 : simple1 n (s0.get i)) (s2 : simple1 n (s0.get j)) (hd : (s0.get i).own = none \/ (s0.get i).own ≠ (s0.get j).own) : keepOk h n s0 [i, j] := by
 refine ⟨fun k hk => ?_, by simpa using hd⟩
 simp at hk
 rcases hk with rfl | rfl
 ·exact ⟨h1, s1⟩
 ·exact ⟨h2, s2⟩
theorem simple1_v (n : Nat) (x : Value) : simple1 n (.v x) = True := rfl
theorem simple1_r (n m sz : Nat) (es : List (List PV)) : simple1 n (.sl es (.r m sz)) = (m ≠ n /\ flatE es /\ ∀ e ∈ es, e.length = sz) := rfl
theorem own_r (es : List (List PV)) (n m : Nat) : PV.own (.sl es (.r n m)) = some n := rfl
def pCut (P : Program) (h : List PI) (s0 : PS) (d i x sz by_ : Nat) (y : PO) (es : List (List PV)) (q : PV) (l : List PI) (K : PS -> Prop) (s : PS) : PV -> Prop
 | .sl es0 (.r n sz') => sz' = sz /\ qSl q fun es' => (∀ e ∈ es, e.length = sz) /\ (∀ e ∈ es', e.length = sz) /\ (es.length + es'.length) * by_ <= 140737488355328 /\ es' ≠ [] /\ cutP P h s0 n d (flatE es /\ flatE es') (.sl (es ++ es') (.r n sz)) l K (fullP P h s0 d n sz i x es0 es y l K (.sl (es ++ es') (.r n sz)) s)
 | _ => False
def pApT (P : Program) (fr : Prop) (h : List PI) (s0 : PS) (d x sz by_ : Nat) (y : PO) (q : PV) (l : List PI) (K : PS -> Prop) (s : PS) : PV -> Prop
 | .sl es (.n sz') => sz' = sz /\ anyD h x = true /\ qSl q fun es' => flatE es /\ flatE es' /\ (∀ e ∈ es, e.length = sz) /\ (∀ e ∈ es', e.length = sz) /\ (es.length + es'.length) * by_ <= 140737488355328 /\ es' ≠ [] /\ pList P l K ((forget h s0).put (some d) (.sl (es ++ es') (.r d sz)))
 | .sl es (.p i) => fr /\ anyD h x = true /\ pCut P h s0 d i x sz by_ y es q l K s (s0.get i)
 | _ => pList P (⟨some d, none, .ap (.t x) y sz by_⟩ :: l) K s
theorem pTail_ap (h : List PI) (s0 : PS) (d x sz by_ : Nat) (y : PO) (l : List PI) : pTail P fr h s0 (⟨some d, none, .ap (.t x) y sz by_⟩ :: l) K s = pApT P fr h s0 d x sz by_ y (s.ev y) l K s (s.get x) := by
 unfold pTail pApT
 simp only
 cases s.get x <;> rfl
theorem pApT_n (h : List PI) (s0 : PS) (d x sz by_ sz' : Nat) (y : PO) (q : PV) (l : List PI) (es : List (List PV)) : pApT P fr h s0 d x sz by_ y q l K s (.sl es (.n sz')) = (sz' = sz /\ anyD h x = true /\ qSl q fun es' => flatE es /\ flatE es' /\ (∀ e ∈ es, e.length = sz) /\ (∀ e ∈ es', e.length = sz) /\ (es.length + es'.length) * by_ <= 140737488355328 /\ es' ≠ [] /\ pList P l K ((forget h s0).put (some d) (.sl (es ++ es') (.r d sz)))) := rfl
theorem pApT_p (h : List PI) (s0 : PS) (d x sz by_ i : Nat) (y : PO) (q : PV) (l : List PI) (es : List (List PV)) : pApT P fr h s0 d x sz by_ y q l K s (.sl es (.p i)) = (fr /\ anyD h x = true /\ pCut P h s0 d i x sz by_ y es q l K s (s0.get i)) := rfl
theorem pApT_r (h : List PI) (s0 : PS) (d x sz by_ n m : Nat) (y : PO) (q : PV) (l : List PI) (es : List (List PV)) : pApT P fr h s0 d x sz by_ y q l K s (.sl es (.r n m)) = pList P (⟨some d, none, .ap (.t x) y sz by_⟩ :: l) K s := rfl
theorem pApT_z (h : List PI) (s0 : PS) (d x sz by_ : Nat) (y : PO) (q : PV) (l : List PI) (es : List (List PV)) : pApT P fr h s0 d x sz by_ y q l K s (.sl es .z) = pList P (⟨some d, none, .ap (.t x) y sz by_⟩ :: l) K s := rfl
theorem pCut_r (h : List PI) (s0 : PS) (d i x sz by_ n sz' : Nat) (y : PO) (es es0 : List (List PV)) (q : PV) (l : List PI) : pCut P h s0 d i x sz by_ y es q l K s (.sl es0 (.r n sz')) = (sz' = sz /\ qSl q fun es' => (∀ e ∈ es, e.length = sz) /\ (∀ e ∈ es', e.length = sz) /\ (es.length + es'.length) * by_ <= 140737488355328 /\ es' ≠ [] /\ cutP P h s0 n d (flatE es /\ flatE es') (.sl (es ++ es') (.r n sz)) l K (fullP P h s0 d n sz i x es0 es y l K (.sl (es ++ es') (.r n sz)) s)) := rfl
def bCt : Option PV -> Prop
 | some _ => True
 | none => False
theorem bCt_some (p : PV) : bCt (some p) = True := Eq.trans rfl rfl
theorem bCt_none : bCt none = False := Eq.trans rfl rfl
def intOp (op : BinOp) (k : IntKind) (m n : Int) : PV := match op with
 | .add => match k with | .i64 => .v (.int .i64 (m + n)) | k => .v (.int k (k.wrap (m + n)))
 | .sub => match k with | .i64 => .v (.int .i64 (m - n)) | k => .v (.int k (k.wrap (m - n)))
 | .mul => match k with | .i64 => .v (.int .i64 (m * n)) | k => .v (.int k (k.wrap (m * n)))
 | .quo => match k with | .i64 => .v (.int .i64 (m.tdiv n)) | k => .v (.int k (k.wrap (m.tdiv n)))
 | .rem => .v (.int k (m.tmod n))
 | .eql => .v (.bool (decide (m = n)))
 | .neq => .v (.bool (!decide (m = n)))
 | .lss => .v (.bool (decide (m < n)))
 | .leq => .v (.bool (decide (m <= n)))
 | .gtr => .v (.bool (decide (n < m)))
 | .geq => .v (.bool (decide (n <= m)))
 | .shr => .v (.int k (shrI k m n))
 | _ => .und
def rng (k : IntKind) (n : Int) : Prop := match k with
 | .i64 => -9223372036854775808 <= n /\ n < 9223372036854775808
 | _ => True
def intC (op : BinOp) (k : IntKind) (m n : Int) : Prop := match op with
 | .add => rng k (m + n)
 | .sub => rng k (m - n)
 | .mul => rng k (m * n)
 | .quo => n ≠ 0 /\ rng k (m.tdiv n)
 | .rem => n ≠ 0
 | .shr => 0 <= n
 | .eql | .neq | .lss | .leq | .gtr | .geq => True
 | _ => False
def binC (op : BinOp) (p q : PV) : Prop := match p, q with
 | .v (.int k a), .v (.int k' b) => k = k' /\ intC op k a b
 | _, _ => False
def binV (op : BinOp) (p q : PV) : PV := match p, q with
 | .v (.int k a), .v (.int _ b) => intOp op k a b
 | _, _ => .und
theorem qar_iff {k : IntKind} {n : Int} {K : PV -> Prop} : qar k n K = (rng k n /\ K (match k with | .i64 => .v (.int .i64 n) | k => .v (.int k (k.wrap n)))) := by
 cases k <;> simp [qar, rng]
theorem qbin_iff {op : BinOp} {p q : PV} {K : PV -> Prop} : qbin op p q K = (binC op p q /\ K (binV op p q)) := by
 unfold qbin binC binV
 split
 ·rename_i k a k' b
  by_cases e : k = k'
  ·subst e
   cases op <;> simp [qint, intC, intOp, qar_iff, and_assoc]
  ·simp [e]
 ·simp
def isBl' : PV -> Prop
 | .v (.bool _) => True
 | _ => False
def bV : PV -> Bool
 | .v (.bool c) => c
 | _ => false
theorem qBool_iff {p : PV} {K : Bool -> Prop} : qBool p K = (isBl' p /\ K (bV p)) := by
 unfold qBool isBl' bV
 split <;> simp
def isInt' : PV -> Prop
 | .v (.int _ _) => True
 | _ => False
def iK : PV -> IntKind
 | .v (.int k _) => k
 | _ => .i64
def iV : PV -> Int
 | .v (.int _ n) => n
 | _ => 0
theorem qInt_iff {p : PV} {K : IntKind -> Int -> Prop} : qInt p K = (isInt' p /\ K (iK p) (iV p)) := by
 unfold qInt isInt' iK iV
 split <;> simp
def isSl' : PV -> Prop
 | .sl _ _ => True
 | _ => False
def eV : PV -> List (List PV)
 | .sl es _ => es
 | _ => []
theorem qSl_iff {p : PV} {K : List (List PV) -> Prop} : qSl p K = (isSl' p /\ K (eV p)) := by
 unfold qSl isSl' eV
 split <;> simp
theorem isBl_v (c : Bool) : isBl' (.v (.bool c)) = True := Eq.trans rfl rfl
theorem bV_v (c : Bool) : bV (.v (.bool c)) = c := Eq.trans rfl rfl
theorem isInt_v (k : IntKind) (n : Int) : isInt' (.v (.int k n)) = True := Eq.trans rfl rfl
theorem iK_v (k : IntKind) (n : Int) : iK (.v (.int k n)) = k := Eq.trans rfl rfl
theorem iV_v (k : IntKind) (n : Int) : iV (.v (.int k n)) = n := Eq.trans rfl rfl
theorem isSl_s (es : List (List PV)) (o : Ow) : isSl' (.sl es o) = True := Eq.trans rfl rfl
theorem eV_s (es : List (List PV)) (o : Ow) : eV (.sl es o) = es := Eq.trans rfl rfl
theorem binC_v (op : BinOp) (k k' : IntKind) (m n : Int) : binC op (.v (.int k m)) (.v (.int k' n)) = (k = k' /\ intC op k m n) := Eq.trans rfl rfl
theorem binV_v (op : BinOp) (k k' : IntKind) (m n : Int) : binV op (.v (.int k m)) (.v (.int k' n)) = intOp op k m n := Eq.trans rfl rfl
theorem rng_u (n : Int) : rng .u64 n = True := Eq.trans rfl rfl
def faC : PV -> Prop
 | .bx _ _ => True
 | .cp _ _ => True
 | _ => False
def faV (off : Nat) : PV -> PV
 | .bx i o => .bx i (o + off)
 | .cp cs o => .cp cs (o + off)
 | _ => .und
theorem faC_b (i o : Nat) : faC (.bx i o) = True := Eq.trans rfl rfl
theorem faC_c (cs : List PV) (o : Nat) : faC (.cp cs o) = True := Eq.trans rfl rfl
theorem faV_b (n i o : Nat) : faV n (.bx i o) = .bx i (o + n) := Eq.trans rfl rfl
theorem faV_c (n : Nat) (cs : List PV) (o : Nat) : faV n (.cp cs o) = .cp cs (o + n) := Eq.trans rfl rfl
def atC (cs : List PV) (o : Nat) (ag : Bool) (n : Nat) : Prop := match ag with
 | true => o + n <= cs.length
 | false => cs[o]?.isSome = true
def atV (cs : List PV) (o : Nat) (ag : Bool) (n : Nat) : PV := match ag with
 | true => .agg ((cs.drop o).take n)
 | false => cs[o]?.getD .und
theorem qAt_iff {cs : List PV} {o : Nat} {ag : Bool} {n : Nat} {K : PV -> Prop} : qAt cs o ag n K = (atC cs o ag n /\ K (atV cs o ag n)) := by
 cases ag
 ·simp only [qAt, atC, atV]; cases cs[o]? <;> simp
 ·simp [qAt, atC, atV]
theorem atC_t (cs : List PV) (o n : Nat) : atC cs o true n = (o + n <= cs.length) := Eq.trans rfl rfl
theorem atC_f (cs : List PV) (o n : Nat) : atC cs o false n = (cs[o]?.isSome = true) := Eq.trans rfl rfl
theorem atV_t (cs : List PV) (o n : Nat) : atV cs o true n = .agg ((cs.drop o).take n) := Eq.trans rfl rfl
theorem atV_f (cs : List PV) (o n : Nat) : atV cs o false n = cs[o]?.getD .und := Eq.trans rfl rfl
def ldC (bs : List (List PV)) (p : PV) (ag : Bool) (n : Nat) : Prop := match p with
 | .cp cs o => atC cs o ag n
 | .bx i o => bs[i]?.isSome = true /\ allD (((bs[i]?.getD []).drop o).take n) = true /\ atC (bs[i]?.getD []) o ag n
 | _ => False
def ldF (bs : List (List PV)) (p : PV) : Prop := match p with
 | .cp cs o => atC cs o false 1
 | .bx i o => bs[i]?.isSome = true /\ atC (bs[i]?.getD []) o false 1
 | _ => False
theorem ldF_c (bs : List (List PV)) (cs : List PV) (o : Nat) : ldF bs (.cp cs o) = atC cs o false 1 := Eq.trans rfl rfl
theorem ldF_b (bs : List (List PV)) (i o : Nat) : ldF bs (.bx i o) = (bs[i]?.isSome = true /\ atC (bs[i]?.getD []) o false 1) := Eq.trans rfl rfl
def ldV (bs : List (List PV)) (p : PV) (ag : Bool) (n : Nat) : PV := match p with
 | .cp cs o => atV cs o ag n
 | .bx i o => atV (bs[i]?.getD []) o ag n
 | _ => .und
theorem ldC_c (bs : List (List PV)) (cs : List PV) (o : Nat) (ag : Bool) (n : Nat) : ldC bs (.cp cs o) ag n = atC cs o ag n := Eq.trans rfl rfl
theorem ldC_b (bs : List (List PV)) (i o n : Nat) (ag : Bool) : ldC bs (.bx i o) ag n = (bs[i]?.isSome = true /\ allD (((bs[i]?.getD []).drop o).take n) = true /\ atC (bs[i]?.getD []) o ag n) := Eq.trans rfl rfl
theorem ldV_c (bs : List (List PV)) (cs : List PV) (o : Nat) (ag : Bool) (n : Nat) : ldV bs (.cp cs o) ag n = atV cs o ag n := Eq.trans rfl rfl
theorem ldV_b (bs : List (List PV)) (i o : Nat) (ag : Bool) (n : Nat) : ldV bs (.bx i o) ag n = atV (bs[i]?.getD []) o ag n := Eq.trans rfl rfl
def cellsC : PV -> Prop
 | .agg _ => True
 | .v x => x.oneCell' = true
 | .sl _ _ => True
 | .cp _ _ => True
 | .bx _ _ => True
 | .fn _ _ _ => True
 | .ifc _ _ => True
 | _ => False
def cellsV : PV -> List PV
 | .agg cs => cs
 | p => [p]
theorem qCells_iff {p : PV} {K : List PV -> Prop} : qCells p K = (cellsC p /\ K (cellsV p)) := by
 cases p <;> simp [qCells, cellsC, cellsV]
theorem cellsC_agg (cs : List PV) : cellsC (.agg cs) = True := Eq.trans rfl rfl
theorem cellsC_i (k : IntKind) (n : Int) : cellsC (.v (.int k n)) = True := by simp [cellsC, Value.oneCell']
theorem cellsC_b (c : Bool) : cellsC (.v (.bool c)) = True := by simp [cellsC, Value.oneCell']
theorem cellsC_nil : cellsC (.v .nilIface) = True := by simp [cellsC, Value.oneCell']
theorem cellsC_s (es : List (List PV)) (o : Ow) : cellsC (.sl es o) = True := Eq.trans rfl rfl
theorem cellsC_bx (i o : Nat) : cellsC (.bx i o) = True := Eq.trans rfl rfl
theorem cellsC_fn (f : Fn) (x y : List PV) : cellsC (.fn f x y) = True := Eq.trans rfl rfl
theorem cellsC_ifc (t : TypeId) (x : PV) : cellsC (.ifc t x) = True := Eq.trans rfl rfl
theorem cellsV_agg (cs : List PV) : cellsV (.agg cs) = cs := Eq.trans rfl rfl
theorem cellsV_v (x : Value) : cellsV (.v x) = [.v x] := Eq.trans rfl rfl
theorem cellsV_s (es : List (List PV)) (o : Ow) : cellsV (.sl es o) = [.sl es o] := Eq.trans rfl rfl
theorem cellsV_bx (i o : Nat) : cellsV (.bx i o) = [.bx i o] := Eq.trans rfl rfl
theorem cellsV_fn (f : Fn) (x y : List PV) : cellsV (.fn f x y) = [.fn f x y] := Eq.trans rfl rfl
theorem cellsV_ifc (t : TypeId) (x : PV) : cellsV (.ifc t x) = [.ifc t x] := Eq.trans rfl rfl
def partsC (s : PS) : List (Nat × Nat × PO) -> List PV -> Prop
 | [], _ => True
 | (off, n, x) :: r, zs => cellsC (s.ev x) /\ (cellsV (s.ev x)).length = n /\ off + n <= zs.length /\ allD (cellsV (s.ev x)) = true /\ partsC s r (spl zs ((cellsV (s.ev x)).map PV.sh) off)
def partsV (s : PS) : List (Nat × Nat × PO) -> List PV -> List PV
 | [], zs => zs
 | (off, _, x) :: r, zs => partsV s r (spl zs ((cellsV (s.ev x)).map PV.sh) off)
theorem qParts_iff {K : List PV -> Prop} : ∀ (ps : List (Nat × Nat × PO)) (zs : List PV), qParts s ps zs K = (partsC s ps zs /\ K (partsV s ps zs))
 | [], zs => by simp [qParts, partsC, partsV]
 | (off, n, x) :: r, zs => by simp [qParts, partsC, partsV, qCells_iff, qParts_iff r, and_assoc]
def elemsC (s : PS) (sz : Nat) : List PO -> Prop
 | [] => True
 | x :: r => cellsC (s.ev x) /\ (cellsV (s.ev x)).length = sz /\ allD (cellsV (s.ev x)) = true /\ elemsC s sz r
def elemsV (s : PS) : List PO -> List (List PV)
 | [] => []
 | x :: r => (cellsV (s.ev x)).map PV.sh :: elemsV s r
theorem qElems_iff {sz : Nat} : ∀ (ps : List PO) (K : List (List PV) -> Prop), qElems s sz ps K = (elemsC s sz ps /\ K (elemsV s ps))
 | [], K => by simp [qElems, elemsC, elemsV]
 | x :: r, K => by simp [qElems, elemsC, elemsV, qCells_iff, qElems_iff r, and_assoc]
def bdC (s : PS) : Option PO -> Prop
 | none => True
 | some y => isInt' (s.ev y) /\ 0 <= iV (s.ev y)
def bdV (s : PS) (n : Nat) : Option PO -> Nat
 | none => n
 | some y => (iV (s.ev y)).toNat
theorem qBd_iff {y : Option PO} {n : Nat} {K : Nat -> Prop} : qBd s y n K = (bdC s y /\ K (bdV s n y)) := by
 cases y <;> simp [qBd, bdC, bdV, qInt_iff, and_assoc]
def callP (P : Program) (f : FuncId) (xs : List PV) (K : PS -> Prop) (d : Option Nat) (s : PS) : Prop := ∃ r, Cn P f xs r /\ allD xs = true /\ K (s.put d r)
def callQ (P : Program) (f : FuncId) (xs : List PV) (K : PS -> Prop) (d : Option Nat) (s : PS) : Prop := ∃ r, Cn P f xs r /\ allD xs = true /\ K (s.put d r.strip)
def callO (P : Program) (f : FuncId) (es : List (List PV)) (n sz : Nat) (xs : List PV) (K : PS -> Prop) (d : Option Nat) (s : PS) : Prop := callP P f (.sl es .sh :: xs) K d s \/ ∃ rs, OCn P f es sz xs rs /\ allD xs = true /\ K ((s.down n).put d (.sl rs (.r n sz)))
theorem callP.mk {f : FuncId} {xs : List PV} {r : PV} (h : Cn P f xs r) (hd : allD xs = true) (hk : K (s.put d r)) : callP P f xs K d s := ⟨r, h, hd, hk⟩
theorem callQ.mk {f : FuncId} {xs : List PV} {r : PV} (h : Cn P f xs r) (hd : allD xs = true) (hk : K (s.put d r.strip)) : callQ P f xs K d s := ⟨r, h, hd, hk⟩
theorem callO.mk {f : FuncId} {es rs : List (List PV)} {n sz : Nat} {xs : List PV} (h : OCn P f es sz xs rs) (hd : allD xs = true) (hk : K ((s.down n).put d (.sl rs (.r n sz)))) : callO P f es n sz xs K d s := .inr ⟨rs, h, hd, hk⟩
theorem callO.rd {f : FuncId} {es : List (List PV)} {n sz : Nat} {xs : List PV} {r : PV} (h : Cn P f (.sl es .sh :: xs) r) (hd : allD xs = true) (hk : K (s.put d r)) : callO P f es n sz xs K d s := .inl ⟨r, h, by simpa [allD, PV.isD] using hd, hk⟩
def evs (s : PS) (xs : List PO) : List PV := xs.map fun x => (s.ev x).sh
theorem evs_nil : evs s [] = [] := Eq.trans rfl rfl
theorem evs_cons (x : PO) (xs : List PO) : evs s (x :: xs) = (s.ev x).sh :: evs s xs := Eq.trans rfl rfl
def caD (P : Program) (f : FuncId) (p : PV) (xs : List PV) (K : PS -> Prop) (d : Option Nat) (s : PS) : Prop := match p with
 | .sl es (.r n sz) => callO P f es n sz xs K d s
 | p => callP P f (p.sh :: xs) K d s
def brP (c : PV) (X Y : PS -> Prop) (s : PS) : Prop := isBl' c /\ if bV c = true then X s else Y s
theorem pW_cd (c : PO) (x y : PC) : pW P nt fr (.cd c x y) Q s = brP (s.ev c) (pW P nt fr x Q) (pW P nt fr y Q) s := by
 show qBool _ _ = _
 rw [qBool_iff]
 unfold brP
 cases bV (s.ev c) <;> simp
theorem brP_t (X Y : PS -> Prop) : brP (.v (.bool true)) X Y s = X s := by simp [brP, isBl', bV]
theorem brP_f (X Y : PS -> Prop) : brP (.v (.bool false)) X Y s = Y s := by simp [brP, isBl', bV]
theorem brP.mk {c : Bool} {X Y : PS -> Prop} (h1 : c = true -> X s) (h2 : c = false -> Y s) : brP (.v (.bool c)) X Y s := by
 refine ⟨trivial, ?_⟩
 cases c
 ·exact h2 rfl
 ·exact h1 rfl
theorem brP.yes {c : Bool} {X Y : PS -> Prop} (h : c = true) (h1 : X s) : brP (.v (.bool c)) X Y s := by subst h; rw [brP_t]; exact h1
theorem brP.no {c : Bool} {X Y : PS -> Prop} (h : c = false) (h1 : Y s) : brP (.v (.bool c)) X Y s := by subst h; rw [brP_f]; exact h1
def okG : PV -> Prop
 | .v (.bool _) => True
 | .v (.tuple vs) => vs = #[]
 | _ => False
def wq (p : PV) (b : Bool) : Prop := match p with
 | .v (.bool c) => c = b
 | _ => False
instance (p : PV) (b : Bool) : Decidable (wq p b) := by unfold wq; split <;> infer_instance
def noS (s : PS) (i : Nat) (b : Bool) : PV -> PS
 | .v (.bool _) => s.put (some i) (.v (.bool !b))
 | _ => s
theorem okG_b (c : Bool) : okG (.v (.bool c)) = True := Eq.trans rfl rfl
theorem okG_u : okG (.v undef) = True := by simp [okG, undef]
theorem wq_b (c b : Bool) : wq (.v (.bool c)) b = (c = b) := Eq.trans rfl rfl
theorem wq_u (b : Bool) : wq (.v undef) b = False := by simp [wq, undef]
theorem noS_b (i : Nat) (b c : Bool) : noS s i b (.v (.bool c)) = s.put (some i) (.v (.bool !b)) := Eq.trans rfl rfl
theorem noS_u (i : Nat) (b : Bool) : noS s i b (.v undef) = s := Eq.trans rfl rfl
theorem guard_iff {i : Nat} {b : Bool} {k : PK} {yes no : PS -> Prop} : PI.guard ⟨d, some (i, b), k⟩ s yes no = (okG (s.get i) /\ if wq (s.get i) b then yes (s.put (some i) (.v (.bool b))) else no (noS s i b (s.get i))) := by
 unfold PI.guard
 simp only
 cases h : s.get i with
 | v x =>
   cases x <;> try (simp [okG]; done)
   ·rename_i c
    simp only [okG, wq, noS, true_and]
    cases c <;> cases b <;> simp
   ·simp [okG, wq, noS]
 | _ => simp [okG]
def gdP (g : PV) (i : Nat) (b : Bool) (d : Option Nat) (X Y : PS -> Prop) (s : PS) : Prop := okG g /\ if wq g b then X (s.put (some i) (.v (.bool b))) else Y ((noS s i b g).put d (.v undef))
theorem pList_some (i : Nat) (b : Bool) (k : PK) : pList P (⟨d, some (i, b), k⟩ :: l) K s = gdP (s.get i) i b d (pList P (⟨d, none, k⟩ :: l) K) (pList P l K) s := guard_iff
theorem pHead_some (i : Nat) (b : Bool) (k : PK) : pHead P (⟨d, some (i, b), k⟩ :: l) K s = gdP (s.get i) i b d (pHead P (⟨d, none, k⟩ :: l) K) (pHead P l K) s := guard_iff
theorem gdP_tt (i : Nat) (X Y : PS -> Prop) : gdP (.v (.bool true)) i true d X Y s = X (s.put (some i) (.v (.bool true))) := by simp [gdP, okG, wq]
theorem gdP_ff (i : Nat) (X Y : PS -> Prop) : gdP (.v (.bool false)) i false d X Y s = X (s.put (some i) (.v (.bool false))) := by simp [gdP, okG, wq]
theorem gdP_tf (i : Nat) (X Y : PS -> Prop) : gdP (.v (.bool true)) i false d X Y s = Y ((s.put (some i) (.v (.bool true))).put d (.v undef)) := by simp [gdP, okG, wq, noS]
theorem gdP_ft (i : Nat) (X Y : PS -> Prop) : gdP (.v (.bool false)) i true d X Y s = Y ((s.put (some i) (.v (.bool false))).put d (.v undef)) := by simp [gdP, okG, wq, noS]
theorem gdP_u (i : Nat) (b : Bool) (X Y : PS -> Prop) : gdP (.v undef) i b d X Y s = Y (s.put d (.v undef)) := by simp [gdP, okG, wq, noS, undef]
theorem gdP.mkt {c : Bool} {i : Nat} {X Y : PS -> Prop} (h1 : c = true -> X (s.put (some i) (.v (.bool true)))) (h2 : c = false -> Y ((s.put (some i) (.v (.bool false))).put d (.v undef))) : gdP (.v (.bool c)) i true d X Y s := by
 refine ⟨trivial, ?_⟩
 cases c <;> simp [wq, noS] <;> first | exact h1 rfl | exact h2 rfl
theorem gdP.mkf {c : Bool} {i : Nat} {X Y : PS -> Prop} (h1 : c = true -> Y ((s.put (some i) (.v (.bool true))).put d (.v undef))) (h2 : c = false -> X (s.put (some i) (.v (.bool false)))) : gdP (.v (.bool c)) i false d X Y s := by
 refine ⟨trivial, ?_⟩
 cases c <;> simp [wq, noS] <;> first | exact h1 rfl | exact h2 rfl
theorem q_bin' (op : BinOp) (x y : PO) {Kv : PV -> Prop} : PK.q P s (.bin op x y) Kv = (binC op (s.ev x) (s.ev y) /\ Kv (binV op (s.ev x) (s.ev y))) := by
 simp only [PK.q, qbin_iff]
theorem q_beq' (n : Bool) (x y : PO) {Kv : PV -> Prop} : PK.q P s (.beq n x y) Kv = ((isBl' (s.ev x) /\ isBl' (s.ev y)) /\ Kv (.v (.bool (n != (bV (s.ev x) == bV (s.ev y)))))) := by
 simp only [PK.q, qBool_iff, and_assoc]
theorem q_not' (x : PO) {Kv : PV -> Prop} : PK.q P s (.not x) Kv = (isBl' (s.ev x) /\ Kv (.v (.bool (!bV (s.ev x))))) := by
 simp only [PK.q, qBool_iff]
theorem q_cv' (k : IntKind) (x : PO) {Kv : PV -> Prop} : PK.q P s (.cv k x) Kv = (isInt' (s.ev x) /\ Kv (.v (.int k (k.wrap (iV (s.ev x)))))) := by
 simp only [PK.q, qInt_iff]
theorem q_fa' (x : PO) (o : Nat) {Kv : PV -> Prop} : PK.q P s (.fa x o) Kv = (faC (s.ev x) /\ Kv (faV o (s.ev x))) := by
 simp only [PK.q]
 cases s.ev x <;> simp [faC, faV]
theorem q_ia' (x y : PO) (n : Nat) {Kv : PV -> Prop} : PK.q P s (.ia x y n) Kv = ((isSl' (s.ev x) /\ isInt' (s.ev y) /\ 0 <= iV (s.ev y) /\ (eV (s.ev x))[(iV (s.ev y)).toNat]?.map List.length = some n) /\ Kv (.cp ((eV (s.ev x))[(iV (s.ev y)).toNat]?.getD []) 0)) := by
 simp only [PK.q, qSl_iff, qInt_iff, and_assoc]
 cases h : (eV (s.ev x))[(iV (s.ev y)).toNat]? <;> simp [h]
theorem q_ld' (x : PO) (ag : Bool) (n : Nat) {Kv : PV -> Prop} : PK.q P s (.ld x ag n) Kv = (ldC s.b (s.ev x) ag n /\ Kv ((ldV s.b (s.ev x) ag n).strip)) := by
 simp only [PK.q]
 cases s.ev x <;> simp only [ldC, ldV, qAt_iff, false_and]
 rename_i i o
 cases s.b[i]? <;> simp [and_assoc]
theorem q_ln' (x : PO) {Kv : PV -> Prop} : PK.q P s (.ln x) Kv = (isSl' (s.ev x) /\ Kv (.v (.int .i64 (eV (s.ev x)).length))) := by
 simp only [PK.q, qSl_iff]
theorem q_bd' (zs : List PV) (ps : List (Nat × Nat × PO)) {Kv : PV -> Prop} : PK.q P s (.bd zs ps) Kv = (partsC s ps zs /\ Kv (.agg (partsV s ps zs))) := by
 simp only [PK.q, qParts_iff]
theorem q_bs' (n : Nat) (ps : List PO) {Kv : PV -> Prop} : PK.q P s (.bs n ps) Kv = (elemsC s n ps /\ Kv (.sl (elemsV s ps) .z)) := by
 simp only [PK.q, qElems_iff]
theorem l_bin (op : BinOp) (x y : PO) : pList P (⟨d, none, .bin op x y⟩ :: l) K s = (binC op (s.ev x) (s.ev y) /\ pList P l K (s.put d (binV op (s.ev x) (s.ev y)))) := q_bin' (P := P) (s := s) op x y (Kv := fun p => pList P l K (s.put d p))
theorem h_bin (op : BinOp) (x y : PO) : pHead P (⟨d, none, .bin op x y⟩ :: l) K s = (binC op (s.ev x) (s.ev y) /\ PV.own (binV op (s.ev x) (s.ev y)) = none /\ pHead P l K (s.put d (binV op (s.ev x) (s.ev y)))) := q_bin' (P := P) (s := s) op x y (Kv := fun p => p.own = none /\ pHead P l K (s.put d p))
theorem l_beq (n : Bool) (x y : PO) : pList P (⟨d, none, .beq n x y⟩ :: l) K s = ((isBl' (s.ev x) /\ isBl' (s.ev y)) /\ pList P l K (s.put d (.v (.bool (n != (bV (s.ev x) == bV (s.ev y))))))) := q_beq' (P := P) (s := s) n x y (Kv := fun p => pList P l K (s.put d p))
theorem h_beq (n : Bool) (x y : PO) : pHead P (⟨d, none, .beq n x y⟩ :: l) K s = ((isBl' (s.ev x) /\ isBl' (s.ev y)) /\ PV.own (.v (.bool (n != (bV (s.ev x) == bV (s.ev y))))) = none /\ pHead P l K (s.put d (.v (.bool (n != (bV (s.ev x) == bV (s.ev y))))))) := q_beq' (P := P) (s := s) n x y (Kv := fun p => p.own = none /\ pHead P l K (s.put d p))
theorem l_not (x : PO) : pList P (⟨d, none, .not x⟩ :: l) K s = (isBl' (s.ev x) /\ pList P l K (s.put d (.v (.bool (!bV (s.ev x)))))) := q_not' (P := P) (s := s) x (Kv := fun p => pList P l K (s.put d p))
theorem h_not (x : PO) : pHead P (⟨d, none, .not x⟩ :: l) K s = (isBl' (s.ev x) /\ PV.own (.v (.bool (!bV (s.ev x)))) = none /\ pHead P l K (s.put d (.v (.bool (!bV (s.ev x)))))) := q_not' (P := P) (s := s) x (Kv := fun p => p.own = none /\ pHead P l K (s.put d p))
theorem l_cv (k : IntKind) (x : PO) : pList P (⟨d, none, .cv k x⟩ :: l) K s = (isInt' (s.ev x) /\ pList P l K (s.put d (.v (.int k (k.wrap (iV (s.ev x))))))) := q_cv' (P := P) (s := s) k x (Kv := fun p => pList P l K (s.put d p))
theorem h_cv (k : IntKind) (x : PO) : pHead P (⟨d, none, .cv k x⟩ :: l) K s = (isInt' (s.ev x) /\ PV.own (.v (.int k (k.wrap (iV (s.ev x))))) = none /\ pHead P l K (s.put d (.v (.int k (k.wrap (iV (s.ev x))))))) := q_cv' (P := P) (s := s) k x (Kv := fun p => p.own = none /\ pHead P l K (s.put d p))
theorem l_fa (x : PO) (o : Nat) : pList P (⟨d, none, .fa x o⟩ :: l) K s = (faC (s.ev x) /\ pList P l K (s.put d (faV o (s.ev x)))) := q_fa' (P := P) (s := s) x o (Kv := fun p => pList P l K (s.put d p))
theorem h_fa (x : PO) (o : Nat) : pHead P (⟨d, none, .fa x o⟩ :: l) K s = (faC (s.ev x) /\ PV.own (faV o (s.ev x)) = none /\ pHead P l K (s.put d (faV o (s.ev x)))) := q_fa' (P := P) (s := s) x o (Kv := fun p => p.own = none /\ pHead P l K (s.put d p))
theorem l_ia (x y : PO) (n : Nat) : pList P (⟨d, none, .ia x y n⟩ :: l) K s = ((isSl' (s.ev x) /\ isInt' (s.ev y) /\ 0 <= iV (s.ev y) /\ (eV (s.ev x))[(iV (s.ev y)).toNat]?.map List.length = some n) /\ pList P l K (s.put d (.cp ((eV (s.ev x))[(iV (s.ev y)).toNat]?.getD []) 0))) := q_ia' (P := P) (s := s) x y n (Kv := fun p => pList P l K (s.put d p))
theorem h_ia (x y : PO) (n : Nat) : pHead P (⟨d, none, .ia x y n⟩ :: l) K s = ((isSl' (s.ev x) /\ isInt' (s.ev y) /\ 0 <= iV (s.ev y) /\ (eV (s.ev x))[(iV (s.ev y)).toNat]?.map List.length = some n) /\ PV.own (.cp ((eV (s.ev x))[(iV (s.ev y)).toNat]?.getD []) 0) = none /\ pHead P l K (s.put d (.cp ((eV (s.ev x))[(iV (s.ev y)).toNat]?.getD []) 0))) := q_ia' (P := P) (s := s) x y n (Kv := fun p => p.own = none /\ pHead P l K (s.put d p))
theorem h_ld (x : PO) (ag : Bool) (n : Nat) : pHead P (⟨d, none, .ld x ag n⟩ :: l) K s = (ldC s.b (s.ev x) ag n /\ PV.own ((ldV s.b (s.ev x) ag n).strip) = none /\ pHead P l K (s.put d ((ldV s.b (s.ev x) ag n).strip))) := q_ld' (P := P) (s := s) x ag n (Kv := fun p => p.own = none /\ pHead P l K (s.put d p))
theorem l_ln (x : PO) : pList P (⟨d, none, .ln x⟩ :: l) K s = (isSl' (s.ev x) /\ pList P l K (s.put d (.v (.int .i64 (eV (s.ev x)).length)))) := q_ln' (P := P) (s := s) x (Kv := fun p => pList P l K (s.put d p))
theorem h_ln (x : PO) : pHead P (⟨d, none, .ln x⟩ :: l) K s = (isSl' (s.ev x) /\ PV.own (.v (.int .i64 (eV (s.ev x)).length)) = none /\ pHead P l K (s.put d (.v (.int .i64 (eV (s.ev x)).length)))) := q_ln' (P := P) (s := s) x (Kv := fun p => p.own = none /\ pHead P l K (s.put d p))
theorem l_bd (zs : List PV) (ps : List (Nat × Nat × PO)) : pList P (⟨d, none, .bd zs ps⟩ :: l) K s = (partsC s ps zs /\ pList P l K (s.put d (.agg (partsV s ps zs)))) := q_bd' (P := P) (s := s) zs ps (Kv := fun p => pList P l K (s.put d p))
theorem h_bd (zs : List PV) (ps : List (Nat × Nat × PO)) : pHead P (⟨d, none, .bd zs ps⟩ :: l) K s = (partsC s ps zs /\ PV.own (.agg (partsV s ps zs)) = none /\ pHead P l K (s.put d (.agg (partsV s ps zs)))) := q_bd' (P := P) (s := s) zs ps (Kv := fun p => p.own = none /\ pHead P l K (s.put d p))
theorem l_bs (i n : Nat) (ps : List PO) : pList P (⟨some i, none, .bs n ps⟩ :: l) K s = (elemsC s n ps /\ pList P l K (s.put (some i) (.sl (elemsV s ps) (.r i n)))) := by
 show PK.e P (.bs n ps) (some i) s (pList P l K) = _
 simp only [PK.e, qElems_iff]
theorem h_bs (n : Nat) (ps : List PO) : pHead P (⟨d, none, .bs n ps⟩ :: l) K s = (elemsC s n ps /\ PV.own (.sl (elemsV s ps) .z) = none /\ pHead P l K (s.put d (.sl (elemsV s ps) .z))) := q_bs' (P := P) (s := s) n ps (Kv := fun p => p.own = none /\ pHead P l K (s.put d p))
theorem l_ldt (x : PO) (n : Nat) : pList P (⟨d, none, .ld x true n⟩ :: l) K s = (ldC s.b (s.ev x) true n /\ pList P l K (s.put d (ldV s.b (s.ev x) true n).strip)) := q_ld' (P := P) (s := s) x true n (Kv := fun p => pList P l K (s.put d p))
def ldW (bs : List (List PV)) (p : PV) : PV := match p with
 | .cp cs o => (atV cs o false 1).strip
 | .bx i o => atV (bs[i]?.getD []) o false 1
 | _ => .und
theorem ldW_c (bs : List (List PV)) (cs : List PV) (o : Nat) : ldW bs (.cp cs o) = (atV cs o false 1).strip := Eq.trans rfl rfl
theorem ldW_b (bs : List (List PV)) (i o : Nat) : ldW bs (.bx i o) = atV (bs[i]?.getD []) o false 1 := Eq.trans rfl rfl
theorem l_ldf (x : PO) : pList P (⟨d, none, .ld x false 1⟩ :: l) K s = (ldF s.b (s.ev x) /\ pList P l K (s.put d (ldW s.b (s.ev x)))) := by
 show PK.e P (.ld x false 1) d s (pList P l K) = _
 simp only [PK.e]
 split
 ·rename_i i o h
  rw [h]
  simp only [ldF, ldW, atC, atV]
  cases s.b[i]? with
  | none => simp
  | some cs => cases hc : cs[o]? <;> simp [hc]
 ·rename_i h
  rw [q_ld']
  cases hx : s.ev x <;> first | rfl | exact absurd hx (h _ _) | (simp [ldC, ldF]; done)
theorem l_mv_t (i : Nat) : pList P (⟨d, none, .mv (.t i)⟩ :: l) K s = pList P l K (s.put d (s.get i)) := Eq.trans rfl rfl
theorem l_mv_c (p : PV) : pList P (⟨d, none, .mv (.c p)⟩ :: l) K s = pList P l K (s.put d p.strip) := Eq.trans rfl rfl
theorem l_mv_f (f : FuncId) : pList P (⟨d, none, .mv (.f f)⟩ :: l) K s = pList P l K (s.put d (.fn (.func f) [] [])) := Eq.trans rfl rfl
theorem h_mv_t (i : Nat) : pHead P (⟨d, none, .mv (.t i)⟩ :: l) K s = (((s.get i).pre i).own = none /\ pHead P l K (s.put d ((s.get i).pre i))) := Eq.trans rfl rfl
theorem h_mv_c (p : PV) : pHead P (⟨d, none, .mv (.c p)⟩ :: l) K s = (p.strip.own = none /\ pHead P l K (s.put d p.strip)) := Eq.trans rfl rfl
theorem h_mv_f (f : FuncId) : pHead P (⟨d, none, .mv (.f f)⟩ :: l) K s = pHead P l K (s.put d (.fn (.func f) [] [])) := by
 show (_ = none /\ _) = _
 simp only [PS.ev, PV.strip, PV.own, true_and]
def pkP (c : PV) (X Y : PS -> Prop) (s : PS) : Prop := isBl' c /\ if bV c = true then X s else Y s
theorem l_pk (c x y : PO) : pList P (⟨d, none, .pk c x y⟩ :: l) K s = pkP (s.ev c) (fun s' => pList P l K (s'.put d (s'.ev x).strip)) (fun s' => pList P l K (s'.put d (s'.ev y).strip)) s := by
 show qBool _ _ = _
 rw [qBool_iff]
 unfold pkP
 cases bV (s.ev c) <;> simp
theorem h_pk (c x y : PO) : pHead P (⟨d, none, .pk c x y⟩ :: l) K s = pkP (s.ev c) (fun s' => pHead P l K (s'.put d (s'.ev x).strip)) (fun s' => pHead P l K (s'.put d (s'.ev y).strip)) s := by
 show qBool _ _ = _
 rw [qBool_iff]
 unfold pkP
 cases bV (s.ev c) <;> simp [PV.strip_own]
theorem pkP_t (X Y : PS -> Prop) : pkP (.v (.bool true)) X Y s = X s := by simp [pkP, isBl', bV]
theorem pkP_f (X Y : PS -> Prop) : pkP (.v (.bool false)) X Y s = Y s := by simp [pkP, isBl', bV]
theorem pkP.mk {c : Bool} {X Y : PS -> Prop} (h1 : c = true -> X s) (h2 : c = false -> Y s) : pkP (.v (.bool c)) X Y s := by
 refine ⟨trivial, ?_⟩
 cases c
 ·exact h2 rfl
 ·exact h1 rfl
def eqC (p q : PV) : Prop := match p, q with
 | .agg [.v (.int k _), .v (.int l _)], .agg [.v (.int k' _), .v (.int l' _)] => k = k' /\ l = l'
 | _, _ => False
def eqB (p q : PV) : Bool := match p, q with
 | .agg [.v (.int _ a), .v (.int _ b)], .agg [.v (.int _ a'), .v (.int _ b')] => decide (a = a') && decide (b = b')
 | _, _ => false
theorem eqC_v (k l k' l' : IntKind) (a b a' b' : Int) : eqC (.agg [.v (.int k a), .v (.int l b)]) (.agg [.v (.int k' a'), .v (.int l' b')]) = (k = k' /\ l = l') := Eq.trans rfl rfl
theorem eqB_v (k l k' l' : IntKind) (a b a' b' : Int) : eqB (.agg [.v (.int k a), .v (.int l b)]) (.agg [.v (.int k' a'), .v (.int l' b')]) = (decide (a = a') && decide (b = b')) := Eq.trans rfl rfl
theorem q_eq2' (n : Bool) (x y : PO) {Kv : PV -> Prop} : PK.q P s (.eq2 n x y) Kv = (eqC (s.ev x) (s.ev y) /\ Kv (.v (.bool (n != eqB (s.ev x) (s.ev y))))) := by
 simp only [PK.q]
 generalize s.ev x = p
 generalize s.ev y = q
 unfold qeq2 eqC eqB
 split
 ·simp [and_assoc]
 ·rename_i h
  split
  ·exact (h _ _ _ _ _ _ _ _ rfl rfl).elim
  ·simp
def nlC : PV -> Prop
 | .v .nilIface => True
 | .ifc _ _ => True
 | _ => False
def nlB : PV -> Bool
 | .v .nilIface => true
 | _ => false
theorem nlC_n : nlC (.v .nilIface) = True := Eq.trans rfl rfl
theorem nlC_i (t : TypeId) (x : PV) : nlC (.ifc t x) = True := Eq.trans rfl rfl
theorem nlB_n : nlB (.v .nilIface) = true := Eq.trans rfl rfl
theorem nlB_i (t : TypeId) (x : PV) : nlB (.ifc t x) = false := Eq.trans rfl rfl
theorem q_nil' (n : Bool) (x : PO) {Kv : PV -> Prop} : PK.q P s (.nil n x) Kv = (nlC (s.ev x) /\ Kv (.v (.bool (n != nlB (s.ev x))))) := by
 simp only [PK.q]
 cases s.ev x <;> simp [nlC, nlB]
 rename_i v
 cases v <;> simp [nlC, nlB]
theorem q_nc' (x : PO) {Kv : PV -> Prop} : PK.q P s (.nc x) Kv = (faC (s.ev x) /\ Kv (s.ev x)) := by
 simp only [PK.q]
 cases s.ev x <;> simp [faC]
theorem q_mm' (m : Bool) (x y : PO) {Kv : PV -> Prop} : PK.q P s (.mm m x y) Kv = ((isInt' (s.ev x) /\ isInt' (s.ev y) /\ iK (s.ev x) = iK (s.ev y)) /\ Kv (.v (.int (iK (s.ev x)) (if m then (if iV (s.ev y) > iV (s.ev x) then iV (s.ev y) else iV (s.ev x)) else (if iV (s.ev y) < iV (s.ev x) then iV (s.ev y) else iV (s.ev x)))))) := by
 simp only [PK.q, qInt_iff, and_assoc]
theorem q_aa' (x y : PO) (n sz : Nat) {Kv : PV -> Prop} : PK.q P s (.aa x y n sz) Kv = ((isInt' (s.ev y) /\ 0 <= iV (s.ev y) /\ iV (s.ev y) < n /\ faC (s.ev x)) /\ Kv (faV ((iV (s.ev y)).toNat * sz) (s.ev x))) := by
 simp only [PK.q, qInt_iff, and_assoc]
 cases s.ev x <;> simp [faC, faV]
def agC : PV -> Prop
 | .agg _ => True
 | _ => False
def agV : PV -> List PV
 | .agg cs => cs
 | _ => []
theorem agC_a (cs : List PV) : agC (.agg cs) = True := Eq.trans rfl rfl
theorem agV_a (cs : List PV) : agV (.agg cs) = cs := Eq.trans rfl rfl
theorem q_ix' (x y : PO) (n : Nat) (ag : Bool) (sz : Nat) {Kv : PV -> Prop} : PK.q P s (.ix x y n ag sz) Kv = ((isInt' (s.ev y) /\ 0 <= iV (s.ev y) /\ iV (s.ev y) < n /\ agC (s.ev x) /\ atC (agV (s.ev x)) ((iV (s.ev y)).toNat * sz) ag sz) /\ Kv (atV (agV (s.ev x)) ((iV (s.ev y)).toNat * sz) ag sz).strip) := by
 simp only [PK.q, qInt_iff, and_assoc]
 cases s.ev x <;> simp [agC, agV, qAt_iff, and_assoc]
theorem q_fl' (x : PO) (o : Nat) (ag : Bool) (n : Nat) {Kv : PV -> Prop} : PK.q P s (.fl x o ag n) Kv = ((agC (s.ev x) /\ atC (agV (s.ev x)) o ag n) /\ Kv (atV (agV (s.ev x)) o ag n).strip) := by
 simp only [PK.q]
 cases s.ev x <;> simp [agC, agV, qAt_iff]
def mfC (ps : List PV) : Bool := ps.all fun p => p.isD || p.isB
theorem mfC_nil : mfC [] = true := Eq.trans rfl rfl
theorem mfC_cons (p : PV) (l : List PV) : mfC (p :: l) = ((p.isD || p.isB) && mfC l) := Eq.trans rfl rfl
theorem isB_v (x : Value) : PV.isB (.v x) = false := Eq.trans rfl rfl
theorem isB_sl (es : List (List PV)) (o : Ow) : PV.isB (.sl es o) = false := Eq.trans rfl rfl
theorem isB_agg (cs : List PV) : PV.isB (.agg cs) = false := Eq.trans rfl rfl
theorem isB_bx (i o : Nat) : PV.isB (.bx i o) = true := Eq.trans rfl rfl
theorem isB_cp (cs : List PV) (o : Nat) : PV.isB (.cp cs o) = false := Eq.trans rfl rfl
theorem isB_fn (f : Fn) (x y : List PV) : PV.isB (.fn f x y) = false := Eq.trans rfl rfl
theorem isB_ifc (t : TypeId) (x : PV) : PV.isB (.ifc t x) = false := Eq.trans rfl rfl
theorem isD_bx (i o : Nat) : PV.isD (.bx i o) = false := Eq.trans rfl rfl
theorem isD_fn (f : Fn) (x y : List PV) : PV.isD (.fn f x y) = (x.all (fun p => !p.isB) && y.all (fun p => !p.isB)) := Eq.trans rfl rfl
theorem q_mf' (f : Fn) (fs cs : List PO) {Kv : PV -> Prop} : PK.q P s (.mf f fs cs) Kv = ((mfC (evs s fs) && mfC (evs s cs)) = true /\ Kv (.fn f (evs s fs) (evs s cs))) := by
 simp only [PK.q, mfC, evs, List.all_map]
 rfl
theorem q_mi' (t : TypeId) (x : PO) {Kv : PV -> Prop} : PK.q P s (.mi t x) Kv = ((s.ev x).isD = true /\ Kv (.ifc t (s.ev x).sh)) := by
 simp only [PK.q]
 cases (s.ev x).isD <;> simp
def clP (P : Program) (p : PV) (xs : List PV) (K : PS -> Prop) (d : Option Nat) (s : PS) : Prop := match p with
 | .fn (.func f) fs cs => callQ P f (fs ++ xs ++ cs) K d s
 | _ => False
theorem clP_f (f : FuncId) (fs cs xs : List PV) : clP P (.fn (.func f) fs cs) xs K d s = callQ P f (fs ++ xs ++ cs) K d s := Eq.trans rfl rfl
theorem l_cl (y : PO) (xs : List PO) : pList P (⟨d, none, .cl y xs⟩ :: l) K s = clP P (s.ev y) (evs s xs) (pList P l K) d s := by
 show PK.q P s (.cl y xs) (fun p => pList P l K (s.put d p)) = _
 simp only [PK.q]
 cases s.ev y <;> rfl
theorem h_cl (y : PO) (xs : List PO) : pHead P (⟨d, none, .cl y xs⟩ :: l) K s = clP P (s.ev y) (evs s xs) (pHead P l K) d s := by
 show PK.q P s (.cl y xs) (fun p => p.own = none /\ pHead P l K (s.put d p)) = _
 simp only [PK.q, PV.strip_own, true_and]
 cases s.ev y <;> rfl
theorem l_eq2 (n : Bool) (x y : PO) : pList P (⟨d, none, .eq2 n x y⟩ :: l) K s = (eqC (s.ev x) (s.ev y) /\ pList P l K (s.put d (.v (.bool (n != eqB (s.ev x) (s.ev y)))))) := q_eq2' (P := P) (s := s) n x y (Kv := fun p => pList P l K (s.put d p))
theorem h_eq2 (n : Bool) (x y : PO) : pHead P (⟨d, none, .eq2 n x y⟩ :: l) K s = (eqC (s.ev x) (s.ev y) /\ PV.own (.v (.bool (n != eqB (s.ev x) (s.ev y)))) = none /\ pHead P l K (s.put d (.v (.bool (n != eqB (s.ev x) (s.ev y)))))) := q_eq2' (P := P) (s := s) n x y (Kv := fun p => p.own = none /\ pHead P l K (s.put d p))
theorem l_nil (n : Bool) (x : PO) : pList P (⟨d, none, .nil n x⟩ :: l) K s = (nlC (s.ev x) /\ pList P l K (s.put d (.v (.bool (n != nlB (s.ev x)))))) := q_nil' (P := P) (s := s) n x (Kv := fun p => pList P l K (s.put d p))
theorem h_nil (n : Bool) (x : PO) : pHead P (⟨d, none, .nil n x⟩ :: l) K s = (nlC (s.ev x) /\ PV.own (.v (.bool (n != nlB (s.ev x)))) = none /\ pHead P l K (s.put d (.v (.bool (n != nlB (s.ev x)))))) := q_nil' (P := P) (s := s) n x (Kv := fun p => p.own = none /\ pHead P l K (s.put d p))
theorem l_nc (x : PO) : pList P (⟨d, none, .nc x⟩ :: l) K s = (faC (s.ev x) /\ pList P l K (s.put d (s.ev x))) := q_nc' (P := P) (s := s) x (Kv := fun p => pList P l K (s.put d p))
theorem h_nc (x : PO) : pHead P (⟨d, none, .nc x⟩ :: l) K s = (faC (s.ev x) /\ PV.own (s.ev x) = none /\ pHead P l K (s.put d (s.ev x))) := q_nc' (P := P) (s := s) x (Kv := fun p => p.own = none /\ pHead P l K (s.put d p))
theorem l_mm (m : Bool) (x y : PO) : pList P (⟨d, none, .mm m x y⟩ :: l) K s = ((isInt' (s.ev x) /\ isInt' (s.ev y) /\ iK (s.ev x) = iK (s.ev y)) /\ pList P l K (s.put d (.v (.int (iK (s.ev x)) (if m then (if iV (s.ev y) > iV (s.ev x) then iV (s.ev y) else iV (s.ev x)) else (if iV (s.ev y) < iV (s.ev x) then iV (s.ev y) else iV (s.ev x))))))) := q_mm' (P := P) (s := s) m x y (Kv := fun p => pList P l K (s.put d p))
theorem h_mm (m : Bool) (x y : PO) : pHead P (⟨d, none, .mm m x y⟩ :: l) K s = ((isInt' (s.ev x) /\ isInt' (s.ev y) /\ iK (s.ev x) = iK (s.ev y)) /\ PV.own (.v (.int (iK (s.ev x)) (if m then (if iV (s.ev y) > iV (s.ev x) then iV (s.ev y) else iV (s.ev x)) else (if iV (s.ev y) < iV (s.ev x) then iV (s.ev y) else iV (s.ev x))))) = none /\ pHead P l K (s.put d (.v (.int (iK (s.ev x)) (if m then (if iV (s.ev y) > iV (s.ev x) then iV (s.ev y) else iV (s.ev x)) else (if iV (s.ev y) < iV (s.ev x) then iV (s.ev y) else iV (s.ev x))))))) := q_mm' (P := P) (s := s) m x y (Kv := fun p => p.own = none /\ pHead P l K (s.put d p))
theorem l_aa (x y : PO) (n sz : Nat) : pList P (⟨d, none, .aa x y n sz⟩ :: l) K s = ((isInt' (s.ev y) /\ 0 <= iV (s.ev y) /\ iV (s.ev y) < n /\ faC (s.ev x)) /\ pList P l K (s.put d (faV ((iV (s.ev y)).toNat * sz) (s.ev x)))) := q_aa' (P := P) (s := s) x y n sz (Kv := fun p => pList P l K (s.put d p))
theorem h_aa (x y : PO) (n sz : Nat) : pHead P (⟨d, none, .aa x y n sz⟩ :: l) K s = ((isInt' (s.ev y) /\ 0 <= iV (s.ev y) /\ iV (s.ev y) < n /\ faC (s.ev x)) /\ PV.own (faV ((iV (s.ev y)).toNat * sz) (s.ev x)) = none /\ pHead P l K (s.put d (faV ((iV (s.ev y)).toNat * sz) (s.ev x)))) := q_aa' (P := P) (s := s) x y n sz (Kv := fun p => p.own = none /\ pHead P l K (s.put d p))
theorem l_ix (x y : PO) (n : Nat) (ag : Bool) (sz : Nat) : pList P (⟨d, none, .ix x y n ag sz⟩ :: l) K s = ((isInt' (s.ev y) /\ 0 <= iV (s.ev y) /\ iV (s.ev y) < n /\ agC (s.ev x) /\ atC (agV (s.ev x)) ((iV (s.ev y)).toNat * sz) ag sz) /\ pList P l K (s.put d ((atV (agV (s.ev x)) ((iV (s.ev y)).toNat * sz) ag sz).strip))) := q_ix' (P := P) (s := s) x y n ag sz (Kv := fun p => pList P l K (s.put d p))
theorem h_ix (x y : PO) (n : Nat) (ag : Bool) (sz : Nat) : pHead P (⟨d, none, .ix x y n ag sz⟩ :: l) K s = ((isInt' (s.ev y) /\ 0 <= iV (s.ev y) /\ iV (s.ev y) < n /\ agC (s.ev x) /\ atC (agV (s.ev x)) ((iV (s.ev y)).toNat * sz) ag sz) /\ PV.own ((atV (agV (s.ev x)) ((iV (s.ev y)).toNat * sz) ag sz).strip) = none /\ pHead P l K (s.put d ((atV (agV (s.ev x)) ((iV (s.ev y)).toNat * sz) ag sz).strip))) := q_ix' (P := P) (s := s) x y n ag sz (Kv := fun p => p.own = none /\ pHead P l K (s.put d p))
theorem l_fl (x : PO) (o : Nat) (ag : Bool) (n : Nat) : pList P (⟨d, none, .fl x o ag n⟩ :: l) K s = ((agC (s.ev x) /\ atC (agV (s.ev x)) o ag n) /\ pList P l K (s.put d ((atV (agV (s.ev x)) o ag n).strip))) := q_fl' (P := P) (s := s) x o ag n (Kv := fun p => pList P l K (s.put d p))
theorem h_fl (x : PO) (o : Nat) (ag : Bool) (n : Nat) : pHead P (⟨d, none, .fl x o ag n⟩ :: l) K s = ((agC (s.ev x) /\ atC (agV (s.ev x)) o ag n) /\ PV.own ((atV (agV (s.ev x)) o ag n).strip) = none /\ pHead P l K (s.put d ((atV (agV (s.ev x)) o ag n).strip))) := q_fl' (P := P) (s := s) x o ag n (Kv := fun p => p.own = none /\ pHead P l K (s.put d p))
def mfB (s : PS) (l : List PO) : Bool := l.any fun x => (s.ev x).isB
theorem mfB_nil : mfB s [] = false := rfl
theorem mfB_cons (x : PO) (l : List PO) : mfB s (x :: l) = ((s.ev x).isB || mfB s l) := rfl
theorem fz_mk : PS.fz ⟨t, b⟩ = ⟨t.map fun y => (y.1, y.2.fz b), []⟩ := rfl
theorem fz_v (x : Value) : PV.fz b (.v x) = .v x := rfl
theorem fz_agg (cs : List PV) : PV.fz b (.agg cs) = .agg cs := rfl
theorem fz_tup (cs : List PV) : PV.fz b (.tup cs) = .tup cs := rfl
theorem fz_sl (es : List (List PV)) (o : Ow) : PV.fz b (.sl es o) = .sl es o := rfl
theorem fz_bx (i o : Nat) : PV.fz b (.bx i o) = .cp ((b[i]?.getD []).map PV.sh) o := rfl
theorem fz_cp (cs : List PV) (o : Nat) : PV.fz b (.cp cs o) = .cp cs o := rfl
theorem fz_ifc (ty : TypeId) (x : PV) : PV.fz b (.ifc ty x) = .ifc ty x := rfl
theorem fz_und : PV.fz b .und = .und := rfl
theorem fz_fn (f : Fn) (fs cs : List PV) : PV.fz b (.fn f fs cs) = .fn f (fs.map (PV.fz1 b)) (cs.map (PV.fz1 b)) := rfl
theorem fz1_bx (i o : Nat) : PV.fz1 b (.bx i o) = .cp ((b[i]?.getD []).map PV.sh) o := rfl
theorem fz1_v (x : Value) : PV.fz1 b (.v x) = .v x := rfl
theorem fz1_cp (cs : List PV) (o : Nat) : PV.fz1 b (.cp cs o) = .cp cs o := rfl
theorem l_mf (f : Fn) (fs cs : List PO) : pList P (⟨d, none, .mf f fs cs⟩ :: l) K s = if (mfB s fs || mfB s cs) = true then (s.b.all allD = true /\ (mfC (evs s.fz fs) && mfC (evs s.fz cs)) = true /\ pList P l K (s.fz.put d (.fn f (evs s.fz fs) (evs s.fz cs)))) else ((mfC (evs s fs) && mfC (evs s cs)) = true /\ pList P l K (s.put d (.fn f (evs s fs) (evs s cs)))) := by
 show PK.e P (.mf f fs cs) d s (pList P l K) = _
 simp only [PK.e, mfB]
 congr 1
 ·rw [q_mf' (P := P) (s := s.fz) f fs cs (Kv := fun p => pList P l K (s.fz.put d p))]
 ·exact q_mf' (P := P) (s := s) f fs cs (Kv := fun p => pList P l K (s.put d p))
theorem h_mf (f : Fn) (fs cs : List PO) : pHead P (⟨d, none, .mf f fs cs⟩ :: l) K s = ((mfC (evs s fs) && mfC (evs s cs)) = true /\ PV.own (.fn f (evs s fs) (evs s cs)) = none /\ pHead P l K (s.put d (.fn f (evs s fs) (evs s cs)))) := q_mf' (P := P) (s := s) f fs cs (Kv := fun p => p.own = none /\ pHead P l K (s.put d p))
theorem l_mi (t : TypeId) (x : PO) : pList P (⟨d, none, .mi t x⟩ :: l) K s = ((s.ev x).isD = true /\ pList P l K (s.put d (.ifc t (s.ev x).sh))) := q_mi' (P := P) (s := s) t x (Kv := fun p => pList P l K (s.put d p))
theorem h_mi (t : TypeId) (x : PO) : pHead P (⟨d, none, .mi t x⟩ :: l) K s = ((s.ev x).isD = true /\ PV.own (.ifc t (s.ev x).sh) = none /\ pHead P l K (s.put d (.ifc t (s.ev x).sh))) := q_mi' (P := P) (s := s) t x (Kv := fun p => p.own = none /\ pHead P l K (s.put d p))
theorem l_sc (x : PO) (lo hi : Option PO) (n : Nat) : pList P (⟨d, none, .sc x lo hi n⟩ :: l) K s = (isSl' (s.ev x) /\ bdC s hi /\ bdC s lo /\ bdV s 0 lo <= bdV s (eV (s.ev x)).length hi /\ bdV s (eV (s.ev x)).length hi <= (eV (s.ev x)).length /\ (∀ e ∈ eV (s.ev x), e.length = n) /\
 pList P l K (s.put d (.sl (((eV (s.ev x)).take (bdV s (eV (s.ev x)).length hi)).drop (bdV s 0 lo)) .sh))) := by
 show PK.q P s (.sc x lo hi n) (fun p => pList P l K (s.put d p.strip)) = _
 have : ∀ es lo p, (PV.sl es (scO lo p)).strip = .sl es .sh := fun es lo p => by unfold scO; split <;> rfl
 simp only [PK.q, qSl_iff, qBd_iff, this]
theorem h_sc (x : PO) (lo hi : Option PO) (n : Nat) : pHead P (⟨d, none, .sc x lo hi n⟩ :: l) K s = (isSl' (s.ev x) /\ bdC s hi /\ bdC s lo /\ bdV s 0 lo <= bdV s (eV (s.ev x)).length hi /\ bdV s (eV (s.ev x)).length hi <= (eV (s.ev x)).length /\ (∀ e ∈ eV (s.ev x), e.length = n) /\
 pHead P l K (s.put d (.sl (((eV (s.ev x)).take (bdV s (eV (s.ev x)).length hi)).drop (bdV s 0 lo)) (scO lo (s.ev x))))) := by
 show PK.q P s (.sc x lo hi n) (fun p => p.own = none /\ pHead P l K (s.put d p)) = _
 have : ∀ es lo p, (PV.sl es (scO lo p)).own = none := fun es lo p => by unfold scO; split <;> rfl
 simp only [PK.q, qSl_iff, qBd_iff, this, true_and]
theorem bdC_n : bdC s none = True := Eq.trans rfl rfl
theorem bdC_s (y : PO) : bdC s (some y) = (isInt' (s.ev y) /\ 0 <= iV (s.ev y)) := Eq.trans rfl rfl
theorem bdV_n (n : Nat) : bdV s n none = n := Eq.trans rfl rfl
theorem bdV_s (n : Nat) (y : PO) : bdV s n (some y) = (iV (s.ev y)).toNat := Eq.trans rfl rfl
def tupC (p : PV) (i : Nat) : Prop := match p with
 | .tup cs => cs[i]?.isSome = true
 | _ => False
def tpV (p : PV) (i : Nat) : PV := match p with
 | .tup cs => (cs[i]?.getD .und).strip
 | _ => .und
theorem q_ex' (x : PO) (i : Nat) {Kv : PV -> Prop} : PK.q P s (.ex x i) Kv = (tupC (s.ev x) i /\ Kv (tpV (s.ev x) i)) := by
 simp only [PK.q]
 cases s.ev x <;> simp only [tupC, tpV, false_and]
 rename_i cs
 cases cs[i]? <;> simp
theorem l_exd (x : PO) (i : Nat) : pList P (⟨d, none, .ex x i⟩ :: l) K s = (tupC (s.ev x) i /\ pList P l K (s.put d (tpV (s.ev x) i))) := q_ex' (P := P) (s := s) x i (Kv := fun p => pList P l K (s.put d p))
theorem h_exd (x : PO) (i : Nat) : pHead P (⟨d, none, .ex x i⟩ :: l) K s = (tupC (s.ev x) i /\ (tpV (s.ev x) i).own = none /\ pHead P l K (s.put d (tpV (s.ev x) i))) := q_ex' (P := P) (s := s) x i (Kv := fun p => p.own = none /\ pHead P l K (s.put d p))
theorem tupC_t (cs : List PV) (i : Nat) : tupC (.tup cs) i = (cs[i]?.isSome = true) := Eq.trans rfl rfl
theorem tpV_t (cs : List PV) (i : Nat) : tpV (.tup cs) i = (cs[i]?.getD .und).strip := Eq.trans rfl rfl
theorem l_al (zs : List PV) : pList P (⟨d, none, .al zs⟩ :: l) K s = pList P l K (PS.put ⟨s.t, s.b ++ [zs]⟩ d (.bx s.b.length 0)) := Eq.trans rfl rfl
theorem l_bo (x : PO) : pList P (⟨d, none, .bo x⟩ :: l) K s = (cellsC (s.ev x) /\ pList P l K (PS.put ⟨s.t, s.b ++ [(cellsV (s.ev x)).map PV.sh]⟩ d (.bx s.b.length 0))) := qCells_iff
def stC (bs : List (List PV)) (p q : PV) (n : Nat) : Prop := match p with
 | .bx i o => bs[i]?.isSome = true /\ cellsC q /\ (cellsV q).length = n /\ o + n <= (bs[i]?.getD []).length
 | _ => False
def stB (bs : List (List PV)) (y : PO) (p q : PV) : List (List PV) := match p with
 | .bx i o => bs.set i (spl (bs[i]?.getD []) (keepOwn y q (cellsV q)) o)
 | _ => bs
theorem stC_b (bs : List (List PV)) (i o : Nat) (q : PV) (n : Nat) : stC bs (.bx i o) q n = (bs[i]?.isSome = true /\ cellsC q /\ (cellsV q).length = n /\ o + n <= (bs[i]?.getD []).length) := Eq.trans rfl rfl
theorem stB_b (bs : List (List PV)) (y : PO) (i o : Nat) (q : PV) : stB bs y (.bx i o) q = bs.set i (spl (bs[i]?.getD []) (keepOwn y q (cellsV q)) o) := Eq.trans rfl rfl
theorem l_st (x y : PO) (n : Nat) : pList P (⟨d, none, .st x y n⟩ :: l) K s = (stC s.b (s.ev x) (s.ev y) n /\ pList P l K (PS.put ⟨s.t, stB s.b y (s.ev x) (s.ev y)⟩ d (.v undef))) := by
 show PK.e P (.st x y n) d s (pList P l K) = _
 simp only [PK.e]
 cases s.ev x <;> simp only [stC, stB, false_and]
 rename_i i o
 cases s.b[i]? <;> simp [qCells_iff, and_assoc]
theorem l_ca (f : FuncId) (xs : List PO) : pList P (⟨d, none, .ca f xs⟩ :: l) K s = match xs with
 | .t i :: xs' => caD P f (s.get i) (evs s xs') (pList P l K) d s
 | xs => callP P f (evs s xs) (pList P l K) d s := by
 show PK.e P (.ca f xs) d s (pList P l K) = _
 simp only [PK.e]
 split
 ·rename_i i xs'
  have e : s.ev (.t i) = s.get i := rfl
  simp only [List.map_cons, e, caD]
  generalize s.get i = p
  cases p with
  | sl es o => cases o <;> rfl
  | _ => rfl
 ·rename_i h
  cases xs with
  | nil => rfl
  | cons x xs => cases x <;> first | rfl | exact absurd rfl (h _ _)
theorem caD_r (f : FuncId) (es : List (List PV)) (n sz : Nat) (xs : List PV) : caD P f (.sl es (.r n sz)) xs K d s = callO P f es n sz xs K d s := Eq.trans rfl rfl
theorem caD_v (f : FuncId) (x : Value) (xs : List PV) : caD P f (.v x) xs K d s = callP P f (.v x :: xs) K d s := Eq.trans rfl rfl
theorem caD_agg (f : FuncId) (cs : List PV) (xs : List PV) : caD P f (.agg cs) xs K d s = callP P f (.agg cs :: xs) K d s := Eq.trans rfl rfl
theorem caD_sh (f : FuncId) (es : List (List PV)) (xs : List PV) : caD P f (.sl es .sh) xs K d s = callP P f (.sl es .sh :: xs) K d s := Eq.trans rfl rfl
theorem caD_z (f : FuncId) (es : List (List PV)) (xs : List PV) : caD P f (.sl es .z) xs K d s = callP P f (.sl es .sh :: xs) K d s := Eq.trans rfl rfl
theorem caD_ifc (f : FuncId) (t : TypeId) (x : PV) (xs : List PV) : caD P f (.ifc t x) xs K d s = callP P f (.ifc t x :: xs) K d s := Eq.trans rfl rfl
theorem caD_fn (f : FuncId) (g : Fn) (x y : List PV) (xs : List PV) : caD P f (.fn g x y) xs K d s = callP P f (.fn g x y :: xs) K d s := Eq.trans rfl rfl
theorem h_ca (f : FuncId) (xs : List PO) : pHead P (⟨d, none, .ca f xs⟩ :: l) K s = callQ P f (evs s xs) (pHead P l K) d s := by
 show (∃ r, _ /\ _ /\ (PV.own _ = none /\ _)) = _
 simp only [PV.strip_own, true_and]
 rfl
def apT (P : Program) (p q : PV) (x y : PO) (n m : Nat) (K : PS -> Prop) (d : Option Nat) (s : PS) : Prop := match p with
 | .sl es (.r k sz') => sz' = n /\ isT x = true /\ isSl' q /\ (∀ e ∈ eV q, e.length = n) /\ (es.length + (eV q).length) * m <= 140737488355328 /\ K ((s.down k).put d (.sl (es ++ eV q) (.r k n)))
 | .sl es .z => (match d with
   | some d => isSl' q /\ (∀ e ∈ es, e.length = n) /\ (∀ e ∈ eV q, e.length = n) /\ (es.length + (eV q).length) * m <= 140737488355328 /\ K (s.put (some d) (.sl (es ++ eV q) (apO es (eV q) d n)))
   | none => PK.q P s (.ap x y n m) fun p => K (s.put d p.strip))
 | _ => False
theorem l_ap (x y : PO) (n m : Nat) : pList P (⟨d, none, .ap x y n m⟩ :: l) K s = apT P (s.ev x) (s.ev y) x y n m (pList P l K) d s := by
 show PK.e P (.ap x y n m) d s (pList P l K) = _
 simp only [PK.e, apT, qSl_iff]
 generalize s.ev x = p
 cases p with
 | sl es o => cases o with
   | z => cases d <;> rfl
   | r k sz => rfl
   | _ => rfl
 | _ => rfl
theorem apT_r (es : List (List PV)) (k sz' : Nat) (q : PV) (x y : PO) (n m : Nat) : apT P (.sl es (.r k sz')) q x y n m K d s = (sz' = n /\ isT x = true /\ isSl' q /\ (∀ e ∈ eV q, e.length = n) /\ (es.length + (eV q).length) * m <= 140737488355328 /\ K ((s.down k).put d (.sl (es ++ eV q) (.r k n)))) := Eq.trans rfl rfl
theorem apT_z (es : List (List PV)) (q : PV) (x y : PO) (d n m : Nat) : apT P (.sl es .z) q x y n m K (some d) s = (isSl' q /\ (∀ e ∈ es, e.length = n) /\ (∀ e ∈ eV q, e.length = n) /\ (es.length + (eV q).length) * m <= 140737488355328 /\ K (s.put (some d) (.sl (es ++ eV q) (apO es (eV q) d n)))) := Eq.trans rfl rfl
theorem apO_n (es' : List (List PV)) (d n : Nat) : apO [] es' d n = .r d n := by cases es' <;> rfl
theorem apO_c (es : List (List PV)) (e : List PV) (es' : List (List PV)) (d n : Nat) : apO es (e :: es') d n = .r d n := by cases es <;> rfl
theorem apO_s (e : List PV) (es : List (List PV)) (d n : Nat) : apO (e :: es) [] d n = .sh := rfl
def apH (p q : PV) (n m : Nat) : Prop := match p with
 | .sl es .z => isSl' q /\ (∀ e ∈ es, e.length = n) /\ (∀ e ∈ eV q, e.length = n) /\ (es.length + (eV q).length) * m <= 140737488355328
 | _ => False
theorem apH_z (es : List (List PV)) (q : PV) (n m : Nat) : apH (.sl es .z) q n m = (isSl' q /\ (∀ e ∈ es, e.length = n) /\ (∀ e ∈ eV q, e.length = n) /\ (es.length + (eV q).length) * m <= 140737488355328) := Eq.trans rfl rfl
theorem h_ap (x y : PO) (n m : Nat) : pHead P (⟨d, none, .ap x y n m⟩ :: l) K s = (apH (s.ev x) (s.ev y) n m /\ pHead P l K (s.put d (.sl (eV (s.ev x) ++ eV (s.ev y)) (.n n)))) := by
 show PK.q P s (.ap x y n m) (fun p => p.own = none /\ pHead P l K (s.put d p)) = _
 simp only [PK.q, apH, qSl_iff]
 cases h : s.ev x <;> try simp
 rename_i es o
 cases o <;> simp [eV, PV.own, and_assoc]
theorem strip_v (x : Value) : PV.strip (.v x) = .v x := Eq.trans rfl rfl
theorem strip_agg (cs : List PV) : PV.strip (.agg cs) = .agg cs := Eq.trans rfl rfl
theorem strip_tup (cs : List PV) : PV.strip (.tup cs) = .tup cs := Eq.trans rfl rfl
theorem strip_sh (es : List (List PV)) : PV.strip (.sl es .sh) = .sl es .sh := Eq.trans rfl rfl
theorem strip_z (es : List (List PV)) : PV.strip (.sl es .z) = .sl es .z := Eq.trans rfl rfl
theorem strip_r (es : List (List PV)) (n m : Nat) : PV.strip (.sl es (.r n m)) = .sl es .sh := Eq.trans rfl rfl
theorem strip_p (es : List (List PV)) (m : Nat) : PV.strip (.sl es (.p m)) = .sl es .sh := Eq.trans rfl rfl
theorem strip_n (es : List (List PV)) (m : Nat) : PV.strip (.sl es (.n m)) = .sl es .sh := Eq.trans rfl rfl
theorem strip_bx (i o : Nat) : PV.strip (.bx i o) = .bx i o := Eq.trans rfl rfl
theorem strip_cp (cs : List PV) (o : Nat) : PV.strip (.cp cs o) = .cp cs o := Eq.trans rfl rfl
theorem strip_fn (f : Fn) (x y : List PV) : PV.strip (.fn f x y) = .fn f x y := Eq.trans rfl rfl
theorem strip_ifc (t : TypeId) (x : PV) : PV.strip (.ifc t x) = .ifc t x := Eq.trans rfl rfl
theorem sh_v (x : Value) : PV.sh (.v x) = .v x := Eq.trans rfl rfl
theorem sh_agg (cs : List PV) : PV.sh (.agg cs) = .agg cs := Eq.trans rfl rfl
theorem sh_tup (cs : List PV) : PV.sh (.tup cs) = .tup cs := Eq.trans rfl rfl
theorem sh_sl (es : List (List PV)) (o : Ow) : PV.sh (.sl es o) = .sl es .sh := Eq.trans rfl rfl
theorem sh_bx (i o : Nat) : PV.sh (.bx i o) = .bx i o := Eq.trans rfl rfl
theorem sh_cp (cs : List PV) (o : Nat) : PV.sh (.cp cs o) = .cp cs o := Eq.trans rfl rfl
theorem sh_fn (f : Fn) (x y : List PV) : PV.sh (.fn f x y) = .fn f x y := Eq.trans rfl rfl
theorem sh_ifc (t : TypeId) (x : PV) : PV.sh (.ifc t x) = .ifc t x := Eq.trans rfl rfl
theorem own_v (x : Value) : PV.own (.v x) = none := Eq.trans rfl rfl
theorem own_agg (cs : List PV) : PV.own (.agg cs) = none := Eq.trans rfl rfl
theorem own_tup (cs : List PV) : PV.own (.tup cs) = none := Eq.trans rfl rfl
theorem own_sh (es : List (List PV)) : PV.own (.sl es .sh) = none := Eq.trans rfl rfl
theorem own_z (es : List (List PV)) : PV.own (.sl es .z) = none := Eq.trans rfl rfl
theorem own_p (es : List (List PV)) (m : Nat) : PV.own (.sl es (.p m)) = none := Eq.trans rfl rfl
theorem own_n (es : List (List PV)) (m : Nat) : PV.own (.sl es (.n m)) = none := Eq.trans rfl rfl
theorem own_bx (i o : Nat) : PV.own (.bx i o) = none := Eq.trans rfl rfl
theorem own_cp (cs : List PV) (o : Nat) : PV.own (.cp cs o) = none := Eq.trans rfl rfl
theorem own_fn (f : Fn) (x y : List PV) : PV.own (.fn f x y) = none := Eq.trans rfl rfl
theorem own_ifc (t : TypeId) (x : PV) : PV.own (.ifc t x) = none := Eq.trans rfl rfl
theorem down_v (n : Nat) (x : Value) : PV.down n (.v x) = .v x := Eq.trans rfl rfl
theorem down_agg (n : Nat) (cs : List PV) : PV.down n (.agg cs) = .agg cs := Eq.trans rfl rfl
theorem down_tup (n : Nat) (cs : List PV) : PV.down n (.tup cs) = .tup cs := Eq.trans rfl rfl
theorem down_sh (n : Nat) (es : List (List PV)) : PV.down n (.sl es .sh) = .sl es .sh := Eq.trans rfl rfl
theorem down_z (n : Nat) (es : List (List PV)) : PV.down n (.sl es .z) = .sl es .z := Eq.trans rfl rfl
theorem down_p (n m : Nat) (es : List (List PV)) : PV.down n (.sl es (.p m)) = .sl es (.p m) := Eq.trans rfl rfl
theorem down_n (n m : Nat) (es : List (List PV)) : PV.down n (.sl es (.n m)) = .sl es (.n m) := Eq.trans rfl rfl
theorem down_r (n m k : Nat) (es : List (List PV)) : PV.down n (.sl es (.r m k)) = if m = n then .sl es .sh else .sl es (.r m k) := Eq.trans rfl rfl
theorem down_bx (n i o : Nat) : PV.down n (.bx i o) = .bx i o := Eq.trans rfl rfl
theorem down_cp (n : Nat) (cs : List PV) (o : Nat) : PV.down n (.cp cs o) = .cp cs o := Eq.trans rfl rfl
theorem down_fn (n : Nat) (f : Fn) (x y : List PV) : PV.down n (.fn f x y) = .fn f x y := Eq.trans rfl rfl
theorem down_ifc (n : Nat) (t : TypeId) (x : PV) : PV.down n (.ifc t x) = .ifc t x := Eq.trans rfl rfl
theorem down_und (n : Nat) : PV.down n .und = .und := Eq.trans rfl rfl
theorem clean_mk : PS.clean ⟨t, b⟩ = ⟨t.map fun y => (y.1, y.2.clean), b⟩ := Eq.trans rfl rfl
theorem clean_v (x : Value) : PV.clean (.v x) = .v x := Eq.trans rfl rfl
theorem pre_v (j : Nat) (x : Value) : PV.pre j (.v x) = .v x := Eq.trans rfl rfl
theorem clean_agg (cs : List PV) : PV.clean (.agg cs) = .agg cs := Eq.trans rfl rfl
theorem pre_agg (j : Nat) (cs : List PV) : PV.pre j (.agg cs) = .agg cs := Eq.trans rfl rfl
theorem clean_tup (cs : List PV) : PV.clean (.tup cs) = .tup cs := Eq.trans rfl rfl
theorem pre_tup (j : Nat) (cs : List PV) : PV.pre j (.tup cs) = .tup cs := Eq.trans rfl rfl
theorem clean_sh (es : List (List PV)) : PV.clean (.sl es .sh) = .sl es .sh := Eq.trans rfl rfl
theorem pre_sh (j : Nat) (es : List (List PV)) : PV.pre j (.sl es .sh) = .sl es .sh := Eq.trans rfl rfl
theorem clean_z (es : List (List PV)) : PV.clean (.sl es .z) = .sl es .z := Eq.trans rfl rfl
theorem pre_z (j : Nat) (es : List (List PV)) : PV.pre j (.sl es .z) = .sl es .z := Eq.trans rfl rfl
theorem clean_bx (i o : Nat) : PV.clean (.bx i o) = .bx i o := Eq.trans rfl rfl
theorem pre_bx (j : Nat) (i o : Nat) : PV.pre j (.bx i o) = .bx i o := Eq.trans rfl rfl
theorem clean_cp (cs : List PV) (o : Nat) : PV.clean (.cp cs o) = .cp cs o := Eq.trans rfl rfl
theorem pre_cp (j : Nat) (cs : List PV) (o : Nat) : PV.pre j (.cp cs o) = .cp cs o := Eq.trans rfl rfl
theorem clean_fn (f : Fn) (x y : List PV) : PV.clean (.fn f x y) = .fn f x y := Eq.trans rfl rfl
theorem pre_fn (j : Nat) (f : Fn) (x y : List PV) : PV.pre j (.fn f x y) = .fn f x y := Eq.trans rfl rfl
theorem clean_ifc (t : TypeId) (x : PV) : PV.clean (.ifc t x) = .ifc t x := Eq.trans rfl rfl
theorem pre_ifc (j : Nat) (t : TypeId) (x : PV) : PV.pre j (.ifc t x) = .ifc t x := Eq.trans rfl rfl
theorem clean_und  : PV.clean (.und) = .und := Eq.trans rfl rfl
theorem pre_und (j : Nat)  : PV.pre j (.und) = .und := Eq.trans rfl rfl
theorem clean_r (es : List (List PV)) (n m : Nat) : PV.clean (.sl es (.r n m)) = .sl es (.r n m) := Eq.trans rfl rfl
theorem clean_n (es : List (List PV)) (m : Nat) : PV.clean (.sl es (.n m)) = .sl es .sh := Eq.trans rfl rfl
theorem clean_p (es : List (List PV)) (m : Nat) : PV.clean (.sl es (.p m)) = .sl es .sh := Eq.trans rfl rfl
theorem pre_r (j : Nat) (es : List (List PV)) (n m : Nat) : PV.pre j (.sl es (.r n m)) = .sl es (.p j) := Eq.trans rfl rfl
theorem pre_n (j : Nat) (es : List (List PV)) (m : Nat) : PV.pre j (.sl es (.n m)) = .sl es .sh := Eq.trans rfl rfl
theorem pre_p (j : Nat) (es : List (List PV)) (m : Nat) : PV.pre j (.sl es (.p m)) = .sl es .sh := Eq.trans rfl rfl
theorem scO_none (es : List (List PV)) (i : Nat) : scO none (.sl es (.p i)) = .p i := Eq.trans rfl rfl
theorem scO_some (y : PO) (p : PV) : scO (some y) p = .sh := Eq.trans rfl rfl
theorem scO_sh (es : List (List PV)) : scO none (.sl es .sh) = .sh := Eq.trans rfl rfl
theorem scO_z (es : List (List PV)) : scO none (.sl es .z) = .sh := Eq.trans rfl rfl
theorem scO_r (es : List (List PV)) (n m : Nat) : scO none (.sl es (.r n m)) = .sh := Eq.trans rfl rfl
theorem scO_n (es : List (List PV)) (m : Nat) : scO none (.sl es (.n m)) = .sh := Eq.trans rfl rfl
theorem isD_v (x : Value) : PV.isD (.v x) = true := Eq.trans rfl rfl
theorem isD_agg (cs : List PV) : PV.isD (.agg cs) = true := Eq.trans rfl rfl
theorem isD_tup (cs : List PV) : PV.isD (.tup cs) = true := Eq.trans rfl rfl
theorem isD_sl (es : List (List PV)) (o : Ow) : PV.isD (.sl es o) = true := Eq.trans rfl rfl
theorem isD_cp (cs : List PV) (o : Nat) : PV.isD (.cp cs o) = true := Eq.trans rfl rfl
theorem isD_ifc (t : TypeId) (x : PV) : PV.isD (.ifc t x) = true := Eq.trans rfl rfl
theorem allD_nil : allD [] = true := Eq.trans rfl rfl
theorem allD_cons (p : PV) (l : List PV) : allD (p :: l) = (p.isD && allD l) := Eq.trans rfl rfl
end
section
variable {nb : Nat}
theorem sub_und (p : PV) : SubP nb p .und ↔ True := ⟨fun _ => trivial, fun _ => .und p⟩
theorem sub_v (x y : Value) : SubP nb (.v x) (.v y) ↔ x = y := ⟨fun h => by cases h <;> rfl, fun h => by subst h; exact .eq _ rfl⟩
theorem sub_agg (x y : List PV) : SubP nb (.agg x) (.agg y) ↔ x = y := ⟨fun h => by cases h <;> rfl, fun h => by subst h; exact .eq _ rfl⟩
theorem sub_tup (x y : List PV) : SubP nb (.tup x) (.tup y) ↔ x = y := ⟨fun h => by cases h <;> rfl, fun h => by subst h; exact .eq _ rfl⟩
theorem sub_ifc (t t' : TypeId) (x y : PV) : SubP nb (.ifc t x) (.ifc t' y) ↔ t = t' /\ x = y := ⟨fun h => by cases h <;> exact ⟨rfl, rfl⟩, fun ⟨h, h'⟩ => by subst h; subst h'; exact .eq _ rfl⟩
theorem sub_cp (x y : List PV) (i j : Nat) : SubP nb (.cp x i) (.cp y j) ↔ x = y /\ i = j := ⟨fun h => by cases h <;> exact ⟨rfl, rfl⟩, fun ⟨h, h'⟩ => by subst h; subst h'; exact .eq _ rfl⟩
theorem sub_bx (i j o o' : Nat) : SubP nb (.bx i o) (.bx j o') ↔ (i = j /\ o = o') /\ i < nb := ⟨fun h => by cases h <;> (rename_i h; exact ⟨⟨rfl, rfl⟩, by simpa [lowB] using h⟩), fun ⟨⟨h, h'⟩, h2⟩ => by subst h; subst h'; exact .eq _ (by simpa [lowB] using h2)⟩
theorem sub_fn (f f' : Fn) (x y x' y' : List PV) : SubP nb (.fn f x y) (.fn f' x' y') ↔ (f = f' /\ x = x' /\ y = y') /\ (x.all (low1 nb) && y.all (low1 nb)) = true :=
 ⟨fun h => by cases h <;> (rename_i h; exact ⟨⟨rfl, rfl, rfl⟩, h⟩), fun ⟨⟨h, h', h3⟩, h2⟩ => by subst h; subst h'; subst h3; exact .eq _ h2⟩
theorem sub_sh (x y : List (List PV)) (o : Ow) : SubP nb (.sl x o) (.sl y .sh) ↔ x = y := ⟨fun h => by cases h <;> rfl, fun h => by subst h; exact .sh (.sl x o) rfl⟩
theorem sub_z (x y : List (List PV)) : SubP nb (.sl x .z) (.sl y .z) ↔ x = y := ⟨fun h => by cases h <;> rfl, fun h => by subst h; exact .eq _ rfl⟩
theorem sub_r (x y : List (List PV)) (n m n' m' : Nat) : SubP nb (.sl x (.r n m)) (.sl y (.r n' m')) ↔ x = y /\ n = n' /\ m = m' := ⟨fun h => by cases h <;> exact ⟨rfl, rfl, rfl⟩, fun ⟨h, h', h2⟩ => by subst h; subst h'; subst h2; exact .eq _ rfl⟩
theorem sub_zr (x y : List (List PV)) (n m : Nat) : SubP nb (.sl x .z) (.sl y (.r n m)) ↔ x = [] /\ y = [] := ⟨fun h => by cases h; exact ⟨rfl, rfl⟩, fun ⟨h, h'⟩ => by subst h; subst h'; exact .nil _ _⟩
theorem subS_def (t t' : List (Nat × PV)) (b b' : List (List PV)) : SubS ⟨t, b⟩ ⟨t', b'⟩ ↔ SubT b'.length t t' /\ SubB b'.length b b' := Iff.rfl
theorem subT_nil' (t : List (Nat × PV)) : SubT nb t [] ↔ True := Iff.rfl
theorem subT_cons' (t r : List (Nat × PV)) (i : Nat) (q : PV) : SubT nb t ((i, q) :: r) ↔ SubP nb (lkp t i) q /\ SubT nb t r := Iff.rfl
theorem subB_nil' (l : List (List PV)) : SubB nb l [] ↔ True := ⟨fun _ => trivial, fun _ => .nil l⟩
def SubC (nb : Nat) : List PV -> List PV -> Prop
 | [], [] => True
 | p :: l, q :: r => SubP nb p q /\ SubC nb l r
 | _, _ => False
theorem SubC.get : ∀ {l r : List PV}, SubC nb l r -> l.length = r.length /\ ∀ (j : Nat) p q, l[j]? = some p -> r[j]? = some q -> SubP nb p q
 | [], [], _ => ⟨rfl, fun j p q h => by simp at h⟩
 | p :: l, q :: r, h => by
   obtain ⟨h1, h2⟩ := SubC.get h.2
   refine ⟨by simp [h1], fun j p' q' hp hq => ?_⟩
   cases j with
   | zero => simp at hp hq; subst hp; subst hq; exact h.1
   | succ j => exact h2 j p' q' (by simpa using hp) (by simpa using hq)
 | [], _ :: _, h => h.elim
 | _ :: _, [], h => h.elim
theorem subB_cons' (cs cs' : List PV) (l l' : List (List PV)) (h : SubC nb cs cs' /\ SubB nb l l') : SubB nb (cs :: l) (cs' :: l') := .cons _ _ _ _ h.1.get.1 h.1.get.2 h.2
theorem subC_get : ∀ (l r : List PV), l.length = r.length -> (∀ (j : Nat) p q, l[j]? = some p -> r[j]? = some q -> SubP nb p q) -> SubC nb l r
 | [], [], _, _ => trivial
 | p :: l, q :: r, h, hc => ⟨hc 0 p q rfl rfl, subC_get l r (by simpa using h) fun j p q h1 h2 => hc (j + 1) p q (by simpa using h1) (by simpa using h2)⟩
 | [], _ :: _, h, _ => by simp at h
 | _ :: _, [], h, _ => by simp at h
theorem subB_cons_iff (cs cs' : List PV) (l l' : List (List PV)) : SubB nb (cs :: l) (cs' :: l') ↔ SubC nb cs cs' /\ SubB nb l l' := ⟨fun h => by cases h with | cons _ _ _ _ h hc hl => exact ⟨subC_get _ _ h hc, hl⟩, subB_cons' cs cs' l l'⟩
theorem subC_nil : SubC nb [] [] ↔ True := Iff.rfl
theorem subC_cons (p q : PV) (l r : List PV) : SubC nb (p :: l) (q :: r) ↔ SubP nb p q /\ SubC nb l r := Iff.rfl
end
def ivc (s : Iv) : List PV := [.v (.int .u64 s.lo), .v (.int .u64 s.hi)]
def ivp (s : Iv) : PV := .agg (ivc s)
def natc (x : Nat) : List PV := [.v (.int .u64 x)]
def rg (l : List Iv) : PV := .sl (l.map ivc) .sh
def rgs (ls : List (List Iv)) : PV := .sl (ls.map fun l => [rg l]) .sh
theorem wrap_u (n : Int) : IntKind.u64.wrap n = n % 18446744073709551616 := by
 simp only [IntKind.wrap, IntKind.bits, IntKind.signed, Bool.false_and, Bool.false_eq_true, if_false]
 rfl
theorem nat_succ (k : Nat) : (k : Int) + 1 = ((k + 1 : Nat) : Int) := Eq.trans rfl rfl
theorem pLoop.mk {body : (PX -> PS -> Prop) -> PS -> Prop} {Q : PX -> PS -> Prop} {s : PS} {ι : Type} (J : ι -> Prop) (S : ι -> PS) (m : ι -> Nat) (i0 : ι) (h0 : J i0) (hs : SubS s (S i0)) (hr : ∀ i, J i -> body (thenX (fun s' => ∃ j, J j /\ m j < m i /\ SubS s' (S j)) Q) (S i)) : pLoop body Q s :=
 ⟨ι, J, S, m, i0, h0, hs, hr⟩
theorem rng_ok {n : Int} (h : -9223372036854775808 <= n /\ n < 9223372036854775808) : rng .i64 n = True := by simp [rng, h]
theorem map_at {α : Type} {f : α -> List PV} {l : List α} {k : Nat} (h : k < l.length) : (l.map f)[k]? = some (f l[k]) := by rw [List.getElem?_map, List.getElem?_eq_getElem h]; rfl
theorem nat_pred {k : Nat} (h : 1 <= k) : (k : Int) - 1 = ((k - 1 : Nat) : Int) := by omega
theorem nat_sub {a b : Nat} (h : b <= a) : (a : Int) - (b : Int) = ((a - b : Nat) : Int) := by omega
theorem nat_add (a b : Nat) : (a : Int) + (b : Int) = ((a + b : Nat) : Int) := by omega
theorem mod_small {n : Int} (h : 0 <= n /\ n < 18446744073709551616) : n % 18446744073709551616 = n := Int.emod_eq_of_lt h.1 h.2
theorem shrI_1 {a : Int} (h : 0 <= a) : shrI .u64 a 1 = a / 2 := by
 unfold shrI
 rw [Int.fdiv_eq_ediv_of_nonneg _ (by decide)]
 rfl
theorem nat_half (a : Nat) : (a : Int) / 2 = ((a / 2 : Nat) : Int) := by omega
theorem forget_nil (s : PS) : forget [] s = s := rfl
theorem forget_cons (i : PI) (h : List PI) (s : PS) : forget (i :: h) s = forget h (s.put i.d .und) := rfl
theorem qSl_s (es : List (List PV)) (o : Ow) (K : List (List PV) -> Prop) : qSl (.sl es o) K = K es := rfl
theorem mtake {α β : Type} (f : α -> β) (n : Nat) (l : List α) : List.take n (l.map f) = (l.take n).map f := List.map_take.symm
theorem mdrop {α β : Type} (f : α -> β) (n : Nat) (l : List α) : List.drop n (l.map f) = (l.drop n).map f := List.map_drop.symm
theorem pLoop.go {P : Program} {nt : Nat} {fr : Prop} {pc : PC} {Q : PX -> PS -> Prop} {t : List (Nat × PV)} {b : List (List PV)} {ι : Type} (J : ι -> Prop) (T : ι -> List (Nat × PV)) (Bx : ι -> List (List PV)) (m : ι -> Nat) (i0 : ι) (W : List Nat) (h0 : J i0)
 (hs : SubS ⟨t, b⟩ ⟨T i0 ++ t.filter (fun y => !W.contains y.1), Bx i0⟩) (hr : ∀ i, J i -> pW P nt fr pc (thenX (fun s' => ∃ j, J j /\ m j < m i /\ SubS s' ⟨T j ++ t.filter (fun y => !W.contains y.1), Bx j⟩) Q) ⟨T i ++ t.filter (fun y => !W.contains y.1), Bx i⟩) : pLoop (pW P nt fr pc) Q ⟨t, b⟩ :=
 ⟨ι, J, fun i => ⟨T i ++ t.filter (fun y => !W.contains y.1), Bx i⟩, m, i0, h0, hs, hr⟩
theorem Dat.v_inv {D : Nat -> Nat -> Prop} {w : World} {x y : Value} (h : Dat D w x (.v y)) : x = y := (Rel.dat (ρ := fun _ => 0) (nb := 0) h).v_inv
theorem dat_rdr {D : Nat -> Nat -> Prop} {w : World} {v : Value} {l : List Iv} (h : Dat D w v (rg l)) (hD : ∀ b o, D b o -> b < w.heap.size) (hb : ∀ s ∈ l, s.lo < M64 /\ s.hi < M64) : RdR 0 w.heap.size w v l := by
 unfold rg at h
 generalize he : l.map ivc = es at h
 cases h with
 | sl a cap sz es o b off u hc hz hm ha hsz hd hx =>
   have hl : es.length = l.length := by rw [<- he]; simp
   refine ⟨a, cap, by rw [hl], by omega, hm, fun hne => ?_⟩
   have hpos : 0 < l.length := List.length_pos_iff.2 hne
   have g : ∀ i (h : i < l.length), es[i]? = some (ivc l[i]) := fun i h => by rw [<- he]; exact map_at h
   obtain rfl : 2 = sz := hsz 0 _ (g 0 hpos)
   have hes : es ≠ [] := by intro e; subst e; simp at hl; omega
   have hdlt : b < w.heap.size := hD _ _ (hd 0 (by omega)).1
   refine ⟨b, off, ha hes, Nat.zero_le _, hdlt, fun i hi => ?_⟩
   have e0 := (hx i _ 0 _ (g i hi) rfl).v_inv
   have e1 := (hx i _ 1 _ (g i hi) rfl).v_inv
   have c0 := (hd (i * 2 + 0) (by omega)).2.1
   have c1 := (hd (i * 2 + 1) (by omega)).2.1
   rw [e0] at c0
   rw [e1] at c1
   exact ⟨c0, c1, hb _ (List.getElem_mem _)⟩
theorem rdr_dat {D : Nat -> Nat -> Prop} {lo hi : Nat} {w : World} {v : Value} {l : List Iv} (h : RdR lo hi w v l) (hD : ∀ b o, lo <= b -> b < hi -> D b o) : Dat D w v (rg l) := by
 obtain ⟨a, cap, rfl, h1, h2, h3⟩ := h
 unfold rg
 rw [show l.length = (l.map ivc).length by simp]
 by_cases hne : l = []
 ·subst hne
  exact .sl a cap 2 [] .sh 0 0 (fun _ => undef) (by simp) (fun h => by cases h) h2 (fun h => absurd rfl h) (fun i e h => by simp at h) (fun j h => by simp at h) (fun i e j p h => by simp at h)
 obtain ⟨b, off, rfl, hb1, hb2, hc⟩ := h3 hne
 refine .sl _ cap 2 _ .sh b off (fun j => (flat l).getD j undef) (by simpa using h1) (fun h => by cases h) h2 (fun _ => rfl) (fun i e h => ?_) (fun j hj => ?_) (fun i e j p he hp => ?_)
 ·simp only [List.getElem?_map, Option.map_eq_some_iff] at h
  obtain ⟨s, _, rfl⟩ := h
  rfl
 ·simp only [List.length_map] at hj
  obtain ⟨i, r, rfl, hr⟩ : ∃ i r, j = i * 2 + r /\ r < 2 := ⟨j / 2, j % 2, by omega, by omega⟩
  have hi : i < l.length := by omega
  obtain ⟨c0, c1, _, _⟩ := hc i hi
  obtain ⟨f0, f1⟩ := flat_get l i hi
  refine ⟨hD _ _ hb1 hb2, ?_⟩
  obtain rfl | rfl : r = 0 \/ r = 1 := by omega
  ·rw [List.getD_eq_getElem?_getD, Nat.add_zero, f0]
   exact ⟨c0, by simp [Value.oneCell']⟩
  ·rw [List.getD_eq_getElem?_getD, f1]
   exact ⟨c1, by simp [Value.oneCell']⟩
 ·have hi : i < l.length := by have := (List.getElem?_eq_some_iff.1 he).1; simpa using this
  rw [map_at hi] at he
  cases he
  obtain ⟨f0, f1⟩ := flat_get l i hi
  match j, hp with
  | 0, hp => cases hp; simp only [List.getD_eq_getElem?_getD, Nat.add_zero, f0]; exact .v _
  | 1, hp => cases hp; simp only [List.getD_eq_getElem?_getD, f1]; exact .v _
  | j + 2, hp => simp [ivc] at hp
theorem Nrm.lt {l : List Iv} (h : Nrm l) : ∀ s ∈ l, s.lo < M64 /\ s.hi < M64 := fun s hs => by
 have := NF.lo_ge h s hs; omega
theorem cn_mem {f : FuncId} {ps : List PV} {r : PV} (hr : r.own = none) (hent : ∀ args w, (callFunc f args).run Tryz.prog w = .ok (.enter f args) w)
 (h : ∀ (D : Nat -> Nat -> Prop) (w : World) (vs : Array Value), (∀ b o, D b o -> b < w.heap.size) -> vs.size = ps.length -> (∀ (i : Nat) p, ps[i]? = some p -> Dat D w (vs.getD i undef) p) ->
   Calls Tryz.prog f vs w fun e w' => ∃ v, e = .returned v /\ Below w.heap.size w w' /\ Dat (fun b o => D b o \/ (w.heap.size <= b /\ b < w'.heap.size)) w' v r) : Cn Tryz.prog f ps r := by
 refine ⟨hent, fun D w vs _ hD hsz hd => (h D w vs hD hsz hd).mono ?_⟩
 rintro e w' ⟨v, rfl, hb, hv⟩
 exact ⟨v, _, rfl, hb, fun b o h => .inl h, fun b o h => h.imp id And.left, fun b o h => h.elim (fun h => Nat.lt_of_lt_of_le (hD b o h) hb.size) And.right, hv, ownOk_none hr⟩
theorem arr2 {vs : Array Value} (h : vs.size = 2) : vs = #[vs.getD 0 undef, vs.getD 1 undef] := by
 obtain ⟨l⟩ := vs
 match l, h with
 | [x, y], _ => rfl
theorem cn_set {f : FuncId} {a b r : List Iv} (ha : Nrm a) (hb : Nrm b) (hent : ∀ args w, (callFunc f args).run Tryz.prog w = .ok (.enter f args) w)
 (h : ∀ va vb w, RdR 0 w.heap.size w va a -> RdR 0 w.heap.size w vb b -> Calls Tryz.prog f #[va, vb] w fun e w' => ∃ v, e = .returned v /\ OwnR w.heap.size w' v r /\ Below w.heap.size w w') : Cn Tryz.prog f [rg a, rg b] (rg r) := by
 refine cn_mem rfl hent fun D w vs hD hsz hd => ?_
 rw [arr2 hsz]
 refine (h _ _ w (dat_rdr (hd 0 _ rfl) hD ha.lt) (dat_rdr (hd 1 _ rfl) hD hb.lt)).mono ?_
 rintro e w' ⟨v, rfl, hv, hbl⟩
 exact ⟨v, rfl, hbl, rdr_dat hv.rd fun b o h1 h2 => .inr ⟨h1, h2⟩⟩
theorem union_c (a b : List Iv) (ha : Nrm a) (hb : Nrm b) (hl : a.length + b.length <= 1073741824) : Cn Tryz.prog 67 [rg a, rg b] (rg (opS fUnion a b)) :=
 cn_set ha hb (enters_of Tryz.func67 (by kernel_rfl) rfl) fun va vb w ra rb => union_calls a b va vb w ha hb ra rb hl
theorem not_c (a : List Iv) (s : Iv) (ha : Nrm a) (hs : s.lo <= s.hi) (hs' : s.hi < M64) (hl : a.length <= 1073741823) : Cn Tryz.prog 136 [rg a, ivp s] (rg (opS fMinus [s] a)) := by
 refine cn_mem rfl (enters_of Tryz.func136 (by kernel_rfl) rfl) fun D w vs hD hsz hd => ?_
 rw [arr2 hsz]
 have h1 : vs.getD 1 undef = .agg #[.int .u64 s.lo, .int .u64 s.hi] := by
  have := hd 1 _ rfl
  unfold ivp at this
  generalize vs.getD 1 undef = v1 at this ⊢
  generalize hc : ivc s = cs at this
  cases this with
  | agg us cs hs _ h =>
    subst hc
    obtain ⟨l⟩ := us
    match l, hs with
    | [x, y], _ =>
      have e0 := (h 0 _ rfl).v_inv
      have e1 := (h 1 _ rfl).v_inv
      simp at e0 e1
      rw [e0, e1]
 rw [h1]
 refine (not_calls a _ s w ha hs hs' (dat_rdr (hd 0 _ rfl) hD ha.lt) hl).mono ?_
 rintro e w' ⟨v, rfl, hv, hbl⟩
 exact ⟨v, rfl, hbl, rdr_dat hv.rd fun b o h1 h2 => .inr ⟨h1, h2⟩⟩
attribute [go_sem] put_some put_none get_mk ev_t ev_c ev_f lkp_cons lkp_nil down_mk pW_sk pW_rg pW_dr pW_sq pW_bk pW_ex pW_rt pW_lp pList_nil pHead_nil pTail_nil pTail_st
attribute [go_sem] pTail_al pTail_bo thenX_n thenX_x thenX_r blockX_n blockX_r blockX_x postF_n postF_r postF_x forget_nil forget_cons qSl_s mtake mdrop flatE PV.v.injEq
attribute [go_sem] exists_eq' exists_eq ne_eq not_false_eq_true not_true_eq_false List.append_eq_nil_iff List.cons_ne_nil postO_n postO_r postOV_r ret_one ret_c ret_m
attribute [go_sem] ret1_s retM_s rvs_nil rvs_cons rvC_s rvg_t rvg_c rvA_b rvB_t rvB_f PV.resD List.all_cons List.all_nil pTail_ap keepL_nil keepL_cons simple1_v simple1_r
attribute [go_sem] own_r pApT_n pApT_p pApT_r pApT_z pCut_r bCt_some bCt_none isBl_v bV_v isInt_v iK_v iV_v isSl_s eV_s binC_v binV_v rng_u faC_b faC_c faV_b faV_c atC_t
attribute [go_sem] atC_f atV_t atV_f ldC_c ldC_b ldF_c ldF_b ldW_c ldW_b ldV_c ldV_b cellsC_agg cellsC_i cellsC_b cellsC_nil cellsC_s cellsC_bx cellsC_fn cellsC_ifc
attribute [go_sem] cellsV_agg cellsV_v cellsV_s cellsV_bx cellsV_fn cellsV_ifc evs_nil evs_cons pW_cd brP_t brP_f gdP_tt gdP_ff gdP_tf gdP_ft gdP_u pkP_t pkP_f eqC_v eqB_v
attribute [go_sem] l_eq2 h_eq2 l_nil h_nil l_nc h_nc l_mm h_mm l_aa h_aa l_ix h_ix l_fl h_fl l_mf h_mf l_mi h_mi l_cl h_cl clP_f nlC_n nlC_i nlB_n nlB_i agC_a agV_a
attribute [go_sem] mfC_nil mfC_cons isB_v isB_sl isB_agg isB_bx isB_cp isB_fn isB_ifc isD_bx isD_fn rng_ok map_at nat_pred nat_sub nat_add mod_small Int.cast_ofNat_Int
attribute [go_sem] Int.natCast_eq_zero List.length_eq_zero_iff decide_true decide_false List.filter_cons List.filter_nil List.contains_cons List.contains_nil Bool.or_false
attribute [go_sem] Bool.false_or Bool.or_true Bool.true_or Bool.and_false Bool.false_and List.any_cons List.any_nil List.mem_map forall_exists_index and_imp
attribute [go_sem] forall_apply_eq_imp_iff₂ List.mem_append List.mem_cons List.not_mem_nil List.mem_singleton or_false or_imp forall_and forall_eq_or_imp bne_self_eq_false
attribute [go_sem] Bool.bne_false Bool.bne_true Bool.false_bne Bool.true_bne beq_self_eq_true okG_b okG_u wq_b wq_u noS_b noS_u pList_some pHead_some l_bin h_bin l_beq
attribute [go_sem] h_beq l_not h_not l_cv h_cv l_fa h_fa l_ia h_ia h_ld l_ln h_ln l_bd h_bd l_bs h_bs l_ldt l_ldf l_mv_t l_mv_c l_mv_f h_mv_t h_mv_c h_mv_f l_pk h_pk l_sc
attribute [go_sem] h_sc bdC_n bdC_s bdV_n bdV_s l_exd h_exd tupC_t tpV_t l_al l_bo stC_b stB_b l_st l_ca caD_r caD_v caD_agg caD_sh caD_z caD_ifc caD_fn h_ca l_ap apT_r
attribute [go_sem] apT_z apO_n apO_c apO_s apH_z h_ap partsC partsV elemsC elemsV intOp intC spl keepOwn isT strip_v strip_agg strip_tup strip_sh strip_z strip_r strip_n
attribute [go_sem] strip_bx strip_cp strip_fn strip_ifc sh_v sh_agg sh_tup sh_sl sh_bx sh_cp sh_fn sh_ifc own_v own_agg own_tup own_sh own_z own_n own_bx own_cp own_fn
attribute [go_sem] own_ifc down_v down_agg down_tup down_sh down_z down_r down_n down_bx down_cp down_fn down_ifc down_und clean_mk clean_v clean_agg clean_tup clean_sh
attribute [go_sem] clean_z clean_bx clean_cp clean_fn clean_ifc clean_und pre_v pre_agg pre_tup pre_sh pre_z pre_bx pre_cp pre_fn pre_ifc pre_und clean_r clean_n clean_p
attribute [go_sem] pre_r pre_n pre_p scO_none scO_some scO_sh scO_z scO_r scO_n strip_p own_p down_p isD_v isD_agg isD_tup isD_sl isD_cp isD_ifc allD_nil allD_cons sub_und
attribute [go_sem] sub_v sub_agg sub_tup sub_ifc sub_cp sub_bx sub_fn sub_sh sub_z sub_r sub_zr subS_def subT_nil' subT_cons' subB_nil' subB_cons_iff subC_nil subC_cons
attribute [go_sem] Value.int.injEq Value.bool.injEq Int.toNat_natCast Int.natCast_nonneg nat_succ wrap_u Int.natCast_pos enumP Value.oneCell' ivp rg ivc natc rgs
attribute [go_sem] List.flatMap_nil List.length_cons List.length_nil List.map_cons List.map_nil List.nil_append List.cons_append List.append_nil List.getElem?_cons_zero
attribute [go_sem] List.getElem?_cons_succ List.getElem?_nil List.take_succ_cons List.take_zero List.drop_succ_cons List.drop_zero List.take_nil List.drop_nil
attribute [go_sem] List.set_cons_zero List.set_cons_succ List.length_map Option.map_some Option.some.injEq Option.isSome_some Option.getD_some decide_eq_true_eq
attribute [go_sem] Bool.and_eq_true Bool.or_eq_true true_and and_true false_and and_false forall_const true_implies false_implies implies_true Bool.true_eq_false
attribute [go_sem] Bool.false_eq_true Bool.not_true Bool.not_false Bool.and_true Bool.true_and Nat.zero_add Nat.add_zero Nat.le_refl Int.ofNat_le Int.ofNat_lt
attribute [go_sem] Int.ofNat_inj forall_eq
attribute [go_sem] shrI_1 nat_half mfB_nil mfB_cons fz_mk fz_v fz_agg fz_tup fz_sl fz_bx fz_cp fz_ifc fz_und fz_fn fz1_bx fz1_v fz1_cp
theorem and_t {a : Prop} (h : a := by first | omega | assumption | exact True.intro | (show anyD _ _ = true; exact rfl) | (simp only [List.length_map, List.length_append, List.length_cons, List.length_nil, List.length_take, List.length_drop]; omega)) : a := h
theorem nrm_l : (∀ {p : Prop} [Decidable p], (decide p = true) = p) /\ (∀ {p : Prop} {x : Decidable p}, decide p = false ↔ ¬p) /\ (∀ (a b : Bool), ((a && b) = true) = (a = true /\ b = true)) /\ (∀ (a b : Bool), ((a || b) = true) = (a = true \/ b = true)) /\ (∀ (b : Bool), ((!b) = true) = (b = false)) /\ (∀ (b : Bool), ((!b) = false) = (b = true)) /\ (∀ {x y : Bool}, (x && y) = false ↔ x = false \/ y = false) /\ (∀ {x y : Bool}, (x || y) = false ↔ x = false /\ y = false) /\ (∀ {a b : Nat}, ¬a < b ↔ b <= a) /\ (∀ {a b : Int}, ¬a < b ↔ b <= a) /\ (∀ {a b : Nat}, ¬a <= b ↔ b < a) /\ (∀ {a b : Int}, ¬a <= b ↔ b < a) /\ (∀ {n m : Nat}, (n : Int) < (m : Int) ↔ n < m) /\ (∀ {m n : Nat}, (m : Int) <= (n : Int) ↔ m <= n) /\ (∀ {m n : Nat}, (m : Int) = (n : Int) ↔ m = n) /\ (∀ (x : Bool), (x ^^ false) = x) /\ (∀ (x : Bool), (false ^^ x) = x) /\ (∀ (x : Bool), (true ^^ x) = !x) /\ (∀ (x : Bool), (x ^^ true) = !x) /\ ((!true) = false) /\ ((!false) = true) :=
 ⟨@decide_eq_true_eq, @decide_eq_false_iff_not, @Bool.and_eq_true, @Bool.or_eq_true, @Bool.not_eq_true', @Bool.not_eq_false', @Bool.and_eq_false_iff, @Bool.or_eq_false_iff, @Nat.not_lt, @Int.not_lt, @Nat.not_le, @Int.not_le, @Int.ofNat_lt, @Int.ofNat_le, @Int.ofNat_inj, @Bool.xor_false, @Bool.false_xor, @Bool.true_xor, @Bool.xor_true, Bool.not_true, Bool.not_false⟩
end Go.Proofs.YtjimggclhlnfbaaGreat
namespace Go.Proofs.YtjimggclhlnfbaaGreat
open Go.ChangeShapes Go.WideShapes Go.ChangeAt Go.RowKit Go.Deep
def Lies (w : World) : Nat -> Nat -> Prop := fun b _ => b < w.heap.size
def DatA (D : Nat -> Nat -> Prop) (w : World) : List Value -> List PV -> Prop
 | [], [] => True
 | v :: l, p :: ps => Dat D w v p /\ DatA D w l ps
 | _, _ => False
theorem datA_get {D : Nat -> Nat -> Prop} {w : World} : ∀ {l : List Value} {ps : List PV}, DatA D w l ps -> l.length = ps.length /\ ∀ (i : Nat) p, ps[i]? = some p -> Dat D w (l.getD i undef) p
 | [], [], _ => ⟨rfl, fun i p h => by simp at h⟩
 | v :: l, p :: ps, h => by
   obtain ⟨h1, h2⟩ := datA_get h.2
   refine ⟨by simp [h1], fun i q hq => ?_⟩
   cases i with
   | zero => cases hq; exact h.1
   | succ i => simpa using h2 i q (by simpa using hq)
 | [], _ :: _, h => h.elim
 | _ :: _, [], h => h.elim
theorem cn_true {f : FuncId} {ps : List PV} {l : List Value} {W : World} (h : Cn Tryz.prog f ps (.v (.bool true))) (hgl : GL (Lies W) W) (hd : DatA (Lies W) W l ps) : Calls Tryz.prog f l.toArray W fun e W' => e = .returned (.bool true) /\ Below W.heap.size W W' := by
 obtain ⟨h1, h2⟩ := datA_get hd
 refine (h.2 (Lies W) W l.toArray hgl (fun _ _ h => h) (by simpa using h1) (fun i p hp => by have := h2 i p hp; simpa [List.getD_eq_getElem?_getD] using this)).mono ?_
 rintro e W' ⟨v, D', rfl, hb, _, _, _, hv, _⟩
 rw [hv.v_inv]
 exact ⟨rfl, hb⟩
section
variable {H : Type} {enc : TypeId × Value -> H} {w : World} {base : Nat} {spare : Nat -> Bool} {held : Bool}
end
end Go.Proofs.YtjimggclhlnfbaaGreat
namespace Go.Proofs.YtjimggclhlnfbaaGreat
open Go.RowKit
theorem has3_c (s : Iv) (x : Nat) : Cn Tryz.prog 76 [ivp s, .v (.int .u64 x)] (.v (.bool (decide (s.lo <= x) && decide (x <= s.hi)))) := by
 refine cn_go Tryz.func76 [] 2 (by kernel_rfl) rfl (by simp [go_sem, seval]) ?_
 conv => arg 4; cbv
 conv => enter [5, 1]; cbv
 try simp (maxSteps := 2000000) (disch := omega) only [go_sem, seval]
 repeat ((with_reducible refine And.intro ?_ ?_); focus exact and_t)
 (first | refine .mk ?_ ?_ | refine .mkt ?_ ?_ | refine .mkf ?_ ?_) <;> intro h <;> (try simp only [nrm_l] at h) <;> (try simp (maxSteps := 2000000) (disch := omega) only [go_sem, seval]) <;> (repeat ((with_reducible refine And.intro ?_ ?_); focus exact and_t))
 ·simp [h]
 ·simp; omega
theorem mem_drop {l : List Iv} {k x : Nat} (h : k < l.length) : mem (l.drop k) x = ((decide (l[k].lo <= x) && decide (x <= l[k].hi)) || mem (l.drop (k + 1)) x) := by
 rw [List.drop_eq_getElem_cons h]; rfl
theorem has4_c (l : List Iv) (x : Nat) (hl : l.length <= 1152921504606846976) : Cn Tryz.prog 47 [rg l, .v (.int .u64 x)] (.v (.bool (mem l x))) := by
 refine cn_go Tryz.func47 [] 2 (by kernel_rfl) rfl (by simp [go_sem, seval]) ?_
 conv => arg 4; cbv
 conv => enter [5, 1]; cbv
 try simp (maxSteps := 2000000) (disch := omega) only [go_sem, seval]
 repeat ((with_reducible refine And.intro ?_ ?_); focus exact and_t)
 refine pLoop.go (fun k => k <= l.length /\ mem l x = mem (l.drop k) x) (fun k => [(5, .v (.int .i64 (k : Nat)))]) (fun _ => []) (fun k => l.length - k) 0 [5] ?_ ?_ ?_
 ·exact ⟨Nat.zero_le _, rfl⟩
 ·try simp (maxSteps := 2000000) (disch := omega) only [go_sem, seval]
  repeat ((with_reducible refine And.intro ?_ ?_); focus exact and_t)
 ·rintro k ⟨hk, hm⟩
  try simp (maxSteps := 2000000) (disch := omega) only [go_sem, seval]
  repeat ((with_reducible refine And.intro ?_ ?_); focus exact and_t)
  (first | refine .mk ?_ ?_ | refine .mkt ?_ ?_ | refine .mkf ?_ ?_) <;> intro h <;> (try simp only [nrm_l] at h) <;> (try simp (maxSteps := 2000000) (disch := omega) only [go_sem, seval]) <;> (repeat ((with_reducible refine And.intro ?_ ?_); focus exact and_t))
  ·refine callP.mk (has3_c l[k] x) rfl ?_
   try simp (maxSteps := 2000000) (disch := omega) only [go_sem, seval]
   repeat ((with_reducible refine And.intro ?_ ?_); focus exact and_t)
   have hd := mem_drop (x := x) h
   (first | refine .mk ?_ ?_ | refine .mkt ?_ ?_ | refine .mkf ?_ ?_) <;> intro e <;> (try simp only [nrm_l] at e) <;> (try simp (maxSteps := 2000000) (disch := omega) only [go_sem, seval]) <;> (repeat ((with_reducible refine And.intro ?_ ?_); focus exact and_t))
   ·rw [hm, hd, <- Bool.decide_and]; simp [e]
   ·refine ⟨k + 1, ⟨h, ?_⟩, by omega, rfl⟩
    rw [hm, hd, <- Bool.decide_and]; simp [e]; omega
  ·rw [hm, List.drop_of_length_le (by omega)]; rfl
theorem max_c : Cn Tryz.prog 58 [] (.v (.int .u64 18446744073709551615)) := by
 refine cn_go Tryz.func58 [] 0 (by kernel_rfl) rfl (by simp [go_sem, seval]) ?_
 conv => arg 4; cbv
 conv => enter [5, 1]; cbv
 try simp (maxSteps := 2000000) (disch := omega) only [go_sem, seval]
 repeat ((with_reducible refine And.intro ?_ ?_); focus exact and_t)
theorem rel3_c (s t : Iv) (h1 : s.lo < M64) (h2 : t.lo < M64) : Cn Tryz.prog 112 [ivp s, ivp t] (.v (.int .i64 (relate s t : Nat))) := by
 refine cn_go Tryz.func112 [] 2 (by kernel_rfl) rfl (by simp [go_sem, seval]) ?_
 conv => arg 4; cbv
 conv => enter [5, 1]; cbv
 try simp (maxSteps := 2000000) (disch := omega) only [go_sem, seval]
 repeat ((with_reducible refine And.intro ?_ ?_); focus exact and_t)
 have hM := M64_val
 unfold relate
 (first | refine .mk ?_ ?_ | refine .mkt ?_ ?_ | refine .mkf ?_ ?_) <;> intro h <;> (try simp only [nrm_l] at h) <;> (try simp (maxSteps := 2000000) (disch := omega) only [go_sem, seval]) <;> (repeat ((with_reducible refine And.intro ?_ ?_); focus exact and_t))
 ·(first | refine .mk ?_ ?_ | refine .mkt ?_ ?_ | refine .mkf ?_ ?_) <;> intro h' <;> (try simp only [nrm_l] at h') <;> (try simp (maxSteps := 2000000) (disch := omega) only [go_sem, seval]) <;> (repeat ((with_reducible refine And.intro ?_ ?_); focus exact and_t))
  ·rw [if_pos h, if_pos (by omega)]; rfl
  ·rw [if_pos h, if_neg (by omega)]; rfl
 ·(first | refine .mk ?_ ?_ | refine .mkt ?_ ?_ | refine .mkf ?_ ?_) <;> intro h' <;> (try simp only [nrm_l] at h') <;> (try simp (maxSteps := 2000000) (disch := omega) only [go_sem, seval]) <;> (repeat ((with_reducible refine And.intro ?_ ?_); focus exact and_t))
  ·(first | refine .mk ?_ ?_ | refine .mkt ?_ ?_ | refine .mkf ?_ ?_) <;> intro h3 <;> (try simp only [nrm_l] at h3) <;> (try simp (maxSteps := 2000000) (disch := omega) only [go_sem, seval]) <;> (repeat ((with_reducible refine And.intro ?_ ?_); focus exact and_t))
   ·rw [if_neg (by omega), if_pos h', if_pos (by omega)]; rfl
   ·rw [if_neg (by omega), if_pos h', if_neg (by omega)]; rfl
  ·rw [if_neg (by omega), if_neg (by omega)]; rfl
theorem take_c (a b : Bool) (op : Nat) (ho : op < 3) : Cn Tryz.prog 104 [.v (.bool a), .v (.bool b), .v (.int .i64 op)] (.v (.bool (opb op a b))) := by
 refine cn_go Tryz.func104 [] 3 (by kernel_rfl) rfl (by simp [go_sem, seval]) ?_
 conv => arg 4; cbv
 conv => enter [5, 1]; cbv
 obtain rfl | rfl | rfl : op = 0 \/ op = 1 \/ op = 2 := by omega
 all_goals (cases a <;> cases b <;> simp (maxSteps := 2000000) (disch := omega) only [go_sem, seval] <;> rfl)
theorem piece_c (l : List Nat) (k : Nat) (hk : k < l.length) (hl : l.length <= 1152921504606846976) (hs : ∀ h : k + 1 < l.length, 1 <= l[k + 1] /\ l[k + 1] < M64) : Cn Tryz.prog 35 [.sl (l.map fun x => [.v (.int .u64 (x : Nat))]) .sh, .v (.int .i64 k)] (ivp ⟨l[k], if h : k + 1 < l.length then l[k+1] - 1 else M64 - 1⟩) := by
 have hM := M64_val
 refine cn_go Tryz.func35 [] 2 (by kernel_rfl) rfl (by simp [go_sem, seval]) ?_
 conv => arg 4; cbv
 conv => enter [5, 1]; cbv
 try simp (maxSteps := 2000000) (disch := omega) only [go_sem, seval]
 repeat ((with_reducible refine And.intro ?_ ?_); focus exact and_t)
 (first | refine .mk ?_ ?_ | refine .mkt ?_ ?_ | refine .mkf ?_ ?_) <;> intro h <;> (try simp only [nrm_l] at h) <;> (try simp (maxSteps := 2000000) (disch := omega) only [go_sem, seval]) <;> (repeat ((with_reducible refine And.intro ?_ ?_); focus exact and_t))
 ·obtain ⟨h1, h2⟩ := hs h
  rw [dif_pos h]
  try simp (maxSteps := 2000000) (disch := omega) only [go_sem, seval]
  repeat ((with_reducible refine And.intro ?_ ?_); focus exact and_t)
 ·refine callQ.mk max_c rfl ?_
  rw [dif_neg (by omega)]
  try simp (maxSteps := 2000000) (disch := omega) only [go_sem, seval]
  repeat ((with_reducible refine And.intro ?_ ?_); focus exact and_t)
  rfl
theorem put_last {l : List Iv} (h : 0 < l.length) (s : Iv) : put l s = if l[l.length - 1].hi + 1 = s.lo then l.take (l.length - 1) ++ [⟨l[l.length - 1].lo, s.hi⟩] else l ++ [s] := by
 unfold put
 rw [List.getLast?_eq_getElem?, List.getElem?_eq_getElem (by omega), List.dropLast_eq_take]
theorem put_nil {l : List Iv} (h : l.length <= 0) (s : Iv) : put l s = l ++ [s] := by
 have : l = [] := List.eq_nil_of_length_eq_zero (by omega)
 subst this; rfl
theorem put_o (l : List Iv) (s : Iv) (hs : s.lo < M64) (hb : ∀ t ∈ l, t.lo < M64 /\ t.hi < s.lo) (hl : l.length < 1099511627776) : OCn Tryz.prog 105 (l.map ivc) 2 [ivp s] ((put l s).map ivc) := by
 refine ocn_go Tryz.func105 [] 2 4 (by kernel_rfl) (by kernel_rfl) rfl (by simp [go_sem, seval]) ?_
 conv => arg 4; cbv
 try simp (maxSteps := 2000000) (disch := omega) only [go_sem, seval]
 repeat ((with_reducible refine And.intro ?_ ?_); focus exact and_t)
 (first | refine .mk ?_ ?_ | refine .mkt ?_ ?_ | refine .mkf ?_ ?_) <;> intro h0 <;> (try simp only [nrm_l] at h0) <;> (try simp (maxSteps := 2000000) (disch := omega) only [go_sem, seval]) <;> (repeat ((with_reducible refine And.intro ?_ ?_); focus exact and_t))
 ·refine callQ.mk (rel3_c l[l.length - 1] s (hb _ (List.getElem_mem _)).1 hs) rfl ?_
  have h1 := (hb _ (List.getElem_mem (show l.length - 1 < l.length by omega))).2
  try simp (maxSteps := 2000000) (disch := omega) only [go_sem, seval]
  repeat ((with_reducible refine And.intro ?_ ?_); focus exact and_t)
  rw [put_last h0]
  unfold relate
  rw [if_pos h1]
  (first | refine .mk ?_ ?_ | refine .mkt ?_ ?_ | refine .mkf ?_ ?_) <;> intro h <;> (try simp only [nrm_l] at h) <;> (try simp (maxSteps := 2000000) (disch := omega) only [go_sem, seval]) <;> (repeat ((with_reducible refine And.intro ?_ ?_); focus exact and_t))
  ·rw [if_pos (by split at h <;> first | assumption | cases h)]
   simp [ivc]
  ·rw [if_neg (by split at h <;> first | assumption | exact absurd rfl h)]
   simp [ivc]
 ·rw [put_nil h0]
  simp [ivc]
end Go.Proofs.YtjimggclhlnfbaaGreat
