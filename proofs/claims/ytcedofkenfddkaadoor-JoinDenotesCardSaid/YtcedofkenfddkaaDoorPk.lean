/- The instructions of a walk without memory: their forms, how they are read off a program's operations, and what each asks and leaves. No condition. -/
import Derived.Test.YtcedofkenfddkaaDoorPw
namespace Go.Proofs.YtcedofkenfddkaaDoor
set_option linter.unusedVariables false
set_option linter.unusedSimpArgs false
open Go.RowKit

inductive PO where
  | t (i : Nat)
  | c (p : PV)
  | f (f : FuncId)
def PS.ev (s : PS) : PO → PV
  | .t i => s.get i
  | .c p => p
  | .f f => .fn (.func f) [] []
/-- The pure value of a constant of one cell. -/
def ofC : Value → PV
  | .slice none 0 0 => .sl [] .sh
  | v => .v v
/-- The pure value of a constant. -/
def ofV : Value → PV
  | .slice none 0 0 => .sl [] .z
  | .agg vs => if vs.toList.all (·.oneCell') then .agg (vs.toList.map ofC) else .v (.agg vs)
  | v => .v v
def po : Operand → Option PO
  | .tmp t => some (.t t)
  | .const v => some (.c (ofV v))
  | .func f => some (.f f)
  | .global _ => none

inductive PK where
  | mv (x : PO)
  | bin (op : BinOp) (x y : PO)
  | beq (neg : Bool) (x y : PO)
  | eq2 (neg : Bool) (x y : PO)
  | nil (neg : Bool) (x : PO)
  | not (x : PO)
  | cv (k : IntKind) (x : PO)
  | fa (x : PO) (off : Nat)
  | ia (x y : PO) (sz : Nat)
  | aa (x y : PO) (n sz : Nat)
  | ix (x y : PO) (n : Nat) (ag : Bool) (sz : Nat)
  | fl (x : PO) (off : Nat) (ag : Bool) (sz : Nat)
  | ld (x : PO) (ag : Bool) (sz : Nat)
  | nc (x : PO)
  | bd (zs : List PV) (ps : List (Nat × Nat × PO))
  | bs (sz : Nat) (ps : List PO)
  | ln (x : PO)
  | ex (x : PO) (i : Nat)
  | mf (f : Fn) (fs cs : List PO)
  | mi (t : TypeId) (x : PO)
  | pk (c x y : PO)
  | sc (x : PO) (lo hi : Option PO) (sz : Nat)
  | ap (x y : PO) (sz bytes : Nat)
  | mm (max : Bool) (x y : PO)
  | ca (f : FuncId) (xs : List PO)
  | cl (f : PO) (xs : List PO)
  | al (zs : List PV)
  | bo (x : PO)
  | st (x y : PO) (sz : Nat)

structure PI where
  d : Option Nat
  g : Option (Nat × Bool)
  k : PK

/-! ### Off the program's operations -/
def isAggD : TypeDesc → Bool
  | .struct _ => true
  | .array _ _ => true
  | _ => false
/-- Of a type: whether it is a struct or an array, and its cells. -/
def shp (P : Program) (t : TypeId) : Option (Bool × Nat) := (P.info? t).bind fun i => (P.underlying t).map fun d => (isAggD d, i.size)
def pos : List Operand → Option (List PO)
  | [] => some []
  | x :: r => (po x).bind fun y => (pos r).map fun l => y :: l
def poo : Option Operand → Option (Option PO)
  | none => some none
  | some x => (po x).map some
def partsS (P : Program) (fs : Array Field) : List (Nat × Operand) → Option (List (Nat × Nat × PO))
  | [] => some []
  | (i, x) :: r => (fs[i]?).bind fun f => (P.info? f.type).bind fun n => (po x).bind fun y => (partsS P fs r).map fun l => (f.offset, n.size, y) :: l
def partsA (sz : Nat) : List (Nat × Operand) → Option (List (Nat × Nat × PO))
  | [] => some []
  | (i, x) :: r => (po x).bind fun y => (partsA sz r).map fun l => (i * sz, sz, y) :: l
def zeroP (P : Program) (t : TypeId) : Option (List PV) := (P.info? t).bind fun i => i.zero.bind fun z => if z.cells.toList.all (·.oneCell') then some (z.cells.toList.map ofC) else none
def int2 (P : Program) (t : TypeId) : Bool := match P.underlying t with
  | some (.struct fs) => match fs.toList with
    | [f, f'] => (f.name != "_") && (f'.name != "_") && f.offset == 0 && f'.offset == 1 && (match P.underlying f.type, P.underlying f'.type with | some (.int _), some (.int _) => true | _, _ => false) && !P.stoodInHeld t && !P.eqGuardType P.depth t
    | _ => false
  | _ => false
def isNilC : Operand → Bool
  | .const .nilIface => true
  | _ => false
def opInt : BinOp → Bool
  | .add | .sub | .mul | .quo | .rem | .eql | .neq | .lss | .leq | .gtr | .geq | .shr => true
  | _ => false
def isIfc (P : Program) (t : TypeId) : Bool := match P.underlying t with
  | some (.interface _) => true
  | _ => false
def isBl (P : Program) (t : TypeId) : Bool := match P.underlying t with
  | some .bool => true
  | _ => false
def isIn (P : Program) (t : TypeId) : Bool := match P.underlying t with
  | some (.int _) => true
  | _ => false
def comp (P : Program) (o : Oper) : Option PK :=
  match o.op with
  | .move x => (po x).map .mv
  | .assign x => (po x).map .mv
  | .pick c a b => (po c).bind fun c => (po a).bind fun a => (po b).map fun b => .pk c a b
  | .alloc e => (zeroP P e).map .al
  | .box _ x => (po x).map .bo
  | .build t parts => (zeroP P t).bind fun zs => match P.underlying t with
    | some (.struct fs) => if fs.toList.all (fun f => (P.info? f.type).isSome) then (partsS P fs parts.toList).map fun ps => .bd zs ps else none
    | some (.array _ e) => (P.info? e).bind fun i => (partsA i.size parts.toList).map fun ps => .bd zs ps
    | _ => none
  | .buildSlice t n parts => match P.underlying t with
    | some (.slice e) => (P.info? e).bind fun i => (zeroP P e).bind fun zs => (pos (parts.toList.map (·.2))).bind fun ps =>
      if parts.toList.map (·.1) = List.range n ∧ n * i.size ≤ 16777216 ∧ n ≤ 16777216 then some (.bs i.size ps) else none
    | _ => none
  | .load t a => (shp P t).bind fun (ag, n) => if ag || n == 1 then (po a).map fun a => .ld a ag n else none
  | .store t a v => (shp P t).bind fun (_, n) => (po a).bind fun a => (po v).map fun v => .st a v n
  | .nilCheck x => (po x).map .nc
  | .binOp op t x y _ => (po x).bind fun x' => (po y).bind fun y' =>
    if (op == .eql || op == .neq) && isNilC y && isIfc P t then some (.nil (op == .neq) x')
    else if (op == .eql || op == .neq) && int2 P t then some (.eq2 (op == .neq) x' y')
    else if (op == .eql || op == .neq) && isBl P t then some (.beq (op == .neq) x' y')
    else if opInt op && isIn P t then some (.bin op x' y') else none
  | .unOp .not _ x => (po x).map .not
  | .convert s t x => match P.underlying s, P.underlying t with
    | some (.int _), some (.int k) => (po x).map (.cv k)
    | _, _ => none
  | .makeInterface t x => match P.underlying t with
    | some (.interface _) => none
    | some _ => (po x).map (.mi t)
    | none => none
  | .makeFunc f fs cs => (pos fs.toList).bind fun fs => (pos cs.toList).map fun cs => .mf f fs cs
  | .slice t x lo hi none => match P.underlying t with
    | some (.slice e) => (P.info? e).bind fun i => (po x).bind fun x => (poo lo).bind fun lo => (poo hi).map fun hi => .sc x lo hi i.size
    | _ => none
  | .fieldAddr t x f => match P.underlying t with
    | some (.struct fs) => (fs[f]?).bind fun fd => (P.info? fd.type).bind fun i => if i.size = 0 then none else (po x).map fun x => .fa x fd.offset
    | _ => none
  | .field t x f => match P.underlying t with
    | some (.struct fs) => (fs[f]?).bind fun fd => (shp P fd.type).bind fun (ag, n) => if ag || n == 1 then (po x).map fun x => .fl x fd.offset ag n else none
    | _ => none
  | .indexAddr t x y => match P.underlying t with
    | some (.slice e) => (P.info? e).bind fun i => (po x).bind fun x => (po y).map fun y => .ia x y i.size
    | some (.array n e) => (P.info? e).bind fun i => (po x).bind fun x => (po y).map fun y => .aa x y n i.size
    | _ => none
  | .index t x y => match P.underlying t with
    | some (.array n e) => (shp P e).bind fun (ag, k) => if ag || k == 1 then (po x).bind fun x => (po y).map fun y => .ix x y n ag k else none
    | _ => none
  | .extract x i => (po x).map fun x => .ex x i
  | .call c => match c.callee, c.args.toList, c.argTypes.toList with
    | .builtin .len, [x], [t] => match P.underlying t with
      | some (.slice _) => (po x).map .ln
      | _ => none
    | .builtin .append, [x, y], [t, t'] => match P.underlying t with
      | some (.slice e) => (P.info? e).bind fun i => if t = t' ∧ 0 < i.size ∧ 0 < i.bytes then (zeroP P e).bind fun zs => if zs.length = i.size then (po x).bind fun x => (po y).map fun y => .ap x y i.size i.bytes else none else none
      | _ => none
    | .builtin .max, [x, y], _ => (po x).bind fun x => (po y).map fun y => .mm true x y
    | .builtin .min, [x, y], _ => (po x).bind fun x => (po y).map fun y => .mm false x y
    | .value (.func f), xs, _ => (pos xs).map fun xs => .ca f xs
    | .value (.tmp t), xs, _ => (pos xs).map fun xs => .cl (.t t) xs
    | _, _, _ => none
  | _ => none

/-! ### What each asks and leaves -/
/-- The contract of a function that writes nothing that lies: of the pure values as it returns r, in memory of its own. -/
def Cn (P : Program) (f : FuncId) (ps : List PV) (r : PV) : Prop :=
  (∀ args w, (callFunc f args).run P w = .ok (.enter f args) w) ∧
  ∀ (D : Nat → Nat → Prop) (w : World) (vs : Array Value), GL D w → (∀ b o, D b o → b < w.heap.size) → vs.size = ps.length → (∀ (i : Nat) p, ps[i]? = some p → Dat D w (vs.getD i undef) p) → Calls P f vs w fun e w' =>
    ∃ v D', e = .returned v ∧ Below w.heap.size w w' ∧ (∀ b o, D b o → D' b o) ∧ (∀ b o, D' b o → D b o ∨ w.heap.size ≤ b) ∧ (∀ b o, D' b o → b < w'.heap.size) ∧ Dat D' w' v r ∧ OwnOk D' (fun k => w.heap.size ≤ k) w' v r

/-- The contract of a function that takes over a slice of the caller's and hands back its successor. -/
def OCn (P : Program) (f : FuncId) (es : List (List PV)) (sz : Nat) (ps : List PV) (rs : List (List PV)) : Prop :=
  (∀ args w, (callFunc f args).run P w = .ok (.enter f args) w) ∧
  ∀ (D : Nat → Nat → Prop) (w : World) (v : Value) (vs : Array Value), GL D w → (∀ b o, D b o → b < w.heap.size) → vs.size = ps.length → (∀ (i : Nat) p, ps[i]? = some p → Dat D w (vs.getD i undef) p) → Dat D w v (.sl es .sh) → OwnOk D (fun _ => True) w v (.sl es (.r 0 sz)) →
    Calls P f (#[v] ++ vs) w fun e w' => ∃ u D', e = .returned u ∧ (w'.os = w.os ∧ w'.tape = w.tape ∧ w'.output = w.output ∧ w.heap.size ≤ w'.heap.size) ∧ (∀ k, k < w.heap.size → blk v ≠ some k → w'.heap[k]? = w.heap[k]?) ∧
      (∀ b o y, D b o → w.cell? ⟨b, o, none⟩ = some y → w'.cell? ⟨b, o, none⟩ = some y) ∧ (∀ b o, D b o → D' b o) ∧ (∀ b o, D' b o → D b o ∨ w.heap.size ≤ b ∨ blk v = some b) ∧ (∀ b o, D' b o → b < w'.heap.size) ∧
      Dat D' w' u (.sl rs .sh) ∧ OwnOk D' (fun k => w.heap.size ≤ k ∨ blk v = some k) w' u (.sl rs (.r 0 sz))
def qCells (p : PV) (K : List PV → Prop) : Prop := match p with
  | .agg cs => K cs
  | .v x => x.oneCell' = true ∧ K [.v x]
  | .sl es o => K [.sl es o]
  | .cp cs o => K [.cp cs o]
  | .bx i o => K [.bx i o]
  | .fn f fs cs => K [.fn f fs cs]
  | .ifc t x => K [.ifc t x]
  | _ => False
def qBool (p : PV) (K : Bool → Prop) : Prop := match p with
  | .v (.bool b) => K b
  | _ => False
def qInt (p : PV) (K : IntKind → Int → Prop) : Prop := match p with
  | .v (.int k n) => K k n
  | _ => False
def qSl (p : PV) (K : List (List PV) → Prop) : Prop := match p with
  | .sl es _ => K es
  | _ => False
/-- A sum: of int it must be in range. -/
def qar (k : IntKind) (n : Int) (K : PV → Prop) : Prop := match k with
  | .i64 => (-9223372036854775808 ≤ n ∧ n < 9223372036854775808) ∧ K (.v (.int .i64 n))
  | k => K (.v (.int k (k.wrap n)))
def shrI (k : IntKind) (a b : Int) : Int := a.fdiv (2 ^ (min b.toNat k.bits))
def qint (op : BinOp) (k : IntKind) (a b : Int) (K : PV → Prop) : Prop := match op with
  | .add => qar k (a + b) K
  | .sub => qar k (a - b) K
  | .mul => qar k (a * b) K
  | .quo => b ≠ 0 ∧ qar k (a.tdiv b) K
  | .rem => b ≠ 0 ∧ K (.v (.int k (a.tmod b)))
  | .eql => K (.v (.bool (decide (a = b))))
  | .neq => K (.v (.bool (!decide (a = b))))
  | .lss => K (.v (.bool (decide (a < b))))
  | .leq => K (.v (.bool (decide (a ≤ b))))
  | .gtr => K (.v (.bool (decide (b < a))))
  | .geq => K (.v (.bool (decide (b ≤ a))))
  | .shr => 0 ≤ b ∧ K (.v (.int k (shrI k a b)))
  | _ => False
def qbin (op : BinOp) (p q : PV) (K : PV → Prop) : Prop := match p, q with
  | .v (.int k a), .v (.int k' b) => k = k' ∧ qint op k a b K
  | _, _ => False
def qeq2 (neg : Bool) (p q : PV) (K : PV → Prop) : Prop := match p, q with
  | .agg [.v (.int k a), .v (.int l b)], .agg [.v (.int k' a'), .v (.int l' b')] => k = k' ∧ l = l' ∧ K (.v (.bool (neg != (decide (a = a') && decide (b = b')))))
  | _, _ => False
def qAt (cs : List PV) (o : Nat) (ag : Bool) (n : Nat) (K : PV → Prop) : Prop := match ag with
  | true => o + n ≤ cs.length ∧ K (.agg ((cs.drop o).take n))
  | false => match cs[o]? with
    | some p => K p
    | none => False
def allD (ps : List PV) : Bool := ps.all PV.isD
/-- Parts into cells. -/
def spl (zs cs : List PV) (off : Nat) : List PV := zs.take off ++ cs ++ zs.drop (off + cs.length)
def qParts (s : PS) : List (Nat × Nat × PO) → List PV → (List PV → Prop) → Prop
  | [], zs, K => K zs
  | (off, n, x) :: r, zs, K => qCells (s.ev x) fun cs => cs.length = n ∧ off + n ≤ zs.length ∧ allD cs = true ∧ qParts s r (spl zs (cs.map PV.sh) off) K
def qElems (s : PS) (sz : Nat) : List PO → (List (List PV) → Prop) → Prop
  | [], K => K []
  | x :: r, K => qCells (s.ev x) fun cs => cs.length = sz ∧ allD cs = true ∧ qElems s sz r fun es => K (cs.map PV.sh :: es)

/-- A first part of a first part is one. -/
def scO (lo : Option PO) (p : PV) : Ow := match lo, p with
  | none, .sl _ (.p i) => .p i
  | _, _ => .sh
/-- A bound of a slice expression. -/
def qBd (s : PS) (y : Option PO) (n : Nat) (K : Nat → Prop) : Prop := match y with
  | none => K n
  | some y => qInt (s.ev y) fun _ n => 0 ≤ n ∧ K n.toNat
def PK.q (P : Program) (s : PS) (k : PK) (K : PV → Prop) : Prop := match k with
  | .mv x => match x with
    | .t i => K ((s.get i).pre i)
    | x => K (s.ev x).strip
  | .bin op x y => qbin op (s.ev x) (s.ev y) K
  | .beq n x y => qBool (s.ev x) fun a => qBool (s.ev y) fun b => K (.v (.bool (n != (a == b))))
  | .eq2 n x y => qeq2 n (s.ev x) (s.ev y) K
  | .nil n x => match s.ev x with
    | .v .nilIface => K (.v (.bool (!n)))
    | .ifc _ _ => K (.v (.bool n))
    | _ => False
  | .not x => qBool (s.ev x) fun b => K (.v (.bool (!b)))
  | .cv k x => qInt (s.ev x) fun _ n => K (.v (.int k (k.wrap n)))
  | .fa x off => match s.ev x with
    | .bx i o => K (.bx i (o + off))
    | .cp cs o => K (.cp cs (o + off))
    | _ => False
  | .ia x y sz => qSl (s.ev x) fun es => qInt (s.ev y) fun _ n => 0 ≤ n ∧ match es[n.toNat]? with
    | some e => e.length = sz ∧ K (.cp e 0)
    | none => False
  | .aa x y n sz => qInt (s.ev y) fun _ m => (0 ≤ m ∧ m < n) ∧ match s.ev x with
    | .bx i o => K (.bx i (o + m.toNat * sz))
    | .cp cs o => K (.cp cs (o + m.toNat * sz))
    | _ => False
  | .ix x y n ag sz => qInt (s.ev y) fun _ m => (0 ≤ m ∧ m < n) ∧ match s.ev x with
    | .agg cs => qAt cs (m.toNat * sz) ag sz fun p => K p.strip
    | _ => False
  | .fl x off ag n => match s.ev x with
    | .agg cs => qAt cs off ag n fun p => K p.strip
    | _ => False
  | .ld x ag n => match s.ev x with
    | .cp cs o => qAt cs o ag n fun p => K p.strip
    | .bx i o => match s.b[i]? with
      | some cs => allD ((cs.drop o).take n) = true ∧ qAt cs o ag n fun p => K p.strip
      | none => False
    | _ => False
  | .nc x => match s.ev x with
    | .bx i o => K (.bx i o)
    | .cp cs o => K (.cp cs o)
    | _ => False
  | .bd zs ps => qParts s ps zs fun cs => K (.agg cs)
  | .bs sz ps => qElems s sz ps fun es => K (.sl es .z)
  | .ln x => qSl (s.ev x) fun es => K (.v (.int .i64 es.length))
  | .ex x i => match s.ev x with
    | .tup cs => match cs[i]? with
      | some p => K p.strip
      | none => False
    | _ => False
  | .mf f fs cs => (fs.all (fun x => (s.ev x).sh.isD || (s.ev x).sh.isB) && cs.all (fun x => (s.ev x).sh.isD || (s.ev x).sh.isB)) = true ∧ K (.fn f (fs.map fun x => (s.ev x).sh) (cs.map fun x => (s.ev x).sh))
  | .mi t x => match (s.ev x).isD with
    | true => K (.ifc t (s.ev x).sh)
    | false => False
  | .pk c x y => qBool (s.ev c) fun b => (b = true → K (s.ev x).strip) ∧ (b = false → K (s.ev y).strip)
  | .sc x lo hi sz => qSl (s.ev x) fun es => qBd s hi es.length fun h => qBd s lo 0 fun l => l ≤ h ∧ h ≤ es.length ∧ (∀ e ∈ es, e.length = sz) ∧ K (.sl ((es.take h).drop l) (scO lo (s.ev x)))
  | .mm m x y => qInt (s.ev x) fun k a => qInt (s.ev y) fun k' b => k = k' ∧ K (.v (.int k (if m then (if b > a then b else a) else (if b < a then b else a))))
  | .ca f xs => ∃ r, Cn P f (xs.map fun x => (s.ev x).sh) r ∧ allD (xs.map fun x => (s.ev x).sh) = true ∧ K r.strip
  | .cl y xs => match s.ev y with
    | .fn (.func f) fs cs => ∃ r, Cn P f (fs ++ (xs.map fun x => (s.ev x).sh) ++ cs) r ∧ allD (fs ++ (xs.map fun x => (s.ev x).sh) ++ cs) = true ∧ K r.strip
    | _ => False
  | .ap x y sz by_ => match s.ev x with
    | .sl es .z => qSl (s.ev y) fun es' => (∀ e ∈ es, e.length = sz) ∧ (∀ e ∈ es', e.length = sz) ∧ (es.length + es'.length) * by_ ≤ 140737488355328 ∧ K (.sl (es ++ es') (.n sz))
    | _ => False
  | _ => False

/-- What a store lays: a slice in a slot keeps its owner. -/
def keepOwn (y : PO) (p : PV) (cs : List PV) : List PV := match y, p with
  | .t _, .sl es o => [.sl es o]
  | _, _ => cs.map PV.sh
/-- Who owns what an append to a slice without room makes. -/
def apO (es es' : List (List PV)) (d sz : Nat) : Ow := match es, es' with
  | _ :: _, [] => .sh
  | _, _ => .r d sz
def isT : PO → Bool
  | .t _ => true
  | _ => false
/-- The call's own variables that are written no more: they lie as data. -/
def PV.fz1 (b : List (List PV)) : PV → PV
  | .bx i o => .cp ((b[i]?.getD []).map PV.sh) o
  | p => p
def PV.fz (b : List (List PV)) : PV → PV
  | .fn f fs cs => .fn f (fs.map (PV.fz1 b)) (cs.map (PV.fz1 b))
  | p => p.fz1 b
def PS.fz (s : PS) : PS := ⟨s.t.map fun y => (y.1, y.2.fz s.b), []⟩
def PK.e (P : Program) (k : PK) (d : Option Nat) (s : PS) (K : PS → Prop) : Prop := match k with
  | .mf f fs cs => if (fs.any fun x => (s.ev x).isB) || (cs.any fun x => (s.ev x).isB) then s.b.all allD = true ∧ PK.q P s.fz (.mf f fs cs) fun p => K (s.fz.put d p) else PK.q P s (.mf f fs cs) fun p => K (s.put d p)
  | .mv (.t i) => K (s.put d (s.get i))
  | .sc x lo hi sz => PK.q P s (.sc x lo hi sz) fun p => K (s.put d p.strip)
  | .ld x false 1 => match s.ev x with
    | .bx i o => match s.b[i]? with
      | some cs => match cs[o]? with
        | some p => K (s.put d p)
        | none => False
      | none => False
    | _ => PK.q P s (.ld x false 1) fun p => K (s.put d p)
  | .al zs => K (PS.put ⟨s.t, s.b ++ [zs]⟩ d (.bx s.b.length 0))
  | .bs sz ps => match d with
    | some d => qElems s sz ps fun es => K (s.put (some d) (.sl es (.r d sz)))
    | none => PK.q P s (.bs sz ps) fun p => K (s.put d p)
  | .bo x => qCells (s.ev x) fun cs => K (PS.put ⟨s.t, s.b ++ [cs.map PV.sh]⟩ d (.bx s.b.length 0))
  | .st x y sz => match s.ev x with
    | .bx i o => match s.b[i]? with
      | some cs => qCells (s.ev y) fun us => us.length = sz ∧ o + sz ≤ cs.length ∧ K (PS.put ⟨s.t, s.b.set i (spl cs (keepOwn y (s.ev y) us) o)⟩ d (.v undef))
      | none => False
    | _ => False
  | .ap x y sz by_ => match s.ev x with
    | .sl es (.r n sz') => sz' = sz ∧ isT x = true ∧ qSl (s.ev y) fun es' => (∀ e ∈ es', e.length = sz) ∧ (es.length + es'.length) * by_ ≤ 140737488355328 ∧ K ((s.down n).put d (.sl (es ++ es') (.r n sz)))
    | .sl es .z => match d with
      | some d => qSl (s.ev y) fun es' => (∀ e ∈ es, e.length = sz) ∧ (∀ e ∈ es', e.length = sz) ∧ (es.length + es'.length) * by_ ≤ 140737488355328 ∧ K (s.put (some d) (.sl (es ++ es') (apO es es' d sz)))
      | none => PK.q P s (.ap x y sz by_) fun p => K (s.put d p.strip)
    | _ => False
  | .ca f xs => match xs with
    | .t i :: xs' => match s.get i with
      | .sl es (.r n sz) => (∃ r, Cn P f (xs.map fun x => (s.ev x).sh) r ∧ allD (xs.map fun x => (s.ev x).sh) = true ∧ K (s.put d r)) ∨ ∃ rs, OCn P f es sz (xs'.map fun x => (s.ev x).sh) rs ∧ allD (xs'.map fun x => (s.ev x).sh) = true ∧ K ((s.down n).put d (.sl rs (.r n sz)))
      | _ => ∃ r, Cn P f (xs.map fun x => (s.ev x).sh) r ∧ allD (xs.map fun x => (s.ev x).sh) = true ∧ K (s.put d r)
    | _ => ∃ r, Cn P f (xs.map fun x => (s.ev x).sh) r ∧ allD (xs.map fun x => (s.ev x).sh) = true ∧ K (s.put d r)
  | k => k.q P s fun p => K (s.put d p)
end Go.Proofs.YtcedofkenfddkaaDoor
