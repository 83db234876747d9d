import Derived.Test.YtopfkkogooocgaaGreatB7
set_option linter.unusedVariables false
set_option linter.unusedSimpArgs false
namespace Go.Proofs.YtopfkkogooocgaaGreat
theorem zdd {f:Bool->Bool->Bool} {a b:List En}:∀ e ∈ ks f a b,e.rep ∈ srt (zM a++zM b):=fun e he=>by
 unfold ks at he
 obtain⟨r,hr,h⟩:=List.mem_filterMap.1 he
 rw [(xz h).2.2]
 exact hr
def BV (n h:Nat) (v:List En):Prop:=RightV v/\v.length<=n/\∀ e ∈ v,e.holes.length<=h
theorem ji {n h:Nat} {v:List En} (hv:BV n h v) (r:Nat):(zT v r).length<=2 * h+3:=by
 unfold zT
 cases hf:v.find? (fun e=>e.rep == r) with
 | none=>simp
 | some e=>
   have h1:=hv.2.2 e (List.mem_of_find?_eq_some hf)
   have h2:=kW e
   simp only
   omega
theorem BV.mono {n h m k:Nat} {v:List En} (hv:BV n h v) (h1:n<=m) (h2:h<=k):BV m k v:=⟨hv.1,Nat.le_trans hv.2.1 h1,fun e he=>Nat.le_trans (hv.2.2 e he) h2⟩
end Go.Proofs.YtopfkkogooocgaaGreat
