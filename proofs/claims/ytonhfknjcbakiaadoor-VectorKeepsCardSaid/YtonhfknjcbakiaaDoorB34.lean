import Derived.Test.YtonhfknjcbakiaaDoorB32
set_option linter.unusedVariables false
set_option linter.unusedSimpArgs false
set_option maxRecDepth 100000
namespace Go.Proofs.YtonhfknjcbakiaaDoor
open Go.RowKit Go.Maps
attribute [-go_sem] z7
theorem SmV.bd {v:List En} (h:SmV v):∀ e ∈ v,ZL e:=fun e he=>Jg (h.1.1 e he)
theorem ve {P:Program} (w:World) (t ty e:TypeId) (i:TypeInfo) (ht:P.underlying t=some (.slice e)) (hi:P.info? e=some i) (ba:Option Addr) (n cp c:Nat) (hn:n<=cp) :
 (Builtin.append_ #[t,t] ty #[.slice ba n cp,.slice none 0 c]).run P w=.ok (.slice ba n cp) w:=by
 cases ba<;>simp [Builtin.append_,run_underlying ht,sizeOf,typeInfo,hi,Builtin.lenOf,Builtin.firstCells,hn,storeCells]
end Go.Proofs.YtonhfknjcbakiaaDoor
