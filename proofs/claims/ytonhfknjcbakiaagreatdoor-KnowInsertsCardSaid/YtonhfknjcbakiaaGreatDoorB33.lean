import Derived.Test.YtonhfknjcbakiaaGreatDoorB29
import Derived.Test.YtonhfknjcbakiaaGreatDoorB30
import Derived.Test.YtonhfknjcbakiaaGreatDoorB31
import Derived.Test.YtonhfknjcbakiaaGreatDoorB32
set_option linter.unusedVariables false
set_option linter.unusedSimpArgs false
namespace Go.Proofs.YtonhfknjcbakiaaGreatDoor
open Go.ChangeShapes Go.WideShapes Go.RowKit
theorem zcR {P:Program} {f:FuncId} {fn:Func} {s:ChangeSpec} {c:OpenClaim}
 (U:(c.wf (OpenSpec.ofChange s))=true)
 (V:(laidOutB P)=true)
 (X:(mapsRowed P)=true)
 (Y:(fn.params.all (P.readableRec ·))=true)
 (Z:(namedTie P c.named s.vars)=true)
 (h5:((c.stops == []))=true)
 (h6:((P.stops == []))=true)
 (h7:((c.knobs == []))=true)
 (h8:((P.stopKnobs == []))=true)
 (h9:((c.inPlace == P.inPlace f))=true)
 (a:((c.unfollowed == P.unfollowed f))=true)
 (j:((c.recurses == P.recurses f))=true)
 (u:((c.named == P.varsNamed f))=true)
 (w:((c.maps == (fn.params.toList++s.plain.varTypes P).any (P.mapsRec ·)))=true)
 (y:((c.ifaces == (fn.params.toList++s.plain.varTypes P).any (P.ifacesRec ·)))=true)
 (A:((c.mapsOut == P.mapsAmong fn.resultTypes.toList))=true)
 (B:((c.loops == (fn.params.toList++s.plain.varTypes P).any (P.loopsFrom ·)))=true)
 (C:((c.wideKeys == (fn.params.toList++s.plain.varTypes P++fn.resultTypes.toList).any (P.wideKeysFrom ·)))=true)
 (E:(s.vars.all (P.varReadable ·))=true)
 (F:(fn.resultTypes.all (fun t=>P.readableRec t && decide (t<P.types.size)))=true)
 (G:((c.ifacesOut == fn.resultTypes.toList.any (P.ifacesRec ·)))=true)
 (H:((c.loopsOut == fn.resultTypes.toList.any (P.loopsFrom ·)))=true)
 (I:((c.plainKeys == P.plainKeys))=true)
 (J:(c.shortTexts.isNone)=true)
 (K:(P.stopsHeard)=true)
 (L:(P.mayEnter)=true)
 (M:((c.lifted == P.liftsFinal))=true)
 (N:((P.make == some c.make))=true)
 (O:((c.kinds == (if c.domain.isEmpty then [] else fn.params.toList.map fun t=>match P.underlying t with | some (.int k)=>some k | _=>none)))=true)
 (Q:((c.pinned == c.pinnedBy))=true)
 (S:((c.veiled == (fn.params.toList++s.plain.varTypes P++fn.resultTypes.toList).any (P.veiledRec ·)))=true)
 (T:(c.veiledFits P fn.params.toList (fn.params.toList++s.plain.varTypes P++fn.resultTypes.toList))=true) :
 joinedFacts P f fn s c=true:=by
 unfold joinedFacts
 simp only [Bool.and_eq_true]
 exact⟨⟨⟨⟨⟨⟨⟨⟨⟨⟨⟨⟨⟨⟨⟨⟨⟨⟨⟨⟨⟨⟨⟨⟨⟨⟨⟨⟨⟨⟨⟨U,V⟩,X⟩,Y⟩,Z⟩,h5⟩,h6⟩,h7⟩,h8⟩,h9⟩,a⟩,j⟩,u⟩,w⟩,y⟩,A⟩,B⟩,C⟩,E⟩,F⟩,G⟩,H⟩,I⟩,J⟩,K⟩,L⟩,M⟩,N⟩,O⟩,Q⟩,S⟩,T⟩
end Go.Proofs.YtonhfknjcbakiaaGreatDoor
