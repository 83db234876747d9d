import Derived.Test.YtjdjjlkifdimkaaGreatDoorProg
import Derived.Lib.Strings
import Derived.Lib.Slices
import Derived.Lib.Small
import Derived.Lib.Walk
import Derived.Lib.BitFns
import Derived.Test.YtjdjjlkifdimkaaGreatDoorB0
set_option maxHeartbeats 16000000
set_option linter.all false
namespace Go.Proofs.YtjdjjlkifdimkaaGreatDoor
def Te:=@Go.Lib.bitLen_le8'
def TA:=@Go.Lib.len8_of
section
set_option maxRecDepth 100000 in
def Yc(x:Int)(w:World)(o:0<=x)(u:x<=18446744073709551615):
 Calls Tryz.prog 208 #[.int .u64 x] w λe j=>e=.returned (.int .i64 (Lib.bitLen x.toNat))/\j=w:=by
 go_enter Tryz.func208,Tryz.ntmps208
 simp only[List.append_eq,Yf,XV,Lib.fold_len8tab]
 go_wp2;all_goals (go_ret;refine⟨WU Ending.returned (WU (Value.int IntKind.i64) ?_),rfl⟩)
 all_goals first
  | (rw[TA (x/4294967296/65536/256%256) b6 b6]
     have e:(x/4294967296/65536/256%256).toNat=x.toNat/72057594037927936:=b6;have l:=Te (x/4294967296/65536/256%256) b6 b6;have s:=Lib.bitLen_shift56 x.toNat b6 b6;rw[e]at l⊢;omega)
  | (rw[TA (x/4294967296/65536%256) b6 b6]
     have e:(x/4294967296/65536%256).toNat=x.toNat/281474976710656:=b6;have l:=Te (x/4294967296/65536%256) b6 b6;have s:=Lib.bitLen_shift48 x.toNat b6 b6;rw[e]at l⊢;omega)
  | (rw[TA (x/4294967296/256%256) b6 b6]
     have e:(x/4294967296/256%256).toNat=x.toNat/1099511627776:=b6;have l:=Te (x/4294967296/256%256) b6 b6;have s:=Lib.bitLen_shift40 x.toNat b6 b6;rw[e]at l⊢;omega)
  | (rw[TA (x/4294967296%256) b6 b6]
     have e:(x/4294967296%256).toNat=x.toNat/4294967296:=b6;have l:=Te (x/4294967296%256) b6 b6;have s:=Lib.bitLen_shift32 x.toNat b6 b6;rw[e]at l⊢;omega)
  | (rw[TA (x/65536/256%256) b6 b6]
     have e:(x/65536/256%256).toNat=x.toNat/16777216:=b6;have l:=Te (x/65536/256%256) b6 b6;have s:=Lib.bitLen_shift24 x.toNat b6 b6;rw[e]at l⊢;omega)
  | (rw[TA (x/65536%256) b6 b6]
     have e:(x/65536%256).toNat=x.toNat/65536:=b6;have l:=Te (x/65536%256) b6 b6;have s:=Lib.bitLen_shift16 x.toNat b6 b6;rw[e]at l⊢;omega)
  | (rw[TA (x/256%256) b6 b6]
     have e:(x/256%256).toNat=x.toNat/256:=b6;have l:=Te (x/256%256) b6 b6;have s:=Lib.bitLen_shift8 x.toNat b6 b6;rw[e]at l⊢;omega)
  | (rw[TA (x%256) b6 b6]
     have e:(x%256).toNat=x.toNat:=b6;have l:=Te (x%256) b6 b6;rw[e]at l⊢;omega)
def ZC(x:Int)(w:World)(o:0<=x)(u:x<=18446744073709551615):
 Calls Tryz.prog 164 #[.int .u64 x] w λe j=>e=.returned (.int .i64 (Lib.bitLen x.toNat))/\j=w:=by
 go_enter Tryz.func164,Tryz.ntmps164
 go_wp2_with (go_at_call 208;refine(Yc x _ o u).mono ?_;rintro e j ⟨rfl,rfl⟩)
 go_ret;exact⟨rfl,rfl⟩
end
end Go.Proofs.YtjdjjlkifdimkaaGreatDoor
