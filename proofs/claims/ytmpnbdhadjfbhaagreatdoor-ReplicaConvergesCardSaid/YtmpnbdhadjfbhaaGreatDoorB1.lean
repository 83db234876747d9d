import Derived.Test.YtmpnbdhadjfbhaaGreatDoorProg
import Derived.Lib.Strings
import Derived.Lib.Slices
import Derived.Lib.Small
import Derived.Lib.Walk
import Derived.Lib.BitFns
import Derived.Test.YtmpnbdhadjfbhaaGreatDoorB0
set_option maxHeartbeats 16000000
set_option linter.all false
namespace Go.Proofs.YtmpnbdhadjfbhaaGreatDoor
def tZ:=@Go.Lib.bitLen_le8'
def Ts:=@Go.Lib.len8_of
section
set_option maxRecDepth 100000 in
def Yc(x:Int)(w:World)(o:0<=x)(u:x<=18446744073709551615):
 Calls Tryz.prog 193 #[.int .u64 x] w λe j=>e=.returned (.int .i64 (Lib.bitLen x.toNat))/\j=w:=by
 go_enter Tryz.func193,Tryz.ntmps193
 simp only[List.append_eq,yb,Yf,Lib.fold_len8tab]
 go_wp2;all_goals (go_ret;refine⟨W8 Ending.returned (W8 (Value.int IntKind.i64) ?_),rfl⟩)
 all_goals first
  | (rw[Ts (x/4294967296/65536/256%256) a8 a8]
     have e:(x/4294967296/65536/256%256).toNat=x.toNat/72057594037927936:=a8;have l:=tZ (x/4294967296/65536/256%256) a8 a8;have s:=Lib.bitLen_shift56 x.toNat a8 a8;rw[e]at l⊢;omega)
  | (rw[Ts (x/4294967296/65536%256) a8 a8]
     have e:(x/4294967296/65536%256).toNat=x.toNat/281474976710656:=a8;have l:=tZ (x/4294967296/65536%256) a8 a8;have s:=Lib.bitLen_shift48 x.toNat a8 a8;rw[e]at l⊢;omega)
  | (rw[Ts (x/4294967296/256%256) a8 a8]
     have e:(x/4294967296/256%256).toNat=x.toNat/1099511627776:=a8;have l:=tZ (x/4294967296/256%256) a8 a8;have s:=Lib.bitLen_shift40 x.toNat a8 a8;rw[e]at l⊢;omega)
  | (rw[Ts (x/4294967296%256) a8 a8]
     have e:(x/4294967296%256).toNat=x.toNat/4294967296:=a8;have l:=tZ (x/4294967296%256) a8 a8;have s:=Lib.bitLen_shift32 x.toNat a8 a8;rw[e]at l⊢;omega)
  | (rw[Ts (x/65536/256%256) a8 a8]
     have e:(x/65536/256%256).toNat=x.toNat/16777216:=a8;have l:=tZ (x/65536/256%256) a8 a8;have s:=Lib.bitLen_shift24 x.toNat a8 a8;rw[e]at l⊢;omega)
  | (rw[Ts (x/65536%256) a8 a8]
     have e:(x/65536%256).toNat=x.toNat/65536:=a8;have l:=tZ (x/65536%256) a8 a8;have s:=Lib.bitLen_shift16 x.toNat a8 a8;rw[e]at l⊢;omega)
  | (rw[Ts (x/256%256) a8 a8]
     have e:(x/256%256).toNat=x.toNat/256:=a8;have l:=tZ (x/256%256) a8 a8;have s:=Lib.bitLen_shift8 x.toNat a8 a8;rw[e]at l⊢;omega)
  | (rw[Ts (x%256) a8 a8]
     have e:(x%256).toNat=x.toNat:=a8;have l:=tZ (x%256) a8 a8;rw[e]at l⊢;omega)
def ZC(x:Int)(w:World)(o:0<=x)(u:x<=18446744073709551615):
 Calls Tryz.prog 151 #[.int .u64 x] w λe j=>e=.returned (.int .i64 (Lib.bitLen x.toNat))/\j=w:=by
 go_enter Tryz.func151,Tryz.ntmps151
 go_wp2_with (go_at_call 193;refine(Yc x _ o u).mono ?_;rintro e j ⟨rfl,rfl⟩)
 go_ret;exact⟨rfl,rfl⟩
end
end Go.Proofs.YtmpnbdhadjfbhaaGreatDoor
