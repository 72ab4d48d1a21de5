import Derived.Test.YtchdmecjhaanfaaGreatDoorMshR
import Derived.Test.YtchdmecjhaanfaaGreatDoorMshVal
namespace Go.Proofs.YtchdmecjhaanfaaGreatDoor
open Go Go.RowKit Amp Msh
set_option maxRecDepth 100000 in
set_option maxHeartbeats 800000 in
theorem shaped_ok (n:Nat) (a0:Option Addr) (k0:Nat) (l:List Num) (w:World) (n2:n≤6) (hl:l.length=n*n) (h0:Nms w a0 l) (hv:VldL l) :
  Calls Tryz.prog 11 #[.int .i64 n,.agg #[.int .i64 n,.slice a0 l.length k0]] w fun e w'=>e=.returned (.bool true)∧Grew w w':=by
 have H0:=hid h0;have HV:=hid hv;have h36:l.length≤36:=by have:=Nat.mul_le_mul n2 n2;omega
 have e1:((l.length:Int)==(n:Int)*n)=true:=by rw [hl,Int.natCast_mul];simp
 have p1:0≤(n:Int)*n:=by rw [← Int.natCast_mul];omega
 have p2:(n:Int)*n≤36:=by have:=Nat.mul_le_mul n2 n2;rw [← Int.natCast_mul];omega
 have p3:(l.length:Int)=(n:Int)*n:=by rw [hl,Int.natCast_mul]
 clear h0 hv hl;go_enter Tryz.func11,Tryz.ntmps11
 go_wp2_with fail
 go_loopw [23] (fun v wr=>∃ i:Nat,i≤l.length∧v=.int .i64 i∧Grew w wr) (fun v _=>l.length - (intOf v).toNat)
 case atStart=>exact ⟨0,Nat.zero_le _,rfl,gw0⟩
 case round =>
  obtain ⟨i,hi,rfl,g,n',rfl⟩:=hrel;by_cases hlt:i<l.length
  · obtain ⟨z,hz⟩:∃ z,l[i]? = some z:=⟨l[i],List.getElem?_eq_getElem hlt⟩
    obtain ⟨b,off,rfl,hb,c0,c1,c2,c3,c4⟩:=H0.out.cells hz;have hb1:=fun m0:Nat=>Nat.lt_add_right m0 (hb)
    have hb2:=fun m0 m1:Nat=>Nat.lt_add_right m1 (hb1 m0)
    have hb3:=fun m0 m1 m2:Nat=>Nat.lt_add_right m2 (hb2 m0 m1)
    have HZ:=hid fun w=>rValid_any z.x z.k w
    rw [HV.out i z hz] at HZ;clear hz;go_wp2_with fail
    refine (HZ.out _).mono ?_;rintro e w' ⟨rfl,g1,n1,rfl⟩;go_wp2_with fail
    go_roundw
    case rel=>exact ⟨i+1,by omega,by go_num,gw0⟩
    case measure=>simp [intOf];omega
  · obtain rfl:i=l.length:=by omega
    go_wp2_with fail
    go_ret;exact ⟨rfl,gw0⟩
end Go.Proofs.YtchdmecjhaanfaaGreatDoor
