/- Main's ghost of the seat: tables lays its rows down one behind the other. No condition. -/
import Derived.Test.YtnceajabigdleaaDoorPtS17
import Derived.Test.YtnceajabigdleaaDoorPtS7
import Derived.BigRegion
import Derived.WalkKit
import Derived.BigQuiet
import Derived.Deep.QuietTactic
import Derived.Laws.BitsLemmas
namespace Go.Proofs.Qm
open Go Go.Pt
def rowsT (n N:Nat):List (List Int):=(List.range N).map fun i=>Ghw.thr n (YtnW.bitsOf i)
noncomputable def gone (f:Func):Func:={ Tryd.f0 with name:= "gone",body:=none,results:=f.results,ntmps:=f.ntmps }
def dead (i:Nat):Bool:=[0,1,2,63,64,65,67,81,82,83,84,85,86,87,88,89,90,91,92,93,96,97,98,99,100,102,103,104,105,107,110,111,112,113,114,115,116,117,118,119,120,121,122,123,124,125,126,127,128,129,130].contains i
noncomputable def own34:Func:={ Tryd.f34 with body:=some (bodyT 22 73 3 (rowsT 2 2) (rowsT 4 64)) }
noncomputable def own74:Func:={ Tryd.f74 with body:=Tryd.f74.body.map cutC }
noncomputable def gF (i:Nat) (f:Func):Func:=if i=34 then own34 else if i=74 then own74 else if dead i then gone f else f
noncomputable def prog:Program:=Pt.wf Tryd.prog (Tryd.prog.funcs.mapIdx gF)
theorem types_ok:prog.types.toList.all (fun i=>match i.zero with | some v=>closedV v | none=>true)=true:=by kernel_rfl
theorem size:Tryd.prog.funcs.size=131:=by kernel_rfl
theorem ok3:fnB prog (·==0) Tryd.f3=true:=by kernel_rfl
theorem ok4:fnB prog (·==0) Tryd.f4=true:=by kernel_rfl
theorem ok5:fnB prog (·==0) Tryd.f5=true:=by kernel_rfl
theorem ok6:fnB prog (·==0) Tryd.f6=true:=by kernel_rfl
theorem ok7:fnB prog (·==0) Tryd.f7=true:=by kernel_rfl
theorem ok8:fnB prog (·==0) Tryd.f8=true:=by kernel_rfl
theorem ok9:fnB prog (·==0) Tryd.f9=true:=by kernel_rfl
theorem ok10:fnB prog (·==0) Tryd.f10=true:=by kernel_rfl
theorem ok11:fnB prog (·==0) Tryd.f11=true:=by kernel_rfl
theorem ok12:fnB prog (·==0) Tryd.f12=true:=by kernel_rfl
theorem ok13:fnB prog (·==0) Tryd.f13=true:=by kernel_rfl
theorem ok14:fnB prog (·==0) Tryd.f14=true:=by kernel_rfl
theorem ok15:fnB prog (·==0) Tryd.f15=true:=by kernel_rfl
theorem ok16:fnB prog (·==0) Tryd.f16=true:=by kernel_rfl
theorem ok17:fnB prog (·==0) Tryd.f17=true:=by kernel_rfl
theorem ok18:fnB prog (·==0) Tryd.f18=true:=by kernel_rfl
theorem ok19:fnB prog (·==0) Tryd.f19=true:=by kernel_rfl
theorem ok20:fnB prog (·==0) Tryd.f20=true:=by kernel_rfl
theorem ok21:fnB prog (·==0) Tryd.f21=true:=by kernel_rfl
theorem ok22:fnB prog (·==0) Tryd.f22=true:=by kernel_rfl
theorem ok23:fnB prog (·==0) Tryd.f23=true:=by kernel_rfl
theorem ok24:fnB prog (·==0) Tryd.f24=true:=by kernel_rfl
theorem ok25:fnB prog (·==0) Tryd.f25=true:=by kernel_rfl
theorem ok26:fnB prog (·==0) Tryd.f26=true:=by kernel_rfl
theorem ok27:fnB prog (·==0) Tryd.f27=true:=by kernel_rfl
theorem ok28:fnB prog (·==0) Tryd.f28=true:=by kernel_rfl
theorem ok29:fnB prog (·==0) Tryd.f29=true:=by kernel_rfl
theorem ok30:fnB prog (·==0) Tryd.f30=true:=by kernel_rfl
theorem ok31:fnB prog (·==0) Tryd.f31=true:=by kernel_rfl
theorem ok32:fnB prog (·==0) Tryd.f32=true:=by kernel_rfl
theorem ok33:fnB prog (·==0) Tryd.f33=true:=by kernel_rfl
theorem ok35:fnB prog (·==0) Tryd.f35=true:=by kernel_rfl
theorem ok36:fnB prog (·==0) Tryd.f36=true:=by kernel_rfl
theorem ok37:fnB prog (·==0) Tryd.f37=true:=by kernel_rfl
theorem ok38:fnB prog (·==0) Tryd.f38=true:=by kernel_rfl
theorem ok39:fnB prog (·==0) Tryd.f39=true:=by kernel_rfl
theorem ok40:fnB prog (·==0) Tryd.f40=true:=by kernel_rfl
theorem ok41:fnB prog (·==0) Tryd.f41=true:=by kernel_rfl
theorem ok42:fnB prog (·==0) Tryd.f42=true:=by kernel_rfl
theorem ok43:fnB prog (·==0) Tryd.f43=true:=by kernel_rfl
theorem ok44:fnB prog (·==0) Tryd.f44=true:=by kernel_rfl
theorem ok45:fnB prog (·==0) Tryd.f45=true:=by kernel_rfl
theorem ok46:fnB prog (·==0) Tryd.f46=true:=by kernel_rfl
theorem ok47:fnB prog (·==0) Tryd.f47=true:=by kernel_rfl
theorem ok48:fnB prog (·==0) Tryd.f48=true:=by kernel_rfl
theorem ok49:fnB prog (·==0) Tryd.f49=true:=by kernel_rfl
theorem ok50:fnB prog (·==0) Tryd.f50=true:=by kernel_rfl
theorem ok51:fnB prog (·==0) Tryd.f51=true:=by kernel_rfl
theorem ok52:fnB prog (·==0) Tryd.f52=true:=by kernel_rfl
theorem ok53:fnB prog (·==0) Tryd.f53=true:=by kernel_rfl
theorem ok54:fnB prog (·==0) Tryd.f54=true:=by kernel_rfl
theorem ok55:fnB prog (·==0) Tryd.f55=true:=by kernel_rfl
theorem ok56:fnB prog (·==0) Tryd.f56=true:=by kernel_rfl
theorem ok57:fnB prog (·==0) Tryd.f57=true:=by kernel_rfl
theorem ok58:fnB prog (·==0) Tryd.f58=true:=by kernel_rfl
theorem ok59:fnB prog (·==0) Tryd.f59=true:=by kernel_rfl
theorem ok60:fnB prog (·==0) Tryd.f60=true:=by kernel_rfl
theorem ok61:fnB prog (·==0) Tryd.f61=true:=by kernel_rfl
theorem ok62:fnB prog (·==0) Tryd.f62=true:=by kernel_rfl
theorem ok66:fnB prog (·==0) Tryd.f66=true:=by kernel_rfl
theorem ok68:fnB prog (·==0) Tryd.f68=true:=by kernel_rfl
theorem ok69:fnB prog (·==0) Tryd.f69=true:=by kernel_rfl
theorem ok70:fnB prog (·==0) Tryd.f70=true:=by kernel_rfl
theorem ok71:fnB prog (·==0) Tryd.f71=true:=by kernel_rfl
theorem ok72:fnB prog (·==0) Tryd.f72=true:=by kernel_rfl
theorem ok73:fnB prog (·==0) Tryd.f73=true:=by kernel_rfl
theorem ok75:fnB prog (·==0) Tryd.f75=true:=by kernel_rfl
theorem ok76:fnB prog (·==0) Tryd.f76=true:=by kernel_rfl
theorem ok77:fnB prog (·==0) Tryd.f77=true:=by kernel_rfl
theorem ok78:fnB prog (·==0) Tryd.f78=true:=by kernel_rfl
theorem ok79:fnB prog (·==0) Tryd.f79=true:=by kernel_rfl
theorem ok80:fnB prog (·==0) Tryd.f80=true:=by kernel_rfl
theorem ok94:fnB prog (·==0) Tryd.f94=true:=by kernel_rfl
theorem ok95:fnB prog (·==0) Tryd.f95=true:=by kernel_rfl
theorem ok101:fnB prog (·==0) Tryd.f101=true:=by kernel_rfl
theorem ok106:fnB prog (·==0) Tryd.f106=true:=by kernel_rfl
theorem ok108:fnB prog (·==0) Tryd.f108=true:=by kernel_rfl
theorem ok109:fnB prog (·==0) Tryd.f109=true:=by kernel_rfl
theorem ok34:fnB prog (·==0) own34=true:=by kernel_rfl
theorem ok74:fnB prog (·==0) own74=true:=by kernel_rfl
def out (i:Nat):Bool:=dead i||i==34||i==74
theorem c0:∀ i,i<0→Okk Tryd.prog prog (·==0) out i:=okk_zero
theorem c1:∀ i,i<1→Okk Tryd.prog prog (·==0) out i:=okk_step c0 (okk_dead (by decide))
theorem c2:∀ i,i<2→Okk Tryd.prog prog (·==0) out i:=okk_step c1 (okk_dead (by decide))
theorem c3:∀ i,i<3→Okk Tryd.prog prog (·==0) out i:=okk_step c2 (okk_dead (by decide))
theorem c4:∀ i,i<4→Okk Tryd.prog prog (·==0) out i:=okk_step c3 (okk_ok Tryd.func3 ok3)
theorem c5:∀ i,i<5→Okk Tryd.prog prog (·==0) out i:=okk_step c4 (okk_ok Tryd.func4 ok4)
theorem c6:∀ i,i<6→Okk Tryd.prog prog (·==0) out i:=okk_step c5 (okk_ok Tryd.func5 ok5)
theorem c7:∀ i,i<7→Okk Tryd.prog prog (·==0) out i:=okk_step c6 (okk_ok Tryd.func6 ok6)
theorem c8:∀ i,i<8→Okk Tryd.prog prog (·==0) out i:=okk_step c7 (okk_ok Tryd.func7 ok7)
theorem c9:∀ i,i<9→Okk Tryd.prog prog (·==0) out i:=okk_step c8 (okk_ok Tryd.func8 ok8)
theorem c10:∀ i,i<10→Okk Tryd.prog prog (·==0) out i:=okk_step c9 (okk_ok Tryd.func9 ok9)
theorem c11:∀ i,i<11→Okk Tryd.prog prog (·==0) out i:=okk_step c10 (okk_ok Tryd.func10 ok10)
theorem c12:∀ i,i<12→Okk Tryd.prog prog (·==0) out i:=okk_step c11 (okk_ok Tryd.func11 ok11)
theorem c13:∀ i,i<13→Okk Tryd.prog prog (·==0) out i:=okk_step c12 (okk_ok Tryd.func12 ok12)
theorem c14:∀ i,i<14→Okk Tryd.prog prog (·==0) out i:=okk_step c13 (okk_ok Tryd.func13 ok13)
theorem c15:∀ i,i<15→Okk Tryd.prog prog (·==0) out i:=okk_step c14 (okk_ok Tryd.func14 ok14)
theorem c16:∀ i,i<16→Okk Tryd.prog prog (·==0) out i:=okk_step c15 (okk_ok Tryd.func15 ok15)
theorem c17:∀ i,i<17→Okk Tryd.prog prog (·==0) out i:=okk_step c16 (okk_ok Tryd.func16 ok16)
theorem c18:∀ i,i<18→Okk Tryd.prog prog (·==0) out i:=okk_step c17 (okk_ok Tryd.func17 ok17)
theorem c19:∀ i,i<19→Okk Tryd.prog prog (·==0) out i:=okk_step c18 (okk_ok Tryd.func18 ok18)
theorem c20:∀ i,i<20→Okk Tryd.prog prog (·==0) out i:=okk_step c19 (okk_ok Tryd.func19 ok19)
theorem c21:∀ i,i<21→Okk Tryd.prog prog (·==0) out i:=okk_step c20 (okk_ok Tryd.func20 ok20)
theorem c22:∀ i,i<22→Okk Tryd.prog prog (·==0) out i:=okk_step c21 (okk_ok Tryd.func21 ok21)
theorem c23:∀ i,i<23→Okk Tryd.prog prog (·==0) out i:=okk_step c22 (okk_ok Tryd.func22 ok22)
theorem c24:∀ i,i<24→Okk Tryd.prog prog (·==0) out i:=okk_step c23 (okk_ok Tryd.func23 ok23)
theorem c25:∀ i,i<25→Okk Tryd.prog prog (·==0) out i:=okk_step c24 (okk_ok Tryd.func24 ok24)
theorem c26:∀ i,i<26→Okk Tryd.prog prog (·==0) out i:=okk_step c25 (okk_ok Tryd.func25 ok25)
theorem c27:∀ i,i<27→Okk Tryd.prog prog (·==0) out i:=okk_step c26 (okk_ok Tryd.func26 ok26)
theorem c28:∀ i,i<28→Okk Tryd.prog prog (·==0) out i:=okk_step c27 (okk_ok Tryd.func27 ok27)
theorem c29:∀ i,i<29→Okk Tryd.prog prog (·==0) out i:=okk_step c28 (okk_ok Tryd.func28 ok28)
theorem c30:∀ i,i<30→Okk Tryd.prog prog (·==0) out i:=okk_step c29 (okk_ok Tryd.func29 ok29)
theorem c31:∀ i,i<31→Okk Tryd.prog prog (·==0) out i:=okk_step c30 (okk_ok Tryd.func30 ok30)
theorem c32:∀ i,i<32→Okk Tryd.prog prog (·==0) out i:=okk_step c31 (okk_ok Tryd.func31 ok31)
theorem c33:∀ i,i<33→Okk Tryd.prog prog (·==0) out i:=okk_step c32 (okk_ok Tryd.func32 ok32)
theorem c34:∀ i,i<34→Okk Tryd.prog prog (·==0) out i:=okk_step c33 (okk_ok Tryd.func33 ok33)
theorem c35:∀ i,i<35→Okk Tryd.prog prog (·==0) out i:=okk_step c34 (okk_dead (by decide))
theorem c36:∀ i,i<36→Okk Tryd.prog prog (·==0) out i:=okk_step c35 (okk_ok Tryd.func35 ok35)
theorem c37:∀ i,i<37→Okk Tryd.prog prog (·==0) out i:=okk_step c36 (okk_ok Tryd.func36 ok36)
theorem c38:∀ i,i<38→Okk Tryd.prog prog (·==0) out i:=okk_step c37 (okk_ok Tryd.func37 ok37)
theorem c39:∀ i,i<39→Okk Tryd.prog prog (·==0) out i:=okk_step c38 (okk_ok Tryd.func38 ok38)
theorem c40:∀ i,i<40→Okk Tryd.prog prog (·==0) out i:=okk_step c39 (okk_ok Tryd.func39 ok39)
theorem c41:∀ i,i<41→Okk Tryd.prog prog (·==0) out i:=okk_step c40 (okk_ok Tryd.func40 ok40)
theorem c42:∀ i,i<42→Okk Tryd.prog prog (·==0) out i:=okk_step c41 (okk_ok Tryd.func41 ok41)
theorem c43:∀ i,i<43→Okk Tryd.prog prog (·==0) out i:=okk_step c42 (okk_ok Tryd.func42 ok42)
theorem c44:∀ i,i<44→Okk Tryd.prog prog (·==0) out i:=okk_step c43 (okk_ok Tryd.func43 ok43)
theorem c45:∀ i,i<45→Okk Tryd.prog prog (·==0) out i:=okk_step c44 (okk_ok Tryd.func44 ok44)
theorem c46:∀ i,i<46→Okk Tryd.prog prog (·==0) out i:=okk_step c45 (okk_ok Tryd.func45 ok45)
theorem c47:∀ i,i<47→Okk Tryd.prog prog (·==0) out i:=okk_step c46 (okk_ok Tryd.func46 ok46)
theorem c48:∀ i,i<48→Okk Tryd.prog prog (·==0) out i:=okk_step c47 (okk_ok Tryd.func47 ok47)
theorem c49:∀ i,i<49→Okk Tryd.prog prog (·==0) out i:=okk_step c48 (okk_ok Tryd.func48 ok48)
theorem c50:∀ i,i<50→Okk Tryd.prog prog (·==0) out i:=okk_step c49 (okk_ok Tryd.func49 ok49)
theorem c51:∀ i,i<51→Okk Tryd.prog prog (·==0) out i:=okk_step c50 (okk_ok Tryd.func50 ok50)
theorem c52:∀ i,i<52→Okk Tryd.prog prog (·==0) out i:=okk_step c51 (okk_ok Tryd.func51 ok51)
theorem c53:∀ i,i<53→Okk Tryd.prog prog (·==0) out i:=okk_step c52 (okk_ok Tryd.func52 ok52)
theorem c54:∀ i,i<54→Okk Tryd.prog prog (·==0) out i:=okk_step c53 (okk_ok Tryd.func53 ok53)
theorem c55:∀ i,i<55→Okk Tryd.prog prog (·==0) out i:=okk_step c54 (okk_ok Tryd.func54 ok54)
theorem c56:∀ i,i<56→Okk Tryd.prog prog (·==0) out i:=okk_step c55 (okk_ok Tryd.func55 ok55)
theorem c57:∀ i,i<57→Okk Tryd.prog prog (·==0) out i:=okk_step c56 (okk_ok Tryd.func56 ok56)
theorem c58:∀ i,i<58→Okk Tryd.prog prog (·==0) out i:=okk_step c57 (okk_ok Tryd.func57 ok57)
theorem c59:∀ i,i<59→Okk Tryd.prog prog (·==0) out i:=okk_step c58 (okk_ok Tryd.func58 ok58)
theorem c60:∀ i,i<60→Okk Tryd.prog prog (·==0) out i:=okk_step c59 (okk_ok Tryd.func59 ok59)
theorem c61:∀ i,i<61→Okk Tryd.prog prog (·==0) out i:=okk_step c60 (okk_ok Tryd.func60 ok60)
theorem c62:∀ i,i<62→Okk Tryd.prog prog (·==0) out i:=okk_step c61 (okk_ok Tryd.func61 ok61)
theorem c63:∀ i,i<63→Okk Tryd.prog prog (·==0) out i:=okk_step c62 (okk_ok Tryd.func62 ok62)
theorem c64:∀ i,i<64→Okk Tryd.prog prog (·==0) out i:=okk_step c63 (okk_dead (by decide))
theorem c65:∀ i,i<65→Okk Tryd.prog prog (·==0) out i:=okk_step c64 (okk_dead (by decide))
theorem c66:∀ i,i<66→Okk Tryd.prog prog (·==0) out i:=okk_step c65 (okk_dead (by decide))
theorem c67:∀ i,i<67→Okk Tryd.prog prog (·==0) out i:=okk_step c66 (okk_ok Tryd.func66 ok66)
theorem c68:∀ i,i<68→Okk Tryd.prog prog (·==0) out i:=okk_step c67 (okk_dead (by decide))
theorem c69:∀ i,i<69→Okk Tryd.prog prog (·==0) out i:=okk_step c68 (okk_ok Tryd.func68 ok68)
theorem c70:∀ i,i<70→Okk Tryd.prog prog (·==0) out i:=okk_step c69 (okk_ok Tryd.func69 ok69)
theorem c71:∀ i,i<71→Okk Tryd.prog prog (·==0) out i:=okk_step c70 (okk_ok Tryd.func70 ok70)
theorem c72:∀ i,i<72→Okk Tryd.prog prog (·==0) out i:=okk_step c71 (okk_ok Tryd.func71 ok71)
theorem c73:∀ i,i<73→Okk Tryd.prog prog (·==0) out i:=okk_step c72 (okk_ok Tryd.func72 ok72)
theorem c74:∀ i,i<74→Okk Tryd.prog prog (·==0) out i:=okk_step c73 (okk_ok Tryd.func73 ok73)
theorem c75:∀ i,i<75→Okk Tryd.prog prog (·==0) out i:=okk_step c74 (okk_dead (by decide))
theorem c76:∀ i,i<76→Okk Tryd.prog prog (·==0) out i:=okk_step c75 (okk_ok Tryd.func75 ok75)
theorem c77:∀ i,i<77→Okk Tryd.prog prog (·==0) out i:=okk_step c76 (okk_ok Tryd.func76 ok76)
theorem c78:∀ i,i<78→Okk Tryd.prog prog (·==0) out i:=okk_step c77 (okk_ok Tryd.func77 ok77)
theorem c79:∀ i,i<79→Okk Tryd.prog prog (·==0) out i:=okk_step c78 (okk_ok Tryd.func78 ok78)
theorem c80:∀ i,i<80→Okk Tryd.prog prog (·==0) out i:=okk_step c79 (okk_ok Tryd.func79 ok79)
theorem c81:∀ i,i<81→Okk Tryd.prog prog (·==0) out i:=okk_step c80 (okk_ok Tryd.func80 ok80)
theorem c82:∀ i,i<82→Okk Tryd.prog prog (·==0) out i:=okk_step c81 (okk_dead (by decide))
theorem c83:∀ i,i<83→Okk Tryd.prog prog (·==0) out i:=okk_step c82 (okk_dead (by decide))
theorem c84:∀ i,i<84→Okk Tryd.prog prog (·==0) out i:=okk_step c83 (okk_dead (by decide))
theorem c85:∀ i,i<85→Okk Tryd.prog prog (·==0) out i:=okk_step c84 (okk_dead (by decide))
theorem c86:∀ i,i<86→Okk Tryd.prog prog (·==0) out i:=okk_step c85 (okk_dead (by decide))
theorem c87:∀ i,i<87→Okk Tryd.prog prog (·==0) out i:=okk_step c86 (okk_dead (by decide))
theorem c88:∀ i,i<88→Okk Tryd.prog prog (·==0) out i:=okk_step c87 (okk_dead (by decide))
theorem c89:∀ i,i<89→Okk Tryd.prog prog (·==0) out i:=okk_step c88 (okk_dead (by decide))
theorem c90:∀ i,i<90→Okk Tryd.prog prog (·==0) out i:=okk_step c89 (okk_dead (by decide))
theorem c91:∀ i,i<91→Okk Tryd.prog prog (·==0) out i:=okk_step c90 (okk_dead (by decide))
theorem c92:∀ i,i<92→Okk Tryd.prog prog (·==0) out i:=okk_step c91 (okk_dead (by decide))
theorem c93:∀ i,i<93→Okk Tryd.prog prog (·==0) out i:=okk_step c92 (okk_dead (by decide))
theorem c94:∀ i,i<94→Okk Tryd.prog prog (·==0) out i:=okk_step c93 (okk_dead (by decide))
theorem c95:∀ i,i<95→Okk Tryd.prog prog (·==0) out i:=okk_step c94 (okk_ok Tryd.func94 ok94)
theorem c96:∀ i,i<96→Okk Tryd.prog prog (·==0) out i:=okk_step c95 (okk_ok Tryd.func95 ok95)
theorem c97:∀ i,i<97→Okk Tryd.prog prog (·==0) out i:=okk_step c96 (okk_dead (by decide))
theorem c98:∀ i,i<98→Okk Tryd.prog prog (·==0) out i:=okk_step c97 (okk_dead (by decide))
theorem c99:∀ i,i<99→Okk Tryd.prog prog (·==0) out i:=okk_step c98 (okk_dead (by decide))
theorem c100:∀ i,i<100→Okk Tryd.prog prog (·==0) out i:=okk_step c99 (okk_dead (by decide))
theorem c101:∀ i,i<101→Okk Tryd.prog prog (·==0) out i:=okk_step c100 (okk_dead (by decide))
theorem c102:∀ i,i<102→Okk Tryd.prog prog (·==0) out i:=okk_step c101 (okk_ok Tryd.func101 ok101)
theorem c103:∀ i,i<103→Okk Tryd.prog prog (·==0) out i:=okk_step c102 (okk_dead (by decide))
theorem c104:∀ i,i<104→Okk Tryd.prog prog (·==0) out i:=okk_step c103 (okk_dead (by decide))
theorem c105:∀ i,i<105→Okk Tryd.prog prog (·==0) out i:=okk_step c104 (okk_dead (by decide))
theorem c106:∀ i,i<106→Okk Tryd.prog prog (·==0) out i:=okk_step c105 (okk_dead (by decide))
theorem c107:∀ i,i<107→Okk Tryd.prog prog (·==0) out i:=okk_step c106 (okk_ok Tryd.func106 ok106)
theorem c108:∀ i,i<108→Okk Tryd.prog prog (·==0) out i:=okk_step c107 (okk_dead (by decide))
theorem c109:∀ i,i<109→Okk Tryd.prog prog (·==0) out i:=okk_step c108 (okk_ok Tryd.func108 ok108)
theorem c110:∀ i,i<110→Okk Tryd.prog prog (·==0) out i:=okk_step c109 (okk_ok Tryd.func109 ok109)
theorem c111:∀ i,i<111→Okk Tryd.prog prog (·==0) out i:=okk_step c110 (okk_dead (by decide))
theorem c112:∀ i,i<112→Okk Tryd.prog prog (·==0) out i:=okk_step c111 (okk_dead (by decide))
theorem c113:∀ i,i<113→Okk Tryd.prog prog (·==0) out i:=okk_step c112 (okk_dead (by decide))
theorem c114:∀ i,i<114→Okk Tryd.prog prog (·==0) out i:=okk_step c113 (okk_dead (by decide))
theorem c115:∀ i,i<115→Okk Tryd.prog prog (·==0) out i:=okk_step c114 (okk_dead (by decide))
theorem c116:∀ i,i<116→Okk Tryd.prog prog (·==0) out i:=okk_step c115 (okk_dead (by decide))
theorem c117:∀ i,i<117→Okk Tryd.prog prog (·==0) out i:=okk_step c116 (okk_dead (by decide))
theorem c118:∀ i,i<118→Okk Tryd.prog prog (·==0) out i:=okk_step c117 (okk_dead (by decide))
theorem c119:∀ i,i<119→Okk Tryd.prog prog (·==0) out i:=okk_step c118 (okk_dead (by decide))
theorem c120:∀ i,i<120→Okk Tryd.prog prog (·==0) out i:=okk_step c119 (okk_dead (by decide))
theorem c121:∀ i,i<121→Okk Tryd.prog prog (·==0) out i:=okk_step c120 (okk_dead (by decide))
theorem c122:∀ i,i<122→Okk Tryd.prog prog (·==0) out i:=okk_step c121 (okk_dead (by decide))
theorem c123:∀ i,i<123→Okk Tryd.prog prog (·==0) out i:=okk_step c122 (okk_dead (by decide))
theorem c124:∀ i,i<124→Okk Tryd.prog prog (·==0) out i:=okk_step c123 (okk_dead (by decide))
theorem c125:∀ i,i<125→Okk Tryd.prog prog (·==0) out i:=okk_step c124 (okk_dead (by decide))
theorem c126:∀ i,i<126→Okk Tryd.prog prog (·==0) out i:=okk_step c125 (okk_dead (by decide))
theorem c127:∀ i,i<127→Okk Tryd.prog prog (·==0) out i:=okk_step c126 (okk_dead (by decide))
theorem c128:∀ i,i<128→Okk Tryd.prog prog (·==0) out i:=okk_step c127 (okk_dead (by decide))
theorem c129:∀ i,i<129→Okk Tryd.prog prog (·==0) out i:=okk_step c128 (okk_dead (by decide))
theorem c130:∀ i,i<130→Okk Tryd.prog prog (·==0) out i:=okk_step c129 (okk_dead (by decide))
theorem c131:∀ i,i<131→Okk Tryd.prog prog (·==0) out i:=okk_step c130 (okk_dead (by decide))
theorem ok_all (i:Nat) (fn:Func) (h:Tryd.prog.funcs[i]? = some fn) (hd:out i=false):fnB prog (·==0) fn=true:=by
 have hlt:i<131:=by have:=(Array.getElem?_eq_some_iff.1 h).1;rw [size] at this;exact this
 exact c131 i hlt fn h hd
theorem at_ {i:Nat} {f:Func} (h:Tryd.prog.funcs[i]? = some f):prog.funcs[i]? = some (gF i f):=Pt.wf_funcs _ h
theorem none_at (i:Nat) (h:Tryd.prog.funcs.size≤i):prog.funcs[i]? = none:=Pt.wf_funcs_none _ h
theorem gone_body (f:Func):(gone f).body=none:=rfl
theorem gone_name (f:Func):((gone f).name== "runtime.NumGoroutine")=false:=by kernel_rfl
theorem gone_next (f:Func):Extern.findNext (gone f)=none:=by kernel_rfl
theorem gone_find (f:Func):Extern.find (gone f)=none:=by kernel_rfl
theorem gone_init (f:Func):((gone f).name.endsWith ".init"&&!(gone f).name.startsWith "("&&!(gone f).name.startsWith "gosem.")=false:=by kernel_rfl
theorem dead_sp (i:Nat) (hd:dead i=true):i≠34∧i≠74:=by
 refine ⟨?_, ?_⟩ <;> (rintro rfl;revert hd;decide)
theorem gF_dead (i:Nat) (f:Func) (hd:dead i=true):gF i f=gone f:=by
 have h:=dead_sp i hd;simp only [gF,h.1,h.2,if_false,hd,if_true]
theorem dead_at (i:Nat) (h:i<Tryd.prog.funcs.size) (hd:dead i=true):∀ xs,DeadEnd prog (callFunc i xs) :=
 have h1:=at_ (Array.getElem?_eq_getElem h)
 dead_gone (h1.trans (congrArg some (gF_dead i _ hd))) (gone_name _) (gone_body _) (gone_next _) (gone_find _) (gone_init _)
theorem out_of (i:Nat) (hd:dead i=false) (h34:i≠34) (h74:i≠74):out i=false:=by simp [out,hd,h34,h74]
theorem gF_same (i:Nat) (f:Func) (hd:dead i=false) (h34:i≠34) (h74:i≠74):gF i f=f:=by simp [gF,hd,h34,h74]
theorem fnB_parts {fn:Func} (h:fnB prog (·==0) fn=true):(fn.name== "runtime.NumGoroutine")=false∧∃ c,fn.body=some c:=by
 simp only [fnB,Bool.and_eq_true,Bool.not_eq_true'] at h;refine ⟨h.1, ?_⟩;cases hb:fn.body with
 | none=>have h2:=h.2;rw [hb] at h2;cases h2
 | some c=>exact ⟨c,rfl⟩
theorem hglob:∀ g,(·==0) g=true→g=0:=fun g h=>by simpa using h
theorem at34:prog.funcs[34]? = some own34:=(at_ Tryd.func34).trans (by simp [gF])
theorem fp34:(Tryd.f34.name== "runtime.NumGoroutine")=false∧∃ c,Tryd.f34.body=some c:=⟨by kernel_rfl,_,rfl⟩
theorem at74:prog.funcs[74]? = some own74:=(at_ Tryd.func74).trans (by simp [gF])
theorem fp74:(Tryd.f74.name== "runtime.NumGoroutine")=false∧∃ c,Tryd.f74.body=some c:=⟨by kernel_rfl,_,rfl⟩
theorem cut74:∃ c c',own74.body=some c∧Tryd.f74.body=some c'∧CRel prog (·=0) c c':=⟨_,_,rfl,rfl,fnB_cut hglob ok74 rfl rfl⟩
theorem funs:Funs prog Tryd.prog.funcs (·=0) (·=34):=funs_of2 (zero_of types_ok) hglob dead_at none_at (fun i fn h hd=>by
 by_cases h34:i=34
 · subst h34
   obtain rfl:=Option.some.inj (Tryd.func34.symm.trans h);obtain ⟨k1,c,k2⟩:=fnB_parts ok34;obtain ⟨k3,c',k4⟩:=fp34;exact ⟨own34,at34,k1,k3,c,c',k2,k4,.inl rfl⟩
 by_cases h74:i=74
 · subst h74
   obtain rfl:=Option.some.inj (Tryd.func74.symm.trans h);obtain ⟨c,c',k1,k2,k3⟩:=cut74;exact ⟨own74,at74,(fnB_parts ok74).1,fp74.1,c,c',k1,k2,.inr ⟨rfl,rfl,k3⟩⟩
 have hok:=ok_all i fn h (out_of i hd h34 h74);obtain ⟨k1,c,k2⟩:=fnB_parts hok;exact ⟨fn,(at_ h).trans (congrArg some (gF_same i fn hd h34 h74)),k1,k1,c,c,k2,k2,.inr ⟨rfl,rfl,Pt.fnB_crel hglob hok k2⟩⟩)
theorem size_self:prog.funcs.size=Tryd.prog.funcs.size:=by simp [prog,Pt.wf]
theorem self:Funs prog prog.funcs (·=0) (fun _=>False):=funs_of2 (zero_of types_ok) hglob (fun i h hd=>dead_at i (size_self ▸ h) hd) (fun i h=>none_at i (size_self ▸ h)) (fun i fn h hd=>by
 by_cases h34:i=34
 · subst h34
   obtain rfl:=Option.some.inj (at34.symm.trans h);obtain ⟨k1,c,k2⟩:=fnB_parts ok34;exact ⟨own34,at34,k1,k1,c,c,k2,k2,.inr ⟨rfl,rfl,Pt.fnB_crel hglob ok34 k2⟩⟩
 by_cases h74:i=74
 · subst h74
   obtain rfl:=Option.some.inj (at74.symm.trans h);obtain ⟨k1,c,k2⟩:=fnB_parts ok74;exact ⟨own74,at74,k1,k1,c,c,k2,k2,.inr ⟨rfl,rfl,Pt.fnB_crel hglob ok74 k2⟩⟩
 have hlt:i<Tryd.prog.funcs.size:=by
  rcases Nat.lt_or_ge i Tryd.prog.funcs.size with h1 | h1
  · exact h1
  · rw [none_at i h1] at h;cases h
 have h1:=Array.getElem?_eq_getElem hlt;have h2:=(at_ h1).trans (congrArg some (gF_same i _ hd h34 h74));obtain rfl:=Option.some.inj (h.symm.trans h2);have hok:=ok_all i _ h1 (out_of i hd h34 h74);obtain ⟨k1,c,k2⟩:=fnB_parts hok;exact ⟨_,h,k1,k1,c,c,k2,k2,.inr ⟨rfl,rfl,Pt.fnB_crel hglob hok k2⟩⟩)
@[simp] theorem run_typeInfo (t:TypeId) (w:World):Sem.run prog (typeInfo t) w=Sem.run Tryd.prog (typeInfo t) w:=Pt.wf_typeInfo _ _ t w
@[simp] theorem run_underlying (t:TypeId) (w:World):Sem.run prog (underlying t) w=Sem.run Tryd.prog (underlying t) w:=Pt.wf_underlying _ _ t w
@[simp] theorem run_isAgg (t:TypeId) (w:World):Sem.run prog (isAgg t) w=Sem.run Tryd.prog (isAgg t) w:=Pt.wf_isAgg _ _ t w
@[simp] theorem run_sizeOf (t:TypeId) (w:World):Sem.run prog (sizeOf t) w=Sem.run Tryd.prog (sizeOf t) w:=Pt.wf_sizeOf _ _ t w
@[simp] theorem run_zeroValue (t:TypeId) (w:World):Sem.run prog (zeroValue t) w=Sem.run Tryd.prog (zeroValue t) w:=Pt.wf_zeroValue _ _ t w
@[simp] theorem p_underlying (t:TypeId):prog.underlying t=Tryd.prog.underlying t:=Pt.wf_punderlying _ _ t
@[simp] theorem p_info (t:TypeId):prog.info? t=Tryd.prog.info? t:=Pt.wf_pinfo _ _ t
@[simp] theorem p_rt:prog.rt=Tryd.prog.rt:=Pt.wf_prt _ _
@[simp] theorem p_globals:prog.globals=Tryd.prog.globals:=Pt.wf_pglobals _ _
theorem func3:prog.funcs[3]? = some Tryd.f3:=Pt.wf_funcs _ Tryd.func3
@[simp] theorem call3 (args:Array Value) (w:World):Sem.run prog (callFunc 3 args) w=.ok (.enter 3 args) w:=MuLone.run_callFunc_enter func3 rfl rfl args w
theorem func4:prog.funcs[4]? = some Tryd.f4:=Pt.wf_funcs _ Tryd.func4
@[simp] theorem call4 (args:Array Value) (w:World):Sem.run prog (callFunc 4 args) w=.ok (.enter 4 args) w:=MuLone.run_callFunc_enter func4 rfl rfl args w
theorem func5:prog.funcs[5]? = some Tryd.f5:=Pt.wf_funcs _ Tryd.func5
@[simp] theorem call5 (args:Array Value) (w:World):Sem.run prog (callFunc 5 args) w=.ok (.enter 5 args) w:=MuLone.run_callFunc_enter func5 rfl rfl args w
theorem func6:prog.funcs[6]? = some Tryd.f6:=Pt.wf_funcs _ Tryd.func6
@[simp] theorem call6 (args:Array Value) (w:World):Sem.run prog (callFunc 6 args) w=.ok (.enter 6 args) w:=MuLone.run_callFunc_enter func6 rfl rfl args w
theorem func7:prog.funcs[7]? = some Tryd.f7:=Pt.wf_funcs _ Tryd.func7
@[simp] theorem call7 (args:Array Value) (w:World):Sem.run prog (callFunc 7 args) w=.ok (.enter 7 args) w:=MuLone.run_callFunc_enter func7 rfl rfl args w
theorem func8:prog.funcs[8]? = some Tryd.f8:=Pt.wf_funcs _ Tryd.func8
@[simp] theorem call8 (args:Array Value) (w:World):Sem.run prog (callFunc 8 args) w=.ok (.enter 8 args) w:=MuLone.run_callFunc_enter func8 rfl rfl args w
theorem func9:prog.funcs[9]? = some Tryd.f9:=Pt.wf_funcs _ Tryd.func9
@[simp] theorem call9 (args:Array Value) (w:World):Sem.run prog (callFunc 9 args) w=.ok (.enter 9 args) w:=MuLone.run_callFunc_enter func9 rfl rfl args w
theorem func10:prog.funcs[10]? = some Tryd.f10:=Pt.wf_funcs _ Tryd.func10
@[simp] theorem call10 (args:Array Value) (w:World):Sem.run prog (callFunc 10 args) w=.ok (.enter 10 args) w:=MuLone.run_callFunc_enter func10 rfl rfl args w
theorem func11:prog.funcs[11]? = some Tryd.f11:=Pt.wf_funcs _ Tryd.func11
@[simp] theorem call11 (args:Array Value) (w:World):Sem.run prog (callFunc 11 args) w=.ok (.enter 11 args) w:=MuLone.run_callFunc_enter func11 rfl rfl args w
theorem func12:prog.funcs[12]? = some Tryd.f12:=Pt.wf_funcs _ Tryd.func12
@[simp] theorem call12 (args:Array Value) (w:World):Sem.run prog (callFunc 12 args) w=.ok (.enter 12 args) w:=MuLone.run_callFunc_enter func12 rfl rfl args w
theorem func13:prog.funcs[13]? = some Tryd.f13:=Pt.wf_funcs _ Tryd.func13
@[simp] theorem call13 (args:Array Value) (w:World):Sem.run prog (callFunc 13 args) w=.ok (.enter 13 args) w:=MuLone.run_callFunc_enter func13 rfl rfl args w
theorem func14:prog.funcs[14]? = some Tryd.f14:=Pt.wf_funcs _ Tryd.func14
@[simp] theorem call14 (args:Array Value) (w:World):Sem.run prog (callFunc 14 args) w=.ok (.enter 14 args) w:=MuLone.run_callFunc_enter func14 rfl rfl args w
theorem func15:prog.funcs[15]? = some Tryd.f15:=Pt.wf_funcs _ Tryd.func15
@[simp] theorem call15 (args:Array Value) (w:World):Sem.run prog (callFunc 15 args) w=.ok (.enter 15 args) w:=MuLone.run_callFunc_enter func15 rfl rfl args w
theorem func16:prog.funcs[16]? = some Tryd.f16:=Pt.wf_funcs _ Tryd.func16
@[simp] theorem call16 (args:Array Value) (w:World):Sem.run prog (callFunc 16 args) w=.ok (.enter 16 args) w:=MuLone.run_callFunc_enter func16 rfl rfl args w
theorem func17:prog.funcs[17]? = some Tryd.f17:=Pt.wf_funcs _ Tryd.func17
@[simp] theorem call17 (args:Array Value) (w:World):Sem.run prog (callFunc 17 args) w=.ok (.enter 17 args) w:=MuLone.run_callFunc_enter func17 rfl rfl args w
theorem func18:prog.funcs[18]? = some Tryd.f18:=Pt.wf_funcs _ Tryd.func18
@[simp] theorem call18 (args:Array Value) (w:World):Sem.run prog (callFunc 18 args) w=.ok (.enter 18 args) w:=MuLone.run_callFunc_enter func18 rfl rfl args w
theorem func19:prog.funcs[19]? = some Tryd.f19:=Pt.wf_funcs _ Tryd.func19
@[simp] theorem call19 (args:Array Value) (w:World):Sem.run prog (callFunc 19 args) w=.ok (.enter 19 args) w:=MuLone.run_callFunc_enter func19 rfl rfl args w
theorem func20:prog.funcs[20]? = some Tryd.f20:=Pt.wf_funcs _ Tryd.func20
@[simp] theorem call20 (args:Array Value) (w:World):Sem.run prog (callFunc 20 args) w=.ok (.enter 20 args) w:=MuLone.run_callFunc_enter func20 rfl rfl args w
theorem func21:prog.funcs[21]? = some Tryd.f21:=Pt.wf_funcs _ Tryd.func21
@[simp] theorem call21 (args:Array Value) (w:World):Sem.run prog (callFunc 21 args) w=.ok (.enter 21 args) w:=MuLone.run_callFunc_enter func21 rfl rfl args w
theorem func22:prog.funcs[22]? = some Tryd.f22:=Pt.wf_funcs _ Tryd.func22
@[simp] theorem call22 (args:Array Value) (w:World):Sem.run prog (callFunc 22 args) w=.ok (.enter 22 args) w:=MuLone.run_callFunc_enter func22 rfl rfl args w
theorem func23:prog.funcs[23]? = some Tryd.f23:=Pt.wf_funcs _ Tryd.func23
@[simp] theorem call23 (args:Array Value) (w:World):Sem.run prog (callFunc 23 args) w=.ok (.enter 23 args) w:=MuLone.run_callFunc_enter func23 rfl rfl args w
theorem func24:prog.funcs[24]? = some Tryd.f24:=Pt.wf_funcs _ Tryd.func24
@[simp] theorem call24 (args:Array Value) (w:World):Sem.run prog (callFunc 24 args) w=.ok (.enter 24 args) w:=MuLone.run_callFunc_enter func24 rfl rfl args w
theorem func25:prog.funcs[25]? = some Tryd.f25:=Pt.wf_funcs _ Tryd.func25
@[simp] theorem call25 (args:Array Value) (w:World):Sem.run prog (callFunc 25 args) w=.ok (.enter 25 args) w:=MuLone.run_callFunc_enter func25 rfl rfl args w
theorem func26:prog.funcs[26]? = some Tryd.f26:=Pt.wf_funcs _ Tryd.func26
@[simp] theorem call26 (args:Array Value) (w:World):Sem.run prog (callFunc 26 args) w=.ok (.enter 26 args) w:=MuLone.run_callFunc_enter func26 rfl rfl args w
theorem func27:prog.funcs[27]? = some Tryd.f27:=Pt.wf_funcs _ Tryd.func27
@[simp] theorem call27 (args:Array Value) (w:World):Sem.run prog (callFunc 27 args) w=.ok (.enter 27 args) w:=MuLone.run_callFunc_enter func27 rfl rfl args w
theorem func28:prog.funcs[28]? = some Tryd.f28:=Pt.wf_funcs _ Tryd.func28
@[simp] theorem call28 (args:Array Value) (w:World):Sem.run prog (callFunc 28 args) w=.ok (.enter 28 args) w:=MuLone.run_callFunc_enter func28 rfl rfl args w
theorem func29:prog.funcs[29]? = some Tryd.f29:=Pt.wf_funcs _ Tryd.func29
@[simp] theorem call29 (args:Array Value) (w:World):Sem.run prog (callFunc 29 args) w=.ok (.enter 29 args) w:=MuLone.run_callFunc_enter func29 rfl rfl args w
theorem func30:prog.funcs[30]? = some Tryd.f30:=Pt.wf_funcs _ Tryd.func30
@[simp] theorem call30 (args:Array Value) (w:World):Sem.run prog (callFunc 30 args) w=.ok (.enter 30 args) w:=MuLone.run_callFunc_enter func30 rfl rfl args w
theorem func31:prog.funcs[31]? = some Tryd.f31:=Pt.wf_funcs _ Tryd.func31
@[simp] theorem call31 (args:Array Value) (w:World):Sem.run prog (callFunc 31 args) w=.ok (.enter 31 args) w:=MuLone.run_callFunc_enter func31 rfl rfl args w
theorem func32:prog.funcs[32]? = some Tryd.f32:=Pt.wf_funcs _ Tryd.func32
@[simp] theorem call32 (args:Array Value) (w:World):Sem.run prog (callFunc 32 args) w=.ok (.enter 32 args) w:=MuLone.run_callFunc_enter func32 rfl rfl args w
theorem func33:prog.funcs[33]? = some Tryd.f33:=Pt.wf_funcs _ Tryd.func33
@[simp] theorem call33 (args:Array Value) (w:World):Sem.run prog (callFunc 33 args) w=.ok (.enter 33 args) w:=MuLone.run_callFunc_enter func33 rfl rfl args w
theorem func35:prog.funcs[35]? = some Tryd.f35:=Pt.wf_funcs _ Tryd.func35
@[simp] theorem call35 (args:Array Value) (w:World):Sem.run prog (callFunc 35 args) w=.ok (.enter 35 args) w:=MuLone.run_callFunc_enter func35 rfl rfl args w
theorem func36:prog.funcs[36]? = some Tryd.f36:=Pt.wf_funcs _ Tryd.func36
@[simp] theorem call36 (args:Array Value) (w:World):Sem.run prog (callFunc 36 args) w=.ok (.enter 36 args) w:=MuLone.run_callFunc_enter func36 rfl rfl args w
theorem func37:prog.funcs[37]? = some Tryd.f37:=Pt.wf_funcs _ Tryd.func37
@[simp] theorem call37 (args:Array Value) (w:World):Sem.run prog (callFunc 37 args) w=.ok (.enter 37 args) w:=MuLone.run_callFunc_enter func37 rfl rfl args w
theorem func38:prog.funcs[38]? = some Tryd.f38:=Pt.wf_funcs _ Tryd.func38
@[simp] theorem call38 (args:Array Value) (w:World):Sem.run prog (callFunc 38 args) w=.ok (.enter 38 args) w:=MuLone.run_callFunc_enter func38 rfl rfl args w
theorem func39:prog.funcs[39]? = some Tryd.f39:=Pt.wf_funcs _ Tryd.func39
@[simp] theorem call39 (args:Array Value) (w:World):Sem.run prog (callFunc 39 args) w=.ok (.enter 39 args) w:=MuLone.run_callFunc_enter func39 rfl rfl args w
theorem func40:prog.funcs[40]? = some Tryd.f40:=Pt.wf_funcs _ Tryd.func40
@[simp] theorem call40 (args:Array Value) (w:World):Sem.run prog (callFunc 40 args) w=.ok (.enter 40 args) w:=MuLone.run_callFunc_enter func40 rfl rfl args w
theorem func41:prog.funcs[41]? = some Tryd.f41:=Pt.wf_funcs _ Tryd.func41
@[simp] theorem call41 (args:Array Value) (w:World):Sem.run prog (callFunc 41 args) w=.ok (.enter 41 args) w:=MuLone.run_callFunc_enter func41 rfl rfl args w
theorem func42:prog.funcs[42]? = some Tryd.f42:=Pt.wf_funcs _ Tryd.func42
@[simp] theorem call42 (args:Array Value) (w:World):Sem.run prog (callFunc 42 args) w=.ok (.enter 42 args) w:=MuLone.run_callFunc_enter func42 rfl rfl args w
theorem func43:prog.funcs[43]? = some Tryd.f43:=Pt.wf_funcs _ Tryd.func43
@[simp] theorem call43 (args:Array Value) (w:World):Sem.run prog (callFunc 43 args) w=.ok (.enter 43 args) w:=MuLone.run_callFunc_enter func43 rfl rfl args w
theorem func44:prog.funcs[44]? = some Tryd.f44:=Pt.wf_funcs _ Tryd.func44
@[simp] theorem call44 (args:Array Value) (w:World):Sem.run prog (callFunc 44 args) w=.ok (.enter 44 args) w:=MuLone.run_callFunc_enter func44 rfl rfl args w
theorem func45:prog.funcs[45]? = some Tryd.f45:=Pt.wf_funcs _ Tryd.func45
@[simp] theorem call45 (args:Array Value) (w:World):Sem.run prog (callFunc 45 args) w=.ok (.enter 45 args) w:=MuLone.run_callFunc_enter func45 rfl rfl args w
theorem func46:prog.funcs[46]? = some Tryd.f46:=Pt.wf_funcs _ Tryd.func46
@[simp] theorem call46 (args:Array Value) (w:World):Sem.run prog (callFunc 46 args) w=.ok (.enter 46 args) w:=MuLone.run_callFunc_enter func46 rfl rfl args w
theorem func47:prog.funcs[47]? = some Tryd.f47:=Pt.wf_funcs _ Tryd.func47
@[simp] theorem call47 (args:Array Value) (w:World):Sem.run prog (callFunc 47 args) w=.ok (.enter 47 args) w:=MuLone.run_callFunc_enter func47 rfl rfl args w
theorem func48:prog.funcs[48]? = some Tryd.f48:=Pt.wf_funcs _ Tryd.func48
@[simp] theorem call48 (args:Array Value) (w:World):Sem.run prog (callFunc 48 args) w=.ok (.enter 48 args) w:=MuLone.run_callFunc_enter func48 rfl rfl args w
theorem func49:prog.funcs[49]? = some Tryd.f49:=Pt.wf_funcs _ Tryd.func49
@[simp] theorem call49 (args:Array Value) (w:World):Sem.run prog (callFunc 49 args) w=.ok (.enter 49 args) w:=MuLone.run_callFunc_enter func49 rfl rfl args w
theorem func50:prog.funcs[50]? = some Tryd.f50:=Pt.wf_funcs _ Tryd.func50
@[simp] theorem call50 (args:Array Value) (w:World):Sem.run prog (callFunc 50 args) w=.ok (.enter 50 args) w:=MuLone.run_callFunc_enter func50 rfl rfl args w
theorem func51:prog.funcs[51]? = some Tryd.f51:=Pt.wf_funcs _ Tryd.func51
@[simp] theorem call51 (args:Array Value) (w:World):Sem.run prog (callFunc 51 args) w=.ok (.enter 51 args) w:=MuLone.run_callFunc_enter func51 rfl rfl args w
theorem func52:prog.funcs[52]? = some Tryd.f52:=Pt.wf_funcs _ Tryd.func52
@[simp] theorem call52 (args:Array Value) (w:World):Sem.run prog (callFunc 52 args) w=.ok (.enter 52 args) w:=MuLone.run_callFunc_enter func52 rfl rfl args w
theorem func53:prog.funcs[53]? = some Tryd.f53:=Pt.wf_funcs _ Tryd.func53
@[simp] theorem call53 (args:Array Value) (w:World):Sem.run prog (callFunc 53 args) w=.ok (.enter 53 args) w:=MuLone.run_callFunc_enter func53 rfl rfl args w
theorem func54:prog.funcs[54]? = some Tryd.f54:=Pt.wf_funcs _ Tryd.func54
@[simp] theorem call54 (args:Array Value) (w:World):Sem.run prog (callFunc 54 args) w=.ok (.enter 54 args) w:=MuLone.run_callFunc_enter func54 rfl rfl args w
theorem func55:prog.funcs[55]? = some Tryd.f55:=Pt.wf_funcs _ Tryd.func55
@[simp] theorem call55 (args:Array Value) (w:World):Sem.run prog (callFunc 55 args) w=.ok (.enter 55 args) w:=MuLone.run_callFunc_enter func55 rfl rfl args w
theorem func56:prog.funcs[56]? = some Tryd.f56:=Pt.wf_funcs _ Tryd.func56
@[simp] theorem call56 (args:Array Value) (w:World):Sem.run prog (callFunc 56 args) w=.ok (.enter 56 args) w:=MuLone.run_callFunc_enter func56 rfl rfl args w
theorem func57:prog.funcs[57]? = some Tryd.f57:=Pt.wf_funcs _ Tryd.func57
@[simp] theorem call57 (args:Array Value) (w:World):Sem.run prog (callFunc 57 args) w=.ok (.enter 57 args) w:=MuLone.run_callFunc_enter func57 rfl rfl args w
theorem func58:prog.funcs[58]? = some Tryd.f58:=Pt.wf_funcs _ Tryd.func58
@[simp] theorem call58 (args:Array Value) (w:World):Sem.run prog (callFunc 58 args) w=.ok (.enter 58 args) w:=MuLone.run_callFunc_enter func58 rfl rfl args w
theorem func59:prog.funcs[59]? = some Tryd.f59:=Pt.wf_funcs _ Tryd.func59
@[simp] theorem call59 (args:Array Value) (w:World):Sem.run prog (callFunc 59 args) w=.ok (.enter 59 args) w:=MuLone.run_callFunc_enter func59 rfl rfl args w
theorem func60:prog.funcs[60]? = some Tryd.f60:=Pt.wf_funcs _ Tryd.func60
@[simp] theorem call60 (args:Array Value) (w:World):Sem.run prog (callFunc 60 args) w=.ok (.enter 60 args) w:=MuLone.run_callFunc_enter func60 rfl rfl args w
theorem func61:prog.funcs[61]? = some Tryd.f61:=Pt.wf_funcs _ Tryd.func61
@[simp] theorem call61 (args:Array Value) (w:World):Sem.run prog (callFunc 61 args) w=.ok (.enter 61 args) w:=MuLone.run_callFunc_enter func61 rfl rfl args w
theorem func62:prog.funcs[62]? = some Tryd.f62:=Pt.wf_funcs _ Tryd.func62
@[simp] theorem call62 (args:Array Value) (w:World):Sem.run prog (callFunc 62 args) w=.ok (.enter 62 args) w:=MuLone.run_callFunc_enter func62 rfl rfl args w
theorem func66:prog.funcs[66]? = some Tryd.f66:=Pt.wf_funcs _ Tryd.func66
@[simp] theorem call66 (args:Array Value) (w:World):Sem.run prog (callFunc 66 args) w=.ok (.enter 66 args) w:=MuLone.run_callFunc_enter func66 rfl rfl args w
theorem func68:prog.funcs[68]? = some Tryd.f68:=Pt.wf_funcs _ Tryd.func68
@[simp] theorem call68 (args:Array Value) (w:World):Sem.run prog (callFunc 68 args) w=.ok (.enter 68 args) w:=MuLone.run_callFunc_enter func68 rfl rfl args w
theorem func69:prog.funcs[69]? = some Tryd.f69:=Pt.wf_funcs _ Tryd.func69
@[simp] theorem call69 (args:Array Value) (w:World):Sem.run prog (callFunc 69 args) w=.ok (.enter 69 args) w:=MuLone.run_callFunc_enter func69 rfl rfl args w
theorem func70:prog.funcs[70]? = some Tryd.f70:=Pt.wf_funcs _ Tryd.func70
@[simp] theorem call70 (args:Array Value) (w:World):Sem.run prog (callFunc 70 args) w=.ok (.enter 70 args) w:=MuLone.run_callFunc_enter func70 rfl rfl args w
theorem func71:prog.funcs[71]? = some Tryd.f71:=Pt.wf_funcs _ Tryd.func71
@[simp] theorem call71 (args:Array Value) (w:World):Sem.run prog (callFunc 71 args) w=.ok (.enter 71 args) w:=MuLone.run_callFunc_enter func71 rfl rfl args w
theorem func72:prog.funcs[72]? = some Tryd.f72:=Pt.wf_funcs _ Tryd.func72
@[simp] theorem call72 (args:Array Value) (w:World):Sem.run prog (callFunc 72 args) w=.ok (.enter 72 args) w:=MuLone.run_callFunc_enter func72 rfl rfl args w
theorem func73:prog.funcs[73]? = some Tryd.f73:=Pt.wf_funcs _ Tryd.func73
@[simp] theorem call73 (args:Array Value) (w:World):Sem.run prog (callFunc 73 args) w=.ok (.enter 73 args) w:=MuLone.run_callFunc_enter func73 rfl rfl args w
theorem func75:prog.funcs[75]? = some Tryd.f75:=Pt.wf_funcs _ Tryd.func75
@[simp] theorem call75 (args:Array Value) (w:World):Sem.run prog (callFunc 75 args) w=.ok (.enter 75 args) w:=MuLone.run_callFunc_enter func75 rfl rfl args w
theorem func76:prog.funcs[76]? = some Tryd.f76:=Pt.wf_funcs _ Tryd.func76
@[simp] theorem call76 (args:Array Value) (w:World):Sem.run prog (callFunc 76 args) w=.ok (.enter 76 args) w:=MuLone.run_callFunc_enter func76 rfl rfl args w
theorem func77:prog.funcs[77]? = some Tryd.f77:=Pt.wf_funcs _ Tryd.func77
@[simp] theorem call77 (args:Array Value) (w:World):Sem.run prog (callFunc 77 args) w=.ok (.enter 77 args) w:=MuLone.run_callFunc_enter func77 rfl rfl args w
theorem func78:prog.funcs[78]? = some Tryd.f78:=Pt.wf_funcs _ Tryd.func78
@[simp] theorem call78 (args:Array Value) (w:World):Sem.run prog (callFunc 78 args) w=.ok (.enter 78 args) w:=MuLone.run_callFunc_enter func78 rfl rfl args w
theorem func79:prog.funcs[79]? = some Tryd.f79:=Pt.wf_funcs _ Tryd.func79
@[simp] theorem call79 (args:Array Value) (w:World):Sem.run prog (callFunc 79 args) w=.ok (.enter 79 args) w:=MuLone.run_callFunc_enter func79 rfl rfl args w
theorem func80:prog.funcs[80]? = some Tryd.f80:=Pt.wf_funcs _ Tryd.func80
@[simp] theorem call80 (args:Array Value) (w:World):Sem.run prog (callFunc 80 args) w=.ok (.enter 80 args) w:=MuLone.run_callFunc_enter func80 rfl rfl args w
theorem func94:prog.funcs[94]? = some Tryd.f94:=Pt.wf_funcs _ Tryd.func94
@[simp] theorem call94 (args:Array Value) (w:World):Sem.run prog (callFunc 94 args) w=.ok (.enter 94 args) w:=MuLone.run_callFunc_enter func94 rfl rfl args w
theorem func95:prog.funcs[95]? = some Tryd.f95:=Pt.wf_funcs _ Tryd.func95
@[simp] theorem call95 (args:Array Value) (w:World):Sem.run prog (callFunc 95 args) w=.ok (.enter 95 args) w:=MuLone.run_callFunc_enter func95 rfl rfl args w
theorem func101:prog.funcs[101]? = some Tryd.f101:=Pt.wf_funcs _ Tryd.func101
@[simp] theorem call101 (args:Array Value) (w:World):Sem.run prog (callFunc 101 args) w=.ok (.enter 101 args) w:=MuLone.run_callFunc_enter func101 rfl rfl args w
theorem func106:prog.funcs[106]? = some Tryd.f106:=Pt.wf_funcs _ Tryd.func106
@[simp] theorem call106 (args:Array Value) (w:World):Sem.run prog (callFunc 106 args) w=.ok (.enter 106 args) w:=MuLone.run_callFunc_enter func106 rfl rfl args w
theorem func108:prog.funcs[108]? = some Tryd.f108:=Pt.wf_funcs _ Tryd.func108
@[simp] theorem call108 (args:Array Value) (w:World):Sem.run prog (callFunc 108 args) w=.ok (.enter 108 args) w:=MuLone.run_callFunc_enter func108 rfl rfl args w
theorem func109:prog.funcs[109]? = some Tryd.f109:=Pt.wf_funcs _ Tryd.func109
@[simp] theorem call109 (args:Array Value) (w:World):Sem.run prog (callFunc 109 args) w=.ok (.enter 109 args) w:=MuLone.run_callFunc_enter func109 rfl rfl args w
@[simp] theorem call34 (args:Array Value) (w:World):Sem.run prog (callFunc 34 args) w=.ok (.enter 34 args) w:=MuLone.run_callFunc_enter at34 (by kernel_rfl) rfl args w
@[simp] theorem call74 (args:Array Value) (w:World):Sem.run prog (callFunc 74 args) w=.ok (.enter 74 args) w:=MuLone.run_callFunc_enter at74 (by kernel_rfl) rfl args w
theorem ntmps6:Tryd.f6.ntmps=172:=Tryd.ntmps6
theorem results6:Tryd.f6.results=#[Go.ResultVar.tmp 6]:=Tryd.results6
theorem ntmps9:Tryd.f9.ntmps=15:=Tryd.ntmps9
theorem results9:Tryd.f9.results=#[Go.ResultVar.tmp 0]:=Tryd.results9
theorem ntmps10:Tryd.f10.ntmps=44:=Tryd.ntmps10
theorem results10:Tryd.f10.results=#[Go.ResultVar.tmp 8,Go.ResultVar.tmp 9]:=Tryd.results10
theorem ntmps14:Tryd.f14.ntmps=37:=Tryd.ntmps14
theorem results14:Tryd.f14.results=#[Go.ResultVar.tmp 4,Go.ResultVar.tmp 5]:=Tryd.results14
theorem ntmps21:Tryd.f21.ntmps=41:=Tryd.ntmps21
theorem results21:Tryd.f21.results=#[Go.ResultVar.tmp 4]:=Tryd.results21
theorem ntmps22:Tryd.f22.ntmps=11:=Tryd.ntmps22
theorem results22:Tryd.f22.results=#[Go.ResultVar.tmp 2,Go.ResultVar.tmp 3]:=Tryd.results22
theorem ntmps23:Tryd.f23.ntmps=53:=Tryd.ntmps23
theorem results23:Tryd.f23.results=#[Go.ResultVar.tmp 6,Go.ResultVar.tmp 7]:=Tryd.results23
theorem ntmps24:Tryd.f24.ntmps=30:=Tryd.ntmps24
theorem results24:Tryd.f24.results=#[Go.ResultVar.tmp 6,Go.ResultVar.tmp 7]:=Tryd.results24
theorem ntmps25:Tryd.f25.ntmps=17:=Tryd.ntmps25
theorem results25:Tryd.f25.results=#[Go.ResultVar.tmp 4]:=Tryd.results25
theorem ntmps29:Tryd.f29.ntmps=34:=Tryd.ntmps29
theorem results29:Tryd.f29.results=#[Go.ResultVar.tmp 8,Go.ResultVar.tmp 9]:=Tryd.results29
theorem ntmps30:Tryd.f30.ntmps=49:=Tryd.ntmps30
theorem results30:Tryd.f30.results=#[Go.ResultVar.cell 2 61,Go.ResultVar.tmp 3]:=Tryd.results30
theorem ntmps31:Tryd.f31.ntmps=17:=Tryd.ntmps31
theorem results31:Tryd.f31.results=#[Go.ResultVar.tmp 2]:=Tryd.results31
theorem ntmps32:Tryd.f32.ntmps=15:=Tryd.ntmps32
theorem results32:Tryd.f32.results=#[Go.ResultVar.tmp 6]:=Tryd.results32
theorem ntmps33:Tryd.f33.ntmps=32:=Tryd.ntmps33
theorem results33:Tryd.f33.results=#[Go.ResultVar.tmp 4,Go.ResultVar.tmp 5]:=Tryd.results33
theorem ntmps34:Tryd.f34.ntmps=22:=Tryd.ntmps34
theorem results34:Tryd.f34.results=#[Go.ResultVar.tmp 2]:=Tryd.results34
theorem ntmps35:Tryd.f35.ntmps=29:=Tryd.ntmps35
theorem results35:Tryd.f35.results=#[Go.ResultVar.tmp 10]:=Tryd.results35
theorem ntmps36:Tryd.f36.ntmps=9:=Tryd.ntmps36
theorem results36:Tryd.f36.results=#[Go.ResultVar.tmp 2]:=Tryd.results36
theorem ntmps38:Tryd.f38.ntmps=21:=Tryd.ntmps38
theorem results38:Tryd.f38.results=#[Go.ResultVar.tmp 6]:=Tryd.results38
theorem ntmps40:Tryd.f40.ntmps=14:=Tryd.ntmps40
theorem results40:Tryd.f40.results=#[Go.ResultVar.tmp 4]:=Tryd.results40
theorem ntmps41:Tryd.f41.ntmps=8:=Tryd.ntmps41
theorem results41:Tryd.f41.results=#[Go.ResultVar.tmp 2]:=Tryd.results41
theorem ntmps42:Tryd.f42.ntmps=27:=Tryd.ntmps42
theorem results42:Tryd.f42.results=#[Go.ResultVar.tmp 6]:=Tryd.results42
theorem ntmps43:Tryd.f43.ntmps=5:=Tryd.ntmps43
theorem results43:Tryd.f43.results=#[Go.ResultVar.tmp 2]:=Tryd.results43
theorem ntmps44:Tryd.f44.ntmps=4:=Tryd.ntmps44
theorem results44:Tryd.f44.results=#[Go.ResultVar.tmp 2]:=Tryd.results44
theorem ntmps50:Tryd.f50.ntmps=9:=Tryd.ntmps50
theorem results50:Tryd.f50.results=#[Go.ResultVar.tmp 4]:=Tryd.results50
theorem ntmps52:Tryd.f52.ntmps=20:=Tryd.ntmps52
theorem results52:Tryd.f52.results=#[Go.ResultVar.tmp 8]:=Tryd.results52
theorem ntmps54:Tryd.f54.ntmps=10:=Tryd.ntmps54
theorem results54:Tryd.f54.results=#[Go.ResultVar.tmp 2,Go.ResultVar.tmp 3]:=Tryd.results54
theorem ntmps55:Tryd.f55.ntmps=31:=Tryd.ntmps55
theorem results55:Tryd.f55.results=#[Go.ResultVar.tmp 8,Go.ResultVar.tmp 9]:=Tryd.results55
theorem ntmps56:Tryd.f56.ntmps=16:=Tryd.ntmps56
theorem results56:Tryd.f56.results=#[Go.ResultVar.tmp 4]:=Tryd.results56
theorem ntmps59:Tryd.f59.ntmps=14:=Tryd.ntmps59
theorem results59:Tryd.f59.results=#[Go.ResultVar.tmp 4]:=Tryd.results59
theorem ntmps60:Tryd.f60.ntmps=41:=Tryd.ntmps60
theorem results60:Tryd.f60.results=#[Go.ResultVar.tmp 8]:=Tryd.results60
theorem ntmps61:Tryd.f61.ntmps=35:=Tryd.ntmps61
theorem results61:Tryd.f61.results=#[Go.ResultVar.tmp 2]:=Tryd.results61
theorem ntmps62:Tryd.f62.ntmps=9:=Tryd.ntmps62
theorem results62:Tryd.f62.results=#[Go.ResultVar.tmp 2,Go.ResultVar.tmp 3]:=Tryd.results62
theorem ntmps66:Tryd.f66.ntmps=16:=Tryd.ntmps66
theorem results66:Tryd.f66.results=#[Go.ResultVar.tmp 4,Go.ResultVar.tmp 5]:=Tryd.results66
theorem ntmps68:Tryd.f68.ntmps=5:=Tryd.ntmps68
theorem results68:Tryd.f68.results=#[Go.ResultVar.tmp 2]:=Tryd.results68
theorem ntmps69:Tryd.f69.ntmps=26:=Tryd.ntmps69
theorem results69:Tryd.f69.results=#[Go.ResultVar.tmp 3]:=Tryd.results69
theorem ntmps70:Tryd.f70.ntmps=13:=Tryd.ntmps70
theorem results70:Tryd.f70.results=#[Go.ResultVar.tmp 4]:=Tryd.results70
theorem ntmps71:Tryd.f71.ntmps=14:=Tryd.ntmps71
theorem ntmps72:Tryd.f72.ntmps=14:=Tryd.ntmps72
theorem results72:Tryd.f72.results=#[Go.ResultVar.tmp 2]:=Tryd.results72
theorem ntmps75:Tryd.f75.ntmps=19:=Tryd.ntmps75
theorem results75:Tryd.f75.results=#[Go.ResultVar.tmp 4]:=Tryd.results75
theorem ntmps76:Tryd.f76.ntmps=20:=Tryd.ntmps76
theorem results76:Tryd.f76.results=#[Go.ResultVar.tmp 2]:=Tryd.results76
theorem ntmps78:Tryd.f78.ntmps=21:=Tryd.ntmps78
theorem results78:Tryd.f78.results=#[Go.ResultVar.tmp 8]:=Tryd.results78
theorem ntmps79:Tryd.f79.ntmps=16:=Tryd.ntmps79
theorem results79:Tryd.f79.results=#[Go.ResultVar.tmp 2]:=Tryd.results79
theorem ntmps80:Tryd.f80.ntmps=11:=Tryd.ntmps80
theorem results80:Tryd.f80.results=#[Go.ResultVar.tmp 2]:=Tryd.results80
theorem ntmps94:Tryd.f94.ntmps=15:=Tryd.ntmps94
theorem results94:Tryd.f94.results=#[Go.ResultVar.tmp 4]:=Tryd.results94
theorem ntmps95:Tryd.f95.ntmps=26:=Tryd.ntmps95
theorem results95:Tryd.f95.results=#[Go.ResultVar.tmp 4]:=Tryd.results95
theorem ntmps101:Tryd.f101.ntmps=9:=Tryd.ntmps101
theorem results101:Tryd.f101.results=#[Go.ResultVar.tmp 4]:=Tryd.results101
theorem ntmps106:Tryd.f106.ntmps=92:=Tryd.ntmps106
theorem results106:Tryd.f106.results=#[Go.ResultVar.tmp 8,Go.ResultVar.tmp 9]:=Tryd.results106
theorem ntmps108:Tryd.f108.ntmps=4:=Tryd.ntmps108
theorem results108:Tryd.f108.results=#[Go.ResultVar.tmp 2]:=Tryd.results108
theorem ntmps109:Tryd.f109.ntmps=30:=Tryd.ntmps109
theorem results109:Tryd.f109.results=#[Go.ResultVar.cell 4 150]:=Tryd.results109
open Go Go.Pt Go.RowKit
theorem ports2 (w:World):Calls prog 79 #[.int .i64 2] w fun e w'=>e=.returned (.bool true)∧w'=w:=by
 have b1:bits .and .i64 2 1=0:=by decide
 go_enter func79,ntmps79
 go_wp2;exact bodyPost_ret (v:=.bool true) (by simp [results,go_sem]) rfl ⟨rfl,rfl⟩
theorem ports4 (w:World):Calls prog 79 #[.int .i64 4] w fun e w'=>e=.returned (.bool true)∧w'=w:=by
 have b2:bits .and .i64 4 3=0:=by decide
 go_enter func79,ntmps79
 go_wp2;exact bodyPost_ret (v:=.bool true) (by simp [results,go_sem]) rfl ⟨rfl,rfl⟩
theorem count2 (w:World):Calls prog 80 #[.int .i64 2] w fun e w'=>e=.returned (.int .i64 1)∧w'=w:=by
 go_enter func80,ntmps80
 go_wp2;exact bodyPost_ret (v:=.int .i64 1) (by simp [results,go_sem]) rfl ⟨rfl,rfl⟩
theorem count4 (w:World):Calls prog 80 #[.int .i64 4] w fun e w'=>e=.returned (.int .i64 6)∧w'=w:=by
 go_enter func80,ntmps80
 go_wp2;exact bodyPost_ret (v:=.int .i64 6) (by simp [results,go_sem]) rfl ⟨rfl,rfl⟩
theorem bcount2 (w:World):Calls prog 62 #[.int .i64 2] w fun e w'=>e=.returned (.tuple #[.int .i64 1,.int .i64 0])∧w'=w:=by
 go_enter func62,ntmps62
 go_wp2_with fail
 refine (ports2 _).mono ?_;rintro e w' ⟨rfl,rfl⟩;go_wp2_with fail
 refine (count2 _).mono ?_;rintro e w' ⟨rfl,rfl⟩;go_wp2_with fail
 exact bodyPost_ret (v:=.tuple #[.int .i64 1,.int .i64 0]) (by simp [results,go_sem]) rfl ⟨rfl,rfl⟩
theorem bcount4 (w:World):Calls prog 62 #[.int .i64 4] w fun e w'=>e=.returned (.tuple #[.int .i64 6,.int .i64 0])∧w'=w:=by
 go_enter func62,ntmps62
 go_wp2_with fail
 refine (ports4 _).mono ?_;rintro e w' ⟨rfl,rfl⟩;go_wp2_with fail
 refine (count4 _).mono ?_;rintro e w' ⟨rfl,rfl⟩;go_wp2_with fail
 exact bodyPost_ret (v:=.tuple #[.int .i64 6,.int .i64 0]) (by simp [results,go_sem]) rfl ⟨rfl,rfl⟩
theorem pcount2 (w:World):Calls prog 31 #[.int .i64 2] w fun e w'=>e=.returned (.int .i64 1)∧w'=w:=by
 go_enter func31,ntmps31
 go_wp2_with fail
 refine (bcount2 _).mono ?_;rintro e w' ⟨rfl,rfl⟩;go_wp2_with fail
 exact bodyPost_ret (v:=.int .i64 1) (by simp [results,go_sem]) rfl ⟨rfl,rfl⟩
theorem pcount4 (w:World):Calls prog 31 #[.int .i64 4] w fun e w'=>e=.returned (.int .i64 6)∧w'=w:=by
 go_enter func31,ntmps31
 go_wp2_with fail
 refine (bcount4 _).mono ?_;rintro e w' ⟨rfl,rfl⟩;go_wp2_with fail
 exact bodyPost_ret (v:=.int .i64 6) (by simp [results,go_sem]) rfl ⟨rfl,rfl⟩
end Go.Proofs.Qm
