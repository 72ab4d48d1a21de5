/- Part of the theory of transport. No condition. -/
import Derived.Test.YtnceajabigdleaaDoorRows
import Derived.Conc.MuLone
import Derived.Test.YtnceajabigdleaaDoorPtS7
import Derived.BigRegion
import Derived.WalkKit
import Derived.BigQuiet
import Derived.Deep.QuietTactic
import Derived.Laws.BitsLemmas
namespace Go.Proofs.Ghw
open Go Go.Pt
noncomputable def gone (f:Func):Func:={ Tryd.f0 with name:= "gone",body:=none,results:=f.results,ntmps:=f.ntmps }
def dead (i:Nat):Bool:=[0,1,2,3,4,5,6,7,8,9,10,11,12,13,14,15,16,17,18,19,20,21,22,23,24,25,26,27,28,29,30,32,33,34,35,36,37,38,39,40,41,42,43,44,45,46,47,48,49,50,51,52,53,54,55,56,57,58,59,60,61,63,64,65,67,68,69,70,71,72,73,74,75,76,77,78,81,82,83,84,85,86,87,88,89,90,91,92,93,96,97,98,99,100,101,102,103,104,105,107,110,111,112,113,114,115,116,117,118,119,120,121,122,123,124,125,126,127,128,129,130].contains i
noncomputable def gF (i:Nat) (f:Func):Func:=if dead i then gone f else f
noncomputable def prog:Program:=Pt.wf Tryd.prog (Tryd.prog.funcs.mapIdx gF)
theorem types_ok:prog.types.toList.all (fun i=>match i.zero with | some v=>closedV v | none=>true)=true:=by kernel_rfl
theorem size:Tryd.prog.funcs.size=131:=by kernel_rfl
theorem ok31:fnB prog (fun _=>false) Tryd.f31=true:=by kernel_rfl
theorem ok62:fnB prog (fun _=>false) Tryd.f62=true:=by kernel_rfl
theorem ok66:fnB prog (fun _=>false) Tryd.f66=true:=by kernel_rfl
theorem ok79:fnB prog (fun _=>false) Tryd.f79=true:=by kernel_rfl
theorem ok80:fnB prog (fun _=>false) Tryd.f80=true:=by kernel_rfl
theorem ok94:fnB prog (fun _=>false) Tryd.f94=true:=by kernel_rfl
theorem ok95:fnB prog (fun _=>false) Tryd.f95=true:=by kernel_rfl
theorem ok106:fnB prog (fun _=>false) Tryd.f106=true:=by kernel_rfl
theorem ok108:fnB prog (fun _=>false) Tryd.f108=true:=by kernel_rfl
theorem ok109:fnB prog (fun _=>false) Tryd.f109=true:=by kernel_rfl
theorem c0:∀ i,i<0→Okk Tryd.prog prog (fun _=>false) dead i:=okk_zero
theorem c1:∀ i,i<1→Okk Tryd.prog prog (fun _=>false) dead i:=okk_step c0 (okk_dead (by decide))
theorem c2:∀ i,i<2→Okk Tryd.prog prog (fun _=>false) dead i:=okk_step c1 (okk_dead (by decide))
theorem c3:∀ i,i<3→Okk Tryd.prog prog (fun _=>false) dead i:=okk_step c2 (okk_dead (by decide))
theorem c4:∀ i,i<4→Okk Tryd.prog prog (fun _=>false) dead i:=okk_step c3 (okk_dead (by decide))
theorem c5:∀ i,i<5→Okk Tryd.prog prog (fun _=>false) dead i:=okk_step c4 (okk_dead (by decide))
theorem c6:∀ i,i<6→Okk Tryd.prog prog (fun _=>false) dead i:=okk_step c5 (okk_dead (by decide))
theorem c7:∀ i,i<7→Okk Tryd.prog prog (fun _=>false) dead i:=okk_step c6 (okk_dead (by decide))
theorem c8:∀ i,i<8→Okk Tryd.prog prog (fun _=>false) dead i:=okk_step c7 (okk_dead (by decide))
theorem c9:∀ i,i<9→Okk Tryd.prog prog (fun _=>false) dead i:=okk_step c8 (okk_dead (by decide))
theorem c10:∀ i,i<10→Okk Tryd.prog prog (fun _=>false) dead i:=okk_step c9 (okk_dead (by decide))
theorem c11:∀ i,i<11→Okk Tryd.prog prog (fun _=>false) dead i:=okk_step c10 (okk_dead (by decide))
theorem c12:∀ i,i<12→Okk Tryd.prog prog (fun _=>false) dead i:=okk_step c11 (okk_dead (by decide))
theorem c13:∀ i,i<13→Okk Tryd.prog prog (fun _=>false) dead i:=okk_step c12 (okk_dead (by decide))
theorem c14:∀ i,i<14→Okk Tryd.prog prog (fun _=>false) dead i:=okk_step c13 (okk_dead (by decide))
theorem c15:∀ i,i<15→Okk Tryd.prog prog (fun _=>false) dead i:=okk_step c14 (okk_dead (by decide))
theorem c16:∀ i,i<16→Okk Tryd.prog prog (fun _=>false) dead i:=okk_step c15 (okk_dead (by decide))
theorem c17:∀ i,i<17→Okk Tryd.prog prog (fun _=>false) dead i:=okk_step c16 (okk_dead (by decide))
theorem c18:∀ i,i<18→Okk Tryd.prog prog (fun _=>false) dead i:=okk_step c17 (okk_dead (by decide))
theorem c19:∀ i,i<19→Okk Tryd.prog prog (fun _=>false) dead i:=okk_step c18 (okk_dead (by decide))
theorem c20:∀ i,i<20→Okk Tryd.prog prog (fun _=>false) dead i:=okk_step c19 (okk_dead (by decide))
theorem c21:∀ i,i<21→Okk Tryd.prog prog (fun _=>false) dead i:=okk_step c20 (okk_dead (by decide))
theorem c22:∀ i,i<22→Okk Tryd.prog prog (fun _=>false) dead i:=okk_step c21 (okk_dead (by decide))
theorem c23:∀ i,i<23→Okk Tryd.prog prog (fun _=>false) dead i:=okk_step c22 (okk_dead (by decide))
theorem c24:∀ i,i<24→Okk Tryd.prog prog (fun _=>false) dead i:=okk_step c23 (okk_dead (by decide))
theorem c25:∀ i,i<25→Okk Tryd.prog prog (fun _=>false) dead i:=okk_step c24 (okk_dead (by decide))
theorem c26:∀ i,i<26→Okk Tryd.prog prog (fun _=>false) dead i:=okk_step c25 (okk_dead (by decide))
theorem c27:∀ i,i<27→Okk Tryd.prog prog (fun _=>false) dead i:=okk_step c26 (okk_dead (by decide))
theorem c28:∀ i,i<28→Okk Tryd.prog prog (fun _=>false) dead i:=okk_step c27 (okk_dead (by decide))
theorem c29:∀ i,i<29→Okk Tryd.prog prog (fun _=>false) dead i:=okk_step c28 (okk_dead (by decide))
theorem c30:∀ i,i<30→Okk Tryd.prog prog (fun _=>false) dead i:=okk_step c29 (okk_dead (by decide))
theorem c31:∀ i,i<31→Okk Tryd.prog prog (fun _=>false) dead i:=okk_step c30 (okk_dead (by decide))
theorem c32:∀ i,i<32→Okk Tryd.prog prog (fun _=>false) dead i:=okk_step c31 (okk_ok Tryd.func31 ok31)
theorem c33:∀ i,i<33→Okk Tryd.prog prog (fun _=>false) dead i:=okk_step c32 (okk_dead (by decide))
theorem c34:∀ i,i<34→Okk Tryd.prog prog (fun _=>false) dead i:=okk_step c33 (okk_dead (by decide))
theorem c35:∀ i,i<35→Okk Tryd.prog prog (fun _=>false) dead i:=okk_step c34 (okk_dead (by decide))
theorem c36:∀ i,i<36→Okk Tryd.prog prog (fun _=>false) dead i:=okk_step c35 (okk_dead (by decide))
theorem c37:∀ i,i<37→Okk Tryd.prog prog (fun _=>false) dead i:=okk_step c36 (okk_dead (by decide))
theorem c38:∀ i,i<38→Okk Tryd.prog prog (fun _=>false) dead i:=okk_step c37 (okk_dead (by decide))
theorem c39:∀ i,i<39→Okk Tryd.prog prog (fun _=>false) dead i:=okk_step c38 (okk_dead (by decide))
theorem c40:∀ i,i<40→Okk Tryd.prog prog (fun _=>false) dead i:=okk_step c39 (okk_dead (by decide))
theorem c41:∀ i,i<41→Okk Tryd.prog prog (fun _=>false) dead i:=okk_step c40 (okk_dead (by decide))
theorem c42:∀ i,i<42→Okk Tryd.prog prog (fun _=>false) dead i:=okk_step c41 (okk_dead (by decide))
theorem c43:∀ i,i<43→Okk Tryd.prog prog (fun _=>false) dead i:=okk_step c42 (okk_dead (by decide))
theorem c44:∀ i,i<44→Okk Tryd.prog prog (fun _=>false) dead i:=okk_step c43 (okk_dead (by decide))
theorem c45:∀ i,i<45→Okk Tryd.prog prog (fun _=>false) dead i:=okk_step c44 (okk_dead (by decide))
theorem c46:∀ i,i<46→Okk Tryd.prog prog (fun _=>false) dead i:=okk_step c45 (okk_dead (by decide))
theorem c47:∀ i,i<47→Okk Tryd.prog prog (fun _=>false) dead i:=okk_step c46 (okk_dead (by decide))
theorem c48:∀ i,i<48→Okk Tryd.prog prog (fun _=>false) dead i:=okk_step c47 (okk_dead (by decide))
theorem c49:∀ i,i<49→Okk Tryd.prog prog (fun _=>false) dead i:=okk_step c48 (okk_dead (by decide))
theorem c50:∀ i,i<50→Okk Tryd.prog prog (fun _=>false) dead i:=okk_step c49 (okk_dead (by decide))
theorem c51:∀ i,i<51→Okk Tryd.prog prog (fun _=>false) dead i:=okk_step c50 (okk_dead (by decide))
theorem c52:∀ i,i<52→Okk Tryd.prog prog (fun _=>false) dead i:=okk_step c51 (okk_dead (by decide))
theorem c53:∀ i,i<53→Okk Tryd.prog prog (fun _=>false) dead i:=okk_step c52 (okk_dead (by decide))
theorem c54:∀ i,i<54→Okk Tryd.prog prog (fun _=>false) dead i:=okk_step c53 (okk_dead (by decide))
theorem c55:∀ i,i<55→Okk Tryd.prog prog (fun _=>false) dead i:=okk_step c54 (okk_dead (by decide))
theorem c56:∀ i,i<56→Okk Tryd.prog prog (fun _=>false) dead i:=okk_step c55 (okk_dead (by decide))
theorem c57:∀ i,i<57→Okk Tryd.prog prog (fun _=>false) dead i:=okk_step c56 (okk_dead (by decide))
theorem c58:∀ i,i<58→Okk Tryd.prog prog (fun _=>false) dead i:=okk_step c57 (okk_dead (by decide))
theorem c59:∀ i,i<59→Okk Tryd.prog prog (fun _=>false) dead i:=okk_step c58 (okk_dead (by decide))
theorem c60:∀ i,i<60→Okk Tryd.prog prog (fun _=>false) dead i:=okk_step c59 (okk_dead (by decide))
theorem c61:∀ i,i<61→Okk Tryd.prog prog (fun _=>false) dead i:=okk_step c60 (okk_dead (by decide))
theorem c62:∀ i,i<62→Okk Tryd.prog prog (fun _=>false) dead i:=okk_step c61 (okk_dead (by decide))
theorem c63:∀ i,i<63→Okk Tryd.prog prog (fun _=>false) dead i:=okk_step c62 (okk_ok Tryd.func62 ok62)
theorem c64:∀ i,i<64→Okk Tryd.prog prog (fun _=>false) dead i:=okk_step c63 (okk_dead (by decide))
theorem c65:∀ i,i<65→Okk Tryd.prog prog (fun _=>false) dead i:=okk_step c64 (okk_dead (by decide))
theorem c66:∀ i,i<66→Okk Tryd.prog prog (fun _=>false) dead i:=okk_step c65 (okk_dead (by decide))
theorem c67:∀ i,i<67→Okk Tryd.prog prog (fun _=>false) dead i:=okk_step c66 (okk_ok Tryd.func66 ok66)
theorem c68:∀ i,i<68→Okk Tryd.prog prog (fun _=>false) dead i:=okk_step c67 (okk_dead (by decide))
theorem c69:∀ i,i<69→Okk Tryd.prog prog (fun _=>false) dead i:=okk_step c68 (okk_dead (by decide))
theorem c70:∀ i,i<70→Okk Tryd.prog prog (fun _=>false) dead i:=okk_step c69 (okk_dead (by decide))
theorem c71:∀ i,i<71→Okk Tryd.prog prog (fun _=>false) dead i:=okk_step c70 (okk_dead (by decide))
theorem c72:∀ i,i<72→Okk Tryd.prog prog (fun _=>false) dead i:=okk_step c71 (okk_dead (by decide))
theorem c73:∀ i,i<73→Okk Tryd.prog prog (fun _=>false) dead i:=okk_step c72 (okk_dead (by decide))
theorem c74:∀ i,i<74→Okk Tryd.prog prog (fun _=>false) dead i:=okk_step c73 (okk_dead (by decide))
theorem c75:∀ i,i<75→Okk Tryd.prog prog (fun _=>false) dead i:=okk_step c74 (okk_dead (by decide))
theorem c76:∀ i,i<76→Okk Tryd.prog prog (fun _=>false) dead i:=okk_step c75 (okk_dead (by decide))
theorem c77:∀ i,i<77→Okk Tryd.prog prog (fun _=>false) dead i:=okk_step c76 (okk_dead (by decide))
theorem c78:∀ i,i<78→Okk Tryd.prog prog (fun _=>false) dead i:=okk_step c77 (okk_dead (by decide))
theorem c79:∀ i,i<79→Okk Tryd.prog prog (fun _=>false) dead i:=okk_step c78 (okk_dead (by decide))
theorem c80:∀ i,i<80→Okk Tryd.prog prog (fun _=>false) dead i:=okk_step c79 (okk_ok Tryd.func79 ok79)
theorem c81:∀ i,i<81→Okk Tryd.prog prog (fun _=>false) dead i:=okk_step c80 (okk_ok Tryd.func80 ok80)
theorem c82:∀ i,i<82→Okk Tryd.prog prog (fun _=>false) dead i:=okk_step c81 (okk_dead (by decide))
theorem c83:∀ i,i<83→Okk Tryd.prog prog (fun _=>false) dead i:=okk_step c82 (okk_dead (by decide))
theorem c84:∀ i,i<84→Okk Tryd.prog prog (fun _=>false) dead i:=okk_step c83 (okk_dead (by decide))
theorem c85:∀ i,i<85→Okk Tryd.prog prog (fun _=>false) dead i:=okk_step c84 (okk_dead (by decide))
theorem c86:∀ i,i<86→Okk Tryd.prog prog (fun _=>false) dead i:=okk_step c85 (okk_dead (by decide))
theorem c87:∀ i,i<87→Okk Tryd.prog prog (fun _=>false) dead i:=okk_step c86 (okk_dead (by decide))
theorem c88:∀ i,i<88→Okk Tryd.prog prog (fun _=>false) dead i:=okk_step c87 (okk_dead (by decide))
theorem c89:∀ i,i<89→Okk Tryd.prog prog (fun _=>false) dead i:=okk_step c88 (okk_dead (by decide))
theorem c90:∀ i,i<90→Okk Tryd.prog prog (fun _=>false) dead i:=okk_step c89 (okk_dead (by decide))
theorem c91:∀ i,i<91→Okk Tryd.prog prog (fun _=>false) dead i:=okk_step c90 (okk_dead (by decide))
theorem c92:∀ i,i<92→Okk Tryd.prog prog (fun _=>false) dead i:=okk_step c91 (okk_dead (by decide))
theorem c93:∀ i,i<93→Okk Tryd.prog prog (fun _=>false) dead i:=okk_step c92 (okk_dead (by decide))
theorem c94:∀ i,i<94→Okk Tryd.prog prog (fun _=>false) dead i:=okk_step c93 (okk_dead (by decide))
theorem c95:∀ i,i<95→Okk Tryd.prog prog (fun _=>false) dead i:=okk_step c94 (okk_ok Tryd.func94 ok94)
theorem c96:∀ i,i<96→Okk Tryd.prog prog (fun _=>false) dead i:=okk_step c95 (okk_ok Tryd.func95 ok95)
theorem c97:∀ i,i<97→Okk Tryd.prog prog (fun _=>false) dead i:=okk_step c96 (okk_dead (by decide))
theorem c98:∀ i,i<98→Okk Tryd.prog prog (fun _=>false) dead i:=okk_step c97 (okk_dead (by decide))
theorem c99:∀ i,i<99→Okk Tryd.prog prog (fun _=>false) dead i:=okk_step c98 (okk_dead (by decide))
theorem c100:∀ i,i<100→Okk Tryd.prog prog (fun _=>false) dead i:=okk_step c99 (okk_dead (by decide))
theorem c101:∀ i,i<101→Okk Tryd.prog prog (fun _=>false) dead i:=okk_step c100 (okk_dead (by decide))
theorem c102:∀ i,i<102→Okk Tryd.prog prog (fun _=>false) dead i:=okk_step c101 (okk_dead (by decide))
theorem c103:∀ i,i<103→Okk Tryd.prog prog (fun _=>false) dead i:=okk_step c102 (okk_dead (by decide))
theorem c104:∀ i,i<104→Okk Tryd.prog prog (fun _=>false) dead i:=okk_step c103 (okk_dead (by decide))
theorem c105:∀ i,i<105→Okk Tryd.prog prog (fun _=>false) dead i:=okk_step c104 (okk_dead (by decide))
theorem c106:∀ i,i<106→Okk Tryd.prog prog (fun _=>false) dead i:=okk_step c105 (okk_dead (by decide))
theorem c107:∀ i,i<107→Okk Tryd.prog prog (fun _=>false) dead i:=okk_step c106 (okk_ok Tryd.func106 ok106)
theorem c108:∀ i,i<108→Okk Tryd.prog prog (fun _=>false) dead i:=okk_step c107 (okk_dead (by decide))
theorem c109:∀ i,i<109→Okk Tryd.prog prog (fun _=>false) dead i:=okk_step c108 (okk_ok Tryd.func108 ok108)
theorem c110:∀ i,i<110→Okk Tryd.prog prog (fun _=>false) dead i:=okk_step c109 (okk_ok Tryd.func109 ok109)
theorem c111:∀ i,i<111→Okk Tryd.prog prog (fun _=>false) dead i:=okk_step c110 (okk_dead (by decide))
theorem c112:∀ i,i<112→Okk Tryd.prog prog (fun _=>false) dead i:=okk_step c111 (okk_dead (by decide))
theorem c113:∀ i,i<113→Okk Tryd.prog prog (fun _=>false) dead i:=okk_step c112 (okk_dead (by decide))
theorem c114:∀ i,i<114→Okk Tryd.prog prog (fun _=>false) dead i:=okk_step c113 (okk_dead (by decide))
theorem c115:∀ i,i<115→Okk Tryd.prog prog (fun _=>false) dead i:=okk_step c114 (okk_dead (by decide))
theorem c116:∀ i,i<116→Okk Tryd.prog prog (fun _=>false) dead i:=okk_step c115 (okk_dead (by decide))
theorem c117:∀ i,i<117→Okk Tryd.prog prog (fun _=>false) dead i:=okk_step c116 (okk_dead (by decide))
theorem c118:∀ i,i<118→Okk Tryd.prog prog (fun _=>false) dead i:=okk_step c117 (okk_dead (by decide))
theorem c119:∀ i,i<119→Okk Tryd.prog prog (fun _=>false) dead i:=okk_step c118 (okk_dead (by decide))
theorem c120:∀ i,i<120→Okk Tryd.prog prog (fun _=>false) dead i:=okk_step c119 (okk_dead (by decide))
theorem c121:∀ i,i<121→Okk Tryd.prog prog (fun _=>false) dead i:=okk_step c120 (okk_dead (by decide))
theorem c122:∀ i,i<122→Okk Tryd.prog prog (fun _=>false) dead i:=okk_step c121 (okk_dead (by decide))
theorem c123:∀ i,i<123→Okk Tryd.prog prog (fun _=>false) dead i:=okk_step c122 (okk_dead (by decide))
theorem c124:∀ i,i<124→Okk Tryd.prog prog (fun _=>false) dead i:=okk_step c123 (okk_dead (by decide))
theorem c125:∀ i,i<125→Okk Tryd.prog prog (fun _=>false) dead i:=okk_step c124 (okk_dead (by decide))
theorem c126:∀ i,i<126→Okk Tryd.prog prog (fun _=>false) dead i:=okk_step c125 (okk_dead (by decide))
theorem c127:∀ i,i<127→Okk Tryd.prog prog (fun _=>false) dead i:=okk_step c126 (okk_dead (by decide))
theorem c128:∀ i,i<128→Okk Tryd.prog prog (fun _=>false) dead i:=okk_step c127 (okk_dead (by decide))
theorem c129:∀ i,i<129→Okk Tryd.prog prog (fun _=>false) dead i:=okk_step c128 (okk_dead (by decide))
theorem c130:∀ i,i<130→Okk Tryd.prog prog (fun _=>false) dead i:=okk_step c129 (okk_dead (by decide))
theorem c131:∀ i,i<131→Okk Tryd.prog prog (fun _=>false) dead i:=okk_step c130 (okk_dead (by decide))
theorem ok_all (i:Nat) (fn:Func) (h:Tryd.prog.funcs[i]? = some fn) (hd:dead i=false):fnB prog (fun _=>false) fn=true:=by
 have hlt:i<131:=by have:=(Array.getElem?_eq_some_iff.1 h).1;rw [size] at this;exact this
 exact c131 i hlt fn h hd
theorem at_ {i:Nat} {f:Func} (h:Tryd.prog.funcs[i]? = some f):prog.funcs[i]? = some (gF i f):=Pt.wf_funcs _ h
theorem none_at (i:Nat) (h:Tryd.prog.funcs.size≤i):prog.funcs[i]? = none:=Pt.wf_funcs_none _ h
theorem gone_body (f:Func):(gone f).body=none:=rfl
theorem gone_name (f:Func):((gone f).name== "runtime.NumGoroutine")=false:=by kernel_rfl
theorem gone_next (f:Func):Extern.findNext (gone f)=none:=by kernel_rfl
theorem gone_find (f:Func):Extern.find (gone f)=none:=by kernel_rfl
theorem gone_init (f:Func):((gone f).name.endsWith ".init"&&!(gone f).name.startsWith "("&&!(gone f).name.startsWith "gosem.")=false:=by kernel_rfl
theorem gF_dead (i:Nat) (f:Func) (hd:dead i=true):gF i f=gone f:=by unfold gF;rw [if_pos hd]
theorem dead_at (i:Nat) (h:i<Tryd.prog.funcs.size) (hd:dead i=true):∀ xs,DeadEnd prog (callFunc i xs) :=
 have h1:=at_ (Array.getElem?_eq_getElem h)
 dead_gone (h1.trans (congrArg some (gF_dead i _ hd))) (gone_name _) (gone_body _) (gone_next _) (gone_find _) (gone_init _)
theorem same_at (i:Nat) (fn:Func) (h:Tryd.prog.funcs[i]? = some fn) (hd:dead i=false):prog.funcs[i]? = some fn∧fnB prog (fun _=>false) fn=true:=by
 refine ⟨?_,ok_all i fn h hd⟩;have h1:=at_ h;rw [h1];simp [gF,hd]
theorem same_self (i:Nat) (fn:Func) (h:prog.funcs[i]? = some fn) (hd:dead i=false):prog.funcs[i]? = some fn∧fnB prog (fun _=>false) fn=true:=by
 refine ⟨h, ?_⟩;have hlt:i<Tryd.prog.funcs.size:=by
  rcases Nat.lt_or_ge i Tryd.prog.funcs.size with h1 | h1
  · exact h1
  · rw [none_at i h1] at h;cases h
 have h1:=Array.getElem?_eq_getElem hlt;obtain ⟨h2,h3⟩:=same_at i _ h1 hd;obtain rfl:=Option.some.inj (h.symm.trans h2);exact h3
theorem size_self:prog.funcs.size=Tryd.prog.funcs.size:=by simp [prog,Pt.wf]
theorem funs:Funs prog Tryd.prog.funcs (fun _=>False) (fun _=>False):=funs_of (zero_of types_ok) (fun g h=>by simp at h) dead_at none_at same_at
theorem self:Funs prog prog.funcs (fun _=>False) (fun _=>False):=funs_of (zero_of types_ok) (fun g h=>by simp at h) (fun i h hd=>dead_at i (size_self ▸ h) hd) (fun i h=>none_at i (size_self ▸ h)) same_self
theorem func34:prog.funcs[34]? = some (gone Tryd.f34):=Pt.wf_funcs _ Tryd.func34
@[simp] theorem run_typeInfo (t:TypeId) (w:World):Sem.run prog (typeInfo t) w=Sem.run Tryd.prog (typeInfo t) w:=Pt.wf_typeInfo _ _ t w
@[simp] theorem run_underlying (t:TypeId) (w:World):Sem.run prog (underlying t) w=Sem.run Tryd.prog (underlying t) w:=Pt.wf_underlying _ _ t w
@[simp] theorem run_isAgg (t:TypeId) (w:World):Sem.run prog (isAgg t) w=Sem.run Tryd.prog (isAgg t) w:=Pt.wf_isAgg _ _ t w
@[simp] theorem run_sizeOf (t:TypeId) (w:World):Sem.run prog (sizeOf t) w=Sem.run Tryd.prog (sizeOf t) w:=Pt.wf_sizeOf _ _ t w
@[simp] theorem run_zeroValue (t:TypeId) (w:World):Sem.run prog (zeroValue t) w=Sem.run Tryd.prog (zeroValue t) w:=Pt.wf_zeroValue _ _ t w
@[simp] theorem p_underlying (t:TypeId):prog.underlying t=Tryd.prog.underlying t:=Pt.wf_punderlying _ _ t
@[simp] theorem p_info (t:TypeId):prog.info? t=Tryd.prog.info? t:=Pt.wf_pinfo _ _ t
@[simp] theorem p_rt:prog.rt=Tryd.prog.rt:=Pt.wf_prt _ _
@[simp] theorem p_globals:prog.globals=Tryd.prog.globals:=Pt.wf_pglobals _ _
theorem func31:prog.funcs[31]? = some Tryd.f31:=Pt.wf_funcs _ Tryd.func31
@[simp] theorem call31 (args:Array Value) (w:World):Sem.run prog (callFunc 31 args) w=.ok (.enter 31 args) w:=MuLone.run_callFunc_enter func31 rfl rfl args w
theorem func62:prog.funcs[62]? = some Tryd.f62:=Pt.wf_funcs _ Tryd.func62
@[simp] theorem call62 (args:Array Value) (w:World):Sem.run prog (callFunc 62 args) w=.ok (.enter 62 args) w:=MuLone.run_callFunc_enter func62 rfl rfl args w
theorem func66:prog.funcs[66]? = some Tryd.f66:=Pt.wf_funcs _ Tryd.func66
@[simp] theorem call66 (args:Array Value) (w:World):Sem.run prog (callFunc 66 args) w=.ok (.enter 66 args) w:=MuLone.run_callFunc_enter func66 rfl rfl args w
theorem func79:prog.funcs[79]? = some Tryd.f79:=Pt.wf_funcs _ Tryd.func79
@[simp] theorem call79 (args:Array Value) (w:World):Sem.run prog (callFunc 79 args) w=.ok (.enter 79 args) w:=MuLone.run_callFunc_enter func79 rfl rfl args w
theorem func80:prog.funcs[80]? = some Tryd.f80:=Pt.wf_funcs _ Tryd.func80
@[simp] theorem call80 (args:Array Value) (w:World):Sem.run prog (callFunc 80 args) w=.ok (.enter 80 args) w:=MuLone.run_callFunc_enter func80 rfl rfl args w
theorem func94:prog.funcs[94]? = some Tryd.f94:=Pt.wf_funcs _ Tryd.func94
@[simp] theorem call94 (args:Array Value) (w:World):Sem.run prog (callFunc 94 args) w=.ok (.enter 94 args) w:=MuLone.run_callFunc_enter func94 rfl rfl args w
theorem func95:prog.funcs[95]? = some Tryd.f95:=Pt.wf_funcs _ Tryd.func95
@[simp] theorem call95 (args:Array Value) (w:World):Sem.run prog (callFunc 95 args) w=.ok (.enter 95 args) w:=MuLone.run_callFunc_enter func95 rfl rfl args w
theorem func106:prog.funcs[106]? = some Tryd.f106:=Pt.wf_funcs _ Tryd.func106
@[simp] theorem call106 (args:Array Value) (w:World):Sem.run prog (callFunc 106 args) w=.ok (.enter 106 args) w:=MuLone.run_callFunc_enter func106 rfl rfl args w
theorem func108:prog.funcs[108]? = some Tryd.f108:=Pt.wf_funcs _ Tryd.func108
@[simp] theorem call108 (args:Array Value) (w:World):Sem.run prog (callFunc 108 args) w=.ok (.enter 108 args) w:=MuLone.run_callFunc_enter func108 rfl rfl args w
theorem func109:prog.funcs[109]? = some Tryd.f109:=Pt.wf_funcs _ Tryd.func109
@[simp] theorem call109 (args:Array Value) (w:World):Sem.run prog (callFunc 109 args) w=.ok (.enter 109 args) w:=MuLone.run_callFunc_enter func109 rfl rfl args w
theorem ntmps31:Tryd.f31.ntmps=17:=Tryd.ntmps31
theorem results31:Tryd.f31.results=#[Go.ResultVar.tmp 2]:=Tryd.results31
theorem ntmps62:Tryd.f62.ntmps=9:=Tryd.ntmps62
theorem results62:Tryd.f62.results=#[Go.ResultVar.tmp 2,Go.ResultVar.tmp 3]:=Tryd.results62
theorem ntmps66:Tryd.f66.ntmps=16:=Tryd.ntmps66
theorem results66:Tryd.f66.results=#[Go.ResultVar.tmp 4,Go.ResultVar.tmp 5]:=Tryd.results66
theorem ntmps79:Tryd.f79.ntmps=16:=Tryd.ntmps79
theorem results79:Tryd.f79.results=#[Go.ResultVar.tmp 2]:=Tryd.results79
theorem ntmps80:Tryd.f80.ntmps=11:=Tryd.ntmps80
theorem results80:Tryd.f80.results=#[Go.ResultVar.tmp 2]:=Tryd.results80
theorem ntmps94:Tryd.f94.ntmps=15:=Tryd.ntmps94
theorem results94:Tryd.f94.results=#[Go.ResultVar.tmp 4]:=Tryd.results94
theorem ntmps95:Tryd.f95.ntmps=26:=Tryd.ntmps95
theorem results95:Tryd.f95.results=#[Go.ResultVar.tmp 4]:=Tryd.results95
theorem ntmps106:Tryd.f106.ntmps=92:=Tryd.ntmps106
theorem results106:Tryd.f106.results=#[Go.ResultVar.tmp 8,Go.ResultVar.tmp 9]:=Tryd.results106
theorem ntmps108:Tryd.f108.ntmps=4:=Tryd.ntmps108
theorem results108:Tryd.f108.results=#[Go.ResultVar.tmp 2]:=Tryd.results108
theorem ntmps109:Tryd.f109.ntmps=30:=Tryd.ntmps109
theorem results109:Tryd.f109.results=#[Go.ResultVar.cell 4 150]:=Tryd.results109
open Go Go.Pt Go.RowKit
theorem ports2 (w:World):Calls prog 79 #[.int .i64 2] w fun e w'=>e=.returned (.bool true)∧w'=w:=by
 have b1:bits .and .i64 2 1=0:=by decide
 go_enter func79,ntmps79
 go_wp2;exact bodyPost_ret (v:=.bool true) (by simp [results,go_sem]) rfl ⟨rfl,rfl⟩
theorem ports4 (w:World):Calls prog 79 #[.int .i64 4] w fun e w'=>e=.returned (.bool true)∧w'=w:=by
 have b2:bits .and .i64 4 3=0:=by decide
 go_enter func79,ntmps79
 go_wp2;exact bodyPost_ret (v:=.bool true) (by simp [results,go_sem]) rfl ⟨rfl,rfl⟩
theorem count2 (w:World):Calls prog 80 #[.int .i64 2] w fun e w'=>e=.returned (.int .i64 1)∧w'=w:=by
 go_enter func80,ntmps80
 go_wp2;exact bodyPost_ret (v:=.int .i64 1) (by simp [results,go_sem]) rfl ⟨rfl,rfl⟩
theorem count4 (w:World):Calls prog 80 #[.int .i64 4] w fun e w'=>e=.returned (.int .i64 6)∧w'=w:=by
 go_enter func80,ntmps80
 go_wp2;exact bodyPost_ret (v:=.int .i64 6) (by simp [results,go_sem]) rfl ⟨rfl,rfl⟩
theorem bcount2 (w:World):Calls prog 62 #[.int .i64 2] w fun e w'=>e=.returned (.tuple #[.int .i64 1,.int .i64 0])∧w'=w:=by
 go_enter func62,ntmps62
 go_wp2_with fail
 refine (ports2 _).mono ?_;rintro e w' ⟨rfl,rfl⟩;go_wp2_with fail
 refine (count2 _).mono ?_;rintro e w' ⟨rfl,rfl⟩;go_wp2_with fail
 exact bodyPost_ret (v:=.tuple #[.int .i64 1,.int .i64 0]) (by simp [results,go_sem]) rfl ⟨rfl,rfl⟩
theorem bcount4 (w:World):Calls prog 62 #[.int .i64 4] w fun e w'=>e=.returned (.tuple #[.int .i64 6,.int .i64 0])∧w'=w:=by
 go_enter func62,ntmps62
 go_wp2_with fail
 refine (ports4 _).mono ?_;rintro e w' ⟨rfl,rfl⟩;go_wp2_with fail
 refine (count4 _).mono ?_;rintro e w' ⟨rfl,rfl⟩;go_wp2_with fail
 exact bodyPost_ret (v:=.tuple #[.int .i64 6,.int .i64 0]) (by simp [results,go_sem]) rfl ⟨rfl,rfl⟩
theorem pcount2 (w:World):Calls prog 31 #[.int .i64 2] w fun e w'=>e=.returned (.int .i64 1)∧w'=w:=by
 go_enter func31,ntmps31
 go_wp2_with fail
 refine (bcount2 _).mono ?_;rintro e w' ⟨rfl,rfl⟩;go_wp2_with fail
 exact bodyPost_ret (v:=.int .i64 1) (by simp [results,go_sem]) rfl ⟨rfl,rfl⟩
theorem pcount4 (w:World):Calls prog 31 #[.int .i64 4] w fun e w'=>e=.returned (.int .i64 6)∧w'=w:=by
 go_enter func31,ntmps31
 go_wp2_with fail
 refine (bcount4 _).mono ?_;rintro e w' ⟨rfl,rfl⟩;go_wp2_with fail
 exact bodyPost_ret (v:=.int .i64 6) (by simp [results,go_sem]) rfl ⟨rfl,rfl⟩
open Go Go.Pt Go.RowKit
theorem fits2 (a:Option Addr) (c:Nat) (w:World):Calls prog 94 #[.int .i64 2,.slice a 1 c] w fun e w'=>e=.returned (.int .i64 0)∧w'=w:=by
 go_enter func94,ntmps94
 go_wp2_with fail
 refine (ports2 _).mono ?_;rintro e w' ⟨rfl,rfl⟩;go_wp2_with fail
 refine (count2 _).mono ?_;rintro e w' ⟨rfl,rfl⟩;go_wp2_with fail
 exact bodyPost_ret (v:=.int .i64 0) (by simp [results,go_sem]) rfl ⟨rfl,rfl⟩
theorem fits4 (a:Option Addr) (c:Nat) (w:World):Calls prog 94 #[.int .i64 4,.slice a 6 c] w fun e w'=>e=.returned (.int .i64 0)∧w'=w:=by
 go_enter func94,ntmps94
 go_wp2_with fail
 refine (ports4 _).mono ?_;rintro e w' ⟨rfl,rfl⟩;go_wp2_with fail
 refine (count4 _).mono ?_;rintro e w' ⟨rfl,rfl⟩;go_wp2_with fail
 exact bodyPost_ret (v:=.int .i64 0) (by simp [results,go_sem]) rfl ⟨rfl,rfl⟩
theorem bit_any (b:Bool) (w:World):Calls prog 108 #[.bool b] w fun e w'=>e=.returned (.int .i64 (if b then 1 else 0))∧w'=w:=by
 cases b;all_goals
  go_enter func108,ntmps108
  go_wp2_with fail
 · exact bodyPost_ret (v:=.int .i64 0) (by simp [results,go_sem]) rfl ⟨rfl,rfl⟩
 · exact bodyPost_ret (v:=.int .i64 1) (by simp [results,go_sem]) rfl ⟨rfl,rfl⟩
end Go.Proofs.Ghw
