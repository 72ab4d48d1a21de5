/- The law ProbeKeeps: whatever the input, on every schedule, it returns true, without a race, and every argument reads on as it did. Condition: the row's laid variable; the card ties it. -/
import Derived.Test.YtnceajabigdleaaDoorPtQ92ProbeKeeps
import Derived.Test.YtnceajabigdleaaDoorPtQ91
import Derived.Test.YtnceajabigdleaaDoorPtH6
import Derived.Test.YtnceajabigdleaaDoorPtH5
import Derived.Test.YtnceajabigdleaaDoorPtH2
import Derived.Test.YtnceajabigdleaaDoorCards
import Derived.Test.YtnceajabigdleaaDoorTie
import Derived.OpenShut
namespace Go.Proofs.YtnceajabigdleaaDoor.probeKeeps
open Go Go.ChangeShapes Go.WideShapes Go.ChangeAt Go.RowKit Go.Pt Go.Conc
open Go.ChangeMaps (open_string shut_string)
theorem noInit:Qm.prog.inits.idxOf? 6=none:=by kernel_rfl
set_option maxRecDepth 100000 in
set_option maxHeartbeats 1000000 in
theorem the_run (n s:Int) (a:Option Addr) (cap:Nat) (l:List Qm.Tq) (W:World) (hl:l.length≤9223372036854775807) (hc:Qm.AqAt W a l) (ha:Qm.OnCells W a) (hcc:TqCells W l) (hD:Qm.DebAt W) :
  ∃ M last oc w' t',runNT Tryd.prog (M+1) (solo (Conc.G (Frame.enter Tryd.prog 6 #[.int .i64 n,.int .i64 s,.slice a l.length cap] .normal) []) W) #[]=(.ended oc w',t') ∧
   runN Tryd.prog M (solo (Conc.G (Frame.enter Tryd.prog 6 #[.int .i64 n,.int .i64 s,.slice a l.length cap] .normal) []) W)=.next last∧step Tryd.prog last=.ended oc w' ∧
   Conc.Good Tryd.prog (fun v w'=>v=.bool true∧Below W.heap.size W w') last oc w' t':=by
 obtain ⟨_,code,hcode⟩:=Qm.fnB_parts Qm.ok6;have hcr:=Pt.fnB_crel Qm.hglob Qm.ok6 hcode;refine good_of_start (Q:=Qm.prog) (F:=Tryd.prog.funcs) Qm.funs Qm.self (floor_ok _) (W:=W) (((ARel.one (.int .i64 n)).push (.int .i64 s)).push (slice_relW ha _ _)) (by rw [prGlobals];exact hD.1) (deb_cells hD) noInit
  Qm.func6 Tryd.func6 hcode hcode rfl rfl hcr hcr (fun Rp g xs gw c k hg h=>Qm.phase34 g xs gw c k hg h) (fun τ=>?_)
 obtain ⟨l',hl',hq⟩:=aq_ghost hc hcc τ;rw [← hl'] at hl ⊢;refine (Qm.probeKeeps_walk n s a cap l' ((ghostW Qm.prog _ W).retape τ) hl hq (deb_ghostW hD τ)).mono fun e w' ⟨he,hg⟩=>⟨he,fun b hb=>?_⟩
 exact hg.block b hb
set_option maxRecDepth 100000 in
set_option maxHeartbeats 1000000 in
theorem lifted (os:Os) (started:os.Started) (H:Type) (enc:TypeId × Value→H) :
  ReturnsInLeavingWide {} Tryd.checked os 6 .any (fun w args=>(Rows.probeKeepsSpec.pre enc Tryd.prog Tryd.f6 Rows.probeKeepsRow.domain false w args∧laidMet Tryd.prog Rows.probeKeepsRow.laid w)∧sizedMet enc Tryd.prog Tryd.f6 (OpenSpec.ofChange Rows.probeKeepsSpec) false w args)
   (Rows.probeKeepsSpec.post enc Tryd.prog Tryd.f6 false true false false):=by
 refine leaving_of_change_and (C:=Tryd.checked) (X:=fun w _=>laidMet Tryd.prog Rows.probeKeepsRow.laid w) (fun _ _ _ hh h=>h.of_heap hh) prOwn started Tryd.func6
  (ChangeSpec.witness_shaped (enc:=enc) (C:=Tryd.checked) (os:=os) (X:=fun w _=>laidMet Tryd.prog Rows.probeKeepsRow.laid w) false (World.doorLaid Tryd.prog 14 os) #[.int .i64 0,.int .i64 0,.slice none 0 0] 8 rfl (World.shaped_of_RefB (by kernel_rfl) (by kernel_rfl)) (by kernel_rfl) (by kernel_rfl) (by kernel_rfl) (pr_met os _)) ?_
 intro W base args ds gs before hval0 hW _ _ hL _;have hD:=deb_laid hL;have hval:∀ (j:Nat) t v,Tryd.f6.params[j]? = some t→args[j]? = some v→Value.okWide Tryd.prog W .any base t v:=hval0;have hW':=hW;obtain ⟨p,q,hA0,hV,rfl,hfz,hnd⟩:=hW;have hA:DataW.TrodAll enc Tryd.prog W 0 (fun _=>true) true Tryd.f6.params.toList args.toList ds p:=hA0;rw [Tryd.params6] at hA hval;obtain ⟨v0,vs0,d0,ds0,p0,q0,hargs,rfl,rfl,h0,r0⟩:=trodAll_cons hA;obtain ⟨v1,vs1,d1,ds1,p1,q1,rfl,rfl,rfl,h1,r1⟩:=trodAll_cons r0;obtain ⟨v2,vs2,d2,ds2,p2,q2,rfl,rfl,rfl,h2,r2⟩:=trodAll_cons r1;obtain ⟨rfl,rfl,rfl⟩:=trodAll_nil r2;obtain rfl:args=#[v0,v1,v2]:=by cases args;simp_all
 obtain ⟨rfl,rfl⟩:=trodVars_none hV;obtain ⟨n,rfl,rfl,rfl,_⟩:=open_int Tryd.underlying3 (hval 0 3 v0 rfl rfl) h0;obtain ⟨s,rfl,rfl,rfl,_⟩:=open_int Tryd.underlying3 (hval 1 3 v1 rfl rfl) h1;obtain ⟨a,cap,l,rfl,hl,hc,ha,hcc⟩:=Qm.open_aqs (hval 2 41 v2 rfl rfl) h2;clear hA0 hval0;obtain ⟨M,last,oc,w',t',e1,e2,e3,e4⟩:=the_run n s a cap l W hl hc ha hcc hD;refine ⟨M,last,oc,w',t',e1,e2,e3,e4.mono fun v hv=>?_⟩;obtain ⟨rfl,hb⟩:=hv;exact ⟨_,_,_,[],_,[],hW',trodAll_mk1 (shut_bool Tryd.underlying4 _),trodAll_below prLaidOut hb _ _ _ _ (by kernel_rfl) hA,rfl,hb.frame _,fun h=>by cases h⟩
theorem over:Rows.probeKeepsRow.holds Tryd.pinned (OpenSpec.ofChange Rows.probeKeepsSpec) :=
 OpenClaim.holds_of_wide_leaving 6 Tryd.f6 rfl rfl rfl rfl rfl rfl rfl ⟨rfl,rfl,rfl,rfl,rfl⟩ rfl rfl rfl rfl rfl (by kernel_rfl) Tryd.func6 (by kernel_rfl)
  (of_decide_eq_true (by kernel_rfl)) (by unfold Func.isWrapper;rw [if_neg (of_decide_eq_false (by kernel_rfl))];exact ⟨rfl,rfl⟩)
  (fun os started H enc _=>lifted os started H enc)
end Go.Proofs.YtnceajabigdleaaDoor.probeKeeps
namespace Go.Proofs.YtnceajabigdleaaDoor
open Go
theorem probeKeeps_holds:Rows.ProbeKeepsSaid:=probeKeeps.over
theorem probeKeeps_card:Rows.ProbeKeepsCardSaid :=
 tied_goes .later [.data] true (true, "36e78a9bbe3b3b17913c0110d8a89de1787061b82218d0f13b3b7a25865fa3ac") false
  probeKeeps_holds (by kernel_rfl) probeKeeps_row_tie rfl ⟨rfl,rfl⟩ (by kernel_rfl) rfl
  (fun f fn hf hfn=>by
    obtain rfl:f=6:=Option.some.inj ((show Tryd.prog.funcNamed "photonmesh/photonmeshlaw09.ProbeKeeps"=some 6 by kernel_rfl).symm.trans hf) |>.symm;obtain rfl:fn=Tryd.f6:=(Option.some.inj (Tryd.func6.symm.trans hfn)).symm;exact ⟨by kernel_rfl,fun j t ht=>by
     rw [Tryd.params6] at ht;rcases j with _ | _ | _ | j
     · obtain rfl:t=3:=by simpa using ht.symm
       exact (show Tryd.prog.wantsStandIn 3=false by kernel_rfl)
     · obtain rfl:t=3:=by simpa using ht.symm
       exact (show Tryd.prog.wantsStandIn 3=false by kernel_rfl)
     · obtain rfl:t=41:=by simpa using ht.symm
       exact (show Tryd.prog.wantsStandIn 41=false by kernel_rfl)
     · simp at ht⟩)
  (by kernel_rfl)
end Go.Proofs.YtnceajabigdleaaDoor
#print axioms Go.Proofs.YtnceajabigdleaaDoor.probeKeeps_card
