import Derived.Test.YtchdmecjhaanfaaGreatDoorTopF
import Derived.Test.YtchdmecjhaanfaaGreatDoorStrA
import Derived.Test.YtchdmecjhaanfaaGreatDoorMshX
import Derived.Test.YtchdmecjhaanfaaGreatDoorAmpF
import Derived.Test.YtchdmecjhaanfaaGreatDoorCards
import Derived.Test.YtchdmecjhaanfaaGreatDoorTie
namespace Go.Proofs.YtchdmecjhaanfaaGreatDoor.topLevels
open Go Go.ChangeShapes Go.WideShapes Go.ChangeAt Go.RowKit Amp Msh topLaid
open Go.ChangeMaps (open_string shut_string)
set_option maxRecDepth 100000 in
set_option maxHeartbeats 1000000 in
theorem lifted (os:Os) (started:os.Started) (H:Type) (enc:TypeId × Value→H) :
  ReturnsInHanded {} Tryz.checked os 3 .any (fun w args=>(Rows.topLevelsSpec.pre enc Tryz.prog Tryz.f3 Rows.topLevelsRow.domain false w args∧laidMet Tryz.prog Rows.topLevelsRow.laid w)∧sizedMet enc Tryz.prog Tryz.f3 (OpenSpec.ofChange Rows.topLevelsSpec) false w args)
   (Rows.topLevelsSpec.post enc Tryz.prog Tryz.f3 false true false false):=by
 refine handed (C:=Tryz.checked) (X:=fun w _=>laidMet Tryz.prog Rows.topLevelsRow.laid w) (fun _ _ _ hh h=>h.of_heap hh) own started (by kernel_rfl) Tryz.func3
  (ChangeSpec.witness_shaped (enc:=enc) (C:=Tryz.checked) (os:=os) (X:=fun w _=>laidMet Tryz.prog Rows.topLevelsRow.laid w) false (World.laidAll Tryz.prog os Rows.topLevelsRow.laid) #[.slice none 0 0,.slice none 0 0] 8 (World.laidAll_os _ _ _) (door_shape os _) (by kernel_rfl) (by kernel_rfl) (by kernel_rfl) (door_met os _)) ?_
 intro W base args ds gs before hval0 hW _ hL hS;have hval:∀ (j:Nat) t v,Tryz.f3.params[j]? = some t→args[j]? = some v→Value.okWide Tryz.prog W .any base t v:=hval0;have hW':=hW;obtain ⟨p,q,hA0,hV,rfl,hfz,hnd⟩:=hW;have hA:DataW.TrodAll enc Tryz.prog W 0 (fun _=>true) true Tryz.f3.params.toList args.toList ds p:=hA0;rw [Tryz.params3] at hA hval;obtain ⟨v0,vs0,d0,ds0,p0,q0,hargs,rfl,rfl,h0,r0⟩:=trodAll_cons hA;obtain ⟨v1,vs1,d1,ds1,p1,q1,rfl,rfl,rfl,h1,r1⟩:=trodAll_cons r0;obtain ⟨rfl,rfl,rfl⟩:=trodAll_nil r1;obtain rfl:args=#[v0,v1]:=by cases args;simp_all
 obtain ⟨rfl,rfl⟩:=trodVars_none hV;obtain ⟨a0,len0,cap0,rfl⟩:=okWide_slice Tryz.underlying22 (hval 0 _ v0 rfl rfl);obtain ⟨L,rfl,hl,hN,hk,hcap⟩:=open_cls h0;obtain ⟨aV,lenV,kV,rfl⟩:=okWide_slice Tryz.underlying23 (hval 1 _ v1 rfl rfl);obtain ⟨V,rfl,hVl,hNV⟩:∃ V:List Num,lenV=V.length∧V.length≤9223372036854775807∧Nms W aV V:=by
  rcases open_nums h1 with rfl | ⟨b,off,l,rfl,rfl,h2,h3,h4⟩
  · exact ⟨[],rfl,Nat.zero_le _,.inl rfl⟩
  · exact ⟨l,rfl,h2,.inr ⟨b,off,rfl,h3,h4⟩⟩
 clear hA0 hval0;have hwalk:=topLevels_walk a0 cap0 L aV kV V W hl hN hk hcap hNV hVl (met_laid hS hL);refine hwalk.mono fun e W' ⟨he,hg⟩=>?_
 subst he;exact ⟨_,rfl,_,_,_,[],_,[],hW',trodAll_mk1 (shut_bool Tryz.underlying4 _),trodAll_below laidOut hg _ _ _ _ (by kernel_rfl) hA,rfl,hg.frame _,fun h=>by cases h⟩
theorem over:Rows.topLevelsRow.holds Tryz.pinned (OpenSpec.ofChange Rows.topLevelsSpec) :=
 OpenClaim.holds_of_wide 3 Tryz.f3 rfl rfl rfl rfl rfl rfl rfl ⟨rfl,rfl,rfl,rfl,rfl⟩ rfl rfl rfl rfl rfl (by kernel_rfl) Tryz.func3 (by kernel_rfl)
  (of_decide_eq_true (by kernel_rfl)) (by unfold Func.isWrapper;rw [if_neg (of_decide_eq_false (by kernel_rfl))];exact ⟨rfl,rfl⟩)
  (fun os started H enc _=>lifted os started H enc)
end Go.Proofs.YtchdmecjhaanfaaGreatDoor.topLevels
namespace Go.Proofs.YtchdmecjhaanfaaGreatDoor
open Go
theorem topLevels_holds:Rows.TopLevelsSaid:=topLevels.over
theorem topLevels_card:Rows.TopLevelsCardSaid :=
 Claim7.holds_tied_plain_at .later [] [.data,.data,.data,.data,.sentinel,.sentinel,.pinned] true (true, "0a2481308dbe5fde4c96a5b58074b8f34ffacb518e67476e5a6bdc2eebcd615f") true
  topLevels_holds (fun _ h=>by cases h) (by kernel_rfl) (fun _ h=>by cases h) topLevels_row_tie rfl ⟨rfl,rfl⟩ (by kernel_rfl) rfl
  (fun f fn hf hfn=>by
    obtain rfl:f=3:=Option.some.inj ((show Tryz.prog.funcNamed "photonmesh/photonmeshtop.TopLevels"=some 3 by kernel_rfl).symm.trans hf) |>.symm;obtain rfl:fn=Tryz.f3:=(Option.some.inj (Tryz.func3.symm.trans hfn)).symm;exact ⟨by kernel_rfl,fun j t ht=>by
     rw [Tryz.params3] at ht;rcases j with _ | _ | j
     · obtain rfl:t=22:=by simpa using ht.symm
       exact (show Tryz.prog.wantsStandIn 22=false by kernel_rfl)
     · obtain rfl:t=23:=by simpa using ht.symm
       exact (show Tryz.prog.wantsStandIn 23=false by kernel_rfl)
     · simp at ht⟩)
  (by kernel_rfl)
end Go.Proofs.YtchdmecjhaanfaaGreatDoor
#print axioms Go.Proofs.YtchdmecjhaanfaaGreatDoor.topLevels_card
