/- Layer 9, in main's ghost: the law ProbeFinds. Condition: the tries lie in memory, the table is laid. -/
import Derived.Test.YtnceajabigdleaaDoorPtQ986
import Derived.Test.YtnceajabigdleaaDoorPtQ8
import Derived.Test.YtnceajabigdleaaDoorPtQ5
namespace Go.Proofs.Qm
open Go Go.Pt Go.RowKit Prb
set_option maxRecDepth 100000 in
set_option maxHeartbeats 6400000 in
theorem probeFinds_walk (n s:Int) (a:Option Addr) (cap:Nat) (l:List Tq) (w:World) (hl:l.length≤9223372036854775807) (hc:TqAt w a l) (hD:DebAt w) :
  Calls prog 7 #[.int .i64 n,.int .i64 s,.slice a l.length cap] w fun e w'=>e=.returned (.bool true)∧Below w.heap.size w w':=by
 obtain ⟨R,r,hR1,hR2,hRb,hF1,hF2⟩:=Find_both n s a cap l w hl hc hD;have HM:=hid fun w' (hg:Grew w w')=>many_any a cap l w' hl (hc.grew hg)
 have HW:=hid fun w=>awake_any w
 have HF1:=hid fun w' (hg:Grew w w')=>(hF1 w' hg.below).mono fun e w'' (h:FinP R r w' e w'')=>(show ∃ (a1:Option Addr) (k1:Nat) (Ft:List Tq) (a2:Option Addr) (k2:Nat),e=.returned (.tuple #[.slice a1 R.2.length k1,.slice a2 R.1.length k2,.int .i64 r])∧TqAt w'' a1 Ft∧Ft.map fdOf=R.2∧NsA w'' a2 (ints R.1)∧Below w.heap.size w w'' from by obtain ⟨a1,k1,Ft,a2,k2,h1,h2,h3,h4,h5⟩:=h;exact ⟨a1,k1,Ft,a2,k2,by rw [h1,← h3,List.length_map],h2,h3,h4,hg.below.trans (h5.mono hg.size)⟩)
 have HF2:=hid fun w' (hg:Below w.heap.size w w')=>(hF2 w' hg).mono fun e w'' (h:FinP R r w' e w'')=>(show ∃ (a1:Option Addr) (k1:Nat) (Ft:List Tq) (a2:Option Addr) (k2:Nat),e=.returned (.tuple #[.slice a1 R.2.length k1,.slice a2 R.1.length k2,.int .i64 r])∧TqAt w'' a1 Ft∧Ft.map fdOf=R.2∧NsA w'' a2 (ints R.1)∧Below w'.heap.size w' w''∧Below w.heap.size w w'' from by obtain ⟨a1,k1,Ft,a2,k2,h1,h2,h3,h4,h5⟩:=h;exact ⟨a1,k1,Ft,a2,k2,by rw [h1,← h3,List.length_map],h2,h3,h4,h5,hg.trans (h5.mono hg.size)⟩)
 have HST:=hid fun a1 a2 k1 k2 l1 l2 w' (e1:l1.map fdOf=R.2) (e2:l2.map fdOf=R.2) (h1:TqAt w' a1 l1) (h2:TqAt w' a2 l2)=>(show Calls prog 28 #[.slice a1 R.2.length k1,.slice a2 R.2.length k2] w' fun e w''=>e=.returned (.bool true)∧Grew w' w'' from by
  have q1:l1.length=R.2.length:=by rw [← e1,List.length_map]
  have q2:l2.length=R.2.length:=by rw [← e2,List.length_map]
  have h:=sts_any a1 a2 k1 k2 l1 l2 w' (by omega) (by rw [e1];exact hRb) (e1.trans e2.symm) h1 h2;rw [q1,q2] at h;exact h)
 have HSM:=hid fun a b ka kb w' (h1:NsA w' a (ints R.1)) (h2:NsA w' b (ints R.1))=>(show Calls prog 12 #[.slice a R.1.length ka,.slice b R.1.length kb] w' fun e w''=>e=.returned (.bool true)∧Grew w' w'' from by
  have h:=same_any a b ka kb (ints R.1) w' (by rw [ints_len];omega) h1 h2;rw [ints_len] at h;exact h)
 clear hF1 hF2 hc hD hRb;cases hm:manyB l with
 | true =>
   rw [hm] at HM;go_enter func7,ntmps7
   go_wp2_with fail
   refine (HM.out _ gw0).mono ?_;rintro e w' ⟨rfl,g1,n1,rfl⟩;go_wp2_with fail
   refine (HW.out _).mono ?_;rintro e w' ⟨rfl,g2,n2,rfl⟩;go_wp2_with fail
   exact bodyPost_ret (v:=.bool true) (by simp [results,go_sem]) rfl ⟨rfl,Grew.below gw0⟩
 | false =>
 rw [hm] at HM;clear hm;have e4:(r==r)=true:=by simp
 go_enter func7,ntmps7
 go_wp2_with fail
 refine (HM.out _ gw0).mono ?_;rintro e w' ⟨rfl,g1,n1,rfl⟩;go_wp2_with fail
 refine (HF1.out _ gw0).mono ?_;rintro e w1 ⟨a1,k1,F1,a2,k2,rfl,ht1,he1,hn1,hL1⟩;have HL1:=hid hL1;have HT1:=hid ht1;have HN1:=hid hn1;have HE1:=hid he1;clear hL1 ht1 hn1 he1;go_wp2_with fail
 refine (HF2.out _ HL1.out).mono ?_;rintro e w2 ⟨a3,k3,F2,a4,k4,rfl,ht2,he2,hn2,hB2,hL2⟩;have HL2:=hid hL2;have HT2:=hid ht2;have HN2:=hid hn2;have HE2:=hid he2;have HT3:=hid (HT1.out.below hB2);have HN3:=hid (HN1.out.below hB2);clear hL2 ht2 hn2 he2 hB2 HL1 HT1 HN1;go_wp2_with fail
 refine (HST.out _ _ _ _ _ _ _ HE1.out HE2.out HT3.out HT2.out).mono ?_;rintro e w' ⟨rfl,g2,n2,rfl⟩;go_wp2_with fail
 refine (HSM.out _ _ _ _ _ (HN3.out.below (Grew.below gw0)) (HN2.out.below (Grew.below gw0))).mono ?_;rintro e w' ⟨rfl,g3,n3,rfl⟩;go_wp2_with fail
 refine (HW.out _).mono ?_;rintro e w' ⟨rfl,g4,n4,rfl⟩;go_wp2_with fail
 exact bodyPost_ret (v:=.bool true) (by simp [results,go_sem]) rfl ⟨rfl,below_grew HL2.out gw0 HL2.out.size⟩
end Go.Proofs.Qm
