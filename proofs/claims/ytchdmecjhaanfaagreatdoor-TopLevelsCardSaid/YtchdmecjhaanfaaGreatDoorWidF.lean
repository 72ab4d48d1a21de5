import Derived.Test.YtchdmecjhaanfaaGreatDoorWidE
import Derived.Test.YtchdmecjhaanfaaGreatDoorMshE
namespace Go.Proofs.YtchdmecjhaanfaaGreatDoor
open Go Go.RowKit Amp Msh
set_option maxRecDepth 100000 in
set_option maxHeartbeats 800000 in
theorem scaled_any (x:C4) (k m:Int) (w:World) (h0:0≤k) (hk:k≤m) (hm:m≤40) (H:∀ q:Nat,q+k.toNat≤40→SmC (rpow q x)) :
  Calls Tryz.prog 78 #[.agg #[.int .i64 x.a,.int .i64 x.b,.int .i64 x.c,.int .i64 x.d,.int .i64 k],.int .i64 m] w fun e w'=>e=.returned (.agg #[.int .i64 (rpow (m - k).toNat x).a,.int .i64 (rpow (m - k).toNat x).b,.int .i64 (rpow (m - k).toNat x).c,.int .i64 (rpow (m - k).toNat x).d])∧Grew w w':=by
 obtain ⟨d,hd⟩:∃ d,m - k=d:=⟨_,rfl⟩;have d0:0≤d:=by omega
 have d1:d≤40:=by omega
 have H:=hid H;go_enter Tryz.func78,Tryz.ntmps78
 go_wp2_with fail
 go_loopw [12] (fun i wr=>∃ (q:Int) (y:C4),0≤q∧q≤d∧i=.int .i64 q∧Hid (y=rpow q.toNat x)∧Grew (((w.alloc (.cells #[.int .i64 x.a,.int .i64 x.b,.int .i64 x.c,.int .i64 x.d,.int .i64 k] 67)).alloc (.cells #[.int .i64 0,.int .i64 0,.int .i64 0,.int .i64 0] 60)).alloc (.cells #[.int .i64 y.a,.int .i64 y.b,.int .i64 y.c,.int .i64 y.d] 60)) wr) (fun i _=>(d - intOf i).toNat)
 case atStart=>exact ⟨0,x,Int.le_refl _,by omega,rfl,rfl,Grew.refl _⟩
 case round =>
  obtain ⟨q,y,hq,hq2,rfl,hy,g,n1,rfl⟩:=hrel;have hb:SmC y:=by rw [hy.out];exact H.out _ (by omega)
  obtain ⟨⟨_,_⟩,⟨_,_⟩,⟨_,_⟩,⟨_,_⟩⟩:=hb;clear H;by_cases hlt:q<d
  · go_wp2_with fail
    go_roundw
    case rel =>
     refine ⟨q+1,root y,by omega,by omega,rfl, ?_,gw0⟩;unfold Hid;rw [hy.out,← rpow_succ,show (q+1).toNat=q.toNat+1 by omega]
    case measure=>simp [intOf];omega
  · obtain rfl:q=d:=by omega
    go_wp2_with fail
    exact bodyPost_ret (v:=.agg #[.int .i64 y.a,.int .i64 y.b,.int .i64 y.c,.int .i64 y.d]) (by simp [results,Tryz.results78,go_sem]) rfl ⟨by rw [← hy.out],gw0⟩
open Go Go.RowKit Amp Msh
def expL (l:List Num):Int:=l.foldl (fun m z=>max m z.k) 0
theorem expL_take {l:List Num} {i:Nat} {z:Num} (h:l[i]? = some z):expL (l.take (i+1))=max (expL (l.take i)) z.k:=by
 unfold expL;rw [List.take_add_one,h,List.foldl_append];rfl
theorem expL_ge (l:List Num):0≤expL l∧∀ z∈l,z.k≤expL l:=by
 have key:∀ (l:List Num) (a:Int),a≤l.foldl (fun m z=>max m z.k) a∧∀ z∈l,z.k≤l.foldl (fun m z=>max m z.k) a:=by
  intro l
  induction l with
  | nil=>exact fun a=>⟨Int.le_refl a,fun z hz=>by cases hz⟩
  | cons y t ih =>
    intro a;obtain ⟨h1,h2⟩:=ih (max a y.k);refine ⟨Int.le_trans (Int.le_max_left a y.k) h1,fun z hz=>?_⟩;rcases List.mem_cons.1 hz with rfl | hz
    · exact Int.le_trans (Int.le_max_right a z.k) h1
    · exact h2 z hz
 exact key l 0
theorem expL_le {l:List Num} {K:Int} (hK:0≤K) (h:∀ z∈l,z.k≤K):expL l≤K:=by
 have key:∀ (l:List Num) (a:Int),a≤K→(∀ z∈l,z.k≤K)→l.foldl (fun m z=>max m z.k) a≤K:=by
  intro l
  induction l with
  | nil=>exact fun a ha _=>ha
  | cons y t ih =>
    intro a ha hl;exact ih _ (Int.max_le.2 ⟨ha,hl y (List.mem_cons_self ..)⟩) fun z hz=>hl z (List.mem_cons_of_mem _ hz)
 exact key l 0 hK h
set_option maxRecDepth 100000 in
set_option maxHeartbeats 800000 in
theorem exponent_any (a0:Option Addr) (k0:Nat) (l:List Num) (w:World) (hl:l.length≤9223372036854775807) (h0:Nms w a0 l) :
  Calls Tryz.prog 77 #[.slice a0 l.length k0] w fun e w'=>e=.returned (.int .i64 (expL l))∧Grew w w':=by
 have H0:=hid h0;clear h0;go_enter Tryz.func77,Tryz.ntmps77
 go_wp2_with fail
 go_loopw [3,8] (fun e n wr=>∃ (i:Nat) (m:Int),i≤l.length∧e=.int .i64 m∧n=.int .i64 i∧Hid (m=expL (l.take i))∧Grew w wr) (fun _ n _=>l.length - (intOf n).toNat)
 case atStart=>exact ⟨0,0,Nat.zero_le _,rfl,rfl,rfl,Grew.refl _⟩
 case round =>
  obtain ⟨i,m,hi,rfl,rfl,hm,g,n,rfl⟩:=hrel;by_cases hlt:i<l.length
  · obtain ⟨z,hz⟩:∃ z,l[i]? = some z:=⟨l[i],List.getElem?_eq_getElem hlt⟩
    obtain ⟨b,off,rfl,hb,c0,c1,c2,c3,c4⟩:=H0.out.cells hz;have hbn:Hid (b<w.heap.size):=hb;have Hz:=hid hz;clear hz;go_wp2_with fail
    go_roundw
    case rel=>exact ⟨i+1,max m z.k,by omega,rfl,by go_num,by unfold Hid;rw [expL_take Hz.out,hm.out],gw0⟩
    case measure=>simp [intOf];omega
  · obtain rfl:i=l.length:=by omega
    have hm2:Hid (m=expL l):=by have:=hm.out;rwa [List.take_length] at this
    go_wp2_with fail
    exact bodyPost_ret (v:=.int .i64 m) (by simp [results,Tryz.results77,go_sem]) rfl ⟨by rw [← hm2.out],gw0⟩
end Go.Proofs.YtchdmecjhaanfaaGreatDoor
