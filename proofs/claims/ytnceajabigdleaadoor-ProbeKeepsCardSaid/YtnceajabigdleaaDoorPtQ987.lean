/- Layer 9: what the finding leaves, plain: the state and its twins; its tests leave just these; they are fewer than the states and than the tries. No condition; no program in sight. -/
import Derived.Test.YtnceajabigdleaaDoorPtQ986
import Derived.Test.YtnceajabigdleaaDoorPtQ7
import Derived.Test.YtnceajabigdleaaDoorPtQ8
import Derived.Test.YtnceajabigdleaaDoorPtQ5
namespace Go.Proofs.Qm
open Go Go.Pt Go.RowKit Prb
def leftD (n:Int) (N:Nat) (l:List Fd):List Nat:=l.foldl (fun L f=>L.filter (agP n f.b f.i.toNat f.o)) (List.range N)
theorem leftD_of (n:Int) (N:Nat) (l:List Tq):leftL n N l=leftD n N (l.map fdOf):=by
 unfold leftL leftD;rw [List.foldl_map];rfl
theorem fold_filter (n:Int):∀ (l:List Fd) (L:List Nat),l.foldl (fun L f=>L.filter (agP n f.b f.i.toNat f.o)) L=L.filter fun y=>l.all fun f=>agP n f.b f.i.toNat f.o y
 | [],L=>(List.filter_eq_self.2 fun _ _=>rfl).symm
 | f :: r, L => by
   rw [List.foldl_cons,fold_filter n r,List.filter_filter];refine List.filter_congr fun y _=>?_
   rw [List.all_cons,Bool.and_comm]
theorem leftD_eq (n:Int) (N:Nat) (l:List Fd):leftD n N l=(List.range N).filter fun y=>l.all fun f=>agP n f.b f.i.toNat f.o y:=fold_filter n l _
open Go Go.Pt Go.RowKit Prb
theorem has_step {l:List Int} {i:Nat} {y x:Int} (hy:l[i]? = some y) (h:y≠x) (hp:x ∉ l.take i):x ∉ l.take (i+1):=by
 rw [List.take_add_one,hy,Option.toList_some,List.mem_append,List.mem_singleton];rintro (h1 | h1)
 · exact hp h1
 · exact h h1.symm
set_option maxHeartbeats 3200000 in
theorem has_any (a:Option Addr) (cap:Nat) (l:List Int) (x:Int) (w:World) (hl:l.length≤9223372036854775807) (hc:NsA w a l) :
  Calls prog 25 #[.slice a l.length cap,.int .i64 x] w fun e w'=>e=.returned (.bool (decide (x∈l)))∧Grew w w':=by
 have HC:=hid hc;clear hc;go_enter func25,ntmps25
 go_wp2_with fail
 go_loopw [9] (fun v wr=>∃ i:Nat,i≤l.length∧v=.int .i64 i∧Hid (x ∉ l.take i)∧Grew w wr) (fun v _=>l.length - (intOf v).toNat)
 case atStart=>exact ⟨0,Nat.zero_le _,rfl,hid (by simp),Grew.refl _⟩
 case round =>
  obtain ⟨i,hi,rfl,hp,g,k,rfl⟩:=hrel;by_cases hlt:i<l.length
  · obtain ⟨y,hy⟩:∃ y,l[i]? = some y:=⟨l[i],List.getElem?_eq_getElem hlt⟩
    obtain ⟨p,o,rfl,hq,c0⟩:=HC.out i y hy;have p1:=fun m0:Nat=>Nat.lt_add_right m0 hq
    by_cases hxy:y=x
    · subst hxy
      have HM:=hid (List.mem_of_getElem? hy);have e0:(y==y)=true:=by simp
      clear hy hp;go_wp2_with fail
      exact bodyPost_ret (v:=.bool true) (by simp [results,go_sem]) rfl ⟨by rw [decide_eq_true HM.out],gw0⟩
    · have e0:(y==x)=false:=by simpa using hxy
      have HN:=hid (has_step hy hxy hp.out);clear hy hp hxy;go_wp2_with fail
      go_roundw
      case rel=>exact ⟨i+1,by omega,by go_num,HN,gw0⟩
      case measure=>simp [intOf];omega
  · obtain rfl:i=l.length:=by omega
    have HN:Hid (x ∉ l):=hid (by have:=hp.out;rwa [List.take_length] at this);clear hp;go_wp2_with fail
    exact bodyPost_ret (v:=.bool false) (by simp [results,go_sem]) rfl ⟨by rw [decide_eq_false HN.out],gw0⟩
open Go Go.Pt Go.RowKit Prb
theorem mem_ints {L:List Nat} {x:Nat}:((x:Int)∈ints L)↔x∈L:=by
 unfold ints;rw [List.mem_map];constructor
 · rintro ⟨y,hy,e⟩
   have:y=x:=Int.ofNat.inj e;exact this ▸ hy
 · intro h
   exact ⟨x,h,by simp⟩
theorem tqAt_nil (w:World):TqAt w none []:=fun i z hz=>by cases hz
end Go.Proofs.Qm
