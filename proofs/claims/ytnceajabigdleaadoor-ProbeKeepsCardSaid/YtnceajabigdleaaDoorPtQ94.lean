/- Layer 9, in main's ghost: lists of tests: which fit. Condition: they lie in memory. -/
import Derived.Test.YtnceajabigdleaaDoorPtQ7
import Derived.Test.YtnceajabigdleaaDoorPtQ8
namespace Go.Proofs.Qm
open Go Go.Pt Go.RowKit Prb
structure Tq where
 t:Tst
 b:List Bool
def TqAt (w:World) (a:Option Addr) (l:List Tq):Prop:=∀ i z,l[i]? = some z→∃ b off:Nat,a=some ⟨b,off,none⟩∧b<w.heap.size∧(w.cell? ⟨b,off+i*3,none⟩=some (.slice z.t.a z.t.len z.t.cap)∧w.cell? ⟨b,off+i*3+1,none⟩=some (.int .i64 z.t.i)∧w.cell? ⟨b,off+i*3+2,none⟩=some (.int .i64 z.t.o))∧z.t.len≤9223372036854775807∧TurnAt w z.t.a z.t.len z.b
theorem TurnAt.below {w w':World} {a:Option Addr} {len:Nat} {l:List Bool} (h:TurnAt w a len l) (hg:Below w.heap.size w w'):TurnAt w' a len l:=by
 refine ⟨h.1,h.2.imp id ?_⟩;rintro ⟨b,off,rfl,hb,hc⟩;exact ⟨b,off,rfl,Nat.lt_of_lt_of_le hb hg.size,hc.below hb hg⟩
theorem TqAt.below {w w':World} {a:Option Addr} {l:List Tq} (h:TqAt w a l) (hg:Below w.heap.size w w'):TqAt w' a l:=fun i z hz=>by
 obtain ⟨b,off,rfl,hb,⟨c0,c1,c2⟩,hl,ht⟩:=h i z hz;have key:∀ k:Nat,w'.cell? ⟨b,k,none⟩=w.cell? ⟨b,k,none⟩:=fun k=>by simp only [World.cell?,hg.block b hb]
 exact ⟨b,off,rfl,Nat.lt_of_lt_of_le hb hg.size,⟨(key _).trans c0,(key _).trans c1,(key _).trans c2⟩,hl,ht.below hg⟩
theorem TqAt.grew {w w':World} {a:Option Addr} {l:List Tq} (h:TqAt w a l) (hg:Grew w w'):TqAt w' a l:=h.below hg.below
theorem TqAt.tsAt {w:World} {b off:Nat} {l:List Tq} (h:TqAt w (some ⟨b,off,none⟩) l):TsAt w b off (l.map (·.t)):=fun i z hz=>by
 rw [List.getElem?_map] at hz;cases hq:l[i]? with
 | none=>rw [hq] at hz;cases hz
 | some q =>
   rw [hq] at hz;obtain rfl:=Option.some.inj hz;obtain ⟨b',off',e,hb,hc,hl,_⟩:=h i q hq;obtain ⟨rfl,rfl⟩:b=b'∧off=off':=by injection e with e;injection e with e1 e2;exact ⟨e1,e2⟩
   exact ⟨hc,hl⟩
def tqsB (n:Int) (l:List Tq):Bool:=tstsB n (l.map (·.t))
theorem tqsB_at {n:Int} {l:List Tq} (h:tqsB n l=true):∀ z∈l,tstB n z.t=true:=fun z hz=>by
 unfold tqsB tstsB at h;exact List.all_eq_true.1 h z.t (List.mem_map_of_mem hz)
theorem tq_fits {n:Int} {z:Tq} (_:n=2∨n=4) (h:tstB n z.t=true):z.t.len=cntZ n∧0≤z.t.i∧z.t.i≤n - 1∧0≤z.t.o∧z.t.o≤n - 1:=by
 unfold tstB fitB at h;simp only [Bool.and_eq_true,decide_eq_true_eq] at h;obtain ⟨⟨h1,h2,h3⟩,h4,h5⟩:=h;exact ⟨h1,h2,h3,h4,h5⟩
set_option maxHeartbeats 1600000 in
theorem fit_nil (n:Int) (a:Option Addr) (cap:Nat) (w:World):Calls prog 40 #[.int .i64 n,.slice a 0 cap] w fun e w'=>e=.returned (.bool true)∧Grew w w':=by
 have HI:=hid fun (f:Value) (w:World)=>show Calls prog 75 #[.slice a 0 cap,f] w fun e w'=>e=.returned (.int .i64 (-1))∧Grew w w' by
  go_enter func75,ntmps75
  go_wp2_with fail
  refine wp_loop_rounds 2 ?_;simp only [rounds_succ];go_wp2_with fail
  exact bodyPost_ret (v:=.int .i64 (-1)) (by simp [results,go_sem]) rfl ⟨rfl,gw0⟩
 have HH:=hid fun (f:Value) (w:World)=>show Calls prog 50 #[.slice a 0 cap,f] w fun e w'=>e=.returned (.bool false)∧Grew w w' by
  go_enter func50,ntmps50
  go_wp2_with fail
  refine (HI.out _ _).mono ?_;rintro e w' ⟨rfl,g,k,rfl⟩;go_wp2_with fail
  exact bodyPost_ret (v:=.bool false) (by simp [results,go_sem]) rfl ⟨rfl,gw0⟩
 go_enter func40,ntmps40
 go_wp2_with fail
 refine (HH.out _ _).mono ?_;rintro e w' ⟨rfl,g,k,rfl⟩;go_wp2_with fail
 exact bodyPost_ret (v:=.bool true) (by simp [results,go_sem]) rfl ⟨rfl,gw0⟩
theorem fit_any (n:Int) (hn:n=2∨n=4) (a:Option Addr) (cap:Nat) (l:List Tq) (w:World) (hl:l.length≤9223372036854775807) (hc:TqAt w a l) :
  Calls prog 40 #[.int .i64 n,.slice a l.length cap] w fun e w'=>e=.returned (.bool (decide (l.length≤40)&&tqsB n l))∧Grew w w':=by
 cases l with
 | nil=>exact fit_nil n a cap w
 | cons z r =>
   obtain ⟨b,off,rfl,hb,_⟩:=hc 0 z rfl;have h:=fit_some n b off cap ((z::r).map (·.t)) w hn hb (by simpa using hl) hc.tsAt;rw [List.length_map] at h;exact h
open Go Go.Pt Go.RowKit Prb
theorem whole_any (n:Int) (N:Nat) (hn:(n=2∧N=2)∨(n=4∧N=64)) (w:World):Calls prog 41 #[.int .i64 n] w fun e w'=>e=.returned (.int .u64 (setS (List.range N):Nat))∧w'=w:=by
 rcases hn with ⟨rfl,rfl⟩ | ⟨rfl,rfl⟩
 · rw [show setS (List.range 2)=3 from by decide +kernel]
   go_enter func41,ntmps41
   go_wp2_with fail
   refine (pcount2 _).mono ?_;rintro e w' ⟨rfl,rfl⟩;go_wp2_with fail
   exact bodyPost_ret (v:=.int .u64 3) (by simp [results,go_sem]) rfl ⟨rfl,rfl⟩
 · rw [show setS (List.range 64)=18446744073709551615 from by decide +kernel]
   go_enter func41,ntmps41
   go_wp2_with fail
   refine (pcount4 _).mono ?_;rintro e w' ⟨rfl,rfl⟩;go_wp2_with fail
   exact bodyPost_ret (v:=.int .u64 18446744073709551615) (by simp [results,go_sem]) rfl ⟨rfl,rfl⟩
def ints (L:List Nat):List Int:=L.map Int.ofNat
theorem ints_len (L:List Nat):(ints L).length=L.length:=by simp [ints]
theorem ints_snoc (L:List Nat) (x:Nat):ints (L++[x])=ints L++[(x:Int)]:=by simp [ints]
def agP (n:Int) (tl:List Bool) (I:Nat) (o:Int) (s:Nat):Bool:=decide (((refA n (thB s tl) I:Nat):Int)=o)
end Go.Proofs.Qm
