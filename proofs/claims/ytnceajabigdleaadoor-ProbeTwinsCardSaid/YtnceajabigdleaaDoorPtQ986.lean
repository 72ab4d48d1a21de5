/- Layer 9, in main's ghost: the finding of a state: the reference's walk. Condition: the tests lie in memory. -/
import Derived.Test.YtnceajabigdleaaDoorPtQ985
import Derived.Test.YtnceajabigdleaaDoorPtH3
namespace Go.Proofs.Qm
open Go Go.Pt Go.RowKit Prb
def CopS (base:Nat) (bl:List Bool) (T:Nat) (v:Value) (W:World):Prop:=∃ (g k2:Nat),v=.slice (some ⟨g,0,none⟩) T k2∧base≤g∧BlkB W g bl
theorem CopS.grew {base T:Nat} {bl:List Bool} {v:Value} {W W':World} (h:CopS base bl T v W) (hg:Grew W W'):CopS base bl T v W':=by
 obtain ⟨g,k2,h1,h2,h3⟩:=h;exact ⟨g,k2,h1,h2,h3.kept (KeepB.grew hg)⟩
def BldS (base:Nat) (bl:List Bool) (T I:Nat) (v:Value) (W:World):Prop:=∃ (g k2:Nat),v=.agg #[.slice (some ⟨g,0,none⟩) T k2,.int .i64 I,.int .i64 0]∧base≤g∧BlkB W g bl
theorem BldS.grew {base T I:Nat} {bl:List Bool} {v:Value} {W W':World} (h:BldS base bl T I v W) (hg:Grew W W'):BldS base bl T I v W':=by
 obtain ⟨g,k2,h1,h2,h3⟩:=h;exact ⟨g,k2,h1,h2,h3.kept (KeepB.grew hg)⟩
def BoxS (base:Nat) (v:Value) (W:World):Prop:=∃ bx:Nat,v=.pointer (some ⟨bx,0,none⟩)∧base≤bx∧W.heap[bx]? = some (.cells #[.slice none 0 0,.int .i64 0,.int .i64 0] 48 (0,0))
theorem BoxS.grew {base:Nat} {v:Value} {W W':World} (h:BoxS base v W) (hg:Grew W W'):BoxS base v W':=by
 obtain ⟨bx,h1,h2,h3⟩:=h;exact ⟨bx,h1,h2,(hg.block _ (Array.getElem?_eq_some_iff.1 h3).1).trans h3⟩
def KeepI (w w':World):Prop:=∀ (g:Nat) (cs:Array Value) (fz:Nat × Nat),w.heap[g]? = some (.cells cs 3 fz)→w'.heap[g]? = w.heap[g]?
theorem KeepI.below {w w':World} (h:Below w.heap.size w w'):KeepI w w':=fun g _ _ h1=>h.block g (Array.getElem?_eq_some_iff.1 h1).1
theorem KeepI.trans {w w2 w':World} (h:KeepI w w2) (k:KeepI w2 w'):KeepI w w':=fun g cs fz h1=>by
 have e:=h g cs fz h1;exact (k g cs fz (e.trans h1)).trans e
theorem KeepI.set {w:World} {b i:Nat} {v:Value} (hb:∀ (cs:Array Value) (fz:Nat × Nat),w.heap[b]? ≠ some (.cells cs 3 fz)):KeepI w (w.setCell ⟨b,i,none⟩ v):=fun g cs fz h=>heap_setCell_ne w (fun e=>hb cs fz (by rw [← e];exact h)) i v
theorem KeepI.row {w w':World} {base:Nat} {e:TypeId} {size k:Nat} {v:Value} {xs:List Value} (ho:w.ownsRow base e size v k xs) (he:3≠e) (hg:w.grownBy w' v.ownBlock):KeepI w w':=fun g _ _ h =>
 hg.block g (Array.getElem?_eq_some_iff.1 h).1 fun e'=>own_ne ho h he e'.symm
theorem OwnZ.low {w:World} {base base' k0:Nat} {a0:Option Addr} {l:List Int} (h:OwnZ w base a0 k0 l) (hb:base'≤base):OwnZ w base' a0 k0 l:=by
 refine ⟨h.1,h.2.imp id ?_⟩;rintro ⟨g,cap,cur,h1,h2,h3⟩;exact ⟨g,cap,cur,h1,Nat.le_trans hb h2,h3⟩
open Go Go.Pt Go.RowKit Prb
def finZ (n s:Int) (l:List Tq):Int:=if stB n s=false then 2 else if (decide (l.length≤40)&&tqsB n l)=false then 90 else 0
theorem fin_nil (r:Int) (w w':World) (h:Below w.heap.size w w'):FinP ([],[]) r w (.returned (.tuple #[.slice none 0 0,.slice none 0 0,.int .i64 r])) w':=⟨none,0,[],none,0,rfl,fun i z h=>(by cases h),rfl,fun i z h=>(by cases h),h⟩
set_option maxHeartbeats 3200000 in
theorem Find_err (n s:Int) (a:Option Addr) (cap:Nat) (l:List Tq) (w:World) (hl:l.length≤9223372036854775807) (hc:TqAt w a l) (h:finZ n s l≠0) :
  Calls prog 26 #[.int .i64 n,.int .i64 s,.slice a l.length cap] w (FinP ([],[]) (finZ n s l) w):=by
 have HK:=hid fun w=>known_any n s w
 cases hk:stB n s with
 | false =>
   rw [hk] at HK;rw [show finZ n s l=2 from if_pos hk];clear hc h hk;go_enter func26,ntmps26
   go_wp2_with fail
   refine (HK.out _).mono ?_;rintro e w' ⟨rfl,rfl⟩;go_wp2_with fail
   exact bodyPost_ret (v:=.tuple #[.slice none 0 0,.slice none 0 0,.int .i64 2]) (by simp [results,go_sem]) rfl (fin_nil 2 _ _ (Grew.below gw0))
 | true =>
   rw [hk] at HK;have hn:n=2∨n=4:=by
    by_cases h2:n=2
    · exact .inl h2
    · by_cases h4:n=4
      · exact .inr h4
      · simp [stB,h2,h4] at hk
   have HF:=hid fun w' (hg:Grew w w')=>fit_any n hn a cap l w' hl (hc.grew hg)
   have hno:¬ (stB n s=false):=by rw [hk];simp
   have hf:(decide (l.length≤40)&&tqsB n l)=false:=by
    cases hf:(decide (l.length≤40)&&tqsB n l) with
    | false=>rfl
    | true=>exact absurd ((if_neg hno).trans (if_neg (by rw [hf];simp))) h
   rw [hf] at HF;rw [show finZ n s l=90 from (if_neg hno).trans (if_pos hf)];clear hc h hk hn hno hf;go_enter func26,ntmps26
   go_wp2_with fail
   refine (HK.out _).mono ?_;rintro e w' ⟨rfl,hw'⟩;obtain rfl:w=w':=hw'.symm;clear hw';go_wp2_with fail
   refine (HF.out _ gw0).mono ?_;rintro e w' ⟨rfl,g1,n1,rfl⟩;go_wp2_with fail
   exact bodyPost_ret (v:=.tuple #[.slice none 0 0,.slice none 0 0,.int .i64 90]) (by simp [results,go_sem]) rfl (fin_nil 90 _ _ (Grew.below gw0))
end Go.Proofs.Qm
