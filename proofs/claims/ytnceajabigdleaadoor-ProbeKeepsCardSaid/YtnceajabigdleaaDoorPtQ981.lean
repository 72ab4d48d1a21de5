/- Layer 9, in main's ghost: which tries part two states. Condition: the table and the tests lie in memory. -/
import Derived.Test.YtnceajabigdleaaDoorPtQ98
namespace Go.Proofs.Qm
open Go Go.Pt Go.RowKit Prb
structure TwAt (w:World) (N C bt bx by' x y:Nat):Prop where
 t:w.cell? ⟨bt,0,none⟩=some (.slice (some ⟨C,0,none⟩) N N)∧bt<w.heap.size
 x:w.cell? ⟨bx,0,none⟩=some (.int .i64 x)∧bx<w.heap.size
 y:w.cell? ⟨by',0,none⟩=some (.int .i64 y)∧by'<w.heap.size
theorem TwAt.grew {w w':World} {N C bt bx by' x y:Nat} (h:TwAt w N C bt bx by' x y) (hg:Grew w w'):TwAt w' N C bt bx by' x y :=
 ⟨⟨(hg.cell h.t.2 _).trans h.t.1,Nat.lt_of_lt_of_le h.t.2 hg.size⟩,⟨(hg.cell h.x.2 _).trans h.x.1,Nat.lt_of_lt_of_le h.x.2 hg.size⟩,⟨(hg.cell h.y.2 _).trans h.y.1,Nat.lt_of_lt_of_le h.y.2 hg.size⟩⟩
open Go Go.Pt Go.RowKit Prb
def pCells (l:List (Nat × Nat)):List Value:=l.flatMap fun p=>[.int .i64 p.1,.int .i64 p.2]
theorem pCells_app (l r:List (Nat × Nat)):pCells (l++r)=pCells l++pCells r:=by simp [pCells]
def OwnP (w:World) (base:Nat) (a0:Option Addr) (k0:Nat) (l:List (Nat × Nat)):Prop:=w.ownsRow base 57 2 (.slice a0 l.length k0) l.length (pCells l)
theorem OwnP.nil (w:World) (base:Nat):OwnP w base none 0 []:=World.ownsRow_nil w base 57 2
theorem OwnP.grew {w w':World} {base:Nat} {a0:Option Addr} {k0:Nat} {l:List (Nat × Nat)} (h:OwnP w base a0 k0 l) (g:Grew w w'):OwnP w' base a0 k0 l:=World.ownsRow.grew h g
def PsA (w:World) (a:Option Addr) (l:List (Nat × Nat)):Prop:=∀ i p,l[i]? = some p→∃ b:Nat,a=some ⟨b,0,none⟩∧b<w.heap.size∧w.cell? ⟨b,i*2,none⟩=some (.int .i64 (p.1:Nat))∧w.cell? ⟨b,i*2+1,none⟩=some (.int .i64 (p.2:Nat))
theorem PsA.below {w w':World} {a:Option Addr} {l:List (Nat × Nat)} (h:PsA w a l) (hg:Below w.heap.size w w'):PsA w' a l:=fun i p hp=>by
 obtain ⟨b,rfl,hb,c0,c1⟩:=h i p hp;have key:∀ k:Nat,w'.cell? ⟨b,k,none⟩=w.cell? ⟨b,k,none⟩:=fun k=>by simp only [World.cell?,hg.block b hb]
 exact ⟨b,rfl,Nat.lt_of_lt_of_le hb hg.size,(key _).trans c0,(key _).trans c1⟩
end Go.Proofs.Qm
