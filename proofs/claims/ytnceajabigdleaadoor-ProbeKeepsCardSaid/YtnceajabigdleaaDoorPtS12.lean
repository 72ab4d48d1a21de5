/- Lists of integers of the call's own; append of one: for any program whose types 3 and 22 are int and []int. No program in sight. -/
import Derived.Test.YtnceajabigdleaaDoorPtH2
import Derived.Lib.LazyBuf
import Derived.OwnWalk
import Derived.Laws.AppendOwnNone
import Derived.Laws.Append
import Derived.Laws.Tables
namespace Go.Pt
open Go Go.RowKit
structure ZOk (P:Program):Prop where
 info:(P.info? 3).map (fun i=>(i.zero,i.size,i.bytes))=some (some (.int .i64 0),1,8)
 und:P.underlying 22=some (.slice 3)
def zCells (l:List Int):List Value:=l.map (Value.int .i64)
theorem zCells_app (l m:List Int):zCells (l++m)=zCells l++zCells m:=by simp [zCells]
theorem zCells_at {l:List Int} {i:Nat} {z:Int} (h:l[i]? = some z):(zCells l)[i]? = some (.int .i64 z):=by simp [zCells,h]
theorem zCells_one {l:List Int} {u:Value} (hu:u∈zCells l):u.oneCell'=true:=by
 unfold zCells at hu;obtain ⟨z,_,rfl⟩:=List.mem_map.1 hu;rfl
def OwnZ (w:World) (base:Nat) (a0:Option Addr) (k0:Nat) (l:List Int):Prop:=w.ownsRow base 3 1 (.slice a0 l.length k0) l.length (zCells l)
theorem OwnZ.nil (w:World) (base:Nat):OwnZ w base none 0 []:=World.ownsRow_nil w base 3 1
theorem OwnZ.grew {w w':World} {base:Nat} {a0:Option Addr} {k0:Nat} {l:List Int} (h:OwnZ w base a0 k0 l) (g:Grew w w'):OwnZ w' base a0 k0 l:=World.ownsRow.grew h g
theorem OwnZ.set_low {w:World} {base b i:Nat} {u:Value} {a0:Option Addr} {k0:Nat} {l:List Int} (h:OwnZ w base a0 k0 l) (hb:b<base):OwnZ (w.setCell ⟨b,i,none⟩ u) base a0 k0 l:=ownsRow_setCell_low h hb i u
theorem OwnZ.put {w:World} {base g k0:Nat} {l:List Int} (h:OwnZ w base (some ⟨g,0,none⟩) k0 l) (i:Nat) (z:Int):OwnZ (w.setCell ⟨g,i,none⟩ (.int .i64 z)) base (some ⟨g,0,none⟩) k0 (l.set i z):=by
 have h1:=(World.ownsRow.stored h i (.int .i64 z)).1;unfold OwnZ;rw [List.length_set,show zCells (l.set i z)=(zCells l).set i (.int .i64 z) by simp [zCells,List.map_set]];exact h1
theorem OwnZ.at {w:World} {base g k0:Nat} {l:List Int} (h:OwnZ w base (some ⟨g,0,none⟩) k0 l) {i:Nat} {z:Int} (hz:l[i]? = some z):w.cell? ⟨g,i,none⟩=some (.int .i64 z)∧w.frozen? ⟨g,i,none⟩=false:=by
 have hi:i<l.length:=(List.getElem?_eq_some_iff.1 hz).1;refine ⟨?_,World.ownsRow.frozenAt h i⟩;rw [World.ownsRow.cellAt h i (by omega)];exact zCells_at hz
theorem OwnZ.lt {w:World} {base g k0:Nat} {l:List Int} (h:OwnZ w base (some ⟨g,0,none⟩) k0 l):g<w.heap.size:=by
 rcases h.2 with ⟨h',_⟩ | ⟨g',_,_,h',_,hg,_⟩
 · simp at h'
 · injection h' with e1;injection e1 with e1;injection e1 with e1;subst e1
   exact (Array.getElem?_eq_some_iff.1 hg).1
theorem OwnZ.here {w:World} {base:Nat} {a0:Option Addr} {k0:Nat} {l:List Int} (h:OwnZ w base a0 k0 l):l=[]∨∃ g,a0=some ⟨g,0,none⟩∧base≤g∧g<w.heap.size∧∀ i z,l[i]? = some z→w.cell? ⟨g,i,none⟩=some (.int .i64 z):=by
 rcases h.2 with ⟨h1,h2⟩ | ⟨g,cap,cur,h1,h2,h3,h4⟩
 · exact .inl (List.eq_nil_of_length_eq_zero h2)
 · injection h1 with e1 e2 e3
   subst e1;subst e3;exact .inr ⟨g,rfl,h2,(Array.getElem?_eq_some_iff.1 h3).1,fun i z hz=>(OwnZ.at h hz).1⟩
theorem OwnZ.by {w w':World} {base g k0:Nat} {l:List Int} {row:Option Nat} (h:OwnZ w base (some ⟨g,0,none⟩) k0 l) (hg:w.grownBy w' row) (hne:some g≠row):OwnZ w' base (some ⟨g,0,none⟩) k0 l:=World.ownsRow.kept h hg (.inr hne)
theorem wpList_append_z {P:Program} (H:ZOk P) {w:World} {ops:Array Oper} {rest:List Oper} {o:Oper} {a:Act} {Q:Exit→Act→World→Prop} (hgd:o.guard=none) (s x:Operand)
  (ho:o.op=.call { callee:=.builtin .append,args:=#[s,x],argTypes:=#[22,22] })
  (base:Nat) (a0:Option Addr) (k0:Nat) (xs:List Int) (hs:a.eval s=.slice a0 xs.length k0) (hown:OwnZ w base a0 k0 xs)
  (b c:Nat) (z:Int) (hx:a.eval x=.slice (some ⟨b,0,none⟩) 1 c) (hz:w.cell? ⟨b,0,none⟩=some (.int .i64 z))
  (hmax:xs.length≤100000) (hbase:base≤w.heap.size)
  (h:∀ a2 k2 w',OwnZ w' base a2 k2 (xs++[z])→w.grownBy w' (Value.slice a0 xs.length k0).ownBlock→w.drawn≤w'.drawn→wpList P ops Q rest (a.put o.dst (.slice a2 (xs++[z]).length k2)) w') :
  wpList P ops Q (o::rest) a w:=by
 obtain ⟨i0,hi,hz0,hz1,hz2⟩:=info_parts H.info;refine wpList_append_behind hgd s x 22 ho base 3 i0 (.int .i64 0) 1 8 H.und hi hz0 hz1 hz2 rfl (by decide) _ _ (zCells xs) hs hown ⟨b,0,none⟩ 1 c [.int .i64 z] hx rfl ?_ (fun u hu=>zCells_one (l:=[z]) hu) (by unfold maxLen;omega) (by omega) hbase fun v' w' hown' hgrow _ hdr=>?_
 · intro j u hj
   match j,hj with
   | 0,hj=>simp at hj;subst hj;simpa [Addr.add] using hz
 · obtain ⟨a2,k2,rfl⟩:=ownsRow_slice hown'
   rw [show xs.length+1=(xs++[z]).length by simp,show zCells xs++[.int .i64 z]=zCells (xs++[z]) by simp [zCells]] at hown';rw [show xs.length+1=(xs++[z]).length by simp];exact h a2 k2 w' hown' hgrow hdr
open Go Go.RowKit
def zFull (xs:List Int) (cap:Nat):List Value:=zCells xs++List.replicate (cap - xs.length) (.int .i64 0)
theorem zFull_length {xs:List Int} {cap:Nat} (h:xs.length≤cap):(zFull xs cap).length=cap:=by simp [zFull,zCells];omega
def OwnL (w:World) (base:Nat) (v:Value) (xs:List Int):Prop :=
 (v=.slice none 0 0∧xs=[])∨∃ g cap,v=.slice (some ⟨g,0,none⟩) xs.length cap∧base≤g∧w.heap[g]? = some (.cells (zFull xs cap).toArray 3 (0,0))∧xs.length≤cap∧cap≤maxLen
theorem OwnL.grew {w w':World} {base:Nat} {v:Value} {xs:List Int} (h:OwnL w base v xs) (g:Grew w w'):OwnL w' base v xs:=by
 rcases h with h | ⟨b,cap,h1,h2,h3,h4⟩
 · exact .inl h
 · exact .inr ⟨b,cap,h1,h2,by rw [g.block b (Array.getElem?_eq_some_iff.1 h3).1];exact h3,h4⟩
theorem OwnL.base {w:World} {base base':Nat} {v:Value} {xs:List Int} (h:OwnL w base v xs) (hb:base'≤base):OwnL w base' v xs:=by
 rcases h with h | ⟨b,cap,h1,h2,h3⟩
 · exact .inl h
 · exact .inr ⟨b,cap,h1,Nat.le_trans hb h2,h3⟩
theorem OwnL.slice {w:World} {base:Nat} {v:Value} {xs:List Int} (h:OwnL w base v xs):∃ a c,v=.slice a xs.length c:=by
 rcases h with ⟨rfl,rfl⟩ | ⟨b,cap,rfl,_⟩
 · exact ⟨none,0,rfl⟩
 · exact ⟨_,_,rfl⟩
theorem OwnL.above {w:World} {base:Nat} {v:Value} {xs:List Int} (h:OwnL w base v xs):∀ k,v.ownBlock=some k→base≤k:=by
 rcases h with ⟨rfl,rfl⟩ | ⟨b,cap,rfl,hb,_⟩
 · intro k hk;simp [Value.ownBlock] at hk
 · intro k hk;simp [Value.ownBlock] at hk;subst hk;exact hb
theorem zeros_full (n:Nat):Builtin.zeroCells (Value.int .i64 0).cells n=(List.replicate n (Value.int .i64 0)).toArray:=by
 have:(Value.int .i64 0).cells=#[Value.int .i64 0]:=rfl;rw [this];simp only [Builtin.zeroCells];apply Array.ext_getElem?;intro j;simp only [List.size_toArray,List.length_cons,List.length_nil,Nat.zero_add,Nat.mul_one,List.getElem?_toArray,Nat.mod_one];simp [List.getElem?_replicate];by_cases hj:j<n
 · rw [if_pos hj,Array.getElem?_eq_getElem (by simpa using hj)];simp
 · rw [if_neg hj,Array.getElem?_eq_none (by simpa using hj)];simp
theorem full_snoc (xs:List Int) (z:Int) (cap:Nat):zCells xs++[.int .i64 z]++List.replicate (cap - (xs.length+1)) (.int .i64 0)=zFull (xs++[z]) cap:=by
 simp [zFull,zCells]
theorem full_put (xs:List Int) (z:Int) (cap:Nat):(zFull xs cap).take xs.length++[.int .i64 z]++(zFull xs cap).drop (xs.length+1)=zFull (xs++[z]) cap:=by
 have e1:(zFull xs cap).take xs.length=zCells xs:=by
  unfold zFull;rw [List.take_left' (by simp [zCells])]
 have e2:(zFull xs cap).drop (xs.length+1)=List.replicate (cap - (xs.length+1)) (.int .i64 0):=by
  unfold zFull;rw [← List.drop_drop,List.drop_left' (by simp [zCells]),List.drop_replicate]
  congr 1
 rw [e1,e2];exact full_snoc xs z cap
section
variable {P:Program} (w:World)
theorem run_append_f (H:ZOk P) (base:Nat) (ty:TypeId) (v:Value) (xs:List Int) (hown:OwnL w base v xs) (a:Addr) (c:Nat) (z:Int) (hz:w.cell? a=some (.int .i64 z)) (hmax:xs.length≤100000) (hbase:base≤w.heap.size) :
  ∃ v' w',(Builtin.append_ #[22,22] ty #[v,.slice (some a) 1 c]).run P w=.ok v' w'∧OwnL w' base v' (xs++[z])∧w.grownBy w' v.ownBlock∧w.drawn≤w'.drawn:=by
 obtain ⟨i,hi,h0,h1,h2⟩:=info_parts H.info;have hn:∀ j u,([.int .i64 z]:List Value)[j]? = some u→w.cell? (a.add j)=some u:=by
  intro j u hj;match j,hj with
  | 0, hj =>
    simp at hj;subst hj;have:a.add 0=a:=by unfold Addr.add;split <;> simp_all
    rw [this];exact hz
 have hm:(100001:Nat)≤maxLen:=by unfold maxLen;omega
 rcases hown with ⟨rfl,rfl⟩ | ⟨g,cap,rfl,hbg,hg,hnc,hcm⟩
 · have hr:=run_append_nil (P:=P) w 22 ty 3 i (.int .i64 0) H.und hi h0 a 1 c [.int .i64 z] (by rw [h1];rfl) hn (by omega) (by omega) (by rw [h2];omega)
   refine ⟨_,_,hr,.inr ⟨w.heap.size,grownCap w 1 0 3,rfl,hbase, ?_,grownCap_ge w 1 0 3,grownCap_le_maxLen w 1 0 3 (by omega)⟩,⟨rfl,rfl,rfl,by simp,fun k hk _=>heap_alloc_old w.drew _ hk⟩,Nat.le_succ _⟩;have:=heap_alloc_new w.drew (.cells (([.int .i64 z]:List Value).toArray++Builtin.zeroCells (Value.int .i64 0).cells (grownCap w 1 0 3 - 1)) 3);rw [zeros_full] at this;rw [zeros_full];refine this.trans ?_;have e:=full_snoc [] z (grownCap w 1 0 3);simp only [List.length_nil,Nat.zero_add,List.nil_append,zCells,List.map_nil] at e;simp only [List.append_toArray,List.nil_append];rw [← e]
 · by_cases hroom:xs.length+1≤cap
   · have hsz:(zFull xs cap).toArray.size=cap:=by rw [List.size_toArray];exact zFull_length hnc
     have hr:=run_append_room (P:=P) w 22 ty 3 i H.und hi g xs.length cap (zFull xs cap).toArray hg a 1 c [.int .i64 z] (by rw [h1];rfl) hn (fun u hu=>by simp at hu;subst hu;rfl) hroom (by rw [hsz,h1];simpa using hroom);simp only [h1,Nat.mul_one,List.length_cons,List.length_nil,Nat.zero_add,full_put xs z cap] at hr;refine ⟨_,_,hr,.inr ⟨g,cap,by simp,hbg,setRow_heap w g _ _ 3 _ hg,by simpa using hroom,hcm⟩,⟨rfl,rfl,rfl,by simp [World.setRow],fun k _ hk=>setRow_other w g k _ (fun e=>hk (by simp [Value.ownBlock,e]))⟩,Nat.le_refl _⟩
   · have holds:∀ j u,(zCells xs)[j]? = some u→w.cell? ((⟨g,0,none⟩:Addr).add j)=some u:=by
      intro j u hj;have hlt:=(List.getElem?_eq_some_iff.1 hj).1;simp only [zCells,List.length_map] at hlt;rw [Addr.add_lit,Nat.zero_add];simp only [World.cell?,hg,List.getElem?_toArray];unfold zFull;simp only [Option.isSome_none,Bool.false_eq_true,if_false];rw [List.getElem?_append_left (by simpa [zCells] using hlt)];exact hj
     have hb:Builtin.nextslicecap (xs.length+1) cap*i.bytes≤281474976710656:=growslice_fits (by omega) (by rw [h2];omega);have hr:=run_append_grow (P:=P) w 22 ty 3 i (.int .i64 0) H.und hi h0 ⟨g,0,none⟩ xs.length cap (zCells xs) (by rw [h1];simp [zCells]) holds a 1 c [.int .i64 z] (by rw [h1];rfl) hn (by omega) (by omega) hb;refine ⟨_,_,hr,.inr ⟨w.heap.size,grownCap w (xs.length+1) cap 3,by simp,hbase, ?_,by simpa using grownCap_ge w (xs.length+1) cap 3,grownCap_le_maxLen w _ cap 3 (by omega)⟩,⟨rfl,rfl,rfl,by simp,fun k hk _=>heap_alloc_old w.drew _ hk⟩,Nat.le_succ _⟩;have:=heap_alloc_new w.drew (.cells ((zCells xs).toArray++([.int .i64 z]:List Value).toArray++Builtin.zeroCells (Value.int .i64 0).cells (grownCap w (xs.length+1) cap 3 - (xs.length+1))) 3);rw [zeros_full] at this;rw [zeros_full];refine this.trans ?_;rw [← full_snoc xs z _];simp only [List.append_toArray]
end
theorem wpList_append_f {P:Program} (H:ZOk P) {w:World} {ops:Array Oper} {rest:List Oper} {o:Oper} {a:Act} {Q:Exit→Act→World→Prop} (hgd:o.guard=none) (s x:Operand)
  (ho:o.op=.call { callee:=.builtin .append,args:=#[s,x],argTypes:=#[22,22] })
  (base:Nat) (v:Value) (xs:List Int) (hs:a.eval s=v) (hown:OwnL w base v xs)
  (ad:Addr) (c:Nat) (z:Int) (hx:a.eval x=.slice (some ad) 1 c) (hz:w.cell? ad=some (.int .i64 z))
  (hmax:xs.length≤100000) (hbase:base≤w.heap.size)
  (h:∀ v' w',OwnL w' base v' (xs++[z])→w.grownBy w' v.ownBlock→w.drawn≤w'.drawn→wpList P ops Q rest (a.put o.dst v') w') :
  wpList P ops Q (o::rest) a w:=by
 refine wpList_plain hgd fun K hK=>?_
 obtain ⟨v',w',hr,h2,h3,h4⟩:=run_append_f (P:=P) w H base o.type v xs hown ad c z hz hmax hbase;unfold Oper.wp execOp;simp only [ho,resolve,invoke,builtin,Sem.run_bind,Sem.run_pure,Result.andThen_ok,List.map_toArray,List.map_cons,List.map_nil,hs,hx,hr];exact hK _ _ (h v' w' h2 h3 h4)
end Go.Pt
