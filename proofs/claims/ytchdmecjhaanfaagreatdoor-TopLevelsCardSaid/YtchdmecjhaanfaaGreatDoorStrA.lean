import Derived.Test.YtchdmecjhaanfaaGreatDoorRows
import Derived.Test.YtchdmecjhaanfaaGreatDoorHouse
import Derived.WalkKit
import Derived.Lib.Strings
import Derived.Lib.Slices
import Derived.Lib.Walk
import Derived.Lib.Builder
import Derived.Lib.AppendStr
import Derived.Lib.UnsafeStr
import Derived.Laws.Externs
import Derived.Laws.IdiomCopy
import Derived.OwnWalk
import Derived.Test.YtchdmecjhaanfaaGreatDoorShelf
import Derived.Test.YtchdmecjhaanfaaGreatDoorMshPlain
import Derived.Lib.CutLaws
import Derived.Lib.SplitLaws
import Derived.RangeFuncNested
import Derived.RangeFuncBox
import Derived.RangeFuncBound
import Derived.RangeFuncCalls
import Derived.RangeFuncLeaves
import Derived.OwnWalkIn
import Derived.TacticsInMore
import Derived.LoopNIn
import Derived.LoopIn
import Derived.Shelf.Abstract
import Derived.Lib.LaidU8
import Derived.Stop.LaidErr
import Derived.SizedLaws
import Derived.HandedShaped
import Derived.Shelf.Vars
import Derived.LaidMore
import Derived.Lay
import Derived.SevenTiedAt
import Derived.ProofKit
import Derived.OpenShut
namespace Go.Proofs.YtchdmecjhaanfaaGreatDoor
open Go Go.RowKit
def strB (l:List UInt8):ByteArray:=⟨l.toArray⟩
theorem strB_data (s:ByteArray):strB s.data.toList=s:=by unfold strB;simp
theorem strB_of (l:List UInt8):(strB l).data.toList=l:=by unfold strB;simp
theorem strB_list (l:List UInt8):(strB l).toList=l:=by
 rw [ByteArray.toList_eq];exact strB_of l
@[go_sem high,simp] theorem strB_size (l:List UInt8):(strB l).size=l.length:=by unfold strB;simp [ByteArray.size]
theorem strB_inj {a b:List UInt8} (h:strB a=strB b):a=b:=by rw [← strB_of a,h,strB_of]
def eqL (a b:List UInt8):Bool:=a==b
@[go_sem 100000] theorem run_str_eql (a b : List UInt8) (w : World) : (binOp .eql 9 (.string (strB a)) (.string (strB b))).run Tryz.prog w = .ok (.bool (eqL a b)) w := by
  simp [go_sem,strB_list,eqL]
@[go_sem 100000] theorem run_str_neq (a b : List UInt8) (w : World) : (binOp .neq 9 (.string (strB a)) (.string (strB b))).run Tryz.prog w = .ok (.bool (!eqL a b)) w := by
  simp [go_sem,strB_list,eqL]
@[go_sem 100000] theorem strB_append (a b : List UInt8) : strB a ++ strB b = strB (a ++ b) := by
  apply ByteArray.ext;rw [ByteArray.data_append];unfold strB;simp
@[go_sem 100000] theorem run_str_add (a b : List UInt8) (w : World) (h : a.length + b.length ≤ 9223372036854775807) : (binOp .add 9 (.string (strB a)) (.string (strB b))).run Tryz.prog w = .ok (.string (strB (a ++ b))) w := by
  simp [go_sem,strB_append];omega
@[go_sem 100000] theorem strB_appc (c:UInt8) (b:List UInt8):(⟨#[c]⟩:ByteArray)++strB b=strB (c::b):=strB_append [c] b
@[go_sem 100000] theorem strB_appr (a:List UInt8) (c:UInt8):strB a++(⟨#[c]⟩:ByteArray)=strB (a++[c]):=strB_append a [c]
@[go_sem 100000] theorem run_str_addc (c : UInt8) (b : List UInt8) (w : World) (h : b.length ≤ 4611686018427387903) : (binOp .add 9 (.string ⟨#[c]⟩) (.string (strB b))).run Tryz.prog w = .ok (.string (strB (c :: b))) w :=
  run_str_add [c] b w (by simp;omega)
@[go_sem 100000] theorem run_str_addr (a : List UInt8) (c : UInt8) (w : World) (h : a.length ≤ 4611686018427387903) : (binOp .add 9 (.string (strB a)) (.string ⟨#[c]⟩)).run Tryz.prog w = .ok (.string (strB (a ++ [c]))) w :=
  run_str_add a [c] w (by simp;omega)
@[go_sem 100000] theorem run_str_eql0 (a:List UInt8) (w:World):(binOp .eql 9 (.string (strB a)) (.string ⟨#[]⟩)).run Tryz.prog w=.ok (.bool (eqL a [])) w:=run_str_eql a [] w
@[go_sem 100000] theorem run_str_neq0 (a:List UInt8) (w:World):(binOp .neq 9 (.string (strB a)) (.string ⟨#[]⟩)).run Tryz.prog w=.ok (.bool (!eqL a [])) w:=run_str_neq a [] w
@[go_sem 100000] theorem run_str_eql1 (a:List UInt8) (c:UInt8) (w:World):(binOp .eql 9 (.string (strB a)) (.string ⟨#[c]⟩)).run Tryz.prog w=.ok (.bool (eqL a [c])) w:=run_str_eql a [c] w
theorem idx_get {l:List UInt8} {i:Nat} (h:i<l.length):(strB l)[i]? = some (l.getD i 0):=by
 rw [List.getD_eq_getElem?_getD,List.getElem?_eq_getElem h];have hs:i<(strB l).size:=by rw [strB_size];exact h
 rw [getElem?_pos (strB l) i hs];rfl
@[go_sem 100000] theorem run_str_index (l : List UInt8) (i : Nat) (w : World) (h : i < l.length) : (Instr.index 9 (.string (strB l)) (.int .i64 (i : Int))).run Tryz.prog w = .ok (.int .u8 ((l.getD i 0).toNat : Int)) w := by
  unfold Instr.index;simp only [go_sem];simp [idx_get h]
@[go_sem 100000] theorem run_str_index0 (l:List UInt8) (w:World) (h:0<l.length):(Instr.index 9 (.string (strB l)) (.int .i64 0)).run Tryz.prog w=.ok (.int .u8 ((l.getD 0 0).toNat:Int)) w:=run_str_index l 0 w h
theorem strB_extract (l:List UInt8) (i j:Nat):(strB l).extract i j=strB ((l.take j).drop i):=by
 apply ByteArray.ext;unfold strB;rw [ByteArray.data_extract];apply Array.toList_inj.1;simp [List.extract_eq_take_drop];rw [List.drop_take]
@[go_sem 100000] theorem run_str_from (l : List UInt8) (i : Nat) (w : World) (h : i ≤ l.length) : (Instr.sliceAt 9 (.string (strB l)) (some (.int .i64 (i : Int))) none none).run Tryz.prog w = .ok (.string (strB (l.drop i))) w := by
  unfold Instr.sliceAt Instr.slice;simp only [go_sem];simp [Instr.sliceBound,go_sem,strB_extract];intro hh;omega
@[go_sem 100000] theorem run_str_from1 (l:List UInt8) (w:World) (h:0<l.length):(Instr.sliceAt 9 (.string (strB l)) (some (.int .i64 1)) none none).run Tryz.prog w=.ok (.string (strB (l.drop 1))) w:=run_str_from l 1 w h
@[go_sem 100000] theorem run_str_to (l : List UInt8) (i : Nat) (w : World) (h : i ≤ l.length) : (Instr.sliceAt 9 (.string (strB l)) none (some (.int .i64 (i : Int))) none).run Tryz.prog w = .ok (.string (strB (l.take i))) w := by
  unfold Instr.sliceAt Instr.slice;simp only [go_sem];simp [Instr.sliceBound,go_sem,strB_extract];intro hh;omega
open Go Go.RowKit
theorem sizeBuilder:(Tryz.prog.info? 108).map (·.size)=some 2:=by kernel_rfl
theorem liesBuilder:liesAt Tryz.prog Tryz.prog.depth 108 (2 / Tryz.prog.cellsOf 108) 0 108 1=true:=by kernel_rfl
theorem infoByteB:(Tryz.prog.info? 5).map (fun i=>(i.zero,i.size,i.bytes))=some (some (.int .u8 0),1,1):=by kernel_rfl
set_option maxHeartbeats 1000000 in
set_option maxRecDepth 100000 in
theorem ccheck_used (b:Nat) (w:World) (h0:w.cell? ⟨b,0,none⟩=some (.pointer (some ⟨b,0,none⟩))) :
  Calls Tryz.prog 108 #[.pointer (some ⟨b,0,none⟩)] w fun e w'=>e=.returned (.tuple #[])∧w'=w:=by
 obtain ⟨j,hj,_⟩:=Option.map_eq_some_iff.1 sizeBuilder;have hne:=Lib.run_neq_ptr_same w ⟨b,0,none⟩ Tryz.underlying105 hj;go_enter Tryz.func108,Tryz.ntmps108
 go_wp2;go_end0
 exact ⟨rfl,rfl⟩
set_option maxHeartbeats 1000000 in
set_option maxRecDepth 100000 in
theorem ccheck_fresh (b:Nat) (w:World) (h0:w.cell? ⟨b,0,none⟩=some (.pointer none)) (hsh:w.shape? b=some (108,2)) (hfz:w.frozen? ⟨b,0,none⟩=false) :
  Calls Tryz.prog 108 #[.pointer (some ⟨b,0,none⟩)] w fun e w'=>e=.returned (.tuple #[])∧w'=w.setCell ⟨b,0,none⟩ (.pointer (some ⟨b,0,none⟩)):=by
 obtain ⟨j,hj,hjs⟩:=Option.map_eq_some_iff.1 sizeBuilder;go_enter Tryz.func108,Tryz.ntmps108
 go_wp2;rw [Lib.run_to_unsafe w ⟨b,0,none⟩ Tryz.underlying105 Tryz.underlying189 hj (by rw [hjs];decide) hsh (Nat.zero_lt_succ 1)];simp only [Result.andThen];rw [Oper.upon_value];go_wp2;rw [run_callFunc_extern Tryz.func135 (by kernel_rfl) (by kernel_rfl) (by kernel_rfl) (e:=Extern.AbiNoEscape.same) (by kernel_rfl)];rw [Lib.run_noEscape];simp only [Result.andThen];rw [Oper.upon_value];go_wp2;rw [Lib.run_from_unsafe w ⟨b,0,none⟩ Tryz.underlying189 Tryz.underlying105 hj hsh liesBuilder];simp only [Result.andThen];rw [Oper.upon_value];go_wp2;go_end0
 exact ⟨rfl,rfl⟩
open Go Go.RowKit
def Tab (w:World):Prop:=Lib.TabIs Tryz.prog w "internal/strconv.uint64pow10" .u64 Lib.pow10Tab
theorem var_below {n:String} {cs:Array Value} {w w':World} (h:w.var? Tryz.prog n=some cs) (hb:Below w.heap.size w w'):w'.var? Tryz.prog n=some cs:=by
 unfold World.var? at *
 cases hg:Tryz.prog.globalNamed n with
 | none=>rw [hg] at h;cases h
 | some g =>
   rw [hg] at h;have h2:(match w.heap[g]? with | some (.cells cs _ _)=>some cs | _=>none)=some cs:=h;have hlt:g<w.heap.size:=by
    rcases Nat.lt_or_ge g w.heap.size with h' | h'
    · exact h'
    · rw [Array.getElem?_eq_none h'] at h2;cases h2
   show (match w'.heap[g]? with | some (.cells cs _ _)=>some cs | _=>none)=some cs
   rw [hb.block g hlt];exact h2
theorem Tab.below {w w':World} (h:Tab w) (hb:Below w.heap.size w w'):Tab w':=var_below h hb
theorem isB_grew {B b:Nat} {bs:List Value} {w w':World} (h:Lib.IsBuilder 108 5 B b bs w) (g:Grew w w'):Lib.IsBuilder 108 5 B b bs w':=by
 have key:∀ p,Lib.BuilderAt 108 5 B b p bs w→Lib.BuilderAt 108 5 B b p bs w':=by
  rintro p ⟨hB,v,hb,hown,hne⟩;exact ⟨hB,v,(g.block b (Array.getElem?_eq_some_iff.1 hb).1).trans hb,hown.grew g,hne⟩
 exact h.imp (key _) (key _)
structure BldW (W0:World) (b:Nat) (l:List UInt8) (w:World):Prop where
 is:Lib.IsBuilder 108 5 W0.heap.size b (Lib.byteCells l) w
 below:Below W0.heap.size W0 w
 tab:Tab W0
theorem BldW.grew {W0 w w':World} {b:Nat} {l:List UInt8} (h:BldW W0 b l w) (g:Grew w w'):BldW W0 b l w' :=
 ⟨isB_grew h.is g,h.below.trans (g.below.mono h.below.size),h.tab⟩
theorem bstrW (W0:World) (b:Nat) (l:List UInt8) (w:World) (h:BldW W0 b l w) :
  Calls Tryz.prog 60 #[.pointer (some ⟨b,0,none⟩)] w fun e w'=>e=.returned (.string (strB l))∧Below W0.heap.size W0 w':=by
 refine (Tryz.Builder_String_any W0.heap.size b l w h.is h.below.size).mono ?_;rintro e w' ⟨rfl,h2⟩;exact ⟨rfl,h.below.trans h2⟩
theorem itoa_any (n:Int) (w:World) (h0:-9223372036854775808≤n) (h1:n≤9223372036854775807) (ht:Tab w) :
  Calls Tryz.prog 58 #[.int .i64 n] w fun e w'=>e=.returned (.string (strB (Lib.itoa n)))∧Grew w w':=by
 refine (Tryz.strconv_Itoa n h0 h1 w ht).mono ?_;rintro e w' ⟨rfl,k,os,rfl⟩;refine ⟨rfl,os.toList,k, ?_⟩;rw [← World.grow_drewN];unfold World.grow;rw [Array.toArray_toList];rfl
theorem bld_new (w:World) (hT:Tab w):BldW w w.heap.size [] (w.alloc (.cells #[.pointer none,.slice none 0 0] 108)) :=
 ⟨.inl ⟨Nat.le_refl _,.slice none 0 0,blk_new rfl,World.ownsRow_nil _ _ _ _,by simp [Value.ownBlock]⟩,(Below.refl _ w).alloc (Nat.le_refl _) _,hT⟩
open Go Go.RowKit Amp
attribute [go_sem 100000] strB_list
theorem isE_t {l:List UInt8} (h:l=[]):l.isEmpty=true:=by rw [h];rfl
theorem isE_f {l:List UInt8} (h:l≠[]):l.isEmpty=false:=by cases l with | nil=>exact absurd rfl h | cons a t=>rfl
theorem eq_t {l m:List UInt8} (h:l=m):(l==m)=true:=beq_iff_eq.2 h
theorem eq_f {l m:List UInt8} (h:l≠m):(l==m)=false:=beq_eq_false_iff_ne.2 h
@[go_sem 100000] theorem run_str_fromS (l:List UInt8) (i:Nat) (w:World) (h:i+1≤l.length):(Instr.sliceAt 9 (.string (strB l)) (some (.int .i64 ((i:Int)+1))) none none).run Tryz.prog w=.ok (.string (strB (l.drop (i+1)))) w:=run_str_from l (i+1) w h
def byteI (l:List UInt8) (i:Nat):Int:=((l.getD i 0).toNat:Int)
@[go_sem 200000] theorem run_str_indexB (l:List UInt8) (i:Nat) (w:World) (h:i<l.length):(Instr.index 9 (.string (strB l)) (.int .i64 (i:Int))).run Tryz.prog w=.ok (.int .u8 (byteI l i)) w:=run_str_index l i w h
@[go_sem 200000] theorem run_str_indexB0 (l:List UInt8) (w:World) (h:0<l.length):(Instr.index 9 (.string (strB l)) (.int .i64 0)).run Tryz.prog w=.ok (.int .u8 (byteI l 0)) w:=run_str_index l 0 w h
structure LaidW (w:World):Prop where
 tab:Tab w
 syn:∃ tp p,w.var? Tryz.prog "strconv.ErrSyntax"=some #[.iface tp p]
 rng:∃ tp p,w.var? Tryz.prog "strconv.ErrRange"=some #[.iface tp p]
theorem LaidW.below {w w':World} (h:LaidW w) (hb:Below w.heap.size w w'):LaidW w':=by
 obtain ⟨h1,⟨t2,p2,h2⟩,⟨t3,p3,h3⟩⟩:=h;exact ⟨h1.below hb,⟨t2,p2,var_below h2 hb⟩,⟨t3,p3,var_below h3 hb⟩⟩
def numA (l:List UInt8):Int:=match Lib.atoiAll l with | .ok v=>v | .syntax=>0 | .range=>Lib.atoiSat l
def okA (l:List UInt8):Bool:=match Lib.atoiAll l with | .ok _=>true | _=>false
def ErrIs (er:Value) (b:Bool):Prop:=if b=true then er=.nilIface else ∃ N,er=.iface 209 (.pointer (some ⟨N,0,none⟩))
theorem atoi_any (l:List UInt8) (w:World) (hl:l.length≤140737488351232) (hL:LaidW w) :
  Calls Tryz.prog 113 #[.string (strB l)] w fun e w'=>(∃ er,e=.returned (.tuple #[.int .i64 (numA l),er])∧ErrIs er (okA l))∧Below w.heap.size w w':=by
 obtain ⟨_,⟨t2,p2,h2⟩,⟨t3,p3,h3⟩⟩:=hL;have hz:(strB l).size=l.length:=strB_size l;have hd:(strB l).data.toList=l:=strB_of l;unfold numA okA;have hcs:(∃ v,Lib.atoiAll l=.ok v)∨Lib.atoiAll l=.syntax∨Lib.atoiAll l=.range:=by cases Lib.atoiAll l <;> simp
 rcases hcs with ⟨v,h⟩ | h | h
 case inl =>
  rw [h];refine (Tryz.strconv_Atoi_ok (strB l) (by omega) v (by rw [hd];exact h) w).mono ?_;rintro e w' ⟨rfl,hw⟩;refine ⟨⟨_,rfl,rfl⟩, ?_⟩;rcases hw with rfl | ⟨t,rfl⟩
  · exact Below.refl _ _
  · exact Lib.bytesWorld_below _ _ _
 case inr.inl =>
  rw [h];refine (Tryz.strconv_Atoi_syntax_var (strB l) (by omega) (by rw [hd];exact h) t2 p2 w h2).mono ?_;rintro e w' ⟨N,rfl,_,_,hb⟩;exact ⟨⟨_,rfl,N,rfl⟩,hb⟩
 case inr.inr =>
  rw [h];have:=Tryz.strconv_Atoi_range_var (strB l) (by omega) (by rw [hd];exact h) t3 p3 w h3;rw [hd] at this;refine this.mono ?_;rintro e w' ⟨N,rfl,_,_,hb⟩;exact ⟨⟨_,rfl,N,rfl⟩,hb⟩
open Go Go.RowKit Amp Msh
theorem mem_cut {c:UInt8} {l:List UInt8} (h:c∈l):∃ a b,l=a++c::b∧c ∉ a:=by
 obtain ⟨a,b,e,h2⟩:=List.eq_append_cons_of_mem h;exact ⟨a,b,e,h2⟩
theorem pre_one (c x:UInt8) (l:List UInt8):[c].isPrefixOf (x::l)=(c==x):=by simp [List.isPrefixOf]
theorem index_app {c:UInt8}:∀ {a b:List UInt8},c ∉ a→Lib.index (a++c::b) [c]=a.length
 | [], b, _ => by
   show (if [c].isPrefixOf (c::b) then (0:Int) else _)=_
   rw [pre_one,beq_self_eq_true,if_pos rfl];rfl
 | x :: a, b, h => by
   rw [List.mem_cons,not_or] at h;show (if [c].isPrefixOf (x::(a++c::b)) then (0:Int) else if Lib.index (a++c::b) [c]==-1 then -1 else Lib.index (a++c::b) [c]+1)=_
   rw [pre_one,beq_eq_false_iff_ne.2 h.1,if_neg (by simp),index_app h.2,if_neg (by simp),List.length_cons];omega
theorem index_none {c:UInt8}:∀ {l:List UInt8},c ∉ l→Lib.index l [c]=-1
 | [],_=>rfl
 | x :: l, h => by
   rw [List.mem_cons,not_or] at h;show (if [c].isPrefixOf (x::l) then (0:Int) else if Lib.index l [c]==-1 then -1 else Lib.index l [c]+1)=_
   rw [pre_one,beq_eq_false_iff_ne.2 h.1,if_neg (by simp),index_none h.2];rfl
theorem cut_one (c:UInt8) (l:List UInt8):Lib.cut l [c]=(befB c l,aftB c l,hasB c l):=by
 unfold Lib.cut;by_cases h:c∈l
 · obtain ⟨a,b,rfl,ha⟩:=mem_cut h
   obtain ⟨h1,h2,h3⟩:=befB_app (m:=b) ha;rw [index_app ha,if_pos (by omega),h1,h2,h3];simp
 · obtain ⟨h1,h2,h3⟩:=befB_none h
   rw [index_none h,if_neg (by omega),h1,h2,h3]
theorem split_one (c:UInt8):∀ (n:Nat) (l:List UInt8),l.count c=n→Lib.splitB ⟨#[c]⟩ 0 n (strB l)=(spl c l).map strB∧(spl c l).length=n+1
 | 0, l, h => by
   have hc:c ∉ l:=fun hm=>by have:=List.count_pos_iff.2 hm;omega
   rw [spl_none hc];exact ⟨rfl,rfl⟩
 | n + 1, l, h => by
   have hc:c∈l:=List.count_pos_iff.1 (by omega);obtain ⟨a,b,rfl,ha⟩:=mem_cut hc;have hb:b.count c=n:=by
    rw [List.count_append,List.count_cons_self,List.count_eq_zero.2 ha] at h;omega
   obtain ⟨h1,h2⟩:=split_one c n b hb;have hi:Lib.indexB (strB (a++c::b)) ⟨#[c]⟩=(a.length:Nat):=by
    show Lib.index (strB (a++c::b)).data.toList [c]=_
    rw [strB_of];exact index_app ha
   rw [Lib.splitB_hit _ _ _ _ _ hi,spl_app ha];refine ⟨?_,by rw [List.length_cons,h2]⟩;rw [List.map_cons,← h1]
   congr 1
   · rw [strB_extract]
     congr 1
     simp
   · rw [strB_extract]
     congr 2
     rw [strB_size,List.take_length];show (a++c::b).drop (a.length+1)=b
     rw [← List.drop_drop,List.drop_left']
     · rfl
     · rfl
structure LaidN (w:World):Prop where
 lay:LaidW w
 max:∃ m,w.cell? ⟨0,0,none⟩=some (.int .i64 m)
theorem cell_lt {w:World} {b i:Nat} {v:Value} (h:w.cell? ⟨b,i,none⟩=some v):b<w.heap.size:=by
 rcases Nat.lt_or_ge b w.heap.size with h' | h'
 · exact h'
 · unfold World.cell? at h
   rw [Array.getElem?_eq_none h'] at h;cases h
theorem LaidN.below {w w':World} (h:LaidN w) (hb:Below w.heap.size w w'):LaidN w':=by
 obtain ⟨h1,m,h2⟩:=h;exact ⟨h1.below hb,m,(hb.cell (p:=⟨_,0,none⟩) (cell_lt h2)).trans h2⟩
theorem countB_one (c:UInt8) (l:List UInt8):Lib.countB (strB l) ⟨#[c]⟩=l.count c:=by
 show Lib.count (strB l).data.toList [c]=_
 rw [strB_of,Lib.count_one]
theorem cutB_any (c:UInt8) (l:List UInt8) (w:World) (hl:l.length≤100000) (hL:LaidN w) :
  Calls Tryz.prog 63 #[.string (strB l),.string ⟨#[c]⟩] w fun e w'=>e=.returned (.tuple #[.string (strB (befB c l)),.string (strB (aftB c l)),.bool (hasB c l)])∧Grew w w':=by
 obtain ⟨_,m,hm⟩:=hL;have:=Tryz.strings_Cut (strB l) ⟨#[c]⟩ m w (by rw [strB_size];omega) hm;rw [strB_of,show (⟨#[c]⟩:ByteArray).data.toList=[c] from rfl,cut_one] at this;refine this.mono ?_;rintro e w' ⟨rfl,n,rfl⟩;exact ⟨rfl,(Grew.refl w).drewN n⟩
def strsV (l:List (List UInt8)):Array Value:=(l.map fun p=>Value.string (strB p)).toArray
theorem splitB_any (c:UInt8) (l:List UInt8) (w:World) (hl:l.length≤100000) (hL:LaidN w) :
  Calls Tryz.prog 64 #[.string (strB l),.string ⟨#[c]⟩] w fun e w'=>e=.returned (.slice (some ⟨w.heap.size,0,none⟩) (spl c l).length (spl c l).length)∧w'=w.alloc (.cells (strsV (spl c l)) 9):=by
 obtain ⟨_,m,hm⟩:=hL;obtain ⟨h1,h2⟩:=split_one c _ l rfl;have:=Tryz.strings_Split (strB l) ⟨#[c]⟩ m w (by rw [strB_size];omega) hm (Nat.le_refl 1);rw [countB_one,h1] at this;rw [h2];unfold strsV;rw [List.map_map] at this;exact this
theorem trimp_any (c:UInt8) (l:List UInt8) (w:World) :
  Calls Tryz.prog 67 #[.string (strB l),.string ⟨#[c]⟩] w fun e w'=>e=.returned (.string (strB (cutHd c l)))∧w'=w:=by
 have:=Tryz.strings_TrimPrefix (strB l) ⟨#[c]⟩ w;rw [strB_of,show (⟨#[c]⟩:ByteArray).data.toList=[c] from rfl] at this;have e:Lib.trimPrefix l [c]=cutHd c l:=by
  unfold Lib.trimPrefix Lib.hasPrefix cutHd;cases l with
  | nil=>rfl
  | cons x r =>
    rw [pre_one];by_cases h:x=c
    · subst h
      simp
    · rw [beq_eq_false_iff_ne.2 fun q=>h q.symm,if_neg Bool.false_ne_true]
      exact (if_neg h).symm
 rw [e] at this;exact this
theorem trims_any (c:UInt8) (l:List UInt8) (w:World) (hl:l.length≤100000) :
  Calls Tryz.prog 33 #[.string (strB l),.string ⟨#[c]⟩] w fun e w'=>e=.returned (.string (strB (cutTl c l)))∧w'=w:=by
 have:=Tryz.strings_TrimSuffix (strB l) ⟨#[c]⟩ w (by rw [strB_size];omega);rw [strB_of,show (⟨#[c]⟩:ByteArray).data.toList=[c] from rfl] at this;have e:Lib.trimSuffix l [c]=cutTl c l:=by
  unfold Lib.trimSuffix Lib.hasSuffix cutTl;by_cases h:l.getLast? = some c
  · obtain ⟨r,rfl⟩:∃ r,l=r++[c]:=by
     rw [List.getLast?_eq_some_iff] at h;exact h
    rw [if_pos h,if_pos (by rw [List.isSuffixOf_iff_suffix];exact List.suffix_append _ _)];simp
  · rw [if_neg h,if_neg]
    rw [List.isSuffixOf_iff_suffix];rintro ⟨r,rfl⟩;simp at h
 rw [e] at this;exact this
set_option maxHeartbeats 800000 in
theorem number_any (l:List UInt8) (w:World) (hl:l.length≤100000) (hL:LaidN w) :
  Calls Tryz.prog 65 #[.string (strB l)] w fun e w'=>e=.returned (.int .i64 (numP l))∧Below w.heap.size w w':=by
 have HA:=hid (atoi_any l w (by omega) hL.lay);have HP:=hid (show numP l=if okA l=true then numA l else -1 by
  unfold numP okA numA;cases Lib.atoiAll l <;> rfl)
 obtain ⟨ok,hok⟩:∃ ok,okA l=ok:=⟨_,rfl⟩;obtain ⟨v,hv⟩:∃ v,numA l=v:=⟨_,rfl⟩;rw [hok,hv] at HP;rw [hok,hv] at HA;clear hok hv hL;go_enter Tryz.func65,Tryz.ntmps65
 go_wp2_with fail
 refine HA.out.mono ?_;rintro e w1 ⟨⟨er,rfl,he⟩,hb⟩;unfold ErrIs at he;cases ok with
 | true =>
   rw [if_pos rfl] at he HP;subst he;go_wp2_with fail
   go_ret;rw [HP.out];exact ⟨rfl,hb⟩
 | false =>
   rw [if_neg Bool.false_ne_true] at he HP;obtain ⟨N,rfl⟩:=he;go_wp2_with fail
   go_ret;rw [HP.out];exact ⟨rfl,hb⟩
open Go Go.RowKit Amp Msh
attribute [local go_sem] Oper.semAt_some
section
variable {α:Type} {P:Program}
def Runs (n:Nat) (P:Program) (g:Nat) (lb:Array Value) (bs ks:List Nat) (encs:α→Array Value) (xs:List α) (w0:World):Prop :=
 ∀ (l:Nat) (J:List α→World→Prop) (W:World),(∀ b∈ks,W.heap[b]? = w0.heap[b]?)→Below w0.heap.size w0 W →
  (∀ pre A B b,J pre A→b∈bs→A.grownBy B (some b)→J pre B) →
  (∀ pre x W1,J pre W1→(∃ r,xs=pre++x::r)→YieldAt Fence.wide (n - 1) P l (encs x) W1 fun e W'=>e=.returned (.bool true)∧J (pre++[x]) W'∧∀ b∈ks,W'.heap[b]? = W1.heap[b]?) →
  J [] W→CallsIn Fence.wide n P g (#[.func (.yield l) #[] #[]]++lb) W fun e W'=>(∃ v,e=.returned v)∧J xs W'
def runPost (B:Nat) (ks:List Nat) (I:List α→World→Prop) (xs:List α) (W:World):Exit→Act→World→Prop
 | .normal,_,W'=>KeepsFrom B W W'∧(∀ b∈ks,W'.heap[b]? = W.heap[b]?)∧I xs W'
 | _,_,_=>False
def Steady (B:Nat) (bs:List Nat) (I:List α→World→Prop):Prop :=
 ∀ pre X Y row,I pre X→X.grownBy Y row→(∀ r,row=some r→r∈bs∨(B≤r∧∃ o:Obj,X.heap[r]? = some o∧o.isCells=false))→I pre Y
theorem wpIn_rangeFunc_run {n:Nat} {g:Operand} {ps:Array Tmp} {assign body:Code} {Q:Exit→Act→World→Prop} {a:Act} {w:World} (h1:1≤n)
  {gf:Nat} {lb:Array Value} (hg:a.eval g=.func (.func gf) #[] lb) (eg:∀ args w,(callFunc gf args).run P w=.ok (.enter gf args) w)
  {bs ks:List Nat} {encs:α→Array Value} {xs:List α} (hseq:Runs (n - 1) P gf lb bs ks encs xs w) (hbs:∀ b∈bs,b<w.heap.size) (hks:∀ b∈ks,b<w.heap.size) (hps:∀ x,(encs x).size=ps.size)
  (I:List α→World→Prop) (hI:Steady w.heap.size bs I) (h0:I [] w) (a₁:α→Act)
  (hassign:∀ (l:Nat) (x:α) (W:World) (K:Act→World→Prop),K (a₁ x) W →
    assign.wpIn (Fence.wide.inRound l) (n - 1 - 1) P (Exit.then K (fun _ _ _=>False)) { tmps:=(ps.zip (encs x)).foldl (fun t (p,v)=>t.setIfInBounds p v) a.tmps,defers:=[] } W)
  (hbody:∀ (l:Nat) (pre:List α) (x:α) (W:World),I pre W→(∃ r,xs=pre++x::r)→body.wpIn (Fence.wide.inRound l) (n - 1 - 1) P (runPost w.heap.size ks I (pre++[x]) W) (a₁ x) W)
  (hdone:∀ (D:Nat) (W:World),w.heap.size≤D→I xs W→W.heap[D]? = some (.deferred (some []))→Q .normal { a with defers:={ target:=.collected D,args:=#[] }::a.defers } W) :
  (Code.rangeFunc g ps assign body).wpIn Fence.wide n P Q a w:=by
 refine wpIn_rangeFunc ?_;intro fn hfn;rw [show Fence.wide.round=none from rfl];obtain ⟨rec,hrec⟩:∃ rec:LoopState→Loop,rec=fun st=>{ state:=st,pending:=none,fn,tmps:=a.tmps,params:=ps,assign,body,defers:=w.heap.size }:=⟨_,rfl⟩
 obtain ⟨W1,hW1⟩:∃ W1,(w.alloc (.deferred (some []))).alloc (.loop (rec .ready))=W1:=⟨_,rfl⟩;have hL1:W1.heap[w.heap.size+1]? = some (.loop (rec .ready)):=by
  have:=World.alloc_heap_new (w.alloc (.deferred (some []))) (.loop (rec .ready));rw [World.size_alloc] at this;rw [← hW1];exact this
 have hK1:W1.heap[w.heap.size]? = some (.deferred (some [])):=by
  rw [← hW1];exact (Below.heap_alloc _ _ _ (by simp)).trans (World.alloc_heap_new w _)
 have hgr:w.grownBy W1 none:=by
  rw [← hW1];exact (((Grew.refl w).alloc _).alloc _).grownBy none
 have hI1:I [] W1:=hI _ _ _ none h0 hgr (fun _ e=>by cases e);have hb1:Below w.heap.size w W1:=(Below.refl _ w).grown hgr (Nat.le_refl _) (fun _ e=>by cases e);refine ⟨w.heap.size+1,[{ target:=.collected w.heap.size,args:=#[] }],W1, { target:=.fn (.func gf) lb,args:=#[.func (.yield (w.heap.size+1)) #[] #[]] },W1,gf,
  #[.func (.yield (w.heap.size+1)) #[] #[]]++lb,W1, ?_, ?_, ?_, ?_,fun _=>h1, ?_⟩
 · rw [← hW1,hrec]
   exact run_enterLoop_outer _ _ _ _ _
 · simp only [resolve,hg]
   simp [go_sem]
 · intro _ _
   trivial
 · simp [invoke,go_sem,eg]
 refine (hseq (w.heap.size+1) (fun pre W=>I pre W∧W.heap[w.heap.size+1]? = some (.loop (rec .ready))∧W.heap[w.heap.size]? = some (.deferred (some []))) W1 (fun b hb=>hb1.block b (hks b hb)) hb1 ?_ ?_ ⟨hI1,hL1,hK1⟩).mono ?_
 · rintro pre A B b ⟨hi,hl,hk⟩ hb hg'
   have hlt:=hbs b hb;exact ⟨hI _ _ _ _ hi hg' (fun r e=>by cases e;exact .inl hb),(hg'.block _ (Array.getElem?_eq_some_iff.1 hl).1 (fun e=>by injection e with e;omega)).trans hl,(hg'.block _ (Array.getElem?_eq_some_iff.1 hk).1 (fun e=>by injection e with e;omega)).trans hk⟩
 · rintro pre x W ⟨hi,hl,hk⟩ hr
   have hlt:w.heap.size+1<W.heap.size:=(Array.getElem?_eq_some_iff.1 hl).1;have hy:=run_yield (P:=P) (args:=encs x) hl (by rw [hrec];exact hps x);rw [hrec] at hy;have put:∀ {V:World} {o o':Obj},V.heap[w.heap.size+1]? = some o→o.isCells=false→∀ {p:List α},I p V→I p (V.putObj (w.heap.size+1) o'):=fun {V o o'} ho hc {p} hp =>
    hI _ _ _ _ hp (grownBy_putObj' V (w.heap.size+1) o') (fun r e=>by cases e;exact .inr ⟨by omega,_,ho,hc⟩)
   refine ⟨fn,_,assign,body,hy,roundIn_of_wpIn hfn (hassign _ x W _ ⟨_,run_beginRound hl (by rw [hrec]), ?_⟩)⟩;have hl2:(W.putObj (w.heap.size+1) (.loop { rec .ready with state:=.busy })).heap[w.heap.size+1]? = some (.loop { rec .ready with state:=.busy }):=World.putObj_heap_same hlt;have hk2:(W.putObj (w.heap.size+1) (.loop { rec .ready with state:=.busy })).heap[w.heap.size]? = some (.deferred (some [])):=(World.putObj_heap_other (by omega)).trans hk;refine wpIn_mono (hbody _ pre x _ (put hl rfl hi) hr) ?_;rintro e a3 W3 hp;cases e with
   | normal =>
     obtain ⟨hk3,hb3,hi3⟩:=hp;have hl3:=hk3.same _ _ (by omega) hl2 rfl;have he:=run_endRound (P:=P) none hl3;rw [hrec] at he hl3;have hl4:(W3.putObj (w.heap.size+1) (.loop (rec .ready))).heap[w.heap.size+1]? = some (.loop (rec .ready)):=World.putObj_heap_same (Array.getElem?_eq_some_iff.1 hl3).1;have hk4:(W3.putObj (w.heap.size+1) (.loop (rec .ready))).heap[w.heap.size]? = some (.deferred (some [])):=(World.putObj_heap_other (by omega)).trans (hk3.same _ _ (Nat.le_refl _) hk2 rfl);refine ⟨_,_,he,rfl,⟨put hl3 rfl hi3, ?_, ?_⟩,fun b hb=>?_⟩
     · rw [hrec] at hl4
       rw [hrec];exact hl4
     · rw [hrec] at hk4
       exact hk4
     · have hne:b≠w.heap.size+1:=by have:=hks b hb;omega
       exact (World.putObj_heap_other (by omega)).trans ((hb3 b hb).trans (World.putObj_heap_other (by omega)))
   | _=>exact hp.elim
 · rintro e W2 ⟨⟨v,rfl⟩,hi,hl,hk⟩
   have he:=run_endLoop (P:=P) hl (by rw [hrec];simp);rw [hrec] at he;exact ⟨none,_,he,hdone _ _ (Nat.le_refl _) (hI _ _ _ _ hi (grownBy_putObj' W2 (w.heap.size+1) _) (fun r e=>by cases e;exact .inr ⟨by omega,_,hl,rfl⟩)) ((World.putObj_heap_other (by omega)).trans hk)⟩
end
theorem index_any (r:List UInt8) (w:World):Calls Tryz.prog 62 #[.string (strB r),.int .u8 10] w fun e w'=>e=.returned (.int .i64 (Lib.indexByte r 10))∧w'=w:=by
 have:=Tryz.strings_IndexByte (strB r) 10 w;rw [strB_of] at this;exact this
theorem indexByte_app {c:UInt8}:∀ {a b:List UInt8},c ∉ a→Lib.indexByte (a++c::b) c=a.length
 | [], b, _ => by
   show (if c==c then (0:Int) else _)=_
   rw [beq_self_eq_true,if_pos rfl];rfl
 | x :: a, b, h => by
   rw [List.mem_cons,not_or] at h;show (if x==c then (0:Int) else if Lib.indexByte (a++c::b) c==-1 then -1 else Lib.indexByte (a++c::b) c+1)=_
   rw [beq_eq_false_iff_ne.2 (fun e=>h.1 e.symm),if_neg (by simp),indexByte_app h.2,if_neg (by simp),List.length_cons];omega
theorem indexByte_none {c:UInt8}:∀ {l:List UInt8},c ∉ l→Lib.indexByte l c=-1
 | [],_=>rfl
 | x :: l, h => by
   rw [List.mem_cons,not_or] at h;show (if x==c then (0:Int) else if Lib.indexByte l c==-1 then -1 else Lib.indexByte l c+1)=_
   rw [beq_eq_false_iff_ne.2 (fun e=>h.1 e.symm),if_neg (by simp),indexByte_none h.2];rfl
theorem lns_none:∀ {l:List UInt8},(10:UInt8) ∉ l→l≠[]→lns l=[l]
 | [],_,h=>absurd rfl h
 | [x], h, _ => by
   rw [List.mem_singleton] at h;rw [lns,if_neg fun e=>h e.symm];rfl
 | x :: y :: l, h, _ => by
   rw [List.mem_cons,not_or] at h;rw [lns,if_neg fun e=>h.1 e.symm,lns_none h.2 (List.cons_ne_nil _ _)];rfl
def encS (p:List UInt8):Array Value:=#[.string (strB p)]
def leftW (b:Nat) (w:World):Nat:=match w.cell? ⟨b,0,none⟩ with | some (.string s)=>s.size | _=>0
theorem leftW_eq {b:Nat} {w:World} {l:List UInt8} (h:w.heap[b]? = some (.cells #[.string (strB l)] 9 (0,0))):leftW b w=l.length:=by
 unfold leftW;have:w.cell? ⟨b,0,none⟩=some (.string (strB l)):=by simp [World.cell?,h]
 rw [this];exact strB_size l
theorem box_set {b:Nat} {w:World} {v v':Value} {t:TypeId} (h:w.heap[b]? = some (.cells #[v] t (0,0))):(w.setCell ⟨b,0,none⟩ v').heap[b]? = some (.cells #[v'] t (0,0)):=by
 unfold World.setCell;rw [Array.getElem?_modify,if_pos rfl,h];rfl
theorem grownBy_setGrew (w:World) (gg:List Obj) (n b i:Nat) (v:Value):w.grownBy (((w.setCell ⟨b,i,none⟩ v).grow gg).drewN n) (some b):=by
 have g:=grownBy_set w b i v;have h:Grew (w.setCell ⟨b,i,none⟩ v) (((w.setCell ⟨b,i,none⟩ v).grow gg).drewN n):=⟨gg,n,rfl⟩;have k:=h.grownBy none;exact ⟨k.os.trans g.os,k.tape.trans g.tape,k.output.trans g.output,Nat.le_trans g.size k.size,fun j hj hn=>(k.block j (Nat.lt_of_lt_of_le hj g.size) (fun e=>by cases e)).trans (g.block j hj hn)⟩
@[local go_sem 100000] theorem run_str_toS (l:List UInt8) (i:Nat) (w:World) (h:i+1≤l.length):(Instr.sliceAt 9 (.string (strB l)) none (some (.int .i64 ((i:Int)+1))) none).run Tryz.prog w=.ok (.string (strB (l.take (i+1)))) w:=run_str_to l (i+1) w h
set_option maxRecDepth 100000 in
set_option maxHeartbeats 4000000 in
theorem lines1_runs (n:Nat) (hn:1≤n) (bS:Nat) (l:List UInt8) (hl:l.length≤100000) (w:World) (hx:w.heap[bS]? = some (.cells #[.string (strB l)] 9 (0,0))) :
  Runs n Tryz.prog 61 #[.pointer (some ⟨bS,0,none⟩)] [bS] [bS] encS (lns l) w:=by
 intro lp J W hbW hW hJ hY h0;have hb0:=(hbW bS (List.mem_singleton.2 rfl)).trans hx;clear hbW hW hx;refine callsIn_of_wp Tryz.func61 rfl trivial ?_ rfl;simp only [Tryz.ntmps61,List.size_toArray,List.length_cons,List.length_nil,Nat.reduceAdd,Nat.reduceSub,Array.replicate_succ,Array.replicate_zero,List.push_toArray,List.append_toArray,List.nil_append,List.cons_append]
 gi_wp2
 gi_loopw [3,4] (fun _ _ wr=>∃ (pre:List (List UInt8)) (r:List UInt8),lns l=pre++lns r∧r.length≤100000∧wr.heap[bS]? = some (.cells #[.string (strB r)] 9 (0,0))∧J pre wr) (fun _ _ wr=>leftW bS wr)
 case atStart=>exact ⟨[],l,rfl,hl,hb0,h0⟩
 case round =>
  obtain ⟨pre,r,hpr,hrl,hb,hJr⟩:=hrel;have hc:wr.cell? ⟨bS,0,none⟩=some (.string (strB r)):=by simp [World.cell?,hb]
  have hf:wr.frozen? ⟨bS,0,none⟩=false:=by simp [World.frozen?,hb]
  have hbl:=(Array.getElem?_eq_some_iff.1 hb).1;have HB:=hid hb;have HJR:=hid hJr;have HPR:=hid hpr;have HRL:=hid hrl;clear hb hJr hpr hrl h0 hb0 hl;by_cases hr0:r=[]
  case pos =>
   subst hr0
   gi_wp2
   go_end0
   refine ⟨⟨_,rfl⟩, ?_⟩;have:=HPR.out;rw [show lns []=[] from rfl,List.append_nil] at this;rw [this];exact HJR.out
  case neg =>
   have hp:0<(r.length:Int):=by have:=List.length_pos_iff.2 hr0;omega
   have HI:=hid fun w=>index_any r w
   by_cases h10:(10:UInt8)∈r
   case pos =>
    obtain ⟨a,b,rfl,ha⟩:=mem_cut h10;rw [indexByte_app ha] at HI;have ht:(a++10::b).take (a.length+1)=a++[10]:=by rw [List.take_append,List.take_of_length_le (by omega),Nat.add_sub_cancel_left];rfl
    have hd:(a++10::b).drop (a.length+1)=b:=by rw [← List.drop_drop,List.drop_left' rfl];rfl
    have hla:a.length+1≤(a++10::b).length:=by rw [List.length_append,List.length_cons];omega
    have hlb:b.length<(a++10::b).length:=by rw [List.length_append,List.length_cons];omega
    have HLN:=hid (lns_app (m:=b) ha);have HHD:=hid (And.intro ht (And.intro hd (And.intro hlb HRL.out)));obtain ⟨R,hR⟩:∃ R,a++10::b=R:=⟨_,rfl⟩;rw [hR] at HHD HLN HPR HB hc hp HI hla;obtain ⟨i,hi⟩:∃ i,a.length=i:=⟨_,rfl⟩;rw [hi] at HHD HI hla;have hi9:i<9223372036854775806:=by have:=HHD.out.2.2.2;omega
    clear hR ht hd hlb ha h10 hr0 hi HRL
    gi_wp2
    refine ⟨trivial,(callsIn_wide.2 (HI.out _)).mono ?_⟩;rintro e w' ⟨rfl,rfl⟩
    gi_wp2
    refine wpIn_wide.2 ?_;refine R3.wp_region_gentle_tail 9 (by kernel_rfl) (by kernel_rfl) (by kernel_rfl) ?_;simp only [List.take_succ_cons,List.take_zero,List.drop_succ_cons,List.drop_zero];repeat (first | go_big_quiet_skip | (go_big_quiet_want;go_big_quiet_op;first | go_big_quiet_on | fail))
    refine wpQuiet_nil ?_;rintro _ ⟨gg,ng,rfl⟩;rw [HHD.out.1,HHD.out.2.1];go_wp2_with fail
    have hgr:w'.grownBy (((w'.setCell ⟨bS,0,none⟩ (.string (strB b))).grow gg).drewN ng) (some bS):=grownBy_setGrew w' gg ng bS 0 _;have hb1:(((w'.setCell ⟨bS,0,none⟩ (.string (strB b))).grow gg).drewN ng).heap[bS]? = some (.cells #[.string (strB b)] 9 (0,0)):=(Grew.block ⟨gg,ng,rfl⟩ bS (Nat.lt_of_lt_of_le hbl (KeepsWalks.setCell w' _ _).size)).trans (box_set HB.out);obtain ⟨W1,hW1⟩:∃ W1,((w'.setCell ⟨bS,0,none⟩ (.string (strB b))).grow gg).drewN ng=W1:=⟨_,rfl⟩;rw [hW1] at hgr hb1;rw [hW1];have hJ1:=hJ _ _ _ bS HJR.out (List.mem_singleton.2 rfl) hgr;have hm:=(leftW_eq HB.out);obtain ⟨fn,tmps,assign,body,hy,hR⟩:=hY pre (a++[10]) W1 hJ1 ⟨lns b,by rw [HPR.out,HLN.out]⟩;simp only [encS] at hy;have HM:=hid hm;have HB1:=hid hb1;clear hgr hW1 hJ1 hb1 hc hf hbl HB HJR hm
    gi_wp2
    refine hR.mono ?_;rintro e W3 ⟨rfl,hJ3,hk3⟩
    gi_wp2
    go_roundw
    case rel=>exact ⟨pre++[a++[10]],b,by rw [HPR.out,HLN.out,List.append_assoc];rfl,by have:=HHD.out;omega,(hk3 bS (List.mem_singleton.2 rfl)).trans HB1.out,hJ3⟩
    case measure=>rw [leftW_eq ((hk3 bS (List.mem_singleton.2 rfl)).trans HB1.out),HM.out];exact HHD.out.2.2.1
   case neg =>
    rw [indexByte_none h10] at HI;have HLN:=hid (lns_none h10 hr0);have HR0:=hid (List.length_pos_iff.2 hr0);clear h10 hr0
    gi_wp2
    refine ⟨trivial,(callsIn_wide.2 (HI.out _)).mono ?_⟩;rintro e w' ⟨rfl,rfl⟩
    gi_wp2
    have hgr:w'.grownBy (w'.setCell ⟨bS,0,none⟩ (.string ⟨#[]⟩)) (some bS):=grownBy_set w' bS 0 _;have hb1:(w'.setCell ⟨bS,0,none⟩ (.string ⟨#[]⟩)).heap[bS]? = some (.cells #[.string (strB [])] 9 (0,0)):=box_set HB.out;obtain ⟨W1,hW1⟩:∃ W1,w'.setCell ⟨bS,0,none⟩ (.string ⟨#[]⟩)=W1:=⟨_,rfl⟩;rw [hW1] at hgr hb1;rw [hW1];have hJ1:=hJ _ _ _ bS HJR.out (List.mem_singleton.2 rfl) hgr;have hm:=(leftW_eq HB.out);obtain ⟨fn,tmps,assign,body,hy,hR⟩:=hY pre r W1 hJ1 ⟨[],by rw [HPR.out,HLN.out]⟩;simp only [encS] at hy;have HM:=hid hm;have HB1:=hid hb1;clear hgr hW1 hJ1 hb1 hc hf hbl HB HJR hm
    gi_wp2
    rw [hy,Oper.uponIn_round];refine ⟨fun _=>hn,hR.mono ?_⟩;rintro e W3 ⟨rfl,hJ3,hk3⟩
    gi_wp2
    go_roundw
    case rel=>exact ⟨pre++[r],[],by rw [HPR.out,HLN.out,show lns []=[] from rfl,List.append_nil],Nat.zero_le _,(hk3 bS (List.mem_singleton.2 rfl)).trans HB1.out,hJ3⟩
    case measure=>rw [leftW_eq ((hk3 bS (List.mem_singleton.2 rfl)).trans HB1.out),HM.out];exact HR0.out
theorem lines_any (l:List UInt8) (w:World):Calls Tryz.prog 31 #[.string (strB l)] w fun e w'=>e=.returned (.func (.func 61) #[] #[.pointer (some ⟨w.heap.size,0,none⟩)])∧w'=w.alloc (.cells #[.string (strB l)] 9):=by
 go_enter Tryz.func31,Tryz.ntmps31
 go_wp2;go_ret;exact ⟨rfl,rfl⟩
theorem pre_two (c d x y:UInt8) (l:List UInt8):[c,d].isPrefixOf (x::y::l)=(c==x&&d==y):=by simp [List.isPrefixOf]
theorem spl2_index (c d:UInt8):∀ l:List UInt8,(∃ i:Nat,Lib.index l [c,d]=i∧i+2≤l.length∧spl2 c d l=l.take i::spl2 c d (l.drop (i+2)))∨(Lib.index l [c,d]=-1∧spl2 c d l=[l])
 | []=>.inr ⟨rfl,rfl⟩
 | [x] => .inr ⟨by
   show (if [c,d].isPrefixOf [x] then (0:Int) else if Lib.index [] [c,d]==-1 then -1 else Lib.index [] [c,d]+1)=-1
   rw [show [c,d].isPrefixOf [x]=false by simp [List.isPrefixOf],if_neg Bool.false_ne_true];rfl,rfl⟩
 | x :: y :: l => by
   have e:Lib.index (x::y::l) [c,d]=if [c,d].isPrefixOf (x::y::l) then (0:Int) else if Lib.index (y::l) [c,d]==-1 then -1 else Lib.index (y::l) [c,d]+1:=rfl
   rw [e,pre_two];by_cases h:x=c∧y=d
   · obtain ⟨rfl,rfl⟩:=h
     refine .inl ⟨0, ?_,by simp, ?_⟩
     · rw [beq_self_eq_true,beq_self_eq_true]
       rfl
     · rw [spl2,if_pos ⟨rfl,rfl⟩]
       rfl
   · have hb:(c==x&&d==y)=false:=by
      rw [Bool.and_eq_false_iff];by_cases hx:c=x
      · exact .inr (beq_eq_false_iff_ne.2 fun hy=>h ⟨hx.symm,hy.symm⟩)
      · exact .inl (beq_eq_false_iff_ne.2 hx)
     rw [hb,if_neg Bool.false_ne_true,spl2,if_neg h];rcases spl2_index c d (y::l) with ⟨i,h1,h2,h3⟩ | ⟨h1,h2⟩
     · refine .inl ⟨i+1, ?_, ?_, ?_⟩
       · rw [h1,if_neg (by simp)]
         omega
       · rw [List.length_cons];omega
       · rw [h3]
         rfl
     · refine .inr ⟨?_, ?_⟩
       · rw [h1]
         rfl
       · rw [h2]
         rfl
theorem index2_any (r:List UInt8) (w:World) (hl:r.length≤100000) (hm:∃ m,w.cell? ⟨0,0,none⟩=some (.int .i64 m)):Calls Tryz.prog 141 #[.string (strB r),.string ⟨#[59,32]⟩] w fun e w'=>e=.returned (.int .i64 (Lib.index r [59,32]))∧w'=w:=by
 obtain ⟨m,hm⟩:=hm;have:=Tryz.strings_Index (strB r) ⟨#[59,32]⟩ m w (by rw [strB_size];omega) hm;rw [strB_of] at this;exact this
@[local go_sem 100000] theorem run_str_from2 (l:List UInt8) (i:Nat) (w:World) (h:i+2≤l.length):(Instr.sliceAt 9 (.string (strB l)) (some (.int .i64 ((i:Int)+2))) none none).run Tryz.prog w=.ok (.string (strB (l.drop (i+2)))) w:=run_str_from l (i+2) w h
theorem cell_of_one {w:World} {b:Nat} {v:Value} {t:TypeId} (h:w.heap[b]? = some (.cells #[v] t (0,0))):w.cell? ⟨b,0,none⟩=some v:=by simp [World.cell?,h]
theorem frozen_of_one {w:World} {b:Nat} {v:Value} {t:TypeId} (h:w.heap[b]? = some (.cells #[v] t (0,0))):w.frozen? ⟨b,0,none⟩=false:=by simp [World.frozen?,h]
structure SeqAt (bS:Nat) (r:List UInt8) (w:World):Prop where
 s:w.heap[bS]? = some (.cells #[.string (strB r)] 9 (0,0))
 sep:w.heap[bS+1]? = some (.cells #[.string ⟨#[59,32]⟩] 9 (0,0))
 save:w.heap[bS+2]? = some (.cells #[.int .i64 0] 3 (0,0))
 max:∃ m,w.cell? ⟨0,0,none⟩=some (.int .i64 m)
def seqB (bS:Nat):List Nat:=[bS,bS+1,bS+2,0]
theorem SeqAt.kept {bS:Nat} {r:List UInt8} {w w':World} (h:SeqAt bS r w) (hk:∀ b∈seqB bS,w'.heap[b]? = w.heap[b]?):SeqAt bS r w':=by
 refine ⟨(hk _ (by simp [seqB])).trans h.s,(hk _ (by simp [seqB])).trans h.sep,(hk _ (by simp [seqB])).trans h.save, ?_⟩;obtain ⟨m,hm⟩:=h.max;exact ⟨m,by rw [← hm];simp only [World.cell?];rw [hk 0 (by simp [seqB])]⟩
theorem SeqAt.set {bS:Nat} {r r':List UInt8} {w:World} (h:SeqAt bS r w) (hz:bS≠0):SeqAt bS r' (w.setCell ⟨bS,0,none⟩ (.string (strB r'))):=by
 have o:∀ b,b≠bS→(w.setCell ⟨bS,0,none⟩ (.string (strB r'))).heap[b]? = w.heap[b]? := fun b hb=>Below.heap_setCell _ _ _ b hb
 refine ⟨box_set h.s,(o _ (by omega)).trans h.sep,(o _ (by omega)).trans h.save, ?_⟩;obtain ⟨m,hm⟩:=h.max;exact ⟨m,by rw [← hm];simp only [World.cell?];rw [o _ (Ne.symm hz)]⟩
set_option maxRecDepth 100000 in
set_option maxHeartbeats 4000000 in
theorem split1_runs (n:Nat) (hn:1≤n) (bS:Nat) (hz:bS≠0) (l:List UInt8) (hl:l.length≤100000) (w:World) (hx:SeqAt bS l w) :
  Runs n Tryz.prog 144 #[.pointer (some ⟨bS+1,0,none⟩),.pointer (some ⟨bS,0,none⟩),.pointer (some ⟨bS+2,0,none⟩)] [bS] (seqB bS) encS (spl2 59 32 l) w:=by
 intro lp J W hbW hW hJ hY h0;have hb0:=hx.kept hbW;clear hbW hW hx;have c1:=cell_of_one hb0.sep;refine callsIn_of_wp Tryz.func144 rfl trivial ?_ rfl;simp only [Tryz.ntmps144,List.size_toArray,List.length_cons,List.length_nil,Nat.reduceAdd,Nat.reduceSub,Array.replicate_succ,Array.replicate_zero,List.push_toArray,List.append_toArray,List.nil_append,List.cons_append]
 gi_wp2
 clear c1
 gi_loopw [7,8] (fun _ _ wr=>∃ (pre:List (List UInt8)) (r:List UInt8),spl2 59 32 l=pre++spl2 59 32 r∧r.length≤100000∧SeqAt bS r wr∧J pre wr) (fun _ _ wr=>leftW bS wr)
 case atStart=>exact ⟨[],l,rfl,hl,hb0,h0⟩
 case round =>
  obtain ⟨pre,r,hpr,hrl,hb,hJr⟩:=hrel;have c0:=cell_of_one hb.s;have c1:=cell_of_one hb.sep;have c2:=cell_of_one hb.save;have HB:=hid hb;have HJR:=hid hJr;have HPR:=hid hpr;have HRL:=hid hrl;have HZ:=hid hz;have HI:=hid (index2_any r wr hrl hb.max);clear hb hJr hpr hrl h0 hb0 hl hz;rcases spl2_index 59 32 r with ⟨i,h1,h2,h3⟩ | ⟨h1,h2⟩
  · rw [h1] at HI
    have hi9:i+2<9223372036854775806:=by have:=HRL.out;omega
    have hil:i≤r.length:=by omega
    have H2:=hid h2;have H3:=hid h3;clear h1 h2 h3
    gi_wp2
    refine ⟨trivial,(callsIn_wide.2 HI.out).mono ?_⟩;rintro e w' ⟨rfl,rfl⟩;obtain ⟨fn,tmps,assign,body,hy,hR⟩:=hY pre (r.take i) w' HJR.out ⟨spl2 59 32 (r.drop (i+2)),by rw [HPR.out,H3.out]⟩;simp only [encS] at hy;have HS:=hid (leftW_eq HB.out.s)
    gi_wp2
    refine hR.mono ?_;rintro e W3 ⟨rfl,hJ3,hk3⟩;have hb3:=HB.out.kept hk3;have c0:=cell_of_one hb3.s;have c1:=cell_of_one hb3.sep;have f0:=frozen_of_one hb3.s;have h2:=H2.out;have HB3:=hid hb3;clear hb3 hk3
    gi_wp2
    refine ⟨⟨pre++[r.take i],r.drop (i+2),by rw [HPR.out,H3.out,List.append_assoc];rfl,by rw [List.length_drop];have:=HRL.out;omega,HB3.out.set HZ.out,hJ _ _ _ bS hJ3 (List.mem_singleton.2 rfl) (grownBy_set _ _ _ _)⟩, ?_⟩;rw [leftW_eq (HB3.out.set HZ.out).s,HS.out,List.length_drop];omega
  · rw [h1] at HI
    have H2:=hid h2;clear h1 h2
    gi_wp2
    refine ⟨trivial,(callsIn_wide.2 HI.out).mono ?_⟩;rintro e w' ⟨rfl,rfl⟩;obtain ⟨fn,tmps,assign,body,hy,hR⟩:=hY pre r w' HJR.out ⟨[],by rw [HPR.out,H2.out]⟩;simp only [encS] at hy
    gi_wp2
    try (rw [hy,Oper.uponIn_round];refine ⟨fun _=>hn, ?_⟩)
    refine hR.mono ?_;rintro e W3 ⟨rfl,hJ3,hk3⟩
    gi_wp2
    go_end0
    refine ⟨⟨_,rfl⟩, ?_⟩;rw [HPR.out,H2.out];exact hJ3
theorem splitSeq_any (l:List UInt8) (w:World):Calls Tryz.prog 66 #[.string (strB l),.string ⟨#[59,32]⟩] w fun e w'=>e=.returned (.func (.func 144) #[] #[.pointer (some ⟨w.heap.size+1,0,none⟩),.pointer (some ⟨w.heap.size,0,none⟩),.pointer (some ⟨w.heap.size+2,0,none⟩)]) ∧
  w'=((w.alloc (.cells #[.string (strB l)] 9)).alloc (.cells #[.string ⟨#[59,32]⟩] 9)).alloc (.cells #[.int .i64 0] 3):=by
 have H:∀ w,Calls Tryz.prog 114 #[.string (strB l),.string ⟨#[59,32]⟩,.int .i64 0] w fun e w'=>e=.returned (.func (.func 144) #[] #[.pointer (some ⟨w.heap.size+1,0,none⟩),.pointer (some ⟨w.heap.size,0,none⟩),.pointer (some ⟨w.heap.size+2,0,none⟩)]) ∧
  w'=((w.alloc (.cells #[.string (strB l)] 9)).alloc (.cells #[.string ⟨#[59,32]⟩] 9)).alloc (.cells #[.int .i64 0] 3):=by
  intro w;go_enter Tryz.func114,Tryz.ntmps114
  go_wp2;go_ret;exact ⟨rfl,rfl⟩
 have HH:=hid H;clear H;go_enter Tryz.func66,Tryz.ntmps66
 go_wp2_with fail
 refine (HH.out _).mono ?_;rintro e w' ⟨rfl,rfl⟩;go_wp2;go_ret;exact ⟨rfl,rfl⟩
theorem seqAt_new (l:List UInt8) (w:World) (hm:∃ m,w.cell? ⟨0,0,none⟩=some (.int .i64 m)) :
  SeqAt w.heap.size l (((w.alloc (.cells #[.string (strB l)] 9)).alloc (.cells #[.string ⟨#[59,32]⟩] 9)).alloc (.cells #[.int .i64 0] 3)):=by
 obtain ⟨W1,h1⟩:∃ W,W=w.alloc (.cells #[.string (strB l)] 9):=⟨_,rfl⟩;obtain ⟨W2,h2⟩:∃ W,W=W1.alloc (.cells #[.string ⟨#[59,32]⟩] 9):=⟨_,rfl⟩;rw [← h1,← h2];have s1:W1.heap.size=w.heap.size+1:=by rw [h1,World.size_alloc]
 have s2:W2.heap.size=w.heap.size+2:=by rw [h2,World.size_alloc,s1]
 have a1:W1.heap[w.heap.size]? = some (.cells #[.string (strB l)] 9 (0,0)):=by rw [h1];exact World.alloc_heap_new w _
 have a2:W2.heap[w.heap.size+1]? = some (.cells #[.string ⟨#[59,32]⟩] 9 (0,0)):=by rw [h2,← s1];exact World.alloc_heap_new W1 _
 have a3:(W2.alloc (.cells #[.int .i64 0] 3)).heap[w.heap.size+2]? = some (.cells #[.int .i64 0] 3 (0,0)):=by rw [← s2];exact World.alloc_heap_new W2 _
 have a12:W2.heap[w.heap.size]? = some (.cells #[.string (strB l)] 9 (0,0)):=by rw [h2];exact (Below.heap_alloc _ _ _ (by omega)).trans a1
 refine ⟨(Below.heap_alloc _ _ _ (by omega)).trans a12,(Below.heap_alloc _ _ _ (by omega)).trans a2,a3, ?_⟩;obtain ⟨m,hm⟩:=hm;refine ⟨m, ?_⟩;have g:Grew w (W2.alloc (.cells #[.int .i64 0] 3)):=by rw [h2,h1];exact (((Grew.refl w).alloc _).alloc _).alloc _
 exact (g.cell (i:=0) (cell_lt hm)).trans hm
end Go.Proofs.YtchdmecjhaanfaaGreatDoor
namespace Go.Proofs.YtchdmecjhaanfaaGreatDoor.topLaid
open Go Go.ChangeShapes Go.WideShapes Go.ChangeAt Go.RowKit Amp
open Go.ChangeMaps (open_string shut_string)
theorem own:ownKnob Tryz.prog.godebug=none:=by kernel_rfl
theorem laidOut:laidOutB Tryz.prog=true:=by kernel_rfl
theorem row_err (u:TypeId) (h:Tryz.prog.typeName? 3 u=some "*errors.errorString"):u=232 :=
 have star: "*"++ "errors.errorString"= "*errors.errorString":=by decide
 typeName_ptr_named (nm:= "errors.errorString") (by rw [star];kernel_rfl) (by kernel_rfl) (by decide) u (by rw [star];exact h)
theorem met_laid {W:World} (hs:W.ShapedOpen Tryz.prog) (h:laidMet Tryz.prog Rows.topLevelsRow.laid W):LaidN W:=by
 have h3:laidMet Tryz.prog (("internal/strconv.uint64pow10",Rows.laid_internal_strconv_uint64pow10)::("unicode/utf8.acceptRanges",Rows.laid_unicode_utf8_acceptRanges)::("strconv.ErrRange",Rows.laid_strconv_ErrRange)::("strconv.ErrSyntax",Rows.laid_strconv_ErrSyntax)::("unicode/utf8.first",Rows.laid_unicode_utf8_first)::[]) W:=h.tail.tail;refine ⟨⟨?_, ?_, ?_⟩, ?_⟩
 · rw [show (Rows.laid_internal_strconv_uint64pow10:DataW Unit)=Lib.tabData .u64 Lib.pow10Tab by kernel_rfl] at h3
   exact Lib.tabIs_of_head (k:=.u64) (zs:=Lib.pow10Tab) (g:=1) (t:=213) (e:=141) (n:=20) (by kernel_rfl) (by kernel_rfl) Tryz.underlying213 Tryz.underlying141 (by kernel_rfl) (by kernel_rfl) h3
 · obtain ⟨a0,s0,hv0, -, -, -⟩:=laid_sentinel (g:=2) h3.tail.tail.tail (by kernel_rfl) (by kernel_rfl) Tryz.underlying110 row_err Tryz.underlying232 Tryz.underlying234 rfl rfl Tryz.underlying9 (by kernel_rfl) (by kernel_rfl)
   exact ⟨_,_,hv0⟩
 · obtain ⟨a0,s0,hv0, -, -, -⟩:=laid_sentinel (g:=3) h3.tail.tail (by kernel_rfl) (by kernel_rfl) Tryz.underlying110 row_err Tryz.underlying232 Tryz.underlying234 rfl rfl Tryz.underlying9 (by kernel_rfl) (by kernel_rfl)
   exact ⟨_,_,hv0⟩
 · exact cell_of_shapedOpen_int (g:=0) (t:=3) (zero:=#[.int .i64 0]) hs (of_decide_eq_true (by kernel_rfl)) (by kernel_rfl) rfl (by kernel_rfl) (by kernel_rfl) Tryz.underlying3
theorem door_met (os:Os) (args:Array Value):laidMet Tryz.prog Rows.topLevelsRow.laid ((World.laidAll Tryz.prog os Rows.topLevelsRow.laid).forCall (fun _ _=>0) ⟨#[],args,[]⟩).memory :=
 laidMet_laidAll _ (by kernel_rfl) (by kernel_rfl)
theorem door_shape (os:Os) (args:Array Value):((World.laidAll Tryz.prog os Rows.topLevelsRow.laid).forCall (fun _ _=>0) ⟨#[],args,[]⟩).Shaped Tryz.prog :=
 World.shaped_of_ZipB (by kernel_rfl) (by kernel_rfl)
theorem handed {H:Type} {enc:TypeId × Value→H} {a:Assume} {C:Checked} {os:Os} {f:FuncId} {fn:Func} {s:ChangeSpec} {conds:List PathCond} {apart fresh handsOn again:Bool} {X:World→Array Value→Prop}
  (hX:∀ (w w':World) (args:Array Value),w.heap=w'.heap→X w args→X w' args)
  (own:ownKnob C.prog.godebug=none) (started:os.Started) (noInit:C.prog.inits.idxOf? f=none) (hfn:C.prog.funcs[f]? = some fn)
  (witness:∃ (w:World) (tape:Tape) (i:Input),w.os=os∧(w.forCall tape i).Shaped C.prog∧i.vars=[]∧Input.okWide C.prog (w.forCall tape i) .any w.heap.size f i ∧
    ((s.pre enc C.prog fn conds apart (w.forCall tape i).memory i.args∧X (w.forCall tape i).memory i.args)∧sizedMet enc C.prog fn (OpenSpec.ofChange s) apart (w.forCall tape i).memory i.args)∧a.holds C.prog (lone (Frame.enter C.prog f i.args .normal) [] (w.forCall tape i)))
  (contract:∀ (W:World) (base:Nat) (args:Array Value) (ds gs:List (DataW H)) (before:List MemPlace),
    (∀ (j:Nat) t v,fn.params[j]? = some t→args[j]? = some v→Value.okWide C.prog W .any base t v) →
    DataW.Whole enc C.prog fn.params.toList s.vars apart W args.toList ds gs before →
    (DataW.weightsEach C.prog (fn.params.toList++s.plain.varTypes C.prog) (ds++gs)).all (·≤reachBytes)=true→X W args→W.ShapedOpen C.prog →
    Calls C.prog f args W fun e W'=>∃ v,e=.returned v∧s.post enc C.prog fn apart fresh handsOn again W args v W') :
  ReturnsInHanded a C os f .any (fun w args=>(s.pre enc C.prog fn conds apart w args∧X w args)∧sizedMet enc C.prog fn (OpenSpec.ofChange s) apart w args) (s.post enc C.prog fn apart fresh handsOn again):=by
 refine returnsInHanded_of_calls own started noInit witness ?_;intro w tape i _ hsh _ hok hpre _;obtain ⟨_,_,_,fn',hfn',_,_,_,_,hval⟩:=hok;obtain rfl:fn'=fn:=Option.some.inj (hfn'.symm.trans hfn);obtain ⟨⟨⟨ds,gs,before,hw,_⟩,hx⟩,hz⟩:=hpre;refine (contract (w.forCall tape i) w.heap.size i.args ds gs before hval (DataW.Whole.of_heap (w':=w.forCall tape i) (by rfl) hw) (hz.weights hw) (hX _ _ _ (by rfl) hx) hsh).mono fun e W' ⟨v,he,hp⟩=>?_
 subst he;exact ChangeSpec.post_blind hp
end Go.Proofs.YtchdmecjhaanfaaGreatDoor.topLaid
