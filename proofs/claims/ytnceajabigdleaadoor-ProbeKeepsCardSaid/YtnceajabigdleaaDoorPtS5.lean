/- Many goroutines that make memory, started by one, beside goroutines that only leave: the measure; what each suffers and does; places. No condition; no program in sight. -/
import Derived.Test.YtnceajabigdleaaDoorPtS4
import Derived.Conc.CrowdRun
namespace Go.Pt
open Go Go.Conc
open Go.ConcN hiding EvL Inv Fin
open Go.ConcR (KK wgBlock WgAt stA smA rd wr mk Payload Aside2 DC0 Bk g_of_ofEvents)
inductive RL.{u} {A:Type u} (r:A→A→Prop):List A→List A→Prop
 | head {a' a:A} {l:List A}:r a' a→RL r (a'::l) (a::l)
 | tail {a:A} {l' l:List A}:RL r l' l→RL r (a::l') (a::l)
theorem RL.acc_cons.{u} {A:Type u} {r:A→A→Prop} {a:A} (ha:Acc r a):∀ {l:List A},Acc (RL r) l→Acc (RL r) (a::l):=by
 induction ha with
 | intro a _ iha =>
   intro l hl
   induction hl with
   | intro l hl ihl =>
     refine ⟨_,fun y hy=>?_⟩;cases hy with
     | head h=>exact iha _ h ⟨l,hl⟩
     | tail h=>exact ihl _ h
theorem RL.wf.{u} {A:Type u} {r:A→A→Prop} (h:WellFounded r):WellFounded (RL r):=by
 refine ⟨fun l=>?_⟩
 induction l with
 | nil=>exact ⟨_,fun y hy=>by cases hy⟩
 | cons a l ih=>exact RL.acc_cons (h.apply a) ih
inductive TrLt:Option Tr→Option Tr→Prop
 | bot {t:Tr}:TrLt none (some t)
 | kid {ι:Type} {f:ι→Tr} (i:ι):TrLt (some (f i)) (some (.nd ι f))
theorem TrLt.wf:WellFounded TrLt:=by
 have h0:Acc TrLt none:=⟨_,fun y hy=>by cases hy⟩;refine ⟨fun t=>?_⟩;cases t with
 | none=>exact h0
 | some t =>
   induction t with
   | nd ι f ih =>
     refine ⟨_,fun y hy=>?_⟩;cases hy with
     | bot=>exact h0
     | kid i=>exact ih i
def lst.{u} {A:Type u}:Nat→(Nat→A)→List A
 | 0,_=>[]
 | j+1,f=>f j::lst j f
theorem lst_congr.{u} {A:Type u} {f g:Nat→A}:∀ {j:Nat},(∀ i,i<j→f i=g i)→lst j f=lst j g
 | 0,_=>rfl
 | j+1,h=>by rw [lst,lst,lst_congr fun i hi=>h i (by omega),h j (by omega)]
theorem lst_lt.{u} {A:Type u} {r:A→A→Prop} {f g:Nat→A} {i:Nat}:∀ {j:Nat},i<j→r (g i) (f i)→(∀ i',i'≠i→g i'=f i')→RL r (lst j g) (lst j f)
 | j + 1, h, h1, h2 => by
   rcases Nat.lt_or_ge i j with hlt | hge
   · rw [lst,lst,h2 j (by omega)]
     exact .tail (lst_lt hlt h1 h2)
   · obtain rfl:i=j:=by omega
     rw [lst,lst,lst_congr (f:=g) (g:=f) fun i' hi'=>h2 i' (by omega)];exact .head h1
abbrev Mu:=Nat × List (Option Tr) × Nat
def Mu.lt:Mu→Mu→Prop:=Prod.Lex (·<·) (Prod.Lex (RL TrLt) (·<·))
theorem Mu.wf:WellFounded Mu.lt:=(Prod.lex Nat.lt_wfRel ⟨_,(Prod.lex ⟨_,RL.wf TrLt.wf⟩ Nat.lt_wfRel).wf⟩).wf
theorem Mu.lt1 {a a':Nat} {b b':List (Option Tr) × Nat} (h:a'<a):Mu.lt (a',b') (a,b):=Prod.Lex.left _ _ h
theorem Mu.lt2 {a:Nat} {l l':List (Option Tr)} {c c':Nat} (h:RL TrLt l' l):Mu.lt (a,l',c') (a,l,c):=Prod.Lex.right _ (Prod.Lex.left _ _ h)
theorem Mu.lt3 {a:Nat} {l:List (Option Tr)} {c c':Nat} (h:c'<c):Mu.lt (a,l,c') (a,l,c):=Prod.Lex.right _ (Prod.Lex.right _ h)
theorem reach_of_inv.{u} {P:Program} {α:Type u} {r:α→α→Prop} (wf:WellFounded r) (Inv:α→Machine→Trace→Prop) (Fin:Machine→Trace→Prop)
  (h:∀ μ m t,Inv μ m t→Reach P Fin m t∨∃ m' ops μ',stepT P m=(.next m',ops)∧r μ' μ∧Inv μ' m' (t++ops)):∀ μ m t,Inv μ m t→Reach P Fin m t:=by
 intro μ
 induction μ using wf.induction with
 | _ μ ih =>
   intro m t hI;rcases h μ m t hI with hf | ⟨m',ops,μ',hs,hr,hI'⟩
   · exact hf
   · exact Reach.step hs (ih μ' hr m' (t++ops) hI')
section
structure RWk [Payload] (ty:TypeId) (Wg C n i:Nat) (K M:Nat→Prop) (w w₁:World):Prop where
 own:∀ b,M b→w₁.heap[b]? = w.heap[b]?
 read:∀ b,K b→w₁.heap[b]? = w.heap[b]?
 size:w.heap.size≤w₁.heap.size
 live:WgLive ty Wg w→WgLive ty Wg w₁
 pay:PayAt C n w→PayAt C n w₁
 cell:w₁.cell? ⟨C,i,none⟩=w.cell? ⟨C,i,none⟩
def CellC (C i:Nat):Loc→Prop:=fun l=>∃ a,l=.cell a∧a.block=C∧a.off=i
def EvK (C i:Nat) (K M:Nat→Prop) (e:Event):Prop :=
 (∀ x,(MemAct.ofEvent e).touch? = some x→InB M x.loc∨CellC C i x.loc∨(InB K x.loc∧x.write=false))∧e.loc≠.mark .disable∧e.loc≠.mark .enable∧∀ a,e.loc≠.mark (.release a)
structure GWk [Payload] (C n i:Nat) (K M:Nat→Prop) (w w':World) (es:Array Event):Prop where
 size:w.heap.size≤w'.heap.size
 tape:w'.tape=w.tape
 os:w'.os=w.os
 output:w'.output=w.output
 block:∀ b,b<w.heap.size→¬ M b→b≠C→w'.heap[b]? = w.heap[b]?
 pay:PayAt C n w→PayAt C n w'
 cells:∀ i',i'≠i→w'.cell? ⟨C,i',none⟩=w.cell? ⟨C,i',none⟩
 ev:∀ e∈es,EvK C i K (Grown M w w') e
structure Chg [Payload] (ty:TypeId) (Wg C n:Nat) (X Y:Nat→Prop) (w w':World):Prop where
 size:w.heap.size≤w'.heap.size
 tape:w'.tape=w.tape
 os:w'.os=w.os
 output:w'.output=w.output
 block:∀ b,b<w.heap.size→¬ X b→b≠C→b≠Wg→w'.heap[b]? = w.heap[b]?
 live:WgLive ty Wg w→WgLive ty Wg w'
 pay:PayAt C n w→PayAt C n w'
 cells:∀ i,¬ Y i→w'.cell? ⟨C,i,none⟩=w.cell? ⟨C,i,none⟩
section
variable {ty:TypeId} {Wg C n i:Nat} {K M X Y:Nat→Prop} {w w' w'':World}
theorem RWk.refl [Payload] (w:World):RWk ty Wg C n i K M w w:=⟨fun _ _=>rfl,fun _ _=>rfl,Nat.le_refl _,id,id,rfl⟩
theorem RWk.trans [Payload] (h:RWk ty Wg C n i K M w w') (h':RWk ty Wg C n i K M w' w''):RWk ty Wg C n i K M w w'' :=
 ⟨fun b hb=>(h'.own b hb).trans (h.own b hb),fun b hb=>(h'.read b hb).trans (h.read b hb),Nat.le_trans h.size h'.size,h'.live ∘ h.live,h'.pay ∘ h.pay,h'.cell.trans h.cell⟩
theorem RWk.toRW [Payload] (h:RWk ty Wg C n i K M w w'):RW ty Wg C n 0 i w w':=⟨fun b hb=>by omega,h.live,h.pay,h.cell⟩
theorem Chg.rwk [Payload] (h:Chg ty Wg C n X Y w w') (hM:∀ b,M b→b<w.heap.size∧¬ X b∧b≠C∧b≠Wg) (hK:∀ b,K b→b<w.heap.size∧¬ X b∧b≠C∧b≠Wg) (hi:¬ Y i):RWk ty Wg C n i K M w w' :=
 ⟨fun b hb=>h.block b (hM b hb).1 (hM b hb).2.1 (hM b hb).2.2.1 (hM b hb).2.2.2,fun b hb=>h.block b (hK b hb).1 (hK b hb).2.1 (hK b hb).2.2.1 (hK b hb).2.2.2,h.size,h.live,h.pay,h.cells i hi⟩
theorem Chg.at [Payload] (w:World) (d:Nat):Chg ty Wg C n X Y w (w.at d):=⟨Nat.le_refl _,rfl,rfl,rfl,fun _ _ _ _ _=>rfl,id,id,fun _ _=>rfl⟩
theorem Chg.refl [Payload] (w:World):Chg ty Wg C n X Y w w:=⟨Nat.le_refl _,rfl,rfl,rfl,fun _ _ _ _ _=>rfl,id,id,fun _ _=>rfl⟩
theorem Chg.of_wg [Payload] (h:Aside Wg w w') (hl:WgLive ty Wg w') (hCW:C≠Wg):Chg ty Wg C n X Y w w' :=
 ⟨Nat.le_of_eq h.size.symm,h.tape,h.os,h.output,fun b _ _ _ hb=>h.block b hb,fun _=>hl,fun ⟨cs,hc,hn⟩=>⟨cs,(h.block C hCW).trans hc,hn⟩,fun i _=>cell_of_block (h.block C hCW) i⟩
theorem Chg.of_cell [Payload] (h:AsideCell C n i w w') (hCW:C≠Wg) (hY:Y i):Chg ty Wg C n X Y w w' :=
 ⟨Nat.le_of_eq h.size.symm,h.tape,h.os,h.output,fun b _ _ hb _=>h.block b hb,fun ⟨st,sm,hl⟩=>⟨st,sm,hl.of_block (h.block Wg (Ne.symm hCW))⟩,h.pay,fun i' hi'=>h.cells i' (fun e=>hi' (e ▸ hY))⟩
theorem Chg.of_work [Payload] {es:Array Event} (h:GWk C n i K M w w' es) (hW:Wg<w.heap.size) (hM:¬ M Wg) (hCW:C≠Wg) (hX:∀ b,M b→X b) (hY:Y i):Chg ty Wg C n X Y w w' :=
 ⟨h.size,h.tape,h.os,h.output,fun b hb hx hc _=>h.block b hb (fun hm=>hx (hX b hm)) hc,fun ⟨st,sm,hl⟩=>⟨st,sm,hl.of_block (h.block Wg hW hM (Ne.symm hCW))⟩,h.pay,fun i' hi'=>h.cells i' (fun e=>hi' (e ▸ hY))⟩
end
end
def ShW (S:Nat→Prop) (Wg:Nat):Loc→Prop:=InB fun b=>S b∨b=Wg
theorem shW_shN {S:Nat→Prop} {Wg:Nat} {l:Loc} (h:ShN Wg l):ShW S Wg l:=by
 obtain ⟨a,rfl,ha⟩:=h;exact .inr ha
structure WX where
 d:WD
 T:Option Tr
 M:Nat→Prop
 kb:Nat
 v:Value
def upx (D:Nat→WX) (i:Nat) (x:WX):Nat→WX:=fun a=>if a=i then x else D a
theorem upx_same (D:Nat→WX) (i:Nat) (x:WX):upx D i x i=x:=by simp [upx]
theorem upx_ne (D:Nat→WX) {i a:Nat} (x:WX) (h:a≠i):upx D i x a=D a:=by simp [upx,h]
theorem upx_d (D:Nat→WX) (i:Nat) (x:WX):(fun a=>(upx D i x a).d)=upd (fun a=>(D a).d) i x.d:=by
 funext a
 by_cases h:a=i
 · subst h;rw [upx_same,upd_same]
 · rw [upx_ne D x h,upd_ne _ _ h]
def OwnF (C L0 j:Nat) (D:Nat→WX) (k:Nat) (l:Loc):Prop:=∃ i,k=L0+i∧i<j∧(InB (D i).M l∨CellC C i l)
def RdF (L0 j:Nat) (K:Nat→Prop) (D:Nat→WX) (k:Nat) (l:Loc):Prop:=∃ i,k=L0+i∧i<j∧InB (fun b=>K b∨b=(D i).kb) l
theorem InB.get {S:Nat→Prop} {l:Loc} (hl:InB S l):∃ b,S b∧∀ S',InB S' l→S' b:=by
 cases l <;> first | exact ⟨_,hl,fun _ h=>h⟩ | exact hl.elim
theorem InB.at_ {S S':Nat→Prop} {l:Loc} (hl:InB S l) {b:Nat} (hb:∀ S',InB S' l→S' b) (h:S' b):InB S' l:=by
 cases l with
 | cell a =>
   have e:b=a.block:=hb (fun z=>z=a.block) rfl;subst e;exact h
 | obj r =>
   have e:b=r:=hb (fun z=>z=r) rfl;subst e;exact h
 | _=>exact hl.elim
theorem InB.of {S S':Nat→Prop} {l:Loc} (hl:InB S l) (h:∀ b,S b→(∀ S'',InB S'' l→S'' b)→S' b):InB S' l:=by
 cases l <;> first | exact h _ hl (fun _ h=>h) | exact hl.elim
structure Geom (S K:Nat→Prop) (Wg C B1 size j:Nat) (D:Nat→WX):Prop where
 hS:∀ b,S b→b<B1∧b≠C∧b≠Wg∧¬ K b
 hK:∀ b,K b→b<B1∧b≠C∧b≠Wg
 hC:C<B1
 hW:Wg<B1
 hCW:C≠Wg
 hB:B1≤size
 M:∀ i,i<j→∀ b,(D i).M b→B1≤b∧b<size
 kb:∀ i,i<j→B1≤(D i).kb∧(D i).kb<size
 MM:∀ i i',i<j→i'<j→i≠i'→∀ b,(D i).M b→¬ (D i').M b
 Mk:∀ i i',i<j→i'<j→∀ b,(D i).M b→b≠(D i').kb
section
variable {S K:Nat→Prop} {Wg C B1 size j L0:Nat} {D:Nat→WX}
theorem Geom.apart (h:Geom S K Wg C B1 size j D):Apart (ShW S Wg) (OwnF C L0 j D) (RdF L0 j K D):=by
 have own1:∀ {k l},OwnF C L0 j D k l→∃ i b,k=L0+i∧i<j∧(∀ S',InB S' l→S' b)∧((D i).M b∨(b=C∧CellC C i l)):=by
  rintro k l ⟨i,e,hi,hm | hc⟩
  · obtain ⟨b,hb,hb'⟩:=hm.get
    exact ⟨i,b,e,hi,hb',.inl hb⟩
  · obtain ⟨a,rfl,ha,_⟩:=id hc
    exact ⟨i,a.block,e,hi,fun _ h=>h,.inr ⟨ha,hc⟩⟩
 refine ⟨fun k k' l h1 h2=>?_,fun k k' l h1 h2=>?_,fun k l h1 h2=>?_,fun k l h1 h2=>?_⟩
 · obtain ⟨i,b,rfl,hi,hb,h1⟩:=own1 h1
   obtain ⟨i',e,hi',hm | hc⟩:=h2
   · subst e
     have hm':=hb _ hm;rcases h1 with h1 | ⟨rfl,_⟩
     · by_cases hii:i=i'
       · rw [hii]
       · exact absurd hm' (h.MM i i' hi hi' hii b h1)
     · have:=h.M i' hi' _ hm';have:=h.hC;omega
   · subst e
     obtain ⟨a,rfl,ha,ho⟩:=hc;have hbb:b=a.block:=(hb (fun b=>b=a.block) rfl).symm ▸ rfl;rcases h1 with h1 | ⟨_,a',ha',_,ho'⟩
     · have:=h.M i hi b h1;have:=h.hC;omega
     · obtain rfl:=Loc.cell.inj ha'
       omega
 · obtain ⟨i,b,rfl,hi,hb,h1⟩:=own1 h1
   obtain ⟨i',rfl,hi',hr⟩:=h2;have hr':=hb _ hr;rcases h1 with h1 | ⟨rfl,_⟩
   · rcases hr' with hr' | hr'
     · have:=h.hK b hr';have:=h.M i hi b h1;omega
     · exact h.Mk i i' hi hi' b h1 hr'
   · rcases hr' with hr' | hr'
     · exact (h.hK _ hr').2.1 rfl
     · have:=h.kb i' hi';have:=h.hC;omega
 · obtain ⟨i,b,rfl,hi,hb,h1⟩:=own1 h1
   have hr':=hb _ h2;rcases h1 with h1 | ⟨rfl,_⟩
   · have:=h.M i hi b h1
     rcases hr' with hr' | rfl
     · have:=h.hS b hr';omega
     · have:=h.hW;omega
   · rcases hr' with hr' | hr'
     · exact (h.hS _ hr').2.1 rfl
     · exact h.hCW hr'
 · obtain ⟨i',rfl,hi',hr⟩:=h1
   obtain ⟨b,hr',hb⟩:=hr.get;have hs:=hb _ h2;rcases hr' with hr' | rfl
   · rcases hs with hs | rfl
     · exact (h.hS b hs).2.2.2 hr'
     · exact (h.hK _ hr').2.2 rfl
   · have:=h.kb i' hi'
     rcases hs with hs | hs
     · have:=h.hS _ hs;omega
     · have:=h.hW;omega
end
section
variable {Sh:Loc→Prop} {Own Own' Rd Rd':Nat→Loc→Prop} {t:Trace} {j:Nat}
theorem CT.fam (h:CT Sh Own Rd t j) (h1:∀ k,1≤k→k≤j→∀ l,Own k l↔Own' k l) (h2:∀ k,1≤k→k≤j→∀ l,Rd k l↔Rd' k l):CT Sh Own' Rd' t j :=
 ⟨h.quiet, fun k a b l hl => h.own k a b l ((h1 k a b l).2 hl), fun k a b l hl => h.rd k a b l ((h2 k a b l).2 hl),
  fun l hs hl=>h.free l hs fun k a b=>⟨fun ho=>(hl k a b).1 ((h1 k a b l).1 ho),fun hr=>(hl k a b).2 ((h2 k a b l).1 hr)⟩,
  fun l hs hl=>h.mine l hs fun k a b ho=>hl k a b ((h1 k a b l).1 ho),h.nr,h.gs⟩
theorem CT.grow (h:CT Sh Own Rd t j) (h1:∀ k l,Own k l→Own' k l) (h2:∀ k l,Own' k l→Own k l∨∀ i a,touchAt t i=some a→a.loc≠l):CT Sh Own' Rd t j :=
 ⟨h.quiet, fun k a b l hl => (h2 k l hl).elim (h.own k a b l) (fun hf i x hx e => absurd e (hf i x hx)), h.rd,
  fun l hs hl=>h.free l hs fun k a b=>⟨fun ho=>(hl k a b).1 (h1 k l ho),(hl k a b).2⟩,fun l hs hl=>h.mine l hs fun k a b ho=>hl k a b (h1 k l ho),h.nr,h.gs⟩
end
open Go Go.Conc
open Go.ConcN hiding EvL Inv Fin
open Go.ConcR (KK wgBlock WgAt stA smA rd wr mk Payload Aside2 DC0 Bk g_of_ofEvents)
structure Cst where
 P:Program
 ty:TypeId
 Wg:Nat
 C:Nat
 n:Nat
 L0:Nat
 B1:Nat
 S:Nat→Prop
 K:Nat→Prop
 Res:Nat→Value→(Nat→Prop)→World→Prop
 wB:World
 tB:Nat
structure RelK (Wg tB:Nat) (t:Trace) (k r:Nat):Prop where
 late:tB≤r
 rel:RelBy (stA Wg) t k r
 behind:∀ x a,r<x→t.g? x=some k→touchAt t x=some a→ShN Wg a.loc∧a.kind=.atomic
theorem RelK.app {Wg tB k r g:Nat} {t u:Trace} (h:RelK Wg tB t k r) (hu:∀ op∈u,op.g=g) (hg:g≠k):RelK Wg tB (t++u) k r:=by
 refine ⟨h.late,h.rel.appOther hu hg,fun x a hx hgx ha=>?_⟩;obtain ⟨op,ho,hog⟩:=Option.map_eq_some_iff.1 hgx;rcases getElem?_append_cases ho with ⟨hlt,ho'⟩ | ⟨_,hou⟩
 · exact h.behind x a hx (by rw [← hgx,g?_old hlt]) (by rw [← ha,touchAt_old hlt])
 · rw [hu op hou] at hog;exact absurd hog hg
theorem RelK.appNot {Wg tB k r:Nat} {t u:Trace} (h:RelK Wg tB t k r) (hu:∀ op∈u,op.g≠k):RelK Wg tB (t++u) k r:=by
 refine ⟨h.late,RelBy.appNot h.rel hu,fun x a hx hgx ha=>?_⟩;obtain ⟨op,ho,hog⟩:=Option.map_eq_some_iff.1 hgx;rcases getElem?_append_cases ho with ⟨hlt,ho'⟩ | ⟨_,hou⟩
 · exact h.behind x a hx (by rw [← hgx,g?_old hlt]) (by rw [← ha,touchAt_old hlt])
 · exact absurd hog (hu op hou)
def Cst.WS [Payload] (c:Cst) (i:Nat) (v:Value) (s m d:Nat) (g:Goroutine) (w:World):Prop:=WSit c.P c.ty c.Wg c.C c.n (fun _ _=>False) (fun _ _=>False) 0 (i+1) v s m d g w
def Cst.StopW [Payload] (c:Cst) (i:Nat) (M:Nat→Prop) (g:Goroutine) (w:World):Prop :=
 ∃ v m,c.Res i v M w∧Goes c.P false (RW c.ty c.Wg c.C c.n 0 i) (DWs c.Wg (fun _ _=>False) (fun _ _=>False) c.C c.n (i+1)) (AtR0 c.P c.ty c.Wg c.C c.n 0 (i+1) v) m g w
def Cst.Kx (c:Cst) (kb:Nat):Nat→Prop:=fun b=>c.K b∨b=kb
def Cst.Work [Payload] (c:Cst) (i kb:Nat) (T:Tr) (M:Nat→Prop) (g:Goroutine) (w:World):Prop :=
 GoT c.P false (RWk c.ty c.Wg c.C c.n i (c.Kx kb)) (GWk c.C c.n i (c.Kx kb)) (c.StopW i) T M g w
inductive Cst.WkS [Payload] (c:Cst) (i:Nat):WX→Goroutine→World→Prop
 | work {T:Tr} {M:Nat→Prop} {kb:Nat} {v:Value} {g:Goroutine} {w:World}:c.Work i kb T M g w→c.WkS i ⟨⟨7,0,0⟩,some T,M,kb,v⟩ g w
 | late {s m d:Nat} {M:Nat→Prop} {kb:Nat} {v:Value} {g:Goroutine} {w:World}:c.WS i v s m d g w→c.Res i v M w→c.WkS i ⟨⟨s,m,d⟩,none,M,kb,v⟩ g w
structure Cst.Ok (c:Cst):Prop where
 res:∀ i v M (w w₁:World),(∀ b,M b→w₁.heap[b]? = w.heap[b]?)→c.Res i v M w→c.Res i v M w₁
 L0:1≤c.L0
 n:c.n<2147483648
structure Cst.PC [Payload] (c:Cst) (q:Nat→Nat) (j:Nat) (gs:Array Goroutine) (w:World) (t:Trace) (D:Nat→WX) (d0:Nat) (cur:Option Nat):Prop where
 size:gs.size=c.L0+j
 old:∀ i g,0<i→i<c.L0→gs[i]? = some g→QuitsD c.P (q i) (Deaf t i) g
 wk:∀ i,i<j→∃ g,gs[c.L0+i]? = some g∧c.WkS i (D i) g w
 ct:CT (ShW c.S c.Wg) (OwnF c.C c.L0 j D) (RdF c.L0 j c.K D) t (c.L0+j - 1)
 norel:∀ i,c.tB≤i→t.act? i≠some (.mark (.release (stA c.Wg)))
 tB:c.tB≤t.size
 deaf0:Deaf t 0=d0
 deafW:∀ i,i<j→Deaf t (c.L0+i)=(D i).d.deaf
 rel:∀ i,i<j→(D i).d.stage≤6→∃ r,RelK c.Wg c.tB t (c.L0+i) r
 has:∀ i,i<j→(D i).d.stage≤6→Has c.C i (D i).v w
 pay:PayAt c.C c.n w
 known:∀ x a,touchAt t x=some a→Knows t 0 x∨(ShW c.S c.Wg a.loc∧a.kind=.atomic)∨∃ g,t.g? x=some g∧c.L0≤g
 over:∀ i g,t.g? i=some g→g≠0→g<c.L0→t.counts i→∃ j,t.g? j=some 0∧HappensBefore t i j
 seen:∀ op∈t,∀ x,op.act.touch? = some x→InB (·<w.heap.size) x.loc
 geo:Geom c.S c.K c.Wg c.C c.B1 w.heap.size j D
 cur:∀ b,cur=some b→c.B1≤b∧b<w.heap.size∧∀ i,i<j→¬ (D i).M b∧b≠(D i).kb
 keep:∀ b,b<c.B1→b≠c.C→b≠c.Wg→w.heap[b]? = c.wB.heap[b]?
 tape:w.tape=c.wB.tape
 os:w.os=c.wB.os
 output:w.output=c.wB.output
section
variable {c:Cst} {q:Nat→Nat} {j i:Nat} {gs:Array Goroutine} {w w':World} {t:Trace} {D:Nat→WX} {d0:Nat} {cur cur':Option Nat} {x x':WX} {g g' a a':Goroutine}
theorem Cst.WkS.rely [Payload] (H:c.Ok) (h:c.WkS i x g w) (hr:RWk c.ty c.Wg c.C c.n i (c.Kx x.kb) x.M w w'):c.WkS i x g w':=by
 cases h with
 | work h=>exact .work (GoT.rely (fun _ _ _ _ h1 h2=>h1.trans h2) h hr)
 | late h hv=>exact .late (WSit.rely h hr.toRW) (H.res _ _ _ _ _ hr.own hv)
theorem Cst.WkS.running7 [Payload] (h:c.WkS i x g w) (hs:x.d.stage≠1):g.status=.running:=by
 cases h with
 | @work T _ _ _ _ _ h =>
   cases T with
   | nd ι f =>
     rcases h w (RWk.refl w) with ⟨v,m,_,hg⟩ | ⟨hr,_⟩
     · exact Goes.running (fun _ _ x=>x.1) w (RW.refl w) hg
     · exact hr
 | late h _=>exact WSit.running_of h hs
theorem Cst.WkS.status [Payload] (h:c.WkS i x g w):g.status=.running∨g.status=.finished:=by
 cases h with
 | work h=>exact .inl (Cst.WkS.running7 (.work h (v:=.tuple #[])) (by simp))
 | late h _=>exact WSit.status h
theorem Cst.WkS.woken [Payload] (h:c.WkS i x g w) (a a':Goroutine) (w':World):woken c.P a a' w' g=g:=by
 unfold Go.Conc.woken;split
 · exact again_running _ h.status
 · rfl
theorem Geom.upd {S K:Nat→Prop} {Wg C B1 size size':Nat} (h:Geom S K Wg C B1 size j D) (hs:size≤size') (hi:i<j) (hk:x'.kb=(D i).kb) (hM:∀ b,x'.M b→(D i).M b∨(size≤b∧b<size')) :
  Geom S K Wg C B1 size' j (upx D i x'):=by
 refine ⟨h.hS,h.hK,h.hC,h.hW,h.hCW,Nat.le_trans h.hB hs,fun a ha b hb=>?_,fun a ha=>?_,fun a a' ha ha' e b hb hb'=>?_,fun a a' ha ha' b hb=>?_⟩
 · by_cases e:a=i
   · subst e
     rw [upx_same] at hb;rcases hM b hb with h1 | h1
     · have:=h.M a ha b h1;omega
     · have:=h.hB;omega
   · rw [upx_ne D _ e] at hb
     have:=h.M a ha b hb;omega
 · by_cases e:a=i
   · subst e
     rw [upx_same,hk];have:=h.kb a ha;omega
   · rw [upx_ne D _ e]
     have:=h.kb a ha;omega
 · by_cases e1:a=i
   · subst e1
     rw [upx_same] at hb;rw [upx_ne D _ (Ne.symm e)] at hb';rcases hM b hb with h1 | h1
     · exact h.MM a a' ha ha' e b h1 hb'
     · have:=h.M a' ha' b hb';omega
   · rw [upx_ne D _ e1] at hb
     by_cases e2:a'=i
     · subst e2
       rw [upx_same] at hb';rcases hM b hb' with h1 | h1
       · exact h.MM a a' ha ha' e b hb h1
       · have:=h.M a ha b hb;omega
     · rw [upx_ne D _ e2] at hb'
       exact h.MM a a' ha ha' e b hb hb'
 · have hkb:(upx D i x' a').kb=(D a').kb:=by
    by_cases e:a'=i
    · subst e;rw [upx_same,hk]
    · rw [upx_ne D _ e]
   rw [hkb];have h2:=h.kb a' ha';by_cases e:a=i
   · subst e
     rw [upx_same] at hb;rcases hM b hb with h1 | h1
     · exact h.Mk a a' ha ha' b h1
     · omega
   · rw [upx_ne D _ e] at hb
     exact h.Mk a a' ha ha' b hb
theorem Geom.size {S K:Nat→Prop} {Wg C B1 size size':Nat} (h:Geom S K Wg C B1 size j D) (hs:size≤size'):Geom S K Wg C B1 size' j D :=
 ⟨h.hS,h.hK,h.hC,h.hW,h.hCW,Nat.le_trans h.hB hs,fun a ha b hb=>by have:=h.M a ha b hb;omega,fun a ha=>by have:=h.kb a ha;omega,h.MM,h.Mk⟩
theorem seen_app {t u:Trace} {B B':Nat} (h:∀ op∈t,∀ x,op.act.touch? = some x→InB (·<B) x.loc) (hB:B≤B') (hu:∀ op∈u,∀ x,op.act.touch? = some x→InB (·<B') x.loc):∀ op∈t++u,∀ x,op.act.touch? = some x→InB (·<B') x.loc :=
 fun op hop x hx=>(Array.mem_append.1 hop).elim (fun h1=>(h op h1 x hx).mono fun _ hb=>Nat.lt_of_lt_of_le hb hB) (fun h1=>hu op h1 x hx)
theorem norel_app {t u:Trace} {a:Addr} {B:Nat} (h:∀ i,B≤i→t.act? i≠some (.mark (.release a))) (hu:∀ op∈u,op.act≠.mark (.release a)):∀ i,B≤i→(t++u).act? i≠some (.mark (.release a)):=by
 intro i hi e;obtain ⟨op,ho,hoa⟩:=Option.map_eq_some_iff.1 e;rcases getElem?_append_cases ho with ⟨hlt,ho'⟩ | ⟨_,hou⟩
 · exact h i hi (by rw [← act?_old hlt (u:=u)];exact e)
 · exact hu op hou hoa
theorem known_app {t u:Trace} {Sh:Loc→Prop} {L0 g:Nat} (h:∀ x a,touchAt t x=some a→Knows t 0 x∨(Sh a.loc∧a.kind=.atomic)∨∃ g,t.g? x=some g∧L0≤g) (hu:∀ op∈u,op.g=g)
  (hg:g=0∨L0≤g∨∀ op∈u,op.act.touch? = none):∀ x a,touchAt (t++u) x=some a→Knows (t++u) 0 x∨(Sh a.loc∧a.kind=.atomic)∨∃ g,(t++u).g? x=some g∧L0≤g:=by
 intro x a ha;obtain ⟨op,ho,hoa⟩:=touch_of ha;rcases getElem?_append_cases ho with ⟨hlt,ho'⟩ | ⟨_,hou⟩
 · rcases h x a (by rw [← ha,touchAt_old hlt]) with h1 | h1 | ⟨g,h1,h2⟩
   · exact .inl (h1.app u)
   · exact .inr (.inl h1)
   · exact .inr (.inr ⟨g,by rw [g?_old hlt];exact h1,h2⟩)
 · rcases hg with rfl | hg | hg
   · have:=knows_own ho
     rw [hu op hou] at this;exact .inl this
   · exact .inr (.inr ⟨g,by simp [Trace.g?,ho,hu op hou],hg⟩)
   · rw [hg op hou] at hoa;cases hoa
theorem over_app {t u:Trace} {L0 g:Nat} (h:∀ i g,t.g? i=some g→g≠0→g<L0→t.counts i→∃ j,t.g? j=some 0∧HappensBefore t i j) (hu:∀ op∈u,op.g=g)
  (hg:g=0∨L0≤g∨∀ op∈u,op.act.touch? = none):∀ i g,(t++u).g? i=some g→g≠0→g<L0→(t++u).counts i→∃ j,(t++u).g? j=some 0∧HappensBefore (t++u) i j:=by
 intro i g' hgi hne hlt hc;obtain ⟨op,ho,hog⟩:=Option.map_eq_some_iff.1 hgi;rcases getElem?_append_cases ho with ⟨hlt',ho'⟩ | ⟨_,hou⟩
 · obtain ⟨j,hj,hb⟩:=h i g' (by rw [← g?_old hlt' (u:=u)];exact hgi) hne hlt ((counts_old hlt').1 hc)
   have hjl:j<t.size:=by
    unfold Trace.g? at hj;obtain ⟨z,hz,_⟩:=Option.map_eq_some_iff.1 hj;exact lt_size_of_getElem? hz
   exact ⟨j,by rw [g?_old hjl];exact hj,hb_app u hb⟩
 · have e:=hu op hou
   rcases hg with rfl | hg | hg
   · omega
   · omega
   · obtain ⟨x,hx,_⟩:=hc
     have:touchAt (t++u) i=some x:=hx;rw [touchAt_of ho,hg op hou] at this;cases this
theorem Cst.PC.worker [Payload] (H:c.Ok) (h:c.PC q j gs w t D d0 cur) (hi:i<j) {es:Array Event} {fn:FuncId} {pos:String} (hch:Chg c.ty c.Wg c.C c.n (D i).M (·=i) w w')
  (hk:x'.kb=(D i).kb) (hM1:∀ b,(D i).M b→x'.M b) (hM2:∀ b,x'.M b→(D i).M b∨(w.heap.size≤b∧b<w'.heap.size)) (hs':c.WkS i x' g' w')
  (hok:∀ op∈MemOp.ofEvents (c.L0+i) fn pos es,OkW (ShW c.S c.Wg) (OwnF c.C c.L0 j (upx D i x')) (RdF c.L0 j c.K D) (c.L0+i) op) (hnr:∀ e∈es,e.loc≠.mark (.release (stA c.Wg)))
  (hdeaf:deafBehind (D i).d.deaf es=x'.d.deaf) (hrel:x'.d.stage≤6→∃ r,RelK c.Wg c.tB (t++MemOp.ofEvents (c.L0+i) fn pos es) (c.L0+i) r) (hhas:x'.d.stage≤6→Has c.C i x'.v w')
  (hlow:∀ e∈es,∀ x,(MemAct.ofEvent e).touch? = some x→InB (·<w'.heap.size) x.loc) :
  c.PC q j ((gs.map (Go.Conc.woken c.P g g' w')).setIfInBounds (c.L0+i) g') w' (t++MemOp.ofEvents (c.L0+i) fn pos es) (upx D i x') d0 cur:=by
 have hL:=H.L0;have hmem:∀ op∈MemOp.ofEvents (c.L0+i) fn pos es,op.g=c.L0+i:=g_of_ofEvents;have hg0:c.L0+i=0∨c.L0≤c.L0+i∨∀ op∈MemOp.ofEvents (c.L0+i) fn pos es,op.act.touch? = none:=.inr (.inl (by omega));have hkb:∀ a,(upx D i x' a).kb=(D a).kb:=fun a=>by
  by_cases e:a=i
  · subst e;rw [upx_same,hk]
  · rw [upx_ne D _ e]
 have hgeo:=h.geo.upd hch.size hi hk hM2;have hrw:∀ i',i'<j→i'≠i→RWk c.ty c.Wg c.C c.n i' (c.Kx (D i').kb) (D i').M w w':=fun i' hi' e =>
  hch.rwk (fun b hb=>⟨(h.geo.M i' hi' b hb).2,h.geo.MM i' i hi' hi e b hb,fun e'=>by have:=h.geo.M i' hi' b hb;have:=h.geo.hC;omega,fun e'=>by have:=h.geo.M i' hi' b hb;have:=h.geo.hW;omega⟩)
   (fun b hb=>by
     have hB:=h.geo.hB;rcases hb with hb | rfl
     · have:=h.geo.hK b hb
       exact ⟨by omega,fun hm=>by have:=h.geo.M i hi b hm;omega,this.2.1,this.2.2⟩
     · have:=h.geo.kb i' hi'
       have:=h.geo.hC;have:=h.geo.hW;exact ⟨by omega,fun hm=>h.geo.Mk i i' hi hi' _ hm rfl,by omega,by omega⟩) e
 have hct:CT (ShW c.S c.Wg) (OwnF c.C c.L0 j (upx D i x')) (RdF c.L0 j c.K D) t (c.L0+j - 1):=by
  refine CT.grow h.ct (fun k l hl=>?_) (fun k l hl=>?_)
  · obtain ⟨a,rfl,ha,hm⟩:=hl
    refine ⟨a,rfl,ha,hm.imp (fun hm=>?_) id⟩;by_cases e:a=i
    · subst e;rw [upx_same];exact hm.mono hM1
    · rw [upx_ne D _ e];exact hm
  · obtain ⟨a,rfl,ha,hm | hc⟩:=hl
    · by_cases e:a=i
      · subst e
        rw [upx_same] at hm;obtain ⟨b,hb,hbl⟩:=hm.get;rcases hM2 b hb with h1 | h1
        · exact .inl ⟨a,rfl,ha,.inl (hm.at_ hbl h1)⟩
        · right
          intro ix ax hax hloc;obtain ⟨op,ho,hoa⟩:=touch_of hax;have:InB (fun z=>z<w.heap.size) l:=by
           rw [← hloc];exact h.seen op (Array.mem_of_getElem? ho) _ hoa
          have:=hbl _ this;omega
      · rw [upx_ne D _ e] at hm
        exact .inl ⟨a,rfl,ha,.inl hm⟩
    · exact .inl ⟨a,rfl,ha,.inr hc⟩
 have hrd:∀ k l,RdF c.L0 j c.K (upx D i x') k l↔RdF c.L0 j c.K D k l:=fun k l=>by
  constructor
  · rintro ⟨a,e,ha,hl⟩
    exact ⟨a,e,ha,by rw [hkb] at hl;exact hl⟩
  · rintro ⟨a,e,ha,hl⟩
    exact ⟨a,e,ha,by rw [hkb];exact hl⟩
 have hap:Apart (ShW c.S c.Wg) (OwnF c.C c.L0 j (upx D i x')) (RdF c.L0 j c.K D):=by
  have:=hgeo.apart (L0:=c.L0);exact ⟨this.own,fun k k' l h1 h2=>this.ownRd k k' l h1 ((hrd k' l).2 h2),this.ownSh,fun k l h1=>this.rdSh k l ((hrd k l).2 h1)⟩
 refine ⟨by simp [h.size],fun i' y h0 hlt hy=>?_,fun i' hi'=>?_, ?_,norel_app h.norel (norel_of hnr),by have:=h.tB;simp;omega,by rw [Deaf_other t (by omega) _ hmem,h.deaf0],fun i' hi'=>?_,fun i' hi' hst=>?_,fun i' hi' hst=>?_,hch.pay h.pay,
  known_app h.known hmem hg0,over_app h.over hmem hg0,seen_app h.seen hch.size fun op hop x hx=>(by obtain ⟨e,he,rfl⟩:=Go.Conc.mem_ofEvents hop;exact hlow e he x hx),
  hgeo,fun b hb=>?_,fun b h1 h2 h3=>(hch.block b (by have:=h.geo.hB;omega) (fun hm=>by have:=h.geo.M i hi b hm;omega) h2 h3).trans (h.keep b h1 h2 h3),hch.tape.trans h.tape,hch.os.trans h.os,hch.output.trans h.output⟩
 · rw [get_map_set _ _ _ _ (by omega)] at hy
   obtain ⟨z,hz,rfl⟩:=Option.map_eq_some_iff.1 hy;have hqz:=h.old i' z h0 hlt hz;rw [woken_quitsD hqz,Deaf_other t (by omega) _ hmem];exact hqz
 · by_cases e:i'=i
   · subst e
     exact ⟨g',get_map_set_same _ _ _ (by rw [h.size];omega),by rw [upx_same];exact hs'⟩
   · obtain ⟨y,hy,hsy⟩:=h.wk i' hi'
     refine ⟨y,by rw [get_map_set _ _ _ _ (by omega),hy,Option.map_some,hsy.woken], ?_⟩;rw [upx_ne D _ e];exact hsy.rely H (hrw i' hi' e)
 · exact CT.fam (CT.appW hap hct (by omega) (by omega) hok) (fun _ _ _ _=>Iff.rfl) (fun k _ _ l=>(hrd k l).symm)
 · by_cases e:i'=i
   · subst e;rw [Deaf_own,h.deafW i' hi',upx_same];exact hdeaf
   · rw [Deaf_other t (by omega) _ hmem,h.deafW i' hi',upx_ne D _ e]
 · by_cases e:i'=i
   · subst e;rw [upx_same] at hst;exact hrel hst
   · rw [upx_ne D _ e] at hst
     obtain ⟨r,hr⟩:=h.rel i' hi' hst;exact ⟨r,hr.app hmem (by omega)⟩
 · by_cases e:i'=i
   · subst e;rw [upx_same] at hst ⊢;exact hhas hst
   · rw [upx_ne D _ e] at hst ⊢
     exact (hrw i' hi' e).cell.trans (h.has i' hi' hst)
 · obtain ⟨h1,h2,h3⟩:=h.cur b hb
   refine ⟨h1,Nat.lt_of_lt_of_le h2 hch.size,fun a ha=>⟨fun hm=>?_,by rw [hkb];exact (h3 a ha).2⟩⟩;by_cases e:a=i
   · subst e
     rw [upx_same] at hm;rcases hM2 b hm with h4 | h4
     · exact (h3 a ha).1 h4
     · omega
   · rw [upx_ne D _ e] at hm
     exact (h3 a ha).1 hm
end
open Go Go.Conc
open Go.ConcN hiding EvL Inv Fin
open Go.ConcR (KK wgBlock WgAt stA smA rd wr mk Payload Aside2 DC0 Bk g_of_ofEvents)
section
variable {c:Cst} {q:Nat→Nat} {j i:Nat} {gs:Array Goroutine} {w w':World} {t:Trace} {D:Nat→WX} {d0:Nat} {cur cur':Option Nat} {x x':WX} {g g' a a':Goroutine}
theorem Cst.PC.relyAll [Payload] (h:c.PC q j gs w t D d0 cur) {X:Nat→Prop} (hch:Chg c.ty c.Wg c.C c.n X (fun _=>False) w w') (hX:∀ b,X b→cur=some b) (i':Nat) (hi':i'<j):RWk c.ty c.Wg c.C c.n i' (c.Kx (D i').kb) (D i').M w w' :=
 hch.rwk (fun b hb=>⟨(h.geo.M i' hi' b hb).2,fun hx=>((h.cur b (hX b hx)).2.2 i' hi').1 hb,fun e'=>by have:=h.geo.M i' hi' b hb;have:=h.geo.hC;omega,fun e'=>by have:=h.geo.M i' hi' b hb;have:=h.geo.hW;omega⟩)
  (fun b hb=>by
    have hB:=h.geo.hB;rcases hb with hb | rfl
    · have:=h.geo.hK b hb
      exact ⟨by omega,fun hx=>by have:=h.cur b (hX b hx);omega,this.2.1,this.2.2⟩
    · have:=h.geo.kb i' hi'
      have:=h.geo.hC;have:=h.geo.hW;exact ⟨by omega,fun hx=>((h.cur _ (hX _ hx)).2.2 i' hi').2 rfl,by omega,by omega⟩) (fun e=>e)
theorem Cst.PC.at [Payload] (H:c.Ok) (h:c.PC q j gs w t D d0 cur) (d:Nat):c.PC q j gs (w.at d) t D d0 cur :=
 ⟨h.size,h.old,fun i hi=>let ⟨g,hg,hs⟩:=h.wk i hi;⟨g,hg,hs.rely H (h.relyAll (X:=fun _=>False) (Chg.at w d) (fun _ e=>e.elim) i hi)⟩,h.ct,h.norel,h.tB,h.deaf0,h.deafW,h.rel,h.has,h.pay,h.known,h.over,h.seen,h.geo,h.cur,h.keep,h.tape,h.os,h.output⟩
theorem Cst.PC.slip [Payload] (H:c.Ok) (h:c.PC q j gs w t D d0 cur) {k:Nat} (hk0:0<k) (hk:k<c.L0) {es:Array Event} {fn:FuncId} {pos:String} {m:Nat} (hm:∀ e∈es,e.mute=true) (hq:QuitsD c.P m (deafBehind (Deaf t k) es) g') :
  c.PC (upd q k m) j ((gs.map (Go.Conc.woken c.P g g' w)).setIfInBounds k g') w (t++MemOp.ofEvents k fn pos es) D d0 cur:=by
 have hL:=H.L0;have hmem:∀ op∈MemOp.ofEvents k fn pos es,op.g=k:=g_of_ofEvents;have hno:∀ op∈MemOp.ofEvents k fn pos es,op.act.touch? = none:=fun op hop=>by obtain ⟨e,he,rfl⟩:=Go.Conc.mem_ofEvents hop;exact touch_mute (hm e he)
 have hapart:=h.geo.apart (L0:=c.L0);refine ⟨by simp [h.size],fun i' y h0 hlt hy=>?_,fun i' hi'=>?_, ?_,norel_app h.norel (norel_of fun e he hl=>?_),by have:=h.tB;simp;omega,by rw [Deaf_other t (by omega) _ hmem,h.deaf0],fun i' hi'=>by rw [Deaf_other t (by omega) _ hmem,h.deafW i' hi'],fun i' hi' hst=>?_,h.has,h.pay,
  known_app h.known hmem (.inr (.inr hno)),over_app h.over hmem (.inr (.inr hno)),seen_app h.seen (Nat.le_refl _) fun op hop x hx=>(by rw [hno op hop] at hx;cases hx),
  h.geo,h.cur,h.keep,h.tape,h.os,h.output⟩
 · by_cases e:i'=k
   · subst e
     rw [get_map_set_same _ _ _ (by rw [h.size];omega)] at hy;cases hy;rw [upd_same,Deaf_own];exact hq
   · rw [get_map_set _ _ _ _ (by omega)] at hy
     obtain ⟨z,hz,rfl⟩:=Option.map_eq_some_iff.1 hy;have hqz:=h.old i' z h0 hlt hz;rw [woken_quitsD hqz,Deaf_other t (by omega) _ hmem,upd_ne q m e];exact hqz
 · obtain ⟨y,hy,hsy⟩:=h.wk i' hi'
   exact ⟨y,by rw [get_map_set _ _ _ _ (by omega),hy,Option.map_some,hsy.woken],hsy⟩
 · exact h.ct.appW hapart (by omega) (by omega) fun op hop=>⟨hmem op hop,fun x hx=>by rw [hno op hop] at hx;cases hx⟩
 · have:=hm e he
   obtain ⟨loc,wr',sy⟩:=e;simp only at hl;subst hl;simp [Event.mute] at this
 · obtain ⟨r,hr⟩:=h.rel i' hi' hst
   exact ⟨r,hr.app hmem (by omega)⟩
theorem Cst.PC.starter [Payload] (H:c.Ok) (h:c.PC q j gs w t D d0 cur) {es:Array Event} {fn:FuncId} {pos:String} {X:Nat→Prop} (hch:Chg c.ty c.Wg c.C c.n X (fun _=>False) w w') (hX:∀ b,X b→cur=some b)
  (hok:∀ op∈MemOp.ofEvents 0 fn pos es,Ok0 (ShW c.S c.Wg) (OwnF c.C c.L0 j D) (RdF c.L0 j c.K D) (c.L0+j - 1) op) (hnr:∀ e∈es,e.loc≠.mark (.release (stA c.Wg)))
  (hlow:∀ e∈es,∀ x,(MemAct.ofEvent e).touch? = some x→InB (·<w'.heap.size) x.loc)
  (hcur:∀ b,cur'=some b→cur=some b∨(w.heap.size≤b∧b<w'.heap.size)) :
  c.PC q j ((gs.map (Go.Conc.woken c.P a a' w')).setIfInBounds 0 a') w' (t++MemOp.ofEvents 0 fn pos es) D (deafBehind d0 es) cur':=by
 have hL:=H.L0;have hmem:∀ op∈MemOp.ofEvents 0 fn pos es,op.g=0:=g_of_ofEvents;refine ⟨by simp [h.size],fun i' y h0 hlt hy=>?_,fun i' hi'=>?_,h.ct.app0 h.geo.apart hok,norel_app h.norel (norel_of hnr),by have:=h.tB;simp;omega,by rw [Deaf_own,h.deaf0],fun i' hi'=>by rw [Deaf_other t (by omega) _ hmem,h.deafW i' hi'],fun i' hi' hst=>?_,fun i' hi' hst=>?_,hch.pay h.pay,
  known_app h.known hmem (.inl rfl),over_app h.over hmem (.inl rfl),seen_app h.seen hch.size fun op hop x hx=>(by obtain ⟨e,he,rfl⟩:=Go.Conc.mem_ofEvents hop;exact hlow e he x hx),
  h.geo.size hch.size,fun b hb=>?_,fun b h1 h2 h3=>(hch.block b (by have:=h.geo.hB;omega) (fun hm=>by have:=h.cur b (hX b hm);omega) h2 h3).trans (h.keep b h1 h2 h3),hch.tape.trans h.tape,hch.os.trans h.os,hch.output.trans h.output⟩
 · rw [get_map_set _ _ _ _ (by omega)] at hy
   obtain ⟨z,hz,rfl⟩:=Option.map_eq_some_iff.1 hy;have hqz:=h.old i' z h0 hlt hz;rw [woken_quitsD hqz,Deaf_other t (by omega) _ hmem];exact hqz
 · obtain ⟨y,hy,hsy⟩:=h.wk i' hi'
   exact ⟨y,by rw [get_map_set _ _ _ _ (by omega),hy,Option.map_some,hsy.woken],hsy.rely H (h.relyAll hch hX i' hi')⟩
 · obtain ⟨r,hr⟩:=h.rel i' hi' hst
   exact ⟨r,hr.app hmem (by omega)⟩
 · exact (h.relyAll hch hX i' hi').cell.trans (h.has i' hi' hst)
 · rcases hcur b hb with h1 | h1
   · obtain ⟨h2,h3,h4⟩:=h.cur b h1
     exact ⟨h2,Nat.lt_of_lt_of_le h3 hch.size,h4⟩
   · have:=h.geo.hB
     exact ⟨by omega,h1.2,fun a ha=>⟨fun hm=>by have:=h.geo.M a ha b hm;omega,fun e=>by have:=h.geo.kb a ha;omega⟩⟩
theorem Cst.PC.spawn [Payload] (H:c.Ok) {kb:Nat} (h:c.PC q j gs w t D 0 (some kb)) {child:Goroutine} {x y:MemOp} {T:Tr} (hx:x.g=0∧x.act=.go (c.L0+j)) (hy:y.g=c.L0+j∧y.act=.start)
  (hc:c.Work j kb T (fun _=>False) child w) :
  c.PC q (j+1) ((gs.setIfInBounds 0 a').push child) w (t++#[x,y]) (upx D j ⟨⟨7,0,0⟩,some T,fun _=>False,kb,.tuple #[]⟩) 0 none:=by
 have hL:=H.L0;obtain ⟨hk1,hk2,hk3⟩:=h.cur kb rfl;have hm:∀ op∈#[x,y],op=x∨op=y:=by intro op hop;simpa using hop
 have hst:∀ op∈#[x,y],op.act≠.mark .disable∧op.act≠.mark .enable:=by
  intro op hop;rcases hm op hop with rfl | rfl
  · rw [hx.2];exact ⟨by simp,by simp⟩
  · rw [hy.2];exact ⟨by simp,by simp⟩
 have hnt:∀ op∈#[x,y],op.act.touch? = none:=by
  intro op hop;rcases hm op hop with rfl | rfl
  · rw [hx.2];rfl
  · rw [hy.2];rfl
 have hgeo:Geom c.S c.K c.Wg c.C c.B1 w.heap.size (j+1) (upx D j ⟨⟨7,0,0⟩,some T,fun _=>False,kb,.tuple #[]⟩):=by
  have hg:=h.geo;refine ⟨hg.hS,hg.hK,hg.hC,hg.hW,hg.hCW,hg.hB,fun a ha b hb=>?_,fun a ha=>?_,fun a a' ha ha' e b hb hb'=>?_,fun a a' ha ha' b hb=>?_⟩
  · by_cases e:a=j
    · subst e;rw [upx_same] at hb;exact hb.elim
    · rw [upx_ne D _ e] at hb;exact hg.M a (by omega) b hb
  · by_cases e:a=j
    · subst e;rw [upx_same];exact ⟨hk1,hk2⟩
    · rw [upx_ne D _ e];exact hg.kb a (by omega)
  · by_cases e1:a=j
    · subst e1;rw [upx_same] at hb;exact hb.elim
    · rw [upx_ne D _ e1] at hb
      by_cases e2:a'=j
      · subst e2;rw [upx_same] at hb';exact hb'.elim
      · rw [upx_ne D _ e2] at hb'
        exact hg.MM a a' (by omega) (by omega) e b hb hb'
  · by_cases e1:a=j
    · subst e1;rw [upx_same] at hb;exact hb.elim
    · rw [upx_ne D _ e1] at hb
      by_cases e2:a'=j
      · subst e2;rw [upx_same];exact fun e=>(hk3 a (by omega)).1 (show (D a).M kb from (show b=kb from e) ▸ hb)
      · rw [upx_ne D _ e2]
        exact hg.Mk a a' (by omega) (by omega) b hb
 have hgx:∀ op∈#[x,y],op.g=0∨op.g=c.L0+j:=by
  intro op hop;rcases hm op hop with rfl | rfl
  · exact .inl hx.1
  · exact .inr hy.1
 have eu:t++#[x,y]=(t++#[x])++#[y]:=by apply Array.ext';simp
 have hx1:∀ op∈#[x],op.g=0:=by intro op hop;simp at hop;rw [hop];exact hx.1
 have hy1:∀ op∈#[y],op.g=c.L0+j:=by intro op hop;simp at hop;rw [hop];exact hy.1
 refine ⟨by simp [h.size,Nat.add_assoc],fun i' z h0 hlt hz=>?_,fun i' hi'=>?_, ?_,norel_app h.norel fun op hop=>?_,by have:=h.tB;simp;omega,by rw [Deaf_still t 0 _ hst,h.deaf0],fun i' hi'=>?_,fun i' hi' hs=>?_,fun i' hi' hs=>?_,h.pay,
  by rw [eu];exact known_app (known_app h.known hx1 (.inl rfl)) hy1 (.inr (.inl (by omega))),by rw [eu];exact over_app (over_app h.over hx1 (.inl rfl)) hy1 (.inr (.inl (by omega))),seen_app h.seen (Nat.le_refl _) fun op hop x hx=>(by rw [hnt op hop] at hx;cases hx),
  hgeo,fun b hb=>(by cases hb),h.keep,h.tape,h.os,h.output⟩
 · rw [Array.getElem?_push_lt (by simp [h.size];omega),← Array.getElem?_eq_getElem,Array.getElem?_setIfInBounds_ne (by omega)] at hz
   rw [Deaf_still t _ _ hst];exact h.old i' z h0 hlt hz
 · rcases Nat.lt_or_ge i' j with hlt | hge
   · obtain ⟨g,hg,hsg⟩:=h.wk i' hlt
     refine ⟨g, ?_,by rw [upx_ne D _ (by omega)];exact hsg⟩;rw [Array.getElem?_push_lt (by simp [h.size];omega),← Array.getElem?_eq_getElem,Array.getElem?_setIfInBounds_ne (by omega)];exact hg
   · obtain rfl:i'=j:=by omega
     refine ⟨child, ?_,by rw [upx_same];exact .work hc⟩;rw [show c.L0+i'=(gs.setIfInBounds 0 a').size by simp [h.size],Array.getElem?_push_size]
 · -- the trace's law
   have hfam:CT (ShW c.S c.Wg) (OwnF c.C c.L0 (j+1) (upx D j ⟨⟨7,0,0⟩,some T,fun _=>False,kb,.tuple #[]⟩)) (RdF c.L0 (j+1) c.K (upx D j ⟨⟨7,0,0⟩,some T,fun _=>False,kb,.tuple #[]⟩)) t (c.L0+j - 1):=by
    refine CT.fam h.ct (fun k _ hk l=>⟨?_, ?_⟩) (fun k _ hk l=>⟨?_, ?_⟩)
    · rintro ⟨a,e,ha,hl⟩
      exact ⟨a,e,by omega,by rw [upx_ne D _ (by omega)];exact hl⟩
    · rintro ⟨a,e,ha,hl⟩
      have:a<j:=by omega
      exact ⟨a,e,this,by rw [upx_ne D _ (by omega)] at hl;exact hl⟩
    · rintro ⟨a,e,ha,hl⟩
      exact ⟨a,e,by omega,by rw [upx_ne D _ (by omega)];exact hl⟩
    · rintro ⟨a,e,ha,hl⟩
      have:a<j:=by omega
      exact ⟨a,e,this,by rw [upx_ne D _ (by omega)] at hl;exact hl⟩
   have e1:c.L0+(j+1) - 1=c.L0+j - 1+1:=by omega
   rw [e1];exact hfam.fork (hgeo.apart (L0:=c.L0)) ⟨hx.1,by rw [hx.2,show c.L0+j - 1+1=c.L0+j by omega]⟩ ⟨by rw [hy.1];omega,hy.2⟩ h.deaf0
 · rcases hm op hop with rfl | rfl
   · rw [hx.2];simp
   · rw [hy.2];simp
 · rw [Deaf_still t _ _ hst]
   rcases Nat.lt_or_ge i' j with hlt | hge
   · rw [h.deafW i' hlt,upx_ne D _ (by omega)]
   · obtain rfl:i'=j:=by omega
     rw [upx_same];exact Deaf_absent fun a op ha e=>by have:=h.ct.gs a op ha;omega
 · rcases Nat.lt_or_ge i' j with hlt | hge
   · rw [upx_ne D _ (by omega)] at hs
     obtain ⟨r,hr⟩:=h.rel i' hlt hs;exact ⟨r,hr.appNot fun op hop=>by rcases hgx op hop with e | e <;> rw [e] <;> omega⟩
   · obtain rfl:i'=j:=by omega
     rw [upx_same] at hs;simp at hs
 · rcases Nat.lt_or_ge i' j with hlt | hge
   · rw [upx_ne D _ (by omega)] at hs ⊢
     exact h.has i' hlt hs
   · obtain rfl:i'=j:=by omega
     rw [upx_same] at hs;simp at hs
end
open Go Go.Conc
open Go.ConcN hiding EvL Inv Fin
open Go.ConcR (KK wgBlock WgAt stA smA rd wr mk Payload Aside2 DC0 Bk g_of_ofEvents bk_of_mute ofEvent_loc_mark ofEvent_cell)
def Cst.See (c:Cst) (cur:Option Nat):Nat→Prop:=fun b=>(b<c.B1∧b≠c.C∧b≠c.Wg∧¬ c.S b)∨cur=some b
structure Cst.RS (c:Cst) (cur:Option Nat) (w w₁:World):Prop where
 tape:w₁.tape=w.tape
 os:w₁.os=w.os
 output:w₁.output=w.output
 size:w.heap.size≤w₁.heap.size
 known:∀ b,(b<c.B1∧b≠c.C∧b≠c.Wg)∨cur=some b→w₁.heap[b]? = w.heap[b]?
 live:WgLive c.ty c.Wg w→WgLive c.ty c.Wg w₁
def Cst.EvS (c:Cst) (cur:Option Nat) (e:Event):Prop :=
 (∀ x,(MemAct.ofEvent e).touch? = some x→(InB (·=c.Wg) x.loc∧x.kind≠.plain)∨(InB (c.See cur) x.loc∧(x.write=true→InB (fun b=>cur=some b) x.loc)))∧e.loc≠.mark .disable∧e.loc≠.mark .enable∧∀ a,e.loc≠.mark (.release a)
structure Cst.DS (c:Cst) (cur:Option Nat) (w w':World) (es:Array Event):Prop where
 tape:w'.tape=w.tape
 os:w'.os=w.os
 output:w'.output=w.output
 size:w'.heap.size=w.heap.size
 block:∀ b,cur≠some b→w'.heap[b]? = w.heap[b]?
 ev:∀ e∈es,c.EvS cur e
section
variable {c:Cst} {cur:Option Nat} {w w₁ w₂:World}
theorem Cst.RS.refl (w:World):c.RS cur w w:=⟨rfl,rfl,rfl,Nat.le_refl _,fun _ _=>rfl,id⟩
theorem Cst.RS.trans (h:c.RS cur w w₁) (h':c.RS cur w₁ w₂):c.RS cur w w₂ :=
 ⟨h'.tape.trans h.tape,h'.os.trans h.os,h'.output.trans h.output,Nat.le_trans h.size h'.size,fun b hb=>(h'.known b hb).trans (h.known b hb),h'.live ∘ h.live⟩
theorem Cst.DS.nil (w:World):c.DS cur w w #[]:=⟨rfl,rfl,rfl,rfl,fun _ _=>rfl,by simp⟩
end
def Cst.Seg (c:Cst) (cur:Option Nat) (Stop:Goroutine→World→Prop) (g:Goroutine) (w:World):Prop:=∃ m,Goes c.P true (c.RS cur) (c.DS cur) Stop m g w
def Cst.AtM (c:Cst) (e:Event) (N:Goroutine→World→Prop) (g:Goroutine) (w:World):Prop:=g.status=.running∧∃ g',stepG c.P true g w=.go g' w #[e]∧N g' w
def Cst.AtAl (c:Cst) (N:Nat→Goroutine→World→Prop) (g:Goroutine) (w:World):Prop :=
 g.status=.running∧∃ g' o,stepG c.P true g w=.go g' { w with heap:=w.heap.push o } #[]∧N w.heap.size g' { w with heap:=w.heap.push o }
def Cst.AtA1 (c:Cst) (N:Goroutine→World→Prop) (g:Goroutine) (w:World):Prop :=
 g.status=.running∧∀ v:Nat,v<2147483647→WgAt c.ty c.Wg w (v*KK) 0→∃ g',stepG c.P true g w=.go g' (w.setCell (stA c.Wg) (.int .u64 ((v+1)*KK))) #[rd (stA c.Wg),wr (stA c.Wg)]∧N g' (w.setCell (stA c.Wg) (.int .u64 ((v+1)*KK)))
def Cst.AtGo [Payload] (c:Cst) (j kb:Nat) (N:Goroutine→World→Prop) (g:Goroutine) (w:World):Prop :=
 g.status=.running∧∃ g' child,stepG c.P true g w=.spawn g' child w #[]∧(PayAt c.C c.n w→∃ T,c.Work j kb T (fun _=>False) child w)∧N g' w
def Cst.K2 [Payload] (c:Cst) (j kb:Nat) (N:Goroutine→World→Prop):Goroutine→World→Prop:=c.AtM (Go.ConcR.mk .enable) (c.Seg (some kb) (c.AtGo j kb N))
def Cst.K1 [Payload] (c:Cst) (j kb:Nat) (N:Goroutine→World→Prop):Goroutine→World→Prop:=c.AtA1 (c.Seg (some kb) (c.K2 j kb N))
def Cst.K0 [Payload] (c:Cst) (j kb:Nat) (N:Goroutine→World→Prop):Goroutine→World→Prop:=c.AtM (Go.ConcR.mk .disable) (c.Seg (some kb) (c.K1 j kb N))
def Cst.Spw [Payload] (c:Cst) (FinN:Goroutine→World→Prop):Nat→Goroutine→World→Prop
 | 0=>FinN
 | r+1=>c.Seg none (c.AtAl fun kb=>c.Seg (some kb) (c.K0 (c.n - (r+1)) kb (c.Spw FinN r)))
def Cst.Acq (c:Cst) (Ret:Goroutine→World→Prop):Goroutine→World→Prop:=c.AtM (Go.ConcR.mk (.acquire (stA c.Wg))) Ret
def Cst.Ke (c:Cst) (Ret:Goroutine→World→Prop):Goroutine→World→Prop:=c.AtM (Go.ConcR.mk .enable) (c.Seg none (c.Acq Ret))
def Cst.W4 (c:Cst) (Ret:Goroutine→World→Prop) (g:Goroutine) (w:World):Prop :=
 g.status=.running∧(WgAt c.ty c.Wg w 0 0→∃ g',stepG c.P true g w=.go g' w #[rd (stA c.Wg)]∧c.Seg none (c.Ke Ret) g' w)
def Cst.W3 (c:Cst) (Ret:Goroutine→World→Prop) (g:Goroutine) (w:World):Prop :=
 g.status=.running∧g.offers=none∧((∃ st,WgAt c.ty c.Wg w st 0)→stepG c.P true g w=.go { g with status:=.blocked } w #[]) ∧
  (WgAt c.ty c.Wg w 0 1→∃ g',stepG c.P true g w=.go g' (w.setCell (smA c.Wg) (.int .u32 0)) (semEvents (smA c.Wg))∧c.Seg none (c.W4 Ret) g' (w.setCell (smA c.Wg) (.int .u32 0)))
def Cst.W2 (c:Cst) (Anch Ret:Goroutine→World→Prop) (vs:Nat) (g:Goroutine) (w:World):Prop :=
 g.status=.running∧∀ v:Nat,v<2147483648→WgAt c.ty c.Wg w (v*KK) 0 →
  (v=vs→∃ g',stepG c.P true g w=.go g' (w.setCell (stA c.Wg) (.int .u64 (v*KK+1))) #[rd (stA c.Wg),wr (stA c.Wg)]∧c.Seg none (c.W3 Ret) g' (w.setCell (stA c.Wg) (.int .u64 (v*KK+1)))) ∧
  (v≠vs→∃ g',stepG c.P true g w=.go g' w #[rd (stA c.Wg)]∧c.Seg none Anch g' w)
def Cst.W1 (c:Cst) (Anch Ret:Goroutine→World→Prop) (g:Goroutine) (w:World):Prop :=
 g.status=.running∧∀ v:Nat,v<2147483648→WgAt c.ty c.Wg w (v*KK) 0→∃ g',stepG c.P true g w=.go g' w #[rd (stA c.Wg)] ∧
  (v=0→c.Seg none (c.Ke Ret) g' w)∧(v≠0→c.Seg none (c.W2 Anch Ret v) g' w)
def Cst.Fin (c:Cst) (Anch:Goroutine→World→Prop):Goroutine→World→Prop:=c.Seg none (c.AtM (Go.ConcR.mk .disable) (c.Seg none Anch))
section
variable (c:Cst) (Anch Ret:Goroutine→World→Prop)
inductive Cst.SS [Payload]:CTag→Option Nat→Nat→Nat→Nat→Goroutine→World→Prop
 | al {r m:Nat} {g:Goroutine} {w:World}:r<c.n→(Goes c.P true (c.RS none) (c.DS none)) (c.AtAl fun kb=>c.Seg (some kb) (c.K0 (c.n - (r+1)) kb (c.Spw (c.Fin Anch) r))) m g w→Cst.SS (.sp r 6) none (c.n - (r+1)) m 0 g w
 | skd {r kb m:Nat} {g:Goroutine} {w:World}:r<c.n→(Goes c.P true (c.RS (some kb)) (c.DS (some kb))) (c.K0 (c.n - (r+1)) kb (c.Spw (c.Fin Anch) r)) m g w→Cst.SS (.sp r 5) (some kb) (c.n - (r+1)) m 0 g w
 | sa1 {r kb m:Nat} {g:Goroutine} {w:World}:r<c.n→(Goes c.P true (c.RS (some kb)) (c.DS (some kb))) (c.K1 (c.n - (r+1)) kb (c.Spw (c.Fin Anch) r)) m g w→Cst.SS (.sp r 4) (some kb) (c.n - (r+1)) m 1 g w
 | ske {r kb m:Nat} {g:Goroutine} {w:World}:r<c.n→(Goes c.P true (c.RS (some kb)) (c.DS (some kb))) (c.K2 (c.n - (r+1)) kb (c.Spw (c.Fin Anch) r)) m g w→Cst.SS (.sp r 3) (some kb) (c.n - (r+1)) m 1 g w
 | sgo {r kb m:Nat} {g:Goroutine} {w:World}:r<c.n→(Goes c.P true (c.RS (some kb)) (c.DS (some kb))) (c.AtGo (c.n - (r+1)) kb (c.Spw (c.Fin Anch) r)) m g w→Cst.SS (.sp r 2) (some kb) (c.n - (r+1)) m 0 g w
 | kd {m:Nat} {g:Goroutine} {w:World}:(Goes c.P true (c.RS none) (c.DS none)) (c.AtM (Go.ConcR.mk .disable) (c.Seg none Anch)) m g w→Cst.SS .kd none c.n m 0 g w
 | anch {m:Nat} {g:Goroutine} {w:World}:(Goes c.P true (c.RS none) (c.DS none)) Anch m g w→Cst.SS .anch none c.n m 1 g w
 | w1 {m:Nat} {g:Goroutine} {w:World}:(Goes c.P true (c.RS none) (c.DS none)) (c.W1 Anch Ret) m g w→Cst.SS .w1 none c.n m 1 g w
 | w2 {vs m:Nat} {g:Goroutine} {w:World}:(Goes c.P true (c.RS none) (c.DS none)) (c.W2 Anch Ret vs) m g w→Cst.SS (.w2 vs) none c.n m 1 g w
 | w3 {m:Nat} {g:Goroutine} {w:World}:(Goes c.P true (c.RS none) (c.DS none)) (c.W3 Ret) m g w→Cst.SS .w3 none c.n (m+1) 1 g w
 | blk {g:Goroutine} {w:World}:(∀ w₁,c.RS none w w₁→c.W3 Ret g w₁)→Cst.SS .blk none c.n 0 1 { g with status:=.blocked } w
 | w4 {m:Nat} {g:Goroutine} {w:World}:(Goes c.P true (c.RS none) (c.DS none)) (c.W4 Ret) m g w→Cst.SS .w4 none c.n m 1 g w
 | ke {m:Nat} {g:Goroutine} {w:World}:(Goes c.P true (c.RS none) (c.DS none)) (c.Ke Ret) m g w→Cst.SS .ke none c.n m 1 g w
 | acq {m:Nat} {g:Goroutine} {w:World}:(Goes c.P true (c.RS none) (c.DS none)) (c.Acq Ret) m g w→Cst.SS .acq none c.n m 0 g w
end
section
variable {c:Cst} {Anch Ret:Goroutine→World→Prop} {tag:CTag} {cur:Option Nat} {j f d:Nat} {a:Goroutine} {w w':World}
theorem Cst.SS.rely [Payload] (h:c.SS Anch Ret tag cur j f d a w) (hr:c.RS cur w w'):c.SS Anch Ret tag cur j f d a w':=by
 have tr:∀ cur x y z,c.RS cur x y→c.RS cur y z→c.RS cur x z:=fun _ _ _ _ h1 h2=>h1.trans h2
 cases h with
 | al hn h=>exact .al hn (Goes.rely (tr _) h hr)
 | skd hn h=>exact .skd hn (Goes.rely (tr _) h hr)
 | sa1 hn h=>exact .sa1 hn (Goes.rely (tr _) h hr)
 | ske hn h=>exact .ske hn (Goes.rely (tr _) h hr)
 | sgo hn h=>exact .sgo hn (Goes.rely (tr _) h hr)
 | kd h=>exact .kd (Goes.rely (tr _) h hr)
 | anch h=>exact .anch (Goes.rely (tr _) h hr)
 | w1 h=>exact .w1 (Goes.rely (tr _) h hr)
 | w2 h=>exact .w2 (Goes.rely (tr _) h hr)
 | w3 h=>exact .w3 (Goes.rely (tr _) h hr)
 | blk h=>exact .blk (fun w₂ h₂=>h w₂ (hr.trans h₂))
 | w4 h=>exact .w4 (Goes.rely (tr _) h hr)
 | ke h=>exact .ke (Goes.rely (tr _) h hr)
 | acq h=>exact .acq (Goes.rely (tr _) h hr)
theorem Cst.SS.status [Payload] (hAr:∀ g w,Anch g w→g.status=.running) (h:c.SS Anch Ret tag cur j f d a w):(a.status=.running∧tag≠.blk)∨(a.status=.blocked∧tag=.blk):=by
 cases h with
 | al _ h=>exact .inl ⟨Goes.running (fun _ _ x=>x.1) w (.refl w) h,by simp⟩
 | skd _ h=>exact .inl ⟨Goes.running (fun _ _ x=>x.1) w (.refl w) h,by simp⟩
 | sa1 _ h=>exact .inl ⟨Goes.running (fun _ _ x=>x.1) w (.refl w) h,by simp⟩
 | ske _ h=>exact .inl ⟨Goes.running (fun _ _ x=>x.1) w (.refl w) h,by simp⟩
 | sgo _ h=>exact .inl ⟨Goes.running (fun _ _ x=>x.1) w (.refl w) h,by simp⟩
 | kd h=>exact .inl ⟨Goes.running (fun _ _ x=>x.1) w (.refl w) h,by simp⟩
 | anch h=>exact .inl ⟨Goes.running hAr w (.refl w) h,by simp⟩
 | w1 h=>exact .inl ⟨Goes.running (fun _ _ x=>x.1) w (.refl w) h,by simp⟩
 | w2 h=>exact .inl ⟨Goes.running (fun _ _ x=>x.1) w (.refl w) h,by simp⟩
 | w3 h=>exact .inl ⟨Goes.running (fun _ _ x=>x.1) w (.refl w) h,by simp⟩
 | blk h=>exact .inr ⟨rfl,rfl⟩
 | w4 h=>exact .inl ⟨Goes.running (fun _ _ x=>x.1) w (.refl w) h,by simp⟩
 | ke h=>exact .inl ⟨Goes.running (fun _ _ x=>x.1) w (.refl w) h,by simp⟩
 | acq h=>exact .inl ⟨Goes.running (fun _ _ x=>x.1) w (.refl w) h,by simp⟩
theorem Cst.SS.wokenBy [Payload] (hAr:∀ g w,Anch g w→g.status=.running) (h:c.SS Anch Ret tag cur j f d a w) (hr:c.RS cur w w') (g g':Goroutine) :
  ∃ tag' f',c.SS Anch Ret tag' cur j f' d (woken c.P g g' w' a) w'∧f'≤f+1∧(tag'=tag∨(tag=.blk∧tag'=.w3))∧(mayWake c.P g=true→g'.status=.running→tag'≠.blk):=by
 have h':=h.rely hr;unfold Go.Conc.woken;split
 · rcases h'.status hAr with ⟨hs,hne⟩ | ⟨_,rfl⟩
   · exact ⟨tag,f,by rw [again_running _ (.inl hs)];exact h',by omega,.inl rfl,fun _ _=>hne⟩
   · cases h' with
     | blk hb =>
       rename_i g0
       have h3:=hb w' (.refl w');exact ⟨.w3,0+1,by rw [Go.ConcR.again_blocked h3.1 h3.2.1];exact .w3 (Goes.stop hb),by omega,.inr ⟨rfl,rfl⟩,fun _ _=>by simp⟩
 · rename_i hc
   exact ⟨tag,f,h',by omega,.inl rfl,fun h1 h2=>absurd (by simp [h1,h2]) hc⟩
theorem Cst.SS.bound [Payload] (h:c.SS Anch Ret tag cur j f d a w):j+pend tag≤c.n:=by
 cases h <;> simp only [pend] <;> (try simp) <;> omega
end
def dD (D:Nat→WX):Nat→WD:=fun i=>(D i).d
def Cst.mu (c:Cst) (q:Nat→Nat) (j:Nat) (D:Nat→WX) (tag:CTag) (f0:Nat):Mu:=(phi c.n (Vc j (dD D)) tag+Ssum j (dD D),lst j (fun i=>(D i).T),f0+2*(Fsum j (dD D)+sumTo c.L0 q))
def Cst.Inv [Payload] (c:Cst) (Anch Ret:Goroutine→World→Prop) (μ:Mu) (m:Machine) (t:Trace):Prop :=
 ∃ (gs:Array Goroutine) (w:World) (sl:Option (Nat × Nat)) (q:Nat→Nat) (j:Nat) (D:Nat→WX) (tag:CTag) (cur:Option Nat) (f0 d0:Nat) (a:Goroutine) (st sm:Int),
  m=crowd gs w sl∧gs[0]? = some a∧c.SS Anch Ret tag cur j f0 d0 a w∧c.PC q j gs w t D d0 cur∧WgAt c.ty c.Wg w st sm∧Go.ConcN.Mode j (dD D) tag st sm∧μ=c.mu q j D tag f0
section
variable {c:Cst} {Anch Ret:Goroutine→World→Prop} {q:Nat→Nat} {gs:Array Goroutine} {w w':World} {sl:Option (Nat × Nat)} {j i:Nat} {D:Nat→WX} {tag:CTag} {cur:Option Nat} {f0 d0:Nat} {a:Goroutine} {t:Trace} {st sm st' sm':Int}
theorem Cst.PC.rs [Payload] (h:c.PC q j gs w t D d0 cur) {X Y:Nat→Prop} (hch:Chg c.ty c.Wg c.C c.n X Y w w') (hX:∀ b,X b→c.B1≤b∧cur≠some b):c.RS cur w w':=by
 refine ⟨hch.tape,hch.os,hch.output,hch.size,fun b hb=>?_,hch.live⟩;have hB:=h.geo.hB;have hC:=h.geo.hC;have hW:=h.geo.hW;rcases hb with ⟨h1,h2,h3⟩ | h1
 · exact hch.block b (by omega) (fun hx=>by have:=hX b hx;omega) h2 h3
 · have:=h.cur b h1
   exact hch.block b this.2.1 (fun hx=>(hX b hx).2 h1) (by omega) (by omega)
theorem workerTurn [Payload] (H:c.Ok) (hAr:∀ g w,Anch g w→g.status=.running) (ha:gs[0]? = some a) (hss:c.SS Anch Ret tag cur j f0 d0 a w) (hpc:c.PC q j gs w t D d0 cur) (hi:i<j)
  {g g':Goroutine} {es:Array Event} {x':WX} (hg:gs[c.L0+i]? = some g) (hgo:stepG c.P false g w=.go g' w' es) (hch:Chg c.ty c.Wg c.C c.n (D i).M (·=i) w w')
  (hk:x'.kb=(D i).kb) (hM1:∀ b,(D i).M b→x'.M b) (hM2:∀ b,x'.M b→(D i).M b∨(w.heap.size≤b∧b<w'.heap.size)) (hs':c.WkS i x' g' w')
  (hok:∀ op∈MemOp.ofEvents (c.L0+i) g.frame.fn g.frame.place es,OkW (ShW c.S c.Wg) (OwnF c.C c.L0 j (upx D i x')) (RdF c.L0 j c.K D) (c.L0+i) op) (hnr:∀ e∈es,e.loc≠.mark (.release (stA c.Wg)))
  (hdeaf:deafBehind (D i).d.deaf es=x'.d.deaf) (hrel:x'.d.stage≤6→∃ r,RelK c.Wg c.tB (t++MemOp.ofEvents (c.L0+i) g.frame.fn g.frame.place es) (c.L0+i) r) (hhas:x'.d.stage≤6→Has c.C i x'.v w')
  (hlow:∀ e∈es,∀ x,(MemAct.ofEvent e).touch? = some x→InB (·<w'.heap.size) x.loc) (hwg:WgAt c.ty c.Wg w' st' sm')
  (hmode:∀ tag',(tag'=tag∨(tag=.blk∧tag'=.w3))→(mayWake c.P g=true→g'.status=.running→tag'≠.blk)→Go.ConcN.Mode j (upd (dD D) i x'.d) tag' st' sm')
  (hlt:(x'.d.stage<(D i).d.stage∧cnt x'.d≤cnt (D i).d)∨(x'.d.stage=(D i).d.stage∧(TrLt x'.T (D i).T∨(x'.T=(D i).T∧x'.d.fuel+1=(D i).d.fuel)))) :
  ∃ m₁ ops μ',runT c.P (crowd gs w sl) (c.L0+i)=(.next m₁,ops)∧Mu.lt μ' (c.mu q j D tag f0)∧c.Inv Anch Ret μ' m₁ (t++ops):=by
 have hL:=H.L0;obtain ⟨tag',f',hss',hf',htag,hwk⟩:=hss.wokenBy hAr (hpc.rs hch fun b hb=>⟨(hpc.geo.M i hi b hb).1,fun e=>((hpc.cur b e).2.2 i hi).1 hb⟩) g g';have hrun:=runT_crowd_go (P:=c.P) (sl:=sl) (i:=c.L0+i) hg (by rw [show (c.L0+i==0)=false by simp;omega];exact hgo);have e1:=sumTo_upd (dD D) x'.d cnt hi;have e2:=sumTo_upd (dD D) x'.d WD.stage hi;have e3:=sumTo_upd (dD D) x'.d WD.fuel hi;have eD:dD (upx D i x')=upd (dD D) i x'.d:=upx_d D i x';refine ⟨_,_,c.mu q j (upx D i x') tag' f',hrun, ?_,_,w',sl,q,j,upx D i x',tag',cur,f',d0,woken c.P g g' w' a,st',sm',rfl,by rw [get_map_set _ _ _ _ (by omega),ha];rfl,hss',
  hpc.worker H hi hch hk hM1 hM2 hs' hok hnr hdeaf hrel hhas hlow,hwg,by rw [eD];exact hmode tag' htag hwk,rfl⟩
 unfold Cst.mu;rw [eD,phi_retag c.n _ htag];simp only [Vc,Ssum,Fsum] at *
 rcases hlt with ⟨h1,h2⟩ | ⟨h1,h2⟩
 · refine Mu.lt1 ?_
   have hc2:cnt x'.d≤cnt (dD D i):=h2;have hs2:x'.d.stage<(dD D i).stage:=h1;have:=phi_mono c.n (v':=sumTo j fun a=>cnt (upd (dD D) i x'.d a)) (v:=sumTo j fun a=>cnt (dD D a)) (by omega) tag;omega
 · have hs2:x'.d.stage=(dD D i).stage:=h1
   have ec:cnt x'.d=cnt (dD D i):=by simp only [cnt,hs2]
   have ev:(sumTo j fun a=>cnt (upd (dD D) i x'.d a))=sumTo j fun a=>cnt (dD D a):=by omega
   have es':(sumTo j fun a=>(upd (dD D) i x'.d a).stage)=sumTo j fun a=>(dD D a).stage:=by omega
   rw [ev,es'];rcases h2 with h2 | ⟨h2,h3⟩
   · refine Mu.lt2 (lst_lt (i:=i) hi ?_ fun i' hi'=>?_)
     · rw [upx_same];exact h2
     · rw [upx_ne D _ hi']
   · have el:lst j (fun a=>(upx D i x' a).T)=lst j fun a=>(D a).T:=lst_congr fun a _=>by
      by_cases e:a=i
      · subst e;rw [upx_same];exact h2
      · rw [upx_ne D _ e]
     rw [el];refine Mu.lt3 ?_;have hfu:x'.d.fuel+1=(dD D i).fuel:=h3;omega
end
end Go.Pt
