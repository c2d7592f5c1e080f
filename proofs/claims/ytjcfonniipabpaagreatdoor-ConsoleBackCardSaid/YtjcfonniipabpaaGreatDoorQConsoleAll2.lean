/- Texts of ours, joined: VmCall, VmEval, VmExec, VmLift, VmOne, VmFrame, VmSym, VmGhost, VmRule, VmCtr, VmBrw, Plain0, Great. -/
import Derived.Test.YtjcfonniipabpaaGreatDoorQConsoleAll1
import Derived.ProofKit
import Derived.OpenShut
import Derived.ShutString
import Derived.ChangeOld
import Derived.Lib.SmallJoins
import Derived.Test.YtjcfonniipabpaaGreatDoorChecked
import Derived.KernelRfl
import GoSem.ClaimJoined
import GoSem.ClaimDataLaid
open List renaming all_eq_true → aOg,getElem?_eq_some_iff → aOh,mem_range'_1 → aOi,getElem?_append_left → aOj,getElem?_eq_getElem → aOk,range' → aOl,getElem?_append_right → aOn,getElem?_cons_succ → aOo,mem_of_getElem? → aOp,eq_nil_of_length_eq_zero → aOq,getElem?_cons_zero → aOt,take_of_length_le → aOw,nodup_cons → aOD,prefix_refl → aOF,map_cons → aOI,range → aOK,getElem?_map → aOL,mapM_cons → aOM,mem_iff_getElem? → aON,getElem?_eq_none → aOO,length_take → aOP,length_nil → aOQ,getElem?_drop → aOR,length_append → aOS,replicate → aOU,ext_getElem? → aOV,mem_cons → aOX,map_take → aOY,length_cons → aOZ,drop_eq_nil_of_le → aO0,getElem?_set_ne → aO2,map_drop → aO3,getElem?_inj → aO4,flatMap_cons → aO5,length_drop → aO8,take_prefix → aO9,length → aPe,length_set → aPf,length_map → aPg
open Option.some renaming injEq → aOm
open Option renaming map_some → aOr,map_eq_some_iff → aOv,bind_eq_bind → aOA,bind_some → aOG,pure_def → aOH,bind_eq_some_iff → aOW
open Bool renaming and_eq_true → aOs
open Int renaming toNat_natCast → aOu,natCast_emod → aOx
open Nat renaming eq_of_beq_eq_true → aOy,lt_or_ge → aOz,mod_eq_of_lt → aOB,lt_of_lt_of_le → aOC,le_of_ble_eq_true → aOE,beq → aOT,min_eq_left → aO1,add_comm → aO6,le_total → aO7,min_eq_right → aPa,div_eq_of_lt → aPb,mul_mod_left → aPc,add_mul → aPd,blt → aPi
open Prod.mk renaming injEq → aOJ
open Go.IntKind renaming u8 → aPh
set_option linter.unusedSimpArgs false
set_option linter.unusedVariables false
namespace Go.Vm
open Go
def mE (ag:Bool)(k n:Nat)(cells:List V):List V:=if ag then(aOK n).map fun i=> .agg ((cells.drop (i*k)).take k)else cells
def cQ (h:Hp):Nat→V→Option V
 |_,.sc v=>some (.sc v)
 |_,.row nil k es=>some (.row nil k es)
 |0,_=>none
 |d+1,.sl b off n k ag=>match h[b]? with
  |some (some B)=>
   if off+n*k≤B.cells.length∧0<k∧(ag=true∨k=1) then
    (((B.cells.drop off).take (n*k)).mapM (cQ h d)).map fun cells=> .row none k (mE ag k n cells)
   else none
  |_=>none
 |_,_=>none
def qG (h:Hp):V→Option V
 | .agg cs=>(cs.mapM (cQ h 4)).map V.agg
 |x=>cQ h 4 x
def mR (h:Hp):V→Option V
 | .tup vs=>(vs.mapM (qG h)).map V.tup
 |x=>qG h x
theorem nY {α β:Type}{f:α→Option β}: ∀{l:List α}{m:List β},l.mapM f=some m→l.length=m.length∧ ∀(i:Nat)(x:α)(y:β),l[i]? =some x→m[i]? =some y→f x=some y
 | [],m,h=>by simp at h;subst h;simp
 |x::l,m,h=>by
  simp only[aOM,aOA,aOW,aOH,aOm]at h
  obtain⟨y,hy,m',hm,rfl⟩:=h
  obtain⟨h1,h2⟩:=nY hm
  refine⟨by simp[h1],fun i a b ha hb=> ?_⟩
  cases i with
  |zero=>simp at ha hb;subst ha hb;exact hy
  |succ i=>exact h2 i a b (by simpa using ha) (by simpa using hb)
section
variable {A:Nat→Prop}{M:List (Option Nat)}{h:Hp}{w:World}
theorem VR.closed_row {X X':Nat→Prop}{nil:Option Bool}{k:Nat}{es:List V}{v:Value}(hX: ∀g,g<w.heap.size→X' g→X g)(hv:VR X M w (.row nil k es) v):VR X' [] w (.row nil k es) v:=by
 have h1:VR X [] w (.row nil k es) v:=by unfold VR at hv ⊢; exact hv
 exact VR.ext (Ext.refl (fun _=>False) w) (aOF _) (fun _ _ h=>h.elim) hX _ _ h1
theorem tV {X:Nat→Prop}{k:Nat}(hk:0<k): ∀(n:Nat){cells:List V}{vs:List Value}{ad:Addr},cells.length=n*k→VCells X [] w cells vs→LiesAt w ad vs.toArray→
  VRow X [] w k ((aOK n).map fun i=> .agg ((cells.drop (i*k)).take k)) ad
 |0,cells,vs,ad,_,_,_=>by simp only[List.range_zero,List.map_nil];unfold VRow;trivial
 |n+1,cells,vs,ad,hl,hc,hla=>by
  rw[List.range_succ_eq_map,aOI,List.map_map]
  unfold VRow
  have hlen:=hc.len
  have hsz:(vs.take k).length=k:=by rw[aOP,←hlen,hl,aPd];omega
  refine⟨⟨.agg (vs.take k).toArray, ?_,by simpa[Value.cells]using hsz, ?_⟩, ?_⟩
  ·simp only[Nat.zero_mul,List.drop_zero]
   unfold VR
   exact⟨_,rfl,hc.take k⟩
  ·simpa[Value.cells]using hla.take k
  have:=tV hk n (cells:=cells.drop k) (vs:=vs.drop k) (ad:=ad.add k) (by simp[hl,aPd]) (hc.drop k) (hla.drop k)
  have e:(aOK n).map ((fun i=>V.agg ((cells.drop (i*k)).take k))∘Nat.succ)=(aOK n).map fun i=>V.agg (((cells.drop k).drop (i*k)).take k):=by
   apply List.map_congr_left
   intro i _
   simp only[Function.comp,List.drop_drop]
   rw[show k+i*k=(i+1)*k by rw[aPd,Nat.one_mul,aO6]]
  rw[e]
  exact this
theorem aDL {d:Nat}{x y:V}(hy:cQ h d x=some y)(hx:x.one=true):y.one=true:=by
 cases d<;>cases x<;>simp only[cQ]at hy<;>first
  |(injection hy with hy;subst hy;exact hx)
  |cases hy
  |(
   split at hy
   ·split at hy
    ·simp only[aOv]at hy;obtain⟨_,_,rfl⟩:=hy;rfl
    cases hy
   cases hy)
theorem qX (H:HR A M h w): ∀(d:Nat){x y:V}{v:Value},VR (Xs A M h) M w x v→cQ h d x=some y→VR A [] w y v
 |d,.sc c,y,v,hx,hy=>by
  have:y= .sc c:=by cases d<;>simp only[cQ]at hy<;>injection hy with hy<;>exact hy.symm
  subst this;unfold VR at hx ⊢; exact hx
 |d,.row nil k es,y,v,hx,hy=>by
  have:y= .row nil k es:=by cases d<;>simp only[cQ]at hy<;>injection hy with hy<;>exact hy.symm
  subst this;exact hx.closed_row (fun _ _ ha=> .inl ha)
 |0,.sl b off n k ag,y,v,hx,hy=>by simp only[cQ]at hy;cases hy
 |d,.agg cs,y,v,hx,hy=>by cases d<;>simp only[cQ]at hy<;>cases hy
 |d,.tup cs,y,v,hx,hy=>by cases d<;>simp only[cQ]at hy<;>cases hy
 |d,.ptr b off,y,v,hx,hy=>by cases d<;>simp only[cQ]at hy<;>cases hy
 |d,.eptr es i off,y,v,hx,hy=>by cases d<;>simp only[cQ]at hy<;>cases hy
 |d,.mp b,y,v,hx,hy=>by cases d<;>simp only[cQ]at hy<;>cases hy
 |d,.any,y,v,hx,hy=>by cases d<;>simp only[cQ]at hy<;>cases hy
 |d+1,.sl b off n k ag,y,v,hx,hy=>by
  simp only[cQ]at hy
  split at hy
  ·rename_i B hb
   split at hy
   ·rename_i hc
    obtain⟨hoff,hk,hag⟩:=hc
    simp only[Option.map_eq_some_iff]at hy
    obtain⟨cells,hm,rfl⟩:=hy
    obtain⟨hl,hget⟩:=nY hm
    have hB1:=(H.blk b B hb).1
    have hlen:cells.length=n*k:=by rw[←hl];simp;omega
    have hone: ∀c∈cells,c.one=true:=by
     intro c hc
     obtain⟨i,hi,rfl⟩:=List.mem_iff_getElem.1 hc
     have hi':i<((B.cells.drop off).take (n*k)).length:=by omega
     have:=hget i _ _ (List.getElem?_eq_getElem hi') (List.getElem?_eq_getElem hi)
     exact aDL this (hB1 _ (List.mem_of_mem_drop (List.mem_of_mem_take (List.getElem_mem hi'))))
    have hok: ∀e∈mE ag k n cells,e.okElem k=true:=by
     intro e he
     unfold mE at he
     split at he
     ·simp only[List.mem_map,List.mem_range]at he
      obtain⟨i,hi,rfl⟩:=he
      have hik:i*k+k≤n*k:=by have:=Nat.mul_le_mul_right k hi;rw[Nat.succ_mul]at this;exact this
      simp only[V.okElem,V.flatOk,V.cells,Bool.and_eq_true,beq_iff_eq,List.all_eq_true]
      refine⟨fun c hc=>hone c (List.mem_of_mem_drop (List.mem_of_mem_take hc)), ?_⟩
      rw[List.length_take,List.length_drop,hlen];omega
     rename_i hag'
     have hk1:k=1:=hag.resolve_left hag'
     have h1:=hone e he
     have:e.cells=[e]:=by cases e<;>first|rfl|simp[V.one]at h1
     simp[V.okElem,V.flatOk,this,h1,hk1]
    have hclen:(mE ag k n cells).length=n:=by
     unfold mE
     split
     ·simp
     rename_i hag'
     rw[hlen,hag.resolve_left hag',Nat.mul_one]
    unfold VR at hx
    rcases hx with⟨hM,rfl,rfl,rfl⟩|⟨g,cap,e,sz,hg,rfl,h1,h2,h3,h4,h5⟩
    ·have:mE ag k 0 cells=[]:=List.eq_nil_of_length_eq_zero hclen
     rw[this]
     unfold VR
     exact⟨none,0,rfl,Nat.le_refl _,fun _=>rfl,(fun b hb=>by cases hb),by simp,fun hne=>absurd rfl hne⟩
    unfold VR
    refine⟨some ⟨g,off,none⟩,cap,by rw[hclen],by rw[hclen];exact h1,fun hh=>(by cases hh),(fun b hb=>by cases hb),hok,fun hne=> ?_⟩
    obtain⟨vs,hvs,hlies⟩:=vO H hb hg h4 off
    have hvs':=hvs.take (n*k)
    have hlies':=hlies.take (n*k)
    have hA: ¬A g:=by
     obtain⟨_,⟨hn,_⟩|⟨g',cs,hg',hA,_⟩⟩:=H.blk b B hb
     ·rw[hg]at hn;cases hn
     rw[hg]at hg';injection hg' with hg';injection hg' with hg';subst hg';exact hA
    have hcv:VCells A [] w cells (vs.take (n*k)):=VCells.mk (by rw[←hl,hvs'.len]) (fun i c v hc hv=>by
     have hi:i<((B.cells.drop off).take (n*k)).length:=by rw[hl];exact(List.getElem?_eq_some_iff.1 hc).1
     have hx:=List.getElem?_eq_getElem hi
     obtain⟨u,hu,hr⟩:=hvs'.get hx
     rw[hv]at hu;injection hu with hu;subst hu
     exact qX H d hr (hget i _ _ hx hc))
    refine⟨⟨g,off,none⟩,rfl,hk,hA,rfl, ?_⟩
    unfold mE
    split
    ·exact tV hk n hlen hcv hlies'
    rename_i hag'
    exact VRow.ofCells (hag.resolve_left hag') hcv hone hlies'
   cases hy
  cases hy
theorem aB7 (H:HR A M h w){cs ds:List V}{vs:List Value}(hc:VCells (Xs A M h) M w cs vs)(hm:cs.mapM (cQ h 4)=some ds):VCells A [] w ds vs:=by
 obtain⟨hl,hget⟩:=nY hm
 refine VCells.mk (by rw[←hl,hc.len]) (fun i c v hd hv=> ?_)
 have hi:i<cs.length:=by rw[hl];exact(aOh.1 hd).1
 obtain⟨u,hu,hr⟩:=hc.get (aOk hi)
 rw[hv]at hu;injection hu with hu;subst hu
 exact qX H 4 hr (hget i _ _ (aOk hi) hd)
theorem sP (H:HR A M h w){x y:V}{v:Value}(hx:VR (Xs A M h) M w x v)(hy:qG h x=some y):VR A [] w y v:=by
 unfold qG at hy
 split at hy
 ·simp only[aOv]at hy
  obtain⟨ds,hd,rfl⟩:=hy
  unfold VR at hx⊢
  obtain⟨vs,rfl,hc⟩:=hx
  exact⟨vs,rfl,aB7 H hc hd⟩
 exact qX H 4 hx hy
theorem q7 (H:HR A M h w){x y:V}{v:Value}(hx:VR (Xs A M h) M w x v)(hy:mR h x=some y):VR A [] w y v:=by
 unfold mR at hy
 split at hy
 ·rename_i xs
  simp only[aOv]at hy
  obtain⟨ds,hd,rfl⟩:=hy
  unfold VR at hx⊢
  obtain⟨vs,rfl,hc⟩:=hx
  refine⟨vs,rfl, ?_⟩
  obtain⟨hl,hget⟩:=nY hd
  refine VCells.mk (by rw[←hl,hc.len]) (fun i c v hd hv=> ?_)
  have hi:i<xs.length:=by rw[hl];exact(aOh.1 hd).1
  obtain⟨u,hu,hr⟩:=hc.get (aOk hi)
  rw[hv]at hu;injection hu with hu;subst hu
  exact sP H hr (hget i _ _ (aOk hi) hd)
 exact sP H hx hy
def PFn (P:Program)(f:FuncId)(args:List V)(r:V):Prop:=
 ∀(A:Nat→Prop)(w:World)(vs:List Value),(∀g,A g→g<w.heap.size)→Globs A w→VCells A [] w args vs→
  Invokes P f vs.toArray w (fun v w'=>Ext (fun _=>False) w w'∧VR A [] w' r v)
theorem Invokes.mono {P:Program}{f:FuncId}{vs:Array Value}{R R':Value→World→Prop}(hh:Invokes P f vs w R)(hR: ∀v w',R v w'→R' v w'):Invokes P f vs w R':=by
 rcases hh with⟨h1,h2⟩|⟨v,w',h1,h2⟩
 ·exact .inl ⟨h1,h2.mono fun e w' ⟨v,he,hr⟩=>⟨v,he,hR _ _ hr⟩⟩
 exact .inr ⟨v,w',h1,hR _ _ h2⟩
theorem uK {A:Nat→Prop}{g:Nat}:Xs A [] [] g↔A g:=⟨fun hx=>hx.elim id (fun⟨b,B,hb,_⟩=>by simp at hb),.inl⟩
theorem VCells.avoid {X X':Nat→Prop}{cs:List V}{vs:List Value}(hX: ∀g,g<w.heap.size→X' g→X g)(hv:VCells X M w cs vs):VCells X' M w cs vs:=
 VCells.ext (Ext.refl (fun _=>False) w) (aOF _) (fun _ _ h=>h.elim) hX _ _ hv
theorem VR.avoid {X X':Nat→Prop}{x:V}{v:Value}(hX: ∀g,g<w.heap.size→X' g→X g)(hv:VR X M w x v):VR X' M w x v:=
 VR.ext (Ext.refl (fun _=>False) w) (aOF _) (fun _ _ h=>h.elim) hX _ _ hv
theorem HR.nil {A:Nat→Prop}(ha: ∀g,A g→g<w.heap.size)(hg:Globs A w):HR A [] [] w:=⟨rfl,ha,by simp,by simp,hg.avoid fun _ _ hx=>uK.1 hx⟩
def vR :V→Bool
 | .sc _=>true
 | .row _ _ []=>true
 |_=>false
def aCv :V→Bool
 | .agg cs=>cs.all vR
 | .tup vs=>vs.all fun x=>match x with
  | .agg cs=>cs.all vR
  |x=>vR x
 |x=>vR x
theorem wQ {X X':Nat→Prop}{x:V}{v:Value}(hx:vR x=true)(hv:VR X M w x v):VR X' M w x v:=by
 unfold vR at hx
 split at hx
 ·unfold VR at hv ⊢; exact hv
 ·unfold VR at hv⊢
  obtain⟨a,cap,h1,h2,h3,h4,h5,h6⟩:=hv
  exact⟨a,cap,h1,h2,h3,h4,h5,fun hne=>absurd rfl hne⟩
 cases hx
theorem aAE {X X':Nat→Prop}{cs:List V}{vs:List Value}(hx:cs.all vR=true)(hv:VCells X M w cs vs):VCells X' M w cs vs:=
 VCells.mk hv.len (fun i c v hc hv'=>by
  obtain⟨u,hu,hr⟩:=hv.get hc
  rw[hv']at hu;injection hu with hu;subst hu
  exact wQ (aOg.1 hx c (aOp hc)) hr)
theorem aFB {X X':Nat→Prop}{x:V}{v:Value}(hx:aCv x=true)(hv:VR X M w x v):VR X' M w x v:=by
 unfold aCv at hx
 split at hx
 ·unfold VR at hv⊢
  obtain⟨vs,h1,h2⟩:=hv
  exact⟨vs,h1,aAE hx h2⟩
 ·unfold VR at hv⊢
  obtain⟨vs,h1,h2⟩:=hv
  refine⟨vs,h1,VCells.mk h2.len (fun i c v hc hv'=> ?_)⟩
  obtain⟨u,hu,hr⟩:=h2.get hc
  rw[hv']at hu;injection hu with hu;subst hu
  have:=aOg.1 hx c (aOp hc)
  split at this
  ·unfold VR at hr⊢
   obtain⟨us,h3,h4⟩:=hr
   exact⟨us,h3,aAE this h4⟩
  exact wQ this hr
 exact wQ hx hv
theorem Grow.none_changed {A:Nat→Prop}{M:List (Option Nat)}{h:Hp}{w w':World}(H:HR A M h w)(hE:Ext (fun _=>False) w w'):Grow A M h w M h w':=by
 have hE':Ext (bN M h) w w':=hE.mono fun _ _ hh=>hh.elim
 refine⟨aOF _,⟨H.len,fun g hg=>aOC (H.alt g hg) hE.size,fun b B hb=> ?_,H.inj,H.glob.grow hE' (fun _ _ hl=>hl)⟩,hE',fun _ _ hl=>hl⟩
 obtain⟨h0,hn|⟨g,cs,h1,h2,h3,h4,h5⟩⟩:=H.blk b B hb
 ·exact⟨h0,.inl hn⟩
 exact⟨h0,.inr ⟨g,cs,h1,h2,h3.to (hE.block g (H.mlt hb h1) id),h4,VCells.ext hE' (aOF _) (fun _ _ hl=> .inr hl) (fun _ _ hx=>hx) _ _ h5⟩⟩
theorem aId {P:Program}{f:FuncId}{xs ys:List V}{r:V}(hp:PFn P f ys r)(hx:xs.mapM (mR h)=some ys)(hr:aCv r=true):Fn P f h xs r h:=by
 intro A M w vs H hargs
 have hargs':VCells A [] w ys vs:=by
  obtain⟨hl,hget⟩:=nY hx
  refine VCells.mk (by rw[←hl,hargs.len]) (fun i c v hd hv=> ?_)
  have hi:i<xs.length:=by rw[hl];exact(aOh.1 hd).1
  obtain⟨u,hu,hr⟩:=hargs.get (aOk hi)
  rw[hv]at hu;injection hu with hu;subst hu
  exact q7 H hr (hget i _ _ (aOk hi) hd)
 refine(hp A w vs H.alt (H.glob.avoid fun _ _ h=> .inl h) hargs').mono fun v w' ⟨hE,hv⟩=>⟨M,Grow.none_changed H hE, ?_⟩
 exact aFB hr hv.lift
def oC :V→Bool
 | .sc _=>true
 | .row _ _ _=>true
 |_=>false
def dA :V→Bool
 | .agg cs=>cs.all oC
 |x=>oC x
theorem zP {X:Nat→Prop}{x:V}{v:Value}(hx:oC x=true)(hv:VR X M w x v):VR X [] w x v:=by
 unfold oC at hx
 split at hx
 ·unfold VR at hv ⊢; exact hv
 ·unfold VR at hv ⊢; exact hv
 cases hx
theorem aD2 {X:Nat→Prop}{x:V}{v:Value}(hx:dA x=true)(hv:VR X M w x v):VR X [] w x v:=by
 unfold dA at hx
 split at hx
 ·unfold VR at hv⊢
  obtain⟨vs,h1,h2⟩:=hv
  refine⟨vs,h1,VCells.mk h2.len (fun i c v hc hv'=> ?_)⟩
  obtain⟨u,hu,hr⟩:=h2.get hc
  rw[hv']at hu;injection hu with hu;subst hu
  exact zP (aOg.1 hx c (aOp hc)) hr
 exact zP hx hv
theorem qQ {P:Program}{f:FuncId}{xs:List V}{r:V}(hp:PFn P f xs r)(hx:xs.all dA=true):Fn P f h xs r h:=by
 intro A M w vs H hargs
 have hargs':VCells (Xs A M h) [] w xs vs:=VCells.mk hargs.len (fun i c v hc hv'=>by
  obtain⟨u,hu,hr⟩:=hargs.get hc
  rw[hv']at hu;injection hu with hu;subst hu
  exact aD2 (aOg.1 hx c (aOp hc)) hr)
 refine(hp (Xs A M h) w vs (fun g hg=>H.lt hg) H.glob hargs').mono fun v w' ⟨hE,hv⟩=>⟨M,Grow.none_changed H hE,hv.lift⟩
end
def OpsTo (P:Program)(O:mC)(ops:Array Oper)(l:List Oper)(s:List V)(h:Hp)(K:List V→Hp→Prop):Prop:= ∃p,nP P O ops l s h=some p∧K p.1 p.2
def Then {α:Type}(o:Option α)(K:α→Prop):Prop:= ∃p,o=some p∧K p
section
variable {P:Program}{O:mC}{ops:Array Oper}{s:List V}{h:Hp}{K:List V→Hp→Prop}
theorem OpsTo.nil (hk:K s h):OpsTo P O ops [] s h K:=⟨(s,h),rfl,hk⟩
theorem OpsTo.cons {o:Oper}{l:List Oper}(hh:Then (bA P O ops o s h) (fun p=>OpsTo P O ops l (c9 s o.dst p.1) p.2 K)):OpsTo P O ops (o::l) s h K:=by
 obtain⟨⟨r,h1⟩,h2,p,h3,h4⟩:=hh
 refine⟨p, ?_,h4⟩
 simp only[nP,a6,h2,aOr,aOG]
 exact h3
theorem AW.rg {Q:Ex→List V→Hp→Prop}(E:Env P){id:Nat}{l:List Oper}{draw:Bool}(hd:draw=true→wM E.F l.toArray=true)(hr:OpsTo P E.O l.toArray l s h (Q .normal)):AW P (.region id l.toArray draw) Q s h:=by
 obtain⟨⟨s',h'⟩,h1,h2⟩:=hr
 exact AW.region E hd (by simpa using h1) h2
end
@[simp] theorem Ex.then_normal (K:List V→Hp→Prop)(Q:Ex→List V→Hp→Prop):Ex.then K Q .normal=K:=rfl
@[simp] theorem Ex.then_ret (K:List V→Hp→Prop)(Q:Ex→List V→Hp→Prop):Ex.then K Q .ret=Q .ret:=rfl
@[simp] theorem Ex.then_exit (K:List V→Hp→Prop)(Q:Ex→List V→Hp→Prop)(id:Nat):Ex.then K Q (.exit id)=Q (.exit id):=rfl
@[simp] theorem Ex.inBlock_normal (Q:Ex→List V→Hp→Prop)(id:Nat):Ex.inBlock id Q .normal=Q .normal:=rfl
@[simp] theorem Ex.inBlock_ret (Q:Ex→List V→Hp→Prop)(id:Nat):Ex.inBlock id Q .ret=Q .ret:=rfl
theorem Then.mk {α:Type}{o:Option α}{K:α→Prop}{p:α}(h1:o=some p)(h2:K p):Then o K:=⟨p,h1,h2⟩
theorem Then.out {α:Type}{o:Option α}{K:α→Prop}(h:Then o K): ∃p,o=some p∧K p:=h
@[simp] theorem aMC {α:Type}(x:α)(K:α→Prop):Then (some x) K↔K x:=⟨fun⟨p,hp,hk⟩=>by injection hp with hp;subst hp;exact hk,fun hk=>⟨x,rfl,hk⟩⟩
@[simp] theorem aNl {α β:Type}(o:Option α)(f:α→β)(K:β→Prop):Then (o.map f) K↔Then o fun x=>K (f x):=by
 constructor
 ·rintro⟨p,hp,hk⟩
  simp only[aOv]at hp
  obtain⟨x,hx,rfl⟩:=hp
  exact⟨x,hx,hk⟩
 rintro⟨x,hx,hk⟩
 exact⟨f x,by rw[hx];rfl,hk⟩
@[simp] theorem aME {α β:Type}(o:Option α)(f:α→Option β)(K:β→Prop):Then (o.bind f) K↔Then o fun x=>Then (f x) K:=by
 constructor
 ·rintro⟨p,hp,hk⟩
  simp only[aOW]at hp
  obtain⟨x,hx,hf⟩:=hp
  exact⟨x,hx,p,hf,hk⟩
 rintro⟨x,hx,p,hf,hk⟩
 exact⟨p,by rw[hx];exact hf,hk⟩
@[simp] theorem aN0 {α:Type}(c:Prop) [Decidable c] (o:Option α) (K:α→Prop):Then (if c then o else none) K↔c∧Then o K:=by
 constructor
 ·rintro⟨p,hp,hk⟩
  split at hp
  ·rename_i hc;exact⟨hc,p,hp,hk⟩
  cases hp
 rintro⟨hc,p,hp,hk⟩
 exact⟨p,by rw[if_pos hc];exact hp,hk⟩
@[simp] theorem aMD {α:Type}(c:Prop) [Decidable c] (o:Option α) (K:α→Prop):Then (if c then none else o) K↔ ¬c∧Then o K:=by
 constructor
 ·rintro⟨p,hp,hk⟩
  split at hp
  ·cases hp
  rename_i hc;exact⟨hc,p,hp,hk⟩
 rintro⟨hc,p,hp,hk⟩
 exact⟨p,by rw[if_neg hc];exact hp,hk⟩
section
variable (P:Program)(t:TypeId)(xo yo:Operand)
@[simp] theorem aIM {α:Type}(a:α):aG P (pure a)=some a:=rfl
@[simp] theorem aIm {α:Type}(a:α):aG P (Sem.pure a)=some a:=rfl
theorem dO (op:BinOp)(k k':IntKind)(a b:Int):eqGuard op t xo yo (.int k a) (.int k' b)=pure ():=by cases op<;>rfl
theorem xD (op:BinOp)(a b:ByteArray):eqGuard op t xo yo (.string a) (.string b)=pure ():=by cases op<;>rfl
@[simp] theorem aEn (k:IntKind)(a b:Int):b4 P .add t xo yo (.sc (.int k a)) (.sc (.int k b))=some (.sc (.int k (k.wrap (a+b)))):=by
 simp[b4,cW,b6,dO,binOp,Op.intArith,pureV];rfl
@[simp] theorem aIz (k:IntKind)(a b:Int):b4 P .sub t xo yo (.sc (.int k a)) (.sc (.int k b))=some (.sc (.int k (k.wrap (a-b)))):=by
 simp[b4,cW,b6,dO,binOp,Op.intArith,pureV];rfl
@[simp] theorem aH6 (k:IntKind)(a b:Int):b4 P .mul t xo yo (.sc (.int k a)) (.sc (.int k b))=some (.sc (.int k (k.wrap (a*b)))):=by
 simp[b4,cW,b6,dO,binOp,Op.intArith,pureV];rfl
@[simp] theorem aIL (k:IntKind)(a b:Int):b4 P .and t xo yo (.sc (.int k a)) (.sc (.int k b))=some (.sc (.int k (bits .and k a b))):=by
 simp[b4,cW,b6,dO,binOp,Op.intBits,pureV];rfl
@[simp] theorem aJu (k:IntKind)(a b:Int):b4 P .or t xo yo (.sc (.int k a)) (.sc (.int k b))=some (.sc (.int k (bits .or k a b))):=by
 simp[b4,cW,b6,dO,binOp,Op.intBits,pureV];rfl
@[simp] theorem aHP (k:IntKind)(a b:Int):b4 P .xor t xo yo (.sc (.int k a)) (.sc (.int k b))=some (.sc (.int k (bits .xor k a b))):=by
 simp[b4,cW,b6,dO,binOp,Op.intBits,pureV];rfl
@[simp] theorem aIt (k:IntKind)(a b:Int):b4 P .eql t xo yo (.sc (.int k a)) (.sc (.int k b))=some (.sc (.bool (a == b))):=by
 simp[b4,cW,b6,dO,binOp,Op.intCmp,pureV];rfl
@[simp] theorem aHM (k:IntKind)(a b:Int):b4 P .neq t xo yo (.sc (.int k a)) (.sc (.int k b))=some (.sc (.bool (a != b))):=by
 simp[b4,cW,b6,dO,binOp,Op.intCmp,pureV];rfl
@[simp] theorem aID (k:IntKind)(a b:Int):b4 P .lss t xo yo (.sc (.int k a)) (.sc (.int k b))=some (.sc (.bool (decide (a<b)))):=by
 simp[b4,cW,b6,dO,binOp,Op.intCmp,pureV];rfl
@[simp] theorem aIA (k:IntKind)(a b:Int):b4 P .leq t xo yo (.sc (.int k a)) (.sc (.int k b))=some (.sc (.bool (decide (a≤b)))):=by
 simp[b4,cW,b6,dO,binOp,Op.intCmp,pureV];rfl
@[simp] theorem aH0 (k:IntKind)(a b:Int):b4 P .gtr t xo yo (.sc (.int k a)) (.sc (.int k b))=some (.sc (.bool (decide (b<a)))):=by
 simp[b4,cW,b6,dO,binOp,Op.intCmp,pureV];rfl
@[simp] theorem aIG (k:IntKind)(a b:Int):b4 P .geq t xo yo (.sc (.int k a)) (.sc (.int k b))=some (.sc (.bool (decide (b≤a)))):=by
 simp[b4,cW,b6,dO,binOp,Op.intCmp,pureV];rfl
@[simp] theorem aII (k:IntKind)(a b:Int):b4 P .quo t xo yo (.sc (.int k a)) (.sc (.int k b))=if b=0 then none else some (.sc (.int k (k.wrap (a.tdiv b)))):=by
 simp only[b4,cW,b6,dO,binOp,Op.intDiv,pureV,ne_eq,not_true,if_false]
 split<;>rfl
@[simp] theorem aHD (k:IntKind)(a b:Int):b4 P .rem t xo yo (.sc (.int k a)) (.sc (.int k b))=if b=0 then none else some (.sc (.int k (a.tmod b))):=by
 simp only[b4,cW,b6,dO,binOp,Op.intDiv,pureV,ne_eq,not_true,if_false]
 split<;>rfl
@[simp] theorem aIv (k k':IntKind)(a b:Int):b4 P .shl t xo yo (.sc (.int k a)) (.sc (.int k' b))=if b<0 then none else some (.sc (.int k (k.wrap (a*2^(min b.toNat k.bits))))):=by
 simp only[b4,cW,b6,dO,binOp,Op.shift,pureV]
 split<;>rfl
@[simp] theorem aIn (k k':IntKind)(a b:Int):b4 P .shr t xo yo (.sc (.int k a)) (.sc (.int k' b))=if b<0 then none else some (.sc (.int k (a.fdiv (2^(min b.toNat k.bits))))):=by
 simp only[b4,cW,b6,dO,binOp,Op.shift,pureV]
 split<;>rfl
@[simp] theorem aJb (b:Bool):unV P .not (.sc (.bool b))=some (.sc (.bool (!b))):=rfl
theorem aDU (h:Hp)(a b:TypeId)(v:Value):jM P h a b (.sc v)=none:=by
 unfold jM
 split
 ·split<;>first|rfl|simp[dY]
 rfl
theorem aHa {h:Hp}{a b:TypeId}{d:TI}{k k':IntKind}{n:Int}(ha: ∃da,aD P a=some da)(hb:aD P b=some d)(hd:d.desc= .int k):oS P h a b (.sc (.int k' n))=some (.sc (.int k (k.wrap n))):=by
 obtain⟨da,ha⟩:=ha
 have h1:=(bF ha).1
 have h2:=(bF hb).1
 rw[hd]at h2
 have e1:underlying a=Sem.program fun p=>match p.underlying a with|some d=>pure d|none=>stuck "no such type" :=rfl
 have e2:underlying b=Sem.program fun p=>match p.underlying b with|some d=>pure d|none=>stuck "no such type" :=rfl
 simp only[oS,aDU,cW,b6,pureV]
 have:aG P (convert a b (.int k' n))=some (.int k (k.wrap n)):=by
  unfold convert
  rw[e1,e2]
  show aG P (Sem.bind (Sem.program _) _)=_
  simp only[Sem.bind,aG,h1]
  show aG P (Sem.bind (Sem.program _) _)=_
  simp only[Sem.bind,aG,h2]
  cases da.desc<;>rfl
 rw[this];rfl
@[simp] theorem aOf :aPh.bits=8:=rfl
@[simp] theorem aNM :IntKind.u16.bits=16:=rfl
@[simp] theorem aNc :IntKind.u32.bits=32:=rfl
@[simp] theorem aNY :IntKind.u64.bits=64:=rfl
@[simp] theorem aN6 :IntKind.i64.bits=64:=rfl
theorem fK {a:Int}(h1: -9223372036854775808≤a)(h2:a≤9223372036854775807):IntKind.i64.wrap a=a:=by rw[IntKind.wrap_i64];omega
theorem wu64 {a:Int}(h1:0≤a)(h2:a≤18446744073709551615):IntKind.u64.wrap a=a:=by rw[IntKind.wrap_u64];omega
theorem wu8 {a:Int}(h1:0≤a)(h2:a≤255):aPh.wrap a=a:=by rw[IntKind.wrap_u8];omega
end
attribute [irreducible] OpsTo Then
end Go.Vm
namespace Go.Vm
open Go Go.ChangeShapes Go.WideShapes Go.ChangeAt Go.RowKit
def mA :Nat→Prop:=fun _=>False
def aFy (l:List UInt8):List V:=l.map fun b=> .sc (.int .u8 b.toNat)
@[simp] theorem aKr (l:List UInt8):(aFy l).length=l.length:=by simp[aFy]
section
variable {H:Type}{enc:TypeId×Value→H}{P:Program}{w:World}{spare:Nat→Bool}{held:Bool}
theorem kR {W W':World}(hlaid:laidOutB P=true)(hb:Below W.heap.size W W'): ∀{ts:List TypeId}{vs:List Value}{ds:List (DataW H)}{p:List MemPlace},
  (∀t∈ts,P.readableRec t=true∧t<P.types.size)→DataW.TrodAll enc P W 0 (fun _=>true) true ts vs ds p→DataW.TrodAll enc P W' 0 (fun b=>decide (b<W.heap.size)) true ts vs ds p
 | [],vs,ds,p,_,h=>by obtain⟨rfl,rfl,rfl⟩:=trodAll_nil h;exact trodAll_mk0
 |t::ts,vs,ds,p,hr,h=>by
  obtain⟨v,vs',d,ds',p',q,rfl,rfl,rfl,h1,h2⟩:=trodAll_cons h
  obtain⟨r1,r2⟩:=hr t (by simp)
  refine trodAll_cons_mk (Below.trod hlaid r1 r2 h1 hb ?_) (kR hlaid hb (fun t ht=>hr t (by simp[ht])) h2)
  obtain⟨m,hm⟩:=h1
  exact DataW.trod_lt m _ _ _ hm
end
theorem oT {P:Program} {f:FuncId} {fn:Func} {c:Code} {args:List V} {vs:List Value} {w:World} (hf:P.funcs[f]? =some fn) (hb:fn.body=some c) (hn:(fn.name == "runtime.NumGoroutine")=false)
  (hp:PFn P f args (.sc (.bool true))) (hGl:Globs mA w) (hv:VCells mA [] w args vs):Calls P f vs.toArray w fun e w'=>e= .returned (.bool true)∧Below w.heap.size w w':=by
 rcases hp mA w vs (fun _ h=>h.elim) hGl hv with⟨_,h⟩|⟨v,w',h,_⟩
 ·refine h.mono fun e w' ⟨v,he,hE,hr⟩=> ?_
  unfold VR at hr
  subst hr
  exact⟨he,hE.below fun _ _ h=>h⟩
 rw[kC hf (by rw[hb];rfl) hn]at h
 cases h
end Go.Vm
namespace Go.Vm
open Go
def Env.zero {P:Program}(hm:P.follows .mixedOrders=true):Env P:=
 {O:=fun _ _ _=>none,F:=fun _=>false,ok:=fun _ _ _ _ _ hh=>(by cases hh),still:=fun _ _ _ _ _ hf=>(by cases hf),mixed:=hm}
open Classical in
noncomputable def Env.one {P:Program}(hm:P.follows .mixedOrders=true){f:FuncId}{h:Hp}{xs:List V}{r:V}{h':Hp}(hc:Fn P f h xs r h')(g:FuncId→Bool)(hg: ∀k,g k=true→h'=h):Env P:=
 {
  O:=fun k h1 xs1=>if k=f∧h1=h∧xs1=xs then some (r,h')else none
  F:=g
  ok:=fun k h1 xs1 r1 h2 hh=>by
   dsimp only at hh
   split at hh
   ·rename_i he
    obtain⟨rfl,rfl,rfl⟩:=he
    simp only[aOm,aOJ]at hh
    obtain⟨rfl,rfl⟩:=hh
    exact hc
   cases hh
  still:=fun k h1 xs1 r1 h2 hk hh=>by
   dsimp only at hh
   split at hh
   ·rename_i he
    simp only[aOm,aOJ]at hh
    rw[←hh.2,he.2.1]
    exact hg k hk
   cases hh
  mixed:=hm}
open Classical in
noncomputable def Env.add {P:Program}(E:Env P){f:FuncId}{h:Hp}{xs:List V}{r:V}{h':Hp}(hc:Fn P f h xs r h')(g:FuncId→Bool)(hg: ∀k,g k=true→h'=h)(hE: ∀k,g k=true→E.F k=true):Env P:=
 {
  O:=fun k h1 xs1=>if k=f then(if h1=h∧xs1=xs then some (r,h')else none)else E.O k h1 xs1
  F:=g
  ok:=fun k h1 xs1 r1 h2 hh=>by
   dsimp only at hh
   split at hh
   ·rename_i he
    subst he
    split at hh
    ·rename_i he
     obtain⟨rfl,rfl⟩:=he
     simp only[aOm,aOJ]at hh
     obtain⟨rfl,rfl⟩:=hh
     exact hc
    cases hh
   exact E.ok k h1 xs1 r1 h2 hh
  still:=fun k h1 xs1 r1 h2 hk hh=>by
   dsimp only at hh
   split at hh
   ·split at hh
    ·rename_i he
     simp only[aOm,aOJ]at hh
     rw[←hh.2,he.1]
     exact hg k hk
    cases hh
   exact E.still k h1 xs1 r1 h2 (hE k hk) hh
  mixed:=E.mixed}
theorem PFn.flat {P:Program}{f:FuncId}{xs ys:List V}{r:V}{h:Hp}(hp:PFn P f ys r)(hx:xs.mapM (mR h)=some ys)(hr:aCv r=true):Fn P f h xs r h:=aId hp hx hr
def Wk :List V→List V→Prop
 | [],[]=>True
 |a::s,b::t=>(b= .any∨a=b)∧Wk s t
 |_,_=>False
theorem Wk.len : ∀{s t:List V},Wk s t→s.length=t.length
 | [],[],_=>rfl
 |a::s,b::t,h=>by simp[Wk.len h.2]
 | [],_::_,h=>h.elim
 |_::_,[],h=>h.elim
theorem Wk.get : ∀{s t:List V},Wk s t→ ∀(i:Nat)(y:V),t[i]? =some y→y= .any∨s[i]? =some y
 | [],[],_,i,y,hy=>by simp at hy
 |a::s,b::t,h,i,y,hy=>by
  cases i with
  |zero=>
   simp at hy;subst hy
   rcases h.1 with h1|h1
   ·exact .inl h1
   exact .inr (by simp[h1])
  |succ i=>exact Wk.get h.2 i y (by simpa using hy)
 | [],_::_,h,_,_,_=>h.elim
 |_::_,[],h,_,_,_=>h.elim
theorem Wk.rel {A:Nat→Prop}{M:List (Option Nat)}{s t:List V}{h:Hp}{a:Act}{w:World}(hw:Wk s t)(R:Rel A M s h a w):Rel A M t h a w:=
 ⟨R.hr,⟨by rw[←hw.len];exact R.sr.len,fun i x hx=>by
  rcases hw.get i x hx with rfl|h1
  ·unfold VR;trivial
  exact R.sr.val i x h1⟩,R.defers⟩
theorem AW.weak {P:Program}{c:Code}{Q:Ex→List V→Hp→Prop}{s t:List V}{h:Hp}(hw:Wk s t)(hh:AW P c Q t h):AW P c Q s h:=fun A M a w R=>hh A M a w (hw.rel R)
section
variable {P:Program}{K:List V→Hp→Prop}{Q:Ex→List V→Hp→Prop}{s:List V}{h:Hp}{id i:Nat}
theorem Ex.then_mk (hk:K s h):Ex.then K Q .normal s h:=hk
theorem Ex.then_exit_mk (hk:Q (.exit i) s h):Ex.then K Q (.exit i) s h:=hk
theorem Ex.then_ret_mk (hk:Q .ret s h):Ex.then K Q .ret s h:=hk
theorem Ex.inBlock_mk (hk:Q .normal s h):Ex.inBlock id Q .normal s h:=hk
theorem Ex.inBlock_ret_mk (hk:Q .ret s h):Ex.inBlock id Q .ret s h:=hk
theorem Ex.inBlock_same_mk (hk:Q .normal s h):Ex.inBlock id Q (.exit id) s h:=by simpa[Ex.inBlock]using hk
theorem Ex.inBlock_other_mk (hi:(i == id)=false)(hk:Q (.exit i) s h):Ex.inBlock id Q (.exit i) s h:=by simp at hi;simpa[Ex.inBlock,hi]using hk
end
mutual
def V.rn (f:Nat→Nat):V→V
 | .ptr b off=> .ptr (f b) off
 | .sl b off n k ag=> .sl (f b) off n k ag
 | .mp b=> .mp (f b)
 | .agg cs=> .agg (V.rns f cs)
 | .tup cs=> .tup (V.rns f cs)
 | .sc v=> .sc v
 | .row nil k es=> .row nil k es
 | .eptr es i off=> .eptr es i off
 | .any=> .any
def V.rns (f:Nat→Nat):List V→List V
 | []=>[]
 |c::cs=>c.rn f::V.rns f cs
end
theorem V.rns_length (f:Nat→Nat): ∀cs:List V,(V.rns f cs).length=cs.length
 | []=>rfl
 |_::cs=>by simp[V.rns,V.rns_length f cs]
theorem V.rns_mem {f:Nat→Nat}{p:V→Bool}(hp: ∀c,p c=true→p (c.rn f)=true): ∀{cs:List V},(∀c∈cs,p c=true)→ ∀c∈V.rns f cs,p c=true
 | [],_,c,hc=>by simp[V.rns]at hc
 |d::cs,h,c,hc=>by
  simp only[V.rns,aOX]at hc
  rcases hc with rfl|hc
  ·exact hp d (h d (by simp))
  exact V.rns_mem hp (fun c hc=>h c (by simp[hc])) c hc
theorem V.rn_one (f:Nat→Nat)(c:V)(h:c.one=true):(c.rn f).one=true:=by
 cases c<;>first|exact h|rfl|(simp[V.one]at h)
theorem V.one_rn (f:Nat→Nat)(c:V)(h:(c.rn f).one=true):c.one=true:=by
 cases c<;>first|exact h|rfl|(simp[V.one,V.rn]at h)
theorem V.one_rns {f:Nat→Nat}: ∀{cs:List V},(∀c∈V.rns f cs,c.one=true)→ ∀c∈cs,c.one=true
 | [],_,c,hc=>by simp at hc
 |d::cs,h,c,hc=>by
  simp only[V.rns,aOX,forall_eq_or_imp]at h
  simp only[aOX]at hc
  rcases hc with rfl|hc
  ·exact V.one_rn f _ h.1
  exact V.one_rns h.2 c hc
section
variable {X:Nat→Prop}{M M':List (Option Nat)}{w:World}{f:Nat→Nat}
mutual
theorem VR.rn_to (hM: ∀b y,M[b]? =some y→M'[f b]? =some y): ∀(x:V)(v:Value),VR X M w x v→VR X M' w (x.rn f) v
 | .sc c,v,h=>by unfold V.rn;unfold VR at h ⊢; exact h
 | .any,v,h=>by unfold V.rn;unfold VR;trivial
 | .row nil k es,v,h=>by unfold V.rn;unfold VR at h ⊢; exact h
 | .eptr es i off,v,h=>by unfold V.rn;unfold VR at h ⊢; exact h
 | .ptr b off,v,h=>by
  unfold V.rn;unfold VR at h⊢
  obtain⟨g,sh,h1,h2⟩:=h
  exact⟨g,sh,hM _ _ h1,h2⟩
 | .mp b,v,h=>by
  unfold V.rn;unfold VR at h⊢
  obtain⟨g,h1,h2⟩:=h
  exact⟨g,hM _ _ h1,h2⟩
 | .sl b off n k ag,v,h=>by
  unfold V.rn;unfold VR at h⊢
  rcases h with⟨h1,h2⟩|⟨g,cap,e,sz,h1,h2⟩
  ·exact .inl ⟨hM _ _ h1,h2⟩
  exact .inr ⟨g,cap,e,sz,hM _ _ h1,h2⟩
 | .agg cs,v,h=>by
  unfold V.rn;unfold VR at h⊢
  obtain⟨vs,h1,h2⟩:=h
  exact⟨vs,h1,VCells.rn_to hM cs vs h2⟩
 | .tup cs,v,h=>by
  unfold V.rn;unfold VR at h⊢
  obtain⟨vs,h1,h2⟩:=h
  exact⟨vs,h1,VCells.rn_to hM cs vs h2⟩
theorem VCells.rn_to (hM: ∀b y,M[b]? =some y→M'[f b]? =some y): ∀(cs:List V)(vs:List Value),VCells X M w cs vs→VCells X M' w (V.rns f cs) vs
 | [],vs,h=>by unfold V.rns;unfold VCells at h ⊢; exact h
 |c::cs,vs,h=>by
  unfold V.rns;unfold VCells at h⊢
  obtain⟨v,rest,h1,h2,h3⟩:=h
  exact⟨v,rest,h1,VR.rn_to hM c v h2,VCells.rn_to hM cs rest h3⟩
end
mutual
theorem VR.rn_from (hM: ∀b y,M'[f b]? =some y→M[b]? =some y): ∀(x:V)(v:Value),VR X M' w (x.rn f) v→VR X M w x v
 | .sc c,v,h=>by unfold V.rn at h;unfold VR at h ⊢; exact h
 | .any,v,h=>by unfold VR;trivial
 | .row nil k es,v,h=>by unfold V.rn at h;unfold VR at h ⊢; exact h
 | .eptr es i off,v,h=>by unfold V.rn at h;unfold VR at h ⊢; exact h
 | .ptr b off,v,h=>by
  unfold V.rn at h;unfold VR at h⊢
  obtain⟨g,sh,h1,h2⟩:=h
  exact⟨g,sh,hM _ _ h1,h2⟩
 | .mp b,v,h=>by
  unfold V.rn at h;unfold VR at h⊢
  obtain⟨g,h1,h2⟩:=h
  exact⟨g,hM _ _ h1,h2⟩
 | .sl b off n k ag,v,h=>by
  unfold V.rn at h;unfold VR at h⊢
  rcases h with⟨h1,h2⟩|⟨g,cap,e,sz,h1,h2⟩
  ·exact .inl ⟨hM _ _ h1,h2⟩
  exact .inr ⟨g,cap,e,sz,hM _ _ h1,h2⟩
 | .agg cs,v,h=>by
  unfold V.rn at h;unfold VR at h⊢
  obtain⟨vs,h1,h2⟩:=h
  exact⟨vs,h1,VCells.rn_from hM cs vs h2⟩
 | .tup cs,v,h=>by
  unfold V.rn at h;unfold VR at h⊢
  obtain⟨vs,h1,h2⟩:=h
  exact⟨vs,h1,VCells.rn_from hM cs vs h2⟩
theorem VCells.rn_from (hM: ∀b y,M'[f b]? =some y→M[b]? =some y): ∀(cs:List V)(vs:List Value),VCells X M' w (V.rns f cs) vs→VCells X M w cs vs
 | [],vs,h=>by unfold V.rns at h;unfold VCells at h ⊢; exact h
 |c::cs,vs,h=>by
  unfold V.rns at h;unfold VCells at h⊢
  obtain⟨v,rest,h1,h2,h3⟩:=h
  exact⟨v,rest,h1,VR.rn_from hM c v h2,VCells.rn_from hM cs rest h3⟩
end
end
def Blk.rn (f:Nat→Nat)(B:Blk):Blk:=⟨B.e,V.rns f B.cells⟩
def kQ (f:Nat→Nat)(h:Hp):Hp:=h.map (Option.map (Blk.rn f))
def sg (ρ:List Nat)(L i:Nat):Nat:=match ρ[i]? with
 |some b=>b
 |none=>L+(i-ρ.length)
def dB :Hp→List Nat→Hp→Hp
 |h,b::ρ,o::os=>dB (h.set b o) ρ os
 |h,_,_=>h
theorem pK : ∀(h:Hp)(ρ:List Nat)(o:Hp),(dB h ρ o).length=h.length
 |h,b::ρ,x::o=>by rw[dB,pK];simp
 |h,[],_=>by simp[dB]
 |h,_::_,[]=>by simp[dB]
theorem pS : ∀{h:Hp}{ρ:List Nat}{o:Hp}{b:Nat},b∉ρ→(dB h ρ o)[b]? =h[b]?
 |h,c::ρ,x::o,b,hb=>by
  simp only[aOX,not_or]at hb
  rw[dB,pS hb.2,aO2 (fun e=>hb.1 e.symm)]
 |h,[],_,b,_=>by simp[dB]
 |h,_::_,[],b,_=>by simp[dB]
theorem uY : ∀{h:Hp}{ρ:List Nat}{o:Hp}{i b:Nat},ρ.Nodup→(∀b∈ρ,b<h.length)→ρ.length≤o.length→ρ[i]? =some b→(dB h ρ o)[b]? =o[i]?
 |h,c::ρ,x::o,0,b,hn,hl,_,hi=>by
  simp only[aOt,aOm]at hi
  subst hi
  have hc:c<h.length:=hl c (by simp)
  rw[dB,pS (aOD.1 hn).1]
  simp[hc]
 |h,c::ρ,x::o,i+1,b,hn,hl,hle,hi=>by
  simp only[aOo]at hi
  rw[dB,uY (aOD.1 hn).2 (fun b hb=>by simpa using hl b (by simp[hb])) (by simpa using hle) hi]
  simp
 |h,[],_,i,b,_,_,_,hi=>by simp at hi
 |h,_::_,[],i,b,_,_,hle,_=>by simp at hle
theorem aBu {f:Nat→Nat}{h:Hp}{i:Nat}:(kQ f h)[i]? =(h[i]?).map (Option.map (Blk.rn f)):=by simp[kQ]
theorem sN {f:Nat→Nat}{h:Hp}{i:Nat}{B:Blk}(hb:(kQ f h)[i]? =some (some B)): ∃C,h[i]? =some (some C)∧B=C.rn f:=by
 rw[aBu]at hb
 cases hi:h[i]? with
 |none=>rw[hi]at hb;cases hb
 |some o=>
  rw[hi]at hb
  cases o with
  |none=>simp at hb
  |some C=>simp at hb;exact⟨C,rfl,hb.symm⟩
def iH (hb:Hp)(ρ:List Nat)(hs':Hp):Hp:=dB hb ρ (kQ (sg ρ hb.length) hs')++(kQ (sg ρ hb.length) hs').drop ρ.length
theorem Fn.frame {P:Program}{f:FuncId}{hs hs' hb:Hp}{args:List V}{r:V}(hc:Fn P f hs args r hs')(ρ:List Nat)(hlen:ρ.length=hs.length)(hnd:ρ.Nodup)(hlt: ∀b∈ρ,b<hb.length)
  (hlend: ∀i b:Nat,ρ[i]? =some b→hb[b]? =(kQ (sg ρ hb.length) hs)[i]?):Fn P f hb (V.rns (sg ρ hb.length) args) (r.rn (sg ρ hb.length)) (iH hb ρ hs'):=by
 intro A M w vs H hargs
 have hσ: ∀i b:Nat,ρ[i]? =some b→sg ρ hb.length i=b:=fun i b hi=>by simp[sg,hi]
 have hσ': ∀i,ρ.length≤i→sg ρ hb.length i=hb.length+(i-ρ.length):=fun i hi=>by simp[sg,hi]
 generalize hsg:sg ρ hb.length=σ at *
 let Ms:List (Option Nat):=ρ.map fun b=>(M[b]?).getD none
 have hMs: ∀i b:Nat,ρ[i]? =some b→Ms[i]? =M[b]? :=by
  intro i b hi
  have hb':b<M.length:=by rw[H.len];exact hlt b (aOp hi)
  simp only[Ms,aOL,hi,aOr]
  rw[aOk hb']
  rfl
 have hMslen:Ms.length=hs.length:=by simp[Ms,hlen]
 have hfrom: ∀b y,M[σ b]? =some y→Ms[b]? =some y:=by
  intro b y hy
  rcases aOz b ρ.length with hl|hl
  ·have hi:ρ[b]? =some ρ[b]:=aOk hl
   rw[hMs b _ hi,←hσ b _ hi];exact hy
  rw[hσ' b hl]at hy
  have:=(aOh.1 hy).1
  rw[H.len]at this;omega
 let A':Nat→Prop:=fun g=>A g∨ ∃b B,b∉ρ∧hb[b]? =some (some B)∧M[b]? =some (some g)
 have hin: ∀{i:Nat}{B:Blk},hs[i]? =some (some B)→ ∃b,ρ[i]? =some b∧hb[b]? =some (some (B.rn σ))∧Ms[i]? =M[b]? :=by
  intro i B hi
  have hl:i<ρ.length:=by rw[hlen];exact(aOh.1 hi).1
  have hr:ρ[i]? =some ρ[i]:=aOk hl
  refine⟨_,hr, ?_,hMs i _ hr⟩
  rw[hlend i _ hr,aBu,hi];rfl
 have hliveS: ∀g,bN Ms hs g→bN M hb g:=by
  rintro g ⟨i,B,hi,hm⟩
  obtain⟨b,_,hb1,hb2⟩:=hin hi
  exact⟨b,_,hb1,by rw[←hb2];exact hm⟩
 have hX1: ∀g,Xs A' Ms hs g→Xs A M hb g:=by
  rintro g ((ha|⟨b,B,_,hb1,hb2⟩)|hl)
  ·exact .inl ha
  ·exact .inr ⟨b,B,hb1,hb2⟩
  exact .inr (hliveS g hl)
 have hX2: ∀g,Xs A M hb g→Xs A' Ms hs g:=by
  rintro g (ha|⟨b,B,hb1,hb2⟩)
  ·exact .inl (.inl ha)
  by_cases hm:b∈ρ
  ·obtain⟨i,hi⟩:=aON.1 hm
   have he:=hlend i b hi
   rw[hb1]at he
   obtain⟨C,hC,_⟩:=sN he.symm
   exact .inr ⟨i,C,hC,by rw[hMs i b hi];exact hb2⟩
  exact .inl (.inr ⟨b,B,hm,hb1,hb2⟩)
 have hout: ∀{b:Nat}{B:Blk}{g:Nat},b∉ρ→hb[b]? =some (some B)→M[b]? =some (some g)→ ¬bN Ms hs g:=by
  rintro b B g hb0 hb1 hb2 ⟨i,C,hi,hm⟩
  obtain⟨c,hc0,hc1,hc2⟩:=hin hi
  have:=H.inj b c B _ g hb1 hc1 hb2 (by rw[←hc2];exact hm)
  subst this
  exact hb0 (aOp hc0)
 have HS:HR A' Ms hs w:=by
  refine⟨hMslen, ?_, ?_, ?_,H.glob.avoid fun g _ hx=>hX1 g hx⟩
  ·rintro g (ha|⟨b,B,_,hb1,hb2⟩)
   ·exact H.alt g ha
   exact H.lt (.inr ⟨b,B,hb1,hb2⟩)
  ·intro i B hi
   obtain⟨b,hb0,hb1,hb2⟩:=hin hi
   obtain⟨h1,h2⟩:=H.blk b _ hb1
   refine⟨V.one_rns h1, ?_⟩
   rcases h2 with⟨hn,hc0⟩|⟨g,cs,hg,hA,hh,hle,hcs⟩
   ·refine .inl ⟨by rw[hb2];exact hn, ?_⟩
    have:=congrArg aPe hc0
    simp only[Blk.rn,V.rns_length,aOQ]at this
    exact aOq this
   refine .inr ⟨g,cs,by rw[hb2];exact hg, ?_,by simpa[Blk.rn,V.rns_length]using hh, ?_, ?_⟩
   ·rintro(ha|⟨c,C,hc0,hc1,hc2⟩)
    ·exact hA ha
    have:=H.inj b c _ C g hb1 hc1 hg hc2
    subst this
    exact hc0 (aOp hb0)
   ·simpa[Blk.rn,V.rns_length]using hle
   have hcs':VCells (Xs A M hb) M w (V.rns σ B.cells) (cs.toList.take B.cells.length):=by simpa[Blk.rn,V.rns_length]using hcs
   exact(VCells.rn_from hfrom _ _ hcs').avoid (fun g _ hx=>hX1 g hx)
  intro i j B C g hi hj mi mj
  obtain⟨b,hb0,hb1,hb2⟩:=hin hi
  obtain⟨c,hc0,hc1,hc2⟩:=hin hj
  have:=H.inj b c _ _ g hb1 hc1 (by rw[←hb2];exact mi) (by rw[←hc2];exact mj)
  subst this
  have hil:=(aOh.1 hb0).1
  exact(aO4 hil hnd).1 (hb0.trans hc0.symm)
 have hargsS:VCells (Xs A' Ms hs) Ms w args vs:=(VCells.rn_from hfrom _ _ hargs).avoid (fun g _ hx=>hX1 g hx)
 refine(hc A' Ms w vs HS hargsS).mono fun v w' ⟨Ms',G,hv⟩=> ?_
 obtain⟨Mn,rfl⟩:=G.pre
 have hMnlen:hs'.length=ρ.length+Mn.length:=by rw[←G.hr.len];simp[Ms]
 have hto: ∀b y,(Ms++Mn)[b]? =some y→(M++Mn)[σ b]? =some y:=by
  intro b y hy
  rcases aOz b ρ.length with hl|hl
  ·have hi:ρ[b]? =some ρ[b]:=aOk hl
   rw[aOj (by rw[hMslen,←hlen];exact hl),hMs b _ hi]at hy
   rw[hσ b _ hi,aOj (by rw[H.len];exact hlt _ (aOp hi))]
   exact hy
  rw[aOn (by rw[hMslen,←hlen];exact hl),hMslen,←hlen]at hy
  rw[hσ' b hl,aOn (by rw[H.len];omega),H.len,show hb.length+(b-ρ.length)-hb.length=b-ρ.length by omega]
  exact hy
 have hlentlen:(dB hb ρ (kQ σ hs')).length=hb.length:=pK _ _ _
 have hrnlen:(kQ σ hs').length=hs'.length:=by simp[kQ]
 have hcase: ∀{b:Nat}{B:Blk},(iH hb ρ hs')[b]? =some (some B)→(b∉ρ∧hb[b]? =some (some B))∨ ∃i C,hs'[i]? =some (some C)∧b=σ i∧B=C.rn σ∧(M++Mn)[b]? =(Ms++Mn)[i]? :=by
  intro b B hb1
  unfold iH at hb1
  rw[hsg]at hb1
  rcases aOz b hb.length with hl|hl
  ·rw[aOj (by rw[hlentlen];exact hl)]at hb1
   by_cases hm:b∈ρ
   ·obtain⟨i,hi⟩:=aON.1 hm
    rw[uY hnd hlt (by rw[hrnlen];omega) hi]at hb1
    obtain⟨C,hC,hB⟩:=sN hb1
    have hil:=(aOh.1 hi).1
    refine .inr ⟨i,C,hC,(hσ i b hi).symm,hB, ?_⟩
    rw[aOj (by rw[H.len];exact hl),aOj (by rw[hMslen,←hlen];exact hil),hMs i b hi]
   rw[pS hm]at hb1
   exact .inl ⟨hm,hb1⟩
  rw[aOn (by rw[hlentlen];exact hl),hlentlen,aOR]at hb1
  obtain⟨C,hC,hB⟩:=sN hb1
  refine .inr ⟨_,C,hC, ?_,hB, ?_⟩
  ·rw[hσ' _ (by omega)];omega
  rw[aOn (by rw[H.len];exact hl),aOn (by rw[hMslen,←hlen];omega),H.len,hMslen,←hlen]
  congr 1;omega
 have hlive: ∀g,g<w.heap.size→bN (M++Mn) (iH hb ρ hs') g→bN M hb g:=by
  rintro g hg ⟨b,B,hb1,hb2⟩
  rcases hcase hb1 with⟨hb0,hb3⟩|⟨i,C,hC,rfl,rfl,he⟩
  ·refine⟨b,B,hb3, ?_⟩
   rw[aOj (by rw[H.len];exact(aOh.1 hb3).1)]at hb2
   exact hb2
  exact hliveS g (G.live g hg ⟨i,C,hC,by rw[←he];exact hb2⟩)
 have hX3: ∀g,Xs A (M++Mn) (iH hb ρ hs') g→Xs A' (Ms++Mn) hs' g:=by
  rintro g (ha|⟨b,B,hb1,hb2⟩)
  ·exact .inl (.inl ha)
  rcases hcase hb1 with⟨hb0,hb3⟩|⟨i,C,hC,rfl,rfl,he⟩
  ·rw[aOj (by rw[H.len];exact(aOh.1 hb3).1)]at hb2
   exact .inl (.inr ⟨b,B,hb0,hb3,hb2⟩)
  exact .inr ⟨i,C,hC,by rw[←he];exact hb2⟩
 refine⟨M++Mn,⟨⟨Mn,rfl⟩,⟨?_, ?_, ?_, ?_,G.hr.glob.avoid fun g _ hx=>hX3 g hx⟩,G.ext.mono (fun g _ hl=>hliveS g hl),hlive⟩,(VR.rn_to hto _ _ hv).avoid (fun g _ hx=>hX3 g hx)⟩
 ·unfold iH
  rw[hsg]
  simp only[aOS,aO8,hlentlen,hrnlen,H.len]
  omega
 ·exact fun g hg=>aOC (H.alt g hg) G.ext.size
 ·intro b B hb1
  rcases hcase hb1 with⟨hb0,hb3⟩|⟨i,C,hC,rfl,rfl,he⟩
  ·have hbl:b<M.length:=by rw[H.len];exact(aOh.1 hb3).1
   obtain⟨h1,⟨hn,hc0⟩|⟨g,cs,hg,hA,hh,hle,hcs⟩⟩:=H.blk b B hb3
   ·exact⟨h1,.inl ⟨by rw[aOj hbl];exact hn,hc0⟩⟩
   have hgs:g<w.heap.size:=H.lt (.inr ⟨b,B,hb3,hg⟩)
   refine⟨h1,.inr ⟨g,cs,by rw[aOj hbl];exact hg,hA, ?_,hle, ?_⟩⟩
   ·exact hh.to (G.ext.block g hgs (hout hb0 hb3 hg))
   exact VCells.ext G.ext ⟨Mn,rfl⟩ (fun g _ hl=> .inr (hliveS g hl)) (fun g hg hx=>hx.elim .inl (fun hl=> .inr (hlive g hg hl))) _ _ hcs
  obtain⟨h1,h2⟩:=G.hr.blk i C hC
  refine⟨V.rns_mem (V.rn_one σ) h1, ?_⟩
  rcases h2 with⟨hn,hc0⟩|⟨g,cs,hg,hA,hh,hle,hcs⟩
  ·refine .inl ⟨by rw[he];exact hn, ?_⟩
   simp[Blk.rn,hc0,V.rns]
  refine .inr ⟨g,cs,by rw[he];exact hg,fun ha=>hA (.inl ha),by simpa[Blk.rn,V.rns_length]using hh, ?_, ?_⟩
  ·simpa[Blk.rn,V.rns_length]using hle
  have:=(VCells.rn_to hto _ _ hcs).avoid (fun g _ hx=>hX3 g hx)
  simpa[Blk.rn,V.rns_length]using this
 intro b c B C g hb1 hc1 mb mc
 rcases hcase hb1 with⟨hb0,hb3⟩|⟨i,D,hD,rfl,rfl,he⟩<;>rcases hcase hc1 with⟨hc0,hc3⟩|⟨j,E,hE,rfl,rfl,he'⟩
 ·rw[aOj (by rw[H.len];exact(aOh.1 hb3).1)]at mb
  rw[aOj (by rw[H.len];exact(aOh.1 hc3).1)]at mc
  exact H.inj b c B C g hb3 hc3 mb mc
 ·rw[aOj (by rw[H.len];exact(aOh.1 hb3).1)]at mb
  rw[he']at mc
  obtain⟨_,⟨hn,_⟩|⟨g',cs,hg,hA,_⟩⟩:=G.hr.blk j E hE
  ·rw[mc]at hn;cases hn
  rw[mc]at hg;injection hg with hg;injection hg with hg;subst hg
  exact absurd (.inr ⟨b,B,hb0,hb3,mb⟩) hA
 ·rw[aOj (by rw[H.len];exact(aOh.1 hc3).1)]at mc
  rw[he]at mb
  obtain⟨_,⟨hn,_⟩|⟨g',cs,hg,hA,_⟩⟩:=G.hr.blk i D hD
  ·rw[mb]at hn;cases hn
  rw[mb]at hg;injection hg with hg;injection hg with hg;subst hg
  exact absurd (.inr ⟨c,C,hc0,hc3,mc⟩) hA
 rw[G.hr.inj i j D E g hD hE (by rw[←he];exact mb) (by rw[←he'];exact mc)]
def look :List (Nat×V)→Nat→Option V
 | [],_=>none
 |(u,x)::r,t=>bif aOT u t then some x else look r t
def aE (n:Nat)(fr:List (Nat×V)):List V:=(aOK n).map fun t=>(look fr t).getD .any
theorem gO (n:Nat)(fr:List (Nat×V)):(aE n fr).length=n:=by simp[aE]
theorem mJ {n t:Nat}{fr:List (Nat×V)}(h:t<n):(aE n fr)[t]? =some ((look fr t).getD .any):=by simp[aE,h]
def aU (n:Nat)(fr:List (Nat×V)):Operand→Option V
 | .tmp t=>bif aPi t n then look fr t else none
 | .const v=>some (ofValue v)
 | .func f=>some (.sc (.func (.func f) #[] #[]))
 | .global g=>(GT g).map fun e=> .eptr [e] 0 0
theorem bQ {n:Nat}{fr:List (Nat×V)}{o:Operand}{x:V}(h:aU n fr o=some x):ev (aE n fr) o=some x:=by
 cases o with
 |tmp t=>
  simp only[aU]at h
  cases hb:aPi t n with
  |false=>rw[hb]at h;cases h
  |true=>
   rw[hb]at h
   simp only[cond_true]at h
   have ht:t<n:=by have h2:Nat.ble (t+1) n=true:=hb;exact aOE h2
   simp only[ev]
   rw[mJ ht,h];rfl
 |const v=>exact h
 |func f=>exact h
 |global g=>exact h
theorem aAe {n t:Nat}{fr:List (Nat×V)}{x:V}:c9 (aE n fr) (some t) x=aE n ((t,x)::fr):=by
 simp only[c9]
 apply aOV
 intro i
 by_cases hi:i<n
 ·rw[mJ hi]
  by_cases ht:t=i
  ·subst ht
   rw[List.getElem?_set_self (by rw[gO];exact hi)]
   simp[look]
  rw[aO2 ht,mJ hi]
  have:aOT t i=false:=by cases hb:aOT t i with
   |false=>rfl
   |true=>exact absurd (aOy hb) ht
  simp[look,this]
 rw[aOO (by rw[aPf,gO];omega),aOO (by rw[gO];omega)]
def AB (P:Program)(N:Nat)(c:Code)(Q:Ex→List V→Hp→Prop)(s:List V)(h:Hp):Prop:=
 ∀(A:Nat→Prop)(M0 M:List (Option Nat))(h0:Hp)(w0:World)(a:Act)(w:World),h0.length=N→M0.length=N→Grow A M0 h0 w0 M h w→Rel A M s h a w→
  c.wp P (fun e a' w'=> ∃x s' h' M',e=Ex.toExit x∧Q x s' h'∧Grow A M0 h0 w0 M' h' w'∧Rel A M' s' h' a' w') a w
section
variable {P:Program}{N:Nat}{Q Q':Ex→List V→Hp→Prop}{s s':List V}{h h':Hp}
theorem AB.of {c:Code}(hh:AW P c Q s h):AB P N c Q s h:=fun A M0 M h0 w0 a w _ _ G R=>
 Code.wp_mono (fun e a' w' ⟨x,s',h',M',h1,h2,h3,h4⟩=>⟨x,s',h',M',h1,h2,G.trans h3,h4⟩) (hh A M a w R)
theorem AB.mono {c:Code}(hh:AB P N c Q s h)(hq: ∀x s h,Q x s h→Q' x s h):AB P N c Q' s h:=fun A M0 M h0 w0 a w hN hM G R=>
 Code.wp_mono (fun e a' w' ⟨x,s',h',M',h1,h2,h3,h4⟩=>⟨x,s',h',M',h1,hq _ _ _ h2,h3,h4⟩) (hh A M0 M h0 w0 a w hN hM G R)
theorem AB.skip (hq:Q .normal s h):AB P N .skip Q s h:=AB.of (AW.skip hq)
theorem AB.exit {id:Nat}(hq:Q (.exit id) s h):AB P N (.exit id) Q s h:=AB.of (AW.exit hq)
theorem AB.ret (hq:Q .ret s h):AB P N .ret Q s h:=AB.of (AW.ret hq)
theorem AB.rg (E:Env P){id:Nat}{l:List Oper}{draw:Bool}(hd:draw=true→wM E.F l.toArray=true)(hr:OpsTo P E.O l.toArray l s h (Q .normal)):AB P N (.region id l.toArray draw) Q s h:=AB.of (AW.rg E hd hr)
theorem AB.seq {c d:Code}(hh:AB P N c (Ex.then (AB P N d Q) Q) s h):AB P N (.seq c d) Q s h:=by
 intro A M0 M h0 w0 a w hN hM G R
 refine wp_seq (Code.wp_mono (fun e a' w' ⟨x,s1,h1,M1,he,hq,G1,R1⟩=> ?_) (hh A M0 M h0 w0 a w hN hM G R))
 subst he
 cases x with
 |normal=>exact hq A M0 M1 h0 w0 a' w' hN hM G1 R1
 |exit id=>exact⟨.exit id,s1,h1,M1,rfl,hq,G1,R1⟩
 |ret=>exact⟨.ret,s1,h1,M1,rfl,hq,G1,R1⟩
theorem AB.cond {c:Operand}{x y:Code}{t:Bool}(hc:ev s c=some (.sc (.bool t)))(h1:t=true→AB P N x Q s h)(h2:t=false→AB P N y Q s h):AB P N (.cond c x y) Q s h:=by
 intro A M0 M h0 w0 a w hN hM G R
 have hv:=aW R.hr.glob R.sr hc
 unfold VR at hv
 refine wp_cond hv ?_
 cases t with
 |true=>exact h1 rfl A M0 M h0 w0 a w hN hM G R
 |false=>exact h2 rfl A M0 M h0 w0 a w hN hM G R
theorem AB.block {id:Nat}{c:Code}(hh:AB P N c (Ex.inBlock id Q) s h):AB P N (.block id c) Q s h:=by
 intro A M0 M h0 w0 a w hN hM G R
 refine wp_block (Code.wp_mono (fun e a' w' ⟨x,s1,h1,M1,he,hq,G,R1⟩=> ?_) (hh A M0 M h0 w0 a w hN hM G R))
 subst he
 cases x with
 |normal=>exact⟨.normal,s1,h1,M1,rfl,hq,G,R1⟩
 |exit i=>
  show Exit.inBlock id _ (.exit i) a' w'
  simp only[Exit.inBlock]
  simp only[Ex.inBlock]at hq
  split
  ·rename_i hi;rw[if_pos hi]at hq;exact⟨.normal,s1,h1,M1,rfl,hq,G,R1⟩
  rename_i hi;rw[if_neg hi]at hq;exact⟨.exit i,s1,h1,M1,rfl,hq,G,R1⟩
 |ret=>exact⟨.ret,s1,h1,M1,rfl,hq,G,R1⟩
theorem AB.loop {c:Code}(I:Nat→List V→Hp→Prop){n:Nat}(h0:I n s h)(round: ∀n s h,I n s h→AB P N c (Ex.then (fun s' h'=> ∃m,m<n∧I m s' h') Q) s h):AB P N (.loop c) Q s h:=by
 intro A M0 M hh0 w0 a w hN hM G R
 let p:Act→World→Nat→Prop:=fun a' w' k=> ∃s' h' M',I k s' h'∧Grow A M0 hh0 w0 M' h' w'∧Rel A M' s' h' a' w'
 let μ:Act→World→Nat:=fun a' w'=>Classical.epsilon fun k=>p a' w' k∧ ∀j,p a' w' j→k≤j
 have hμ: ∀a' w',(∃k,p a' w' k)→p a' w' (μ a' w')∧ ∀j,p a' w' j→μ a' w'≤j:=fun a' w' hh=>Classical.epsilon_spec (aHv hh)
 refine wp_loop (fun a' w'=> ∃k,p a' w' k) μ ⟨n,s,h,M,h0,G,R⟩ ?_
 intro a1 w1 hI
 obtain⟨s1,h1,M1,hIk,G1,R1⟩:=(hμ a1 w1 hI).1
 refine Code.wp_mono (fun e a2 w2 ⟨x,s2,h2,M2,he,hq,G2,R2⟩=> ?_) (round _ s1 h1 hIk A M0 M1 hh0 w0 a1 w1 hN hM G1 R1)
 subst he
 cases x with
 |normal=>
  obtain⟨m,hm,hIm⟩:=hq
  have hex2:p a2 w2 m:=⟨s2,h2,M2,hIm,G2,R2⟩
  exact⟨⟨m,hex2⟩,Nat.lt_of_le_of_lt ((hμ a2 w2 ⟨m,hex2⟩).2 m hex2) hm⟩
 |exit id=>exact⟨.exit id,s2,h2,M2,rfl,hq,G2,R2⟩
 |ret=>exact⟨.ret,s2,h2,M2,rfl,hq,G2,R2⟩
theorem AB.loopN {c:Code}(I:Nat→List V→Hp→Prop){n:Nat}(h0:I n s h)(r0: ∀s h,¬I 0 s h)(round: ∀n s h,I (n+1) s h→AB P N c (Ex.then (I n) Q) s h):AB P N (.loop c) Q s h:=by
 refine AB.loop I h0 fun n s h hI=> ?_
 cases n with
 |zero=>exact absurd hI (r0 s h)
 |succ n=>
  refine(round n s h hI).mono fun x s h hq=> ?_
  cases x with
  |normal=>exact⟨n,Nat.lt_succ_self n,hq⟩
  |exit id=>exact hq
  |ret=>exact hq
end
mutual
def V.le (vn:Nat→Bool):V→V→Prop
 |x,.any=>True
 | .row a k es,.row b k' es'=>(b=none∨a=b)∧es=es'∧(k=k'∨es=[])
 | .row a _ es,.sl b off n _ _=>a=some true∧es=[]∧vn b=true∧off=0∧n=0
 | .agg cs,.agg ds=>V.les vn cs ds
 | .tup cs,.tup ds=>V.les vn cs ds
 |x,y=>x=y
def V.les (vn:Nat→Bool):List V→List V→Prop
 | [],[]=>True
 |c::cs,d::ds=>V.le vn c d∧V.les vn cs ds
 |_,_=>False
end
def j7 :Nat→Bool:=fun _=>false
mutual
theorem V.le_refl (vn:Nat→Bool): ∀x:V,V.le vn x x
 | .any=>by unfold V.le;trivial
 | .row a k es=>by unfold V.le;exact⟨.inr rfl,rfl,.inl rfl⟩
 | .agg cs=>by unfold V.le;exact V.les_refl vn cs
 | .tup cs=>by unfold V.le;exact V.les_refl vn cs
 | .sc _=>by unfold V.le;rfl
 | .ptr _ _=>by unfold V.le;rfl
 | .sl _ _ _ _ _=>by unfold V.le;rfl
 | .eptr _ _ _=>by unfold V.le;rfl
 | .mp _=>by unfold V.le;rfl
theorem V.les_refl (vn:Nat→Bool): ∀cs:List V,V.les vn cs cs
 | []=>by unfold V.les;trivial
 |c::cs=>by unfold V.les;exact⟨V.le_refl vn c,V.les_refl vn cs⟩
end
theorem V.le_row {vn:Nat→Bool}{a:Option Bool}{k:Nat}{es:List V}:V.le vn (.row a k es) (.row none k es):=by unfold V.le;exact⟨.inl rfl,rfl,.inl rfl⟩
theorem V.le_nil {vn:Nat→Bool}{a:Option Bool}{k k':Nat}:V.le vn (.row a k []) (.row none k' []):=by unfold V.le;exact⟨.inl rfl,rfl,.inr rfl⟩
theorem V.le_virt {vn:Nat→Bool}{k k' b:Nat}{ag:Bool}(hb:vn b=true):V.le vn (.row (some true) k []) (.sl b 0 0 k' ag):=by unfold V.le;exact⟨rfl,rfl,hb,rfl,rfl⟩
section
variable {X:Nat→Prop}{M:List (Option Nat)}{w:World}{vn:Nat→Bool}
mutual
theorem V.le_sound (hvn: ∀b,vn b=true→M[b]? =some none): ∀(x y:V)(v:Value),V.le vn x y→VR X M w x v→VR X M w y v
 |x,.any,v,_,_=>by unfold VR;trivial
 | .row a k es,.row b k' es',v,h,hv=>by
  unfold V.le at h
  obtain⟨h1,rfl,h3⟩:=h
  unfold VR at hv⊢
  obtain⟨ad,cap,e1,e2,e3,e4,e5,e6⟩:=hv
  refine⟨ad,cap,e1,e2,e3, ?_, ?_, ?_⟩
  ·rcases h1 with rfl|rfl
   ·intro b hb;cases hb
   exact e4
  ·rcases h3 with rfl|rfl
   ·exact e5
   simp
  rcases h3 with rfl|rfl
  ·exact e6
  exact fun hne=>absurd rfl hne
 | .row a k es,.sl b off n k' ag,v,h,hv=>by
  unfold V.le at h
  obtain⟨rfl,rfl,h3,rfl,rfl⟩:=h
  unfold VR at hv⊢
  obtain⟨ad,cap,e1,e2,e3,e4,e5,e6⟩:=hv
  have hn:ad=none:=e4 true rfl
  cases ad with
  |some ad=>simp at hn
  |none=>
   have:=e3 rfl
   subst this
   exact .inl ⟨hvn b h3,e1,rfl,rfl⟩
 | .agg cs,.agg ds,v,h,hv=>by
  unfold V.le at h
  unfold VR at hv⊢
  obtain⟨vs,e1,e2⟩:=hv
  exact⟨vs,e1,V.les_sound hvn cs ds vs h e2⟩
 | .tup cs,.tup ds,v,h,hv=>by
  unfold V.le at h
  unfold VR at hv⊢
  obtain⟨vs,e1,e2⟩:=hv
  exact⟨vs,e1,V.les_sound hvn cs ds vs h e2⟩
 | .sc c,y,v,h,hv=>by
  cases y<;>first|(unfold VR;trivial)|(unfold V.le at h;injection h with h;subst h;exact hv)|(unfold V.le at h;cases h)
 | .mp _,y,v,h,hv=>by
  cases y<;>first|(unfold VR;trivial)|(unfold V.le at h;injection h with h;subst h;exact hv)|(unfold V.le at h;cases h)
 | .ptr _ _,y,v,h,hv=>by
  cases y<;>first|(unfold VR;trivial)|(unfold V.le at h;injection h with h1 h2;subst h1 h2;exact hv)|(unfold V.le at h;cases h)
 | .sl _ _ _ _ _,y,v,h,hv=>by
  cases y<;>first|(unfold VR;trivial)|(unfold V.le at h;injection h with h1 h2 h3 h4 h5;subst h1 h2 h3 h4 h5;exact hv)|(unfold V.le at h;cases h)
 | .eptr _ _ _,y,v,h,hv=>by
  cases y<;>first|(unfold VR;trivial)|(unfold V.le at h;injection h with h1 h2 h3;subst h1 h2 h3;exact hv)|(unfold V.le at h;cases h)
theorem V.les_sound (hvn: ∀b,vn b=true→M[b]? =some none): ∀(cs ds:List V)(vs:List Value),V.les vn cs ds→VCells X M w cs vs→VCells X M w ds vs
 | [],[],vs,_,hv=>hv
 |c::cs,d::ds,vs,h,hv=>by
  unfold V.les at h
  unfold VCells at hv⊢
  obtain⟨v,rest,e1,e2,e3⟩:=hv
  exact⟨v,rest,e1,V.le_sound hvn c d v h.1 e2,V.les_sound hvn cs ds rest h.2 e3⟩
end
end
def Ghost (N:Nat)(s:List V)(h:Hp)(s':List V)(h':Hp):Prop:=
 ∀(A:Nat→Prop)(M:List (Option Nat))(a:Act)(w:World),N≤M.length→Rel A M s h a w→
  ∃M',M'.take N=M.take N∧Rel A M' s' h' a w∧ ∀g,bN M' h' g→bN M h g
theorem AB.ghost {P:Program}{N:Nat}{c:Code}{Q:Ex→List V→Hp→Prop}{s s':List V}{h h':Hp}(hg:Ghost N s h s' h')(hh:AB P N c Q s' h'):AB P N c Q s h:=by
 intro A M0 M h0 w0 a w hN hM G R
 obtain⟨t,ht⟩:=G.pre
 have hle:N≤M.length:=by rw[←ht];simp[hM]
 obtain⟨M',h1,h2,h3⟩:=hg A M a w hle R
 refine hh A M0 M' h0 w0 a w hN hM ⟨?_,h2.hr,G.ext,fun g hg hl=>G.live g hg (h3 g hl)⟩ h2
 have:M0=M'.take N:=by rw[h1,←ht,←hM];simp
 rw[this]
 exact aO9 _ _
def FLe (vn:Nat→Bool)(g:V→V)(fr:List (Nat×V)):List (Nat×V)→Prop
 | []=>True
 |(t,y)::r=>(∃x,look fr t=some x∧V.le vn x (g y))∧FLe vn g fr r
theorem FLe.nil {vn:Nat→Bool}{g:V→V}{fr:List (Nat×V)}:FLe vn g fr []:=trivial
theorem FLe.same {vn:Nat→Bool}{g:V→V}{fr r:List (Nat×V)}{t:Nat}{y:V}(h:look fr t=some (g y))(k:FLe vn g fr r):FLe vn g fr ((t,y)::r):=⟨⟨_,h,V.le_refl _ _⟩,k⟩
theorem FLe.le {vn:Nat→Bool}{g:V→V}{fr r:List (Nat×V)}{t:Nat}{x y:V}(h:look fr t=some x)(hl:V.le vn x (g y))(k:FLe vn g fr r):FLe vn g fr ((t,y)::r):=⟨⟨_,h,hl⟩,k⟩
theorem FLe.get {vn:Nat→Bool}{g:V→V}{fr:List (Nat×V)}: ∀{fr':List (Nat×V)},FLe vn g fr fr'→ ∀{t:Nat}{y:V},look fr' t=some y→ ∃x,look fr t=some x∧V.le vn x (g y)
 | [],_,t,y,hy=>by cases hy
 |(u,z)::r,h,t,y,hy=>by
  simp only[look]at hy
  cases hb:aOT u t with
  |true=>
   rw[hb]at hy
   have:=aOy hb
   subst this
   simp only[cond_true,aOm]at hy
   subst hy
   exact h.1
  |false=>rw[hb]at hy;exact h.2.get hy
theorem uB {X:Nat→Prop}{M M':List (Option Nat)}{w:World}{n:Nat}{fr fr':List (Nat×V)}{a:Act}{X':Nat→Prop}(S:SR X M w (aE n fr) a)
  (hh: ∀(t:Nat)(y:V),look fr' t=some y→ ∃x,look fr t=some x∧ ∀v,VR X M w x v→VR X' M' w y v):SR X' M' w (aE n fr') a:=by
 refine⟨by rw[gO,←S.len,gO],fun t y hy=> ?_⟩
 have ht:t<n:=by have:=(aOh.1 hy).1;rw[gO]at this;exact this
 rw[mJ ht]at hy
 injection hy with hy
 cases hl:look fr' t with
 |none=>rw[hl]at hy;subst hy;unfold VR;trivial
 |some z=>
  rw[hl]at hy
  subst hy
  obtain⟨x,hx,hv⟩:=hh t z hl
  exact hv _ (S.val t x (by rw[mJ ht,hx];rfl))
theorem Ghost.weak {N n:Nat}{fr fr':List (Nat×V)}{h:Hp}(hf:FLe j7 id fr fr'):Ghost N (aE n fr) h (aE n fr') h:=fun A M a w _ R=>
 ⟨M,rfl,⟨R.hr,uB R.sr (fun t y hy=>by
  obtain⟨x,hx,hl⟩:=hf.get hy
  exact⟨x,hx,fun v hv=>V.le_sound (fun _ hb=>by cases hb) _ _ _ hl hv⟩),R.defers⟩,fun _ hl=>hl⟩
def HLe (f:Nat→Nat)(h:Hp):List Nat→Hp→Prop
 | [],[]=>True
 |_::σ,none::h'=>HLe f h σ h'
 |b::σ,some B'::h'=>(∃B,h[b]? =some (some B)∧B.e=B'.e∧V.les j7 B.cells (V.rns f B'.cells)∧B'.cells.all V.one=true)∧HLe f h σ h'
 |_,_=>False
theorem HLe.nil {f:Nat→Nat}{h:Hp}:HLe f h [] []:=trivial
theorem HLe.dead {f:Nat→Nat}{h h':Hp}{b:Nat}{σ:List Nat}(k:HLe f h σ h'):HLe f h (b::σ) (none::h'):=k
theorem HLe.live {f:Nat→Nat}{h h':Hp}{b:Nat}{σ:List Nat}{e:TypeId}{cs cs':List V}(hb:h[b]? =some (some ⟨e,cs⟩))(hc:V.les j7 cs (V.rns f cs'))(ho:cs'.all V.one=true)(k:HLe f h σ h'):HLe f h (b::σ) (some ⟨e,cs'⟩::h'):=⟨⟨_,hb,rfl,hc,ho⟩,k⟩
theorem HLe.get {f:Nat→Nat}{h:Hp}: ∀{σ:List Nat}{h':Hp},HLe f h σ h'→ ∀{j:Nat}{B':Blk},h'[j]? =some (some B')→ ∃b B,σ[j]? =some b∧h[b]? =some (some B)∧B.e=B'.e∧V.les j7 B.cells (V.rns f B'.cells)∧B'.cells.all V.one=true
 | [],[],_,j,B',hj=>by simp at hj
 |b::σ,none::h',hh,j,B',hj=>by
  cases j with
  |zero=>simp at hj
  |succ j=>simp only[aOo]at hj ⊢; exact HLe.get (σ:=σ) hh hj
 |b::σ,some B::h',hh,j,B',hj=>by
  cases j with
  |zero=>
   simp only[aOt,aOm]at hj
   subst hj
   obtain⟨C,h1,h2,h3,h4⟩:=hh.1
   exact⟨b,C,rfl,h1,h2,h3,h4⟩
  |succ j=>simp only[aOo]at hj ⊢; exact HLe.get (σ:=σ) hh.2 hj
 | [],_::_,hh,_,_,_=>hh.elim
 |_::_,[],hh,_,_,_=>hh.elim
theorem HLe.len {f:Nat→Nat}{h:Hp}: ∀{σ:List Nat}{h':Hp},HLe f h σ h'→σ.length=h'.length
 | [],[],_=>rfl
 |b::σ,none::h',hh=>by simp[HLe.len (σ:=σ) hh]
 |b::σ,some B::h',hh=>by simp[HLe.len (σ:=σ) hh.2]
 | [],_::_,hh=>hh.elim
 |_::_,[],hh=>hh.elim
def rW :List Nat→Hp→List Nat
 |b::σ,some _::h'=>b::rW σ h'
 |_::σ,none::h'=>rW σ h'
 |_,_=>[]
theorem yL : ∀{σ:List Nat}{h':Hp}{j b:Nat}{B:Blk},h'[j]? =some (some B)→σ[j]? =some b→b∈rW σ h'
 | [],_,j,b,B,_,hb=>by simp at hb
 |_::_,[],j,b,B,hj,_=>by simp at hj
 |c::σ,some C::h',0,b,B,hj,hb=>by simp at hb;simp[rW,hb]
 |c::σ,some C::h',j+1,b,B,hj,hb=>by
  simp only[aOo]at hj hb
  simp[rW,yL hj hb]
 |c::σ,none::h',0,b,B,hj,hb=>by simp at hj
 |c::σ,none::h',j+1,b,B,hj,hb=>by
  simp only[aOo]at hj hb
  simp[rW,yL hj hb]
theorem aBk : ∀{σ:List Nat}{h':Hp},(rW σ h').Nodup→ ∀{i j b:Nat}{B C:Blk},h'[i]? =some (some B)→h'[j]? =some (some C)→σ[i]? =some b→σ[j]? =some b→i=j
 | [],_,_,i,j,b,B,C,_,_,hb,_=>by simp at hb
 |_::_,[],_,i,j,b,B,C,hi,_,_,_=>by simp at hi
 |c::σ,some D::h',hn,0,0,b,B,C,_,_,_,_=>rfl
 |c::σ,some D::h',hn,0,j+1,b,B,C,hi,hj,bi,bj=>by
  simp only[aOo,aOt,aOm]at hj bi bj
  subst bi
  exact absurd (yL hj bj) (aOD.1 hn).1
 |c::σ,some D::h',hn,i+1,0,b,B,C,hi,hj,bi,bj=>by
  simp only[aOo,aOt,aOm]at hi bi bj
  subst bj
  exact absurd (yL hi bi) (aOD.1 hn).1
 |c::σ,some D::h',hn,i+1,j+1,b,B,C,hi,hj,bi,bj=>by
  simp only[aOo]at hi hj bi bj
  rw[aBk (aOD.1 hn).2 hi hj bi bj]
 |c::σ,none::h',hn,0,_,b,B,C,hi,_,_,_=>by simp at hi
 |c::σ,none::h',hn,i+1,0,b,B,C,_,hj,_,_=>by simp at hj
 |c::σ,none::h',hn,i+1,j+1,b,B,C,hi,hj,bi,bj=>by
  simp only[aOo]at hi hj bi bj
  rw[aBk (σ:=σ) hn hi hj bi bj]
def wP :List Nat→Bool
 | []=>true
 |b::l=> !(l.elem b)&&wP l
theorem aBV : ∀{l:List Nat},wP l=true→l.Nodup
 | [],_=>List.nodup_nil
 |b::l,h=>by
  simp only[wP,aOs,Bool.not_eq_true']at h
  refine aOD.2 ⟨fun hm=> ?_,aBV h.2⟩
  rw[List.elem_eq_true_of_mem hm]at h
  cases h.1
theorem aL3 {ρ:List Nat}{L i b:Nat}(h:ρ[i]? =some b):sg ρ L i=b:=by simp[sg,h]
theorem aKI {ρ:List Nat}{L i:Nat}(h:ρ.length≤i):sg ρ L i=L+(i-ρ.length):=by simp[sg,h]
theorem V.les_length {vn:Nat→Bool}: ∀{cs ds:List V},V.les vn cs ds→cs.length=ds.length
 | [],[],_=>rfl
 |c::cs,d::ds,h=>by unfold V.les at h;simp[V.les_length h.2]
 | [],_::_,h=>by unfold V.les at h;exact h.elim
 |_::_,[],h=>by unfold V.les at h;exact h.elim
theorem Ghost.rn {N n:Nat}{fr fr':List (Nat×V)}{h h':Hp}(σ:List Nat)(hσ:σ.take N=aOK N)(hlt:σ.all (fun b=>aPi b h.length)=true)(hf:FLe j7 (V.rn (sg σ h.length)) fr fr')
  (hh:HLe (sg σ h.length) h σ h') (hnd:wP (rW σ h')=true):Ghost N (aE n fr) h (aE n fr') h':=by
 intro A M a w hN R
 have hM:M.length=h.length:=R.hr.len
 have hltb: ∀b∈σ,b<M.length:=fun b hb=>by
  have h2:=aOg.1 hlt b hb
  rw[hM];exact aOE (n:=b+1) h2
 let M':List (Option Nat):=σ.map fun b=>(M[b]?).getD none
 have hM': ∀{j b:Nat},σ[j]? =some b→M'[j]? =M[b]? :=by
  intro j b hj
  have hb:=hltb b (aOp hj)
  simp only[M',aOL,hj,aOr]
  rw[aOk hb];rfl
 have hfrom: ∀b y,M[sg σ h.length b]? =some y→M'[b]? =some y:=by
  intro b y hy
  rcases aOz b σ.length with hl|hl
  ·have hi:σ[b]? =some σ[b]:=aOk hl
   rw[hM' hi];rw[aL3 hi]at hy;exact hy
  rw[aKI hl]at hy
  have:=(aOh.1 hy).1
  omega
 have hlive: ∀g,bN M' h' g→bN M h g:=by
  rintro g ⟨j,B',hj,hm⟩
  obtain⟨b,B,h1,h2,_⟩:=hh.get hj
  exact⟨b,B,h2,by rw[←hM' h1];exact hm⟩
 have hX: ∀g,Xs A M' h' g→Xs A M h g:=fun g hx=>hx.elim .inl (fun hl=> .inr (hlive g hl))
 refine⟨M', ?_,⟨⟨by simp[M',hh.len],R.hr.alt, ?_, ?_,R.hr.glob.avoid fun g _ hx=>hX g hx⟩, ?_,R.defers⟩,hlive⟩
 ·simp only[M',←aOY,hσ]
  apply aOV
  intro i
  rw[aOL,List.getElem?_take]
  rcases aOz i N with hi|hi
  ·simp only[List.getElem?_range hi,aOr,hi,if_true]
   rw[aOk (aOC hi hN)];rfl
  have: ¬i<N:=by omega
  simp[this]
 ·intro j B' hj
  obtain⟨b,B,h1,h2,h3,h4,h5⟩:=hh.get hj
  refine⟨aOg.1 h5, ?_⟩
  have hlen:B.cells.length=B'.cells.length:=by rw[V.les_length h4,V.rns_length]
  rcases(R.hr.blk b B h2).2 with⟨hn,hc0⟩|⟨g,cs,hg,hA,hw,hle,hcs⟩
  ·refine .inl ⟨by rw[hM' h1];exact hn,aOq (by rw[←hlen,hc0];rfl)⟩
  refine .inr ⟨g,cs,by rw[hM' h1];exact hg,hA,by rw[←h3,←hlen];exact hw,by rw[←hlen];exact hle, ?_⟩
  rw[←hlen]
  exact(VCells.rn_from hfrom _ _ (V.les_sound (fun _ hb=>by cases hb) _ _ _ h4 hcs)).avoid (fun g _ hx=>hX g hx)
 ·intro i j B C g hi hj mi mj
  obtain⟨b,B1,h1,h2,_⟩:=hh.get hi
  obtain⟨c,C1,k1,k2,_⟩:=hh.get hj
  have:=R.hr.inj b c B1 C1 g h2 k2 (by rw[←hM' h1];exact mi) (by rw[←hM' k1];exact mj)
  subst this
  exact aBk (aBV hnd) hi hj h1 k1
 exact uB R.sr (fun t y hy=>by
  obtain⟨x,hx,hl⟩:=hf.get hy
  exact⟨x,hx,fun v hv=>(VR.rn_from hfrom _ _ (V.le_sound (fun _ hb=>by cases hb) _ _ _ hl hv)).avoid (fun g _ hx=>hX g hx)⟩)
def HLv (vn:Nat→Bool):Hp→Hp→Prop
 | [],[]=>True
 |none::h,none::h'=>HLv vn h h'
 |some B::h,some B'::h'=>(B.e=B'.e∧V.les vn B.cells B'.cells∧B'.cells.all V.one=true)∧HLv vn h h'
 |_,_=>False
theorem HLv.nil {vn:Nat→Bool}:HLv vn [] []:=trivial
theorem HLv.dead {vn:Nat→Bool}{h h':Hp}(k:HLv vn h h'):HLv vn (none::h) (none::h'):=k
theorem HLv.live {vn:Nat→Bool}{h h':Hp}{e:TypeId}{cs cs':List V}(hc:V.les vn cs cs')(ho:cs'.all V.one=true)(k:HLv vn h h'):HLv vn (some ⟨e,cs⟩::h) (some ⟨e,cs'⟩::h'):=⟨⟨rfl,hc,ho⟩,k⟩
theorem HLv.get {vn:Nat→Bool}: ∀{h h':Hp},HLv vn h h'→ ∀{j:Nat}{B':Blk},h'[j]? =some (some B')→ ∃B,h[j]? =some (some B)∧B.e=B'.e∧V.les vn B.cells B'.cells∧B'.cells.all V.one=true
 | [],[],_,j,B',hj=>by simp at hj
 |none::h,none::h',hh,j,B',hj=>by
  cases j with
  |zero=>simp at hj
  |succ j=>simp only[aOo]at hj ⊢; exact HLv.get (h:=h) hh hj
 |some B::h,some C::h',hh,j,B',hj=>by
  cases j with
  |zero=>
   simp only[aOt,aOm]at hj
   subst hj
   exact⟨B,rfl,hh.1.1,hh.1.2.1,hh.1.2.2⟩
  |succ j=>simp only[aOo]at hj ⊢; exact HLv.get (h:=h) hh.2 hj
 | [],_::_,hh,_,_,_=>hh.elim
 |none::_,[],hh,_,_,_=>hh.elim
 |some _::_,[],hh,_,_,_=>hh.elim
 |none::_,some _::_,hh,_,_,_=>hh.elim
 |some _::_,none::_,hh,_,_,_=>hh.elim
theorem HLv.len {vn:Nat→Bool}: ∀{h h':Hp},HLv vn h h'→h.length=h'.length
 | [],[],_=>rfl
 |none::h,none::h',hh=>by simp[HLv.len (h:=h) hh]
 |some B::h,some C::h',hh=>by simp[HLv.len (h:=h) hh.2]
 | [],_::_,hh=>hh.elim
 |none::_,[],hh=>hh.elim
 |some _::_,[],hh=>hh.elim
 |none::_,some _::_,hh=>hh.elim
 |some _::_,none::_,hh=>hh.elim
theorem Ghost.virt {N n:Nat}{fr fr':List (Nat×V)}{h h1:Hp}(e:TypeId)(hf:FLe (fun b=>aOT b h.length) id fr fr')(hh:HLv (fun b=>aOT b h.length) h h1)
  :Ghost N (aE n fr) h (aE n fr') (h1++[some ⟨e,[]⟩]):=by
 intro A M a w hN R
 have hM:M.length=h.length:=R.hr.len
 have G:=Grow.virt R.hr e
 have hvn: ∀b,aOT b h.length=true→(M++[none])[b]? =some none:=fun b hb=>by
  have:=aOy hb
  subst this
  rw[←hM];simp
 have hlen:h1.length=h.length:=hh.len.symm
 have hcase: ∀{b:Nat}{B:Blk},(h1++[some ⟨e,[]⟩])[b]? =some (some B)→ ∃C,(h++[some ⟨e,[]⟩])[b]? =some (some C)∧C.e=B.e∧V.les (fun b=>aOT b h.length) C.cells B.cells∧B.cells.all V.one=true:=by
  intro b B hb
  rcases cI hb with hb|⟨hbl,hB⟩
  ·obtain⟨C,c1,c2,c3,c4⟩:=hh.get hb
   exact⟨C,e7 c1,c2,c3,c4⟩
  injection hB with hB
  subst hB
  exact⟨⟨e,[]⟩,by rw[hbl,hlen];simp,rfl,V.les_refl _ _,rfl⟩
 have hlive': ∀g,bN (M++[none]) (h1++[some ⟨e,[]⟩]) g→bN (M++[none]) (h++[some ⟨e,[]⟩]) g:=by
  rintro g ⟨b,B,hb,hm⟩
  obtain⟨C,c1,_⟩:=hcase hb
  exact⟨b,C,c1,hm⟩
 have hlive: ∀g,bN (M++[none]) (h1++[some ⟨e,[]⟩]) g→bN M h g:=by
  rintro g hl
  obtain⟨b,B,hb,hm⟩:=hlive' g hl
  rcases cI hm with hm'|⟨_,hm'⟩
  ·rcases cI hb with hb'|⟨rfl,_⟩
   ·exact⟨b,B,hb',hm'⟩
   have:=(aOh.1 hm').1;omega
  cases hm'
 refine⟨M++[none],by rw[List.take_append_of_le_length hN],⟨⟨by simp[hM,hlen],R.hr.alt, ?_, ?_,R.hr.glob.avoid fun g _ hx=>hx.elim .inl (fun hl=> .inr (hlive g hl))⟩, ?_,R.defers⟩,hlive⟩
 ·intro b B hb
  obtain⟨C,c1,c2,c3,c4⟩:=hcase hb
  refine⟨aOg.1 c4, ?_⟩
  have hl:=V.les_length c3
  rcases(G.hr.blk b C c1).2 with⟨hn,hc0⟩|⟨g,cs,hg,hA,hw,hle,hcs⟩
  ·exact .inl ⟨hn,aOq (by rw[←hl,hc0];rfl)⟩
  refine .inr ⟨g,cs,hg,hA,by rw[←c2,←hl];exact hw,by rw[←hl];exact hle, ?_⟩
  rw[←hl]
  exact(V.les_sound hvn _ _ _ c3 hcs).avoid (fun g _ hx=>hx.elim .inl (fun hl=> .inr (hlive' g hl)))
 ·intro b b' B B' g hb hb' hm hm'
  obtain⟨C,c1,_⟩:=hcase hb
  obtain⟨C',c1',_⟩:=hcase hb'
  exact G.hr.inj b b' C C' g c1 c1' hm hm'
 exact uB R.sr (fun t y hy=>by
  obtain⟨x,hx,hl⟩:=hf.get hy
  exact⟨x,hx,fun v hv=>(V.le_sound hvn _ _ _ hl (G.keep hv)).avoid (fun g _ hx=>hx.elim .inl (fun hl=> .inr (hlive' g hl)))⟩)
theorem Ghost.trans {N:Nat}{s s1 s2:List V}{h h1 h2:Hp}(a:Ghost N s h s1 h1)(b:Ghost N s1 h1 s2 h2):Ghost N s h s2 h2:=by
 intro A M ac w hN R
 obtain⟨M1,e1,R1,l1⟩:=a A M ac w hN R
 have hN1:N≤M1.length:=by
  have:=congrArg aPe e1
  simp only[aOP]at this;omega
 obtain⟨M2,e2,R2,l2⟩:=b A M1 ac w hN1 R1
 exact⟨M2,e2.trans e1,R2,fun g hg=>l1 g (l2 g hg)⟩
abbrev eI (k:IntKind)(x:Int):V:= .sc (.int k x)
abbrev eB (x:Bool):V:= .sc (.bool x)
abbrev eS (x:ByteArray):V:= .sc (.string x)
abbrev eL {α:Type}(K:Nat)(E:α→V)(l:List α):V:= .row none K (l.map E)
def eG {α:Type}(l:List α)(i:Int):Option α:=if 0≤i then l[i.toNat]? else none
def sub {α:Type}(l:List α)(a b:Int):Option (List α):=if 0≤a∧a≤b∧b≤l.length then some ((l.take b.toNat).drop a.toNat)else none
def gM {α:Type}(by_:Nat)(l m:List α):Option (List α):=if(l.length+m.length)*by_≤gX then some (l++m)else none
def mks {α:Type}(by_:Nat)(z:α)(n:Int):Option (List α):=if 0≤n∧n.toNat*by_≤gX then some (aOU n.toNat z)else none
def cpy {α:Type}(l m:List α):List α:=m.take l.length++l.drop m.length
def quo (k:IntKind)(a b:Int):Option Int:=if b=0 then none else some (k.wrap (a.tdiv b))
def rem (a b:Int):Option Int:=if b=0 then none else some (a.tmod b)
def shl (k:IntKind)(a b:Int):Option Int:=if b<0 then none else some (k.wrap (a*2^(min b.toNat k.bits)))
def shr (k:IntKind)(a b:Int):Option Int:=if b<0 then none else some (a.fdiv (2^(min b.toNat k.bits)))
inductive LR (σ ρ:Type) where
 |brk (s:σ)
 |ret (r:ρ)
theorem aF {α β:Type}{o:Option α}{k:α→Option β}{r:β}(h:o.bind k=some r): ∃v,o=some v∧k v=some r:=by
 cases o with
 |none=>cases h
 |some v=>exact⟨v,rfl,h⟩
theorem dI {α:Type}{c:Bool}{a b:Option α}{r:α}(h:(if c=true then a else b)=some r)(hc:c=true):a=some r:=by subst hc;exact h
theorem dE {α:Type}{c:Bool}{a b:Option α}{r:α}(h:(if c=true then a else b)=some r)(hc:c=false):b=some r:=by subst hc;exact h
section
variable {P:Program}{O:mC}{ops:Array Oper}{l:List Oper}{n:Nat}{fr:List (Nat×V)}{h h':Hp}{K:List V→Hp→Prop}{op:Op}{ty:TypeId}{pos:String}{aft:Array Edge}{t:Nat}{v:V}{gd:Option (Nat×Bool)}
variable {o:Oper}
theorem aBF {j u:Nat}{want c:Bool}(hg:o.guard=some (j,want))(hj:(ops[j]?).bind (·.dst)=some u)(hl:aU n fr (.tmp u)=some (.sc (.bool c))):eC ops o (aE n fr)=some (c == want):=by
 have:=bQ hl
 simp only[ev]at this
 unfold eC
 rw[hg]
 simp only[hj,this,yV]
 cases c<;>cases want<;>rfl
variable {j u:Nat}{want c:Bool}{dd:Option Tmp}
theorem sv (hd:aQ P O ⟨dd,op,ty,pos,aft,none⟩ (aE n fr) h=some (v,h')):bA P O ops ⟨dd,op,ty,pos,aft,none⟩ (aE n fr) h=some (v,h'):=by simp only[bA,eC];exact hd
theorem svG (hj:(ops[j]?).bind (·.dst)=some u)(hl:aU n fr (.tmp u)=some (.sc (.bool c)))(hc:c=want)(hd:aQ P O ⟨dd,op,ty,pos,aft,some (j,want)⟩ (aE n fr) h=some (v,h')):bA P O ops ⟨dd,op,ty,pos,aft,some (j,want)⟩ (aE n fr) h=some (v,h'):=by
 subst hc
 simp only[bA,aBF (o:=⟨dd,op,ty,pos,aft,some (j,c)⟩) rfl hj hl,beq_self_eq_true]
 exact hd
theorem svX (hj:(ops[j]?).bind (·.dst)=some u)(hl:aU n fr (.tmp u)=some (.sc (.bool c)))(hc:c= !want):bA P O ops ⟨dd,op,ty,pos,aft,some (j,want)⟩ (aE n fr) h=some (.sc undef,h):=by
 subst hc
 simp only[bA,aBF (o:=⟨dd,op,ty,pos,aft,some (j,want)⟩) rfl hj hl]
 cases want<;>rfl
theorem svU (hj:(ops[j]?).bind (·.dst)=some u)(hl:aU n fr (.tmp u)=some (.sc undef)):bA P O ops ⟨dd,op,ty,pos,aft,some (j,want)⟩ (aE n fr) h=some (.sc undef,h):=by
 have:=bQ hl
 simp only[ev]at this
 have hw:eC ops ⟨dd,op,ty,pos,aft,some (j,want)⟩ (aE n fr)=some false:=by
  unfold eC
  simp only[hj,this]
  cases want<;>rfl
 simp only[bA,hw]
def OpsW (P:Program)(N:Nat)(ops:Array Oper)(l:List Oper)(s:List V)(h:Hp)(K:List V→Hp→Prop):Prop:=
 ∀(k:Nat),(∀j,l[j]? =ops[k+j]?)→ ∀(A:Nat→Prop)(M0 M:List (Option Nat))(h0:Hp)(w0:World)(a:Act)(w:World)(Q:Exit→Act→World→Prop),h0.length=N→M0.length=N→Grow A M0 h0 w0 M h w→Rel A M s h a w→
  (∀s' h' M' a' w',K s' h'→Grow A M0 h0 w0 M' h' w'→Rel A M' s' h' a' w'→Q .normal a' w')→wpOps P ops Q (aOl k l.length) a w
variable {N:Nat}{s s':List V}
theorem OpsW.nil (hk:K s h):OpsW P N ops [] s h K:=fun k _ A M0 M h0 w0 a w Q _ _ G R hQ=>by
 simp only[aOQ,List.range'_zero,wpOps]
 exact hQ s h M a w hk G R
theorem OpsW.cons (hO:mL P O)(hs:bA P O ops o s h=some (v,h'))(hk:OpsW P N ops l (c9 s o.dst v) h' K):OpsW P N ops (o::l) s h K:=fun k hl A M0 M h0 w0 a w Q hN hM G R hQ=>by
 have h0':ops[k]? =some o:=by simpa using (hl 0).symm
 simp only[aOZ,List.range'_succ]
 rw[wpOps_cons]
 refine mM hO R h0' (s':=c9 s o.dst v) (h':=h') (by rw[a6,hs];rfl) fun a' w' M' G' R'=> ?_
 exact hk (k+1) (fun j=>by have:=hl (j+1);simpa[Nat.add_assoc,aO6 1 j]using this) A M0 M' h0 w0 a' w' Q hN hM (G.trans G') R' hQ
theorem OpsW.ghost (hg:Ghost N s h s' h')(hk:OpsW P N ops l s' h' K):OpsW P N ops l s h K:=fun k hl A M0 M h0 w0 a w Q hN hM G R hQ=>by
 obtain⟨t,ht⟩:=G.pre
 have hle:N≤M.length:=by rw[←ht];simp[hM]
 obtain⟨M',h1,h2,h3⟩:=hg A M a w hle R
 refine hk k hl A M0 M' h0 w0 a w Q hN hM ⟨?_,h2.hr,G.ext,fun g hg hl=>G.live g hg (h3 g hl)⟩ h2 hQ
 have:M0=M'.take N:=by rw[h1,←ht,←hM];simp
 rw[this]
 exact aO9 _ _
theorem yM :mL P (fun _ _ _=>none):=fun _ _ _ _ _ hh=>by cases hh
abbrev O0 :mC:=fun _ _ _=>none
theorem wS (hs:bA P O0 ops ⟨some t,op,ty,pos,aft,gd⟩ (aE n fr) h=some (v,h'))(k:OpsW P N ops l (aE n ((t,v)::fr)) h' K):OpsW P N ops (⟨some t,op,ty,pos,aft,gd⟩::l) (aE n fr) h K:=
 OpsW.cons yM hs (by dsimp only;rw[aAe];exact k)
theorem wN (hs:bA P O0 ops ⟨none,op,ty,pos,aft,gd⟩ (aE n fr) h=some (v,h'))(k:OpsW P N ops l (aE n fr) h' K):OpsW P N ops (⟨none,op,ty,pos,aft,gd⟩::l) (aE n fr) h K:=
 OpsW.cons yM hs k
open Classical in
noncomputable def wK (f:FuncId)(h:Hp)(xs:List V)(r:V)(h':Hp):mC:=fun k h1 xs1=>if k=f∧h1=h∧xs1=xs then some (r,h')else none
theorem yR {f:FuncId}{xs:List V}{r:V}(hc:Fn P f h xs r h'):mL P (wK f h xs r h'):=fun k h1 xs1 r1 h2 hh=>by
 unfold wK at hh
 split at hh
 ·rename_i he
  obtain⟨rfl,rfl,rfl⟩:=he
  simp only[aOm,aOJ]at hh
  obtain⟨rfl,rfl⟩:=hh
  exact hc
 cases hh
theorem u6 {f:FuncId}{xs:List V}{r:V}:wK f h xs r h' f h xs=some (r,h'):=by simp[wK]
theorem AB.rw {Q:Ex→List V→Hp→Prop}{id:Nat}(hr:OpsW P N l.toArray l s h (Q .normal)):AB P N (.region id l.toArray false) Q s h:=by
 intro A M0 M h0 w0 a w hN hM G R
 refine wp_region ?_
 have:=hr 0 (fun j=>by simp) A M0 M h0 w0 a w (fun e a' w'=> ∃x s' h' M',e=Ex.toExit x∧Q x s' h'∧Grow A M0 h0 w0 M' h' w'∧Rel A M' s' h' a' w') hN hM G R (fun s' h' M' a' w' hk G' R'=>⟨.normal,s',h',M',rfl,hk,G',R'⟩)
 rw[List.range_eq_range']
 simpa using this
variable {d:Option Tmp}{g:Option (Nat×Bool)}{x y z:Operand}{a b:V}
theorem kP (hx:aU n fr x=some a):aQ P O ⟨d,.move x,ty,pos,aft,g⟩ (aE n fr) h=some (a,h):=by simp[aQ,bQ hx]
theorem kH (hx:aU n fr x=some a):aQ P O ⟨d,.assign x,ty,pos,aft,g⟩ (aE n fr) h=some (a,h):=by simp[aQ,bQ hx]
theorem aHA {c:Bool}(hz:aU n fr z=some (.sc (.bool c)))(hc:c=true)(hx:aU n fr x=some a):aQ P O ⟨d,.pick z x y,ty,pos,aft,g⟩ (aE n fr) h=some (a,h):=by subst hc;simp[aQ,bQ hx,bQ hz]
theorem aIb {c:Bool}(hz:aU n fr z=some (.sc (.bool c)))(hc:c=false)(hy:aU n fr y=some a):aQ P O ⟨d,.pick z x y,ty,pos,aft,g⟩ (aE n fr) h=some (a,h):=by subst hc;simp[aQ,bQ hy,bQ hz]
theorem gC {bo:BinOp}{t u:TypeId}(hx:aU n fr x=some a)(hy:aU n fr y=some b)(hv:b4 P bo t x y a b=some v):aQ P O ⟨d,.binOp bo t x y u,ty,pos,aft,g⟩ (aE n fr) h=some (v,h):=by simp[aQ,bQ hx,bQ hy,hv]
theorem yB {uo:UnOp}{t:TypeId}(hx:aU n fr x=some a)(hv:unV P uo a=some v):aQ P O ⟨d,.unOp uo t x,ty,pos,aft,g⟩ (aE n fr) h=some (v,h):=by simp[aQ,bQ hx,hv]
theorem xJ {t u:TypeId}(hx:aU n fr x=some a)(hv:oS P h t u a=some v):aQ P O ⟨d,.convert t u x,ty,pos,aft,g⟩ (aE n fr) h=some (v,h):=by simp[aQ,bQ hx,hv]
theorem aLD {e:TypeId}{i:Nat}(hx:aU n fr x=some a)(ho:a.flatOk=true)(hl:h.length=i)(hh:h++[some ⟨e,a.cells⟩]=h'):aQ P O ⟨d,.box e x,ty,pos,aft,g⟩ (aE n fr) h=some (.ptr i 0,h'):=by
 subst hl hh;simp[aQ,bQ hx,aCY,ho]
theorem gQ {e:TypeId}{i:Nat}{ti:TI}(ht:aD P e=some ti)(ho:(ti.zero.cells.toList.map cN).all V.one=true)(hl:h.length=i)(hh:h++[some ⟨e,ti.zero.cells.toList.map cN⟩]=h'):aQ P O ⟨d,.alloc e,ty,pos,aft,g⟩ (aE n fr) h=some (.ptr i 0,h'):=by
 subst hl hh
 simp only[aQ,xK,ht]
 rw[if_pos ho]
theorem eU {t:TypeId}(hx:aU n fr x=some a)(hv:e9 P t h a=some v):aQ P O ⟨d,.load t x,ty,pos,aft,g⟩ (aE n fr) h=some (v,h):=by simp[aQ,bQ hx,hv]
theorem cV {t:TypeId}(hx:aU n fr x=some a)(hy:aU n fr y=some b)(hv:nC P t h a b=some h'):aQ P O ⟨d,.store t x y,ty,pos,aft,g⟩ (aE n fr) h=some (.sc undef,h'):=by simp[aQ,bQ hx,bQ hy,hv]
theorem aJn {i o:Nat}(hx:aU n fr x=some (.ptr i o)):aQ P O ⟨d,.nilCheck x,ty,pos,aft,g⟩ (aE n fr) h=some (.ptr i o,h):=by simp[aQ,bQ hx,jK]
theorem aJw {es:List V}{i o:Nat}(hx:aU n fr x=some (.eptr es i o)):aQ P O ⟨d,.nilCheck x,ty,pos,aft,g⟩ (aE n fr) h=some (.eptr es i o,h):=by simp[aQ,bQ hx,jK]
theorem aJV {t:TypeId}{f:Nat}(hx:aU n fr x=some a)(hv:aL P t a f=some v):aQ P O ⟨d,.fieldAddr t x f,ty,pos,aft,g⟩ (aE n fr) h=some (v,h):=by simp[aQ,bQ hx,hv]
theorem aMn {t:TypeId}{f:Nat}(hx:aU n fr x=some a)(hv:sH P t a f=some v):aQ P O ⟨d,.field t x f,ty,pos,aft,g⟩ (aE n fr) h=some (v,h):=by simp[aQ,bQ hx,hv]
theorem aEW {t:TypeId}(hx:aU n fr x=some a)(hy:aU n fr y=some b)(hv:fX P t a b=some v):aQ P O ⟨d,.indexAddr t x y,ty,pos,aft,g⟩ (aE n fr) h=some (v,h):=by simp[aQ,bQ hx,bQ hy,hv]
theorem mV {t:TypeId}(hx:aU n fr x=some a)(hy:aU n fr y=some b)(hv:oV P t a b=some v):aQ P O ⟨d,.index t x y,ty,pos,aft,g⟩ (aE n fr) h=some (v,h):=by simp[aQ,bQ hx,bQ hy,hv]
theorem p7 {i:Nat}{vs:List V}(hx:aU n fr x=some (.tup vs))(hv:vs[i]? =some v):aQ P O ⟨d,.extract x i,ty,pos,aft,g⟩ (aE n fr) h=some (v,h):=by simp[aQ,bQ hx,uQ,hv]
theorem aJM {t:TypeId}(hx:aU n fr x=some a)(hy:aU n fr y=some b)(hv:vI P t a b h=some (v,h')):aQ P O ⟨d,.makeSlice t x y,ty,pos,aft,g⟩ (aE n fr) h=some (v,h'):=by simp[aQ,bQ hx,bQ hy,hv]
def lU (n:Nat)(fr:List (Nat×V)):List Operand→Option (List V)
 | []=>some []
 |o::os=>match aU n fr o,lU n fr os with
  |some x,some xs=>some (x::xs)
  |_,_=>none
theorem rP : ∀{os:List Operand}{xs:List V},lU n fr os=some xs→nH (aE n fr) os=some xs
 | [],xs,hh=>by simp only[lU,aOm]at hh;subst hh;rfl
 |o::os,xs,hh=>by
  simp only[lU]at hh
  split at hh
  ·rename_i x ys h1 h2
   injection hh with hh
   subst hh
   simp only[nH,aOM,bQ h1,aOA,aOG,aOH]
   have:=rP h2
   unfold nH at this
   rw[this];rfl
  cases hh
def uE (n:Nat)(fr:List (Nat×V)):List (Nat×Operand)→Option (List (Nat×V))
 | []=>some []
 |p::ps=>match aU n fr p.2,uE n fr ps with
  |some x,some xs=>some ((p.1,x)::xs)
  |_,_=>none
theorem wT : ∀{ps:List (Nat×Operand)}{xs:List (Nat×V)},uE n fr ps=some xs→nM (aE n fr) ps=some xs
 | [],xs,hh=>by simp only[uE,aOm]at hh;subst hh;rfl
 |p::ps,xs,hh=>by
  simp only[uE]at hh
  split at hh
  ·rename_i x ys h1 h2
   injection hh with hh
   subst hh
   simp only[nM,aOM,bQ h1,aOA,aOG,aOH,aOr]
   have:=wT h2
   unfold nM at this
   rw[this];rfl
  cases hh
def aGb (n:Nat)(fr:List (Nat×V)):Operand→Option V
 | .const (.slice none 0 0)=>some (.row none 1 [])
 |o=>(aU n fr o).map V.softA
theorem aHG {o:Operand}{x:V}(hh:aGb n fr o=some x):evB (aE n fr) o=some x:=by
 unfold aGb at hh
 split at hh
 ·exact hh
 rename_i hne
 simp only[aOv]at hh
 obtain⟨z,hz,rfl⟩:=hh
 have h2:=bQ hz
 unfold evB
 split
 ·exact(hne rfl).elim
 rw[h2];rfl
def mP (n:Nat)(fr:List (Nat×V)):List (Nat×Operand)→Option (List (Nat×V))
 | []=>some []
 |p::ps=>match aGb n fr p.2,mP n fr ps with
  |some x,some xs=>some ((p.1,x)::xs)
  |_,_=>none
theorem v6 : ∀{ps:List (Nat×Operand)}{xs:List (Nat×V)},mP n fr ps=some xs→oQ (aE n fr) ps=some xs
 | [],xs,hh=>by simp only[mP,aOm]at hh;subst hh;rfl
 |p::ps,xs,hh=>by
  simp only[mP]at hh
  split at hh
  ·rename_i x ys h1 h2
   injection hh with hh
   subst hh
   simp only[oQ,aOM,aHG h1,aOA,aOG,aOH,aOr]
   have:=v6 h2
   unfold oQ at this
   rw[this];rfl
  cases hh
theorem dD {t:TypeId}{ps:List (Nat×Operand)}{xs:List (Nat×V)}(hp:uE n fr ps=some xs)(hv:oZ P t xs=some v):aQ P O ⟨d,.build t ps.toArray,ty,pos,aft,g⟩ (aE n fr) h=some (v,h):=by
 simp[aQ,wT hp,hv]
theorem b8 {t:TypeId}{len:Nat}{ps:List (Nat×Operand)}{xs:List (Nat×V)}(hp:mP n fr ps=some xs)(hv:eO P t len xs h=some (v,h')):aQ P O ⟨d,.buildSlice t len ps.toArray,ty,pos,aft,g⟩ (aE n fr) h=some (v,h'):=by
 simp[aQ,v6 hp,hv]
def xE (n:Nat)(fr:List (Nat×V)):Option Operand→Option (Option V)
 |none=>some none
 |some o=>match aU n fr o with
  |some x=>some (some x)
  |none=>none
theorem aAo {o:Option Operand}{x:Option V}(hh:xE n fr o=some x):jY (aE n fr) o=some x:=by
 cases o with
 |none=>exact hh
 |some o=>
  simp only[xE]at hh
  split at hh
  ·rename_i y hy;injection hh with hh;subst hh;simp[jY,bQ hy]
  cases hh
theorem cK {t:TypeId}{lo hi:Option Operand}{vl vh:Option V}(hx:aU n fr x=some a)(h1:xE n fr lo=some vl)(h2:xE n fr hi=some vh)(hv:g8 P t h a vl vh=some v):aQ P O ⟨d,.slice t x lo hi none,ty,pos,aft,g⟩ (aE n fr) h=some (v,h):=by
 simp[aQ,bQ hx,aAo h1,aAo h2,hv]
theorem aGa {t:TypeId}{lo:Option Operand}{hi mx:Operand}{vl:Option V}{vh vm:V}(hx:aU n fr x=some a)(h1:xE n fr lo=some vl)(h2:aU n fr hi=some vh)(h3:aU n fr mx=some vm)(hv:pH P t a vl vh vm=some v):aQ P O ⟨d,.slice t x lo (some hi) (some mx),ty,pos,aft,g⟩ (aE n fr) h=some (v,h):=by
 simp[aQ,bQ hx,aAo h1,bQ h2,bQ h3,hv]
variable {ws:List Operand}{ts:List TypeId}{xs:List V}
theorem aE7 {t:TypeId}(hx:aU n fr x=some a)(hv:tQ P t a=some v):aQ P O ⟨d,.call ⟨.builtin .len,#[x],#[t]⟩,ty,pos,aft,g⟩ (aE n fr) h=some (v,h):=by
 have:nH (aE n fr) [x]=some [a]:=rP (by simp[lU,hx])
 simp[aQ,lD,this,hv]
theorem bH {t t':TypeId}(hx:aU n fr x=some a)(hy:aU n fr y=some b)(hv:fC P t t' a b h=some (v,h')):aQ P O ⟨d,.call ⟨.builtin .append,#[x,y],#[t,t']⟩,ty,pos,aft,g⟩ (aE n fr) h=some (v,h'):=by
 have:nH (aE n fr) [x,y]=some [a,b]:=rP (by simp[lU,hx,hy])
 simp[aQ,lD,this,hv]
theorem aJJ {t t':TypeId}(hx:aU n fr x=some a)(hy:aU n fr y=some b)(hv:yX P t a b h=some (v,h')):aQ P O ⟨d,.call ⟨.builtin .copy,#[x,y],#[t,t']⟩,ty,pos,aft,g⟩ (aE n fr) h=some (v,h'):=by
 have:nH (aE n fr) [x,y]=some [a,b]:=rP (by simp[lU,hx,hy])
 simp[aQ,lD,this,hv]
theorem nK {f:FuncId}{ts:Array TypeId}(hx:lU n fr ws=some xs)(hv:O f h xs=some (v,h')):aQ P O ⟨d,.call ⟨.value (.func f),ws.toArray,ts⟩,ty,pos,aft,g⟩ (aE n fr) h=some (v,h'):=by
 simp[aQ,lD,rP hx,hv]
theorem wC {N:Nat}{f:FuncId}{ts:Array TypeId}{K:List V→Hp→Prop}{l:List Oper}(hx:lU n fr ws=some xs)(hc:Fn P f h xs v h')(k:OpsW P N ops l (aE n ((t,v)::fr)) h' K):OpsW P N ops (⟨some t,.call ⟨.value (.func f),ws.toArray,ts⟩,ty,pos,aft,none⟩::l) (aE n fr) h K:=
 OpsW.cons (yR hc) (sv (nK hx u6)) (by dsimp only;rw[aAe];exact k)
theorem wCG {N:Nat}{f:FuncId}{ts:Array TypeId}{K:List V→Hp→Prop}{l:List Oper}{j u:Nat}{want c:Bool}(hj:(ops[j]?).bind (·.dst)=some u)(hl:aU n fr (.tmp u)=some (.sc (.bool c)))(hcw:c=want)(hx:lU n fr ws=some xs)(hc:Fn P f h xs v h')(k:OpsW P N ops l (aE n ((t,v)::fr)) h' K):OpsW P N ops (⟨some t,.call ⟨.value (.func f),ws.toArray,ts⟩,ty,pos,aft,some (j,want)⟩::l) (aE n fr) h K:=
 OpsW.cons (yR hc) (svG hj hl hcw (nK hx u6)) (by dsimp only;rw[aAe];exact k)
end
section
variable {P:Program}{h h':Hp}{t e:TypeId}{ti:TI}{B:Blk}{i off:Nat}{v x:V}{cs:List V}
theorem aCm (ht:aD P t=some ti)(hd:a7 ti.desc=false)(hc:cs.head? =some v):iG P t cs=some v:=by simp[iG,ht,hd,hc]
theorem aAS (ht:aD P t=some ti)(hd:a7 ti.desc=true){ds:List V}(hl:ti.size≤cs.length)(hc:cs.take ti.size=ds):iG P t cs=some (.agg ds):=by simp[iG,ht,hd,hl,hc]
theorem ldP (hb:h[i]? =some (some ⟨e,cs⟩))(hp:iG P t (cs.drop off)=some v):e9 P t h (.ptr i off)=some v:=by simp[e9,hb,hp]
theorem ldE {α:Type}{E:α→V}{l:List α}{y:α}(hi:l[i]? =some y)(hp:iG P t ((E y).cells.drop off)=some v):e9 P t h (.eptr (l.map E) i off)=some v:=by simp[e9,hi,hp]
theorem stP (ht:aD P t=some ti)(hb:h[i]? =some (some ⟨e,cs⟩))(h1:x.flatOk=true)(h2:x.cells.length=ti.size)(h3:off+ti.size≤cs.length)(h4:h.set i (some ⟨e,splice cs off x.cells⟩)=h'):nC P t h (.ptr i off) x=some h':=by
 subst h4
 simp only[nC,ht,hb]
 rw[if_pos ⟨h1,h2,h3⟩]
theorem aNh {fs:Array Field}{sz by_:Nat}{z:Value}{pl:Array (Nat×Nat)}{ps:List (Nat×V)}(ht:aD P t=some ⟨.struct fs,sz,by_,z⟩)(hp:pG P t=some pl)(hf:i6 (fun i=>pl[i]?) (z.cells.toList.map cN) ps=some cs):oZ P t ps=some (.agg cs):=by
 simp only[oZ,ht,hp]
 rw[hf];rfl
theorem jO {m sz by_:Nat}{z:Value}{ps:List (Nat×V)}(ht:aD P t=some ⟨.array m e,sz,by_,z⟩)(he:aD P e=some ti)(hf:i6 (fun i=>some (i*ti.size,ti.size)) (z.cells.toList.map cN) ps=some cs):oZ P t ps=some (.agg cs):=by
 simp only[oZ,ht,he]
 rw[hf];rfl
theorem aJq {sz by_ len:Nat}{z:Value}{ps:List (Nat×V)}{ag:Bool}(ht:aD P t=some ⟨.slice e,sz,by_,z⟩)(he:aD P e=some ti)(h1:len*ti.size≤2^24∧0<len∧0<ti.size)(hag:a7 ti.desc=ag)
  (hf:i6 (fun i=>some (i*ti.size,ti.size)) (((Array.range (len*ti.size)).map (ti.zero.cells[· % ti.zero.cells.size]!)).toList.map cN) ps=some cs) (h2:cs.all V.one=true∧cs.length=len*ti.size) (hl:h.length=i) (hh:h++[some ⟨e,cs⟩]=h'):
  eO P t len ps h=some (.sl i 0 len ti.size ag,h'):=by
 subst hl hh hag
 simp only[eO,ht,he]
 rw[if_pos h1]
 simp only[hf]
 rw[if_pos h2]
end
section
variable {P:Program}{h h':Hp}{t e:TypeId}{ti:TI}{i off b:Nat}{v:V}{α:Type}{E:α→V}{l m:List α}{y:α}{k:IntKind}{j:Int}{nl:Option Bool}{sz by_:Nat}{z:Value}{ag:Bool}
theorem mB (hx:eG l j=some y):0≤j∧j<l.length∧l[j.toNat]? =some y:=by
 unfold eG at hx
 split at hx
 ·have:=(aOh.1 hx).1
  exact⟨by assumption,by omega,hx⟩
 cases hx
theorem iaR (ht:aD P t=some ⟨.slice e,sz,by_,z⟩)(he:aD P e=some ti)(hx:eG l j=some y):fX P t (.row nl ti.size (l.map E)) (.sc (.int k j))=some (.eptr (l.map E) j.toNat 0):=by
 obtain⟨h1,h2,_⟩:=mB hx
 simp[fX,ht,kI,he,h1,h2]
theorem iaS {q:Nat}(hn:l.length=q)(ht:aD P t=some ⟨.slice e,sz,by_,z⟩)(he:aD P e=some ti)(h1:ti.size=1)(hx:eG l j=some y):fX P t (.sl b 0 q 1 ag) (.sc (.int k j))=some (.ptr b j.toNat):=by
 obtain⟨h2,h3,_⟩:=mB hx
 subst hn
 simp[fX,ht,kI,he,h1,h2,h3]
theorem ldX (ht:aD P t=some ti)(hd:a7 ti.desc=false)(hb:h[b]? =some (some ⟨e,l.map E⟩))(hx:eG l j=some y):e9 P t h (.ptr b j.toNat)=some (E y):=by
 obtain⟨_,_,h3⟩:=mB hx
 simp[e9,hb,iG,ht,hd,h3]
theorem ldR (hx:eG l j=some y)(hp:iG P t ((E y).cells.drop off)=some v):e9 P t h (.eptr (l.map E) j.toNat off)=some v:=ldE (mB hx).2.2 hp
theorem aA1 (i:Nat)(hi:i<l.length)(y:α):splice (l.map E) i [E y]=(l.set i y).map E:=by
 rw[List.map_set]
 unfold splice
 apply aOV
 intro m
 rw[List.getElem?_set]
 by_cases hm:i=m
 ·subst hm
  simp[List.getElem?_append,hi,aO1 (Nat.le_of_lt hi)]
 rcases aOz m i with h1|h1
 ·rw[aOj (by simp;omega),aOj (by simp;omega)]
  simp[hm,h1]
 rw[aOn (by simp;omega)]
 simp only[aOS,aOP,aPg,aOZ,aOQ,aOR,hm,if_false]
 congr 1;omega
theorem aM6 {w:α}(ht:aD P t=some ti)(hs:ti.size=1)(hb:h[b]? =some (some ⟨e,l.map E⟩))(hx:eG l j=some w)(ho:(E y).one=true)(hc:(E y).cells=[E y])(hh:h.set b (some ⟨e,(l.set j.toNat y).map E⟩)=h'):nC P t h (.ptr b j.toNat) (E y)=some h':=by
 obtain⟨_,h2,h3⟩:=mB hx
 have h4:=(aOh.1 h3).1
 subst hh
 simp only[nC,ht,hb]
 rw[if_pos ⟨by simp[V.flatOk,hc,ho],by simp[hc,hs],by rw[hs];simp;omega⟩,hc,aA1 _ h4]
theorem yA : ∀ns:List Int,kK (ns.map (eI .u8))=some ns
 | []=>rfl
 |n::ns=>by simp only[aOI,eI,kK];rw[show kK (List.map (fun x=>V.sc (Value.int aPh x)) ns)=some ns from yA ns];rfl
theorem aCj {a b':TypeId}{ns:List Int}{x:V}{sz1 by1 sz2 by2 sz3 by3 q:Nat}{z1 z2 z3:Value}(ha:aD P a=some ⟨.slice e,sz1,by1,z1⟩)(hb:aD P b'=some ⟨.string,sz2,by2,z2⟩)(he:aD P e=some ⟨.int .u8,sz3,by3,z3⟩)(hs:dY h 1 x=some (ns.map (eI .u8),q)):oS P h a b' x=some (.sc (.string (mO ns))):=by
 simp only[oS,jM,ha,hb,he,hs,yA,aOr]
theorem aNL (ht:aD P t=some ⟨.slice e,sz,by_,z⟩){k:Nat}:tQ P t (.row nl k (l.map E))=some (.sc (.int .i64 l.length)):=by simp[tQ,ht]
theorem aN2 (ht:aD P t=some ⟨.slice e,sz,by_,z⟩){k m:Nat}:tQ P t (.sl b off m k ag)=some (.sc (.int .i64 m)):=by simp[tQ,ht]
theorem aNk (ht:aD P t=some ⟨.string,sz,by_,z⟩){s:ByteArray}:tQ P t (.sc (.string s))=some (.sc (.int .i64 s.size)):=by simp[tQ,ht]
theorem fL {q:Nat}(hn:l.length=q)(ht:aD P t=some ⟨.slice e,sz,by_,z⟩)(he:aD P e=some ti)(h1:ti.zero.cells.size=1∧ti.size=1∧1≤ti.bytes)(hb:h[b]? =some (some ⟨e,l.map E⟩)){s:V}(hs:dY h 1 s=some (m.map E,m.length))
  {r:List α} (ha:gM ti.bytes l m=some r) (hl:h.length=i) (hh:h.set b none++[some ⟨e,r.map E⟩]=h'):fC P t t (.sl b 0 q 1 ag) s h=some (.sl i 0 r.length 1 ag,h'):=by
 obtain⟨h2,h3,h4⟩:=h1
 subst hn
 unfold gM at ha
 split at ha
 ·rename_i hlim
  injection ha with ha
  subst ha hl hh
  have hx:dY h ti.size s=some (m.map E,m.length):=by rw[h3];exact hs
  simp only[fC,ne_eq,not_true,if_false,ht,he]
  rw[if_pos ⟨by rw[h2,h3],by omega,h4⟩]
  simp only[hx,hb]
  rw[if_pos ⟨h3.symm,trivial,by simp,hlim⟩]
  simp[aOw]
 cases ha
theorem aNO (ht:aD P t=some ⟨.slice e,sz,by_,z⟩)(he:aD P e=some ti)(h1:ti.zero.cells.size=1∧ti.size=1∧1≤ti.bytes){s:V}(hs:dY h 1 s=some (m.map E,m.length))(hag:a7 ti.desc=ag){kk:Nat}
  {r:List α} (ha:gM ti.bytes [] m=some r) (hl:h.length+1=i) (hh:h++[none]++[some ⟨e,r.map E⟩]=h'):fC P t t (.row (some true) kk []) s h=some (.sl i 0 r.length 1 ag,h'):=by
 obtain⟨h2,h3,h4⟩:=h1
 unfold gM at ha
 split at ha
 ·rename_i hlim
  injection ha with ha
  subst ha hl hh hag
  have hx:dY h ti.size s=some (m.map E,m.length):=by rw[h3];exact hs
  simp only[fC,ne_eq,not_true,if_false,ht,he]
  rw[if_pos ⟨by rw[h2,h3],by omega,h4⟩]
  simp only[hx]
  rw[if_pos (by simpa using hlim)]
  simp[h3]
 cases ha
theorem aMU (ht:aD P t=some ⟨.slice e,sz,by_,z⟩)(he:aD P e=some ti)(h1:ti.zero.cells.size=1∧ti.size=1∧1≤ti.bytes)(hE: ∀x,(E x).cells=[E x]){s:V}(hs:dY h 1 s=some (m.map E,m.length))(hm:0<m.length)(hag:a7 ti.desc=ag)
  {r:List α} (ha:gM ti.bytes l m=some r) (hl:h.length=i) (hh:h++[some ⟨e,r.map E⟩]=h'):fC P t t (.row (some false) 1 (l.map E)) s h=some (.sl i 0 r.length 1 ag,h'):=by
 obtain⟨h2,h3,h4⟩:=h1
 have hf:(l.map E).flatMap V.cells=l.map E:=by
  clear ha
  induction l with
  |nil=>rfl
  |cons x l ih=>simp only[aOI,aO5,hE,ih];rfl
 unfold gM at ha
 split at ha
 ·rename_i hlim
  injection ha with ha
  subst ha hl hh hag
  have hx:dY h ti.size s=some (m.map E,m.length):=by rw[h3];exact hs
  simp only[fC,ne_eq,not_true,if_false,ht,he]
  rw[if_pos ⟨by rw[h2,h3],by omega,h4⟩]
  simp only[hx]
  rw[if_pos ⟨.inr h3.symm,hm,by simpa using hlim⟩]
  simp[h3,hf]
 cases ha
theorem mZ (hE: ∀x,(E x).cells=[E x]):dY h 1 (.row nl 1 (m.map E))=some (m.map E,m.length):=by
 have:(m.map E).flatMap V.cells=m.map E:=by
  induction m with
  |nil=>rfl
  |cons x m ih=>simp only[aOI,aO5,hE,ih];rfl
 simp only[dY]
 rw[if_pos (.inl trivial),this];simp
theorem k9 {q:Nat}(hn:m.length=q)(hb:h[b]? =some (some ⟨e,m.map E⟩)):dY h 1 (.sl b 0 q 1 ag)=some (m.map E,m.length):=by
 subst hn
 simp only[dY,hb]
 rw[if_pos ⟨trivial,by simp⟩];simp[aOw]
theorem aNX {kk:Nat}:dY h 1 (.row nl kk [])=some (([]:List α).map E,([]:List α).length):=by simp[dY]
theorem mkS {k1 k2:IntKind}{y:α}(ht:aD P t=some ⟨.slice e,sz,by_,z⟩)(he:aD P e=some ti)(h1:1≤ti.bytes∧ti.size=1∧ti.zero.cells.size=1)(hz:ti.zero.cells.toList.map (V.soft∘cN)=[E y])(ho:(E y).one=true)(hag:a7 ti.desc=ag){r:List α}
  (hm:mks ti.bytes y j=some r) (hl:h.length=i) (hh:h++[some ⟨e,r.map E⟩]=h'):vI P t (.sc (.int k1 j)) (.sc (.int k2 j)) h=some (.sl i 0 r.length 1 ag,h'):=by
 obtain⟨h2,h3,h4⟩:=h1
 unfold mks at hm
 split at hm
 ·rename_i hlim
  injection hm with hm
  subst hm hl hh hag
  simp only[vI,ht,he]
  rw[if_pos ⟨hlim.1,Int.le_refl _,hlim.2,h2,by omega,by rw[h4,h3],by rw[hz];simp[ho]⟩,hz]
  simp only[h3,ite_self]
  have: ∀n,(aOU n [E y]).flatten=(aOU n y).map E:=fun n=>by
   induction n with
   |zero=>rfl
   |succ n ih=>simp only[List.replicate_succ,List.flatten_cons,ih,aOI];rfl
  rw[this];simp
 cases hm
theorem aNQ {q:Nat}{e2:TypeId}(hn:l.length=q)(ht:aD P t=some ⟨.slice e,sz,by_,z⟩)(he:aD P e=some ti)(h1:ti.size=1)(hb:h[b]? =some (some ⟨e2,l.map E⟩)){s:V}(hs:dY h 1 s=some (m.map E,m.length))(hh:h.set b (some ⟨e2,(cpy l m).map E⟩)=h'):
  yX P t (.sl b 0 q 1 ag) s h=some (.sc (.int .i64 (min m.length l.length:Nat)),h'):=by
 subst hh hn
 simp only[yX,ht,he,h1,hs,hb]
 rw[if_pos ⟨trivial,by omega,by simp⟩]
 simp only[aOm,aOJ,true_and]
 congr 3
 unfold splice cpy
 simp only[List.map_append,aOY,aO3,List.take_zero,List.nil_append,Nat.zero_add,Nat.mul_one,aOP,aPg]
 congr 1
 ·rw[Nat.min_comm,←List.take_take,aOw (i:=m.length) (by simp)]
 rcases aO7 m.length l.length with hle|hle
 ·congr 1;omega
 rw[aO0 (by simp;omega),aO0 (by simp;omega)]
theorem rS (ht:aD P t=some ⟨.slice e,sz,by_,z⟩)(he:aD P e=some ti){lo hi:Option V}{a c:Int}{r:List α}(h1:i8 lo=some a)(h2:oB hi l.length=some c)(hs:sub l a c=some r):g8 P t h (.row nl ti.size (l.map E)) lo hi=some (.row (nlS nl) ti.size (r.map E)):=by
 unfold sub at hs
 split at hs
 ·rename_i hc
  injection hs with hs
  subst hs
  have h2':oB hi (l.map E).length=some c:=by simpa using h2
  simp only[g8,ht,he,h1,h2']
  rw[if_pos ⟨trivial,hc.1,hc.2.1,by simpa using hc.2.2⟩]
  simp[aOY,aO3]
 cases hs
end
section
variable {P:Program}{t e:TypeId}{ti:TI}{sz by_:Nat}{z:Value}{α:Type}{E:α→V}{l:List α}{nl:Option Bool}
theorem slM (ht:aD P t=some ⟨.slice e,sz,by_,z⟩)(he:aD P e=some ti){lo:Option V}{a c:Int}{k1 k2:IntKind}{r:List α}(h1:i8 lo=some a)(hs:sub l a c=some r):pH P t (.row nl ti.size (l.map E)) lo (.sc (.int k1 c)) (.sc (.int k2 c))=some (.row (some false) ti.size (r.map E)):=by
 unfold sub at hs
 split at hs
 ·rename_i hc
  injection hs with hs
  subst hs
  simp only[pH,ht,h1,kI,he]
  rw[if_pos ⟨trivial,hc.1,hc.2.1,trivial,by simpa using hc.2.2⟩]
  simp[aOY,aO3]
 cases hs
end
section
variable (P:Program)(t:TypeId)(xo yo:Operand)
theorem aHb {k:IntKind}{a b r:Int}(h:quo k a b=some r):b4 P .quo t xo yo (.sc (.int k a)) (.sc (.int k b))=some (.sc (.int k r)):=by
 rw[aII];unfold quo at h;split at h
 ·cases h
 rename_i hb;injection h with h;rw[if_neg hb,h]
theorem aG6 {k:IntKind}{a b r:Int}(h:rem a b=some r):b4 P .rem t xo yo (.sc (.int k a)) (.sc (.int k b))=some (.sc (.int k r)):=by
 rw[aHD];unfold rem at h;split at h
 ·cases h
 rename_i hb;injection h with h;rw[if_neg hb,h]
theorem aGw {k k':IntKind}{a b r:Int}(h:shl k a b=some r):b4 P .shl t xo yo (.sc (.int k a)) (.sc (.int k' b))=some (.sc (.int k r)):=by
 rw[aIv];unfold shl at h;split at h
 ·cases h
 rename_i hb;injection h with h;rw[if_neg hb,h]
theorem aGA {k k':IntKind}{a b r:Int}(h:shr k a b=some r):b4 P .shr t xo yo (.sc (.int k a)) (.sc (.int k' b))=some (.sc (.int k r)):=by
 rw[aIn];unfold shr at h;split at h
 ·cases h
 rename_i hb;injection h with h;rw[if_neg hb,h]
end
section
variable {P:Program}{N n:Nat}{Q:Ex→List V→Hp→Prop}{s:List V}{h h':Hp}{fr:List (Nat×V)}
theorem AB.cnd {c:Operand}{x y:Code}{t:Bool}(hc:aU n fr c=some (.sc (.bool t)))(h1:t=true→AB P N x Q (aE n fr) h)(h2:t=false→AB P N y Q (aE n fr) h):AB P N (.cond c x y) Q (aE n fr) h:=AB.cond (bQ hc) h1 h2
def cO :Nat→List V→List (Nat×V)
 |_,[]=>[]
 |i,x::xs=>(i,x)::cO (i+1) xs
theorem z8 : ∀{xs:List V}{i t:Nat}{y:V},look (cO i xs) t=some y→i≤t∧xs[t-i]? =some y
 | [],i,t,y,hy=>by cases hy
 |x::xs,i,t,y,hy=>by
  simp only[cO,look]at hy
  cases hb:aOT i t with
  |true=>
   rw[hb]at hy
   have:=aOy hb
   subst this
   simp only[cond_true,aOm]at hy
   subst hy
   simp
  |false=>
   rw[hb]at hy
   obtain⟨h1,h2⟩:=z8 (xs:=xs) (i:=i+1) hy
   refine⟨by omega, ?_⟩
   rw[show t-i=(t-(i+1))+1 by omega]
   simpa using h2
def Done (P:Program)(fn:Func)(N:Nat)(r:V)(h':Hp):Ex→List V→Hp→Prop:=fun x s h=>(∀id,x≠ .exit id)∧ ∃r1,lX P fn s h=some r1∧Ghost N (aE 1 [(0,r1)]) h (aE 1 [(0,r)]) h'
theorem aEY {f:FuncId} {fn:Func} {c:Code} {args:List V} {r:V} (hf:P.funcs[f]? =some fn) (hb:fn.body=some c) (hn:(fn.name == "runtime.NumGoroutine")=false) (hnt:fn.ntmps=n) (hal:args.length≤n) (hN:h.length=N) (hfr:cO 0 args=fr)
  (hh:AB P N c (Done P fn N r h') (aE n fr) h):Fn P f h args r h':=by
 intro A M w vs H hargs
 refine .inl ⟨kC hf (by rw[hb];rfl) hn _ _,calls_of_wp hf hb ?_⟩
 have R0:=aBQ (fn:=fn) H hargs
 have R1:Rel A M (aE n fr) h {tmps:=vs.toArray++Array.replicate (fn.ntmps-vs.toArray.size) undef,defers:=[]} w:=by
  refine⟨R0.hr,⟨?_,fun t x hx=> ?_⟩,R0.defers⟩
  ·rw[gO,←R0.sr.len]
   simp[rR,hnt];omega
  have ht:t<n:=by have:=(List.getElem?_eq_some_iff.1 hx).1;rw[gO]at this;exact this
  rw[mJ ht]at hx
  injection hx with hx
  cases hl:look fr t with
  |none=>rw[hl]at hx;subst hx;unfold VR;trivial
  |some z=>
   rw[hl]at hx
   subst hx hfr
   obtain⟨_,h2⟩:=z8 hl
   refine R0.sr.val t z ?_
   unfold rR
   rw[List.getElem?_append_left (by have:=(List.getElem?_eq_some_iff.1 h2).1;omega)]
   simpa using h2
 refine Code.wp_mono (fun e a' w' ⟨x,s1,h1,M1,he,⟨hx,r1,hres,hg⟩,G,R2⟩=> ?_) (hh A M M h w _ w hN (by rw[H.len];exact hN) (Grow.refl H) R1)
 subst he
 obtain⟨t,ht⟩:=G.pre
 have hMN:M.length=N:=by rw[H.len];exact hN
 obtain⟨v,hv,hr⟩:=aAC R2 hres
 have Rv:Rel A M1 (aE 1 [(0,r1)]) h1 {tmps:= #[v],defers:=[]} w':=⟨R2.hr,⟨rfl,fun t x hx=>by
  cases t with
  |zero=>simp[aE,look]at hx;subst hx;exact hr
  |succ t=>rw[List.getElem?_eq_none (by rw[gO];omega)]at hx;cases hx⟩,rfl⟩
 obtain⟨M',e1,R3,l3⟩:=hg A M1 _ w' (by rw[←ht];simp[hMN]) Rv
 have hr':VR (Xs A M' h') M' w' r v:=R3.sr.val 0 r rfl
 have G':Grow A M h w M' h' w':=⟨by
  have:M=M'.take N:=by rw[e1,←ht,←hMN];simp
  rw[this]
  exact List.take_prefix _ _,R3.hr,G.ext,fun g hg hl=>G.live g hg (l3 g hl)⟩
 cases x with
 |normal=>exact⟨R2.defers,v,hv,v,rfl,M',G',hr'⟩
 |ret=>exact⟨R2.defers,v,hv,v,rfl,M',G',hr'⟩
 |exit id=>exact absurd rfl (hx id)
theorem lW {fn:Func}{r r1:V}(hr:lX P fn s h=some r1)(hg:Ghost N (aE 1 [(0,r1)]) h (aE 1 [(0,r)]) h'):Done P fn N r h' .ret s h:=⟨fun id hh=>(by cases hh),r1,hr,hg⟩
theorem aBz {fn:Func}{r r1:V}(hr:lX P fn s h=some r1)(hg:Ghost N (aE 1 [(0,r1)]) h (aE 1 [(0,r)]) h'):Done P fn N r h' .normal s h:=⟨fun id hh=>(by cases hh),r1,hr,hg⟩
variable {fn:Func}
theorem rvT {t:Nat}{x:V}(hx:aU n fr (.tmp t)=some x):fP P (aE n fr) h (.tmp t)=some x:=bQ hx
theorem rvC {t:Nat}{ty:TypeId}{v:V}{i o:Nat}(hx:aU n fr (.tmp t)=some (.ptr i o))(hv:e9 P ty h (.ptr i o)=some v):fP P (aE n fr) h (.cell t ty)=some v:=by
 have:=bQ hx
 simp only[ev]at this
 simp[fP,this,jK,hv]
theorem aEx {a:ResultVar}{x:V}(hr:fn.results= #[a])(h1:fP P s h a=some x):lX P fn s h=some x:=by simp[lX,hr,h1]
theorem bI {a b:ResultVar}{x y:V}(hr:fn.results= #[a,b])(h1:fP P s h a=some x)(h2:fP P s h b=some y):lX P fn s h=some (.tup [x,y]):=by simp[lX,hr,h1,h2]
theorem mW {a b c:ResultVar}{x y z:V}(hr:fn.results= #[a,b,c])(h1:fP P s h a=some x)(h2:fP P s h b=some y)(h3:fP P s h c=some z):lX P fn s h=some (.tup [x,y,z]):=by simp[lX,hr,h1,h2,h3]
end
theorem kZ {α:Type}{E:α→V}{f:Nat→Nat}(hE: ∀x,(E x).rn f=E x): ∀l:List α,V.rns f (l.map E)=l.map E
 | []=>rfl
 |x::l=>by simp[V.rns,hE,kZ hE l]
theorem uJ {α:Type}{E:α→V}{f:Nat→Nat}{vn:Nat→Bool}(hE: ∀x,(E x).rn f=E x)(l:List α):V.les vn (l.map E) (V.rns f (l.map E)):=by rw[kZ hE];exact V.les_refl _ _
theorem V.le_agg {vn:Nat→Bool}{cs ds:List V}(h:V.les vn cs ds):V.le vn (.agg cs) (.agg ds):=by unfold V.le;exact h
theorem V.le_tup {vn:Nat→Bool}{cs ds:List V}(h:V.les vn cs ds):V.le vn (.tup cs) (.tup ds):=by unfold V.le;exact h
theorem V.les_nil {vn:Nat→Bool}:V.les vn [] []:=by unfold V.les;trivial
theorem V.les_cons {vn:Nat→Bool}{c d:V}{cs ds:List V}(h:V.le vn c d)(k:V.les vn cs ds):V.les vn (c::cs) (d::ds):=by unfold V.les;exact⟨h,k⟩
theorem bS {α:Type}(l:List α)(i:Nat)(x:α):(l.set i x).length=l.length:=aPf
theorem bT {α:Type}(l m:List α):(cpy l m).length=l.length:=by simp[cpy];omega
section
variable {P:Program}{f:FuncId}{h hb hb' hs hs':Hp}{xs args:List V}{r v:V}
theorem jP (h o:Hp):dB h [] o=h:=by cases h<;>cases o<;>rfl
theorem Fn.pure (hc:Fn P f [] xs r [])(hx:V.rns (sg [] h.length) xs=xs)(hr:r.rn (sg [] h.length)=r):Fn P f h xs r h:=by
 have:=Fn.frame (hb:=h) hc [] rfl (by simp) (by simp) (fun i b hi=>by simp at hi)
 rw[hx,hr]at this
 simpa[iH,jP,kQ]using this
def Lend (σ:Nat→Nat)(hb:Hp):List Nat→Hp→Prop
 | [],[]=>True
 |b::ρ,none::hs=>hb[b]? =some none∧Lend σ hb ρ hs
 |b::ρ,some B::hs=>(∃cs,hb[b]? =some (some ⟨B.e,cs⟩)∧V.rns σ B.cells=cs)∧Lend σ hb ρ hs
 |_,_=>False
theorem Lend.nil {σ:Nat→Nat}:Lend σ hb [] []:=trivial
theorem Lend.cons {σ:Nat→Nat}{b:Nat}{ρ:List Nat}{e:TypeId}{cs ds:List V}(h1:hb[b]? =some (some ⟨e,ds⟩))(h2:V.rns σ cs=ds)(k:Lend σ hb ρ hs):Lend σ hb (b::ρ) (some ⟨e,cs⟩::hs):=⟨⟨ds,h1,h2⟩,k⟩
theorem Lend.len {σ:Nat→Nat}: ∀{ρ:List Nat}{hs:Hp},Lend σ hb ρ hs→ρ.length=hs.length
 | [],[],_=>rfl
 |_::ρ,none::hs,hh=>by simp[Lend.len (ρ:=ρ) hh.2]
 |_::ρ,some B::hs,hh=>by simp[Lend.len (ρ:=ρ) hh.2]
 | [],_::_,hh=>hh.elim
 |_::_,[],hh=>hh.elim
theorem Lend.get {σ:Nat→Nat}: ∀{ρ:List Nat}{hs:Hp},Lend σ hb ρ hs→ ∀(i b:Nat),ρ[i]? =some b→hb[b]? =(kQ σ hs)[i]?
 | [],[],_,i,b,hi=>by simp at hi
 |c::ρ,none::hs,hh,0,b,hi=>by simp at hi;subst hi;simpa[kQ]using hh.1
 |c::ρ,none::hs,hh,i+1,b,hi=>by
  have:=Lend.get hh.2 i b (by simpa using hi)
  simpa[kQ]using this
 |c::ρ,some B::hs,hh,0,b,hi=>by
  simp at hi;subst hi
  obtain⟨cs,h1,h2⟩:=hh.1
  rw[h1,←h2];simp[kQ,Blk.rn]
 |c::ρ,some B::hs,hh,i+1,b,hi=>by
  have:=Lend.get hh.2 i b (by simpa using hi)
  simpa[kQ]using this
 | [],_::_,hh,_,_,_=>hh.elim
 |_::_,[],hh,_,_,_=>hh.elim
theorem Fn.lendB (hc:Fn P f hs args r hs')(ρ:List Nat)(hnd:ρ.Nodup)(hlt:ρ.all (fun b=>aPi b hb.length)=true)(hl:Lend (sg ρ hb.length) hb ρ hs)(hx:V.rns (sg ρ hb.length) args=xs)(hr:r.rn (sg ρ hb.length)=v)(hh:iH hb ρ hs'=hb'):Fn P f hb xs v hb':=by
 have:=Fn.frame (hb:=hb) hc ρ hl.len hnd (fun b hb'=>by
  have h2:=aOg.1 hlt b hb'
  exact aOE (n:=b+1) h2) hl.get
 rw[hx,hr,hh]at this
 exact this
theorem aFO {X:Nat→Prop}{M:List (Option Nat)}{w:World}{vs:List Value}(hl:V.les j7 xs args)(hv:VCells X M w xs vs):VCells X M w args vs:=V.les_sound (fun _ hb=>by cases hb) _ _ _ hl hv
theorem Fn.argsLe (hc:Fn P f h args r hb)(hl:V.les j7 xs args):Fn P f h xs r hb:=fun A M w vs H hv=>hc A M w vs H (aFO hl hv)
theorem Fn.virt {e:TypeId}(hc:Fn P f (h++[some ⟨e,[]⟩]) args r hb)(hl:V.les (fun b=>aOT b h.length) xs args):Fn P f h xs r hb:=by
 intro A M w vs H hv
 have G:=Grow.virt H e
 have hM:=H.len
 have hvn: ∀b,aOT b h.length=true→(M++[none])[b]? =some none:=fun b hb=>by
  have:=aOy hb
  subst this
  rw[←hM];simp
 have hv':VCells (Xs A (M++[none]) (h++[some ⟨e,[]⟩])) (M++[none]) w args vs:=V.les_sound hvn _ _ _ hl (VCells.mk hv.len (fun i c v hc hv'=>by
  obtain⟨u,hu,hr⟩:=hv.get hc
  rw[hv']at hu;injection hu with hu;subst hu
  exact G.keep hr))
 exact(hc A _ w vs G.hr hv').mono fun v w' ⟨M',G',hr⟩=>⟨M',G.trans G',hr⟩
end
@[simp] theorem jJ {f:Nat→Nat}{k:IntKind}(l:List Int):V.rns f (l.map (eI k))=l.map (eI k):=kZ (fun _=>rfl) l
@[simp] theorem jI {f:Nat→Nat}(l:List Bool):V.rns f (l.map eB)=l.map eB:=kZ (fun _=>rfl) l
@[simp] theorem tY {f:Nat→Nat}(l:List ByteArray):V.rns f (l.map eS)=l.map eS:=kZ (fun _=>rfl) l
@[simp] theorem uC {α:Type}{f:Nat→Nat}{K:Nat}{E:α→V}(l:List (List α)):V.rns f (l.map (eL K E))=l.map (eL K E):=kZ (fun _=>rfl) l
theorem all_map {α:Type}{E:α→V}(hE: ∀x,(E x).one=true)(l:List α):(l.map E).all V.one=true:=by simp[aOg,hE]
mutual
def V.rf :V→Bool
 | .sc _=>true
 | .row _ _ es=>es.isEmpty
 | .ptr _ _=>true
 | .mp _=>true
 | .sl _ _ _ _ _=>true
 | .agg cs=>V.rfs cs
 | .tup cs=>V.rfs cs
 | .eptr _ _ _=>false
 | .any=>true
def V.rfs :List V→Bool
 | []=>true
 |c::cs=>c.rf&&V.rfs cs
end
section
variable {X X':Nat→Prop}{M:List (Option Nat)}{w:World}
mutual
theorem VR.rf : ∀(x:V)(v:Value),x.rf=true→VR X M w x v→VR X' M w x v
 | .sc _,v,_,h=>by unfold VR at h ⊢; exact h
 | .any,v,_,_=>by unfold VR;trivial
 | .row nil k es,v,hr,h=>by
  unfold V.rf at hr
  have:es=[]:=by simpa using hr
  subst this
  unfold VR at h⊢
  obtain⟨a,cap,h1,h2,h3,h4,h5,h6⟩:=h
  exact⟨a,cap,h1,h2,h3,h4,h5,fun hne=>absurd rfl hne⟩
 | .ptr _ _,v,_,h=>by unfold VR at h ⊢; exact h
 | .mp _,v,_,h=>by unfold VR at h ⊢; exact h
 | .sl _ _ _ _ _,v,_,h=>by unfold VR at h ⊢; exact h
 | .agg cs,v,hr,h=>by
  unfold V.rf at hr
  unfold VR at h⊢
  obtain⟨vs,h1,h2⟩:=h
  exact⟨vs,h1,VCells.rf cs vs hr h2⟩
 | .tup cs,v,hr,h=>by
  unfold V.rf at hr
  unfold VR at h⊢
  obtain⟨vs,h1,h2⟩:=h
  exact⟨vs,h1,VCells.rf cs vs hr h2⟩
 | .eptr _ _ _,v,hr,_=>by unfold V.rf at hr;cases hr
theorem VCells.rf : ∀(cs:List V)(vs:List Value),V.rfs cs=true→VCells X M w cs vs→VCells X' M w cs vs
 | [],vs,_,h=>by unfold VCells at h ⊢; exact h
 |c::cs,vs,hr,h=>by
  unfold V.rfs at hr
  simp only[aOs]at hr
  unfold VCells at h⊢
  obtain⟨v,rest,h1,h2,h3⟩:=h
  exact⟨v,rest,h1,VR.rf c v hr.1 h2,VCells.rf cs rest hr.2 h3⟩
end
end
theorem yW {α:Type}{E:α→V}(hE: ∀x,(E x).rf=true): ∀l:List α,V.rfs (l.map E)=true
 | []=>by simp[V.rfs]
 |x::l=>by simp[V.rfs,hE,yW hE l]
mutual
theorem V.rf_rn (f:Nat→Nat): ∀x:V,(x.rn f).rf=x.rf
 | .sc _=>by unfold V.rn;rfl
 | .any=>by unfold V.rn;rfl
 | .row _ _ _=>by unfold V.rn;rfl
 | .ptr _ _=>by unfold V.rn;rfl
 | .mp _=>by unfold V.rn;rfl
 | .sl _ _ _ _ _=>by unfold V.rn;rfl
 | .eptr _ _ _=>by unfold V.rn;rfl
 | .agg cs=>by unfold V.rn;simp only[V.rf];exact V.rfs_rn f cs
 | .tup cs=>by unfold V.rn;simp only[V.rf];exact V.rfs_rn f cs
theorem V.rfs_rn (f:Nat→Nat): ∀cs:List V,V.rfs (V.rns f cs)=V.rfs cs
 | []=>by unfold V.rns;rfl
 |c::cs=>by unfold V.rns;simp only[V.rfs];rw[V.rf_rn f c,V.rfs_rn f cs]
end
def sV (β:List Nat):Nat→Hp→Hp
 |_,[]=>[]
 |i,o::h=>(bif β.elem i then o else none)::sV β (i+1) h
def only (β:List Nat)(h:Hp):Hp:=sV β 0 h
theorem aB1 (β:List Nat): ∀(h:Hp)(i j:Nat),(sV β i h)[j]? =(h[j]?).map fun o=>bif β.elem (i+j)then o else none
 | [],i,j=>by simp[sV]
 |o::h,i,0=>by simp[sV]
 |o::h,i,j+1=>by
  simp only[sV,aOo]
  rw[aB1 β h (i+1) j]
  simp[Nat.add_assoc,aO6 1 j]
theorem lY {β:List Nat}{h:Hp}{j:Nat}{B:Blk}(hj:(only β h)[j]? =some (some B)):j∈β∧h[j]? =some (some B):=by
 unfold only at hj
 rw[aB1]at hj
 cases ho:h[j]? with
 |none=>rw[ho]at hj;cases hj
 |some o=>
  rw[ho]at hj
  simp only[Nat.zero_add,aOr,aOm]at hj
  cases he:β.elem j with
  |false=>rw[he]at hj;cases hj
  |true=>rw[he]at hj;simp only[cond_true]at hj;subst hj;exact⟨List.elem_iff.1 he,rfl⟩
theorem aGk (β:List Nat)(h:Hp):(only β h).length=h.length:=by
 have: ∀(h:Hp)(i:Nat),(sV β i h).length=h.length:=by
  intro h
  induction h with
  |nil=>intro i;rfl
  |cons o h ih=>intro i;simp[sV,ih]
 exact this h 0
theorem HR.only {A A2:Nat→Prop}{M:List (Option Nat)}{h:Hp}{w:World}(H:HR A M h w)(β:List Nat)(h1: ∀g,A2 g→g<w.heap.size)(h2: ∀(b:Nat) (B:Blk) (g:Nat),b∈β→h[b]? =some (some B)→M[b]? =some (some g)→ ¬A2 g)
  (h3: ∀g,Xs A2 M (Vm.only β h) g→Xs A M h g):HR A2 M (Vm.only β h) w:=by
 refine⟨by rw[aGk];exact H.len,h1,fun b B hb=> ?_,fun b b' B B' g hb hb'=>H.inj b b' B B' g (lY hb).2 (lY hb').2,H.glob.avoid fun g _ hx=>h3 g hx⟩
 obtain⟨hm,hb'⟩:=lY hb
 obtain⟨k0,hn|⟨g,cs,hg,hA,hh,hle,hcs⟩⟩:=H.blk b B hb'
 ·exact⟨k0,.inl hn⟩
 exact⟨k0,.inr ⟨g,cs,hg,h2 b B g hm hb' hg,hh,hle,hcs.avoid (fun g _ hx=>h3 g hx)⟩⟩
def Brw (σ:Nat→Nat)(hE:Hp):List V→List V→Prop
 | [],[]=>True
 |x::xs,y::ys=>(V.le j7 x (y.rn σ)∨ ∃z,qG hE x=some z∧V.le j7 z y)∧Brw σ hE xs ys
 |_,_=>False
theorem Brw.nil {σ:Nat→Nat}{hE:Hp}:Brw σ hE [] []:=trivial
theorem Brw.same {σ:Nat→Nat}{hE:Hp}{x y:V}{xs ys:List V}(h:y.rn σ=x)(k:Brw σ hE xs ys):Brw σ hE (x::xs) (y::ys):=⟨.inl (by rw[h];exact V.le_refl _ _),k⟩
theorem Brw.le {σ:Nat→Nat}{hE:Hp}{x y:V}{xs ys:List V}(h:V.le j7 x (y.rn σ))(k:Brw σ hE xs ys):Brw σ hE (x::xs) (y::ys):=⟨.inl h,k⟩
theorem Brw.row {σ:Nat→Nat}{hE:Hp}{x y:V}{xs ys:List V}(h:qG hE x=some y)(k:Brw σ hE xs ys):Brw σ hE (x::xs) (y::ys):=⟨.inr ⟨y,h,V.le_refl _ _⟩,k⟩
theorem aEr {α:Type}{E:α→V}{F:V→Option V}(hE: ∀x,F (E x)=some (E x)): ∀l:List α,(l.map E).mapM F=some (l.map E)
 | []=>rfl
 |x::l=>by
  simp only[aOI,aOM,hE,aOA,aOG,aEr hE l,aOH]
theorem aJQ {α:Type}{E:α→V}{l:List α}{hE:Hp}{b q d:Nat}{e:TypeId}(hn:l.length=q)(hb:hE[b]? =some (some ⟨e,l.map E⟩))(hx: ∀x,cQ hE d (E x)=some (E x)):cQ hE (d+1) (.sl b 0 q 1 false)=some (.row none 1 (l.map E)):=by
 subst hn
 simp only[cQ,hb]
 rw[if_pos ⟨by simp,by omega,.inr trivial⟩]
 simp only[List.drop_zero,Nat.mul_one]
 rw[aOw (by simp),aEr hx]
 simp[mE]
theorem aHE {α:Type}{E:α→V}{l:List α}{hE:Hp}{b q:Nat}{e:TypeId}(hn:l.length=q)(hb:hE[b]? =some (some ⟨e,l.map E⟩))(hx: ∀x,cQ hE 3 (E x)=some (E x)):qG hE (.sl b 0 q 1 false)=some (.row none 1 (l.map E)):=aJQ hn hb hx
set_option maxHeartbeats 1000000 in
theorem Fn.borrow {P:Program}{f:FuncId}{hs hs' hb:Hp}{args xs:List V}{r:V}(hc:Fn P f hs args r hs')(ρ β:List Nat)(hlen:ρ.length=hs.length)(hnd:ρ.Nodup)(hlt: ∀b∈ρ,b<hb.length)(hdis: ∀b∈β,b∉ρ)
  (hlend: ∀i b:Nat,ρ[i]? =some b→hb[b]? =(kQ (sg ρ hb.length) hs)[i]?) (hx:Brw (sg ρ hb.length) (only β hb) xs args) (hrf:r.rf=true) (hrb: ∀(i:Nat)(B:Blk),hs'[i]? =some (some B)→V.rfs B.cells=true):
  Fn P f hb xs (r.rn (sg ρ hb.length)) (iH hb ρ hs'):=by
 intro A M w vs H hargs
 have hσ: ∀i b:Nat,ρ[i]? =some b→sg ρ hb.length i=b:=fun i b hi=>by simp[sg,hi]
 have hσ': ∀i,ρ.length≤i→sg ρ hb.length i=hb.length+(i-ρ.length):=fun i hi=>by simp[sg,hi]
 generalize hsg:sg ρ hb.length=σ at *
 let Ms:List (Option Nat):=ρ.map fun b=>(M[b]?).getD none
 have hMs: ∀i b:Nat,ρ[i]? =some b→Ms[i]? =M[b]? :=by
  intro i b hi
  have hb':b<M.length:=by rw[H.len];exact hlt b (aOp hi)
  simp only[Ms,aOL,hi,aOr]
  rw[aOk hb']
  rfl
 have hMslen:Ms.length=hs.length:=by simp[Ms,hlen]
 have hfrom: ∀b y,M[σ b]? =some y→Ms[b]? =some y:=by
  intro b y hy
  rcases aOz b ρ.length with hl|hl
  ·have hi:ρ[b]? =some ρ[b]:=aOk hl
   rw[hMs b _ hi,←hσ b _ hi];exact hy
  rw[hσ' b hl]at hy
  have:=(aOh.1 hy).1
  rw[H.len]at this;omega
 let A':Nat→Prop:=fun g=>A g∨ ∃b B,b∉ρ∧b∉β∧hb[b]? =some (some B)∧M[b]? =some (some g)
 have hin: ∀{i:Nat}{B:Blk},hs[i]? =some (some B)→ ∃b,ρ[i]? =some b∧hb[b]? =some (some (B.rn σ))∧Ms[i]? =M[b]? :=by
  intro i B hi
  have hl:i<ρ.length:=by rw[hlen];exact(aOh.1 hi).1
  have hr:ρ[i]? =some ρ[i]:=aOk hl
  refine⟨_,hr, ?_,hMs i _ hr⟩
  rw[hlend i _ hr,aBu,hi];rfl
 have hliveS: ∀g,bN Ms hs g→bN M hb g:=by
  rintro g ⟨i,B,hi,hm⟩
  obtain⟨b,_,hb1,hb2⟩:=hin hi
  exact⟨b,_,hb1,by rw[←hb2];exact hm⟩
 have hX1: ∀g,Xs A' Ms hs g→Xs A M hb g:=by
  rintro g ((ha|⟨b,B,_,_,hb1,hb2⟩)|hl)
  ·exact .inl ha
  ·exact .inr ⟨b,B,hb1,hb2⟩
  exact .inr (hliveS g hl)
 have hout: ∀{b:Nat}{B:Blk}{g:Nat},b∉ρ→hb[b]? =some (some B)→M[b]? =some (some g)→ ¬bN Ms hs g:=by
  rintro b B g hb0 hb1 hb2 ⟨i,C,hi,hm⟩
  obtain⟨c,hc0,hc1,hc2⟩:=hin hi
  have:=H.inj b c B _ g hb1 hc1 hb2 (by rw[←hc2];exact hm)
  subst this
  exact hb0 (aOp hc0)
 have hA': ∀{b:Nat}{B:Blk}{g:Nat},b∈β→hb[b]? =some (some B)→M[b]? =some (some g)→ ¬A' g:=by
  rintro b B g hbβ hb1 hb2 (ha|⟨c,C,hc0,hc3,hc1,hc2⟩)
  ·obtain⟨_,⟨hn,_⟩|⟨g',cs,hg',hA,_⟩⟩:=H.blk b B hb1
   ·rw[hb2]at hn;cases hn
   rw[hb2]at hg';injection hg' with hg';injection hg' with hg';subst hg';exact hA ha
  have:=H.inj b c B C g hb1 hc1 hb2 hc2
  subst this;exact hc3 hbβ
 have HS:HR A' Ms hs w:=by
  refine⟨hMslen, ?_, ?_, ?_,H.glob.avoid fun g _ hx=>hX1 g hx⟩
  ·rintro g (ha|⟨b,B,_,_,hb1,hb2⟩)
   ·exact H.alt g ha
   exact H.lt (.inr ⟨b,B,hb1,hb2⟩)
  ·intro i B hi
   obtain⟨b,hb0,hb1,hb2⟩:=hin hi
   obtain⟨h1,h2⟩:=H.blk b _ hb1
   refine⟨V.one_rns h1, ?_⟩
   rcases h2 with⟨hn,hc0⟩|⟨g,cs,hg,hA,hh,hle,hcs⟩
   ·refine .inl ⟨by rw[hb2];exact hn, ?_⟩
    have:=congrArg aPe hc0
    simp only[Blk.rn,V.rns_length,aOQ]at this
    exact aOq this
   refine .inr ⟨g,cs,by rw[hb2];exact hg, ?_,by simpa[Blk.rn,V.rns_length]using hh, ?_, ?_⟩
   ·rintro(ha|⟨c,C,hc0,_,hc1,hc2⟩)
    ·exact hA ha
    have:=H.inj b c _ C g hb1 hc1 hg hc2
    subst this
    exact hc0 (aOp hb0)
   ·simpa[Blk.rn,V.rns_length]using hle
   have hcs':VCells (Xs A M hb) M w (V.rns σ B.cells) (cs.toList.take B.cells.length):=by simpa[Blk.rn,V.rns_length]using hcs
   exact(VCells.rn_from hfrom _ _ hcs').avoid (fun g _ hx=>hX1 g hx)
  intro i j B C g hi hj mi mj
  obtain⟨b,hb0,hb1,hb2⟩:=hin hi
  obtain⟨c,hc0,hc1,hc2⟩:=hin hj
  have:=H.inj b c _ _ g hb1 hc1 (by rw[←hb2];exact mi) (by rw[←hc2];exact mj)
  subst this
  have hil:=(aOh.1 hb0).1
  exact(aO4 hil hnd).1 (hb0.trans hc0.symm)
 have HB:HR (Xs A' Ms hs) M (only β hb) w:=by
  refine H.only β (fun g hg=>HS.lt hg) ?_ ?_
  ·rintro b B g hbβ hb1 hb2 (ha|hl)
   ·exact hA' hbβ hb1 hb2 ha
   exact hout (hdis b hbβ) hb1 hb2 hl
  rintro g (hx|⟨b,B,hb1,hb2⟩)
  ·exact hX1 g hx
  exact .inr ⟨b,B,(lY hb1).2,hb2⟩
 have hargsS:VCells (Xs A' Ms hs) Ms w args vs:=by
  have key: ∀(xs args:List V)(vs:List Value),Brw σ (only β hb) xs args→VCells (Xs A M hb) M w xs vs→VCells (Xs A' Ms hs) Ms w args vs:=by
   intro xs
   induction xs with
   |nil=>
    intro args vs hx hv
    cases args with
    |nil=>unfold VCells at hv ⊢; exact hv
    |cons=>exact hx.elim
   |cons x xs ih=>
    intro args vs hx hv
    cases args with
    |nil=>exact hx.elim
    |cons y ys=>
     unfold VCells at hv⊢
     obtain⟨v,rest,e1,e2,e3⟩:=hv
     refine⟨v,rest,e1, ?_,ih ys rest hx.2 e3⟩
     rcases hx.1 with hl|⟨z,hz,hl⟩
     ·exact(VR.rn_from hfrom _ _ (V.le_sound (fun _ hb=>by cases hb) _ _ _ hl e2)).avoid (fun g _ hx=>hX1 g hx)
     have e2':VR (Xs (Xs A' Ms hs) M (only β hb)) M w x v:=e2.avoid (fun g _ hx=>by
      rcases hx with hx|⟨b,B,hb1,hb2⟩
      ·exact hX1 g hx
      exact .inr ⟨b,B,(lY hb1).2,hb2⟩)
     exact V.le_sound (fun _ hb=>by cases hb) _ _ _ hl (sP HB e2' hz).lift
  exact key xs args vs hx hargs
 refine(hc A' Ms w vs HS hargsS).mono fun v w' ⟨Ms',G,hv⟩=> ?_
 obtain⟨Mn,rfl⟩:=G.pre
 have hMnlen:hs'.length=ρ.length+Mn.length:=by rw[←G.hr.len];simp[Ms]
 have hto: ∀b y,(Ms++Mn)[b]? =some y→(M++Mn)[σ b]? =some y:=by
  intro b y hy
  rcases aOz b ρ.length with hl|hl
  ·have hi:ρ[b]? =some ρ[b]:=aOk hl
   rw[aOj (by rw[hMslen,←hlen];exact hl),hMs b _ hi]at hy
   rw[hσ b _ hi,aOj (by rw[H.len];exact hlt _ (aOp hi))]
   exact hy
  rw[aOn (by rw[hMslen,←hlen];exact hl),hMslen,←hlen]at hy
  rw[hσ' b hl,aOn (by rw[H.len];omega),H.len,show hb.length+(b-ρ.length)-hb.length=b-ρ.length by omega]
  exact hy
 have hlentlen:(dB hb ρ (kQ σ hs')).length=hb.length:=pK _ _ _
 have hrnlen:(kQ σ hs').length=hs'.length:=by simp[kQ]
 have hcase: ∀{b:Nat}{B:Blk},(iH hb ρ hs')[b]? =some (some B)→(b∉ρ∧hb[b]? =some (some B))∨ ∃i C,hs'[i]? =some (some C)∧b=σ i∧B=C.rn σ∧(M++Mn)[b]? =(Ms++Mn)[i]? :=by
  intro b B hb1
  unfold iH at hb1
  rw[hsg]at hb1
  rcases aOz b hb.length with hl|hl
  ·rw[aOj (by rw[hlentlen];exact hl)]at hb1
   by_cases hm:b∈ρ
   ·obtain⟨i,hi⟩:=aON.1 hm
    rw[uY hnd hlt (by rw[hrnlen];omega) hi]at hb1
    obtain⟨C,hC,hB⟩:=sN hb1
    have hil:=(aOh.1 hi).1
    refine .inr ⟨i,C,hC,(hσ i b hi).symm,hB, ?_⟩
    rw[aOj (by rw[H.len];exact hl),aOj (by rw[hMslen,←hlen];exact hil),hMs i b hi]
   rw[pS hm]at hb1
   exact .inl ⟨hm,hb1⟩
  rw[aOn (by rw[hlentlen];exact hl),hlentlen,aOR]at hb1
  obtain⟨C,hC,hB⟩:=sN hb1
  refine .inr ⟨_,C,hC, ?_,hB, ?_⟩
  ·rw[hσ' _ (by omega)];omega
  rw[aOn (by rw[H.len];exact hl),aOn (by rw[hMslen,←hlen];omega),H.len,hMslen,←hlen]
  congr 1;omega
 have hlive: ∀g,g<w.heap.size→bN (M++Mn) (iH hb ρ hs') g→bN M hb g:=by
  rintro g hg ⟨b,B,hb1,hb2⟩
  rcases hcase hb1 with⟨hb0,hb3⟩|⟨i,C,hC,rfl,rfl,he⟩
  ·refine⟨b,B,hb3, ?_⟩
   rw[aOj (by rw[H.len];exact(aOh.1 hb3).1)]at hb2
   exact hb2
  exact hliveS g (G.live g hg ⟨i,C,hC,by rw[←he];exact hb2⟩)
 have hnew: ∀{i:Nat}{C:Blk}{b:Nat}{B:Blk}{g:Nat},hs'[i]? =some (some C)→(Ms++Mn)[i]? =some (some g)→b∉ρ→hb[b]? =some (some B)→M[b]? =some (some g)→False:=by
  intro i C b B g hi hm hb0 hb1 hb2
  have hgs:g<w.heap.size:=H.lt (.inr ⟨b,B,hb1,hb2⟩)
  exact hout hb0 hb1 hb2 (G.live g hgs ⟨i,C,hi,hm⟩)
 refine⟨M++Mn,⟨⟨Mn,rfl⟩,⟨?_, ?_, ?_, ?_,H.glob.ext G.ext (fun g _ hl=> .inr (hliveS g hl)) (fun g hg hx=>hx.elim .inl (fun hl=> .inr (hlive g hg hl)))⟩,G.ext.mono (fun g _ hl=>hliveS g hl),hlive⟩,VR.rf _ _ (by rw[V.rf_rn];exact hrf) (VR.rn_to hto _ _ hv)⟩
 ·unfold iH
  rw[hsg]
  simp only[aOS,aO8,hlentlen,hrnlen,H.len]
  omega
 ·exact fun g hg=>aOC (H.alt g hg) G.ext.size
 ·intro b B hb1
  rcases hcase hb1 with⟨hb0,hb3⟩|⟨i,C,hC,rfl,rfl,he⟩
  ·have hbl:b<M.length:=by rw[H.len];exact(aOh.1 hb3).1
   obtain⟨h1,⟨hn,hc0⟩|⟨g,cs,hg,hA,hh,hle,hcs⟩⟩:=H.blk b B hb3
   ·exact⟨h1,.inl ⟨by rw[aOj hbl];exact hn,hc0⟩⟩
   have hgs:g<w.heap.size:=H.lt (.inr ⟨b,B,hb3,hg⟩)
   refine⟨h1,.inr ⟨g,cs,by rw[aOj hbl];exact hg,hA, ?_,hle, ?_⟩⟩
   ·exact hh.to (G.ext.block g hgs (hout hb0 hb3 hg))
   exact VCells.ext G.ext ⟨Mn,rfl⟩ (fun g _ hl=> .inr (hliveS g hl)) (fun g hg hx=>hx.elim .inl (fun hl=> .inr (hlive g hg hl))) _ _ hcs
  obtain⟨h1,h2⟩:=G.hr.blk i C hC
  refine⟨V.rns_mem (V.rn_one σ) h1, ?_⟩
  rcases h2 with⟨hn,hc0⟩|⟨g,cs,hg,hA,hh,hle,hcs⟩
  ·refine .inl ⟨by rw[he];exact hn, ?_⟩
   simp[Blk.rn,hc0,V.rns]
  refine .inr ⟨g,cs,by rw[he];exact hg,fun ha=>hA (.inl ha),by simpa[Blk.rn,V.rns_length]using hh, ?_, ?_⟩
  ·simpa[Blk.rn,V.rns_length]using hle
  have h5:=VCells.rn_to hto _ _ hcs
  have h6:VCells (Xs A (M++Mn) (iH hb ρ hs')) (M++Mn) w' (V.rns σ C.cells) (cs.toList.take C.cells.length):=VCells.rf _ _ (by rw[V.rfs_rn];exact hrb i C hC) h5
  simpa[Blk.rn,V.rns_length]using h6
 intro b c B C g hb1 hc1 mb mc
 rcases hcase hb1 with⟨hb0,hb3⟩|⟨i,D,hD,rfl,rfl,he⟩<;>rcases hcase hc1 with⟨hc0,hc3⟩|⟨j,E,hE,rfl,rfl,he'⟩
 ·rw[aOj (by rw[H.len];exact(aOh.1 hb3).1)]at mb
  rw[aOj (by rw[H.len];exact(aOh.1 hc3).1)]at mc
  exact H.inj b c B C g hb3 hc3 mb mc
 ·rw[aOj (by rw[H.len];exact(aOh.1 hb3).1)]at mb
  rw[he']at mc
  exact(hnew hE mc hb0 hb3 mb).elim
 ·rw[aOj (by rw[H.len];exact(aOh.1 hc3).1)]at mc
  rw[he]at mb
  exact(hnew hD mb hc0 hc3 mc).elim
 rw[G.hr.inj i j D E g hD hE (by rw[←he];exact mb) (by rw[←he'];exact mc)]
def rfB :Hp→Prop
 | []=>True
 |none::h=>rfB h
 |some B::h=>V.rfs B.cells=true∧rfB h
theorem rfB.get : ∀{h:Hp},rfB h→ ∀(i:Nat)(B:Blk),h[i]? =some (some B)→V.rfs B.cells=true
 | [],_,i,B,hi=>by simp at hi
 |none::h,hh,0,B,hi=>by simp at hi
 |none::h,hh,i+1,B,hi=>rfB.get (h:=h) hh i B (by simpa using hi)
 |some C::h,hh,0,B,hi=>by simp at hi;subst hi;exact hh.1
 |some C::h,hh,i+1,B,hi=>rfB.get (h:=h) hh.2 i B (by simpa using hi)
theorem rfB.nil :rfB []:=trivial
theorem rfB.dead {h:Hp}(k:rfB h):rfB (none::h):=k
theorem rfB.live {h:Hp}{e:TypeId}{cs:List V}(hc:V.rfs cs=true)(k:rfB h):rfB (some ⟨e,cs⟩::h):=⟨hc,k⟩
theorem Fn.lendR {P:Program}{f:FuncId}{hs hs' hb hb':Hp}{args xs:List V}{r v:V}(hc:Fn P f hs args r hs')(ρ β:List Nat)(hnd:ρ.Nodup)(hlt:ρ.all (fun b=>aPi b hb.length)=true)(hdis: ∀b∈β,b∉ρ)(hl:Lend (sg ρ hb.length) hb ρ hs)
  (hx:Brw (sg ρ hb.length) (only β hb) xs args) (hrf:r.rf=true) (hrb:rfB hs') (hr:r.rn (sg ρ hb.length)=v) (hh:iH hb ρ hs'=hb'):Fn P f hb xs v hb':=by
 have:=Fn.borrow (hb:=hb) hc ρ β hl.len hnd (fun b hb'=>by
  have h2:=aOg.1 hlt b hb'
  exact aOE (n:=b+1) h2) hdis hl.get hx hrf hrb.get
 rw[hr,hh]at this
 exact this
section
variable {P:Program}{N:Nat}{Q:Ex→List V→Hp→Prop}{s:List V}{h h':Hp}
theorem AB.seq_g {c d:Code}(hh: ∀K:List V→Hp→Prop,(∀s h,AB P N d Q s h→K s h)→(∀s h s' h',Ghost N s h s' h'→K s' h'→K s h)→AB P N c (Ex.then K Q) s h):AB P N (.seq c d) Q s h:=
 AB.seq (hh _ (fun _ _ hk=>hk) (fun _ _ _ _ hg hk=>AB.ghost hg hk))
variable {f:FuncId}{xs:List V}{r:V}
variable (t:TypeId)(xo yo:Operand)
theorem rZ {α β:Type}(s:Sem α)(f:α→β){a:α}(h:aG P s=some a):aG P (Functor.map f s)=some (f a):=by
 show aG P (Sem.bind s _)=_
 induction s with
 |pure x=>simp only[aG,aOm]at h;subst h;rfl
 |program k ih=>exact ih P h
 |mark m k ih=>exact ih h
 |_=>simp[aG]at h
theorem aDm (a b:ByteArray):b4 P .eql t xo yo (.sc (.string a)) (.sc (.string b))=some (.sc (.bool (a.toList == b.toList))):=by
 simp only[b4,cW,b6,xD,pureV];rfl
theorem z6 (a b:ByteArray):b4 P .neq t xo yo (.sc (.string a)) (.sc (.string b))=some (.sc (.bool (!(a.toList == b.toList)))):=by
 simp only[b4,cW,b6,xD,pureV];rfl
theorem aNP {t:TypeId}{fs:Array Field}{sz by_ i:Nat}{z:Value}{fl:Field}{cs:List V}{v:V}(ht:aD P t=some ⟨.struct fs,sz,by_,z⟩)(hf:fs[i]? =some fl)(hp:iG P fl.type (cs.drop fl.offset)=some v):sH P t (.agg cs) i=some v:=by simp[sH,ht,hf,hp]
end
def bM :Nat→List V→List (Nat×V)
 |_,[]=>[]
 |i,x::xs=>(i,x)::bM (i+1) xs
theorem aCR : ∀(xs:List V)(i:Nat)(cells:List V),cells.length=i+xs.length→xs.all (fun x=>x.one&&(x.cells.length == 1))=true→i6 (fun i=>some (i*1,1)) cells (bM i xs)=some (cells.take i++xs)
 | [],i,cells,hl,_=>by
  simp only[bM,i6,List.append_nil]
  rw[aOw (by simp at hl;omega)]
 |x::xs,i,cells,hl,ho=>by
  simp only[List.all_cons,aOs,beq_iff_eq]at ho
  obtain⟨⟨h1,h2⟩,h3⟩:=ho
  simp only[aOZ]at hl
  have hc:x.cells=[x]:=by cases x<;>first|rfl|simp[V.one]at h1
  simp only[bM,i6]
  rw[if_pos ⟨by simp[V.flatOk,hc,h1],h2,by omega⟩,hc]
  have hs:splice cells (i*1) [x]=cells.set i x:=by
   have:=aA1 (E:=fun v:V=>v) (l:=cells) i (by omega) x
   simpa using this
  rw[hs,aCR xs (i+1) _ (by simp;omega) (by simpa[aOg,aOs]using h3)]
  congr 1
  rw[List.take_succ_eq_append_getElem (by simp;omega)]
  simp[List.take_set_of_le]
theorem jV {P:Program}{h h':Hp}{t e:TypeId}{ti:TI}{i sz by_ len:Nat}{z:Value}{ps:List (Nat×V)}{xs:List V}{ag:Bool}(ht:aD P t=some ⟨.slice e,sz,by_,z⟩)(he:aD P e=some ti)(h1:len*1≤2^24)(h2:0<len)(hs:ti.size=1)(hag:a7 ti.desc=ag)
  (hp:bM 0 xs=ps) (ho:xs.all (fun x=>x.one&&(x.cells.length == 1))=true) (hlen:xs.length=len) (hl:h.length=i) (hh:h++[some ⟨e,xs⟩]=h'):eO P t len ps h=some (.sl i 0 len 1 ag,h'):=by
 have hones:xs.all V.one=true:=by
  rw[aOg]at ho⊢
  intro x hx
  have:=ho x hx
  simp only[aOs]at this
  exact this.1
 subst hp
 have:=aJq (h:=h) (len:=len) (cs:=xs) (ps:=bM 0 xs) (i:=i) (h':=h') ht he (by rw[hs];exact⟨h1,h2,by omega⟩) hag (by
  rw[hs]
  rw[aCR xs 0 _ (by simp[hs,hlen]) ho]
  simp) ⟨hones,by rw[hs,hlen];omega⟩ hl hh
 rw[hs]at this
 exact this
theorem Ghost.refl (N:Nat)(s:List V)(h:Hp):Ghost N s h s h:=fun A M a w _ R=>⟨M,rfl,R,fun _ hl=>hl⟩
theorem xH {k:IntKind}(hk:k.signed=false)(n:Int):k.wrap n=n%2^k.bits:=by simp[IntKind.wrap,hk]
theorem aDD {k:IntKind}(hk:k.signed=false)(a b:Nat)(ha:a<2^k.bits)(hb:b<2^k.bits):bits .and k (a:Int) (b:Int)=((a &&& b:Nat):Int):=by
 have hab:a &&& b<2^k.bits:=Nat.and_lt_two_pow a hb
 simp only[bits,xH hk,BitVec.toNat_and,BitVec.toNat_ofInt]
 have e1:((a:Int)%((2^k.bits:Nat):Int)).toNat=a:=by rw[←aOx,aOu,aOB ha]
 have e2:((b:Int)%((2^k.bits:Nat):Int)).toNat=b:=by rw[←aOx,aOu,aOB hb]
 rw[e1,e2]
 rw[show(2:Int)^k.bits=((2^k.bits:Nat):Int) by simp,←aOx,aOB hab]
theorem zO {k:IntKind}(hk:k.signed=false)(a b:Nat)(ha:a<2^k.bits)(hb:b<2^k.bits):bits .or k (a:Int) (b:Int)=((a ||| b:Nat):Int):=by
 have hab:a ||| b<2^k.bits:=Nat.or_lt_two_pow ha hb
 simp only[bits,xH hk,BitVec.toNat_or,BitVec.toNat_ofInt]
 have e1:((a:Int)%((2^k.bits:Nat):Int)).toNat=a:=by rw[←aOx,aOu,aOB ha]
 have e2:((b:Int)%((2^k.bits:Nat):Int)).toNat=b:=by rw[←aOx,aOu,aOB hb]
 rw[e1,e2]
 rw[show(2:Int)^k.bits=((2^k.bits:Nat):Int) by simp,←aOx,aOB hab]
theorem aHV {k:IntKind}(a b:Nat)(ha:a<2^k.bits):shr k (a:Int) (b:Int)=some ((a/2^b:Nat):Int):=by
 unfold shr
 rw[if_neg (by omega)]
 congr 1
 rw[aOu]
 have:(2:Int)^min b k.bits=((2^min b k.bits:Nat):Int):=by simp
 rw[this,Int.fdiv_eq_ediv_of_nonneg _ (Int.natCast_nonneg _),←Int.natCast_ediv]
 congr 1
 rcases aO7 b k.bits with hb|hb
 ·rw[aO1 hb]
 rw[aPa hb,aPb ha,aPb (aOC ha (Nat.pow_le_pow_right (by omega) hb))]
theorem aIg {k:IntKind}(hk:k.signed=false)(a b:Nat):shl k (a:Int) (b:Int)=some ((a*2^b%2^k.bits:Nat):Int):=by
 unfold shl
 rw[if_neg (by omega),xH hk]
 congr 1
 rw[aOu]
 have e:(2:Int)^min b k.bits=((2^min b k.bits:Nat):Int):=by simp
 rw[e,show(2:Int)^k.bits=((2^k.bits:Nat):Int) by simp,←Int.natCast_mul,←aOx]
 congr 1
 rcases aO7 b k.bits with hb|hb
 ·rw[aO1 hb]
 rw[aPa hb,aPc]
 obtain⟨c,rfl⟩:=Nat.exists_eq_add_of_le hb
 rw[Nat.pow_add,←Nat.mul_assoc,Nat.mul_right_comm,aPc]
theorem aEc {α:Type}(l:List α)(i:Nat):eG l (i:Int)=l[i]? :=by simp[eG]
theorem qF {α:Type}(l:List α){i:Nat}(h:i<l.length):eG l (i:Int)=some l[i]:=by rw[aEc,aOk h]
theorem iY {α:Type}{by_:Nat}{l m:List α}(h:(l.length+m.length)*by_≤gX):gM by_ l m=some (l++m):=by simp[gM,h]
theorem aI6 {α:Type}{by_:Nat}{z:α}{n:Nat}(h:n*by_≤gX):mks by_ z (n:Int)=some (aOU n z):=by
 simp only[mks,aOu]
 rw[if_pos ⟨by omega,h⟩]
theorem aCK (a b:Nat):Int.tdiv (a:Int) (b:Int)=((a/b:Nat):Int):=by rw[Int.tdiv_eq_ediv_of_nonneg (by omega)];simp
theorem aCH (a b:Nat):Int.tmod (a:Int) (b:Int)=((a%b:Nat):Int):=by rw[Int.tmod_eq_emod_of_nonneg (by omega)];simp
def Byt (l:List Int):Prop:= ∀x∈l,0≤x∧x<256
theorem Byt.append {l m:List Int}(h:Byt l)(k:Byt m):Byt (l++m):=fun x hx=>(List.mem_append.1 hx).elim (h x) (k x)
theorem Byt.set {l:List Int}(h:Byt l)(i:Nat){x:Int}(hx:0≤x∧x<256):Byt (l.set i x):=fun y hy=>(List.mem_or_eq_of_mem_set hy).elim (h y) (fun e=>e▸hx)
theorem Byt.get {l:List Int}(h:Byt l){i:Nat}(hi:i<l.length): ∃n:Nat,n<256∧l[i]=(n:Int):=by
 obtain⟨h1,h2⟩:=h l[i] (List.getElem_mem hi)
 exact⟨l[i].toNat,by omega,by omega⟩
theorem Fn.toP {P:Program}{f:FuncId}{xs:List V}{r:V}(hc:Fn P f [] xs r []):PFn P f xs r:=by
 intro A w vs hA hGl hv
 refine(hc A [] w vs (HR.nil hA hGl) (hv.avoid (fun g _ hx=>uK.1 hx))).mono fun v w' ⟨M',G,hr⟩=> ?_
 have hM:M'=[]:=aOq G.hr.len
 subst hM
 exact⟨G.ext.mono fun g _ hl=>by obtain⟨b,B,hb,_⟩:=hl;simp at hb,hr.avoid (fun g _ hx=>uK.2 hx)⟩
end Go.Vm
set_option maxRecDepth 100000
namespace Go.Proofs
open Go
def gtT (T:Nat→List Nat):Nat→List Nat→List Nat→List Nat
 |0,_,seen=>seen.reverse
 |_+1,[],seen=>seen.reverse
 |n+1,f::todo,seen=>if seen.contains f then gtT T n todo seen else gtT T n (T f++todo) (f::seen)
def gtO (T:Nat→List Nat):Nat→List Nat→List Nat→Option (List Nat)
 |_,[],seen=>some seen.reverse
 |0,_::_,_=>none
 |n+1,f::todo,seen=>if seen.contains f then gtO T n todo seen else gtO T n (T f++todo) (f::seen)
theorem xY {T:Nat→List Nat}: ∀{n:Nat}{todo seen L:List Nat},gtO T n todo seen=some L→ ∀{m:Nat},n≤m→gtT T m todo seen=L
 |n,[],seen,L,h,m,_=>by
  have e:gtO T n [] seen=some seen.reverse:=by cases n<;>rfl
  rw[e]at h
  have h:=Option.some.inj h
  cases m<;>exact h
 |0,_::_,_,_,h,_,_=>by cases h
 |n+1,f::todo,seen,L,h,m,hm=>by
  obtain⟨m,rfl⟩: ∃k,m=k+1:=⟨m-1,by omega⟩
  unfold gtO at h
  unfold gtT
  by_cases c:seen.contains f=true
  ·rw[if_pos c]at h⊢
   exact xY h (by omega)
  rw[if_neg c]at h⊢
  exact xY h (by omega)
theorem aCE {P:Program}{T:Nat→List Nat}(h: ∀g,(P.funcs[g]?).elim [] P.leadsTo=T g): ∀(n:Nat)(todo seen:List Nat),P.closureVia n todo seen=gtT T n todo seen
 |0,_,_=>rfl
 |_+1,[],_=>rfl
 |n+1,f::todo,seen=>by
  unfold Program.closureVia gtT
  rw[h f,aCE h n,aCE h n]
theorem aJE {α:Type}(F:α→Nat)(G:Nat→Nat): ∀(l:List α),(∀i (hi:i<l.length),F l[i]=G i)→l.map F=(aOK l.length).map G:=fun l h=>by
 refine List.ext_getElem (by simp) fun i h1 h2=> ?_
 simp only[List.getElem_map,List.getElem_range]
 exact h i (by simpa using h1)
theorem aE5 {P:Program}{T:Nat→List Nat}(h: ∀g,(P.funcs[g]?).elim [] P.leadsTo=T g){S K:Nat}(hS:P.funcs.size=S){f:Nat}{L:List Nat}(hL:gtO T K [f] []=some L)(hK:K≤1+((aOK S).map fun g=>(T g).length+1).sum):P.closure f=L:=by
 unfold Program.closure
 rw[aCE h]
 refine xY hL ?_
 rw[aJE _ (fun g=>(T g).length+1) P.funcs.toList fun i hi=> ?_]
 ·rw[Array.length_toList,hS];exact hK
 have hi':i<P.funcs.size:=by simpa using hi
 rw[←h i,Array.getElem?_eq_getElem hi']
 simp
def Tryz.gtLead :List (List Nat):=[[],[],[1],[7,8,8,9,10,11],[7,12,9,9],[7,14,13,12,12,12,15,16],[7,14,13,15,9,11,9,15,9,11],[14,17,18,9],[14,13,16,19,20,20,20],[21,22,23],[24,25,26],[],[],[20,27,20,20,27],[],[28],[29],[30,31,32,32,34,27,33,20,20,35],[9,36,38,37,37,39,37,40],[],[19,12],[41],[],[43,42,44,45],[],[],[46,47,48],[20],[49,42,45,38],[46,48,50,48],[20,52,51],[20,54,52,53],[],[55,56,58,59,57],[20,20],[],[60,61,60,62,63,64,65],[66],[67],[68,38,69,38,38,70,71,38,38,38,73,72,38,74],[],[75],[76],[],[77],[],[],[],[],[],[50,79,78],[80,53],[20,20],[81,82,83,84],[],[85,58,86],[87,58,89,90,88],[91,92,92,93],[95,94],[96,94],[],[97,98,99,100],[61,69,101],[102,103],[105,104,60,106,105,107],[60,60,108,109,105,104,60,60,60],[110],[111],[112],[113,114,113,115,116,117,118],[],[120,119],[111],[121],[122,37,37,37,40],[123,124,123,125,124,126],[],[127],[79,128,129],[],[130,131,132],[133,135,32,134,137,138,136],[139,58,135,140,141,143,142,144,146,145,145],[84,147,148,149],[150,58],[129,151,152],[151,153],[154,155],[156,157,159,158],[160,160],[161,162,163],[],[],[164],[165,165],[166,167,167,166],[169,168],[170,171,171,172,173,174,176,177,178,179,180],[181],[108,109],[],[182,183,105,184],[185,187,188,189,190],[170,171,171,172,191,192,194,195,196,197,180],[103,201,202,203,204,107],[],[205,206],[103,201,208,207,209,210],[211],[212,213],[],[214,215,216,217],[218],[219],[],[114],[220],[221],[222,190,223,112,224],[225,226,226,225,227],[],[],[66,228],[229],[],[],[230],[231],[152,232,233,232,152,234],[],[236,235],[85,58],[85,58],[237,238],[239],[85],[147,149,58,148],[240,241],[],[85,242,243,244],[143,245],[162,246,244,247],[],[],[146,143,146,248],[],[238,162],[85,249],[151,250,152],[],[85],[79,235,129,251,252,129],[],[129,236,79,233,79,79,128],[253],[95,169,254],[255],[257,256],[258],[159,159],[],[259],[260],[167,166],[161,94],[261,262,263],[264,259],[259],[169,259],[264,259,264,259,259,264,259,259,264,259,259],[],[],[],[265],[175],[193],[266],[175],[267],[198,198,199,200],[],[],[69,268,269,271,270,272,114,273],[274,275,276,277,278,279],[69,103,182,281,280,210,282,283,210,285,284,286],[186],[],[287,288],[289],[265,266,190,190],[],[265],[193],[],[266],[193],[267],[198,198,199,200],[],[],[],[],[],[290],[],[291,292,293,294,291,292,295,296],[295,297,298],[299,300,180,301,302],[],[303],[201,204,304],[],[305],[306,307,309,310],[],[312,311,313],[],[314,315],[190],[],[316,317],[318,319],[],[222,320],[322,321],[],[],[323],[324],[],[],[],[],[325],[323],[232],[],[326,32,32],[154,253,94],[],[154,253,94],[327],[328],[87,162,329,238,330,331,332,137],[],[161],[329],[333,334],[328,245],[85,151,79,335,79,128,152,129,79,336],[],[232],[233],[166,169,163,166,169,337,166,169,168],[154,253],[],[338],[160,339,160,339,340,340,340,340],[341,161,342,342,342],[],[],[],[],[343,344,345,345,345,345,345,345],[],[],[],[],[114,346],[117,116,118,116],[],[220],[],[347],[348],[349,350,351,352,353],[354],[354,355,356,357],[354,355,356,349,350],[354,356,355,358],[],[],[201,304],[359,360,361,362,363,364],[113,365,366,367,285,368],[369],[370,371,290,372,273,270,116,373],[],[374],[],[],[],[375],[],[376],[],[377],[291,292,378,379,380,378,379,382,383,381,380,385,384,380,383,380,383,382,383,381,383,383,387,388,386,390,391,389,382,383,381,393,394,392,396,395],[],[],[],[397,398],[],[],[202,400,399,371,290],[],[401],[308,175],[402],[403],[175],[],[],[],[],[404,405],[406],[],[],[],[],[408,407],[407],[],[],[],[],[409],[],[154,260,162],[],[330],[],[154,163,166,337,166,165,167,165,167,165,167,166,166,337,410],[411,412],[338,325,325],[129,252,235,152,235,251],[413,168],[],[340,340],[414,414,414,414,414,414],[415],[],[345,345,345,345],[],[416],[316,406,317],[],[295,417,382,418],[],[419,351,420,422,421],[423,377],[424,377],[425,426,428,427,426],[351,351],[],[],[430,429,431],[305,401,402,193,403,193],[201,432,433],[],[271],[351,434,350,435,436,437,438],[439,116],[116,118,439,440,438],[],[441,442,443,444,445],[447,446],[271,448,202,203,449],[],[221,319,117,450],[221,450],[],[319,318,172],[451],[452],[452],[357,357],[],[453],[291,292],[454,378],[],[456,457],[458,378],[459,460],[],[462],[455,463,298],[],[464],[461,455,465,298],[],[466],[465,298],[467,378],[291,292,468,469,291,292],[],[470],[347],[],[],[],[],[],[],[],[],[],[161,165],[165,165],[471,472,473,474,475,476,477,412,478],[],[264,259],[],[],[],[479],[321,480,321,480,481,321,482,423,321,322,321,322,481,322,424,483,419,481,484,482,321,485,321],[423,482,484],[486,486],[488,487],[193,489,224],[321,322,322,321,321,321],[482,490],[],[],[491],[],[],[],[492,493,493,493,493,493,493],[494,351,367,367,367,285,495,496,285,120,497,498,494],[204],[419,489,499,500,501],[502,210,290],[352,270,491,270,210,210],[503,434,189,223,504,505,504,190,506,507],[503,189,507],[425,424,352,428,491],[420,508],[],[170],[509,510],[],[],[],[],[425,511],[187,189,513,512],[],[515,516,514],[],[452],[455],[294,469,292,379],[],[452],[455],[],[461],[292,457,457,292,292,292],[],[455,407],[],[517,520,523,292,524,457,523,292,523,292,518,379,523,292],[],[455],[],[525],[526,526,526],[527],[],[],[161],[],[],[],[161,528,528,255,529,412,529,412,165,530,528,531,529,532,529,533,533],[],[408,407],[482],[407,407,485,407,321,407,480],[534],[535,536],[408,407],[],[537,538],[540,539,541],[542],[482,407],[483,377],[493,493,493,493],[416],[543,351,495,204],[544,433],[545],[546,547],[548,225,198],[535,549,489],[505],[550,551],[221,351,434,350,352,491,552],[187,222],[554,553],[555],[556,553,558],[],[559,560],[],[561],[],[562],[],[],[563],[564,564],[519,518],[],[455],[522,521],[],[463],[],[],[452],[],[161,565],[],[530,530],[],[250,566,567,568],[531],[569],[],[536],[321,482,224,321,482,480,490,321,482,490],[570],[571,572,573,573,574],[338],[486,575,486,575,576],[578,577],[],[579,580],[545,351,367,367,581,442,582,444],[583,584,581,582,585,444],[325],[],[586],[],[555],[587],[221],[],[451],[484,377],[451,557,514],[588,588],[589,590],[591,592],[488,593],[],[],[],[],[],[79,594],[250,250,595,595],[566,595,595,596,234,598,599,597,600],[],[601,601],[],[],[],[573],[576],[414,414,414,414,414,414],[602,603,604,605,606,607,570,608,609,577,577],[610,312],[548,548,225,199,200],[581,585,611,612,497,613,614],[615,616,351,617,618],[351,619,497],[620,351,619],[620,351],[615,351],[621,198,581,585],[622],[],[],[623],[571,624,625],[571,625],[],[129,626,152,596,599,627],[596,152],[626,235],[626,628],[79,599],[626,629],[631,631,161,410,630],[],[570],[632,632],[633,634],[635,635,635,636],[],[570,570,570],[570,570],[570,570,570,570],[],[120,637,638],[547,120,546,120,120,119],[639,640,225,198],[639,641,640,225],[621],[620,642],[611,643,225],[644,645],[611,612],[611,225],[620],[357],[646,646,646],[],[624],[79,234],[79],[129,647,647,335,128],[129,79,647,251,628,232,628],[250,648],[649],[570,570],[578],[],[636],[650,650,650],[312],[651,652],[],[483,357],[653,653],[620,611,120,654,120,119,225,120,655],[],[578,656],[516],[],[128],[596,657],[],[570],[],[],[],[338,325,325],[637,638],[658,659,660,661,662,663,664,665,656,656],[129,647,647,233,152,234],[],[666,666],[633,634],[667,667,667,668],[],[],[],[],[],[668],[669,669,669],[],[],[],[],[],[],[],[],[],[],[],[],[],[],[],[],[],[],[],[],[],[],[],[],[],[]]
def Tryz.gtLeads (g:Nat):List Nat:=(Tryz.gtLead[g]?).getD []
def Tryz.gtIn (g:Nat):Option String:=
 bif g == 0 then some "main.main" else bif g == 1 then some "gosem.cut" else bif g == 110 then some "internal/abi.NoEscape" else bif g == 124 then some "internal/bytealg.IndexString" else bif g == 229 then some "internal/bytealg.IndexByteString" else bif g == 323 then some "math/bits.Sub64" else bif g == 324 then some "internal/bytealg.MakeNoZero" else bif g == 325 then some "math/bits.Add64" else bif g == 397 then some "slices.overlaps[lightclient/api.Penalty]" else bif g == 563 then some "internal/bytealg.Compare" else bif g == 589 then some "slices.overlaps[lightclient/api.Owned]" else bif g == 670 then some "(runtime.boundsError).Error" else bif g == 671 then some "(runtime.boundsError).RuntimeError" else bif g == 672 then some "(runtime.errorString).Error" else bif g == 673 then some "(runtime.errorString).RuntimeError" else bif g == 674 then some "(runtime.plainError).Error" else bif g == 675 then some "(runtime.plainError).RuntimeError" else bif g == 676 then some "(runtime.errorAddressString).Error" else bif g == 677 then some "(runtime.errorAddressString).RuntimeError" else bif g == 678 then some "(*runtime.TypeAssertionError).Error" else bif g == 679 then some "(*runtime.TypeAssertionError).RuntimeError" else bif g == 680 then some "(*runtime.PanicNilError).Error" else bif g == 681 then some "(*runtime.PanicNilError).RuntimeError" else bif g == 682 then some "(*internal/abi.Type).Align" else bif g == 683 then some "(internal/runtime/maps.unhashableTypeError).Error" else bif g == 684 then some "(internal/runtime/maps.unhashableTypeError).RuntimeError" else bif g == 685 then some "(*strings.Builder).Reset" else bif g == 686 then some "(internal/abi.Kind).String" else bif g == 687 then some "var's door: gosem.cut.vars holds initialisers alone; see the manifest's row cutvarsword (look 11, test files too)" else bif g == 688 then some "var's door: internal/strconv.uint64pow10 is laid by its own initialiser, plain data (look 11)" else bif g == 689 then some "var's door: lightclient/sha.initial is laid by its own initialiser, plain data (look 11)" else bif g == 690 then some "var's door: lightclient/sha.k is laid by its own initialiser, plain data (look 11)" else bif g == 691 then some "var's door: math/bits.deBruijn32tab is laid by its own initialiser, plain data (look 11)" else bif g == 692 then some "var's door: math/bits.deBruijn64tab is laid by its own initialiser, plain data (look 11)" else bif g == 693 then some "var's door: the look of gosem.cut.vars went over the folder that the caller named as the repository's root (look 11)" else none
def Tryz.gtGl (g:Nat):List Nat:=
 bif g == 75 then [0,0,0]else bif g == 215 then [1]else bif g == 357 then [2]else bif g == 404 then [3]else bif g == 405 then [4]else bif g == 431 then [5]else bif g == 694 then [3,4,1,5,2]else []
def Tryz.gtRd (g:Nat):Option String:=
 bif g == 124 then some "internal/bytealg.MaxLen" else none
noncomputable def aDo (P:Program)(g:Nat):List Nat:=(P.funcs[g]?).elim [] P.leadsTo
noncomputable def aCD (P:Program) (g:Nat):Option String:=(P.funcs[g]?).bind fun fn=>if fn.ours || fn.body.isNone || fn.name == "runtime.NumGoroutine" then some fn.name else none
noncomputable def aCQ (P:Program)(g:Nat):List Nat:=((P.funcs[g]?).bind (·.body)).elim [] Code.globalsNamed
noncomputable def aCJ (P:Program)(g:Nat):Option String:=(P.funcs[g]?).bind fun fn=>if fn.body.isNone then entryReads.lookup fn.name else none
noncomputable def Tryz.gtRow (g:Nat):Bool:=(aDo Tryz.prog g == Tryz.gtLeads g)&&(aCD Tryz.prog g == Tryz.gtIn g)&&(aCQ Tryz.prog g == Tryz.gtGl g)&&(aCJ Tryz.prog g == Tryz.gtRd g)
theorem Tryz.gt0 :(aOl 0 30).all Tryz.gtRow=true:=by kernel_rfl
theorem Tryz.gt1 :(aOl 30 30).all Tryz.gtRow=true:=by kernel_rfl
theorem Tryz.gt2 :(aOl 60 30).all Tryz.gtRow=true:=by kernel_rfl
theorem Tryz.gt3 :(aOl 90 30).all Tryz.gtRow=true:=by kernel_rfl
theorem Tryz.gt4 :(aOl 120 30).all Tryz.gtRow=true:=by kernel_rfl
theorem Tryz.gt5 :(aOl 150 30).all Tryz.gtRow=true:=by kernel_rfl
theorem Tryz.gt6 :(aOl 180 30).all Tryz.gtRow=true:=by kernel_rfl
theorem Tryz.gt7 :(aOl 210 30).all Tryz.gtRow=true:=by kernel_rfl
theorem Tryz.gt8 :(aOl 240 30).all Tryz.gtRow=true:=by kernel_rfl
theorem Tryz.gt9 :(aOl 270 30).all Tryz.gtRow=true:=by kernel_rfl
theorem Tryz.gt10 :(aOl 300 30).all Tryz.gtRow=true:=by kernel_rfl
theorem Tryz.gt11 :(aOl 330 30).all Tryz.gtRow=true:=by kernel_rfl
theorem Tryz.gt12 :(aOl 360 30).all Tryz.gtRow=true:=by kernel_rfl
theorem Tryz.gt13 :(aOl 390 30).all Tryz.gtRow=true:=by kernel_rfl
theorem Tryz.gt14 :(aOl 420 30).all Tryz.gtRow=true:=by kernel_rfl
theorem Tryz.gt15 :(aOl 450 30).all Tryz.gtRow=true:=by kernel_rfl
theorem Tryz.gt16 :(aOl 480 30).all Tryz.gtRow=true:=by kernel_rfl
theorem Tryz.gt17 :(aOl 510 30).all Tryz.gtRow=true:=by kernel_rfl
theorem Tryz.gt18 :(aOl 540 30).all Tryz.gtRow=true:=by kernel_rfl
theorem Tryz.gt19 :(aOl 570 30).all Tryz.gtRow=true:=by kernel_rfl
theorem Tryz.gt20 :(aOl 600 30).all Tryz.gtRow=true:=by kernel_rfl
theorem Tryz.gt21 :(aOl 630 30).all Tryz.gtRow=true:=by kernel_rfl
theorem Tryz.gt22 :(aOl 660 30).all Tryz.gtRow=true:=by kernel_rfl
theorem Tryz.gt23 :(aOl 690 5).all Tryz.gtRow=true:=by kernel_rfl
theorem Tryz.gtSize :Tryz.prog.funcs.size=695:=by kernel_rfl
theorem Tryz.gtAll (g:Nat):Tryz.gtRow g=true:=by
 by_cases hg:g<695
 ·skip
  by_cases h360:g<360
  ·skip
   by_cases h180:g<180
   ·skip
    by_cases h90:g<90
    ·skip
     by_cases h30:g<30
     ·skip
      exact aOg.1 Tryz.gt0 g (aOi.2 ⟨by omega,by omega⟩)
     skip
     by_cases h60:g<60
     ·skip
      exact aOg.1 Tryz.gt1 g (aOi.2 ⟨by omega,by omega⟩)
     skip
     exact aOg.1 Tryz.gt2 g (aOi.2 ⟨by omega,by omega⟩)
    skip
    by_cases h120:g<120
    ·skip
     exact aOg.1 Tryz.gt3 g (aOi.2 ⟨by omega,by omega⟩)
    skip
    by_cases h150:g<150
    ·skip
     exact aOg.1 Tryz.gt4 g (aOi.2 ⟨by omega,by omega⟩)
    skip
    exact aOg.1 Tryz.gt5 g (aOi.2 ⟨by omega,by omega⟩)
   skip
   by_cases h270:g<270
   ·skip
    by_cases h210:g<210
    ·skip
     exact aOg.1 Tryz.gt6 g (aOi.2 ⟨by omega,by omega⟩)
    skip
    by_cases h240:g<240
    ·skip
     exact aOg.1 Tryz.gt7 g (aOi.2 ⟨by omega,by omega⟩)
    skip
    exact aOg.1 Tryz.gt8 g (aOi.2 ⟨by omega,by omega⟩)
   skip
   by_cases h300:g<300
   ·skip
    exact aOg.1 Tryz.gt9 g (aOi.2 ⟨by omega,by omega⟩)
   skip
   by_cases h330:g<330
   ·skip
    exact aOg.1 Tryz.gt10 g (aOi.2 ⟨by omega,by omega⟩)
   skip
   exact aOg.1 Tryz.gt11 g (aOi.2 ⟨by omega,by omega⟩)
  skip
  by_cases h540:g<540
  ·skip
   by_cases h450:g<450
   ·skip
    by_cases h390:g<390
    ·skip
     exact aOg.1 Tryz.gt12 g (aOi.2 ⟨by omega,by omega⟩)
    skip
    by_cases h420:g<420
    ·skip
     exact aOg.1 Tryz.gt13 g (aOi.2 ⟨by omega,by omega⟩)
    skip
    exact aOg.1 Tryz.gt14 g (aOi.2 ⟨by omega,by omega⟩)
   skip
   by_cases h480:g<480
   ·skip
    exact aOg.1 Tryz.gt15 g (aOi.2 ⟨by omega,by omega⟩)
   skip
   by_cases h510:g<510
   ·skip
    exact aOg.1 Tryz.gt16 g (aOi.2 ⟨by omega,by omega⟩)
   skip
   exact aOg.1 Tryz.gt17 g (aOi.2 ⟨by omega,by omega⟩)
  skip
  by_cases h630:g<630
  ·skip
   by_cases h570:g<570
   ·skip
    exact aOg.1 Tryz.gt18 g (aOi.2 ⟨by omega,by omega⟩)
   skip
   by_cases h600:g<600
   ·skip
    exact aOg.1 Tryz.gt19 g (aOi.2 ⟨by omega,by omega⟩)
   skip
   exact aOg.1 Tryz.gt20 g (aOi.2 ⟨by omega,by omega⟩)
  skip
  by_cases h660:g<660
  ·skip
   exact aOg.1 Tryz.gt21 g (aOi.2 ⟨by omega,by omega⟩)
  skip
  by_cases h690:g<690
  ·skip
   exact aOg.1 Tryz.gt22 g (aOi.2 ⟨by omega,by omega⟩)
  skip
  exact aOg.1 Tryz.gt23 g (aOi.2 ⟨by omega,by omega⟩)
 have h1:Tryz.prog.funcs[g]? =none:=Array.getElem?_eq_none (by rw[Tryz.gtSize];omega)
 have h2:Tryz.gtLeads g=[]:=by
  unfold Tryz.gtLeads
  rw[aOO (by show 695≤g;omega)];rfl
 have h3:Tryz.gtIn g=none:=by
  unfold Tryz.gtIn
  simp only[show(g == 0)=false from beq_eq_false_iff_ne.2 (by omega),show(g == 1)=false from beq_eq_false_iff_ne.2 (by omega),show(g == 110)=false from beq_eq_false_iff_ne.2 (by omega),show(g == 124)=false from beq_eq_false_iff_ne.2 (by omega),show(g == 229)=false from beq_eq_false_iff_ne.2 (by omega),show(g == 323)=false from beq_eq_false_iff_ne.2 (by omega),show(g == 324)=false from beq_eq_false_iff_ne.2 (by omega),show(g == 325)=false from beq_eq_false_iff_ne.2 (by omega),show(g == 397)=false from beq_eq_false_iff_ne.2 (by omega),show(g == 563)=false from beq_eq_false_iff_ne.2 (by omega),show(g == 589)=false from beq_eq_false_iff_ne.2 (by omega),show(g == 670)=false from beq_eq_false_iff_ne.2 (by omega),show(g == 671)=false from beq_eq_false_iff_ne.2 (by omega),show(g == 672)=false from beq_eq_false_iff_ne.2 (by omega),show(g == 673)=false from beq_eq_false_iff_ne.2 (by omega),show(g == 674)=false from beq_eq_false_iff_ne.2 (by omega),show(g == 675)=false from beq_eq_false_iff_ne.2 (by omega),show(g == 676)=false from beq_eq_false_iff_ne.2 (by omega),show(g == 677)=false from beq_eq_false_iff_ne.2 (by omega),show(g == 678)=false from beq_eq_false_iff_ne.2 (by omega),show(g == 679)=false from beq_eq_false_iff_ne.2 (by omega),show(g == 680)=false from beq_eq_false_iff_ne.2 (by omega),show(g == 681)=false from beq_eq_false_iff_ne.2 (by omega),show(g == 682)=false from beq_eq_false_iff_ne.2 (by omega),show(g == 683)=false from beq_eq_false_iff_ne.2 (by omega),show(g == 684)=false from beq_eq_false_iff_ne.2 (by omega),show(g == 685)=false from beq_eq_false_iff_ne.2 (by omega),show(g == 686)=false from beq_eq_false_iff_ne.2 (by omega),show(g == 687)=false from beq_eq_false_iff_ne.2 (by omega),show(g == 688)=false from beq_eq_false_iff_ne.2 (by omega),show(g == 689)=false from beq_eq_false_iff_ne.2 (by omega),show(g == 690)=false from beq_eq_false_iff_ne.2 (by omega),show(g == 691)=false from beq_eq_false_iff_ne.2 (by omega),show(g == 692)=false from beq_eq_false_iff_ne.2 (by omega),show(g == 693)=false from beq_eq_false_iff_ne.2 (by omega)]
  rfl
 have h4:Tryz.gtGl g=[]:=by
  unfold Tryz.gtGl
  simp only[show(g == 75)=false from beq_eq_false_iff_ne.2 (by omega),show(g == 215)=false from beq_eq_false_iff_ne.2 (by omega),show(g == 357)=false from beq_eq_false_iff_ne.2 (by omega),show(g == 404)=false from beq_eq_false_iff_ne.2 (by omega),show(g == 405)=false from beq_eq_false_iff_ne.2 (by omega),show(g == 431)=false from beq_eq_false_iff_ne.2 (by omega),show(g == 694)=false from beq_eq_false_iff_ne.2 (by omega)]
  rfl
 have h5:Tryz.gtRd g=none:=by
  unfold Tryz.gtRd
  simp only[show(g == 124)=false from beq_eq_false_iff_ne.2 (by omega)]
  rfl
 unfold Tryz.gtRow aDo aCD aCQ aCJ
 rw[h1,h2,h3,h4,h5];rfl
theorem Tryz.gtH (g:Nat):(Tryz.prog.funcs[g]?).elim [] Tryz.prog.leadsTo=Tryz.gtLeads g∧aCD Tryz.prog g=Tryz.gtIn g∧aCQ Tryz.prog g=Tryz.gtGl g∧aCJ Tryz.prog g=Tryz.gtRd g:=by
 have h:=Tryz.gtAll g
 unfold Tryz.gtRow at h
 rw[aOs,aOs,aOs,beq_iff_eq,beq_iff_eq,beq_iff_eq,beq_iff_eq]at h
 exact⟨h.1.1.1,h.1.1.2,h.1.2,h.2⟩
theorem Tryz.gtClosure {f:Nat}{L:List Nat}(hL:gtO Tryz.gtLeads 1600 [f] []=some L):Tryz.prog.closure f=L:=
 aE5 (fun g=>(Tryz.gtH g).1) Tryz.gtSize hL (by decide +kernel)
theorem Tryz.gtInPlace {f:Nat}{L:List Nat}(hL:Tryz.prog.closure f=L):Tryz.prog.inPlace f=L.filterMap Tryz.gtIn:=by
 unfold Program.inPlace
 rw[hL]
 exact congrArg (fun F=>L.filterMap F) (funext fun g=>(Tryz.gtH g).2.1)
theorem Tryz.gtNamed {f:Nat}{L:List Nat}(hL:Tryz.prog.closure f=L):Tryz.prog.varsNamed f=(((L.flatMap Tryz.gtGl).eraseDups).filterMap (fun g=>(Tryz.prog.globals[g]?).map (·.name))++L.filterMap Tryz.gtRd).eraseDups:=by
 unfold Program.varsNamed
 rw[hL]
 have e1:(fun g=>((Tryz.prog.funcs[g]?).bind (·.body)).elim [] Code.globalsNamed)=Tryz.gtGl:=funext fun g=>(Tryz.gtH g).2.2.1
 have e2:(fun g=>(Tryz.prog.funcs[g]?).bind fun fn=>if fn.body.isNone then entryReads.lookup fn.name else none)=Tryz.gtRd:=funext fun g=>(Tryz.gtH g).2.2.2
 rw[e1,e2]
theorem nW {P:Program}{f g:Nat}{fn:Func}{c:Code}(h1:(P.closure f).contains g=true)(h2:P.funcs[g]? =some fn)(h3:fn.body=some c)(h4:c.unfollowed=true):P.unfollowed f=true∧P.recurses f=true:=by
 have h:P.unfollowed f=true:=by
  unfold Program.unfollowed
  rw[List.any_eq_true]
  exact⟨g,List.contains_iff_mem.1 h1,by rw[h2];show(match fn.body with|some c=>c.unfollowed|none=>entryCalls fn)=true;rw[h3];exact h4⟩
 exact⟨h,by unfold Program.recurses;rw[h,Bool.true_or]⟩
theorem Tryz.lo0 :(aOl 0 40).all (rowFine Tryz.prog)=true:=by kernel_rfl
theorem Tryz.lo1 :(aOl 40 40).all (rowFine Tryz.prog)=true:=by kernel_rfl
theorem Tryz.lo2 :(aOl 80 40).all (rowFine Tryz.prog)=true:=by kernel_rfl
theorem Tryz.lo3 :(aOl 120 40).all (rowFine Tryz.prog)=true:=by kernel_rfl
theorem Tryz.lo4 :(aOl 160 40).all (rowFine Tryz.prog)=true:=by kernel_rfl
theorem Tryz.lo5 :(aOl 200 40).all (rowFine Tryz.prog)=true:=by kernel_rfl
theorem Tryz.lo6 :(aOl 240 40).all (rowFine Tryz.prog)=true:=by kernel_rfl
theorem Tryz.lo7 :(aOl 280 40).all (rowFine Tryz.prog)=true:=by kernel_rfl
theorem Tryz.lo8 :(aOl 320 40).all (rowFine Tryz.prog)=true:=by kernel_rfl
theorem Tryz.lo9 :(aOl 360 40).all (rowFine Tryz.prog)=true:=by kernel_rfl
theorem Tryz.lo10 :(aOl 400 40).all (rowFine Tryz.prog)=true:=by kernel_rfl
theorem Tryz.lo11 :(aOl 440 40).all (rowFine Tryz.prog)=true:=by kernel_rfl
theorem Tryz.lo12 :(aOl 480 40).all (rowFine Tryz.prog)=true:=by kernel_rfl
theorem Tryz.lo13 :(aOl 520 40).all (rowFine Tryz.prog)=true:=by kernel_rfl
theorem Tryz.lo14 :(aOl 560 40).all (rowFine Tryz.prog)=true:=by kernel_rfl
theorem Tryz.lo15 :(aOl 600 40).all (rowFine Tryz.prog)=true:=by kernel_rfl
theorem Tryz.lo16 :(aOl 640 40).all (rowFine Tryz.prog)=true:=by kernel_rfl
theorem Tryz.lo17 :(aOl 680 40).all (rowFine Tryz.prog)=true:=by kernel_rfl
theorem Tryz.lo18 :(aOl 720 28).all (rowFine Tryz.prog)=true:=by kernel_rfl
theorem Tryz.loSize :Tryz.prog.types.size=748:=by kernel_rfl
theorem Tryz.loGlobals :Tryz.prog.globals.all (fun g=>decide (g.type<Tryz.prog.types.size))=true:=by kernel_rfl
theorem Tryz.loFuncs :Tryz.prog.funcs.all (fun f=>f.params.all fun t=>decide (t<Tryz.prog.types.size))=true:=by kernel_rfl
theorem Tryz.gtLaidOut :laidOutB Tryz.prog=true:=by
 unfold laidOutB
 rw[Tryz.loGlobals,Tryz.loFuncs,Bool.and_true,Bool.and_true,aOg]
 intro g hg
 have hg:g<748:=by rw[List.mem_range,Tryz.loSize]at hg;exact hg
 skip
 by_cases h360:g<360
 ·skip
  by_cases h160:g<160
  ·skip
   by_cases h80:g<80
   ·skip
    by_cases h40:g<40
    ·skip
     exact aOg.1 Tryz.lo0 g (aOi.2 ⟨by omega,by omega⟩)
    skip
    exact aOg.1 Tryz.lo1 g (aOi.2 ⟨by omega,by omega⟩)
   skip
   by_cases h120:g<120
   ·skip
    exact aOg.1 Tryz.lo2 g (aOi.2 ⟨by omega,by omega⟩)
   skip
   exact aOg.1 Tryz.lo3 g (aOi.2 ⟨by omega,by omega⟩)
  skip
  by_cases h240:g<240
  ·skip
   by_cases h200:g<200
   ·skip
    exact aOg.1 Tryz.lo4 g (aOi.2 ⟨by omega,by omega⟩)
   skip
   exact aOg.1 Tryz.lo5 g (aOi.2 ⟨by omega,by omega⟩)
  skip
  by_cases h280:g<280
  ·skip
   exact aOg.1 Tryz.lo6 g (aOi.2 ⟨by omega,by omega⟩)
  skip
  by_cases h320:g<320
  ·skip
   exact aOg.1 Tryz.lo7 g (aOi.2 ⟨by omega,by omega⟩)
  skip
  exact aOg.1 Tryz.lo8 g (aOi.2 ⟨by omega,by omega⟩)
 skip
 by_cases h560:g<560
 ·skip
  by_cases h440:g<440
  ·skip
   by_cases h400:g<400
   ·skip
    exact aOg.1 Tryz.lo9 g (aOi.2 ⟨by omega,by omega⟩)
   skip
   exact aOg.1 Tryz.lo10 g (aOi.2 ⟨by omega,by omega⟩)
  skip
  by_cases h480:g<480
  ·skip
   exact aOg.1 Tryz.lo11 g (aOi.2 ⟨by omega,by omega⟩)
  skip
  by_cases h520:g<520
  ·skip
   exact aOg.1 Tryz.lo12 g (aOi.2 ⟨by omega,by omega⟩)
  skip
  exact aOg.1 Tryz.lo13 g (aOi.2 ⟨by omega,by omega⟩)
 skip
 by_cases h640:g<640
 ·skip
  by_cases h600:g<600
  ·skip
   exact aOg.1 Tryz.lo14 g (aOi.2 ⟨by omega,by omega⟩)
  skip
  exact aOg.1 Tryz.lo15 g (aOi.2 ⟨by omega,by omega⟩)
 skip
 by_cases h680:g<680
 ·skip
  exact aOg.1 Tryz.lo16 g (aOi.2 ⟨by omega,by omega⟩)
 skip
 by_cases h720:g<720
 ·skip
  exact aOg.1 Tryz.lo17 g (aOi.2 ⟨by omega,by omega⟩)
 skip
 exact aOg.1 Tryz.lo18 g (aOi.2 ⟨by omega,by omega⟩)
end Go.Proofs
