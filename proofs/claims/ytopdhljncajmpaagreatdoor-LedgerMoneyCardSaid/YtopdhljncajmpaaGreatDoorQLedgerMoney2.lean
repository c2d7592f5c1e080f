/- Texts of ours, joined: VmCall, VmEval, VmExec, VmLift, VmOne, VmFrame, VmSym, VmGhost, VmRule, VmCtr, VmBrw, Plain0, Ty, Lift, Lift2, Open, Plain1, Plain2, Laid, VmDrawG, VmFrz, VmStr, VmArr, VmExt, VmStl. -/
import Derived.Test.YtopdhljncajmpaaGreatDoorQLedgerMoney1
import Derived.ProofKit
import Derived.OpenShut
import Derived.ShutString
import Derived.ChangeOld
import Derived.Lib.SmallJoins
import Derived.Test.YtopdhljncajmpaaGreatDoorRows
import Derived.Test.YtopdhljncajmpaaGreatDoorCards
import Derived.Test.YtopdhljncajmpaaGreatDoorTie
import Derived.WalkKit
import Derived.LaidSub
import Derived.Deep.DeepHandedRow
import Derived.Lib.LaidTab
import Derived.Laws.IdiomStrings
import Derived.ChangeKeysEq
open List renaming getElem?_eq_some_iff → a0F,getElem?_append_left → a0G,getElem?_eq_getElem → a0H,take_of_length_le → a0J,all_eq_true → a0K,getElem?_cons_succ → a0L,getElem?_append_right → a0M,eq_nil_of_length_eq_zero → a0O,mem_of_getElem? → a0Q,flatMap_cons → a0R,getElem?_cons_zero → a0T,drop_eq_nil_of_le → a0X,drop_eq_getElem_cons → a0Y,length_map → a0Z,getElem?_map → a00,length_append → a02,mapM_cons → a03,length_take → a04,length_cons → a05,map_cons → a06,drop_zero → a09,take_succ_eq_append_getElem → a1a,take_append_of_le_length → a1g,replicate → a1h,nodup_cons → a1i,range → a1k,prefix_refl → a1m,map_take → a1o,append_nil → a1q,ext_getElem? → a1r,append_assoc → a1s,mem_iff_getElem? → a1t,mem_cons → a1v,length_nil → a1x,getElem?_drop → a1B,take_prefix → a1C,range'_succ → a1D,take_append → a1F,getElem?_eq_none → a1H,nil_append → a1I,mem_map → a1K,getElem?_toArray → a1L,getElem?_set_ne → a1N,take_zero → a1O,map_congr_left → a1P,replicate_succ → a1Q,take_succ_cons → a1R,getElem?_take → a1S,map_drop → a1U,getElem?_inj → a1W,flatten_cons → a1X,map_map → a1Y,length_drop → a10,range'_zero → a11,length → a16,length_set → a17,mem_filter → a18
open Option.some renaming injEq → a0I,inj → a1M
open Option renaming map_some → a0N,map_eq_some_iff → a0P,bind_eq_bind → a1b,bind_eq_some_iff → a1c,bind_some → a1f,pure_def → a1n,map → a2b
open Array renaming getElem?_eq_some_iff → a0S,replicate → a19
open Bool renaming and_eq_true → a0U,false_eq_true → a0W,or_eq_true → a1A,false_or → a1V
open Prod.mk renaming injEq → a0V
open Nat renaming eq_of_beq_eq_true → a01,lt_of_lt_of_le → a07,lt_or_ge → a08,add_mul → a1d,le_refl → a1e,le_of_ble_eq_true → a1j,min_eq_left → a1p,one_mul → a1w,beq → a1y,mod_eq_of_lt → a1E,add_comm → a1G,zero_add → a1J,add_assoc → a1T,le_total → a1Z,min_eq_right → a12,div_eq_of_lt → a13,mul_mod_left → a14,blt → a2d,ble → a2e
open Int renaming toNat_natCast → a1l,natCast_emod → a1u,le_refl → a1z
open Go.IntKind renaming i64 → a15,signed → a2a,bits → a2f
open Function renaming comp → a2c
set_option linter.unusedSimpArgs false
set_option linter.unusedVariables false
namespace Go.Vm
open Go
def xI (ag:Bool)(k n:Nat)(cells:List V):List V:=if ag then(a1k n).map fun i=> .agg ((cells.drop (i*k)).take k)else cells
def dW (h:Hp):Nat→V→Option V
 |_,.sc v=>some (.sc v)
 |_,.row nil k es=>some (.row nil k es)
 |0,_=>none
 |d+1,.sl b off n k ag=>match h[b]? with
  |some (some B)=>
   if off+n*k≤B.cells.length∧0<k∧(ag=true∨k=1) then
    (((B.cells.drop off).take (n*k)).mapM (dW h d)).map fun cells=> .row none k (xI ag k n cells)
   else none
  |_=>none
 |_,_=>none
def wD (h:Hp):V→Option V
 | .agg cs=>(cs.mapM (dW h 4)).map V.agg
 |x=>dW h 4 x
def aSh (h:Hp):V→Option V
 | .tup vs=>(vs.mapM (wD h)).map V.tup
 |x=>wD h x
theorem aCy {α β:Type}{f:α→Option β}: ∀{l:List α}{m:List β},l.mapM f=some m→l.length=m.length∧ ∀(i:Nat)(x:α)(y:β),l[i]? =some x→m[i]? =some y→f x=some y
 | [],m,h=>by simp at h;subst h;simp
 |x::l,m,h=>by
  simp only[a03,a1b,a1c,a1n,a0I]at h
  obtain⟨y,hy,m',hm,rfl⟩:=h
  obtain⟨h1,h2⟩:=aCy hm
  refine⟨by simp[h1],fun i a b ha hb=> ?_⟩
  cases i with
  |zero=>simp at ha hb;subst ha hb;exact hy
  |succ i=>exact h2 i a b (by simpa using ha) (by simpa using hb)
section
variable {A:Nat→Prop}{M:List (Option Nat)}{h:Hp}{w:World}
theorem VR.closed_row {X X':Nat→Prop}{nil:Option Bool}{k:Nat}{es:List V}{v:Value}(hX: ∀g,g<w.heap.size→X' g→X g)(hv:VR X M w (.row nil k es) v):VR X' [] w (.row nil k es) v:=by
 have h1:VR X [] w (.row nil k es) v:=by unfold VR at hv ⊢; exact hv
 exact VR.ext (Ext.refl (fun _=>False) w) (a1m _) (fun _ _ h=>h.elim) hX _ _ h1
theorem aHx {X:Nat→Prop}{k:Nat}(hk:0<k): ∀(n:Nat){cells:List V}{vs:List Value}{ad:Addr},cells.length=n*k→VCells X [] w cells vs→LiesAt w ad vs.toArray→
  VRow X [] w k ((a1k n).map fun i=> .agg ((cells.drop (i*k)).take k)) ad
 |0,cells,vs,ad,_,_,_=>by simp only[List.range_zero,List.map_nil];unfold VRow;trivial
 |n+1,cells,vs,ad,hl,hc,hla=>by
  rw[List.range_succ_eq_map,a06,a1Y]
  unfold VRow
  have hlen:=hc.len
  have hsz:(vs.take k).length=k:=by rw[a04,←hlen,hl,a1d];omega
  refine⟨⟨.agg (vs.take k).toArray, ?_,by simpa[Value.cells]using hsz, ?_⟩, ?_⟩
  ·simp only[Nat.zero_mul,a09]
   unfold VR
   exact⟨_,rfl,hc.take k⟩
  ·simpa[Value.cells]using hla.take k
  have:=aHx hk n (cells:=cells.drop k) (vs:=vs.drop k) (ad:=ad.add k) (by simp[hl,a1d]) (hc.drop k) (hla.drop k)
  have e:(a1k n).map ((fun i=>V.agg ((cells.drop (i*k)).take k))∘Nat.succ)=(a1k n).map fun i=>V.agg (((cells.drop k).drop (i*k)).take k):=by
   apply a1P
   intro i _
   simp only[a2c,List.drop_drop]
   rw[show k+i*k=(i+1)*k by rw[a1d,a1w,a1G]]
  rw[e]
  exact this
theorem aRb {d:Nat}{x y:V}(hy:dW h d x=some y)(hx:x.one=true):y.one=true:=by
 cases d<;>cases x<;>simp only[dW]at hy<;>first
  |(injection hy with hy;subst hy;exact hx)
  |cases hy
  |(
   split at hy
   ·split at hy
    ·simp only[a0P]at hy;obtain⟨_,_,rfl⟩:=hy;rfl
    cases hy
   cases hy)
theorem aEq (H:HR A M h w): ∀(d:Nat){x y:V}{v:Value},VR (Xs A M h) M w x v→dW h d x=some y→VR A [] w y v
 |d,.sc c,y,v,hx,hy=>by
  have:y= .sc c:=by cases d<;>simp only[dW]at hy<;>injection hy with hy<;>exact hy.symm
  subst this;unfold VR at hx ⊢; exact hx
 |d,.row nil k es,y,v,hx,hy=>by
  have:y= .row nil k es:=by cases d<;>simp only[dW]at hy<;>injection hy with hy<;>exact hy.symm
  subst this;exact hx.closed_row (fun _ _ ha=> .inl ha)
 |0,.sl b off n k ag,y,v,hx,hy=>by simp only[dW]at hy;cases hy
 |d,.agg cs,y,v,hx,hy=>by cases d<;>simp only[dW]at hy<;>cases hy
 |d,.tup cs,y,v,hx,hy=>by cases d<;>simp only[dW]at hy<;>cases hy
 |d,.ptr b off,y,v,hx,hy=>by cases d<;>simp only[dW]at hy<;>cases hy
 |d,.eptr es i off,y,v,hx,hy=>by cases d<;>simp only[dW]at hy<;>cases hy
 |d,.mp b,y,v,hx,hy=>by cases d<;>simp only[dW]at hy<;>cases hy
 |d,.any,y,v,hx,hy=>by cases d<;>simp only[dW]at hy<;>cases hy
 |d+1,.sl b off n k ag,y,v,hx,hy=>by
  simp only[dW]at hy
  split at hy
  ·rename_i B hb
   split at hy
   ·rename_i hc
    obtain⟨hoff,hk,hag⟩:=hc
    simp only[Option.map_eq_some_iff]at hy
    obtain⟨cells,hm,rfl⟩:=hy
    obtain⟨hl,hget⟩:=aCy hm
    have hB1:=(H.blk b B hb).1
    have hlen:cells.length=n*k:=by rw[←hl];simp;omega
    have hone: ∀c∈cells,c.one=true:=by
     intro c hc
     obtain⟨i,hi,rfl⟩:=List.mem_iff_getElem.1 hc
     have hi':i<((B.cells.drop off).take (n*k)).length:=by omega
     have:=hget i _ _ (List.getElem?_eq_getElem hi') (List.getElem?_eq_getElem hi)
     exact aRb this (hB1 _ (List.mem_of_mem_drop (List.mem_of_mem_take (List.getElem_mem hi'))))
    have hok: ∀e∈xI ag k n cells,e.okElem k=true:=by
     intro e he
     unfold xI at he
     split at he
     ·simp only[List.mem_map,List.mem_range]at he
      obtain⟨i,hi,rfl⟩:=he
      have hik:i*k+k≤n*k:=by have:=Nat.mul_le_mul_right k hi;rw[Nat.succ_mul]at this;exact this
      simp only[V.okElem,V.flatOk,V.cells,Bool.and_eq_true,beq_iff_eq,List.all_eq_true]
      refine⟨fun c hc=>hone c (List.mem_of_mem_drop (List.mem_of_mem_take hc)), ?_⟩
      rw[List.length_take,List.length_drop,hlen];omega
     rename_i hag'
     have hk1:k=1:=hag.resolve_left hag'
     have h1:=hone e he
     have:e.cells=[e]:=by cases e<;>first|rfl|simp[V.one]at h1
     simp[V.okElem,V.flatOk,this,h1,hk1]
    have hclen:(xI ag k n cells).length=n:=by
     unfold xI
     split
     ·simp
     rename_i hag'
     rw[hlen,hag.resolve_left hag',Nat.mul_one]
    unfold VR at hx
    rcases hx with⟨hM,rfl,rfl,rfl⟩|⟨g,cap,e,sz,hg,rfl,h1,h2,h3,h4,h5⟩
    ·have:xI ag k 0 cells=[]:=List.eq_nil_of_length_eq_zero hclen
     rw[this]
     unfold VR
     exact⟨none,0,rfl,Nat.le_refl _,fun _=>rfl,(fun b hb=>by cases hb),by simp,fun hne=>absurd rfl hne⟩
    unfold VR
    refine⟨some ⟨g,off,none⟩,cap,by rw[hclen],by rw[hclen];exact h1,fun hh=>(by cases hh),(fun b hb=>by cases hb),hok,fun hne=> ?_⟩
    obtain⟨vs,hvs,hlies⟩:=aGk H hb hg h4 off
    have hvs':=hvs.take (n*k)
    have hlies':=hlies.take (n*k)
    have hA: ¬A g:=by
     obtain⟨_,⟨hn,_⟩|⟨g',cs,hg',hA,_⟩⟩:=H.blk b B hb
     ·rw[hg]at hn;cases hn
     rw[hg]at hg';injection hg' with hg';injection hg' with hg';subst hg';exact hA
    have hcv:VCells A [] w cells (vs.take (n*k)):=VCells.mk (by rw[←hl,hvs'.len]) (fun i c v hc hv=>by
     have hi:i<((B.cells.drop off).take (n*k)).length:=by rw[hl];exact(List.getElem?_eq_some_iff.1 hc).1
     have hx:=List.getElem?_eq_getElem hi
     obtain⟨u,hu,hr⟩:=hvs'.get hx
     rw[hv]at hu;injection hu with hu;subst hu
     exact aEq H d hr (hget i _ _ hx hc))
    refine⟨⟨g,off,none⟩,rfl,hk,hA,rfl, ?_⟩
    unfold xI
    split
    ·exact aHx hk n hlen hcv hlies'
    rename_i hag'
    exact VRow.ofCells (hag.resolve_left hag') hcv hone hlies'
   cases hy
  cases hy
theorem aO0 (H:HR A M h w){cs ds:List V}{vs:List Value}(hc:VCells (Xs A M h) M w cs vs)(hm:cs.mapM (dW h 4)=some ds):VCells A [] w ds vs:=by
 obtain⟨hl,hget⟩:=aCy hm
 refine VCells.mk (by rw[←hl,hc.len]) (fun i c v hd hv=> ?_)
 have hi:i<cs.length:=by rw[hl];exact(a0F.1 hd).1
 obtain⟨u,hu,hr⟩:=hc.get (a0H hi)
 rw[hv]at hu;injection hu with hu;subst hu
 exact aEq H 4 hr (hget i _ _ (a0H hi) hd)
theorem aGj (H:HR A M h w){x y:V}{v:Value}(hx:VR (Xs A M h) M w x v)(hy:wD h x=some y):VR A [] w y v:=by
 unfold wD at hy
 split at hy
 ·simp only[a0P]at hy
  obtain⟨ds,hd,rfl⟩:=hy
  unfold VR at hx⊢
  obtain⟨vs,rfl,hc⟩:=hx
  exact⟨vs,rfl,aO0 H hc hd⟩
 exact aEq H 4 hx hy
theorem aSg (H:HR A M h w){x y:V}{v:Value}(hx:VR (Xs A M h) M w x v)(hy:aSh h x=some y):VR A [] w y v:=by
 unfold aSh at hy
 split at hy
 ·rename_i xs
  simp only[a0P]at hy
  obtain⟨ds,hd,rfl⟩:=hy
  unfold VR at hx⊢
  obtain⟨vs,rfl,hc⟩:=hx
  refine⟨vs,rfl, ?_⟩
  obtain⟨hl,hget⟩:=aCy hd
  refine VCells.mk (by rw[←hl,hc.len]) (fun i c v hd hv=> ?_)
  have hi:i<xs.length:=by rw[hl];exact(a0F.1 hd).1
  obtain⟨u,hu,hr⟩:=hc.get (a0H hi)
  rw[hv]at hu;injection hu with hu;subst hu
  exact aGj H hr (hget i _ _ (a0H hi) hd)
 exact aGj H hx hy
def PFn (P:Program)(f:FuncId)(args:List V)(r:V):Prop:=
 ∀(A:Nat→Prop)(w:World)(vs:List Value),(∀g,A g→g<w.heap.size)→Globs A w→VCells A [] w args vs→
  Invokes P f vs.toArray w (fun v w'=>Ext (fun _=>False) w w'∧VR A [] w' r v)
theorem Invokes.mono {P:Program}{f:FuncId}{vs:Array Value}{R R':Value→World→Prop}(hh:Invokes P f vs w R)(hR: ∀v w',R v w'→R' v w'):Invokes P f vs w R':=by
 rcases hh with⟨h1,h2⟩|⟨v,w',h1,h2⟩
 ·exact .inl ⟨h1,h2.mono fun e w' ⟨v,he,hr⟩=>⟨v,he,hR _ _ hr⟩⟩
 exact .inr ⟨v,w',h1,hR _ _ h2⟩
theorem aNj {A:Nat→Prop}{g:Nat}:Xs A [] [] g↔A g:=⟨fun hx=>hx.elim id (fun⟨b,B,hb,_⟩=>by simp at hb),.inl⟩
theorem VCells.avoid {X X':Nat→Prop}{cs:List V}{vs:List Value}(hX: ∀g,g<w.heap.size→X' g→X g)(hv:VCells X M w cs vs):VCells X' M w cs vs:=
 VCells.ext (Ext.refl (fun _=>False) w) (a1m _) (fun _ _ h=>h.elim) hX _ _ hv
theorem VR.avoid {X X':Nat→Prop}{x:V}{v:Value}(hX: ∀g,g<w.heap.size→X' g→X g)(hv:VR X M w x v):VR X' M w x v:=
 VR.ext (Ext.refl (fun _=>False) w) (a1m _) (fun _ _ h=>h.elim) hX _ _ hv
theorem HR.nil {A:Nat→Prop}(ha: ∀g,A g→g<w.heap.size)(hg:Globs A w):HR A [] [] w:=⟨rfl,ha,by simp,by simp,hg.avoid fun _ _ hx=>aNj.1 hx⟩
def aJg :V→Bool
 | .sc _=>true
 | .row _ _ []=>true
 |_=>false
def aPq :V→Bool
 | .agg cs=>cs.all aJg
 | .tup vs=>vs.all fun x=>match x with
  | .agg cs=>cs.all aJg
  |x=>aJg x
 |x=>aJg x
theorem aKc {X X':Nat→Prop}{x:V}{v:Value}(hx:aJg x=true)(hv:VR X M w x v):VR X' M w x v:=by
 unfold aJg at hx
 split at hx
 ·unfold VR at hv ⊢; exact hv
 ·unfold VR at hv⊢
  obtain⟨a,cap,h1,h2,h3,h4,h5,h6⟩:=hv
  exact⟨a,cap,h1,h2,h3,h4,h5,fun hne=>absurd rfl hne⟩
 cases hx
theorem aMP {X X':Nat→Prop}{cs:List V}{vs:List Value}(hx:cs.all aJg=true)(hv:VCells X M w cs vs):VCells X' M w cs vs:=
 VCells.mk hv.len (fun i c v hc hv'=>by
  obtain⟨u,hu,hr⟩:=hv.get hc
  rw[hv']at hu;injection hu with hu;subst hu
  exact aKc (a0K.1 hx c (a0Q hc)) hr)
theorem aTi {X X':Nat→Prop}{x:V}{v:Value}(hx:aPq x=true)(hv:VR X M w x v):VR X' M w x v:=by
 unfold aPq at hx
 split at hx
 ·unfold VR at hv⊢
  obtain⟨vs,h1,h2⟩:=hv
  exact⟨vs,h1,aMP hx h2⟩
 ·unfold VR at hv⊢
  obtain⟨vs,h1,h2⟩:=hv
  refine⟨vs,h1,VCells.mk h2.len (fun i c v hc hv'=> ?_)⟩
  obtain⟨u,hu,hr⟩:=h2.get hc
  rw[hv']at hu;injection hu with hu;subst hu
  have:=a0K.1 hx c (a0Q hc)
  split at this
  ·unfold VR at hr⊢
   obtain⟨us,h3,h4⟩:=hr
   exact⟨us,h3,aMP this h4⟩
  exact aKc this hr
 exact aKc hx hv
theorem Grow.none_changed {A:Nat→Prop}{M:List (Option Nat)}{h:Hp}{w w':World}(H:HR A M h w)(hE:Ext (fun _=>False) w w'):Grow A M h w M h w':=by
 have hE':Ext (cX M h) w w':=hE.mono fun _ _ hh=>hh.elim
 refine⟨a1m _,⟨H.len,fun g hg=>a07 (H.alt g hg) hE.size,fun b B hb=> ?_,H.inj,H.glob.grow hE' (fun _ _ hl=>hl)⟩,hE',fun _ _ hl=>hl⟩
 obtain⟨h0,hn|⟨g,cs,h1,h2,h3,h4,h5⟩⟩:=H.blk b B hb
 ·exact⟨h0,.inl hn⟩
 exact⟨h0,.inr ⟨g,cs,h1,h2,h3.to (hE.block g (H.mlt hb h1) id),h4,VCells.ext hE' (a1m _) (fun _ _ hl=> .inr hl) (fun _ _ hx=>hx) _ _ h5⟩⟩
theorem aWJ {P:Program}{f:FuncId}{xs ys:List V}{r:V}(hp:PFn P f ys r)(hx:xs.mapM (aSh h)=some ys)(hr:aPq r=true):Fn P f h xs r h:=by
 intro A M w vs H hargs
 have hargs':VCells A [] w ys vs:=by
  obtain⟨hl,hget⟩:=aCy hx
  refine VCells.mk (by rw[←hl,hargs.len]) (fun i c v hd hv=> ?_)
  have hi:i<xs.length:=by rw[hl];exact(a0F.1 hd).1
  obtain⟨u,hu,hr⟩:=hargs.get (a0H hi)
  rw[hv]at hu;injection hu with hu;subst hu
  exact aSg H hr (hget i _ _ (a0H hi) hd)
 refine(hp A w vs H.alt (H.glob.avoid fun _ _ h=> .inl h) hargs').mono fun v w' ⟨hE,hv⟩=>⟨M,Grow.none_changed H hE, ?_⟩
 exact aTi hr hv.lift
def aK5 :V→Bool
 | .sc _=>true
 | .row _ _ _=>true
 |_=>false
theorem aLy {X:Nat→Prop}{x:V}{v:Value}(hx:aK5 x=true)(hv:VR X M w x v):VR X [] w x v:=by
 unfold aK5 at hx
 split at hx
 ·unfold VR at hv ⊢; exact hv
 ·unfold VR at hv ⊢; exact hv
 cases hx
end
def OpsTo (P:Program)(O:vR)(ops:Array Oper)(l:List Oper)(s:List V)(h:Hp)(K:List V→Hp→Prop):Prop:= ∃p,aAh P O ops l s h=some p∧K p.1 p.2
def Then {α:Type}(o:Option α)(K:α→Prop):Prop:= ∃p,o=some p∧K p
section
variable {P:Program}{O:vR}{ops:Array Oper}{s:List V}{h:Hp}{K:List V→Hp→Prop}
theorem OpsTo.nil (hk:K s h):OpsTo P O ops [] s h K:=⟨(s,h),rfl,hk⟩
theorem OpsTo.cons {o:Oper}{l:List Oper}(hh:Then (cN P O ops o s h) (fun p=>OpsTo P O ops l (g8 s o.dst p.1) p.2 K)):OpsTo P O ops (o::l) s h K:=by
 obtain⟨⟨r,h1⟩,h2,p,h3,h4⟩:=hh
 refine⟨p, ?_,h4⟩
 simp only[aAh,cQ,h2,a0N,a1f]
 exact h3
end
@[simp] theorem Ex.then_normal (K:List V→Hp→Prop)(Q:Ex→List V→Hp→Prop):Ex.then K Q .normal=K:=rfl
@[simp] theorem Ex.then_ret (K:List V→Hp→Prop)(Q:Ex→List V→Hp→Prop):Ex.then K Q .ret=Q .ret:=rfl
@[simp] theorem Ex.then_exit (K:List V→Hp→Prop)(Q:Ex→List V→Hp→Prop)(id:Nat):Ex.then K Q (.exit id)=Q (.exit id):=rfl
@[simp] theorem Ex.inBlock_normal (Q:Ex→List V→Hp→Prop)(id:Nat):Ex.inBlock id Q .normal=Q .normal:=rfl
@[simp] theorem Ex.inBlock_ret (Q:Ex→List V→Hp→Prop)(id:Nat):Ex.inBlock id Q .ret=Q .ret:=rfl
theorem Then.mk {α:Type}{o:Option α}{K:α→Prop}{p:α}(h1:o=some p)(h2:K p):Then o K:=⟨p,h1,h2⟩
theorem Then.out {α:Type}{o:Option α}{K:α→Prop}(h:Then o K): ∃p,o=some p∧K p:=h
@[simp] theorem aZL {α:Type}(x:α)(K:α→Prop):Then (some x) K↔K x:=⟨fun⟨p,hp,hk⟩=>by injection hp with hp;subst hp;exact hk,fun hk=>⟨x,rfl,hk⟩⟩
@[simp] theorem aZ5 {α β:Type}(o:Option α)(f:α→β)(K:β→Prop):Then (o.map f) K↔Then o fun x=>K (f x):=by
 constructor
 ·rintro⟨p,hp,hk⟩
  simp only[a0P]at hp
  obtain⟨x,hx,rfl⟩:=hp
  exact⟨x,hx,hk⟩
 rintro⟨x,hx,hk⟩
 exact⟨f x,by rw[hx];rfl,hk⟩
@[simp] theorem aZN {α β:Type}(o:Option α)(f:α→Option β)(K:β→Prop):Then (o.bind f) K↔Then o fun x=>Then (f x) K:=by
 constructor
 ·rintro⟨p,hp,hk⟩
  simp only[a1c]at hp
  obtain⟨x,hx,hf⟩:=hp
  exact⟨x,hx,p,hf,hk⟩
 rintro⟨x,hx,p,hf,hk⟩
 exact⟨p,by rw[hx];exact hf,hk⟩
@[simp] theorem a0s {α:Type}(c:Prop) [Decidable c] (o:Option α) (K:α→Prop):Then (if c then o else none) K↔c∧Then o K:=by
 constructor
 ·rintro⟨p,hp,hk⟩
  split at hp
  ·rename_i hc;exact⟨hc,p,hp,hk⟩
  cases hp
 rintro⟨hc,p,hp,hk⟩
 exact⟨p,by rw[if_pos hc];exact hp,hk⟩
@[simp] theorem aZM {α:Type}(c:Prop) [Decidable c] (o:Option α) (K:α→Prop):Then (if c then none else o) K↔ ¬c∧Then o K:=by
 constructor
 ·rintro⟨p,hp,hk⟩
  split at hp
  ·cases hp
  rename_i hc;exact⟨hc,p,hp,hk⟩
 rintro⟨hc,p,hp,hk⟩
 exact⟨p,by rw[if_neg hc];exact hp,hk⟩
section
variable (P:Program)(t:TypeId)(xo yo:Operand)
@[simp] theorem aXn {α:Type}(a:α):aP P (pure a)=some a:=rfl
@[simp] theorem aWP {α:Type}(a:α):aP P (Sem.pure a)=some a:=rfl
theorem gF (op:BinOp)(k k':IntKind)(a b:Int):eqGuard op t xo yo (.int k a) (.int k' b)=pure ():=by cases op<;>rfl
theorem aSi (op:BinOp)(a b:Bool):eqGuard op t xo yo (.bool a) (.bool b)=pure ():=by cases op<;>rfl
theorem aP8 (op:BinOp)(a b:ByteArray):eqGuard op t xo yo (.string a) (.string b)=pure ():=by cases op<;>rfl
@[simp] theorem aWT (k:IntKind)(a b:Int):c9 P .add t xo yo (.sc (.int k a)) (.sc (.int k b))=some (.sc (.int k (k.wrap (a+b)))):=by
 simp[c9,eM,c8,gF,binOp,Op.intArith,pureV];rfl
@[simp] theorem aW3 (k:IntKind)(a b:Int):c9 P .sub t xo yo (.sc (.int k a)) (.sc (.int k b))=some (.sc (.int k (k.wrap (a-b)))):=by
 simp[c9,eM,c8,gF,binOp,Op.intArith,pureV];rfl
@[simp] theorem aWD (k:IntKind)(a b:Int):c9 P .mul t xo yo (.sc (.int k a)) (.sc (.int k b))=some (.sc (.int k (k.wrap (a*b)))):=by
 simp[c9,eM,c8,gF,binOp,Op.intArith,pureV];rfl
@[simp] theorem aXm (k:IntKind)(a b:Int):c9 P .and t xo yo (.sc (.int k a)) (.sc (.int k b))=some (.sc (.int k (bits .and k a b))):=by
 simp[c9,eM,c8,gF,binOp,Op.intBits,pureV];rfl
@[simp] theorem aX9 (k:IntKind)(a b:Int):c9 P .or t xo yo (.sc (.int k a)) (.sc (.int k b))=some (.sc (.int k (bits .or k a b))):=by
 simp[c9,eM,c8,gF,binOp,Op.intBits,pureV];rfl
@[simp] theorem aWu (k:IntKind)(a b:Int):c9 P .xor t xo yo (.sc (.int k a)) (.sc (.int k b))=some (.sc (.int k (bits .xor k a b))):=by
 simp[c9,eM,c8,gF,binOp,Op.intBits,pureV];rfl
@[simp] theorem aW0 (k:IntKind)(a b:Int):c9 P .eql t xo yo (.sc (.int k a)) (.sc (.int k b))=some (.sc (.bool (a == b))):=by
 simp[c9,eM,c8,gF,binOp,Op.intCmp,pureV];rfl
@[simp] theorem aWr (k:IntKind)(a b:Int):c9 P .neq t xo yo (.sc (.int k a)) (.sc (.int k b))=some (.sc (.bool (a != b))):=by
 simp[c9,eM,c8,gF,binOp,Op.intCmp,pureV];rfl
@[simp] theorem aNS (k:IntKind)(a b:Int):c9 P .lss t xo yo (.sc (.int k a)) (.sc (.int k b))=some (.sc (.bool (decide (a<b)))):=by
 simp[c9,eM,c8,gF,binOp,Op.intCmp,pureV];rfl
@[simp] theorem aW4 (k:IntKind)(a b:Int):c9 P .leq t xo yo (.sc (.int k a)) (.sc (.int k b))=some (.sc (.bool (decide (a≤b)))):=by
 simp[c9,eM,c8,gF,binOp,Op.intCmp,pureV];rfl
@[simp] theorem aWB (k:IntKind)(a b:Int):c9 P .gtr t xo yo (.sc (.int k a)) (.sc (.int k b))=some (.sc (.bool (decide (b<a)))):=by
 simp[c9,eM,c8,gF,binOp,Op.intCmp,pureV];rfl
@[simp] theorem aW8 (k:IntKind)(a b:Int):c9 P .geq t xo yo (.sc (.int k a)) (.sc (.int k b))=some (.sc (.bool (decide (b≤a)))):=by
 simp[c9,eM,c8,gF,binOp,Op.intCmp,pureV];rfl
@[simp] theorem aXf (k:IntKind)(a b:Int):c9 P .quo t xo yo (.sc (.int k a)) (.sc (.int k b))=if b=0 then none else some (.sc (.int k (k.wrap (a.tdiv b)))):=by
 simp only[c9,eM,c8,gF,binOp,Op.intDiv,pureV,ne_eq,not_true,if_false]
 split<;>rfl
@[simp] theorem aWm (k:IntKind)(a b:Int):c9 P .rem t xo yo (.sc (.int k a)) (.sc (.int k b))=if b=0 then none else some (.sc (.int k (a.tmod b))):=by
 simp only[c9,eM,c8,gF,binOp,Op.intDiv,pureV,ne_eq,not_true,if_false]
 split<;>rfl
@[simp] theorem aW2 (k k':IntKind)(a b:Int):c9 P .shl t xo yo (.sc (.int k a)) (.sc (.int k' b))=if b<0 then none else some (.sc (.int k (k.wrap (a*2^(min b.toNat k.bits))))):=by
 simp only[c9,eM,c8,gF,binOp,Op.shift,pureV]
 split<;>rfl
@[simp] theorem aWS (k k':IntKind)(a b:Int):c9 P .shr t xo yo (.sc (.int k a)) (.sc (.int k' b))=if b<0 then none else some (.sc (.int k (a.fdiv (2^(min b.toNat k.bits))))):=by
 simp only[c9,eM,c8,gF,binOp,Op.shift,pureV]
 split<;>rfl
@[simp] theorem aXR (b:Bool):unV P .not (.sc (.bool b))=some (.sc (.bool (!b))):=rfl
theorem aRj (h:Hp)(a b:TypeId)(v:Value):qW P h a b (.sc v)=none:=by
 unfold qW
 split
 ·split<;>first|rfl|simp[fF]
 rfl
theorem aVh {h:Hp}{a b:TypeId}{d:TI}{k k':IntKind}{n:Int}(ha: ∃da,aJ P a=some da)(hb:aJ P b=some d)(hd:d.desc= .int k):aBA P h a b (.sc (.int k' n))=some (.sc (.int k (k.wrap n))):=by
 obtain⟨da,ha⟩:=ha
 have h1:=(cL ha).1
 have h2:=(cL hb).1
 rw[hd]at h2
 have e1:underlying a=Sem.program fun p=>match p.underlying a with|some d=>pure d|none=>stuck "no such type" :=rfl
 have e2:underlying b=Sem.program fun p=>match p.underlying b with|some d=>pure d|none=>stuck "no such type" :=rfl
 simp only[aBA,aRj,eM,c8,pureV]
 have:aP P (convert a b (.int k' n))=some (.int k (k.wrap n)):=by
  unfold convert
  rw[e1,e2]
  show aP P (Sem.bind (Sem.program _) _)=_
  simp only[Sem.bind,aP,h1]
  show aP P (Sem.bind (Sem.program _) _)=_
  simp only[Sem.bind,aP,h2]
  cases da.desc<;>rfl
 rw[this];rfl
@[simp] theorem a0E :IntKind.u8.bits=8:=rfl
@[simp] theorem a0j :IntKind.u16.bits=16:=rfl
@[simp] theorem aZ3 :IntKind.u32.bits=32:=rfl
@[simp] theorem a0q :IntKind.u64.bits=64:=rfl
@[simp] theorem a0z :a15.bits=64:=rfl
theorem cJ {a:Int}(h1: -9223372036854775808≤a)(h2:a≤9223372036854775807):a15.wrap a=a:=by rw[IntKind.wrap_i64];omega
theorem aHi {a:Int}(h1:0≤a)(h2:a≤18446744073709551615):IntKind.u64.wrap a=a:=by rw[IntKind.wrap_u64];omega
theorem aYT {a:Int}(h1:0≤a)(h2:a≤4294967295):IntKind.u32.wrap a=a:=by rw[IntKind.wrap_u32];omega
end
attribute [irreducible] OpsTo Then
end Go.Vm
namespace Go.Vm
open Go Go.ChangeShapes Go.WideShapes Go.ChangeAt Go.RowKit
def NoX :Nat→Prop:=fun _=>False
def aTc (l:List UInt8):List V:=l.map fun b=> .sc (.int .u8 b.toNat)
@[simp] theorem aY6 (l:List UInt8):(aTc l).length=l.length:=by simp[aTc]
section
variable {H:Type}{enc:TypeId×Value→H}{P:Program}{w:World}{spare:Nat→Bool}{held:Bool}
theorem aJA {W W':World}(hlaid:laidOutB P=true)(hb:Below W.heap.size W W'): ∀{ts:List TypeId}{vs:List Value}{ds:List (DataW H)}{p:List MemPlace},
  (∀t∈ts,P.readableRec t=true∧t<P.types.size)→DataW.TrodAll enc P W 0 (fun _=>true) true ts vs ds p→DataW.TrodAll enc P W' 0 (fun b=>decide (b<W.heap.size)) true ts vs ds p
 | [],vs,ds,p,_,h=>by obtain⟨rfl,rfl,rfl⟩:=trodAll_nil h;exact trodAll_mk0
 |t::ts,vs,ds,p,hr,h=>by
  obtain⟨v,vs',d,ds',p',q,rfl,rfl,rfl,h1,h2⟩:=trodAll_cons h
  obtain⟨r1,r2⟩:=hr t (by simp)
  refine trodAll_cons_mk (Below.trod hlaid r1 r2 h1 hb ?_) (aJA hlaid hb (fun t ht=>hr t (by simp[ht])) h2)
  obtain⟨m,hm⟩:=h1
  exact DataW.trod_lt m _ _ _ hm
end
theorem aPU {P:Program} {f:FuncId} {fn:Func} {c:Code} {args:List V} {vs:List Value} {w:World} (hf:P.funcs[f]? =some fn) (hb:fn.body=some c) (hn:(fn.name == "runtime.NumGoroutine")=false)
  (hp:PFn P f args (.sc (.bool true))) (hGl:Globs NoX w) (hv:VCells NoX [] w args vs):Calls P f vs.toArray w fun e w'=>e= .returned (.bool true)∧Below w.heap.size w w':=by
 rcases hp NoX w vs (fun _ h=>h.elim) hGl hv with⟨_,h⟩|⟨v,w',h,_⟩
 ·refine h.mono fun e w' ⟨v,he,hE,hr⟩=> ?_
  unfold VR at hr
  subst hr
  exact⟨he,hE.below fun _ _ h=>h⟩
 rw[aKy hf (by rw[hb];rfl) hn]at h
 cases h
end Go.Vm
namespace Go.Vm
open Go
def Env.zero {P:Program}(hm:P.follows .mixedOrders=true):Env P:=
 {O:=fun _ _ _=>none,F:=fun _=>false,ok:=fun _ _ _ _ _ hh=>(by cases hh),still:=fun _ _ _ _ _ hf=>(by cases hf),mixed:=hm}
open Classical in
noncomputable def Env.one {P:Program}(hm:P.follows .mixedOrders=true){f:FuncId}{h:Hp}{xs:List V}{r:V}{h':Hp}(hc:Fn P f h xs r h')(g:FuncId→Bool)(hg: ∀k,g k=true→h'=h):Env P:=
 {
  O:=fun k h1 xs1=>if k=f∧h1=h∧xs1=xs then some (r,h')else none
  F:=g
  ok:=fun k h1 xs1 r1 h2 hh=>by
   dsimp only at hh
   split at hh
   ·rename_i he
    obtain⟨rfl,rfl,rfl⟩:=he
    simp only[a0I,a0V]at hh
    obtain⟨rfl,rfl⟩:=hh
    exact hc
   cases hh
  still:=fun k h1 xs1 r1 h2 hk hh=>by
   dsimp only at hh
   split at hh
   ·rename_i he
    simp only[a0I,a0V]at hh
    rw[←hh.2,he.2.1]
    exact hg k hk
   cases hh
  mixed:=hm}
open Classical in
noncomputable def Env.add {P:Program}(E:Env P){f:FuncId}{h:Hp}{xs:List V}{r:V}{h':Hp}(hc:Fn P f h xs r h')(g:FuncId→Bool)(hg: ∀k,g k=true→h'=h)(hE: ∀k,g k=true→E.F k=true):Env P:=
 {
  O:=fun k h1 xs1=>if k=f then(if h1=h∧xs1=xs then some (r,h')else none)else E.O k h1 xs1
  F:=g
  ok:=fun k h1 xs1 r1 h2 hh=>by
   dsimp only at hh
   split at hh
   ·rename_i he
    subst he
    split at hh
    ·rename_i he
     obtain⟨rfl,rfl⟩:=he
     simp only[a0I,a0V]at hh
     obtain⟨rfl,rfl⟩:=hh
     exact hc
    cases hh
   exact E.ok k h1 xs1 r1 h2 hh
  still:=fun k h1 xs1 r1 h2 hk hh=>by
   dsimp only at hh
   split at hh
   ·split at hh
    ·rename_i he
     simp only[a0I,a0V]at hh
     rw[←hh.2,he.1]
     exact hg k hk
    cases hh
   exact E.still k h1 xs1 r1 h2 (hE k hk) hh
  mixed:=E.mixed}
def aZ2 :FuncId→Bool:=fun _=>true
theorem PFn.flat {P:Program}{f:FuncId}{xs ys:List V}{r:V}{h:Hp}(hp:PFn P f ys r)(hx:xs.mapM (aSh h)=some ys)(hr:aPq r=true):Fn P f h xs r h:=aWJ hp hx hr
def Wk :List V→List V→Prop
 | [],[]=>True
 |a::s,b::t=>(b= .any∨a=b)∧Wk s t
 |_,_=>False
theorem Wk.len : ∀{s t:List V},Wk s t→s.length=t.length
 | [],[],_=>rfl
 |a::s,b::t,h=>by simp[Wk.len h.2]
 | [],_::_,h=>h.elim
 |_::_,[],h=>h.elim
theorem Wk.get : ∀{s t:List V},Wk s t→ ∀(i:Nat)(y:V),t[i]? =some y→y= .any∨s[i]? =some y
 | [],[],_,i,y,hy=>by simp at hy
 |a::s,b::t,h,i,y,hy=>by
  cases i with
  |zero=>
   simp at hy;subst hy
   rcases h.1 with h1|h1
   ·exact .inl h1
   exact .inr (by simp[h1])
  |succ i=>exact Wk.get h.2 i y (by simpa using hy)
 | [],_::_,h,_,_,_=>h.elim
 |_::_,[],h,_,_,_=>h.elim
section
variable {P:Program}{K:List V→Hp→Prop}{Q:Ex→List V→Hp→Prop}{s:List V}{h:Hp}{id i:Nat}
theorem Ex.then_mk (hk:K s h):Ex.then K Q .normal s h:=hk
theorem Ex.then_exit_mk (hk:Q (.exit i) s h):Ex.then K Q (.exit i) s h:=hk
theorem Ex.then_ret_mk (hk:Q .ret s h):Ex.then K Q .ret s h:=hk
theorem Ex.inBlock_mk (hk:Q .normal s h):Ex.inBlock id Q .normal s h:=hk
theorem Ex.inBlock_ret_mk (hk:Q .ret s h):Ex.inBlock id Q .ret s h:=hk
theorem Ex.inBlock_same_mk (hk:Q .normal s h):Ex.inBlock id Q (.exit id) s h:=by simpa[Ex.inBlock]using hk
theorem Ex.inBlock_other_mk (hi:(i == id)=false)(hk:Q (.exit i) s h):Ex.inBlock id Q (.exit i) s h:=by simp at hi;simpa[Ex.inBlock,hi]using hk
end
mutual
def V.rn (f:Nat→Nat):V→V
 | .ptr b off=> .ptr (f b) off
 | .sl b off n k ag=> .sl (f b) off n k ag
 | .mp b=> .mp (f b)
 | .agg cs=> .agg (V.rns f cs)
 | .tup cs=> .tup (V.rns f cs)
 | .sc v=> .sc v
 | .row nil k es=> .row nil k es
 | .eptr es i off=> .eptr es i off
 | .any=> .any
def V.rns (f:Nat→Nat):List V→List V
 | []=>[]
 |c::cs=>c.rn f::V.rns f cs
end
theorem V.rns_length (f:Nat→Nat): ∀cs:List V,(V.rns f cs).length=cs.length
 | []=>rfl
 |_::cs=>by simp[V.rns,V.rns_length f cs]
theorem V.rns_mem {f:Nat→Nat}{p:V→Bool}(hp: ∀c,p c=true→p (c.rn f)=true): ∀{cs:List V},(∀c∈cs,p c=true)→ ∀c∈V.rns f cs,p c=true
 | [],_,c,hc=>by simp[V.rns]at hc
 |d::cs,h,c,hc=>by
  simp only[V.rns,a1v]at hc
  rcases hc with rfl|hc
  ·exact hp d (h d (by simp))
  exact V.rns_mem hp (fun c hc=>h c (by simp[hc])) c hc
theorem V.rn_one (f:Nat→Nat)(c:V)(h:c.one=true):(c.rn f).one=true:=by
 cases c<;>first|exact h|rfl|(simp[V.one]at h)
theorem V.one_rn (f:Nat→Nat)(c:V)(h:(c.rn f).one=true):c.one=true:=by
 cases c<;>first|exact h|rfl|(simp[V.one,V.rn]at h)
theorem V.one_rns {f:Nat→Nat}: ∀{cs:List V},(∀c∈V.rns f cs,c.one=true)→ ∀c∈cs,c.one=true
 | [],_,c,hc=>by simp at hc
 |d::cs,h,c,hc=>by
  simp only[V.rns,a1v,forall_eq_or_imp]at h
  simp only[a1v]at hc
  rcases hc with rfl|hc
  ·exact V.one_rn f _ h.1
  exact V.one_rns h.2 c hc
section
variable {X:Nat→Prop}{M M':List (Option Nat)}{w:World}{f:Nat→Nat}
mutual
theorem VR.rn_to (hM: ∀b y,M[b]? =some y→M'[f b]? =some y): ∀(x:V)(v:Value),VR X M w x v→VR X M' w (x.rn f) v
 | .sc c,v,h=>by unfold V.rn;unfold VR at h ⊢; exact h
 | .any,v,h=>by unfold V.rn;unfold VR;trivial
 | .row nil k es,v,h=>by unfold V.rn;unfold VR at h ⊢; exact h
 | .eptr es i off,v,h=>by unfold V.rn;unfold VR at h ⊢; exact h
 | .ptr b off,v,h=>by
  unfold V.rn;unfold VR at h⊢
  obtain⟨g,sh,h1,h2⟩:=h
  exact⟨g,sh,hM _ _ h1,h2⟩
 | .mp b,v,h=>by
  unfold V.rn;unfold VR at h⊢
  obtain⟨g,h1,h2⟩:=h
  exact⟨g,hM _ _ h1,h2⟩
 | .sl b off n k ag,v,h=>by
  unfold V.rn;unfold VR at h⊢
  rcases h with⟨h1,h2⟩|⟨g,cap,e,sz,h1,h2⟩
  ·exact .inl ⟨hM _ _ h1,h2⟩
  exact .inr ⟨g,cap,e,sz,hM _ _ h1,h2⟩
 | .agg cs,v,h=>by
  unfold V.rn;unfold VR at h⊢
  obtain⟨vs,h1,h2⟩:=h
  exact⟨vs,h1,VCells.rn_to hM cs vs h2⟩
 | .tup cs,v,h=>by
  unfold V.rn;unfold VR at h⊢
  obtain⟨vs,h1,h2⟩:=h
  exact⟨vs,h1,VCells.rn_to hM cs vs h2⟩
theorem VCells.rn_to (hM: ∀b y,M[b]? =some y→M'[f b]? =some y): ∀(cs:List V)(vs:List Value),VCells X M w cs vs→VCells X M' w (V.rns f cs) vs
 | [],vs,h=>by unfold V.rns;unfold VCells at h ⊢; exact h
 |c::cs,vs,h=>by
  unfold V.rns;unfold VCells at h⊢
  obtain⟨v,rest,h1,h2,h3⟩:=h
  exact⟨v,rest,h1,VR.rn_to hM c v h2,VCells.rn_to hM cs rest h3⟩
end
mutual
theorem VR.rn_from (hM: ∀b y,M'[f b]? =some y→M[b]? =some y): ∀(x:V)(v:Value),VR X M' w (x.rn f) v→VR X M w x v
 | .sc c,v,h=>by unfold V.rn at h;unfold VR at h ⊢; exact h
 | .any,v,h=>by unfold VR;trivial
 | .row nil k es,v,h=>by unfold V.rn at h;unfold VR at h ⊢; exact h
 | .eptr es i off,v,h=>by unfold V.rn at h;unfold VR at h ⊢; exact h
 | .ptr b off,v,h=>by
  unfold V.rn at h;unfold VR at h⊢
  obtain⟨g,sh,h1,h2⟩:=h
  exact⟨g,sh,hM _ _ h1,h2⟩
 | .mp b,v,h=>by
  unfold V.rn at h;unfold VR at h⊢
  obtain⟨g,h1,h2⟩:=h
  exact⟨g,hM _ _ h1,h2⟩
 | .sl b off n k ag,v,h=>by
  unfold V.rn at h;unfold VR at h⊢
  rcases h with⟨h1,h2⟩|⟨g,cap,e,sz,h1,h2⟩
  ·exact .inl ⟨hM _ _ h1,h2⟩
  exact .inr ⟨g,cap,e,sz,hM _ _ h1,h2⟩
 | .agg cs,v,h=>by
  unfold V.rn at h;unfold VR at h⊢
  obtain⟨vs,h1,h2⟩:=h
  exact⟨vs,h1,VCells.rn_from hM cs vs h2⟩
 | .tup cs,v,h=>by
  unfold V.rn at h;unfold VR at h⊢
  obtain⟨vs,h1,h2⟩:=h
  exact⟨vs,h1,VCells.rn_from hM cs vs h2⟩
theorem VCells.rn_from (hM: ∀b y,M'[f b]? =some y→M[b]? =some y): ∀(cs:List V)(vs:List Value),VCells X M' w (V.rns f cs) vs→VCells X M w cs vs
 | [],vs,h=>by unfold V.rns at h;unfold VCells at h ⊢; exact h
 |c::cs,vs,h=>by
  unfold V.rns at h;unfold VCells at h⊢
  obtain⟨v,rest,h1,h2,h3⟩:=h
  exact⟨v,rest,h1,VR.rn_from hM c v h2,VCells.rn_from hM cs rest h3⟩
end
end
def Blk.rn (f:Nat→Nat)(B:Blk):Blk:=⟨B.e,V.rns f B.cells⟩
def rnH (f:Nat→Nat)(h:Hp):Hp:=h.map (a2b (Blk.rn f))
def sg (ρ:List Nat)(L i:Nat):Nat:=match ρ[i]? with
 |some b=>b
 |none=>L+(i-ρ.length)
def jO :Hp→List Nat→Hp→Hp
 |h,b::ρ,o::os=>jO (h.set b o) ρ os
 |h,_,_=>h
theorem aC6 : ∀(h:Hp)(ρ:List Nat)(o:Hp),(jO h ρ o).length=h.length
 |h,b::ρ,x::o=>by rw[jO,aC6];simp
 |h,[],_=>by simp[jO]
 |h,_::_,[]=>by simp[jO]
theorem aDp : ∀{h:Hp}{ρ:List Nat}{o:Hp}{b:Nat},b∉ρ→(jO h ρ o)[b]? =h[b]?
 |h,c::ρ,x::o,b,hb=>by
  simp only[a1v,not_or]at hb
  rw[jO,aDp hb.2,a1N (fun e=>hb.1 e.symm)]
 |h,[],_,b,_=>by simp[jO]
 |h,_::_,[],b,_=>by simp[jO]
theorem aIv : ∀{h:Hp}{ρ:List Nat}{o:Hp}{i b:Nat},ρ.Nodup→(∀b∈ρ,b<h.length)→ρ.length≤o.length→ρ[i]? =some b→(jO h ρ o)[b]? =o[i]?
 |h,c::ρ,x::o,0,b,hn,hl,_,hi=>by
  simp only[a0T,a0I]at hi
  subst hi
  have hc:c<h.length:=hl c (by simp)
  rw[jO,aDp (a1i.1 hn).1]
  simp[hc]
 |h,c::ρ,x::o,i+1,b,hn,hl,hle,hi=>by
  simp only[a0L]at hi
  rw[jO,aIv (a1i.1 hn).2 (fun b hb=>by simpa using hl b (by simp[hb])) (by simpa using hle) hi]
  simp
 |h,[],_,i,b,_,_,_,hi=>by simp at hi
 |h,_::_,[],i,b,_,_,hle,_=>by simp at hle
theorem aNV {f:Nat→Nat}{h:Hp}{i:Nat}:(rnH f h)[i]? =(h[i]?).map (a2b (Blk.rn f)):=by simp[rnH]
theorem aGg {f:Nat→Nat}{h:Hp}{i:Nat}{B:Blk}(hb:(rnH f h)[i]? =some (some B)): ∃C,h[i]? =some (some C)∧B=C.rn f:=by
 rw[aNV]at hb
 cases hi:h[i]? with
 |none=>rw[hi]at hb;cases hb
 |some o=>
  rw[hi]at hb
  cases o with
  |none=>simp at hb
  |some C=>simp at hb;exact⟨C,rfl,hb.symm⟩
def pS (hb:Hp)(ρ:List Nat)(hs':Hp):Hp:=jO hb ρ (rnH (sg ρ hb.length) hs')++(rnH (sg ρ hb.length) hs').drop ρ.length
theorem Fn.frame {P:Program}{f:FuncId}{hs hs' hb:Hp}{args:List V}{r:V}(hc:Fn P f hs args r hs')(ρ:List Nat)(hlen:ρ.length=hs.length)(hnd:ρ.Nodup)(hlt: ∀b∈ρ,b<hb.length)
  (hlend: ∀i b:Nat,ρ[i]? =some b→hb[b]? =(rnH (sg ρ hb.length) hs)[i]?):Fn P f hb (V.rns (sg ρ hb.length) args) (r.rn (sg ρ hb.length)) (pS hb ρ hs'):=by
 intro A M w vs H hargs
 have hσ: ∀i b:Nat,ρ[i]? =some b→sg ρ hb.length i=b:=fun i b hi=>by simp[sg,hi]
 have hσ': ∀i,ρ.length≤i→sg ρ hb.length i=hb.length+(i-ρ.length):=fun i hi=>by simp[sg,hi]
 generalize hsg:sg ρ hb.length=σ at *
 let Ms:List (Option Nat):=ρ.map fun b=>(M[b]?).getD none
 have hMs: ∀i b:Nat,ρ[i]? =some b→Ms[i]? =M[b]? :=by
  intro i b hi
  have hb':b<M.length:=by rw[H.len];exact hlt b (a0Q hi)
  simp only[Ms,a00,hi,a0N]
  rw[a0H hb']
  rfl
 have hMslen:Ms.length=hs.length:=by simp[Ms,hlen]
 have hfrom: ∀b y,M[σ b]? =some y→Ms[b]? =some y:=by
  intro b y hy
  rcases a08 b ρ.length with hl|hl
  ·have hi:ρ[b]? =some ρ[b]:=a0H hl
   rw[hMs b _ hi,←hσ b _ hi];exact hy
  rw[hσ' b hl]at hy
  have:=(a0F.1 hy).1
  rw[H.len]at this;omega
 let A':Nat→Prop:=fun g=>A g∨ ∃b B,b∉ρ∧hb[b]? =some (some B)∧M[b]? =some (some g)
 have hin: ∀{i:Nat}{B:Blk},hs[i]? =some (some B)→ ∃b,ρ[i]? =some b∧hb[b]? =some (some (B.rn σ))∧Ms[i]? =M[b]? :=by
  intro i B hi
  have hl:i<ρ.length:=by rw[hlen];exact(a0F.1 hi).1
  have hr:ρ[i]? =some ρ[i]:=a0H hl
  refine⟨_,hr, ?_,hMs i _ hr⟩
  rw[hlend i _ hr,aNV,hi];rfl
 have hliveS: ∀g,cX Ms hs g→cX M hb g:=by
  rintro g ⟨i,B,hi,hm⟩
  obtain⟨b,_,hb1,hb2⟩:=hin hi
  exact⟨b,_,hb1,by rw[←hb2];exact hm⟩
 have hX1: ∀g,Xs A' Ms hs g→Xs A M hb g:=by
  rintro g ((ha|⟨b,B,_,hb1,hb2⟩)|hl)
  ·exact .inl ha
  ·exact .inr ⟨b,B,hb1,hb2⟩
  exact .inr (hliveS g hl)
 have hX2: ∀g,Xs A M hb g→Xs A' Ms hs g:=by
  rintro g (ha|⟨b,B,hb1,hb2⟩)
  ·exact .inl (.inl ha)
  by_cases hm:b∈ρ
  ·obtain⟨i,hi⟩:=a1t.1 hm
   have he:=hlend i b hi
   rw[hb1]at he
   obtain⟨C,hC,_⟩:=aGg he.symm
   exact .inr ⟨i,C,hC,by rw[hMs i b hi];exact hb2⟩
  exact .inl (.inr ⟨b,B,hm,hb1,hb2⟩)
 have hout: ∀{b:Nat}{B:Blk}{g:Nat},b∉ρ→hb[b]? =some (some B)→M[b]? =some (some g)→ ¬cX Ms hs g:=by
  rintro b B g hb0 hb1 hb2 ⟨i,C,hi,hm⟩
  obtain⟨c,hc0,hc1,hc2⟩:=hin hi
  have:=H.inj b c B _ g hb1 hc1 hb2 (by rw[←hc2];exact hm)
  subst this
  exact hb0 (a0Q hc0)
 have HS:HR A' Ms hs w:=by
  refine⟨hMslen, ?_, ?_, ?_,H.glob.avoid fun g _ hx=>hX1 g hx⟩
  ·rintro g (ha|⟨b,B,_,hb1,hb2⟩)
   ·exact H.alt g ha
   exact H.lt (.inr ⟨b,B,hb1,hb2⟩)
  ·intro i B hi
   obtain⟨b,hb0,hb1,hb2⟩:=hin hi
   obtain⟨h1,h2⟩:=H.blk b _ hb1
   refine⟨V.one_rns h1, ?_⟩
   rcases h2 with⟨hn,hc0⟩|⟨g,cs,hg,hA,hh,hle,hcs⟩
   ·refine .inl ⟨by rw[hb2];exact hn, ?_⟩
    have:=congrArg a16 hc0
    simp only[Blk.rn,V.rns_length,a1x]at this
    exact a0O this
   refine .inr ⟨g,cs,by rw[hb2];exact hg, ?_,by simpa[Blk.rn,V.rns_length]using hh, ?_, ?_⟩
   ·rintro(ha|⟨c,C,hc0,hc1,hc2⟩)
    ·exact hA ha
    have:=H.inj b c _ C g hb1 hc1 hg hc2
    subst this
    exact hc0 (a0Q hb0)
   ·simpa[Blk.rn,V.rns_length]using hle
   have hcs':VCells (Xs A M hb) M w (V.rns σ B.cells) (cs.toList.take B.cells.length):=by simpa[Blk.rn,V.rns_length]using hcs
   exact(VCells.rn_from hfrom _ _ hcs').avoid (fun g _ hx=>hX1 g hx)
  intro i j B C g hi hj mi mj
  obtain⟨b,hb0,hb1,hb2⟩:=hin hi
  obtain⟨c,hc0,hc1,hc2⟩:=hin hj
  have:=H.inj b c _ _ g hb1 hc1 (by rw[←hb2];exact mi) (by rw[←hc2];exact mj)
  subst this
  have hil:=(a0F.1 hb0).1
  exact(a1W hil hnd).1 (hb0.trans hc0.symm)
 have hargsS:VCells (Xs A' Ms hs) Ms w args vs:=(VCells.rn_from hfrom _ _ hargs).avoid (fun g _ hx=>hX1 g hx)
 refine(hc A' Ms w vs HS hargsS).mono fun v w' ⟨Ms',G,hv⟩=> ?_
 obtain⟨Mn,rfl⟩:=G.pre
 have hMnlen:hs'.length=ρ.length+Mn.length:=by rw[←G.hr.len];simp[Ms]
 have hto: ∀b y,(Ms++Mn)[b]? =some y→(M++Mn)[σ b]? =some y:=by
  intro b y hy
  rcases a08 b ρ.length with hl|hl
  ·have hi:ρ[b]? =some ρ[b]:=a0H hl
   rw[a0G (by rw[hMslen,←hlen];exact hl),hMs b _ hi]at hy
   rw[hσ b _ hi,a0G (by rw[H.len];exact hlt _ (a0Q hi))]
   exact hy
  rw[a0M (by rw[hMslen,←hlen];exact hl),hMslen,←hlen]at hy
  rw[hσ' b hl,a0M (by rw[H.len];omega),H.len,show hb.length+(b-ρ.length)-hb.length=b-ρ.length by omega]
  exact hy
 have hlentlen:(jO hb ρ (rnH σ hs')).length=hb.length:=aC6 _ _ _
 have hrnlen:(rnH σ hs').length=hs'.length:=by simp[rnH]
 have hcase: ∀{b:Nat}{B:Blk},(pS hb ρ hs')[b]? =some (some B)→(b∉ρ∧hb[b]? =some (some B))∨ ∃i C,hs'[i]? =some (some C)∧b=σ i∧B=C.rn σ∧(M++Mn)[b]? =(Ms++Mn)[i]? :=by
  intro b B hb1
  unfold pS at hb1
  rw[hsg]at hb1
  rcases a08 b hb.length with hl|hl
  ·rw[a0G (by rw[hlentlen];exact hl)]at hb1
   by_cases hm:b∈ρ
   ·obtain⟨i,hi⟩:=a1t.1 hm
    rw[aIv hnd hlt (by rw[hrnlen];omega) hi]at hb1
    obtain⟨C,hC,hB⟩:=aGg hb1
    have hil:=(a0F.1 hi).1
    refine .inr ⟨i,C,hC,(hσ i b hi).symm,hB, ?_⟩
    rw[a0G (by rw[H.len];exact hl),a0G (by rw[hMslen,←hlen];exact hil),hMs i b hi]
   rw[aDp hm]at hb1
   exact .inl ⟨hm,hb1⟩
  rw[a0M (by rw[hlentlen];exact hl),hlentlen,a1B]at hb1
  obtain⟨C,hC,hB⟩:=aGg hb1
  refine .inr ⟨_,C,hC, ?_,hB, ?_⟩
  ·rw[hσ' _ (by omega)];omega
  rw[a0M (by rw[H.len];exact hl),a0M (by rw[hMslen,←hlen];omega),H.len,hMslen,←hlen]
  congr 1;omega
 have hlive: ∀g,g<w.heap.size→cX (M++Mn) (pS hb ρ hs') g→cX M hb g:=by
  rintro g hg ⟨b,B,hb1,hb2⟩
  rcases hcase hb1 with⟨hb0,hb3⟩|⟨i,C,hC,rfl,rfl,he⟩
  ·refine⟨b,B,hb3, ?_⟩
   rw[a0G (by rw[H.len];exact(a0F.1 hb3).1)]at hb2
   exact hb2
  exact hliveS g (G.live g hg ⟨i,C,hC,by rw[←he];exact hb2⟩)
 have hX3: ∀g,Xs A (M++Mn) (pS hb ρ hs') g→Xs A' (Ms++Mn) hs' g:=by
  rintro g (ha|⟨b,B,hb1,hb2⟩)
  ·exact .inl (.inl ha)
  rcases hcase hb1 with⟨hb0,hb3⟩|⟨i,C,hC,rfl,rfl,he⟩
  ·rw[a0G (by rw[H.len];exact(a0F.1 hb3).1)]at hb2
   exact .inl (.inr ⟨b,B,hb0,hb3,hb2⟩)
  exact .inr ⟨i,C,hC,by rw[←he];exact hb2⟩
 refine⟨M++Mn,⟨⟨Mn,rfl⟩,⟨?_, ?_, ?_, ?_,G.hr.glob.avoid fun g _ hx=>hX3 g hx⟩,G.ext.mono (fun g _ hl=>hliveS g hl),hlive⟩,(VR.rn_to hto _ _ hv).avoid (fun g _ hx=>hX3 g hx)⟩
 ·unfold pS
  rw[hsg]
  simp only[a02,a10,hlentlen,hrnlen,H.len]
  omega
 ·exact fun g hg=>a07 (H.alt g hg) G.ext.size
 ·intro b B hb1
  rcases hcase hb1 with⟨hb0,hb3⟩|⟨i,C,hC,rfl,rfl,he⟩
  ·have hbl:b<M.length:=by rw[H.len];exact(a0F.1 hb3).1
   obtain⟨h1,⟨hn,hc0⟩|⟨g,cs,hg,hA,hh,hle,hcs⟩⟩:=H.blk b B hb3
   ·exact⟨h1,.inl ⟨by rw[a0G hbl];exact hn,hc0⟩⟩
   have hgs:g<w.heap.size:=H.lt (.inr ⟨b,B,hb3,hg⟩)
   refine⟨h1,.inr ⟨g,cs,by rw[a0G hbl];exact hg,hA, ?_,hle, ?_⟩⟩
   ·exact hh.to (G.ext.block g hgs (hout hb0 hb3 hg))
   exact VCells.ext G.ext ⟨Mn,rfl⟩ (fun g _ hl=> .inr (hliveS g hl)) (fun g hg hx=>hx.elim .inl (fun hl=> .inr (hlive g hg hl))) _ _ hcs
  obtain⟨h1,h2⟩:=G.hr.blk i C hC
  refine⟨V.rns_mem (V.rn_one σ) h1, ?_⟩
  rcases h2 with⟨hn,hc0⟩|⟨g,cs,hg,hA,hh,hle,hcs⟩
  ·refine .inl ⟨by rw[he];exact hn, ?_⟩
   simp[Blk.rn,hc0,V.rns]
  refine .inr ⟨g,cs,by rw[he];exact hg,fun ha=>hA (.inl ha),by simpa[Blk.rn,V.rns_length]using hh, ?_, ?_⟩
  ·simpa[Blk.rn,V.rns_length]using hle
  have:=(VCells.rn_to hto _ _ hcs).avoid (fun g _ hx=>hX3 g hx)
  simpa[Blk.rn,V.rns_length]using this
 intro b c B C g hb1 hc1 mb mc
 rcases hcase hb1 with⟨hb0,hb3⟩|⟨i,D,hD,rfl,rfl,he⟩<;>rcases hcase hc1 with⟨hc0,hc3⟩|⟨j,E,hE,rfl,rfl,he'⟩
 ·rw[a0G (by rw[H.len];exact(a0F.1 hb3).1)]at mb
  rw[a0G (by rw[H.len];exact(a0F.1 hc3).1)]at mc
  exact H.inj b c B C g hb3 hc3 mb mc
 ·rw[a0G (by rw[H.len];exact(a0F.1 hb3).1)]at mb
  rw[he']at mc
  obtain⟨_,⟨hn,_⟩|⟨g',cs,hg,hA,_⟩⟩:=G.hr.blk j E hE
  ·rw[mc]at hn;cases hn
  rw[mc]at hg;injection hg with hg;injection hg with hg;subst hg
  exact absurd (.inr ⟨b,B,hb0,hb3,mb⟩) hA
 ·rw[a0G (by rw[H.len];exact(a0F.1 hc3).1)]at mc
  rw[he]at mb
  obtain⟨_,⟨hn,_⟩|⟨g',cs,hg,hA,_⟩⟩:=G.hr.blk i D hD
  ·rw[mb]at hn;cases hn
  rw[mb]at hg;injection hg with hg;injection hg with hg;subst hg
  exact absurd (.inr ⟨c,C,hc0,hc3,mc⟩) hA
 rw[G.hr.inj i j D E g hD hE (by rw[←he];exact mb) (by rw[←he'];exact mc)]
def eP :List (Nat×V)→Nat→Option V
 | [],_=>none
 |(u,x)::r,t=>bif a1y u t then some x else eP r t
def aG (n:Nat)(fr:List (Nat×V)):List V:=(a1k n).map fun t=>(eP fr t).getD .any
theorem nU (n:Nat)(fr:List (Nat×V)):(aG n fr).length=n:=by simp[aG]
theorem yN {n t:Nat}{fr:List (Nat×V)}(h:t<n):(aG n fr)[t]? =some ((eP fr t).getD .any):=by simp[aG,h]
def bS (n:Nat)(fr:List (Nat×V)):Operand→Option V
 | .tmp t=>bif a2d t n then eP fr t else none
 | .const v=>some (ofValue v)
 | .func f=>some (.sc (.func (.func f) #[] #[]))
 | .global g=>(GT g).map fun e=> .eptr [e] 0 0
theorem cO {n:Nat}{fr:List (Nat×V)}{o:Operand}{x:V}(h:bS n fr o=some x):ev (aG n fr) o=some x:=by
 cases o with
 |tmp t=>
  simp only[bS]at h
  cases hb:a2d t n with
  |false=>rw[hb]at h;cases h
  |true=>
   rw[hb]at h
   simp only[cond_true]at h
   have ht:t<n:=by have h2:a2e (t+1) n=true:=hb;exact a1j h2
   simp only[ev]
   rw[yN ht,h];rfl
 |const v=>exact h
 |func f=>exact h
 |global g=>exact h
theorem aEk {n t:Nat}{fr:List (Nat×V)}{x:V}:g8 (aG n fr) (some t) x=aG n ((t,x)::fr):=by
 simp only[g8]
 apply a1r
 intro i
 by_cases hi:i<n
 ·rw[yN hi]
  by_cases ht:t=i
  ·subst ht
   rw[List.getElem?_set_self (by rw[nU];exact hi)]
   simp[eP]
  rw[a1N ht,yN hi]
  have:a1y t i=false:=by cases hb:a1y t i with
   |false=>rfl
   |true=>exact absurd (a01 hb) ht
  simp[eP,this]
 rw[a1H (by rw[a17,nU];omega),a1H (by rw[nU];omega)]
def AB (P:Program)(N:Nat)(c:Code)(Q:Ex→List V→Hp→Prop)(s:List V)(h:Hp):Prop:=
 ∀(A:Nat→Prop)(M0 M:List (Option Nat))(h0:Hp)(w0:World)(a:Act)(w:World),h0.length=N→M0.length=N→Grow A M0 h0 w0 M h w→Rel A M s h a w→
  c.wp P (fun e a' w'=> ∃x s' h' M',e=Ex.toExit x∧Q x s' h'∧Grow A M0 h0 w0 M' h' w'∧Rel A M' s' h' a' w') a w
section
variable {P:Program}{N:Nat}{Q Q':Ex→List V→Hp→Prop}{s s':List V}{h h':Hp}
theorem AB.of {c:Code}(hh:AW P c Q s h):AB P N c Q s h:=fun A M0 M h0 w0 a w _ _ G R=>
 Code.wp_mono (fun e a' w' ⟨x,s',h',M',h1,h2,h3,h4⟩=>⟨x,s',h',M',h1,h2,G.trans h3,h4⟩) (hh A M a w R)
theorem AB.mono {c:Code}(hh:AB P N c Q s h)(hq: ∀x s h,Q x s h→Q' x s h):AB P N c Q' s h:=fun A M0 M h0 w0 a w hN hM G R=>
 Code.wp_mono (fun e a' w' ⟨x,s',h',M',h1,h2,h3,h4⟩=>⟨x,s',h',M',h1,hq _ _ _ h2,h3,h4⟩) (hh A M0 M h0 w0 a w hN hM G R)
theorem AB.skip (hq:Q .normal s h):AB P N .skip Q s h:=AB.of (AW.skip hq)
theorem AB.exit {id:Nat}(hq:Q (.exit id) s h):AB P N (.exit id) Q s h:=AB.of (AW.exit hq)
theorem AB.ret (hq:Q .ret s h):AB P N .ret Q s h:=AB.of (AW.ret hq)
theorem AB.seq {c d:Code}(hh:AB P N c (Ex.then (AB P N d Q) Q) s h):AB P N (.seq c d) Q s h:=by
 intro A M0 M h0 w0 a w hN hM G R
 refine wp_seq (Code.wp_mono (fun e a' w' ⟨x,s1,h1,M1,he,hq,G1,R1⟩=> ?_) (hh A M0 M h0 w0 a w hN hM G R))
 subst he
 cases x with
 |normal=>exact hq A M0 M1 h0 w0 a' w' hN hM G1 R1
 |exit id=>exact⟨.exit id,s1,h1,M1,rfl,hq,G1,R1⟩
 |ret=>exact⟨.ret,s1,h1,M1,rfl,hq,G1,R1⟩
theorem AB.cond {c:Operand}{x y:Code}{t:Bool}(hc:ev s c=some (.sc (.bool t)))(h1:t=true→AB P N x Q s h)(h2:t=false→AB P N y Q s h):AB P N (.cond c x y) Q s h:=by
 intro A M0 M h0 w0 a w hN hM G R
 have hv:=b7 R.hr.glob R.sr hc
 unfold VR at hv
 refine wp_cond hv ?_
 cases t with
 |true=>exact h1 rfl A M0 M h0 w0 a w hN hM G R
 |false=>exact h2 rfl A M0 M h0 w0 a w hN hM G R
theorem AB.block {id:Nat}{c:Code}(hh:AB P N c (Ex.inBlock id Q) s h):AB P N (.block id c) Q s h:=by
 intro A M0 M h0 w0 a w hN hM G R
 refine wp_block (Code.wp_mono (fun e a' w' ⟨x,s1,h1,M1,he,hq,G,R1⟩=> ?_) (hh A M0 M h0 w0 a w hN hM G R))
 subst he
 cases x with
 |normal=>exact⟨.normal,s1,h1,M1,rfl,hq,G,R1⟩
 |exit i=>
  show Exit.inBlock id _ (.exit i) a' w'
  simp only[Exit.inBlock]
  simp only[Ex.inBlock]at hq
  split
  ·rename_i hi;rw[if_pos hi]at hq;exact⟨.normal,s1,h1,M1,rfl,hq,G,R1⟩
  rename_i hi;rw[if_neg hi]at hq;exact⟨.exit i,s1,h1,M1,rfl,hq,G,R1⟩
 |ret=>exact⟨.ret,s1,h1,M1,rfl,hq,G,R1⟩
theorem AB.loop {c:Code}(I:Nat→List V→Hp→Prop){n:Nat}(h0:I n s h)(round: ∀n s h,I n s h→AB P N c (Ex.then (fun s' h'=> ∃m,m<n∧I m s' h') Q) s h):AB P N (.loop c) Q s h:=by
 intro A M0 M hh0 w0 a w hN hM G R
 let p:Act→World→Nat→Prop:=fun a' w' k=> ∃s' h' M',I k s' h'∧Grow A M0 hh0 w0 M' h' w'∧Rel A M' s' h' a' w'
 let μ:Act→World→Nat:=fun a' w'=>Classical.epsilon fun k=>p a' w' k∧ ∀j,p a' w' j→k≤j
 have hμ: ∀a' w',(∃k,p a' w' k)→p a' w' (μ a' w')∧ ∀j,p a' w' j→μ a' w'≤j:=fun a' w' hh=>Classical.epsilon_spec (aWj hh)
 refine wp_loop (fun a' w'=> ∃k,p a' w' k) μ ⟨n,s,h,M,h0,G,R⟩ ?_
 intro a1 w1 hI
 obtain⟨s1,h1,M1,hIk,G1,R1⟩:=(hμ a1 w1 hI).1
 refine Code.wp_mono (fun e a2 w2 ⟨x,s2,h2,M2,he,hq,G2,R2⟩=> ?_) (round _ s1 h1 hIk A M0 M1 hh0 w0 a1 w1 hN hM G1 R1)
 subst he
 cases x with
 |normal=>
  obtain⟨m,hm,hIm⟩:=hq
  have hex2:p a2 w2 m:=⟨s2,h2,M2,hIm,G2,R2⟩
  exact⟨⟨m,hex2⟩,Nat.lt_of_le_of_lt ((hμ a2 w2 ⟨m,hex2⟩).2 m hex2) hm⟩
 |exit id=>exact⟨.exit id,s2,h2,M2,rfl,hq,G2,R2⟩
 |ret=>exact⟨.ret,s2,h2,M2,rfl,hq,G2,R2⟩
theorem AB.loopN {c:Code}(I:Nat→List V→Hp→Prop){n:Nat}(h0:I n s h)(r0: ∀s h,¬I 0 s h)(round: ∀n s h,I (n+1) s h→AB P N c (Ex.then (I n) Q) s h):AB P N (.loop c) Q s h:=by
 refine AB.loop I h0 fun n s h hI=> ?_
 cases n with
 |zero=>exact absurd hI (r0 s h)
 |succ n=>
  refine(round n s h hI).mono fun x s h hq=> ?_
  cases x with
  |normal=>exact⟨n,Nat.lt_succ_self n,hq⟩
  |exit id=>exact hq
  |ret=>exact hq
end
mutual
def V.le (vn:Nat→Bool):V→V→Prop
 |x,.any=>True
 | .row a k es,.row b k' es'=>(b=none∨a=b)∧es=es'∧(k=k'∨es=[])
 | .row a _ es,.sl b off n _ _=>a=some true∧es=[]∧vn b=true∧off=0∧n=0
 | .agg cs,.agg ds=>V.les vn cs ds
 | .tup cs,.tup ds=>V.les vn cs ds
 |x,y=>x=y
def V.les (vn:Nat→Bool):List V→List V→Prop
 | [],[]=>True
 |c::cs,d::ds=>V.le vn c d∧V.les vn cs ds
 |_,_=>False
end
def y8 :Nat→Bool:=fun _=>false
mutual
theorem V.le_refl (vn:Nat→Bool): ∀x:V,V.le vn x x
 | .any=>by unfold V.le;trivial
 | .row a k es=>by unfold V.le;exact⟨.inr rfl,rfl,.inl rfl⟩
 | .agg cs=>by unfold V.le;exact V.les_refl vn cs
 | .tup cs=>by unfold V.le;exact V.les_refl vn cs
 | .sc _=>by unfold V.le;rfl
 | .ptr _ _=>by unfold V.le;rfl
 | .sl _ _ _ _ _=>by unfold V.le;rfl
 | .eptr _ _ _=>by unfold V.le;rfl
 | .mp _=>by unfold V.le;rfl
theorem V.les_refl (vn:Nat→Bool): ∀cs:List V,V.les vn cs cs
 | []=>by unfold V.les;trivial
 |c::cs=>by unfold V.les;exact⟨V.le_refl vn c,V.les_refl vn cs⟩
end
theorem V.le_row {vn:Nat→Bool}{a:Option Bool}{k:Nat}{es:List V}:V.le vn (.row a k es) (.row none k es):=by unfold V.le;exact⟨.inl rfl,rfl,.inl rfl⟩
theorem V.le_nil {vn:Nat→Bool}{a:Option Bool}{k k':Nat}:V.le vn (.row a k []) (.row none k' []):=by unfold V.le;exact⟨.inl rfl,rfl,.inr rfl⟩
theorem V.le_virt {vn:Nat→Bool}{k k' b:Nat}{ag:Bool}(hb:vn b=true):V.le vn (.row (some true) k []) (.sl b 0 0 k' ag):=by unfold V.le;exact⟨rfl,rfl,hb,rfl,rfl⟩
section
variable {X:Nat→Prop}{M:List (Option Nat)}{w:World}{vn:Nat→Bool}
mutual
theorem V.le_sound (hvn: ∀b,vn b=true→M[b]? =some none): ∀(x y:V)(v:Value),V.le vn x y→VR X M w x v→VR X M w y v
 |x,.any,v,_,_=>by unfold VR;trivial
 | .row a k es,.row b k' es',v,h,hv=>by
  unfold V.le at h
  obtain⟨h1,rfl,h3⟩:=h
  unfold VR at hv⊢
  obtain⟨ad,cap,e1,e2,e3,e4,e5,e6⟩:=hv
  refine⟨ad,cap,e1,e2,e3, ?_, ?_, ?_⟩
  ·rcases h1 with rfl|rfl
   ·intro b hb;cases hb
   exact e4
  ·rcases h3 with rfl|rfl
   ·exact e5
   simp
  rcases h3 with rfl|rfl
  ·exact e6
  exact fun hne=>absurd rfl hne
 | .row a k es,.sl b off n k' ag,v,h,hv=>by
  unfold V.le at h
  obtain⟨rfl,rfl,h3,rfl,rfl⟩:=h
  unfold VR at hv⊢
  obtain⟨ad,cap,e1,e2,e3,e4,e5,e6⟩:=hv
  have hn:ad=none:=e4 true rfl
  cases ad with
  |some ad=>simp at hn
  |none=>
   have:=e3 rfl
   subst this
   exact .inl ⟨hvn b h3,e1,rfl,rfl⟩
 | .agg cs,.agg ds,v,h,hv=>by
  unfold V.le at h
  unfold VR at hv⊢
  obtain⟨vs,e1,e2⟩:=hv
  exact⟨vs,e1,V.les_sound hvn cs ds vs h e2⟩
 | .tup cs,.tup ds,v,h,hv=>by
  unfold V.le at h
  unfold VR at hv⊢
  obtain⟨vs,e1,e2⟩:=hv
  exact⟨vs,e1,V.les_sound hvn cs ds vs h e2⟩
 | .sc c,y,v,h,hv=>by
  cases y<;>first|(unfold VR;trivial)|(unfold V.le at h;injection h with h;subst h;exact hv)|(unfold V.le at h;cases h)
 | .mp _,y,v,h,hv=>by
  cases y<;>first|(unfold VR;trivial)|(unfold V.le at h;injection h with h;subst h;exact hv)|(unfold V.le at h;cases h)
 | .ptr _ _,y,v,h,hv=>by
  cases y<;>first|(unfold VR;trivial)|(unfold V.le at h;injection h with h1 h2;subst h1 h2;exact hv)|(unfold V.le at h;cases h)
 | .sl _ _ _ _ _,y,v,h,hv=>by
  cases y<;>first|(unfold VR;trivial)|(unfold V.le at h;injection h with h1 h2 h3 h4 h5;subst h1 h2 h3 h4 h5;exact hv)|(unfold V.le at h;cases h)
 | .eptr _ _ _,y,v,h,hv=>by
  cases y<;>first|(unfold VR;trivial)|(unfold V.le at h;injection h with h1 h2 h3;subst h1 h2 h3;exact hv)|(unfold V.le at h;cases h)
theorem V.les_sound (hvn: ∀b,vn b=true→M[b]? =some none): ∀(cs ds:List V)(vs:List Value),V.les vn cs ds→VCells X M w cs vs→VCells X M w ds vs
 | [],[],vs,_,hv=>hv
 |c::cs,d::ds,vs,h,hv=>by
  unfold V.les at h
  unfold VCells at hv⊢
  obtain⟨v,rest,e1,e2,e3⟩:=hv
  exact⟨v,rest,e1,V.le_sound hvn c d v h.1 e2,V.les_sound hvn cs ds rest h.2 e3⟩
end
end
def Ghost (N:Nat)(s:List V)(h:Hp)(s':List V)(h':Hp):Prop:=
 ∀(A:Nat→Prop)(M:List (Option Nat))(a:Act)(w:World),N≤M.length→Rel A M s h a w→
  ∃M',M'.take N=M.take N∧Rel A M' s' h' a w∧ ∀g,cX M' h' g→cX M h g
theorem AB.ghost {P:Program}{N:Nat}{c:Code}{Q:Ex→List V→Hp→Prop}{s s':List V}{h h':Hp}(hg:Ghost N s h s' h')(hh:AB P N c Q s' h'):AB P N c Q s h:=by
 intro A M0 M h0 w0 a w hN hM G R
 obtain⟨t,ht⟩:=G.pre
 have hle:N≤M.length:=by rw[←ht];simp[hM]
 obtain⟨M',h1,h2,h3⟩:=hg A M a w hle R
 refine hh A M0 M' h0 w0 a w hN hM ⟨?_,h2.hr,G.ext,fun g hg hl=>G.live g hg (h3 g hl)⟩ h2
 have:M0=M'.take N:=by rw[h1,←ht,←hM];simp
 rw[this]
 exact a1C _ _
def FLe (vn:Nat→Bool)(g:V→V)(fr:List (Nat×V)):List (Nat×V)→Prop
 | []=>True
 |(t,y)::r=>(∃x,eP fr t=some x∧V.le vn x (g y))∧FLe vn g fr r
theorem FLe.nil {vn:Nat→Bool}{g:V→V}{fr:List (Nat×V)}:FLe vn g fr []:=trivial
theorem FLe.same {vn:Nat→Bool}{g:V→V}{fr r:List (Nat×V)}{t:Nat}{y:V}(h:eP fr t=some (g y))(k:FLe vn g fr r):FLe vn g fr ((t,y)::r):=⟨⟨_,h,V.le_refl _ _⟩,k⟩
theorem FLe.le {vn:Nat→Bool}{g:V→V}{fr r:List (Nat×V)}{t:Nat}{x y:V}(h:eP fr t=some x)(hl:V.le vn x (g y))(k:FLe vn g fr r):FLe vn g fr ((t,y)::r):=⟨⟨_,h,hl⟩,k⟩
theorem FLe.get {vn:Nat→Bool}{g:V→V}{fr:List (Nat×V)}: ∀{fr':List (Nat×V)},FLe vn g fr fr'→ ∀{t:Nat}{y:V},eP fr' t=some y→ ∃x,eP fr t=some x∧V.le vn x (g y)
 | [],_,t,y,hy=>by cases hy
 |(u,z)::r,h,t,y,hy=>by
  simp only[eP]at hy
  cases hb:a1y u t with
  |true=>
   rw[hb]at hy
   have:=a01 hb
   subst this
   simp only[cond_true,a0I]at hy
   subst hy
   exact h.1
  |false=>rw[hb]at hy;exact h.2.get hy
theorem aHW {X:Nat→Prop}{M M':List (Option Nat)}{w:World}{n:Nat}{fr fr':List (Nat×V)}{a:Act}{X':Nat→Prop}(S:SR X M w (aG n fr) a)
  (hh: ∀(t:Nat)(y:V),eP fr' t=some y→ ∃x,eP fr t=some x∧ ∀v,VR X M w x v→VR X' M' w y v):SR X' M' w (aG n fr') a:=by
 refine⟨by rw[nU,←S.len,nU],fun t y hy=> ?_⟩
 have ht:t<n:=by have:=(a0F.1 hy).1;rw[nU]at this;exact this
 rw[yN ht]at hy
 injection hy with hy
 cases hl:eP fr' t with
 |none=>rw[hl]at hy;subst hy;unfold VR;trivial
 |some z=>
  rw[hl]at hy
  subst hy
  obtain⟨x,hx,hv⟩:=hh t z hl
  exact hv _ (S.val t x (by rw[yN ht,hx];rfl))
def HLe (f:Nat→Nat)(h:Hp):List Nat→Hp→Prop
 | [],[]=>True
 |_::σ,none::h'=>HLe f h σ h'
 |b::σ,some B'::h'=>(∃B,h[b]? =some (some B)∧B.e=B'.e∧V.les y8 B.cells (V.rns f B'.cells)∧B'.cells.all V.one=true)∧HLe f h σ h'
 |_,_=>False
theorem HLe.nil {f:Nat→Nat}{h:Hp}:HLe f h [] []:=trivial
theorem HLe.dead {f:Nat→Nat}{h h':Hp}{b:Nat}{σ:List Nat}(k:HLe f h σ h'):HLe f h (b::σ) (none::h'):=k
theorem HLe.live {f:Nat→Nat}{h h':Hp}{b:Nat}{σ:List Nat}{e:TypeId}{cs cs':List V}(hb:h[b]? =some (some ⟨e,cs⟩))(hc:V.les y8 cs (V.rns f cs'))(ho:cs'.all V.one=true)(k:HLe f h σ h'):HLe f h (b::σ) (some ⟨e,cs'⟩::h'):=⟨⟨_,hb,rfl,hc,ho⟩,k⟩
theorem HLe.get {f:Nat→Nat}{h:Hp}: ∀{σ:List Nat}{h':Hp},HLe f h σ h'→ ∀{j:Nat}{B':Blk},h'[j]? =some (some B')→ ∃b B,σ[j]? =some b∧h[b]? =some (some B)∧B.e=B'.e∧V.les y8 B.cells (V.rns f B'.cells)∧B'.cells.all V.one=true
 | [],[],_,j,B',hj=>by simp at hj
 |b::σ,none::h',hh,j,B',hj=>by
  cases j with
  |zero=>simp at hj
  |succ j=>simp only[a0L]at hj ⊢; exact HLe.get (σ:=σ) hh hj
 |b::σ,some B::h',hh,j,B',hj=>by
  cases j with
  |zero=>
   simp only[a0T,a0I]at hj
   subst hj
   obtain⟨C,h1,h2,h3,h4⟩:=hh.1
   exact⟨b,C,rfl,h1,h2,h3,h4⟩
  |succ j=>simp only[a0L]at hj ⊢; exact HLe.get (σ:=σ) hh.2 hj
 | [],_::_,hh,_,_,_=>hh.elim
 |_::_,[],hh,_,_,_=>hh.elim
theorem HLe.len {f:Nat→Nat}{h:Hp}: ∀{σ:List Nat}{h':Hp},HLe f h σ h'→σ.length=h'.length
 | [],[],_=>rfl
 |b::σ,none::h',hh=>by simp[HLe.len (σ:=σ) hh]
 |b::σ,some B::h',hh=>by simp[HLe.len (σ:=σ) hh.2]
 | [],_::_,hh=>hh.elim
 |_::_,[],hh=>hh.elim
def lvs :List Nat→Hp→List Nat
 |b::σ,some _::h'=>b::lvs σ h'
 |_::σ,none::h'=>lvs σ h'
 |_,_=>[]
theorem aK7 : ∀{σ:List Nat}{h':Hp}{j b:Nat}{B:Blk},h'[j]? =some (some B)→σ[j]? =some b→b∈lvs σ h'
 | [],_,j,b,B,_,hb=>by simp at hb
 |_::_,[],j,b,B,hj,_=>by simp at hj
 |c::σ,some C::h',0,b,B,hj,hb=>by simp at hb;simp[lvs,hb]
 |c::σ,some C::h',j+1,b,B,hj,hb=>by
  simp only[a0L]at hj hb
  simp[lvs,aK7 hj hb]
 |c::σ,none::h',0,b,B,hj,hb=>by simp at hj
 |c::σ,none::h',j+1,b,B,hj,hb=>by
  simp only[a0L]at hj hb
  simp[lvs,aK7 hj hb]
theorem aNI : ∀{σ:List Nat}{h':Hp},(lvs σ h').Nodup→ ∀{i j b:Nat}{B C:Blk},h'[i]? =some (some B)→h'[j]? =some (some C)→σ[i]? =some b→σ[j]? =some b→i=j
 | [],_,_,i,j,b,B,C,_,_,hb,_=>by simp at hb
 |_::_,[],_,i,j,b,B,C,hi,_,_,_=>by simp at hi
 |c::σ,some D::h',hn,0,0,b,B,C,_,_,_,_=>rfl
 |c::σ,some D::h',hn,0,j+1,b,B,C,hi,hj,bi,bj=>by
  simp only[a0L,a0T,a0I]at hj bi bj
  subst bi
  exact absurd (aK7 hj bj) (a1i.1 hn).1
 |c::σ,some D::h',hn,i+1,0,b,B,C,hi,hj,bi,bj=>by
  simp only[a0L,a0T,a0I]at hi bi bj
  subst bj
  exact absurd (aK7 hi bi) (a1i.1 hn).1
 |c::σ,some D::h',hn,i+1,j+1,b,B,C,hi,hj,bi,bj=>by
  simp only[a0L]at hi hj bi bj
  rw[aNI (a1i.1 hn).2 hi hj bi bj]
 |c::σ,none::h',hn,0,_,b,B,C,hi,_,_,_=>by simp at hi
 |c::σ,none::h',hn,i+1,0,b,B,C,_,hj,_,_=>by simp at hj
 |c::σ,none::h',hn,i+1,j+1,b,B,C,hi,hj,bi,bj=>by
  simp only[a0L]at hi hj bi bj
  rw[aNI (σ:=σ) hn hi hj bi bj]
def ndB :List Nat→Bool
 | []=>true
 |b::l=> !(l.elem b)&&ndB l
theorem aG6 : ∀{l:List Nat},ndB l=true→l.Nodup
 | [],_=>List.nodup_nil
 |b::l,h=>by
  simp only[ndB,a0U,Bool.not_eq_true']at h
  refine a1i.2 ⟨fun hm=> ?_,aG6 h.2⟩
  rw[List.elem_eq_true_of_mem hm]at h
  cases h.1
theorem aZE {ρ:List Nat}{L i b:Nat}(h:ρ[i]? =some b):sg ρ L i=b:=by simp[sg,h]
theorem aZd {ρ:List Nat}{L i:Nat}(h:ρ.length≤i):sg ρ L i=L+(i-ρ.length):=by simp[sg,h]
theorem V.les_length {vn:Nat→Bool}: ∀{cs ds:List V},V.les vn cs ds→cs.length=ds.length
 | [],[],_=>rfl
 |c::cs,d::ds,h=>by unfold V.les at h;simp[V.les_length h.2]
 | [],_::_,h=>by unfold V.les at h;exact h.elim
 |_::_,[],h=>by unfold V.les at h;exact h.elim
theorem Ghost.rn {N n:Nat}{fr fr':List (Nat×V)}{h h':Hp}(σ:List Nat)(hσ:σ.take N=a1k N)(hlt:σ.all (fun b=>a2d b h.length)=true)(hf:FLe y8 (V.rn (sg σ h.length)) fr fr')
  (hh:HLe (sg σ h.length) h σ h') (hnd:ndB (lvs σ h')=true):Ghost N (aG n fr) h (aG n fr') h':=by
 intro A M a w hN R
 have hM:M.length=h.length:=R.hr.len
 have hltb: ∀b∈σ,b<M.length:=fun b hb=>by
  have h2:=a0K.1 hlt b hb
  rw[hM];exact a1j (n:=b+1) h2
 let M':List (Option Nat):=σ.map fun b=>(M[b]?).getD none
 have hM': ∀{j b:Nat},σ[j]? =some b→M'[j]? =M[b]? :=by
  intro j b hj
  have hb:=hltb b (a0Q hj)
  simp only[M',a00,hj,a0N]
  rw[a0H hb];rfl
 have hfrom: ∀b y,M[sg σ h.length b]? =some y→M'[b]? =some y:=by
  intro b y hy
  rcases a08 b σ.length with hl|hl
  ·have hi:σ[b]? =some σ[b]:=a0H hl
   rw[hM' hi];rw[aZE hi]at hy;exact hy
  rw[aZd hl]at hy
  have:=(a0F.1 hy).1
  omega
 have hlive: ∀g,cX M' h' g→cX M h g:=by
  rintro g ⟨j,B',hj,hm⟩
  obtain⟨b,B,h1,h2,_⟩:=hh.get hj
  exact⟨b,B,h2,by rw[←hM' h1];exact hm⟩
 have hX: ∀g,Xs A M' h' g→Xs A M h g:=fun g hx=>hx.elim .inl (fun hl=> .inr (hlive g hl))
 refine⟨M', ?_,⟨⟨by simp[M',hh.len],R.hr.alt, ?_, ?_,R.hr.glob.avoid fun g _ hx=>hX g hx⟩, ?_,R.defers⟩,hlive⟩
 ·simp only[M',←a1o,hσ]
  apply a1r
  intro i
  rw[a00,a1S]
  rcases a08 i N with hi|hi
  ·simp only[List.getElem?_range hi,a0N,hi,if_true]
   rw[a0H (a07 hi hN)];rfl
  have: ¬i<N:=by omega
  simp[this]
 ·intro j B' hj
  obtain⟨b,B,h1,h2,h3,h4,h5⟩:=hh.get hj
  refine⟨a0K.1 h5, ?_⟩
  have hlen:B.cells.length=B'.cells.length:=by rw[V.les_length h4,V.rns_length]
  rcases(R.hr.blk b B h2).2 with⟨hn,hc0⟩|⟨g,cs,hg,hA,hw,hle,hcs⟩
  ·refine .inl ⟨by rw[hM' h1];exact hn,a0O (by rw[←hlen,hc0];rfl)⟩
  refine .inr ⟨g,cs,by rw[hM' h1];exact hg,hA,by rw[←h3,←hlen];exact hw,by rw[←hlen];exact hle, ?_⟩
  rw[←hlen]
  exact(VCells.rn_from hfrom _ _ (V.les_sound (fun _ hb=>by cases hb) _ _ _ h4 hcs)).avoid (fun g _ hx=>hX g hx)
 ·intro i j B C g hi hj mi mj
  obtain⟨b,B1,h1,h2,_⟩:=hh.get hi
  obtain⟨c,C1,k1,k2,_⟩:=hh.get hj
  have:=R.hr.inj b c B1 C1 g h2 k2 (by rw[←hM' h1];exact mi) (by rw[←hM' k1];exact mj)
  subst this
  exact aNI (aG6 hnd) hi hj h1 k1
 exact aHW R.sr (fun t y hy=>by
  obtain⟨x,hx,hl⟩:=hf.get hy
  exact⟨x,hx,fun v hv=>(VR.rn_from hfrom _ _ (V.le_sound (fun _ hb=>by cases hb) _ _ _ hl hv)).avoid (fun g _ hx=>hX g hx)⟩)
def HLv (vn:Nat→Bool):Hp→Hp→Prop
 | [],[]=>True
 |none::h,none::h'=>HLv vn h h'
 |some B::h,some B'::h'=>(B.e=B'.e∧V.les vn B.cells B'.cells∧B'.cells.all V.one=true)∧HLv vn h h'
 |_,_=>False
theorem HLv.nil {vn:Nat→Bool}:HLv vn [] []:=trivial
theorem HLv.dead {vn:Nat→Bool}{h h':Hp}(k:HLv vn h h'):HLv vn (none::h) (none::h'):=k
theorem HLv.live {vn:Nat→Bool}{h h':Hp}{e:TypeId}{cs cs':List V}(hc:V.les vn cs cs')(ho:cs'.all V.one=true)(k:HLv vn h h'):HLv vn (some ⟨e,cs⟩::h) (some ⟨e,cs'⟩::h'):=⟨⟨rfl,hc,ho⟩,k⟩
theorem HLv.get {vn:Nat→Bool}: ∀{h h':Hp},HLv vn h h'→ ∀{j:Nat}{B':Blk},h'[j]? =some (some B')→ ∃B,h[j]? =some (some B)∧B.e=B'.e∧V.les vn B.cells B'.cells∧B'.cells.all V.one=true
 | [],[],_,j,B',hj=>by simp at hj
 |none::h,none::h',hh,j,B',hj=>by
  cases j with
  |zero=>simp at hj
  |succ j=>simp only[a0L]at hj ⊢; exact HLv.get (h:=h) hh hj
 |some B::h,some C::h',hh,j,B',hj=>by
  cases j with
  |zero=>
   simp only[a0T,a0I]at hj
   subst hj
   exact⟨B,rfl,hh.1.1,hh.1.2.1,hh.1.2.2⟩
  |succ j=>simp only[a0L]at hj ⊢; exact HLv.get (h:=h) hh.2 hj
 | [],_::_,hh,_,_,_=>hh.elim
 |none::_,[],hh,_,_,_=>hh.elim
 |some _::_,[],hh,_,_,_=>hh.elim
 |none::_,some _::_,hh,_,_,_=>hh.elim
 |some _::_,none::_,hh,_,_,_=>hh.elim
theorem HLv.len {vn:Nat→Bool}: ∀{h h':Hp},HLv vn h h'→h.length=h'.length
 | [],[],_=>rfl
 |none::h,none::h',hh=>by simp[HLv.len (h:=h) hh]
 |some B::h,some C::h',hh=>by simp[HLv.len (h:=h) hh.2]
 | [],_::_,hh=>hh.elim
 |none::_,[],hh=>hh.elim
 |some _::_,[],hh=>hh.elim
 |none::_,some _::_,hh=>hh.elim
 |some _::_,none::_,hh=>hh.elim
theorem Ghost.virt {N n:Nat}{fr fr':List (Nat×V)}{h h1:Hp}(e:TypeId)(hf:FLe (fun b=>a1y b h.length) id fr fr')(hh:HLv (fun b=>a1y b h.length) h h1)
  :Ghost N (aG n fr) h (aG n fr') (h1++[some ⟨e,[]⟩]):=by
 intro A M a w hN R
 have hM:M.length=h.length:=R.hr.len
 have G:=Grow.virt R.hr e
 have hvn: ∀b,a1y b h.length=true→(M++[none])[b]? =some none:=fun b hb=>by
  have:=a01 hb
  subst this
  rw[←hM];simp
 have hlen:h1.length=h.length:=hh.len.symm
 have hcase: ∀{b:Nat}{B:Blk},(h1++[some ⟨e,[]⟩])[b]? =some (some B)→ ∃C,(h++[some ⟨e,[]⟩])[b]? =some (some C)∧C.e=B.e∧V.les (fun b=>a1y b h.length) C.cells B.cells∧B.cells.all V.one=true:=by
  intro b B hb
  rcases c7 hb with hb|⟨hbl,hB⟩
  ·obtain⟨C,c1,c2,c3,c4⟩:=hh.get hb
   exact⟨C,kD c1,c2,c3,c4⟩
  injection hB with hB
  subst hB
  exact⟨⟨e,[]⟩,by rw[hbl,hlen];simp,rfl,V.les_refl _ _,rfl⟩
 have hlive': ∀g,cX (M++[none]) (h1++[some ⟨e,[]⟩]) g→cX (M++[none]) (h++[some ⟨e,[]⟩]) g:=by
  rintro g ⟨b,B,hb,hm⟩
  obtain⟨C,c1,_⟩:=hcase hb
  exact⟨b,C,c1,hm⟩
 have hlive: ∀g,cX (M++[none]) (h1++[some ⟨e,[]⟩]) g→cX M h g:=by
  rintro g hl
  obtain⟨b,B,hb,hm⟩:=hlive' g hl
  rcases c7 hm with hm'|⟨_,hm'⟩
  ·rcases c7 hb with hb'|⟨rfl,_⟩
   ·exact⟨b,B,hb',hm'⟩
   have:=(a0F.1 hm').1;omega
  cases hm'
 refine⟨M++[none],by rw[a1g hN],⟨⟨by simp[hM,hlen],R.hr.alt, ?_, ?_,R.hr.glob.avoid fun g _ hx=>hx.elim .inl (fun hl=> .inr (hlive g hl))⟩, ?_,R.defers⟩,hlive⟩
 ·intro b B hb
  obtain⟨C,c1,c2,c3,c4⟩:=hcase hb
  refine⟨a0K.1 c4, ?_⟩
  have hl:=V.les_length c3
  rcases(G.hr.blk b C c1).2 with⟨hn,hc0⟩|⟨g,cs,hg,hA,hw,hle,hcs⟩
  ·exact .inl ⟨hn,a0O (by rw[←hl,hc0];rfl)⟩
  refine .inr ⟨g,cs,hg,hA,by rw[←c2,←hl];exact hw,by rw[←hl];exact hle, ?_⟩
  rw[←hl]
  exact(V.les_sound hvn _ _ _ c3 hcs).avoid (fun g _ hx=>hx.elim .inl (fun hl=> .inr (hlive' g hl)))
 ·intro b b' B B' g hb hb' hm hm'
  obtain⟨C,c1,_⟩:=hcase hb
  obtain⟨C',c1',_⟩:=hcase hb'
  exact G.hr.inj b b' C C' g c1 c1' hm hm'
 exact aHW R.sr (fun t y hy=>by
  obtain⟨x,hx,hl⟩:=hf.get hy
  exact⟨x,hx,fun v hv=>(V.le_sound hvn _ _ _ hl (G.keep hv)).avoid (fun g _ hx=>hx.elim .inl (fun hl=> .inr (hlive' g hl)))⟩)
theorem Ghost.trans {N:Nat}{s s1 s2:List V}{h h1 h2:Hp}(a:Ghost N s h s1 h1)(b:Ghost N s1 h1 s2 h2):Ghost N s h s2 h2:=by
 intro A M ac w hN R
 obtain⟨M1,e1,R1,l1⟩:=a A M ac w hN R
 have hN1:N≤M1.length:=by
  have:=congrArg a16 e1
  simp only[a04]at this;omega
 obtain⟨M2,e2,R2,l2⟩:=b A M1 ac w hN1 R1
 exact⟨M2,e2.trans e1,R2,fun g hg=>l1 g (l2 g hg)⟩
abbrev eI (k:IntKind)(x:Int):V:= .sc (.int k x)
abbrev eB (x:Bool):V:= .sc (.bool x)
abbrev eS (x:ByteArray):V:= .sc (.string x)
abbrev eL {α:Type}(K:Nat)(E:α→V)(l:List α):V:= .row none K (l.map E)
def aZ {α:Type}(l:List α)(i:Int):Option α:=if 0≤i then l[i.toNat]? else none
def sub {α:Type}(l:List α)(a b:Int):Option (List α):=if 0≤a∧a≤b∧b≤l.length then some ((l.take b.toNat).drop a.toNat)else none
def b5 {α:Type}(by_:Nat)(l m:List α):Option (List α):=if(l.length+m.length)*by_≤lim then some (l++m)else none
def mks {α:Type}(by_:Nat)(z:α)(n:Int):Option (List α):=if 0≤n∧n.toNat*by_≤lim then some (a1h n.toNat z)else none
def cpy {α:Type}(l m:List α):List α:=m.take l.length++l.drop m.length
def quo (k:IntKind)(a b:Int):Option Int:=if b=0 then none else some (k.wrap (a.tdiv b))
def rem (a b:Int):Option Int:=if b=0 then none else some (a.tmod b)
def shl (k:IntKind)(a b:Int):Option Int:=if b<0 then none else some (k.wrap (a*2^(min b.toNat k.bits)))
def shr (k:IntKind)(a b:Int):Option Int:=if b<0 then none else some (a.fdiv (2^(min b.toNat k.bits)))
inductive LR (σ ρ:Type) where
 |brk (s:σ)
 |ret (r:ρ)
theorem aN {α β:Type}{o:Option α}{k:α→Option β}{r:β}(h:o.bind k=some r): ∃v,o=some v∧k v=some r:=by
 cases o with
 |none=>cases h
 |some v=>exact⟨v,rfl,h⟩
theorem aJ8 {α:Type}{c:Bool}{a:Option α}{r:α}(h:(if c=true then a else none)=some r):c=true∧a=some r:=by cases c<;>simp_all
theorem cutF {α:Type}{c:Bool}{a:Option α}{r:α}(h:(if c=true then none else a)=some r):c=false∧a=some r:=by cases c<;>simp_all
theorem aEp {α:Type}{c:Bool}{a b:Option α}{r:α}(h:(if c=true then a else b)=some r)(hc:c=true):a=some r:=by subst hc;exact h
theorem aFE {α:Type}{c:Bool}{a b:Option α}{r:α}(h:(if c=true then a else b)=some r)(hc:c=false):b=some r:=by subst hc;exact h
section
variable {P:Program}{O:vR}{ops:Array Oper}{l:List Oper}{n:Nat}{fr:List (Nat×V)}{h h':Hp}{K:List V→Hp→Prop}{op:Op}{ty:TypeId}{pos:String}{aft:Array Edge}{t:Nat}{v:V}{gd:Option (Nat×Bool)}
variable {o:Oper}
theorem aOf {j u:Nat}{want c:Bool}(hg:o.guard=some (j,want))(hj:(ops[j]?).bind (·.dst)=some u)(hl:bS n fr (.tmp u)=some (.sc (.bool c))):kR ops o (aG n fr)=some (c == want):=by
 have:=cO hl
 simp only[ev]at this
 unfold kR
 rw[hg]
 simp only[hj,this,yV]
 cases c<;>cases want<;>rfl
variable {j u:Nat}{want c:Bool}{dd:Option Tmp}
theorem sv (hd:bQ P O ⟨dd,op,ty,pos,aft,none⟩ (aG n fr) h=some (v,h')):cN P O ops ⟨dd,op,ty,pos,aft,none⟩ (aG n fr) h=some (v,h'):=by simp only[cN,kR];exact hd
theorem svG (hj:(ops[j]?).bind (·.dst)=some u)(hl:bS n fr (.tmp u)=some (.sc (.bool c)))(hc:c=want)(hd:bQ P O ⟨dd,op,ty,pos,aft,some (j,want)⟩ (aG n fr) h=some (v,h')):cN P O ops ⟨dd,op,ty,pos,aft,some (j,want)⟩ (aG n fr) h=some (v,h'):=by
 subst hc
 simp only[cN,aOf (o:=⟨dd,op,ty,pos,aft,some (j,c)⟩) rfl hj hl,beq_self_eq_true]
 exact hd
theorem svX (hj:(ops[j]?).bind (·.dst)=some u)(hl:bS n fr (.tmp u)=some (.sc (.bool c)))(hc:c= !want):cN P O ops ⟨dd,op,ty,pos,aft,some (j,want)⟩ (aG n fr) h=some (.sc undef,h):=by
 subst hc
 simp only[cN,aOf (o:=⟨dd,op,ty,pos,aft,some (j,want)⟩) rfl hj hl]
 cases want<;>rfl
theorem svU (hj:(ops[j]?).bind (·.dst)=some u)(hl:bS n fr (.tmp u)=some (.sc undef)):cN P O ops ⟨dd,op,ty,pos,aft,some (j,want)⟩ (aG n fr) h=some (.sc undef,h):=by
 have:=cO hl
 simp only[ev]at this
 have hw:kR ops ⟨dd,op,ty,pos,aft,some (j,want)⟩ (aG n fr)=some false:=by
  unfold kR
  simp only[hj,this]
  cases want<;>rfl
 simp only[cN,hw]
def OpsW (P:Program)(N:Nat)(ops:Array Oper)(l:List Oper)(s:List V)(h:Hp)(K:List V→Hp→Prop):Prop:=
 ∀(k:Nat),(∀j,l[j]? =ops[k+j]?)→ ∀(A:Nat→Prop)(M0 M:List (Option Nat))(h0:Hp)(w0:World)(a:Act)(w:World)(Q:Exit→Act→World→Prop),h0.length=N→M0.length=N→Grow A M0 h0 w0 M h w→Rel A M s h a w→
  (∀s' h' M' a' w',K s' h'→Grow A M0 h0 w0 M' h' w'→Rel A M' s' h' a' w'→Q .normal a' w')→wpOps P ops Q (List.range' k l.length) a w
variable {N:Nat}{s s':List V}
theorem OpsW.nil (hk:K s h):OpsW P N ops [] s h K:=fun k _ A M0 M h0 w0 a w Q _ _ G R hQ=>by
 simp only[a1x,a11,wpOps]
 exact hQ s h M a w hk G R
theorem OpsW.cons (hO:yX P O)(hs:cN P O ops o s h=some (v,h'))(hk:OpsW P N ops l (g8 s o.dst v) h' K):OpsW P N ops (o::l) s h K:=fun k hl A M0 M h0 w0 a w Q hN hM G R hQ=>by
 have h0':ops[k]? =some o:=by simpa using (hl 0).symm
 simp only[a05,a1D]
 rw[wpOps_cons]
 refine tV hO R h0' (s':=g8 s o.dst v) (h':=h') (by rw[cQ,hs];rfl) fun a' w' M' G' R'=> ?_
 exact hk (k+1) (fun j=>by have:=hl (j+1);simpa[a1T,a1G 1 j]using this) A M0 M' h0 w0 a' w' Q hN hM (G.trans G') R' hQ
theorem OpsW.ghost (hg:Ghost N s h s' h')(hk:OpsW P N ops l s' h' K):OpsW P N ops l s h K:=fun k hl A M0 M h0 w0 a w Q hN hM G R hQ=>by
 obtain⟨t,ht⟩:=G.pre
 have hle:N≤M.length:=by rw[←ht];simp[hM]
 obtain⟨M',h1,h2,h3⟩:=hg A M a w hle R
 refine hk k hl A M0 M' h0 w0 a w Q hN hM ⟨?_,h2.hr,G.ext,fun g hg hl=>G.live g hg (h3 g hl)⟩ h2 hQ
 have:M0=M'.take N:=by rw[h1,←ht,←hM];simp
 rw[this]
 exact a1C _ _
theorem aGB :yX P (fun _ _ _=>none):=fun _ _ _ _ _ hh=>by cases hh
abbrev O0 :vR:=fun _ _ _=>none
theorem wS (hs:cN P O0 ops ⟨some t,op,ty,pos,aft,gd⟩ (aG n fr) h=some (v,h'))(k:OpsW P N ops l (aG n ((t,v)::fr)) h' K):OpsW P N ops (⟨some t,op,ty,pos,aft,gd⟩::l) (aG n fr) h K:=
 OpsW.cons aGB hs (by dsimp only;rw[aEk];exact k)
theorem wN (hs:cN P O0 ops ⟨none,op,ty,pos,aft,gd⟩ (aG n fr) h=some (v,h'))(k:OpsW P N ops l (aG n fr) h' K):OpsW P N ops (⟨none,op,ty,pos,aft,gd⟩::l) (aG n fr) h K:=
 OpsW.cons aGB hs k
open Classical in
noncomputable def aIl (f:FuncId)(h:Hp)(xs:List V)(r:V)(h':Hp):vR:=fun k h1 xs1=>if k=f∧h1=h∧xs1=xs then some (r,h')else none
theorem aNB {f:FuncId}{xs:List V}{r:V}(hc:Fn P f h xs r h'):yX P (aIl f h xs r h'):=fun k h1 xs1 r1 h2 hh=>by
 unfold aIl at hh
 split at hh
 ·rename_i he
  obtain⟨rfl,rfl,rfl⟩:=he
  simp only[a0I,a0V]at hh
  obtain⟨rfl,rfl⟩:=hh
  exact hc
 cases hh
theorem aIE {f:FuncId}{xs:List V}{r:V}:aIl f h xs r h' f h xs=some (r,h'):=by simp[aIl]
theorem AB.rw {Q:Ex→List V→Hp→Prop}{id:Nat}(hr:OpsW P N l.toArray l s h (Q .normal)):AB P N (.region id l.toArray false) Q s h:=by
 intro A M0 M h0 w0 a w hN hM G R
 refine wp_region ?_
 have:=hr 0 (fun j=>by simp) A M0 M h0 w0 a w (fun e a' w'=> ∃x s' h' M',e=Ex.toExit x∧Q x s' h'∧Grow A M0 h0 w0 M' h' w'∧Rel A M' s' h' a' w') hN hM G R (fun s' h' M' a' w' hk G' R'=>⟨.normal,s',h',M',rfl,hk,G',R'⟩)
 rw[List.range_eq_range']
 simpa using this
variable {d:Option Tmp}{g:Option (Nat×Bool)}{x y z:Operand}{a b:V}
theorem aS8 (hx:bS n fr x=some a):bQ P O ⟨d,.move x,ty,pos,aft,g⟩ (aG n fr) h=some (a,h):=by simp[bQ,cO hx]
theorem aUk (hx:bS n fr x=some a):bQ P O ⟨d,.assign x,ty,pos,aft,g⟩ (aG n fr) h=some (a,h):=by simp[bQ,cO hx]
theorem aWk {c:Bool}(hz:bS n fr z=some (.sc (.bool c)))(hc:c=true)(hx:bS n fr x=some a):bQ P O ⟨d,.pick z x y,ty,pos,aft,g⟩ (aG n fr) h=some (a,h):=by subst hc;simp[bQ,cO hx,cO hz]
theorem aWH {c:Bool}(hz:bS n fr z=some (.sc (.bool c)))(hc:c=false)(hy:bS n fr y=some a):bQ P O ⟨d,.pick z x y,ty,pos,aft,g⟩ (aG n fr) h=some (a,h):=by subst hc;simp[bQ,cO hy,cO hz]
theorem jB {bo:BinOp}{t u:TypeId}(hx:bS n fr x=some a)(hy:bS n fr y=some b)(hv:c9 P bo t x y a b=some v):bQ P O ⟨d,.binOp bo t x y u,ty,pos,aft,g⟩ (aG n fr) h=some (v,h):=by simp[bQ,cO hx,cO hy,hv]
theorem aI4 {uo:UnOp}{t:TypeId}(hx:bS n fr x=some a)(hv:unV P uo a=some v):bQ P O ⟨d,.unOp uo t x,ty,pos,aft,g⟩ (aG n fr) h=some (v,h):=by simp[bQ,cO hx,hv]
theorem aFN {t u:TypeId}(hx:bS n fr x=some a)(hv:aBA P h t u a=some v):bQ P O ⟨d,.convert t u x,ty,pos,aft,g⟩ (aG n fr) h=some (v,h):=by simp[bQ,cO hx,hv]
theorem aZv {e:TypeId}{i:Nat}(hx:bS n fr x=some a)(ho:a.flatOk=true)(hl:h.length=i)(hh:h++[some ⟨e,a.cells⟩]=h'):bQ P O ⟨d,.box e x,ty,pos,aft,g⟩ (aG n fr) h=some (.ptr i 0,h'):=by
 subst hl hh;simp[bQ,cO hx,aP5,ho]
theorem aNA {e:TypeId}{i:Nat}{ti:TI}(ht:aJ P e=some ti)(ho:(ti.zero.cells.toList.map dY).all V.one=true)(hl:h.length=i)(hh:h++[some ⟨e,ti.zero.cells.toList.map dY⟩]=h'):bQ P O ⟨d,.alloc e,ty,pos,aft,g⟩ (aG n fr) h=some (.ptr i 0,h'):=by
 subst hl hh
 simp only[bQ,aKv,ht]
 rw[if_pos ho]
theorem cP {t:TypeId}(hx:bS n fr x=some a)(hv:eR P t h a=some v):bQ P O ⟨d,.load t x,ty,pos,aft,g⟩ (aG n fr) h=some (v,h):=by simp[bQ,cO hx,hv]
theorem aNN {t:TypeId}(hx:bS n fr x=some a)(hy:bS n fr y=some b)(hv:zX P t h a b=some h'):bQ P O ⟨d,.store t x y,ty,pos,aft,g⟩ (aG n fr) h=some (.sc undef,h'):=by simp[bQ,cO hx,cO hy,hv]
theorem aTo {i o:Nat}(hx:bS n fr x=some (.ptr i o)):bQ P O ⟨d,.nilCheck x,ty,pos,aft,g⟩ (aG n fr) h=some (.ptr i o,h):=by simp[bQ,cO hx,qP]
theorem aYd {es:List V}{i o:Nat}(hx:bS n fr x=some (.eptr es i o)):bQ P O ⟨d,.nilCheck x,ty,pos,aft,g⟩ (aG n fr) h=some (.eptr es i o,h):=by simp[bQ,cO hx,qP]
theorem aQO {t:TypeId}{f:Nat}(hx:bS n fr x=some a)(hv:q9 P t a f=some v):bQ P O ⟨d,.fieldAddr t x f,ty,pos,aft,g⟩ (aG n fr) h=some (v,h):=by simp[bQ,cO hx,hv]
theorem aZJ {t:TypeId}{f:Nat}(hx:bS n fr x=some a)(hv:aGd P t a f=some v):bQ P O ⟨d,.field t x f,ty,pos,aft,g⟩ (aG n fr) h=some (v,h):=by simp[bQ,cO hx,hv]
theorem aIX {t:TypeId}(hx:bS n fr x=some a)(hy:bS n fr y=some b)(hv:g6 P t a b=some v):bQ P O ⟨d,.indexAddr t x y,ty,pos,aft,g⟩ (aG n fr) h=some (v,h):=by simp[bQ,cO hx,cO hy,hv]
theorem aXZ {t:TypeId}(hx:bS n fr x=some a)(hy:bS n fr y=some b)(hv:aBL P t a b=some v):bQ P O ⟨d,.index t x y,ty,pos,aft,g⟩ (aG n fr) h=some (v,h):=by simp[bQ,cO hx,cO hy,hv]
theorem aZs {i:Nat}{vs:List V}(hx:bS n fr x=some (.tup vs))(hv:vs[i]? =some v):bQ P O ⟨d,.extract x i,ty,pos,aft,g⟩ (aG n fr) h=some (v,h):=by simp[bQ,cO hx,aIm,hv]
theorem aNO {t:TypeId}(hx:bS n fr x=some a)(hy:bS n fr y=some b)(hv:aCi P t a b h=some (v,h')):bQ P O ⟨d,.makeSlice t x y,ty,pos,aft,g⟩ (aG n fr) h=some (v,h'):=by simp[bQ,cO hx,cO hy,hv]
def k6 (n:Nat)(fr:List (Nat×V)):List Operand→Option (List V)
 | []=>some []
 |o::os=>match bS n fr o,k6 n fr os with
  |some x,some xs=>some (x::xs)
  |_,_=>none
theorem aAE : ∀{os:List Operand}{xs:List V},k6 n fr os=some xs→z6 (aG n fr) os=some xs
 | [],xs,hh=>by simp only[k6,a0I]at hh;subst hh;rfl
 |o::os,xs,hh=>by
  simp only[k6]at hh
  split at hh
  ·rename_i x ys h1 h2
   injection hh with hh
   subst hh
   simp only[z6,a03,cO h1,a1b,a1f,a1n]
   have:=aAE h2
   unfold z6 at this
   rw[this];rfl
  cases hh
def aF0 (n:Nat)(fr:List (Nat×V)):List (Nat×Operand)→Option (List (Nat×V))
 | []=>some []
 |p::ps=>match bS n fr p.2,aF0 n fr ps with
  |some x,some xs=>some ((p.1,x)::xs)
  |_,_=>none
theorem aKg : ∀{ps:List (Nat×Operand)}{xs:List (Nat×V)},aF0 n fr ps=some xs→aAc (aG n fr) ps=some xs
 | [],xs,hh=>by simp only[aF0,a0I]at hh;subst hh;rfl
 |p::ps,xs,hh=>by
  simp only[aF0]at hh
  split at hh
  ·rename_i x ys h1 h2
   injection hh with hh
   subst hh
   simp only[aAc,a03,cO h1,a1b,a1f,a1n,a0N]
   have:=aKg h2
   unfold aAc at this
   rw[this];rfl
  cases hh
def aUa (n:Nat)(fr:List (Nat×V)):Operand→Option V
 | .const (.slice none 0 0)=>some (.row none 1 [])
 |o=>(bS n fr o).map V.softA
theorem aWp {o:Operand}{x:V}(hh:aUa n fr o=some x):evB (aG n fr) o=some x:=by
 unfold aUa at hh
 split at hh
 ·exact hh
 rename_i hne
 simp only[a0P]at hh
 obtain⟨z,hz,rfl⟩:=hh
 have h2:=cO hz
 unfold evB
 split
 ·exact(hne rfl).elim
 rw[h2];rfl
def uY (n:Nat)(fr:List (Nat×V)):List (Nat×Operand)→Option (List (Nat×V))
 | []=>some []
 |p::ps=>match aUa n fr p.2,uY n fr ps with
  |some x,some xs=>some ((p.1,x)::xs)
  |_,_=>none
theorem aJy : ∀{ps:List (Nat×Operand)}{xs:List (Nat×V)},uY n fr ps=some xs→aBu (aG n fr) ps=some xs
 | [],xs,hh=>by simp only[uY,a0I]at hh;subst hh;rfl
 |p::ps,xs,hh=>by
  simp only[uY]at hh
  split at hh
  ·rename_i x ys h1 h2
   injection hh with hh
   subst hh
   simp only[aBu,a03,aWp h1,a1b,a1f,a1n,a0N]
   have:=aJy h2
   unfold aBu at this
   rw[this];rfl
  cases hh
theorem cI {t:TypeId}{ps:List (Nat×Operand)}{xs:List (Nat×V)}(hp:aF0 n fr ps=some xs)(hv:uI P t xs=some v):bQ P O ⟨d,.build t ps.toArray,ty,pos,aft,g⟩ (aG n fr) h=some (v,h):=by
 simp[bQ,aKg hp,hv]
theorem oG {t:TypeId}{len:Nat}{ps:List (Nat×Operand)}{xs:List (Nat×V)}(hp:uY n fr ps=some xs)(hv:gB P t len xs h=some (v,h')):bQ P O ⟨d,.buildSlice t len ps.toArray,ty,pos,aft,g⟩ (aG n fr) h=some (v,h'):=by
 simp[bQ,aJy hp,hv]
def aKo (n:Nat)(fr:List (Nat×V)):Option Operand→Option (Option V)
 |none=>some none
 |some o=>match bS n fr o with
  |some x=>some (some x)
  |none=>none
theorem aMn {o:Option Operand}{x:Option V}(hh:aKo n fr o=some x):rZ (aG n fr) o=some x:=by
 cases o with
 |none=>exact hh
 |some o=>
  simp only[aKo]at hh
  split at hh
  ·rename_i y hy;injection hh with hh;subst hh;simp[rZ,cO hy]
  cases hh
theorem xW {t:TypeId}{lo hi:Option Operand}{vl vh:Option V}(hx:bS n fr x=some a)(h1:aKo n fr lo=some vl)(h2:aKo n fr hi=some vh)(hv:iI P t h a vl vh=some v):bQ P O ⟨d,.slice t x lo hi none,ty,pos,aft,g⟩ (aG n fr) h=some (v,h):=by
 simp[bQ,cO hx,aMn h1,aMn h2,hv]
theorem aPF {t:TypeId}{lo:Option Operand}{hi mx:Operand}{vl:Option V}{vh vm:V}(hx:bS n fr x=some a)(h1:aKo n fr lo=some vl)(h2:bS n fr hi=some vh)(h3:bS n fr mx=some vm)(hv:yH P t a vl vh vm=some v):bQ P O ⟨d,.slice t x lo (some hi) (some mx),ty,pos,aft,g⟩ (aG n fr) h=some (v,h):=by
 simp[bQ,cO hx,aMn h1,cO h2,cO h3,hv]
variable {ws:List Operand}{ts:List TypeId}{xs:List V}
theorem aPu {t:TypeId}(hx:bS n fr x=some a)(hv:aEn P t a=some v):bQ P O ⟨d,.call ⟨.builtin .len,#[x],#[t]⟩,ty,pos,aft,g⟩ (aG n fr) h=some (v,h):=by
 have:z6 (aG n fr) [x]=some [a]:=aAE (by simp[k6,hx])
 simp[bQ,rL,this,hv]
theorem tP {t t':TypeId}(hx:bS n fr x=some a)(hy:bS n fr y=some b)(hv:gR P t t' a b h=some (v,h')):bQ P O ⟨d,.call ⟨.builtin .append,#[x,y],#[t,t']⟩,ty,pos,aft,g⟩ (aG n fr) h=some (v,h'):=by
 have:z6 (aG n fr) [x,y]=some [a,b]:=aAE (by simp[k6,hx,hy])
 simp[bQ,rL,this,hv]
theorem aQu {t t':TypeId}(hx:bS n fr x=some a)(hy:bS n fr y=some b)(hv:aLb P t a b h=some (v,h')):bQ P O ⟨d,.call ⟨.builtin .copy,#[x,y],#[t,t']⟩,ty,pos,aft,g⟩ (aG n fr) h=some (v,h'):=by
 have:z6 (aG n fr) [x,y]=some [a,b]:=aAE (by simp[k6,hx,hy])
 simp[bQ,rL,this,hv]
theorem aPo {ts:Array TypeId}(hx:k6 n fr ws=some xs)(hv:aHv P ts ty xs false=some v):bQ P O ⟨d,.call ⟨.builtin .min,ws.toArray,ts⟩,ty,pos,aft,g⟩ (aG n fr) h=some (v,h):=by
 simp[bQ,rL,aAE hx,hv]
theorem aZz {ts:Array TypeId}(hx:k6 n fr ws=some xs)(hv:aHv P ts ty xs true=some v):bQ P O ⟨d,.call ⟨.builtin .max,ws.toArray,ts⟩,ty,pos,aft,g⟩ (aG n fr) h=some (v,h):=by
 simp[bQ,rL,aAE hx,hv]
theorem aHZ {f:FuncId}{ts:Array TypeId}(hx:k6 n fr ws=some xs)(hv:O f h xs=some (v,h')):bQ P O ⟨d,.call ⟨.value (.func f),ws.toArray,ts⟩,ty,pos,aft,g⟩ (aG n fr) h=some (v,h'):=by
 simp[bQ,rL,aAE hx,hv]
theorem wC {N:Nat}{f:FuncId}{ts:Array TypeId}{K:List V→Hp→Prop}{l:List Oper}(hx:k6 n fr ws=some xs)(hc:Fn P f h xs v h')(k:OpsW P N ops l (aG n ((t,v)::fr)) h' K):OpsW P N ops (⟨some t,.call ⟨.value (.func f),ws.toArray,ts⟩,ty,pos,aft,none⟩::l) (aG n fr) h K:=
 OpsW.cons (aNB hc) (sv (aHZ hx aIE)) (by dsimp only;rw[aEk];exact k)
theorem wCG {N:Nat}{f:FuncId}{ts:Array TypeId}{K:List V→Hp→Prop}{l:List Oper}{j u:Nat}{want c:Bool}(hj:(ops[j]?).bind (·.dst)=some u)(hl:bS n fr (.tmp u)=some (.sc (.bool c)))(hcw:c=want)(hx:k6 n fr ws=some xs)(hc:Fn P f h xs v h')(k:OpsW P N ops l (aG n ((t,v)::fr)) h' K):OpsW P N ops (⟨some t,.call ⟨.value (.func f),ws.toArray,ts⟩,ty,pos,aft,some (j,want)⟩::l) (aG n fr) h K:=
 OpsW.cons (aNB hc) (svG hj hl hcw (aHZ hx aIE)) (by dsimp only;rw[aEk];exact k)
end
section
variable {P:Program}{h h':Hp}{t e:TypeId}{ti:TI}{B:Blk}{i off:Nat}{v x:V}{cs:List V}
theorem tE (ht:aJ P t=some ti)(hd:b4 ti.desc=false)(hc:cs.head? =some v):gT P t cs=some v:=by simp[gT,ht,hd,hc]
theorem nJ (ht:aJ P t=some ti)(hd:b4 ti.desc=true){ds:List V}(hl:ti.size≤cs.length)(hc:cs.take ti.size=ds):gT P t cs=some (.agg ds):=by simp[gT,ht,hd,hl,hc]
theorem ldP (hb:h[i]? =some (some ⟨e,cs⟩))(hp:gT P t (cs.drop off)=some v):eR P t h (.ptr i off)=some v:=by simp[eR,hb,hp]
theorem ldE {α:Type}{E:α→V}{l:List α}{y:α}(hi:l[i]? =some y)(hp:gT P t ((E y).cells.drop off)=some v):eR P t h (.eptr (l.map E) i off)=some v:=by simp[eR,hi,hp]
theorem stP (ht:aJ P t=some ti)(hb:h[i]? =some (some ⟨e,cs⟩))(h1:x.flatOk=true)(h2:x.cells.length=ti.size)(h3:off+ti.size≤cs.length)(h4:h.set i (some ⟨e,splice cs off x.cells⟩)=h'):zX P t h (.ptr i off) x=some h':=by
 subst h4
 simp only[zX,ht,hb]
 rw[if_pos ⟨h1,h2,h3⟩]
theorem iM {fs:Array Field}{sz by_:Nat}{z:Value}{pl:Array (Nat×Nat)}{ps:List (Nat×V)}(ht:aJ P t=some ⟨.struct fs,sz,by_,z⟩)(hp:eG P t=some pl)(hf:pK (fun i=>pl[i]?) (z.cells.toList.map dY) ps=some cs):uI P t ps=some (.agg cs):=by
 simp only[uI,ht,hp]
 rw[hf];rfl
theorem aHf {m sz by_:Nat}{z:Value}{ps:List (Nat×V)}(ht:aJ P t=some ⟨.array m e,sz,by_,z⟩)(he:aJ P e=some ti)(hf:pK (fun i=>some (i*ti.size,ti.size)) (z.cells.toList.map dY) ps=some cs):uI P t ps=some (.agg cs):=by
 simp only[uI,ht,he]
 rw[hf];rfl
theorem aX3 {sz by_ len:Nat}{z:Value}{ps:List (Nat×V)}{ag:Bool}(ht:aJ P t=some ⟨.slice e,sz,by_,z⟩)(he:aJ P e=some ti)(h1:len*ti.size≤2^24∧0<len∧0<ti.size)(hag:b4 ti.desc=ag)
  (hf:pK (fun i=>some (i*ti.size,ti.size)) (((Array.range (len*ti.size)).map (ti.zero.cells[· % ti.zero.cells.size]!)).toList.map dY) ps=some cs) (h2:cs.all V.one=true∧cs.length=len*ti.size) (hl:h.length=i) (hh:h++[some ⟨e,cs⟩]=h'):
  gB P t len ps h=some (.sl i 0 len ti.size ag,h'):=by
 subst hl hh hag
 simp only[gB,ht,he]
 rw[if_pos h1]
 simp only[hf]
 rw[if_pos h2]
end
section
variable {P:Program}{h h':Hp}{t e:TypeId}{ti:TI}{i off b:Nat}{v:V}{α:Type}{E:α→V}{l m:List α}{y:α}{k:IntKind}{j:Int}{nl:Option Bool}{sz by_:Nat}{z:Value}{ag:Bool}
theorem jF (hx:aZ l j=some y):0≤j∧j<l.length∧l[j.toNat]? =some y:=by
 unfold aZ at hx
 split at hx
 ·have:=(a0F.1 hx).1
  exact⟨by assumption,by omega,hx⟩
 cases hx
theorem iaR (ht:aJ P t=some ⟨.slice e,sz,by_,z⟩)(he:aJ P e=some ti)(hx:aZ l j=some y):g6 P t (.row nl ti.size (l.map E)) (.sc (.int k j))=some (.eptr (l.map E) j.toNat 0):=by
 obtain⟨h1,h2,_⟩:=jF hx
 simp[g6,ht,pL,he,h1,h2]
theorem iaS {q:Nat}(hn:l.length=q)(ht:aJ P t=some ⟨.slice e,sz,by_,z⟩)(he:aJ P e=some ti)(h1:ti.size=1)(hx:aZ l j=some y):g6 P t (.sl b 0 q 1 ag) (.sc (.int k j))=some (.ptr b j.toNat):=by
 obtain⟨h2,h3,_⟩:=jF hx
 subst hn
 simp[g6,ht,pL,he,h1,h2,h3]
theorem ldX (ht:aJ P t=some ti)(hd:b4 ti.desc=false)(hb:h[b]? =some (some ⟨e,l.map E⟩))(hx:aZ l j=some y):eR P t h (.ptr b j.toNat)=some (E y):=by
 obtain⟨_,_,h3⟩:=jF hx
 simp[eR,hb,gT,ht,hd,h3]
theorem ldR (hx:aZ l j=some y)(hp:gT P t ((E y).cells.drop off)=some v):eR P t h (.eptr (l.map E) j.toNat off)=some v:=ldE (jF hx).2.2 hp
theorem aNk (i:Nat)(hi:i<l.length)(y:α):splice (l.map E) i [E y]=(l.set i y).map E:=by
 rw[List.map_set]
 unfold splice
 apply a1r
 intro m
 rw[List.getElem?_set]
 by_cases hm:i=m
 ·subst hm
  simp[List.getElem?_append,hi,a1p (Nat.le_of_lt hi)]
 rcases a08 m i with h1|h1
 ·rw[a0G (by simp;omega),a0G (by simp;omega)]
  simp[hm,h1]
 rw[a0M (by simp;omega)]
 simp only[a02,a04,a0Z,a05,a1x,a1B,hm,if_false]
 congr 1;omega
theorem aZX {w:α}(ht:aJ P t=some ti)(hs:ti.size=1)(hb:h[b]? =some (some ⟨e,l.map E⟩))(hx:aZ l j=some w)(ho:(E y).one=true)(hc:(E y).cells=[E y])(hh:h.set b (some ⟨e,(l.set j.toNat y).map E⟩)=h'):zX P t h (.ptr b j.toNat) (E y)=some h':=by
 obtain⟨_,h2,h3⟩:=jF hx
 have h4:=(a0F.1 h3).1
 subst hh
 simp only[zX,ht,hb]
 rw[if_pos ⟨by simp[V.flatOk,hc,ho],by simp[hc,hs],by rw[hs];simp;omega⟩,hc,aNk _ h4]
theorem aKP : ∀ns:List Int,tM (ns.map (eI .u8))=some ns
 | []=>rfl
 |n::ns=>by simp only[a06,eI,tM];rw[show tM (List.map (fun x=>V.sc (Value.int IntKind.u8 x)) ns)=some ns from aKP ns];rfl
theorem aK4 {a b':TypeId}{ns:List Int}{x:V}{sz1 by1 sz2 by2 sz3 by3 q:Nat}{z1 z2 z3:Value}(ha:aJ P a=some ⟨.slice e,sz1,by1,z1⟩)(hb:aJ P b'=some ⟨.string,sz2,by2,z2⟩)(he:aJ P e=some ⟨.int .u8,sz3,by3,z3⟩)(hs:fF h 1 x=some (ns.map (eI .u8),q)):aBA P h a b' x=some (.sc (.string (iG ns))):=by
 simp only[aBA,qW,ha,hb,he,hs,aKP,a0N]
theorem a0g (ht:aJ P t=some ⟨.slice e,sz,by_,z⟩){k:Nat}:aEn P t (.row nl k (l.map E))=some (.sc (.int .i64 l.length)):=by simp[aEn,ht]
theorem a0y (ht:aJ P t=some ⟨.slice e,sz,by_,z⟩){k m:Nat}:aEn P t (.sl b off m k ag)=some (.sc (.int .i64 m)):=by simp[aEn,ht]
theorem aZ4 (ht:aJ P t=some ⟨.string,sz,by_,z⟩){s:ByteArray}:aEn P t (.sc (.string s))=some (.sc (.int .i64 s.size)):=by simp[aEn,ht]
theorem d8 {q:Nat}(hn:l.length=q)(ht:aJ P t=some ⟨.slice e,sz,by_,z⟩)(he:aJ P e=some ti)(h1:ti.zero.cells.size=1∧ti.size=1∧1≤ti.bytes)(hb:h[b]? =some (some ⟨e,l.map E⟩)){s:V}(hs:fF h 1 s=some (m.map E,m.length))
  {r:List α} (ha:b5 ti.bytes l m=some r) (hl:h.length=i) (hh:h.set b none++[some ⟨e,r.map E⟩]=h'):gR P t t (.sl b 0 q 1 ag) s h=some (.sl i 0 r.length 1 ag,h'):=by
 obtain⟨h2,h3,h4⟩:=h1
 subst hn
 unfold b5 at ha
 split at ha
 ·rename_i hlim
  injection ha with ha
  subst ha hl hh
  have hx:fF h ti.size s=some (m.map E,m.length):=by rw[h3];exact hs
  simp only[gR,ne_eq,not_true,if_false,ht,he]
  rw[if_pos ⟨by rw[h2,h3],by omega,h4⟩]
  simp only[hx,hb]
  rw[if_pos ⟨h3.symm,trivial,by simp,hlim⟩]
  simp[a0J]
 cases ha
theorem a0l (ht:aJ P t=some ⟨.slice e,sz,by_,z⟩)(he:aJ P e=some ti)(h1:ti.zero.cells.size=1∧ti.size=1∧1≤ti.bytes){s:V}(hs:fF h 1 s=some (m.map E,m.length))(hag:b4 ti.desc=ag){kk:Nat}
  {r:List α} (ha:b5 ti.bytes [] m=some r) (hl:h.length+1=i) (hh:h++[none]++[some ⟨e,r.map E⟩]=h'):gR P t t (.row (some true) kk []) s h=some (.sl i 0 r.length 1 ag,h'):=by
 obtain⟨h2,h3,h4⟩:=h1
 unfold b5 at ha
 split at ha
 ·rename_i hlim
  injection ha with ha
  subst ha hl hh hag
  have hx:fF h ti.size s=some (m.map E,m.length):=by rw[h3];exact hs
  simp only[gR,ne_eq,not_true,if_false,ht,he]
  rw[if_pos ⟨by rw[h2,h3],by omega,h4⟩]
  simp only[hx]
  rw[if_pos (by simpa using hlim)]
  simp[h3]
 cases ha
theorem aXx (ht:aJ P t=some ⟨.slice e,sz,by_,z⟩)(he:aJ P e=some ti)(h1:ti.zero.cells.size=1∧ti.size=1∧1≤ti.bytes)(hE: ∀x,(E x).cells=[E x]){s:V}(hs:fF h 1 s=some (m.map E,m.length))(hm:0<m.length)(hag:b4 ti.desc=ag)
  {r:List α} (ha:b5 ti.bytes l m=some r) (hl:h.length=i) (hh:h++[some ⟨e,r.map E⟩]=h'):gR P t t (.row (some false) 1 (l.map E)) s h=some (.sl i 0 r.length 1 ag,h'):=by
 obtain⟨h2,h3,h4⟩:=h1
 have hf:(l.map E).flatMap V.cells=l.map E:=by
  clear ha
  induction l with
  |nil=>rfl
  |cons x l ih=>simp only[a06,a0R,hE,ih];rfl
 unfold b5 at ha
 split at ha
 ·rename_i hlim
  injection ha with ha
  subst ha hl hh hag
  have hx:fF h ti.size s=some (m.map E,m.length):=by rw[h3];exact hs
  simp only[gR,ne_eq,not_true,if_false,ht,he]
  rw[if_pos ⟨by rw[h2,h3],by omega,h4⟩]
  simp only[hx]
  rw[if_pos ⟨.inr h3.symm,hm,by simpa using hlim⟩]
  simp[h3,hf]
 cases ha
theorem aHs (hE: ∀x,(E x).cells=[E x]):fF h 1 (.row nl 1 (m.map E))=some (m.map E,m.length):=by
 have:(m.map E).flatMap V.cells=m.map E:=by
  induction m with
  |nil=>rfl
  |cons x m ih=>simp only[a06,a0R,hE,ih];rfl
 simp only[fF]
 rw[if_pos (.inl trivial),this];simp
theorem aYV {q:Nat}(hn:m.length=q)(hb:h[b]? =some (some ⟨e,m.map E⟩)):fF h 1 (.sl b 0 q 1 ag)=some (m.map E,m.length):=by
 subst hn
 simp only[fF,hb]
 rw[if_pos ⟨trivial,by simp⟩];simp[a0J]
theorem a0o {kk:Nat}:fF h 1 (.row nl kk [])=some (([]:List α).map E,([]:List α).length):=by simp[fF]
theorem mkS {k1 k2:IntKind}{y:α}(ht:aJ P t=some ⟨.slice e,sz,by_,z⟩)(he:aJ P e=some ti)(h1:1≤ti.bytes∧ti.size=1∧ti.zero.cells.size=1)(hz:ti.zero.cells.toList.map (V.soft∘dY)=[E y])(ho:(E y).one=true)(hag:b4 ti.desc=ag){r:List α}
  (hm:mks ti.bytes y j=some r) (hl:h.length=i) (hh:h++[some ⟨e,r.map E⟩]=h'):aCi P t (.sc (.int k1 j)) (.sc (.int k2 j)) h=some (.sl i 0 r.length 1 ag,h'):=by
 obtain⟨h2,h3,h4⟩:=h1
 unfold mks at hm
 split at hm
 ·rename_i hlim
  injection hm with hm
  subst hm hl hh hag
  simp only[aCi,ht,he]
  rw[if_pos ⟨hlim.1,a1z _,hlim.2,h2,by omega,by rw[h4,h3],by rw[hz];simp[ho]⟩,hz]
  simp only[h3,ite_self]
  have: ∀n,(a1h n [E y]).flatten=(a1h n y).map E:=fun n=>by
   induction n with
   |zero=>rfl
   |succ n ih=>simp only[a1Q,a1X,ih,a06];rfl
  rw[this];simp
 cases hm
theorem aU7 {q:Nat}{e2:TypeId}(hn:l.length=q)(ht:aJ P t=some ⟨.slice e,sz,by_,z⟩)(he:aJ P e=some ti)(h1:ti.size=1)(hb:h[b]? =some (some ⟨e2,l.map E⟩)){s:V}(hs:fF h 1 s=some (m.map E,m.length))(hh:h.set b (some ⟨e2,(cpy l m).map E⟩)=h'):
  aLb P t (.sl b 0 q 1 ag) s h=some (.sc (.int .i64 (min m.length l.length:Nat)),h'):=by
 subst hh hn
 simp only[aLb,ht,he,h1,hs,hb]
 rw[if_pos ⟨trivial,by omega,by simp⟩]
 simp only[a0I,a0V,true_and]
 congr 3
 unfold splice cpy
 simp only[List.map_append,a1o,a1U,a1O,a1I,a1J,Nat.mul_one,a04,a0Z]
 congr 1
 ·rw[Nat.min_comm,←List.take_take,a0J (i:=m.length) (by simp)]
 rcases a1Z m.length l.length with hle|hle
 ·congr 1;omega
 rw[a0X (by simp;omega),a0X (by simp;omega)]
theorem slR (ht:aJ P t=some ⟨.slice e,sz,by_,z⟩)(he:aJ P e=some ti){lo hi:Option V}{a c:Int}{r:List α}(h1:lW lo=some a)(h2:vB hi l.length=some c)(hs:sub l a c=some r):iI P t h (.row nl ti.size (l.map E)) lo hi=some (.row (nlS nl) ti.size (r.map E)):=by
 unfold sub at hs
 split at hs
 ·rename_i hc
  injection hs with hs
  subst hs
  have h2':vB hi (l.map E).length=some c:=by simpa using h2
  simp only[iI,ht,he,h1,h2']
  rw[if_pos ⟨trivial,hc.1,hc.2.1,by simpa using hc.2.2⟩]
  simp[a1o,a1U]
 cases hs
end
section
variable {P:Program}{t e:TypeId}{ti:TI}{sz by_:Nat}{z:Value}{α:Type}{E:α→V}{l:List α}{nl:Option Bool}
theorem slM (ht:aJ P t=some ⟨.slice e,sz,by_,z⟩)(he:aJ P e=some ti){lo:Option V}{a c:Int}{k1 k2:IntKind}{r:List α}(h1:lW lo=some a)(hs:sub l a c=some r):yH P t (.row nl ti.size (l.map E)) lo (.sc (.int k1 c)) (.sc (.int k2 c))=some (.row (some false) ti.size (r.map E)):=by
 unfold sub at hs
 split at hs
 ·rename_i hc
  injection hs with hs
  subst hs
  simp only[yH,ht,h1,pL,he]
  rw[if_pos ⟨trivial,hc.1,hc.2.1,trivial,by simpa using hc.2.2⟩]
  simp[a1o,a1U]
 cases hs
end
section
variable (P:Program)(t:TypeId)(xo yo:Operand)
theorem aVi {k:IntKind}{a b r:Int}(h:quo k a b=some r):c9 P .quo t xo yo (.sc (.int k a)) (.sc (.int k b))=some (.sc (.int k r)):=by
 rw[aXf];unfold quo at h;split at h
 ·cases h
 rename_i hb;injection h with h;rw[if_neg hb,h]
theorem aU4 {k:IntKind}{a b r:Int}(h:rem a b=some r):c9 P .rem t xo yo (.sc (.int k a)) (.sc (.int k b))=some (.sc (.int k r)):=by
 rw[aWm];unfold rem at h;split at h
 ·cases h
 rename_i hb;injection h with h;rw[if_neg hb,h]
theorem aUu {k k':IntKind}{a b r:Int}(h:shl k a b=some r):c9 P .shl t xo yo (.sc (.int k a)) (.sc (.int k' b))=some (.sc (.int k r)):=by
 rw[aW2];unfold shl at h;split at h
 ·cases h
 rename_i hb;injection h with h;rw[if_neg hb,h]
theorem aUy {k k':IntKind}{a b r:Int}(h:shr k a b=some r):c9 P .shr t xo yo (.sc (.int k a)) (.sc (.int k' b))=some (.sc (.int k r)):=by
 rw[aWS];unfold shr at h;split at h
 ·cases h
 rename_i hb;injection h with h;rw[if_neg hb,h]
end
section
variable {P:Program}{N n:Nat}{Q:Ex→List V→Hp→Prop}{s:List V}{h h':Hp}{fr:List (Nat×V)}
theorem AB.cnd {c:Operand}{x y:Code}{t:Bool}(hc:bS n fr c=some (.sc (.bool t)))(h1:t=true→AB P N x Q (aG n fr) h)(h2:t=false→AB P N y Q (aG n fr) h):AB P N (.cond c x y) Q (aG n fr) h:=AB.cond (cO hc) h1 h2
def num :Nat→List V→List (Nat×V)
 |_,[]=>[]
 |i,x::xs=>(i,x)::num (i+1) xs
theorem aPO : ∀{xs:List V}{i t:Nat}{y:V},eP (num i xs) t=some y→i≤t∧xs[t-i]? =some y
 | [],i,t,y,hy=>by cases hy
 |x::xs,i,t,y,hy=>by
  simp only[num,eP]at hy
  cases hb:a1y i t with
  |true=>
   rw[hb]at hy
   have:=a01 hb
   subst this
   simp only[cond_true,a0I]at hy
   subst hy
   simp
  |false=>
   rw[hb]at hy
   obtain⟨h1,h2⟩:=aPO (xs:=xs) (i:=i+1) hy
   refine⟨by omega, ?_⟩
   rw[show t-i=(t-(i+1))+1 by omega]
   simpa using h2
def zN (P:Program)(fn:Func)(N:Nat)(r:V)(h':Hp):Ex→List V→Hp→Prop:=fun x s h=>(∀id,x≠ .exit id)∧ ∃r1,aBz P fn s h=some r1∧Ghost N (aG 1 [(0,r1)]) h (aG 1 [(0,r)]) h'
theorem aSF {f:FuncId} {fn:Func} {c:Code} {args:List V} {r:V} (hf:P.funcs[f]? =some fn) (hb:fn.body=some c) (hn:(fn.name == "runtime.NumGoroutine")=false) (hnt:fn.ntmps=n) (hal:args.length≤n) (hN:h.length=N) (hfr:num 0 args=fr)
  (hh:AB P N c (zN P fn N r h') (aG n fr) h):Fn P f h args r h':=by
 intro A M w vs H hargs
 refine .inl ⟨aKy hf (by rw[hb];rfl) hn _ _,calls_of_wp hf hb ?_⟩
 have R0:=aTu (fn:=fn) H hargs
 have R1:Rel A M (aG n fr) h {tmps:=vs.toArray++Array.replicate (fn.ntmps-vs.toArray.size) undef,defers:=[]} w:=by
  refine⟨R0.hr,⟨?_,fun t x hx=> ?_⟩,R0.defers⟩
  ·rw[nU,←R0.sr.len]
   simp[aJ5,hnt];omega
  have ht:t<n:=by have:=(List.getElem?_eq_some_iff.1 hx).1;rw[nU]at this;exact this
  rw[yN ht]at hx
  injection hx with hx
  cases hl:eP fr t with
  |none=>rw[hl]at hx;subst hx;unfold VR;trivial
  |some z=>
   rw[hl]at hx
   subst hx hfr
   obtain⟨_,h2⟩:=aPO hl
   refine R0.sr.val t z ?_
   unfold aJ5
   rw[List.getElem?_append_left (by have:=(List.getElem?_eq_some_iff.1 h2).1;omega)]
   simpa using h2
 refine Code.wp_mono (fun e a' w' ⟨x,s1,h1,M1,he,⟨hx,r1,hres,hg⟩,G,R2⟩=> ?_) (hh A M M h w _ w hN (by rw[H.len];exact hN) (Grow.refl H) R1)
 subst he
 obtain⟨t,ht⟩:=G.pre
 have hMN:M.length=N:=by rw[H.len];exact hN
 obtain⟨v,hv,hr⟩:=aSp R2 hres
 have Rv:Rel A M1 (aG 1 [(0,r1)]) h1 {tmps:= #[v],defers:=[]} w':=⟨R2.hr,⟨rfl,fun t x hx=>by
  cases t with
  |zero=>simp[aG,eP]at hx;subst hx;exact hr
  |succ t=>rw[List.getElem?_eq_none (by rw[nU];omega)]at hx;cases hx⟩,rfl⟩
 obtain⟨M',e1,R3,l3⟩:=hg A M1 _ w' (by rw[←ht];simp[hMN]) Rv
 have hr':VR (Xs A M' h') M' w' r v:=R3.sr.val 0 r rfl
 have G':Grow A M h w M' h' w':=⟨by
  have:M=M'.take N:=by rw[e1,←ht,←hMN];simp
  rw[this]
  exact List.take_prefix _ _,R3.hr,G.ext,fun g hg hl=>G.live g hg (l3 g hl)⟩
 cases x with
 |normal=>exact⟨R2.defers,v,hv,v,rfl,M',G',hr'⟩
 |ret=>exact⟨R2.defers,v,hv,v,rfl,M',G',hr'⟩
 |exit id=>exact absurd rfl (hx id)
theorem aCL {fn:Func}{r r1:V}(hr:aBz P fn s h=some r1)(hg:Ghost N (aG 1 [(0,r1)]) h (aG 1 [(0,r)]) h'):zN P fn N r h' .ret s h:=⟨fun id hh=>(by cases hh),r1,hr,hg⟩
theorem aN3 {fn:Func}{r r1:V}(hr:aBz P fn s h=some r1)(hg:Ghost N (aG 1 [(0,r1)]) h (aG 1 [(0,r)]) h'):zN P fn N r h' .normal s h:=⟨fun id hh=>(by cases hh),r1,hr,hg⟩
variable {fn:Func}
theorem rvT {t:Nat}{x:V}(hx:bS n fr (.tmp t)=some x):iK P (aG n fr) h (.tmp t)=some x:=cO hx
theorem rvC {t:Nat}{ty:TypeId}{v:V}{i o:Nat}(hx:bS n fr (.tmp t)=some (.ptr i o))(hv:eR P ty h (.ptr i o)=some v):iK P (aG n fr) h (.cell t ty)=some v:=by
 have:=cO hx
 simp only[ev]at this
 simp[iK,this,qP,hv]
theorem aXE (hr:fn.results= #[]):aBz P fn s h=some (.tup []):=by simp[aBz,hr]
theorem aNq {a:ResultVar}{x:V}(hr:fn.results= #[a])(h1:iK P s h a=some x):aBz P fn s h=some x:=by simp[aBz,hr,h1]
theorem cM {a b:ResultVar}{x y:V}(hr:fn.results= #[a,b])(h1:iK P s h a=some x)(h2:iK P s h b=some y):aBz P fn s h=some (.tup [x,y]):=by simp[aBz,hr,h1,h2]
theorem aBK {a b c:ResultVar}{x y z:V}(hr:fn.results= #[a,b,c])(h1:iK P s h a=some x)(h2:iK P s h b=some y)(h3:iK P s h c=some z):aBz P fn s h=some (.tup [x,y,z]):=by simp[aBz,hr,h1,h2,h3]
end
theorem pX {α:Type}{E:α→V}{f:Nat→Nat}(hE: ∀x,(E x).rn f=E x): ∀l:List α,V.rns f (l.map E)=l.map E
 | []=>rfl
 |x::l=>by simp[V.rns,hE,pX hE l]
theorem aLf {α:Type}{E:α→V}{f:Nat→Nat}{vn:Nat→Bool}(hE: ∀x,(E x).rn f=E x)(l:List α):V.les vn (l.map E) (V.rns f (l.map E)):=by rw[pX hE];exact V.les_refl _ _
theorem V.le_agg {vn:Nat→Bool}{cs ds:List V}(h:V.les vn cs ds):V.le vn (.agg cs) (.agg ds):=by unfold V.le;exact h
theorem V.le_tup {vn:Nat→Bool}{cs ds:List V}(h:V.les vn cs ds):V.le vn (.tup cs) (.tup ds):=by unfold V.le;exact h
theorem V.les_nil {vn:Nat→Bool}:V.les vn [] []:=by unfold V.les;trivial
theorem V.les_cons {vn:Nat→Bool}{c d:V}{cs ds:List V}(h:V.le vn c d)(k:V.les vn cs ds):V.les vn (c::cs) (d::ds):=by unfold V.les;exact⟨h,k⟩
theorem bO {α:Type}(l:List α)(i:Nat)(x:α):(l.set i x).length=l.length:=a17
theorem bP {α:Type}(l m:List α):(cpy l m).length=l.length:=by simp[cpy];omega
section
variable {P:Program}{N n:Nat}{Q:Ex→List V→Hp→Prop}{h:Hp}{fr:List (Nat×V)}
theorem AB.cndT {c:Operand}{x y:Code}{t:Bool}(hc:bS n fr c=some (.sc (.bool t)))(ht:t=true)(h1:AB P N x Q (aG n fr) h):AB P N (.cond c x y) Q (aG n fr) h:=AB.cnd hc (fun _=>h1) (fun hf=>by rw[ht]at hf;cases hf)
theorem AB.cndF {c:Operand}{x y:Code}{t:Bool}(hc:bS n fr c=some (.sc (.bool t)))(ht:t=false)(h1:AB P N y Q (aG n fr) h):AB P N (.cond c x y) Q (aG n fr) h:=AB.cnd hc (fun hf=>by rw[ht]at hf;cases hf) (fun _=>h1)
end
section
variable {P:Program}{f:FuncId}{h hb hb' hs hs':Hp}{xs args:List V}{r v:V}
theorem aLz (h o:Hp):jO h [] o=h:=by cases h<;>cases o<;>rfl
theorem Fn.pure (hc:Fn P f [] xs r [])(hx:V.rns (sg [] h.length) xs=xs)(hr:r.rn (sg [] h.length)=r):Fn P f h xs r h:=by
 have:=Fn.frame (hb:=h) hc [] rfl (by simp) (by simp) (fun i b hi=>by simp at hi)
 rw[hx,hr]at this
 simpa[pS,aLz,rnH]using this
def Lend (σ:Nat→Nat)(hb:Hp):List Nat→Hp→Prop
 | [],[]=>True
 |b::ρ,none::hs=>hb[b]? =some none∧Lend σ hb ρ hs
 |b::ρ,some B::hs=>(∃cs,hb[b]? =some (some ⟨B.e,cs⟩)∧V.rns σ B.cells=cs)∧Lend σ hb ρ hs
 |_,_=>False
theorem Lend.nil {σ:Nat→Nat}:Lend σ hb [] []:=trivial
theorem Lend.cons {σ:Nat→Nat}{b:Nat}{ρ:List Nat}{e:TypeId}{cs ds:List V}(h1:hb[b]? =some (some ⟨e,ds⟩))(h2:V.rns σ cs=ds)(k:Lend σ hb ρ hs):Lend σ hb (b::ρ) (some ⟨e,cs⟩::hs):=⟨⟨ds,h1,h2⟩,k⟩
theorem Lend.len {σ:Nat→Nat}: ∀{ρ:List Nat}{hs:Hp},Lend σ hb ρ hs→ρ.length=hs.length
 | [],[],_=>rfl
 |_::ρ,none::hs,hh=>by simp[Lend.len (ρ:=ρ) hh.2]
 |_::ρ,some B::hs,hh=>by simp[Lend.len (ρ:=ρ) hh.2]
 | [],_::_,hh=>hh.elim
 |_::_,[],hh=>hh.elim
theorem Lend.get {σ:Nat→Nat}: ∀{ρ:List Nat}{hs:Hp},Lend σ hb ρ hs→ ∀(i b:Nat),ρ[i]? =some b→hb[b]? =(rnH σ hs)[i]?
 | [],[],_,i,b,hi=>by simp at hi
 |c::ρ,none::hs,hh,0,b,hi=>by simp at hi;subst hi;simpa[rnH]using hh.1
 |c::ρ,none::hs,hh,i+1,b,hi=>by
  have:=Lend.get hh.2 i b (by simpa using hi)
  simpa[rnH]using this
 |c::ρ,some B::hs,hh,0,b,hi=>by
  simp at hi;subst hi
  obtain⟨cs,h1,h2⟩:=hh.1
  rw[h1,←h2];simp[rnH,Blk.rn]
 |c::ρ,some B::hs,hh,i+1,b,hi=>by
  have:=Lend.get hh.2 i b (by simpa using hi)
  simpa[rnH]using this
 | [],_::_,hh,_,_,_=>hh.elim
 |_::_,[],hh,_,_,_=>hh.elim
theorem Fn.lendB (hc:Fn P f hs args r hs')(ρ:List Nat)(hnd:ρ.Nodup)(hlt:ρ.all (fun b=>a2d b hb.length)=true)(hl:Lend (sg ρ hb.length) hb ρ hs)(hx:V.rns (sg ρ hb.length) args=xs)(hr:r.rn (sg ρ hb.length)=v)(hh:pS hb ρ hs'=hb'):Fn P f hb xs v hb':=by
 have:=Fn.frame (hb:=hb) hc ρ hl.len hnd (fun b hb'=>by
  have h2:=a0K.1 hlt b hb'
  exact a1j (n:=b+1) h2) hl.get
 rw[hx,hr,hh]at this
 exact this
theorem aTA {X:Nat→Prop}{M:List (Option Nat)}{w:World}{vs:List Value}(hl:V.les y8 xs args)(hv:VCells X M w xs vs):VCells X M w args vs:=V.les_sound (fun _ hb=>by cases hb) _ _ _ hl hv
theorem Fn.argsLe (hc:Fn P f h args r hb)(hl:V.les y8 xs args):Fn P f h xs r hb:=fun A M w vs H hv=>hc A M w vs H (aTA hl hv)
theorem Fn.virt {e:TypeId}(hc:Fn P f (h++[some ⟨e,[]⟩]) args r hb)(hl:V.les (fun b=>a1y b h.length) xs args):Fn P f h xs r hb:=by
 intro A M w vs H hv
 have G:=Grow.virt H e
 have hM:=H.len
 have hvn: ∀b,a1y b h.length=true→(M++[none])[b]? =some none:=fun b hb=>by
  have:=a01 hb
  subst this
  rw[←hM];simp
 have hv':VCells (Xs A (M++[none]) (h++[some ⟨e,[]⟩])) (M++[none]) w args vs:=V.les_sound hvn _ _ _ hl (VCells.mk hv.len (fun i c v hc hv'=>by
  obtain⟨u,hu,hr⟩:=hv.get hc
  rw[hv']at hu;injection hu with hu;subst hu
  exact G.keep hr))
 exact(hc A _ w vs G.hr hv').mono fun v w' ⟨M',G',hr⟩=>⟨M',G.trans G',hr⟩
end
@[simp] theorem aAb {f:Nat→Nat}{k:IntKind}(l:List Int):V.rns f (l.map (eI k))=l.map (eI k):=pX (fun _=>rfl) l
@[simp] theorem aAa {f:Nat→Nat}(l:List Bool):V.rns f (l.map eB)=l.map eB:=pX (fun _=>rfl) l
@[simp] theorem aXH {f:Nat→Nat}(l:List ByteArray):V.rns f (l.map eS)=l.map eS:=pX (fun _=>rfl) l
@[simp] theorem aYj {α:Type}{f:Nat→Nat}{K:Nat}{E:α→V}(l:List (List α)):V.rns f (l.map (eL K E))=l.map (eL K E):=pX (fun _=>rfl) l
theorem all_map {α:Type}{E:α→V}(hE: ∀x,(E x).one=true)(l:List α):(l.map E).all V.one=true:=by simp[a0K,hE]
mutual
def V.rf :V→Bool
 | .sc _=>true
 | .row _ _ es=>es.isEmpty
 | .ptr _ _=>true
 | .mp _=>true
 | .sl _ _ _ _ _=>true
 | .agg cs=>V.rfs cs
 | .tup cs=>V.rfs cs
 | .eptr _ _ _=>false
 | .any=>true
def V.rfs :List V→Bool
 | []=>true
 |c::cs=>c.rf&&V.rfs cs
end
section
variable {X X':Nat→Prop}{M:List (Option Nat)}{w:World}
mutual
theorem VR.rf : ∀(x:V)(v:Value),x.rf=true→VR X M w x v→VR X' M w x v
 | .sc _,v,_,h=>by unfold VR at h ⊢; exact h
 | .any,v,_,_=>by unfold VR;trivial
 | .row nil k es,v,hr,h=>by
  unfold V.rf at hr
  have:es=[]:=by simpa using hr
  subst this
  unfold VR at h⊢
  obtain⟨a,cap,h1,h2,h3,h4,h5,h6⟩:=h
  exact⟨a,cap,h1,h2,h3,h4,h5,fun hne=>absurd rfl hne⟩
 | .ptr _ _,v,_,h=>by unfold VR at h ⊢; exact h
 | .mp _,v,_,h=>by unfold VR at h ⊢; exact h
 | .sl _ _ _ _ _,v,_,h=>by unfold VR at h ⊢; exact h
 | .agg cs,v,hr,h=>by
  unfold V.rf at hr
  unfold VR at h⊢
  obtain⟨vs,h1,h2⟩:=h
  exact⟨vs,h1,VCells.rf cs vs hr h2⟩
 | .tup cs,v,hr,h=>by
  unfold V.rf at hr
  unfold VR at h⊢
  obtain⟨vs,h1,h2⟩:=h
  exact⟨vs,h1,VCells.rf cs vs hr h2⟩
 | .eptr _ _ _,v,hr,_=>by unfold V.rf at hr;cases hr
theorem VCells.rf : ∀(cs:List V)(vs:List Value),V.rfs cs=true→VCells X M w cs vs→VCells X' M w cs vs
 | [],vs,_,h=>by unfold VCells at h ⊢; exact h
 |c::cs,vs,hr,h=>by
  unfold V.rfs at hr
  simp only[a0U]at hr
  unfold VCells at h⊢
  obtain⟨v,rest,h1,h2,h3⟩:=h
  exact⟨v,rest,h1,VR.rf c v hr.1 h2,VCells.rf cs rest hr.2 h3⟩
end
end
theorem aFk {α:Type}{E:α→V}(hE: ∀x,(E x).rf=true): ∀l:List α,V.rfs (l.map E)=true
 | []=>by simp[V.rfs]
 |x::l=>by simp[V.rfs,hE,aFk hE l]
mutual
theorem V.rf_rn (f:Nat→Nat): ∀x:V,(x.rn f).rf=x.rf
 | .sc _=>by unfold V.rn;rfl
 | .any=>by unfold V.rn;rfl
 | .row _ _ _=>by unfold V.rn;rfl
 | .ptr _ _=>by unfold V.rn;rfl
 | .mp _=>by unfold V.rn;rfl
 | .sl _ _ _ _ _=>by unfold V.rn;rfl
 | .eptr _ _ _=>by unfold V.rn;rfl
 | .agg cs=>by unfold V.rn;simp only[V.rf];exact V.rfs_rn f cs
 | .tup cs=>by unfold V.rn;simp only[V.rf];exact V.rfs_rn f cs
theorem V.rfs_rn (f:Nat→Nat): ∀cs:List V,V.rfs (V.rns f cs)=V.rfs cs
 | []=>by unfold V.rns;rfl
 |c::cs=>by unfold V.rns;simp only[V.rfs];rw[V.rf_rn f c,V.rfs_rn f cs]
end
def aGs (β:List Nat):Nat→Hp→Hp
 |_,[]=>[]
 |i,o::h=>(bif β.elem i then o else none)::aGs β (i+1) h
def only (β:List Nat)(h:Hp):Hp:=aGs β 0 h
theorem aOU (β:List Nat): ∀(h:Hp)(i j:Nat),(aGs β i h)[j]? =(h[j]?).map fun o=>bif β.elem (i+j)then o else none
 | [],i,j=>by simp[aGs]
 |o::h,i,0=>by simp[aGs]
 |o::h,i,j+1=>by
  simp only[aGs,a0L]
  rw[aOU β h (i+1) j]
  simp[a1T,a1G 1 j]
theorem aDR {β:List Nat}{h:Hp}{j:Nat}{B:Blk}(hj:(only β h)[j]? =some (some B)):j∈β∧h[j]? =some (some B):=by
 unfold only at hj
 rw[aOU]at hj
 cases ho:h[j]? with
 |none=>rw[ho]at hj;cases hj
 |some o=>
  rw[ho]at hj
  simp only[a1J,a0N,a0I]at hj
  cases he:β.elem j with
  |false=>rw[he]at hj;cases hj
  |true=>rw[he]at hj;simp only[cond_true]at hj;subst hj;exact⟨List.elem_iff.1 he,rfl⟩
theorem aUj (β:List Nat)(h:Hp):(only β h).length=h.length:=by
 have: ∀(h:Hp)(i:Nat),(aGs β i h).length=h.length:=by
  intro h
  induction h with
  |nil=>intro i;rfl
  |cons o h ih=>intro i;simp[aGs,ih]
 exact this h 0
theorem HR.only {A A2:Nat→Prop}{M:List (Option Nat)}{h:Hp}{w:World}(H:HR A M h w)(β:List Nat)(h1: ∀g,A2 g→g<w.heap.size)(h2: ∀(b:Nat) (B:Blk) (g:Nat),b∈β→h[b]? =some (some B)→M[b]? =some (some g)→ ¬A2 g)
  (h3: ∀g,Xs A2 M (Vm.only β h) g→Xs A M h g):HR A2 M (Vm.only β h) w:=by
 refine⟨by rw[aUj];exact H.len,h1,fun b B hb=> ?_,fun b b' B B' g hb hb'=>H.inj b b' B B' g (aDR hb).2 (aDR hb').2,H.glob.avoid fun g _ hx=>h3 g hx⟩
 obtain⟨hm,hb'⟩:=aDR hb
 obtain⟨k0,hn|⟨g,cs,hg,hA,hh,hle,hcs⟩⟩:=H.blk b B hb'
 ·exact⟨k0,.inl hn⟩
 exact⟨k0,.inr ⟨g,cs,hg,h2 b B g hm hb' hg,hh,hle,hcs.avoid (fun g _ hx=>h3 g hx)⟩⟩
def Brw (σ:Nat→Nat)(hE:Hp):List V→List V→Prop
 | [],[]=>True
 |x::xs,y::ys=>(V.le y8 x (y.rn σ)∨ ∃z,wD hE x=some z∧V.le y8 z y)∧Brw σ hE xs ys
 |_,_=>False
theorem Brw.nil {σ:Nat→Nat}{hE:Hp}:Brw σ hE [] []:=trivial
theorem Brw.same {σ:Nat→Nat}{hE:Hp}{x y:V}{xs ys:List V}(h:y.rn σ=x)(k:Brw σ hE xs ys):Brw σ hE (x::xs) (y::ys):=⟨.inl (by rw[h];exact V.le_refl _ _),k⟩
theorem Brw.le {σ:Nat→Nat}{hE:Hp}{x y:V}{xs ys:List V}(h:V.le y8 x (y.rn σ))(k:Brw σ hE xs ys):Brw σ hE (x::xs) (y::ys):=⟨.inl h,k⟩
theorem Brw.row {σ:Nat→Nat}{hE:Hp}{x y:V}{xs ys:List V}(h:wD hE x=some y)(k:Brw σ hE xs ys):Brw σ hE (x::xs) (y::ys):=⟨.inr ⟨y,h,V.le_refl _ _⟩,k⟩
theorem aR9 {α:Type}{E:α→V}{F:V→Option V}(hE: ∀x,F (E x)=some (E x)): ∀l:List α,(l.map E).mapM F=some (l.map E)
 | []=>rfl
 |x::l=>by
  simp only[a06,a03,hE,a1b,a1f,aR9 hE l,a1n]
theorem aTF {α:Type}{E:α→V}{l:List α}{hE:Hp}{b q d:Nat}{e:TypeId}(hn:l.length=q)(hb:hE[b]? =some (some ⟨e,l.map E⟩))(hx: ∀x,dW hE d (E x)=some (E x)):dW hE (d+1) (.sl b 0 q 1 false)=some (.row none 1 (l.map E)):=by
 subst hn
 simp only[dW,hb]
 rw[if_pos ⟨by simp,by omega,.inr trivial⟩]
 simp only[a09,Nat.mul_one]
 rw[a0J (by simp),aR9 hx]
 simp[xI]
theorem aNs {α:Type}{E:α→V}{l:List α}{hE:Hp}{b q:Nat}{e:TypeId}(hn:l.length=q)(hb:hE[b]? =some (some ⟨e,l.map E⟩))(hx: ∀x,dW hE 3 (E x)=some (E x)):wD hE (.sl b 0 q 1 false)=some (.row none 1 (l.map E)):=aTF hn hb hx
theorem aXc {F:V→Option V}:([]:List V).mapM F=some []:=rfl
theorem aIQ {F:V→Option V}{c y:V}{cs ys:List V}(h:F c=some y)(k:cs.mapM F=some ys):(c::cs).mapM F=some (y::ys):=by simp[a03,h,k]
theorem aXj {hE:Hp}{cs ys:List V}(h:cs.mapM (dW hE 4)=some ys):wD hE (.agg cs)=some (.agg ys):=by simp[wD,h]
set_option maxHeartbeats 1000000 in
theorem Fn.borrow {P:Program}{f:FuncId}{hs hs' hb:Hp}{args xs:List V}{r:V}(hc:Fn P f hs args r hs')(ρ β:List Nat)(hlen:ρ.length=hs.length)(hnd:ρ.Nodup)(hlt: ∀b∈ρ,b<hb.length)(hdis: ∀b∈β,b∉ρ)
  (hlend: ∀i b:Nat,ρ[i]? =some b→hb[b]? =(rnH (sg ρ hb.length) hs)[i]?) (hx:Brw (sg ρ hb.length) (only β hb) xs args) (hrf:r.rf=true) (hrb: ∀(i:Nat)(B:Blk),hs'[i]? =some (some B)→V.rfs B.cells=true):
  Fn P f hb xs (r.rn (sg ρ hb.length)) (pS hb ρ hs'):=by
 intro A M w vs H hargs
 have hσ: ∀i b:Nat,ρ[i]? =some b→sg ρ hb.length i=b:=fun i b hi=>by simp[sg,hi]
 have hσ': ∀i,ρ.length≤i→sg ρ hb.length i=hb.length+(i-ρ.length):=fun i hi=>by simp[sg,hi]
 generalize hsg:sg ρ hb.length=σ at *
 let Ms:List (Option Nat):=ρ.map fun b=>(M[b]?).getD none
 have hMs: ∀i b:Nat,ρ[i]? =some b→Ms[i]? =M[b]? :=by
  intro i b hi
  have hb':b<M.length:=by rw[H.len];exact hlt b (a0Q hi)
  simp only[Ms,a00,hi,a0N]
  rw[a0H hb']
  rfl
 have hMslen:Ms.length=hs.length:=by simp[Ms,hlen]
 have hfrom: ∀b y,M[σ b]? =some y→Ms[b]? =some y:=by
  intro b y hy
  rcases a08 b ρ.length with hl|hl
  ·have hi:ρ[b]? =some ρ[b]:=a0H hl
   rw[hMs b _ hi,←hσ b _ hi];exact hy
  rw[hσ' b hl]at hy
  have:=(a0F.1 hy).1
  rw[H.len]at this;omega
 let A':Nat→Prop:=fun g=>A g∨ ∃b B,b∉ρ∧b∉β∧hb[b]? =some (some B)∧M[b]? =some (some g)
 have hin: ∀{i:Nat}{B:Blk},hs[i]? =some (some B)→ ∃b,ρ[i]? =some b∧hb[b]? =some (some (B.rn σ))∧Ms[i]? =M[b]? :=by
  intro i B hi
  have hl:i<ρ.length:=by rw[hlen];exact(a0F.1 hi).1
  have hr:ρ[i]? =some ρ[i]:=a0H hl
  refine⟨_,hr, ?_,hMs i _ hr⟩
  rw[hlend i _ hr,aNV,hi];rfl
 have hliveS: ∀g,cX Ms hs g→cX M hb g:=by
  rintro g ⟨i,B,hi,hm⟩
  obtain⟨b,_,hb1,hb2⟩:=hin hi
  exact⟨b,_,hb1,by rw[←hb2];exact hm⟩
 have hX1: ∀g,Xs A' Ms hs g→Xs A M hb g:=by
  rintro g ((ha|⟨b,B,_,_,hb1,hb2⟩)|hl)
  ·exact .inl ha
  ·exact .inr ⟨b,B,hb1,hb2⟩
  exact .inr (hliveS g hl)
 have hout: ∀{b:Nat}{B:Blk}{g:Nat},b∉ρ→hb[b]? =some (some B)→M[b]? =some (some g)→ ¬cX Ms hs g:=by
  rintro b B g hb0 hb1 hb2 ⟨i,C,hi,hm⟩
  obtain⟨c,hc0,hc1,hc2⟩:=hin hi
  have:=H.inj b c B _ g hb1 hc1 hb2 (by rw[←hc2];exact hm)
  subst this
  exact hb0 (a0Q hc0)
 have hA': ∀{b:Nat}{B:Blk}{g:Nat},b∈β→hb[b]? =some (some B)→M[b]? =some (some g)→ ¬A' g:=by
  rintro b B g hbβ hb1 hb2 (ha|⟨c,C,hc0,hc3,hc1,hc2⟩)
  ·obtain⟨_,⟨hn,_⟩|⟨g',cs,hg',hA,_⟩⟩:=H.blk b B hb1
   ·rw[hb2]at hn;cases hn
   rw[hb2]at hg';injection hg' with hg';injection hg' with hg';subst hg';exact hA ha
  have:=H.inj b c B C g hb1 hc1 hb2 hc2
  subst this;exact hc3 hbβ
 have HS:HR A' Ms hs w:=by
  refine⟨hMslen, ?_, ?_, ?_,H.glob.avoid fun g _ hx=>hX1 g hx⟩
  ·rintro g (ha|⟨b,B,_,_,hb1,hb2⟩)
   ·exact H.alt g ha
   exact H.lt (.inr ⟨b,B,hb1,hb2⟩)
  ·intro i B hi
   obtain⟨b,hb0,hb1,hb2⟩:=hin hi
   obtain⟨h1,h2⟩:=H.blk b _ hb1
   refine⟨V.one_rns h1, ?_⟩
   rcases h2 with⟨hn,hc0⟩|⟨g,cs,hg,hA,hh,hle,hcs⟩
   ·refine .inl ⟨by rw[hb2];exact hn, ?_⟩
    have:=congrArg a16 hc0
    simp only[Blk.rn,V.rns_length,a1x]at this
    exact a0O this
   refine .inr ⟨g,cs,by rw[hb2];exact hg, ?_,by simpa[Blk.rn,V.rns_length]using hh, ?_, ?_⟩
   ·rintro(ha|⟨c,C,hc0,_,hc1,hc2⟩)
    ·exact hA ha
    have:=H.inj b c _ C g hb1 hc1 hg hc2
    subst this
    exact hc0 (a0Q hb0)
   ·simpa[Blk.rn,V.rns_length]using hle
   have hcs':VCells (Xs A M hb) M w (V.rns σ B.cells) (cs.toList.take B.cells.length):=by simpa[Blk.rn,V.rns_length]using hcs
   exact(VCells.rn_from hfrom _ _ hcs').avoid (fun g _ hx=>hX1 g hx)
  intro i j B C g hi hj mi mj
  obtain⟨b,hb0,hb1,hb2⟩:=hin hi
  obtain⟨c,hc0,hc1,hc2⟩:=hin hj
  have:=H.inj b c _ _ g hb1 hc1 (by rw[←hb2];exact mi) (by rw[←hc2];exact mj)
  subst this
  have hil:=(a0F.1 hb0).1
  exact(a1W hil hnd).1 (hb0.trans hc0.symm)
 have HB:HR (Xs A' Ms hs) M (only β hb) w:=by
  refine H.only β (fun g hg=>HS.lt hg) ?_ ?_
  ·rintro b B g hbβ hb1 hb2 (ha|hl)
   ·exact hA' hbβ hb1 hb2 ha
   exact hout (hdis b hbβ) hb1 hb2 hl
  rintro g (hx|⟨b,B,hb1,hb2⟩)
  ·exact hX1 g hx
  exact .inr ⟨b,B,(aDR hb1).2,hb2⟩
 have hargsS:VCells (Xs A' Ms hs) Ms w args vs:=by
  have key: ∀(xs args:List V)(vs:List Value),Brw σ (only β hb) xs args→VCells (Xs A M hb) M w xs vs→VCells (Xs A' Ms hs) Ms w args vs:=by
   intro xs
   induction xs with
   |nil=>
    intro args vs hx hv
    cases args with
    |nil=>unfold VCells at hv ⊢; exact hv
    |cons=>exact hx.elim
   |cons x xs ih=>
    intro args vs hx hv
    cases args with
    |nil=>exact hx.elim
    |cons y ys=>
     unfold VCells at hv⊢
     obtain⟨v,rest,e1,e2,e3⟩:=hv
     refine⟨v,rest,e1, ?_,ih ys rest hx.2 e3⟩
     rcases hx.1 with hl|⟨z,hz,hl⟩
     ·exact(VR.rn_from hfrom _ _ (V.le_sound (fun _ hb=>by cases hb) _ _ _ hl e2)).avoid (fun g _ hx=>hX1 g hx)
     have e2':VR (Xs (Xs A' Ms hs) M (only β hb)) M w x v:=e2.avoid (fun g _ hx=>by
      rcases hx with hx|⟨b,B,hb1,hb2⟩
      ·exact hX1 g hx
      exact .inr ⟨b,B,(aDR hb1).2,hb2⟩)
     exact V.le_sound (fun _ hb=>by cases hb) _ _ _ hl (aGj HB e2' hz).lift
  exact key xs args vs hx hargs
 refine(hc A' Ms w vs HS hargsS).mono fun v w' ⟨Ms',G,hv⟩=> ?_
 obtain⟨Mn,rfl⟩:=G.pre
 have hMnlen:hs'.length=ρ.length+Mn.length:=by rw[←G.hr.len];simp[Ms]
 have hto: ∀b y,(Ms++Mn)[b]? =some y→(M++Mn)[σ b]? =some y:=by
  intro b y hy
  rcases a08 b ρ.length with hl|hl
  ·have hi:ρ[b]? =some ρ[b]:=a0H hl
   rw[a0G (by rw[hMslen,←hlen];exact hl),hMs b _ hi]at hy
   rw[hσ b _ hi,a0G (by rw[H.len];exact hlt _ (a0Q hi))]
   exact hy
  rw[a0M (by rw[hMslen,←hlen];exact hl),hMslen,←hlen]at hy
  rw[hσ' b hl,a0M (by rw[H.len];omega),H.len,show hb.length+(b-ρ.length)-hb.length=b-ρ.length by omega]
  exact hy
 have hlentlen:(jO hb ρ (rnH σ hs')).length=hb.length:=aC6 _ _ _
 have hrnlen:(rnH σ hs').length=hs'.length:=by simp[rnH]
 have hcase: ∀{b:Nat}{B:Blk},(pS hb ρ hs')[b]? =some (some B)→(b∉ρ∧hb[b]? =some (some B))∨ ∃i C,hs'[i]? =some (some C)∧b=σ i∧B=C.rn σ∧(M++Mn)[b]? =(Ms++Mn)[i]? :=by
  intro b B hb1
  unfold pS at hb1
  rw[hsg]at hb1
  rcases a08 b hb.length with hl|hl
  ·rw[a0G (by rw[hlentlen];exact hl)]at hb1
   by_cases hm:b∈ρ
   ·obtain⟨i,hi⟩:=a1t.1 hm
    rw[aIv hnd hlt (by rw[hrnlen];omega) hi]at hb1
    obtain⟨C,hC,hB⟩:=aGg hb1
    have hil:=(a0F.1 hi).1
    refine .inr ⟨i,C,hC,(hσ i b hi).symm,hB, ?_⟩
    rw[a0G (by rw[H.len];exact hl),a0G (by rw[hMslen,←hlen];exact hil),hMs i b hi]
   rw[aDp hm]at hb1
   exact .inl ⟨hm,hb1⟩
  rw[a0M (by rw[hlentlen];exact hl),hlentlen,a1B]at hb1
  obtain⟨C,hC,hB⟩:=aGg hb1
  refine .inr ⟨_,C,hC, ?_,hB, ?_⟩
  ·rw[hσ' _ (by omega)];omega
  rw[a0M (by rw[H.len];exact hl),a0M (by rw[hMslen,←hlen];omega),H.len,hMslen,←hlen]
  congr 1;omega
 have hlive: ∀g,g<w.heap.size→cX (M++Mn) (pS hb ρ hs') g→cX M hb g:=by
  rintro g hg ⟨b,B,hb1,hb2⟩
  rcases hcase hb1 with⟨hb0,hb3⟩|⟨i,C,hC,rfl,rfl,he⟩
  ·refine⟨b,B,hb3, ?_⟩
   rw[a0G (by rw[H.len];exact(a0F.1 hb3).1)]at hb2
   exact hb2
  exact hliveS g (G.live g hg ⟨i,C,hC,by rw[←he];exact hb2⟩)
 have hnew: ∀{i:Nat}{C:Blk}{b:Nat}{B:Blk}{g:Nat},hs'[i]? =some (some C)→(Ms++Mn)[i]? =some (some g)→b∉ρ→hb[b]? =some (some B)→M[b]? =some (some g)→False:=by
  intro i C b B g hi hm hb0 hb1 hb2
  have hgs:g<w.heap.size:=H.lt (.inr ⟨b,B,hb1,hb2⟩)
  exact hout hb0 hb1 hb2 (G.live g hgs ⟨i,C,hi,hm⟩)
 refine⟨M++Mn,⟨⟨Mn,rfl⟩,⟨?_, ?_, ?_, ?_,H.glob.ext G.ext (fun g _ hl=> .inr (hliveS g hl)) (fun g hg hx=>hx.elim .inl (fun hl=> .inr (hlive g hg hl)))⟩,G.ext.mono (fun g _ hl=>hliveS g hl),hlive⟩,VR.rf _ _ (by rw[V.rf_rn];exact hrf) (VR.rn_to hto _ _ hv)⟩
 ·unfold pS
  rw[hsg]
  simp only[a02,a10,hlentlen,hrnlen,H.len]
  omega
 ·exact fun g hg=>a07 (H.alt g hg) G.ext.size
 ·intro b B hb1
  rcases hcase hb1 with⟨hb0,hb3⟩|⟨i,C,hC,rfl,rfl,he⟩
  ·have hbl:b<M.length:=by rw[H.len];exact(a0F.1 hb3).1
   obtain⟨h1,⟨hn,hc0⟩|⟨g,cs,hg,hA,hh,hle,hcs⟩⟩:=H.blk b B hb3
   ·exact⟨h1,.inl ⟨by rw[a0G hbl];exact hn,hc0⟩⟩
   have hgs:g<w.heap.size:=H.lt (.inr ⟨b,B,hb3,hg⟩)
   refine⟨h1,.inr ⟨g,cs,by rw[a0G hbl];exact hg,hA, ?_,hle, ?_⟩⟩
   ·exact hh.to (G.ext.block g hgs (hout hb0 hb3 hg))
   exact VCells.ext G.ext ⟨Mn,rfl⟩ (fun g _ hl=> .inr (hliveS g hl)) (fun g hg hx=>hx.elim .inl (fun hl=> .inr (hlive g hg hl))) _ _ hcs
  obtain⟨h1,h2⟩:=G.hr.blk i C hC
  refine⟨V.rns_mem (V.rn_one σ) h1, ?_⟩
  rcases h2 with⟨hn,hc0⟩|⟨g,cs,hg,hA,hh,hle,hcs⟩
  ·refine .inl ⟨by rw[he];exact hn, ?_⟩
   simp[Blk.rn,hc0,V.rns]
  refine .inr ⟨g,cs,by rw[he];exact hg,fun ha=>hA (.inl ha),by simpa[Blk.rn,V.rns_length]using hh, ?_, ?_⟩
  ·simpa[Blk.rn,V.rns_length]using hle
  have h5:=VCells.rn_to hto _ _ hcs
  have h6:VCells (Xs A (M++Mn) (pS hb ρ hs')) (M++Mn) w' (V.rns σ C.cells) (cs.toList.take C.cells.length):=VCells.rf _ _ (by rw[V.rfs_rn];exact hrb i C hC) h5
  simpa[Blk.rn,V.rns_length]using h6
 intro b c B C g hb1 hc1 mb mc
 rcases hcase hb1 with⟨hb0,hb3⟩|⟨i,D,hD,rfl,rfl,he⟩<;>rcases hcase hc1 with⟨hc0,hc3⟩|⟨j,E,hE,rfl,rfl,he'⟩
 ·rw[a0G (by rw[H.len];exact(a0F.1 hb3).1)]at mb
  rw[a0G (by rw[H.len];exact(a0F.1 hc3).1)]at mc
  exact H.inj b c B C g hb3 hc3 mb mc
 ·rw[a0G (by rw[H.len];exact(a0F.1 hb3).1)]at mb
  rw[he']at mc
  exact(hnew hE mc hb0 hb3 mb).elim
 ·rw[a0G (by rw[H.len];exact(a0F.1 hc3).1)]at mc
  rw[he]at mb
  exact(hnew hD mb hc0 hc3 mc).elim
 rw[G.hr.inj i j D E g hD hE (by rw[←he];exact mb) (by rw[←he'];exact mc)]
def rfB :Hp→Prop
 | []=>True
 |none::h=>rfB h
 |some B::h=>V.rfs B.cells=true∧rfB h
theorem rfB.get : ∀{h:Hp},rfB h→ ∀(i:Nat)(B:Blk),h[i]? =some (some B)→V.rfs B.cells=true
 | [],_,i,B,hi=>by simp at hi
 |none::h,hh,0,B,hi=>by simp at hi
 |none::h,hh,i+1,B,hi=>rfB.get (h:=h) hh i B (by simpa using hi)
 |some C::h,hh,0,B,hi=>by simp at hi;subst hi;exact hh.1
 |some C::h,hh,i+1,B,hi=>rfB.get (h:=h) hh.2 i B (by simpa using hi)
theorem rfB.nil :rfB []:=trivial
theorem rfB.dead {h:Hp}(k:rfB h):rfB (none::h):=k
theorem rfB.live {h:Hp}{e:TypeId}{cs:List V}(hc:V.rfs cs=true)(k:rfB h):rfB (some ⟨e,cs⟩::h):=⟨hc,k⟩
theorem Fn.lendR {P:Program}{f:FuncId}{hs hs' hb hb':Hp}{args xs:List V}{r v:V}(hc:Fn P f hs args r hs')(ρ β:List Nat)(hnd:ρ.Nodup)(hlt:ρ.all (fun b=>a2d b hb.length)=true)(hdis: ∀b∈β,b∉ρ)(hl:Lend (sg ρ hb.length) hb ρ hs)
  (hx:Brw (sg ρ hb.length) (only β hb) xs args) (hrf:r.rf=true) (hrb:rfB hs') (hr:r.rn (sg ρ hb.length)=v) (hh:pS hb ρ hs'=hb'):Fn P f hb xs v hb':=by
 have:=Fn.borrow (hb:=hb) hc ρ β hl.len hnd (fun b hb'=>by
  have h2:=a0K.1 hlt b hb'
  exact a1j (n:=b+1) h2) hdis hl.get hx hrf hrb.get
 rw[hr,hh]at this
 exact this
section
variable {P:Program}{N:Nat}{Q:Ex→List V→Hp→Prop}{s:List V}{h h':Hp}
theorem AB.seq_g {c d:Code}(hh: ∀K:List V→Hp→Prop,(∀{s h},AB P N d Q s h→K s h)→(∀{s h s' h'},Ghost N s h s' h'→K s' h'→K s h)→AB P N c (Ex.then K Q) s h):AB P N (.seq c d) Q s h:=
 AB.seq (hh _ (fun hk=>hk) (fun hg hk=>AB.ghost hg hk))
variable {f:FuncId}{xs:List V}{r:V}
variable (t:TypeId)(xo yo:Operand)
theorem aSA {t:TypeId}{sz by_:Nat}{z:Value}(ht:aJ P t=some ⟨.bool,sz,by_,z⟩)(a b:Bool):aP P (Op.equal t (.bool a) (.bool b))=some (a == b):=by
 have h1:=(cL ht).1
 have e1:underlying t=Sem.program fun p=>match p.underlying t with|some d=>pure d|none=>stuck "no such type" :=rfl
 unfold Op.equal Op.maxDepth
 show aP P (Op.equalIn (9999+1) t (.bool a) (.bool b))=_
 rw[Op.equalIn,e1]
 show aP P (Sem.bind (Sem.program _) _)=_
 simp only[Sem.bind,aP,h1]
 rfl
theorem wM {α β:Type}(s:Sem α)(f:α→β){a:α}(h:aP P s=some a):aP P (Functor.map f s)=some (f a):=by
 show aP P (Sem.bind s _)=_
 induction s with
 |pure x=>simp only[aP,a0I]at h;subst h;rfl
 |program k ih=>exact ih P h
 |mark m k ih=>exact ih h
 |_=>simp[aP]at h
theorem aQJ {t:TypeId}{sz by_:Nat}{z:Value}(ht:aJ P t=some ⟨.bool,sz,by_,z⟩)(a b:Bool):c9 P .neq t xo yo (.sc (.bool a)) (.sc (.bool b))=some (.sc (.bool (a != b))):=by
 simp only[c9,eM,c8,aSi,pureV]
 have:aP P (do (pure ():Sem Unit);binOp .neq t (.bool a) (.bool b))=some (.bool (!(a == b))):=wM _ (fun b=>Value.bool !b) (aSA ht a b)
 exact congrArg (a2b ofValue) this
theorem aQC (a b:ByteArray):c9 P .eql t xo yo (.sc (.string a)) (.sc (.string b))=some (.sc (.bool (a.toList == b.toList))):=by
 simp only[c9,eM,c8,aP8,pureV];rfl
theorem a0k {e:TypeId}{sz by_:Nat}{z:Value}{nl:Option Bool}{k:Nat}{t:TypeId}(ht:aJ P t=some ⟨.slice e,sz,by_,z⟩):aEn P t (.row nl k [])=some (.sc (.int .i64 0)):=by simp[aEn,ht]
theorem a0m {t:TypeId}{fs:Array Field}{sz by_ i:Nat}{z:Value}{fl:Field}{cs:List V}{v:V}(ht:aJ P t=some ⟨.struct fs,sz,by_,z⟩)(hf:fs[i]? =some fl)(hp:gT P fl.type (cs.drop fl.offset)=some v):aGd P t (.agg cs) i=some v:=by simp[aGd,ht,hf,hp]
theorem aPg {ts:Array TypeId}{ty:TypeId}{k:IntKind}{a b:Int}:aHv P ts ty [.sc (.int k a),.sc (.int k b)] false=some (.sc (.int k (if b<a then b else a))):=by
 simp[aHv,c8,Builtin.min_,Builtin.min2,pureV];rfl
theorem aZh {ts:Array TypeId}{ty:TypeId}{k:IntKind}{a b:Int}:aHv P ts ty [.sc (.int k a),.sc (.int k b)] true=some (.sc (.int k (if b>a then b else a))):=by
 simp[aHv,c8,Builtin.max_,Builtin.max2,pureV];rfl
end
theorem aXW {P:Program}{h h':Hp}{t e:TypeId}{ti:TI}{i b:Nat}{α:Type}{E:α→V}{l m:List α}{sz by_:Nat}{z:Value}{ag:Bool}{q:Nat}(hn:q≤l.length)(ht:aJ P t=some ⟨.slice e,sz,by_,z⟩)(he:aJ P e=some ti)(h1:ti.zero.cells.size=1∧ti.size=1∧1≤ti.bytes)(hb:h[b]? =some (some ⟨e,l.map E⟩)){s:V}(hs:fF h 1 s=some (m.map E,m.length))
  {r:List α} (ha:b5 ti.bytes (l.take q) m=some r) (hl:h.length=i) (hh:h.set b none++[some ⟨e,r.map E⟩]=h'):gR P t t (.sl b 0 q 1 ag) s h=some (.sl i 0 r.length 1 ag,h'):=by
 obtain⟨h2,h3,h4⟩:=h1
 unfold b5 at ha
 split at ha
 ·rename_i hlim
  injection ha with ha
  have hql:(l.take q).length=q:=by simp;omega
  rw[hql]at hlim
  subst ha hl hh
  have hx:fF h ti.size s=some (m.map E,m.length):=by rw[h3];exact hs
  simp only[gR,ne_eq,not_true,if_false,ht,he]
  rw[if_pos ⟨by rw[h2,h3],by omega,h4⟩]
  simp only[hx,hb]
  rw[if_pos ⟨h3.symm,trivial,by simp;omega,hlim⟩]
  simp[a1o,a1p hn]
 cases ha
theorem mkC {k1 k2:IntKind}{P:Program}{h h':Hp}{t e:TypeId}{ti:TI}{i:Nat}{α:Type}{E:α→V}{sz by_:Nat}{z:Value}{ag:Bool}{j:Int}{y:α}(ht:aJ P t=some ⟨.slice e,sz,by_,z⟩)(he:aJ P e=some ti)(h1:1≤ti.bytes∧ti.size=1∧ti.zero.cells.size=1)(hz:ti.zero.cells.toList.map (V.soft∘dY)=[E y])(ho:(E y).one=true)(hag:b4 ti.desc=ag){r:List α}
  (hm:mks ti.bytes y j=some r) (hl:h.length=i) (hh:h++[some ⟨e,r.map E⟩]=h'):aCi P t (.sc (.int k1 0)) (.sc (.int k2 j)) h=some (.sl i 0 0 1 ag,h'):=by
 obtain⟨h2,h3,h4⟩:=h1
 unfold mks at hm
 split at hm
 ·rename_i hlim
  injection hm with hm
  subst hm hl hh hag
  simp only[aCi,ht,he]
  rw[if_pos ⟨a1z _,hlim.1,hlim.2,h2,by omega,by rw[h4,h3],by rw[hz];simp[ho]⟩,hz]
  simp only[h3,if_true]
  have: ∀n,(a1h n [E y]).flatten=(a1h n y).map E:=fun n=>by
   induction n with
   |zero=>rfl
   |succ n ih=>simp only[a1Q,a1X,ih,a06];rfl
  rw[this];simp
 cases hm
def sX :Nat→List V→List (Nat×V)
 |_,[]=>[]
 |i,x::xs=>(i,x)::sX (i+1) xs
theorem aPQ : ∀(xs:List V)(i:Nat)(cells:List V),cells.length=i+xs.length→xs.all (fun x=>x.one&&(x.cells.length == 1))=true→pK (fun i=>some (i*1,1)) cells (sX i xs)=some (cells.take i++xs)
 | [],i,cells,hl,_=>by
  simp only[sX,pK,a1q]
  rw[a0J (by simp at hl;omega)]
 |x::xs,i,cells,hl,ho=>by
  simp only[List.all_cons,a0U,beq_iff_eq]at ho
  obtain⟨⟨h1,h2⟩,h3⟩:=ho
  simp only[a05]at hl
  have hc:x.cells=[x]:=by cases x<;>first|rfl|simp[V.one]at h1
  simp only[sX,pK]
  rw[if_pos ⟨by simp[V.flatOk,hc,h1],h2,by omega⟩,hc]
  have hs:splice cells (i*1) [x]=cells.set i x:=by
   have:=aNk (E:=fun v:V=>v) (l:=cells) i (by omega) x
   simpa using this
  rw[hs,aPQ xs (i+1) _ (by simp;omega) (by simpa[a0K,a0U]using h3)]
  congr 1
  rw[a1a (by simp;omega)]
  simp[List.take_set_of_le]
theorem aZn {P:Program}{h h':Hp}{t e:TypeId}{ti:TI}{i sz by_ len:Nat}{z:Value}{ps:List (Nat×V)}{xs:List V}{ag:Bool}(ht:aJ P t=some ⟨.slice e,sz,by_,z⟩)(he:aJ P e=some ti)(h1:len*1≤2^24)(h2:0<len)(hs:ti.size=1)(hag:b4 ti.desc=ag)
  (hp:sX 0 xs=ps) (ho:xs.all (fun x=>x.one&&(x.cells.length == 1))=true) (hlen:xs.length=len) (hl:h.length=i) (hh:h++[some ⟨e,xs⟩]=h'):gB P t len ps h=some (.sl i 0 len 1 ag,h'):=by
 have hones:xs.all V.one=true:=by
  rw[a0K]at ho⊢
  intro x hx
  have:=ho x hx
  simp only[a0U]at this
  exact this.1
 subst hp
 have:=aX3 (h:=h) (len:=len) (cs:=xs) (ps:=sX 0 xs) (i:=i) (h':=h') ht he (by rw[hs];exact⟨h1,h2,by omega⟩) hag (by
  rw[hs]
  rw[aPQ xs 0 _ (by simp[hs,hlen]) ho]
  simp) ⟨hones,by rw[hs,hlen];omega⟩ hl hh
 rw[hs]at this
 exact this
theorem Ghost.refl (N:Nat)(s:List V)(h:Hp):Ghost N s h s h:=fun A M a w _ R=>⟨M,rfl,R,fun _ hl=>hl⟩
theorem aQc {k:IntKind}(hk:k.signed=false)(n:Int):k.wrap n=n%2^k.bits:=by simp[IntKind.wrap,hk]
theorem aLx {k:IntKind}(hk:k.signed=false)(a b:Nat)(ha:a<2^k.bits)(hb:b<2^k.bits):bits .or k (a:Int) (b:Int)=((a ||| b:Nat):Int):=by
 have hab:a ||| b<2^k.bits:=Nat.or_lt_two_pow ha hb
 simp only[bits,aQc hk,BitVec.toNat_or,BitVec.toNat_ofInt]
 have e1:((a:Int)%((2^k.bits:Nat):Int)).toNat=a:=by rw[←a1u,a1l,a1E ha]
 have e2:((b:Int)%((2^k.bits:Nat):Int)).toNat=b:=by rw[←a1u,a1l,a1E hb]
 rw[e1,e2]
 rw[show(2:Int)^k.bits=((2^k.bits:Nat):Int) by simp,←a1u,a1E hab]
theorem aNz {k:IntKind}(a b:Nat)(ha:a<2^k.bits):shr k (a:Int) (b:Int)=some ((a/2^b:Nat):Int):=by
 unfold shr
 rw[if_neg (by omega)]
 congr 1
 rw[a1l]
 have:(2:Int)^min b k.bits=((2^min b k.bits:Nat):Int):=by simp
 rw[this,Int.fdiv_eq_ediv_of_nonneg _ (Int.natCast_nonneg _),←Int.natCast_ediv]
 congr 1
 rcases a1Z b k.bits with hb|hb
 ·rw[a1p hb]
 rw[a12 hb,a13 ha,a13 (a07 ha (Nat.pow_le_pow_right (by omega) hb))]
theorem aRT {k:IntKind}(hk:k.signed=false)(a b:Nat):shl k (a:Int) (b:Int)=some ((a*2^b%2^k.bits:Nat):Int):=by
 unfold shl
 rw[if_neg (by omega),aQc hk]
 congr 1
 rw[a1l]
 have e:(2:Int)^min b k.bits=((2^min b k.bits:Nat):Int):=by simp
 rw[e,show(2:Int)^k.bits=((2^k.bits:Nat):Int) by simp,←Int.natCast_mul,←a1u]
 congr 1
 rcases a1Z b k.bits with hb|hb
 ·rw[a1p hb]
 rw[a12 hb,a14]
 obtain⟨c,rfl⟩:=Nat.exists_eq_add_of_le hb
 rw[Nat.pow_add,←Nat.mul_assoc,Nat.mul_right_comm,a14]
theorem aRA {α:Type}(l:List α)(i:Nat):aZ l (i:Int)=l[i]? :=by simp[aZ]
theorem bA {α:Type}(l:List α){i:Nat}(h:i<l.length):aZ l (i:Int)=some l[i]:=by rw[aRA,a0H h]
theorem aTK {α:Type}{by_:Nat}{l m:List α}(h:(l.length+m.length)*by_≤lim):b5 by_ l m=some (l++m):=by simp[b5,h]
theorem aME {α:Type}{by_:Nat}{z:α}{n:Nat}(h:n*by_≤lim):mks by_ z (n:Int)=some (a1h n z):=by
 simp only[mks,a1l]
 rw[if_pos ⟨by omega,h⟩]
theorem s9 (a b:Nat):Int.tdiv (a:Int) (b:Int)=((a/b:Nat):Int):=by rw[Int.tdiv_eq_ediv_of_nonneg (by omega)];simp
theorem kZ (a b:Nat):Int.tmod (a:Int) (b:Int)=((a%b:Nat):Int):=by rw[Int.tmod_eq_emod_of_nonneg (by omega)];simp
def Byt (l:List Int):Prop:= ∀x∈l,0≤x∧x<256
theorem Byt.append {l m:List Int}(h:Byt l)(k:Byt m):Byt (l++m):=fun x hx=>(List.mem_append.1 hx).elim (h x) (k x)
theorem Byt.set {l:List Int}(h:Byt l)(i:Nat){x:Int}(hx:0≤x∧x<256):Byt (l.set i x):=fun y hy=>(List.mem_or_eq_of_mem_set hy).elim (h y) (fun e=>e▸hx)
theorem Byt.get {l:List Int}(h:Byt l){i:Nat}(hi:i<l.length): ∃n:Nat,n<256∧l[i]=(n:Int):=by
 obtain⟨h1,h2⟩:=h l[i] (List.getElem_mem hi)
 exact⟨l[i].toNat,by omega,by omega⟩
theorem Fn.toP {P:Program}{f:FuncId}{xs:List V}{r:V}(hc:Fn P f [] xs r []):PFn P f xs r:=by
 intro A w vs hA hGl hv
 refine(hc A [] w vs (HR.nil hA hGl) (hv.avoid (fun g _ hx=>aNj.1 hx))).mono fun v w' ⟨M',G,hr⟩=> ?_
 have hM:M'=[]:=a0O G.hr.len
 subst hM
 exact⟨G.ext.mono fun g _ hl=>by obtain⟨b,B,hb,_⟩:=hl;simp at hb,hr.avoid (fun g _ hx=>aNj.2 hx)⟩
end Go.Vm
namespace Go.Proofs.YtopdhljncajmpaaGreatDoor
open Go Go.Vm
abbrev fd (n:String) (t o b:Nat):Field:={name:=n,type:=t,offset:=o,embedded:=false,tag:= "",pkgPath:= "",byteOffset:=b}
abbrev ta (l:List Value):Array Value:=l.toArray
abbrev zs (n:Nat)(v:Value):List Value:=a1h n v
@[simp] theorem ti2 :aJ Tryz.prog 2=some ⟨.int .i64,1,8,.int .i64 0⟩:=by kernel_rfl
@[simp] theorem ti3 :aJ Tryz.prog 3=some ⟨.int .i64,1,8,.int .i64 0⟩:=by kernel_rfl
@[simp] theorem ti4 :aJ Tryz.prog 4=some ⟨.bool,1,1,.bool false⟩:=by kernel_rfl
@[simp] theorem oS :aJ Tryz.prog 5=some ⟨.int .u8,1,1,.int .u8 0⟩:=by kernel_rfl
@[simp] theorem ti9 :aJ Tryz.prog 9=some ⟨.string,1,16,.string .empty⟩:=by kernel_rfl
@[simp] theorem aXr :aJ Tryz.prog 12=some ⟨.int .u64,1,8,.int .u64 0⟩:=by kernel_rfl
@[simp] theorem aYI :aJ Tryz.prog 21=some ⟨.int .i32,1,4,.int .i32 0⟩:=by kernel_rfl
@[simp] theorem lA :aJ Tryz.prog 22=some ⟨.slice 5,1,24,.slice none 0 0⟩:=by kernel_rfl
@[simp] theorem kC :aJ Tryz.prog 24=some ⟨.int .u32,1,4,.int .u32 0⟩:=by kernel_rfl
@[simp] theorem aYW :aJ Tryz.prog 25=some ⟨.array 32 5,32,32,.agg (ta (zs 32 (.int .u8 0)))⟩:=by kernel_rfl
@[simp] theorem iO :aJ Tryz.prog 26=some ⟨.array 32 5,32,32,.agg (ta (zs 32 (.int .u8 0)))⟩:=by kernel_rfl
@[simp] theorem aYM :aJ Tryz.prog 27=some ⟨.struct #[fd "Version" 24 0 0,fd "Prev" 26 1 4,fd "Root" 26 33 36,fd "Time" 24 65 68,fd "Bits" 24 66 72,fd "Nonce" 24 67 76],68,80,.agg (ta ([.int .u32 0]++zs 64 (.int .u8 0)++[.int .u32 0,.int .u32 0,.int .u32 0]))⟩:=by kernel_rfl
@[simp] theorem aEj :aJ Tryz.prog 28=some ⟨.struct #[fd "Version" 24 0 0,fd "Prev" 26 1 4,fd "Root" 26 33 36,fd "Time" 24 65 68,fd "Bits" 24 66 72,fd "Nonce" 24 67 76],68,80,.agg (ta ([.int .u32 0]++zs 64 (.int .u8 0)++[.int .u32 0,.int .u32 0,.int .u32 0]))⟩:=by kernel_rfl
@[simp] theorem aF6 :aJ Tryz.prog 29=some ⟨.int .u64,1,8,.int .u64 0⟩:=by kernel_rfl
@[simp] theorem aYK :aJ Tryz.prog 30=some ⟨.array 4 29,4,32,.agg #[.int .u64 0,.int .u64 0,.int .u64 0,.int .u64 0]⟩:=by kernel_rfl
@[simp] theorem aHk :aJ Tryz.prog 31=some ⟨.array 4 29,4,32,.agg #[.int .u64 0,.int .u64 0,.int .u64 0,.int .u64 0]⟩:=by kernel_rfl
@[simp] theorem aUW :aJ Tryz.prog 32=some ⟨.slice 153,1,24,.slice none 0 0⟩:=by kernel_rfl
@[simp] theorem aYq :aJ Tryz.prog 33=some ⟨.struct #[fd "Genesis" 28 0 0,fd "Limit" 31 68 80,fd "Window" 3 72 112,fd "Spacing" 24 73 120,fd "Future" 24 74 124,fd "Version" 24 75 128,fd "Checkpoints" 32 76 136,fd "Subsidy" 2 77 160,fd "Halving" 3 78 168,fd "Maturity" 3 79 176],80,184,.agg (ta ([.int .u32 0]++zs 64 (.int .u8 0)++[.int .u32 0,.int .u32 0,.int .u32 0,.int .u64 0,.int .u64 0,.int .u64 0,.int .u64 0,.int .i64 0,.int .u32 0,.int .u32 0,.int .u32 0,.slice none 0 0,.int .i64 0,.int .i64 0,.int .i64 0]))⟩:=by kernel_rfl
@[simp] theorem aAV :aJ Tryz.prog 34=some ⟨.struct #[fd "Genesis" 28 0 0,fd "Limit" 31 68 80,fd "Window" 3 72 112,fd "Spacing" 24 73 120,fd "Future" 24 74 124,fd "Version" 24 75 128,fd "Checkpoints" 32 76 136,fd "Subsidy" 2 77 160,fd "Halving" 3 78 168,fd "Maturity" 3 79 176],80,184,.agg (ta ([.int .u32 0]++zs 64 (.int .u8 0)++[.int .u32 0,.int .u32 0,.int .u32 0,.int .u64 0,.int .u64 0,.int .u64 0,.int .u64 0,.int .i64 0,.int .u32 0,.int .u32 0,.int .u32 0,.slice none 0 0,.int .i64 0,.int .i64 0,.int .i64 0]))⟩:=by kernel_rfl
@[simp] theorem aUK :aJ Tryz.prog 35=some ⟨.slice 47,1,24,.slice none 0 0⟩:=by kernel_rfl
@[simp] theorem aUg :aJ Tryz.prog 36=some ⟨.slice 44,1,24,.slice none 0 0⟩:=by kernel_rfl
@[simp] theorem aUr :aJ Tryz.prog 37=some ⟨.slice 51,1,24,.slice none 0 0⟩:=by kernel_rfl
@[simp] theorem aVm :aJ Tryz.prog 38=some ⟨.slice 54,1,24,.slice none 0 0⟩:=by kernel_rfl
@[simp] theorem aYS :aJ Tryz.prog 39=some ⟨.struct #[fd "Params" 34 0 0,fd "Blocks" 35 80 184,fd "Ledgers" 36 81 208,fd "Contexts" 37 82 232,fd "Undos" 38 83 256],84,280,.agg (ta ([.int .u32 0]++zs 64 (.int .u8 0)++[.int .u32 0,.int .u32 0,.int .u32 0,.int .u64 0,.int .u64 0,.int .u64 0,.int .u64 0,.int .i64 0,.int .u32 0,.int .u32 0,.int .u32 0,.slice none 0 0,.int .i64 0,.int .i64 0,.int .i64 0,.slice none 0 0,.slice none 0 0,.slice none 0 0,.slice none 0 0]))⟩:=by kernel_rfl
@[simp] theorem aIV :aJ Tryz.prog 40=some ⟨.struct #[fd "Params" 34 0 0,fd "Blocks" 35 80 184,fd "Ledgers" 36 81 208,fd "Contexts" 37 82 232,fd "Undos" 38 83 256],84,280,.agg (ta ([.int .u32 0]++zs 64 (.int .u8 0)++[.int .u32 0,.int .u32 0,.int .u32 0,.int .u64 0,.int .u64 0,.int .u64 0,.int .u64 0,.int .i64 0,.int .u32 0,.int .u32 0,.int .u32 0,.slice none 0 0,.int .i64 0,.int .i64 0,.int .i64 0,.slice none 0 0,.slice none 0 0,.slice none 0 0,.slice none 0 0]))⟩:=by kernel_rfl
@[simp] theorem aKH :aJ Tryz.prog 42=some ⟨.slice 80,1,24,.slice none 0 0⟩:=by kernel_rfl
@[simp] theorem aYD :aJ Tryz.prog 43=some ⟨.struct #[fd "Height" 3 0 0,fd "Tip" 26 1 8,fd "Coins" 42 33 40],34,64,.agg (ta ([.int .i64 0]++zs 32 (.int .u8 0)++[.slice none 0 0]))⟩:=by kernel_rfl
@[simp] theorem aAP :aJ Tryz.prog 44=some ⟨.struct #[fd "Height" 3 0 0,fd "Tip" 26 1 8,fd "Coins" 42 33 40],34,64,.agg (ta ([.int .i64 0]++zs 32 (.int .u8 0)++[.slice none 0 0]))⟩:=by kernel_rfl
@[simp] theorem aUC :aJ Tryz.prog 45=some ⟨.slice 91,1,24,.slice none 0 0⟩:=by kernel_rfl
@[simp] theorem aYX :aJ Tryz.prog 46=some ⟨.struct #[fd "Header" 28 0 0,fd "Txs" 45 68 80],69,104,.agg (ta ([.int .u32 0]++zs 64 (.int .u8 0)++[.int .u32 0,.int .u32 0,.int .u32 0,.slice none 0 0]))⟩:=by kernel_rfl
@[simp] theorem aKs :aJ Tryz.prog 47=some ⟨.struct #[fd "Header" 28 0 0,fd "Txs" 45 68 80],69,104,.agg (ta ([.int .u32 0]++zs 64 (.int .u8 0)++[.int .u32 0,.int .u32 0,.int .u32 0,.slice none 0 0]))⟩:=by kernel_rfl
@[simp] theorem aSK :aJ Tryz.prog 49=some ⟨.slice 24,1,24,.slice none 0 0⟩:=by kernel_rfl
@[simp] theorem aXF :aJ Tryz.prog 50=some ⟨.struct #[fd "Height" 3 0 0,fd "Hash" 26 1 8,fd "Bits" 24 33 40,fd "First" 24 34 44,fd "Times" 49 35 48],36,72,.agg (ta ([.int .i64 0]++zs 32 (.int .u8 0)++[.int .u32 0,.int .u32 0,.slice none 0 0]))⟩:=by kernel_rfl
@[simp] theorem aGp :aJ Tryz.prog 51=some ⟨.struct #[fd "Height" 3 0 0,fd "Hash" 26 1 8,fd "Bits" 24 33 40,fd "First" 24 34 44,fd "Times" 49 35 48],36,72,.agg (ta ([.int .i64 0]++zs 32 (.int .u8 0)++[.int .u32 0,.int .u32 0,.slice none 0 0]))⟩:=by kernel_rfl
@[simp] theorem aXD :aJ Tryz.prog 53=some ⟨.struct #[fd "Spent" 42 0 0],1,24,.agg #[.slice none 0 0]⟩:=by kernel_rfl
@[simp] theorem aUY :aJ Tryz.prog 54=some ⟨.struct #[fd "Spent" 42 0 0],1,24,.agg #[.slice none 0 0]⟩:=by kernel_rfl
@[simp] theorem aYc :aJ Tryz.prog 55=some ⟨.int .i64,1,8,.int .i64 0⟩:=by kernel_rfl
@[simp] theorem aNH :aJ Tryz.prog 61=some ⟨.slice 22,1,24,.slice none 0 0⟩:=by kernel_rfl
@[simp] theorem aYL :aJ Tryz.prog 74=some ⟨.pointer 80,1,8,.pointer none⟩:=by kernel_rfl
@[simp] theorem aYE :aJ Tryz.prog 75=some ⟨.struct #[fd "Tx" 26 0 0,fd "Index" 24 32 32],33,36,.agg (ta (zs 32 (.int .u8 0)++[.int .u32 0]))⟩:=by kernel_rfl
@[simp] theorem lU :aJ Tryz.prog 76=some ⟨.struct #[fd "Tx" 26 0 0,fd "Index" 24 32 32],33,36,.agg (ta (zs 32 (.int .u8 0)++[.int .u32 0]))⟩:=by kernel_rfl
@[simp] theorem aXo :aJ Tryz.prog 77=some ⟨.struct #[fd "Value" 2 0 0,fd "Script" 22 1 8],2,32,.agg #[.int .i64 0,.slice none 0 0]⟩:=by kernel_rfl
@[simp] theorem aPT :aJ Tryz.prog 78=some ⟨.struct #[fd "Value" 2 0 0,fd "Script" 22 1 8],2,32,.agg #[.int .i64 0,.slice none 0 0]⟩:=by kernel_rfl
@[simp] theorem aXI :aJ Tryz.prog 79=some ⟨.struct #[fd "Out" 76 0 0,fd "Output" 78 33 40,fd "Height" 3 35 72,fd "Coinbase" 4 36 80],37,88,.agg (ta (zs 32 (.int .u8 0)++[.int .u32 0,.int .i64 0,.slice none 0 0,.int .i64 0,.bool false]))⟩:=by kernel_rfl
@[simp] theorem rC :aJ Tryz.prog 80=some ⟨.struct #[fd "Out" 76 0 0,fd "Output" 78 33 40,fd "Height" 3 35 72,fd "Coinbase" 4 36 80],37,88,.agg (ta (zs 32 (.int .u8 0)++[.int .u32 0,.int .i64 0,.slice none 0 0,.int .i64 0,.bool false]))⟩:=by kernel_rfl
@[simp] theorem aUh :aJ Tryz.prog 88=some ⟨.slice 97,1,24,.slice none 0 0⟩:=by kernel_rfl
@[simp] theorem aUD :aJ Tryz.prog 89=some ⟨.slice 78,1,24,.slice none 0 0⟩:=by kernel_rfl
@[simp] theorem aYf :aJ Tryz.prog 90=some ⟨.struct #[fd "Version" 24 0 0,fd "Inputs" 88 1 8,fd "Outputs" 89 2 32,fd "Lock" 24 3 56],4,64,.agg #[.int .u32 0,.slice none 0 0,.slice none 0 0,.int .u32 0]⟩:=by kernel_rfl
@[simp] theorem aNt :aJ Tryz.prog 91=some ⟨.struct #[fd "Version" 24 0 0,fd "Inputs" 88 1 8,fd "Outputs" 89 2 32,fd "Lock" 24 3 56],4,64,.agg #[.int .u32 0,.slice none 0 0,.slice none 0 0,.int .u32 0]⟩:=by kernel_rfl
@[simp] theorem aXT :aJ Tryz.prog 96=some ⟨.struct #[fd "Prev" 76 0 0,fd "Sequence" 24 33 36,fd "Witness" 61 34 40],35,64,.agg (ta (zs 32 (.int .u8 0)++[.int .u32 0,.int .u32 0,.slice none 0 0]))⟩:=by kernel_rfl
@[simp] theorem aKr :aJ Tryz.prog 97=some ⟨.struct #[fd "Prev" 76 0 0,fd "Sequence" 24 33 36,fd "Witness" 61 34 40],35,64,.agg (ta (zs 32 (.int .u8 0)++[.int .u32 0,.int .u32 0,.slice none 0 0]))⟩:=by kernel_rfl
@[simp] theorem aX4 :aJ Tryz.prog 99=some ⟨.pointer 102,1,8,.pointer none⟩:=by kernel_rfl
@[simp] theorem aPd :aJ Tryz.prog 100=some ⟨.map 76 80,1,8,.map none⟩:=by kernel_rfl
@[simp] theorem aVu :aJ Tryz.prog 101=some ⟨.struct #[{name:= "params",type:=34,offset:=0,embedded:=false,tag:= "",pkgPath:= "lightclient/ledger",byteOffset:=0},{name:= "height",type:=3,offset:=80,embedded:=false,tag:= "",pkgPath:= "lightclient/ledger",byteOffset:=184},{name:= "coins",type:=100,offset:=81,embedded:=false,tag:= "",pkgPath:= "lightclient/ledger",byteOffset:=192},{name:= "spent",type:=42,offset:=82,embedded:=false,tag:= "",pkgPath:= "lightclient/ledger",byteOffset:=200},{name:= "fees",type:=2,offset:=83,embedded:=false,tag:= "",pkgPath:= "lightclient/ledger",byteOffset:=224}],84,232,.agg (ta ([.int .u32 0]++zs 64 (.int .u8 0)++[.int .u32 0,.int .u32 0,.int .u32 0,.int .u64 0,.int .u64 0,.int .u64 0,.int .u64 0,.int .i64 0,.int .u32 0,.int .u32 0,.int .u32 0,.slice none 0 0,.int .i64 0,.int .i64 0,.int .i64 0,.int .i64 0,.map none,.slice none 0 0,.int .i64 0]))⟩:=by kernel_rfl
@[simp] theorem aG1 :aJ Tryz.prog 102=some ⟨.struct #[{name:= "params",type:=34,offset:=0,embedded:=false,tag:= "",pkgPath:= "lightclient/ledger",byteOffset:=0},{name:= "height",type:=3,offset:=80,embedded:=false,tag:= "",pkgPath:= "lightclient/ledger",byteOffset:=184},{name:= "coins",type:=100,offset:=81,embedded:=false,tag:= "",pkgPath:= "lightclient/ledger",byteOffset:=192},{name:= "spent",type:=42,offset:=82,embedded:=false,tag:= "",pkgPath:= "lightclient/ledger",byteOffset:=200},{name:= "fees",type:=2,offset:=83,embedded:=false,tag:= "",pkgPath:= "lightclient/ledger",byteOffset:=224}],84,232,.agg (ta ([.int .u32 0]++zs 64 (.int .u8 0)++[.int .u32 0,.int .u32 0,.int .u32 0,.int .u64 0,.int .u64 0,.int .u64 0,.int .u64 0,.int .i64 0,.int .u32 0,.int .u32 0,.int .u32 0,.slice none 0 0,.int .i64 0,.int .i64 0,.int .i64 0,.int .i64 0,.map none,.slice none 0 0,.int .i64 0]))⟩:=by kernel_rfl
@[simp] theorem aVU :aJ Tryz.prog 118=some ⟨.map 9 4,1,8,.map none⟩:=by kernel_rfl
@[simp] theorem aES :aJ Tryz.prog 140=some ⟨.slice 26,1,24,.slice none 0 0⟩:=by kernel_rfl
@[simp] theorem aV9 :aJ Tryz.prog 152=some ⟨.struct #[fd "Height" 3 0 0,fd "Hash" 26 1 8],33,40,.agg (ta ([.int .i64 0]++zs 32 (.int .u8 0)))⟩:=by kernel_rfl
@[simp] theorem aMQ :aJ Tryz.prog 153=some ⟨.struct #[fd "Height" 3 0 0,fd "Hash" 26 1 8],33,40,.agg (ta ([.int .i64 0]++zs 32 (.int .u8 0)))⟩:=by kernel_rfl
@[simp] theorem aVE :aJ Tryz.prog 160=some ⟨.map 76 4,1,8,.map none⟩:=by kernel_rfl
@[simp] theorem aVC :aJ Tryz.prog 167=some ⟨.slice 76,1,24,.slice none 0 0⟩:=by kernel_rfl
@[simp] theorem aVZ :aJ Tryz.prog 182=some ⟨.slice 140,1,24,.slice none 0 0⟩:=by kernel_rfl
@[simp] theorem aV0 :aJ Tryz.prog 190=some ⟨.struct #[fd "Message" 26 0 0,fd "Height" 3 32 32,fd "Age" 3 33 40],34,48,.agg (ta (zs 32 (.int .u8 0)++[.int .i64 0,.int .i64 0]))⟩:=by kernel_rfl
@[simp] theorem aEP :aJ Tryz.prog 191=some ⟨.struct #[fd "Message" 26 0 0,fd "Height" 3 32 32,fd "Age" 3 33 40],34,48,.agg (ta (zs 32 (.int .u8 0)++[.int .i64 0,.int .i64 0]))⟩:=by kernel_rfl
@[simp] theorem aVD :aJ Tryz.prog 194=some ⟨.int .u64,1,8,.int .u64 0⟩:=by kernel_rfl
@[simp] theorem aVS :aJ Tryz.prog 200=some ⟨.map 26 3,1,8,.map none⟩:=by kernel_rfl
@[simp] theorem aV1 :aJ Tryz.prog 208=some ⟨.slice 3,1,24,.slice none 0 0⟩:=by kernel_rfl
@[simp] theorem aIx :aJ Tryz.prog 221=some ⟨.array 8 24,8,32,.agg (ta (zs 8 (.int .u32 0)))⟩:=by kernel_rfl
@[simp] theorem aPc :aJ Tryz.prog 223=some ⟨.array 64 5,64,64,.agg (ta (zs 64 (.int .u8 0)))⟩:=by kernel_rfl
@[simp] theorem aVt :aJ Tryz.prog 233=some ⟨.int .u16,1,2,.int .u16 0⟩:=by kernel_rfl
@[simp] theorem aV6 :aJ Tryz.prog 235=some ⟨.int .i64,1,8,.int .i64 0⟩:=by kernel_rfl
@[simp] theorem aPn :aJ Tryz.prog 245=some ⟨.array 8 29,8,64,.agg (ta (zs 8 (.int .u64 0)))⟩:=by kernel_rfl
@[simp] theorem aPs :aJ Tryz.prog 249=some ⟨.slice 29,1,24,.slice none 0 0⟩:=by kernel_rfl
@[simp] theorem aPf :aJ Tryz.prog 251=some ⟨.array 64 24,64,256,.agg (ta (zs 64 (.int .u32 0)))⟩:=by kernel_rfl
@[simp] theorem aWa :aJ Tryz.prog 255=some ⟨.slice 263,1,24,.slice none 0 0⟩:=by kernel_rfl
@[simp] theorem aVY :aJ Tryz.prog 261=some ⟨.slice 266,1,24,.slice none 0 0⟩:=by kernel_rfl
@[simp] theorem aVG :aJ Tryz.prog 262=some ⟨.struct #[fd "Code" 3 0 0,fd "Data" 22 1 8,fd "M" 3 2 32,fd "N" 3 3 40],4,48,.agg #[.int .i64 0,.slice none 0 0,.int .i64 0,.int .i64 0]⟩:=by kernel_rfl
@[simp] theorem aGw :aJ Tryz.prog 263=some ⟨.struct #[fd "Code" 3 0 0,fd "Data" 22 1 8,fd "M" 3 2 32,fd "N" 3 3 40],4,48,.agg #[.int .i64 0,.slice none 0 0,.int .i64 0,.int .i64 0]⟩:=by kernel_rfl
@[simp] theorem aVL :aJ Tryz.prog 265=some ⟨.struct #[{name:= "reached",type:=4,offset:=0,embedded:=false,tag:= "",pkgPath:= "lightclient/lightclientref08",byteOffset:=0},{name:= "done",type:=4,offset:=1,embedded:=false,tag:= "",pkgPath:= "lightclient/lightclientref08",byteOffset:=1}],2,2,.agg #[.bool false,.bool false]⟩:=by kernel_rfl
@[simp] theorem aPb :aJ Tryz.prog 266=some ⟨.struct #[{name:= "reached",type:=4,offset:=0,embedded:=false,tag:= "",pkgPath:= "lightclient/lightclientref08",byteOffset:=0},{name:= "done",type:=4,offset:=1,embedded:=false,tag:= "",pkgPath:= "lightclient/lightclientref08",byteOffset:=1}],2,2,.agg #[.bool false,.bool false]⟩:=by kernel_rfl
@[simp] theorem aV2 :aJ Tryz.prog 270=some ⟨.int .u64,1,8,.int .u64 0⟩:=by kernel_rfl
@[simp] theorem aVv :aJ Tryz.prog 274=some ⟨.pointer 3,1,8,.pointer none⟩:=by kernel_rfl
@[simp] theorem aSO :aJ Tryz.prog 276=some ⟨.slice 294,1,24,.slice none 0 0⟩:=by kernel_rfl
@[simp] theorem aVx :aJ Tryz.prog 277=some ⟨.struct #[{name:= "Env",type:=191,offset:=0,embedded:=true,tag:= "",pkgPath:= "",byteOffset:=0},{name:= "stack",type:=61,offset:=34,embedded:=false,tag:= "",pkgPath:= "lightclient/script",byteOffset:=48},{name:= "branches",type:=276,offset:=35,embedded:=false,tag:= "",pkgPath:= "lightclient/script",byteOffset:=72},{name:= "cost",type:=3,offset:=36,embedded:=false,tag:= "",pkgPath:= "lightclient/script",byteOffset:=96}],37,104,.agg (ta (zs 32 (.int .u8 0)++[.int .i64 0,.int .i64 0,.slice none 0 0,.slice none 0 0,.int .i64 0]))⟩:=by kernel_rfl
@[simp] theorem aEY :aJ Tryz.prog 278=some ⟨.struct #[{name:= "Env",type:=191,offset:=0,embedded:=true,tag:= "",pkgPath:= "",byteOffset:=0},{name:= "stack",type:=61,offset:=34,embedded:=false,tag:= "",pkgPath:= "lightclient/script",byteOffset:=48},{name:= "branches",type:=276,offset:=35,embedded:=false,tag:= "",pkgPath:= "lightclient/script",byteOffset:=72},{name:= "cost",type:=3,offset:=36,embedded:=false,tag:= "",pkgPath:= "lightclient/script",byteOffset:=96}],37,104,.agg (ta (zs 32 (.int .u8 0)++[.int .i64 0,.int .i64 0,.slice none 0 0,.slice none 0 0,.int .i64 0]))⟩:=by kernel_rfl
@[simp] theorem aVH :aJ Tryz.prog 282=some ⟨.slice 4,1,24,.slice none 0 0⟩:=by kernel_rfl
@[simp] theorem aVs :aJ Tryz.prog 289=some ⟨.pointer 270,1,8,.pointer none⟩:=by kernel_rfl
@[simp] theorem aWd :aJ Tryz.prog 292=some ⟨.pointer 278,1,8,.pointer none⟩:=by kernel_rfl
@[simp] theorem aWi :aJ Tryz.prog 293=some ⟨.struct #[{name:= "outer",type:=4,offset:=0,embedded:=false,tag:= "",pkgPath:= "lightclient/script",byteOffset:=0},{name:= "taken",type:=4,offset:=1,embedded:=false,tag:= "",pkgPath:= "lightclient/script",byteOffset:=1}],2,2,.agg #[.bool false,.bool false]⟩:=by kernel_rfl
@[simp] theorem aPm :aJ Tryz.prog 294=some ⟨.struct #[{name:= "outer",type:=4,offset:=0,embedded:=false,tag:= "",pkgPath:= "lightclient/script",byteOffset:=0},{name:= "taken",type:=4,offset:=1,embedded:=false,tag:= "",pkgPath:= "lightclient/script",byteOffset:=1}],2,2,.agg #[.bool false,.bool false]⟩:=by kernel_rfl
@[simp] theorem aVJ :aJ Tryz.prog 297=some ⟨.struct #[fd "E" 31 0 0,fd "S" 31 4 32],8,64,.agg (ta (zs 8 (.int .u64 0)))⟩:=by kernel_rfl
@[simp] theorem aMA :aJ Tryz.prog 298=some ⟨.struct #[fd "E" 31 0 0,fd "S" 31 4 32],8,64,.agg (ta (zs 8 (.int .u64 0)))⟩:=by kernel_rfl
@[simp] theorem aVz :aJ Tryz.prog 328=some ⟨.pointer 5,1,8,.pointer none⟩:=by kernel_rfl
end Go.Proofs.YtopdhljncajmpaaGreatDoor
namespace Go.Vm
open Go Go.ChangeShapes Go.WideShapes Go.ChangeAt Go.RowKit
section
variable {X:Nat→Prop}{M:List (Option Nat)}{w:World}
theorem aV5 (c:Value):VR X M w (.sc c) c:=by unfold VR;rfl
theorem aBG :VCells X M w [] []:=by unfold VCells;rfl
theorem uP {c:V}{v:Value}{cs:List V}{vs:List Value}(h:VR X M w c v)(k:VCells X M w cs vs):VCells X M w (c::cs) (v::vs):=by unfold VCells;exact⟨v,vs,rfl,h,k⟩
theorem aP0 {P:Program}{ts:List TypeId}(h:(ts.all fun t=>P.readableRec t&&decide (t<P.types.size))=true): ∀t∈ts,P.readableRec t=true∧t<P.types.size:=by
 intro t ht
 have:=a0K.1 h t ht
 simp only[a0U,decide_eq_true_eq]at this
 exact this
end
end Go.Vm
namespace Go.Proofs.YtopdhljncajmpaaGreatDoor
open Go Go.Vm
open Go.ChangeShapes Go.WideShapes Go.ChangeAt Go.RowKit
theorem own :ownKnob Tryz.prog.godebug=none:=by kernel_rfl
theorem aWO :laidOutB Tryz.prog=true:=by kernel_rfl
end Go.Proofs.YtopdhljncajmpaaGreatDoor
namespace Go.Proofs.YtopdhljncajmpaaGreatDoor
open Go Go.Vm
end Go.Proofs.YtopdhljncajmpaaGreatDoor
namespace Go.Vm
open Go Go.ChangeShapes Go.WideShapes Go.ChangeAt Go.RowKit
def aPe (P:Program)(t:TypeId){α:Type}(Q:α→Prop)(C:α→List V):Prop:=
 ∀{H:Type}{enc:TypeId×Value→H}{w:World}{spare:Nat→Bool}{held:Bool}{fuel:Nat}{cs:List Value}{x:DataW H×List MemPlace},DataW.trod enc P w 0 spare held fuel t cs=some x→ ∃a:α,Q a∧VCells NoX [] w (C a) cs
section
variable {P:Program}{t e:TypeId}
theorem aOQ {k:IntKind}(ht:P.underlying t=some (.int k)):aPe P t (fun x:Int=>(Lit.int k x).wf=true) (fun x=>[eI k x]):=by
 intro H enc w spare held fuel cs x h
 obtain⟨n,rfl,_,hw⟩:=DataW.trod_int ht h
 exact⟨n,hw,uP (aV5 _) aBG⟩
theorem aLw {α:Type}{R:Nat→α→Prop}: ∀(n:Nat),(∀i,i<n→ ∃x,R i x)→ ∃l:List α,l.length=n∧ ∀i x,l[i]? =some x→R i x
 |0,_=>⟨[],rfl,fun i x hx=>by simp at hx⟩
 |n+1,h=>by
  obtain⟨l,hl,hr⟩:=aLw n (fun i hi=>h i (by omega))
  obtain⟨x,hx⟩:=h n (by omega)
  refine⟨l++[x],by simp[hl],fun i y hy=> ?_⟩
  rcases c7 hy with hy|⟨hi,hy⟩
  ·exact hr i y hy
  subst hy;rw[hi,hl];exact hx
theorem aSd {X:Nat→Prop}{M:List (Option Nat)}{w:World}{K:Nat}: ∀(es:List V)(ad:Addr),(∀i e,es[i]? =some e→ ∃v,VR X M w e v∧v.cells.size=K∧LiesAt w (ad.add (i*K)) v.cells)→VRow X M w K es ad
 | [],ad,_=>by unfold VRow;trivial
 |e::es,ad,h=>by
  unfold VRow
  obtain⟨v,h1,h2,h3⟩:=h 0 e rfl
  refine⟨⟨v,h1,h2,by simpa[Addr.add]using h3⟩,aSd es (ad.add K) fun i e' he=> ?_⟩
  obtain⟨v',k1,k2,k3⟩:=h (i+1) e' (by simpa using he)
  refine⟨v',k1,k2, ?_⟩
  rw[uO,show K+i*K=(i+1)*K by rw[a1d];omega]
  exact k3
def aVj {α:Type}(K:Nat)(C:α→List V)(E:α→V):Prop:= ∀x,(E x).okElem K=true∧ ∀(w:World)(vs:List Value),VCells NoX [] w (C x) vs→ ∃v,VR NoX [] w (E x) v∧v.cells=vs.toArray
theorem aUV {α:Type}{E:α→V}(h: ∀x,(E x).one=true):aVj 1 (fun x=>[E x]) E:=by
 intro x
 have hc:(E x).cells=[E x]:=by have:=h x;generalize E x=y at this ⊢; cases y<;>first|rfl|simp[V.one]at this
 refine⟨by simp[V.okElem,V.flatOk,hc,h x],fun w vs hv=> ?_⟩
 unfold VCells at hv
 obtain⟨v,rest,rfl,h1,h2⟩:=hv
 unfold VCells at h2
 subst h2
 exact⟨v,h1,by rw[eC (h1.oneCell (h x))]⟩
theorem aRl {α:Type}{Q:α→Prop}{C:α→List V}{E:α→V}{K:Nat}(ht:P.underlying t=some (.slice e))(he:aPe P e Q C)(hK:P.cellsOf e=K)(h0:0<K)(hE:aVj K C E):
  aPe P t (fun l:List α=> ∀x∈l,Q x) (fun l=>[.row none K (l.map E)]):=by
 intro H enc w spare held fuel cs x h
 rcases DataW.trod_slice ht h with⟨rfl,_⟩|⟨a,len,cap,elems,rest,n,_,rfl,_,_,hl,hm,hlen,hel,_,_⟩
 ·refine⟨[],by simp,uP ?_ aBG⟩
  unfold VR
  exact⟨none,0,rfl,a1e _,fun _=>rfl,(fun b hb=>by cases hb),by simp,fun hne=>absurd rfl hne⟩
 have each: ∀i,i<len→ ∃x,Q x∧ ∃vs,w.cells? 0 (a.add (i*K)) K=some vs∧VCells NoX [] w (C x) vs:=by
  intro i hi
  have h1:=hel i hi
  rw[hK,a0H (by omega)]at h1
  simp only[a1c]at h1
  obtain⟨vs,h2,h3⟩:=h1
  obtain⟨x,hq,hv⟩:=he h3
  exact⟨x,hq,vs,h2,hv⟩
 obtain⟨l,hll,hr⟩:=aLw len each
 have hlm:(l.map E).length=len:=by simp[hll]
 refine⟨l,fun x hx=> ?_,uP ?_ aBG⟩
 ·obtain⟨i,hi,rfl⟩:=List.mem_iff_getElem.1 hx
  exact(hr i _ (a0H hi)).1
 unfold VR
 refine⟨some a,cap,by rw[hlm],by rw[hlm];exact hl,fun hh=>(by cases hh),(fun b hb=>by cases hb),fun y hy=> ?_,fun hne=> ?_⟩
 ·simp only[a1K]at hy
  obtain⟨x,_,rfl⟩:=hy
  exact(hE x).1
 have hpos:0<len:=by
  rcases Nat.eq_zero_or_pos len with h0|h0
  ·exact absurd (a0O (by rw[hlm];exact h0)) hne
  exact h0
 have lies: ∀(ad:Addr)(vs:List Value),w.cells? 0 ad K=some vs→vs.length=K∧LiesAt w ad vs.toArray:=by
  intro ad vs hvs
  obtain⟨h1,h2⟩:=World.cells?_some hvs
  have h3:vs.length=K∧ ∀i,i<K→w.cell? (ad.add i)=vs[i]? :=by
   unfold World.cells? at hvs
   rw[if_pos (Nat.zero_le _)]at hvs
   obtain⟨hl,hget⟩:=aCy hvs
   simp only[List.length_range]at hl
   refine⟨hl.symm,fun i hi=> ?_⟩
   have hv:i<vs.length:=by omega
   rw[a0H hv]
   exact hget i i vs[i] (by simp[hi]) (a0H hv)
  refine⟨h3.1,fun j u hu=> ?_⟩
  have hj:j<K:=by have:=(a0S.1 hu).1;simp at this;omega
  rw[h3.2 j hj];simpa using hu
 obtain⟨x0,_,vs0,hc0,_⟩:=each 0 hpos
 obtain⟨hl0,hlies0⟩:=lies _ _ hc0
 have hsp:a.spot=none:=by
  have hv:0<vs0.length:=by omega
  have:=World.cell?_spot (hlies0 0 vs0[0] (by simp[hv]))
  simpa[Addr.add]using this
 refine⟨a,rfl,h0,id,hsp,aSd _ _ fun i y hy=> ?_⟩
 simp only[a00,a0P]at hy
 obtain⟨x,hx,rfl⟩:=hy
 obtain⟨_,vs,hcs,hv⟩:=hr i x hx
 obtain⟨hl1,hlies⟩:=lies _ _ hcs
 obtain⟨v,hv1,hv2⟩:=(hE x).2 w vs hv
 exact⟨v,hv1,by rw[hv2];simp[hl1],by rw[hv2];exact hlies⟩
def aWg (P:Program)(t:TypeId){α:Type}(Q:α→Prop)(E:α→V):Prop:=
 ∀{H:Type}{enc:TypeId×Value→H}{w:World}{base:Nat}{v:Value}{d:DataW H}{p:List MemPlace},Value.okWide P w .any base t v→DataW.Trod enc P w 0 (fun _=>true) true t v d p→ ∃a:α,Q a∧VR NoX [] w (E a) v
theorem aLv {w:World}{c:V}{v:Value}(h:VCells NoX [] w [c] [v]):VR NoX [] w c v:=by
 unfold VCells at h
 obtain⟨u,rest,h1,h2,_⟩:=h
 injection h1 with h1 h3
 subst h1
 exact h2
theorem aSY {k:IntKind}(ht:P.underlying t=some (.int k)):aWg P t (fun x:Int=>(Lit.int k x).wf=true) (eI k):=by
 intro H enc w base v d p hv ⟨fuel,h⟩
 obtain⟨n,rfl⟩:=okWide_int ht hv
 obtain⟨a,hq,hc⟩:=aOQ ht h
 exact⟨a,hq,aLv hc⟩
theorem aRc {α:Type}{Q:α→Prop}{C:α→List V}{E:α→V}{K:Nat}(ht:P.underlying t=some (.slice e))(he:aPe P e Q C)(hK:P.cellsOf e=K)(h0:0<K)(hE:aVj K C E):aWg P t (fun l:List α=> ∀x∈l,Q x) (eL K E):=by
 intro H enc w base v d p hv ⟨fuel,h⟩
 obtain⟨a,l,c,rfl⟩:=okWide_slice ht hv
 obtain⟨a,hq,hc⟩:=aRl ht he hK h0 hE h
 exact⟨a,hq,aLv hc⟩
end
end Go.Vm
namespace Go.Vm
open Go
def iN (l:List Nat):List Int:=l.map fun(x:Nat)=>(x:Int)
theorem aM7 (l:List Nat):(iN l).length=l.length:=by simp[iN]
theorem aTM {d:List Int}(h:Byt d):iN (d.map Int.toNat)=d∧ ∀x∈d.map Int.toNat,x<256:=by
 constructor
 ·simp only[iN,a1Y]
  conv=>rhs;rw[←List.map_id d]
  refine a1P fun x hx=> ?_
  have:=h x hx
  simp only[a2c,id];omega
 intro x hx
 simp only[a1K]at hx
 obtain⟨y,hy,rfl⟩:=hx
 have:=h y hy
 omega
theorem aRx {d:List Int}(h:Byt d): ∃l:List Nat,d=iN l∧ ∀x∈l,x<256:=⟨_,(aTM h).1.symm,(aTM h).2⟩
theorem i1 {j:Nat}(hj:j≤100000):a15.wrap ((j:Int)+1)=((j+1:Nat):Int):=by rw[cJ (by omega) (by omega)];simp
theorem dT {j n:Nat}(h:j<n):decide ((j:Int)<(n:Int))=true:=by simpa using h
theorem dF {j n:Nat}(h: ¬j<n):decide ((j:Int)<(n:Int))=false:=by simp;omega
theorem wI :100000000≤lim:=by decide
theorem jG {l m:List Int}(h:l.length+m.length≤100000000):b5 1 l m=some (l++m):=by
 have:=wI
 exact aTK (by omega)
theorem nQ {α:Type}{f:Nat→Int→List Int→Option (List Int)}{xs:List α}{g:α→List Int}{B:Nat}(hn:xs.length≤100000)
  (hs: ∀m j acc (hj:j<xs.length),acc.length+(g xs[j]).length≤B→f (m+1) (j:Int) acc=f m ((j+1:Nat):Int) (acc++g xs[j])) (he: ∀m j acc,xs.length≤j→f (m+1) (j:Int) acc=some acc):
  ∀(m j:Nat)(acc:List Int),xs.length-j<m→j≤xs.length→acc.length+((xs.drop j).flatMap g).length≤B→f m (j:Int) acc=some (acc++(xs.drop j).flatMap g)
 |0,j,acc,hm,_,_=>by omega
 |m+1,j,acc,hm,hj,hB=>by
  by_cases h:j<xs.length
  ·rw[a0Y h,a0R,a02]at hB
   rw[hs m j acc h (by omega),nQ hn hs he m (j+1) _ (by omega) (by omega) (by rw[a02];omega),a0Y h,a0R,a1s]
  rw[he m j acc (by omega),a0X (by omega)];simp
theorem aAR {α R:Type}{f:Nat→Int→Option (LR Unit R)}{xs:List α}{p:α→Bool}{r:R}
  (hs: ∀m j (hj:j<xs.length),f (m+1) (j:Int)=if p xs[j]=true then f m ((j+1:Nat):Int)else some (.ret r)) (he: ∀m j,xs.length≤j→f (m+1) (j:Int)=some (.brk ())):
  ∀(m j:Nat),xs.length-j<m→j≤xs.length→f m (j:Int)=some (if(xs.drop j).all p=true then .brk ()else .ret r)
 |0,j,hm,_=>by omega
 |m+1,j,hm,hj=>by
  by_cases h:j<xs.length
  ·rw[hs m j h,aAR hs he m (j+1) (by omega) (by omega),a0Y h,List.all_cons]
   cases p xs[j]<;>simp
  rw[he m j (by omega),a0X (by omega)];simp
end Go.Vm
namespace Go.Proofs.YtopdhljncajmpaaGreatDoor
open Go Go.Vm
open Go.ChangeShapes Go.WideShapes Go.ChangeAt Go.RowKit
theorem aSc {W:World}{g:Nat}{xs:List Int}(hne:0<xs.length)(hc: ∀i,i<xs.length→W.cell? ⟨g,i,none⟩=some (.int .u32 (xs.getD i 0))):VR NoX [] W (.eptr [.agg (xs.map fun x=> .sc (.int .u32 x))] 0 0) (.pointer (some ⟨g,0,none⟩)):=by
 unfold VR
 refine⟨⟨g,0,none⟩,xs.length,by simp[Addr.add],hne,fun _ hx=>hx,rfl, ?_, ?_⟩
 ·intro e he
  simp only[List.mem_singleton]at he
  subst he
  simp[V.okElem,V.flatOk,V.cells,V.one,List.all_map]
  exact fun _ _=>rfl
 unfold VRow
 refine⟨⟨.agg (xs.map fun x=>Value.int .u32 x).toArray, ?_,by simp[Value.cells], ?_⟩,by unfold VRow;trivial⟩
 ·unfold VR
  refine⟨xs.map fun x=>Value.int .u32 x,rfl, ?_⟩
  generalize xs=ys
  induction ys with
  |nil=>exact aBG
  |cons y ys ih=>exact uP (aV5 _) ih
 intro j u hu
 simp only[Value.cells,a1L,a00,a0P]at hu
 obtain⟨x,hx,rfl⟩:=hu
 have hj:=(a0F.1 hx).1
 have:=hc j hj
 simp only[List.getD_eq_getElem?_getD,hx,Option.getD_some]at this
 have e:(⟨g,0,none⟩:Addr).add j=⟨g,j,none⟩:=by simp only[Addr.add];split<;>simp_all
 rw[e];exact this
theorem gK :Tryz.prog.globalNamed "lightclient/sha.k" =some 2:=by kernel_rfl
theorem gKt :(Tryz.prog.globals[2]?).map (·.type)=some 251:=by kernel_rfl
theorem gI :Tryz.prog.globalNamed "lightclient/sha.initial" =some 0:=by kernel_rfl
theorem gIt :(Tryz.prog.globals[0]?).map (·.type)=some 221:=by kernel_rfl
theorem aXa :Tryz.prog.cellsOf 251=64:=by kernel_rfl
theorem aYe :Tryz.prog.cellsOf 221=8:=by kernel_rfl
theorem aTf :Tryz.prog.cellsOf 24=1:=by kernel_rfl
theorem aKl {P:Program}{W:World}{name:String}{k:IntKind}{zs:List Int}{g:Nat}(h:Lib.TabIs P W name k zs)(hg:P.globalNamed name=some g): ∃t,W.shape? g=some (t,zs.length):=by
 unfold Lib.TabIs World.var? at h
 rw[hg,a1f]at h
 unfold World.shape?
 split at h
 ·rename_i cs t f hh
  injection h with h
  subst h
  exact⟨t,by rw[hh];simp⟩
 cases h
theorem aYk {W:World} (h:laidMetH Tryz.prog [("lightclient/sha.k",Rows.laid_lightclient_sha_k),("lightclient/sha.initial",Rows.laid_lightclient_sha_initial)] W):Lib.TabIs Tryz.prog W "lightclient/sha.k" .u32 aHu:=
 Lib.tabIs_of_head (rest:=[("lightclient/sha.initial",Rows.laid_lightclient_sha_initial)]) gK gKt Tryz.underlying251 Tryz.underlying24 aTf aXa h
theorem aYo {W:World} (h:laidMetH Tryz.prog [("lightclient/sha.k",Rows.laid_lightclient_sha_k),("lightclient/sha.initial",Rows.laid_lightclient_sha_initial)] W):Lib.TabIs Tryz.prog W "lightclient/sha.initial" .u32 aAJ:=by
 have h2:=h.filter (fun x=>x.1 == "lightclient/sha.initial")
 exact Lib.tabIs_of_head (rest:=[]) gI gIt Tryz.underlying221 Tryz.underlying24 aTf aYe h2
theorem aZg {W:World} (h:laidMetH Tryz.prog [("lightclient/sha.k",Rows.laid_lightclient_sha_k),("lightclient/sha.initial",Rows.laid_lightclient_sha_initial)] W):Globs NoX W:=by
 intro g e hg
 unfold GT at hg
 split at hg
 ·injection hg with hg
  subst hg
  refine⟨aSc (xs:=aAJ) (by decide) (fun i hi=>(aYo h).cell gI i hi), ?_⟩
  obtain⟨t,ht⟩:=aKl (aYo h) gI
  exact⟨t,by rw[ht];rfl⟩
 ·injection hg with hg
  subst hg
  refine⟨aSc (xs:=aHu) (by decide) (fun i hi=>(aYk h).cell gK i hi), ?_⟩
  obtain⟨t,ht⟩:=aKl (aYk h) gK
  exact⟨t,by rw[ht];rfl⟩
 cases hg
abbrev NN :Nat:=70000
theorem aTs {l:List Int}(hl: ∀x∈l,(Lit.int .u8 x).wf=true):Byt l:=by
 intro x hx
 have:=hl x hx
 simp[Lit.wf,IntKind.min,IntKind.max,a2a,a2f]at this;omega
theorem aUi {x:Int}(h:(Lit.int .u8 x).wf=true):0≤x∧x<256:=by
 simp[Lit.wf,IntKind.min,IntKind.max,a2a,a2f]at h;omega
def lay (i:Nat)(cs:Array Value)(h:Array Obj):Array Obj:=h.modify i fun
 | .cells _ t frozen=> .cells cs t frozen
 |o=>o
noncomputable def aJX (os:Os):World:=
 {World.holding Tryz.prog os ⟨#[],#[],[]⟩with heap:=lay 2 #[.int .u32 1116352408,.int .u32 1899447441,.int .u32 3049323471,.int .u32 3921009573,.int .u32 961987163,.int .u32 1508970993,.int .u32 2453635748,.int .u32 2870763221,.int .u32 3624381080,.int .u32 310598401,.int .u32 607225278,.int .u32 1426881987,.int .u32 1925078388,.int .u32 2162078206,.int .u32 2614888103,.int .u32 3248222580,.int .u32 3835390401,.int .u32 4022224774,.int .u32 264347078,.int .u32 604807628,.int .u32 770255983,.int .u32 1249150122,.int .u32 1555081692,.int .u32 1996064986,.int .u32 2554220882,.int .u32 2821834349,.int .u32 2952996808,.int .u32 3210313671,.int .u32 3336571891,.int .u32 3584528711,.int .u32 113926993,.int .u32 338241895,.int .u32 666307205,.int .u32 773529912,.int .u32 1294757372,.int .u32 1396182291,.int .u32 1695183700,.int .u32 1986661051,.int .u32 2177026350,.int .u32 2456956037,.int .u32 2730485921,.int .u32 2820302411,.int .u32 3259730800,.int .u32 3345764771,.int .u32 3516065817,.int .u32 3600352804,.int .u32 4094571909,.int .u32 275423344,.int .u32 430227734,.int .u32 506948616,.int .u32 659060556,.int .u32 883997877,.int .u32 958139571,.int .u32 1322822218,.int .u32 1537002063,.int .u32 1747873779,.int .u32 1955562222,.int .u32 2024104815,.int .u32 2227730452,.int .u32 2361852424,.int .u32 2428436474,.int .u32 2756734187,.int .u32 3204031479,.int .u32 3329325298] (lay 0 #[.int .u32 1779033703,.int .u32 3144134277,.int .u32 1013904242,.int .u32 2773480762,.int .u32 1359893119,.int .u32 2600822924,.int .u32 528734635,.int .u32 1541459225] (World.holding Tryz.prog os ⟨#[],#[],[]⟩).heap)}
end Go.Proofs.YtopdhljncajmpaaGreatDoor
namespace Go.Vm
open Go
def aSD (O:vR)(G:FuncId→Bool):Prop:= ∀f h args r h',G f=true→O f h args=some (r,h')→ ∃news,h'=h++news
def aMq (G:FuncId→Bool)(o:Oper):Bool:=
 aFi o || (match o.op with
  | .call c=>match c.callee with
   | .value (.func f)=>G f
   | .builtin .append=>match c.args.toList with
    | [.const (.slice none 0 0),_]=>true
    |_=>false
   |_=>false
  |_=>false)
theorem aRa {P:Program}{t t':TypeId}{k:Nat}{y r:V}{h h':Hp}(hr:gR P t t' (.row (some true) k []) y h=some (r,h')): ∃news,h'=h++news:=by
 simp only[gR]at hr
 repeat' split at hr
 all_goals first|(cases hr;done)|(simp only[a0I,a0V]at hr;exact⟨_,by rw[←hr.2,a1s]⟩)
def aUO (O:vR)(F:FuncId→Bool):Prop:= ∀f h args r h',F f=true→O f h args=some (r,h')→ ∀h2,O f h2 args=some (r,h2)
def aMr (F:FuncId→Bool)(o:Oper):Bool:=
 match o.op with
 | .move _ | .assign _ | .nilCheck _ | .binOp _ _ _ _ _ | .unOp _ _ _ | .fieldAddr _ _ _ | .field _ _ _ | .indexAddr _ _ _ | .index _ _ _ | .extract _ _ | .sliceToArrayPointer _ _=>true
 | .call c=>match c.callee with
  | .value (.func f)=>F f
  |_=>false
 |_=>false
def aPp (F G:FuncId→Bool)(ops:Array Oper)(oj oi:Oper):Bool:=
 oj.apart ops oi&&(aMr F oj || aMr F oi || (yZ F oj&&yZ F oi) || (aMq G oj&&aDT oi) || (aDT oj&&aMq G oi))
section
variable {P:Program}{O O':vR}{F G:FuncId→Bool}{s:List V}{h h':Hp}{ops:Array Oper}
theorem inScope.mono {n m:Nat}(hnm:n≤m){z:V}(hz:inScope n z):inScope m z:=by
 cases z<;>first|trivial|exact a07 hz hnm
theorem Scoped.mono {n m:Nat}(hnm:n≤m){o:Oper}(hs:Scoped s o n):Scoped s o m:=fun y hy z hz=>(hs y hy z hz).mono hnm
theorem aFP {o:Oper}(hs:aDT o=true): ∀(news:Hp){h:Hp},Scoped s o h.length→cN P O ops o s (h++news)=(cN P O ops o s h).map fun p=>(p.1,h++news)
 | [],h,hsc=>by
  simp only[a1q]
  cases hv:cN P O ops o s h with
  |none=>rfl
  |some p=>
   obtain⟨v,g⟩:=p
   obtain rfl:g=h:=i6 (F:=fun _=>false) (fun _ _ _ _ _ hf=>by cases hf) hs hv
   rfl
 |x::news,h,hsc=>by
  have e1:h++x::news=(h++[x])++news:=by simp
  rw[e1,aFP hs news (hsc.mono (by simp)),aHj hs hsc]
  cases cN P O ops o s h<;>rfl
theorem aKO (hG:aSD O G){o:Oper}(hg:aMq G o=true){r:V}(hr:cN P O ops o s h=some (r,h')): ∃news,h'=h++news:=by
 unfold cN at hr
 split at hr
 ·rename_i hw
  clear hw
  simp only[aMq,a1A]at hg
  rcases hg with hg|hg
  ·obtain⟨B,hB⟩:=aNm hg hr;exact⟨_,hB⟩
  obtain⟨dst,op,type,pos,after,guard⟩:=o
  cases op<;>simp only[a0W]at hg
  case call c=>
   obtain⟨callee,args,argTypes⟩:=c
   cases callee<;>simp only[a0W]at hg
   case value f=>
    cases f<;>simp only[a0W]at hg
    case func f=>
     simp only[bQ,rL]at hr
     split at hr
     ·cases hr
     exact hG _ _ _ _ _ hg hr
   case builtin b=>
    cases b<;>simp only[a0W]at hg
    case append=>
     split at hg
     ·rename_i y he
      simp only[bQ,rL,he]at hr
      cases hy:ev s y with
      |none=>
       have h2:z6 s [.const (.slice none 0 0),y]=none:=by simp only[z6,a03,List.mapM_nil,hy,show ev s (.const (.slice none 0 0))=some (.row (some true) 1 [])from rfl];rfl
       rw[h2]at hr
       cases hr
      |some z=>
       have h2:z6 s [.const (.slice none 0 0),y]=some [.row (some true) 1 [],z]:=by simp only[z6,a03,List.mapM_nil,hy,show ev s (.const (.slice none 0 0))=some (.row (some true) 1 [])from rfl];rfl
       rw[h2]at hr
       revert hr
       rcases argTypes.toList with _|⟨t,_|⟨t',_|⟨t'',l⟩⟩⟩<;>intro hr
       ·cases hr
       ·cases hr
       ·exact aRa hr
       cases hr
     cases hg
 ·simp only[a0I,a0V]at hr;exact⟨[],by simp[hr.2]⟩
 cases hr
theorem aQL (hF:zZ O F)(hU:aUO O F){o:Oper}(hf:aMr F o=true){r:V}(hr:cN P O ops o s h=some (r,h')):h'=h∧ ∀h2,cN P O ops o s h2=some (r,h2):=by
 unfold cN at hr⊢
 cases hw:kR ops o s with
 |none=>rw[hw]at hr;cases hr
 |some b=>
  rw[hw]at hr
  cases b with
  |false=>
   simp only[a0I,a0V]at hr⊢
   exact⟨hr.2.symm,fun h2=>⟨hr.1,trivial⟩⟩
  |true=>
   simp only at hr⊢
   clear hw
   obtain⟨dst,op,type,pos,after,guard⟩:=o
   cases op<;>simp only[aMr,a0W]at hf
   case call c=>
    obtain⟨callee,args,argTypes⟩:=c
    cases callee<;>simp only[a0W]at hf
    case value f=>
     cases f<;>simp only[a0W]at hf
     case func f=>
      simp only[bQ,rL]at hr⊢
      cases hx:z6 s args.toList with
      |none=>rw[hx]at hr;cases hr
      |some xs=>
       rw[hx]at hr
       simp only at hr⊢
       exact⟨hF _ _ _ _ _ hf hr,hU _ _ _ _ _ hf hr⟩
   all_goals
    simp only[bQ,a1c,a0P,a0V]at hr
    first
     |(obtain⟨a,ha,rfl,rfl⟩:=hr;exact⟨rfl,fun h2=>by simp[bQ,ha]⟩)
     |(obtain⟨a,ha,b,hb,rfl,rfl⟩:=hr;exact⟨rfl,fun h2=>by simp[bQ,ha,hb]⟩)
     |(obtain⟨a,ha,b,hb,c,hc,rfl,rfl⟩:=hr;exact⟨rfl,fun h2=>by simp[bQ,ha,hb,hc]⟩)
def StepR (P:Program)(F G:FuncId→Bool)(ops:Array Oper)(o:Oper)(s:List V)(h:Hp)(s1:List V)(h1:Hp):Prop:=
 ∃O,yX P O∧zZ O F∧aSD O G∧aUO O F∧qC P O ops o s h=some (s1,h1)
theorem StepR.comm {oj oi:Oper}(hp:aPp F G ops oj oi=true)(hsi:Scoped s oi h.length)(hsj:Scoped s oj h.length){s1 s2:List V}{h1 h2:Hp}
  (e1:StepR P F G ops oj s h s1 h1) (e2:StepR P F G ops oi s1 h1 s2 h2): ∃s3 h3,StepR P F G ops oi s h s3 h3∧StepR P F G ops oj s3 h3 s2 h2:=by
 obtain⟨O1,ok1,hF1,hG1,hU1,e1⟩:=e1
 obtain⟨O2,ok2,hF2,hG2,hU2,e2⟩:=e2
 simp only[aPp,a0U,a1A]at hp
 obtain⟨hap,hp⟩:=hp
 obtain⟨a1,a2,a3⟩:=Oper.apart_spec hap
 rw[cQ]at e1 e2
 simp only[a0P,a0V]at e1 e2
 obtain⟨⟨v1,g1⟩,f1,rfl,rfl⟩:=e1
 obtain⟨⟨v2,g2⟩,f2,rfl,rfl⟩:=e2
 simp only at f1 f2⊢
 rw[hT oi _ _ a1]at f2
 rcases hp with(((hj|hi)|⟨hj,hi⟩)|⟨hj,hi⟩)|⟨hj,hi⟩
 ·obtain⟨rfl,hall⟩:=aQL hF1 hU1 hj f1
  refine⟨g8 s oi.dst v2,g2,⟨O2,ok2,hF2,hG2,hU2,by rw[cQ,f2];rfl⟩,O1,ok1,hF1,hG1,hU1, ?_⟩
  rw[cQ,hT oj _ _ a3,hall g2]
  simp only[a0N]
  rw[nS s v1 v2 a2]
 ·obtain⟨rfl,hall⟩:=aQL hF2 hU2 hi f2
  refine⟨g8 s oi.dst v2,h,⟨O2,ok2,hF2,hG2,hU2,by rw[cQ,hall h];rfl⟩,O1,ok1,hF1,hG1,hU1, ?_⟩
  rw[cQ,hT oj _ _ a3,f1]
  simp only[a0N]
  rw[nS s v1 v2 a2]
 ·obtain rfl:=i6 hF1 hj f1
  obtain rfl:=i6 hF2 hi f2
  refine⟨g8 s oi.dst v2,_,⟨O2,ok2,hF2,hG2,hU2,by rw[cQ,f2];rfl⟩,O1,ok1,hF1,hG1,hU1, ?_⟩
  rw[cQ,hT oj _ _ a3,f1]
  simp only[a0N]
  rw[nS s v1 v2 a2]
 ·obtain⟨news,rfl⟩:=aKO hG1 hj f1
  rw[aFP hi news hsi]at f2
  simp only[a0P,a0V]at f2
  obtain⟨⟨v3,g3⟩,f3,rfl,rfl⟩:=f2
  obtain rfl:g3=h:=i6 (F:=fun _=>false) (fun _ _ _ _ _ hf=>by cases hf) hi f3
  refine⟨g8 s oi.dst v3,g3,⟨O2,ok2,hF2,hG2,hU2,by rw[cQ,f3];rfl⟩,O1,ok1,hF1,hG1,hU1, ?_⟩
  rw[cQ,hT oj _ _ a3,f1]
  simp only[a0N]
  rw[nS s v1 v3 a2]
 obtain rfl:g1=h:=i6 (F:=fun _=>false) (fun _ _ _ _ _ hf=>by cases hf) hj f1
 refine⟨g8 s oi.dst v2,g2,⟨O2,ok2,hF2,hG2,hU2,by rw[cQ,f2];rfl⟩,O1,ok1,hF1,hG1,hU1, ?_⟩
 obtain⟨news,rfl⟩:=aKO hG2 hi f2
 rw[cQ,hT oj _ _ a3,aFP hj news hsj,f1]
 simp only[a0N]
 rw[nS s v1 v2 a2]
def aSn (s:List V)(h:Hp):Prop:= ∃A M a w,Rel A M s h a w
theorem StepR.real {i:Nat}{o:Oper}(hi:ops[i]? =some o){s1:List V}{h1:Hp}(hr:aSn s h)(e:StepR P F G ops o s h s1 h1):aSn s1 h1:=by
 obtain⟨A,M,a,w,R⟩:=hr
 obtain⟨O,ok,_,_,_,e⟩:=e
 obtain⟨a',w',M',R'⟩:=aLq (tV (Q:=fun _ _ _=>False) ok R hi e (K:=fun a' w'=> ∃M',Rel A M' s1 h1 a' w') fun a' w' M' _ R'=>⟨M',R'⟩)
 exact⟨A,M',a',w',R'⟩
def aZD (P:Program)(N:Nat)(ops:Array Oper)(m:Nat)(listed:Array Bool)(s:List V)(h:Hp)(K:List V→Hp→Prop):Prop:=
 ∀(A:Nat→Prop)(M0 M:List (Option Nat))(h0:Hp)(w0:World)(a:Act)(w:World)(Q:Exit→Act→World→Prop),h0.length=N→M0.length=N→Grow A M0 h0 w0 M h w→Rel A M s h a w→
  (∀s' h' M' a' w',K s' h'→Grow A M0 h0 w0 M' h' w'→Rel A M' s' h' a' w'→Q .normal a' w')→wpAny P .any ops Q m listed a w
def aNr (ops:Array Oper)(listed:Array Bool):Bool:=
 (a1k ops.size).all fun j=>listed.getD j true || (a1k ops.size).all fun i=> !(listed.getD i false) || (aQg ops j j [j]).contains i
def Good (P:Program)(N:Nat)(F G:FuncId→Bool)(ops:Array Oper)(K:List V→Hp→Prop):Nat→Array Bool→List V→Hp→Prop
 |0,listed,s,h=>fW ops.size listed=[]∧K s h
 |n+1,listed,s,h=>(aNr ops listed=true∧aZD P N ops (n+1) listed s h K)∨(aSn s h→Region.ready .any ops listed≠ []∧ ∀i∈Region.ready .any ops listed,∃o s1 h1,ops[i]? =some o∧StepR P F G ops o s h s1 h1∧Good P N F G ops K n (listed.setIfInBounds i true) s1 h1)
theorem aTY {listed:Array Bool}{i:Nat}(hi:i∈Region.ready .any ops listed):i∈fW ops.size listed:=by
 obtain⟨h1,o,ho,_⟩:=mem_ready.1 hi
 simp only[fW,a18,List.mem_range]
 exact⟨(a0S.1 ho).1,by simp[h1]⟩
theorem Good.sound {N:Nat}{A:Nat→Prop}{M0:List (Option Nat)}{h0:Hp}(hN:h0.length=N)(hM:M0.length=N){w0:World}{K:List V→Hp→Prop}{Q:Exit→Act→World→Prop}:
  ∀(n:Nat)(listed:Array Bool){M:List (Option Nat)}{s:List V}{h:Hp}{a:Act}{w:World},Good P N F G ops K n listed s h→Grow A M0 h0 w0 M h w→Rel A M s h a w→
  (∀s' h' M' a' w',K s' h'→Grow A M0 h0 w0 M' h' w'→Rel A M' s' h' a' w'→Q .normal a' w')→wpAny P .any ops Q n listed a w
 |0,listed,M,s,h,a,w,hg,Gr,R,hQ=>by
  obtain⟨hnil,hk⟩:=hg
  refine⟨?_,hQ s h M a w hk Gr R⟩
  apply List.eq_nil_iff_forall_not_mem.2
  intro i hi
  have:=aTY hi
  rw[hnil]at this
  cases this
 |n+1,listed,M,s,h,a,w,hg,Gr,R,hQ=>by
  rcases hg with⟨_,hg⟩|hg
  ·exact hg A M0 M h0 w0 a w Q hN hM Gr R hQ
  obtain⟨hne,hall⟩:=hg ⟨A,M,a,w,R⟩
  refine⟨fun hn=>absurd hn hne,fun i hi=> ?_⟩
  obtain⟨o,s1,h1,ho,⟨O,ok,_,_,_,e⟩,hg'⟩:=hall i hi
  refine tV ok R ho e fun a' w' M' G' R'=> ?_
  exact Good.sound hN hM n _ hg' (Gr.trans G') R' hQ
def aH4 (F G:FuncId→Bool)(ops:Array Oper)(listed:Array Bool)(i:Nat):Bool:=
 (Region.ready .any ops listed).contains i&&(match ops[i]? with
  |none=>false
  |some oi=>(a1k ops.size).all fun j=>(j == i) || listed.getD j true || (match ops[j]? with
   |none=>true
   |some oj=>aPp F G ops oi oj || (aQg ops j j [j]).contains i))
theorem aJI {listed:Array Bool}{i:Nat}(d:Bool)(hi:i<listed.size):(listed.setIfInBounds i true).getD i d=true:=by simp[hi]
theorem aO9 (listed:Array Bool)(i j:Nat):(listed.setIfInBounds i true).setIfInBounds j true=(listed.setIfInBounds j true).setIfInBounds i true:=by
 by_cases hij:i=j
 ·subst hij;rfl
 apply Array.ext'
 apply a1r
 intro k
 simp only[Array.getElem?_toList,Array.getElem?_setIfInBounds]
 by_cases h1:i=k<;>by_cases h2:j=k<;>simp_all
theorem aSS {listed:Array Bool}{i j:Nat}{oj:Oper}(hi:i<ops.size)(hc:aIc ops listed)(hsz:listed.size=ops.size)(hcut:aNr ops (listed.setIfInBounds i true)=true)(hij:i≠j)(huni:listed.getD i true=false)(hunj:listed.getD j true=false)(hoj:ops[j]? =some oj)(hprej: ∀e∈oj.after,Region.binds .any e=true→listed.getD e.on false=true):False:=by
 have hjn:j<ops.size:=(a0S.1 hoj).1
 have h1:=a0K.1 hcut j (by simpa using hjn)
 rw[getD_set_ne true hij,hunj]at h1
 simp only[a1V]at h1
 have h2:=a0K.1 h1 i (by simpa using hi)
 rw[aJI false (by rw[hsz];exact hi)]at h2
 simp only[Bool.not_true,a1V]at h2
 rcases aDv hc hoj hprej j [j] (by simp) i (by simpa using h2)with h4|h4
 ·exact hij h4
 have:=getD_both huni
 rw[h4]at this;cases this
theorem Good.pick {N:Nat}{K:List V→Hp→Prop}: ∀(n:Nat){listed:Array Bool}{s:List V}{h:Hp}{i:Nat}{oi:Oper}{s1:List V}{h1:Hp},listed.size=ops.size→aIc ops listed→aH4 F G ops listed i=true→ops[i]? =some oi→StepR P F G ops oi s h s1 h1→
  Good P N F G ops K n (listed.setIfInBounds i true) s1 h1→Good P N F G ops K (n+1) listed s h
 |0,listed,s,h,i,oi,s1,h1,hsz,hc,hp,hoi,e,hg=>by
  refine .inr fun hr=> ?_
  simp only[aH4,a0U]at hp
  have hi:i∈Region.ready .any ops listed:=by simpa using hp.1
  refine⟨(fun hn=>by rw[hn]at hi;cases hi),fun j hj=> ?_⟩
  by_cases hij:i=j
  ·subst hij;exact⟨oi,s1,h1,hoi,e,hg⟩
  exfalso
  obtain⟨hun,oj,hoj,_⟩:=mem_ready.1 hj
  have:j∈fW ops.size (listed.setIfInBounds i true):=by
   simp only[fW,a18,List.mem_range]
   exact⟨(a0S.1 hoj).1,by rw[getD_set_ne true hij,hun];rfl⟩
  rw[hg.1]at this
  cases this
 |n+1,listed,s,h,i,oi,s1,h1,hsz,hc,hp,hoi,e,hg=>by
  refine .inr fun hr=> ?_
  have hp0:=hp
  simp only[aH4,a0U]at hp
  have hi:i∈Region.ready .any ops listed:=by simpa using hp.1
  obtain⟨huni,_,hoi',hprei⟩:=mem_ready.1 hi
  obtain rfl:oi=_:=a1M (hoi.symm.trans hoi')
  refine⟨(fun hn=>by rw[hn]at hi;cases hi),fun j hj=> ?_⟩
  by_cases hij:i=j
  ·subst hij;exact⟨oi,s1,h1,hoi,e,hg⟩
  obtain⟨hunj,oj,hoj,hprej⟩:=mem_ready.1 hj
  have hjn:j<ops.size:=(a0S.1 hoj).1
  have hin:i<ops.size:=(a0S.1 hoi).1
  have hj':j∈Region.ready .any ops (listed.setIfInBounds i true):=mem_ready.2 ⟨by rw[getD_set_ne true hij];exact hunj,oj,hoj,fun ed he hb=>getD_set_true (hprej ed he hb)⟩
  have hr1:aSn s1 h1:=e.real hoi hr
  rcases hg with⟨hcut,_⟩|hg
  ·exact(aSS hin hc hsz hcut hij huni hunj hoj hprej).elim
  obtain⟨_,hall⟩:=hg hr1
  obtain⟨oj',s2,h2,hoj',e2,hg2⟩:=hall j hj'
  obtain rfl:oj=oj':=a1M (hoj.symm.trans hoj')
  have hpair:aPp F G ops oi oj=true:=by
   rw[hoi]at hp
   have h3:=a0K.1 hp.2 j (by simpa using hjn)
   simp only[hoj,a1A,beq_iff_eq]at h3
   rcases h3 with(h3|h3)|(h3|h3)
   ·exact absurd h3.symm hij
   ·rw[hunj]at h3;cases h3
   ·exact h3
   exfalso
   rcases aDv hc hoj hprej j [j] (by simp) i (by simpa using h3)with h4|h4
   ·exact hij h4
   have:=getD_both huni
   rw[h4]at this;cases this
  obtain⟨A,M,a,w,R⟩:=hr
  have hsc:=R.scopeOk
  obtain⟨s3,h3,f1,f2⟩:=StepR.comm hpair (hsc.op oj) (hsc.op oi) e e2
  refine⟨oj,s3,h3,hoj,f1, ?_⟩
  have hc':aIc ops (listed.setIfInBounds j true):=by
   intro k ok hk hl ed he hb
   by_cases hjk:j=k
   ·subst hjk
    obtain rfl:ok=oj:=a1M (hk.symm.trans hoj)
    exact getD_set_true (hprej ed he hb)
   rw[getD_set_ne false hjk]at hl
   exact getD_set_true (hc k ok hk hl ed he hb)
  have hp':aH4 F G ops (listed.setIfInBounds j true) i=true:=by
   have hi2:i∈Region.ready .any ops (listed.setIfInBounds j true):=mem_ready.2 ⟨by rw[getD_set_ne true (Ne.symm hij)];exact huni,oi,hoi,fun ed he hb=>getD_set_true (hprei ed he hb)⟩
   simp only[aH4,a0U,hoi]
   refine⟨by simpa using hi2,a0K.2 fun k hk=> ?_⟩
   rw[hoi]at hp
   have h3:=a0K.1 hp.2 k hk
   simp only[a1A]at h3⊢
   rcases h3 with(h3|h3)|h3
   ·exact .inl (.inl h3)
   ·refine .inl (.inr ?_)
    by_cases hjk:j=k
    ·subst hjk;exact aJI true (by rw[hsz];exact hjn)
    rw[getD_set_ne true hjk];exact h3
   exact .inr h3
  refine Good.pick n (by simpa using hsz) hc' hp' hoi f2 ?_
  rw[aO9]
  exact hg2
def DrawG (P:Program)(N:Nat)(F G:FuncId→Bool)(ops:Array Oper)(n:Nat)(listed:Array Bool)(s:List V)(h:Hp)(K:List V→Hp→Prop):Prop:=Good P N F G ops K n listed s h
def aRX (ops:Array Oper)(listed:Array Bool):Bool:=
 (a1k ops.size).all fun j=>match ops[j]? with
  |none=>true
  |some oj=> !(listed.getD j false) || oj.after.all fun e=> !(Region.binds .any e) || listed.getD e.on false
theorem aP9 {listed:Array Bool}(hb:aRX ops listed=true):aIc ops listed:=by
 intro j oj hj hl e he hbi
 have hjn:j<ops.size:=(a0S.1 hj).1
 have h1:=a0K.1 hb j (by simpa using hjn)
 simp only[hj,hl,Bool.not_true,a1V]at h1
 have h2:=Array.all_eq_true_iff_forall_mem.1 h1 e he
 simpa[hbi]using h2
variable {N n m t:Nat}{fr:List (Nat×V)}{K:List V→Hp→Prop}{op:Op}{ty:TypeId}{pos:String}{aft:Array Edge}{v:V}{gd:Option (Nat×Bool)}{listed:Array Bool}{i:Nat}
theorem DrawG.nil (hr:fW ops.size listed=[])(hk:K s h):DrawG P N F G ops 0 listed s h K:=⟨hr,hk⟩
def aNQ (F G:FuncId→Bool)(ops:Array Oper)(listed:Array Bool)(i:Nat):Bool:=(listed.size == ops.size)&&aRX ops listed&&aH4 F G ops listed i
theorem DrawG.pick {o:Oper}{s1:List V}{h1:Hp}(hp:aNQ F G ops listed i=true)(ho:ops[i]? =some o)(e:StepR P F G ops o s h s1 h1)(k:DrawG P N F G ops n (listed.setIfInBounds i true) s1 h1 K):DrawG P N F G ops (n+1) listed s h K:=by
 simp only[aNQ,a0U,beq_iff_eq]at hp
 exact Good.pick n hp.1.1 (aP9 hp.1.2) hp.2 ho e k
def Fork (P:Program)(N:Nat)(F G:FuncId→Bool)(ops:Array Oper)(n:Nat)(listed:Array Bool)(s:List V)(h:Hp)(K:List V→Hp→Prop):List Nat→Prop
 | []=>True
 |i::l=>(∃o s1 h1,ops[i]? =some o∧StepR P F G ops o s h s1 h1∧DrawG P N F G ops n (listed.setIfInBounds i true) s1 h1 K)∧Fork P N F G ops n listed s h K l
theorem Fork.all : ∀{l:List Nat},Fork P N F G ops n listed s h K l→ ∀i∈l,∃o s1 h1,ops[i]? =some o∧StepR P F G ops o s h s1 h1∧Good P N F G ops K n (listed.setIfInBounds i true) s1 h1
 | [],_,i,hi=>by cases hi
 |j::l,hf,i,hi=>by
  rcases a1v.1 hi with rfl|hi
  ·exact hf.1
  exact Fork.all hf.2 i hi
theorem DrawG.fork (l:List Nat)(hl:Region.ready .any ops listed=l)(hne:l≠ [])(hf:Fork P N F G ops n listed s h K l):DrawG P N F G ops (n+1) listed s h K:=by
 refine .inr fun _=> ?_
 rw[hl]
 exact⟨hne,hf.all⟩
theorem DrawG.gh {s':List V}(hc:aNr ops listed=true)(hg:Ghost N s h s' h')(k:DrawG P N F G ops (n+1) listed s' h' K):DrawG P N F G ops (n+1) listed s h K:=by
 refine .inl ⟨hc,fun A M0 M h0 w0 a w Q hN hM Gr R hQ=> ?_⟩
 obtain⟨t,ht⟩:=Gr.pre
 have hle:N≤M.length:=by rw[←ht];simp[hM]
 obtain⟨M',h1,h2,h3⟩:=hg A M a w hle R
 refine Good.sound hN hM _ _ k ⟨?_,h2.hr,Gr.ext,fun g hg hl=>Gr.live g hg (h3 g hl)⟩ h2 hQ
 have:M0=M'.take N:=by rw[h1,←ht,←hM];simp
 rw[this]
 exact a1C _ _
theorem Fork.nil :Fork P N F G ops n listed s h K []:=trivial
theorem Fork.cons {l:List Nat}{o:Oper}{s1:List V}{h1:Hp}(ho:ops[i]? =some o)(e:StepR P F G ops o s h s1 h1)(k:DrawG P N F G ops n (listed.setIfInBounds i true) s1 h1 K)(r:Fork P N F G ops n listed s h K l):Fork P N F G ops n listed s h K (i::l):=⟨⟨o,s1,h1,ho,e,k⟩,r⟩
def lst (l:List Nat)(n:Nat):Array Bool:=l.foldl (fun a i=>a.setIfInBounds i true) (a19 n false)
theorem DrawG.jn {L:Array Bool}{m:Nat}{s1:List V}{h1:Hp}(k:DrawG P N F G ops m L s1 h1 K)(q:DrawG P N F G ops m L s1 h1 K→DrawG P N F G ops n listed s h K):DrawG P N F G ops n listed s h K:=q k
theorem DrawG.jg {L:Array Bool}{s':List V}(hL:listed=L)(hc:aNr ops L=true)(hg:Ghost N s h s' h')(k:DrawG P N F G ops (n+1) L s' h' K):DrawG P N F G ops (n+1) listed s h K:=by
 subst hL
 exact DrawG.gh hc hg k
theorem aRC :zZ O0 F:=fun _ _ _ _ _ _ hh=>by cases hh
theorem aSR :aSD O0 G:=fun _ _ _ _ _ _ hh=>by cases hh
theorem aVQ :aUO O0 F:=fun _ _ _ _ _ _ hh=>by cases hh
theorem gS (hs:cN P O0 ops ⟨some t,op,ty,pos,aft,gd⟩ (aG m fr) h=some (v,h')):StepR P F G ops ⟨some t,op,ty,pos,aft,gd⟩ (aG m fr) h (aG m ((t,v)::fr)) h':=
 ⟨O0,aGB,aRC,aSR,aVQ,by rw[cQ,hs];simp only[a0N];rw[aEk]⟩
theorem gN (hs:cN P O0 ops ⟨none,op,ty,pos,aft,gd⟩ (aG m fr) h=some (v,h')):StepR P F G ops ⟨none,op,ty,pos,aft,gd⟩ (aG m fr) h (aG m fr) h':=
 ⟨O0,aGB,aRC,aSR,aVQ,by rw[cQ,hs];rfl⟩
theorem gC {f:FuncId}{xs:List V}(hc:Fn P f h xs v h')(hF:F f=false)(hG:G f=true→ ∃news,h'=h++news)(hs:cN P (aIl f h xs v h') ops ⟨some t,op,ty,pos,aft,gd⟩ (aG m fr) h=some (v,h')):
  StepR P F G ops ⟨some t,op,ty,pos,aft,gd⟩ (aG m fr) h (aG m ((t,v)::fr)) h':=by
 refine⟨aIl f h xs v h',aNB hc, ?_, ?_, ?_,by rw[cQ,hs];simp only[a0N];rw[aEk]⟩
 ·intro k h1 args r1 h2 hk hh
  unfold aIl at hh
  split at hh
  ·rename_i he
   rw[he.1,hF]at hk;cases hk
  cases hh
 ·intro k h1 args r1 h2 hk hh
  unfold aIl at hh
  split at hh
  ·rename_i he
   obtain⟨rfl,rfl,rfl⟩:=he
   simp only[a0I,a0V]at hh
   rw[←hh.2];exact hG hk
  cases hh
 intro k h1 args r1 h2 hk hh
 unfold aIl at hh
 split at hh
 ·rename_i he
  rw[he.1,hF]at hk;cases hk
 cases hh
open Classical in
noncomputable def aNE (f:FuncId)(xs:List V)(r:V):vR:=fun k h1 xs1=>if k=f∧xs1=xs then some (r,h1)else none
theorem aLS {f:FuncId}{xs:List V}{r:V}:aNE f xs r f h xs=some (r,h):=by simp[aNE]
theorem gU {f:FuncId}{xs:List V}(hc: ∀h,Fn P f h xs v h)(hG:G f=false)(hs:cN P (aNE f xs v) ops ⟨some t,op,ty,pos,aft,gd⟩ (aG m fr) h=some (v,h)):
  StepR P F G ops ⟨some t,op,ty,pos,aft,gd⟩ (aG m fr) h (aG m ((t,v)::fr)) h:=by
 have key: ∀{k h1 args r1 h2},aNE f xs v k h1 args=some (r1,h2)→k=f∧args=xs∧r1=v∧h2=h1:=by
  intro k h1 args r1 h2 hh
  unfold aNE at hh
  split at hh
  ·rename_i he
   simp only[a0I,a0V]at hh
   exact⟨he.1,he.2,hh.1.symm,hh.2.symm⟩
  cases hh
 refine⟨aNE f xs v, ?_, ?_, ?_, ?_,by rw[cQ,hs];simp only[a0N];rw[aEk]⟩
 ·intro k h1 args r1 h2 hh
  obtain⟨rfl,rfl,rfl,rfl⟩:=key hh
  exact hc _
 ·intro k h1 args r1 h2 _ hh
  exact(key hh).2.2.2
 ·intro k h1 args r1 h2 hk hh
  rw[(key hh).1,hG]at hk;cases hk
 intro k h1 args r1 h2 _ hh h3
 obtain⟨rfl,rfl,rfl,_⟩:=key hh
 exact aLS
def cD (l:List Nat):FuncId→Bool:=fun f=>l.elem f
end
theorem AB.rd {P:Program}{N:Nat}{Q:Ex→List V→Hp→Prop}{s:List V}{h:Hp}(F G:FuncId→Bool)(hm:P.follows .mixedOrders=true){id:Nat}{l:List Oper}(hr:DrawG P N F G l.toArray l.toArray.size (a19 l.toArray.size false) s h (Q .normal)):AB P N (.region id l.toArray true) Q s h:=by
 intro A M0 M h0 w0 a w hN hM Gr R
 refine wp_region_any hm ?_
 have R':Rel A M s h a w.drew:=⟨R.hr.drew,SR.keep (Grow.drew R.hr) R.sr,R.defers⟩
 exact Good.sound hN hM _ _ hr (Gr.trans (Grow.drew R.hr)) R' (fun s' h' M' a' w' hk G' R''=>⟨.normal,s',h',M',rfl,hk,G',R''⟩)
def Conv (h h':Hp)(x y:V):Prop:= ∀(A:Nat→Prop)(M:List (Option Nat))(w:World)(v:Value),HR A M h w→VR (Xs A M h) M w x v→VR (Xs A M h') M w y v
def Convs (h h':Hp):List V→List V→Prop
 | [],[]=>True
 |x::xs,y::ys=>Conv h h' x y∧Convs h h' xs ys
 |_,_=>False
def Sub (h h':Hp):Prop:= ∀(b:Nat)(B':Blk),h'[b]? =some (some B')→ ∃B,h[b]? =some (some B)
theorem Sub.live {h h':Hp}(hs:Sub h h'){M:List (Option Nat)}{g:Nat}(hl:cX M h' g):cX M h g:=by
 obtain⟨b,B,hb,hm⟩:=hl
 obtain⟨C,hc⟩:=hs b B hb
 exact⟨b,C,hc,hm⟩
theorem Sub.xs {h h':Hp}(hs:Sub h h'){A:Nat→Prop}{M:List (Option Nat)}{g:Nat}(hl:Xs A M h' g):Xs A M h g:=hl.elim .inl (fun k=> .inr (hs.live k))
theorem Conv.same {h h':Hp}(hs:Sub h h'){x:V}:Conv h h' x x:=fun _ _ _ _ _ hv=>hv.avoid (fun _ _ hx=>hs.xs hx)
theorem Conv.any {h h':Hp}{x:V}:Conv h h' x .any:=fun _ _ _ _ _ _=>by unfold VR;trivial
theorem Convs.len {h h':Hp}: ∀{xs ys:List V},Convs h h' xs ys→xs.length=ys.length
 | [],[],_=>rfl
 |_::_,_::_,k=>by simp[Convs.len k.2]
 | [],_::_,k=>k.elim
 |_::_,[],k=>k.elim
theorem Convs.sound {h h':Hp}{A:Nat→Prop}{M:List (Option Nat)}{w:World}(H:HR A M h w): ∀{xs ys:List V}{vs:List Value},Convs h h' xs ys→VCells (Xs A M h) M w xs vs→VCells (Xs A M h') M w ys vs
 | [],[],vs,_,hv=>by unfold VCells at *; exact hv
 |x::xs,y::ys,vs,k,hv=>by
  unfold VCells at *
  obtain⟨v,rest,e1,e2,e3⟩:=hv
  exact⟨v,rest,e1,k.1 A M w v H e2,Convs.sound H k.2 e3⟩
 | [],_::_,_,k,_=>k.elim
 |_::_,[],_,k,_=>k.elim
theorem Convs.same {h h':Hp}(hs:Sub h h'): ∀{xs:List V},Convs h h' xs xs
 | []=>trivial
 |_::_=>⟨Conv.same hs,Convs.same hs⟩
theorem Convs.nil {h h':Hp}:Convs h h' [] []:=trivial
theorem Convs.cons {h h':Hp}{x y:V}{xs ys:List V}(a:Conv h h' x y)(k:Convs h h' xs ys):Convs h h' (x::xs) (y::ys):=⟨a,k⟩
theorem Conv.agg {h h':Hp}{xs ys:List V}(k:Convs h h' xs ys):Conv h h' (.agg xs) (.agg ys):=fun A M w v H hv=>by
 unfold VR at *
 obtain⟨vs,e,hc⟩:=hv
 exact⟨vs,e,Convs.sound H k hc⟩
theorem Conv.tup {h h':Hp}{xs ys:List V}(k:Convs h h' xs ys):Conv h h' (.tup xs) (.tup ys):=fun A M w v H hv=>by
 unfold VR at *
 obtain⟨vs,e,hc⟩:=hv
 exact⟨vs,e,Convs.sound H k hc⟩
def V.shut :V→Bool
 | .sc _ | .row _ _ _ | .eptr _ _ _=>true
 |_=>false
theorem VR.shut {X:Nat→Prop}{M:List (Option Nat)}{w:World}{x:V}{v:Value}(hx:x.shut=true)(h:VR X M w x v):VR X [] w x v:=by
 cases x<;>first|(unfold VR at *; exact h)|(simp[V.shut]at hx)
theorem aPy {α:Type}{p:V→Bool}{E:α→V}{l:List α}(h: ∀x,p (E x)=true):(l.map E).all p=true:=by
 rw[a0K];intro y hy
 simp only[a1K]at hy
 obtain⟨x,_,rfl⟩:=hy
 exact h x
theorem aSC {x:V}(h:x.one=true):x.okElem 1=true:=by
 have hc:x.cells=[x]:=by cases x<;>first|rfl|simp[V.one]at h
 simp[V.okElem,V.flatOk,hc,h]
theorem aML {X:Nat→Prop}{w:World}{g:Nat}{cs:Array Value}{e:TypeId}{f:Nat×Nat}(hw:w.heap[g]? =some (.cells cs e f)): ∀(xs:List V)(i:Nat),(∀c∈xs,c.one=true∧c.shut=true)→VCells X [] w xs ((cs.toList.drop i).take xs.length)→VRow X [] w 1 xs ⟨g,i,none⟩
 | [],i,_,_=>by unfold VRow;trivial
 |x::xs,i,ho,hv=>by
  unfold VCells at hv
  obtain⟨v,rest,e1,e2,e3⟩:=hv
  have hi:i<cs.toList.length:=by
   rcases a08 i cs.toList.length with hl|hl
   ·exact hl
   rw[a0X hl]at e1;simp at e1
  rw[a0Y hi]at e1
  simp only[a05,a1R,List.cons.injEq]at e1
  obtain⟨ev,er⟩:=e1
  have h1:=(ho x (by simp)).1
  have hcell:v.cells= #[v]:=eC (e2.oneCell h1)
  unfold VRow
  refine⟨⟨v,e2,by rw[hcell];rfl, ?_⟩, ?_⟩
  ·rw[hcell]
   intro j u hu
   have hj:j=0:=by have:=(a0S.1 hu).1;simp at this;exact this
   subst hj
   simp at hu
   subst hu
   simp only[Addr.add,if_true]
   unfold World.cell?
   rw[hw]
   subst ev
   simp at hi
   simp[hi]
  have:(⟨g,i,none⟩:Addr).add 1=⟨g,i+1,none⟩:=by simp[Addr.add]
  rw[this]
  exact aML hw xs (i+1) (fun c hc=>ho c (by simp[hc])) (by rw[er];exact e3)
theorem Conv.row {h h':Hp}(hs:Sub h h'){b n:Nat}{e:TypeId}{cs:List V}{ag:Bool}(hb:h[b]? =some (some ⟨e,cs⟩))(hb':h'[b]? =some none)(hsh:cs.all V.shut=true)(hn:n=cs.length):Conv h h' (.sl b 0 n 1 ag) (.row none 1 cs):=by
 intro A M w v H hv
 obtain⟨hone,hcase⟩:=H.blk b _ hb
 unfold VR at hv⊢
 rcases hv with⟨hm,rfl,h0,_⟩|⟨g,cap,e',sz,hm,rfl,h1,_,h3,hshp,_⟩
 ·have:cs=[]:=a0O (by omega)
  subst this
  exact⟨none,0,rfl,a1e _,fun _=>rfl,(fun b hb=>by cases hb),by simp,fun hne=>absurd rfl hne⟩
 rcases hcase with⟨hm',_⟩|⟨g',bM,hm',hA,hw,hle,hcs⟩
 ·rw[hm]at hm';cases hm'
 rw[hm]at hm'
 injection hm' with hm'
 injection hm' with hm'
 subst hm'
 obtain⟨f,_,hw⟩:=hw.inCells hshp
 refine⟨some ⟨g,0,none⟩,cap,by rw[hn],by omega,fun hh=>(by cases hh),(fun b hb=>by cases hb),fun c hc=>aSC (hone c hc),fun _=>⟨⟨g,0,none⟩,rfl,h3, ?_,rfl, ?_⟩⟩
 ·rintro(ha|⟨c,C,hc,hmc⟩)
  ·exact hA ha
  obtain⟨C',hc'⟩:=hs c C hc
  have:=H.inj c b C' _ g hc' hb hmc hm
  subst this
  rw[hb']at hc;cases hc
 refine aML hw cs 0 (fun c hc=>⟨hone c hc,a0K.1 hsh c hc⟩) ?_
 rw[a09]
 refine VCells.mk (by rw[a04];simp only[Array.length_toList];dsimp only at hle;omega) (fun i c u hc hu=> ?_)
 obtain⟨u',hu',hr⟩:=hcs.get hc
 dsimp only at hu'
 rw[hu]at hu'
 injection hu' with hu'
 subst hu'
 exact(hr.shut (a0K.1 hsh c (a0Q hc))).avoid (fun _ _ hx=>hs.xs hx)
def FCv (h h':Hp)(fr:List (Nat×V)):List (Nat×V)→Prop
 | []=>True
 |(t,y)::r=>(∃x,eP fr t=some x∧Conv h h' x y)∧FCv h h' fr r
theorem FCv.nil {h h':Hp}{fr:List (Nat×V)}:FCv h h' fr []:=trivial
theorem FCv.cons {h h':Hp}{fr r:List (Nat×V)}{t:Nat}{x y:V}(hl:eP fr t=some x)(hc:Conv h h' x y)(k:FCv h h' fr r):FCv h h' fr ((t,y)::r):=⟨⟨x,hl,hc⟩,k⟩
theorem FCv.get {h h':Hp}{fr:List (Nat×V)}: ∀{fr':List (Nat×V)},FCv h h' fr fr'→ ∀{t:Nat}{y:V},eP fr' t=some y→ ∃x,eP fr t=some x∧Conv h h' x y
 | [],_,t,y,hy=>by cases hy
 |(u,z)::r,k,t,y,hy=>by
  simp only[eP]at hy
  cases hb:a1y u t with
  |true=>
   rw[hb]at hy
   have:=a01 hb
   subst this
   simp only[cond_true,a0I]at hy
   subst hy
   exact k.1
  |false=>rw[hb]at hy;exact k.2.get hy
def HCv (H H':Hp):Hp→Hp→Prop
 | [],[]=>True
 |_::h,none::h'=>HCv H H' h h'
 |some B::h,some B'::h'=>(B.e=B'.e∧Convs H H' B.cells B'.cells∧B'.cells.all V.one=true)∧HCv H H' h h'
 |_,_=>False
theorem HCv.get {H H':Hp}: ∀{h h':Hp},HCv H H' h h'→ ∀{j:Nat}{B':Blk},h'[j]? =some (some B')→ ∃B,h[j]? =some (some B)∧B.e=B'.e∧Convs H H' B.cells B'.cells∧B'.cells.all V.one=true
 | [],[],_,j,B',hj=>by simp at hj
 |_::h,none::h',hh,j,B',hj=>by
  cases j with
  |zero=>simp at hj
  |succ j=>simp only[a0L]at hj ⊢; exact HCv.get (h:=h) hh hj
 |some B::h,some C::h',hh,j,B',hj=>by
  cases j with
  |zero=>
   simp only[a0T,a0I]at hj
   subst hj
   exact⟨B,rfl,hh.1.1,hh.1.2.1,hh.1.2.2⟩
  |succ j=>simp only[a0L]at hj ⊢; exact HCv.get (h:=h) hh.2 hj
 | [],_::_,hh,_,_,_=>hh.elim
 |_::_,[],hh,_,_,_=>by unfold HCv at hh;exact hh.elim
 |none::_,some _::_,hh,_,_,_=>hh.elim
theorem HCv.len {H H':Hp}: ∀{h h':Hp},HCv H H' h h'→h.length=h'.length
 | [],[],_=>rfl
 |_::h,none::h',hh=>by simp[HCv.len (h:=h) hh]
 |some B::h,some C::h',hh=>by simp[HCv.len (h:=h) hh.2]
 | [],_::_,hh=>hh.elim
 |_::_,[],hh=>by unfold HCv at hh;exact hh.elim
 |none::_,some _::_,hh=>hh.elim
theorem HCv.nil {H H':Hp}:HCv H H' [] []:=trivial
theorem HCv.dead {H H' h h':Hp}{o:Option Blk}(k:HCv H H' h h'):HCv H H' (o::h) (none::h'):=by cases o<;>exact k
theorem HCv.live {H H' h h':Hp}{e:TypeId}{cs cs':List V}(hc:Convs H H' cs cs')(ho:cs'.all V.one=true)(k:HCv H H' h h'):HCv H H' (some ⟨e,cs⟩::h) (some ⟨e,cs'⟩::h'):=⟨⟨rfl,hc,ho⟩,k⟩
theorem Ghost.conv0 {N n:Nat}{fr fr':List (Nat×V)}{h h':Hp}(hf: ∀t y,eP fr' t=some y→ ∃x,eP fr t=some x∧Conv h h' x y)(hh:HCv h h' h h'):Ghost N (aG n fr) h (aG n fr') h':=by
 intro A M a w hN R
 have hs:Sub h h':=fun b B' hb=>by obtain⟨B,hB,_⟩:=hh.get hb;exact⟨B,hB⟩
 refine⟨M,rfl,⟨⟨by rw[←hh.len];exact R.hr.len,R.hr.alt, ?_, ?_,R.hr.glob.avoid fun g _ hx=>hx.elim .inl (fun hl=> .inr (hs.live hl))⟩, ?_,R.defers⟩,fun g hl=>hs.live hl⟩
 ·intro b B' hb
  obtain⟨B,hB,he,hc,ho⟩:=hh.get hb
  refine⟨a0K.1 ho, ?_⟩
  have hl:=hc.len
  rcases(R.hr.blk b B hB).2 with⟨hn,hc0⟩|⟨g,cs,hg,hA,hw,hle,hcs⟩
  ·exact .inl ⟨hn,a0O (by rw[←hl,hc0];rfl)⟩
  refine .inr ⟨g,cs,hg,hA,by rw[←he,←hl];exact hw,by rw[←hl];exact hle, ?_⟩
  rw[←hl]
  exact Convs.sound R.hr hc hcs
 ·intro b b' B B' g hb hb' hm hm'
  obtain⟨C,hC,_⟩:=hh.get hb
  obtain⟨C',hC',_⟩:=hh.get hb'
  exact R.hr.inj b b' C C' g hC hC' hm hm'
 exact aHW R.sr (fun t y hy=>by
  obtain⟨x,hx,hl⟩:=hf t y hy
  exact⟨x,hx,fun v hv=>hl A M w v R.hr hv⟩)
theorem Ghost.conv {N n:Nat}{fr fr':List (Nat×V)}{h h':Hp}(hf:FCv h h' fr fr')(hh:HCv h h' h h'):Ghost N (aG n fr) h (aG n fr') h':=Ghost.conv0 (fun _ _ hy=>hf.get hy) hh
def aVb :Hp→Hp→Bool
 |_,[]=>true
 |some _::h,some _::h'=>aVb h h'
 |_::h,none::h'=>aVb h h'
 |_,_=>false
theorem aL0 : ∀{h h':Hp},aVb h h'=true→Sub h h'
 |h,[],_,b,B',hb=>by simp at hb
 |some B::h,some C::h',k,b,B',hb=>by
  cases b with
  |zero=>exact⟨B,rfl⟩
  |succ b=>simp only[a0L]at hb ⊢; exact aL0 (h:=h) k b B' hb
 |o::h,none::h',k,b,B',hb=>by
  cases b with
  |zero=>simp at hb
  |succ b=>
   simp only[a0L]at hb⊢
   refine aL0 (h:=h) (h':=h') ?_ b B' hb
   cases o<;>exact k
 |none::_,some _::_,k,_,_,_=>by cases k
 | [],o::_,k,_,_,_=>by cases o<;>cases k
def bytesOf (s:ByteArray):List Int:=s.data.toList.map fun b=>(b.toNat:Int)
def stb (s:ByteArray):Option (List Int):=if s.size≤lim then some (bytesOf s)else none
theorem z8 (s:ByteArray):(bytesOf s).length=s.size:=by unfold bytesOf;rw[a0Z];rfl
def aU3 (s:ByteArray)(i:Int):Option Int:=if 0≤i then(s[i.toNat]?).map (fun b=>(b.toNat:Int))else none
section
variable {P:Program}{N n:Nat}{ops:Array Oper}{l:List Oper}{fr:List (Nat×V)}{h h':Hp}{K:List V→Hp→Prop}
theorem ixT {t:TypeId}{s:ByteArray}{k:IntKind}{j v:Int}{sz by_:Nat}{z:Value}(ht:aJ P t=some ⟨.string,sz,by_,z⟩)(hx:aU3 s j=some v):aBL P t (.sc (.string s)) (.sc (.int k j))=some (.sc (.int .u8 v)):=by
 unfold aU3 at hx
 split at hx
 ·rename_i h0
  simp only[a0P]at hx
  obtain⟨b,hb,rfl⟩:=hx
  simp[aBL,ht,pL,h0,hb]
 cases hx
theorem OpsW.does {o:Oper}{v:V}{s:List V}(hw:kR ops o s=some true)(hD: ∀(A:Nat→Prop) (M:List (Option Nat)) (a:Act) (w:World),HR A M h w→SR (Xs A M h) M w s a→Does P o a w A M h v h')
  (hk:OpsW P N ops l (g8 s o.dst v) h' K):OpsW P N ops (o::l) s h K:=fun k hl A M0 M h0 w0 a w Q hN hM G R hQ=>by
 have h0':ops[k]? =some o:=by simpa using (hl 0).symm
 simp only[a05,a1D]
 rw[wpOps_cons]
 unfold wpOp
 rw[h0']
 simp only
 rw[aFU R.sr hw,if_pos rfl]
 refine .inl (hD A M a w R.hr R.sr _ _ fun v' w' M' G' hv=> ?_)
 exact hk (k+1) (fun j=>by have:=hl (j+1);simpa[a1T,a1G 1 j]using this) A M0 M' h0 w0 _ w' Q hN hM (G.trans G') ⟨G'.hr,(SR.keep G' R.sr).put o.dst hv,by rw[nA];exact R.defers⟩ hQ
theorem aO5 {X:Nat→Prop}{M:List (Option Nat)}{w:World}(s:ByteArray):VCells X M w ((bytesOf s).map (eI .u8)) (s.data.toList.map fun b=>Value.int .u8 b.toNat):=by
 refine VCells.mk (by simp[bytesOf]) (fun i c v hc hv=> ?_)
 simp only[bytesOf,a1Y,a00,a0P]at hc hv
 obtain⟨b,hb,rfl⟩:=hc
 obtain⟨b',hb',rfl⟩:=hv
 rw[hb]at hb'
 injection hb' with hb'
 subst hb'
 unfold VR;rfl
theorem aXC {t:Nat}{a b e:TypeId}{x:Operand}{s:ByteArray}{r:List Int}{i s1 b1 s2 b2 s3 b3:Nat}{z1 z2 z3:Value}{ty:TypeId}{pos:String}{aft:Array Edge}(hx:bS n fr x=some (.sc (.string s)))
  (ha:aJ P a=some ⟨.string,s1,b1,z1⟩) (hb:aJ P b=some ⟨.slice e,s2,b2,z2⟩) (he:aJ P e=some ⟨.int .u8,s3,b3,z3⟩) (hs:stb s=some r) (hl:h.length=i) (hh:h++[some ⟨e,r.map (eI .u8)⟩]=h')
  (k:OpsW P N ops l (aG n ((t,.sl i 0 r.length 1 false)::fr)) h' K):OpsW P N ops (⟨some t,.convert a b x,ty,pos,aft,none⟩::l) (aG n fr) h K:=by
 subst hl hh
 unfold stb at hs
 split at hs
 ·rename_i hsz
  injection hs with hs
  subst hs
  refine OpsW.does (v:= .sl h.length 0 (bytesOf s).length 1 false) rfl ?_ (by dsimp only;rw[aEk];exact k)
  intro A M ac w H S
  have hev:ac.eval x= .string s:=by have:=b7 H.glob S (cO hx);unfold VR at this;exact this
  have hge:=grownCap_ge w s.size 0 e
  have hcm:grownCap w s.size 0 e≤maxLen:=grownCap_le_maxLen w s.size 0 e (by unfold lim at hsz;simp only[maxLen];omega)
  have hrow:(bytesRow s (grownCap w s.size 0 e)).size=grownCap w s.size 0 e:=by
   simp only[bytesRow,Array.size_append,Array.size_map,Array.size_replicate]
   show s.size+_=_
   omega
  have Gd:=Grow.drew H
  have G:=Gd.trans (Grow.allocF Gd.hr e ((bytesOf s).map (eI .u8)) (bytesRow s (grownCap w s.size 0 e)) (by rw[hrow,List.length_map,z8];exact hge) (by
   have:(bytesRow s (grownCap w s.size 0 e)).toList.take ((bytesOf s).map (eI .u8)).length=s.data.toList.map fun b=>Value.int .u8 b.toNat:=by
    simp only[bytesRow,Array.toList_append,Array.toList_map]
    rw[show((bytesOf s).map (eI .u8)).length=(s.data.toList.map fun b=>Value.int .u8 b.toNat).length by simp[bytesOf]]
    exact List.take_left
   rw[this]
   exact aO5 s) (fun c hc=>by
    simp only[List.mem_map]at hc
    obtain⟨y,_,rfl⟩:=hc
    rfl) _ (.inr rfl))
  refine Does.value (sem:=convert a b (.string s)) (by simp[execOp,hev]) ⟨_,_,_,run_bytes_of_string w a b e s (cL ha).1 (cL hb).1 (cL he).1,G, ?_⟩
  unfold VR
  refine .inr ⟨w.heap.size,grownCap w s.size 0 e,e,grownCap w s.size 0 e,by rw[←H.len];simp,by rw[z8],by rw[z8];exact hge,hcm,by omega, ?_,by omega⟩
  unfold World.shape?
  rw[show(w.drew.alloc (.cells (bytesRow s (grownCap w s.size 0 e)) e ((bytesRow s (grownCap w s.size 0 e)).size,(bytesRow s (grownCap w s.size 0 e)).size+1))).heap[w.heap.size]? =some (.cells (bytesRow s (grownCap w s.size 0 e)) e ((bytesRow s (grownCap w s.size 0 e)).size,(bytesRow s (grownCap w s.size 0 e)).size+1))from heap_alloc_new w.drew _]
  simp only[hrow]
 cases hs
end
def bM {α:Type}(n:Nat)(l:List α):Option (List α):=if l.length=n then some l else none
def cB {α:Type}(n:Nat)(l:List α)(i:Int):Option α:=if i<n then aZ l i else none
def arp {α:Type}(n:Nat)(l:List α):Option (List α):=if n≤l.length then some (l.take n)else none
def aHw {α:Type}(n:Nat)(l:List (List α)):Option (List (List α)):=if l.all (fun x=>x.length == n)=true then some l else none
theorem aIT {α:Type}{n:Nat}{l m:List (List α)}(h:aHw n l=some m): ∀x∈l,x.length=n:=by
 unfold aHw at h
 split at h
 ·rename_i hh
  intro x hx
  exact beq_iff_eq.1 (a0K.1 hh x hx)
 cases h
theorem aT {α:Type}{n:Nat}{l m:List α}(h:bM n l=some m):l.length=n:=by
 unfold bM at h;split at h
 ·assumption
 cases h
theorem aRB {α:Type}{n:Nat}{l m:List α}(h:bM n l=some m)(hn:a2e 1 n=true):a2e 1 l.length=true:=by rw[aT h];exact hn
theorem bN {α:Type}{n:Nat}{l m:List α}(h:arp n l=some m):m.length=n:=by
 unfold arp at h;split at h
 ·injection h with h;subst h;simp;omega
 cases h
theorem aRY {α:Type}{n:Nat}{l m:List α}(h:arp n l=some m)(hn:a2e 1 n=true):a2e 1 m.length=true:=by rw[bN h];exact hn
theorem fO {α:Type}{n:Nat}{l:List α}{i:Int}{y:α}(h:cB n l i=some y):aZ l i=some y:=by
 unfold cB at h;split at h
 ·exact h
 cases h
theorem aKq {α:Type}{n:Nat}{l:List α}{i:Int}{y:α}(h:cB n l i=some y):i<n:=by
 unfold cB at h;split at h
 ·assumption
 cases h
section
variable {P:Program}{h h':Hp}{t e:TypeId}{ti:TI}{i off b N:Nat}{v:V}{α:Type}{E:α→V}{l m:List α}{y:α}{k:IntKind}{j:Int}{sz by_:Nat}{z:Value}{ag:Bool}
theorem iaB (ht:aJ P t=some ⟨.array N e,sz,by_,z⟩)(he:aJ P e=some ti)(h1:ti.size=1)(hx:cB N l j=some y):g6 P t (.ptr b 0) (.sc (.int k j))=some (.ptr b j.toNat):=by
 obtain⟨h2,h3,_⟩:=jF (fO hx)
 simp[g6,ht,pL,he,h1,h2,aKq hx]
theorem iaG {es:List V}(ht:aJ P t=some ⟨.array N e,sz,by_,z⟩)(he:aJ P e=some ti)(h1:ti.size=1)(hx:cB N l j=some y):g6 P t (.eptr es 0 0) (.sc (.int k j))=some (.eptr es 0 j.toNat):=by
 obtain⟨h2,h3,_⟩:=jF (fO hx)
 simp[g6,ht,pL,he,h1,h2,aKq hx]
theorem ixA (ht:aJ P t=some ⟨.array N e,sz,by_,z⟩)(he:aJ P e=some ti)(h1:ti.size=1)(hd:b4 ti.desc=false)(hx:cB N l j=some y):aBL P t (.agg (l.map E)) (.sc (.int k j))=some (E y):=by
 obtain⟨h2,h3,h4⟩:=jF (fO hx)
 simp[aBL,ht,pL,he,h1,h2,aKq hx,gT,hd,h4]
theorem ldG (ht:aJ P t=some ti)(hd:b4 ti.desc=false)(hx:aZ l j=some y):eR P t h (.eptr [.agg (l.map E)] 0 j.toNat)=some (E y):=by
 obtain⟨_,_,h3⟩:=jF hx
 simp[eR,V.cells,gT,ht,hd,h3]
theorem ldA (ht:aJ P t=some ⟨.array N e,sz,by_,z⟩)(hsz:sz=N)(hb:h[b]? =some (some ⟨i,l.map E⟩))(hl:l.length=N):eR P t h (.ptr b 0)=some (.agg (l.map E)):=by
 subst hsz
 simp only[eR,hb,gT,ht,b4,if_true,a09,a0Z]
 rw[if_pos (by omega),a0J (by simp;omega)]
theorem aYU (ht:aJ P t=some ⟨.array N e,sz,by_,z⟩)(hsz:sz=N)(hl:l.length=N):eR P t h (.eptr [.agg (l.map E)] 0 0)=some (.agg (l.map E)):=by
 subst hsz
 simp only[eR,a0T,V.cells,gT,ht,b4,if_true,a09,a0Z]
 rw[if_pos (by omega),a0J (by simp;omega)]
theorem stA (ht:aJ P t=some ⟨.array N e,sz,by_,z⟩)(hsz:sz=N)(hb:h[b]? =some (some ⟨i,l.map E⟩))(hE: ∀x,(E x).one=true)(hl:l.length=N)(hm:m.length=N)(hh:h.set b (some ⟨i,m.map E⟩)=h'):zX P t h (.ptr b 0) (.agg (m.map E))=some h':=by
 subst hh hsz
 simp only[zX,ht,hb]
 rw[if_pos ⟨by simp[V.flatOk,V.cells,hE],by simp[V.cells,hm],by simp[hl]⟩]
 congr 4
 unfold splice
 simp only[V.cells,a1O,a1I,a1J,a0Z]
 rw[a0X (by simp;omega),a1q]
theorem slA (ht:aJ P t=some ⟨.array N e,sz,by_,z⟩)(he:aJ P e=some ti)(h1:ti.size=1)(hag:b4 ti.desc=ag)(hb:h[b]? =some (some ⟨i,l.map E⟩))(hl:l.length=N)(hN:0<N∧N≤lim):iI P t h (.ptr b 0) none none=some (.sl b 0 N 1 ag):=by
 subst hag
 simp only[iI,ht,he,lW,vB,hb]
 rw[if_pos ⟨by omega,hN.2,a1z _,by omega,a1z _,by simp[h1,hl]⟩]
 simp[h1]
theorem slE (ht:aJ P t=some ⟨.array N e,sz,by_,z⟩)(he:aJ P e=some ti)(h1:ti.size=1)(hag:b4 ti.desc=false)(hl:l.length=N)(hN:0<N):iI P t h (.eptr [.agg (l.map E)] 0 0) none none=some (.row none 1 (l.map E)):=by
 simp only[iI,ht,he,lW,vB,a0T]
 rw[if_pos ⟨h1,hag,a1z _,by omega,a1z _,by simp[V.cells,hl]⟩]
 simp[V.cells,hl,a0J]
theorem apR {nl:Option Bool}(ht:aJ P t=some ⟨.array N e,sz,by_,z⟩)(hE: ∀x,(E x).one=true)(hN:0<N)(hx:arp N l=some m):aIH P t (.row nl 1 (l.map E))=some (.eptr [.agg (m.map E)] 0 0):=by
 unfold arp at hx
 split at hx
 ·injection hx with hx
  subst hx
  simp only[aIH,ht]
  rw[if_pos ⟨trivial,hN,by simpa using by assumption,by simp[hE]⟩,a1o]
 cases hx
end
section
variable {P:Program}{O:vR}{n:Nat}{fr:List (Nat×V)}{h h':Hp}{ty:TypeId}{pos:String}{aft:Array Edge}{d:Option Tmp}{g:Option (Nat×Bool)}{x:Operand}{a v:V}
theorem aZF {t:TypeId}(hx:bS n fr x=some a)(hv:aIH P t a=some v):bQ P O ⟨d,.sliceToArrayPointer t x,ty,pos,aft,g⟩ (aG n fr) h=some (v,h):=by simp[bQ,cO hx,hv]
end
theorem V.le_arr {α:Type}{E:α→V}{f:Nat→Nat}{vn:Nat→Bool}{l:List α}(hE: ∀x,(E x).rn f=E x):V.le vn (.agg (l.map E)) ((V.agg (l.map E)).rn f):=by
 have:(V.agg (l.map E)).rn f=V.agg (l.map E):=by simp only[V.rn,pX hE]
 rw[this];exact V.le_refl _ _
theorem aPD {k:IntKind}(l:List Int):V.rfs (l.map (eI k))=true:=aFk (fun _=>rfl) l
theorem aQY (l:List Bool):V.rfs (l.map eB)=true:=aFk (fun _=>rfl) l
abbrev eA {α:Type}(E:α→V)(l:List α):V:= .agg (l.map E)
theorem aZH {α:Type}{E:α→V}{l:List α}(h: ∀x,(E x).one=true):(V.agg (l.map E)).flatOk=true:=by simp[V.flatOk,V.cells,h]
theorem aIR {P:Program}{h:Hp}{t e:TypeId}{N sz by_:Nat}{z:Value}{α:Type}{E:α→V}{l:List (List α)}{y:List α}{j:Int}(ht:aJ P t=some ⟨.array N e,sz,by_,z⟩)(hsz:sz=N)(hx:aZ l j=some y)(hl:y.length=N):eR P t h (.eptr (l.map (eA E)) j.toNat 0)=some (.agg (y.map E)):=by
 subst hsz
 obtain⟨_,_,h3⟩:=jF hx
 simp only[eR,a00,h3,a0N,V.cells,gT,ht,b4,if_true,a09,a0Z]
 rw[if_pos (by omega),a0J (by simp;omega)]
section
variable {P:Program}(t:TypeId)(xo yo:Operand)
theorem bJ {α β:Type}(s:Sem α)(f:α→Sem β){a:α}(h:aP P s=some a):aP P (s >>= f)=aP P (f a):=by
 show aP P (Sem.bind s f)=_
 induction s with
 |pure x=>simp only[aP,a0I]at h;subst h;rfl
 |program k ih=>exact ih P h
 |mark m k ih=>exact ih h
 |_=>simp[aP]at h
theorem cU {t:TypeId}{ti:TI}(ht:aJ P t=some ti):aP P (underlying t)=some ti.desc:=by
 have h1:=(cL ht).1
 show aP P (match P.underlying t with|some d=>pure d|none=>stuck "no such type")=_
 rw[h1];rfl
end
section
variable {P:Program}
theorem vS {t:TypeId}{ti:TI}(ht:aJ P t=some ti):aP P (sizeOf t)=some ti.size:=by
 obtain⟨_,i,h1,h2,_⟩:=cL ht
 have:aP P (typeInfo t)=some i:=by
  show aP P (match P.info? t with|some i=>pure i|none=>stuck "no such type")=_
  rw[h1];rfl
 unfold sizeOf
 rw[bJ _ _ this,←h2];rfl
theorem aEt {t:TypeId}{ti:TI}(ht:aJ P t=some ti)(hd:b4 ti.desc=false){cs:Array Value}{off:Nat}{v:Value}(hv:cs[off]? =some v):aP P (part t cs off)=some v:=by
 unfold part
 have hu:=cU ht
 have h1:aP P (isAgg t)=some false:=by
  unfold isAgg
  rw[bJ _ _ hu]
  cases hh:ti.desc<;>first|rfl|(rw[hh]at hd;simp[b4]at hd)
 rw[bJ _ _ h1]
 simp only[a0W,if_false,hv]
 rfl
theorem aOa {t:TypeId}{k k':IntKind}{sz by_:Nat}{z:Value}(ht:aJ P t=some ⟨.int k',sz,by_,z⟩)(d:Nat)(a b:Int):aP P (Op.equalIn (d+1) t (.int k a) (.int k b))=some (a == b):=by
 rw[Op.equalIn,bJ _ _ (cU ht)]
 simp only[if_true]
 rfl
theorem aOM {t e:TypeId}{k k':IntKind}{N sz by_ sz' by':Nat}{z z':Value}(ht:aJ P t=some ⟨.array N e,sz,by_,z⟩)(he:aJ P e=some ⟨.int k',sz',by',z'⟩)(h1:sz'=1){l m:List Int}(hl:l.length=N)(hm:m.length=N)(d:Nat):
  aP P (Op.equalIn (d+2) t (.agg (l.map (Value.int k)).toArray) (.agg (m.map (Value.int k)).toArray))=some (l == m):=by
 subst h1
 rw[Op.equalIn,bJ _ _ (cU ht)]
 simp only
 rw[bJ _ _ (vS he)]
 simp only[Std.Legacy.Range.forIn_eq_forIn_range',Std.Legacy.Range.size,Nat.sub_zero,Nat.add_one_sub_one,Nat.div_one]
 have key: ∀(c i:Nat),i+c=N→l.take i=m.take i→aP P (do
   let r←forIn (List.range' i c 1) ((none,()):Option Bool×Unit) fun i r=>do
    let a←part e (l.map (Value.int k)).toArray (i*1)
    let b←part e (m.map (Value.int k)).toArray (i*1)
    let q←Op.equalIn (d+1) e a b
    if(!q)=true then pure (ForInStep.done (some false,()))else pure (ForInStep.yield (none,()))
   match r.fst with
   |some a=>pure a
   |none=>pure true)=some (l == m):=by
  intro c
  induction c with
  |zero=>
   intro i hi hp
   have:l=m:=by
    rw[a0J (by omega),a0J (by omega)]at hp
    exact hp
   subst this
   simp only[a11,List.forIn_nil]
   show some true=_
   simp
  |succ c ih=>
   intro i hi hp
   have hil:i<l.length:=by omega
   have him:i<m.length:=by omega
   simp only[a1D,List.forIn_cons,bind_assoc]
   rw[bJ _ _ (aEt he rfl (v:= .int k l[i]) (by simp[hil])),bJ _ _ (aEt he rfl (v:= .int k m[i]) (by simp[him])),bJ _ _ (aOa he d _ _)]
   by_cases hq:l[i]=m[i]
   ·have:=ih (i+1) (by omega) (by rw[a1a hil,a1a him,hp,hq])
    simpa[hq]using this
   have hne:l≠m:=by rintro rfl;exact hq rfl
   have:(l == m)=false:=by simpa using hne
   rw[this]
   have hq':(l[i] == m[i])=false:=by simpa using hq
   rw[hq']
   rfl
 refine Eq.trans (congrArg (aP P) ?_) (key N 0 (by omega) (by simp))
 refine congr (congrArg bind ?_) (funext fun r=> ?_)
 ·rfl
 obtain⟨r,_⟩:=r
 cases r<;>rfl
variable (t:TypeId)(xo yo:Operand)
theorem aMX (k:IntKind)(l:List Int):eM (.agg (l.map (eI k)))=some (.agg (l.map (Value.int k)).toArray):=by
 have:(l.map (eI k)).mapM c8=some (l.map (Value.int k)):=by
  induction l with
  |nil=>rfl
  |cons x l ih=>simp only[a06,a03,ih];rfl
 simp only[eM,this,a0N]
theorem aN1 {e:TypeId}{k':IntKind}{N sz by_ sz' by':Nat}{z z':Value}{t:TypeId}(ht:aJ P t=some ⟨.array N e,sz,by_,z⟩)(he:aJ P e=some ⟨.int k',sz',by',z'⟩)(hd:2≤P.depth){bo:BinOp}(hbo:bo= .eql∨bo= .neq)(a b:Array Value):aP P (eqGuard bo t xo yo (.agg a) (.agg b))=some ():=by
 unfold eqGuard
 have hg:P.eqGuardType P.depth t=false:=by
  obtain⟨q,hq⟩: ∃q,P.depth=q+2:=⟨P.depth-2,by omega⟩
  rw[hq]
  simp only[Program.eqGuardType,(cL ht).1,(cL he).1]
 rcases hbo with rfl|rfl<;>
 ·show aP P (if(!P.eqGuardType P.depth t)=true then pure ()else _)=some ()
  rw[hg];rfl
theorem aVl {e:TypeId}{k k':IntKind}{N sz by_ sz' by':Nat}{z z':Value}{t:TypeId}(ht:aJ P t=some ⟨.array N e,sz,by_,z⟩)(he:aJ P e=some ⟨.int k',sz',by',z'⟩)(h1:sz'=1)(hd:2≤P.depth){l m:List Int}(hl:l.length=N)(hm:m.length=N):
  c9 P .eql t xo yo (.agg (l.map (eI k))) (.agg (m.map (eI k)))=some (.sc (.bool (l == m))):=by
 simp only[c9,aMX,pureV]
 rw[bJ _ _ (aN1 xo yo ht he hd (.inl rfl) _ _)]
 have:aP P (binOp .eql t (.agg (l.map (Value.int k)).toArray) (.agg (m.map (Value.int k)).toArray))=some (.bool (l == m)):=wM _ _ (aOM ht he h1 hl hm 9998)
 rw[this];rfl
theorem aVf {e:TypeId}{k k':IntKind}{N sz by_ sz' by':Nat}{z z':Value}{t:TypeId}(ht:aJ P t=some ⟨.array N e,sz,by_,z⟩)(he:aJ P e=some ⟨.int k',sz',by',z'⟩)(h1:sz'=1)(hd:2≤P.depth){l m:List Int}(hl:l.length=N)(hm:m.length=N):
  c9 P .neq t xo yo (.agg (l.map (eI k))) (.agg (m.map (eI k)))=some (.sc (.bool (!(l == m)))):=by
 simp only[c9,aMX,pureV]
 rw[bJ _ _ (aN1 xo yo ht he hd (.inr rfl) _ _)]
 have:aP P (binOp .neq t (.agg (l.map (Value.int k)).toArray) (.agg (m.map (Value.int k)).toArray))=some (.bool (!(l == m))):=wM _ (fun b=>Value.bool !b) (aOM ht he h1 hl hm 9998)
 rw[this];rfl
end
theorem aQi {P:Program} {f:FuncId} {fn:Func} {args:List V} {r:V} {h:Hp} {e:Array Value→Sem Value} (hf:P.funcs[f]? =some fn) (hn:(fn.name == "runtime.NumGoroutine")=false) (hb:fn.body.isNone=true) (h1:Extern.findNext fn=none) (h2:Extern.find fn=some e)
  (he: ∀(X:Nat→Prop)(M:List (Option Nat))(w:World)(vs:List Value),VCells X M w args vs→ ∃v,(e vs.toArray).run P w= .ok v w∧VR X M w r v):Fn P f h args r h:=by
 intro A M w vs H hargs
 obtain⟨v,hv,hr⟩:=he _ _ _ _ hargs
 refine .inr ⟨v,w, ?_,M,Grow.refl H,hr⟩
 have e1:(callFunc f vs.toArray).run P w=((e vs.toArray).run P w).andThen fun v w=> .ok (.value v) w:=by
  unfold callFunc
  show Sem.run P (match P.funcs[f]? with|none=>_|some fn=>_) w=_
  rw[hf]
  simp only[hn,a0W,if_false,hb,if_true,h1,h2]
  show Sem.run P (Sem.bind (e vs.toArray) _) w=_
  exact Sem.run_bind ..
 rw[e1,hv]
 rfl
section
variable {α:Type}{C:α→List V}{K:Nat}
theorem s8 (hC: ∀x,(C x).length=K): ∀l:List α,(l.flatMap C).length=l.length*K
 | []=>by simp
 |x::l=>by simp only[a0R,a02,hC,s8 hC l,a05,a1d,a1w];omega
theorem aJ3 (hC: ∀x,(C x).length=K): ∀(l:List α)(i:Nat),(l.flatMap C).drop (i*K)=(l.drop i).flatMap C
 |l,0=>by simp
 | [],i+1=>by simp
 |x::l,i+1=>by
  rw[a0R,List.drop_succ_cons,←aJ3 hC l i,a1d,a1w,List.drop_append,a0X (by rw[hC];omega),a1I,hC]
  congr 1;omega
theorem aOo (hC: ∀x,(C x).length=K): ∀(l:List α)(i:Nat),(l.flatMap C).take (i*K)=(l.take i).flatMap C
 |l,0=>by simp
 | [],i+1=>by simp
 |x::l,i+1=>by
  rw[a0R,a1R,a0R,←aOo hC l i,a1d,a1w,a1F,a0J (by rw[hC];omega),hC]
  congr 2;omega
theorem aLD (hC: ∀x,(C x).length=K)(l:List α):xI true K l.length (l.flatMap C)=l.map fun x=>V.agg (C x):=by
 unfold xI
 rw[if_pos rfl]
 apply List.ext_getElem
 ·simp
 intro i h1 h2
 simp only[a0Z]at h2
 simp only[List.getElem_map,List.getElem_range]
 rw[aJ3 hC,a0Y h2,a0R,a1F,a0J (by rw[hC];exact a1e _),hC,Nat.sub_self,a1O,a1q]
theorem tI {p:V→Bool}(h: ∀x,(C x).all p=true)(l:List α):(l.flatMap C).all p=true:=by
 rw[a0K];intro y hy
 simp only[List.mem_flatMap]at hy
 obtain⟨x,_,hy⟩:=hy
 exact a0K.1 (h x) y hy
theorem aRK {f:Nat→Nat}: ∀(a b:List V),V.rns f (a++b)=V.rns f a++V.rns f b
 | [],b=>by simp[V.rns]
 |x::a,b=>by simp[V.rns,aRK a b]
theorem cZ {f:Nat→Nat}(h: ∀x,V.rns f (C x)=C x): ∀l:List α,V.rns f (l.flatMap C)=l.flatMap C
 | []=>by simp[V.rns]
 |x::l=>by rw[a0R,aRK,h,cZ h l]
theorem aIz {f:Nat→Nat}{vn:Nat→Bool}(h: ∀x,V.rns f (C x)=C x)(l:List α):V.les vn (l.flatMap C) (V.rns f (l.flatMap C)):=by rw[cZ h];exact V.les_refl _ _
theorem aRH : ∀(a b:List V),V.rfs (a++b)=(V.rfs a&&V.rfs b)
 | [],b=>by simp[V.rfs]
 |x::a,b=>by simp[V.rfs,aRH a b,Bool.and_assoc]
theorem aJf (h: ∀x,V.rfs (C x)=true): ∀l:List α,V.rfs (l.flatMap C)=true
 | []=>by simp[V.rfs]
 |x::l=>by rw[a0R,aRH,h,aJf h l];rfl
theorem aUd {F:V→Option V}{a b a' b':List V}(h1:a.mapM F=some a')(h2:b.mapM F=some b'):(a++b).mapM F=some (a'++b'):=by
 rw[List.mapM_append,h1,h2];rfl
theorem aOe {F:V→Option V}(h: ∀x,(C x).mapM F=some (C x)): ∀l:List α,(l.flatMap C).mapM F=some (l.flatMap C)
 | []=>rfl
 |x::l=>by rw[a0R];exact aUd (h x) (aOe h l)
variable {P:Program}{h h':Hp}{t e:TypeId}{ti:TI}{b i off:Nat}{l m:List α}{y:α}{kk:IntKind}{j:Int}{nl:Option Bool}{sz by_:Nat}{z:Value}{v:V}
theorem aRZ {hE:Hp}{q d:Nat}(hC: ∀x,(C x).length=K)(hK:0<K)(hn:l.length=q)(hb:hE[b]? =some (some ⟨e,l.flatMap C⟩))(hx: ∀x,(C x).mapM (dW hE d)=some (C x)):dW hE (d+1) (.sl b 0 q K true)=some (.row none K (l.map fun x=>V.agg (C x))):=by
 subst hn
 simp only[dW,hb]
 rw[if_pos ⟨by rw[s8 hC];omega,hK,.inl trivial⟩]
 simp only[a09]
 rw[a0J (by rw[s8 hC];exact a1e _),aOe hx]
 simp only[a0N,aLD hC]
theorem aL1 {hE:Hp}{q:Nat}(hC: ∀x,(C x).length=K)(hK:0<K)(hn:l.length=q)(hb:hE[b]? =some (some ⟨e,l.flatMap C⟩))(hx: ∀x,(C x).mapM (dW hE 3)=some (C x)):wD hE (.sl b 0 q K true)=some (.row none K (l.map fun x=>V.agg (C x))):=aRZ hC hK hn hb hx
theorem aVT :fF h K (.row nl K (m.map fun x=>V.agg (C x)))=some (m.flatMap C,m.length):=by
 have:(m.map fun x=>V.agg (C x)).flatMap V.cells=m.flatMap C:=by rw[List.flatMap_map];rfl
 simp only[fF]
 rw[if_pos (.inl trivial),this];simp
theorem aY4 {q:Nat}(hC: ∀x,(C x).length=K)(hn:m.length=q)(hb:h[b]? =some (some ⟨e,m.flatMap C⟩)):fF h K (.sl b 0 q K true)=some (m.flatMap C,m.length):=by
 subst hn
 simp only[fF,hb]
 rw[if_pos ⟨trivial,by rw[s8 hC];omega⟩,a09,a0J (by rw[s8 hC];exact a1e _)]
theorem aY8 {k:Nat}:fF h K (.row nl k [])=some (([]:List α).flatMap C,([]:List α).length):=by simp[fF]
theorem aZp {q:Nat}(hC: ∀x,(C x).length=K)(hn:l.length=q)(ht:aJ P t=some ⟨.slice e,sz,by_,z⟩)(he:aJ P e=some ti)(h1:ti.zero.cells.size=K∧ti.size=K∧1≤ti.bytes∧0<K)(hb:h[b]? =some (some ⟨e,l.flatMap C⟩)){s:V}(hs:fF h K s=some (m.flatMap C,m.length))
  {r:List α} (ha:b5 ti.bytes l m=some r) (hl:h.length=i) (hh:h.set b none++[some ⟨e,r.flatMap C⟩]=h'):gR P t t (.sl b 0 q K true) s h=some (.sl i 0 r.length K true,h'):=by
 obtain⟨h2,h3,h4,h5⟩:=h1
 subst hn
 unfold b5 at ha
 split at ha
 ·rename_i hlim
  injection ha with ha
  subst ha hl hh
  have hx:fF h ti.size s=some (m.flatMap C,m.length):=by rw[h3];exact hs
  simp only[gR,ne_eq,not_true,if_false,ht,he]
  rw[if_pos ⟨by rw[h2,h3],by omega,h4⟩]
  simp only[hx,hb]
  rw[if_pos ⟨h3.symm,trivial,by rw[s8 hC];exact a1e _,hlim⟩,a0J (by rw[s8 hC];exact a1e _)]
  simp
 cases ha
theorem aY5 (ht:aJ P t=some ⟨.slice e,sz,by_,z⟩)(he:aJ P e=some ti)(h1:ti.zero.cells.size=K∧ti.size=K∧1≤ti.bytes∧0<K){s:V}(hs:fF h K s=some (m.flatMap C,m.length))(hag:b4 ti.desc=true){k:Nat}
  {r:List α} (ha:b5 ti.bytes [] m=some r) (hl:h.length+1=i) (hh:h++[none]++[some ⟨e,r.flatMap C⟩]=h'):gR P t t (.row (some true) k []) s h=some (.sl i 0 r.length K true,h'):=by
 obtain⟨h2,h3,h4,h5⟩:=h1
 unfold b5 at ha
 split at ha
 ·rename_i hlim
  injection ha with ha
  subst ha hl hh
  have hx:fF h ti.size s=some (m.flatMap C,m.length):=by rw[h3];exact hs
  simp only[gR,ne_eq,not_true,if_false,ht,he]
  rw[if_pos ⟨by rw[h2,h3],by omega,h4⟩]
  simp only[hx]
  rw[if_pos (by simpa using hlim)]
  simp[h3,hag]
 cases ha
theorem aZS {q:Nat}(hn:l.length=q)(ht:aJ P t=some ⟨.slice e,sz,by_,z⟩)(he:aJ P e=some ti)(h1:ti.size=K)(hx:aZ l j=some y):g6 P t (.sl b 0 q K true) (.sc (.int kk j))=some (.ptr b (0+j.toNat*K)):=by
 obtain⟨h2,h3,_⟩:=jF hx
 subst hn
 simp[g6,ht,pL,he,h1,h2,h3]
theorem aT1 {cs r:List V}(h:gT P t cs=some v):gT P t (cs++r)=some v:=by
 unfold gT at *
 split at h
 ·cases h
 split at h
 ·rename_i hag
  split at h
  ·rename_i hs
   rw[if_pos hag,if_pos (by rw[a02];omega),a1g hs];exact h
  cases h
 rename_i hag
 rw[if_neg hag]
 cases cs with
 |nil=>cases h
 |cons c cs=>exact h
theorem aWy (hC: ∀x,(C x).length=K){i:Nat}(hi:l[i]? =some y)(ho:off≤K):(l.flatMap C).drop (0+i*K+off)=(C y).drop off++(l.drop (i+1)).flatMap C:=by
 obtain⟨h1,h2⟩:=a0F.1 hi
 rw[a1J,←List.drop_drop,aJ3 hC,a0Y h1,h2,a0R,List.drop_append_of_le_length (by rw[hC];exact ho)]
theorem aX0 (hC: ∀x,(C x).length=K)(hb:h[b]? =some (some ⟨e,l.flatMap C⟩))(hx:aZ l j=some y)(ho:off≤K)(hp:gT P t ((C y).drop off)=some v):eR P t h (.ptr b (0+j.toNat*K+off))=some v:=by
 obtain⟨_,_,h3⟩:=jF hx
 simp only[eR,hb]
 rw[aWy hC h3 ho]
 exact aT1 hp
theorem vF (hC: ∀x,(C x).length=K)(hb:h[b]? =some (some ⟨e,l.flatMap C⟩))(hx:aZ l j=some y)(hp:gT P t (C y)=some v):eR P t h (.ptr b (0+j.toNat*K))=some v:=aX0 (off:=0) hC hb hx (Nat.zero_le _) (by simpa using hp)
theorem Conv.rowK (hC: ∀x,(C x).length=K)(h1K: ∀x,(C x).all V.one=true)(hsh: ∀x,(C x).all V.shut=true){h h':Hp}(hs:Sub h h'){b n:Nat}{e:TypeId}(hb:h[b]? =some (some ⟨e,l.flatMap C⟩))(hb':h'[b]? =some none)(hn:n=l.length):Conv h h' (.sl b 0 n K true) (.row none K (l.map fun x=>V.agg (C x))):=by
 intro A M w v H hv
 obtain⟨hone,hcase⟩:=H.blk b _ hb
 have hok: ∀e∈l.map (fun x=>V.agg (C x)),e.okElem K=true:=by
  intro e he
  simp only[a1K]at he
  obtain⟨x,_,rfl⟩:=he
  simp only[V.okElem,V.flatOk,V.cells,h1K x,hC x,beq_self_eq_true,Bool.and_self]
 unfold VR at hv⊢
 rcases hv with⟨hm,rfl,h0,_⟩|⟨g,cap,e',sz,hm,rfl,h1,_,h3,hshp,_⟩
 ·have:l=[]:=a0O (by omega)
  subst this
  exact⟨none,0,rfl,a1e _,fun _=>rfl,(fun b hb=>by cases hb),by simp,fun hne=>absurd rfl hne⟩
 rcases hcase with⟨hm',_⟩|⟨g',bM,hm',hA,hw,hle,hcs⟩
 ·rw[hm]at hm';cases hm'
 rw[hm]at hm'
 injection hm' with hm'
 injection hm' with hm'
 subst hm'
 refine⟨some ⟨g,0,none⟩,cap,by rw[a0Z,hn],by rw[a0Z];omega,fun hh=>(by cases hh),(fun b hb=>by cases hb),hok,fun _=>⟨⟨g,0,none⟩,rfl,h3, ?_,rfl, ?_⟩⟩
 ·rintro(ha|⟨c,C',hc,hmc⟩)
  ·exact hA ha
  obtain⟨C'',hc'⟩:=hs c C' hc
  have:=H.inj c b C'' _ g hc' hb hmc hm
  subst this
  rw[hb']at hc;cases hc
 rw[←aLD hC l]
 unfold xI
 rw[if_pos rfl]
 dsimp only at hle hcs
 have hall:=tI hsh l
 refine aHx h3 l.length (vs:=bM.toList.take (l.flatMap C).length) (s8 hC l) (VCells.mk hcs.len (fun i c u hc hu=> ?_)) ?_
 ·obtain⟨u',hu',hr⟩:=hcs.get hc
  rw[hu]at hu'
  injection hu' with hu'
  subst hu'
  exact(hr.shut (a0K.1 hall c (a0Q hc))).avoid (fun _ _ hx=>hs.xs hx)
 intro i u hu
 have hu2:bM[i]? =some u:=by
  simp only[a1L,a1S]at hu
  split at hu
  ·simpa using hu
  cases hu
 have:=hw.cell hshp i
 rw[hu2]at this
 unfold Addr.add
 split
 ·rename_i h0;subst h0;exact this
 simpa using this
theorem aOt (hC: ∀x,(C x).length=K)(h1: ∀x,(C x).all V.one=true): ∀(xs:List α)(i:Nat)(cells:List V),cells.length=(i+xs.length)*K→pK (fun i=>some (i*K,K)) cells (sX i (xs.map fun x=>V.agg (C x)))=some (cells.take (i*K)++xs.flatMap C)
 | [],i,cells,hl=>by
  simp only[List.map_nil,sX,pK,List.flatMap_nil,a1q]
  rw[a0J (by rw[hl];simp)]
 |x::xs,i,cells,hl=>by
  simp only[a05]at hl
  have hl':cells.length=i*K+K+xs.length*K:=by rw[hl,a1d,a1d,a1w];omega
  simp only[a06,sX,pK]
  rw[if_pos ⟨by simp[V.flatOk,V.cells,h1 x],by simp[V.cells,hC x],by omega⟩]
  have hsl:(splice cells (i*K) (V.agg (C x)).cells).length=cells.length:=aAs _ _ _ (by simp only[V.cells,hC];omega)
  rw[aOt hC h1 xs (i+1) _ (by rw[hsl,hl];congr 1;omega)]
  congr 1
  rw[a0R,←a1s]
  congr 1
  unfold splice
  simp only[V.cells]
  rw[a1d,a1w,a1s,a1F,a0J (by rw[a04];omega),a04,a1p (by omega),show i*K+K-i*K=K by omega,a1g (by rw[hC];exact a1e _),show(C x).take K=C x from a0J (by rw[hC];exact a1e _)]
theorem aG0 {len:Nat}{ps:List (Nat×V)}{xs:List α}(hC: ∀x,(C x).length=K)(h1C: ∀x,(C x).all V.one=true)(ht:aJ P t=some ⟨.slice e,sz,by_,z⟩)(he:aJ P e=some ti)(h1:len*K≤2^24∧0<len∧0<K)(hK:ti.size=K)(hag:b4 ti.desc=true)
  (hp:sX 0 (xs.map fun x=>V.agg (C x))=ps) (hlen:xs.length=len) (hl:h.length=i) (hh:h++[some ⟨e,xs.flatMap C⟩]=h'):
  gB P t len ps h=some (.sl i 0 len K true,h'):=by
 subst hK hp
 refine aX3 ht he h1 hag ?_ ⟨tI h1C xs,by rw[s8 hC,hlen]⟩ hl hh
 rw[aOt hC h1C xs 0 _ (by simp[hlen])]
 simp
end
end Go.Vm
