/- Texts of ours, joined. -/
import Derived.Test.YtopdhljncajmpaaGreatDoorQC3
import Derived.Test.YtopdhljncajmpaaGreatDoorQC6
import Derived.Test.YtopdhljncajmpaaGreatDoorQC8
import Derived.Shelf.SlGeneric
import Derived.Shelf.SlLaysF0
import Derived.Ground.SlsfProg
import Derived.Test.YtopdhljncajmpaaGreatDoorProg
import Derived.Maps.RangeRun
import Derived.LoopN
import Derived.Shelf.SlSortCmp.WholeK
import Derived.Shelf.SlSortCmp.NoneTotal
open Nat renaming lt_of_lt_of_le → a1K,le_trans → a1R,zero_add → a18,le_refl → a2n,add_mul → a2u
open List renaming prefix_refl → a1L,length_cons → a1N,all_eq_true → a1O,map_append → a1Q,flatMap_cons → a1S,getElem?_append_left → a1T,getElem?_eq_some_iff → a1U,getElem?_eq_getElem → a1V,getElem?_set_self → a1X,length_take → a1Z,eq_nil_of_length_eq_zero → a10,mem_flatMap → a11,filter_eq_self → a12,length_map → a14,mem_map → a16,length_append → a17,size_toArray → a19,getElem?_take_of_lt → a2a,map_cons → a2b,take_of_length_le → a2c,length_set → a2e,append_nil → a2f,mem_of_mem_take → a2g,mem_of_mem_drop → a2h,range_eq_range' → a2i,getElem?_set_ne → a2j,getElem_toArray → a2k,append_assoc → a2p,range'_succ → a2q,take_prefix → a2r,range' → a2t,nil_append → a2v,range → a2w
open Array renaming getElem?_eq_some_iff → a1M,getElem?_setIfInBounds_self_of_lt → a1P,getElem?_setIfInBounds_ne → a1Y,getD_eq_getD_getElem? → a13,getElem?_append_left → a15,getElem?_eq_none → a2d,getElem_toList → a2l,ext_getElem? → a2o
open Option.some renaming inj → a1W
open List.Perm renaming refl → a2m
open Prod renaming snd → a2s
set_option linter.unusedSimpArgs false
set_option linter.unusedVariables false
namespace Go.Proofs
open Go.Shelf
def Tryz.sortCoin_ren :Go.Shelf.Ren:=⟨fun|6=>102|15=>154|14=>153|28=>202|29=>187|20=>194|21=>195|22=>196|23=>197|24=>198|25=>199|26=>200|27=>201|46=>234|47=>235|48=>236|49=>237|50=>238|57=>253|n=>n,fun|22=>42|24=>80|25=>163|3=>3|39=>194|0=>0|53=>24|55=>29|4=>4|46=>236|45=>235|50=>201|5=>5|9=>9|66=>270|70=>274|76=>289|77=>290|n=>n,fun|n=>n⟩
theorem Tryz.sortCoin :Go.Proofs.SlLaysF0.n6 Tryz.prog Tryz.sortCoin_ren:={
 mixed:=by kernel_rfl
 f6:=⟨Tryz.f102.name,by decide,Tryz.func102.trans (congrArg some (by kernel_rfl))⟩
 f14:=⟨Tryz.f153.name,by decide,Tryz.func153.trans (congrArg some (by kernel_rfl))⟩
 f15:=Tryz.func154.trans (congrArg some (by kernel_rfl))
 f20:=⟨Tryz.f194.name,by decide,Tryz.func194.trans (congrArg some (by kernel_rfl))⟩
 f21:=⟨Tryz.f195.name,by decide,Tryz.func195.trans (congrArg some (by kernel_rfl))⟩
 f22:=⟨Tryz.f196.name,by decide,Tryz.func196.trans (congrArg some (by kernel_rfl))⟩
 f23:=⟨Tryz.f197.name,by decide,Tryz.func197.trans (congrArg some (by kernel_rfl))⟩
 f24:=⟨Tryz.f198.name,by decide,Tryz.func198.trans (congrArg some (by kernel_rfl))⟩
 f25:=⟨Tryz.f199.name,by decide,Tryz.func199.trans (congrArg some (by kernel_rfl))⟩
 f26:=⟨Tryz.f200.name,by decide,Tryz.func200.trans (congrArg some (by kernel_rfl))⟩
 f27:=⟨Tryz.f201.name,by decide,Tryz.func201.trans (congrArg some (by kernel_rfl))⟩
 f28:=Tryz.func202.trans (congrArg some (by kernel_rfl))
 f29:=Tryz.func187.trans (congrArg some (by kernel_rfl))
 f46:=⟨Tryz.f234.name,by decide,Tryz.func234.trans (congrArg some (by kernel_rfl))⟩
 f47:=Tryz.func235.trans (congrArg some (by kernel_rfl))
 f48:=Tryz.func236.trans (congrArg some (by kernel_rfl))
 f49:=⟨Tryz.f237.name,by decide,Tryz.func237.trans (congrArg some (by kernel_rfl))⟩
 f50:=⟨Tryz.f238.name,by decide,Tryz.func238.trans (congrArg some (by kernel_rfl))⟩
 f57:=⟨Tryz.f253.name,by decide,Tryz.func253.trans (congrArg some (by kernel_rfl))⟩
 t0:=Tryz.underlying0
 a0:=Tryz.isAgg0
 z0:=Tryz.sizeOf0
 v0:=Tryz.zeroValue0
 t3:=Tryz.underlying3
 a3:=Tryz.isAgg3
 z3:=Tryz.sizeOf3
 v3:=Tryz.zeroValue3
 t4:=Tryz.underlying4
 a4:=Tryz.isAgg4
 z4:=Tryz.sizeOf4
 v4:=Tryz.zeroValue4
 t5:=Tryz.underlying5
 a5:=Tryz.isAgg5
 z5:=Tryz.sizeOf5
 v5:=Tryz.zeroValue5
 t9:=Tryz.underlying9
 a9:=Tryz.isAgg9
 z9:=Tryz.sizeOf9
 v9:=Tryz.zeroValue9
 t22:=Tryz.underlying42
 a22:=Tryz.isAgg42
 z22:=Tryz.sizeOf42
 v22:=Tryz.zeroValue42
 t25:=Tryz.underlying163
 a25:=Tryz.isAgg163
 z25:=Tryz.sizeOf163
 v25:=Tryz.zeroValue163
 t39:=Tryz.underlying194
 a39:=Tryz.isAgg194
 z39:=Tryz.sizeOf194
 v39:=Tryz.zeroValue194
 t45:=Tryz.underlying235
 a45:=Tryz.isAgg235
 z45:=Tryz.sizeOf235
 v45:=Tryz.zeroValue235
 t46:=Tryz.underlying236
 a46:=Tryz.isAgg236
 z46:=Tryz.sizeOf236
 v46:=Tryz.zeroValue236
 t50:=Tryz.underlying201
 a50:=Tryz.isAgg201
 z50:=Tryz.sizeOf201
 v50:=Tryz.zeroValue201
 t53:=Tryz.underlying24
 a53:=Tryz.isAgg24
 z53:=Tryz.sizeOf24
 v53:=Tryz.zeroValue24
 t55:=Tryz.underlying29
 a55:=Tryz.isAgg29
 z55:=Tryz.sizeOf29
 v55:=Tryz.zeroValue29
 t66:=Tryz.underlying270
 a66:=Tryz.isAgg270
 z66:=Tryz.sizeOf270
 v66:=Tryz.zeroValue270
 t70:=Tryz.underlying274
 a70:=Tryz.isAgg274
 z70:=Tryz.sizeOf274
 v70:=Tryz.zeroValue274
 t76:=Tryz.underlying289
 a76:=Tryz.isAgg289
 z76:=Tryz.sizeOf289
 v76:=Tryz.zeroValue289
 t77:=Tryz.underlying290
 a77:=Tryz.isAgg290
 z77:=Tryz.sizeOf290
 v77:=Tryz.zeroValue290}
end Go.Proofs
set_option linter.unusedSectionVars false
namespace Go.Vm
open Go
open Go.ChangeMaps (setBlock)
def itV (r:Nat):V:= .sc (.pointer (some ⟨r,0,none⟩))
def Clo (x:V):Prop:= ∀(X:Nat→Prop)(M:List (Option Nat))(w:World)(v:Value),VR X M w x v→VR X [] w x v
theorem Clo.row (nl:Option Bool)(k:Nat)(es:List V):Clo (.row nl k es):=fun X M w v h=>by unfold VR at h ⊢; exact h
theorem aHh : ∀{cs:List V},(∀c∈cs,Clo c)→ ∀(X:Nat→Prop)(M:List (Option Nat))(w:World)(vs:List Value),VCells X M w cs vs→VCells X [] w cs vs
 | [],_,X,M,w,vs,h=>by unfold VCells at h ⊢; exact h
 |c::cs,hc,X,M,w,vs,h=>by
  unfold VCells at h⊢
  obtain⟨v,rest,e,h1,h2⟩:=h
  exact⟨v,rest,e,hc c (by simp) X M w v h1,aHh (fun d hd=>hc d (by simp[hd])) X M w rest h2⟩
theorem Clo.agg {cs:List V}(h: ∀c∈cs,Clo c):Clo (.agg cs):=fun X M w v hv=>by
 unfold VR at hv⊢
 obtain⟨vs,e,hc⟩:=hv
 exact⟨vs,e,aHh h X M w vs hc⟩
section
variable {P:Program}{N:Nat}
theorem aDx {w:World}{r:Nat}{o:Obj}(hr:r<w.heap.size):(setBlock w r o).heap[r]? =some o:=by
 show(w.heap.setIfInBounds r o)[r]? =_
 rw[a1P hr]
theorem aEf {w:World}{r g:Nat}{o:Obj}(h:g≠r):(setBlock w r o).heap[g]? =w.heap[g]? :=by
 show(w.heap.setIfInBounds r o)[g]? =_
 rw[a1Y (fun e=>h e.symm)]
def aHZ (o:Obj):Bool:=match o with | .mapIter .. =>true|_=>false
theorem aI1 {w:World}{r:Nat}{o:Obj}(h:w.heap[r]? =some o)(hi:aHZ o=true):w.shape? r=none:=by
 cases o<;>simp[aHZ]at hi
 unfold World.shape?
 rw[h]
theorem aLK {w:World}{r:Nat}{o o':Obj}(h:w.heap[r]? =some o)(hi:aHZ o=true)(hi':aHZ o'=true):Ext (fun x=>x=r) w (setBlock w r o'):=by
 have hlt:r<w.heap.size:=(a1M.1 h).1
 refine⟨rfl,⟨rfl,a2n _⟩,rfl,by simp[setBlock],fun g _ hn=>aEf hn,fun g sh hs=> ?_,fun g hg hs=> ?_⟩
 ·by_cases hgr:g=r
  ·subst hgr;rw[aI1 h hi]at hs;cases hs
  unfold World.shape? at hs⊢
  rw[aEf hgr];exact hs
 by_cases hgr:g=r
 ·subst hgr;exact aI1 (aDx hlt) hi'
 unfold World.shape? at hs⊢
 rw[aEf hgr];exact hs
theorem Rel.world {A:Nat→Prop}{M:List (Option Nat)}{s:List V}{h:Hp}{a:Act}{w w':World}{S:Nat→Prop}(R:Rel A M s h a w)(E:Ext S w w')(hS: ∀g,S g→A g):Rel A M s h a w':=by
 have k: ∀g,g<w.heap.size→S g→Xs A M h g:=fun g _ hs=> .inl (hS g hs)
 refine⟨⟨R.hr.len,fun g hg=>a1K (R.hr.alt g hg) E.size,fun b B hb=> ?_,R.hr.inj,R.hr.glob.ext E k (fun _ _ h=>h)⟩,⟨R.sr.len,fun t x hx=>VR.ext E (a1L _) k (fun _ _ h=>h) _ _ (R.sr.val t x hx)⟩,R.defers⟩
 obtain⟨h1,h2|⟨g,cs,h2,h3,h4,h5,h6⟩⟩:=R.hr.blk b B hb
 ·exact⟨h1,.inl h2⟩
 exact⟨h1,.inr ⟨g,cs,h2,h3,h4.to (E.block g h4.lt (fun hs=>h3 (hS g hs))),h5,VCells.ext E (a1L _) k (fun _ _ h=>h) _ _ h6⟩⟩
theorem Grow.setIt {A:Nat→Prop}{M0 M:List (Option Nat)}{h0 h:Hp}{w0 w:World}{r:Nat}{o o':Obj}(G:Grow A M0 h0 w0 M h w)(hA:A r)(h1:w0.heap[r]? =some o)(hi:aHZ o=true)(h2:w.heap[r]? =some o)(hi':aHZ o'=true):
  Grow A M0 h0 (setBlock w0 r o') M h (setBlock w r o'):=by
 have l0:r<w0.heap.size:=(a1M.1 h1).1
 have l1:r<w.heap.size:=(a1M.1 h2).1
 have e0:=aLK h1 hi hi'
 have e1:=aLK h2 hi hi'
 have hr:HR A M h (setBlock w r o'):=by
  have k: ∀g,g<w.heap.size→g=r→Xs A M h g:=fun g _ hs=> .inl (hs▸hA)
  refine⟨G.hr.len,fun g hg=>a1K (G.hr.alt g hg) e1.size,fun b B hb=> ?_,G.hr.inj,G.hr.glob.ext e1 k (fun _ _ h=>h)⟩
  obtain⟨h1,h2|⟨g,cs,h2,h3,h4,h5,h6⟩⟩:=G.hr.blk b B hb
  ·exact⟨h1,.inl h2⟩
  exact⟨h1,.inr ⟨g,cs,h2,h3,h4.to (e1.block g h4.lt (fun hs=>h3 (hs▸hA))),h5,VCells.ext e1 (a1L _) k (fun _ _ h=>h) _ _ h6⟩⟩
 refine⟨G.pre,hr,⟨G.ext.os,G.ext.tape,G.ext.output,by simpa[setBlock]using G.ext.size,fun g hg hn=> ?_,fun g sh hs=> ?_,fun g hg hs=> ?_⟩,fun g hg hl=>G.live g (by simpa[setBlock]using hg) hl⟩
 ·by_cases hgr:g=r
  ·subst hgr;rw[aDx l0,aDx l1]
  rw[aEf hgr,aEf hgr]
  exact G.ext.block g (by simpa[setBlock]using hg) hn
 ·by_cases hgr:g=r
  ·subst hgr;rw[aI1 (aDx l0) hi']at hs;cases hs
  unfold World.shape? at hs⊢
  rw[aEf hgr]at hs⊢
  exact G.ext.shape g sh hs
 by_cases hgr:g=r
 ·subst hgr;exact aI1 (aDx l1) hi'
 unfold World.shape? at hs⊢
 rw[aEf hgr]at hs⊢
 exact G.ext.nshape g (by simpa[setBlock]using hg) hs
theorem Rel.drewR {A:Nat→Prop}{M:List (Option Nat)}{s:List V}{h:Hp}{a:Act}{w:World}(R:Rel A M s h a w):Rel A M s h a w.drew:=R.world (Ext.drew (fun _=>False) w) (fun _ h=>h.elim)
theorem aDl {ops:Array Oper}{i:Nat}{o:Oper}{Q:Exit→Act→World→Prop}{K:Act→World→Prop}{a:Act}{w w':World}{v:Value}(hi:ops[i]? =some o)(hg:o.guard=none)(he:(execOp a.eval o).run P w= .ok (.value v) w')(hK:K (a.put o.dst v) w'):wpOp P ops Q i K a w:=by
 unfold wpOp
 rw[hi]
 simp only
 rw[if_pos (by simp[Region.wanted,hg])]
 left
 unfold Oper.wp
 rw[he]
 exact hK
def pZ (Z:List ((V×V)×MapEntry))(seen:Array Nat):List ((V×V)×MapEntry):=Z.filter fun z=> !seen.contains z.2.born
theorem aV4 {Z:List ((V×V)×MapEntry)}{es:Array MapEntry}(h:Z.map (·.2)=es.toList)(seen:Array Nat):(leftOf es seen).toList=(pZ Z seen).map (·.2):=by
 unfold leftOf pZ
 rw[Array.toList_filter,←h,List.filter_map]
 rfl
theorem aSR {Z Z1 Z2:List ((V×V)×MapEntry)}{z:(V×V)×MapEntry}{seen:Array Nat}(hn:(Z.map (·.2.born)).Nodup)(h:pZ Z seen=Z1++z::Z2):pZ Z (seen.push z.2.born)=Z1++Z2:=by
 have e:pZ Z (seen.push z.2.born)=(pZ Z seen).filter fun y=> !(y.2.born == z.2.born):=by
  unfold pZ
  rw[List.filter_filter]
  congr 1
  funext y
  have:(seen.push z.2.born).contains y.2.born=(seen.contains y.2.born || (y.2.born == z.2.born)):=by
   rw[Bool.eq_iff_iff];simp[Array.mem_push]
  rw[this,Bool.not_or,Bool.and_comm]
 have hs:((pZ Z seen).map (·.2.born)).Nodup:=List.Pairwise.sublist ((List.filter_sublist).map _) hn
 rw[e,h]
 rw[h,a1Q,a2b]at hs
 obtain⟨h1,h2,h3⟩:=List.pairwise_append.1 hs
 obtain⟨h4,h5⟩:=List.pairwise_cons.1 h2
 rw[List.filter_append,List.filter_cons_of_neg (by simp)]
 congr 1
 ·rw[a12]
  intro y hy
  have:=h3 y.2.born (a16.2 ⟨y,hy,rfl⟩) z.2.born (by simp)
  simpa using this
 rw[a12]
 intro y hy
 have:=h4 y.2.born (a16.2 ⟨y,hy,rfl⟩)
 simpa using fun h=>this h.symm
theorem ERel.zipped {X:Nat→Prop}{M:List (Option Nat)}{w:World}: ∀{ps:List (V×V)}{es:List MapEntry},ERel X M w ps es→(ps.zip es).map (·.1)=ps∧(ps.zip es).map (·.2)=es∧ ∀z∈ps.zip es,VR X M w z.1.1 z.2.key∧VR X M w z.1.2 z.2.val
 | [],[],_=>⟨rfl,rfl,by simp⟩
 |p::ps,e::es,h=>by
  obtain⟨h1,h2,h3⟩:=h
  obtain⟨i1,i2,i3⟩:=ERel.zipped h3
  refine⟨by simp[i1],by simp[i2],fun z hz=> ?_⟩
  rw[List.zip_cons_cons]at hz
  rcases List.mem_cons.1 hz with rfl|hz
  ·exact⟨h1,h2⟩
  exact i3 z hz
 | [],_::_,h=>h.elim
 |_::_,[],h=>h.elim
theorem Clo.any :Clo .any:=fun _ _ _ _ _=>by unfold VR;trivial
theorem aRo {n:Nat}{cs:List V}(h: ∀c∈cs,Clo c):Clo (aEz n cs):=by
 unfold aEz
 split
 ·cases cs with
  |nil=>exact Clo.any
  |cons c cs=>exact h c (by simp)
 exact Clo.agg h
theorem aQ7 {k l:Nat}: ∀(n:Nat)(cs:List V),(∀c∈cs,Clo c)→ ∀p∈aBY k l n cs,Clo p.1∧Clo p.2
 |0,_,_,p,hp=>by simp[aBY]at hp
 |n+1,cs,h,p,hp=>by
  simp only[aBY,List.mem_cons]at hp
  rcases hp with rfl|hp
  ·exact⟨aRo fun c hc=>h c (a2g hc),aRo fun c hc=>h c (a2h (a2g hc))⟩
  exact aQ7 n _ (fun c hc=>h c (a2h hc)) p hp
theorem set_set {w:World}{r:Nat}{o o':Obj}:setBlock (setBlock w r o) r o'=setBlock w r o':=by
 simp[setBlock]
def PreW (P:Program)(N:Nat)(ops:Array Oper)(m:Nat)(l:List Oper)(s:List V)(h:Hp)(K:List V→Hp→Prop):Prop:=
 ∀(k:Nat),k+l.length=m→(∀j,j<l.length→l[j]? =ops[k+j]?)→ ∀(A:Nat→Prop)(M0 M:List (Option Nat))(h0:Hp)(w0:World)(a:Act)(w:World)(Q:Exit→Act→World→Prop),h0.length=N→M0.length=N→Grow A M0 h0 w0 M h w→Rel A M s h a w→
  (∀s' h' M' a' w',K s' h'→Grow A M0 h0 w0 M' h' w'→Rel A M' s' h' a' w'→wpOps P ops Q [m] a' w')→wpOps P ops Q (a2t k (l.length+1)) a w
theorem PreW.nil {ops:Array Oper}{m:Nat}{s:List V}{h:Hp}{K:List V→Hp→Prop}(hk:K s h):PreW P N ops m [] s h K:=fun k hm _ A M0 M h0 w0 a w Q _ _ G R hQ=>by
 obtain rfl:k=m:=by simpa using hm
 exact hQ s h M a w hk G R
theorem PreW.cons {ops:Array Oper}{m:Nat}{o:Oper}{l:List Oper}{s:List V}{h h':Hp}{v:V}{O:wF}{K:List V→Hp→Prop}(hO:aFu P O)(hs:b9 P O ops o s h=some (v,h'))(hk:PreW P N ops m l (fU s o.dst v) h' K):PreW P N ops m (o::l) s h K:=fun k hm hl A M0 M h0 w0 a w Q hN hM G R hQ=>by
 have h0':ops[k]? =some o:=by simpa using (hl 0 (by simp)).symm
 simp only[a1N]at hm⊢
 rw[a2q,wpOps_cons]
 refine aFw hO R h0' (s':=fU s o.dst v) (h':=h') (by rw[cJ,hs];rfl) fun a' w' M' G' R'=> ?_
 exact hk (k+1) (by omega) (fun j hj=>by have:=hl (j+1) (by simpa using hj);simpa[Nat.add_assoc,Nat.add_comm 1 j]using this) A M0 M' h0 w0 a' w' Q hN hM (G.trans G') R' hQ
theorem AB.sub {c:Code}{Q:Ex→List V→Hp→Prop}{s:List V}{h:Hp}(hh:AB P h.length c Q s h):AB P N c Q s h:=fun A M0 M h0 w0 a w hN hM G R=>
 Code.wp_mono (fun e a' w' ⟨x,s',h',M',h1,h2,h3,h4⟩=>⟨x,s',h',M',h1,h2,G.trans h3,h4⟩) (hh A M M h w a w rfl R.hr.len (Grow.refl R.hr) R)
theorem AB.mrange {i2 i3 i4 b0 b1:Nat}{pre rest:List Oper}{REST:Code}{oR oN oX oE:Oper}{t9 t10 t11 t12 t13:Tmp}{mt:TypeId}
  (hoR:oR.op= .range mt (.tmp t9)∧oR.dst=some t10∧oR.guard=none) (hoN:oN.op= .next (.tmp t10) false∧oN.dst=some t11∧oN.guard=none)
  (hoX:oX.op= .extract (.tmp t11) 0∧oX.dst=some t12∧oX.guard=none) (hoE:oE.op= .entry (.tmp t10)∧oE.dst=some t13∧oE.guard=none) (ht:t11≠t10∧t12≠t10)
  {s:List V} {h:Hp} {K2:List V→Hp→Prop} (hpre:PreW P N (pre++[oR]).toArray pre.length pre s h K2) {Q:Ex→List V→Hp→Prop}
  (hK: ∀s2 h2,K2 s2 h2→ ∃(a:MAt)(x:V)(I:Nat→List (V×V)→List V→Hp→Prop),s2[t9]? =some x∧zB P mt h2 x=some a∧a.b<N∧(∀b B,N≤b→h2[b]? ≠some (some B))∧(∀c∈a.B.cells,Clo c)∧
   (∀r,I r a.es (s2.set t10 (itV r)) (h2.set a.b none))∧
   (∀r rs s h,I r rs s h→s[t10]? =some (itV r)∧h[a.b]? =some none∧t11<s.length∧t12<s.length)∧
   (∀r rs1 y rs2 s h,I r (rs1++y::rs2) s h→OpsW P N (oE::rest).toArray rest (((s.set t11 .any).set t12 (.sc (.bool true))).set t13 (.tup [y.1,y.2])) h fun s' h'=>AB P N REST (fun e s'' h''=>(e= .normal∨e= .exit b1)∧I r (rs1++rs2) s'' h''∨e= .ret∧h''[a.b]? =some none∧Q .ret s'' (h''.set a.b (some a.B))) s' h')∧
   ∀r s h,I r [] s h→Q .normal ((s.set t11 .any).set t12 (.sc (.bool false))) (h.set a.b (some a.B))):
  AB P N (.seq (.region i2 (pre++[oR]).toArray false) (.block b0 (.loop (.seq (.region i3 #[oN,oX] false) (.seq (.cond (.tmp t12) .skip (.exit b0)) (.block b1 (.seq (.region i4 (oE::rest).toArray false) REST))))))) Q s h:=by
 intro A M0 M h0 w0 a w hN hM G R
 refine wp_seq (wp_region ?_)
 have hsz:a2w (pre++[oR]).toArray.size=a2t 0 (pre.length+1):=by
  simp only[a19,a17,a1N,List.length_nil,a18]
  rw[a2i]
 rw[hsz]
 refine hpre 0 (by omega) (fun j hj=>by simp[a1T hj]) A M0 M h0 w0 a w _ hN hM G R fun s2 h2 M2 a2 w2 hk G2 R2=> ?_
 obtain⟨ma,x,I,hx,hma,hbN,hnl,hclo,hI0,hIs,hbody,hend⟩:=hK s2 h2 hk
 have hv:=R2.sr.val t9 x hx
 obtain⟨hmt,hBe,hb2,hone,g,es,clock,cs,hMg,hAg,hvm,hwg,hok,hlen,hshp,hcs,hER⟩:=aE6 R2.hr hma hv
 obtain⟨hu,hdk,hde,_,_⟩:=aCo hmt
 have hg2:g<w2.heap.size:=(a1M.1 hwg).1
 have hr0:(execOp a2.eval oR).run P w2= .ok (.value (.pointer (some ⟨w2.heap.size,0,none⟩))) (w2.alloc (.mapIter (some g) clock #[] clock)):=by
  have e1:(Instr.range mt (a2.eval (.tmp t9))).run P w2= .ok (.pointer (some ⟨w2.heap.size,0,none⟩)) (w2.alloc (.mapIter (some g) clock #[] clock)):=by
   rw[show a2.eval (.tmp t9)= .map (some g)from hvm]
   exact run_range_map w2 mt ma.m.kt ma.m.et g es clock hu hwg
  simp[execOp,hoR.1,e1]
 rw[wpOps_cons]
 refine aDl (by simp) hoR.2.2 hr0 ?_
 rw[hoR.2.1]
 generalize hQf:(fun(e:Exit)(a':Act)(w':World)=> ∃x s' h' M',e=Ex.toExit x∧Q x s' h'∧Grow A M0 h0 w0 M' h' w'∧Rel A M' s' h' a' w')=Qf
 show(Code.block b0 (.loop _)).wp P Qf (a2.put (some t10) (.pointer (some ⟨w2.heap.size,0,none⟩))) (w2.alloc (.mapIter (some g) clock #[] clock))
 have hrlt: ∀{y:Nat},y<w2.heap.size→y≠w2.heap.size:=fun h e=>by omega
 obtain⟨r,hr⟩: ∃r,r=w2.heap.size:=⟨_,rfl⟩
 obtain⟨wB,hwB⟩: ∃wB,wB=w2.alloc (.mapIter (some g) clock #[] clock):=⟨_,rfl⟩
 rw[←hr,←hwB]
 have hrB:wB.heap[r]? =some (.mapIter (some g) clock #[] clock):=by rw[hwB,hr];exact heap_alloc_new _ _
 have hold: ∀y,y<w2.heap.size→wB.heap[y]? =w2.heap[y]? :=fun y hy=>by rw[hwB];exact heap_alloc_old _ _ hy
 have hgB:wB.heap[g]? =some (.map es clock):=by rw[hold g hg2];exact hwg
 have hsB:wB.heap.size=w2.heap.size+1:=by rw[hwB];simp
 have EB: ∀S,Ext S w2 wB:=fun S=>by rw[hwB];exact Ext.alloc S _ _
 have live3: ∀{b:Nat}{B:Blk},(h2.set ma.b none)[b]? =some (some B)→b≠ma.b∧h2[b]? =some (some B):=by
  intro b B hb
  by_cases e:b=ma.b
  ·subst e
   rw[a1X (a1U.1 hb2).1]at hb
   cases hb
  rw[a2j (fun h=>e h.symm)]at hb
  exact⟨e,hb⟩
 obtain⟨A',hA'⟩: ∃A':Nat→Prop,A'=fun y=>A y∨y=r∨y=g:=⟨_,rfl⟩
 obtain⟨h3,hh3⟩: ∃h3,h3=h2.set ma.b none:=⟨_,rfl⟩
 rw[←hh3]at live3
 have hNM:N≤M2.length:=by rw[←hM];exact G2.pre.length_le
 have hX: ∀y,y<w2.heap.size→Xs A' M2 h3 y→Xs A M2 h2 y:=by
  rintro y hy (hA|⟨b,B,hb,hm⟩)
  ·rw[hA']at hA
   rcases hA with hA|rfl|rfl
   ·exact .inl hA
   ·omega
   exact .inr ⟨ma.b,ma.B,hb2,hMg⟩
  exact .inr ⟨b,B,(live3 hb).2,hm⟩
 have hHR:HR A' M2 h3 wB:=by
  refine⟨by rw[hh3,a2e];exact R2.hr.len,fun y hy=> ?_,fun b B hb=> ?_,fun b b' B B' gg hb hb'=>R2.hr.inj b b' B B' gg (live3 hb).2 (live3 hb').2,R2.hr.glob.ext (EB (fun _=>False)) (fun _ _ h=>h.elim) hX⟩
  ·rw[hA']at hy
   rcases hy with hy|rfl|rfl
   ·have:=R2.hr.alt y hy;omega
   ·omega
   omega
  obtain⟨hne,hb'⟩:=live3 hb
  obtain⟨k0,k1|⟨gg,cs',k1,k2,k3,k4,k5⟩⟩:=R2.hr.blk b B hb'
  ·exact⟨k0,.inl k1⟩
  refine⟨k0,.inr ⟨gg,cs',k1, ?_,k3.to (hold gg k3.lt),k4,VCells.ext (EB (fun _=>False)) (a1L _) (fun _ _ h=>h.elim) hX _ _ k5⟩⟩
  rw[hA']
  rintro(hq|hq|hq)
  ·exact k2 hq
  ·have:=k3.lt;omega
  subst hq;exact hne (R2.hr.inj b ma.b B ma.B gg hb' hb2 k1 hMg)
 have hRel:Rel A' M2 (s2.set t10 (itV r)) h3 (a2.put (some t10) (.pointer (some ⟨r,0,none⟩))) wB:=by
  refine⟨hHR,SR.put (d:=some t10) ⟨R2.sr.len,fun t x hx=>VR.ext (EB (fun _=>False)) (a1L _) (fun _ _ h=>h.elim) hX _ _ (R2.sr.val t x hx)⟩ (by unfold itV VR;rfl),by rw[nP];exact R2.defers⟩
 have hMt: ∀b,b<N→(M2.take N)[b]? =M2[b]? :=fun b hb=>by rw[a2a hb]
 have hht: ∀b,b<N→(h3.take N)[b]? =h3[b]? :=fun b hb=>by rw[a2a hb]
 have hlow: ∀{b:Nat}{B:Blk},h3[b]? =some (some B)→b<N:=fun{b B} hb=>by
  rcases Nat.lt_or_ge b N with h|h
  ·exact h
  exact absurd (live3 hb).2 (hnl b B h)
 have hLv: ∀y,c8 (M2.take N) (h3.take N) y→c8 M2 h3 y:=by
  rintro y ⟨b,B,hb,hm⟩
  have hbN':b<N:=by
   have:=(a1U.1 hb).1
   rw[a1Z]at this;omega
  rw[hht b hbN']at hb
  rw[hMt b hbN']at hm
  exact⟨b,B,hb,hm⟩
 have hLv2: ∀y,c8 M2 h3 y→c8 M2 h2 y:=by
  rintro y ⟨b,B,hb,hm⟩
  exact⟨b,B,(live3 hb).2,hm⟩
 have hLA: ∀y,c8 (M2.take N) (h3.take N) y→ ¬A' y:=by
  intro y hy hA
  obtain⟨b,B,hb,hm⟩:=hLv y hy
  obtain⟨_,⟨k1,_⟩|⟨gg,cs',k1,k2,_⟩⟩:=hHR.blk b B hb
  ·rw[hm]at k1;cases k1
  rw[hm]at k1;injection k1 with k1;injection k1 with k1;subst k1;exact k2 hA
 have hGrow:Grow A' (M2.take N) (h3.take N) wB M2 h3 wB:=by
  refine⟨a2r _ _,hHR,Ext.refl _ _,fun y _ hl=> ?_⟩
  obtain⟨b,B,hb,hm⟩:=hl
  have:=hlow hb
  exact⟨b,B,by rw[hht b this];exact hb,by rw[hMt b this];exact hm⟩
 have hAr:A' r:=by rw[hA'];exact .inr (.inl rfl)
 have hAgg:A' g:=by rw[hA'];exact .inr (.inr rfl)
 have hgr:g≠r:=by omega
 have lN:(h3.take N).length=N:=by
  have:=R2.hr.len
  rw[a1Z,hh3,a2e];omega
 have lM:(M2.take N).length=N:=by rw[a1Z];omega
 have hE2: ∀{it:Obj}{M':List (Option Nat)}{h':Hp}{w':World},aHZ it=true→Grow A' (M2.take N) (h3.take N) (setBlock wB r it) M' h' w'→Ext (c8 M2 h2) w2 w':=by
  intro it M' h' w' hit G'
  have E1:=aLK hrB rfl hit
  refine⟨G'.ext.os.trans (E1.os.trans (EB (fun _=>False)).os),⟨G'.ext.tape.1.trans (E1.tape.1.trans (EB (fun _=>False)).tape.1),a1R (EB (fun _=>False)).tape.2 (a1R E1.tape.2 G'.ext.tape.2)⟩,G'.ext.output.trans (E1.output.trans (EB (fun _=>False)).output),a1R (EB (fun _=>False)).size (a1R E1.size G'.ext.size),fun y hy hn=> ?_,fun y sh hs=>G'.ext.shape y sh (E1.shape y sh ((EB (fun _=>False)).shape y sh hs)),fun y hy hs=>G'.ext.nshape y (a1K hy (a1R (EB (fun _=>False)).size E1.size)) (E1.nshape y (a1K hy (EB (fun _=>False)).size) ((EB (fun _=>False)).nshape y hy hs))⟩
  rw[G'.ext.block y (a1K hy (a1R (EB (fun _=>False)).size E1.size)) (fun hl=>hn (hLv2 y (hLv y hl))),E1.block y (a1K hy (EB (fun _=>False)).size) (by omega)]
  exact hold y hy
 have hX2: ∀{it:Obj}{M':List (Option Nat)}{h':Hp}{w':World},aHZ it=true→Grow A' (M2.take N) (h3.take N) (setBlock wB r it) M' h' w'→ ∀y,y<w2.heap.size→Xs A' M' h' y→Xs A M2 h2 y:=by
  intro it M' h' w' hit G' y hy hx
  rcases hx with hA|hl
  ·exact hX y hy (.inl hA)
  have:=G'.live y (by show y<(wB.heap.setIfInBounds r it).size;simp;omega) hl
  exact .inr (hLv2 y (hLv y this))
 have hmap: ∀{it:Obj}{M':List (Option Nat)}{h':Hp}{w':World},Grow A' (M2.take N) (h3.take N) (setBlock wB r it) M' h' w'→w'.heap[g]? =some (.map es clock)∧w'.heap[r]? =some it:=by
  intro it M' h' w' G'
  refine⟨?_, ?_⟩
  ·rw[G'.ext.block g (by show g<(wB.heap.setIfInBounds r it).size;simp;omega) (fun hl=>hLA g hl hAgg),aEf hgr,hgB]
  rw[G'.ext.block r (by show r<(wB.heap.setIfInBounds r it).size;simp;omega) (fun hl=>hLA r hl hAr),aDx (by omega)]
 obtain⟨z1,z2,z3⟩:=hER.zipped
 obtain⟨Z,hZ⟩: ∃Z,Z=ma.es.zip es.toList:=⟨_,rfl⟩
 rw[←hZ]at z1 z2 z3
 have hnd:(Z.map (·.2.born)).Nodup:=by
  have:=hok.nd
  rw[←z2,List.map_map]at this
  exact this
 have hcl:=aQ7 (k:=lV ma.m.dk) (l:=lV ma.m.de) (ma.B.cells.length/(c6 (lV ma.m.dk)+c6 (lV ma.m.de))) ma.B.cells hclo
 rw[←aMA hma]at hcl
 have fin0: ∀{it:Obj}{M':List (Option Nat)}{h':Hp}{s':List V}{a':Act}{w':World},aHZ it=true→Grow A' (M2.take N) (h3.take N) (setBlock wB r it) M' h' w'→Rel A' M' s' h' a' w'→h'[ma.b]? =some none→Grow A M0 h0 w0 M' (h'.set ma.b (some ma.B)) w'∧Rel A M' s' (h'.set ma.b (some ma.B)) a' w':=by
  intro it M' h' s' a' w' hit G' R' i2
  have E2:=hE2 hit G'
  have hx2:=hX2 hit G'
  obtain⟨hm1,_⟩:=hmap G'
  have hMb:M'[ma.b]? =some (some g):=by
   obtain⟨tl,htl⟩:=G'.pre
   rw[←htl,a1T (by rw[lM];exact hbN),hMt _ hbN]
   exact hMg
  have hbl:ma.b<h'.length:=(a1U.1 i2).1
  have liveF: ∀{b:Nat}{B:Blk},(h'.set ma.b (some ma.B))[b]? =some (some B)→(b=ma.b∧B=ma.B)∨(b≠ma.b∧h'[b]? =some (some B)):=by
   intro b B hb
   by_cases e:b=ma.b
   ·subst e
    rw[a1X hbl]at hb
    injection hb with hb;injection hb with hb
    exact .inl ⟨rfl,hb.symm⟩
   rw[a2j (fun h=>e h.symm)]at hb
   exact .inr ⟨e,hb⟩
  have hXF: ∀y,Xs A M' (h'.set ma.b (some ma.B)) y→Xs A' M' h' y:=by
   rintro y (hy|⟨b,B,hb,hm⟩)
   ·left;rw[hA'];exact .inl hy
   rcases liveF hb with⟨rfl,rfl⟩|⟨_,hb'⟩
   ·rw[hMb]at hm;injection hm with hm;injection hm with hm;subst hm
    exact .inl hAgg
   exact .inr ⟨b,B,hb',hm⟩
  have hXF2: ∀y,y<w2.heap.size→Xs A M' (h'.set ma.b (some ma.B)) y→Xs A M2 h2 y:=fun y hy hx=>hx2 y hy (hXF y hx)
  have ne_g: ∀{b:Nat}{B:Blk},h'[b]? =some (some B)→M'[b]? =some (some g)→False:=by
   intro b B hb hm
   obtain⟨_,⟨k1,_⟩|⟨gg,cs',k1,k2,_⟩⟩:=R'.hr.blk b B hb
   ·rw[hm]at k1;cases k1
   rw[hm]at k1;injection k1 with k1;injection k1 with k1;subst k1;exact k2 hAgg
  have hHRF:HR A M' (h'.set ma.b (some ma.B)) w':=by
   refine⟨by rw[a2e];exact R'.hr.len,fun y hy=>R'.hr.alt y (by rw[hA'];exact .inl hy),fun b B hb=> ?_,fun b b' B B' gg hb hb' hm hm'=> ?_,R'.hr.glob.avoid fun y _ hx=>hXF y hx⟩
   ·rcases liveF hb with⟨rfl,rfl⟩|⟨_,hb'⟩
    ·refine⟨hone,.inr ⟨g,cs,hMb,hAg,.inr ⟨es,clock,hm1,hok,hlen⟩,by omega, ?_⟩⟩
     rw[hlen,a2c (by simp),hok.cells]
     exact VCells.lift (VCells.ext E2 (a1L _) (fun _ _ h=> .inr h) hXF2 _ _ (aHh hclo _ _ _ _ hcs))
    obtain⟨k0,k1|⟨gg,cs',k1,k2,k3,k4,k5⟩⟩:=R'.hr.blk b B hb'
    ·exact⟨k0,.inl k1⟩
    exact⟨k0,.inr ⟨gg,cs',k1,fun hq=>k2 (by rw[hA'];exact .inl hq),k3,k4,VCells.avoid (fun y _ hx=>hXF y hx) k5⟩⟩
   rcases liveF hb with⟨rfl,rfl⟩|⟨_,hb1⟩<;>rcases liveF hb' with⟨rfl,rfl⟩|⟨_,hb2'⟩
   ·rfl
   ·rw[hMb]at hm;injection hm with hm;injection hm with hm;subst hm
    exact(ne_g hb2' hm').elim
   ·rw[hMb]at hm';injection hm' with hm';injection hm' with hm';subst hm'
    exact(ne_g hb1 hm).elim
   exact R'.hr.inj b b' B B' gg hb1 hb2' hm hm'
  have hRF:Rel A M' s' (h'.set ma.b (some ma.B)) a' w':=⟨hHRF,⟨R'.sr.len,fun t x hx=>VR.avoid (fun y _ hx=>hXF y hx) (R'.sr.val t x hx)⟩,R'.defers⟩
  have hlv: ∀y,y<w2.heap.size→c8 M' (h'.set ma.b (some ma.B)) y→c8 M2 h2 y:=by
   rintro y hy ⟨b,B,hb,hm⟩
   rcases liveF hb with⟨rfl,rfl⟩|⟨_,hb'⟩
   ·rw[hMb]at hm;injection hm with hm;injection hm with hm;subst hm
    exact⟨ma.b,ma.B,hb2,hMg⟩
   have:=G'.live y (by show y<(wB.heap.setIfInBounds r it).size;simp;omega) ⟨b,B,hb',hm⟩
   exact hLv2 y (hLv y this)
  have hGF:Grow A M0 h0 w0 M' (h'.set ma.b (some ma.B)) w':=by
   refine⟨?_,hHRF, ?_,fun y hy hl=>G2.live y hy (hlv y (a1K hy G2.ext.size) hl)⟩
   ·have:M0=M2.take N:=by
     obtain⟨tl,htl⟩:=G2.pre
     rw[←htl,←hM];simp
    rw[this];exact G'.pre
   refine⟨E2.os.trans G2.ext.os,⟨E2.tape.1.trans G2.ext.tape.1,a1R G2.ext.tape.2 E2.tape.2⟩,E2.output.trans G2.ext.output,a1R G2.ext.size E2.size,fun y hy hn=> ?_,fun y sh e=>E2.shape y sh (G2.ext.shape y sh e),fun y hy e=>E2.nshape y (a1K hy G2.ext.size) (G2.ext.nshape y hy e)⟩
   exact(E2.block y (a1K hy G2.ext.size) (fun hl=>hn (G2.live y hy hl))).trans (G2.ext.block y hy hn)
  exact⟨hGF,hRF⟩
 have fin: ∀{it:Obj}{M':List (Option Nat)}{h':Hp}{s':List V}{a':Act}{w':World}{v11:Value},aHZ it=true→Grow A' (M2.take N) (h3.take N) (setBlock wB r it) M' h' w'→Rel A' M' s' h' a' w'→I r [] s' h'→Qf .normal ((a'.put (some t11) v11).put (some t12) (.bool false)) w':=by
  intro it M' h' s' a' w' v11 hit G' R' hI
  obtain⟨_,i2,_,_⟩:=hIs _ _ _ _ hI
  obtain⟨hGF,hRF⟩:=fin0 hit G' R' i2
  rw[←hQf]
  refine⟨.normal,_,_,M',rfl,hend r s' h' hI,hGF,⟨hRF.hr,SR.put (d:=some t12) (SR.put (d:=some t11) hRF.sr (by unfold VR;trivial)) (by unfold VR;rfl),by rw[nP,nP];exact hRF.defers⟩⟩
 have round: ∀(seen:Array Nat)(c0:Nat)(a':Act)(w':World)(s':List V)(h':Hp)(M':List (Option Nat))(NX:Act→World→Prop),clock≤c0→I r ((pZ Z seen).map (·.1)) s' h'→
   Grow A' (M2.take N) (h3.take N) (setBlock wB r (.mapIter (some g) clock seen c0)) M' h' w'→Rel A' M' s' h' a' w'→
   (∀(z:(V×V)×MapEntry)(Z1 Z2:List ((V×V)×MapEntry))(a'':Act)(w'':World)(s'':List V)(h'':Hp)(M'':List (Option Nat)),pZ Z seen=Z1++z::Z2→I r ((Z1++Z2).map (·.1)) s'' h''→
    Grow A' (M2.take N) (h3.take N) (setBlock wB r (.mapIter (some g) clock (seen.push z.2.born) clock)) M'' h'' w''→Rel A' M'' s'' h'' a'' w''→NX a'' w'')→
   (Code.seq (.region i3 #[oN,oX] false) (.seq (.cond (.tmp t12) .skip (.exit b0)) (.block b1 (.seq (.region i4 (oE::rest).toArray false) REST)))).wp P (Exit.then NX (Exit.inBlock b0 Qf)) a' w':=by
  intro seen c0 a' w' s' h' M' NX hc0 hI G' R' hnext
  obtain⟨it10,i2,l11,l12⟩:=hIs _ _ _ _ hI
  obtain⟨hm1,hm2⟩:=hmap G'
  have l11':t11<a'.tmps.size:=by rw[←R'.sr.len];exact l11
  have l12':t12<a'.tmps.size:=by rw[←R'.sr.len];exact l12
  have e10:a'.eval (.tmp t10)= .pointer (some ⟨r,0,none⟩):=by
   have:=R'.sr.val t10 _ it10
   unfold itV VR at this
   exact this
  have get11: ∀v,(a'.put (some t11) v).eval (.tmp t11)=v:=fun v=>by simp[Act.eval,Act.put,a13,l11']
  have get12: ∀v u,((a'.put (some t11) v).put (some t12) u).eval (.tmp t12)=u:=fun v u=>by simp[Act.eval,Act.put,a13,l12']
  have get10: ∀v u,((a'.put (some t11) v).put (some t12) u).eval (.tmp t10)= .pointer (some ⟨r,0,none⟩):=fun v u=>by
   rw[Act.eval_put (fun d hd e=>by injection hd with hd;injection e with e;exact ht.2 (hd.trans e.symm)),Act.eval_put (fun d hd e=>by injection hd with hd;injection e with e;exact ht.1 (hd.trans e.symm))]
   exact e10
  refine wp_seq (wp_region ?_)
  rw[show a2w (#[oN,oX]:Array Oper).size=[0,1]from rfl,wpOps_cons]
  have hz2:(leftOf es seen).toList=(pZ Z seen).map (·.2):=aV4 z2 seen
  rcases run_next_at (P:=P) w' oN.type r g clock c0 seen es clock hm2 hm1 hok.born hc0 with⟨hz,e1⟩|⟨e,he,w1,hw1,e1⟩
  ·have hemp:pZ Z seen=[]:=by
    have:((pZ Z seen).map (·.2)).length=0:=by rw[←hz2];simpa using hz
    exact a10 (by simpa using this)
   refine aDl (o:=oN) rfl hoN.2.2 (v:= .tuple #[.bool false]) (w':=w') (by simp[execOp,hoN.1,e10,e1]) ?_
   rw[hoN.2.1,wpOps_cons]
   refine aDl (o:=oX) rfl hoX.2.2 (v:= .bool false) (w':=w') (by simp[execOp,hoX.1,get11,Instr.extract]) ?_
   rw[hoX.2.1]
   refine wp_seq (wp_cond_false (get12 _ _) (wp_exit ?_))
   show Exit.inBlock b0 Qf (.exit b0) _ _
   simp only[Exit.inBlock,if_true]
   rw[hemp]at hI
   exact fin rfl G' R' hI
  rw[hz2]at he
  obtain⟨z,hzm,rfl⟩:=a16.1 he
  obtain⟨Z1,Z2,hsp⟩:=List.append_of_mem hzm
  have hzZ:z∈Z:=(List.mem_filter.1 hzm).1
  have hzes:z.2∈es.toList:=by rw[←z2];exact a16.2 ⟨z,hzZ,rfl⟩
  have G1:Grow A' (M2.take N) (h3.take N) (setBlock wB r (.mapIter (some g) clock seen c0)) M' h' w1:=by
   rcases hw1 with rfl|rfl
   ·exact G'
   exact G'.trans (Grow.drew G'.hr)
  have R1:Rel A' M' s' h' a' w1:=by
   rcases hw1 with rfl|rfl
   ·exact R'
   exact R'.drewR
  obtain⟨_,hm3⟩:=hmap G1
  have hbB:r<wB.heap.size:=by omega
  have G3:=G1.setIt (o:= .mapIter (some g) clock seen c0) (o':= .mapIter (some g) clock (seen.push z.2.born) clock) hAr (aDx hbB) rfl hm3 rfl
  rw[set_set]at G3
  have R3:Rel A' M' s' h' a' (setBlock w1 r (.mapIter (some g) clock (seen.push z.2.born) clock)):=R1.world (aLK hm3 rfl rfl) (fun y hy=>by rw[hy];exact hAr)
  obtain⟨hm4,hm5⟩:=hmap G3
  generalize setBlock w1 r (.mapIter (some g) clock (seen.push z.2.born) clock)=w3 at e1 G3 R3 hm4 hm5
  refine aDl (o:=oN) rfl hoN.2.2 (v:= .tuple #[.bool true,z.2.key,z.2.val]) (w':=w3) (by simp[execOp,hoN.1,e10,e1]) ?_
  rw[hoN.2.1,wpOps_cons]
  refine aDl (o:=oX) rfl hoX.2.2 (v:= .bool true) (w':=w3) (by simp[execOp,hoX.1,get11,Instr.extract]) ?_
  rw[hoX.2.1]
  refine wp_seq (wp_cond_true (get12 _ _) (wp_skip ?_))
  refine wp_block (wp_seq (wp_region ?_))
  have hsz2:a2w (oE::rest).toArray.size=0::a2t 1 rest.length:=by
   rw[a19,a1N,a2i,a2q]
  rw[hsz2,wpOps_cons]
  have he3:(Instr.entry (.pointer (some ⟨r,0,none⟩))).run P w3= .ok (.tuple #[z.2.key,z.2.val]) w3:=run_entry_at w3 r g clock seen es clock z.2 hm5 hm4 hzes hok.nd
  refine aDl (o:=oE) rfl hoE.2.2 (v:= .tuple #[z.2.key,z.2.val]) (w':=w3) (by simp[execOp,hoE.1,get10,he3]) ?_
  rw[hoE.2.1]
  have E3:=hE2 rfl G3
  have hx3:=hX2 rfl G3
  obtain⟨v1,v2⟩:=z3 z hzZ
  have hzm:z.1∈ma.es:=by rw[←z1];exact a16.2 ⟨z,hzZ,rfl⟩
  obtain⟨c1,c2⟩:=hcl _ hzm
  have k1:VR (Xs A' M' h') M' w3 z.1.1 z.2.key:=VR.lift (VR.ext E3 (a1L _) (fun _ _ h=> .inr h) hx3 _ _ (c1 _ _ _ _ v1))
  have k2:VR (Xs A' M' h') M' w3 z.1.2 z.2.val:=VR.lift (VR.ext E3 (a1L _) (fun _ _ h=> .inr h) hx3 _ _ (c2 _ _ _ _ v2))
  have R4:Rel A' M' (((s'.set t11 .any).set t12 (.sc (.bool true))).set t13 (.tup [z.1.1,z.1.2])) h' (((a'.put (some t11) (.tuple #[.bool true,z.2.key,z.2.val])).put (some t12) (.bool true)).put (some t13) (.tuple #[z.2.key,z.2.val])) w3:=by
   refine⟨R3.hr,SR.put (d:=some t13) (SR.put (d:=some t12) (SR.put (d:=some t11) R3.sr (by unfold VR;trivial)) (by unfold VR;rfl)) ?_,by rw[nP,nP,nP];exact R3.defers⟩
   unfold VR
   exact⟨[z.2.key,z.2.val],rfl,by unfold VCells;exact⟨_,_,rfl,k1,by unfold VCells;exact⟨_,_,rfl,k2,by unfold VCells;rfl⟩⟩⟩
  rw[hsp,a1Q,a2b]at hI
  refine hbody r _ _ _ _ _ hI 1 (fun j=>by simp[Nat.add_comm 1 j]) A' (M2.take N) M' (h3.take N) _ _ w3 _ lN lM G3 R4 fun s5 h5 M5 a5 w5 hab G5 R5=> ?_
  refine Code.wp_mono (fun ex a6 w6 ⟨x6,s6,h6,M6,hx6,hx8,G6,R6⟩=> ?_) (hab A' (M2.take N) M5 (h3.take N) _ a5 w5 lN lM G5 R5)
  subst hx6
  rcases hx8 with⟨hx7,hI6⟩|⟨rfl,i2,hQ6⟩
  ·rw[←a1Q]at hI6
   have hN6:=hnext z Z1 Z2 a6 w6 s6 h6 M6 hsp hI6 G6 R6
   rcases hx7 with rfl|rfl
   ·exact hN6
   show Exit.inBlock b1 _ (.exit b1) a6 w6
   simp only[Exit.inBlock,if_true]
   exact hN6
  obtain⟨hGF,hRF⟩:=fin0 rfl G6 R6 i2
  show Qf _ a6 w6
  rw[←hQf]
  exact⟨.ret,_,_,M6,rfl,hQ6,hGF,hRF⟩
 have loop: ∀(n:Nat)(seen:Array Nat)(c0:Nat)(a':Act)(w':World)(s':List V)(h':Hp)(M':List (Option Nat)),(pZ Z seen).length=n→clock≤c0→I r ((pZ Z seen).map (·.1)) s' h'→
   Grow A' (M2.take N) (h3.take N) (setBlock wB r (.mapIter (some g) clock seen c0)) M' h' w'→Rel A' M' s' h' a' w'→
   Code.rounds P (.seq (.region i3 #[oN,oX] false) (.seq (.cond (.tmp t12) .skip (.exit b0)) (.block b1 (.seq (.region i4 (oE::rest).toArray false) REST)))) (Exit.inBlock b0 Qf) (n+1) a' w':=by
  intro n
  induction n with
  |zero=>
   intro seen c0 a' w' s' h' M' hn hc0 hI G' R'
   refine round seen c0 a' w' s' h' M' _ hc0 hI G' R' fun z Z1 Z2 a'' w'' s'' h'' M'' hsp _ _ _=> ?_
   rw[hsp]at hn
   simp at hn
  |succ n ih=>
   intro seen c0 a' w' s' h' M' hn hc0 hI G' R'
   refine round seen c0 a' w' s' h' M' _ hc0 hI G' R' fun z Z1 Z2 a'' w'' s'' h'' M'' hsp hI2 G'' R''=> ?_
   have hpu:=aSR hnd hsp
   refine ih (seen.push z.2.born) clock a'' w'' s'' h'' M'' ?_ (a2n _) (by rw[hpu];exact hI2) G'' R''
   rw[hpu]
   rw[hsp]at hn
   simp at hn⊢
   omega
 refine wp_block (wp_loop_rounds ((pZ Z #[]).length+1) (loop _ #[] clock _ wB (s2.set t10 (itV r)) h3 M2 rfl (a2n _) ?_ ?_ hRel))
 ·have:(pZ Z #[]).map (·.1)=ma.es:=by
   rw[←z1]
   congr 1
   unfold pZ
   rw[a12]
   intro y _
   simp
  rw[this,hh3]
  exact hI0 r
 have:setBlock wB r (.mapIter (some g) clock #[] clock)=wB:=by
  unfold setBlock
  have:wB.heap.setIfInBounds r (.mapIter (some g) clock #[] clock)=wB.heap:=by
   apply a2o
   intro j
   by_cases hj:r=j
   ·subst hj;rw[a1P (by omega),hrB]
   rw[a1Y hj]
  rw[this]
 rw[this]
 exact hGrow
end
end Go.Vm
set_option maxRecDepth 4000
namespace Go.Vm
open Go
theorem aUx {α β:Type}{f:α→List β}{k:Nat}(hk: ∀x,(f x).length=k): ∀(l:List α)(i j:Nat),j<k→(l.flatMap f)[i*k+j]? =(l[i]?).bind fun x=>(f x)[j]?
 | [],i,j,_=>by simp
 |x::l,0,j,h=>by rw[a1S,Nat.zero_mul,a18,a1T (by rw[hk];exact h)];rfl
 |x::l,i+1,j,h=>by
  rw[a1S,List.getElem?_append_right (by rw[hk,a2u];omega),hk,show(i+1)*k+j-k=i*k+j by rw[a2u];omega]
  exact aUx hk l i j h
theorem aGs {α β:Type}{f:α→List β}{k:Nat}(hk: ∀x,(f x).length=k)(l:List α):(l.flatMap f).length=l.length*k:=by
 induction l with
 |nil=>simp
 |cons x l ih=>rw[a1S,a17,ih,hk,a1N,a2u];omega
theorem aMr {α:Type} [Inhabited α] {enc:α→List Value} {k:Nat} (hk: ∀x,(enc x).length=k) (d:Array α):Sort.flatK enc k d=(d.toList.flatMap enc).toArray:=by
 refine Array.ext (by simp[aGs hk]) fun t h1 h2=> ?_
 have ht:t<d.size*k:=by simpa using h1
 have k0:0<k:=by
  rcases Nat.eq_zero_or_pos k with rfl|h
  ·simp at ht
  exact h
 have hi:t/k<d.size:=(Nat.div_lt_iff_lt_mul k0).2 ht
 have hj:t%k<k:=Nat.mod_lt _ k0
 have e:=aUx hk d.toList (t/k) (t%k) hj
 rw[Nat.mul_comm,Nat.div_add_mod]at e
 rw[←getElem!_pos _ t h1,Sort.get_flatK enc k d t ht,a2k]
 rw[a1V (by simpa using h2),a1V (by simpa using hi)]at e
 simp only[Option.bind_some,a2l]at e
 rw[getElem!_pos d _ hi,getElem!_pos (enc d[t/k]) _ (by rw[hk];exact hj)]
 rw[a1V (by rw[hk];exact hj)]at e
 exact(a1W e).symm
theorem aMm : ∀(vs:List Value)(s:Nat)(F:Array Value),F.toList.length=s+vs.length→Sort.setMany F s vs=(F.toList.take s++vs).toArray
 | [],s,F,h=>by
  rw[Sort.setMany,a2f,a2c (by simp at h ⊢; omega)]
 |v::vs,s,F,h=>by
  simp only[a1N]at h
  rw[Sort.setMany,aMm vs (s+1) _ (by simp at h ⊢; omega)]
  congr 1
  rw[Array.toList_setIfInBounds,List.take_add_one,List.take_set_of_le (a2n _),a1X (by omega),a2p]
  rfl
theorem Ext.growing {S:Nat→Prop}{w w':World}(h:Ext S w w')(hS: ∀g,¬S g): ∃q os,w'=Sort.grow (w.drewN q) os:=by
 refine⟨w'.drawn-w.drawn,w'.heap.extract w.heap.size w'.heap.size, ?_⟩
 have e1:=h.os
 have e2:=h.tape.1
 have e3:=h.output
 have e4:=h.tape.2
 have e5:w'.heap=w.heap++w'.heap.extract w.heap.size w'.heap.size:=by
  refine a2o fun i=> ?_
  by_cases hi:i<w.heap.size
  ·rw[h.block i hi (hS i),a15 hi]
  rw[Array.getElem?_append_right (by omega),Array.getElem?_extract]
  have:=h.size
  by_cases h2:i<w'.heap.size
  ·rw[if_pos (by omega),show w.heap.size+(i-w.heap.size)=i by omega]
  rw[if_neg (by omega),a2d (by omega)]
 cases w'
 cases w
 simp only at e1 e2 e3 e4 e5
 subst e1 e2 e3
 simp only[Sort.grow,World.drewN,World.mk.injEq,and_true,true_and]
 exact⟨e5,by omega⟩
theorem Ext.grown (w:World)(m:Nat)(os:Array Obj):Ext (fun _=>False) w (Sort.grow (Sort.ahead w m) os):=by
 have k: ∀g,g<w.heap.size→(Sort.grow (Sort.ahead w m) os).heap[g]? =w.heap[g]? :=fun g hg=>by
  show(w.heap++os)[g]? =_
  rw[a15 hg]
 have lt: ∀g sh,w.shape? g=some sh→g<w.heap.size:=fun g s h=>by
  rcases Nat.lt_or_ge g w.heap.size with hl|hl
  ·exact hl
  unfold World.shape? at h;rw[a2d hl]at h;cases h
 exact⟨rfl,⟨rfl,by show w.drawn≤w.drawn+m;omega⟩,rfl,by simp[Sort.ahead],fun g hg _=>k g hg,fun g sh h=>by unfold World.shape? at h ⊢; rw[k g (lt g sh h)];exact h,fun g hg h=>by unfold World.shape? at h ⊢; rw[k g hg];exact h⟩
section
variable {P:Program}{β:Type}{C:β→List V}{ok:β→Prop}{X:Nat→Prop}{M:List (Option Nat)}{w:World}
abbrev yW (C:β→List V)(ok:β→Prop)(X:Nat→Prop)(M:List (Option Nat))(w:World):Type:={p:β×List Value // ok p.1∧VCells X M w (C p.1) p.2}
theorem cellsOf : ∀(l:List β)(vs:List Value),(∀x∈l,ok x)→VCells X M w (l.flatMap C) vs→ ∃d:List (yW C ok X M w),d.map (·.1.1)=l∧d.flatMap (·.1.2)=vs
 | [],vs,_,h=>by
  have:=h.len
  exact⟨[],rfl,(a10 this.symm).symm⟩
 |x::l,vs,ho,h=>by
  rw[a1S]at h
  have h1:=h.take (C x).length
  have h2:=h.drop (C x).length
  rw[List.take_left]at h1
  rw[List.drop_left]at h2
  obtain⟨d,e1,e2⟩:=cellsOf l _ (fun y hy=>ho y (by simp[hy])) h2
  exact⟨⟨(x,vs.take (C x).length),ho x (by simp),h1⟩::d,by simp[e1],by simp only[a1S,e2,List.take_append_drop]⟩
theorem aTW (d:List (yW C ok X M w)):VCells X M w ((d.map (·.1.1)).flatMap C) (d.flatMap (·.1.2)):=by
 induction d with
 |nil=>simp[VCells]
 |cons a d ih=>simpa using a.2.2.append ih
theorem aQR : ∀vs:List Value,VCells X M w (vs.map .sc) vs
 | []=>by simp[VCells]
 |v::vs=>by
  rw[a2b];unfold VCells
  exact⟨v,vs,rfl,by unfold VR;rfl,aQR vs⟩
theorem aXr {ρ:Shelf.Ren}(L:Proofs.SlLaysF0.n6 P ρ){k:Nat}(aE: ∀w,(isAgg (ρ.t 24)).run P w= .ok true w)(zE: ∀w,(Go.sizeOf (ρ.t 24)).run P w= .ok k w)
  (hnone: ∀(p:Option Addr)(cap:Nat)(fv:Value)(w:World),Calls P (ρ.f 6) #[.slice p 0 cap,fv] w fun e w'=>e= .returned (.tuple #[])∧w'=w)
  (hC: ∀x,(C x).length=k) (h1: ∀x,(C x).all V.one=true) (hcl: ∀x,∀c∈C x,Clo c) {cf:β→β→Int} (irr: ∀x,ok x→ ¬cf x x<0) (tr: ∀x y z,ok x→ok y→ok z→cf x y<0→cf y z<0→cf x z<0) (ntr: ∀x y z,ok x→ok y→ok z→ ¬cf x y<0→ ¬cf y z<0→ ¬cf x z<0)
  {g:FuncId} (eg: ∀args w,(callFunc g args).run P w= .ok (.enter g args) w) (hg: ∀x y,ok x→ok y→Fn P g [] [.agg (C x),.agg (C y)] (eI .i64 (cf x y)) []) {e:TypeId} {l r:List β} (hl: ∀x∈l,ok x) (hlen:l.length≤100000)
  (hr: ∀l':List β,l'.Perm l→l'.Pairwise (fun a b=> ¬cf b a<0)→l'=r):Fn P (ρ.f 6) [some ⟨e,l.flatMap C⟩] [.sl 0 0 l.length k true,.sc (.func (.func g) #[] #[])] (.tup []) [some ⟨e,r.flatMap C⟩]:=by
 intro A M w vs H hargs
 have hret: ∀{X M w},VR X M w (.tup []) (.tuple #[]):=by
  intro X M w
  unfold VR
  exact⟨[],rfl,by unfold VCells;rfl⟩
 unfold VCells at hargs
 obtain⟨v1,_,rfl,hv1,hargs⟩:=hargs
 unfold VCells at hargs
 obtain⟨v2,_,rfl,hv2,hargs⟩:=hargs
 unfold VCells at hargs
 subst hargs
 unfold VR at hv2
 subst hv2
 refine .inl ⟨L.f6.enters rfl _ _, ?_⟩
 cases l with
 |nil=>
  obtain rfl:[]=r:=hr [] (a2m _) List.Pairwise.nil
  have hv: ∃p cap,v1= .slice p 0 cap:=by
   unfold VR at hv1
   rcases hv1 with⟨_,h,_⟩|⟨_,_,_,_,_,h,_⟩
   ·exact⟨_,_,h⟩
   exact⟨_,_,h⟩
  obtain⟨p,cap,rfl⟩:=hv
  refine(hnone p cap _ w).mono ?_
  rintro e w' ⟨he,rfl⟩
  exact⟨_,he,M,Grow.refl H,hret⟩
 |cons x0 l0=>
  generalize hll:x0::l0=l at *
  have l1:0<l.length:=by rw[←hll];simp
  unfold VR at hv1
  obtain⟨_,_,h,_⟩|⟨b,cap,e',sz,hM,rfl,hcap,_,k0,hsh,_⟩:=hv1
  ·omega
  obtain⟨hone,⟨hn,_⟩|⟨b',cs,hM',hA,hh,hle,hcs⟩⟩:=H.blk 0 _ rfl
  ·rw[hM]at hn;cases hn
  obtain rfl:b=b':=a1W (a1W (hM.symm.trans hM'))
  simp only at hle hcs hone
  obtain⟨d,hd1,hd2⟩:=cellsOf l _ hl hcs
  have hdl:d.length=l.length:=by
   have:=congrArg List.length hd1
   simpa using this
  obtain⟨a0⟩:Nonempty (yW C ok (Xs A M [some ⟨e,l.flatMap C⟩]) M w):=by
   cases d with
   |nil=>simp at hdl;omega
   |cons a _=>exact⟨a⟩
  letI:Inhabited (yW C ok (Xs A M [some ⟨e,l.flatMap C⟩]) M w):=⟨a0⟩
  obtain⟨enc,henc⟩: ∃enc:yW C ok (Xs A M [some ⟨e,l.flatMap C⟩]) M w→List Value,enc=fun a=>a.1.2:=⟨_,rfl⟩
  have hk: ∀a,(enc a).length=k:=fun a=>by rw[henc];exact a.2.2.len.symm.trans (hC _)
  have hone': ∀a,∀v∈enc a,v.oneCell'=true:=fun a=>by rw[henc];exact a.2.2.oneCell (h1 _)
  have hb:b<w.heap.size:=hh.lt
  obtain⟨f,hf,hheap⟩:=hh.inCells hsh
  have hfl:(l.flatMap C).length=l.length*k:=aGs hC l
  have hH:Sort.HoldsK enc k w b 0 d.toArray:=by
   unfold Sort.HoldsK
   rw[aMr hk,henc]
   simp only
   rw[hd2]
   intro j hj
   simp only[a19,a1Z,Array.length_toList]at hj
   refine⟨?_, ?_⟩
   ·rw[a18,hh.cell hsh,getElem!_pos _ j (by simpa using hj),a2k,List.getElem_take,a2l]
    exact Array.getElem?_eq_getElem _
   unfold World.frozen?
   rw[a18]
   simp only[hheap]
   exact aSj hf (by omega)
  have lay: ∀(D:Array (yW C ok (Xs A M [some ⟨e,l.flatMap C⟩]) M w))(news:List V),D.size=l.length→news.length=l.length*k→news.all V.one=true→VCells (Xs A M [some ⟨e,l.flatMap C⟩]) M w news (D.toList.flatMap enc)→Grow A M [some ⟨e,l.flatMap C⟩] w M [some ⟨e,news⟩] (Sort.putRowK enc k w b 0 D):=by
   intro D news hD hn hno hv
   have hDk:D.size*k=d.length*k:=by rw[hD,hdl]
   have hDl:D.size*k=l.length*k:=by rw[hD]
   obtain⟨w',e1,G⟩:=Grow.store (P:=P) H (b:=0) (B:=⟨e,l.flatMap C⟩) rfl (off:=0) (news:=news) (vs:=D.toList.flatMap enc) (by simp only;omega) hv (fun v hv=>by
    obtain⟨a,_,ha⟩:=a11.1 hv
    exact hone' a v ha) hM hsh (fun c hc=>a1O.1 hno c hc)
   have e2:=Proofs.stores_of_holds P hH 0 (D.toList.flatMap enc) (by rw[Sort.size_flatK,aGs hk];simp;omega) (fun v hv=>by
    obtain⟨a,_,ha⟩:=a11.1 hv
    exact hone' a v ha)
   have e3:w'=w.setCells b 0 (D.toList.flatMap enc):=by
    have:=e1.symm.trans e2
    injection this
   have e4:Sort.putRowK enc k w b 0 D=w.setCells b 0 (D.toList.flatMap enc):=by
    have:=Sort.setCells_putRow w b 0 (D.toList.flatMap enc) 0 (Sort.flatK enc k d.toArray) (by rw[Sort.size_flatK,aGs hk];simp;omega)
    rw[aMm _ _ _ (by rw[aMr hk];simp only[aGs hk];simp;omega),List.take_zero,a2v,←aMr hk]at this
    rw[show Sort.putRow id w b 0 (Sort.flatK enc k d.toArray)=w from Sort.putRowK_self enc k w b 0 _ hH]at this
    exact this.symm
   have e5:splice (l.flatMap C) 0 news=news:=by
    unfold splice
    rw[List.take_zero,a2v,a18,List.drop_eq_nil_of_le (by omega),a2f]
   rw[e4,←e3]
   simpa only[e5,List.set_cons_zero]using G
  have scs: ∀D:Array (yW C ok (Xs A M [some ⟨e,l.flatMap C⟩]) M w),D.size=l.length→ ∀m os,Ext (c8 M [some ⟨e,l.flatMap C⟩]) w (Proofs.sortWorldK enc k w b 0 m D os):=by
   intro D hD m os
   refine(lay D ((D.toList.flatMap enc).map .sc) hD (by rw[a14,aGs hk];simp[hD]) ?_ (aQR _)).ext.trans ((Ext.grown (Sort.putRowK enc k w b 0 D) m os).mono fun _ _ h=>h.elim)
   rw[List.all_map,a1O]
   intro v hv
   obtain⟨a,_,ha⟩:=a11.1 hv
   exact hone' a v ha
  have hcmp:Proofs.CmpLays P g #[] enc k (fun x y=>cf x.1.1 y.1.1) b 0 d.toArray.size w:=by
   intro m os D hD x y
   have E:=scs D (by rw[hD];simpa using hdl) m os
   have HN:HR (Xs A M [some ⟨e,l.flatMap C⟩]) [] [] (Proofs.sortWorldK enc k w b 0 m D os):=HR.nil (fun y hy=>a1K (H.lt hy) E.size) (H.glob.ext E (fun _ _ h=> .inr h) fun _ _ h=>h)
   have arg: ∀a:yW C ok (Xs A M [some ⟨e,l.flatMap C⟩]) M w,VR (Xs (Xs A M [some ⟨e,l.flatMap C⟩]) [] []) [] (Proofs.sortWorldK enc k w b 0 m D os) (.agg (C a.1.1)) (.agg (enc a).toArray):=fun a=>by
    unfold VR
    have:=VCells.ext E (a1L _) (fun _ _ h=> .inr h) (fun _ _ h=>aNY.1 h) _ _ (aHh (hcl _) _ _ _ _ a.2.2)
    rw[show a.1.2=enc a by rw[henc]]at this
    exact⟨_,rfl,this⟩
   have:=hg x.1.1 y.1.1 x.2.1 y.2.1 _ _ _ [.agg (enc x).toArray,.agg (enc y).toArray] HN (by
    unfold VCells
    refine⟨_,_,rfl,arg x, ?_⟩
    unfold VCells
    exact⟨_,_,rfl,arg y,by unfold VCells;rfl⟩)
   obtain⟨_,hc⟩|⟨v,w',hc,_⟩:=this
   ·refine hc.mono ?_
    rintro e1 w' ⟨v,he,M',G,hv⟩
    unfold VR at hv
    subst hv
    exact⟨he,G.ext.growing fun g hg=>by obtain⟨_,_,h,_⟩:=hg;simp at h⟩
   rw[eg]at hc
   cases hc
  have swo:Sort.SWO (Proofs.ltOf fun x y:yW C ok (Xs A M [some ⟨e,l.flatMap C⟩]) M w=>cf x.1.1 y.1.1):=by
   refine⟨fun x=> ?_,fun x y z h1 h2=> ?_,fun x y z h1 h2=> ?_⟩<;>simp only[Proofs.ltOf,decide_eq_true_eq,decide_eq_false_iff_not]at *
   ·exact irr _ x.2.1
   ·exact tr _ _ _ x.2.1 y.2.1 z.2.1 h1 h2
   exact ntr _ _ _ x.2.1 y.2.1 z.2.1 h1 h2
  have fin:=Proofs.AnyQ.slices_SortFunc L k aE zE enc hk hone' _ swo g #[] b 0 cap d.toArray w eg hcmp hH hb (by simp;omega)
  rw[show d.toArray.size=l.length by simpa using hdl]at fin
  refine fin.mono ?_
  rintro e1 w' ⟨he,d',n,os,⟨p1,_,p2⟩,hs,rfl⟩
  have ds:d'.size=l.length:=by rw[p1];simpa using hdl
  have p3:d'.toList.Perm d:=by
   have a1:(d'.extract 0 l.length).toList=d'.toList:=by rw[←ds];simp
   have a2:(d.toArray.extract 0 l.length).toList=d:=by rw[←hdl];simp
   rwa[a1,a2]at p2
  have pr:d'.toList.map (·.1.1)=r:=hr _ ((p3.map _).trans (List.Perm.of_eq hd1)) (by
   rw[List.pairwise_map,List.pairwise_iff_getElem]
   intro i j hi hj hij
   have:=hs i j (Nat.zero_le _) hij (by rw[←ds];simpa using hj)
   simp only[Proofs.ltOf,decide_eq_false_iff_not]at this
   rw[getElem!_pos _ _ (by simpa using hj),getElem!_pos _ _ (by simpa using hi)]at this
   simpa using this)
  have G:=lay d' (r.flatMap C) ds (by rw[aGs hC,←pr];simp[ds]) (by
   rw[List.all_flatMap,a1O]
   exact fun x _=>h1 x) (by rw[henc,←pr];exact aTW _)
  refine⟨_,he,M,G.trans (Grow.none_changed G.hr (Ext.grown _ n os)),hret⟩
end
end Go.Vm
set_option maxRecDepth 20000
set_option maxHeartbeats 1000000
namespace Go.Proofs.YtopdhljncajmpaaGreatDoor
open Go Go.Vm
theorem pM {o:aD}(h:aJy o=true):o.Tx.length=32∧Byt o.Tx:=by
 unfold aJy at h
 rw[Bool.and_eq_true,a1O]at h
 exact⟨of_decide_eq_true h.1,fun x hx=>of_decide_eq_true (h.2 x hx)⟩
theorem aZE {N:Nat}(hN:70000≤N)(hk: ∀{a b:aA} {r:Int},qT N a b=some r→Vm.Fn Tryz.prog 103 [] [aP a,aP b] (eI .i64 r) []){e:TypeId}{l r:List aA}(hs:lY l=some r):
  Vm.Fn Tryz.prog 102 [some ⟨e,l.flatMap aH⟩] [.sl 0 0 l.length 37 true,.sc (.func (.func 103) #[] #[])] (.tup []) [some ⟨e,r.flatMap aH⟩]:=by
 unfold lY at hs
 split at hs
 ·rename_i hi
  obtain⟨h1,h2,h3⟩:=hi
  obtain rfl:=a1W hs
  refine aXr (ok:=fun c=>aJy c.Out=true) (cf:=fun a b=>eY a.Out b.Out) Tryz.sortCoin Tryz.isAgg80 Tryz.sizeOf80 (fun p cap fv w=>AnyF.slices_SortFunc_none Tryz.sortCoin p cap fv w) (fun _=>rfl) (fun _=>rfl) (fun x c hc=> ?_) (fun x _=>by rw[wV];decide) (fun x y z hx hy hz=>aFf (pM hx).1 (pM hy).1 (pM hz).1) (fun x y z hx hy hz h4 h5 h6=> ?_) (fun args w=>aK3 Tryz.func103 rfl rfl args w) (fun x y hx hy=>hk ?_) (fun c hc=>h2 c hc) h1 fun l' p hw=> ?_
  ·have:=a1O.1 (show(aH x).all aLz=true from rfl) c hc
   exact fun X M w v hv=>aMc this hv
  ·have hx:=(pM hx).1
   have hy:=(pM hy).1
   have hz:=(pM hz).1
   rcases Int.lt_or_le (eY z.Out y.Out) 0 with h|h
   ·exact h4 (aFf hx hz hy h6 h)
   rw[mH]at h
   rw[aBf hy hz (by omega)]at h4
   exact h4 h6
  ·have hx:=pM hx
   have hy:=pM hy
   unfold qT
   rw[aQn hN hx.1 hy.1 hx.2 hy.2]
   rfl
  have hp:l'.Pairwise fun a b=>eY a.Out b.Out≠0:=(p.pairwise_iff (fun{a b} h=>by rw[mH];omega)).2 h3
  have hok: ∀m:List aA,(∀c∈m,zT c.Out)→(m.Pairwise fun a b=>eY a.Out b.Out≠0)→Srt (m.foldr k9 [])∧(m.foldr k9 []).Perm m:=aIc
  obtain⟨g1,g2⟩:=hok l (fun c hc=>pM (h2 c hc)) h3
  refine aJj ?_ g1 (p.trans g2.symm)
  unfold Srt
  exact(hw.and hp).imp fun h=>by
   obtain⟨a1,a2⟩:=h
   rw[mH]at a1
   omega
 cases hs
theorem aUN {N:Nat}(hN:70000≤N)(hk: ∀{a b:aA} {r:Int},qT N a b=some r→Vm.Fn Tryz.prog 103 [] [aP a,aP b] (eI .i64 r) []){e:TypeId}{l r:List aA}(hs:lY l=some r):
  Vm.Fn Tryz.prog 62 [some ⟨e,l.flatMap aH⟩] [.sl 0 0 l.length 37 true] (.tup []) [some ⟨e,r.flatMap aH⟩]:=by
 refine zf Tryz.func62 Tryz.ntmps62 ?_
 refine zz ?_
 refine zc (aZE hN hk hs) [0] ?_
 refine zz ?_
 exact zn0 Tryz.results62 (zG [0])
end Go.Proofs.YtopdhljncajmpaaGreatDoor
namespace Go.Vm
open Go
section
variable {P:Program}{N:Nat}
theorem AB.gpost {c:Code}{Q:Ex→List V→Hp→Prop}{s:List V}{h:Hp}(hh:AB P N c (fun e s h=> ∃s' h',Ghost N s h s' h'∧Q e s' h') s h):AB P N c Q s h:=by
 intro A M0 M h0 w0 a w hN hM G R
 refine Code.wp_mono (fun e a' w' ⟨x,s1,h1,M1,he,⟨s2,h2,hg,hq⟩,G1,R1⟩=> ?_) (hh A M0 M h0 w0 a w hN hM G R)
 obtain⟨t,ht⟩:=G1.pre
 have hle:N≤M1.length:=by rw[←ht];simp[hM]
 obtain⟨M2,e1,R2,l2⟩:=hg A M1 a' w' hle R1
 refine⟨x,s2,h2,M2,he,hq,⟨?_,R2.hr,G1.ext,fun g hg hl=>G1.live g hg (l2 g hl)⟩,R2⟩
 have:M0=M2.take N:=by rw[e1,←ht,←hM];simp
 rw[this]
 exact a2r _ _
theorem OpsX.hide {ops:Array Oper}{l:List Oper}{s:List V}{h:Hp}{K:List V→Hp→Prop}(hh: ∀K':List V→Hp→Prop,(∀s h,K s h→K' s h)→OpsX P N none ops l s h (Ex.then K' (fun _ _ _=>False) .normal)):OpsW P N ops l s h K:=hh K fun _ _ k=>k
theorem OpsW.mono {ops:Array Oper}{l:List Oper}{s:List V}{h:Hp}{K K':List V→Hp→Prop}(hh:OpsW P N ops l s h K)(hk: ∀s h,K s h→K' s h):OpsW P N ops l s h K':=fun k hl A M0 M h0 w0 a w Q hN hM G R hQ=>
 hh k hl A M0 M h0 w0 a w Q hN hM G R fun s' h' M' a' w' hq=>hQ s' h' M' a' w' (hk s' h' hq)
theorem aC7 {n t:Nat}{fr:List (Nat×V)}{x:V}:(aG n fr).set t x=aG n ((t,x)::fr):=aEE
end
end Go.Vm
namespace Go.Proofs.YtopdhljncajmpaaGreatDoor
open Go Go.Vm
theorem aIg {l m r:List aA}(p:m.Perm l)(h:lY l=some r):lY m=some r∧l.length=r.length∧l.length≤100000:=by
 unfold lY at h⊢
 split at h
 ·rename_i hi
  obtain⟨h1,h2,h3⟩:=hi
  obtain rfl:=a1W h
  have h2': ∀c∈m,aJy c.Out=true:=fun c hc=>h2 c (p.mem_iff.1 hc)
  have h3':m.Pairwise fun a b=>eY a.Out b.Out≠0:=(p.pairwise_iff (fun{a b} h=>by rw[mH];omega)).2 h3
  obtain⟨g1,g2⟩:=aIc l (fun c hc=>pM (h2 c hc)) h3
  obtain⟨k1,k2⟩:=aIc m (fun c hc=>pM (h2' c hc)) h3'
  rw[if_pos ⟨by rw[p.length_eq];exact h1,h2',h3'⟩,aJj k1 g1 (k2.trans (p.trans g2.symm))]
  exact⟨rfl,g2.length_eq.symm,h1⟩
 cases h
abbrev stC (aC:aK)(bK:Int)(n:Nat)(bZ:Int):Blk:=⟨102,(eI .u32 aC.Genesis.Version)::(aN (eI .u8) aC.Genesis.Prev (aN (eI .u8) aC.Genesis.Root ((eI .u32 aC.Genesis.Time)::((eI .u32 aC.Genesis.Bits)::((eI .u32 aC.Genesis.Nonce)::(eG (eI .u64) aC.Limit [eI .i64 aC.Window,eI .u32 aC.Spacing,eI .u32 aC.Future,eI .u32 aC.Version,.row none 33 (aC.Checkpoints.map bB),eI .i64 aC.Subsidy,eI .i64 aC.Halving,eI .i64 aC.Maturity,eI .i64 bK,.mp 1,.sl 2 0 n 37 true,eI .i64 bZ]))))))⟩
theorem aYA {N:Nat}(hN:70000≤N)(hk: ∀{a b:aA} {r:Int},qT N a b=some r→Vm.Fn Tryz.prog 103 [] [aP a,aP b] (eI .i64 r) [])
  (hcp: ∀{c r:aA},jI N c=some r→Vm.Fn Tryz.prog 55 [] [aP c] (aP r) []) {aC:aK} {bK:Int} {bY:List (aD×aA)} {bJ:List aA} {bZ:Int} {r:List aA} (hr:nL N aC bK bY bJ bZ=some r):
  Vm.Fn Tryz.prog 41 [some (stC aC bK bJ.length bZ),some ⟨33037,bY.flatMap fG⟩,some ⟨80,bJ.flatMap aH⟩] [.ptr 0 0] (.row none 37 (r.map aP)) [some (stC aC bK bJ.length bZ),some ⟨33037,bY.flatMap fG⟩,some ⟨80,bJ.flatMap aH⟩]:=by
 unfold nL at hr
 split at hr
 ·rename_i hsc
  obtain⟨_,hl1,hl2⟩:=aIg (a2m _) hr
  rw[a14]at hl1 hl2
  have cop: ∀e∈bY,jI N e.2=some e.2:=fun e he=>by
   have:=hsc e he
   unfold jI dM
   rw[eF (by omega) (by simp;omega)]
   rfl
  refine zf Tryz.func41 Tryz.ntmps41 ?_
  refine zz ?_
  refine AB.seq_g fun K1 hK1 hG1=> ?_
  have J1: ∀acc,lY acc=some r→acc.length=r.length→K1 (aG 23 [(3,.sl 3 0 acc.length 37 true)]) [some (stC aC bK bJ.length bZ),some ⟨33037,bY.flatMap fG⟩,some ⟨80,bJ.flatMap aH⟩,some ⟨80,acc.flatMap aH⟩]:=by
   intro acc hs hl
   refine hK1<|zz ?_
   refine zc (aUN hN hk hs) [3] ?_
   refine zz ?_
   rw[hl]
   exact zr1 Tryz.results41 fW (Ghost.trans (zv 3) (zG [0,1,2]))
  refine AB.mrange (pre:=[_,_,_,_]) (rest:=[_,_,_]) (t9:=9) (t10:=10) (t11:=11) (t12:=12) (t13:=13) (mt:=100) (K2:=fun s h=>s=aG 23 [(9,.mp 1),(8,.ptr 0 81),(7,.ptr 0 0),(6,.ptr 0 0),(3,.row (some true) 1 []),(2,.row (some true) 1 []),(0,.ptr 0 0)]∧h=[some (stC aC bK bJ.length bZ),some ⟨33037,bY.flatMap fG⟩,some ⟨80,bJ.flatMap aH⟩]) ⟨rfl,rfl,rfl⟩ ⟨rfl,rfl,rfl⟩ ⟨rfl,rfl,rfl⟩ ⟨rfl,rfl,rfl⟩ (by decide) ?_ ?_
  ·refine PreW.cons aG3 (sv (aTI rfl)) ?_
   rw[aEE]
   refine PreW.cons aG3 (sv (aT1 rfl)) ?_
   rw[aEE]
   refine PreW.cons aG3 (sv (aRt rfl rfl)) ?_
   rw[aEE]
   refine PreW.cons aG3 (sv (b8 rfl (ldP rfl (lW aPQ rfl rfl)))) ?_
   rw[aEE]
   exact PreW.nil ⟨rfl,rfl⟩
  rintro s2 h2 ⟨rfl,rfl⟩
  obtain⟨m,hm,_⟩:=MpC.at_ (P:=Tryz.prog) (t:=100) (k:=⟨[],0⟩) (l:=bY) (b:=1) (h:=[some (stC aC bK bJ.length bZ),some ⟨33037,bY.flatMap fG⟩,some ⟨80,bJ.flatMap aH⟩]) inferInstance rfl
  refine⟨⟨m,1,⟨33037,bY.flatMap fG⟩,bY.map fun x=>(.agg (cG x.1),aP x.2)⟩,.mp 1,fun rit rs s h=> ∃acc ents,rs=ents.map (fun x:aD×aA=>(V.agg (cG x.1),aP x.2))∧(acc++ents.map a2s).Perm (bY.map a2s)∧(∀e∈ents,e∈bY)∧
   ((acc=[]∧s=(aG 23 [(9,.mp 1),(8,.ptr 0 81),(7,.ptr 0 0),(6,.ptr 0 0),(3,.row (some true) 1 []),(2,.row (some true) 1 []),(0,.ptr 0 0)]).set 10 (itV rit)∧h=[some (stC aC bK bJ.length bZ),none,some ⟨80,bJ.flatMap aH⟩])∨(s=aG 23 [(3,.sl 3 0 acc.length 37 true),(10,itV rit)]∧h=[some (stC aC bK bJ.length bZ),none,some ⟨80,bJ.flatMap aH⟩,some ⟨80,acc.flatMap aH⟩])),(y9 (by decide)).trans rfl,hm,(show 1<3 by decide),(fun b B hb h=> ?_),(fun c hc=> ?_),(fun rit=>⟨[],bY,rfl,a2m _,fun _ h=>h,.inl ⟨rfl,rfl,rfl⟩⟩), ?_, ?_, ?_⟩
  ·rw[List.getElem?_eq_none (by simpa using hb)]at h
   cases h
  ·obtain⟨x,_,hx⟩:=a11.1 hc
   have:=a1O.1 (show(fG x).all aLz=true from rfl) c hx
   exact fun X M w v hv=>aMc this hv
  ·rintro rit rs s h ⟨acc,ents,_,_,_,⟨_,rfl,rfl⟩|⟨rfl,rfl⟩⟩
   ·rw[aC7]
    exact⟨(y9 (by decide)).trans rfl,rfl,by rw[n9];decide,by rw[n9];decide⟩
   exact⟨(y9 (by decide)).trans rfl,rfl,by rw[n9];decide,by rw[n9];decide⟩
  ·rintro rit rs1 y rs2 s h ⟨acc,ents,he,hp,hmem,hst⟩
   obtain⟨e1,e2',rfl,h1,h2⟩:=List.map_eq_append_iff.1 he.symm
   obtain⟨en,e2,rfl,h3,h4⟩:=List.map_eq_cons_iff.1 h2
   subst h1 h3 h4
   have hcop:=cop en (hmem en (by simp))
   have hlen:=hp.length_eq
   simp only[a17,a14,a1N]at hlen
   have happ:b6 88 acc [en.2]=some (acc++[en.2]):=eF (by omega) (by simp;omega)
   have hp':((acc++[en.2])++(e1++e2).map a2s).Perm (bY.map a2s):=by
    refine List.Perm.trans ?_ hp
    simp only[a1Q,a2b,a2p]
    exact List.Perm.append_left _ (List.perm_middle (l₁:=e1.map a2s)).symm
   have hmem': ∀e∈e1++e2,e∈bY:=fun e he=>hmem e (by rcases List.mem_append.1 he with h|h<;>simp[h])
   rcases hst with⟨rfl,rfl,rfl⟩|⟨rfl,rfl⟩
   ·rw[aC7,aC7,aC7,aC7]
    refine OpsX.hide fun K' hK'=> ?_
    refine zz ?_
    refine hK' _ _ (AB.gpost ?_)
    refine AB.ghost (zW 80 [0,1,2,3,4] (fr':=[(3,.sl 4 0 ([]:List aA).length 37 true),(5,.ptr 3 0),(10,itV rit)]) (h':=[some (stC aC bK bJ.length bZ),none,some ⟨80,bJ.flatMap aH⟩,some ⟨80,aH en.2⟩,some ⟨80,([]:List aA).flatMap aH⟩])) ?_
    refine zz ?_
    refine xp (hcp hcop)<|jU aH 37 [en.2] ?_
    refine zz ?_
    exact⟨_,_,zG [0,1,2,6],.inl ⟨.inl rfl,_,_,by rw[a1Q],hp',hmem',.inr ⟨rfl,rfl⟩⟩⟩
   rw[aC7,aC7,aC7]
   refine OpsX.hide fun K' hK'=> ?_
   refine zz ?_
   refine hK' _ _ (AB.gpost ?_)
   refine zz ?_
   refine xp (hcp hcop)<|jU aH 37 [en.2] ?_
   refine zz ?_
   exact⟨_,_,zG [0,1,2,6],.inl ⟨.inl rfl,_,_,by rw[a1Q],hp',hmem',.inr ⟨rfl,rfl⟩⟩⟩
  rintro rit s h ⟨acc,ents,he,hp,_,hst⟩
  obtain rfl:ents=[]:=List.map_eq_nil_iff.1 he.symm
  simp only[List.map_nil,a2f]at hp
  obtain⟨hs,_,_⟩:=aIg hp hr
  have hl:acc.length=r.length:=by rw[hp.length_eq,a14];exact hl1
  rcases hst with⟨rfl,rfl,rfl⟩|⟨rfl,rfl⟩
  ·rw[aC7,aC7,aC7]
   exact hG1 (zW 80 [0,1,2,3]) (J1 [] hs hl)
  rw[aC7,aC7]
  exact hG1 (zG [0,1,2,3]) (J1 acc hs hl)
 cases hr
end Go.Proofs.YtopdhljncajmpaaGreatDoor
