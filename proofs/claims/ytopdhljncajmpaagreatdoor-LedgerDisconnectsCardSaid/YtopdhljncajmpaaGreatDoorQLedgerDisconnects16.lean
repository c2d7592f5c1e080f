/- Texts of ours, joined: SortLay, SortV, SortC, ListC. -/
import Derived.Test.YtopdhljncajmpaaGreatDoorQLedgerDisconnects3
import Derived.Test.YtopdhljncajmpaaGreatDoorQLedgerDisconnects6
import Derived.Test.YtopdhljncajmpaaGreatDoorQLedgerDisconnects8
import Derived.Shelf.SlGeneric
import Derived.Shelf.SlLaysF0
import Derived.Ground.SlsfProg
import Derived.Test.YtopdhljncajmpaaGreatDoorProg
import Derived.Shelf.SlSortCmp.WholeK
import Derived.Shelf.SlSortCmp.NoneTotal
open List renaming all_eq_true → a1a,flatMap_cons → a1b,getElem?_eq_getElem → a1c,mem_flatMap → a1e,length_map → a1f,length_cons → a1h,append_nil → a1k,map_append → a1l,getElem_toArray → a1m,length_append → a1p,append_assoc → a1q,nil_append → a1t
open Option.some renaming inj → a1d
open Array renaming getElem?_append_left → a1g,getElem?_eq_none → a1i,getElem_toList → a1n
open Nat renaming zero_add → a1j,add_mul → a1s
open List.Perm renaming refl → a1o
open Prod renaming snd → a1r
set_option linter.unusedSimpArgs false
set_option linter.unusedVariables false
namespace Go.Proofs
open Go.Shelf
def Tryz.sortCoin_ren :Go.Shelf.Ren:=⟨fun|6=>102|15=>154|14=>153|28=>202|29=>187|20=>194|21=>195|22=>196|23=>197|24=>198|25=>199|26=>200|27=>201|46=>234|47=>235|48=>236|49=>237|50=>238|57=>253|n=>n,fun|22=>42|24=>80|25=>163|3=>3|39=>194|0=>0|53=>24|55=>29|4=>4|46=>236|45=>235|50=>201|5=>5|9=>9|66=>270|70=>274|76=>289|77=>290|n=>n,fun|n=>n⟩
theorem Tryz.sortCoin :Go.Proofs.SlLaysF0.n6 Tryz.prog Tryz.sortCoin_ren:={
 mixed:=by kernel_rfl
 f6:=⟨Tryz.f102.name,by decide,Tryz.func102.trans (congrArg some (by kernel_rfl))⟩
 f14:=⟨Tryz.f153.name,by decide,Tryz.func153.trans (congrArg some (by kernel_rfl))⟩
 f15:=Tryz.func154.trans (congrArg some (by kernel_rfl))
 f20:=⟨Tryz.f194.name,by decide,Tryz.func194.trans (congrArg some (by kernel_rfl))⟩
 f21:=⟨Tryz.f195.name,by decide,Tryz.func195.trans (congrArg some (by kernel_rfl))⟩
 f22:=⟨Tryz.f196.name,by decide,Tryz.func196.trans (congrArg some (by kernel_rfl))⟩
 f23:=⟨Tryz.f197.name,by decide,Tryz.func197.trans (congrArg some (by kernel_rfl))⟩
 f24:=⟨Tryz.f198.name,by decide,Tryz.func198.trans (congrArg some (by kernel_rfl))⟩
 f25:=⟨Tryz.f199.name,by decide,Tryz.func199.trans (congrArg some (by kernel_rfl))⟩
 f26:=⟨Tryz.f200.name,by decide,Tryz.func200.trans (congrArg some (by kernel_rfl))⟩
 f27:=⟨Tryz.f201.name,by decide,Tryz.func201.trans (congrArg some (by kernel_rfl))⟩
 f28:=Tryz.func202.trans (congrArg some (by kernel_rfl))
 f29:=Tryz.func187.trans (congrArg some (by kernel_rfl))
 f46:=⟨Tryz.f234.name,by decide,Tryz.func234.trans (congrArg some (by kernel_rfl))⟩
 f47:=Tryz.func235.trans (congrArg some (by kernel_rfl))
 f48:=Tryz.func236.trans (congrArg some (by kernel_rfl))
 f49:=⟨Tryz.f237.name,by decide,Tryz.func237.trans (congrArg some (by kernel_rfl))⟩
 f50:=⟨Tryz.f238.name,by decide,Tryz.func238.trans (congrArg some (by kernel_rfl))⟩
 f57:=⟨Tryz.f253.name,by decide,Tryz.func253.trans (congrArg some (by kernel_rfl))⟩
 t0:=Tryz.underlying0
 a0:=Tryz.isAgg0
 z0:=Tryz.sizeOf0
 v0:=Tryz.zeroValue0
 t3:=Tryz.underlying3
 a3:=Tryz.isAgg3
 z3:=Tryz.sizeOf3
 v3:=Tryz.zeroValue3
 t4:=Tryz.underlying4
 a4:=Tryz.isAgg4
 z4:=Tryz.sizeOf4
 v4:=Tryz.zeroValue4
 t5:=Tryz.underlying5
 a5:=Tryz.isAgg5
 z5:=Tryz.sizeOf5
 v5:=Tryz.zeroValue5
 t9:=Tryz.underlying9
 a9:=Tryz.isAgg9
 z9:=Tryz.sizeOf9
 v9:=Tryz.zeroValue9
 t22:=Tryz.underlying42
 a22:=Tryz.isAgg42
 z22:=Tryz.sizeOf42
 v22:=Tryz.zeroValue42
 t25:=Tryz.underlying163
 a25:=Tryz.isAgg163
 z25:=Tryz.sizeOf163
 v25:=Tryz.zeroValue163
 t39:=Tryz.underlying194
 a39:=Tryz.isAgg194
 z39:=Tryz.sizeOf194
 v39:=Tryz.zeroValue194
 t45:=Tryz.underlying235
 a45:=Tryz.isAgg235
 z45:=Tryz.sizeOf235
 v45:=Tryz.zeroValue235
 t46:=Tryz.underlying236
 a46:=Tryz.isAgg236
 z46:=Tryz.sizeOf236
 v46:=Tryz.zeroValue236
 t50:=Tryz.underlying201
 a50:=Tryz.isAgg201
 z50:=Tryz.sizeOf201
 v50:=Tryz.zeroValue201
 t53:=Tryz.underlying24
 a53:=Tryz.isAgg24
 z53:=Tryz.sizeOf24
 v53:=Tryz.zeroValue24
 t55:=Tryz.underlying29
 a55:=Tryz.isAgg29
 z55:=Tryz.sizeOf29
 v55:=Tryz.zeroValue29
 t66:=Tryz.underlying270
 a66:=Tryz.isAgg270
 z66:=Tryz.sizeOf270
 v66:=Tryz.zeroValue270
 t70:=Tryz.underlying274
 a70:=Tryz.isAgg274
 z70:=Tryz.sizeOf274
 v70:=Tryz.zeroValue274
 t76:=Tryz.underlying289
 a76:=Tryz.isAgg289
 z76:=Tryz.sizeOf289
 v76:=Tryz.zeroValue289
 t77:=Tryz.underlying290
 a77:=Tryz.isAgg290
 z77:=Tryz.sizeOf290
 v77:=Tryz.zeroValue290}
end Go.Proofs
set_option linter.unusedSectionVars false
set_option maxRecDepth 4000
namespace Go.Vm
open Go
theorem aUk {α β:Type}{f:α→List β}{k:Nat}(hk: ∀x,(f x).length=k): ∀(l:List α)(i j:Nat),j<k→(l.flatMap f)[i*k+j]? =(l[i]?).bind fun x=>(f x)[j]?
 | [],i,j,_=>by simp
 |x::l,0,j,h=>by rw[a1b,Nat.zero_mul,a1j,List.getElem?_append_left (by rw[hk];exact h)];rfl
 |x::l,i+1,j,h=>by
  rw[a1b,List.getElem?_append_right (by rw[hk,a1s];omega),hk,show(i+1)*k+j-k=i*k+j by rw[a1s];omega]
  exact aUk hk l i j h
theorem aGj {α β:Type}{f:α→List β}{k:Nat}(hk: ∀x,(f x).length=k)(l:List α):(l.flatMap f).length=l.length*k:=by
 induction l with
 |nil=>simp
 |cons x l ih=>rw[a1b,a1p,ih,hk,a1h,a1s];omega
theorem aLX {α:Type} [Inhabited α] {enc:α→List Value} {k:Nat} (hk: ∀x,(enc x).length=k) (d:Array α):Sort.flatK enc k d=(d.toList.flatMap enc).toArray:=by
 refine Array.ext (by simp[aGj hk]) fun t h1 h2=> ?_
 have ht:t<d.size*k:=by simpa using h1
 have k0:0<k:=by
  rcases Nat.eq_zero_or_pos k with rfl|h
  ·simp at ht
  exact h
 have hi:t/k<d.size:=(Nat.div_lt_iff_lt_mul k0).2 ht
 have hj:t%k<k:=Nat.mod_lt _ k0
 have e:=aUk hk d.toList (t/k) (t%k) hj
 rw[Nat.mul_comm,Nat.div_add_mod]at e
 rw[←getElem!_pos _ t h1,Sort.get_flatK enc k d t ht,a1m]
 rw[a1c (by simpa using h2),a1c (by simpa using hi)]at e
 simp only[Option.bind_some,a1n]at e
 rw[getElem!_pos d _ hi,getElem!_pos (enc d[t/k]) _ (by rw[hk];exact hj)]
 rw[a1c (by rw[hk];exact hj)]at e
 exact(a1d e).symm
theorem aLR : ∀(vs:List Value)(s:Nat)(F:Array Value),F.toList.length=s+vs.length→Sort.setMany F s vs=(F.toList.take s++vs).toArray
 | [],s,F,h=>by
  rw[Sort.setMany,a1k,List.take_of_length_le (by simp at h ⊢; omega)]
 |v::vs,s,F,h=>by
  simp only[a1h]at h
  rw[Sort.setMany,aLR vs (s+1) _ (by simp at h ⊢; omega)]
  congr 1
  rw[Array.toList_setIfInBounds,List.take_add_one,List.take_set_of_le (Nat.le_refl _),List.getElem?_set_self (by omega),a1q]
  rfl
theorem Ext.growing {S:Nat→Prop}{w w':World}(h:Ext S w w')(hS: ∀g,¬S g): ∃q os,w'=Sort.grow (w.drewN q) os:=by
 refine⟨w'.drawn-w.drawn,w'.heap.extract w.heap.size w'.heap.size, ?_⟩
 have e1:=h.os
 have e2:=h.tape.1
 have e3:=h.output
 have e4:=h.tape.2
 have e5:w'.heap=w.heap++w'.heap.extract w.heap.size w'.heap.size:=by
  refine Array.ext_getElem? fun i=> ?_
  by_cases hi:i<w.heap.size
  ·rw[h.block i hi (hS i),a1g hi]
  rw[Array.getElem?_append_right (by omega),Array.getElem?_extract]
  have:=h.size
  by_cases h2:i<w'.heap.size
  ·rw[if_pos (by omega),show w.heap.size+(i-w.heap.size)=i by omega]
  rw[if_neg (by omega),a1i (by omega)]
 cases w'
 cases w
 simp only at e1 e2 e3 e4 e5
 subst e1 e2 e3
 simp only[Sort.grow,World.drewN,World.mk.injEq,and_true,true_and]
 exact⟨e5,by omega⟩
theorem Ext.grown (w:World)(m:Nat)(os:Array Obj):Ext (fun _=>False) w (Sort.grow (Sort.ahead w m) os):=by
 have k: ∀g,g<w.heap.size→(Sort.grow (Sort.ahead w m) os).heap[g]? =w.heap[g]? :=fun g hg=>by
  show(w.heap++os)[g]? =_
  rw[a1g hg]
 have lt: ∀g sh,w.shape? g=some sh→g<w.heap.size:=fun g s h=>by
  rcases Nat.lt_or_ge g w.heap.size with hl|hl
  ·exact hl
  unfold World.shape? at h;rw[a1i hl]at h;cases h
 exact⟨rfl,⟨rfl,by show w.drawn≤w.drawn+m;omega⟩,rfl,by simp[Sort.ahead],fun g hg _=>k g hg,fun g sh h=>by unfold World.shape? at h ⊢; rw[k g (lt g sh h)];exact h,fun g hg h=>by unfold World.shape? at h ⊢; rw[k g hg];exact h⟩
section
variable {P:Program}{β:Type}{C:β→List V}{ok:β→Prop}{X:Nat→Prop}{M:List (Option Nat)}{w:World}
abbrev yZ (C:β→List V)(ok:β→Prop)(X:Nat→Prop)(M:List (Option Nat))(w:World):Type:={p:β×List Value // ok p.1∧VCells X M w (C p.1) p.2}
theorem cellsOf : ∀(l:List β)(vs:List Value),(∀x∈l,ok x)→VCells X M w (l.flatMap C) vs→ ∃d:List (yZ C ok X M w),d.map (·.1.1)=l∧d.flatMap (·.1.2)=vs
 | [],vs,_,h=>by
  have:=h.len
  exact⟨[],rfl,(List.eq_nil_of_length_eq_zero this.symm).symm⟩
 |x::l,vs,ho,h=>by
  rw[a1b]at h
  have h1:=h.take (C x).length
  have h2:=h.drop (C x).length
  rw[List.take_left]at h1
  rw[List.drop_left]at h2
  obtain⟨d,e1,e2⟩:=cellsOf l _ (fun y hy=>ho y (by simp[hy])) h2
  exact⟨⟨(x,vs.take (C x).length),ho x (by simp),h1⟩::d,by simp[e1],by simp only[a1b,e2,List.take_append_drop]⟩
theorem aTG (d:List (yZ C ok X M w)):VCells X M w ((d.map (·.1.1)).flatMap C) (d.flatMap (·.1.2)):=by
 induction d with
 |nil=>simp[VCells]
 |cons a d ih=>simpa using a.2.2.append ih
theorem aQk : ∀vs:List Value,VCells X M w (vs.map .sc) vs
 | []=>by simp[VCells]
 |v::vs=>by
  rw[List.map_cons];unfold VCells
  exact⟨v,vs,rfl,by unfold VR;rfl,aQk vs⟩
theorem aW9 {ρ:Shelf.Ren}(L:Proofs.SlLaysF0.n6 P ρ){k:Nat}(aE: ∀w,(isAgg (ρ.t 24)).run P w= .ok true w)(zE: ∀w,(Go.sizeOf (ρ.t 24)).run P w= .ok k w)
  (hnone: ∀(p:Option Addr)(cap:Nat)(fv:Value)(w:World),Calls P (ρ.f 6) #[.slice p 0 cap,fv] w fun e w'=>e= .returned (.tuple #[])∧w'=w)
  (hC: ∀x,(C x).length=k) (h1: ∀x,(C x).all V.one=true) (hcl: ∀x,∀c∈C x,Clo c) {cf:β→β→Int} (irr: ∀x,ok x→ ¬cf x x<0) (tr: ∀x y z,ok x→ok y→ok z→cf x y<0→cf y z<0→cf x z<0) (ntr: ∀x y z,ok x→ok y→ok z→ ¬cf x y<0→ ¬cf y z<0→ ¬cf x z<0)
  {g:FuncId} (eg: ∀args w,(callFunc g args).run P w= .ok (.enter g args) w) (hg: ∀x y,ok x→ok y→Fn P g [] [.agg (C x),.agg (C y)] (eI .i64 (cf x y)) []) {e:TypeId} {l r:List β} (hl: ∀x∈l,ok x) (hlen:l.length≤100000)
  (hr: ∀l':List β,l'.Perm l→l'.Pairwise (fun a b=> ¬cf b a<0)→l'=r):Fn P (ρ.f 6) [some ⟨e,l.flatMap C⟩] [.sl 0 0 l.length k true,.sc (.func (.func g) #[] #[])] (.tup []) [some ⟨e,r.flatMap C⟩]:=by
 intro A M w vs H hargs
 have hret: ∀{X M w},VR X M w (.tup []) (.tuple #[]):=by
  intro X M w
  unfold VR
  exact⟨[],rfl,by unfold VCells;rfl⟩
 unfold VCells at hargs
 obtain⟨v1,_,rfl,hv1,hargs⟩:=hargs
 unfold VCells at hargs
 obtain⟨v2,_,rfl,hv2,hargs⟩:=hargs
 unfold VCells at hargs
 subst hargs
 unfold VR at hv2
 subst hv2
 refine .inl ⟨L.f6.enters rfl _ _, ?_⟩
 cases l with
 |nil=>
  obtain rfl:[]=r:=hr [] (a1o _) List.Pairwise.nil
  have hv: ∃p cap,v1= .slice p 0 cap:=by
   unfold VR at hv1
   rcases hv1 with⟨_,h,_⟩|⟨_,_,_,_,_,h,_⟩
   ·exact⟨_,_,h⟩
   exact⟨_,_,h⟩
  obtain⟨p,cap,rfl⟩:=hv
  refine(hnone p cap _ w).mono ?_
  rintro e w' ⟨he,rfl⟩
  exact⟨_,he,M,Grow.refl H,hret⟩
 |cons x0 l0=>
  generalize hll:x0::l0=l at *
  have l1:0<l.length:=by rw[←hll];simp
  unfold VR at hv1
  obtain⟨_,_,h,_⟩|⟨b,cap,e',sz,hM,rfl,hcap,_,k0,hsh,_⟩:=hv1
  ·omega
  obtain⟨hone,⟨hn,_⟩|⟨b',cs,hM',hA,hh,hle,hcs⟩⟩:=H.blk 0 _ rfl
  ·rw[hM]at hn;cases hn
  obtain rfl:b=b':=a1d (a1d (hM.symm.trans hM'))
  simp only at hle hcs hone
  obtain⟨d,hd1,hd2⟩:=cellsOf l _ hl hcs
  have hdl:d.length=l.length:=by
   have:=congrArg List.length hd1
   simpa using this
  obtain⟨a0⟩:Nonempty (yZ C ok (Xs A M [some ⟨e,l.flatMap C⟩]) M w):=by
   cases d with
   |nil=>simp at hdl;omega
   |cons a _=>exact⟨a⟩
  letI:Inhabited (yZ C ok (Xs A M [some ⟨e,l.flatMap C⟩]) M w):=⟨a0⟩
  obtain⟨enc,henc⟩: ∃enc:yZ C ok (Xs A M [some ⟨e,l.flatMap C⟩]) M w→List Value,enc=fun a=>a.1.2:=⟨_,rfl⟩
  have hk: ∀a,(enc a).length=k:=fun a=>by rw[henc];exact a.2.2.len.symm.trans (hC _)
  have hone': ∀a,∀v∈enc a,v.oneCell'=true:=fun a=>by rw[henc];exact a.2.2.oneCell (h1 _)
  have hb:b<w.heap.size:=hh.lt
  obtain⟨f,hf,hheap⟩:=hh.inCells hsh
  have hfl:(l.flatMap C).length=l.length*k:=aGj hC l
  have hH:Sort.HoldsK enc k w b 0 d.toArray:=by
   unfold Sort.HoldsK
   rw[aLX hk,henc]
   simp only
   rw[hd2]
   intro j hj
   simp only[List.size_toArray,List.length_take,Array.length_toList]at hj
   refine⟨?_, ?_⟩
   ·rw[a1j,hh.cell hsh,getElem!_pos _ j (by simpa using hj),a1m,List.getElem_take,a1n]
    exact Array.getElem?_eq_getElem _
   unfold World.frozen?
   rw[a1j]
   simp only[hheap]
   exact aRL hf (by omega)
  have lay: ∀(D:Array (yZ C ok (Xs A M [some ⟨e,l.flatMap C⟩]) M w))(news:List V),D.size=l.length→news.length=l.length*k→news.all V.one=true→VCells (Xs A M [some ⟨e,l.flatMap C⟩]) M w news (D.toList.flatMap enc)→Grow A M [some ⟨e,l.flatMap C⟩] w M [some ⟨e,news⟩] (Sort.putRowK enc k w b 0 D):=by
   intro D news hD hn hno hv
   have hDk:D.size*k=d.length*k:=by rw[hD,hdl]
   have hDl:D.size*k=l.length*k:=by rw[hD]
   obtain⟨w',e1,G⟩:=Grow.store (P:=P) H (b:=0) (B:=⟨e,l.flatMap C⟩) rfl (off:=0) (news:=news) (vs:=D.toList.flatMap enc) (by simp only;omega) hv (fun v hv=>by
    obtain⟨a,_,ha⟩:=a1e.1 hv
    exact hone' a v ha) hM hsh (fun c hc=>a1a.1 hno c hc)
   have e2:=Proofs.stores_of_holds P hH 0 (D.toList.flatMap enc) (by rw[Sort.size_flatK,aGj hk];simp;omega) (fun v hv=>by
    obtain⟨a,_,ha⟩:=a1e.1 hv
    exact hone' a v ha)
   have e3:w'=w.setCells b 0 (D.toList.flatMap enc):=by
    have:=e1.symm.trans e2
    injection this
   have e4:Sort.putRowK enc k w b 0 D=w.setCells b 0 (D.toList.flatMap enc):=by
    have:=Sort.setCells_putRow w b 0 (D.toList.flatMap enc) 0 (Sort.flatK enc k d.toArray) (by rw[Sort.size_flatK,aGj hk];simp;omega)
    rw[aLR _ _ _ (by rw[aLX hk];simp only[aGj hk];simp;omega),List.take_zero,a1t,←aLX hk]at this
    rw[show Sort.putRow id w b 0 (Sort.flatK enc k d.toArray)=w from Sort.putRowK_self enc k w b 0 _ hH]at this
    exact this.symm
   have e5:splice (l.flatMap C) 0 news=news:=by
    unfold splice
    rw[List.take_zero,a1t,a1j,List.drop_eq_nil_of_le (by omega),a1k]
   rw[e4,←e3]
   simpa only[e5,List.set_cons_zero]using G
  have scs: ∀D:Array (yZ C ok (Xs A M [some ⟨e,l.flatMap C⟩]) M w),D.size=l.length→ ∀m os,Ext (cU M [some ⟨e,l.flatMap C⟩]) w (Proofs.sortWorldK enc k w b 0 m D os):=by
   intro D hD m os
   refine(lay D ((D.toList.flatMap enc).map .sc) hD (by rw[a1f,aGj hk];simp[hD]) ?_ (aQk _)).ext.trans ((Ext.grown (Sort.putRowK enc k w b 0 D) m os).mono fun _ _ h=>h.elim)
   rw[List.all_map,a1a]
   intro v hv
   obtain⟨a,_,ha⟩:=a1e.1 hv
   exact hone' a v ha
  have hcmp:Proofs.CmpLays P g #[] enc k (fun x y=>cf x.1.1 y.1.1) b 0 d.toArray.size w:=by
   intro m os D hD x y
   have E:=scs D (by rw[hD];simpa using hdl) m os
   have HN:HR (Xs A M [some ⟨e,l.flatMap C⟩]) [] [] (Proofs.sortWorldK enc k w b 0 m D os):=HR.nil (fun y hy=>Nat.lt_of_lt_of_le (H.lt hy) E.size) (H.glob.ext E (fun _ _ h=> .inr h) fun _ _ h=>h)
   have arg: ∀a:yZ C ok (Xs A M [some ⟨e,l.flatMap C⟩]) M w,VR (Xs (Xs A M [some ⟨e,l.flatMap C⟩]) [] []) [] (Proofs.sortWorldK enc k w b 0 m D os) (.agg (C a.1.1)) (.agg (enc a).toArray):=fun a=>by
    unfold VR
    have:=VCells.ext E (List.prefix_refl _) (fun _ _ h=> .inr h) (fun _ _ h=>aNw.1 h) _ _ (aG8 (hcl _) _ _ _ _ a.2.2)
    rw[show a.1.2=enc a by rw[henc]]at this
    exact⟨_,rfl,this⟩
   have:=hg x.1.1 y.1.1 x.2.1 y.2.1 _ _ _ [.agg (enc x).toArray,.agg (enc y).toArray] HN (by
    unfold VCells
    refine⟨_,_,rfl,arg x, ?_⟩
    unfold VCells
    exact⟨_,_,rfl,arg y,by unfold VCells;rfl⟩)
   obtain⟨_,hc⟩|⟨v,w',hc,_⟩:=this
   ·refine hc.mono ?_
    rintro e1 w' ⟨v,he,M',G,hv⟩
    unfold VR at hv
    subst hv
    exact⟨he,G.ext.growing fun g hg=>by obtain⟨_,_,h,_⟩:=hg;simp at h⟩
   rw[eg]at hc
   cases hc
  have swo:Sort.SWO (Proofs.ltOf fun x y:yZ C ok (Xs A M [some ⟨e,l.flatMap C⟩]) M w=>cf x.1.1 y.1.1):=by
   refine⟨fun x=> ?_,fun x y z h1 h2=> ?_,fun x y z h1 h2=> ?_⟩<;>simp only[Proofs.ltOf,decide_eq_true_eq,decide_eq_false_iff_not]at *
   ·exact irr _ x.2.1
   ·exact tr _ _ _ x.2.1 y.2.1 z.2.1 h1 h2
   exact ntr _ _ _ x.2.1 y.2.1 z.2.1 h1 h2
  have fin:=Proofs.AnyQ.slices_SortFunc L k aE zE enc hk hone' _ swo g #[] b 0 cap d.toArray w eg hcmp hH hb (by simp;omega)
  rw[show d.toArray.size=l.length by simpa using hdl]at fin
  refine fin.mono ?_
  rintro e1 w' ⟨he,d',n,os,⟨p1,_,p2⟩,hs,rfl⟩
  have ds:d'.size=l.length:=by rw[p1];simpa using hdl
  have p3:d'.toList.Perm d:=by
   have a1:(d'.extract 0 l.length).toList=d'.toList:=by rw[←ds];simp
   have a2:(d.toArray.extract 0 l.length).toList=d:=by rw[←hdl];simp
   rwa[a1,a2]at p2
  have pr:d'.toList.map (·.1.1)=r:=hr _ ((p3.map _).trans (List.Perm.of_eq hd1)) (by
   rw[List.pairwise_map,List.pairwise_iff_getElem]
   intro i j hi hj hij
   have:=hs i j (Nat.zero_le _) hij (by rw[←ds];simpa using hj)
   simp only[Proofs.ltOf,decide_eq_false_iff_not]at this
   rw[getElem!_pos _ _ (by simpa using hj),getElem!_pos _ _ (by simpa using hi)]at this
   simpa using this)
  have G:=lay d' (r.flatMap C) ds (by rw[aGj hC,←pr];simp[ds]) (by
   rw[List.all_flatMap,a1a]
   exact fun x _=>h1 x) (by rw[henc,←pr];exact aTG _)
  refine⟨_,he,M,G.trans (Grow.none_changed G.hr (Ext.grown _ n os)),hret⟩
end
end Go.Vm
set_option maxRecDepth 20000
set_option maxHeartbeats 1000000
namespace Go.Proofs.YtopdhljncajmpaaGreatDoor
open Go Go.Vm
theorem pZ {o:aB}(h:aI6 o=true):o.Tx.length=32∧Byt o.Tx:=by
 unfold aI6 at h
 rw[Bool.and_eq_true,a1a]at h
 exact⟨of_decide_eq_true h.1,fun x hx=>of_decide_eq_true (h.2 x hx)⟩
theorem aZf {N:Nat}(hN:70000≤N)(hk: ∀{a b:aA} {r:Int},qX N a b=some r→Vm.Fn Tryz.prog 103 [] [aJ a,aJ b] (eI .i64 r) []){e:TypeId}{l r:List aA}(hs:mK l=some r):
  Vm.Fn Tryz.prog 102 [some ⟨e,l.flatMap aF⟩] [.sl 0 0 l.length 37 true,.sc (.func (.func 103) #[] #[])] (.tup []) [some ⟨e,r.flatMap aF⟩]:=by
 unfold mK at hs
 split at hs
 ·rename_i hi
  obtain⟨h1,h2,h3⟩:=hi
  obtain rfl:=a1d hs
  refine aW9 (ok:=fun c=>aI6 c.Out=true) (cf:=fun a b=>cQ a.Out b.Out) Tryz.sortCoin Tryz.isAgg80 Tryz.sizeOf80 (fun p cap fv w=>AnyF.slices_SortFunc_none Tryz.sortCoin p cap fv w) (fun _=>rfl) (fun _=>rfl) (fun x c hc=> ?_) (fun x _=>by rw[qU];decide) (fun x y z hx hy hz=>uD (pZ hx).1 (pZ hy).1 (pZ hz).1) (fun x y z hx hy hz h4 h5 h6=> ?_) (fun args w=>aKx Tryz.func103 rfl rfl args w) (fun x y hx hy=>hk ?_) (fun c hc=>h2 c hc) h1 fun l' p hw=> ?_
  ·have:=a1a.1 (show(aF x).all aHU=true from rfl) c hc
   exact fun X M w v hv=>aHv this hv
  ·have hx:=(pZ hx).1
   have hy:=(pZ hy).1
   have hz:=(pZ hz).1
   rcases Int.lt_or_le (cQ z.Out y.Out) 0 with h|h
   ·exact h4 (uD hx hz hy h6 h)
   rw[oI]at h
   rw[mQ hy hz (by omega)]at h4
   exact h4 h6
  ·have hx:=pZ hx
   have hy:=pZ hy
   unfold qX
   rw[aIv hN hx.1 hy.1 hx.2 hy.2]
   rfl
  have hp:l'.Pairwise fun a b=>cQ a.Out b.Out≠0:=(p.pairwise_iff (fun{a b} h=>by rw[oI];omega)).2 h3
  have hok: ∀m:List aA,(∀c∈m,fE c.Out)→(m.Pairwise fun a b=>cQ a.Out b.Out≠0)→Srt (m.foldr qB [])∧(m.foldr qB []).Perm m:=aHX
  obtain⟨g1,g2⟩:=hok l (fun c hc=>pZ (h2 c hc)) h3
  refine aIW ?_ g1 (p.trans g2.symm)
  unfold Srt
  exact(hw.and hp).imp fun h=>by
   obtain⟨a1,a2⟩:=h
   rw[oI]at a1
   omega
 cases hs
theorem aPI {N:Nat}(hN:70000≤N)(hk: ∀{a b:aA} {r:Int},qX N a b=some r→Vm.Fn Tryz.prog 103 [] [aJ a,aJ b] (eI .i64 r) []){e:TypeId}{l r:List aA}(hs:mK l=some r):
  Vm.Fn Tryz.prog 62 [some ⟨e,l.flatMap aF⟩] [.sl 0 0 l.length 37 true] (.tup []) [some ⟨e,r.flatMap aF⟩]:=by
 refine zf Tryz.func62 Tryz.ntmps62 ?_
 refine zz ?_
 refine zc (aZf hN hk hs) [0] ?_
 refine zz ?_
 exact zn0 Tryz.results62 (zG [0])
theorem aC0 {l m r:List aA}(p:m.Perm l)(h:mK l=some r):mK m=some r∧l.length=r.length∧l.length≤100000:=by
 unfold mK at h⊢
 split at h
 ·rename_i hi
  obtain⟨h1,h2,h3⟩:=hi
  obtain rfl:=a1d h
  have h2': ∀c∈m,aI6 c.Out=true:=fun c hc=>h2 c (p.mem_iff.1 hc)
  have h3':m.Pairwise fun a b=>cQ a.Out b.Out≠0:=(p.pairwise_iff (fun{a b} h=>by rw[oI];omega)).2 h3
  obtain⟨g1,g2⟩:=aHX l (fun c hc=>pZ (h2 c hc)) h3
  obtain⟨k1,k2⟩:=aHX m (fun c hc=>pZ (h2' c hc)) h3'
  rw[if_pos ⟨by rw[p.length_eq];exact h1,h2',h3'⟩,aIW k1 g1 (k2.trans (p.trans g2.symm))]
  exact⟨rfl,g2.length_eq.symm,h1⟩
 cases h
abbrev stC (aI:aL)(cH:Int)(n:Nat)(dH:Int):Blk:=⟨102,(eI .u32 aI.Genesis.Version)::(aN (eI .u8) aI.Genesis.Prev (aN (eI .u8) aI.Genesis.Root ((eI .u32 aI.Genesis.Time)::((eI .u32 aI.Genesis.Bits)::((eI .u32 aI.Genesis.Nonce)::(eU (eI .u64) aI.Limit [eI .i64 aI.Window,eI .u32 aI.Spacing,eI .u32 aI.Future,eI .u32 aI.Version,.row none 33 (aI.Checkpoints.map bE),eI .i64 aI.Subsidy,eI .i64 aI.Halving,eI .i64 aI.Maturity,eI .i64 cH,.mp 1,.sl 2 0 n 37 true,eI .i64 dH]))))))⟩
theorem aYo {N:Nat}(hN:70000≤N)(hk: ∀{a b:aA} {r:Int},qX N a b=some r→Vm.Fn Tryz.prog 103 [] [aJ a,aJ b] (eI .i64 r) [])
  (hcp: ∀{c r:aA},iL N c=some r→Vm.Fn Tryz.prog 55 [] [aJ c] (aJ r) []) {aI:aL} {cH:Int} {cX:List (aB×aA)} {bZ:List aA} {dH:Int} {r:List aA} (hr:rZ N aI cH cX bZ dH=some r):
  Vm.Fn Tryz.prog 41 [some (stC aI cH bZ.length dH),some ⟨33037,cX.flatMap dO⟩,some ⟨80,bZ.flatMap aF⟩] [.ptr 0 0] (.row none 37 (r.map aJ)) [some (stC aI cH bZ.length dH),some ⟨33037,cX.flatMap dO⟩,some ⟨80,bZ.flatMap aF⟩]:=by
 unfold rZ at hr
 split at hr
 ·rename_i hsc
  obtain⟨_,hl1,hl2⟩:=aC0 (a1o _) hr
  rw[a1f]at hl1 hl2
  have cop: ∀e∈cX,iL N e.2=some e.2:=fun e he=>by
   have:=hsc e he
   unfold iL dQ
   rw[dG (by omega) (by simp;omega)]
   rfl
  refine zf Tryz.func41 Tryz.ntmps41 ?_
  refine zz ?_
  refine AB.seq_g fun K1 hK1 hG1=> ?_
  have J1: ∀acc,mK acc=some r→acc.length=r.length→K1 (aG 23 [(3,.sl 3 0 acc.length 37 true)]) [some (stC aI cH bZ.length dH),some ⟨33037,cX.flatMap dO⟩,some ⟨80,bZ.flatMap aF⟩,some ⟨80,acc.flatMap aF⟩]:=by
   intro acc hs hl
   refine hK1<|zz ?_
   refine zc (aPI hN hk hs) [3] ?_
   refine zz ?_
   rw[hl]
   exact zr1 Tryz.results41 fA (Ghost.trans (zv 3) (zG [0,1,2]))
  refine AB.mrange (pre:=[_,_,_,_]) (rest:=[_,_,_]) (t9:=9) (t10:=10) (t11:=11) (t12:=12) (t13:=13) (mt:=100) (K2:=fun s h=>s=aG 23 [(9,.mp 1),(8,.ptr 0 81),(7,.ptr 0 0),(6,.ptr 0 0),(3,.row (some true) 1 []),(2,.row (some true) 1 []),(0,.ptr 0 0)]∧h=[some (stC aI cH bZ.length dH),some ⟨33037,cX.flatMap dO⟩,some ⟨80,bZ.flatMap aF⟩]) ⟨rfl,rfl,rfl⟩ ⟨rfl,rfl,rfl⟩ ⟨rfl,rfl,rfl⟩ ⟨rfl,rfl,rfl⟩ (by decide) ?_ ?_
  ·refine PreW.cons aE6 (sv (aPX rfl)) ?_
   rw[aDa]
   refine PreW.cons aE6 (sv (aTJ rfl)) ?_
   rw[aDa]
   refine PreW.cons aE6 (sv (aQZ rfl rfl)) ?_
   rw[aDa]
   refine PreW.cons aE6 (sv (cF rfl (ldP rfl (nY aPh rfl rfl)))) ?_
   rw[aDa]
   exact PreW.nil ⟨rfl,rfl⟩
  rintro s2 h2 ⟨rfl,rfl⟩
  obtain⟨m,hm,_⟩:=MpC.at_ (P:=Tryz.prog) (t:=100) (k:=⟨[],0⟩) (l:=cX) (b:=1) (h:=[some (stC aI cH bZ.length dH),some ⟨33037,cX.flatMap dO⟩,some ⟨80,bZ.flatMap aF⟩]) inferInstance rfl
  refine⟨⟨m,1,⟨33037,cX.flatMap dO⟩,cX.map fun x=>(.agg (bP x.1),aJ x.2)⟩,.mp 1,fun rit rs s h=> ∃acc ents,rs=ents.map (fun x:aB×aA=>(V.agg (bP x.1),aJ x.2))∧(acc++ents.map a1r).Perm (cX.map a1r)∧(∀e∈ents,e∈cX)∧
   ((acc=[]∧s=(aG 23 [(9,.mp 1),(8,.ptr 0 81),(7,.ptr 0 0),(6,.ptr 0 0),(3,.row (some true) 1 []),(2,.row (some true) 1 []),(0,.ptr 0 0)]).set 10 (itV rit)∧h=[some (stC aI cH bZ.length dH),none,some ⟨80,bZ.flatMap aF⟩])∨(s=aG 23 [(3,.sl 3 0 acc.length 37 true),(10,itV rit)]∧h=[some (stC aI cH bZ.length dH),none,some ⟨80,bZ.flatMap aF⟩,some ⟨80,acc.flatMap aF⟩])),(s7 (by decide)).trans rfl,hm,(show 1<3 by decide),(fun b B hb h=> ?_),(fun c hc=> ?_),(fun rit=>⟨[],cX,rfl,a1o _,fun _ h=>h,.inl ⟨rfl,rfl,rfl⟩⟩), ?_, ?_, ?_⟩
  ·rw[List.getElem?_eq_none (by simpa using hb)]at h
   cases h
  ·obtain⟨x,_,hx⟩:=a1e.1 hc
   have:=a1a.1 (show(dO x).all aHU=true from rfl) c hx
   exact fun X M w v hv=>aHv this hv
  ·rintro rit rs s h ⟨acc,ents,_,_,_,⟨_,rfl,rfl⟩|⟨rfl,rfl⟩⟩
   ·rw[tZ]
    exact⟨(s7 (by decide)).trans rfl,rfl,by rw[lS];decide,by rw[lS];decide⟩
   exact⟨(s7 (by decide)).trans rfl,rfl,by rw[lS];decide,by rw[lS];decide⟩
  ·rintro rit rs1 y rs2 s h ⟨acc,ents,he,hp,hmem,hst⟩
   obtain⟨e1,e2',rfl,h1,h2⟩:=List.map_eq_append_iff.1 he.symm
   obtain⟨en,e2,rfl,h3,h4⟩:=List.map_eq_cons_iff.1 h2
   subst h1 h3 h4
   have hcop:=cop en (hmem en (by simp))
   have hlen:=hp.length_eq
   simp only[a1p,a1f,a1h]at hlen
   have happ:b9 88 acc [en.2]=some (acc++[en.2]):=dG (by omega) (by simp;omega)
   have hp':((acc++[en.2])++(e1++e2).map a1r).Perm (cX.map a1r):=by
    refine List.Perm.trans ?_ hp
    simp only[a1l,List.map_cons,a1q]
    exact List.Perm.append_left _ (List.perm_middle (l₁:=e1.map a1r)).symm
   have hmem': ∀e∈e1++e2,e∈cX:=fun e he=>hmem e (by rcases List.mem_append.1 he with h|h<;>simp[h])
   rcases hst with⟨rfl,rfl,rfl⟩|⟨rfl,rfl⟩
   ·rw[tZ,tZ,tZ,tZ]
    refine OpsX.hide fun K' hK'=> ?_
    refine zz ?_
    refine hK' _ _ (AB.gpost ?_)
    refine AB.ghost (zW 80 [0,1,2,3,4] (fr':=[(3,.sl 4 0 ([]:List aA).length 37 true),(5,.ptr 3 0),(10,itV rit)]) (h':=[some (stC aI cH bZ.length dH),none,some ⟨80,bZ.flatMap aF⟩,some ⟨80,aF en.2⟩,some ⟨80,([]:List aA).flatMap aF⟩])) ?_
    refine zz ?_
    refine xp (hcp hcop)<|nC aF 37 [en.2] ?_
    refine zz ?_
    exact⟨_,_,zG [0,1,2,6],.inl ⟨.inl rfl,_,_,by rw[a1l],hp',hmem',.inr ⟨rfl,rfl⟩⟩⟩
   rw[tZ,tZ,tZ]
   refine OpsX.hide fun K' hK'=> ?_
   refine zz ?_
   refine hK' _ _ (AB.gpost ?_)
   refine zz ?_
   refine xp (hcp hcop)<|nC aF 37 [en.2] ?_
   refine zz ?_
   exact⟨_,_,zG [0,1,2,6],.inl ⟨.inl rfl,_,_,by rw[a1l],hp',hmem',.inr ⟨rfl,rfl⟩⟩⟩
  rintro rit s h ⟨acc,ents,he,hp,_,hst⟩
  obtain rfl:ents=[]:=List.map_eq_nil_iff.1 he.symm
  simp only[List.map_nil,a1k]at hp
  obtain⟨hs,_,_⟩:=aC0 hp hr
  have hl:acc.length=r.length:=by rw[hp.length_eq,a1f];exact hl1
  rcases hst with⟨rfl,rfl,rfl⟩|⟨rfl,rfl⟩
  ·rw[tZ,tZ,tZ]
   exact hG1 (zW 80 [0,1,2,3]) (J1 [] hs hl)
  rw[tZ,tZ]
  exact hG1 (zG [0,1,2,3]) (J1 acc hs hl)
 cases hr
end Go.Proofs.YtopdhljncajmpaaGreatDoor
