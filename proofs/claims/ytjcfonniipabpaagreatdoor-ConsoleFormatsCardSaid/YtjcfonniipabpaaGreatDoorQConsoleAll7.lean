/- Texts of ours, joined: SaneP, Write, Run, Sane, Wk2, PlainQ2, PlainQ3, PlainQ4, PlainQ5, PlainQB, PlainQD, PlainQF, PlainQR, PlainQS. -/
import Derived.Test.YtjcfonniipabpaaGreatDoorQConsoleAll6
import Derived.WalkKit
import Derived.Handy
import Derived.BigCall
open Option renaming bind_some → aOg,map_eq_some_iff → aOn,bind_eq_some_iff → aOx
open Bool renaming eq_false_or_eq_true → aOh,and_eq_true → aON,false_eq_true → aO9,true_and → aPg,or_eq_false_iff → aPo
open List renaming mem_singleton → aOi,mem_cons_of_mem → aOk,length_cons → aOl,mem_cons_self → aOo,flatMap_cons → aOq,drop_eq_nil_of_le → aOr,all_eq_true → aOs,not_mem_nil → aOt,length_pos_iff → aOu,getElem?_eq_getElem → aOv,append_assoc → aOw,append_nil → aOy,mem_cons → aOz,length_append → aOA,take_length → aOC,length_take → aOD,drop_eq_getElem_cons → aOE,flatMap_nil → aOF,map_cons → aOG,all_append → aOL,all_cons → aOM,take_add_one → aOQ,length_drop → aOR,map_nil → aOU,takeWhile_sublist → aOY,drop_append_of_le_length → aO1,head?_cons → aO4,length_nil → aO5,takeWhile_cons_of_neg → aO7,takeWhile_cons_of_pos → aO8,getElem?_eq_some_iff → aPb,mem_of_find?_eq_some → aPc,replicate → aPd,size_toArray → aPe,getElem_mem → aPh,mem_append → aPj,mem_map → aPk,nil_append → aPl,prefix_refl → aPs,drop_length → aPt,cons_append → aPu,length_set → aPy
open Go.IntKind renaming i64 → aOj,u8 → aPn,bits → aPr
open Nat renaming lt_of_lt_of_le → aOm,pow_le_pow_right → aOB,le_trans → aOI,div_eq_of_lt → aOO,eq_of_beq_eq_true → aOP,le_refl → aOS,lt_of_le_of_lt → aOW,pow_succ → aOZ,mod_eq_of_lt → aO0,two_pow_add_eq_or_of_lt → aO6,mul_comm → aPa,lt_succ_self → aPi,zero_div → aPm,pow_lt_pow_right → aPp,mod_lt → aPz,beq → aPA
open Option.some renaming inj → aOp,injEq → aOK
open Array renaming getElem?_eq_some_iff → aOH,all_eq_true_iff_forall_mem → aOX
open ByteArray renaming size_append → aOJ,empty → aO3
open Go.Vm.AB renaming seq → aOT,seq_g → aOV,block → aO2,loopN → aPv,ghost → aPw
open Int renaming toNat → aPf,emod_eq_of_lt → aPq
open List.cons renaming injEq → aPx
set_option linter.unusedSimpArgs false
set_option linter.unusedVariables false
namespace Go.Proofs.YtjcfonniipabpaaGreatDoor
open Go Go.Proofs Go.RowKit Go.Vm
set_option maxRecDepth 100000
theorem aJ5 {a b:IntKind}(h:kEq a b=true):a=b:=by cases a<;>cases b<;>first|rfl|(simp[kEq]at h)
theorem t7 {k:IntKind}: ∀{es:List V}{b:List Int},xR k es=some b→es=b.map (eI k)
 | [],b,h=>by simp only[xR,aOK]at h;subst h;rfl
 |x::l,b,h=>by
  unfold xR at h
  split at h
  ·rename_i h0;cases h0
  ·rename_i k' n l' h0
   injection h0 with h0 h1
   subst h0 h1
   cases hk:kEq k k' with
   |false=>rw[hk]at h;cases h
   |true=>
    rw[hk]at h
    simp only[cond_true,aOn]at h
    obtain⟨b',hb,rfl⟩:=h
    rw[t7 hb,aJ5 hk];rfl
  cases h
theorem aBa : ∀{es:List V}{b:List ByteArray},aBl es=some b→es=b.map eS
 | [],b,h=>by simp only[aBl,aOK]at h;subst h;rfl
 |x::l,b,h=>by
  unfold aBl at h
  split at h
  ·rename_i h0;cases h0
  ·rename_i s l' h0
   injection h0 with h0 h1
   subst h0 h1
   simp only[aOn]at h
   obtain⟨b',hb,rfl⟩:=h
   rw[aBa hb];rfl
  cases h
theorem aE1 {nl:Option Bool}{k:Nat}{es:List V}:V.le j7 (.row nl k es) (.row none k es):=by unfold V.le;exact⟨.inl rfl,rfl,.inl rfl⟩
theorem aGv {x y:V}(h:V.le j7 x y):V.les j7 [x] [y]:=by unfold V.les;exact⟨h,by unfold V.les;trivial⟩
theorem aNt {x y z:V}(h:V.le j7 x y):V.les j7 [x,z] [y,z]:=by unfold V.les;exact⟨h,aGv (V.le_refl _ _)⟩
theorem aJU {xs:List V}{v:V}(h:b94 xs=some v):PFn Tryz.prog 94 xs v∧xs.all dA=true:=by
 unfold b94 at h
 split at h
 ·simp only[aOx,aOn]at h
  obtain⟨b,hb,r,hr,rfl⟩:=h
  obtain rfl:=t7 hb
  exact⟨gK (Fn.argsLe (aAA hr) (aGv aE1)),rfl⟩
 cases h
theorem aHN {xs:List V}{v:V}(h:aGM xs=some v):PFn Tryz.prog 151 xs v∧xs.all dA=true:=by
 unfold aGM at h
 split at h
 ·simp only[aOn]at h
  obtain⟨r,hr,rfl⟩:=h
  exact⟨gK (aAO hr),rfl⟩
 cases h
theorem aHw {xs:List V}{v:V}(h:aGZ xs=some v):PFn Tryz.prog 153 xs v∧xs.all dA=true:=by
 unfold aGZ at h
 split at h
 ·simp only[aOx,aOn]at h
  obtain⟨b,hb,r,hr,rfl⟩:=h
  obtain rfl:=t7 hb
  exact⟨gK (aCg hr),by simp[dA,oC,eI]⟩
 cases h
theorem aH2 {xs:List V}{v:V}(h:aGH xs=some v):PFn Tryz.prog 235 xs v∧xs.all dA=true:=by
 unfold aGH at h
 split at h
 ·simp only[aOx,aOn]at h
  obtain⟨b,hb,r,hr,rfl⟩:=h
  obtain rfl:=t7 hb
  exact⟨gK (wH hr),by simp[dA,oC,eI]⟩
 cases h
theorem aIU {xs:List V}{v:V}(h:b71 xs=some v):PFn Tryz.prog 71 xs v∧xs.all dA=true:=by
 unfold b71 at h
 split at h
 ·simp only[aOx,aOn]at h
  obtain⟨b,hb,r,hr,rfl⟩:=h
  obtain rfl:=t7 hb
  exact⟨gK (aDE hr),by simp[dA,oC,eI]⟩
 cases h
theorem aIh {xs:List V}{v:V}(h:aHc xs=some v):PFn Tryz.prog 229 xs v∧xs.all dA=true:=by
 unfold aHc at h
 split at h
 ·obtain rfl:=aOp h
  exact⟨gK (aJ2 Tryz.func229 (by kernel_rfl) (by kernel_rfl) (by kernel_rfl) (by kernel_rfl) _ _),rfl⟩
 cases h
theorem aJW {xs:List V}{v:V}(h:b23 xs=some v):PFn Tryz.prog 23 xs v∧xs.all dA=true:=by
 unfold b23 at h
 split at h
 ·simp only[aOx,aOn]at h
  obtain⟨b,hb,r,hr,rfl⟩:=h
  obtain rfl:=aBa hb
  exact⟨gK (Fn.argsLe (uM hr) (aGv aE1)),rfl⟩
 cases h
theorem aF3 {elems:List ByteArray}{sep r:ByteArray}(hr:aE6 elems sep=some r):Vm.Fn Tryz.prog 74 [] [(.row none 1 (elems.map eS)),(eS sep)] (eS r) []:=by
 unfold aE6 at hr
 split at hr
 ·rename_i hi
  obtain⟨hN,hlen⟩:=hi
  injection hr with hr
  subst hr
  refine aGi Tryz.func74 (by kernel_rfl) (by kernel_rfl) fun X w vs hv=> ?_
  unfold VCells at hv
  obtain⟨v,rest,rfl,hv,hn⟩:=hv
  unfold VCells at hn
  obtain⟨u,rest,rfl,hu,hn⟩:=hn
  unfold VCells at hn
  subst hn
  unfold VR at hu
  subst hu
  rcases aED (fun x=> .string x) (fun _=>rfl) hv with⟨rfl,a,c,rfl⟩|⟨bk,o,c,rfl,hc,hbk,hcells⟩
  ·refine(Tryz.strings_Join_none a c sep w).mono ?_
   rintro e w' ⟨he,rfl⟩
   exact⟨he,Below.refl _ _⟩
  exact Tryz.strings_Join bk o c elems sep w hcells hbk hN hc hlen
 cases hr
theorem aJ0 {xs:List V}{v:V}(h:b74 xs=some v):PFn Tryz.prog 74 xs v∧xs.all dA=true:=by
 unfold b74 at h
 split at h
 ·simp only[aOx,aOn]at h
  obtain⟨b,hb,r,hr,rfl⟩:=h
  obtain rfl:=aBa hb
  exact⟨gK (Fn.argsLe (aF3 hr) (aNt aE1)),rfl⟩
 cases h
theorem sZ {f:FuncId}(hc: ∀{nl:Option Bool} {k:Nat},Vm.Fn Tryz.prog f [] [.row nl k []] (.row none 1 []) []){xs:List V}{v:V}(h:bE xs=some v):PFn Tryz.prog f xs v∧xs.all dA=true:=by
 unfold bE at h
 split at h
 ·obtain rfl:=aOp h
  exact⟨gK hc,rfl⟩
 cases h
theorem jU {p:Prop}{f k:Nat}{x y:Option V}{v:V}(h:(bif aPA f k then x else y)=some v)(h1:f=k→x=some v→p)(h2:y=some v→p):p:=by
 cases hb:aPA f k with
 |true=>rw[hb]at h;exact h1 (aOP hb) h
 |false=>rw[hb]at h;exact h2 h
theorem aIY {f:FuncId}{xs:List V}{v:V}(h:sBf f xs=some v):PFn Tryz.prog f xs v∧xs.all dA=true:=by
 unfold sBf at h
 cases hb:Nat.testBit 177856649124594368532099621504599200980633490794795361898413478880588188109242368 f with
 |false=>rw[hb]at h;cases h
 |true=>
  rw[hb]at h
  simp only[cond_true]at h
  refine jU h (fun e h=>e▸aJU h) fun h=> ?_
  refine jU h (fun e h=>e▸aHN h) fun h=> ?_
  refine jU h (fun e h=>e▸aHw h) fun h=> ?_
  refine jU h (fun e h=>e▸aH2 h) fun h=> ?_
  refine jU h (fun e h=>e▸aIU h) fun h=> ?_
  refine jU h (fun e h=>e▸aIh h) fun h=> ?_
  refine jU h (fun e h=>e▸aJ0 h) fun h=> ?_
  refine jU h (fun e h=>e▸aJW h) fun h=> ?_
  refine jU h (fun e h=>e▸sZ aDM h) fun h=> ?_
  refine jU h (fun e h=>e▸sZ aDW h) fun h=> ?_
  refine jU h (fun e h=>e▸sZ aDX h) fun h=> ?_
  refine jU h (fun e h=>e▸sZ aDJ h) fun h=> ?_
  refine jU h (fun e h=>e▸sZ aDG h) fun h=> ?_
  refine jU h (fun e h=>e▸sZ aD7 h) fun h=> ?_
  refine jU h (fun e h=>e▸sZ aD8 h) fun h=> ?_
  refine jU h (fun e h=>e▸sZ aDP h) fun h=> ?_
  cases h
theorem aC3 {F:FuncId→Bool}{f:FuncId}{h:Hp}{xs:List V}{v:V}(hp:PFn Tryz.prog f xs v∧xs.all dA=true):aI9 Tryz.prog F f h xs (v,none):=⟨qQ hp.1 hp.2,fun _ h2=>qQ hp.1 hp.2⟩
theorem aHn :lC Tryz.prog sF sB:=fun f h xs r hh=>by
 unfold sB at hh
 simp only[aOn]at hh
 obtain⟨v,hv,rfl⟩:=hh
 exact aC3 (aIY hv)
theorem aC0 {f:FuncId}{xs:List V}: ∀{l:List (FuncId×List V×V)}{v:V},aCn f xs l=some v→(f,xs,v)∈l
 |e::l,v,h=>by
  unfold aCn at h
  cases hb:aPA e.1 f&&mS e.2.1 xs with
  |true=>
   rw[hb]at h
   simp only[aON]at hb
   obtain⟨a,b,c⟩:=e
   obtain rfl:=aOp h
   have h1:a=f:=aOP hb.1
   have h2:b=xs:=kA _ _ hb.2
   rw[h1,h2]
   exact aOo
  |false=>rw[hb]at h;exact aOk _ (aC0 h)
theorem aEo {base:oF}{l:List (FuncId×List V×V)}(hb:lC Tryz.prog sF base)(hl: ∀e∈l,PFn Tryz.prog e.1 e.2.1 e.2.2∧e.2.1.all dA=true):lC Tryz.prog sF (aEG base l):=fun f h xs r hh=>by
 unfold aEG at hh
 split at hh
 ·rename_i q hq
  obtain rfl:=aOp hh
  exact hb _ _ _ _ hq
 cases hm:Nat.testBit aIS f with
 |false=>rw[hm]at hh;cases hh
 |true=>
  rw[hm]at hh
  simp only[cond_true,aOn]at hh
  obtain⟨v,hv,rfl⟩:=hh
  exact aC3 (hl _ (aC0 hv))
theorem aFc {F G:FuncId→Bool}: ∀c:Code,fN F G [] c=true:=by
 intro c
 induction c<;>simp_all[fN]
theorem aBI : ∀(l:List (Nat×List Nat))(f:Nat),yZ l f=[]∨(f,yZ l f)∈l
 | [],_=> .inl rfl
 |(a,b)::l,f=>by
  simp only[yZ]
  cases hb:aPA a f with
  |true=>rw[aOP hb];exact .inr aOo
  |false=>exact(aBI l f).imp id fun h=>aOk _ h
noncomputable def aIP (p:Nat×List Nat):Bool:=match Tryz.prog.funcs[p.1]? with
 |none=>true
 |some fn=>match fn.body with
  |none=>true
  |some c=>fN sF sG p.2 c
theorem aHO :tT.all aIP=true:=by kernel_rfl
theorem aCy (f:FuncId)(fn:Func)(c:Code)(hf:Tryz.prog.funcs[f]? =some fn)(hb:fn.body=some c):fN sF sG (sT f) c=true:=by
 rcases aBI tT f with h|h
 ·show fN sF sG (yZ tT f) c=true
  rw[h];exact aFc c
 have:=aOs.1 aHO _ h
 simp only[aIP,hf,hb]at this
 exact this
theorem aAR :Tryz.prog.follows .mixedOrders=true:=by kernel_rfl
theorem cP {n:Nat}{f:FuncId}{xs:List V}{v:V}(hl: ∀e∈aAj.take n,PFn Tryz.prog e.1 e.2.1 e.2.2∧e.2.1.all dA=true)(h:gJ n f xs=some v):PFn Tryz.prog f xs v:=
 s4 (aAk (aEo aHn hl) aCy aAR NF) aCy aAR h
theorem aEd : ∀n,n≤22→ ∀e∈aAj.take n,PFn Tryz.prog e.1 e.2.1 e.2.2∧e.2.1.all dA=true
 |0,_,e,he=>by simp at he
 |n+1,hn,e,he=>by
  have ih:=aEd n (by omega)
  rw[aOQ]at he
  rcases aPj.1 he with he|he
  ·exact ih e he
  match n,hn,ih,he with
  |0,_,ih,he=>obtain rfl:=aOi.1 he;exact⟨cP ih km0,by kernel_rfl⟩
  |1,_,ih,he=>obtain rfl:=aOi.1 he;exact⟨cP ih km1,by kernel_rfl⟩
  |2,_,ih,he=>obtain rfl:=aOi.1 he;exact⟨cP ih km2,by kernel_rfl⟩
  |3,_,ih,he=>obtain rfl:=aOi.1 he;exact⟨cP ih km3,by kernel_rfl⟩
  |4,_,ih,he=>obtain rfl:=aOi.1 he;exact⟨cP ih km4,by kernel_rfl⟩
  |5,_,ih,he=>obtain rfl:=aOi.1 he;exact⟨cP ih km5,by kernel_rfl⟩
  |6,_,ih,he=>obtain rfl:=aOi.1 he;exact⟨cP ih km6,by kernel_rfl⟩
  |7,_,ih,he=>obtain rfl:=aOi.1 he;exact⟨cP ih km7,by kernel_rfl⟩
  |8,_,ih,he=>obtain rfl:=aOi.1 he;exact⟨cP ih km8,by kernel_rfl⟩
  |9,_,ih,he=>obtain rfl:=aOi.1 he;exact⟨cP ih km9,by kernel_rfl⟩
  |10,_,ih,he=>obtain rfl:=aOi.1 he;exact⟨cP ih aMI,by kernel_rfl⟩
  |11,_,ih,he=>obtain rfl:=aOi.1 he;exact⟨cP ih aOb,by kernel_rfl⟩
  |12,_,ih,he=>obtain rfl:=aOi.1 he;exact⟨cP ih aNm,by kernel_rfl⟩
  |13,_,ih,he=>obtain rfl:=aOi.1 he;exact⟨cP ih aNe,by kernel_rfl⟩
  |14,_,ih,he=>obtain rfl:=aOi.1 he;exact⟨cP ih aNN,by kernel_rfl⟩
  |15,_,ih,he=>obtain rfl:=aOi.1 he;exact⟨cP ih aOe,by kernel_rfl⟩
  |16,_,ih,he=>obtain rfl:=aOi.1 he;exact⟨cP ih aNA,by kernel_rfl⟩
  |17,_,ih,he=>obtain rfl:=aOi.1 he;exact⟨cP ih aNJ,by kernel_rfl⟩
  |18,_,ih,he=>obtain rfl:=aOi.1 he;exact⟨cP ih aNo,by kernel_rfl⟩
  |19,_,ih,he=>obtain rfl:=aOi.1 he;exact⟨cP ih aN5,by kernel_rfl⟩
  |20,_,ih,he=>obtain rfl:=aOi.1 he;exact⟨cP ih aN1,by kernel_rfl⟩
  |21,_,ih,he=>obtain rfl:=aOi.1 he;exact⟨cP ih aMV,by kernel_rfl⟩
end Go.Proofs.YtjcfonniipabpaaGreatDoor
namespace Go.Proofs
open Go.Shelf Go.RowKit Go.Lib
structure Tryz.Kept (L:Nat→Prop)(w w':World):Prop where
 os:w'.os=w.os
 tape:w'.tape=w.tape
 output:w'.output=w.output
 size:w.heap.size≤w'.heap.size
 block: ∀j,j<w.heap.size→ ¬L j→w'.heap[j]? =w.heap[j]?
 shape: ∀j,j<w.heap.size→w'.shape? j=w.shape? j
theorem Tryz.Kept.of {L:Nat→Prop}{w w':World}(h:Below w.heap.size w w'):Tryz.Kept L w w':=⟨h.os,h.tape,h.output,h.size,fun j hj _=>h.block j hj,fun j hj=>by unfold World.shape?; rw[h.block j hj]⟩
theorem Tryz.Kept.trans {L:Nat→Prop}{w w1 w2:World}(a:Tryz.Kept L w w1)(b:Tryz.Kept L w1 w2):Tryz.Kept L w w2:=⟨b.os.trans a.os,b.tape.trans a.tape,b.output.trans a.output,aOI a.size b.size,fun j hj hl=>(b.block j (aOm hj a.size) hl).trans (a.block j hj hl),fun j hj=>(b.shape j (aOm hj a.size)).trans (a.shape j hj)⟩
theorem Tryz.Kept.mono {L L':Nat→Prop}{w w':World}(a:Tryz.Kept L w w')(h: ∀j,j<w.heap.size→L j→L' j):Tryz.Kept L' w w':=⟨a.os,a.tape,a.output,a.size,fun j hj hl=>a.block j hj fun hh=>hl (h j hj hh),a.shape⟩
theorem Tryz.Kept.trans' {L L1:Nat→Prop}{w w1 w2:World}(a:Tryz.Kept L w w1)(b:Tryz.Kept L1 w1 w2)(h: ∀j,j<w.heap.size→L1 j→L j):Tryz.Kept L w w2:=⟨b.os.trans a.os,b.tape.trans a.tape,b.output.trans a.output,aOI a.size b.size,fun j hj hl=>(b.block j (aOm hj a.size) fun hh=>hl (h j hj hh)).trans (a.block j hj hl),fun j hj=>(b.shape j (aOm hj a.size)).trans (a.shape j hj)⟩
theorem Tryz.Kept.setCell {w:World}{b:Nat}{cs:Array Value}{t:TypeId}(i:Nat)(v:Value)(h:w.heap[b]? =some (.cells cs t (0,0))):Tryz.Kept (fun j=>j=b) w (w.setCell ⟨b,i,none⟩ v):=
 ⟨rfl,rfl,rfl,by simp,fun j _ hl=>Below.heap_setCell w ⟨b,i,none⟩ v j hl,fun j _=>by
  by_cases hj:j=b
  ·subst hj
   unfold World.shape?
   rw[heap_setCell_same w j i cs t v h,h]
   simp
  unfold World.shape?
  rw[Below.heap_setCell w ⟨b,i,none⟩ v j hj]⟩
theorem Tryz.Kept.setRow {w:World}{b:Nat}{cs:Array Value}{t:TypeId}(cs':Array Value)(h:w.heap[b]? =some (.cells cs t (0,0)))(hs:cs'.size=cs.size):Tryz.Kept (fun j=>j=b) w (w.setRow b cs'):=
 ⟨rfl,rfl,rfl,by simp,fun j _ hl=>setRow_other w b j cs' hl,fun j _=>by
  by_cases hj:j=b
  ·subst hj
   unfold World.shape?
   rw[setRow_heap w j cs cs' t (0,0) h,h]
   simp[hs]
  unfold World.shape?
  rw[setRow_other w b j cs' hj]⟩
set_option maxHeartbeats 2000000 in
set_option maxRecDepth 100000 in
theorem Tryz.write_fresh (b:Nat)(s:ByteArray)(w:World)(hbk:w.heap[b]? =some (.cells #[.pointer none,.slice none 0 0] 109 (0,0)))(hs:s.size≤140737488355328):
  Calls Tryz.prog 37 #[.pointer (some ⟨b,0,none⟩),.string s] w fun e w'=>e= .returned (.tuple #[.int .i64 s.size,.nilIface])∧Lib.BuilderAt 109 5 b b (.pointer (some ⟨b,0,none⟩)) (Lib.strCells s) w'∧Tryz.Kept (fun j=>j=b) w w':=by
 obtain⟨i0,hi,hz0,hz1,hz2⟩:=info_parts Tryz.Builder_Extra_156.infoByte
 have hlt:b<w.heap.size:=(aOH.1 hbk).1
 have h0:w.cell? ⟨b,0,none⟩=some (.pointer none):=by rw[Lib.cell_of_heap hbk];rfl
 have hsh:w.shape? b=some (109,2):=by simp[World.shape?,hbk]
 have hfz:w.frozen? ⟨b,0,none⟩=false:=Lib.frozen_of_heap hbk 0
 have hcc:=Any.Builder_copyCheck_fresh {Tryz.lays166 with} Tryz.Builder_Extra_156.toX72 b w h0 hsh hfz
 have e66: ∀args w,(callFunc 66 args).run Tryz.prog w= .ok (.enter 66 args) w:=enters_of Tryz.func66 (by kernel_rfl) rfl
 go_enter Tryz.func37,Tryz.ntmps37
 go_wp2_with (go_at_fn 66;refine Calls.mono hcc ?_)
 rintro e w1 ⟨rfl,hw1⟩
 have hb1:w1.heap[b]? =some (.cells #[.pointer (some ⟨b,0,none⟩),.slice none 0 0] 109 (0,0)):=by rw[hw1];exact heap_setCell_same w b 0 _ 109 _ hbk
 have k1:Tryz.Kept (fun j=>j=b) w w1:=by rw[hw1];exact Tryz.Kept.setCell 0 _ hbk
 have c0:w1.cell? ⟨b,0,none⟩=some (.pointer (some ⟨b,0,none⟩)):=by rw[Lib.cell_of_heap hb1];rfl
 have c1:w1.cell? ⟨b,1,none⟩=some (.slice none 0 0):=by rw[Lib.cell_of_heap hb1];rfl
 have hs1:w1.heap.size=w.heap.size:=by rw[hw1];simp
 clear hw1 hcc h0 hsh hfz hbk
 have hown:w1.ownsRow w1.heap.size 5 1 (.slice none 0 0) 0 []:=World.ownsRow_nil _ _ _ _
 go_wp2_with (at_builtin;refine Lib.wpList_append_own_string _ rfl _ _ 33 9 rfl w1.heap.size 5 i0 Tryz.underlying33 Tryz.underlying9 hi hz0 hz1 hz2 _ _ _ rfl hown s rfl ?c3 ?c4 ?c5 ?_)
 case c3=>unfold maxLen;omega
 case c4=>omega
 case c5=>omega
 intro v' w2 hown' hgrow _
 have hb2:w2.heap[b]? =some (.cells #[.pointer (some ⟨b,0,none⟩),.slice none 0 0] 109 (0,0)):=(hgrow.block b (by omega) (fun e=>(by cases e))).trans hb1
 have d0:w2.cell? ⟨b,0,none⟩=some (.pointer (some ⟨b,0,none⟩)):=by rw[Lib.cell_of_heap hb2];rfl
 have d1:w2.cell? ⟨b,1,none⟩=some (.slice none 0 0):=by rw[Lib.cell_of_heap hb2];rfl
 have f1:w2.frozen? ⟨b,1,none⟩=false:=Lib.frozen_of_heap hb2 1
 have hk2:=(Below.refl w1.heap.size w1).grown hgrow (aOS _) (fun k hk=>(by cases hk))
 have hown2:w2.ownsRow b 5 1 v' s.size (Lib.strCells s):=⟨hown'.1,hown'.2.imp id fun⟨g,cap,cur,h1,h2,h3⟩=>⟨g,cap,cur,h1,by omega,h3⟩⟩
 obtain⟨ao,n',cap,rfl⟩: ∃ao n' cap,v'= .slice ao n' cap:=by
  rcases hown'.2 with⟨hv,_⟩|⟨g,cap,cur,hv,_⟩
  ·exact⟨_,_,_,hv⟩
  exact⟨_,_,_,hv⟩
 go_wp2
 go_ret2
 refine⟨rfl, ?_, ?_⟩
 ·exact Lib.BuilderAt.put (T:=109) (e:=5) (aOS _) hb2 (bs':=Lib.strCells s) (by simpa[Lib.strCells_length]using hown2) (by decide)
 exact(k1.trans ((Tryz.Kept.of hk2))).trans (Tryz.Kept.setCell 1 _ hb2)
theorem Tryz.hidR {p:Prop}(h:p):Hid p:=h
theorem Tryz.storeRow {P:Program}(w:World)(g:Nat)(t:TypeId)(old cells:Array Value)(hg:w.heap[g]? =some (.cells old t (0,0)))(ho:old.size=cells.size)(h1:cells.all (·.oneCell')=true):(storeCells ⟨g,0,none⟩ cells.toList).run P w= .ok () (w.setRow g cells):=by
 have:=run_storeCells_from (P:=P) g t cells.toList 0 old w hg (by simp;omega) (fun v hv=>(aOX.1 h1) v (by simpa using hv))
 simpa using this
set_option maxHeartbeats 16000000 in
set_option maxRecDepth 100000 in
theorem Tryz.run_calls (csP csN:Array Value)(vB vS:Value)(s t:ByteArray)(a0 a1 a2 a3:Int)(w:World)
  (hP:csP.size=80) (hN:csN.size=121) (ht:t.size≤100000)
  (hparse: ∀W,Below w.heap.size w W→Calls Tryz.prog 9 #[.string s] W fun e w'=>(∃bk o c,e= .returned (.tuple #[.slice (some ⟨bk,o,none⟩) 1 c,.int .i64 1,.int .i64 0])∧bk<w'.heap.size∧w'.cell? ⟨bk,o,none⟩=some (.int .i64 a0)∧w'.cell? ⟨bk,o+1,none⟩=some (.int .i64 a1)∧w'.cell? ⟨bk,o+2,none⟩=some (.int .i64 a2)∧w'.cell? ⟨bk,o+3,none⟩=some (.int .i64 a3))∧Below W.heap.size W w')
  (hdo: ∀W,Below w.heap.size w W→Calls Tryz.prog 36 #[.agg csP,.agg csN,vB,vS,.agg #[.int .i64 a0,.int .i64 a1,.int .i64 a2,.int .i64 a3]] W fun e w'=> ∃csM:Array Value,e= .returned (.tuple #[.agg csM,.int .i64 0])∧csM.size=121∧csM.all (·.oneCell')=true∧Below W.heap.size W w'∧
   ∀W2,Tryz.Kept (fun j=>w.heap.size≤j∧j<W.heap.size) w' W2→Calls Tryz.prog 39 #[.agg csM] W2 fun e w''=>e= .returned (.string t)∧Below W2.heap.size W2 w''):
  Calls Tryz.prog 18 #[.agg csP,.agg csN,vB,vS,.string s] w fun e w'=>e= .returned (.tuple #[.string ⟨#[111,107,10]++t.data⟩,.int .i64 0])∧Below w.heap.size w w':=by
 have HPa:=Tryz.hidR hparse
 have HDo:=Tryz.hidR hdo
 clear hparse hdo
 have b0:((w.alloc (Obj.cells csP 54)).alloc (Obj.cells csN 74)).heap[w.heap.size]? =some (.cells csP 54 (0,0)):=(Below.heap_alloc _ _ _ (by simp)).trans (heap_alloc_new w _)
 have b1:((w.alloc (Obj.cells csP 54)).alloc (Obj.cells csN 74)).heap[w.heap.size+1]? =some (.cells csN 74 (0,0)):=by
  have:=heap_alloc_new (w.alloc (Obj.cells csP 54)) (Obj.cells csN 74)
  rwa[show(w.alloc (Obj.cells csP 54)).heap.size=w.heap.size+1 by simp]at this
 have hbw:Below w.heap.size w ((w.alloc (Obj.cells csP 54)).alloc (Obj.cells csN 74)):=((Below.refl _ w).alloc (aOS _) _).alloc (by simp) _
 go_enter Tryz.func18,Tryz.ntmps18
 go_wp2_with fail
 refine(HPa.out _ hbw).mono ?_
 rintro e w2 ⟨⟨bk,o,c,rfl,hbk,q0,q1,q2,q3⟩,hb2⟩
 have sz2:=hb2.size
 simp only[World.size_alloc]at sz2
 have c0:=(hb2.block w.heap.size (by simp;omega)).trans b0
 have c1:=(hb2.block (w.heap.size+1) (by simp)).trans b1
 have hb2':=Tryz.hidR (hbw.trans (hb2.mono (by simp;omega)))
 clear b0 b1 hbw hb2
 have c0':=(Below.heap_alloc w2 (Obj.cells #[Value.pointer none,.slice none 0 0] 109) w.heap.size (by omega)).trans c0
 have c1':=(Below.heap_alloc w2 (Obj.cells #[Value.pointer none,.slice none 0 0] 109) (w.heap.size+1) (by omega)).trans c1
 have cb':=heap_alloc_new w2 (Obj.cells #[Value.pointer none,.slice none 0 0] 109)
 have sz3:(w2.alloc (Obj.cells #[Value.pointer none,.slice none 0 0] 109)).heap.size=w2.heap.size+1:=by simp
 have q0':=(World.cell?_alloc_lt w2 (Obj.cells #[Value.pointer none,.slice none 0 0] 109) ⟨bk,o,none⟩ hbk).trans q0
 have q1':=(World.cell?_alloc_lt w2 (Obj.cells #[Value.pointer none,.slice none 0 0] 109) ⟨bk,o+1,none⟩ hbk).trans q1
 have q2':=(World.cell?_alloc_lt w2 (Obj.cells #[Value.pointer none,.slice none 0 0] 109) ⟨bk,o+2,none⟩ hbk).trans q2
 have q3':=(World.cell?_alloc_lt w2 (Obj.cells #[Value.pointer none,.slice none 0 0] 109) ⟨bk,o+3,none⟩ hbk).trans q3
 have hb3:=Tryz.hidR (hb2'.out.alloc (by omega) (Obj.cells #[Value.pointer none,.slice none 0 0] 109))
 have i54:(Tryz.prog.info? 54).map (·.size)=some csP.size:=by rw[hP];kernel_rfl
 have i74:(Tryz.prog.info? 74).map (·.size)=some 121:=by kernel_rfl
 go_wp2_with fail
 go_loopw [31] (fun i wr=>(i= .int .i64 0∧wr=w2.alloc (Obj.cells #[Value.pointer none,.slice none 0 0] 109))∨(i= .int .i64 1∧ ∃csM:Array Value,csM.size=121∧wr.heap[w.heap.size+1]? =some (.cells csM 74 (0,0))∧Lib.BuilderAt 109 5 w2.heap.size w2.heap.size (.pointer (some ⟨w2.heap.size,0,none⟩)) (Lib.strCells ⟨#[111,107,10]⟩) wr∧Hid (Below w.heap.size w wr)∧w2.heap.size≤wr.heap.size∧
   Hid (Calls Tryz.prog 39 #[.agg csM] wr fun e w''=>e= .returned (.string t)∧Below wr.heap.size wr w''))) (fun i _=>1-(intOf i).toNat)
 case atStart=>exact .inl ⟨rfl,rfl⟩
 case round=>
  rcases hrel with⟨rfl,rfl⟩|⟨rfl,csM,hM,p1,hB,HW,hsz,HSh⟩
  ·generalize w2.alloc (Obj.cells #[Value.pointer none,.slice none 0 0] 109)=w3 at cb' sz3 c0' c1' q0' q1' q2' q3' hb3
   have hb4:=Tryz.hidR (hb3.out.alloc (by omega) (Obj.cells #[Value.int .i64 a0,.int .i64 a1,.int .i64 a2,.int .i64 a3] 39))
   have d0:=(Below.heap_alloc w3 (Obj.cells #[Value.int .i64 a0,.int .i64 a1,.int .i64 a2,.int .i64 a3] 39) w.heap.size (by omega)).trans c0'
   have d1:=(Below.heap_alloc w3 (Obj.cells #[Value.int .i64 a0,.int .i64 a1,.int .i64 a2,.int .i64 a3] 39) (w.heap.size+1) (by omega)).trans c1'
   have db:=(Below.heap_alloc w3 (Obj.cells #[Value.int .i64 a0,.int .i64 a1,.int .i64 a2,.int .i64 a3] 39) w2.heap.size (by omega)).trans cb'
   go_wp2_with fail
   refine wp_load_row 54 (.tmp 5) rfl w.heap.size rfl 54 csP (0,0) _ d0 Tryz.underlying54 rfl i54 ?_
   go_wp2_with fail
   refine wp_load_row 74 (.tmp 6) rfl (w.heap.size+1) rfl 74 csN (0,0) _ d1 Tryz.underlying74 rfl (by rw[i74,hN]) ?_
   go_wp2_with fail
   refine(HDo.out _ hb4.out).mono ?_
   rintro e w5 ⟨csM,rfl,hM,hM1,hb5,hshow⟩
   have HS:=Tryz.hidR hshow
   have sz4:(w3.alloc (Obj.cells #[Value.int .i64 a0,.int .i64 a1,.int .i64 a2,.int .i64 a3] 39)).heap.size=w2.heap.size+2:=by simp[sz3]
   have sz5:=hb5.size
   rw[sz4]at sz5
   have e1:=(hb5.block (w.heap.size+1) (by omega)).trans d1
   have eb:=(hb5.block w2.heap.size (by omega)).trans db
   have hb5':=Tryz.hidR (hb4.out.trans (hb5.mono (by omega)))
   have hz:=heap_alloc_new w5 (.cells Tryz.zeroCells74 74)
   have hzs:Tryz.zeroCells74.size=121:=by rfl
   obtain⟨w6,hst,m0,m1,mb,k6⟩: ∃w6,(storeCells ⟨w5.heap.size,0,none⟩ csM.toList).run Tryz.prog (w5.alloc (Obj.cells Tryz.zeroCells74 74))= .ok () w6∧w6.heap[w5.heap.size]? =some (.cells csM 74 (0,0))∧w6.heap[w.heap.size+1]? =some (.cells csN 74 (0,0))∧
     w6.heap[w2.heap.size]? =some (.cells #[.pointer none,.slice none 0 0] 109 (0,0))∧Tryz.Kept (fun _=>False) w5 w6:=by
    refine⟨_,Tryz.storeRow _ _ 74 _ csM hz (by rw[hM,hzs]) hM1,setRow_heap _ _ _ _ _ _ hz, ?_, ?_, ?_⟩
    ·rw[setRow_other _ _ _ _ (by omega),Below.heap_alloc _ _ _ (by omega)];exact e1
    ·rw[setRow_other _ _ _ _ (by omega),Below.heap_alloc _ _ _ (by omega)];exact eb
    exact(Tryz.Kept.of ((Below.refl w5.heap.size w5).alloc (aOS _) _)).trans' (Tryz.Kept.setRow csM hz (by rw[hM,hzs])) fun j hj h=>(by omega)
   obtain⟨w7,hst2,n1,nb,k7⟩: ∃w7,(storeCells ⟨w.heap.size+1,0,none⟩ csM.toList).run Tryz.prog w6= .ok () w7∧w7.heap[w.heap.size+1]? =some (.cells csM 74 (0,0))∧w7.heap[w2.heap.size]? =some (.cells #[.pointer none,.slice none 0 0] 109 (0,0))∧Tryz.Kept (fun j=>j=w.heap.size+1) w5 w7:=
    ⟨_,Tryz.storeRow _ _ 74 _ csM m1 (by rw[hM,hN]) hM1,setRow_heap _ _ _ _ _ _ m1,(setRow_other _ _ _ _ (by omega)).trans mb,(k6.mono fun j _ h=>h.elim).trans' (Tryz.Kept.setRow csM m1 (by rw[hM,hN])) fun j _ h=>h⟩
   clear hshow hb5 hb4 d0 d1 db c0' c1' cb' q0' q1' q2' q3' hb3
   go_wp2_with fail
   refine wp_load_row 74 (.tmp 18) rfl w5.heap.size rfl 74 csM (0,0) _ m0 Tryz.underlying74 rfl (by rw[i74,hM]) ?_
   go_wp2_with fail
   refine(Tryz.write_fresh w2.heap.size _ w7 nb (by decide)).mono ?_
   rintro e w8 ⟨rfl,hB8,k8⟩
   have l7:w.heap.size+1<w7.heap.size:=(aOH.1 n1).1
   have o1:=(k8.block (w.heap.size+1) l7 (by omega)).trans n1
   have k58:Tryz.Kept (fun j=>w.heap.size≤j∧j<(w3.alloc (Obj.cells #[Value.int .i64 a0,.int .i64 a1,.int .i64 a2,.int .i64 a3] 39)).heap.size) w5 w8:=(k7.mono fun j _ h=>⟨by omega,by omega⟩).trans' k8 fun j _ h=>⟨by omega,by omega⟩
   have hsh:=Tryz.hidR (HS.out w8 k58)
   have HW8:=Tryz.hidR (⟨k58.os.trans hb5'.out.os,k58.tape.trans hb5'.out.tape,k58.output.trans hb5'.out.output,aOI hb5'.out.size k58.size,fun j hj=>(k58.block j (aOm hj hb5'.out.size) (by omega)).trans (hb5'.out.block j hj)⟩:Below w.heap.size w w8)
   have sz8:w2.heap.size≤w8.heap.size:=by have:=k58.size;omega
   clear n1 nb k7 k8 hst hst2 e1 eb HS hb5' k58 hz
   go_wp2_with fail
   go_roundw
   case rel=>exact .inr ⟨rfl,csM,hM,o1,hB8,HW8,sz8,hsh⟩
   case measure=>simp[intOf]
  go_wp2_with fail
  refine wp_load_row 74 (.tmp 6) rfl (w.heap.size+1) rfl 74 csM (0,0) _ p1 Tryz.underlying74 rfl (by rw[i74,hM]) ?_
  go_wp2_with fail
  refine HSh.out.mono ?_
  rintro e w9 ⟨rfl,hb9⟩
  have hB9:Lib.BuilderAt 109 5 w2.heap.size w2.heap.size (.pointer (some ⟨w2.heap.size,0,none⟩)) (Lib.strCells ⟨#[111,107,10]⟩) w9:=by
   obtain⟨h1,v,hbk,hown,hne⟩:=hB
   refine⟨h1,v,(hb9.block _ (aOH.1 hbk).1).trans hbk,⟨hown.1,hown.2.imp id ?_⟩,hne⟩
   rintro⟨g,cap,cur,h2,h3,h4,h5⟩
   exact⟨g,cap,cur,h2,h3,(hb9.block _ (aOH.1 h4).1).trans h4,h5⟩
  have HW9:=Tryz.hidR (HW.out.trans (hb9.mono (by have:=HW.out.size;omega)))
  have sz9:=hb9.size
  clear hb9 hB p1 HW HSh
  go_wp2_with fail
  refine(Tryz.Builder_WriteString w2.heap.size w2.heap.size _ t w9 (.inr hB9) (by rw[Lib.strCells_length];show 3+_≤_;omega) (by omega)).mono ?_
  rintro e w10 ⟨rfl,hB10,hb10⟩
  have hcells:Lib.strCells ⟨#[111,107,10]⟩++Lib.strCells t=Lib.byteCells ([111,107,10]++t.data.toList):=by
   rw[Lib.byteCells_append];rfl
  rw[hcells]at hB10
  have HW10:=Tryz.hidR (HW9.out.trans (hb10.mono (by omega)))
  have sz10:=hb10.size
  clear hb10 hB9 HW9
  go_wp2_with fail
  refine(Tryz.Builder_String_any w2.heap.size w2.heap.size _ w10 (.inr hB10) (by omega)).mono ?_
  rintro e w11 ⟨rfl,hb11⟩
  have HW11:=Tryz.hidR (HW10.out.trans (hb11.mono (by omega)))
  clear hb11 hB10 HW10
  go_wp2_with fail
  go_ret2
  exact⟨by simp,HW11.out⟩
end Go.Proofs
namespace Go.Vm
open Go
theorem r7 {P:Program} {f:FuncId} {fn:Func} {args:List V} {r:V} {X:Nat→Prop} {w:World} {vs:List Value} (hf:P.funcs[f]? =some fn) (hb:fn.body.isNone=false) (hn:(fn.name == "runtime.NumGoroutine")=false)
  (hc:PFn P f args r) (hA: ∀g,X g→g<w.heap.size) (hG:Globs X w) (hargs:VCells X [] w args vs):Calls P f vs.toArray w fun e w'=> ∃v,e= .returned v∧VR X [] w' r v∧RowKit.Below w.heap.size w w':=by
 rcases hc X w vs hA hG hargs with⟨_,h2⟩|⟨v,w',h1,_⟩
 ·refine h2.mono ?_
  rintro e w' ⟨v,he,hE,hv⟩
  exact⟨v,he,hv,hE.os,hE.tape,hE.output,hE.size,fun g hg=>hE.block g hg id⟩
 rw[kC hf hb hn]at h1
 cases h1
theorem aDS {L:Nat→Prop}{w w':World}(h:Go.Proofs.Tryz.Kept L w w'):Ext L w w':=by
 have lt: ∀g sh,w.shape? g=some sh→g<w.heap.size:=fun g s h=>by
  rcases Nat.lt_or_ge g w.heap.size with hl|hl
  ·exact hl
  unfold World.shape? at h;rw[Array.getElem?_eq_none hl]at h;cases h
 exact⟨h.os,h.tape,h.output,h.size,h.block,fun g s hs=>(h.shape g (lt g s hs)).trans hs,fun g hg hs=>(h.shape g hg).trans hs⟩
theorem aJS {X:Nat→Prop}{w:World}{cs:List V}{vs:List Value}(hc:cs.all oC=true)(ho:cs.all (fun x=>match x with | .sc v=>v.oneCell'|_=>true)=true)(h:VCells X [] w cs vs):vs.toArray.all (·.oneCell')=true:=by
 rw[aOX]
 intro v hv
 obtain⟨i,hi⟩:=List.mem_iff_getElem?.1 (by simpa using hv)
 have hlt:i<cs.length:=by rw[h.len];exact(aPb.1 hi).1
 obtain⟨u,hu,hr⟩:=h.get (aOv hlt)
 rw[hi]at hu;injection hu with hu;subst hu
 have h1:=aOs.1 hc _ (aPh hlt)
 have h2:=aOs.1 ho _ (aPh hlt)
 generalize cs[i]=c at hr h1 h2
 cases c with
 |sc a=>unfold VR at hr;subst hr;exact h2
 |row nl k es=>unfold VR at hr;obtain⟨a,cap,rfl,_⟩:=hr;rfl
 |_=>cases h1
theorem aJd {X:Nat→Prop}{w:World}{a0 a1 a2 a3:Int}{v:Value}(h:VR X [] w (.row none 4 [.agg [eI .i64 a0,eI .i64 a1,eI .i64 a2,eI .i64 a3]]) v):
  ∃bk o c,v= .slice (some ⟨bk,o,none⟩) 1 c∧bk<w.heap.size∧w.cell? ⟨bk,o,none⟩=some (.int .i64 a0)∧w.cell? ⟨bk,o+1,none⟩=some (.int .i64 a1)∧w.cell? ⟨bk,o+2,none⟩=some (.int .i64 a2)∧w.cell? ⟨bk,o+3,none⟩=some (.int .i64 a3):=by
 unfold VR at h
 obtain⟨a,cap,hv,hc,_,_,_,hr⟩:=h
 obtain⟨ad,ha,_,_,hsp,hrow⟩:=hr (by simp)
 obtain⟨bk,o,sp⟩:=ad
 simp only at hsp
 subst hsp ha
 have hlt:=aAW hrow (by omega) (by simp)
 unfold VRow at hrow
 obtain⟨⟨u,hu,hs,hl⟩,_⟩:=hrow
 have hu2:u= .agg #[.int .i64 a0,.int .i64 a1,.int .i64 a2,.int .i64 a3]:=by simpa[VR,VCells,eI]using hu
 subst hu2
 exact⟨bk,o,cap,hv,hlt,hl 0 _ rfl,hl 1 _ rfl,hl 2 _ rfl,hl 3 _ rfl⟩
end Go.Vm
namespace Go.Proofs.YtjcfonniipabpaaGreatDoor
open Go Go.Proofs Go.RowKit Go.Vm
set_option maxRecDepth 100000
theorem aCx : ∀e∈aAj.take 22,PFn Tryz.prog e.1 e.2.1 e.2.2∧e.2.1.all dA=true:=aEd 22 (aOS _)
theorem aF6 :PFn Tryz.prog 9 [eS goS] (.tup [.row none 4 [aA],eI .i64 1,eI .i64 0]):=cP aCx k1
theorem aKy :PFn Tryz.prog 36 [aP,aN,aB,aS,aA] (.tup [aM,eI .i64 0]):=cP aCx k2
theorem aIc :PFn Tryz.prog 39 [aM] (eS aAQ):=cP aCx k3
def cells :V→List V
 | .agg cs=>cs
 |_=>[]
theorem aJZ :aP= .agg (cells aP):=by kernel_rfl
theorem aKa :aN= .agg (cells aN):=by kernel_rfl
theorem aJX :aM= .agg (cells aM):=by kernel_rfl
theorem aJ9 :PFn Tryz.prog 18 [aP,aN,aB,aS,eS goS] (.tup [eS aHh,eI .i64 0]):=by
 refine gK (mF (v0:= .tuple #[.string aHh,.int .i64 0]) Tryz.func18 (by kernel_rfl) (by kernel_rfl) (fun X w=>by simp[VR,VCells,eS,eI]) fun X w vs hX hG hv=> ?_)
 have hv0:=hv
 rw[aJZ,aKa]at hv
 unfold VCells at hv
 obtain⟨vP,rest,rfl,hP,hv⟩:=hv
 unfold VCells at hv
 obtain⟨vN,rest,rfl,hN,hv⟩:=hv
 unfold VCells at hv
 obtain⟨vB,rest,rfl,hB,hv⟩:=hv
 unfold VCells at hv
 obtain⟨vS,rest,rfl,hS,hv⟩:=hv
 unfold VCells at hv
 obtain⟨v5,rest,rfl,h5,hv⟩:=hv
 unfold VCells at hv
 subst hv
 have h5':v5= .string goS:=by simpa[VR,eS]using h5
 subst h5'
 obtain⟨csP,rfl,hcP⟩: ∃cs:List Value,vP= .agg cs.toArray∧VCells X [] w (cells aP) cs:=by unfold VR at hP;exact hP
 obtain⟨csN,rfl,hcN⟩: ∃cs:List Value,vN= .agg cs.toArray∧VCells X [] w (cells aN) cs:=by unfold VR at hN;exact hN
 have lP:csP.toArray.size=80:=by rw[aPe,←hcP.len];kernel_rfl
 have lN:csN.toArray.size=121:=by rw[aPe,←hcN.len];kernel_rfl
 have up: ∀W,Below w.heap.size w W→(∀g,(X g∨w.heap.size≤g∧g<W.heap.size)→g<W.heap.size):=fun W hW g hg=>hg.elim (fun h=>aOm (hX g h) hW.size) fun h=>h.2
 have dn: ∀W:World,∀g,g<w.heap.size→(X g∨w.heap.size≤g∧g<W.heap.size)→X g:=fun W g hg h=>h.elim id fun h=>absurd h.1 (by omega)
 refine Tryz.run_calls csP.toArray csN.toArray vB vS goS aAQ 1 0 0 0 w lP lN (by decide) (fun W hW=> ?_) (fun W hW=> ?_)
 ·have hE:=gI hW
  have:=r7 (X:=X) (w:=W) (vs:=[.string goS]) Tryz.func9 (by kernel_rfl) (by kernel_rfl) aF6 (fun g hg=>aOm (hX g hg) hW.size) (hG.ext hE (fun _ _ h=>h.elim) fun _ _ h=>h) (by simp[VCells,VR,eS])
  refine this.mono ?_
  rintro e w' ⟨v,rfl,hr,hB'⟩
  unfold VR at hr
  obtain⟨us,rfl,hr⟩:=hr
  unfold VCells at hr
  obtain⟨u0,rest,rfl,h0,hr⟩:=hr
  unfold VCells at hr
  obtain⟨u1,rest,rfl,h1,hr⟩:=hr
  unfold VCells at hr
  obtain⟨u2,rest,rfl,h2,hr⟩:=hr
  unfold VCells at hr
  subst hr
  obtain⟨bk,o,c,rfl,hbk,q0,q1,q2,q3⟩:=aJd h0
  have e1:u1= .int .i64 1:=by simpa[VR,eI]using h1
  have e2:u2= .int .i64 0:=by simpa[VR,eI]using h2
  subst e1 e2
  exact⟨⟨bk,o,c,rfl,hbk,q0,q1,q2,q3⟩,hB'⟩
 have hE:=gI hW
 have hargs:VCells (fun g=>X g∨w.heap.size≤g∧g<W.heap.size) [] W [aP,aN,aB,aS,aA] [.agg csP.toArray,.agg csN.toArray,vB,vS,.agg #[.int .i64 1,.int .i64 0,.int .i64 0,.int .i64 0]]:=by
  have h4:=VCells.ext (X':=fun g=>X g∨w.heap.size≤g∧g<W.heap.size) hE (aPs _) (fun _ _ h=>h.elim) (dn W) _ _ hv0
  unfold VCells at h4⊢
  obtain⟨_,_,e,a1,h4⟩:=h4
  injection e with e1 e2
  subst e1 e2
  refine⟨_,_,rfl,a1, ?_⟩
  unfold VCells at h4⊢
  obtain⟨_,_,e,a1,h4⟩:=h4
  injection e with e1 e2
  subst e1 e2
  refine⟨_,_,rfl,a1, ?_⟩
  unfold VCells at h4⊢
  obtain⟨_,_,e,a1,h4⟩:=h4
  injection e with e1 e2
  subst e1 e2
  refine⟨_,_,rfl,a1, ?_⟩
  unfold VCells at h4⊢
  obtain⟨_,_,e,a1,h4⟩:=h4
  injection e with e1 e2
  subst e1 e2
  refine⟨_,_,rfl,a1, ?_⟩
  simp[VCells,VR,aA,eI]
 have hGW:Globs (fun g=>X g∨w.heap.size≤g∧g<W.heap.size) W:=hG.ext hE (fun _ _ h=>h.elim) (dn W)
 refine(r7 Tryz.func36 (by kernel_rfl) (by kernel_rfl) aKy (up W hW) hGW hargs).mono ?_
 rintro e w' ⟨v,rfl,hr,hB'⟩
 unfold VR at hr
 obtain⟨us,rfl,hr⟩:=hr
 unfold VCells at hr
 obtain⟨u0,rest,rfl,h0,hr⟩:=hr
 unfold VCells at hr
 obtain⟨u1,rest,rfl,h1,hr⟩:=hr
 unfold VCells at hr
 subst hr
 have e1:u1= .int .i64 0:=by simpa[VR,eI]using h1
 subst e1
 have h0':=h0
 rw[aJX]at h0
 obtain⟨csM,rfl,hcM⟩: ∃cs:List Value,u0= .agg cs.toArray∧VCells (fun g=>X g∨w.heap.size≤g∧g<W.heap.size) [] w' (cells aM) cs:=by unfold VR at h0;exact h0
 refine⟨csM.toArray,rfl,by rw[aPe,←hcM.len];kernel_rfl,aJS (by kernel_rfl) (by kernel_rfl) hcM,hB',fun W2 hk=> ?_⟩
 have hE2:=aDS hk
 have hB2:Below w.heap.size w W2:=⟨hk.os.trans (hB'.os.trans hW.os),hk.tape.trans (hB'.tape.trans hW.tape),hk.output.trans (hB'.output.trans hW.output),aOI hW.size (aOI hB'.size hk.size),fun j hj=>
  (hk.block j (aOm hj (aOI hW.size hB'.size)) (by omega)).trans ((hB'.block j (aOm hj hW.size)).trans (hW.block j hj))⟩
 have hG2:Globs (fun g=>X g∨w.heap.size≤g∧g<W.heap.size) W2:=hG.ext (gI hB2) (fun _ _ h=>h.elim) (dn W)
 have hM2:=VR.ext hE2 (aPs _) (fun g _ h=> .inr h) (fun _ _ h=>h) _ _ h0'
 refine(r7 (vs:=[.agg csM.toArray]) Tryz.func39 (by kernel_rfl) (by kernel_rfl) aIc (fun g hg=>aOm (up W hW g hg) (aOI hB'.size hk.size)) hG2 (by unfold VCells;exact⟨_,_,rfl,hM2,by unfold VCells;rfl⟩)).mono ?_
 rintro e w'' ⟨v,rfl,hr,hb⟩
 have e1:v= .string aAQ:=by simpa[VR,eS]using hr
 exact⟨by rw[e1],hb⟩
theorem aKe :lC Tryz.prog sF sR:=fun f h xs r hh=>by
 unfold sR at hh
 cases hb:(aPA f 18&&mS xs [aP,aN,aB,aS,eS goS]) with
 |true=>
  rw[hb]at hh
  obtain rfl:=aOp hh
  simp only[aON]at hb
  obtain rfl:=aOP hb.1
  rw[kA _ _ hb.2]
  exact aC3 ⟨aJ9,by kernel_rfl⟩
 |false=>
  rw[hb]at hh
  exact aEo aHn (fun e he=>aCx e (by rw[show aAj.take 22=aAj by kernel_rfl];exact he)) f h xs r hh
theorem aH5 :PFn Tryz.prog 7 [] (eB true):=s4 (aAk aKe aCy aAR NF) aCy aAR k4
end Go.Proofs.YtjcfonniipabpaaGreatDoor
set_option maxRecDepth 20000
set_option maxHeartbeats 1000000
namespace Go.Proofs.YtjcfonniipabpaaGreatDoor
open Go Go.Vm
theorem nV {N:Nat}{r:Bool}(hr:iD N=some r):Vm.Fn Tryz.prog 7 [] [] (eB r) []:=by
 obtain rfl:=aOp hr
 exact qQ aH5 rfl
theorem tU {N:Nat}{vn:Int}{r:Bool}(hr:fQ N vn=some r):
  Vm.Fn Tryz.prog 4 [] [(eI .i64 vn)] (eB r) []:=by
 refine zf Tryz.func4 Tryz.ntmps4 ?_
 unfold fQ at hr
 refine zz ?_
 refine aOT ?_
 obtain⟨x14,h_1,hr⟩:=aF hr
 refine zz ?_
 refine xp (nV h_1) ?_
 refine zz ?_
 refine zk hr rfl (fun h2 hr=> ?_) (fun h2 hr=> ?_)
 ·refine zz ?_
  obtain rfl:=sj hr
  exact dZ Tryz.results4 []
 obtain⟨x17,h_3,hr⟩:=aF hr
 refine zz ?_
 refine xp (nD h_3) ?_
 refine zz ?_
 refine aOV fun K1 hK1 hG1=> ?_
 have J1: ∀(vs:ByteArray),gG N x17 vs=some r→K1 (aE 104 [(3,(eI .i64 x17)),(4,(eS vs))]) []:=by
  intro vs hr
  unfold gG at hr
  refine hK1 _ _ ?_
  obtain⟨x28,h_4,hr⟩:=aF hr
  refine zz ?_
  refine zc (fS h_4) [] ?_
  obtain⟨x34,h_5,hr⟩:=aF hr
  refine zz ?_
  refine xw (v:=(.sl 1 0 x34.length 1 false)) (h':=[some ⟨39,x28.1.flatMap aJ⟩,some ⟨5,x34.map (eI .u8)⟩]) (aJM rfl rfl (mkS (E:=(eI .u8)) (y:=0) bJ cG ⟨zl,rfl,rfl⟩ rfl rfl rfl h_5 rfl rfl)) ?_
  refine zz ?_
  refine aOV fun K2 hK2 hG2=> ?_
  have J2: ∀(l1:List Int),gH N x17 x28 l1=some r→K2 (aE 104 [(3,(eI .i64 x17)),(6,(.sl 0 0 x28.1.length 4 true)),(7,(eI .i64 x28.2.1)),(8,(eI .i64 x28.2.2)),(9,(.sl 1 0 l1.length 1 false))]) [some ⟨39,x28.1.flatMap aJ⟩,some ⟨5,l1.map (eI .u8)⟩]:=by
   intro l1 hr
   unfold gH at hr
   refine hK2 _ _ ?_
   obtain⟨x47,h_6,hr⟩:=aF hr
   refine zz ?_
   refine xw (v:=(eS (mO l1))) (xJ rfl (aCj bJ eT cG (k9 rfl rfl)))<|zc (fS h_6) [] ?_
   refine zz ?_
   refine aOT ?_
   refine zz ?_
   refine zk hr rfl (fun h7 hr=> ?_) (fun h7 hr=> ?_)
   ·refine aOV fun K3 hK3 hG3=> ?_
    have J3: ∀(x2:Bool),cD N x2=some r→K3 (aE 104 [(2,(eB x2))]) []:=by
     intro x2 hr
     unfold cD at hr
     refine hK3 _ _ ?_
     refine zz ?_
     obtain rfl:=sj hr
     exact dZ Tryz.results4 []
    rcases aOh (x28.2.2 == 4)with h8|h8
    ·replace hr:=dI hr h8
     rcases aOh (x28.2.1 == 256)with h9|h9
     ·replace hr:=dI hr h9
      rcases aOh ((x28.1.length:Int) == 0)with h10|h10
      ·replace hr:=dI hr h10
       rcases aOh (x47.2.2 == 4)with h11|h11
       ·replace hr:=dI hr h11
        rcases aOh (x47.2.1 == 0)with h12|h12
        ·replace hr:=dI hr h12
         refine xr ?_
         refine zz ?_
         exact hG3 _ _ _ _ (zG []) (J3 ((x47.1.length:Int) == 0) hr)
        replace hr:=dE hr h12
        refine xr ?_
        refine zz ?_
        exact hG3 _ _ _ _ (zG []) (J3 false hr)
       replace hr:=dE hr h11
       refine xr ?_
       refine zz ?_
       refine xX rfl<|xX rfl<|xX rfl ?_
       refine zz ?_
       exact hG3 _ _ _ _ (zG []) (J3 false hr)
      replace hr:=dE hr h10
      refine xr ?_
      refine zz ?_
      refine xX rfl<|xX rfl ?_
      refine zz ?_
      refine xX rfl<|xX rfl<|xX rfl ?_
      refine zz ?_
      exact hG3 _ _ _ _ (zG []) (J3 false hr)
     replace hr:=dE hr h9
     refine xr ?_
     refine zz ?_
     refine xX rfl<|xX rfl ?_
     refine zz ?_
     refine xX rfl<|xX rfl ?_
     refine zz ?_
     refine xX rfl<|xX rfl<|xX rfl ?_
     refine zz ?_
     exact hG3 _ _ _ _ (zG []) (J3 false hr)
    replace hr:=dE hr h8
    refine xr ?_
    refine zz ?_
    refine xX rfl<|xX rfl<|xX rfl ?_
    refine zz ?_
    refine xX rfl<|xX rfl ?_
    refine zz ?_
    refine xX rfl<|xX rfl ?_
    refine zz ?_
    refine xX rfl<|xX rfl<|xX rfl ?_
    refine zz ?_
    exact hG3 _ _ _ _ (zG []) (J3 false hr)
   refine zz ?_
   refine aOV fun K4 hK4 hG4=> ?_
   have J4: ∀(aDw:Bool),cC N aDw=some r→K4 (aE 104 [(2,(eB aDw))]) []:=by
    intro aDw hr
    unfold cC at hr
    refine hK4 _ _ ?_
    refine zz ?_
    obtain rfl:=sj hr
    exact dZ Tryz.results4 []
   rcases aOh (x28.2.2 == 0)with h13|h13
   ·replace hr:=dI hr h13
    rcases aOh (x28.2.1 == (aOj.wrap (255+x17)))with h14|h14
    ·replace hr:=dI hr h14
     rcases aOh ((x28.1.length:Int) == x28.2.1)with h15|h15
     ·replace hr:=dI hr h15
      rcases aOh (x47.2.2 == 0)with h16|h16
      ·replace hr:=dI hr h16
       rcases aOh (x47.2.1 == 1)with h17|h17
       ·replace hr:=dI hr h17
        refine xr ?_
        refine zz ?_
        exact hG4 _ _ _ _ (zG []) (J4 ((x47.1.length:Int) == 0) hr)
       replace hr:=dE hr h17
       refine xr ?_
       refine zz ?_
       exact hG4 _ _ _ _ (zG []) (J4 false hr)
      replace hr:=dE hr h16
      refine xr ?_
      refine zz ?_
      refine xX rfl<|xX rfl<|xX rfl ?_
      refine zz ?_
      exact hG4 _ _ _ _ (zG []) (J4 false hr)
     replace hr:=dE hr h15
     refine xr ?_
     refine zz ?_
     refine xX rfl<|xX rfl ?_
     refine zz ?_
     refine xX rfl<|xX rfl<|xX rfl ?_
     refine zz ?_
     exact hG4 _ _ _ _ (zG []) (J4 false hr)
    replace hr:=dE hr h14
    refine xr ?_
    refine zz ?_
    refine xX rfl<|xX rfl ?_
    refine zz ?_
    refine xX rfl<|xX rfl ?_
    refine zz ?_
    refine xX rfl<|xX rfl<|xX rfl ?_
    refine zz ?_
    exact hG4 _ _ _ _ (zG []) (J4 false hr)
   replace hr:=dE hr h13
   refine xr ?_
   refine zz ?_
   refine xX rfl<|xX rfl<|xX rfl<|xX rfl ?_
   refine zz ?_
   refine xX rfl<|xX rfl ?_
   refine zz ?_
   refine xX rfl<|xX rfl ?_
   refine zz ?_
   refine xX rfl<|xX rfl<|xX rfl ?_
   refine zz ?_
   exact hG4 _ _ _ _ (zG []) (J4 false hr)
  obtain⟨res5,hL5,hr⟩:=aF hr
  refine zz ?_
  refine aO2<|aPv (fun m s h=> ∃(x37:Int)(bD:List Int),cT N x17 x28 x34 m x37 bD=some res5∧Ghost 0 s h (aE 104 [(3,(eI .i64 x17)),(6,(.sl 0 0 x28.1.length 4 true)),(7,(eI .i64 x28.2.1)),(8,(eI .i64 x28.2.2)),(9,(.sl 1 0 bD.length 1 false)),(36,(eI .i64 (x34.length:Int))),(37,(eI .i64 x37))]) [some ⟨39,x28.1.flatMap aJ⟩,some ⟨5,bD.map (eI .u8)⟩]) (n:=N) ⟨0,x34,hL5,(zG [0,1])⟩ (by rintro s h ⟨_,_,h0,_⟩;simp[cT]at h0) ?_
  rintro m5 s h ⟨x37,bD,hr5,hg⟩
  refine aPw hg ?_
  clear hg hL5
  rw[cT]at hr5
  refine zz ?_
  refine aOT ?_
  refine zk hr5 rfl (fun h18 hr5=> ?_) (fun h18 hr5=> ?_)
  ·refine zz ?_
   refine aOT<|aO2 ?_
   obtain⟨x42,h_19,hr5⟩:=aF hr5
   refine zz ?_
   exact⟨aOj.wrap (x37+1),bD.set (aPf x37) 32,hr5,(oD [0,1])⟩
  refine zz ?_
  obtain rfl:=sj hr5
  refine zz ?_
  exact hG2 _ _ _ _ (zG [0,1]) (J2 bD hr)
 obtain⟨res6,hL6,hr⟩:=aF hr
 refine zz ?_
 refine aO2<|aPv (fun m s h=> ∃(cM:ByteArray)(vi:Int),cU N x17 m cM vi=some res6∧Ghost 0 s h (aE 104 [(3,(eI .i64 x17)),(4,(eS cM)),(5,(eI .i64 vi))]) []) (n:=N) ⟨aO3,0,hL6,(zG [])⟩ (by rintro s h ⟨_,_,h0,_⟩;simp[cU]at h0) ?_
 rintro m6 s h ⟨cM,vi,hr6,hg⟩
 refine aPw hg ?_
 clear hg hL6
 rw[cU]at hr6
 refine aOT ?_
 refine zz ?_
 refine zk hr6 rfl (fun h20 hr6=> ?_) (fun h20 hr6=> ?_)
 ·refine zz ?_
  refine aOT<|aO2 ?_
  obtain⟨x25,h_21,hr6⟩:=aF hr6
  refine zz ?_
  refine xw (v:=(eS x25)) (gC rfl rfl (pJ _ _ _ h_21)) ?_
  refine zz ?_
  exact⟨x25,aOj.wrap (vi+1),hr6,(zG [])⟩
 refine zz ?_
 obtain rfl:=sj hr6
 refine zz ?_
 exact hG1 _ _ _ _ (zG []) (J1 cM hr)
theorem uX {N:Nat}{l:List Int}{raw:ByteArray}{r:Bool}(hr:iA N l raw=some r):
  Vm.Fn Tryz.prog 6 [] [(.row none 1 (l.map (eI .i64))),(eS raw)] (eB r) []:=by
 refine zf Tryz.func6 Tryz.ntmps6 ?_
 unfold iA at hr
 refine zz ?_
 refine aOT ?_
 obtain⟨x19,h_1,hr⟩:=aF hr
 refine zz ?_
 refine xp (nV h_1) ?_
 refine zz ?_
 refine zk hr rfl (fun h2 hr=> ?_) (fun h2 hr=> ?_)
 ·refine zz ?_
  obtain rfl:=sj hr
  exact dZ Tryz.results6 []
 refine zz ?_
 refine aOT ?_
 refine zz ?_
 refine zk hr rfl (fun h3 hr=> ?_) (fun h3 hr=> ?_)
 ·refine zz ?_
  obtain rfl:=sj hr
  exact dZ Tryz.results6 []
 obtain⟨x25,h_4,hr⟩:=aF hr
 obtain⟨x26,h_5,hr⟩:=aF hr
 refine zz ?_
 refine zc (tO h_4) [] ?_
 refine zc (q4 h_5) [0] ?_
 obtain⟨x29,h_6,hr⟩:=aF hr
 refine zz ?_
 refine zcL (mT h_6) [] [1] ?_
 obtain⟨x34,h_7,hr⟩:=aF hr
 refine zz ?_
 refine zc (fS h_7) [] ?_
 refine zz ?_
 refine aOT ?_
 refine aOV fun K1 hK1 hG1=> ?_
 have J1: ∀(x55:Bool),dJ N raw x55=some r→K1 (aE 86 [(1,(eS raw)),(55,(eB x55))]) []:=by
  intro x55 hr
  unfold dJ at hr
  refine hK1 _ _ ?_
  refine zk hr rfl (fun h8 hr=> ?_) (fun h8 hr=> ?_)
  ·refine zz ?_
   obtain rfl:=sj hr
   exact dZ Tryz.results6 []
  obtain⟨x58,h_9,hr⟩:=aF hr
  refine zz ?_
  refine zc (fS h_9) [] ?_
  refine zz ?_
  refine aOT ?_
  refine zz ?_
  refine zk hr rfl (fun h10 hr=> ?_) (fun h10 hr=> ?_)
  ·refine zz ?_
   obtain rfl:=sj hr
   exact dZ Tryz.results6 []
  obtain⟨x66,h_11,hr⟩:=aF hr
  refine zz ?_
  refine zcL (mT h_11) [] [0] ?_
  obtain⟨x71,h_12,hr⟩:=aF hr
  refine zz ?_
  refine zc (fS h_12) [] ?_
  refine zz ?_
  refine aOV fun K2 hK2 hG2=> ?_
  have J2: ∀(x4:Bool),e8 N x4=some r→K2 (aE 86 [(4,(eB x4))]) []:=by
   intro x4 hr
   unfold e8 at hr
   refine hK2 _ _ ?_
   refine zz ?_
   obtain rfl:=sj hr
   exact dZ Tryz.results6 []
  rcases aOh (x66.2 == 0)with h13|h13
  ·replace hr:=dI hr h13
   rcases aOh (x71.2.2 == 0)with h14|h14
   ·replace hr:=dI hr h14
    obtain⟨x84,h_15,hr⟩:=aF hr
    refine xr ?_
    refine zz ?_
    refine xCg (v:=(eB x84)) (h':=[some ⟨39,x58.1.flatMap aJ⟩,some ⟨39,x71.1.flatMap aJ⟩]) rfl rfl h14 rfl (Vm.Fn.lendR (mX h_15) [] [0,1] (by decide) rfl (by decide) Lend.nil (Brw.row (n8 (C:=aJ) (fun _=>rfl) zl rfl rfl (fun _=>rfl)) (Brw.row (n8 (C:=aJ) (fun _=>rfl) zl rfl rfl (fun _=>rfl)) Brw.nil)) rfl rfB.nil rfl zH) ?_
    refine zz ?_
    exact hG2 _ _ _ _ (zG []) (J2 x84 hr)
   replace hr:=dE hr h14
   refine xr ?_
   refine zz ?_
   exact hG2 _ _ _ _ (zG []) (J2 false hr)
  replace hr:=dE hr h13
  refine xr ?_
  refine zz ?_
  refine xX rfl<|xX rfl<|xX rfl ?_
  refine zz ?_
  exact hG2 _ _ _ _ (zG []) (J2 false hr)
 rcases aOh (x29.2 != 0)with h16|h16
 ·replace hr:=dI hr h16
  refine xr ?_
  refine zz ?_
  refine xX rfl<|xX rfl<|xX rfl<|xX rfl ?_
  refine zz ?_
  refine xX rfl<|xX rfl<|xX rfl<|xX rfl ?_
  refine zz ?_
  exact hG1 _ _ _ _ (zG []) (J1 true hr)
 replace hr:=dE hr h16
 rcases aOh (x34.2.2 != 0)with h17|h17
 ·replace hr:=dI hr h17
  refine xr ?_
  refine zz ?_
  refine xX rfl<|xX rfl<|xX rfl<|xX rfl ?_
  refine zz ?_
  exact hG1 _ _ _ _ (zG []) (J1 true hr)
 replace hr:=dE hr h17
 rcases aOh (x34.2.1 != (x26.1.length:Int))with h18|h18
 ·replace hr:=dI hr h18
  refine xr ?_
  refine zz ?_
  exact hG1 _ _ _ _ (zG []) (J1 true hr)
 replace hr:=dE hr h18
 obtain⟨x53,h_19,hr⟩:=aF hr
 refine xr ?_
 refine zz ?_
 refine xCg (v:=(eB x53)) (h':=[some ⟨88,[(.row none 1 (x26.2.1.map (eI .i64))),(eI .i64 x26.2.2)]⟩,some ⟨39,x26.1.flatMap aJ⟩,some ⟨39,x34.1.flatMap aJ⟩]) rfl rfl h18 rfl (Vm.Fn.lendR (mX h_19) [] [2,1] (by decide) rfl (by decide) Lend.nil (Brw.row (n8 (C:=aJ) (fun _=>rfl) zl rfl rfl (fun _=>rfl)) (Brw.row (n8 (C:=aJ) (fun _=>rfl) zl rfl rfl (fun _=>rfl)) Brw.nil)) rfl rfB.nil rfl zH) ?_
 refine zz ?_
 exact hG1 _ _ _ _ (zG []) (J1 (!x53) hr)
theorem sU {N:Nat}{l:List Int}{raw:List aC}{r:Bool}(hr:eX N l raw=some r):
  Vm.Fn Tryz.prog 5 [] [(.row none 1 (l.map (eI .i64))),(.row none 4 (raw.map cX))] (eB r) []:=by
 refine zf Tryz.func5 Tryz.ntmps5 ?_
 unfold eX at hr
 refine zz ?_
 refine aOT ?_
 obtain⟨x15,h_1,hr⟩:=aF hr
 refine zz ?_
 refine xp (nV h_1) ?_
 refine zz ?_
 refine zk hr rfl (fun h2 hr=> ?_) (fun h2 hr=> ?_)
 ·refine zz ?_
  obtain rfl:=sj hr
  exact dZ Tryz.results5 []
 refine zz ?_
 refine aOT ?_
 refine zz ?_
 refine zk hr rfl (fun h3 hr=> ?_) (fun h3 hr=> ?_)
 ·refine zz ?_
  obtain rfl:=sj hr
  exact dZ Tryz.results5 []
 obtain⟨x21,h_4,hr⟩:=aF hr
 obtain⟨x22,h_5,hr⟩:=aF hr
 refine zz ?_
 refine zc (tO h_4) [] ?_
 refine zc (q4 h_5) [0] ?_
 refine zz ?_
 refine aOV fun K1 hK1 hG1=> ?_
 have J1: ∀(l1:List aC),fM N raw x22 l1=some r→K1 (aE 80 [(1,(.row none 4 (raw.map cX))),(5,(.sl 0 0 x22.1.length 4 true)),(6,(.sl 1 0 l1.length 4 true))]) [some ⟨39,x22.1.flatMap aJ⟩,some ⟨39,l1.flatMap aJ⟩]:=by
  intro l1 hr
  unfold fM at hr
  refine hK1 _ _ ?_
  refine aOV fun K2 hK2 hG2=> ?_
  have J2:i7 N=some r→K2 (aE 80 []) []:=by
   intro hr
   unfold i7 at hr
   refine hK2 _ _ ?_
   refine zz ?_
   obtain rfl:=sj hr
   exact dZ Tryz.results5 []
  refine zz ?_
  refine OpsX.ghost (zv 0) ?_
  refine OpsX.ghost (zv 1) ?_
  obtain⟨mW,hL3,hr⟩:=aF hr
  refine zz ?_
  refine aO2<|aPv (fun m s h=> ∃(x57:Int),aY N raw x22 l1 m x57=some mW∧Ghost 0 s h (aE 80 [(55,(.sl 0 0 ([x22.1,l1,raw].length) 1 false)),(56,(eI .i64 (3:Int))),(57,(eI .i64 x57))]) [some ⟨26,[x22.1,l1,raw].map (eL 4 cX)⟩]) (n:=N) ⟨0,hL3,(oD [2])⟩ (by rintro s h ⟨_,h0,_⟩;simp[aY]at h0) ?_
  rintro m3 s h ⟨x57,hr3,hg⟩
  refine aPw hg ?_
  clear hg hL3
  rw[aY]at hr3
  refine zz ?_
  refine aOT ?_
  refine zk hr3 rfl (fun h6 hr3=> ?_) (fun h6 hr3=> ?_)
  ·refine zz ?_
   refine aOT<|aO2 ?_
   obtain⟨x59,h_7,hr3⟩:=aF hr3
   refine zz ?_
   refine xHp (h':=[some ⟨26,[x22.1,l1,raw].map (eL 4 cX)⟩]) rfl ?_
   obtain⟨x63,h_8,hr3⟩:=aF hr3
   refine zz ?_
   refine xp (mT h_8) ?_
   obtain⟨x68,h_9,hr3⟩:=aF hr3
   refine zz ?_
   refine xp (tA h_9) ?_
   refine zz ?_
   refine aOV fun K4 hK4 hG4=> ?_
   have J4: ∀(x78:Bool),eD N raw x22 l1 x57 (aY N raw x22 l1 m3) x78=some mW→K4 (aE 80 [(55,(.sl 0 0 ([x22.1,l1,raw].length) 1 false)),(56,(eI .i64 (3:Int))),(57,(eI .i64 x57)),(78,(eB x78))]) [some ⟨26,[x22.1,l1,raw].map (eL 4 cX)⟩]:=by
    intro x78 hr3
    unfold eD at hr3
    refine hK4 _ _ ?_
    refine zk hr3 rfl (fun h10 hr3=> ?_) (fun h10 hr3=> ?_)
    ·refine zz ?_
     obtain rfl:=sj hr3
     obtain rfl:=sj hr
     exact dZ Tryz.results5 []
    refine zz ?_
    exact⟨aOj.wrap (x57+1),hr3,(zG [0])⟩
   rcases aOh (!(x63.1.toList == x68.1.toList))with h11|h11
   ·replace hr3:=dI hr3 h11
    refine xr ?_
    refine zz ?_
    refine xw (gC rfl rfl (z6 ..)) ?_
    refine zz ?_
    exact hG4 _ _ _ _ (zG [0]) (J4 true hr3)
   replace hr3:=dE hr3 h11
   refine xr ?_
   refine zz ?_
   refine xw (gC rfl rfl (z6 ..)) ?_
   refine zz ?_
   exact hG4 _ _ _ _ (zG [0]) (J4 (x63.2 != x68.2) hr3)
  refine zz ?_
  obtain rfl:=sj hr3
  refine zz ?_
  exact hG2 _ _ _ _ (zG []) (J2 hr)
 obtain⟨res5,hL5,hr⟩:=aF hr
 refine zz ?_
 refine aO2<|aPv (fun m s h=> ∃(x25:Int)(bD:List aC),bL N raw x22 m x25 bD=some res5∧Ghost 0 s h (aE 80 [(1,(.row none 4 (raw.map cX))),(5,(.sl 0 0 x22.1.length 4 true)),(6,(.sl 1 0 bD.length 4 true)),(23,(.row none 4 (raw.map cX))),(24,(eI .i64 (raw.length:Int))),(25,(eI .i64 x25))]) [some ⟨39,x22.1.flatMap aJ⟩,some ⟨39,bD.flatMap aJ⟩]) (n:=N) ⟨0,[],hL5,(zW 39 [1,2])⟩ (by rintro s h ⟨_,_,h0,_⟩;simp[bL]at h0) ?_
 rintro m5 s h ⟨x25,bD,hr5,hg⟩
 refine aPw hg ?_
 clear hg hL5
 rw[bL]at hr5
 refine zz ?_
 refine aOT ?_
 refine zk hr5 rfl (fun h12 hr5=> ?_) (fun h12 hr5=> ?_)
 ·refine zz ?_
  refine aOT<|aO2 ?_
  obtain⟨x28,h_13,hr5⟩:=aF hr5
  refine zz ?_
  refine aOT ?_
  obtain⟨x32,h_14,hr5⟩:=aF hr5
  obtain⟨x35,h_16,hr5⟩:=aF hr5
  obtain⟨x38,h_18,hr5⟩:=aF hr5
  refine AB.rs mixed [12] [] [[0,1,2,3,4,5,6,7,8,9,10,11,12,13,14,15]] ?_
  refine zz ?_
  refine xu (nD h_14) ?_
  refine zz ?_
  refine xu (nD h_16) ?_
  refine zz ?_
  refine xu (nD h_18) ?_
  refine zz ?_
  refine aOV fun K6 hK6 hG6=> ?_
  have J6: ∀(c2:Int),dC N raw x22 x25 bD x32 x35 x38 (bL N raw x22 m5) c2=some res5→K6 (aE 80 [(1,(.row none 4 (raw.map cX))),(5,(.sl 0 0 x22.1.length 4 true)),(6,(.sl 1 0 bD.length 4 true)),(8,(.ptr 2 0)),(23,(.row none 4 (raw.map cX))),(24,(eI .i64 (raw.length:Int))),(25,(eI .i64 x25))]) [some ⟨39,x22.1.flatMap aJ⟩,some ⟨39,bD.flatMap aJ⟩,some ⟨39,[(eI .i64 x32),(eI .i64 x35),(eI .i64 c2),(eI .i64 (aOj.wrap (x38-1)))]⟩]:=by
   intro c2 hr5
   unfold dC at hr5
   refine hK6 _ _ ?_
   obtain⟨x50,h_20,hr5⟩:=aF hr5
   refine zz ?_
   refine xw (v:=(.sl 3 0 1 4 true)) (h':=[some ⟨39,x22.1.flatMap aJ⟩,some ⟨39,bD.flatMap aJ⟩,some ⟨39,[(eI .i64 x32),(eI .i64 x35),(eI .i64 c2),(eI .i64 (aOj.wrap (x38-1)))]⟩,some ⟨39,[(aC.mk x32 x35 c2 (aOj.wrap (x38-1)))].flatMap aJ⟩]) (b8 rfl (aCu (C:=aJ) (xs:=[(aC.mk x32 x35 c2 (aOj.wrap (x38-1)))]) (K:=4) (fun _=>rfl) (fun _=>rfl) aDh o5 ⟨zl,zl,zl⟩ rfl rfl rfl rfl rfl rfl)) ?_
   refine zz ?_
   exact⟨aOj.wrap (x25+1),x50,hr5,(zG [0,4])⟩
  refine zz ?_
  refine zk hr5 rfl (fun h21 hr5=> ?_) (fun h21 hr5=> ?_)
  ·refine zz ?_
   exact hG6 _ _ _ _ (zG [0,1,2]) (J6 0 hr5)
  refine zz ?_
  exact hG6 _ _ _ _ (zG [0,1,2]) (J6 x28.B hr5)
 refine zz ?_
 obtain rfl:=sj hr5
 refine zz ?_
 exact hG1 _ _ _ _ (zG [0,1]) (J1 bD hr)
theorem tH {N:Nat}{l:List Int}{raw:ByteArray}{r:Bool}(hr:fO N l raw=some r):
  Vm.Fn Tryz.prog 3 [] [(.row none 1 (l.map (eI .i64))),(eS raw)] (eB r) []:=by
 refine zf Tryz.func3 Tryz.ntmps3 ?_
 unfold fO at hr
 refine zz ?_
 refine aOT ?_
 obtain⟨x13,h_1,hr⟩:=aF hr
 refine zz ?_
 refine xp (nV h_1) ?_
 refine zz ?_
 refine zk hr rfl (fun h2 hr=> ?_) (fun h2 hr=> ?_)
 ·refine zz ?_
  obtain rfl:=sj hr
  exact dZ Tryz.results3 []
 refine zz ?_
 refine aOT ?_
 refine zz ?_
 refine zk hr rfl (fun h3 hr=> ?_) (fun h3 hr=> ?_)
 ·refine zz ?_
  obtain rfl:=sj hr
  exact dZ Tryz.results3 []
 refine zz ?_
 refine aOV fun K1 hK1 hG1=> ?_
 have J1:jT N=some r→K1 (aE 59 []) []:=by
  intro hr
  unfold jT at hr
  refine hK1 _ _ ?_
  refine zz ?_
  obtain rfl:=sj hr
  exact dZ Tryz.results3 []
 obtain⟨x19,h_4,hr⟩:=aF hr
 obtain⟨x22,h_5,hr⟩:=aF hr
 obtain⟨x25,h_6,hr⟩:=aF hr
 refine zz ?_
 refine xp (tE h_4) ?_
 refine zz ?_
 refine xw (v:=(eS x22)) (gC rfl rfl (pJ _ _ _ h_5)) ?_
 refine zz ?_
 refine xp (tE h_4)<|xw (v:=(eS x25)) (gC rfl rfl (pJ _ _ _ h_6))<|xw (v:=(.sl 0 0 3 1 false)) (h':=[some ⟨9,[x19,raw,x25].map eS⟩]) (b8 rfl (jV (xs:=[x19,raw,x25].map eS) yH eT zl zl rfl rfl rfl rfl rfl rfl rfl)) ?_
 obtain⟨bI,hL2,hr⟩:=aF hr
 refine zz ?_
 refine aO2<|aPv (fun m s h=> ∃(x28:Int),aX N raw x19 x25 m x28=some bI∧Ghost 0 s h (aE 59 [(26,(.sl 0 0 ([x19,raw,x25].length) 1 false)),(27,(eI .i64 (3:Int))),(28,(eI .i64 x28))]) [some ⟨9,[x19,raw,x25].map eS⟩]) (n:=N) ⟨0,hL2,(oD [0])⟩ (by rintro s h ⟨_,h0,_⟩;simp[aX]at h0) ?_
 rintro m2 s h ⟨x28,hr2,hg⟩
 refine aPw hg ?_
 clear hg hL2
 rw[aX]at hr2
 refine zz ?_
 refine aOT ?_
 refine zk hr2 rfl (fun h7 hr2=> ?_) (fun h7 hr2=> ?_)
 ·refine zz ?_
  refine aOT<|aO2 ?_
  obtain⟨x30,h_8,hr2⟩:=aF hr2
  refine zz ?_
  refine xHp (h':=[some ⟨9,[x19,raw,x25].map eS⟩]) rfl ?_
  obtain⟨x34,h_9,hr2⟩:=aF hr2
  refine zz ?_
  refine zc (fS h_9) [] ?_
  obtain⟨x40,h_10,hr2⟩:=aF hr2
  refine zz ?_
  refine zc (aBm h_10) [] ?_
  refine zz ?_
  refine aOV fun K3 hK3 hG3=> ?_
  have J3: ∀(x57:Bool),dN N raw x19 x25 x28 (aX N raw x19 x25 m2) x57=some bI→K3 (aE 59 [(26,(.sl 0 0 ([x19,raw,x25].length) 1 false)),(27,(eI .i64 (3:Int))),(28,(eI .i64 x28)),(57,(eB x57))]) [some ⟨9,[x19,raw,x25].map eS⟩]:=by
   intro x57 hr2
   unfold dN at hr2
   refine hK3 _ _ ?_
   refine zk hr2 rfl (fun h11 hr2=> ?_) (fun h11 hr2=> ?_)
   ·refine zz ?_
    obtain rfl:=sj hr2
    obtain rfl:=sj hr
    exact dZ Tryz.results3 []
   refine zz ?_
   exact⟨aOj.wrap (x28+1),hr2,(zG [0])⟩
  rcases aOh (x34.2.1 != x40.2.1)with h12|h12
  ·replace hr2:=dI hr2 h12
   refine xr ?_
   refine zz ?_
   refine xX rfl<|xX rfl<|xX rfl<|xX rfl ?_
   refine zz ?_
   exact hG3 _ _ _ _ (zG [0]) (J3 true hr2)
  replace hr2:=dE hr2 h12
  rcases aOh (x34.2.2 != x40.2.2)with h13|h13
  ·replace hr2:=dI hr2 h13
   refine xr ?_
   refine zz ?_
   exact hG3 _ _ _ _ (zG [0]) (J3 true hr2)
  replace hr2:=dE hr2 h13
  obtain⟨x55,h_14,hr2⟩:=aF hr2
  refine xr ?_
  refine zz ?_
  refine xCg (v:=(eB x55)) (h':=[some ⟨9,[x19,raw,x25].map eS⟩,some ⟨39,x34.1.flatMap aJ⟩,some ⟨39,x40.1.flatMap aJ⟩]) rfl rfl h13 rfl (Vm.Fn.lendR (mX h_14) [] [1,2] (by decide) rfl (by decide) Lend.nil (Brw.row (n8 (C:=aJ) (fun _=>rfl) zl rfl rfl (fun _=>rfl)) (Brw.row (n8 (C:=aJ) (fun _=>rfl) zl rfl rfl (fun _=>rfl)) Brw.nil)) rfl rfB.nil rfl zH) ?_
  refine zz ?_
  exact hG3 _ _ _ _ (zG [0]) (J3 (!x55) hr2)
 refine zz ?_
 obtain rfl:=sj hr2
 refine zz ?_
 exact hG1 _ _ _ _ (zG []) (J1 hr)
def hJ (c:UInt8):Bool:=decide (48≤c.toNat∧c.toNat≤57)
def iU (l:List UInt8):Nat:=l.foldl (fun n c=>10*n+(c.toNat-48)) 0
theorem s8 (l:List UInt8)(c:UInt8):iU (l++[c])=10*iU l+(c.toNat-48):=by simp[iU]
theorem rK : ∀(n:Nat)(l:List UInt8),l.length=n→l.all hJ=true→iU l<10^n
 |0,l,h,_=>by rw[List.length_eq_zero_iff.1 h];decide
 |n+1,l,h,ha=>by
  rcases List.eq_nil_or_concat l with rfl|⟨l',c,rfl⟩
  ·simp at h
  rw[List.concat_eq_append]at h ha⊢
  rw[aOL,aON]at ha
  have ih:=rK n l' (by simpa using h) ha.1
  have hc:hJ c=true:=by simpa using ha.2
  simp only[hJ,decide_eq_true_eq]at hc
  rw[s8,aOZ];omega
def iF (l:List UInt8):Bool:=l.head? == some 45
def dU (l:List UInt8):List UInt8:=if iF l=true then l.drop 1 else l
def lQ (l:List UInt8):Bool:=decide ((dU l).length<1) || decide (9<(dU l).length) || ((dU l).head? == some 48&&(iF l || decide (1<(dU l).length)))
def mY (l:List UInt8):Int×Bool:=if lQ l=true then(0,false)else if(dU l).all hJ=true then(if iF l=true then(-(iU (dU l):Int),true)else((iU (dU l):Int),true))else(0,false)
theorem aIu {N:Nat}{l:List UInt8}(hl:l.length≤1000000):iB N (aH l) ⟨#[45]⟩=some (aH (dU l),iF l):=by
 unfold iB dP dR
 rw[aZ,show((⟨#[45]⟩:ByteArray).size:Int)=((1:Nat):Int)from rfl]
 cases l with
 |nil=>
  rw[if_neg (by decide)]
  rfl
 |cons c l=>
  rw[if_pos (decide_eq_true (by rw[aOl];omega)),show(0:Int)=((0:Nat):Int)from rfl,jR (c::l) (by omega) (by simp),aOg]
  unfold cE
  rw[aOg,rV,rV,cB]
  have e:((List.take 1 (c::l)).drop 0 == (⟨#[45]⟩:ByteArray).data.toList)=iF (c::l):=by
   simp[iF]
  rw[e]
  cases h:iF (c::l) with
  |true=>
   rw[if_neg (by decide),jR (c::l) (by simp) (aOS _),aOC]
   simp[dU,h]
  |false=>simp[dU,h]
theorem aHp {N:Nat}{d:List UInt8}{ng:Bool}(hd:d.length≤9): ∀(m i:Nat),i≤d.length→d.length-i<m→(d.take i).all hJ=true→c6 N (aH d,ng) m (iU (d.take i):Int) (i:Int)=if(d.drop i).all hJ=true then some (.brk (iU d:Int))else some (.ret (0,false))
 |0,i,_,h,_=>by omega
 |m+1,i,hi,h,ha=>by
  rw[c6]
  simp only[aZ]
  by_cases hlt:i<d.length
  ·rw[if_pos (by simpa using hlt),g6 d hlt,aOg]
   have hdr:d.drop i=d[i]::d.drop (i+1):=aOE hlt
   have htk:d.take (i+1)=d.take i++[d[i]]:=by rw[aOQ,aOv hlt];rfl
   have hv:=rK i (d.take i) (by rw[aOD];omega) ha
   have hp:10^i≤10^9:=aOB (by decide) (by omega)
   rw[hdr,aOM]
   by_cases h1:d[i].toNat<48
   ·rw[if_pos (decide_eq_true (by omega)),show hJ d[i]=false by simp[hJ];omega]
    unfold fF
    simp
   rw[if_neg (by rw[decide_eq_true_eq];omega)]
   unfold fF
   by_cases h2:57<d[i].toNat
   ·rw[if_pos (decide_eq_true (by omega)),show hJ d[i]=false by simp[hJ];omega]
    simp
   have hdg:hJ d[i]=true:=by simp[hJ];omega
   rw[if_neg (by rw[decide_eq_true_eq];omega),hdg,aPg]
   have e1:aPn.wrap (((d[i].toNat:Nat):Int)-48)=((d[i].toNat-48:Nat):Int):=by
    rw[xH (by rfl),aPq (by omega) (by simp[aPr];omega)];omega
   have e2:aOj.wrap ((aOj.wrap (10*((iU (d.take i):Nat):Int)))+(aOj.wrap (aPn.wrap (((d[i].toNat:Nat):Int)-48))))=((iU (d.take (i+1)):Nat):Int):=by
    rw[e1,fK (a:=10*((iU (d.take i):Nat):Int)) (by omega) (by omega),fK (a:=((d[i].toNat-48:Nat):Int)) (by omega) (by omega),fK (by omega) (by omega),htk,s8]
    omega
   rw[e2,show aOj.wrap ((i:Int)+1)=((i+1:Nat):Int) by rw[fK (by omega) (by omega)];simp]
   exact aHp hd m (i+1) (by omega) (by omega) (by rw[htk,aOL,ha];simp[hdg])
  have:i=d.length:=by omega
  subst this
  rw[if_neg (by simp),aPt,if_pos (by rfl),aOC]
theorem aBY {N:Nat}(hN:10≤N){l:List UInt8}(hl:l.length≤1000000):b7 N (aH l)=some (mY l):=by
 unfold b7
 rw[aIu hl,aOg]
 simp only[aZ]
 have hbad:lQ l=true→cA N (aH (dU l),iF l) true=some (mY l):=fun h=>by
  unfold cA mY
  rw[if_pos rfl,if_pos h]
 have hgood:lQ l=false→cA N (aH (dU l),iF l) false=some (mY l):=fun h=>by
  have h9:(dU l).length≤9:=by
   simp only[lQ,aPo,decide_eq_false_iff_not]at h;omega
  unfold cA mY
  rw[if_neg (by decide),if_neg (by rw[h];decide)]
  have:=aHp (N:=N) (ng:=iF l) h9 N 0 (by omega) (by omega) (by rfl)
  rw[show((iU ((dU l).take 0):Nat):Int)=0 from rfl,show((0:Nat):Int)=0 from rfl,List.drop_zero]at this
  rw[this]
  by_cases ha:(dU l).all hJ=true
  ·rw[if_pos ha,if_pos ha,aOg]
   simp only
   unfold jW g7
   have hv:=rK _ _ rfl ha
   have hp:10^(dU l).length≤10^9:=aOB (by decide) h9
   by_cases hn:iF l=true
   ·rw[if_pos hn,if_pos hn,fK (by omega) (by omega)]
    simp
   rw[if_neg hn,if_neg hn]
  rw[if_neg ha,if_neg ha];rfl
 by_cases h1:(dU l).length<1
 ·rw[if_pos (decide_eq_true (by omega))]
  exact hbad (by simp[lQ,h1])
 rw[if_neg (by rw[decide_eq_true_eq];omega)]
 by_cases h2:9<(dU l).length
 ·rw[if_pos (decide_eq_true (by omega))]
  exact hbad (by simp[lQ,h2])
 rw[if_neg (by rw[decide_eq_true_eq];omega)]
 cases hd:dU l with
 |nil=>rw[hd]at h1;simp at h1
 |cons c r=>
  rw[←hd,show(0:Int)=((0:Nat):Int)from rfl,g6 (dU l) (by omega),aOg]
  have hc:(dU l)[0]'(by omega)=c:=by simp[hd]
  rw[hc]
  have he:(((c.toNat:Nat):Int) == 48)=(c == 48):=by
   have:=s5 c (n:=48) (by decide)
   rw[show(UInt8.ofNat 48)=48 from rfl]at this
   simpa[bne]using congrArg (!·) this
  rw[he]
  have hh:(dU l).head? =some c:=by simp[hd]
  by_cases h3:c=48
  ·subst h3
   rw[if_pos (by simp)]
   by_cases hn:iF l=true
   ·rw[if_pos hn]
    exact hbad (by simp[lQ,hh,hn])
   rw[if_neg hn]
   by_cases h4:1<(dU l).length
   ·rw[show decide (((1:Int))<((dU l).length:Int))=true from decide_eq_true (by omega)]
    exact hbad (by simp[lQ,hh,h4])
   rw[show decide (((1:Int))<((dU l).length:Int))=false from decide_eq_false (by omega)]
   exact hgood (by simp only[lQ,hh,decide_eq_false h1,decide_eq_false h2,decide_eq_false h4,show iF l=false by simpa using hn];rfl)
  rw[if_neg (by simpa using h3)]
  exact hgood (by simp only[lQ,hh,decide_eq_false h1,decide_eq_false h2];simp[h3])
theorem aEw {l:List UInt8}(h:(mY l).2=true): -999999999≤(mY l).1∧(mY l).1≤999999999:=by
 unfold mY at h⊢
 by_cases hb:lQ l=true
 ·rw[if_pos hb]at h;cases h
 rw[if_neg hb]at h⊢
 by_cases ha:(dU l).all hJ=true
 ·have h9:(dU l).length≤9:=by
   simp only[lQ,Bool.not_eq_true,aPo,decide_eq_false_iff_not]at hb;omega
  have hv:=rK _ _ rfl ha
  have hp:10^(dU l).length≤10^9:=aOB (by decide) h9
  rw[if_pos ha]
  split<;>constructor<;>simp only<;>omega
 rw[if_neg ha]at h;cases h
theorem zne : ∀k,k<10→1≤k→UInt8.ofNat (48+k)≠48:=by decide
theorem y6 (u:Nat):(Lib.decDigits u).all hJ=true∧iU (Lib.decDigits u)=u∧(10≤u→(Lib.decDigits u).head? ≠some 48)∧(u<10→Lib.decDigits u=[UInt8.ofNat (48+u)])∧Lib.decDigits u≠ []:=by
 induction u using Nat.strongRecOn with
 |_ u ih=>
  have hd: ∀k,k<10→hJ (UInt8.ofNat (48+k))=true∧(UInt8.ofNat (48+k)).toNat=48+k:=by decide
  by_cases h:u<10
  ·rw[Lib.decDigits_one h]
   obtain⟨h1,h2⟩:=hd u h
   refine⟨by rw[aOM,h1];rfl,by show 10*0+((UInt8.ofNat (48+u)).toNat-48)=u;rw[h2];omega,fun h'=>by omega,fun _=>rfl,by simp⟩
  obtain⟨a1,a2,a3,a4,a5⟩:=ih (u/10) (by omega)
  obtain⟨h1,h2⟩:=hd (u%10) (by omega)
  have e:Lib.decDigits u=Lib.decDigits (u/10)++[UInt8.ofNat (48+u%10)]:=by rw[Lib.decDigits,dif_neg h]
  rw[e]
  refine⟨by rw[aOL,a1,aOM,h1];rfl,by rw[s8,a2,h2];omega,fun _=> ?_,fun h'=>by omega,by simp⟩
  obtain⟨c,r,hc⟩:=List.exists_cons_of_ne_nil a5
  have h3:(Lib.decDigits (u/10)).head? =some c:=by rw[hc];rfl
  have h4:((Lib.decDigits (u/10))++[UInt8.ofNat (48+u%10)]).head? =some c:=by rw[hc];rfl
  rw[h4,←h3]
  by_cases h10:u/10<10
  ·rw[a4 h10]
   intro he
   exact zne (u/10) h10 (by omega) (aOp he)
  exact a3 (by omega)
theorem aGs (n:Int)(h0: -999999999≤n)(h1:n≤999999999)(hlen: ∀u,u<10^9→(Lib.decDigits u).length≤9):mY (Lib.itoa n)=(n,true):=by
 unfold Lib.itoa
 by_cases hn:n<0
 ·rw[if_pos hn]
  obtain⟨a1,a2,a3,a4,a5⟩:=y6 n.natAbs
  have hl:=hlen n.natAbs (by omega)
  have hpos:=aOu.2 a5
  have hneg:iF (45::Lib.decDigits n.natAbs)=true:=rfl
  have hdg:dU (45::Lib.decDigits n.natAbs)=Lib.decDigits n.natAbs:=by simp[dU,hneg]
  have hh:(Lib.decDigits n.natAbs).head? ≠some 48:=by
   by_cases h10:10≤n.natAbs
   ·exact a3 h10
   rw[a4 (by omega)]
   intro he
   exact zne n.natAbs (by omega) (by omega) (aOp he)
  have hb:lQ (45::Lib.decDigits n.natAbs)=false:=by
   unfold lQ
   rw[hdg,show((Lib.decDigits n.natAbs).head? == some 48)=false by simpa using hh,decide_eq_false (by omega),decide_eq_false (by omega)]
   rfl
  unfold mY
  rw[if_neg (by rw[hb];decide),hdg,if_pos a1,if_pos hneg,a2]
  congr 1;omega
 rw[if_neg hn]
 obtain⟨a1,a2,a3,a4,a5⟩:=y6 n.toNat
 have hl:=hlen n.toNat (by omega)
 have hpos:=aOu.2 a5
 have hneg:iF (Lib.decDigits n.toNat)=false:=by
  unfold iF
  cases hd:Lib.decDigits n.toNat with
  |nil=>exact absurd hd a5
  |cons c r=>
   rw[hd]at a1
   have hc:hJ c=true:=by simp only[aOM,aON]at a1;exact a1.1
   have:c≠45:=fun e=>by subst e;exact absurd hc (by decide)
   simpa using this
 have hdg:dU (Lib.decDigits n.toNat)=Lib.decDigits n.toNat:=by simp[dU,hneg]
 have hb:lQ (Lib.decDigits n.toNat)=false:=by
  unfold lQ
  rw[hdg,hneg]
  by_cases h10:10≤n.toNat
  ·rw[show((Lib.decDigits n.toNat).head? == some 48)=false by simpa using a3 h10,decide_eq_false (by omega),decide_eq_false (by omega)]
   rfl
  rw[a4 (by omega)];simp
 unfold mY
 rw[if_neg (by rw[hb];decide),hdg,if_pos a1,if_neg (by rw[hneg];decide),a2]
 congr 1;omega
theorem oL (a b:List UInt8):aH a++aH b=aH (a++b):=by
 have h:(aH a++aH b).data=a.toArray++b.toArray:=by rw[ByteArray.data_append];rfl
 have:aH a++aH b=⟨(aH a++aH b).data⟩:=rfl
 rw[this,h]
 simp[aH]
def sp (n:Int):List UInt8:=32::Lib.itoa n
def bV :Nat→List UInt8
 |1=>[115,116,101,112,115]
 |2=>[98,114,97,110,99,104]
 |3=>[119,97,116,99,104]
 |4=>[102,97,117,108,116]
 |5=>[100,101,108,97,121]
 |6=>[115,101,110,100]
 |7=>[98,121,116,101,115]
 |_=>[]
def rg (n:Int):Prop:= -999999999≤n∧n≤999999999
def aR :Nat→aC→List Int
 |1,x=>[x.N]
 |2,x=>[x.A,x.B,x.N]
 |3,x=>[x.A,x.N]
 |4,x=>[x.A,x.B,x.N]
 |5,x=>[x.A,x.N]
 |6,x=>[x.A,x.B]
 |7,x=>[x.A,x.N]
 |_,_=>[]
def jE :Nat→aC→Prop
 |1,x=>x.A=0∧x.B=0
 |3,x=>x.B=0
 |5,x=>x.B=0
 |6,x=>x.N=0
 |7,x=>x.B=0
 |_,_=>True
def lE (x:aC):Prop:= ∃k:Nat,1≤k∧k≤7∧x.Kind=(k:Int)∧jE k x∧ ∀n∈aR k x,rg n
def kd (x:aC):Nat:=x.Kind.toNat
def mG (x:aC):List UInt8:=bV (kd x)++(aR (kd x) x).flatMap sp
theorem iJ (n:Int):bR n=aH (Lib.itoa n):=rfl
theorem aDa {N:Nat}{x:aC}(h:lE x):kB N x.Kind x.A x.B x.N=some (aH (mG x++[10]),true):=by
 obtain⟨k,h1,h7,hk,hz,hr⟩:=h
 obtain⟨K,A,B,M⟩:=x
 simp only at hk
 subst hk
 have hkd:kd ⟨(k:Int),A,B,M⟩=k:=by simp[kd]
 unfold kB Tryz.formatR mG
 rw[hkd]
 have e32:(⟨#[32]⟩:ByteArray)=aH [32]:=rfl
 have e10:(⟨#[10]⟩:ByteArray)=aH [10]:=rfl
 match k,h1,h7,hz,hr with
 |1,_,_,hz,hr=>
  simp only[jE]at hz
  obtain⟨rfl,rfl⟩:=hz
  have rN:rg M:=hr M (by simp[aR])
  have qN: ¬(M < -999999999∨999999999<M):=by have:=rN.1;have:=rN.2;omega
  rw[show Tryz.forms.find? (fun x=>x.2.1 == ((1:Nat):Int))=some (aH (bV 1),1,aH [78])from rfl]
  simp only[cB]
  have e:Tryz.runG bR [78] ⟨((1:Nat):Int),0,0,M⟩ (aH (bV 1))=some (aH (bV 1)++(⟨#[32]⟩++bR M),⟨((1:Nat):Int),0,0,0⟩):=by
   rw[Tryz.runG,if_neg (by exact qN)]
   rfl
  rw[e]
  simp only[ne_eq,not_true_eq_false,or_self,if_false,aR,aOq,aOF,aOy,iJ,e32,e10,oL,sp,aOw]
  rfl
 |2,_,_,hz,hr=>
  have rA:rg A:=hr A (by simp[aR])
  have rB:rg B:=hr B (by simp[aR])
  have rN:rg M:=hr M (by simp[aR])
  have qA: ¬(A < -999999999∨999999999<A):=by have:=rA.1;have:=rA.2;omega
  have qB: ¬(B < -999999999∨999999999<B):=by have:=rB.1;have:=rB.2;omega
  have qN: ¬(M < -999999999∨999999999<M):=by have:=rN.1;have:=rN.2;omega
  rw[show Tryz.forms.find? (fun x=>x.2.1 == ((2:Nat):Int))=some (aH (bV 2),2,aH [65,66,78])from rfl]
  simp only[cB]
  have e:Tryz.runG bR [65,66,78] ⟨((2:Nat):Int),A,B,M⟩ (aH (bV 2))=some (aH (bV 2)++(⟨#[32]⟩++bR A)++(⟨#[32]⟩++bR B)++(⟨#[32]⟩++bR M),⟨((2:Nat):Int),0,0,0⟩):=by
   rw[Tryz.runG,if_neg (by exact qA)]
   rw[Tryz.runG,if_neg (by exact qB)]
   rw[Tryz.runG,if_neg (by exact qN)]
   rfl
  rw[e]
  simp only[ne_eq,not_true_eq_false,or_self,if_false,aR,aOq,aOF,aOy,iJ,e32,e10,oL,sp,aOw]
  rfl
 |3,_,_,hz,hr=>
  simp only[jE]at hz
  subst hz
  have rA:rg A:=hr A (by simp[aR])
  have rN:rg M:=hr M (by simp[aR])
  have qA: ¬(A < -999999999∨999999999<A):=by have:=rA.1;have:=rA.2;omega
  have qN: ¬(M < -999999999∨999999999<M):=by have:=rN.1;have:=rN.2;omega
  rw[show Tryz.forms.find? (fun x=>x.2.1 == ((3:Nat):Int))=some (aH (bV 3),3,aH [65,78])from rfl]
  simp only[cB]
  have e:Tryz.runG bR [65,78] ⟨((3:Nat):Int),A,0,M⟩ (aH (bV 3))=some (aH (bV 3)++(⟨#[32]⟩++bR A)++(⟨#[32]⟩++bR M),⟨((3:Nat):Int),0,0,0⟩):=by
   rw[Tryz.runG,if_neg (by exact qA)]
   rw[Tryz.runG,if_neg (by exact qN)]
   rfl
  rw[e]
  simp only[ne_eq,not_true_eq_false,or_self,if_false,aR,aOq,aOF,aOy,iJ,e32,e10,oL,sp,aOw]
  rfl
 |4,_,_,hz,hr=>
  have rA:rg A:=hr A (by simp[aR])
  have rB:rg B:=hr B (by simp[aR])
  have rN:rg M:=hr M (by simp[aR])
  have qA: ¬(A < -999999999∨999999999<A):=by have:=rA.1;have:=rA.2;omega
  have qB: ¬(B < -999999999∨999999999<B):=by have:=rB.1;have:=rB.2;omega
  have qN: ¬(M < -999999999∨999999999<M):=by have:=rN.1;have:=rN.2;omega
  rw[show Tryz.forms.find? (fun x=>x.2.1 == ((4:Nat):Int))=some (aH (bV 4),4,aH [65,66,78])from rfl]
  simp only[cB]
  have e:Tryz.runG bR [65,66,78] ⟨((4:Nat):Int),A,B,M⟩ (aH (bV 4))=some (aH (bV 4)++(⟨#[32]⟩++bR A)++(⟨#[32]⟩++bR B)++(⟨#[32]⟩++bR M),⟨((4:Nat):Int),0,0,0⟩):=by
   rw[Tryz.runG,if_neg (by exact qA)]
   rw[Tryz.runG,if_neg (by exact qB)]
   rw[Tryz.runG,if_neg (by exact qN)]
   rfl
  rw[e]
  simp only[ne_eq,not_true_eq_false,or_self,if_false,aR,aOq,aOF,aOy,iJ,e32,e10,oL,sp,aOw]
  rfl
 |5,_,_,hz,hr=>
  simp only[jE]at hz
  subst hz
  have rA:rg A:=hr A (by simp[aR])
  have rN:rg M:=hr M (by simp[aR])
  have qA: ¬(A < -999999999∨999999999<A):=by have:=rA.1;have:=rA.2;omega
  have qN: ¬(M < -999999999∨999999999<M):=by have:=rN.1;have:=rN.2;omega
  rw[show Tryz.forms.find? (fun x=>x.2.1 == ((5:Nat):Int))=some (aH (bV 5),5,aH [65,78])from rfl]
  simp only[cB]
  have e:Tryz.runG bR [65,78] ⟨((5:Nat):Int),A,0,M⟩ (aH (bV 5))=some (aH (bV 5)++(⟨#[32]⟩++bR A)++(⟨#[32]⟩++bR M),⟨((5:Nat):Int),0,0,0⟩):=by
   rw[Tryz.runG,if_neg (by exact qA)]
   rw[Tryz.runG,if_neg (by exact qN)]
   rfl
  rw[e]
  simp only[ne_eq,not_true_eq_false,or_self,if_false,aR,aOq,aOF,aOy,iJ,e32,e10,oL,sp,aOw]
  rfl
 |6,_,_,hz,hr=>
  simp only[jE]at hz
  subst hz
  have rA:rg A:=hr A (by simp[aR])
  have rB:rg B:=hr B (by simp[aR])
  have qA: ¬(A < -999999999∨999999999<A):=by have:=rA.1;have:=rA.2;omega
  have qB: ¬(B < -999999999∨999999999<B):=by have:=rB.1;have:=rB.2;omega
  rw[show Tryz.forms.find? (fun x=>x.2.1 == ((6:Nat):Int))=some (aH (bV 6),6,aH [65,66])from rfl]
  simp only[cB]
  have e:Tryz.runG bR [65,66] ⟨((6:Nat):Int),A,B,0⟩ (aH (bV 6))=some (aH (bV 6)++(⟨#[32]⟩++bR A)++(⟨#[32]⟩++bR B),⟨((6:Nat):Int),0,0,0⟩):=by
   rw[Tryz.runG,if_neg (by exact qA)]
   rw[Tryz.runG,if_neg (by exact qB)]
   rfl
  rw[e]
  simp only[ne_eq,not_true_eq_false,or_self,if_false,aR,aOq,aOF,aOy,iJ,e32,e10,oL,sp,aOw]
  rfl
 |7,_,_,hz,hr=>
  simp only[jE]at hz
  subst hz
  have rA:rg A:=hr A (by simp[aR])
  have rN:rg M:=hr M (by simp[aR])
  have qA: ¬(A < -999999999∨999999999<A):=by have:=rA.1;have:=rA.2;omega
  have qN: ¬(M < -999999999∨999999999<M):=by have:=rN.1;have:=rN.2;omega
  rw[show Tryz.forms.find? (fun x=>x.2.1 == ((7:Nat):Int))=some (aH (bV 7),7,aH [65,78])from rfl]
  simp only[cB]
  have e:Tryz.runG bR [65,78] ⟨((7:Nat):Int),A,0,M⟩ (aH (bV 7))=some (aH (bV 7)++(⟨#[32]⟩++bR A)++(⟨#[32]⟩++bR M),⟨((7:Nat):Int),0,0,0⟩):=by
   rw[Tryz.runG,if_neg (by exact qA)]
   rw[Tryz.runG,if_neg (by exact qN)]
   rfl
  rw[e]
  simp only[ne_eq,not_true_eq_false,or_self,if_false,aR,aOq,aOF,aOy,iJ,e32,e10,oL,sp,aOw]
  rfl
def bM (s:ByteArray):Int×Bool:=(b7 NN s).getD (0,false)
theorem yT : ∀u,u<10^9→(Lib.decDigits u).length≤9:=fun u hu=>by
 rw[Lib.decDigits_length]
 have: ∀(k u:Nat),1≤k→u<10^k→Lib.nDigits u≤k:=by
  intro k
  induction k with
  |zero=>intro u h;omega
  |succ k ih=>
   intro u _ h
   by_cases hu:u<10
   ·rw[Lib.nDigits_small hu];omega
   rw[Lib.nDigits_big hu]
   have hk:1≤k:=by
    cases k with
    |zero=>simp at h;omega
    |succ k=>omega
   have:=ih (u/10) hk (by rw[aOZ]at h;omega)
   omega
 exact this 9 u (by decide) hu
theorem uU {n:Int}(h:rg n):(Lib.itoa n).length≤10:=by
 unfold Lib.itoa
 obtain⟨h0,h1⟩:=h
 split
 ·have:=yT n.natAbs (by omega)
  rw[aOl];omega
 have:=yT n.toNat (by omega)
 omega
theorem z7 {l:List UInt8}(h:l.length≤1000000):bM (aH l)=mY l:=by
 unfold bM
 rw[aBY (by decide) h];rfl
theorem dX {n:Int}(h:rg n):bM (aH (Lib.itoa n))=(n,true):=by
 rw[z7 (by have:=uU h;omega),aGs n h.1 h.2 yT]
theorem aI1 {w0:ByteArray}{ws:List ByteArray}(hl:ws.length≤100000)(hs: ∀s∈ws,s.size≤1000000):iK NN (w0::ws)=some ((Tryz.actR bM w0 ws).1.kind,(Tryz.actR bM w0 ws).1.a,(Tryz.actR bM w0 ws).1.b,(Tryz.actR bM w0 ws).1.n,(Tryz.actR bM w0 ws).2):=by
 unfold iK
 simp only
 rw[if_pos ⟨hl,aOs.2 fun s h=>by rw[rM s,aBY (by decide) (by rw[oE];exact hs s h)];rfl⟩]
 rfl
theorem aFu (k:Nat)(p:ByteArray×Int×ByteArray→Bool):Tryz.forms.find? (fun x=>x.1.toList == (aH (bV k)).toList)=Tryz.forms.find? (fun x=>x.1.data.toList == bV k):=by
 simp only[rV,cB]
theorem aFZ {x:aC}(h:lE x):Tryz.actR bM (aH (bV (kd x))) ((aR (kd x) x).map fun n=>aH (Lib.itoa n))=(⟨x.Kind,x.A,x.B,x.N⟩,true):=by
 obtain⟨k,h1,h7,hk,hz,hr⟩:=h
 obtain⟨K,A,B,M⟩:=x
 simp only at hk
 subst hk
 have hkd:kd ⟨(k:Int),A,B,M⟩=k:=by simp[kd]
 unfold Tryz.actR
 rw[hkd,aFu k fun _=>true]
 match k,h1,h7,hz,hr with
 |1,_,_,hz,hr=>
  simp only[jE]at hz
  obtain⟨rfl,rfl⟩:=hz
  have rN:=dX (hr M (by simp[aR]))
  rw[show Tryz.forms.find? (fun x=>x.1.data.toList == bV 1)=some (aH (bV 1),1,aH [78])from rfl]
  simp only[cB,aR,aOG,aOU]
  rw[if_neg (by simp[aZ])]
  have e:Tryz.runF bM [78] [aH (Lib.itoa M)] ⟨1,0,0,0⟩=some ⟨1,0,0,M⟩:=by
   simp only[Tryz.runF,rN,if_true]
   rfl
  rw[e]
  rfl
 |2,_,_,hz,hr=>
  have rA:=dX (hr A (by simp[aR]))
  have rB:=dX (hr B (by simp[aR]))
  have rN:=dX (hr M (by simp[aR]))
  rw[show Tryz.forms.find? (fun x=>x.1.data.toList == bV 2)=some (aH (bV 2),2,aH [65,66,78])from rfl]
  simp only[cB,aR,aOG,aOU]
  rw[if_neg (by simp[aZ])]
  have e:Tryz.runF bM [65,66,78] [aH (Lib.itoa A),aH (Lib.itoa B),aH (Lib.itoa M)] ⟨2,0,0,0⟩=some ⟨2,A,B,M⟩:=by
   simp only[Tryz.runF,rA,rB,rN,if_true]
   rfl
  rw[e]
  rfl
 |3,_,_,hz,hr=>
  simp only[jE]at hz
  subst hz
  have rA:=dX (hr A (by simp[aR]))
  have rN:=dX (hr M (by simp[aR]))
  rw[show Tryz.forms.find? (fun x=>x.1.data.toList == bV 3)=some (aH (bV 3),3,aH [65,78])from rfl]
  simp only[cB,aR,aOG,aOU]
  rw[if_neg (by simp[aZ])]
  have e:Tryz.runF bM [65,78] [aH (Lib.itoa A),aH (Lib.itoa M)] ⟨3,0,0,0⟩=some ⟨3,A,0,M⟩:=by
   simp only[Tryz.runF,rA,rN,if_true]
   rfl
  rw[e]
  rfl
 |4,_,_,hz,hr=>
  have rA:=dX (hr A (by simp[aR]))
  have rB:=dX (hr B (by simp[aR]))
  have rN:=dX (hr M (by simp[aR]))
  rw[show Tryz.forms.find? (fun x=>x.1.data.toList == bV 4)=some (aH (bV 4),4,aH [65,66,78])from rfl]
  simp only[cB,aR,aOG,aOU]
  rw[if_neg (by simp[aZ])]
  have e:Tryz.runF bM [65,66,78] [aH (Lib.itoa A),aH (Lib.itoa B),aH (Lib.itoa M)] ⟨4,0,0,0⟩=some ⟨4,A,B,M⟩:=by
   simp only[Tryz.runF,rA,rB,rN,if_true]
   rfl
  rw[e]
  rfl
 |5,_,_,hz,hr=>
  simp only[jE]at hz
  subst hz
  have rA:=dX (hr A (by simp[aR]))
  have rN:=dX (hr M (by simp[aR]))
  rw[show Tryz.forms.find? (fun x=>x.1.data.toList == bV 5)=some (aH (bV 5),5,aH [65,78])from rfl]
  simp only[cB,aR,aOG,aOU]
  rw[if_neg (by simp[aZ])]
  have e:Tryz.runF bM [65,78] [aH (Lib.itoa A),aH (Lib.itoa M)] ⟨5,0,0,0⟩=some ⟨5,A,0,M⟩:=by
   simp only[Tryz.runF,rA,rN,if_true]
   rfl
  rw[e]
  rfl
 |6,_,_,hz,hr=>
  simp only[jE]at hz
  subst hz
  have rA:=dX (hr A (by simp[aR]))
  have rB:=dX (hr B (by simp[aR]))
  rw[show Tryz.forms.find? (fun x=>x.1.data.toList == bV 6)=some (aH (bV 6),6,aH [65,66])from rfl]
  simp only[cB,aR,aOG,aOU]
  rw[if_neg (by simp[aZ])]
  have e:Tryz.runF bM [65,66] [aH (Lib.itoa A),aH (Lib.itoa B)] ⟨6,0,0,0⟩=some ⟨6,A,B,0⟩:=by
   simp only[Tryz.runF,rA,rB,if_true]
   rfl
  rw[e]
  rfl
 |7,_,_,hz,hr=>
  simp only[jE]at hz
  subst hz
  have rA:=dX (hr A (by simp[aR]))
  have rN:=dX (hr M (by simp[aR]))
  rw[show Tryz.forms.find? (fun x=>x.1.data.toList == bV 7)=some (aH (bV 7),7,aH [65,78])from rfl]
  simp only[cB,aR,aOG,aOU]
  rw[if_neg (by simp[aZ])]
  have e:Tryz.runF bM [65,78] [aH (Lib.itoa A),aH (Lib.itoa M)] ⟨7,0,0,0⟩=some ⟨7,A,0,M⟩:=by
   simp only[Tryz.runF,rA,rN,if_true]
   rfl
  rw[e]
  rfl
theorem aAs : ∀(n:Nat)(l:List UInt8),(∀w∈W n l,w≠ []∧w.length≤l.length)∧(W n l).length≤l.length
 |0,l=>by simp[W]
 |n+1,l=>by
  unfold W
  by_cases h0:l=[]
  ·rw[if_pos h0];simp
  have hl:0<l.length:=aOu.2 h0
  rw[if_neg h0]
  by_cases h1:l.takeWhile wd=[]
  ·rw[if_pos h1]
   obtain⟨a,b⟩:=aAs n (l.drop 1)
   have hd:(l.drop 1).length≤l.length:=by simp
   exact⟨fun w hw=>⟨(a w hw).1,aOI (a w hw).2 hd⟩,aOI b hd⟩
  rw[if_neg h1]
  obtain⟨a,b⟩:=aAs n (l.drop ((l.takeWhile wd).length+1))
  have ht:=wA l
  have hd:(l.drop ((l.takeWhile wd).length+1)).length+1≤l.length:=by rw[aOR];omega
  refine⟨fun w hw=> ?_,by rw[aOl];omega⟩
  rcases aOz.1 hw with rfl|hw
  ·exact⟨h1,ht⟩
  exact⟨(a w hw).1,by have:=(a w hw).2;omega⟩
def pX (l:List UInt8):Option (Tryz.A4×Bool):=match W (l.length+1) l with
 | []=>none
 |w::ws=>if w.head? =some 35 then none else some (Tryz.actR bM (aH w) (ws.map aH))
def sW (a:Tryz.A4):aC:=⟨a.kind,a.a,a.b,a.n⟩
theorem aCV {m i:Nat}{t:List UInt8}{acts:List aC}(h0:t≠ [])(ht:t.length≤20000)(hi:i≤1000000)(ha:acts.length≤256):aT NN (m+1) (aH t) (i:Int) acts=
  match pX (t.takeWhile ln) with
  |none=>aT NN m (aH (t.drop ((t.takeWhile ln).length+1))) ((i+1:Nat):Int) acts
  |some (a,ok)=>if ok=false then some (.ret ([],(i:Int),450))else if 256≤acts.length then some (.ret ([],(i:Int),4))else aT NN m (aH (t.drop ((t.takeWhile ln).length+1))) ((i+1:Nat):Int) (acts++[sW a]):=by
 have hb:=eW
 have hl:(t.takeWhile ln).length≤t.length:=(aOY _).length_le
 have hw:aOj.wrap ((i:Int)+1)=((i+1:Nat):Int):=by rw[fK (by omega) (by omega)];simp
 rw[aT,wV,if_pos (by simpa using h0),aDC (by omega),aOg]
 rw[aAc (l:=t.takeWhile ln) (by omega) (by show _<70000;omega),aOg]
 obtain⟨hm,hn⟩:=aAs ((t.takeWhile ln).length+1) (t.takeWhile ln)
 unfold pX
 generalize W ((t.takeWhile ln).length+1) (t.takeWhile ln)=ws at hm hn
 cases ws with
 |nil=>
  rw[if_neg (by simp)]
  unfold d3
  rw[if_neg (by decide)]
  unfold dG
  rw[hw]
 |cons w ws=>
  rw[aOG,if_pos (by simp),show eG (aH w::ws.map aH) 0=some (aH w)from rfl,aOg]
  obtain⟨hw0,hwl⟩:=hm w aOo
  cases w with
  |nil=>exact absurd rfl hw0
  |cons c w=>
   rw[show(0:Int)=((0:Nat):Int)from rfl,g6 (c::w) (by simp),aOg,show(((((c::w)[0]'(by simp)).toNat:Nat):Int) != 35)=(c != 35)from s5 c (n:=35) (by decide)]
   unfold d3
   simp only[aO4,aOK]
   by_cases h35:c=35
   ·subst h35
    rw[if_neg (by decide),if_pos rfl]
    unfold dG
    simp only
    rw[hw]
   rw[if_pos (by simpa using h35),if_neg h35]
   have hlen:ws.length≤20000:=by rw[aOl]at hn;omega
   rw[aI1 (by simp;omega) (fun s hs=>by
    obtain⟨u,hu,rfl⟩:=aPk.1 hs
    rw[aZ]
    have:=(hm u (aOk _ hu)).2
    omega),aOg]
   generalize Tryz.actR bM (aH (c::w)) (ws.map aH)=q
   obtain⟨⟨k,a,b,n⟩,ok⟩:=q
   simp only
   cases ok with
   |false=>rw[if_pos (by decide),if_pos rfl]
   |true=>
    rw[if_neg (show¬((!true)=true) by decide),if_neg (show¬(true=false) by decide)]
    by_cases h6:256≤acts.length
    ·rw[if_pos (decide_eq_true (by omega)),if_pos h6]
    rw[if_neg (by rw[decide_eq_true_eq];omega),if_neg h6,iY (by simp;omega),aOg]
    unfold dG
    simp only
    rw[hw]
    rfl
theorem aAt {p:UInt8→Bool}(u:List UInt8)(hu:u.all p=true)(c:UInt8)(hc:p c=false)(v:List UInt8):(u++c::v).takeWhile p=u:=by
 induction u with
 |nil=>rw[aPl,aO7 (by simp[hc])]
 |cons x u ih=>
  rw[aOM,aON]at hu
  rw[aPu,aO8 hu.1,ih hu.2]
theorem aBv {p:UInt8→Bool}(u:List UInt8)(hu:u.all p=true):u.takeWhile p=u:=by
 induction u with
 |nil=>rfl
 |cons x u ih=>
  rw[aOM,aON]at hu
  rw[aO8 hu.1,ih hu.2]
theorem aFz : ∀(ws:List (List UInt8))(u:List UInt8)(m:Nat),u≠ []→u.all wd=true→(∀w∈ws,w≠ []∧w.all wd=true)→(u++ws.flatMap (32:: ·)).length<m→W m (u++ws.flatMap (32:: ·))=u::ws
 | [],u,m,h0,h1,_,hm=>by
  obtain⟨m,rfl⟩: ∃m',m=m'+1:=⟨m-1,by omega⟩
  rw[aOF,aOy]at hm⊢
  unfold W
  rw[if_neg h0,aBv u h1,if_neg h0,aOr (by omega)]
  cases m<;>simp[W]
 |w::ws,u,m,h0,h1,h2,hm=>by
  obtain⟨m,rfl⟩: ∃m',m=m'+1:=⟨m-1,by omega⟩
  rw[aOq,aPu]at hm⊢
  have hne:u++32::(w++ws.flatMap (32:: ·))≠ []:=by simp
  unfold W
  rw[if_neg hne,aAt u h1 32 (by decide),if_neg h0]
  have hd:(u++32::(w++ws.flatMap (32:: ·))).drop (u.length+1)=w++ws.flatMap (32:: ·):=by
   rw[←List.drop_drop,List.drop_left];rfl
  obtain⟨a,b⟩:=h2 w aOo
  rw[hd,aFz ws w m a b (fun x hx=>h2 x (aOk _ hx)) (by simp only[aOA,aOl]at hm ⊢; omega)]
theorem aCC {p:UInt8→Bool}(h45:p 45=true)(hd: ∀c,hJ c=true→p c=true)(n:Int):(Lib.itoa n).all p=true∧Lib.itoa n≠ []:=by
 have h: ∀u,(Lib.decDigits u).all p=true:=fun u=>aOs.2 fun c hc=>hd c (aOs.1 (y6 u).1 c hc)
 unfold Lib.itoa
 split
 ·exact⟨by rw[aOM,h45,h];rfl,by simp⟩
 exact⟨h _,(y6 _).2.2.2.2⟩
theorem aJf (c:UInt8)(h:hJ c=true):wd c=true:=by
 simp only[hJ,decide_eq_true_eq]at h
 simp only[wd,bne_iff_ne]
 rintro rfl
 exact absurd h (by decide)
theorem aJB (c:UInt8)(h:hJ c=true):ln c=true:=by
 simp only[hJ,decide_eq_true_eq]at h
 simp only[ln,bne_iff_ne]
 rintro rfl
 exact absurd h (by decide)
theorem aEe : ∀k,k<8→1≤k→bV k≠ []∧(bV k).all wd=true∧(bV k).all ln=true∧(bV k).head? ≠some 35∧(bV k).length≤6:=by decide
theorem aHu {x:aC}(h:lE x):1≤kd x∧kd x≤7∧x.Kind=(kd x:Int)∧(∀n∈aR (kd x) x,rg n)∧(aR (kd x) x).length≤3:=by
 obtain⟨k,h1,h7,hk,hz,hr⟩:=h
 have e:kd x=k:=by simp[kd,hk]
 rw[e]
 refine⟨h1,h7,hk,hr, ?_⟩
 match k,h1,h7 with
 |1,_,_=>simp[aR]
 |2,_,_=>simp[aR]
 |3,_,_=>simp[aR]
 |4,_,_=>simp[aR]
 |5,_,_=>simp[aR]
 |6,_,_=>simp[aR]
 |7,_,_=>simp[aR]
theorem aF9 (x:aC):mG x=bV (kd x)++((aR (kd x) x).map Lib.itoa).flatMap (32:: ·):=by
 unfold mG sp
 rw[List.flatMap_map]
theorem aGo {x:aC}(h:lE x):pX (mG x)=some (⟨x.Kind,x.A,x.B,x.N⟩,true):=by
 obtain⟨h1,h7,hk,hr,_⟩:=aHu h
 obtain⟨n1,n2,n3,n4,n5⟩:=aEe (kd x) (by omega) h1
 unfold pX
 rw[aF9,aFz _ _ _ n1 n2 (fun w hw=>by
  obtain⟨n,_,rfl⟩:=aPk.1 hw
  have:=aCC (p:=wd) (by decide) aJf n
  exact⟨this.2,this.1⟩) (aPi _)]
 simp only
 rw[if_neg n4,List.map_map]
 have:=aFZ h
 rw[←this]
 rfl
theorem aBf {x:aC}(h:lE x):(mG x).all ln=true∧(mG x).length≤39:=by
 obtain⟨h1,h7,hk,hr,h3⟩:=aHu h
 obtain⟨n1,n2,n3,n4,n5⟩:=aEe (kd x) (by omega) h1
 unfold mG
 constructor
 ·rw[aOL,n3,aPg,aOs]
  intro c hc
  obtain⟨n,hn,hc⟩:=List.mem_flatMap.1 hc
  unfold sp at hc
  rcases aOz.1 hc with rfl|hc
  ·decide
  exact aOs.1 (aCC (p:=ln) (by decide) aJB n).1 c hc
 rw[aOA]
 have: ∀l:List Int,(∀n∈l,rg n)→(l.flatMap sp).length≤11*l.length:=by
  intro l
  induction l with
  |nil=>intro _;simp
  |cons n l ih=>
   intro hl
   have h1:=ih fun n hn=>hl n (aOk _ hn)
   have h2:=uU (hl n aOo)
   rw[aOq,aOA,aOl]
   have e:(sp n).length=(Lib.itoa n).length+1:=rfl
   omega
 have:=this _ hr
 omega
def oG (xs:List aC):List UInt8:=xs.flatMap fun x=>mG x++[10]
theorem rH : ∀xs:List aC,(∀x∈xs,lE x)→(oG xs).length≤40*xs.length
 | [],_=>by simp[oG]
 |x::xs,h=>by
  have h1:=(aBf (h x aOo)).2
  have h2:=rH xs fun y hy=>h y (aOk _ hy)
  unfold oG at h2⊢
  rw[aOq,aOA,aOA,aOl]
  simp only[aOl,aO5]
  omega
theorem aFX : ∀(xs:List aC)(m i:Nat)(acts:List aC),(∀x∈xs,lE x)→xs.length<m→acts.length+xs.length≤256→i+xs.length≤1000→aT NN m (aH (oG xs)) (i:Int) acts=some (.brk (((i+xs.length:Nat):Int),acts++xs))
 |_,0,_,_,_,h,_,_=>by omega
 | [],m+1,i,acts,_,_,_,_=>by
  rw[aT,show oG []=[]from rfl,wV,if_neg (by decide),aOy]
  rfl
 |x::xs,m+1,i,acts,hv,hm,ha,hi=>by
  have hvx:=hv x aOo
  have hvs: ∀y∈xs,lE y:=fun y hy=>hv y (aOk _ hy)
  have hl:=rH xs hvs
  obtain⟨h1,h2⟩:=aBf hvx
  have e:oG (x::xs)=mG x++10::oG xs:=by simp[oG,aOq]
  rw[aOl]at hm ha hi⊢
  rw[e]
  rw[aCV (by simp) (by rw[aOA,aOl];omega) (by omega) (by omega),aAt _ h1 10 (by decide),aGo hvx]
  simp only
  rw[if_neg (by decide),if_neg (by omega)]
  have hd:(mG x++10::oG xs).drop ((mG x).length+1)=oG xs:=by rw[←List.drop_drop,List.drop_left];rfl
  rw[hd,show sW ⟨x.Kind,x.A,x.B,x.N⟩=x from rfl,aFX xs m (i+1) (acts++[x]) hvs (by omega) (by rw[aOA];simp only[aOl,aO5];omega) (by omega),aOw]
  rw[show i+1+xs.length=i+(xs.length+1) by omega]
  rfl
theorem aBA {xs:List aC}(hv: ∀x∈xs,lE x)(hl:xs.length≤256):bP NN (aH (oG xs))=some (xs,(xs.length:Int),0):=by
 have h:=rH xs hv
 unfold bP
 rw[aZ,if_neg (by rw[decide_eq_true_eq];omega)]
 have:=aFX xs NN 0 [] hv (by show _<70000;omega) (by simpa using hl) (by omega)
 rw[show((0:Nat):Int)=0 from rfl]at this
 rw[this,aOg,Nat.zero_add,aPl]
 rfl
theorem aEq {xs:List aC}(hv: ∀x∈xs,lE x)(hl:xs.length≤256): ∀(m i:Nat),i≤xs.length→xs.length-i<m→cY NN xs m (aH (oG (xs.take i))) (i:Int)=some (.brk (aH (oG xs)))
 |0,i,_,h=>by omega
 |m+1,i,hi,h=>by
  rw[cY]
  by_cases hlt:i<xs.length
  ·have hx:=hv xs[i] (aPh hlt)
   have hlen:=rH (xs.take i) fun x hx=>hv x (List.mem_of_mem_take hx)
   have hl2:=(aBf hx).2
   have e:oG (xs.take i)++(mG xs[i]++[10])=oG (xs.take (i+1)):=by
    rw[aOQ,aOv hlt]
    unfold oG
    rw[List.flatMap_append];simp
   rw[if_pos (dT hlt),qF xs hlt,aOg,aDa hx,aOg,if_neg (by simp),yS (by rw[aOA];simp only[aOl,aO5,aOD]at hlen ⊢; omega),aOg,e,
    show aOj.wrap ((i:Int)+1)=((i+1:Nat):Int) by rw[fK (by omega) (by omega)];simp]
   exact aEq hv hl m (i+1) (by omega) (by omega)
  have:i=xs.length:=by omega
  subst this
  rw[if_neg (by rw[dF (by omega)];decide),aOC]
theorem uN {xs:List aC}(hv: ∀x∈xs,lE x)(hl:xs.length≤256):eA NN xs=some (aH (oG xs),0):=by
 have h:=rH xs hv
 unfold eA
 rw[if_neg (by rw[decide_eq_true_eq];omega)]
 have:=aEq hv hl NN 0 (by omega) (by show _<70000;omega)
 rw[show((0:Nat):Int)=0 from rfl,List.take_zero,show aH (oG [])=aO3 from rfl]at this
 rw[this,aOg]
 simp only
 unfold hY
 rw[aZ,if_neg (by rw[decide_eq_true_eq];omega)]
theorem wX {xs:List aC}(hl:xs.length≤1000):fU NN xs xs=some true:=by
 unfold fU
 rw[if_neg (by simp)]
 have: ∀(m i:Nat),i≤xs.length→xs.length-i<m→eF NN xs xs m (i:Int)=some (.brk ()):=by
  intro m
  induction m with
  |zero=>intro i _ h;omega
  |succ m ih=>
   intro i hi h
   rw[eF]
   by_cases hlt:i<xs.length
   ·rw[if_pos (dT hlt),qF xs hlt,aOg,aOg,if_neg (by simp),show aOj.wrap ((i:Int)+1)=((i+1:Nat):Int) by rw[fK (by omega) (by omega)];simp]
    exact ih (i+1) (by omega) (by omega)
   rw[if_neg (by rw[dF hlt];decide)]
 rw[show(0:Int)=((0:Nat):Int)from rfl,this NN 0 (by omega) (by show _<70000;omega),aOg]
 rfl
theorem fY {s:ByteArray}(h:(bM s).2=true)(hs:s.size≤1000000):rg (bM s).1:=by
 rw[rM s,z7 (by rw[oE];exact hs)]at h⊢
 exact aEw h
theorem aMK {c:UInt8}{ws:List ByteArray}{a b:Tryz.A4}(h:Tryz.runF bM [c] ws a=some b)(hl:ws.length=1): ∃s,s∈ws∧(bM s).2=true∧b=Tryz.setF a c (bM s).1:=by
 match ws,hl with
 | [s],_=>
  simp only[Tryz.runF]at h
  split at h
  ·rename_i h1;exact⟨s,aOo,h1,(aOp h).symm⟩
  cases h
theorem aFa {c d:UInt8}{ws:List ByteArray}{a b:Tryz.A4}(h:Tryz.runF bM [c,d] ws a=some b)(hl:ws.length=2): ∃s t,s∈ws∧t∈ws∧(bM s).2=true∧(bM t).2=true∧b=Tryz.setF (Tryz.setF a c (bM s).1) d (bM t).1:=by
 match ws,hl with
 | [s,t],_=>
  simp only[Tryz.runF]at h
  split at h
  ·rename_i h1
   split at h
   ·rename_i h2;exact⟨s,t,by simp,by simp,h1,h2,(aOp h).symm⟩
   cases h
  cases h
theorem aI4 {c d e:UInt8}{ws:List ByteArray}{a b:Tryz.A4}(h:Tryz.runF bM [c,d,e] ws a=some b)(hl:ws.length=3): ∃s t u,s∈ws∧t∈ws∧u∈ws∧(bM s).2=true∧(bM t).2=true∧(bM u).2=true∧b=Tryz.setF (Tryz.setF (Tryz.setF a c (bM s).1) d (bM t).1) e (bM u).1:=by
 match ws,hl with
 | [s,t,u],_=>
  simp only[Tryz.runF]at h
  split at h
  ·rename_i h1
   split at h
   ·rename_i h2
    split at h
    ·rename_i h3;exact⟨s,t,u,by simp,by simp,by simp,h1,h2,h3,(aOp h).symm⟩
    cases h
   cases h
  cases h
theorem aHx {w0:ByteArray}{ws:List ByteArray}{a:Tryz.A4}(h:Tryz.actR bM w0 ws=(a,true))(hs: ∀s∈ws,s.size≤1000000):lE (sW a):=by
 unfold Tryz.actR at h
 split at h
 ·cases h
 rename_i x hx
 have hm:=aPc hx
 split at h
 ·cases h
 rename_i hlen
 split at h
 ·rename_i b hb
  injection h with h _
  subst h
  have hlen:ws.length=x.2.2.size:=by simpa using hlen
  simp only[Tryz.forms,aOz,aOt,or_false]at hm
  rcases hm with rfl|rfl|rfl|rfl|rfl|rfl|rfl
  ·obtain⟨s,ms,ns,rfl⟩:=aMK hb hlen
   refine⟨1,by decide,by decide,rfl,⟨rfl,rfl⟩,fun n hn=> ?_⟩
   simp only[aR,sW,aOz,aOt,or_false]at hn
   subst hn;exact fY ns (hs s ms)
  ·obtain⟨s,t,u,ms,mt,mu,ns,nt,nu,rfl⟩:=aI4 hb hlen
   refine⟨2,by decide,by decide,rfl,trivial,fun n hn=> ?_⟩
   simp only[aR,sW,aOz,aOt,or_false]at hn
   rcases hn with rfl|rfl|rfl
   ·exact fY ns (hs s ms)
   ·exact fY nt (hs t mt)
   exact fY nu (hs u mu)
  ·obtain⟨s,t,ms,mt,ns,nt,rfl⟩:=aFa hb hlen
   refine⟨3,by decide,by decide,rfl,rfl,fun n hn=> ?_⟩
   simp only[aR,sW,aOz,aOt,or_false]at hn
   rcases hn with rfl|rfl
   ·exact fY ns (hs s ms)
   exact fY nt (hs t mt)
  ·obtain⟨s,t,u,ms,mt,mu,ns,nt,nu,rfl⟩:=aI4 hb hlen
   refine⟨4,by decide,by decide,rfl,trivial,fun n hn=> ?_⟩
   simp only[aR,sW,aOz,aOt,or_false]at hn
   rcases hn with rfl|rfl|rfl
   ·exact fY ns (hs s ms)
   ·exact fY nt (hs t mt)
   exact fY nu (hs u mu)
  ·obtain⟨s,t,ms,mt,ns,nt,rfl⟩:=aFa hb hlen
   refine⟨5,by decide,by decide,rfl,rfl,fun n hn=> ?_⟩
   simp only[aR,sW,aOz,aOt,or_false]at hn
   rcases hn with rfl|rfl
   ·exact fY ns (hs s ms)
   exact fY nt (hs t mt)
  ·obtain⟨s,t,ms,mt,ns,nt,rfl⟩:=aFa hb hlen
   refine⟨6,by decide,by decide,rfl,rfl,fun n hn=> ?_⟩
   simp only[aR,sW,aOz,aOt,or_false]at hn
   rcases hn with rfl|rfl
   ·exact fY ns (hs s ms)
   exact fY nt (hs t mt)
  obtain⟨s,t,ms,mt,ns,nt,rfl⟩:=aFa hb hlen
  refine⟨7,by decide,by decide,rfl,rfl,fun n hn=> ?_⟩
  simp only[aR,sW,aOz,aOt,or_false]at hn
  rcases hn with rfl|rfl
  ·exact fY ns (hs s ms)
  exact fY nt (hs t mt)
 cases h
theorem aFP {l:List UInt8}(hl:l.length≤20000){a:Tryz.A4}(h:pX l=some (a,true)):lE (sW a):=by
 unfold pX at h
 obtain⟨hm,hn⟩:=aAs (l.length+1) l
 split at h
 ·cases h
 rename_i w ws hw
 split at h
 ·cases h
 refine aHx (aOp h) fun s hs=> ?_
 obtain⟨u,hu,rfl⟩:=aPk.1 hs
 rw[aZ]
 have:=(hm u (by rw[hw];exact aOk _ hu)).2
 omega
theorem aDv : ∀(m i:Nat)(t:List UInt8)(acts:List aC),t.length<m→t.length≤20000→i+t.length≤100000→acts.length≤256→(∀x∈acts,lE x)→
  (∃j e,aT NN m (aH t) (i:Int) acts=some (.ret ([],j,e))∧e≠0)∨ ∃j xs,aT NN m (aH t) (i:Int) acts=some (.brk (j,xs))∧xs.length≤256∧ ∀x∈xs,lE x
 |0,_,_,_,h,_,_,_,_=>by omega
 |m+1,i,t,acts,h,ht,hi,ha,hv=>by
  by_cases h0:t=[]
  ·subst h0
   refine .inr ⟨(i:Int),acts, ?_,ha,hv⟩
   rw[aT,wV,if_neg (by decide)]
  have hpos:=aOu.2 h0
  rw[aCV h0 ht (by omega) ha]
  have hd:(t.drop ((t.takeWhile ln).length+1)).length+1≤t.length:=by rw[aOR];omega
  have htl:(t.takeWhile ln).length≤t.length:=(aOY _).length_le
  cases hR:pX (t.takeWhile ln) with
  |none=>exact aDv m (i+1) _ acts (by omega) (by omega) (by omega) ha hv
  |some q=>
   obtain⟨a,ok⟩:=q
   simp only
   cases ok with
   |false=>rw[if_pos rfl];exact .inl ⟨_,_,rfl,by decide⟩
   |true=>
    rw[if_neg (by decide)]
    by_cases h6:256≤acts.length
    ·rw[if_pos h6];exact .inl ⟨_,_,rfl,by decide⟩
    rw[if_neg h6]
    refine aDv m (i+1) _ (acts++[sW a]) (by omega) (by omega) (by omega) (by simp;omega) fun x hx=> ?_
    rcases aPj.1 hx with hx|hx
    ·exact hv x hx
    rw[aOi.1 hx]
    exact aFP (by omega) hR
theorem aFt (raw:ByteArray)(h:raw.size≤16384): ∃xs j e,bP NN raw=some (xs,j,e)∧(e=0→xs.length≤256∧ ∀x∈xs,lE x):=by
 have hl:raw.data.toList.length≤16384:=by rw[oE];exact h
 rw[rM raw]
 unfold bP
 rw[aZ,if_neg (by rw[decide_eq_true_eq];omega)]
 have:=aDv NN 0 raw.data.toList [] (by show _<70000;omega) (by omega) (by omega) (by simp) (by simp)
 rw[show((0:Nat):Int)=0 from rfl]at this
 rcases this with⟨j,e,h1,h2⟩|⟨j,xs,h1,h2,h3⟩
 ·rw[h1];exact⟨_,_,_,rfl,fun h=>absurd h h2⟩
 rw[h1];exact⟨xs,j,0,rfl,fun _=>⟨h2,h3⟩⟩
theorem aAw (N:Nat)(v:Int){n:Nat}(h0:1≤n)(h1:n≤1000): ∃k:Int,0≤k∧k<(n:Int)∧fA N v (n:Int)=some k:=by
 unfold fA rem
 rw[if_neg (by omega),aOg]
 have h2:v.tmod (n:Int)<(n:Int):=Int.tmod_lt_of_pos v (by omega)
 have h3: -(n:Int)<v.tmod (n:Int):=Int.lt_tmod_of_pos v (by omega)
 unfold kY
 by_cases h:v.tmod (n:Int)<0
 ·rw[if_pos (by simpa using h),fK (by omega) (by omega)]
  exact⟨_,by omega,by omega,rfl⟩
 rw[if_neg (by simpa using h)]
 exact⟨_,by omega,by omega,rfl⟩
theorem pN (N:Nat)(l:List Int){pos n:Nat}(hp:pos≤1000000)(h0:1≤n)(h1:n≤1000): ∃(v:Int)(pos':Nat),c7 N l (pos:Int) (n:Int)=some (v,l,(pos':Int))∧0≤v∧v<(n:Int)∧pos'≤pos+1:=by
 unfold c7 iR
 rw[aOg]
 have e1:aOj.wrap ((pos:Int)+1)=((pos+1:Nat):Int):=by rw[fK (by omega) (by omega)];simp
 by_cases h:pos<l.length
 ·rw[dT h,if_neg (by decide),e1,show aOj.wrap (((pos+1:Nat):Int)-1)=(pos:Int) by rw[fK (by omega) (by omega)];simp,qF l h,aOg]
  obtain⟨k,k0,k1,hk⟩:=aAw N l[pos] h0 h1
  rw[hk,aOg]
  exact⟨k,pos+1,rfl,k0,k1,aOS _⟩
 rw[dF h,if_pos (by decide)]
 exact⟨0,pos,rfl,by omega,by omega,by omega⟩
theorem aDc (N:Nat)(l:List Int){pos:Nat}(hp:pos≤1000000){low nZ:Int}(h1: -100≤low)(h2:low≤nZ)(h3:nZ≤100): ∃(v:Int)(pos':Nat),gR N l (pos:Int) low nZ=some (v,l,(pos':Int))∧low≤v∧v≤nZ∧pos'≤pos+1:=by
 unfold gR
 obtain⟨n,hn⟩: ∃n:Nat,nZ-low+1=(n:Int):=⟨(nZ-low+1).toNat,by omega⟩
 have e1:aOj.wrap ((aOj.wrap (nZ-low))+1)=(n:Int):=by rw[fK (a:=nZ-low) (by omega) (by omega),fK (by omega) (by omega),hn]
 obtain⟨v,pos',hv,v0,v1,hp'⟩:=pN N l (n:=n) hp (by omega) (by omega)
 rw[e1,hv,aOg]
 refine⟨low+v,pos', ?_,by omega,by omega,hp'⟩
 simp only
 rw[fK (by omega) (by omega)]
theorem vM {n:Int}(h0: -1≤n)(h1:n≤6):rg n:=⟨by omega,by omega⟩
theorem rY {k:Nat}{A B M:Int}(h1:1≤k)(h7:k≤7)(hz:jE k ⟨(k:Int),A,B,M⟩)(hA:rg A)(hB:rg B)(hM:rg M):lE ⟨(k:Int),A,B,M⟩:=by
 refine⟨k,h1,h7,rfl,hz,fun n hn=> ?_⟩
 have:n=A∨n=B∨n=M:=by
  match k,h1,h7,hn with
  |1,_,_,hn=>simp[aR]at hn;exact .inr (.inr hn)
  |2,_,_,hn=>simp[aR]at hn;exact hn
  |3,_,_,hn=>simp[aR]at hn;exact hn.imp id .inr
  |4,_,_,hn=>simp[aR]at hn;exact hn
  |5,_,_,hn=>simp[aR]at hn;exact hn.imp id .inr
  |6,_,_,hn=>simp[aR]at hn;exact hn.imp id .inl
  |7,_,_,hn=>simp[aR]at hn;exact hn.imp id .inr
 rcases this with rfl|rfl|rfl<;>assumption
theorem aBK (l:List Int): ∀(m k pos:Nat)(xs:List aC),k<m→k≤100→pos+4*k≤100000→xs.length+k≤200→(∀x∈xs,lE x)→ ∃(pos':Nat)(zs:List aC),cH NN m (k:Int) l (pos:Int) xs=some (l,(pos':Int),zs)∧zs.length=xs.length+k∧pos'≤pos+4*k∧ ∀x∈zs,lE x
 |0,k,_,_,h,_,_,_,_=>by omega
 |m+1,0,pos,xs,_,_,_,_,hv=>⟨pos,xs,by rw[cH,if_neg (by simp)],rfl,by omega,hv⟩
 |m+1,k+1,pos,xs,hm,hk,hp,hx,hv=>by
  have hb:=eW
  rw[cH,if_pos (decide_eq_true (by omega))]
  obtain⟨a,p1,e1,a1,a2,hp1⟩:=aDc NN l (pos:=pos) (by omega) (low:=1) (nZ:=7) (by decide) (by decide) (by decide)
  obtain⟨b,p2,e2,b1,b2,hp2⟩:=pN NN l (pos:=p1) (n:=3) (by omega) (by decide) (by decide)
  obtain⟨c,p3,e3,c1,c2,hp3⟩:=pN NN l (pos:=p2) (n:=3) (by omega) (by decide) (by decide)
  obtain⟨d,p4,e4,d1,d2,hp4⟩:=aDc NN l (pos:=p3) (by omega) (low:= -1) (nZ:=6) (by decide) (by decide) (by decide)
  rw[show((3:Nat):Int)=3 from rfl]at e2 e3
  rw[e1,aOg]
  simp only
  rw[e2,aOg]
  simp only
  rw[e3,aOg]
  simp only
  rw[e4,aOg]
  simp only
  have hwk:aOj.wrap (((k+1:Nat):Int)-1)=(k:Int):=by rw[fK (by omega) (by omega)];simp
  have J3: ∀A B M:Int,lE ⟨a,A,B,M⟩→ ∃(pos':Nat)(zs:List aC),fI NN ((k+1:Nat):Int) xs (a,l,(p1:Int)) (d,l,(p4:Int)) (cH NN m) A B M=some (l,(pos':Int),zs)∧zs.length=xs.length+(k+1)∧pos'≤pos+4*(k+1)∧ ∀x∈zs,lE x:=fun A B M hV=>by
   unfold fI
   rw[iY (by simp;omega),aOg,hwk]
   obtain⟨pos',zs,h1,h2,h2',h3⟩:=aBK l m k p4 (xs++[⟨a,A,B,M⟩]) (by omega) (by omega) (by omega) (by simp;omega) (fun x hx=>by
    rcases aPj.1 hx with hx|hx
    ·exact hv x hx
    rw[aOi.1 hx];exact hV)
   exact⟨pos',zs,h1,by rw[h2];simp;omega,by omega,h3⟩
  have rb:rg b:=vM (by omega) (by omega)
  have rc:rg c:=vM (by omega) (by omega)
  have rd:rg d:=vM (by omega) (by omega)
  have r0:rg 0:=vM (by decide) (by decide)
  obtain⟨q,rfl⟩: ∃q:Nat,a=(q:Int):=⟨a.toNat,by omega⟩
  unfold jB
  match q,(show 1≤q by omega),(show q≤7 by omega) with
  |1,h1,h7=>rw[if_pos (by decide)];exact J3 _ _ _ (rY h1 h7 ⟨rfl,rfl⟩ r0 r0 rd)
  |2,h1,h7=>rw[if_neg (by decide),if_neg (by decide),if_neg (by decide),if_neg (by decide),if_neg (by simp)];exact J3 _ _ _ (rY h1 h7 trivial rb rc rd)
  |3,h1,h7=>rw[if_neg (by decide),if_pos (by decide),if_pos (by decide)];exact J3 _ _ _ (rY h1 h7 rfl rb r0 rd)
  |4,h1,h7=>rw[if_neg (by decide),if_neg (by decide),if_neg (by decide),if_neg (by decide),if_neg (by simp)];exact J3 _ _ _ (rY h1 h7 trivial rb rc rd)
  |5,h1,h7=>rw[if_neg (by decide),if_neg (by decide),if_pos (by decide),if_pos (by decide)];exact J3 _ _ _ (rY h1 h7 rfl rb r0 rd)
  |6,h1,h7=>rw[if_neg (by decide),if_neg (by decide),if_neg (by decide),if_neg (by decide),if_pos (by rfl)];exact J3 _ _ _ (rY h1 h7 rfl rb rc r0)
  |7,h1,h7=>rw[if_neg (by decide),if_neg (by decide),if_neg (by decide),if_pos (by decide)];exact J3 _ _ _ (rY h1 h7 rfl rb r0 rd)
theorem aCP (l:List Int): ∃(xs:List aC)(pos:Nat),iI NN l 0=some (xs,l,(pos:Int))∧xs.length≤8∧pos≤100000∧ ∀x∈xs,lE x:=by
 unfold iI
 obtain⟨v,p1,e1,v0,v1,hp⟩:=pN NN l (pos:=0) (n:=9) (by decide) (by decide) (by decide)
 rw[show((0:Nat):Int)=0 from rfl,show((9:Nat):Int)=9 from rfl]at e1
 rw[e1,aOg]
 simp only
 obtain⟨k,rfl⟩: ∃k:Nat,v=(k:Int):=⟨v.toNat,by omega⟩
 obtain⟨pos',zs,h1,h2,h2',h3⟩:=aBK l NN k p1 [] (by show _<70000;omega) (by omega) (by omega) (by simp;omega) (by simp)
 rw[h1,aOg]
 exact⟨zs,pos',rfl,by simp at h2;omega,by omega,h3⟩
theorem aEl (l:List Int): ∃(xs:List aC)(pos:Nat),iI NN l 0=some (xs,l,(pos:Int))∧xs.length≤8∧ ∀x∈xs,lE x:=
 let⟨xs,pos,h1,h2,_,h3⟩:=aCP l
 ⟨xs,pos,h1,h2,h3⟩
theorem zZ (l:List Int)(raw:ByteArray):iA NN l raw=some true:=by
 unfold iA
 rw[show iD NN=some true from rfl,aOg,if_neg (by decide)]
 by_cases h:2000<raw.size
 ·rw[if_pos (decide_eq_true (by omega))]
 rw[if_neg (by rw[decide_eq_true_eq];omega),show lM NN l=some (l,0)from rfl,aOg]
 simp only
 obtain⟨xs,pos,e1,h8,hv⟩:=aEl l
 rw[e1,aOg]
 simp only
 rw[uN hv (by omega),aOg]
 simp only
 rw[aBA hv (by omega),aOg,if_neg (by decide),if_neg (by simp),if_neg (by simp),wX (by show xs.length≤1000;omega),aOg]
 unfold dJ
 rw[if_neg (by decide)]
 obtain⟨ys,j,e,e2,he⟩:=aFt raw (by omega)
 rw[e2,aOg]
 simp only
 by_cases h0:e=0
 ·obtain⟨hl,hvy⟩:=he h0
  rw[if_neg (by simp[h0]),uN hvy hl,aOg]
  simp only
  rw[aBA hvy hl,aOg,if_pos (by decide),if_pos (by simp),wX (by show ys.length≤1000;omega),aOg]
  rfl
 rw[if_pos (by simpa using h0)]
end Go.Proofs.YtjcfonniipabpaaGreatDoor
set_option linter.unusedSectionVars false
namespace Go.Proofs.YtjcfonniipabpaaGreatDoor
open Go Go.Vm
def u1 (n:Nat):List Int:=[(n:Int),0,0,0]
theorem o4 (n:Nat):bY 4 (u1 n)=some (u1 n):=rfl
theorem au0 (n:Nat):bZ 4 (u1 n) 0=some (n:Int):=rfl
theorem dq0 (a b c d:Int):bZ 4 [a,b,c,d] 0=some a:=rfl
theorem dq1 (a b c d:Int):bZ 4 [a,b,c,d] 1=some b:=rfl
theorem dq2 (a b c d:Int):bZ 4 [a,b,c,d] 2=some c:=rfl
theorem dq3 (a b c d:Int):bZ 4 [a,b,c,d] 3=some d:=rfl
theorem dt0 (a b c d x:Int):[a,b,c,d].set (aPf 0) x=[x,b,c,d]:=rfl
theorem dt1 (a b c d x:Int):[a,b,c,d].set (aPf 1) x=[a,x,c,d]:=rfl
theorem dt2 (a b c d x:Int):[a,b,c,d].set (aPf 2) x=[a,b,x,d]:=rfl
theorem dt3 (a b c d x:Int):[a,b,c,d].set (aPf 3) x=[a,b,c,x]:=rfl
theorem da4 (a b c d:Int):bY 4 [a,b,c,d]=some [a,b,c,d]:=rfl
theorem dr4 :aPd 4 (0:Int)=[0,0,0,0]:=rfl
theorem dd0 :decide ((0:Int)<4)=true:=rfl
theorem dd1 :decide ((1:Int)<4)=true:=rfl
theorem dd2 :decide ((2:Int)<4)=true:=rfl
theorem dd3 :decide ((3:Int)<4)=true:=rfl
theorem dd4 :decide ((4:Int)<4)=false:=rfl
theorem dw0 :aOj.wrap (0+1)=1:=by decide +kernel
theorem dw1 :aOj.wrap (1+1)=2:=by decide +kernel
theorem dw2 :aOj.wrap (2+1)=3:=by decide +kernel
theorem dw3 :aOj.wrap (3+1)=4:=by decide +kernel
theorem dg3 :decide ((0:Int)≤3)=true:=rfl
theorem dg2 :decide ((0:Int)≤2)=true:=rfl
theorem dg1 :decide ((0:Int)≤1)=true:=rfl
theorem dg0 :decide ((0:Int)≤0)=true:=rfl
theorem dgm :decide ((0:Int)≤ -1)=false:=rfl
theorem dv3 :aOj.wrap (3-1)=2:=by decide +kernel
theorem dv2 :aOj.wrap (2-1)=1:=by decide +kernel
theorem dv1 :aOj.wrap (1-1)=0:=by decide +kernel
theorem dv0 :aOj.wrap (0-1)= -1:=by decide +kernel
theorem dz :decide ((0:Int)<0)=false:=rfl
theorem aEC {α:Type}(f:Nat→α){N:Nat}(h:300≤N): ∃m,f N=f (m+1+1+1+1+1):=⟨N-5,by congr 1;omega⟩
theorem aLM {N:Nat}(hN:300≤N){x y:Nat}(h:x+y<18446744073709551616):lR N (u1 x) (u1 y)=some (u1 (x+y),false):=by
 obtain⟨m,hm⟩:=aEC (fun q=>iW N (u1 x) (u1 y) q 0 0 (aPd 4 0)) hN
 have e0:yJ (x:Int) (y:Int) 0=some (((x+y:Nat):Int),0):=by
  have e:yJ (x:Int) (y:Int) 0=some ((((x+y+0)%18446744073709551616:Nat):Int),(((x+y+0)/18446744073709551616:Nat):Int)):=rfl
  rw[e,Nat.add_zero,aO0 h,aOO h];rfl
 have e1:yJ 0 0 0=some (0,0):=rfl
 unfold lR
 rw[hm]
 simp only[u1,dr4,iW,oX,dq0,dq1,dq2,dq3,dt0,dt1,dt2,dt3,dw0,dw1,dw2,dw3,dd0,dd1,dd2,dd3,dd4,if_true,aO9,if_false,aOg,e0,e1,o8,da4]
 rfl
theorem aMh {N:Nat}(hN:300≤N){x y:Nat}(h:y≤x)(hx:x<18446744073709551616):qK N (u1 x) (u1 y)=some (u1 (x-y),false):=by
 obtain⟨m,hm⟩:=aEC (fun q=>iV N (u1 x) (u1 y) q 0 0 (aPd 4 0)) hN
 have e0:yQ (x:Int) (y:Int) 0=some (((x-y:Nat):Int),0):=by
  have e:yQ (x:Int) (y:Int) 0=some ((((x+18446744073709551616-y-0)%18446744073709551616:Nat):Int),((if x<y+0 then 1 else 0:Nat):Int)):=rfl
  rw[e,if_neg (by omega),show(x+18446744073709551616-y-0)%18446744073709551616=x-y by omega];rfl
 have e1:yQ 0 0 0=some (0,0):=rfl
 unfold qK
 rw[hm]
 simp only[u1,dr4,iV,lI,dq0,dq1,dq2,dq3,dt0,dt1,dt2,dt3,dw0,dw1,dw2,dw3,dd0,dd1,dd2,dd3,dd4,if_true,aO9,if_false,aOg,e0,e1,o2,da4]
 rfl
theorem aHr {N:Nat}(hN:300≤N)(x y:Nat):lS N (u1 x) (u1 y)=some (if x<y then -1 else if y<x then 1 else 0):=by
 obtain⟨m,hm⟩:=aEC (fun q=>iZ N (u1 x) (u1 y) q 3) hN
 unfold lS
 rw[hm]
 simp only[u1,iZ,dq0,dq1,dq2,dq3,dg0,dg1,dg2,dg3,dgm,dv0,dv1,dv2,dv3,dz,if_true,aO9,if_false,aOg]
 by_cases h1:x<y
 ·rw[if_pos (decide_eq_true (show(x:Int)<y by omega)),if_pos h1];rfl
 rw[if_neg (by rw[decide_eq_true_eq];omega),if_neg h1]
 by_cases h2:y<x
 ·rw[if_pos (decide_eq_true (show(y:Int)<x by omega)),if_pos h2];rfl
 rw[if_neg (by rw[decide_eq_true_eq];omega),if_neg h2];rfl
theorem cge (x y:Nat):decide ((0:Int)≤(if x<y then -1 else if y<x then 1 else 0))=decide (y≤x):=by
 by_cases h:x<y
 ·rw[if_pos h,decide_eq_false (by decide),decide_eq_false (by omega)]
 rw[if_neg h,decide_eq_true (show y≤x by omega)]
 by_cases h2:y<x
 ·rw[if_pos h2];rfl
 rw[if_neg h2];rfl
theorem aHt {N a i:Nat}(ha:a<18446744073709551616)(hi:i<256):iL N (u1 a) (i:Int)=some (decide (a/2^i%2=1)):=by
 have hd:Int.tdiv (i:Int) 64=((i/64:Nat):Int):=aCK i 64
 have hm:Int.tmod (i:Int) 64=((i%64:Nat):Int):=aCH i 64
 have fin: ∀w:Nat,w<18446744073709551616→bZ 4 (u1 a) ((i/64:Nat):Int)=some (w:Int)→w/2^(i%64)%2=a/2^i%2→iL N (u1 a) (i:Int)=some (decide (a/2^i%2=1)):=by
  intro w hw h1 h2
  have hq:w/2^(i%64)<18446744073709551616:=aOW (Nat.div_le_self _ _) hw
  unfold iL
  rw[hd,hm,fK (by omega) (by omega),h1,aOg,aHV (k:= .u64) w (i%64) (show w<2^64 by omega),aOg,←h2]
  revert hq
  generalize w/2^(i%64)=q
  intro hq
  have hb:bits .and .u64 (q:Int) 1=((q%2:Nat):Int):=by
   have:=aDD (k:= .u64) rfl q 1 (show q<2^64 by omega) (by decide)
   rw[Nat.and_one_is_mod]at this
   exact this
  rw[hb]
  rcases Nat.mod_two_eq_zero_or_one q with h|h<;>rw[h]<;>rfl
 have big:64≤i→a/2^i=0:=fun h=>aOO (aOm ha (show 2^64≤2^i from aOB (by decide) h))
 rcases(by omega:i/64=0∨i/64=1∨i/64=2∨i/64=3)with h|h|h|h
 ·refine fin a ha (by rw[h];rfl) ?_
  rw[aO0 (show i<64 by omega)]
 ·refine fin 0 (by omega) (by rw[h];rfl) ?_
  rw[big (by omega),aPm]
 ·refine fin 0 (by omega) (by rw[h];rfl) ?_
  rw[big (by omega),aPm]
 refine fin 0 (by omega) (by rw[h];rfl) ?_
 rw[big (by omega),aPm]
theorem aJ6 (N n:Nat):jH N (u1 n)=some (decide (n=0)):=by
 unfold jH
 rw[o4,aOg]
 by_cases h:n=0
 ·subst h;rfl
 rw[decide_eq_false h]
 congr 1
 rw[beq_eq_false_iff_ne]
 intro e
 simp only[u1,aPx]at e
 omega
theorem aNa (r:Nat)(h0:r%2=0)(h:r+1<18446744073709551616):(u1 r).set (aPf 0) (bits .or .u64 (r:Int) 1)=u1 (r+1):=by
 have hb:bits .or .u64 (r:Int) 1=((r+1:Nat):Int):=by
  have:=zO (k:= .u64) rfl r 1 (show r<2^64 by omega) (by decide)
  have e:r ||| 1=r+1:=by
   have:=aO6 (i:=1) (b:=1) (by decide) (r/2)
   rw[show 2^1*(r/2)=r by omega]at this
   exact this.symm
  rw[e]at this
  exact this
 rw[hb];rfl
theorem aL0 {k c Q:Nat}(hk:k<64)(hQ:Q=c*2^(k+1))(hlt:Q+2^k<18446744073709551616):(u1 Q).set (aPf 0) (bits .or .u64 (Q:Int) ((2^k:Nat):Int))=u1 (Q+2^k):=by
 have hb:bits .or .u64 (Q:Int) ((2^k:Nat):Int)=((Q+2^k:Nat):Int):=by
  have:=zO (k:= .u64) rfl Q (2^k) (aOW (Nat.le_add_right _ _) hlt) (aOW (Nat.le_add_left _ _) hlt)
  have e:Q ||| 2^k=Q+2^k:=by
   have:=aO6 (i:=k+1) (b:=2^k) (aPp (by decide) (aPi k)) c
   rw[aPa (2^(k+1)) c,←hQ]at this
   exact this.symm
  rw[e]at this
  exact this
 rw[hb];rfl
theorem aMr (a k:Nat):a/2^k=2*(a/2^(k+1))+a/2^k%2:=by
 rw[aOZ,←Nat.div_div_eq_div_mul]
 generalize a/2^k=q
 omega
theorem aJK (b t:Nat)(h:10≤2*(b%10)+t)(ht:t≤1):2*(b%10)+t-10=(2*b+t)%10∧(2*b+t)/10=2*(b/10)+1:=by omega
theorem aKU (b t:Nat)(h: ¬10≤2*(b%10)+t)(ht:t≤1):2*(b%10)+t=(2*b+t)%10∧(2*b+t)/10=2*(b/10):=by omega
theorem aNU (c p:Nat):c*(p*2)+p=(2*c+1)*p:=by rw[Nat.add_mul,Nat.one_mul,aPa p 2,←Nat.mul_assoc,aPa c 2]
theorem aMR (c p:Nat):c*(p*2)=(2*c)*p:=by rw[aPa p 2,←Nat.mul_assoc,aPa c 2]
theorem zU {N:Nat}(hN:300≤N){a:Nat}(ha:a<18446744073709551616): ∀(k f:Nat),k<f→k≤256→cR N (u1 a) (u1 10) f ((k:Int)-1) (u1 (a/2^k/10*2^k)) (u1 (a/2^k%10))=some (u1 (a/10),u1 (a%10))
 |0,f+1,_,_=>by
  unfold cR
  rw[if_neg (by decide),Nat.pow_zero,Nat.div_one,Nat.mul_one]
 |k+1,f+1,hf,hk=>by
  have IH:=zU hN ha k f (by omega) (by omega)
  have hA:=aMr a k
  have hle:a/2^k*2^k≤a:=Nat.div_mul_le_self a (2^k)
  have hbit:=aHt (N:=N) ha (show k<256 by omega)
  have hz:64≤k→a/2^k=0:=fun h=>aOO (aOm ha (show 2^64≤2^k from aOB (by decide) h))
  have hmod:a/2^k%2≤1:=by have:=aPz (a/2^k) (show 0<2 by decide);exact Nat.le_of_lt_succ this
  revert IH hA hle hbit hz hmod
  generalize a/2^k=A
  have hB: ∃B,a/2^(k+1)=B:=⟨_,rfl⟩
  obtain⟨B,hB⟩:=hB
  rw[hB]
  intro IH hA hle hbit hz hmod
  have hB10:B%10<10:=aPz _ (by decide)
  have key: ∀t:Nat,t≤1→A%2=t→j1 N (u1 a) (u1 10) (k:Int) (u1 (B/10*2^(k+1))) false (cR N (u1 a) (u1 10) f) (u1 (2*(B%10)+t))=some (u1 (a/10),u1 (a%10)):=by
   intro t ht hbt
   have hA2:A=2*B+t:=by omega
   unfold j1
   rw[if_neg (by decide),o4,aOg,aHr hN,aOg,cge]
   have hwk:aOj.wrap ((k:Int)-1)=(k:Int)-1:=fK (by omega) (by omega)
   by_cases hc:10≤2*(B%10)+t
   ·obtain⟨s1,s2⟩:=aJK B t hc ht
    have hk64:k<64:=by
     rcases Nat.lt_or_ge k 64 with h|h
     ·exact h
     have:=hz h;omega
    have hQ:B/10*2^(k+1)+2^k=A/10*2^k:=by rw[hA2,s2,aOZ];exact aNU _ _
    have hlt:B/10*2^(k+1)+2^k<18446744073709551616:=by
     rw[hQ]
     exact aOW (aOI (Nat.mul_le_mul_right _ (Nat.div_le_self _ _)) hle) ha
    have hd:aOj.wrap (Int.tdiv (k:Int) 64)=0:=by
     rw[show Int.tdiv (k:Int) 64=((k/64:Nat):Int)from aCK k 64,aOO hk64];rfl
    have hm:Int.tmod (k:Int) 64=(k:Int):=(aCH k 64).trans (by rw[aO0 hk64])
    have hsh:shl .u64 1 (k:Int)=some ((2^k:Nat):Int):=by
     have:=aIg (k:= .u64) rfl 1 k
     rw[Nat.one_mul,show aPr .u64=64 from rfl,aO0 (show 2^k<2^64 from aPp (by decide) hk64)]at this
     exact this
    rw[decide_eq_true hc]
    unfold j2
    rw[if_pos rfl,o4,aOg,aMh hN hc (by omega),aOg]
    simp only[o4,aOg]
    rw[hd,au0,aOg,hm,hsh,aOg,aL0 hk64 rfl hlt]
    unfold j9
    rw[hwk,hQ,s1,←hA2]
    exact IH
   obtain⟨s1,s2⟩:=aKU B t hc ht
   have hQ:B/10*2^(k+1)=A/10*2^k:=by rw[hA2,s2,aOZ];exact aMR _ _
   rw[decide_eq_false hc]
   unfold j2
   rw[if_neg (by decide)]
   unfold j9
   rw[hwk,hQ,s1,←hA2]
   exact IH
  have h255:iL N (u1 (B%10)) 255=some false:=by
   have:=aHt (N:=N) (a:=B%10) (i:=255) (by omega) (by decide)
   rw[aOO (aOm hB10 (show 10≤2^255 by decide))]at this
   exact this
  unfold cR
  rw[show(((k+1:Nat):Int)-1)=(k:Int) by omega,if_pos (decide_eq_true (by omega)),o4,aOg,h255,aOg,aLM hN (by omega),aOg]
  simp only[o4,aOg]
  rw[hbit,aOg,show B%10+B%10=2*(B%10) by omega]
  by_cases hb:A%2=1
  ·rw[if_pos (decide_eq_true hb),au0,aOg,aNa _ (by omega) (by omega)]
   exact key 1 (by omega) hb
  rw[if_neg (by simpa using hb)]
  exact key 0 (by omega) (by omega)
theorem aJe {N:Nat}(hN:300≤N){a:Nat}(ha:a<18446744073709551616):oH N [0,0,0,0] (u1 a) (u1 10)=some (u1 (a/10),u1 (a%10),true):=by
 have h:=zU hN ha 256 N (by omega) (by omega)
 rw[aOO (aOm ha (show 18446744073709551616≤2^256 by decide)),aPm,Nat.zero_mul,Nat.zero_mod]at h
 have h0:([0,0,0,0]:List Int)=u1 0:=rfl
 have hc:lS N (u1 10) (u1 0)=some 1:=aHr hN 10 0
 unfold oH
 rw[h0,o4,aOg,o4,aOg,hc,aOg,if_neg (by decide),show cR N (u1 a) (u1 10) N 255 (aPd 4 0) (u1 0)=some (u1 (a/10),u1 (a%10))from h,aOg]
 unfold oM
 simp only[o4,aOg]
theorem aA0 {N:Nat}(hN:300≤N): ∀(d m a:Nat)(l:List UInt8),d<m→a<10^(d+1)→a<18446744073709551616→l.length+d≤1000→fH N m (aH l) (u1 a)=some (.ret (aH (Lib.decDigits a++l)))
 |d,0,_,_,h,_,_,_=>by omega
 |d,m+1,a,l,hd,hp,ha,hl=>by
  have e10:gA N 10=some (u1 10):=rfl
  have hr:a%10<10:=aPz _ (by decide)
  have hw:aPn.wrap (IntKind.u64.wrap (48+((a%10:Nat):Int)))=((48+a%10:Nat):Int):=by
   rw[wu64 (by omega) (by omega),wu8 (by omega) (by omega)];omega
  have hs:mO [((48+a%10:Nat):Int)]=aH [UInt8.ofNat (48+a%10)]:=by
   rw[xL];rfl
  unfold fH
  rw[o4,aOg,e10,aOg,aJe hN ha,aOg]
  simp only[o4,au0,aOg]
  rw[hw,hs,yS (by simp;omega),aOg,aJ6,aOg]
  by_cases h:a/10=0
  ·rw[if_pos (decide_eq_true h),Lib.decDigits_one (by omega),show a%10=a by omega]
  rw[if_neg (by rw[decide_eq_true_eq];exact h)]
  cases d with
  |zero=>simp at hp;omega
  |succ d=>
   rw[aA0 hN d m (a/10) ([UInt8.ofNat (48+a%10)]++l) (by omega) (by rw[aOZ]at hp;omega) (by omega) (by simp;omega)]
   rw[show Lib.decDigits a=Lib.decDigits (a/10)++[UInt8.ofNat (48+a%10)]from by conv=>lhs;rw[Lib.decDigits,dif_neg (by omega)]]
   rw[aOw]
theorem aKW {N:Nat}(hN:300≤N){a:Nat}(h:a<1000000000):mI N [(a:Int),0,0,0]=some (aH (Lib.decDigits a)):=by
 unfold mI
 rw[show fH N N aO3 [(a:Int),0,0,0]=some (.ret (aH (Lib.decDigits a++[])))from aA0 hN 8 N a [] (by omega) (by omega) (by omega) (by decide)]
 rw[aOg,aOy]
theorem aD9 {N:Nat}(hN:300≤N){n:Int}(h:rg n):bW N n=some (bR n):=by
 obtain⟨h0,h1⟩:=h
 have hd:=yT n.natAbs (by omega)
 unfold bW
 rw[if_pos ⟨h0,h1⟩,aKW hN (by omega)]
 simp only
 rw[if_pos (by rw[aZ];omega),iJ]
 unfold Lib.itoa
 by_cases hn:n<0
 ·rw[if_pos hn,if_pos hn,show(⟨#[45]⟩:ByteArray)=aH [45]from rfl,oL];rfl
 rw[if_neg hn,if_neg hn,show n.natAbs=n.toNat by omega]
theorem aLF (N:Nat)(k:Int):gE N k=some (Tryz.nmOf k):=by
 by_cases h:1≤k∧k≤7
 ·rcases(by omega:k=1∨k=2∨k=3∨k=4∨k=5∨k=6∨k=7)with rfl|rfl|rfl|rfl|rfl|rfl|rfl<;>rfl
 have hf:Tryz.forms.find? (fun x=>x.2.1 == k)=none:=by
  rw[List.find?_eq_none]
  intro x hx
  simp only[Tryz.forms,aOz,aOt,or_false]at hx
  rw[beq_iff_eq]
  rcases hx with rfl|rfl|rfl|rfl|rfl|rfl|rfl<;>(simp only;omega)
 have hr:Tryz.nmOf k=(⟨#[]⟩,⟨#[]⟩):=by unfold Tryz.nmOf;rw[hf]
 rw[hr]
 unfold gE kS
 by_cases h1:k<1
 ·rw[if_pos (decide_eq_true h1),if_pos rfl];rfl
 rw[if_neg (by rw[decide_eq_true_eq];exact h1),if_pos (decide_eq_true (by omega))];rfl
theorem aEs (itoa:Int→ByteArray)(a:Tryz.A4): ∀(cs:List UInt8)(b:Tryz.A4)(l:ByteArray),cs.Nodup→(∀c∈cs,c=65∨c=66∨c=78)→(∀c∈cs,Tryz.getF b c=Tryz.getF a c)→Tryz.runH itoa a cs {b with kind:=0} l=(Tryz.runG itoa cs b l).map fun x=>(x.1,{x.2 with kind:=0})
 | [],b,l,_,_,_=>rfl
 |c::cs,b,l,hn,hl,h=>by
  have hc:=h c aOo
  have hn2:=List.nodup_cons.1 hn
  have hlc:=hl c aOo
  unfold Tryz.runH Tryz.runG
  rw[hc]
  by_cases hr:Tryz.getF a c < -999999999∨999999999<Tryz.getF a c
  ·rw[if_pos hr,if_pos hr];rfl
  rw[if_neg hr,if_neg hr]
  have e:Tryz.setF {b with kind:=0} c 0={Tryz.setF b c 0 with kind:=0}:=by
   rcases hlc with rfl|rfl|rfl<;>rfl
  rw[e,ByteArray.append_assoc]
  refine aEs itoa a cs (Tryz.setF b c 0) _ hn2.2 (fun d hd=>hl d (aOk _ hd)) fun d hd=> ?_
  have hne:d≠c:=fun e=>hn2.1 (e▸hd)
  rw[←h d (aOk _ hd)]
  rcases hl d (aOk _ hd)with rfl|rfl|rfl<;>rcases hlc with rfl|rfl|rfl<;>first|exact absurd rfl hne|rfl
theorem aBD : ∀(cs:List UInt8)(b b':Tryz.A4)(l l':ByteArray),Tryz.runG bR cs b l=some (l',b')→l'.size≤l.size+11*cs.length
 | [],b,b',l,l',h=>by
  have h:=aOp h
  rw[Prod.mk.injEq]at h
  rw[h.1];omega
 |c::cs,b,b',l,l',h=>by
  unfold Tryz.runG at h
  by_cases hr:Tryz.getF b c < -999999999∨999999999<Tryz.getF b c
  ·rw[if_pos hr]at h;cases h
  rw[if_neg hr]at h
  have h1:=aBD cs _ _ _ _ h
  have h2:=uU (n:=Tryz.getF b c) ⟨by omega,by omega⟩
  rw[aOJ,aOJ,iJ,aZ]at h1
  have h3:(⟨#[32]⟩:ByteArray).size=1:=rfl
  rw[aOl]
  omega
theorem aGl : ∀x∈Tryz.forms,x.2.2.data.toList.Nodup∧(∀c∈x.2.2.data.toList,c=65∨c=66∨c=78)∧x.1.size≤6∧x.2.2.data.toList.length≤3:=by
 intro x hx
 simp only[Tryz.forms,aOz,aOt,or_false]at hx
 rcases hx with rfl|rfl|rfl|rfl|rfl|rfl|rfl<;>decide
theorem aFJ (a:Tryz.A4):(Tryz.lineRf bR a).2=(Tryz.formatR bR a).2∧((Tryz.formatR bR a).2=true→(Tryz.lineRf bR a).1=(Tryz.formatR bR a).1∧(Tryz.formatR bR a).1.size≤50):=by
 unfold Tryz.lineRf Tryz.formatR
 cases hf:Tryz.forms.find? (fun x=>x.2.1 == a.kind) with
 |none=>exact⟨rfl,fun h=>by cases h⟩
 |some x=>
  obtain⟨f1,f2,f3,f4⟩:=aGl x (aPc hf)
  simp only
  rw[aEs bR a _ a x.1 f1 f2 fun _ _=>rfl]
  cases hg:Tryz.runG bR x.2.2.data.toList a x.1 with
  |none=>exact⟨rfl,fun h=>by cases h⟩
  |some y=>
   obtain⟨l,b⟩:=y
   have hz:=aBD _ _ _ _ _ hg
   simp only[Option.map_some]
   by_cases hb:b.a≠0∨b.b≠0∨b.n≠0
   ·rw[if_pos hb]
    refine⟨?_,fun h=>by cases h⟩
    rcases hb with h|h|h<;>simp[h]
   rw[if_neg hb]
   have h1:b.a=0:=by omega
   have h2:b.b=0:=by omega
   have h3:b.n=0:=by omega
   refine⟨by simp[h1,h2,h3],fun _=>⟨rfl, ?_⟩⟩
   simp only
   rw[aOJ]
   have h4:(⟨#[10]⟩:ByteArray).size=1:=rfl
   omega
theorem aAX {f g:Int→ByteArray}(hfg: ∀n,rg n→f n=g n)(a:Tryz.A4): ∀(cs:List UInt8)(r:Tryz.A4)(l:ByteArray),Tryz.runH f a cs r l=Tryz.runH g a cs r l
 | [],_,_=>rfl
 |c::cs,r,l=>by
  unfold Tryz.runH
  by_cases hr:Tryz.getF a c < -999999999∨999999999<Tryz.getF a c
  ·rw[if_pos hr,if_pos hr]
  rw[if_neg hr,if_neg hr,hfg _ ⟨by omega,by omega⟩]
  exact aAX hfg a cs _ _
theorem aHd {N:Nat}(hN:300≤N)(k a b n:Int):mH N k a b n=some ((Tryz.lineRf bR ⟨k,a,b,n⟩).1,(Tryz.lineRf bR ⟨k,a,b,n⟩).2):=by
 have hg: ∀n,rg n→(bW N n).getD ⟨#[]⟩=bR n:=fun n h=>by rw[aD9 hN h];rfl
 have hall:([a,b,n].all fun n=>decide (n < -999999999∨999999999<n) || ((bW N n).isSome&&decide (((bW N n).getD ⟨#[]⟩).size≤20)))=true:=by
  rw[aOs]
  intro m _
  by_cases h:m < -999999999∨999999999<m
  ·rw[decide_eq_true h];rfl
  have hm:rg m:=⟨by omega,by omega⟩
  have hz:=uU hm
  rw[aD9 hN hm,decide_eq_false h]
  simp only[Option.isSome_some,Option.getD_some,Bool.false_or,aPg]
  exact decide_eq_true (by rw[iJ,aZ];omega)
 have hl:Tryz.lineRf (fun n=>(bW N n).getD ⟨#[]⟩) ⟨k,a,b,n⟩=Tryz.lineRf bR ⟨k,a,b,n⟩:=by
  unfold Tryz.lineRf
  cases Tryz.forms.find? (fun x=>x.2.1 == (⟨k,a,b,n⟩:Tryz.A4).kind) with
  |none=>rfl
  |some x=>
   simp only
   rw[aAX hg]
 unfold mH
 rw[if_pos ⟨aLF N k,hall⟩,hl]
theorem aCW {xs:List aC}(hl:xs.length≤256): ∀(m i:Nat)(t:ByteArray),i≤xs.length→xs.length-i<m→t.size≤50*i→ ∃q,cY NN xs m t (i:Int)=some q∧eZ NN xs m t (i:Int)=some q
 |0,i,_,_,h,_=>by omega
 |m+1,i,t,hi,h,ht=>by
  have hb:=eW
  rw[cY,eZ]
  by_cases hlt:i<xs.length
  ·obtain⟨e1,e2⟩:=aFJ ⟨xs[i].Kind,xs[i].A,xs[i].B,xs[i].N⟩
   rw[if_pos (dT hlt),if_pos (dT hlt),qF xs hlt,aOg,aOg,aHd (by decide),aOg]
   unfold kB
   rw[aOg]
   simp only
   rw[e1]
   by_cases ho:(Tryz.formatR bR ⟨xs[i].Kind,xs[i].A,xs[i].B,xs[i].N⟩).2=true
   ·obtain⟨e3,e4⟩:=e2 ho
    rw[ho,e3,if_neg (by decide),if_neg (by decide)]
    revert e4
    generalize (Tryz.formatR bR ⟨xs[i].Kind,xs[i].A,xs[i].B,xs[i].N⟩).1=s
    intro e4
    have hc:qM t s=some (t++s):=by
     unfold qM
     rw[if_pos (by omega)]
    rw[hc,aOg,aOg,show aOj.wrap ((i:Int)+1)=((i+1:Nat):Int) by rw[fK (by omega) (by omega)];simp]
    exact aCW hl m (i+1) (t++s) (by omega) (by omega) (by rw[aOJ];omega)
   rw[show(Tryz.formatR bR ⟨xs[i].Kind,xs[i].A,xs[i].B,xs[i].N⟩).2=false by simpa using ho,if_pos (by decide),if_pos (by decide)]
   exact⟨_,rfl,rfl⟩
  rw[if_neg (by rw[dF hlt];decide),if_neg (by rw[dF hlt];decide)]
  exact⟨_,rfl,rfl⟩
theorem aCO {xs:List aC}(hl:xs.length≤256): ∃r,eA NN xs=some r∧j8 NN xs=some r:=by
 unfold eA j8
 rw[if_neg (by rw[decide_eq_true_eq];omega),if_neg (by rw[decide_eq_true_eq];omega)]
 obtain⟨q,h1,h2⟩:=aCW hl NN 0 aO3 (by omega) (by show _<70000;omega) (by decide)
 rw[show(0:Int)=((0:Nat):Int)from rfl,h1,h2,aOg,aOg]
 cases q with
 |ret v=>exact⟨v,rfl,rfl⟩
 |brk p=>
  simp only
  unfold hY lA
  by_cases h:(16384:Int)<(p.size:Int)
  ·rw[if_pos (decide_eq_true h)]
   exact⟨_,rfl,rfl⟩
  rw[if_neg (by rw[decide_eq_true_eq];exact h)]
  exact⟨_,rfl,rfl⟩
theorem aBU (raw:List aC)(hr:raw.length≤30)(x:(List aC)×(List Int)×Int): ∀(m i:Nat)(ys:List aC),i≤raw.length→raw.length-i<m→ys.length=i→ ∃zs,bL NN raw x m (i:Int) ys=some zs∧zs.length=raw.length
 |0,i,_,_,h,_=>by omega
 |m+1,i,ys,hi,h,hy=>by
  have hb:=eW
  rw[bL]
  by_cases hlt:i<raw.length
  ·rw[if_pos (dT hlt),qF raw hlt,aOg]
   obtain⟨k,_,_,e1⟩:=aAw NN raw[i].Kind (n:=9) (by decide) (by decide)
   obtain⟨a,_,_,e2⟩:=aAw NN raw[i].A (n:=3) (by decide) (by decide)
   obtain⟨n,_,_,e3⟩:=aAw NN raw[i].N (n:=3) (by decide) (by decide)
   rw[show fA NN raw[i].Kind 9=some k from e1,aOg,show fA NN raw[i].A 3=some a from e2,aOg,show fA NN raw[i].N 3=some n from e3,aOg]
   have key: ∀c:Int,∃zs,dC NN raw x (i:Int) ys k a n (bL NN raw x m) c=some zs∧zs.length=raw.length:=fun c=>by
    unfold dC
    rw[iY (by simp;omega),aOg,show aOj.wrap ((i:Int)+1)=((i+1:Nat):Int) by rw[fK (by omega) (by omega)];simp]
    exact aBU raw hr x m (i+1) _ (by omega) (by omega) (by simp;omega)
   split
   ·exact key _
   exact key _
  rw[if_neg (by rw[dF hlt];decide)]
  exact⟨ys,rfl,by omega⟩
theorem wE (l:List Int)(raw:List aC):eX NN l raw=some true:=by
 unfold eX
 rw[show iD NN=some true from rfl,aOg,if_neg (by decide)]
 by_cases h:30<raw.length
 ·rw[if_pos (decide_eq_true (by omega))]
 rw[if_neg (by rw[decide_eq_true_eq];omega),show lM NN l=some (l,0)from rfl,aOg]
 simp only
 obtain⟨xs,pos,e1,h8,hv⟩:=aEl l
 rw[e1,aOg]
 obtain⟨ys,e2,h9⟩:=aBU raw (by omega) (xs,l,(pos:Int)) NN 0 [] (by omega) (by show _<70000;omega) rfl
 rw[show((0:Nat):Int)=0 from rfl]at e2
 rw[e2,aOg]
 unfold fM
 have step: ∀(z:List aC)(m k:Nat),k<3→eG [xs,ys,raw] (k:Int)=some z→z.length≤256→aY NN raw (xs,l,(pos:Int)) ys (m+1) (k:Int)=aY NN raw (xs,l,(pos:Int)) ys m ((k+1:Nat):Int):=by
  intro z m k hk hi hz
  obtain⟨r,f1,f2⟩:=aCO hz
  rw[aY,if_pos (decide_eq_true (by omega)),hi,aOg,f1,aOg,f2,aOg,if_neg (by simp)]
  unfold eD
  rw[if_neg (by simp),show aOj.wrap ((k:Int)+1)=((k+1:Nat):Int) by rw[fK (by omega) (by omega)];simp]
 rw[show aY NN raw (xs,l,(pos:Int)) ys NN 0=aY NN raw (xs,l,(pos:Int)) ys (69996+1+1+1+1) ((0:Nat):Int)from rfl,
  step xs _ 0 (by decide) rfl (by omega),step ys _ 1 (by decide) rfl (by omega),step raw _ 2 (by decide) rfl (by omega),aY,if_neg (by decide),aOg]
 rfl
theorem i1B {j:Nat}(hj:j≤1000000):aOj.wrap ((j:Int)+1)=((j+1:Nat):Int):=by rw[fK (by omega) (by omega)];simp
theorem aEj {α:Type}(l:List α){k j:Nat}(h1:k≤j)(h2:j≤l.length):l.drop k=(l.take j).drop k++l.drop j:=by
 have:=aO1 (l₁:=l.take j) (l₂:=l.drop j) (i:=k) (by rw[aOD];omega)
 rwa[List.take_append_drop]at this
theorem aBT {α:Type}(l:List α){k j:Nat}(h1:k≤j)(h2:j<l.length):(l.take (j+1)).drop k=(l.take j).drop k++[l[j]]:=by
 rw[aOQ,aOv h2]
 exact aO1 (by rw[aOD];omega)
theorem aCL {α:Type}(l:List α){k j:Nat}(h1:k≤j)(h2:j≤l.length):((l.take j).drop k).length=j-k:=by
 rw[aOR,aOD];omega
def Wd (l:List UInt8):List (List UInt8):=W (l.length+1) l
theorem aIW :Wd []=[]:=by simp[Wd,W]
theorem aKN (v:List UInt8):Wd (32::v)=Wd v:=by
 unfold Wd
 rw[W,if_neg (by simp),if_pos (by rw[aO7 (by simp[wd])])]
 rfl
theorem aIE (u v:List UInt8)(h0:u≠ [])(hu:u.all wd=true):Wd (u++32::v)=u::Wd v:=by
 unfold Wd
 rw[W,if_neg (by simp),aAt u hu 32 (by decide) v,if_neg h0,show(u++32::v).drop (u.length+1)=v by simp]
 rw[aFN (by simp;omega) (v.length+1) (by omega)]
theorem aHz (u:List UInt8)(h0:u≠ [])(hu:u.all wd=true):Wd u=[u]:=by
 unfold Wd
 rw[W,if_neg h0,aBv u hu,if_neg h0,aOr (by omega)]
 cases u.length<;>simp[W]
theorem tW {N:Nat}{l:List UInt8}(hl:l.length≤100000): ∀(m k j:Nat)(l0:List ByteArray),k≤j→j≤l.length→l.length+1-j<m→((l.take j).drop k).all wd=true→l0.length≤k→b5 N (aH l) m (k:Int) (j:Int) l0=some (l0++(Wd (l.drop k)).map aH)
 |0,k,j,l0,_,_,h,_,_=>by omega
 |m+1,k,j,l0,hkj,hj,h,ha,h0=>by
  have hb:=eW
  have hp:=aEj l hkj hj
  have hlen:=aCL l hkj hj
  rw[b5,aZ,if_pos (decide_eq_true (by omega))]
  by_cases hlt:j<l.length
  ·rw[if_pos (dT hlt),g6 l hlt,aOg,show(((l[j].toNat:Nat):Int) != 32)=wd l[j]from s5 l[j] (n:=32) (by decide)]
   unfold iO
   cases hw:wd l[j] with
   |true=>
    rw[if_pos rfl]
    unfold fW
    rw[i1B (by omega)]
    exact tW hl m k (j+1) l0 (by omega) (by omega) (by omega) (by rw[aBT l hkj hlt,aOL,ha];simp[hw]) h0
   |false=>
    have hc:l[j]=32:=by simpa[wd]using hw
    have hd:l.drop j=32::l.drop (j+1):=by rw[aOE hlt,hc]
    have nx: ∀l1:List ByteArray,l1.length≤j+1→eR N (aH l) (j:Int) (b5 N (aH l) m) l1=some (l1++(Wd (l.drop (j+1))).map aH):=fun l1 h1=>by
     unfold eR fW
     rw[i1B (by omega)]
     exact tW hl m (j+1) (j+1) l1 (by omega) (by omega) (by omega) (by rw[aOr (by rw[aOD];omega)];rfl) h1
    rw[if_neg (by decide),hp,hd]
    by_cases hk:k<j
    ·rw[if_pos (decide_eq_true (by omega)),jR l (by omega) (by omega),aOg,iY (by simp;omega),aOg,nx _ (by simp;omega)]
     rw[aIE _ _ (by intro e;rw[e]at hlen;simp at hlen;omega) ha]
     simp
    have:k=j:=by omega
    subst this
    rw[if_neg (by rw[decide_eq_true_eq];omega),nx _ (by omega)]
    rw[show(l.take k).drop k=[]from aOr (by rw[aOD];omega),aPl,aKN]
  have:j=l.length:=by omega
  subst this
  rw[if_neg (by rw[decide_eq_true_eq];omega)]
  have nx: ∀l1:List ByteArray,eR N (aH l) (l.length:Int) (b5 N (aH l) m) l1=some l1:=fun l1=>by
   unfold eR fW
   rw[i1B (by omega)]
   cases m with
   |zero=>omega
   |succ m=>rw[b5,aZ,if_neg (by rw[decide_eq_true_eq];omega)]
  rw[aOC]at ha hlen
  unfold iO
  rw[if_neg (by decide)]
  by_cases hk:k<l.length
  ·rw[if_pos (decide_eq_true (by omega)),jR l (by omega) (by omega),aOg,iY (by simp;omega),aOg,nx,aOC,aHz _ (by intro e;rw[e]at hlen;simp at hlen;omega) ha]
   simp
  rw[if_neg (by rw[decide_eq_true_eq];omega),nx,aOr (by omega),aIW]
  simp
theorem aFM {N:Nat}{l:List UInt8}(hl:l.length≤50000)(hN:l.length+1<N):nF N (aH l)=some ((W (l.length+1) l).map aH):=by
 unfold nF
 have:=tW (N:=N) (l:=l) (by omega) N 0 0 [] (by omega) (by omega) (by omega) (by simp) (by simp)
 rw[show((0:Nat):Int)=0 from rfl]at this
 rw[this,aOg]
 unfold mK
 simp[Wd]
def zQ :Nat→List UInt8→List (List UInt8)
 |0,_=>[]
 |n+1,l=>if l=[]then []else l.takeWhile ln::zQ n (l.drop ((l.takeWhile ln).length+1))
theorem aGh {l:List UInt8}: ∀{n:Nat},l.length<n→ ∀m,l.length<m→zQ n l=zQ m l:=by
 intro n
 induction n generalizing l with
 |zero=>intro h;omega
 |succ n ih=>
  intro hn m hm
  cases m with
  |zero=>omega
  |succ m=>
   unfold zQ
   by_cases h0:l=[]
   ·rw[if_pos h0,if_pos h0]
   rw[if_neg h0,if_neg h0]
   have hl:0<l.length:=aOu.2 h0
   rw[ih (l:=l.drop _) (by simp;omega) m (by simp;omega)]
def LL (l:List UInt8):List (List UInt8):=zQ (l.length+1) l
theorem aCI :LL []=[]:=by simp[LL,zQ]
theorem aBr {l:List UInt8}(h:l≠ []):LL l=l.takeWhile ln::LL (l.drop ((l.takeWhile ln).length+1)):=by
 have hl:0<l.length:=aOu.2 h
 unfold LL
 rw[zQ,if_neg h,aGh (l:=l.drop ((l.takeWhile ln).length+1)) (by simp;omega) _ (aPi _)]
theorem aJl (l:List UInt8):(LL l).length≤l.length:=by
 have: ∀(n:Nat)(l:List UInt8),(zQ n l).length≤l.length:=by
  intro n
  induction n with
  |zero=>intro l;simp[zQ]
  |succ n ih=>
   intro l
   unfold zQ
   by_cases h0:l=[]
   ·rw[if_pos h0];simp
   have hl:0<l.length:=aOu.2 h0
   have:=ih (l.drop ((l.takeWhile ln).length+1))
   rw[if_neg h0,aOl]
   rw[aOR]at this
   omega
 exact this _ _
theorem aHY (u v:List UInt8)(hu:u.all ln=true):LL (u++10::v)=u::LL v:=by
 rw[aBr (by simp),aAt u hu 10 (by decide) v,show(u++10::v).drop (u.length+1)=v by simp]
theorem aH4 (u:List UInt8)(h0:u≠ [])(hu:u.all ln=true):LL u=[u]:=by
 rw[aBr h0,aBv u hu,aOr (by omega),aCI]
theorem tJ {N:Nat}{l:List UInt8}(hl:l.length≤100000): ∀(m k j:Nat)(l0:List ByteArray),k≤j→j≤l.length→l.length-j<m→((l.take j).drop k).all ln=true→l0.length≤k→((d9 N (aH l) m (k:Int) (j:Int) l0).bind fun p3=>j6 N (aH l) p3.1 p3.2)=some (l0++(LL (l.drop k)).map aH)
 |0,k,j,l0,_,_,h,_,_=>by omega
 |m+1,k,j,l0,hkj,hj,h,ha,h0=>by
  have hb:=eW
  have hp:=aEj l hkj hj
  have hlen:=aCL l hkj hj
  rw[d9,aZ]
  by_cases hlt:j<l.length
  ·rw[if_pos (dT hlt),g6 l hlt,aOg]
   have hne:(((l[j].toNat:Nat):Int) != 10)=ln l[j]:=s5 l[j] (n:=10) (by decide)
   cases hw:ln l[j] with
   |true=>
    have he:(((l[j].toNat:Nat):Int) == 10)=false:=by
     rw[hw]at hne;simpa[bne]using hne
    rw[he,if_neg (by decide)]
    unfold iP
    rw[i1B (by omega)]
    exact tJ hl m k (j+1) l0 (by omega) (by omega) (by omega) (by rw[aBT l hkj hlt,aOL,ha];simp[hw]) h0
   |false=>
    have he:(((l[j].toNat:Nat):Int) == 10)=true:=by
     rw[hw]at hne;simpa[bne]using hne
    have hc:l[j]=10:=by simpa[ln]using hw
    have hd:l.drop j=10::l.drop (j+1):=by rw[aOE hlt,hc]
    rw[he,if_pos rfl,jR l (by omega) (by omega),aOg,iY (by simp;omega),aOg]
    unfold iP
    rw[i1B (by omega),tJ hl m (j+1) (j+1) _ (by omega) (by omega) (by omega) (by rw[aOr (by rw[aOD];omega)];rfl) (by simp;omega)]
    rw[hp,hd,aHY _ _ ha]
    simp
  have:j=l.length:=by omega
  subst this
  rw[aOC]at ha hlen
  rw[if_neg (by rw[dF (by omega)];decide),aOg]
  unfold j6 jX
  rw[aZ]
  by_cases hk:k<l.length
  ·rw[if_pos (dT hk),jR l (by omega) (by omega),aOg,iY (by simp;omega),aOg,aOC,aH4 _ (by intro e;rw[e]at hlen;simp at hlen;omega) ha]
   simp
  rw[if_neg (by rw[dF hk];decide),aOr (by omega),aCI]
  simp
theorem aFr {N:Nat}{l:List UInt8}(hl:l.length≤50000)(hN:l.length<N):nG N (aH l)=some ((LL l).map aH):=by
 unfold nG
 have:=tJ (N:=N) (l:=l) (by omega) N 0 0 [] (by omega) (by omega) (by omega) (by simp) (by simp)
 rw[show((0:Nat):Int)=0 from rfl]at this
 rw[this]
 simp
theorem aFC {N:Nat}{d:List UInt8}{sg:Int}(hd:d.length≤9): ∀(m i:Nat),i≤d.length→d.length-i<m→(d.take i).all hJ=true→dS N (aH d) sg m (iU (d.take i):Int) (i:Int)=if(d.drop i).all hJ=true then some (.brk (iU d:Int))else some (.ret (0,false))
 |0,i,_,h,_=>by omega
 |m+1,i,hi,h,ha=>by
  rw[dS]
  simp only[aZ]
  by_cases hlt:i<d.length
  ·rw[if_pos (by simpa using hlt),g6 d hlt,aOg]
   have hdr:d.drop i=d[i]::d.drop (i+1):=aOE hlt
   have htk:d.take (i+1)=d.take i++[d[i]]:=by rw[aOQ,aOv hlt];rfl
   have hv:=rK i (d.take i) (by rw[aOD];omega) ha
   have hp:10^i≤10^9:=aOB (by decide) (by omega)
   rw[hdr,aOM]
   by_cases h1:d[i].toNat<48
   ·rw[if_pos (decide_eq_true (by omega)),show hJ d[i]=false by simp[hJ];omega]
    unfold gW
    simp
   rw[if_neg (by rw[decide_eq_true_eq];omega)]
   unfold gW
   by_cases h2:57<d[i].toNat
   ·rw[if_pos (decide_eq_true (by omega)),show hJ d[i]=false by simp[hJ];omega]
    simp
   have hdg:hJ d[i]=true:=by simp[hJ];omega
   rw[if_neg (by rw[decide_eq_true_eq];omega),hdg,aPg,g6 d hlt,aOg]
   have e1:aPn.wrap (((d[i].toNat:Nat):Int)-48)=((d[i].toNat-48:Nat):Int):=by
    rw[xH (by rfl),aPq (by omega) (by simp[aPr];omega)];omega
   have e2:aOj.wrap ((aOj.wrap (10*((iU (d.take i):Nat):Int)))+(aOj.wrap (aPn.wrap (((d[i].toNat:Nat):Int)-48))))=((iU (d.take (i+1)):Nat):Int):=by
    rw[e1,fK (a:=10*((iU (d.take i):Nat):Int)) (by omega) (by omega),fK (a:=((d[i].toNat-48:Nat):Int)) (by omega) (by omega),fK (by omega) (by omega),htk,s8]
    omega
   rw[e2,show aOj.wrap ((i:Int)+1)=((i+1:Nat):Int) by rw[fK (by omega) (by omega)];simp]
   exact aFC hd m (i+1) (by omega) (by omega) (by rw[htk,aOL,ha];simp[hdg])
  have:i=d.length:=by omega
  subst this
  rw[if_neg (by simp),aPt,if_pos (by rfl),aOC]
theorem aDk {N:Nat}(hN:10≤N)(d:List UInt8)(ng:Bool)(sg:Int)(hs:sg=if ng=true then -1 else 1):gT N (aH d) sg=some (if d.length<1∨9<d.length∨d.head? =some 48 then(0,false)else if d.all hJ=true then(if ng=true then(-(iU d:Int),true)else((iU d:Int),true))else(0,false)):=by
 unfold gT
 rw[aZ]
 by_cases h1:d.length<1
 ·rw[if_pos (decide_eq_true (by omega)),if_pos (.inl h1)]
  unfold eJ
  rw[if_pos rfl]
 rw[if_neg (by rw[decide_eq_true_eq];omega)]
 by_cases h2:9<d.length
 ·rw[if_pos (decide_eq_true (by omega)),if_pos (.inr (.inl h2))]
  unfold eJ
  rw[if_pos rfl]
 rw[if_neg (by rw[decide_eq_true_eq];omega),show(0:Int)=((0:Nat):Int)from rfl,g6 d (by omega),aOg]
 cases d with
 |nil=>simp at h1
 |cons c r=>
  have hne:(((((c::r)[0]'(by simp)).toNat:Nat):Int) != 48)=(c != 48):=s5 c (n:=48) (by decide)
  have he:(((((c::r)[0]'(by simp)).toNat:Nat):Int) == 48)=(c == 48):=by simpa[bne]using congrArg (!·) hne
  rw[he]
  unfold eJ
  by_cases h3:c=48
  ·rw[if_pos (by simpa using h3),if_pos (.inr (.inr (by rw[h3];rfl)))];rfl
  rw[if_neg (by simpa using h3),if_neg (by simp only[aO4,aOK,not_or];exact⟨h1,h2,h3⟩)]
  have:=aFC (N:=N) (d:=c::r) (sg:=sg) (by omega) N 0 (by omega) (by omega) (by rfl)
  rw[show((iU ((c::r).take 0):Nat):Int)=0 from rfl,show((0:Nat):Int)=0 from rfl,List.drop_zero]at this
  rw[this]
  by_cases ha:(c::r).all hJ=true
  ·rw[if_pos ha,if_pos ha,aOg]
   simp only
   unfold lB
   have hv:=rK _ _ rfl ha
   have hp:10^(c::r).length≤10^9:=aOB (by decide) (by omega)
   cases ng with
   |true=>rw[if_pos rfl]at hs;subst hs;rw[if_pos rfl,fK (by omega) (by omega)];congr 2;omega
   |false=>rw[if_neg (by decide)]at hs;subst hs;rw[if_neg (by decide),fK (by omega) (by omega)];congr 2;omega
  rw[if_neg ha,if_neg ha];rfl
theorem aAF {N:Nat}(hN:10≤N)(l:List UInt8):cS N (aH l)=some (mY l):=by
 unfold cS
 rw[rV,rV,cB,show(⟨#[48]⟩:ByteArray).data.toList=[48]from rfl]
 by_cases h0:l=[48]
 ·subst h0
  rw[if_pos (by decide)]
  congr 1
 rw[if_neg (by simpa using h0),aZ]
 have bad: ∀(d:List UInt8)(ng:Bool),dU l=d→iF l=ng→(if d.length<1∨9<d.length∨d.head? =some 48 then((0:Int),false)else if d.all hJ=true then(if ng=true then(-(iU d:Int),true)else((iU d:Int),true))else(0,false))=mY l:=by
  intro d ng hd hn
  unfold mY lQ
  rw[hd,hn]
  by_cases h1:d.length<1
  ·rw[if_pos (.inl h1),if_pos (by simp[h1])]
  by_cases h2:9<d.length
  ·rw[if_pos (.inr (.inl h2)),if_pos (by simp[h2])]
  by_cases h3:d.head? =some 48
  ·rw[if_pos (.inr (.inr h3)),if_pos]
   rw[decide_eq_false h1,decide_eq_false h2,h3]
   cases ng with
   |true=>rfl
   |false=>
    have hdl:dU l=l:=by unfold dU;rw[hn];rfl
    have h4:1<d.length:=by
     rw[←hd,hdl]at h3 h1⊢
     cases l with
     |nil=>simp at h1
     |cons c r=>
      simp only[aO4,aOK]at h3
      subst h3
      cases r with
      |nil=>exact absurd rfl h0
      |cons x r=>simp
    rw[decide_eq_true h4];rfl
  rw[if_neg (by simp only[not_or];exact⟨h1,h2,h3⟩),if_neg (c:=(decide (d.length<1) || decide (9<d.length) || (d.head? == some 48&&(ng || decide (1<d.length))))=true) (by rw[decide_eq_false h1,decide_eq_false h2,show(d.head? == some 48)=false by simpa using h3];simp)]
 cases l with
 |nil=>
  rw[if_neg (by decide)]
  unfold gZ
  rw[if_neg (by decide)]
  have:=aDk hN [] false 1 rfl
  rw[this,bad [] false rfl rfl]
 |cons c r=>
  rw[if_pos (decide_eq_true (by rw[aOl];omega)),show(0:Int)=((0:Nat):Int)from rfl,g6 (c::r) (by simp),aOg]
  have hne:(((((c::r)[0]'(by simp)).toNat:Nat):Int) != 45)=(c != 45):=s5 c (n:=45) (by decide)
  have he:(((((c::r)[0]'(by simp)).toNat:Nat):Int) == 45)=(c == 45):=by simpa[bne]using congrArg (!·) hne
  rw[he]
  unfold gZ
  by_cases h3:c=45
  ·subst h3
   have hss:o3 (aH (45::r)) 1 (((45::r:List UInt8).length:Nat):Int)=some (aH r):=by
    have:=jR (45::r) (a:=1) (b:=(45::r:List UInt8).length) (by simp) (aOS _)
    rw[aOC]at this
    exact this
   rw[if_pos (by decide),aZ,hss,aOg]
   have:=aDk hN r true (-1) rfl
   rw[this,bad r true rfl rfl]
  have hn:iF (c::r)=false:=by simp[iF,h3]
  rw[if_neg (by simpa using h3)]
  have:=aDk hN (c::r) false 1 rfl
  rw[this,bad (c::r) false (by unfold dU;rw[hn];rfl) hn]
theorem aAM {f g:ByteArray→Int×Bool}: ∀(cs:List UInt8)(ws:List ByteArray)(a:Tryz.A4),(∀s∈ws,f s=g s)→Tryz.runF f cs ws a=Tryz.runF g cs ws a
 | [],_,_,_=>rfl
 |_::_,[],_,_=>rfl
 |c::cs,w::ws,a,h=>by
  unfold Tryz.runF
  rw[h w aOo]
  split
  ·exact aAM cs ws _ fun s hs=>h s (aOk _ hs)
  rfl
theorem aE8 {f g:ByteArray→Int×Bool}(w0:ByteArray)(ws:List ByteArray)(h: ∀s∈ws,f s=g s):Tryz.actR f w0 ws=Tryz.actR g w0 ws:=by
 unfold Tryz.actR
 cases Tryz.forms.find? (fun x=>x.1.toList == w0.toList) with
 |none=>rfl
 |some x=>
  simp only
  rw[aAM _ ws _ h]
theorem aIO (N:Nat):((List.range 7).all fun k=>decide (gE N ((k:Int)+1)=some (Tryz.forms[k]!.1,Tryz.forms[k]!.2.2)))=true:=by
 rw[aOs]
 intro k hk
 have hk:=List.mem_range.1 hk
 rcases(by omega:k=0∨k=1∨k=2∨k=3∨k=4∨k=5∨k=6)with rfl|rfl|rfl|rfl|rfl|rfl|rfl<;>exact decide_eq_true rfl
theorem aHW {w0:ByteArray}{ws:List ByteArray}(hl:ws.length≤100000)(hs: ∀s∈ws,s.size≤1000000):oI NN (w0::ws)=some ((Tryz.actR bM w0 ws).1.kind,(Tryz.actR bM w0 ws).1.a,(Tryz.actR bM w0 ws).1.b,(Tryz.actR bM w0 ws).1.n,(Tryz.actR bM w0 ws).2):=by
 have e:Tryz.actR (fun s=>(cS NN s).getD (0,false)) w0 ws=Tryz.actR bM w0 ws:=aE8 w0 ws fun s h=>by
  rw[rM s,z7 (by rw[oE];exact hs s h),aAF (by decide)];rfl
 unfold oI
 simp only
 rw[if_pos ⟨hl,aOs.2 fun s h=>by rw[rM s,aAF (by decide)];rfl,aIO NN⟩,e]
theorem aJm {x15:List ByteArray}{m i:Nat}{u:List UInt8}{acts:List aC}(hx:x15[i]? =some (aH u))(hu:u.length≤20000)(hi:i≤900000)(ha:acts.length≤256):bX NN x15 (m+1) (i:Int) acts=
  match pX u with
  |none=>bX NN x15 m ((i+1:Nat):Int) acts
  |some (a,ok)=>if ok=false then some (.ret ([],(i:Int),450))else if 256≤acts.length then some (.ret ([],(i:Int),4))else bX NN x15 m ((i+1:Nat):Int) (acts++[sW a]):=by
 have hb:=eW
 have hlt:i<x15.length:=(aPb.1 hx).1
 have hw:=i1B (j:=i) (by omega)
 rw[bX,if_pos (dT hlt),aEc,hx,aOg,aFM (l:=u) (by omega) (by show _<70000;omega),aOg]
 obtain⟨hm,hn⟩:=aAs (u.length+1) u
 unfold pX
 generalize W (u.length+1) u=ws at hm hn
 cases ws with
 |nil=>
  rw[if_pos (by rfl)]
  unfold iQ
  rw[if_pos rfl]
  unfold f9
  rw[hw]
 |cons w ws=>
  rw[aOG,if_neg (by simp;omega),show eG (aH w::ws.map aH) 0=some (aH w)from rfl,aOg]
  obtain⟨hw0,hwl⟩:=hm w aOo
  cases w with
  |nil=>exact absurd rfl hw0
  |cons c w=>
   have hne:(((((c::w)[0]'(by simp)).toNat:Nat):Int) != 35)=(c != 35):=s5 c (n:=35) (by decide)
   have he:(((((c::w)[0]'(by simp)).toNat:Nat):Int) == 35)=(c == 35):=by simpa[bne]using congrArg (!·) hne
   rw[show(0:Int)=((0:Nat):Int)from rfl,g6 (c::w) (by simp),aOg,he]
   unfold iQ
   simp only[aO4,aOK]
   by_cases h35:c=35
   ·subst h35
    rw[if_pos (by decide),if_pos rfl]
    unfold f9
    rw[hw]
   rw[if_neg (by simpa using h35),if_neg h35]
   have hlen:ws.length≤20000:=by rw[aOl]at hn;omega
   rw[aHW (by simp;omega) (fun s hs=>by
    obtain⟨v,hv,rfl⟩:=aPk.1 hs
    rw[aZ]
    have:=(hm v (aOk _ hv)).2
    omega),aOg]
   generalize Tryz.actR bM (aH (c::w)) (ws.map aH)=q
   obtain⟨⟨k,a,b,n⟩,ok⟩:=q
   simp only
   cases ok with
   |false=>rw[if_pos (by decide),if_pos rfl]
   |true=>
    rw[if_neg (show¬((!true)=true) by decide),if_neg (show¬(true=false) by decide)]
    by_cases h6:256≤acts.length
    ·rw[if_pos (decide_eq_true (by omega)),if_pos h6]
    rw[if_neg (by rw[decide_eq_true_eq];omega),if_neg h6,iY (by simp;omega),aOg]
    unfold f9
    rw[hw]
    rfl
theorem xG {x15:List ByteArray}: ∀(m m' i:Nat)(t:List UInt8)(acts:List aC),t.length<m→(LL t).length<m'→i+(LL t).length=x15.length→x15.drop i=(LL t).map aH→t.length≤20000→i+t.length≤100000→acts.length≤256→
  (∃j e,aT NN m (aH t) (i:Int) acts=some (.ret ([],j,e))∧bX NN x15 m' (i:Int) acts=some (.ret ([],j,e)))∨ ∃xs,aT NN m (aH t) (i:Int) acts=some (.brk ((x15.length:Int),xs))∧bX NN x15 m' (i:Int) acts=some (.brk xs)∧xs.length≤256
 |0,_,_,_,_,h,_,_,_,_,_,_=>by omega
 |_,0,_,_,_,_,h,_,_,_,_,_=>by omega
 |m+1,m'+1,i,t,acts,h,h',hx,hd,ht,hi,ha=>by
  by_cases h0:t=[]
  ·subst h0
   rw[aCI,aO5,Nat.add_zero]at hx
   subst hx
   refine .inr ⟨acts, ?_, ?_,ha⟩
   ·rw[aT,wV,if_neg (by decide)]
   rw[bX,if_neg (by rw[dF (by omega)];decide)]
  have hpos:=aOu.2 h0
  have hc:=aBr h0
  have htl:(t.takeWhile ln).length≤t.length:=(aOY _).length_le
  have hdl:(t.drop ((t.takeWhile ln).length+1)).length+1≤t.length:=by rw[aOR];omega
  rw[hc]at hd hx h'
  rw[aOl]at hx h'
  have hlt:i<x15.length:=by omega
  rw[aOE hlt,aOG,aPx]at hd
  have hxi:x15[i]? =some (aH (t.takeWhile ln)):=by rw[aOv hlt,hd.1]
  rw[aCV h0 ht (by omega) ha,aJm hxi (by omega) (by omega) ha]
  cases hR:pX (t.takeWhile ln) with
  |none=>exact xG m m' (i+1) _ acts (by omega) (by omega) (by omega) hd.2 (by omega) (by omega) ha
  |some q=>
   obtain⟨a,ok⟩:=q
   simp only
   cases ok with
   |false=>rw[if_pos rfl,if_pos rfl];exact .inl ⟨_,_,rfl,rfl⟩
   |true=>
    rw[if_neg (c:=true=false) (by decide),if_neg (c:=true=false) (by decide)]
    by_cases h6:256≤acts.length
    ·rw[if_pos h6,if_pos h6];exact .inl ⟨_,_,rfl,rfl⟩
    rw[if_neg h6,if_neg h6]
    exact xG m m' (i+1) _ (acts++[sW a]) (by omega) (by omega) (by omega) hd.2 (by omega) (by omega) (by simp;omega)
theorem aEH (s:ByteArray): ∃xs j e,bP NN s=some (xs,j,e)∧nO NN s=some (xs,j,e)∧xs.length≤256:=by
 rw[rM s]
 generalize s.data.toList=l
 unfold bP nO
 rw[aZ]
 by_cases h:16384<l.length
 ·rw[if_pos (decide_eq_true (by omega)),if_pos (decide_eq_true (by omega))]
  exact⟨_,_,_,rfl,rfl,by simp⟩
 rw[if_neg (by rw[decide_eq_true_eq];omega),if_neg (by rw[decide_eq_true_eq];omega),aFr (by omega) (by show _<70000;omega),aOg]
 have hL:=aJl l
 have:=xG (x15:=(LL l).map aH) NN NN 0 l [] (by show _<70000;omega) (by show _<70000;omega) (by simp) (by simp) (by omega) (by omega) (by simp)
 rw[show((0:Nat):Int)=0 from rfl]at this
 rcases this with⟨j,e,h1,h2⟩|⟨xs,h1,h2,h3⟩
 ·rw[h1,h2];exact⟨_,_,_,rfl,rfl,by simp⟩
 rw[h1,h2];exact⟨_,_,_,rfl,rfl,h3⟩
theorem aEp {l:List Int}{k:Nat}(h:k≤l.length):sub l 0 (k:Int)=some (l.take k):=by
 unfold sub
 rw[if_pos ⟨by omega,by omega,by omega⟩]
 simp
theorem aDt {l:List Int}{k:Nat}(h:k≤l.length):sub l (k:Int) (l.length:Int)=some (l.drop k):=by
 unfold sub
 rw[if_pos ⟨by omega,by omega,by omega⟩]
 simp
theorem aHy (N:Nat)(l:List Int)(pos:Nat): ∃b,iR N l (pos:Int)=some b:=⟨_,rfl⟩
theorem zJ (l:List Int): ∀(m i pos:Nat)(l1:List Int),3-i<m→i≤3→pos≤100000+10*i→4≤l1.length+i→l1.length≤400+i→ ∃l2,cF NN m (i:Int) l (pos:Int) l1=some l2∧l2.length≤403
 |0,i,_,_,h,_,_,_,_=>by omega
 |m+1,i,pos,l1,h,hi,hp,h4,h5=>by
  have hb:=eW
  rw[cF]
  have stop: ∃l2,fB NN (i:Int) l (pos:Int) l1 (cF NN m) false=some l2∧l2.length≤403:=by
   unfold fB
   rw[if_neg (by decide)]
   exact⟨l1,rfl,by omega⟩
  by_cases h3:i<3
  ·rw[if_pos (decide_eq_true (by omega))]
   obtain⟨b,hb2⟩:=aHy NN l pos
   rw[hb2,aOg]
   cases b with
   |false=>exact stop
   |true=>
    unfold fB
    rw[if_pos rfl]
    obtain⟨v,p1,e1,v0,v1,hp1⟩:=pN NN l (pos:=pos) (n:=l1.length) (by omega) (by omega) (by omega)
    rw[e1,aOg]
    simp only
    obtain⟨u,p2,e2,u0,u1',hp2⟩:=pN NN l (pos:=p1) (n:=5) (by omega) (by decide) (by decide)
    rw[show((5:Nat):Int)=5 from rfl]at e2
    rw[e2,aOg]
    simp only
    obtain⟨k,rfl⟩: ∃k:Nat,v=(k:Int):=⟨v.toNat,by omega⟩
    have hk:k<l1.length:=by omega
    have go: ∀(p:Nat)(l2:List Int),p≤pos+3→4≤l2.length+(i+1)→l2.length≤400+(i+1)→ ∃l3,eH NN (i:Int) (cF NN m) l (p:Int) l2=some l3∧l3.length≤403:=fun p l2 hp h4 h5=>by
     unfold eH
     rw[i1B (by omega)]
     exact zJ l m (i+1) p l2 (by omega) (by omega) (by omega) h4 h5
    by_cases c0:u=0
    ·subst c0
     rw[if_pos (by rfl)]
     obtain⟨z,p3,e3,z0,z1,hp3⟩:=pN NN l (pos:=p2) (n:=7) (by omega) (by decide) (by decide)
     rw[show((7:Nat):Int)=7 from rfl]at e3
     rw[e3,aOg]
     simp only
     obtain⟨q,rfl⟩: ∃q:Nat,z=(q:Int):=⟨z.toNat,by omega⟩
     rw[qF [32,48,45,35,10,120,57] (i:=q) (by simp;omega),aOg,qF l1 hk,aOg]
     exact go p3 _ (by omega) (by rw[aPy];omega) (by rw[aPy];omega)
    rw[if_neg (by simpa using c0)]
    by_cases c1:u=1
    ·subst c1
     rw[if_pos (by rfl),aEp (by omega),aOg,iY (by simp;omega),aOg,iY (by simp;omega),aOg,aDt (by omega),aOg,iY (by simp;omega),aOg]
     exact go p2 _ (by omega) (by simp;omega) (by simp;omega)
    rw[if_neg (by simpa using c1)]
    by_cases c2:u=2
    ·subst c2
     rw[if_pos (by rfl),aEp (by omega),aOg,iY (by simp;omega),aOg,i1B (by omega),aDt (by omega),aOg,iY (by simp;omega),aOg]
     exact go p2 _ (by omega) (by simp;omega) (by simp;omega)
    rw[if_neg (by simpa using c2)]
    exact go p2 _ (by omega) (by omega) (by omega)
  rw[if_neg (by rw[decide_eq_true_eq];omega)]
  exact stop
theorem aFU (l:List Int): ∃s,l8 NN l=some s∧s.size≤403:=by
 have hb:=eW
 unfold l8
 rw[show lM NN l=some (l,0)from rfl,aOg]
 simp only
 obtain⟨xs,pos,e1,h8,hp,hv⟩: ∃(xs:List aC)(pos:Nat),iI NN l 0=some (xs,l,(pos:Int))∧xs.length≤8∧pos≤100000∧ ∀x∈xs,lE x:=aCP l
 rw[e1,aOg]
 simp only
 have ht:=rH xs hv
 obtain⟨r,f1,f2⟩:=aCO (xs:=xs) (by omega)
 rw[uN hv (by omega)]at f1
 obtain rfl:=aOp f1
 rw[f2,aOg]
 simp only
 rw[show(⟨#[35,32,97,32,115,99,114,105,112,116,10,10]⟩:ByteArray)=aH [35,32,97,32,115,99,114,105,112,116,10,10]from rfl,yS (by simp;omega),aOg]
 generalize hz:aH ([35,32,97,32,115,99,114,105,112,116,10,10]++oG xs)=z
 have hzs:z.size=12+(oG xs).length:=by rw[←hz,aZ];simp;omega
 have hst:stb z=some (iN z):=by unfold stb;rw[if_pos (by omega)]
 rw[hst,aOg]
 obtain⟨l2,h1,h2⟩:=zJ l NN 0 pos (iN z) (by decide) (by omega) (by omega) (by rw[nJ];omega) (by rw[nJ];omega)
 rw[show((0:Nat):Int)=0 from rfl]at h1
 rw[h1,aOg]
 unfold lK
 exact⟨_,rfl,by rw[xL,aZ,List.length_map];exact h2⟩
theorem yD (l:List Int)(raw:ByteArray):fO NN l raw=some true:=by
 have hb:=eW
 unfold fO
 rw[show iD NN=some true from rfl,aOg,if_neg (by decide)]
 by_cases h:300<raw.size
 ·rw[if_pos (decide_eq_true (by omega))]
 obtain⟨s,hs,hz⟩:=aFU l
 have h10:(⟨#[10]⟩:ByteArray).size=1:=rfl
 have c1:qM raw ⟨#[10]⟩=some (raw++⟨#[10]⟩):=by unfold qM;rw[if_pos (by omega)]
 have c2:qM (raw++⟨#[10]⟩) s=some ((raw++⟨#[10]⟩)++s):=by unfold qM;rw[if_pos (by rw[aOJ];omega)]
 rw[if_neg (by rw[decide_eq_true_eq];omega),hs,aOg,c1,aOg,c2,aOg]
 generalize (raw++⟨#[10]⟩)++s=r3
 have step: ∀(z:ByteArray)(m k:Nat),k<3→eG [s,raw,r3] (k:Int)=some z→aX NN raw s r3 (m+1) (k:Int)=aX NN raw s r3 m ((k+1:Nat):Int):=by
  intro z m k hk hi
  obtain⟨xs,j,e,f1,f2,f3⟩:=aEH z
  rw[aX,if_pos (decide_eq_true (by omega)),hi,aOg,f1,aOg,f2,aOg,if_neg (by simp),if_neg (by simp)]
  simp only
  rw[wX (by show xs.length≤1000;omega),aOg]
  unfold dN
  rw[if_neg (by decide),i1B (by omega)]
 rw[show aX NN raw s r3 NN 0=aX NN raw s r3 (69996+1+1+1+1) ((0:Nat):Int)from rfl,
  step s _ 0 (by decide) rfl,step raw _ 1 (by decide) rfl,step r3 _ 2 (by decide) rfl,aX,if_neg (by decide),aOg]
 rfl
end Go.Proofs.YtjcfonniipabpaaGreatDoor
