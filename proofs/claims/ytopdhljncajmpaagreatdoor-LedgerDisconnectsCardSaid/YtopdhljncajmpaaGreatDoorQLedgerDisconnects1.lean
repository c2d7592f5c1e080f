/- Texts of ours, joined: VmBase, VmOps, VmMem, VmStep, VmApp, VmDo, VmSound, VmSound2, VmMap, VmRun, VmOp, VmDraw, VmFun, VmCall, VmEval, VmExec, VmLift. -/
import Derived.WalkKit
import Derived.Maps.AppendAt
import Derived.Laws.MakeOwn
import Derived.MapKept
import Derived.Laws.BytesString
import Derived.StillTail
import Derived.ProofKit
import Derived.OpenShut
import Derived.ShutString
import Derived.ChangeOld
import Derived.Lib.SmallJoins
open Option renaming map_eq_some_iff → a1a,bind_eq_some_iff → a1b,bind_some → a1f,bind_eq_bind → a1u,pure_def → a1K,map_map → a2a,map_some → a2l
open List renaming getElem?_eq_some_iff → a1c,prefix_refl → a1h,all_eq_true → a1j,getElem?_append_left → a1k,mem_of_mem_take → a1l,mem_of_mem_drop → a1o,getElem?_append_right → a1p,take_of_length_le → a1q,getElem?_eq_getElem → a1r,eq_nil_of_length_eq_zero → a1s,flatMap_cons → a1t,mapM_cons → a1B,getElem?_eq_none → a1D,ext_getElem? → a1G,getElem?_set_ne → a1H,replicate → a1I,map_cons → a1J,length_append → a1L,getElem?_toArray → a1P,length_cons → a1S,range → a1T,getElem?_take → a1V,toArray → a1X,length_take → a10,head?_eq_getElem? → a11,getElem?_set_self → a12,length_nil → a14,mem_append → a16,take_left' → a17,mem_of_getElem? → a19,getElem?_drop → a2b,size_toArray → a2c,map_map → a2d,take_append → a2e,flatMap_nil → a2f,mem_toArray → a2h,nil_prefix → a2i,drop_left' → a2k
open Option.some renaming injEq → a1d
open Prod.mk renaming injEq → a1e
open Array renaming getElem?_setIfInBounds_ne → a1g,getElem?_eq_some_iff → a1i,getElem?_setIfInBounds → a1C,getElem?_setIfInBounds_self_of_lt → a1E,getD_eq_getD_getElem? → a1F,getElem?_eq_none → a1M,getElem?_toList → a1Q,eq_empty_of_size_eq_zero → a1R,toList_setIfInBounds → a1U,replicate → a18,toList_map → a2g,range → a2j,ext' → a2m
open Nat renaming le_refl → a1m,lt_of_lt_of_le → a1n,lt_or_ge → a1w,add_mul → a1y,mul_le_mul_right → a1z,add_assoc → a1A,one_mul → a1N,le_trans → a1O,add_zero → a1W,add_comm → a1Y,zero_add → a13,min_eq_left → a15
open Bool renaming and_eq_true → a1v,false_eq_true → a1x
open Int renaming le_refl → a1Z
set_option linter.unusedSimpArgs false
set_option linter.unusedVariables false
namespace Go.Vm
open Go
inductive V where
 |sc (v:Value)
 |row (nil:Option Bool) (k:Nat) (es:List V)
 |agg (cs:List V)
 |tup (vs:List V)
 |ptr (b off:Nat)
 |sl (b off n k:Nat) (ag:Bool)
 |eptr (es:List V) (i off:Nat)
 |mp (b:Nat)
 |any
 deriving Inhabited
def aAZ :List Int:=[1779033703,3144134277,1013904242,2773480762,1359893119,2600822924,528734635,1541459225]
def aHD :List Int:=[1116352408,1899447441,3049323471,3921009573,961987163,1508970993,2453635748,2870763221,3624381080,310598401,607225278,1426881987,1925078388,2162078206,2614888103,3248222580,3835390401,4022224774,264347078,604807628,770255983,1249150122,1555081692,1996064986,2554220882,2821834349,2952996808,3210313671,3336571891,3584528711,113926993,338241895,666307205,773529912,1294757372,1396182291,1695183700,1986661051,2177026350,2456956037,2730485921,2820302411,3259730800,3345764771,3516065817,3600352804,4094571909,275423344,430227734,506948616,659060556,883997877,958139571,1322822218,1537002063,1747873779,1955562222,2024104815,2227730452,2361852424,2428436474,2756734187,3204031479,3329325298]
def GT :Nat→Option V
 |0=>some (.agg (aAZ.map fun x=> .sc (.int .u32 x)))
 |2=>some (.agg (aHD.map fun x=> .sc (.int .u32 x)))
 |_=>none
def V.one :V→Bool
 | .sc v=>v.oneCell'
 | .agg _ | .tup _ | .any=>false
 |_=>true
def V.cells :V→List V
 | .agg cs=>cs
 |x=>[x]
def V.flatOk (x:V):Bool:=x.cells.all V.one
def V.okElem (k:Nat)(x:V):Bool:=x.flatOk&&x.cells.length == k
def LiesAt (w:World)(ad:Addr)(vs:Array Value):Prop:= ∀j u,vs[j]? =some u→w.cell? (ad.add j)=some u
def aNy (b:Bool)(a:Option Addr)(cap n:Nat):Prop:=if b=true then a=none else cap=n
mutual
def VR (X:Nat→Prop)(M:List (Option Nat))(w:World):V→Value→Prop
 | .sc c,v=>v=c
 | .any,_=>True
 | .row nil k es,v=> ∃a cap,v= .slice a es.length cap∧es.length≤cap∧(a=none→cap=0)∧(∀b,nil=some b→aNy b a cap es.length)∧(∀e∈es,e.okElem k=true)∧
   (es≠ []→ ∃ad,a=some ad∧0<k∧ ¬X ad.block∧ad.spot=none∧VRow X [] w k es ad)
 | .agg cs,v=> ∃vs:List Value,v= .agg vs.toArray∧VCells X M w cs vs
 | .tup cs,v=> ∃vs:List Value,v= .tuple vs.toArray∧VCells X M w cs vs
 | .ptr b off,v=> ∃g sh,M[b]? =some (some g)∧v= .pointer (some ⟨g,off,none⟩)∧w.shape? g=some sh
 | .mp b,v=> ∃g,M[b]? =some (some g)∧v= .map (some g)∧g<w.heap.size∧w.shape? g=none
 | .sl b off n k _,v=>(M[b]? =some none∧v= .slice none 0 0∧n=0∧off=0)∨
   ∃g cap e sz,M[b]? =some (some g)∧v= .slice (some ⟨g,off,none⟩) n cap∧n≤cap∧cap≤maxLen∧0<k∧w.shape? g=some (e,sz)∧off+cap*k≤sz
 | .eptr es i off,v=> ∃ad k,v= .pointer (some (ad.add (i*k+off)))∧0<k∧(es≠ []→ ¬X ad.block)∧ad.spot=none∧(∀e∈es,e.okElem k=true)∧VRow X [] w k es ad
def VCells (X:Nat→Prop)(M:List (Option Nat))(w:World):List V→List Value→Prop
 | [],vs=>vs=[]
 |c::cs,vs=> ∃v rest,vs=v::rest∧VR X M w c v∧VCells X M w cs rest
def VRow (X:Nat→Prop)(M:List (Option Nat))(w:World)(k:Nat):List V→Addr→Prop
 | [],_=>True
 |e::es,ad=>(∃v,VR X M w e v∧v.cells.size=k∧LiesAt w ad v.cells)∧VRow X M w k es (ad.add k)
end
structure Ext (S:Nat→Prop)(w w':World):Prop where
 os:w'.os=w.os
 tape:w'.tape=w.tape∧w.drawn≤w'.drawn
 output:w'.output=w.output
 size:w.heap.size≤w'.heap.size
 block: ∀g,g<w.heap.size→ ¬S g→w'.heap[g]? =w.heap[g]?
 shape: ∀g sh,w.shape? g=some sh→w'.shape? g=some sh
 nshape: ∀g,g<w.heap.size→w.shape? g=none→w'.shape? g=none
theorem Ext.refl (S:Nat→Prop)(w:World):Ext S w w:=⟨rfl,⟨rfl,a1m _⟩,rfl,a1m _,fun _ _ _=>rfl,fun _ _ h=>h,fun _ _ h=>h⟩
theorem Ext.trans {S:Nat→Prop}{a b c:World}(h:Ext S a b)(k:Ext S b c):Ext S a c:=
 ⟨k.os.trans h.os,⟨k.tape.1.trans h.tape.1,a1O h.tape.2 k.tape.2⟩,k.output.trans h.output,a1O h.size k.size,
  fun g hg hs=>(k.block g (a1n hg h.size) hs).trans (h.block g hg hs),fun g sh e=>k.shape g sh (h.shape g sh e),fun g hg e=>k.nshape g (a1n hg h.size) (h.nshape g hg e)⟩
theorem Ext.mono {S S':Nat→Prop}{a b:World}(h:Ext S a b)(hs: ∀g,g<a.heap.size→S g→S' g):Ext S' a b:=
 ⟨h.os,h.tape,h.output,h.size,fun g hg hn=>h.block g hg (fun hS=>hn (hs g hg hS)),h.shape,h.nshape⟩
theorem Ext.below {S:Nat→Prop}{w w':World}(h:Ext S w w')(hs: ∀g,g<w.heap.size→ ¬S g):RowKit.Below w.heap.size w w':=
 ⟨h.os,h.tape.1,h.output,h.size,fun g hg=>h.block g hg (hs g hg)⟩
theorem aOc {w:World}{a:Addr}{u:Value}(h:w.cell? a=some u):a.block<w.heap.size:=by
 unfold World.cell? at h
 rcases a1w a.block w.heap.size with hl|hl
 ·exact hl
 rw[a1M hl]at h;cases h
theorem wX (a:Addr)(n:Nat):(a.add n).block=a.block:=by unfold Addr.add;split<;>rfl
theorem aJf (a:Addr)(n:Nat)(h:a.spot=none):(a.add n).spot=none:=by unfold Addr.add;split<;>simp[h]
theorem vD (a:Addr)(i j:Nat):(a.add i).add j=a.add (i+j):=by
 unfold Addr.add
 by_cases hi:i=0<;>by_cases hj:j=0<;>simp[hi,hj,a1A]
theorem Ext.cell {S:Nat→Prop}{w w':World}(h:Ext S w w'){a:Addr}{u:Value}(hs: ¬S a.block)(hc:w.cell? a=some u):w'.cell? a=some u:=by
 rw[World.cell?_of_block (h.block a.block (aOc hc) hs)];exact hc
theorem LiesAt.lt {w:World}{ad:Addr}{vs:Array Value}(h:LiesAt w ad vs)(h0:0<vs.size):ad.block<w.heap.size:=by
 have:=aOc (h 0 vs[0] (by simp[h0]))
 rwa[wX]at this
theorem aUa {X:Nat→Prop}{M:List (Option Nat)}{w:World}{k:Nat}{es:List V}{ad:Addr}(h:VRow X M w k es ad)(hk:0<k)(hne:es≠ []):ad.block<w.heap.size:=by
 cases es with
 |nil=>exact absurd rfl hne
 |cons e es=>
  unfold VRow at h
  obtain⟨⟨v,_,hsz,hl⟩,_⟩:=h
  exact hl.lt (by omega)
theorem aFh {M M':List (Option Nat)}(h:M <+: M'){b:Nat}{g:Option Nat}(hb:M[b]? =some g):M'[b]? =some g:=by
 obtain⟨t,rfl⟩:=h
 have hl:b<M.length:=(a1c.1 hb).1
 rw[a1k hl]
 exact hb
section
variable {X X' S:Nat→Prop}{w w':World}
mutual
theorem VR.ext {M M':List (Option Nat)}(hE:Ext S w w')(hM:M <+: M')(hS: ∀g,g<w.heap.size→S g→X g)(hX: ∀g,g<w.heap.size→X' g→X g): ∀(x:V)(v:Value),VR X M w x v→VR X' M' w' x v
 | .sc c,v,h=>by unfold VR at *; exact h
 | .any,v,h=>by unfold VR;trivial
 | .row nil k es,v,h=>by
  unfold VR at *
  obtain⟨a,cap,hv,hc,h1,h2,h4,h3⟩:=h
  refine⟨a,cap,hv,hc,h1,h2,h4,fun hne=> ?_⟩
  obtain⟨ad,ha,hk,hx,hsp,hr⟩:=h3 hne
  have hlt:=aUa hr hk hne
  exact⟨ad,ha,hk,fun hx'=>hx (hX _ hlt hx'),hsp,VRow.ext hE (a1h _) hS hX k es ad hx hr⟩
 | .agg cs,v,h=>by
  unfold VR at *
  obtain⟨vs,hv,hc⟩:=h
  exact⟨vs,hv,VCells.ext hE hM hS hX cs vs hc⟩
 | .tup cs,v,h=>by
  unfold VR at *
  obtain⟨vs,hv,hc⟩:=h
  exact⟨vs,hv,VCells.ext hE hM hS hX cs vs hc⟩
 | .ptr b off,v,h=>by
  unfold VR at *
  obtain⟨g,sh,hg,hv,hs⟩:=h
  exact⟨g,sh,aFh hM hg,hv,hE.shape _ _ hs⟩
 | .mp b,v,h=>by
  unfold VR at *
  obtain⟨g,hg,hv,hl,hs⟩:=h
  exact⟨g,aFh hM hg,hv,a1n hl hE.size,hE.nshape _ hl hs⟩
 | .sl b off n k _,v,h=>by
  unfold VR at *
  rcases h with⟨h1,h2⟩|⟨g,cap,e,sz,hg,hv,h1,h2,h3,h4,h5⟩
  ·exact .inl ⟨aFh hM h1,h2⟩
  exact .inr ⟨g,cap,e,sz,aFh hM hg,hv,h1,h2,h3,hE.shape _ _ h4,h5⟩
 | .eptr es i off,v,h=>by
  unfold VR at *
  obtain⟨ad,k,hv,hk,hx,hsp,hok,hr⟩:=h
  by_cases hne:es=[]
  ·subst hne
   exact⟨ad,k,hv,hk,fun h=>absurd rfl h,hsp,hok,by unfold VRow;trivial⟩
  have hlt:=aUa hr hk hne
  exact⟨ad,k,hv,hk,fun _ hx'=>hx hne (hX _ hlt hx'),hsp,hok,VRow.ext hE (a1h _) hS hX k es ad (hx hne) hr⟩
theorem VCells.ext {M M':List (Option Nat)}(hE:Ext S w w')(hM:M <+: M')(hS: ∀g,g<w.heap.size→S g→X g)(hX: ∀g,g<w.heap.size→X' g→X g): ∀(cs:List V)(vs:List Value),VCells X M w cs vs→VCells X' M' w' cs vs
 | [],vs,h=>by unfold VCells at *; exact h
 |c::cs,vs,h=>by
  unfold VCells at *
  obtain⟨v,rest,hv,h1,h2⟩:=h
  exact⟨v,rest,hv,VR.ext hE hM hS hX c v h1,VCells.ext hE hM hS hX cs rest h2⟩
theorem VRow.ext {M M':List (Option Nat)}(hE:Ext S w w')(hM:M <+: M')(hS: ∀g,g<w.heap.size→S g→X g)(hX: ∀g,g<w.heap.size→X' g→X g)(k:Nat): ∀(es:List V)(ad:Addr),¬X ad.block→VRow X M w k es ad→VRow X' M' w' k es ad
 | [],ad,_,h=>by unfold VRow;trivial
 |e::es,ad,hx,h=>by
  unfold VRow at *
  obtain⟨⟨v,h1,h2,h3⟩,h4⟩:=h
  refine⟨⟨v,VR.ext hE hM hS hX e v h1,h2, ?_⟩,VRow.ext hE hM hS hX k es (ad.add k) (by rw[wX];exact hx) h4⟩
  intro j u hu
  have hc:=h3 j u hu
  exact hE.cell (fun hs=>by
   have hlt:=aOc hc
   have:=hS _ hlt hs
   rw[wX]at this;exact hx this) hc
end
end
def Globs (X:Nat→Prop)(w:World):Prop:= ∀g e,GT g=some e→VR X [] w (.eptr [e] 0 0) (.pointer (some ⟨g,0,none⟩))∧ ∃t,w.shape? g=some (t,e.cells.length)
theorem Globs.ext {X X' S:Nat→Prop}{w w':World}(hE:Ext S w w')(hS: ∀g,g<w.heap.size→S g→X g)(hX: ∀g,g<w.heap.size→X' g→X g)(h:Globs X w):Globs X' w':=
 fun g e he=>⟨VR.ext hE (a1h _) hS hX _ _ (h g e he).1,(h g e he).2.imp fun _ ht=>hE.shape _ _ ht⟩
theorem Globs.avoid {X X':Nat→Prop}{w:World}(hX: ∀g,g<w.heap.size→X' g→X g)(h:Globs X w):Globs X' w:=
 h.ext (Ext.refl (fun _=>False) w) (fun _ _ h=>h.elim) hX
theorem VR.lift {X:Nat→Prop}{M:List (Option Nat)}{w:World}{x:V}{v:Value}(h:VR X [] w x v):VR X M w x v:=
 VR.ext (Ext.refl (fun _=>False) w) (a2i) (fun _ _ h=>h.elim) (fun _ _ h=>h) x v h
theorem VCells.lift {X:Nat→Prop}{M:List (Option Nat)}{w:World}{cs:List V}{vs:List Value}(h:VCells X [] w cs vs):VCells X M w cs vs:=
 VCells.ext (Ext.refl (fun _=>False) w) (a2i) (fun _ _ h=>h.elim) (fun _ _ h=>h) cs vs h
structure Blk where
 e:TypeId
 cells:List V
abbrev Hp :=List (Option Blk)
def cU (M:List (Option Nat))(h:Hp)(g:Nat):Prop:= ∃(b:Nat)(B:Blk),h[b]? =some (some B)∧M[b]? =some (some g)
def Xs (A:Nat→Prop)(M:List (Option Nat))(h:Hp)(g:Nat):Prop:=A g∨cU M h g
def jL (es:List MapEntry):List Value:=es.flatMap fun e=>e.key.cells.toList++e.val.cells.toList
def rL (n:Nat)(v:Value):Prop:=if n=0 then v.oneCell'=true else∃xs:Array Value,v= .agg xs∧xs.size=n
structure aPz (e:Nat)(es:Array MapEntry)(clock:Nat)(cs:Array Value):Prop where
 cells:cs.toList=jL es.toList
 shp: ∀x∈es.toList,rL (e/1000) x.key∧rL (e%1000) x.val
 born: ∀x∈es.toList,x.born<clock
 nd:(es.toList.map (·.born)).Nodup
def Holds (w:World)(g:Nat)(cs:Array Value)(e:TypeId)(n:Nat):Prop:=(∃f:Nat×Nat,(f=(0,0)∨f=(cs.size,cs.size+1))∧w.heap[g]? =some (.cells cs e f))∨ ∃es clock,w.heap[g]? =some (.map es clock)∧aPz e es clock cs∧n=cs.size
theorem Holds.to {w w':World}{g:Nat}{cs:Array Value}{e n:Nat}(h:Holds w g cs e n)(hw:w'.heap[g]? =w.heap[g]?):Holds w' g cs e n:=by
 rcases h with⟨f,h1,h2⟩|⟨es,c,h1,h2⟩
 ·exact .inl ⟨f,h1,hw.trans h2⟩
 exact .inr ⟨es,c,hw.trans h1,h2⟩
theorem Holds.lt {w:World}{g:Nat}{cs:Array Value}{e n:Nat}(h:Holds w g cs e n):g<w.heap.size:=by
 rcases h with⟨f,_,h2⟩|⟨es,c,h2,_⟩
 ·exact(a1i.1 h2).1
 exact(a1i.1 h2).1
theorem Holds.inCells {w:World}{g:Nat}{cs:Array Value}{e n:Nat}(h:Holds w g cs e n){sh:TypeId×Nat}(hs:w.shape? g=some sh): ∃f:Nat×Nat,(f=(0,0)∨f=(cs.size,cs.size+1))∧w.heap[g]? =some (.cells cs e f):=by
 rcases h with h|⟨es,c,h2,_⟩
 ·exact h
 simp[World.shape?,h2]at hs
theorem Holds.inMap {w:World}{g:Nat}{cs:Array Value}{e n:Nat}(h:Holds w g cs e n)(hs:w.shape? g=none): ∃es clock,w.heap[g]? =some (.map es clock)∧aPz e es clock cs∧n=cs.size:=by
 rcases h with⟨f,_,h2⟩|h
 ·simp[World.shape?,h2]at hs
 exact h
theorem Holds.shape {w:World}{g:Nat}{cs:Array Value}{e n:Nat}(h:Holds w g cs e n){sh:TypeId×Nat}(hs:w.shape? g=some sh):w.shape? g=some (e,cs.size):=by
 obtain⟨f,_,h2⟩:=h.inCells hs
 unfold World.shape?; rw[h2]
theorem Holds.cell {w:World}{g:Nat}{cs:Array Value}{e n:Nat}(h:Holds w g cs e n){sh:TypeId×Nat}(hs:w.shape? g=some sh)(j:Nat):w.cell? ⟨g,j,none⟩=cs[j]? :=by
 obtain⟨f,_,h2⟩:=h.inCells hs
 simp[World.cell?,h2]
theorem aRL {n:Nat}{f:Nat×Nat}(h:f=(0,0)∨f=(n,n+1)){k:Nat}(hk:k<n):(decide (f.1≤k)&&decide (k<f.2))=false:=by
 rcases h with rfl|rfl
 ·simp
 simp;omega
structure HR (A:Nat→Prop)(M:List (Option Nat))(h:Hp)(w:World):Prop where
 len:M.length=h.length
 alt: ∀g,A g→g<w.heap.size
 blk: ∀(b:Nat)(B:Blk),h[b]? =some (some B)→(∀c∈B.cells,c.one=true)∧((M[b]? =some none∧B.cells=[])∨
  ∃(g:Nat)(cs:Array Value),M[b]? =some (some g)∧ ¬A g∧Holds w g cs B.e B.cells.length∧B.cells.length≤cs.size∧
   VCells (Xs A M h) M w B.cells (cs.toList.take B.cells.length))
 inj: ∀(b b':Nat)(B B':Blk)(g:Nat),h[b]? =some (some B)→h[b']? =some (some B')→M[b]? =some (some g)→M[b']? =some (some g)→b=b'
 glob:Globs (Xs A M h) w
theorem Globs.grow {A:Nat→Prop}{M M':List (Option Nat)}{h h':Hp}{w w':World}(hE:Ext (cU M h) w w')(hl: ∀g,g<w.heap.size→cU M' h' g→cU M h g)(k:Globs (Xs A M h) w):Globs (Xs A M' h') w':=
 k.ext hE (fun _ _ hl=> .inr hl) (fun g hg hx=>hx.elim .inl (fun h'=> .inr (hl g hg h')))
theorem HR.lt {A:Nat→Prop}{M:List (Option Nat)}{h:Hp}{w:World}(H:HR A M h w){g:Nat}(hl:Xs A M h g):g<w.heap.size:=by
 rcases hl with ha|⟨b,B,hb,hm⟩
 ·exact H.alt g ha
 obtain⟨_,⟨hg,_⟩|⟨g',cs,hg,_,hh,_⟩⟩:=H.blk b B hb
 ·rw[hm]at hg;cases hg
 rw[hm]at hg
 injection hg with hg
 injection hg with hg
 subst hg
 exact hh.lt
structure Grow (A:Nat→Prop)(M:List (Option Nat))(h:Hp)(w:World)(M':List (Option Nat))(h':Hp)(w':World):Prop where
 pre:M <+: M'
 hr:HR A M' h' w'
 ext:Ext (cU M h) w w'
 live: ∀g,g<w.heap.size→cU M' h' g→cU M h g
theorem Grow.keep {A:Nat→Prop}{M M':List (Option Nat)}{h h':Hp}{w w':World}(G:Grow A M h w M' h' w'){x:V}{v:Value}(hx:VR (Xs A M h) M w x v):
  VR (Xs A M' h') M' w' x v:=
 VR.ext G.ext G.pre (fun _ _ hl=> .inr hl) (fun g hg hx=>hx.elim .inl (fun hl=> .inr (G.live g hg hl))) x v hx
theorem Grow.refl {A:Nat→Prop}{M:List (Option Nat)}{h:Hp}{w:World}(H:HR A M h w):Grow A M h w M h w:=
 ⟨a1h _,H,Ext.refl _ _,fun _ _ h=>h⟩
theorem Grow.trans {A:Nat→Prop}{M M' M'':List (Option Nat)}{h h' h'':Hp}{w w' w'':World}(G:Grow A M h w M' h' w')(K:Grow A M' h' w' M'' h'' w''):Grow A M h w M'' h'' w'':=by
 refine⟨G.pre.trans K.pre,K.hr, ?_,fun g hg hl=>G.live g hg (K.live g (a1n hg G.ext.size) hl)⟩
 refine⟨K.ext.os.trans G.ext.os,⟨K.ext.tape.1.trans G.ext.tape.1,a1O G.ext.tape.2 K.ext.tape.2⟩,K.ext.output.trans G.ext.output,a1O G.ext.size K.ext.size,fun g hg hn=> ?_,fun g sh e=>K.ext.shape g sh (G.ext.shape g sh e),fun g hg e=>K.ext.nshape g (a1n hg G.ext.size) (G.ext.nshape g hg e)⟩
 exact(K.ext.block g (a1n hg G.ext.size) (fun hl=>hn (G.live g hg hl))).trans (G.ext.block g hg hn)
def aS {α:Type}(P:Program):Sem α→Option α
 | .pure a=>some a
 | .program k=>aS P (k P)
 | .mark _ k=>aS P k
 |_=>none
theorem jN {α:Type}{P:Program}(s:Sem α): ∀{a:α},aS P s=some a→ ∀w,s.run P w= .ok a w:=by
 induction s with
 |pure a=>intro b h w;simp only[aS,a1d]at h;subst h;rfl
 |program k ih=>intro b h w;exact ih P h w
 |mark m k ih=>intro b h w;exact ih h w
 |_=>intro b h;simp[aS]at h
def d8 :Value→V
 | .slice none 0 0=> .row (some true) 1 []
 |v=> .sc v
def ofValue :Value→V
 | .agg cs=> .agg (cs.toList.map d8)
 |v=>d8 v
section
variable {X:Nat→Prop}{M:List (Option Nat)}{w:World}
theorem aO2 (v:Value):VR X M w (d8 v) v:=by
 unfold d8
 split
 ·unfold VR;exact⟨none,0,rfl,a1m _,fun _=>rfl,(fun b h=>by injection h with h;subst h;exact show aNy true none 0 0 from rfl),by simp,fun h=>absurd rfl h⟩
 unfold VR;rfl
theorem qM (vs:List Value):VCells X M w (vs.map d8) vs:=by
 induction vs with
 |nil=>unfold VCells;rfl
 |cons v vs ih=>simp only[a1J];unfold VCells;exact⟨v,vs,rfl,aO2 v,ih⟩
theorem aJl (v:Value):VR X M w (ofValue v) v:=by
 unfold ofValue
 split
 ·rename_i cs;unfold VR;exact⟨cs.toList,by simp,qM _⟩
 exact aO2 v
theorem VCells.len : ∀{cs:List V}{vs:List Value},VCells X M w cs vs→cs.length=vs.length
 | [],vs,h=>by unfold VCells at h;subst h;rfl
 |c::cs,vs,h=>by
  unfold VCells at h
  obtain⟨v,rest,rfl,_,h2⟩:=h
  simp[VCells.len h2]
theorem VCells.get : ∀{cs:List V}{vs:List Value},VCells X M w cs vs→ ∀{i:Nat}{c:V},cs[i]? =some c→ ∃v,vs[i]? =some v∧VR X M w c v
 | [],vs,h,i,c,hc=>by simp at hc
 |c::cs,vs,h,i,d,hc=>by
  unfold VCells at h
  obtain⟨v,rest,rfl,h1,h2⟩:=h
  cases i with
  |zero=>simp at hc;subst hc;exact⟨v,rfl,h1⟩
  |succ i=>simp at hc;obtain⟨u,hu,hr⟩:=VCells.get h2 hc;exact⟨u,by simpa using hu,hr⟩
theorem VCells.mk : ∀{cs:List V}{vs:List Value},cs.length=vs.length→(∀(i:Nat)(c:V)(v:Value),cs[i]? =some c→vs[i]? =some v→VR X M w c v)→VCells X M w cs vs
 | [],vs,hl,_=>by unfold VCells;exact a1s hl.symm
 |c::cs,[],hl,_=>by simp at hl
 |c::cs,v::vs,hl,h=>by
  unfold VCells
  exact⟨v,vs,rfl,h 0 c v rfl rfl,VCells.mk (by simpa using hl) (fun i c' v' hc hv=>h (i+1) c' v' (by simpa using hc) (by simpa using hv))⟩
theorem VCells.drop {cs:List V}{vs:List Value}(h:VCells X M w cs vs)(n:Nat):VCells X M w (cs.drop n) (vs.drop n):=
 VCells.mk (by simp[h.len]) (fun i c v hc hv=>by
  rw[a2b]at hc hv
  obtain⟨u,hu,hr⟩:=h.get hc
  rw[hv]at hu;injection hu with hu;subst hu;exact hr)
theorem VCells.take {cs:List V}{vs:List Value}(h:VCells X M w cs vs)(n:Nat):VCells X M w (cs.take n) (vs.take n):=
 VCells.mk (by simp[h.len]) (fun i c v hc hv=>by
  rw[a1V]at hc hv
  split at hc
  ·rename_i hi;simp only[hi,if_true]at hv
   obtain⟨u,hu,hr⟩:=h.get hc
   rw[hv]at hu;injection hu with hu;subst hu;exact hr
  cases hc)
theorem VCells.append {cs ds:List V}{vs us:List Value}(h:VCells X M w cs vs)(k:VCells X M w ds us):VCells X M w (cs++ds) (vs++us):=
 VCells.mk (by simp[h.len,k.len]) (fun i c v hc hv=>by
  rcases a1w i cs.length with hi|hi
  ·rw[a1k hi]at hc
   rw[a1k (by rw[←h.len];exact hi)]at hv
   obtain⟨u,hu,hr⟩:=h.get hc
   rw[hv]at hu;injection hu with hu;subst hu;exact hr
  rw[a1p hi]at hc
  rw[a1p (by rw[←h.len];exact hi)]at hv
  rw[←h.len]at hv
  obtain⟨u,hu,hr⟩:=k.get hc
  rw[hv]at hu;injection hu with hu;subst hu;exact hr)
end
def V.soft :V→V
 | .row _ k es=> .row none k es
 |x=>x
theorem VR.soft {X:Nat→Prop}{M:List (Option Nat)}{w:World}{x:V}{v:Value}(h:VR X M w x v):VR X M w x.soft v:=by
 cases x<;>first|exact h|(
  unfold VR at h
  unfold V.soft VR
  obtain⟨a,cap,e1,e2,e3,_,e5,e6⟩:=h
  exact⟨a,cap,e1,e2,e3,(fun b hb=>by cases hb),e5,e6⟩)
theorem VCells.soft {X:Nat→Prop}{M:List (Option Nat)}{w:World}: ∀{cs:List V}{vs:List Value},VCells X M w cs vs→VCells X M w (cs.map V.soft) vs
 | [],vs,h=>h
 |c::cs,vs,h=>by
  simp only[a1J]
  unfold VCells at h⊢
  obtain⟨v,rest,e1,e2,e3⟩:=h
  exact⟨v,rest,e1,e2.soft,e3.soft⟩
structure TI where
 desc:TypeDesc
 size:Nat
 bytes:Nat
 zero:Value
def aK (P:Program)(t:TypeId):Option TI:=
 match P.underlying t,P.info? t with
 |some d,some i=>match i.zero with
  |some z=>some ⟨d,i.size,i.bytes,z⟩
  |none=>none
 |_,_=>none
theorem cI {P:Program}{t:TypeId}{d:TI}(h:aK P t=some d):P.underlying t=some d.desc∧ ∃i,P.info? t=some i∧i.size=d.size∧i.bytes=d.bytes∧i.zero=some d.zero:=by
 unfold aK at h
 split at h
 ·rename_i d' i h1 h2
  split at h
  ·rename_i z hz
   injection h with h
   subst h
   exact⟨h1,i,h2,rfl,rfl,hz⟩
  cases h
 cases h
def bY :TypeDesc→Bool
 | .struct _ | .array _ _=>true
 |_=>false
section
variable {P:Program}{w:World}{t:TypeId}{d:TI}
theorem fS (h:aK P t=some d):(sizeOf t).run P w= .ok d.size w:=by
 obtain⟨_,i,hi,h1,_⟩:=cI h
 simp[sizeOf,typeInfo,hi,h1]
theorem aGB (h:aK P t=some d):(zeroValue t).run P w= .ok d.zero w:=by
 obtain⟨_,i,hi,_,_,h3⟩:=cI h
 simp[zeroValue,typeInfo,hi,h3]
theorem eX (h:aK P t=some d):(underlying t).run P w= .ok d.desc w:=run_underlying (cI h).1 w
theorem aOI (h:aK P t=some d):(isAgg t).run P w= .ok (bY d.desc) w:=by
 unfold isAgg
 rw[Sem.run_bind,eX h,Result.andThen_ok]
 cases d.desc<;>rfl
theorem aEY (a:Addr): ∀(vs:List Value)(i:Nat)(acc:Array Value),(∀j u,vs[j]? =some u→w.cell? (a.add (i+j))=some u)→
  (loadCellsFrom a i vs.length acc).run P w= .ok (acc++vs.toArray) w
 | [],i,acc,_=>by simp[loadCellsFrom]
 |v::vs,i,acc,h=>by
  have h0:=h 0 v rfl
  have ih:=aEY a vs (i+1) (acc.push v) (fun j u hu=>by have:=h (j+1) u (by simpa using hu);rwa[show i+1+j=i+(j+1) by omega])
  simp only[a1S,loadCellsFrom,load]
  simp only[a1W]at h0
  show(Sem.run P (Sem.bind (Sem.load .plain (a.add i) Sem.pure) _) w)=_
  simp only[Sem.bind,Sem.run,h0,ih]
  simp
theorem aJt (a:Addr)(vs:List Value)(h:LiesAt w a vs.toArray):(loadCells a vs.length).run P w= .ok vs.toArray w:=by
 unfold loadCells
 rw[aEY a vs 0 #[] (fun j u hu=>by rw[a13];exact h j u (by simpa using hu))]
 simp
end
def hT (P:Program)(t:TypeId)(cs:List V):Option V:=
 match aK P t with
 |none=>none
 |some d=>if bY d.desc then(if d.size≤cs.length then some (.agg (cs.take d.size))else none)else cs.head?
theorem LiesAt.take {w:World}{ad:Addr}{vs:List Value}(h:LiesAt w ad vs.toArray)(n:Nat):LiesAt w ad (vs.take n).toArray:=fun j u hu=>by
 refine h j u ?_
 simp only[a1P,a1V]at hu⊢
 split at hu
 ·exact hu
 cases hu
theorem LiesAt.drop {w:World}{ad:Addr}{vs:List Value}(h:LiesAt w ad vs.toArray)(n:Nat):LiesAt w (ad.add n) (vs.drop n).toArray:=fun j u hu=>by
 rw[vD]
 refine h _ u ?_
 simpa using hu
section
variable {X:Nat→Prop}{M:List (Option Nat)}{P:Program}{w:World}{t:TypeId}
theorem aNg {ad:Addr}{cs:List V}{vs:List Value}{x:V}(hc:VCells X M w cs vs)(hl:LiesAt w ad vs.toArray)(hp:hT P t cs=some x):
  ∃v,(loadVar t ad).run P w= .ok v w∧VR X M w x v:=by
 unfold hT at hp
 split at hp
 ·cases hp
 rename_i d hd
 unfold loadVar
 rw[Sem.run_bind,aOI hd,Result.andThen_ok]
 split at hp
 ·rename_i hag
  split at hp
  ·rename_i hsz
   injection hp with hp
   subst hp
   have hlen:(vs.take d.size).length=d.size:=by simp[←hc.len];omega
   refine⟨.agg (vs.take d.size).toArray, ?_, ?_⟩
   ·simp only[hag,if_true]
    rw[Sem.run_bind,fS hd,Result.andThen_ok,Sem.run_bind]
    have:=aJt (P:=P) (w:=w) ad (vs.take d.size) (hl.take _)
    rw[hlen]at this
    rw[this,Result.andThen_ok]
    rfl
   unfold VR;exact⟨_,rfl,hc.take _⟩
  cases hp
 rename_i hag
 rw[a11]at hp
 obtain⟨v,hv,hr⟩:=hc.get hp
 refine⟨v, ?_,hr⟩
 simp only[hag]
 have h0:=hl 0 v (by simpa using hv)
 have:ad.add 0=ad:=by simp[Addr.add]
 rw[this]at h0
 simp[load,Sem.run,h0]
theorem aM7 {cs:List V}{vs:List Value}{off:Nat}{x:V}(hc:VCells X M w cs vs)(hp:hT P t (cs.drop off)=some x):
  ∃v,(part t vs.toArray off).run P w= .ok v w∧VR X M w x v:=by
 unfold hT at hp
 split at hp
 ·cases hp
 rename_i d hd
 unfold part
 rw[Sem.run_bind,aOI hd,Result.andThen_ok]
 have hcd:=hc.drop off
 split at hp
 ·rename_i hag
  split at hp
  ·rename_i hsz
   injection hp with hp
   subst hp
   refine⟨.agg ((vs.drop off).take d.size).toArray, ?_,by unfold VR;exact⟨_,rfl,hcd.take _⟩⟩
   simp only[hag,if_true]
   rw[Sem.run_bind,fS hd,Result.andThen_ok]
   simp only[List.extract_toArray,List.extract_eq_drop_take']
   show Result.ok _ _=_
   congr 2
   simp[List.take_drop]
  cases hp
 rename_i hag
 rw[a11]at hp
 obtain⟨v,hv,hr⟩:=hcd.get hp
 refine⟨v, ?_,hr⟩
 simp only[hag]
 have h0:vs[off]? =some v:=by simpa using hv
 simp[h0]
end
section
variable {X:Nat→Prop}{M:List (Option Nat)}{w:World}
theorem VR.oneCell {x:V}{v:Value}(h:VR X M w x v)(hx:x.one=true):v.oneCell'=true:=by
 cases x<;>simp[V.one]at hx
 case sc c=>unfold VR at h;subst h;exact hx
 case row nil k es=>unfold VR at h;obtain⟨a,cap,rfl,_⟩:=h;rfl
 case ptr b off=>unfold VR at h;obtain⟨g,sh,_,rfl,_⟩:=h;rfl
 case mp b=>unfold VR at h;obtain⟨g,_,rfl,_⟩:=h;rfl
 case sl b off n k ag=>unfold VR at h;rcases h with⟨_,rfl,_⟩|⟨g,cap,e,sz,_,rfl,_⟩<;>rfl
 case eptr es i off=>unfold VR at h;obtain⟨ad,k,rfl,_⟩:=h;rfl
theorem eC {v:Value}(h:v.oneCell'=true):v.cells= #[v]:=by cases v<;>first|rfl|simp[Value.oneCell']at h
theorem VCells.oneCell {cs:List V}{vs:List Value}(h:VCells X M w cs vs)(hx:cs.all V.one=true): ∀v∈vs,v.oneCell'=true:=by
 intro v hv
 obtain⟨i,hi,rfl⟩:=List.mem_iff_getElem.1 hv
 have hc:i<cs.length:=by rw[h.len];exact hi
 obtain⟨u,hu,hr⟩:=h.get (a1r hc)
 rw[a1r hi]at hu
 injection hu with hu
 rw[hu]
 exact hr.oneCell (a1j.1 hx _ (List.getElem_mem hc))
theorem VR.cells' {x:V}{v:Value}(h:VR X M w x v)(hx:x.flatOk=true):VCells X M w x.cells v.cells.toList∧ ∀u∈v.cells.toList,u.oneCell'=true:=by
 have key:VCells X M w x.cells v.cells.toList:=by
  cases x with
  |agg cs=>unfold VR at h;obtain⟨vs,rfl,hc⟩:=h;simpa[V.cells,Value.cells]using hc
  |any=>simp[V.flatOk,V.cells,V.one]at hx
  |tup cs=>simp[V.flatOk,V.cells,V.one]at hx
  |sc c=>rw[eC (h.oneCell (by simpa[V.flatOk,V.cells]using hx))];simp only[V.cells];unfold VCells;exact⟨v,[],rfl,h,by unfold VCells;rfl⟩
  |row _ _ _=>rw[eC (h.oneCell rfl)];simp only[V.cells];unfold VCells;exact⟨v,[],rfl,h,by unfold VCells;rfl⟩
  |mp _=>rw[eC (h.oneCell rfl)];simp only[V.cells];unfold VCells;exact⟨v,[],rfl,h,by unfold VCells;rfl⟩
  |ptr _ _=>rw[eC (h.oneCell rfl)];simp only[V.cells];unfold VCells;exact⟨v,[],rfl,h,by unfold VCells;rfl⟩
  |sl _ _ _ _ _=>rw[eC (h.oneCell rfl)];simp only[V.cells];unfold VCells;exact⟨v,[],rfl,h,by unfold VCells;rfl⟩
  |eptr _ _ _=>rw[eC (h.oneCell rfl)];simp only[V.cells];unfold VCells;exact⟨v,[],rfl,h,by unfold VCells;rfl⟩
 exact⟨key,key.oneCell hx⟩
end
theorem aSz {w:World}{o:Obj}{g:Nat}{sh:TypeId×Nat}(h:w.shape? g=some sh):(w.alloc o).shape? g=some sh:=by
 have hg:g<w.heap.size:=by
  rcases a1w g w.heap.size with h'|h'
  ·exact h'
  simp[World.shape?,a1M h']at h
 have:(w.alloc o).heap[g]? =w.heap[g]? :=RowKit.Below.heap_alloc w o g hg
 unfold World.shape? at *
 rw[this];exact h
theorem aOu (w:World)(cs:Array Value)(e:TypeId):(w.alloc (.cells cs e)).shape? w.heap.size=some (e,cs.size):=by
 unfold World.shape?; rw[heap_alloc_new w _]
theorem Ext.alloc (S:Nat→Prop)(w:World)(o:Obj):Ext S w (w.alloc o):=
 ⟨rfl,⟨rfl,a1m _⟩,rfl,by simp,fun g hg _=>RowKit.Below.heap_alloc w o g hg,fun _ _ h=>aSz h,fun g hg h=>by unfold World.shape? at *; rw[show(w.alloc o).heap[g]? =w.heap[g]? from RowKit.Below.heap_alloc w o g hg];exact h⟩
theorem Ext.drew (S:Nat→Prop)(w:World):Ext S w w.drew:=⟨rfl,⟨rfl,Nat.le_succ _⟩,rfl,a1m _,fun _ _ _=>rfl,fun _ _ h=>h,fun _ _ h=>h⟩
theorem HR.drew {A:Nat→Prop}{M:List (Option Nat)}{h:Hp}{w:World}(H:HR A M h w):HR A M h w.drew:=
 ⟨H.len,H.alt,fun b B hb=>by
  obtain⟨h0,hn|⟨g,cs,h1,h2,h3,h4,h5⟩⟩:=H.blk b B hb
  ·exact⟨h0,.inl hn⟩
  exact⟨h0,.inr ⟨g,cs,h1,h2,h3,h4,VCells.ext (Ext.drew (fun _=>False) w) (a1h _) (fun _ _ h=>h.elim) (fun _ _ h=>h) _ _ h5⟩⟩,H.inj,H.glob.ext (Ext.drew (fun _=>False) w) (fun _ _ h=>h.elim) (fun _ _ h=>h)⟩
theorem Grow.drew {A:Nat→Prop}{M:List (Option Nat)}{h:Hp}{w:World}(H:HR A M h w):Grow A M h w M h w.drew:=
 ⟨a1h _,H.drew,Ext.drew _ _,fun _ _ h=>h⟩
theorem kS {α:Type}{l:List α}{x:α}{b:Nat}{y:α}(h:l[b]? =some y):(l++[x])[b]? =some y:=by
 rw[a1k (a1c.1 h).1];exact h
theorem eV {α:Type}{l:List α}{x:α}{b:Nat}{y:α}(h:(l++[x])[b]? =some y):l[b]? =some y∨(b=l.length∧y=x):=by
 rcases a1w b l.length with hl|hl
 ·rw[a1k hl]at h;exact .inl h
 rw[a1p hl]at h
 rcases Nat.eq_or_lt_of_le hl with he|he
 ·rw[←he]at h;simp at h;exact .inr ⟨he.symm,h.symm⟩
 rw[a1D (by simp;omega)]at h;cases h
theorem lG {M:List (Option Nat)}{s b g:Nat}(h:(M++[some s])[b]? =some (some g)):M[b]? =some (some g)∨(b=M.length∧g=s):=by
 rcases eV h with h|⟨h,h'⟩
 ·exact .inl h
 injection h' with h';exact .inr ⟨h,h'⟩
theorem HR.mlt {A:Nat→Prop}{M:List (Option Nat)}{h:Hp}{w:World}(H:HR A M h w){b g:Nat}{B:Blk}(hb:h[b]? =some (some B))(hm:M[b]? =some (some g)):g<w.heap.size:=H.lt (.inr ⟨b,B,hb,hm⟩)
theorem Grow.allocF {A:Nat→Prop}{M:List (Option Nat)}{h:Hp}{w:World}(H:HR A M h w)(e:TypeId)(cells:List V)(vs:Array Value)(hle:cells.length≤vs.size)(hc:VCells (Xs A M h) M w cells (vs.toList.take cells.length))(h1: ∀c∈cells,c.one=true)(f:Nat×Nat)(hf:f=(0,0)∨f=(vs.size,vs.size+1)):
  Grow A M h w (M++[some w.heap.size]) (h++[some ⟨e,cells⟩]) (w.alloc (.cells vs e f)):=by
 have hE:Ext (cU M h) w (w.alloc (.cells vs e f)):=Ext.alloc _ _ _
 have hlive: ∀g,g<w.heap.size→cU (M++[some w.heap.size]) (h++[some ⟨e,cells⟩]) g→cU M h g:=by
  rintro g hg ⟨b,B,hb,hm⟩
  rcases eV hm with hm'|⟨_,hm'⟩
  ·rcases eV hb with hb'|⟨rfl,_⟩
   ·exact⟨b,B,hb',hm'⟩
   have:=(a1c.1 hm').1;rw[H.len]at this;omega
  injection hm';omega
 have keep: ∀cs us,VCells (Xs A M h) M w cs us→VCells (Xs A (M++[some w.heap.size]) (h++[some ⟨e,cells⟩])) (M++[some w.heap.size]) (w.alloc (.cells vs e f)) cs us:=
  fun cs us hh=>VCells.ext hE ⟨_,rfl⟩ (fun _ _ hl=> .inr hl) (fun g hg hx=>hx.elim .inl (fun hl=> .inr (hlive g hg hl))) cs us hh
 refine⟨⟨_,rfl⟩,⟨by simp[H.len],fun g hg=>by have:=H.alt g hg;simp;omega, ?_, ?_,H.glob.grow hE hlive⟩,hE,hlive⟩
 ·intro b B hb
  rcases eV hb with hb'|⟨hbl,hB⟩
  ·obtain⟨h0,⟨hn,hn'⟩|⟨g,cs,h1,h2,h3,h4,h5⟩⟩:=H.blk b B hb'
   ·exact⟨h0,.inl ⟨kS hn,hn'⟩⟩
   exact⟨h0,.inr ⟨g,cs,kS h1,h2,h3.to (RowKit.Below.heap_alloc w _ g (H.mlt hb' h1)),h4,keep _ _ h5⟩⟩
  injection hB with hB
  subst hB
  refine⟨h1,.inr ⟨w.heap.size,vs,by rw[hbl,←H.len];simp,fun ha=>Nat.lt_irrefl _ (H.alt _ ha),.inl ⟨f,hf,heap_alloc_new w _⟩,hle,keep _ _ hc⟩⟩
 intro b b' B B' g hb hb' hm hm'
 rcases eV hb with h1|⟨h1,_⟩<;>rcases eV hb' with h2|⟨h2,_⟩<;>rcases lG hm with m1|⟨m1,m1'⟩<;>rcases lG hm' with m2|⟨m2,m2'⟩
 ·exact H.inj b b' B B' g h1 h2 m1 m2
 ·have:=H.mlt h1 m1;omega
 ·have:=H.mlt h2 m2;omega
 ·have:=(a1c.1 h1).1;rw[m1,H.len]at this;omega
 all_goals first
  |(have:=(a1c.1 m2).1;rw[H.len]at this;omega)
  |(have:=(a1c.1 m1).1;rw[H.len]at this;omega)
  |(have:=H.mlt h1 m1;omega)
  |(have:=H.mlt h2 m2;omega)
  |omega
def splice {α:Type}(l:List α)(off:Nat)(vs:List α):List α:=l.take off++vs++l.drop (off+vs.length)
theorem Grow.alloc {A:Nat→Prop}{M:List (Option Nat)}{h:Hp}{w:World}(H:HR A M h w)(e:TypeId)(cells:List V)(vs:Array Value)(hle:cells.length≤vs.size)(hc:VCells (Xs A M h) M w cells (vs.toList.take cells.length))(h1: ∀c∈cells,c.one=true):
  Grow A M h w (M++[some w.heap.size]) (h++[some ⟨e,cells⟩]) (w.alloc (.cells vs e)):=Grow.allocF H e cells vs hle hc h1 (0,0) (.inl rfl)
theorem aMQ {α:Type}(l:List α)(k:Nat)(v:α)(vs:List α)(hk:k<l.length):splice (l.set k v) (k+1) vs=splice l k (v::vs):=by
 unfold splice
 have h1:(l.set k v).take (k+1)=l.take k++[v]:=by
  rw[List.take_succ_eq_append_getElem (by simpa using hk)]
  simp[List.take_set_of_le]
 have h2:(l.set k v).drop (k+1+vs.length)=l.drop (k+(v::vs).length):=by
  rw[List.drop_set_of_lt (by omega)]
  congr 1
  simp;omega
 rw[h1,h2]
 simp
theorem aMD {w:World}{g off:Nat}{cs:Array Value}{e:TypeId}{f:Nat×Nat}(h:w.heap[g]? =some (.cells cs e f))(v:Value):
  w.setCell ⟨g,off,none⟩ v={w with heap:=w.heap.setIfInBounds g (.cells (cs.setIfInBounds off v) e f)}:=by
 unfold World.setCell
 congr 1
 apply a2m
 apply a1G
 intro i
 have hg:g<w.heap.size:=(a1i.1 h).1
 simp only[a1Q,Array.getElem?_modify,a1C]
 by_cases hi:g=i
 ·subst hi;rw[h];simp[hg]
 simp[hi]
theorem aCU {P:Program}{g:Nat}{e:TypeId}{f:Nat×Nat}{sz:Nat}(hf:f=(0,0)∨f=(sz,sz+1)): ∀(vs:List Value)(off i:Nat)(w:World)(cs:Array Value),cs.size=sz→w.heap[g]? =some (.cells cs e f)→(∀v∈vs,v.oneCell'=true)→
  off+i+vs.length≤cs.size→
  (storeCells ⟨g,off,none⟩ vs i).run P w= .ok () {w with heap:=w.heap.setIfInBounds g (.cells (splice cs.toList (off+i) vs).toArray e f)}
 | [],off,i,w,cs,_,h,_,_=>by
  simp only[storeCells,splice,List.append_nil,a14,a1W,List.take_append_drop]
  show Result.ok () w=_
  congr 1
  have hg:g<w.heap.size:=(a1i.1 h).1
  have:w.heap.setIfInBounds g (.cells cs.toList.toArray e f)=w.heap:=by
   apply a2m
   apply a1G
   intro j
   simp only[a1Q,a1C]
   by_cases hj:g=j
   ·subst hj;rw[h];simp[hg]
   simp[hj]
  rw[this]
 |v::vs,off,i,w,cs,hsz,h,h1,hs=>by
  have hv:=h1 v (by simp)
  have hlt:off+i<cs.size:=by simp at hs;omega
  have hadd:(Addr.mk g off none).add i=⟨g,off+i,none⟩:=by unfold Addr.add;split<;>simp_all
  have hcell:w.cell? ⟨g,off+i,none⟩=some cs[off+i]:=by simp[World.cell?,h,hlt]
  have hfz:w.frozen? ⟨g,off+i,none⟩=false:=by
   unfold World.frozen?; rw[h];exact aRL hf (show off+i<sz by omega)
  have hw:=aMD (off:=off+i) h v
  have hg:g<w.heap.size:=(a1i.1 h).1
  have ih:=aCU (P:=P) (g:=g) (e:=e) hf vs off (i+1) (w.setCell ⟨g,off+i,none⟩ v) (cs.setIfInBounds (off+i) v) (by simpa using hsz) (by rw[hw];simp[hg]) (fun u hu=>h1 u (by simp[hu])) (by simp at hs ⊢; omega)
  have step:(storeCells ⟨g,off,none⟩ (v::vs) i).run P w=(storeCells ⟨g,off,none⟩ vs (i+1)).run P (w.setCell ⟨g,off+i,none⟩ v):=by
   simp only[storeCells,hadd]
   show Sem.run P (Sem.bind (Sem.store .plain ⟨g,off+i,none⟩ v (Sem.pure ())) _) w=_
   cases v<;>first|(simp only[Sem.bind,Sem.run,hcell,hfz];rfl)|simp[Value.oneCell']at hv
  rw[step,ih,hw]
  congr 1
  simp only[World.mk.injEq,and_true,Array.setIfInBounds_setIfInBounds]
  congr 2
  apply congrArg a1X
  rw[a1U]
  exact aMQ _ (off+i) v vs (by simpa using hlt)
theorem aAE {α:Type}(l:List α)(off:Nat)(vs:List α)(h:off+vs.length≤l.length):(splice l off vs).length=l.length:=by
 unfold splice;simp;omega
theorem aRv {α:Type}(l:List α)(off n:Nat)(vs:List α)(h:off+vs.length≤n)(hn:n≤l.length):(splice l off vs).take n=splice (l.take n) off vs:=by
 unfold splice
 rw[a2e,a2e,List.take_take,List.take_take]
 have h1:(List.take off l++vs).length=off+vs.length:=by simp;omega
 rw[a1q (l:=vs) (by simp;omega),h1,a15 (by omega:off≤n),Nat.min_eq_right (by omega:off≤n)]
 congr 1
 rw[List.take_drop]
 congr 2
 omega
section
variable {X:Nat→Prop}{M:List (Option Nat)}{w:World}
theorem VCells.splice {cs ds:List V}{vs us:List Value}(h:VCells X M w cs vs)(k:VCells X M w ds us)(off:Nat):VCells X M w (splice cs off ds) (splice vs off us):=by
 unfold Vm.splice
 rw[k.len]
 exact((h.take off).append k).append (h.drop _)
end
theorem Ext.setBlock {S:Nat→Prop}{w:World}{g:Nat}{cs cs':Array Value}{e:TypeId}{f:Nat×Nat}(h:w.heap[g]? =some (.cells cs e f))(hs:cs'.size=cs.size)(hS:S g):
  Ext S w {w with heap:=w.heap.setIfInBounds g (.cells cs' e f)}:=by
 have hg:g<w.heap.size:=(a1i.1 h).1
 refine⟨rfl,⟨rfl,a1m _⟩,rfl,by simp,fun k hk hn=> ?_,fun k sh hsh=> ?_,fun k hk hsh=> ?_⟩
 ·show(w.heap.setIfInBounds g _)[k]? =_
  rw[a1g (by rintro rfl;exact hn hS)]
 ·unfold World.shape? at *
  show(match(w.heap.setIfInBounds g (.cells cs' e f))[k]? with|some (.cells c elem _)=>some (elem,c.size)|_=>none)=some sh
  by_cases hk:g=k
  ·subst hk
   rw[a1E hg]
   rw[h]at hsh
   simpa[hs]using hsh
  rw[a1g hk];exact hsh
 unfold World.shape? at *
 show(match(w.heap.setIfInBounds g (.cells cs' e f))[k]? with|some (.cells c elem _)=>some (elem,c.size)|_=>none)=none
 by_cases hk:g=k
 ·subst hk
  rw[h]at hsh
  cases hsh
 rw[a1g hk];exact hsh
theorem lW {α:Type}{l:List α}{b i:Nat}{x y:α}(h:(l.set b x)[i]? =some y):(i=b∧y=x)∨(i≠b∧l[i]? =some y):=by
 by_cases hi:i=b
 ·subst hi
  rcases a1w i l.length with hl|hl
  ·rw[a12 hl]at h;injection h with h;exact .inl ⟨rfl,h.symm⟩
  rw[a1D (by simpa using hl)]at h;cases h
 rw[a1H (Ne.symm hi)]at h;exact .inr ⟨hi,h⟩
theorem aQt {M:List (Option Nat)}{h:Hp}{b:Nat}{B B':Blk}(hb:h[b]? =some (some B)){g:Nat}(hl:cU M (h.set b (some B')) g):cU M h g:=by
 obtain⟨i,C,hi,hm⟩:=hl
 rcases lW hi with⟨rfl,_⟩|⟨_,hi'⟩
 ·exact⟨i,B,hb,hm⟩
 exact⟨i,C,hi',hm⟩
theorem Grow.store {P:Program}{A:Nat→Prop}{M:List (Option Nat)}{h:Hp}{w:World}(H:HR A M h w){b:Nat}{B:Blk}(hb:h[b]? =some (some B)){off:Nat}{news:List V}{vs:List Value}
  (hoff:off+news.length≤B.cells.length) (hc:VCells (Xs A M h) M w news vs) (h1: ∀v∈vs,v.oneCell'=true) {g:Nat} (hg:M[b]? =some (some g)) {sh:TypeId×Nat} (hs:w.shape? g=some sh) (hone: ∀c∈news,c.one=true):
  ∃w',(storeCells ⟨g,off,none⟩ vs).run P w= .ok () w'∧Grow A M h w M (h.set b (some ⟨B.e,Vm.splice B.cells off news⟩)) w':=by
 obtain⟨hB1,⟨hn,_⟩|⟨g',cs,hg',hA,hh,hle,hcs⟩⟩:=H.blk b B hb
 ·rw[hg]at hn;cases hn
 rw[hg]at hg';injection hg' with hg';injection hg' with hg';subst hg'
 have hlen:=hc.len
 obtain⟨f,hf,hh⟩:=hh.inCells hs
 refine⟨_,aCU hf vs off 0 w cs rfl hh h1 (by omega), ?_⟩
 simp only[a1W]
 have hsz:(Vm.splice cs.toList off vs).toArray.size=cs.size:=by
  simp only[a2c];rw[aAE _ _ _ (by simp;omega)];simp
 have hE:Ext (cU M h) w {w with heap:=w.heap.setIfInBounds g (.cells (Vm.splice cs.toList off vs).toArray B.e f)}:=Ext.setBlock hh hsz ⟨b,B,hb,hg⟩
 have hlive: ∀k,k<w.heap.size→cU M (h.set b (some ⟨B.e,Vm.splice B.cells off news⟩)) k→cU M h k:=fun k _ hl=>aQt hb hl
 have keep: ∀cs us,VCells (Xs A M h) M w cs us→VCells (Xs A M (h.set b (some ⟨B.e,Vm.splice B.cells off news⟩))) M _ cs us:=
  fun cs us hk=>VCells.ext hE (a1h _) (fun _ _ hl=> .inr hl) (fun k hk hx=>hx.elim .inl (fun hl=> .inr (hlive k hk hl))) cs us hk
 have hgs:g<w.heap.size:=(a1i.1 hh).1
 refine⟨a1h _,⟨by simp[H.len],fun k hk=>by simpa using H.alt k hk, ?_, ?_,H.glob.grow hE hlive⟩,hE,hlive⟩
 ·intro i C hi
  rcases lW hi with⟨rfl,hC⟩|⟨hne,hi'⟩
  ·injection hC with hC
   subst hC
   refine⟨?_,.inr ⟨g,(Vm.splice cs.toList off vs).toArray,hg,hA,.inl ⟨f,by rw[hsz];exact hf,by simp[hgs]⟩, ?_, ?_⟩⟩
   ·intro c hc'
    simp only[Vm.splice,a16]at hc'
    rcases hc' with(hc'|hc')|hc'
    ·exact hB1 c (a1l hc')
    ·exact hone c hc'
    exact hB1 c (a1o hc')
   ·rw[hsz];simp only;rw[aAE _ _ _ hoff];exact hle
   have e1:((Vm.splice cs.toList off vs).toArray.toList.take (Vm.splice B.cells off news).length)=Vm.splice (cs.toList.take B.cells.length) off vs:=by
    rw[aAE _ _ _ hoff]
    simp only
    exact aRv _ _ _ _ (by omega) (by simpa using hle)
   rw[e1]
   exact keep _ _ (hcs.splice hc off)
  obtain⟨h0,hn|⟨k,ds,hk,hA',hh',hle',hds⟩⟩:=H.blk i C hi'
  ·exact⟨h0,.inl hn⟩
  refine⟨h0,.inr ⟨k,ds,hk,hA', ?_,hle',keep _ _ hds⟩⟩
  have hkg:k≠g:=by rintro rfl;exact hne (H.inj i b C B k hi' hb hk hg)
  refine hh'.to ?_
  show(w.heap.setIfInBounds g _)[k]? =_
  rw[a1g (Ne.symm hkg)]
 intro i j C D k hi hj mi mj
 rcases lW hi with⟨rfl,_⟩|⟨_,hi'⟩<;>rcases lW hj with⟨rfl,_⟩|⟨_,hj'⟩
 ·rfl
 ·exact H.inj i j B D k hb hj' mi mj
 ·exact H.inj i j C B k hi' hb mi mj
 exact H.inj i j C D k hi' hj' mi mj
theorem HR.kill {A:Nat→Prop}{M:List (Option Nat)}{h:Hp}{w:World}(H:HR A M h w)(b:Nat):HR A M (h.set b none) w:=by
 have hl: ∀g,cU M (h.set b none) g→cU M h g:=by
  rintro g ⟨i,C,hi,hm⟩
  rcases lW hi with⟨_,hC⟩|⟨_,hi'⟩
  ·cases hC
  exact⟨i,C,hi',hm⟩
 refine⟨by simp[H.len],H.alt,fun i C hi=> ?_,fun i j C D k hi hj mi mj=> ?_,H.glob.avoid fun g _ hx=>hx.elim .inl (fun h'=> .inr (hl g h'))⟩
 ·rcases lW hi with⟨_,hC⟩|⟨_,hi'⟩
  ·cases hC
  obtain⟨h0,hn|⟨k,ds,hk,hA',hh',hle',hds⟩⟩:=H.blk i C hi'
  ·exact⟨h0,.inl hn⟩
  exact⟨h0,.inr ⟨k,ds,hk,hA',hh',hle',VCells.ext (Ext.refl (fun _=>False) w) (a1h _) (fun _ _ h=>h.elim) (fun k hk hx=>hx.elim .inl (fun h'=> .inr (hl k h'))) _ _ hds⟩⟩
 rcases lW hi with⟨_,hC⟩|⟨_,hi'⟩
 ·cases hC
 rcases lW hj with⟨_,hC⟩|⟨_,hj'⟩
 ·cases hC
 exact H.inj i j C D k hi' hj' mi mj
theorem Grow.kill {A:Nat→Prop}{M:List (Option Nat)}{h:Hp}{w:World}(H:HR A M h w)(b:Nat):Grow A M h w M (h.set b none) w:=
 ⟨a1h _,H.kill b,Ext.refl _ _,fun g _ hl=>by
  obtain⟨i,C,hi,hm⟩:=hl
  rcases lW hi with⟨_,hC⟩|⟨_,hi'⟩
  ·cases hC
  exact⟨i,C,hi',hm⟩⟩
def lim :Nat:=140737488355328
theorem Grow.move {A:Nat→Prop}{M:List (Option Nat)}{h:Hp}{w w':World}(H:HR A M h w){b g:Nat}{B:Blk}(hb:h[b]? =some (some B))(hg:M[b]? =some (some g))
  (hE:Ext (cU M h) w w') (hoth: ∀k,k≠g→k<w.heap.size→w'.heap[k]? =w.heap[k]?) {cs':Array Value} {e:TypeId} {cells:List V} (hh:Holds w' g cs' e cells.length)
  (hle:cells.length≤cs'.size) (hc:VCells (Xs A M h) M w cells (cs'.toList.take cells.length)) (h1: ∀c∈cells,c.one=true):
  Grow A M h w (M++[some g]) (h.set b none++[some ⟨e,cells⟩]) w':=by
 have hA: ¬A g:=by
  obtain⟨_,⟨hn,_⟩|⟨g',cs,hg',hA,_⟩⟩:=H.blk b B hb
  ·rw[hg]at hn;cases hn
  rw[hg]at hg';injection hg' with hg';injection hg' with hg';subst hg';exact hA
 have hold: ∀(i:Nat)(C:Blk),(h.set b none++[some ⟨e,cells⟩])[i]? =some (some C)→(i≠b∧h[i]? =some (some C))∨(i=h.length∧C=⟨e,cells⟩):=by
  intro i C hi
  rcases eV hi with hi|⟨hi,hC⟩
  ·rcases lW hi with⟨_,hC⟩|⟨hne,hi'⟩
   ·cases hC
   exact .inl ⟨hne,hi'⟩
  injection hC with hC;exact .inr ⟨by simpa using hi,hC⟩
 have hlive: ∀k,k<w.heap.size→cU (M++[some g]) (h.set b none++[some ⟨e,cells⟩]) k→cU M h k:=by
  rintro k hk ⟨i,C,hi,hm⟩
  rcases hold i C hi with⟨_,hi'⟩|⟨rfl,_⟩
  ·rcases lG hm with hm'|⟨hl,_⟩
   ·exact⟨i,C,hi',hm'⟩
   have:=(a1c.1 hi').1;rw[H.len]at hl;omega
  rcases lG hm with hm'|⟨_,hl⟩
  ·have:=(a1c.1 hm').1;rw[H.len]at this;omega
  subst hl;exact⟨b,B,hb,hg⟩
 have keep: ∀cs us,VCells (Xs A M h) M w cs us→VCells (Xs A (M++[some g]) (h.set b none++[some ⟨e,cells⟩])) (M++[some g]) w' cs us:=
  fun cs us hk=>VCells.ext hE ⟨_,rfl⟩ (fun _ _ hl=> .inr hl) (fun k hk hx=>hx.elim .inl (fun hl=> .inr (hlive k hk hl))) cs us hk
 refine⟨⟨_,rfl⟩,⟨by simp[H.len],fun k hk=>a1n (H.alt k hk) hE.size, ?_, ?_,H.glob.grow hE hlive⟩,hE,hlive⟩
 ·intro i C hi
  rcases hold i C hi with⟨hne,hi'⟩|⟨rfl,rfl⟩
  ·obtain⟨h0,⟨hn,hn'⟩|⟨k,ds,hk,hA',hh',hle',hds⟩⟩:=H.blk i C hi'
   ·exact⟨h0,.inl ⟨kS hn,hn'⟩⟩
   refine⟨h0,.inr ⟨k,ds,kS hk,hA', ?_,hle',keep _ _ hds⟩⟩
   exact hh'.to (hoth k (by rintro rfl;exact hne (H.inj i b C B k hi' hb hk hg)) (H.mlt hi' hk))
  exact⟨h1,.inr ⟨g,cs',by rw[←H.len];simp,hA,hh,hle,keep _ _ hc⟩⟩
 intro i j C D k hi hj mi mj
 rcases hold i C hi with⟨hne,hi'⟩|⟨rfl,_⟩<;>rcases hold j D hj with⟨hnj,hj'⟩|⟨rfl,_⟩
 ·rcases lG mi with m1|⟨m1,_⟩
  ·rcases lG mj with m2|⟨m2,_⟩
   ·exact H.inj i j C D k hi' hj' m1 m2
   have:=(a1c.1 hj').1;rw[H.len]at m2;omega
  have:=(a1c.1 hi').1;rw[H.len]at m1;omega
 ·rcases lG mi with m1|⟨m1,_⟩
  ·rcases lG mj with m2|⟨_,m2⟩
   ·have:=(a1c.1 m2).1;rw[H.len]at this;omega
   subst m2;exact absurd (H.inj i b C B k hi' hb m1 hg) hne
  have:=(a1c.1 hi').1;rw[H.len]at m1;omega
 ·rcases lG mj with m1|⟨m1,_⟩
  ·rcases lG mi with m2|⟨_,m2⟩
   ·have:=(a1c.1 m2).1;rw[H.len]at this;omega
   subst m2;exact absurd (H.inj j b D B k hj' hb m1 hg) hnj
  have:=(a1c.1 hj').1;rw[H.len]at m1;omega
 rfl
theorem Grow.virt {A:Nat→Prop}{M:List (Option Nat)}{h:Hp}{w:World}(H:HR A M h w)(e:TypeId):Grow A M h w (M++[none]) (h++[some ⟨e,[]⟩]) w:=by
 have hlive: ∀g,cU (M++[none]) (h++[some ⟨e,[]⟩]) g→cU M h g:=by
  rintro g ⟨b,B,hb,hm⟩
  rcases eV hm with hm'|⟨_,hm'⟩
  ·rcases eV hb with hb'|⟨rfl,_⟩
   ·exact⟨b,B,hb',hm'⟩
   have:=(a1c.1 hm').1;rw[H.len]at this;omega
  cases hm'
 have keep: ∀cs us,VCells (Xs A M h) M w cs us→VCells (Xs A (M++[none]) (h++[some ⟨e,[]⟩])) (M++[none]) w cs us:=
  fun cs us hh=>VCells.ext (Ext.refl (cU M h) w) ⟨_,rfl⟩ (fun _ _ hl=> .inr hl) (fun g hg hx=>hx.elim .inl (fun hl=> .inr (hlive g hl))) cs us hh
 refine⟨⟨_,rfl⟩,⟨by simp[H.len],H.alt, ?_, ?_,H.glob.avoid fun g _ hx=>hx.elim .inl (fun h'=> .inr (hlive g h'))⟩,Ext.refl _ _,fun g _ hl=>hlive g hl⟩
 ·intro b B hb
  rcases eV hb with hb'|⟨hbl,hB⟩
  ·obtain⟨h0,⟨hn,hn'⟩|⟨g,cs,h1,h2,h3,h4,h5⟩⟩:=H.blk b B hb'
   ·exact⟨h0,.inl ⟨kS hn,hn'⟩⟩
   exact⟨h0,.inr ⟨g,cs,kS h1,h2,h3,h4,keep _ _ h5⟩⟩
  injection hB with hB
  subst hB
  exact⟨by simp,.inl ⟨by rw[hbl,←H.len];simp,rfl⟩⟩
 intro b b' B B' g hb hb' hm hm'
 rcases eV hm with m1|⟨_,m1⟩
 ·rcases eV hm' with m2|⟨_,m2⟩
  ·rcases eV hb with h1|⟨h1,_⟩
   ·rcases eV hb' with h2|⟨h2,_⟩
    ·exact H.inj b b' B B' g h1 h2 m1 m2
    have:=(a1c.1 m2).1;rw[H.len]at this;omega
   have:=(a1c.1 m1).1;rw[H.len]at this;omega
  cases m2
 cases m1
theorem aKV {w:World}{g:Nat}{cs cs':Array Value}{e:TypeId}{f:Nat×Nat}(h:w.heap[g]? =some (.cells cs e f)):
  w.setRow g cs'={w with heap:=w.heap.setIfInBounds g (.cells cs' e f)}:=by
 have h1:=setRow_heap w g cs cs' e f h
 have hg:g<w.heap.size:=(a1i.1 h).1
 have hw:w.setRow g cs'={w with heap:=(w.setRow g cs').heap}:=by unfold World.setRow;rfl
 rw[hw]
 congr 1
 apply a2m
 apply a1G
 intro i
 simp only[a1Q,a1C]
 by_cases hi:g=i
 ·subst hi;rw[h1];simp[hg]
 rw[setRow_other w g i cs' (fun e=>hi e.symm)];simp[hi]
theorem aRy {P:Program}{w:World}(t ty e:TypeId)(i:TypeInfo)(ht:P.underlying t=some (.slice e))(hi:P.info? e=some i)
  (g sLen sCap:Nat) (cur:Array Value) {f:Nat×Nat} (hfz:f=(0,0)∨f=(cur.size,cur.size+1)) (hg:w.heap[g]? =some (.cells cur e f))
  (a:Addr) (m c:Nat) (news:List Value) (hl:news.length=m*i.size) (hnews: ∀j u,news[j]? =some u→w.cell? (a.add j)=some u) (h1: ∀u∈news,u.oneCell'=true)
  (hroom:sLen+m≤sCap) (hfit:sLen*i.size+news.length≤cur.size):
  (Builtin.append_ #[t,t] ty #[.slice (some ⟨g,0,none⟩) sLen sCap,.slice (some a) m c]).run P w=
   .ok (.slice (some ⟨g,0,none⟩) (sLen+m) sCap) (w.setRow g (cur.toList.take (sLen*i.size)++news++cur.toList.drop (sLen*i.size+news.length)).toArray):=by
 have hf:=run_firstCells_some (P:=P) w i.size m a m c news hl hnews
 have hst:=aCU (P:=P) hfz news (sLen*i.size) 0 w cur rfl hg h1 (by simpa using hfit)
 simp only[a1W]at hst
 rw[aKV hg]
 simp[Builtin.append_,run_underlying ht,sizeOf,typeInfo,hi,Builtin.lenOf,hroom,hf,Addr.add_lit,hst,splice]
structure Src (X:Nat→Prop)(M:List (Option Nat))(w:World)(k:Nat)(news:List V)(m:Nat)(v:Value):Prop where
 one: ∀c∈news,c.one=true
 len:news.length=m*k
 is:(∃c,v= .slice none 0 c∧m=0)∨ ∃ad c vs,v= .slice (some ad) m c∧VCells X M w news vs∧LiesAt w ad vs.toArray
theorem aKy {P:Program}{A:Nat→Prop}{M:List (Option Nat)}{h:Hp}{w:World}(H:HR A M h w){t ty e:TypeId}{d dt:TI}(ht:aK P t=some dt)(hts:dt.desc= .slice e)(hd:aK P e=some d)
  (hz:d.zero.cells.size=d.size) (h0:0<d.size) {v x:Value} {b n m:Nat} {B:Blk} {news:List V}
  (hb:h[b]? =some (some B)) (he:B.e=e) (hn:n*d.size≤B.cells.length) {ag:Bool} (hv:VR (Xs A M h) M w (.sl b 0 n d.size ag) v)
  (hs:Src (Xs A M h) M w d.size news m x) (hlim:(n+m)*d.bytes≤lim) (hby:1≤d.bytes):
  ∃v' w' M',(Builtin.append_ #[t,t] ty #[v,x]).run P w= .ok v' w'∧Grow A M h w M' (h.set b none++[some ⟨e,B.cells.take (n*d.size)++news⟩]) w'∧
   VR (Xs A M' (h.set b none++[some ⟨e,B.cells.take (n*d.size)++news⟩])) M' w' (.sl h.length 0 (n+m) d.size ag) v':=by
 obtain⟨hu,_,_,_,_,_⟩:=cI ht
 rw[hts]at hu
 obtain⟨_,i,hi,hsz,hbt,hzz⟩:=cI hd
 have hnm:n+m≤lim:=Nat.le_trans (by have:=Nat.mul_le_mul_left (n+m) hby;omega) hlim
 have hB1:=(H.blk b B hb).1
 have h1: ∀c∈B.cells.take (n*d.size)++news,c.one=true:=by
  intro c hc
  rcases List.mem_append.1 hc with hc|hc
  ·exact hB1 c (List.mem_of_mem_take hc)
  exact hs.one c hc
 have hlV:(B.cells.take (n*d.size)++news).length=(n+m)*d.size:=by
  rw[List.length_append,List.length_take,hs.len,Nat.min_eq_left hn,Nat.add_mul]
 unfold VR at hv
 have hlenM:h.length=M.length:=H.len.symm
 rcases hv with⟨hM,rfl,rfl,_⟩|⟨g,cap,e',sz',hM,rfl,hnc,hcm,_,hshape,hszle⟩
 ·
  have hBc:B.cells=[]:=by
   rcases(H.blk b B hb).2 with⟨_,hh⟩|⟨g,cs,hg,_⟩
   ·exact hh
   rw[hM]at hg;cases hg
  simp only[Nat.zero_mul,List.take_zero,List.nil_append,Nat.zero_add]at *
  have K:=Grow.kill H b
  rcases hs.is with⟨c,rfl,rfl⟩|⟨ad,c,vs,rfl,hc,hl⟩
  ·have hnews:news=[]:=List.eq_nil_of_length_eq_zero (by simpa using hs.len)
   subst hnews
   refine⟨.slice none 0 0,w,M++[none], ?_,K.trans (Grow.virt K.hr e), ?_⟩
   ·simp[Builtin.append_,run_underlying hu,sizeOf,typeInfo,hi,Builtin.lenOf,Builtin.firstCells]
   unfold VR;exact .inl ⟨by rw[hlenM];simp,rfl,rfl,rfl⟩
  rcases Nat.eq_zero_or_pos m with rfl|hm
  ·have hnews:news=[]:=List.eq_nil_of_length_eq_zero (by simpa using hs.len)
   subst hnews
   refine⟨.slice none 0 0,w,M++[none], ?_,K.trans (Grow.virt K.hr e), ?_⟩
   ·simp[Builtin.append_,run_underlying hu,sizeOf,typeInfo,hi,Builtin.lenOf,Builtin.firstCells,loadCells,loadCellsFrom]
   unfold VR;exact .inl ⟨by rw[hlenM];simp,rfl,rfl,rfl⟩
  have hr:=run_append_nil (P:=P) w t ty e i d.zero hu hi hzz ad m c vs (by rw[←hc.len,hs.len,hsz]) (fun j u hj=>hl j u (by simpa using hj)) hm (by unfold lim at hnm;omega) (by rw[hbt];unfold lim at hlim;omega)
  have hge:=grownCap_ge w m 0 e
  have hcm:grownCap w m 0 e≤maxLen:=grownCap_le_maxLen w m 0 e (by unfold lim at hnm;simp only[maxLen];omega)
  have hvl:vs.length=m*d.size:=by rw[←hc.len,hs.len]
  have Gd:=K.trans (Grow.drew K.hr)
  have G:=Gd.trans (Grow.alloc Gd.hr e news (vs.toArray++Builtin.zeroCells d.zero.cells (grownCap w m 0 e-m)) (by simp[hc.len]) (by
   have:(vs.toArray++Builtin.zeroCells d.zero.cells (grownCap w m 0 e-m)).toList.take news.length=vs:=by
    rw[Array.toList_append,hc.len];exact List.take_left
   rw[this]
   exact VCells.ext Gd.ext (List.prefix_refl _) (fun _ _ hl=> .inr hl) (fun k hk hx=>hx.elim .inl (fun hl=> .inr (Gd.live k hk hl))) _ _ hc) hs.one)
  refine⟨_,_,_,hr,G, ?_⟩
  unfold VR
  refine .inr ⟨w.heap.size,grownCap w m 0 e,e,_,by rw[hlenM];simp,rfl,hge,hcm,h0, ?_,Nat.le_refl _⟩
  show World.shape? (w.drew.alloc _) w.heap.size=_
  unfold World.shape?
  rw[show(w.drew.alloc (.cells (vs.toArray++Builtin.zeroCells d.zero.cells (grownCap w m 0 e-m)) e)).heap[w.heap.size]? =some (.cells (vs.toArray++Builtin.zeroCells d.zero.cells (grownCap w m 0 e-m)) e)from heap_alloc_new w.drew _]
  simp only[Array.size_append,List.size_toArray,size_zeroCells,hz,hvl,←Nat.add_mul]
  rw[show m+(grownCap w m 0 e-m)=grownCap w m 0 e by omega,Nat.zero_add]
 
 obtain⟨g',cs,hg',hA,hh,hle,hcs⟩:=(H.blk b B hb).2.resolve_left (fun hn=>by rw[hM]at hn;cases hn.1)
 rw[hM]at hg';injection hg' with hg';injection hg' with hg';subst hg'
 obtain⟨f,hf,hh⟩:=hh.inCells hshape
 have hcsz:cap*d.size≤cs.size:=by
  unfold World.shape? at hshape
  rw[hh]at hshape
  simp only[Option.some.injEq,Prod.mk.injEq]at hshape
  omega
 have hlA:LiesAt w ⟨g,0,none⟩ (cs.toList.take (n*d.size)).toArray:=fun j u hu=>by
  have hadd:(⟨g,0,none⟩:Addr).add j=⟨g,j,none⟩:=by unfold Addr.add;split<;>simp_all
  rw[hadd,cell_of_row w g j cs B.e f hh]
  simp only[List.getElem?_toArray,List.getElem?_take]at hu
  split at hu
  ·simpa using hu
  cases hu
 have hxsl:(cs.toList.take (n*d.size)).length=n*d.size:=by simp;omega
 have hxs:VCells (Xs A M h) M w (B.cells.take (n*d.size)) (cs.toList.take (n*d.size)):=by
  have:=hcs.take (n*d.size)
  rwa[List.take_take,Nat.min_eq_left hn]at this
 obtain⟨vs,hvs,hrunRoom,hrunGrow⟩: ∃vs,VCells (Xs A M h) M w news vs∧
   (n+m≤cap→(Builtin.append_ #[t,t] ty #[.slice (some ⟨g,0,none⟩) n cap,x]).run P w= .ok (.slice (some ⟨g,0,none⟩) (n+m) cap) (w.setRow g (cs.toList.take (n*d.size)++vs++cs.toList.drop (n*d.size+vs.length)).toArray))∧
   (cap<n+m→(Builtin.append_ #[t,t] ty #[.slice (some ⟨g,0,none⟩) n cap,x]).run P w= .ok (.slice (some ⟨w.heap.size,0,none⟩) (n+m) (grownCap w (n+m) cap e))
    (w.drew.alloc (.cells ((cs.toList.take (n*d.size)).toArray++vs.toArray++Builtin.zeroCells d.zero.cells (grownCap w (n+m) cap e-(n+m))) e))):=by
  rcases hs.is with⟨c,rfl,rfl⟩|⟨ad,c,vs,rfl,hc,hl⟩
  ·have hnews:news=[]:=List.eq_nil_of_length_eq_zero (by simpa using hs.len)
   subst hnews
   refine⟨[],by unfold VCells;rfl,fun hroom=> ?_,fun hh=>by omega⟩
   have e1:(cs.toList.take (n*d.size)++[]++cs.toList.drop (n*d.size+([]:List Value).length)).toArray=cs:=by simp
   rw[e1]
   have e2:w.setRow g cs=w:=by
    rw[aKV hh]
    have hgl:g<w.heap.size:=(Array.getElem?_eq_some_iff.1 hh).1
    have:w.heap.setIfInBounds g (.cells cs B.e f)=w.heap:=by
     apply Array.ext'
     apply List.ext_getElem?
     intro j
     simp only[Array.getElem?_toList,Array.getElem?_setIfInBounds]
     by_cases hj:g=j
     ·subst hj;rw[hh];simp[hgl]
     simp[hj]
    rw[this]
   rw[e2]
   simp[Builtin.append_,run_underlying hu,sizeOf,typeInfo,hi,Builtin.lenOf,Builtin.firstCells,hnc,storeCells]
  have hvl:vs.length=m*i.size:=by rw[←hc.len,hs.len,hsz]
  have hone:=VCells.oneCell hc (List.all_eq_true.2 hs.one)
  refine⟨vs,hc,fun hroom=> ?_,fun hgr=> ?_⟩
  ·have:=aRy (P:=P) (w:=w) t ty e i hu hi g n cap cs hf (he▸hh) ad m c vs hvl (fun j u hj=>hl j u (by simpa using hj)) hone hroom (by
    rw[hvl,hsz,←Nat.add_mul];exact Nat.le_trans (Nat.mul_le_mul_right _ hroom) hcsz)
   rw[hsz]at this
   exact this
  exact run_append_grow (P:=P) w t ty e i d.zero hu hi hzz ⟨g,0,none⟩ n cap (cs.toList.take (n*d.size)) (by rw[hxsl,hsz]) (fun j u hj=>hlA j u (by simpa using hj)) ad m c vs hvl (fun j u hj=>hl j u (by simpa using hj)) hgr
   (by unfold lim at hnm;omega) (growslice_fits hgr (by rw[hbt];exact hlim))
 have hvsl:vs.length=m*d.size:=by rw[←hvs.len,hs.len]
 rcases Nat.lt_or_ge cap (n+m)with hgr|hroom
 ·have hr:=hrunGrow hgr
  have hge:=grownCap_ge w (n+m) cap e
  have hcm':grownCap w (n+m) cap e≤maxLen:=grownCap_le_maxLen w (n+m) cap e (by unfold lim at hnm;simp only[maxLen];omega)
  have K:=Grow.kill H b
  have Gd:=K.trans (Grow.drew K.hr)
  have G:=Gd.trans (Grow.alloc Gd.hr e (B.cells.take (n*d.size)++news) ((cs.toList.take (n*d.size)).toArray++vs.toArray++Builtin.zeroCells d.zero.cells (grownCap w (n+m) cap e-(n+m)))
   (by rw[hlV];simp only[Array.size_append,List.size_toArray,hxsl,hvsl,←Nat.add_mul];omega) (by
   have:((cs.toList.take (n*d.size)).toArray++vs.toArray++Builtin.zeroCells d.zero.cells (grownCap w (n+m) cap e-(n+m))).toList.take (B.cells.take (n*d.size)++news).length=cs.toList.take (n*d.size)++vs:=by
    rw[hlV,Array.toList_append,Array.toList_append]
    have:(n+m)*d.size=((cs.toList.take (n*d.size)).toArray.toList++vs.toArray.toList).length:=by
     simp only[List.length_append,hxsl,hvsl,←Nat.add_mul]
    rw[this]
    exact List.take_left
   rw[this]
   exact VCells.ext Gd.ext (List.prefix_refl _) (fun _ _ hl=> .inr hl) (fun k hk hx=>hx.elim .inl (fun hl=> .inr (Gd.live k hk hl))) _ _ (hxs.append hvs)) h1)
  refine⟨_,_,_,hr,G, ?_⟩
  unfold VR
  refine .inr ⟨w.heap.size,grownCap w (n+m) cap e,e,_,by rw[hlenM];simp,rfl,hge,hcm',h0, ?_,Nat.le_refl _⟩
  unfold World.shape?
  rw[show(w.drew.alloc (.cells ((cs.toList.take (n*d.size)).toArray++vs.toArray++Builtin.zeroCells d.zero.cells (grownCap w (n+m) cap e-(n+m))) e)).heap[w.heap.size]? =some (.cells ((cs.toList.take (n*d.size)).toArray++vs.toArray++Builtin.zeroCells d.zero.cells (grownCap w (n+m) cap e-(n+m))) e)from heap_alloc_new w.drew _]
  simp only[Array.size_append,List.size_toArray,size_zeroCells,hz,hxsl,hvsl,←Nat.add_mul]
  rw[show n+m+(grownCap w (n+m) cap e-(n+m))=grownCap w (n+m) cap e by omega,Nat.zero_add]
 have hr:=hrunRoom hroom
 have hfit:n*d.size+vs.length≤cs.size:=by rw[hvsl,←Nat.add_mul];exact Nat.le_trans (Nat.mul_le_mul_right _ hroom) hcsz
 have hsz':(cs.toList.take (n*d.size)++vs++cs.toList.drop (n*d.size+vs.length)).toArray.size=cs.size:=by simp;omega
 rw[aKV hh]at hr
 have hE:Ext (cU M h) w {w with heap:=w.heap.setIfInBounds g (.cells (cs.toList.take (n*d.size)++vs++cs.toList.drop (n*d.size+vs.length)).toArray B.e f)}:=Ext.setBlock hh hsz' ⟨b,B,hb,hM⟩
 have hgl:g<w.heap.size:=(Array.getElem?_eq_some_iff.1 hh).1
 refine⟨_,_,M++[some g],hr,Grow.move (e:=e) (cs':=(cs.toList.take (n*d.size)++vs++cs.toList.drop (n*d.size+vs.length)).toArray) H hb hM hE (fun k hk hkl=> ?_) (.inl ⟨f,by rw[hsz'];exact hf,by rw[←he];simp[hgl]⟩) ?_ ?_ h1, ?_⟩
 ·show(w.heap.setIfInBounds g _)[k]? =_
  rw[Array.getElem?_setIfInBounds_ne (Ne.symm hk)]
 ·rw[hsz',hlV];exact Nat.le_trans (Nat.mul_le_mul_right _ hroom) hcsz
 ·have:(cs.toList.take (n*d.size)++vs++cs.toList.drop (n*d.size+vs.length)).toArray.toList.take (B.cells.take (n*d.size)++news).length=cs.toList.take (n*d.size)++vs:=by
   rw[hlV]
   have:(n+m)*d.size=(cs.toList.take (n*d.size)++vs).length:=by simp only[List.length_append,hxsl,hvsl,←Nat.add_mul]
   rw[this]
   exact List.take_left
  rw[this]
  exact hxs.append hvs
 unfold VR
 exact .inr ⟨g,cap,e',sz',by rw[hlenM];simp,rfl,hroom,hcm,h0,hE.shape _ _ hshape,hszle⟩
def ev (s:List V):Operand→Option V
 | .tmp t=>s[t]?
 | .const v=>some (ofValue v)
 | .func f=>some (.sc (.func (.func f) #[] #[]))
 | .global g=>(GT g).map fun e=> .eptr [e] 0 0
def cZ :V→Option Value
 | .sc v=>some v
 | .row (some true) _ []=>some (.slice none 0 0)
 |_=>none
def eJ :V→Option Value
 | .agg cs=>(cs.mapM cZ).map fun vs=> .agg vs.toArray
 |x=>cZ x
section
variable {X:Nat→Prop}{M:List (Option Nat)}{w:World}
theorem aBW {x:V}{v u:Value}(h:VR X M w x v)(hx:cZ x=some u):v=u:=by
 unfold cZ at hx
 split at hx
 ·injection hx with hx;subst hx;unfold VR at h;exact h
 ·injection hx with hx;subst hx;unfold VR at h
  obtain⟨a,cap,rfl,_,h1,h2,_⟩:=h
  have:a=none:=h2 true rfl
  cases a with
  |none=>simp[h1 rfl]
  |some a=>simp at this
 cases hx
theorem aDH : ∀{cs:List V}{vs us:List Value},VCells X M w cs vs→cs.mapM cZ=some us→vs=us
 | [],vs,us,h,hm=>by unfold VCells at h;simp at hm;rw[h,hm]
 |c::cs,vs,us,h,hm=>by
  unfold VCells at h
  obtain⟨v,rest,rfl,h1,h2⟩:=h
  simp only[a1B,a1u,a1b,a1K,a1d]at hm
  obtain⟨u,hu,us',hus,rfl⟩:=hm
  rw[aBW h1 hu,aDH h2 hus]
theorem pJ {x:V}{v u:Value}(h:VR X M w x v)(hx:eJ x=some u):v=u:=by
 unfold eJ at hx
 split at hx
 ·rename_i cs
  simp only[a1a]at hx
  obtain⟨us,hus,rfl⟩:=hx
  unfold VR at h
  obtain⟨vs,rfl,hc⟩:=h
  rw[aDH hc hus]
 exact aBW h hx
end
def pureV (P:Program)(s:Sem Value):Option V:=(aS P s).map ofValue
def rR (P:Program)(s:TypeId)(x:V)(f:Nat):Option V:=
 match aK P s with
 |some ⟨.struct fields,_,_,_⟩=>
  match fields[f]? with
  |some fl=>
   match aK P fl.type with
   |some d=>if d.size=0 then none else
    match x with
    | .ptr b off=>some (.ptr b (off+fl.offset))
    | .eptr es i off=>some (.eptr es i (off+fl.offset))
    |_=>none
   |none=>none
  |none=>none
 |_=>none
def aGw (P:Program)(s:TypeId)(x:V)(f:Nat):Option V:=
 match aK P s with
 |some ⟨.struct fields,_,_,_⟩=>
  match fields[f]?,x with
  |some fl,.agg cs=>hT P fl.type (cs.drop fl.offset)
  |_,_=>none
 |_=>none
def qH :V→Option Int
 | .sc (.int _ n)=>some n
 |_=>none
def iF (P:Program)(t:TypeId)(x i:V):Option V:=
 match aK P t,qH i with
 |some ⟨.slice e,_,_,_⟩,some n=>
  match aK P e with
  |none=>none
  |some d=>
   match x with
   | .row _ k es=>if k=d.size∧0≤n∧n<es.length then some (.eptr es n.toNat 0)else none
   | .sl b off m k _=>if k=d.size∧0≤n∧n<m then some (.ptr b (off+n.toNat*k))else none
   |_=>none
 |some ⟨.array len e,_,_,_⟩,some n=>
  match aK P e with
  |none=>none
  |some d=>
   match x with
   | .ptr b off=>if 0≤n∧n<len then some (.ptr b (off+n.toNat*d.size))else none
   | .eptr es i off=>if 0≤n∧n<len then some (.eptr es i (off+n.toNat*d.size))else none
   |_=>none
 |_,_=>none
def aBU (P:Program)(t:TypeId)(x i:V):Option V:=
 match aK P t,x,qH i with
 |some ⟨.array len e,_,_,_⟩,.agg cs,some n=>
  match aK P e with
  |some d=>if 0≤n∧n<len then hT P e (cs.drop (n.toNat*d.size))else none
  |none=>none
 |some ⟨.string,_,_,_⟩,.sc (.string s),some n=>
  if 0≤n then match s[n.toNat]? with
   |some b=>some (.sc (.int .u8 b.toNat))
   |none=>none
  else none
 |_,_,_=>none
def eZ (P:Program)(t:TypeId)(h:Hp):V→Option V
 | .ptr b off=>match h[b]? with
  |some (some B)=>hT P t (B.cells.drop off)
  |_=>none
 | .eptr es i off=>match es[i]? with
  |some e=>hT P t (e.cells.drop off)
  |none=>none
 |_=>none
def qY (P:Program)(t:TypeId)(h:Hp)(a x:V):Option Hp:=
 match a,aK P t with
 | .ptr b off,some d=>match h[b]? with
  |some (some B)=>if x.flatOk=true∧x.cells.length=d.size∧off+d.size≤B.cells.length then some (h.set b (some ⟨B.e,splice B.cells off x.cells⟩))else none
  |_=>none
 |_,_=>none
def mV (lo:Option V):Option Int:=match lo with
 |none=>some 0
 |some v=>qH v
def vU (hi:Option V)(len:Nat):Option Int:=match hi with
 |none=>some len
 |some v=>qH v
def nlS :Option Bool→Option Bool
 |some true=>some true
 |_=>none
def iZ (P:Program)(t:TypeId)(h:Hp)(x:V)(lo hi:Option V):Option V:=
 match aK P t with
 |some ⟨.slice e,_,_,_⟩=>
  match aK P e with
  |none=>none
  |some d=>
   match x with
   | .row nil k es=>match mV lo,vU hi es.length with
    |some l,some u=>if k=d.size∧0≤l∧l≤u∧u≤es.length then some (.row (nlS nil) k ((es.take u.toNat).drop l.toNat))else none
    |_,_=>none
   | .sl b off n k ag=>match mV lo,vU hi n with
    |some l,some u=>
     if k=d.size∧0≤l∧l≤u∧u≤n then
      (if l=0 then some (.sl b off u.toNat k ag)else if l<u then some (.sl b (off+l.toNat*k) (u.toNat-l.toNat) k ag)else some (.row none k []))
     else none
    |_,_=>none
   |_=>none
 |some ⟨.string,_,_,_⟩=>
  match x with
  | .sc (.string s)=>match mV lo,vU hi s.size with
   |some l,some u=>if 0≤l∧l≤u∧u≤s.size then some (.sc (.string (s.extract l.toNat u.toNat)))else none
   |_,_=>none
  |_=>none
 |some ⟨.array n e,_,_,_⟩=>
  match aK P e,x,mV lo,vU hi n with
  |some d,.ptr b off,some l,some u=>match h[b]? with
   |some (some B)=>
    if 0<d.size∧n≤lim∧0≤l∧l<u∧u≤n∧off+n*d.size≤B.cells.length then some (.sl b (off+l.toNat*d.size) (u.toNat-l.toNat) d.size (bY d.desc))else none
   |_=>none
  |some d,.eptr es i off,some l,some u=>match es[i]? with
   |some e=>if d.size=1∧bY d.desc=false∧0≤l∧l<u∧u≤n∧off+n≤e.cells.length then some (.row none 1 ((e.cells.drop (off+l.toNat)).take (u.toNat-l.toNat)))else none
   |none=>none
  |_,_,_,_=>none
 |_=>none
def y5 (P:Program)(t:TypeId)(x:V)(lo:Option V)(hi mx:V):Option V:=
 match aK P t,x,mV lo,qH hi,qH mx with
 |some ⟨.slice e,_,_,_⟩,.row _ k es,some l,some u,some m=>
  match aK P e with
  |some d=>if k=d.size∧0≤l∧l≤u∧u=m∧u≤es.length then some (.row (some false) k ((es.take u.toNat).drop l.toNat))else if es.isEmpty=true∧l=0∧u=0∧m=0 then some (.row (some false) k [])else none
  |none=>none
 |some ⟨.slice e,_,_,_⟩,.sl b off n k ag,some l,some u,some m=>
  match aK P e with
  |some _=>if l=0∧u=m∧0≤u∧u≤(n:Int)then some (.sl b off u.toNat k ag)else none
  |none=>none
 |_,_,_,_,_=>none
def aIR (P:Program)(t:TypeId)(x:V):Option V:=
 match aK P t,x with
 |some ⟨.array n _,_,_,_⟩,.row _ k es=>if k=1∧0<n∧n≤es.length∧es.all V.one=true then some (.eptr [.agg (es.take n)] 0 0)else none
 |some ⟨.array n _,_,_,_⟩,.sl b off m _ _=>if 0<n∧n≤m then some (.ptr b off)else none
 |_,_=>none
def aEE (P:Program)(t:TypeId):V→Option V
 | .row _ _ es=>match aK P t with
  |some ⟨.slice _,_,_,_⟩=>some (.sc (.int .i64 es.length))
  |_=>none
 | .sl _ _ n _ _=>match aK P t with
  |some ⟨.slice _,_,_,_⟩=>some (.sc (.int .i64 n))
  |_=>none
 | .sc (.string s)=>match aK P t with
  |some ⟨.string,_,_,_⟩=>some (.sc (.int .i64 s.size))
  |_=>none
 |_=>none
def eH (P:Program)(t:TypeId):Option (Array (Nat×Nat)):=
 match aK P t with
 |some ⟨.struct fields,_,_,_⟩=>aS P (fields.mapM fun f=>do pure (f.offset,←sizeOf f.type))
 |_=>none
def qF (place:Nat→Option (Nat×Nat))(cells:List V):List (Nat×V)→Option (List V)
 | []=>some cells
 |(i,x)::rest=>
  match place i with
  |none=>none
  |some (off,size)=>if x.flatOk=true∧x.cells.length=size∧off+size≤cells.length then qF place (splice cells off x.cells) rest else none
def u6 (P:Program)(t:TypeId)(parts:List (Nat×V)):Option V:=
 match aK P t with
 |some ⟨.struct _,_,_,z⟩=>
  match eH P t with
  |some places=>(qF (places[·]?) (z.cells.toList.map d8) parts).map .agg
  |none=>none
 |some ⟨.array _ e,_,_,z⟩=>
  match aK P e with
  |some d=>(qF (fun i=>some (i*d.size,d.size)) (z.cells.toList.map d8) parts).map .agg
  |none=>none
 |_=>none
def gV (P:Program)(t:TypeId)(len:Nat)(parts:List (Nat×V))(h:Hp):Option (V×Hp):=
 match aK P t with
 |some ⟨.slice e,_,_,_⟩=>
  match aK P e with
  |some d=>
   if len*d.size≤2^24∧0<len∧0<d.size then
    match qF (fun i=>some (i*d.size,d.size)) (((a2j (len*d.size)).map (d.zero.cells[· % d.zero.cells.size]!)).toList.map d8) parts with
    |some cells=>if cells.all V.one=true∧cells.length=len*d.size then some (.sl h.length 0 len d.size (bY d.desc),h++[some ⟨e,cells⟩])else none
    |none=>none
   else if len=0∧parts.isEmpty=true∧0<d.size then some (.sl h.length 0 0 d.size (bY d.desc),h++[some ⟨e,[]⟩])else none
  |none=>none
 |_=>none
def aCm (P:Program)(t:TypeId)(l c:V)(h:Hp):Option (V×Hp):=
 match aK P t,l,c with
 |some ⟨.slice e,_,_,_⟩,.sc (.int _ n),.sc (.int _ m)=>
  match aK P e with
  |some d=>
   if 0≤n∧n≤m∧m.toNat*d.bytes≤lim∧1≤d.bytes∧0<d.size∧d.zero.cells.size=d.size∧(d.zero.cells.toList.map (V.soft∘d8)).all V.one=true then
    some (.sl h.length 0 n.toNat d.size (bY d.desc),h++[some ⟨e,(a1I (if n=0 then m.toNat else n.toNat) (d.zero.cells.toList.map (V.soft∘d8))).flatten⟩])
   else none
  |none=>none
 |_,_,_=>none
def fT (h:Hp)(k:Nat):V→Option (List V×Nat)
 | .row _ k' es=>if k'=k∨es=[]then some (es.flatMap V.cells,es.length)else none
 | .sl b off m k' _=>match h[b]? with
  |some (some B)=>if k'=k∧off+m*k≤B.cells.length then some ((B.cells.drop off).take (m*k),m)else none
  |_=>none
 |_=>none
def hJ (P:Program)(t t':TypeId)(x y:V)(h:Hp):Option (V×Hp):=
 if t≠t' then none else
 match aK P t with
 |some ⟨.slice e,_,_,_⟩=>
  match aK P e with
  |none=>none
  |some d=>
   if d.zero.cells.size=d.size∧0<d.size∧1≤d.bytes then
    match fT h d.size y with
    |none=>none
    |some (news,m)=>
     match x with
     | .row (some false) k es=>if(es=[]∨k=d.size)∧0<m∧(es.length+m)*d.bytes≤lim then some (.sl h.length 0 (es.length+m) d.size (bY d.desc),h++[some ⟨e,es.flatMap V.cells++news⟩])else none
     | .row (some true) _ []=>if m*d.bytes≤lim then some (.sl (h.length+1) 0 m d.size (bY d.desc),h++[none]++[some ⟨e,news⟩])else none
     | .sl b 0 n k ag=>match h[b]? with
      |some (some B)=>if k=d.size∧B.e=e∧n*k≤B.cells.length∧(n+m)*d.bytes≤lim then
        some (.sl h.length 0 (n+m) k ag,h.set b none++[some ⟨e,B.cells.take (n*k)++news⟩])else none
      |_=>none
     |_=>none
   else none
 |_=>none
def aLc (P:Program)(t:TypeId)(x y:V)(h:Hp):Option (V×Hp):=
 match aK P t with
 |some ⟨.slice e,_,_,_⟩=>
  match aK P e with
  |none=>none
  |some d=>
   match x,fT h d.size y with
   | .sl b off n k _,some (news,m)=>match h[b]? with
    |some (some B)=>if k=d.size∧0<k∧off+n*k≤B.cells.length then
      some (.sc (.int .i64 (min m n:Nat)),h.set b (some ⟨B.e,splice B.cells off (news.take (min m n*k))⟩))else none
    |_=>none
   |_,_=>none
 |_=>none
section
variable {X:Nat→Prop}{M:List (Option Nat)}{P:Program}{w:World}
theorem aFA (g off n:Nat):(⟨g,off,none⟩:Addr).add n=⟨g,off+n,none⟩:=by unfold Addr.add;split<;>simp_all
theorem aNB {a:Addr}{f:Field}{d:TI}(hd:aK P f.type=some d)(h0:d.size≠0):(fieldPlace a f).run P w= .ok (a.add f.offset) w:=by
 unfold fieldPlace
 rw[Sem.run_bind,fS hd,Result.andThen_ok]
 simp[h0]
theorem aPc {s:TypeId}{x r:V}{f:Nat}{v:Value}(hx:VR X M w x v)(hr:rR P s x f=some r): ∃u,(Instr.fieldAt s v f).run P w= .ok u w∧VR X M w r u:=by
 unfold rR at hr
 split at hr
 ·rename_i fields sz by_ z hs
  split at hr
  ·rename_i fl hfl
   split at hr
   ·rename_i d hd
    split at hr
    ·cases hr
    rename_i h0
    have hu:=eX (w:=w) hs
    have key: ∀a:Addr,(Instr.fieldAt s (.pointer (some a)) f).run P w= .ok (.pointer (some (a.add fl.offset))) w:=fun a=>by
     unfold Instr.fieldAt
     rw[Sem.run_bind,hu,Result.andThen_ok]
     simp only[hfl]
     simp[Instr.sureAddr,aNB hd h0]
    split at hr
    ·rename_i b off
     injection hr with hr;subst hr
     unfold VR at hx
     obtain⟨g,sh,hg,rfl,hs⟩:=hx
     exact⟨_,key _,by unfold VR;exact⟨g,sh,hg,by rw[aFA],hs⟩⟩
    ·rename_i es i off
     injection hr with hr;subst hr
     unfold VR at hx
     obtain⟨ad,k,rfl,hk,hX,hsp,hok,hrow⟩:=hx
     exact⟨_,key _,by unfold VR;exact⟨ad,k,by rw[vD,a1A],hk,hX,hsp,hok,hrow⟩⟩
    cases hr
   cases hr
  cases hr
 cases hr
theorem aRw {s:TypeId}{x r:V}{f:Nat}{v:Value}(hx:VR X M w x v)(hr:aGw P s x f=some r): ∃u,(Instr.field s v f).run P w= .ok u w∧VR X M w r u:=by
 unfold aGw at hr
 split at hr
 ·rename_i fields sz by_ z hs
  split at hr
  ·rename_i fl cs hfl
   unfold VR at hx
   obtain⟨vs,rfl,hc⟩:=hx
   obtain⟨u,hu,hru⟩:=aM7 (P:=P) hc hr
   refine⟨u, ?_,hru⟩
   unfold Instr.field
   rw[Sem.run_bind,eX hs,Result.andThen_ok]
   simp only[hfl]
   simp[asAgg,hu]
  cases hr
 cases hr
theorem g6 {x:V}{n:Int}{v:Value}(hx:VR X M w x v)(h:qH x=some n): ∃k,v= .int k n:=by
 unfold qH at h
 split at h
 ·injection h with h;subst h;unfold VR at hx;exact⟨_,hx⟩
 cases h
theorem aPb {t:TypeId}{x i r:V}{v vi:Value}(hx:VR X M w x v)(hi:VR X M w i vi)(hr:iF P t x i=some r): ∃u,(Instr.indexAt t v vi).run P w= .ok u w∧VR X M w r u:=by
 unfold iF at hr
 split at hr
 ·rename_i e sz by_ z n ht hn
  obtain⟨kk,rfl⟩:=g6 hi hn
  split at hr
  ·cases hr
  rename_i d hd
  have hu:=eX (w:=w) ht
  have hsz:=fS (w:=w) hd
  split at hr
  ·rename_i nil k es
   split at hr
   ·rename_i hc
    injection hr with hr;subst hr
    obtain⟨hk,h0,hl⟩:=hc
    unfold VR at hx
    obtain⟨a,cap,rfl,hcap,_,_,hok,hrow⟩:=hx
    obtain⟨ad,rfl,hk0,hX,hsp,hrw⟩:=hrow (by rintro rfl;simp at hl;omega)
    refine⟨.pointer (some (ad.add (n.toNat*d.size))), ?_,by unfold VR;exact⟨ad,k,by rw[hk,a1W],hk0,fun _=>hX,hsp,hok,hrw⟩⟩
    simp[Instr.indexAt,asIntOf,hu,hsz,h0,hl]
   cases hr
  ·rename_i b off m k ag
   split at hr
   ·rename_i hc
    injection hr with hr;subst hr
    obtain⟨hk,h0,hl⟩:=hc
    unfold VR at hx
    rcases hx with⟨_,_,rfl,_⟩|⟨g,cap,e',sz',hg,rfl,_,_,_,hs,_⟩
    ·simp at hl;omega
    refine⟨.pointer (some ⟨g,off+n.toNat*k,none⟩), ?_,by unfold VR;exact⟨g,_,hg,rfl,hs⟩⟩
    simp[Instr.indexAt,asIntOf,hu,hsz,h0,hl,aFA,hk]
   cases hr
  cases hr
 ·rename_i len e sz by_ z n ht hn
  obtain⟨kk,rfl⟩:=g6 hi hn
  split at hr
  ·cases hr
  rename_i d hd
  have hu:=eX (w:=w) ht
  have hsz:=fS (w:=w) hd
  split at hr
  ·rename_i b off
   split at hr
   ·rename_i hc
    injection hr with hr;subst hr
    obtain⟨h0,hl⟩:=hc
    unfold VR at hx
    obtain⟨g,sh,hg,rfl,hs⟩:=hx
    refine⟨.pointer (some ⟨g,off+n.toNat*d.size,none⟩), ?_,by unfold VR;exact⟨g,sh,hg,rfl,hs⟩⟩
    simp[Instr.indexAt,asIntOf,hu,hsz,h0,hl,aFA,Instr.sureAddr]
   cases hr
  ·rename_i es j off
   split at hr
   ·rename_i hc
    injection hr with hr;subst hr
    obtain⟨h0,hl⟩:=hc
    unfold VR at hx
    obtain⟨ad,k,rfl,hk,hX,hsp,hok,hrow⟩:=hx
    refine⟨.pointer (some ((ad.add (j*k+off)).add (n.toNat*d.size))), ?_,by unfold VR;exact⟨ad,k,by rw[vD,a1A],hk,hX,hsp,hok,hrow⟩⟩
    simp[Instr.indexAt,asIntOf,hu,hsz,h0,hl,Instr.sureAddr]
   cases hr
  cases hr
 cases hr
theorem aRr {t:TypeId}{x i r:V}{v vi:Value}(hx:VR X M w x v)(hi:VR X M w i vi)(hr:aBU P t x i=some r): ∃u,(Instr.index t v vi).run P w= .ok u w∧VR X M w r u:=by
 unfold aBU at hr
 split at hr
 ·rename_i len e sz by_ z cs n ht hn
  obtain⟨kk,rfl⟩:=g6 hi hn
  split at hr
  ·rename_i d hd
   split at hr
   ·rename_i hc
    unfold VR at hx
    obtain⟨vs,rfl,hcs⟩:=hx
    obtain⟨u,hu,hru⟩:=aM7 (P:=P) hcs hr
    refine⟨u, ?_,hru⟩
    have hun:=eX (w:=w) ht
    have hsz:=fS (w:=w) hd
    simp[Instr.index,asIntOf,hun,hsz,hc,hu]
   cases hr
  cases hr
 ·rename_i sz by_ z s n ht hn
  obtain⟨kk,rfl⟩:=g6 hi hn
  split at hr
  ·rename_i h0
   split at hr
   ·rename_i b hb
    injection hr with hr;subst hr
    unfold VR at hx
    subst hx
    refine⟨_, ?_,by unfold VR;rfl⟩
    have hun:=eX (w:=w) ht
    simp[Instr.index,asIntOf,hun,h0,hb]
   cases hr
  cases hr
 cases hr
theorem VRow.get {k:Nat}: ∀{es:List V}{ad:Addr},VRow X M w k es ad→ ∀{i:Nat}{e:V},es[i]? =some e→ ∃v,VR X M w e v∧v.cells.size=k∧LiesAt w (ad.add (i*k)) v.cells
 | [],ad,_,i,e,he=>by simp at he
 |x::es,ad,h,i,e,he=>by
  unfold VRow at h
  cases i with
  |zero=>
   simp at he;subst he
   obtain⟨v,h1,h2,h3⟩:=h.1
   exact⟨v,h1,h2,by simpa[Addr.add]using h3⟩
  |succ i=>
   simp at he
   obtain⟨v,h1,h2,h3⟩:=VRow.get h.2 he
   refine⟨v,h1,h2, ?_⟩
   rw[vD]at h3
   rwa[show(i+1)*k=k+i*k by rw[a1y,a1N,a1Y]]
theorem VRow.flat {k:Nat}: ∀{es:List V}{ad:Addr},VRow X M w k es ad→(∀e∈es,e.okElem k=true)→
  ∃vs,VCells X M w (es.flatMap V.cells) vs∧LiesAt w ad vs.toArray∧(es.flatMap V.cells).length=es.length*k∧ ∀c∈es.flatMap V.cells,c.one=true
 | [],ad,_,_=>⟨[],by simp only[a2f];unfold VCells;rfl,fun j u hu=>by simp at hu,by simp,by simp⟩
 |x::es,ad,h,hok=>by
  unfold VRow at h
  obtain⟨⟨v,h1,h2,h3⟩,h4⟩:=h
  obtain⟨vs,g1,g2,g3,g4⟩:=VRow.flat h4 (fun e he=>hok e (by simp[he]))
  have hx:=hok x (by simp)
  simp only[V.okElem,a1v,beq_iff_eq]at hx
  obtain⟨c1,_⟩:=h1.cells' hx.1
  have hl:v.cells.toList.length=k:=by simpa using h2
  refine⟨v.cells.toList++vs, ?_, ?_, ?_, ?_⟩
  ·simp only[a1t];exact c1.append g1
  ·intro j u hu
   simp only[a1P]at hu
   rcases a1w j k with hj|hj
   ·rw[a1k (by omega)]at hu
    exact h3 j u (by simpa using hu)
   rw[a1p (by omega),hl]at hu
   have:=g2 (j-k) u (by simpa using hu)
   rwa[vD,show k+(j-k)=j by omega]at this
  ·simp only[a1t,a1L,g3,hx.2,a1S,a1y,a1N];omega
  intro c hc
  simp only[a1t,a16]at hc
  rcases hc with hc|hc
  ·exact a1j.1 hx.1 c hc
  exact g4 c hc
end
section
variable {A:Nat→Prop}{M:List (Option Nat)}{h:Hp}{P:Program}{w:World}
theorem aQm (H:HR A M h w){b g:Nat}{B:Blk}(hb:h[b]? =some (some B))(hg:M[b]? =some (some g)):
  ∃cs:Array Value,Holds w g cs B.e B.cells.length∧B.cells.length≤cs.size∧VCells (Xs A M h) M w B.cells (cs.toList.take B.cells.length):=by
 obtain⟨_,⟨hn,_⟩|⟨g',cs,hg',_,h1,h2,h3⟩⟩:=H.blk b B hb
 ·rw[hg]at hn;cases hn
 rw[hg]at hg';injection hg' with hg';injection hg' with hg';subst hg';exact⟨cs,h1,h2,h3⟩
theorem aGF (H:HR A M h w){b g:Nat}{B:Blk}(hb:h[b]? =some (some B))(hg:M[b]? =some (some g)){sh:TypeId×Nat}(hs:w.shape? g=some sh)(off:Nat):
  ∃vs:List Value,VCells (Xs A M h) M w (B.cells.drop off) vs∧LiesAt w ⟨g,off,none⟩ vs.toArray:=by
 obtain⟨cs,h1,h2,h3⟩:=aQm H hb hg
 refine⟨(cs.toList.take B.cells.length).drop off,h3.drop off,fun j u hu=> ?_⟩
 rw[aFA,h1.cell hs]
 simp only[a1P,a2b,a1V]at hu
 split at hu
 ·simpa using hu
 cases hu
theorem aHC (H:HR A M h w){t:TypeId}{a r:V}{va:Value}(ha:VR (Xs A M h) M w a va)(hr:eZ P t h a=some r):
  ∃u,(Instr.loadAt t va).run P w= .ok u w∧VR (Xs A M h) M w r u:=by
 unfold eZ at hr
 split at hr
 ·rename_i b off
  split at hr
  ·rename_i B hb
   unfold VR at ha
   obtain⟨g,sh,hg,rfl,hs⟩:=ha
   obtain⟨vs,hvs,hl⟩:=aGF H hb hg hs off
   obtain⟨u,hu,hru⟩:=aNg (P:=P) hvs hl hr
   exact⟨u,by simp[Instr.loadAt,Instr.sureAddr,hu],hru⟩
  cases hr
 ·rename_i es i off
  split at hr
  ·rename_i e he
   unfold VR at ha
   obtain⟨ad,k,rfl,hk,hX,hsp,hok,hrow⟩:=ha
   obtain⟨v,hv,hsz,hl⟩:=hrow.get he
   have hl':LiesAt w (ad.add (i*k)) v.cells.toList.toArray:=by simpa using hl
   have hl2:=LiesAt.drop hl' off
   rw[vD]at hl2
   have hok':=hok e (a19 he)
   simp only[V.okElem,a1v]at hok'
   have hcells:VCells (Xs A M h) M w e.cells v.cells.toList:=(hv.cells' hok'.1).1.lift
   obtain⟨u,hu,hru⟩:=aNg (P:=P) (hcells.drop off) hl2 hr
   exact⟨u,by simp[Instr.loadAt,Instr.sureAddr,hu],hru⟩
  cases hr
 cases hr
theorem aQU (H:HR A M h w){t:TypeId}{a x:V}{va vx:Value}{h':Hp}(ha:VR (Xs A M h) M w a va)(hx:VR (Xs A M h) M w x vx)(hr:qY P t h a x=some h'):
  ∃w',(Instr.storeAt t va vx).run P w= .ok () w'∧Grow A M h w M h' w':=by
 unfold qY at hr
 split at hr
 ·rename_i b off d hd
  split at hr
  ·rename_i B hb
   split at hr
   ·rename_i hc
    injection hr with hr;subst hr
    unfold VR at ha
    obtain⟨g,sh,hg,rfl,hs⟩:=ha
    obtain⟨c1,c2⟩:=hx.cells' hc.1
    have hlen:vx.cells.size=d.size:=by have:=c1.len;simp at this;omega
    obtain⟨w',hw,G⟩:=Grow.store (P:=P) H hb (off:=off) (news:=x.cells) (vs:=vx.cells.toList) (by omega) c1 c2 hg hs (fun c hc'=>a1j.1 hc.1 c hc')
    refine⟨w', ?_,G⟩
    simp[Instr.storeAt,Instr.sureAddr,storeVar,fS hd,hlen,hw]
   cases hr
  cases hr
 cases hr
theorem aSq {X:Nat→Prop}{t ty:TypeId}{x r:V}{v:Value}(hx:VR X M w x v)(hr:aEE P t x=some r): ∃u,(Builtin.len_ #[t] ty #[v]).run P w= .ok u w∧VR X M w r u:=by
 unfold aEE at hr
 split at hr
 ·split at hr
  ·rename_i ht
   injection hr with hr;subst hr
   unfold VR at hx
   obtain⟨a,cap,rfl,_⟩:=hx
   refine⟨_, ?_,by unfold VR;rfl⟩
   simp[Builtin.len_,eX ht,goInt]
  cases hr
 ·split at hr
  ·rename_i ht
   injection hr with hr;subst hr
   unfold VR at hx
   rcases hx with⟨_,rfl,rfl,_⟩|⟨g,cap,e,sz,_,rfl,_⟩
   all_goals
    refine⟨_, ?_,by unfold VR;rfl⟩
    simp[Builtin.len_,eX ht,goInt]
  cases hr
 ·split at hr
  ·rename_i ht
   injection hr with hr;subst hr
   unfold VR at hx
   subst hx
   refine⟨_, ?_,by unfold VR;rfl⟩
   simp[Builtin.len_,eX ht,goInt]
  cases hr
 cases hr
theorem aIw (H:HR A M h w){k m:Nat}{x:V}{v:Value}{news:List V}(hx:VR (Xs A M h) M w x v)(hr:fT h k x=some (news,m)):Src (Xs A M h) M w k news m v:=by
 unfold fT at hr
 split at hr
 ·rename_i nil k' es
  split at hr
  ·rename_i hc
   simp only[a1d,a1e]at hr
   obtain⟨rfl,rfl⟩:=hr
   unfold VR at hx
   obtain⟨a,cap,rfl,hcap,hn,_,hok,hrow⟩:=hx
   by_cases hne:es=[]
   ·subst hne
    refine⟨by simp,by simp, ?_⟩
    cases a with
    |none=>exact .inl ⟨cap,rfl,rfl⟩
    |some ad=>exact .inr ⟨ad,cap,[],rfl,by simp only[a2f];unfold VCells;rfl,fun j u hu=>by simp at hu⟩
   obtain⟨ad,rfl,hk,hX,hsp,hrw⟩:=hrow hne
   obtain⟨vs,g1,g2,g3,g4⟩:=hrw.flat hok
   have hk':k'=k:=hc.resolve_right hne
   subst hk'
   exact⟨g4,g3,.inr ⟨ad,cap,vs,rfl,g1.lift,g2⟩⟩
  cases hr
 ·rename_i b off mm k' ag
  split at hr
  ·rename_i B hb
   split at hr
   ·rename_i hc
    simp only[a1d,a1e]at hr
    obtain⟨rfl,rfl⟩:=hr
    have hone:=(H.blk b B hb).1
    refine⟨fun c hc'=>hone c (a1o (a1l hc')),by simp;omega, ?_⟩
    unfold VR at hx
    rcases hx with⟨_,rfl,rfl,_⟩|⟨g,cap,e,sz,hg,rfl,_,_,_,hs,_⟩
    ·exact .inl ⟨0,rfl,rfl⟩
    obtain⟨vs,hvs,hl⟩:=aGF H hb hg hs off
    exact .inr ⟨_,cap,vs.take (mm*k),rfl,hvs.take _,hl.take _⟩
   cases hr
  cases hr
 cases hr
theorem aLq (H:HR A M h w){t ty e:TypeId}{d dt:TI}(ht:aK P t=some dt)(hts:dt.desc= .slice e)(hd:aK P e=some d)(hz:d.zero.cells.size=d.size)(h0:0<d.size){v x:Value}{k m:Nat}{es news:List V}{ag:Bool}
  (hk:es=[]∨k=d.size) (hv:VR (Xs A M h) M w (.row (some false) k es) v) (hs:Src (Xs A M h) M w d.size news m x) (hm:0<m) (hlim:(es.length+m)*d.bytes≤lim) (hby:1≤d.bytes):
  ∃v' w' M',(Builtin.append_ #[t,t] ty #[v,x]).run P w= .ok v' w'∧Grow A M h w M' (h++[some ⟨e,es.flatMap V.cells++news⟩]) w'∧
   VR (Xs A M' (h++[some ⟨e,es.flatMap V.cells++news⟩])) M' w' (.sl h.length 0 (es.length+m) d.size ag) v':=by
 obtain⟨hu,_,_,_,_,_⟩:=cI ht
 rw[hts]at hu
 obtain⟨_,i,hi,hsz,hbt,hzz⟩:=cI hd
 have hnm:es.length+m≤lim:=Nat.le_trans (by have:=Nat.mul_le_mul_left (es.length+m) hby;omega) hlim
 have hlenM:h.length=M.length:=H.len.symm
 unfold VR at hv
 obtain⟨a,cap,rfl,hcap,hn,hnil,hok,hrow⟩:=hv
 have hce:cap=es.length:=hnil false rfl
 subst hce
 rcases hs.is with⟨c,rfl,rfl⟩|⟨ad,c,vs,rfl,hc,hl⟩
 ·omega
 have hvl:vs.length=m*d.size:=by rw[←hc.len,hs.len]
 have hge:=grownCap_ge w (es.length+m) es.length e
 have hcm':grownCap w (es.length+m) es.length e≤maxLen:=grownCap_le_maxLen w (es.length+m) es.length e (by unfold lim at hnm;simp only[maxLen];omega)
 obtain⟨us,hus,hul,hrun⟩: ∃us,VCells (Xs A M h) M w (es.flatMap V.cells) us∧us.length=es.length*d.size∧
   (Builtin.append_ #[t,t] ty #[.slice a es.length es.length,.slice (some ad) m c]).run P w= .ok (.slice (some ⟨w.heap.size,0,none⟩) (es.length+m) (grownCap w (es.length+m) es.length e))
    (w.drew.alloc (.cells (us.toArray++vs.toArray++Builtin.zeroCells d.zero.cells (grownCap w (es.length+m) es.length e-(es.length+m))) e)):=by
  cases a with
  |none=>
   have he:es=[]:=List.eq_nil_of_length_eq_zero (by have:=hn rfl;omega)
   subst he
   refine⟨[],by simp only[List.flatMap_nil];unfold VCells;rfl,by simp, ?_⟩
   have:=run_append_nil (P:=P) w t ty e i d.zero hu hi hzz ad m c vs (by rw[hvl,hsz]) (fun j u hj=>hl j u (by simpa using hj)) hm (by unfold lim at hnm;simp at hnm;omega) (by rw[hbt];unfold lim at hlim;simp at hlim;omega)
   simpa using this
  |some a=>
   obtain⟨us,h1,h2,h3⟩: ∃us,VCells (Xs A M h) M w (es.flatMap V.cells) us∧LiesAt w a us.toArray∧us.length=es.length*d.size:=by
    by_cases he:es=[]
    ·subst he
     exact⟨[],by simp only[List.flatMap_nil];unfold VCells;rfl,fun j u hu=>by simp at hu,by simp⟩
    obtain⟨a',ha,_,_,_,hr⟩:=hrow he
    injection ha with ha
    subst ha
    obtain⟨us,g1,g2,g3,_⟩:=hr.flat hok
    exact⟨us,g1.lift,g2,by rw[←g1.len,g3,hk.resolve_left he]⟩
   refine⟨us,h1,h3, ?_⟩
   exact run_append_grow (P:=P) w t ty e i d.zero hu hi hzz a es.length es.length us (by rw[h3,hsz]) (fun j u hj=>h2 j u (by simpa using hj)) ad m c vs (by rw[hvl,hsz]) (fun j u hj=>hl j u (by simpa using hj)) (by omega)
    (by unfold lim at hnm;omega) (growslice_fits (by omega) (by rw[hbt];exact hlim))
 have h1: ∀c∈es.flatMap V.cells++news,c.one=true:=by
  intro c hc'
  rcases List.mem_append.1 hc' with hc'|hc'
  ·simp only[List.mem_flatMap]at hc'
   obtain⟨y,hy,hc'⟩:=hc'
   have:=hok y hy
   simp only[V.okElem,V.flatOk,Bool.and_eq_true]at this
   exact List.all_eq_true.1 this.1 c hc'
  exact hs.one c hc'
 have hlV:(es.flatMap V.cells++news).length=(es.length+m)*d.size:=by
  rw[List.length_append,hus.len,hul,hs.len,Nat.add_mul]
 have Gd:=Grow.drew H
 have G:=Gd.trans (Grow.alloc Gd.hr e (es.flatMap V.cells++news) (us.toArray++vs.toArray++Builtin.zeroCells d.zero.cells (grownCap w (es.length+m) es.length e-(es.length+m)))
  (by rw[hlV];simp only[Array.size_append,List.size_toArray,hul,hvl,←Nat.add_mul];omega) (by
  have:(us.toArray++vs.toArray++Builtin.zeroCells d.zero.cells (grownCap w (es.length+m) es.length e-(es.length+m))).toList.take (es.flatMap V.cells++news).length=us++vs:=by
   rw[hlV,Array.toList_append,Array.toList_append]
   have:(es.length+m)*d.size=(us.toArray.toList++vs.toArray.toList).length:=by
    simp only[List.length_append,hul,hvl,←Nat.add_mul]
   rw[this]
   exact List.take_left
  rw[this]
  exact VCells.ext Gd.ext (List.prefix_refl _) (fun _ _ hl=> .inr hl) (fun k hk hx=>hx.elim .inl (fun hl=> .inr (Gd.live k hk hl))) _ _ (hus.append hc)) h1)
 refine⟨_,_,_,hrun,G, ?_⟩
 unfold VR
 refine .inr ⟨w.heap.size,grownCap w (es.length+m) es.length e,e,_,by rw[hlenM];simp,rfl,hge,hcm',h0, ?_,Nat.le_refl _⟩
 unfold World.shape?
 rw[show(w.drew.alloc (.cells (us.toArray++vs.toArray++Builtin.zeroCells d.zero.cells (grownCap w (es.length+m) es.length e-(es.length+m))) e)).heap[w.heap.size]? =some (.cells (us.toArray++vs.toArray++Builtin.zeroCells d.zero.cells (grownCap w (es.length+m) es.length e-(es.length+m))) e)from heap_alloc_new w.drew _]
 simp only[Array.size_append,List.size_toArray,size_zeroCells,hz,hul,hvl,←Nat.add_mul]
 rw[show es.length+m+(grownCap w (es.length+m) es.length e-(es.length+m))=grownCap w (es.length+m) es.length e by omega,Nat.zero_add]
theorem aPe (H:HR A M h w){t t' ty:TypeId}{x y r:V}{v u:Value}{h':Hp}(hx:VR (Xs A M h) M w x v)(hy:VR (Xs A M h) M w y u)(hr:hJ P t t' x y h=some (r,h')):
  ∃v' w' M',(Builtin.append_ #[t,t'] ty #[v,u]).run P w= .ok v' w'∧Grow A M h w M' h' w'∧VR (Xs A M' h') M' w' r v':=by
 unfold hJ at hr
 split at hr
 ·cases hr
 rename_i htt
 have htt:t=t':=by simpa using htt
 subst htt
 split at hr
 ·rename_i e sz by_ z ht
  split at hr
  ·cases hr
  rename_i d hd
  split at hr
  ·rename_i hc
   obtain⟨hz,h0,hby⟩:=hc
   split at hr
   ·cases hr
   rename_i news m hsrc
   have S:=aIw H hy hsrc
   split at hr
   ·rename_i k es
    split at hr
    ·rename_i hl
     simp only[a1d,a1e]at hr
     obtain⟨rfl,rfl⟩:=hr
     exact aLq H ht rfl hd hz h0 hl.1 hx S hl.2.1 hl.2.2 hby
    cases hr
   ·rename_i k0
    split at hr
    ·rename_i hl
     simp only[a1d,a1e]at hr
     obtain⟨rfl,rfl⟩:=hr
     have hv:=aBW hx rfl
     subst hv
     have G:=Grow.virt H e
     have hlen:M.length=h.length:=H.len
     have S':Src (Xs A (M++[none]) (h++[some ⟨e,[]⟩])) (M++[none]) w d.size news m u:=by
      refine⟨S.one,S.len, ?_⟩
      rcases S.is with hh|⟨ad,c,vs,h1,h2,h3⟩
      ·exact .inl hh
      exact .inr ⟨ad,c,vs,h1,VCells.ext G.ext G.pre (fun _ _ hl=> .inr hl) (fun k hk hx=>hx.elim .inl (fun hl=> .inr (G.live k hk hl))) _ _ h2,h3⟩
     obtain⟨v',w',M',hrun,G',hv'⟩:=aKy (P:=P) (ty:=ty) G.hr ht rfl hd hz h0 (b:=h.length) (n:=0) (m:=m) (B:=⟨e,[]⟩) (v:= .slice none 0 0) (ag:=bY d.desc) (by simp) rfl (by simp)
      (by unfold VR;exact .inl ⟨by rw[←hlen];simp,rfl,rfl,rfl⟩) S' (by simpa using hl) hby
     have e1:(h++[some (⟨e,[]⟩:Blk)]).set h.length none=h++[none]:=by simp
     rw[e1]at G' hv'
     simp only[List.take_nil,List.nil_append,a13,a1L,List.length_singleton]at G' hv'
     exact⟨v',w',M',hrun,G.trans G',hv'⟩
    cases hr
   ·rename_i b n k ag
    split at hr
    ·rename_i B hb
     split at hr
     ·rename_i hc
      simp only[a1d,a1e]at hr
      obtain⟨rfl,rfl⟩:=hr
      obtain⟨rfl,he,hn,hl⟩:=hc
      exact aKy (P:=P) H ht rfl hd hz h0 hb he hn hx S hl hby
     cases hr
    cases hr
   cases hr
  cases hr
 cases hr
end
section
variable {X:Nat→Prop}{M:List (Option Nat)}{P:Program}{w:World}
theorem aOB : ∀(vs:List Value)(off j:Nat)(cs:Array Value),off+j+vs.length≤cs.size→
  ((vs.zipIdx j).foldl (fun(cs:Array Value)(x:Value×Nat)=>cs.setIfInBounds (off+x.2) x.1) cs).toList=splice cs.toList (off+j) vs
 | [],off,j,cs,h=>by simp[splice]
 |v::vs,off,j,cs,h=>by
  simp only[List.zipIdx_cons,List.foldl_cons]
  rw[aOB vs off (j+1) (cs.setIfInBounds (off+j) v) (by simp at h ⊢; omega),a1U]
  exact aMQ _ (off+j) v vs (by simp at h ⊢; omega)
theorem aFe {place:Nat→Option (Nat×Nat)}: ∀{parts:List (Nat×V)}{vparts:List (Nat×Value)}{cells:List V}{cs:Array Value}{out:List V},
  VCells X M w cells cs.toList→parts.length=vparts.length→(∀(j:Nat)(p:Nat×V)(q:Nat×Value),parts[j]? =some p→vparts[j]? =some q→p.1=q.1∧VR X M w p.2 q.2)→
  qF place cells parts=some out→ ∃ds,Instr.fill place cs vparts=some ds∧VCells X M w out ds.toList
 | [],[],cells,cs,out,hc,_,_,hf=>by
  simp only[qF,a1d]at hf;subst hf;exact⟨cs,rfl,hc⟩
 | [],_::_,_,_,_,_,hl,_,_=>by simp at hl
 |_::_,[],_,_,_,_,hl,_,_=>by simp at hl
 |(i,x)::parts,(i',v)::vparts,cells,cs,out,hc,hl,hp,hf=>by
  obtain⟨hi,hx⟩:=hp 0 (i,x) (i',v) rfl rfl
  simp only at hi hx
  subst hi
  unfold qF at hf
  split at hf
  ·cases hf
  rename_i off size hpl
  split at hf
  ·rename_i hcond
   obtain⟨h1,h2,h3⟩:=hcond
   obtain⟨c1,_⟩:=hx.cells' h1
   have hsz:v.cells.size=size:=by have:=c1.len;simp at this;omega
   have hcl:cells.length=cs.size:=by simpa using hc.len
   have hs:=aOB v.cells.toList off 0 cs (by simp;omega)
   have hc':VCells X M w (splice cells off x.cells) (v.cells.toList.zipIdx.foldl (fun(cs:Array Value)(x:Value×Nat)=>cs.setIfInBounds (off+x.2) x.1) cs).toList:=by
    rw[hs];exact hc.splice c1 off
   obtain⟨ds,hd,hr⟩:=aFe hc' (by simpa using hl) (fun j p q hpj hqj=>hp (j+1) p q (by simpa using hpj) (by simpa using hqj)) hf
   refine⟨ds, ?_,hr⟩
   unfold Instr.fill
   simp only[hpl,hsz]
   rw[if_neg (by simp;omega)]
   have:v.cells.zipIdx.foldl (fun(cs:Array Value)(x:Value×Nat)=>cs.setIfInBounds (off+x.2) x.1) cs=v.cells.toList.zipIdx.foldl (fun(cs:Array Value)(x:Value×Nat)=>cs.setIfInBounds (off+x.2) x.1) cs:=by
    rw[←Array.foldl_toList,Array.toList_zipIdx]
   rw[←this]at hd
   exact hd
  cases hf
def aJc (X:Nat→Prop)(M:List (Option Nat))(w:World)(parts:List (Nat×V))(vparts:List (Nat×Value)):Prop:=
 parts.length=vparts.length∧ ∀(j:Nat)(p:Nat×V)(q:Nat×Value),parts[j]? =some p→vparts[j]? =some q→p.1=q.1∧VR X M w p.2 q.2
theorem aPL {t:TypeId}{parts:List (Nat×V)}{vparts:Array (Nat×Value)}{r:V}(hp:aJc X M w parts vparts.toList)(hr:u6 P t parts=some r):
  ∃u,(Instr.build t vparts).run P w= .ok u w∧VR X M w r u:=by
 unfold u6 at hr
 split at hr
 ·rename_i fields sz by_ z ht
  split at hr
  ·rename_i places hpl
   simp only[a1a]at hr
   obtain⟨out,hf,rfl⟩:=hr
   unfold eH at hpl
   rw[ht]at hpl
   simp only at hpl
   have hrun:=jN _ hpl w
   obtain⟨ds,hd,hc⟩:=aFe (qM (X:=X) (M:=M) (w:=w) z.cells.toList) hp.1 hp.2 hf
   refine⟨.agg ds, ?_,by unfold VR;exact⟨ds.toList,by simp,hc⟩⟩
   unfold Instr.build
   rw[Sem.run_bind,aGB ht,Result.andThen_ok,Sem.run_bind,eX ht,Result.andThen_ok]
   simp only
   rw[Sem.run_bind,hrun,Result.andThen_ok]
   have hz:(⟨z.cells.toList⟩:Array Value)=z.cells:=by simp
   simp only[hd]
   rfl
  cases hr
 ·rename_i n e sz by_ z ht
  split at hr
  ·rename_i d hd
   simp only[a1a]at hr
   obtain⟨out,hf,rfl⟩:=hr
   obtain⟨ds,hds,hc⟩:=aFe (qM (X:=X) (M:=M) (w:=w) z.cells.toList) hp.1 hp.2 hf
   refine⟨.agg ds, ?_,by unfold VR;exact⟨ds.toList,by simp,hc⟩⟩
   unfold Instr.build
   rw[Sem.run_bind,aGB ht,Result.andThen_ok,Sem.run_bind,eX ht,Result.andThen_ok]
   simp only
   rw[Sem.run_bind,fS hd,Result.andThen_ok]
   simp only[hds]
   rfl
  cases hr
 cases hr
theorem VRow.drop {k:Nat}: ∀(n:Nat){es:List V}{ad:Addr},VRow X M w k es ad→VRow X M w k (es.drop n) (ad.add (n*k))
 |0,es,ad,h=>by simpa[Addr.add]using h
 |n+1,[],ad,h=>by simp only[List.drop_nil];unfold VRow;trivial
 |n+1,e::es,ad,h=>by
  unfold VRow at h
  have:=VRow.drop n h.2
  rw[vD]at this
  rwa[show(n+1)*k=k+n*k by rw[a1y,a1N,a1Y]]
theorem VRow.take {k:Nat}: ∀(n:Nat){es:List V}{ad:Addr},VRow X M w k es ad→VRow X M w k (es.take n) ad
 |0,es,ad,h=>by simp only[List.take_zero];unfold VRow;trivial
 |n+1,[],ad,h=>by simp only[List.take_nil];unfold VRow;trivial
 |n+1,e::es,ad,h=>by
  unfold VRow at h
  simp only[List.take_succ_cons]
  unfold VRow
  exact⟨h.1,VRow.take n h.2⟩
theorem VRow.ofCells {k:Nat}(hk:k=1): ∀{cs:List V}{vs:List Value}{ad:Addr},VCells X M w cs vs→(∀c∈cs,c.one=true)→LiesAt w ad vs.toArray→VRow X M w k cs ad
 | [],vs,ad,_,_,_=>by unfold VRow;trivial
 |c::cs,vs,ad,h,h1,hl=>by
  unfold VCells at h
  obtain⟨v,rest,rfl,hv,hc⟩:=h
  have ho:=hv.oneCell (h1 c (by simp))
  unfold VRow
  subst hk
  refine⟨⟨v,hv,by rw[eC ho];rfl, ?_⟩,VRow.ofCells rfl hc (fun c hc=>h1 c (by simp[hc])) (by simpa using hl.drop 1)⟩
  rw[eC ho]
  intro j u hu
  cases j with
  |zero=>exact hl 0 u (by simpa using hu)
  |succ j=>simp at hu
def aI0 (X:Nat→Prop)(M:List (Option Nat))(w:World)(o:Option V)(v:Option Value):Prop:=
 (o=none∧v=none)∨ ∃x y,o=some x∧v=some y∧VR X M w x y
theorem aFc {isSlice:Bool}{len cap:Nat}{lo hi:Option V}{vlo vhi:Option Value}{l u:Int}(hlo:aI0 X M w lo vlo)(hhi:aI0 X M w hi vhi)(hl:mV lo=some l)(hu:vU hi len=some u)
  (h0:0≤l) (hlu:l≤u) (huc:u≤cap):(Instr.sliceBounds isSlice len cap vlo vhi none).run P w= .ok (l.toNat,u.toNat,cap) w:=by
 unfold Instr.sliceBounds
 rcases hhi with⟨rfl,rfl⟩|⟨xh,yh,rfl,rfl,hxh⟩
 ·simp only[vU,a1d]at hu
  subst hu
  rcases hlo with⟨rfl,rfl⟩|⟨xl,yl,rfl,rfl,hxl⟩
  ·simp only[mV,a1d]at hl;subst hl;simp
  simp only[mV]at hl
  obtain⟨k,rfl⟩:=g6 hxl hl
  simp[Instr.sliceBound,asIntOf,h0,hlu]
 simp only[vU]at hu
 obtain⟨k,rfl⟩:=g6 hxh hu
 have hu0:0≤u:=by omega
 rcases hlo with⟨rfl,rfl⟩|⟨xl,yl,rfl,rfl,hxl⟩
 ·simp only[mV,a1d]at hl;subst hl;simp[Instr.sliceBound,asIntOf,hu0,huc]
 simp only[mV]at hl
 obtain⟨k,rfl⟩:=g6 hxl hl
 have:l≤(u.toNat:Int):=by omega
 simp[Instr.sliceBound,asIntOf,h0,hu0,huc]
 intro hh
 exfalso
 omega
theorem aBC {t e:TypeId}{d dt:TI}(ht:aK P t=some dt)(hts:dt.desc= .slice e)(hd:aK P e=some d){a:Option Addr}{len cap:Nat}{lo hi:Option V}{vlo vhi:Option Value}{l u:Int}
  (hlo:aI0 X M w lo vlo) (hhi:aI0 X M w hi vhi) (hl:mV lo=some l) (hu:vU hi len=some u) (h0:0≤l) (hlu:l≤u) (huc:u≤cap):
  (Instr.sliceAt t (.slice a len cap) vlo vhi none).run P w= .ok (.slice (if cap=l.toNat then a else a.map (·.add (l.toNat*d.size))) (u.toNat-l.toNat) (cap-l.toNat)) w:=by
 have hun:=eX (w:=w) ht
 rw[hts]at hun
 unfold Instr.sliceAt
 rw[Sem.run_bind,hun,Result.andThen_ok]
 simp only
 unfold Instr.slice
 rw[Sem.run_bind,hun,Result.andThen_ok]
 simp only
 rw[Sem.run_bind,aFc hlo hhi hl hu h0 hlu huc,Result.andThen_ok]
 simp only
 rw[Sem.run_bind,fS hd,Result.andThen_ok]
 rfl
theorem aAz {t e:TypeId}{d dt:TI}(ht:aK P t=some dt)(hts:dt.desc= .slice e)(hd:aK P e=some d){a:Option Addr}{len cap:Nat}{lo:Option V}{vlo:Option Value}{ku km:IntKind}{l u:Int}
  (hlo:aI0 X M w lo vlo) (hl:mV lo=some l) (h0:0≤l) (hlu:l≤u) (huc:u≤cap):
  (Instr.sliceAt t (.slice a len cap) vlo (some (.int ku u)) (some (.int km u))).run P w= .ok (.slice (if u.toNat=l.toNat then a else a.map (·.add (l.toNat*d.size))) (u.toNat-l.toNat) (u.toNat-l.toNat)) w:=by
 have hun:=eX (w:=w) ht
 rw[hts]at hun
 have hu0:0≤u:=by omega
 have hb:(Instr.sliceBounds true len cap vlo (some (.int ku u)) (some (.int km u))).run P w= .ok (l.toNat,u.toNat,u.toNat) w:=by
  unfold Instr.sliceBounds
  obtain⟨n,rfl⟩: ∃n:Nat,u=n:=⟨u.toNat,by omega⟩
  have huc':n≤cap:=by omega
  rcases hlo with⟨rfl,rfl⟩|⟨xl,yl,rfl,rfl,hxl⟩
  ·simp only[mV,a1d]at hl;subst hl
   simp[Instr.sliceBound,asIntOf,huc']
  simp only[mV]at hl
  obtain⟨k,rfl⟩:=g6 hxl hl
  simp[Instr.sliceBound,asIntOf,h0,huc',hlu]
 unfold Instr.sliceAt
 rw[Sem.run_bind,hun,Result.andThen_ok]
 simp only
 unfold Instr.slice
 rw[Sem.run_bind,hun,Result.andThen_ok]
 simp only
 rw[Sem.run_bind,hb,Result.andThen_ok]
 simp only
 rw[Sem.run_bind,fS hd,Result.andThen_ok]
 rfl
theorem aO6 {t:TypeId}{x hi mx r:V}{lo:Option V}{v vhi vmx:Value}{vlo:Option Value}(hx:VR X M w x v)(hlo:aI0 X M w lo vlo)(hhi:VR X M w hi vhi)(hmx:VR X M w mx vmx)
  (hr:y5 P t x lo hi mx=some r): ∃u,(Instr.sliceAt t v vlo (some vhi) (some vmx)).run P w= .ok u w∧VR X M w r u:=by
 unfold y5 at hr
 split at hr
 ·rename_i e sz by_ z nil k es l u m ht hl hu hm
  split at hr
  ·rename_i d hd
   split at hr
   ·rename_i hc
    obtain⟨hk,h0,hlu,hum,hue⟩:=hc
    subst hum
    injection hr with hr;subst hr
    obtain⟨ku,rfl⟩:=g6 hhi hu
    obtain⟨km,rfl⟩:=g6 hmx hm
    unfold VR at hx
    obtain⟨a,cap,rfl,hcap,hn,hnil,hok,hrow⟩:=hx
    refine⟨_,aAz ht rfl hd hlo hl h0 hlu (by omega), ?_⟩
    unfold VR
    have hlen:((es.take u.toNat).drop l.toNat).length=u.toNat-l.toNat:=by simp;omega
    refine⟨_,_,by rw[hlen],by omega, ?_, ?_,fun e he=>hok e (a1l (a1o he)), ?_⟩
    ·intro hh
     split at hh
     ·omega
     cases a with
     |none=>have:=hn rfl;omega
     |some a=>cases hh
    ·intro b hb
     injection hb with hb
     subst hb
     unfold aNy
     rw[hlen]
     simp
    intro hne
    have hlt:l.toNat<u.toNat:=by
     rcases a1w l.toNat u.toNat with hh|hh
     ·exact hh
     exact absurd (a1s (by omega)) hne
    obtain⟨ad,rfl,hk0,hX,hsp,hrw⟩:=hrow (by rintro rfl;simp at hue;omega)
    refine⟨ad.add (l.toNat*d.size),by rw[if_neg (by omega)];rfl,hk0,by rw[wX];exact hX,aJf _ _ hsp, ?_⟩
    rw[←hk]
    exact(hrw.take u.toNat).drop l.toNat
   split at hr
   ·rename_i hc
    obtain⟨he,rfl,rfl,rfl⟩:=hc
    obtain rfl:es=[]:=by simpa using he
    injection hr with hr;subst hr
    obtain⟨ku,rfl⟩:=g6 hhi hu
    obtain⟨km,rfl⟩:=g6 hmx hm
    unfold VR at hx
    obtain⟨a,cap,rfl,hcap,hn,hnil,hok,hrow⟩:=hx
    refine⟨_,aAz ht rfl hd hlo hl (a1Z 0) (a1Z 0) (by omega), ?_⟩
    unfold VR
    exact⟨_,_,rfl,a1m _,fun _=>rfl,(fun b hb=>by injection hb with hb;subst hb;unfold aNy;rfl),(fun e he=>by cases he),fun hh=>absurd rfl hh⟩
   cases hr
  cases hr
 ·rename_i e sz by_ z b off n k ag l u m ht hl hu hm
  split at hr
  ·rename_i d hd
   split at hr
   ·rename_i hc
    obtain⟨rfl,hum,hu0,hun⟩:=hc
    subst hum
    injection hr with hr;subst hr
    obtain⟨ku,rfl⟩:=g6 hhi hu
    obtain⟨km,rfl⟩:=g6 hmx hm
    unfold VR at hx
    rcases hx with⟨h1,rfl,rfl,rfl⟩|⟨g,cap,e',sz',h1,rfl,h3,h4,h5,h6,h7⟩
    ·obtain rfl:u=0:=by omega
     refine⟨_,aAz ht rfl hd hlo hl (a1Z 0) (a1Z 0) (by simp), ?_⟩
     unfold VR
     exact .inl ⟨h1,by simp,rfl,rfl⟩
    have hul:u.toNat≤cap:=by omega
    refine⟨_,aAz ht rfl hd hlo hl (a1Z 0) hu0 (by omega), ?_⟩
    unfold VR
    refine .inr ⟨g,u.toNat,e',sz',h1, ?_,a1m _,by omega,h5,h6,a1O (Nat.add_le_add_left (a1z _ hul) _) h7⟩
    have e0:(0:Int).toNat=0:=rfl
    simp only[Int.toNat_natCast,e0,Nat.sub_zero,Nat.zero_mul]
    split
    ·rfl
    rfl
   cases hr
  cases hr
 cases hr
theorem aQ8 {A:Nat→Prop}{h:Hp}(H:HR A M h w){t:TypeId}{x r:V}{lo hi:Option V}{v:Value}{vlo vhi:Option Value}(hx:VR (Xs A M h) M w x v)(hlo:aI0 (Xs A M h) M w lo vlo)(hhi:aI0 (Xs A M h) M w hi vhi)
  (hr:iZ P t h x lo hi=some r): ∃u,(Instr.sliceAt t v vlo vhi none).run P w= .ok u w∧VR (Xs A M h) M w r u:=by
 unfold iZ at hr
 split at hr
 ·rename_i e sz by_ z ht
  split at hr
  ·cases hr
  rename_i d hd
  split at hr
  ·rename_i nil k es
   split at hr
   ·rename_i l u hl hu
    split at hr
    ·rename_i hc
     obtain⟨hk,h0,hlu,hue⟩:=hc
     injection hr with hr;subst hr
     unfold VR at hx
     obtain⟨a,cap,rfl,hcap,hn,hnil,hok,hrow⟩:=hx
     refine⟨_,aBC ht rfl hd hlo hhi hl hu h0 hlu (by omega), ?_⟩
     unfold VR
     have hlen:((es.take u.toNat).drop l.toNat).length=u.toNat-l.toNat:=by simp;omega
     refine⟨_,_,by rw[hlen],by omega, ?_, ?_,fun e he=>hok e (a1l (a1o he)), ?_⟩
     ·intro hh
      split at hh
      ·have:=hn hh;omega
      cases a with
      |none=>have:=hn rfl;omega
      |some a=>cases hh
     ·intro b hb
      cases nil with
      |none=>simp[nlS]at hb
      |some q=>
       cases q with
       |false=>simp[nlS]at hb
       |true=>
        simp only[nlS,a1d]at hb
        subst hb
        have:=hnil true rfl
        unfold aNy at this⊢
        rw[if_pos rfl]at this⊢
        subst this
        split<;>rfl
     intro hne
     have hlt:l.toNat<u.toNat:=by
      rcases a1w l.toNat u.toNat with hh|hh
      ·exact hh
      exact absurd (a1s (by omega)) hne
     obtain⟨ad,rfl,hk0,hX,hsp,hrw⟩:=hrow (by rintro rfl;simp at hue;omega)
     refine⟨ad.add (l.toNat*d.size),by rw[if_neg (by omega)];rfl,hk0,by rw[wX];exact hX,aJf _ _ hsp, ?_⟩
     rw[←hk]
     exact(hrw.take u.toNat).drop l.toNat
    cases hr
   cases hr
  ·rename_i b off n k ag
   split at hr
   ·rename_i l u hl hu
    split at hr
    ·rename_i hc
     obtain⟨hk,h0,hlu,hue⟩:=hc
     unfold VR at hx
     rcases hx with⟨hM,rfl,rfl,rfl⟩|⟨g,cap,e',sz',hg,rfl,h1,h2,h3,h4,h5⟩
     ·have hu0:u=0:=by simp at hue;omega
      have hl0:l=0:=by omega
      subst hu0 hl0
      rw[if_pos rfl]at hr
      injection hr with hr;subst hr
      refine⟨_,aBC ht rfl hd hlo hhi hl hu h0 hlu (by omega), ?_⟩
      unfold VR
      exact .inl ⟨hM,rfl,rfl,rfl⟩
     refine⟨_,aBC ht rfl hd hlo hhi hl hu h0 hlu (by omega), ?_⟩
     split at hr
     ·rename_i hl0
      subst hl0
      injection hr with hr;subst hr
      unfold VR
      refine .inr ⟨g,cap,e',sz',hg, ?_,by omega,h2,h3,h4,h5⟩
      simp[Addr.add]
     rename_i hl0
     split at hr
     ·rename_i hlt
      injection hr with hr;subst hr
      unfold VR
      refine .inr ⟨g,cap-l.toNat,e',sz',hg, ?_,by omega,by omega,h3,h4, ?_⟩
      ·rw[if_neg (by omega)];simp[aFA,hk]
      have:cap=l.toNat+(cap-l.toNat):=by omega
      rw[a1A,←a1y,←this];exact h5
     rename_i hlt
     injection hr with hr;subst hr
     have hlu':l.toNat=u.toNat:=by omega
     unfold VR
     refine⟨_,cap-l.toNat,by rw[hlu',Nat.sub_self];rfl,by simp, ?_, ?_,by simp,fun hne=>absurd rfl hne⟩
     ·intro hh;split at hh<;>cases hh
     intro b hb
     cases hb
    cases hr
   cases hr
  cases hr
 ·rename_i sz by_ z ht
  split at hr
  ·rename_i s
   split at hr
   ·rename_i l u hl hu
    split at hr
    ·rename_i hc
     injection hr with hr;subst hr
     unfold VR at hx
     subst hx
     refine⟨_, ?_,by unfold VR;rfl⟩
     have hun:=eX (w:=w) ht
     unfold Instr.sliceAt
     rw[Sem.run_bind,hun,Result.andThen_ok]
     simp only
     unfold Instr.slice
     rw[Sem.run_bind,hun,Result.andThen_ok]
     simp only[Option.isSome_none,a1x,if_false]
     show Sem.run P (Instr.sliceBounds false s.size s.size vlo vhi none >>= _) w=_
     rw[Sem.run_bind,aFc hlo hhi hl hu hc.1 hc.2.1 (by omega),Result.andThen_ok]
     rfl
    cases hr
   cases hr
  cases hr
 ·rename_i n e sz by_ z ht
  have hun:=eX (w:=w) ht
  split at hr
  ·rename_i d b off l u hd hl hu
   split at hr
   ·rename_i B hb
    split at hr
    ·rename_i hc
     obtain⟨hd0,hnl,h0,hlu,hun',hoff⟩:=hc
     injection hr with hr;subst hr
     unfold VR at hx
     obtain⟨g,sh,hg,rfl,hs⟩:=hx
     obtain⟨cs,hh,hle,_⟩:=aQm H hb hg
     refine⟨.slice (some ⟨g,off+l.toNat*d.size,none⟩) (u.toNat-l.toNat) (n-l.toNat), ?_, ?_⟩
     ·unfold Instr.sliceAt
      rw[Sem.run_bind,hun,Result.andThen_ok]
      simp only[Instr.sureAddr]
      show Sem.run P (Instr.sliceBounds false n n vlo vhi none >>= _) w=_
      rw[Sem.run_bind,aFc hlo hhi hl hu h0 (by omega) (by omega),Result.andThen_ok]
      simp only
      rw[Sem.run_bind,fS hd,Result.andThen_ok,if_neg (by omega),aFA]
      rfl
     unfold VR
     refine .inr ⟨g,n-l.toNat,B.e,cs.size,hg,rfl,by omega,by unfold lim at hnl;simp only[maxLen];omega,hd0,hh.shape hs, ?_⟩
     have:n=l.toNat+(n-l.toNat):=by omega
     rw[a1A,←a1y,←this];omega
    cases hr
   cases hr
  ·rename_i d es i off l u hd hl hu
   split at hr
   ·rename_i ev hev
    split at hr
    ·rename_i hc
     obtain⟨hd1,hag,h0,hlu,hun',hoff⟩:=hc
     injection hr with hr;subst hr
     unfold VR at hx
     obtain⟨ad,k,rfl,hk,hX,hsp,hok,hrow⟩:=hx
     have hne:es≠ []:=by rintro rfl;simp at hev
     obtain⟨v,hv,hsz,hlies⟩:=hrow.get hev
     have hok':=hok ev (a19 hev)
     simp only[V.okElem,a1v]at hok'
     obtain⟨hcells,_⟩:=hv.cells' hok'.1
     have hl':LiesAt w (ad.add (i*k)) v.cells.toList.toArray:=by simpa using hlies
     have hl2:=(LiesAt.drop hl' (off+l.toNat)).take (u.toNat-l.toNat)
     rw[vD]at hl2
     have hc2:=(hcells.drop (off+l.toNat)).take (u.toNat-l.toNat)
     have hone: ∀c∈(ev.cells.drop (off+l.toNat)).take (u.toNat-l.toNat),c.one=true:=fun c hc=>a1j.1 hok'.1 c (a1o (a1l hc))
     have hlen:((ev.cells.drop (off+l.toNat)).take (u.toNat-l.toNat)).length=u.toNat-l.toNat:=by simp;omega
     refine⟨.slice (some (ad.add (i*k+(off+l.toNat)))) (u.toNat-l.toNat) (n-l.toNat), ?_, ?_⟩
     ·unfold Instr.sliceAt
      rw[Sem.run_bind,hun,Result.andThen_ok]
      simp only[Instr.sureAddr]
      show Sem.run P (Instr.sliceBounds false n n vlo vhi none >>= _) w=_
      rw[Sem.run_bind,aFc hlo hhi hl hu h0 (by omega) (by omega),Result.andThen_ok]
      simp only
      rw[Sem.run_bind,fS hd,Result.andThen_ok,if_neg (by omega),vD,hd1,Nat.mul_one,a1A]
      rfl
     unfold VR
     refine⟨_,_,by rw[hlen],by rw[hlen];omega,fun hh=>(by cases hh),(fun b hb=>by cases hb), ?_,fun _=>⟨_,rfl,by omega,by rw[wX];exact hX hne,aJf _ _ hsp,VRow.ofCells rfl hc2 hone hl2⟩⟩
     intro c hc
     have h1:=hone c hc
     have:c.cells=[c]:=by cases c<;>first|rfl|simp[V.one]at h1
     simp[V.okElem,V.flatOk,this,h1]
    cases hr
   cases hr
  cases hr
 cases hr
end
section
variable {A:Nat→Prop}{M:List (Option Nat)}{h:Hp}{P:Program}{w:World}
theorem aOD (zs:Array Value)(h0:0<zs.size): ∀c:Nat,(madeCells zs (c*zs.size)).toList=(a1I c zs.toList).flatten
 |0=>by simp[madeCells]
 |c+1=>by
  have ih:=aOD zs h0 c
  have h1:(madeCells zs ((c+1)*zs.size)).toList=(madeCells zs (c*zs.size)).toList++zs.toList:=by
   simp only[madeCells,a2g,Array.toList_range]
   rw[a1y,a1N,List.range_add,List.map_append]
   congr 1
   apply a1G
   intro i
   simp only[a2d,List.getElem?_map]
   rcases a1w i zs.size with hi|hi
   ·rw[List.getElem?_range hi]
    simp[Nat.mul_add_mod_self_right,Nat.mod_eq_of_lt hi,hi]
   rw[a1D (by simpa using hi),a1D (by simpa using hi)]
   rfl
  rw[h1,ih,List.replicate_succ']
  simp
theorem aRo (H:HR A M h w){t:TypeId}{l c r:V}{vl vc:Value}{h':Hp}(hl:VR (Xs A M h) M w l vl)(hc:VR (Xs A M h) M w c vc)(hr:aCm P t l c h=some (r,h')):
  ∃v' w' M',(Instr.makeSlice t vl vc).run P w= .ok v' w'∧Grow A M h w M' h' w'∧VR (Xs A M' h') M' w' r v':=by
 unfold aCm at hr
 split at hr
 ·rename_i e sz by_ z k1 n k2 m ht
  split at hr
  ·rename_i d hd
   split at hr
   ·rename_i hcond
    obtain⟨h0,hnm,hlim,hby,hs0,hz1,hone⟩:=hcond
    simp only[a1d,a1e]at hr
    obtain⟨rfl,rfl⟩:=hr
    unfold VR at hl hc
    subst hl hc
    obtain⟨hu,_⟩:=cI ht
    obtain⟨_,i,hi,hsz,hbt,hzz⟩:=cI hd
    have hN:m.toNat≤lim:=a1O (by have:=Nat.mul_le_mul_left m.toNat hby;omega) hlim
    have hm:((m.toNat:Nat):Int)=m:=by omega
    have hb48:(i.bytes:Int)*m≤281474976710656:=by
     rw[hbt,←hm]
     have:((m.toNat*d.bytes:Nat):Int)≤281474976710656:=by unfold lim at hlim;omega
     rw[Int.natCast_mul,Int.mul_comm]at this
     exact this
    have hrun:=run_make (P:=P) w t e i d.zero hu hi hzz k1 k2 n m h0 hnm hb48 (by unfold lim at hN;omega)
    rw[hsz,←hz1]at hrun
    have hflat:=aOD d.zero.cells (by omega) m.toNat
    have hqm:(if n=0 then m.toNat else n.toNat)≤m.toNat:=by split<;>omega
    generalize (if n=0 then m.toNat else n.toNat)=q at hqm⊢
    have hlenf:((a1I q (d.zero.cells.toList.map (V.soft∘d8))).flatten).length=q*d.size:=by simp[hz1]
    have hqs:q*d.size≤m.toNat*d.size:=a1z _ hqm
    have hmap:(a1I q (d.zero.cells.toList.map (V.soft∘d8))).flatten=((madeCells d.zero.cells (m.toNat*d.zero.cells.size)).toList.take (q*d.size)).map (V.soft∘d8):=by
     rw[hflat,show m.toNat=q+(m.toNat-q) by omega,←List.replicate_append_replicate,List.flatten_append,a17 (by simp[hz1]),List.map_flatten,List.map_replicate]
    have G:=Grow.alloc H e ((a1I q (d.zero.cells.toList.map (V.soft∘d8))).flatten) (madeCells d.zero.cells (m.toNat*d.zero.cells.size)) (by rw[hlenf,size_madeCells,hz1];exact hqs)
     (by
      rw[hlenf,hmap]
      rw[←a2d]
      exact(qM _).soft)
     (fun c hc=>by
      simp only[List.mem_flatten,List.mem_replicate]at hc
      obtain⟨l,⟨_,rfl⟩,hc⟩:=hc
      exact a1j.1 hone c hc)
    refine⟨_,_,_,hrun,G, ?_⟩
    unfold VR
    refine .inr ⟨w.heap.size,m.toNat,e,_,by rw[←H.len];simp,rfl,by omega,by unfold lim at hN;simp only[maxLen];omega,hs0, ?_,a1m _⟩
    unfold World.shape?
    rw[heap_alloc_new w _]
    simp[size_madeCells,hz1]
   cases hr
  cases hr
 cases hr
theorem aLm (H:HR A M h w){t:TypeId}{len:Nat}{parts:List (Nat×V)}{vparts:Array (Nat×Value)}{r:V}{h':Hp}(hp:aJc (Xs A M h) M w parts vparts.toList)(hr:gV P t len parts h=some (r,h')):
  ∃v' w' M',(Instr.buildSlice t len vparts).run P w= .ok v' w'∧Grow A M h w M' h' w'∧VR (Xs A M' h') M' w' r v':=by
 unfold gV at hr
 split at hr
 ·rename_i e sz by_ z ht
  split at hr
  ·rename_i d hd
   split at hr
   ·rename_i hc
    obtain⟨h24,hl0,hs0⟩:=hc
    split at hr
    ·rename_i cells hf
     split at hr
     ·rename_i hc2
      obtain⟨hone,hlen⟩:=hc2
      simp only[a1d,a1e]at hr
      obtain⟨rfl,rfl⟩:=hr
      obtain⟨ds,hds,hcs⟩:=aFe (cs:=(a2j (len*d.size)).map (d.zero.cells[· % d.zero.cells.size]!)) (qM (X:=Xs A M h) (M:=M) (w:=w) _) hp.1 hp.2 hf
      have hdl:ds.size=len*d.size:=by have:=hcs.len;simp at this;omega
      have G:=Grow.alloc H e cells ds (by omega) (by rw[a1q (by simp;omega)];exact hcs) (fun c hc=>a1j.1 hone c hc)
      refine⟨.slice (some ⟨w.heap.size,0,none⟩) len len,_,_, ?_,G, ?_⟩
      ·unfold Instr.buildSlice
       rw[Sem.run_bind,eX ht,Result.andThen_ok]
       simp only
       rw[Sem.run_bind,fS hd,Result.andThen_ok]
       have hne: ¬(len*d.size>2^24):=by omega
       have hne0: ¬(len*d.size=0):=by have:=Nat.mul_pos hl0 hs0;omega
       simp[hne,hne0,aGB hd,hds,newRow]
      unfold VR
      refine .inr ⟨w.heap.size,len,e,_,by rw[←H.len];simp,rfl,a1m _,by simp only[maxLen];have:=Nat.le_mul_of_pos_right len hs0;omega,hs0, ?_,a1m _⟩
      unfold World.shape?
      rw[heap_alloc_new w _]
      simp[hdl]
     cases hr
    cases hr
   split at hr
   ·rename_i hc
    obtain⟨rfl,hp0,hs0⟩:=hc
    obtain rfl:parts=[]:=by simpa using hp0
    simp only[a1d,a1e]at hr
    obtain⟨rfl,rfl⟩:=hr
    have hv0:vparts= #[]:=by
     have h1:=hp.1
     simp only[a14]at h1
     first
      |exact a1R (by simpa using h1.symm)
      |exact a1R (by simpa using h1)
      |simpa using h1
    subst hv0
    have G:=Grow.alloc H e [] #[] (by simp) (by simp only[a14,List.take_zero];unfold VCells;rfl) (fun c hc=>by cases hc)
    refine⟨.slice (some ⟨w.heap.size,0,none⟩) 0 0,_,_, ?_,G, ?_⟩
    ·unfold Instr.buildSlice
     rw[Sem.run_bind,eX ht,Result.andThen_ok]
     simp only
     rw[Sem.run_bind,fS hd,Result.andThen_ok]
     have hr0:a2j 0= #[]:=rfl
     simp[Instr.fill,newRow,hr0]
    unfold VR
    refine .inr ⟨w.heap.size,0,e,_,by rw[←H.len];simp,rfl,a1m _,Nat.zero_le _,hs0, ?_,a1m _⟩
    unfold World.shape?
    rw[heap_alloc_new w _]
    simp
   cases hr
  cases hr
 cases hr
theorem aRe (H:HR A M h w){t t' ty:TypeId}{x y r:V}{v u:Value}{h':Hp}(hx:VR (Xs A M h) M w x v)(hy:VR (Xs A M h) M w y u)(hr:aLc P t x y h=some (r,h')):
  ∃v' w',(Builtin.copy_ #[t,t'] ty #[v,u]).run P w= .ok v' w'∧Grow A M h w M h' w'∧VR (Xs A M h') M w' r v':=by
 unfold aLc at hr
 split at hr
 ·rename_i e sz by_ z ht
  split at hr
  ·cases hr
  rename_i d hd
  split at hr
  ·rename_i b off n k ag news m hsrc
   have S:=aIw H hy hsrc
   split at hr
   ·rename_i B hb
    split at hr
    ·rename_i hc
     obtain⟨rfl,hk0,hoff⟩:=hc
     simp only[a1d,a1e]at hr
     obtain⟨rfl,rfl⟩:=hr
     obtain⟨hu,_⟩:=cI ht
     obtain⟨vs,hvs,hlen,hfirst⟩: ∃vs:List Value,VCells (Xs A M h) M w (news.take (min m n*d.size)) vs∧(Builtin.lenOf u).run P w= .ok m w∧
       (Builtin.firstCells d.size (min m n) u).run P w= .ok vs.toArray w:=by
      rcases S.is with⟨c,rfl,rfl⟩|⟨ad,c,vs,rfl,hc,hl⟩
      ·refine⟨[],by simp;unfold VCells;rfl,by simp[Builtin.lenOf],by simp[Builtin.firstCells]⟩
      refine⟨vs.take (min m n*d.size),hc.take _,by simp[Builtin.lenOf], ?_⟩
      have hl2:(vs.take (min m n*d.size)).length=min m n*d.size:=by
       rw[a10,←hc.len,S.len];exact a15 (a1z _ (Nat.min_le_left _ _))
      exact run_firstCells_some w d.size (min m n) ad m c _ hl2 (fun j u hj=>(hl.take _) j u (by simpa using hj))
     have hone: ∀c∈news.take (min m n*d.size),c.one=true:=fun c hc=>S.one c (a1l hc)
     have hone':=VCells.oneCell hvs (a1j.2 hone)
     have hnl:(news.take (min m n*d.size)).length=min m n*d.size:=by
      rw[a10,S.len];exact a15 (a1z _ (Nat.min_le_left _ _))
     unfold VR at hx
     rcases hx with⟨hM,rfl,rfl,rfl⟩|⟨g,cap,e',sz',hg,rfl,h1,h2,h3,h4,h5⟩
     ·
      have hB:B.cells=[]:=by
       rcases(H.blk b B hb).2 with⟨_,hh⟩|⟨g,cs,hg,_⟩
       ·exact hh
       rw[hM]at hg;cases hg
      have hset:h.set b (some ⟨B.e,splice B.cells 0 (news.take (min m 0*d.size))⟩)=h:=by
       have:(⟨B.e,splice B.cells 0 (news.take (min m 0*d.size))⟩:Blk)=B:=by
        cases B;simp at hB;subst hB;simp[splice]
       rw[this]
       apply a1G
       intro i
       by_cases hi:b=i
       ·subst hi;rw[a12 (a1c.1 hb).1,hb]
       rw[a1H hi]
      rw[hset]
      refine⟨_,w, ?_,Grow.refl H,by unfold VR;rfl⟩
      have hmin:Nat.min m 0=min m 0:=rfl
      rw[Nat.min_zero]at hfirst
      simp[Builtin.copy_,run_underlying hu,fS hd,hlen,hfirst,goInt,hmin]
     obtain⟨w',hw,G⟩:=Grow.store (P:=P) H hb (off:=off) (news:=news.take (min m n*d.size)) (vs:=vs) (by rw[hnl];have:=a1z d.size (Nat.min_le_right m n);omega) hvs hone' hg h4 hone
     refine⟨.int .i64 (min m n:Nat),w', ?_,G,by unfold VR;rfl⟩
     have hmin:Nat.min m n=min m n:=rfl
     simp[Builtin.copy_,run_underlying hu,fS hd,hlen,hfirst,goInt,hw,hmin]
    cases hr
   cases hr
  cases hr
 cases hr
end
section
variable {X:Nat→Prop}{M:List (Option Nat)}{P:Program}{w:World}
theorem aQv : ∀{es:List V},es.all V.one=true→es.flatMap V.cells=es
 | [],_=>rfl
 |e::es,h=>by
  simp only[List.all_cons,a1v]at h
  have:e.cells=[e]:=by cases e<;>first|rfl|simp[V.one]at h
  simp[a1t,this,aQv h.2]
theorem aSD {t:TypeId}{x r:V}{v:Value}(hx:VR X M w x v)(hr:aIR P t x=some r): ∃u,(Instr.arrayAt t v).run P w= .ok u w∧VR X M w r u:=by
 unfold aIR at hr
 split at hr
 ·rename_i n e sz by_ z nil k es ht
  split at hr
  ·rename_i hc
   obtain⟨rfl,hn,hl,hone⟩:=hc
   injection hr with hr;subst hr
   unfold VR at hx
   obtain⟨a,cap,rfl,hcap,_,_,hok,hrow⟩:=hx
   have hne:es≠ []:=by rintro rfl;simp at hl;omega
   obtain⟨ad,rfl,_,hX,hsp,hrw⟩:=hrow hne
   refine⟨.pointer (some ad), ?_, ?_⟩
   ·have hlt: ¬es.length<n:=by omega
    simp[Instr.arrayAt,eX (w:=w) ht,hlt]
   have hone':(es.take n).all V.one=true:=by
    rw[a1j]at hone⊢
    exact fun c hc=>hone c (a1l hc)
   obtain⟨vs,f1,f2,f3,f4⟩:=(VRow.take n hrw).flat (fun e he=>hok e (a1l he))
   rw[aQv hone']at f1 f3
   have hlen:(es.take n).length=n:=by simp;omega
   unfold VR
   refine⟨ad,n,by simp[Addr.add],hn,fun _=>hX,hsp, ?_, ?_⟩
   ·intro e he
    simp only[List.mem_singleton]at he
    subst he
    simp only[V.okElem,V.flatOk,V.cells,hone',hlen,beq_self_eq_true,Bool.and_self]
   unfold VRow
   refine⟨⟨.agg vs.toArray,by unfold VR;exact⟨vs,rfl,f1⟩,by simp only[Value.cells,a2c];rw[←f1.len,hlen],f2⟩,by unfold VRow;trivial⟩
  cases hr
 ·rename_i n e sz by_ z b off m k ag ht
  split at hr
  ·rename_i hc
   obtain⟨hn,hl⟩:=hc
   injection hr with hr;subst hr
   unfold VR at hx
   rcases hx with⟨_,_,rfl,_⟩|⟨g,cap,e',sz',hg,rfl,_,_,_,hs,_⟩
   ·omega
   refine⟨.pointer (some ⟨g,off,none⟩), ?_,by unfold VR;exact⟨g,_,hg,rfl,hs⟩⟩
   have hlt: ¬m<n:=by omega
   simp[Instr.arrayAt,eX (w:=w) ht,hlt]
  cases hr
 cases hr
end
def mF (d:TI):Nat:=if bY d.desc then d.size else 0
def aMq (d:TI):Bool:=if bY d.desc then decide (0<d.size)&&decide (d.size<1000)else true
structure MT where
 kt:TypeId
 et:TypeId
 dk:TI
 de:TI
def r9 (P:Program)(t:TypeId):Option MT:=
 match aK P t with
 |some ⟨.map k e,_,_,_⟩=>match aK P k,aK P e with
  |some dk,some de=>if aMq dk&&aMq de then some ⟨k,e,dk,de⟩else none
  |_,_=>none
 |_=>none
def MT.code (m:MT):Nat:=mF m.dk*1000+mF m.de
def cT (n:Nat):Nat:=if n=0 then 1 else n
def aEs (n:Nat)(cs:List V):V:=if n=0 then cs.headD .any else .agg cs
def aII (n:Nat)(x:V):Bool:=x.flatOk&&(if n=0 then x.one else match x with
 | .agg cs=>cs.length == n
 |_=>false)
def aBV (k l:Nat):Nat→List V→List (V×V)
 |0,_=>[]
 |n+1,cs=>(aEs k (cs.take (cT k)),aEs l ((cs.drop (cT k)).take (cT l)))::aBV k l n (cs.drop (cT k+cT l))
def aDO (es:List (V×V)):List V:=es.flatMap fun e=>e.1.cells++e.2.cells
def pS (P:Program)(kt:TypeId)(kv:Value):List Value→Option (Option Nat)
 | []=>some none
 |k::ks=>match aS P (Go.Op.equal kt kv k) with
  |some true=>some (some 0)
  |some false=>(pS P kt kv ks).map (·.map (· + 1))
  |none=>none
structure MAt where
 m:MT
 b:Nat
 B:Blk
 es:List (V×V)
def zA (P:Program)(t:TypeId)(h:Hp)(x:V):Option MAt:=
 match r9 P t,x with
 |some m,.mp b=>match h[b]? with
  |some (some B)=>if B.e=m.code then some ⟨m,b,B,aBV (mF m.dk) (mF m.de) (B.cells.length/(cT (mF m.dk)+cT (mF m.de))) B.cells⟩else none
  |_=>none
 |_,_=>none
def aCJ (P:Program)(kt:TypeId)(es:List (V×V))(k:V):Option (Value×List Value×Option Nat):=
 match eJ k,es.mapM (fun e=>eJ e.1) with
 |some kv,some ks=>match aS P (Instr.checkKey true 10000 kt kv),aS P (Instr.checkKey false 10000 kt kv),pS P kt kv ks with
  |some _,some _,some ix=>some (kv,ks,ix)
  |_,_,_=>none
 |_,_=>none
def aJp (P:Program)(t:TypeId)(h:Hp):Option (V×Hp):=(r9 P t).map fun m=>(.mp h.length,h++[some ⟨m.code,[]⟩])
def V.softA :V→V
 | .agg cs=> .agg (cs.map V.soft)
 |x=>x
theorem VR.softA {X:Nat→Prop}{M:List (Option Nat)}{w:World}{x:V}{v:Value}(h:VR X M w x v):VR X M w x.softA v:=by
 cases x<;>first|exact h|(
  unfold VR at h
  unfold V.softA VR
  obtain⟨vs,e1,e2⟩:=h
  exact⟨vs,e1,e2.soft⟩)
def vM (P:Program)(t:TypeId)(h:Hp)(x k:V)(ok:Bool):Option V:=
 match zA P t h x with
 |none=>none
 |some a=>match aCJ P a.m.kt a.es k with
  |none=>none
  |some (_,_,none)=>some (if ok then .tup [(ofValue a.m.de.zero).softA,.sc (.bool false)]else(ofValue a.m.de.zero).softA)
  |some (_,_,some i)=>match a.es[i]? with
   |none=>none
   |some e=>some (if ok then .tup [e.2,.sc (.bool true)]else e.2)
def aM8 (ks:List Value)(i:Nat)(kv:Value):Bool:=(ks[i]?).any fun old=>Instr.sameBits 10000 old kv
def aN0 (P:Program)(t:TypeId)(h:Hp)(x k v:V):Option Hp:=
 match zA P t h x with
 |none=>none
 |some a=>if aII (mF a.m.dk) k&&aII (mF a.m.de) v then match aCJ P a.m.kt a.es k with
  |none=>none
  |some (_,_,none)=>some (h.set a.b (some ⟨a.B.e,a.B.cells++(k.cells++v.cells)⟩))
  |some (kv,ks,some i)=>if aM8 ks i kv then some (h.set a.b (some ⟨a.B.e,aDO (a.es.set i (k,v))⟩))else none
  else none
def aUA (P:Program)(t:TypeId)(h:Hp)(x k:V):Option Hp:=
 match zA P t h x with
 |none=>none
 |some a=>match aCJ P a.m.kt a.es k with
  |none=>none
  |some (_,_,none)=>some (h.set a.b (some a.B))
  |some (_,_,some i)=>some (h.set a.b (some ⟨a.B.e,aDO (a.es.eraseIdx i)⟩))
theorem aHn (n:Nat):0<cT n:=by unfold cT;split<;>omega
theorem aDR {n:Nat}{v:Value}(h:rL n v):v.cells.size=cT n:=by
 unfold rL at h
 unfold cT
 split at h
 ·rename_i h0
  rw[eC h,if_pos h0];rfl
 rename_i h0
 obtain⟨xs,rfl,hx⟩:=h
 rw[if_neg h0];exact hx
section
variable {X:Nat→Prop}{M:List (Option Nat)}{w:World}
theorem aPG {n:Nat}{v:Value}(h:rL n v){cs:List V}(hc:VCells X M w cs v.cells.toList):VR X M w (aEs n cs) v:=by
 unfold rL at h
 unfold aEs
 split at h
 ·rename_i h0
  rw[if_pos h0]
  rw[eC h]at hc
  match cs,hc with
  | [],hc=>unfold VCells at hc;simp at hc
  |c::cs,hc=>
   unfold VCells at hc
   obtain⟨u,rest,h1,h2,_⟩:=hc
   simp at h1
   rw[h1.1];exact h2
 rename_i h0
 obtain⟨xs,rfl,hx⟩:=h
 rw[if_neg h0]
 unfold VR
 exact⟨xs.toList,by simp,hc⟩
def ERel (X:Nat→Prop)(M:List (Option Nat))(w:World):List (V×V)→List MapEntry→Prop
 | [],[]=>True
 |p::ps,e::es=>VR X M w p.1 e.key∧VR X M w p.2 e.val∧ERel X M w ps es
 |_,_=>False
theorem aE8 {k l:Nat}: ∀{es:List MapEntry},(∀x∈es,rL k x.key∧rL l x.val)→(jL es).length=es.length*(cT k+cT l)
 | [],_=>by simp[jL]
 |e::es,h=>by
  have h1:=h e (by simp)
  have:=aE8 (es:=es) (fun x hx=>h x (by simp[hx]))
  have e1:(jL (e::es)).length=(e.key.cells.toList++e.val.cells.toList).length+(jL es).length:=by simp only[jL,a1t,a1L]
  rw[e1,this]
  simp only[a1L,Array.length_toList,aDR h1.1,aDR h1.2,a1S,a1y,a1N]
  omega
theorem aQG {k l:Nat}: ∀{es:List MapEntry}{cs:List V},(∀x∈es,rL k x.key∧rL l x.val)→VCells X M w cs (jL es)→ERel X M w (aBV k l es.length cs) es
 | [],cs,_,_=>by simp[aBV,ERel]
 |e::es,cs,h,hc=>by
  have h1:=h e (by simp)
  have s1:=aDR h1.1
  have s2:=aDR h1.2
  have e1:jL (e::es)=e.key.cells.toList++(e.val.cells.toList++jL es):=by simp[jL]
  rw[e1]at hc
  have t1:=hc.take (cT k)
  rw[a17 (by simpa using s1)]at t1
  have d1:=hc.drop (cT k)
  rw[a2k (by simpa using s1)]at d1
  have t2:=d1.take (cT l)
  rw[a17 (by simpa using s2)]at t2
  have d2:=d1.drop (cT l)
  rw[a2k (by simpa using s2),List.drop_drop]at d2
  simp only[a1S,aBV,ERel]
  exact⟨aPG h1.1 t1,aPG h1.2 t2,aQG (fun x hx=>h x (by simp[hx])) d2⟩
theorem ERel.get : ∀{ps:List (V×V)}{es:List MapEntry},ERel X M w ps es→ ∀{i:Nat}{p:V×V},ps[i]? =some p→ ∃e,es[i]? =some e∧VR X M w p.1 e.key∧VR X M w p.2 e.val
 | [],[],_,i,p,hp=>by simp at hp
 |q::ps,e::es,h,0,p,hp=>by
  simp at hp;subst hp
  exact⟨e,rfl,h.1,h.2.1⟩
 |q::ps,e::es,h,i+1,p,hp=>by
  obtain⟨e',h1,h2⟩:=ERel.get h.2.2 (i:=i) (p:=p) (by simpa using hp)
  exact⟨e',by simpa using h1,h2⟩
 | [],e::es,h,_,_,_=>h.elim
 |q::ps,[],h,_,_,_=>h.elim
theorem ERel.keys : ∀{ps:List (V×V)}{es:List MapEntry},ERel X M w ps es→ ∀{ks:List Value},ps.mapM (fun e=>eJ e.1)=some ks→es.map (·.key)=ks
 | [],[],_,ks,h=>by simp at h;subst h;rfl
 |q::ps,e::es,h,ks,hk=>by
  simp only[a1B,a1u,a1b]at hk
  obtain⟨v,hv,vs,hvs,hks⟩:=hk
  injection hks with hks
  subst hks
  rw[a1J,ERel.keys h.2.2 hvs,pJ h.1 hv]
 | [],e::es,h,_,_=>h.elim
 |q::ps,[],h,_,_=>h.elim
end
section
variable {P:Program}{w:World}
theorem aNr {kt:TypeId}{d:TypeDesc}(hd:P.underlying kt=some d){a b:Value}{r:Bool}(h:Instr.sameNow d a b=some r):aS P (Go.Op.equal kt a b)=some r:=by
 have hu:aS P (underlying kt)=some d:=by
  show aS P (match P.underlying kt with|some d=>pure d|none=>stuck "no such type")=_
  rw[hd];rfl
 unfold Go.Op.equal Go.Op.maxDepth
 rw[Go.Op.equalIn]
 show aS P (Sem.bind (underlying kt) _)=_
 have hb: ∀{α β:Type}(s:Sem α)(f:α→Sem β){a:α},aS P s=some a→aS P (Sem.bind s f)=aS P (f a):=by
  intro α β s f a h
  induction s with
  |pure x=>simp only[aS,a1d]at h;subst h;rfl
  |program k ih=>exact ih P h
  |mark m k ih=>exact ih h
  |_=>simp[aS]at h
 rw[hb _ _ hu]
 unfold Instr.sameNow at h
 split at h
 ·split at h
  ·rename_i hk;subst hk;injection h with h;subst h;simp only[if_true];rfl
  cases h
 ·injection h with h;subst h;rfl
 ·injection h with h;subst h;rfl
 cases h
theorem aH1 {kt:TypeId}{kv:Value}: ∀(es:List MapEntry)(i:Nat){ix:Option Nat},pS P kt kv (es.map (·.key))=some ix→(Instr.findAsking kt kv es i).run P w= .ok (ix.bind fun j=>(es[j]?).map fun e=>(i+j,e.val)) w
 | [],i,ix,h=>by simp[pS]at h;subst h;simp[Instr.findAsking]
 |e::es,i,ix,h=>by
  simp only[a1J,pS]at h
  unfold Instr.findAsking
  split at h
  ·rename_i hq
   injection h with h;subst h
   rw[Sem.run_bind,jN _ hq w,Result.andThen_ok]
   simp
  ·rename_i hq
   simp only[a1a]at h
   obtain⟨jx,hj,rfl⟩:=h
   rw[Sem.run_bind,jN _ hq w,Result.andThen_ok]
   simp only[a1x,if_false]
   rw[aH1 es (i+1) hj]
   cases jx with
   |none=>rfl
   |some j=>simp[a1A,a1Y 1 j]
  cases h
theorem aNi {kt:TypeId}{d:TypeDesc}(hd:P.underlying kt=some d){kv:Value}: ∀(es:List MapEntry)(i:Nat){ix:Option Nat}{r:Option (Nat×Value)},pS P kt kv (es.map (·.key))=some ix→Instr.findNow d kv es i=some r→r=ix.bind fun j=>(es[j]?).map fun e=>(i+j,e.val)
 | [],i,ix,r,h,hr=>by simp[pS]at h;simp[Instr.findNow]at hr;subst h hr;rfl
 |e::es,i,ix,r,h,hr=>by
  simp only[a1J,pS]at h
  unfold Instr.findNow at hr
  split at hr
  ·rename_i hs
   rw[aNr hd hs]at h
   injection h with h;injection hr with hr;subst h hr;simp
  ·rename_i hs
   rw[aNr hd hs]at h
   simp only[a1a]at h
   obtain⟨jx,hj,rfl⟩:=h
   rw[aNi hd es (i+1) hj hr]
   cases jx with
   |none=>rfl
   |some j=>simp[a1A,a1Y 1 j]
  cases hr
theorem vL {kt:TypeId}{d:TypeDesc}(hd:P.underlying kt=some d){kv:Value}{es:List MapEntry}{ix:Option Nat}(h:pS P kt kv (es.map (·.key))=some ix):(Instr.findKey kt kv es).run P w= .ok (ix.bind fun j=>(es[j]?).map fun e=>(j,e.val)) w:=by
 unfold Instr.findKey
 rw[Sem.run_bind,run_underlying hd w,Result.andThen_ok]
 cases hn:Instr.findNow d kv es 0 with
 |some r=>
  simp only
  have:=aNi hd es 0 h hn
  simp only[a13]at this
  rw[this];rfl
 |none=>
  simp only
  have:=aH1 (w:=w) es 0 h
  simpa only[a13]using this
theorem aKi {kt:TypeId}{kv:Value}: ∀{ks:List Value}{i:Nat},pS P kt kv ks=some (some i)→i<ks.length
 | [],i,h=>by simp[pS]at h
 |k::ks,i,h=>by
  simp only[pS]at h
  split at h
  ·injection h with h;injection h with h;subst h;simp
  ·simp only[a1a]at h
   obtain⟨jx,hj,h2⟩:=h
   cases jx with
   |none=>simp at h2
   |some j=>simp at h2;subst h2;have:=aKi hj;simp;omega
  cases h
end
section
variable {P:Program}{A:Nat→Prop}{M:List (Option Nat)}{h:Hp}{w:World}
theorem aCd {t:TypeId}{m:MT}(hm:r9 P t=some m):P.underlying t=some (.map m.kt m.et)∧aK P m.kt=some m.dk∧aK P m.et=some m.de∧aMq m.dk=true∧aMq m.de=true:=by
 unfold r9 at hm
 split at hm
 ·rename_i k e _ _ _ ht
  split at hm
  ·rename_i dk de h1 h2
   split at hm
   ·rename_i hc
    injection hm with hm;subst hm
    simp only[a1v]at hc
    exact⟨(cI ht).1,h1,h2,hc.1,hc.2⟩
   cases hm
  cases hm
 cases hm
theorem aYp {d:TI}(h:aMq d=true):mF d<1000:=by
 unfold aMq at h
 unfold mF
 split<;>simp_all
theorem aFX {m:MT}(h2:aMq m.de=true):m.code/1000=mF m.dk∧m.code%1000=mF m.de:=by
 have:=aYp h2
 unfold MT.code
 omega
theorem aE5 (H:HR A M h w){t:TypeId}{x:V}{v:Value}{a:MAt}(ha:zA P t h x=some a)(hx:VR (Xs A M h) M w x v):
  r9 P t=some a.m∧a.B.e=a.m.code∧h[a.b]? =some (some a.B)∧(∀c∈a.B.cells,c.one=true)∧ ∃g es clock cs,M[a.b]? =some (some g)∧ ¬A g∧v= .map (some g)∧w.heap[g]? =some (.map es clock)∧aPz a.B.e es clock cs∧a.B.cells.length=cs.size∧
   (∀x∈es.toList,rL (mF a.m.dk) x.key∧rL (mF a.m.de) x.val)∧VCells (Xs A M h) M w a.B.cells (jL es.toList)∧ERel (Xs A M h) M w a.es es.toList:=by
 unfold zA at ha
 split at ha
 ·rename_i m b hm
  split at ha
  ·rename_i B hb
   split at ha
   ·rename_i he
    injection ha with ha;subst ha
    unfold VR at hx
    obtain⟨g,hg,rfl,hl,hs⟩:=hx
    obtain⟨hone,⟨hn,_⟩|⟨g',cs,hg',hA,hh,hle,hcs⟩⟩:=H.blk b B hb
    ·rw[hg]at hn;cases hn
    rw[hg]at hg';injection hg' with hg';injection hg' with hg';subst hg'
    obtain⟨es,clock,h1,h2,h3⟩:=hh.inMap hs
    obtain⟨_,_,_,_,ok2⟩:=aCd hm
    have hsh:=h2.shp
    rw[he,(aFX ok2).1,(aFX ok2).2]at hsh
    rw[h3,a1q (by simp),h2.cells]at hcs
    have hn:B.cells.length/(cT (mF m.dk)+cT (mF m.de))=es.toList.length:=by
     rw[hcs.len,aE8 hsh]
     exact Nat.mul_div_cancel _ (by have:=aHn (mF m.dk);omega)
    refine⟨hm,he,hb,hone,g,es,clock,cs,hg,hA,rfl,h1,h2,h3,hsh,hcs, ?_⟩
    simp only
    rw[hn]
    exact aQG hsh hcs
   cases ha
  cases ha
 cases ha
theorem aMc {t:TypeId}{x:V}{a:MAt}(ha:zA P t h x=some a):a.es=aBV (mF a.m.dk) (mF a.m.de) (a.B.cells.length/(cT (mF a.m.dk)+cT (mF a.m.de))) a.B.cells:=by
 unfold zA at ha
 split at ha
 ·split at ha
  ·split at ha
   ·injection ha with ha;subst ha;rfl
   cases ha
  cases ha
 cases ha
theorem sU {kt:TypeId}{es:List (V×V)}{k:V}{kv:Value}{ks:List Value}{ix:Option Nat}(h:aCJ P kt es k=some (kv,ks,ix)):
  eJ k=some kv∧es.mapM (fun e=>eJ e.1)=some ks∧(∀b,aS P (Instr.checkKey b 10000 kt kv)=some ())∧pS P kt kv ks=some ix:=by
 unfold aCJ at h
 split at h
 ·rename_i kv' ks' h1 h2
  split at h
  ·rename_i ix' h3 h4 h5
   simp only[a1d,a1e]at h
   obtain⟨rfl,rfl,rfl⟩:=h
   exact⟨h1,h2,fun b=>by
    cases b
    ·exact h4
    exact h3,h5⟩
  cases h
 cases h
theorem aO7 (H:HR A M h w){t:TypeId}{x k r:V}{ok:Bool}{vx vk:Value}(hx:VR (Xs A M h) M w x vx)(hk:VR (Xs A M h) M w k vk)(hr:vM P t h x k ok=some r):
  ∃u,(Instr.lookup t vx vk ok).run P w= .ok u w∧VR (Xs A M h) M w r u:=by
 unfold vM at hr
 split at hr
 ·cases hr
 rename_i a ha
 obtain⟨hm,he,hb,hone,g,es,clock,cs,hg,hA,rfl,hw,hok,hn,hsh,hcs,hE⟩:=aE5 H ha hx
 obtain⟨hu,hdk,hde,_,_⟩:=aCd hm
 have hget:(getObj g).run P w= .ok (.map es clock) w:=by simp[getObj,Sem.run,hw]
 have tup: ∀{y:V}{u:Value}{b:Bool},VR (Xs A M h) M w y u→VR (Xs A M h) M w (if ok=true then .tup [y,.sc (.bool b)]else y) (if ok=true then .tuple #[u,.bool b]else u):=by
  intro y u b hy
  cases ok with
  |false=>exact hy
  |true=>
   simp only[if_true]
   unfold VR
   refine⟨[u,.bool b],rfl, ?_⟩
   unfold VCells
   refine⟨_,_,rfl,hy, ?_⟩
   unfold VCells
   refine⟨_,_,rfl,by unfold VR;rfl,by unfold VCells;rfl⟩
 split at hr
 ·cases hr
 ·rename_i kv ks hf
  obtain⟨h1,h2,h3,h4⟩:=sU hf
  have hkv:=pJ hk h1
  subst hkv
  rw[←hE.keys h2]at h4
  have hfk:=vL (w:=w) (cI hdk).1 h4
  injection hr with hr;subst hr
  refine⟨_, ?_,tup (aJl a.m.de.zero).softA⟩
  have hc:=jN _ (h3 es.isEmpty) w
  simp[Instr.lookup,run_underlying hu,hget,hc,hfk,aGB hde]
 rename_i kv ks i hf
 obtain⟨h1,h2,h3,h4⟩:=sU hf
 have hkv:=pJ hk h1
 subst hkv
 rw[←hE.keys h2]at h4
 have hfk:=vL (w:=w) (cI hdk).1 h4
 split at hr
 ·cases hr
 rename_i e hei
 injection hr with hr;subst hr
 obtain⟨e',q1,q2,q3⟩:=hE.get hei
 refine⟨_, ?_,tup q3⟩
 have hc:=jN _ (h3 es.isEmpty) w
 simp only[q1,a1f,a2l]at hfk
 simp[Instr.lookup,run_underlying hu,hget,hc,hfk]
theorem aNG (H:HR A M h w){t:TypeId}{r:V}{h':Hp}(hr:aJp P t h=some (r,h')):
  ∃v w' M',(Instr.makeMap t none).run P w= .ok v w'∧Grow A M h w M' h' w'∧VR (Xs A M' h') M' w' r v:=by
 unfold aJp at hr
 simp only[a1a,a1e]at hr
 obtain⟨m,hm,rfl,rfl⟩:=hr
 have hE:Ext (cU M h) w (w.alloc (.map #[] 0)):=Ext.alloc _ _ _
 have hlive: ∀g,g<w.heap.size→cU (M++[some w.heap.size]) (h++[some ⟨m.code,[]⟩]) g→cU M h g:=by
  rintro g hg ⟨b,B,hb,hm⟩
  rcases eV hm with hm'|⟨_,hm'⟩
  ·rcases eV hb with hb'|⟨rfl,_⟩
   ·exact⟨b,B,hb',hm'⟩
   have:=(a1c.1 hm').1;rw[H.len]at this;omega
  injection hm';omega
 have keep: ∀cs us,VCells (Xs A M h) M w cs us→VCells (Xs A (M++[some w.heap.size]) (h++[some ⟨m.code,[]⟩])) (M++[some w.heap.size]) (w.alloc (.map #[] 0)) cs us:=
  fun cs us hh=>VCells.ext hE ⟨_,rfl⟩ (fun _ _ hl=> .inr hl) (fun g hg hx=>hx.elim .inl (fun hl=> .inr (hlive g hg hl))) cs us hh
 have hnew:(w.alloc (.map #[] 0)).heap[w.heap.size]? =some (.map #[] 0):=heap_alloc_new w _
 refine⟨.map (some w.heap.size),w.alloc (.map #[] 0),M++[some w.heap.size],by simp[Instr.makeMap,newObj,Sem.run],⟨⟨_,rfl⟩,⟨by simp[H.len],fun g hg=>by have:=H.alt g hg;simp;omega, ?_, ?_,H.glob.grow hE hlive⟩,hE,hlive⟩, ?_⟩
 ·intro b B hb
  rcases eV hb with hb'|⟨hbl,hB⟩
  ·obtain⟨h0,⟨hn,hn'⟩|⟨g,cs,h1,h2,h3,h4,h5⟩⟩:=H.blk b B hb'
   ·exact⟨h0,.inl ⟨kS hn,hn'⟩⟩
   exact⟨h0,.inr ⟨g,cs,kS h1,h2,h3.to (RowKit.Below.heap_alloc w _ g (H.mlt hb' h1)),h4,keep _ _ h5⟩⟩
  injection hB with hB
  subst hB
  refine⟨(fun c hc=>by cases hc),.inr ⟨w.heap.size,#[],by rw[hbl,←H.len];simp,fun ha=>Nat.lt_irrefl _ (H.alt _ ha),.inr ⟨#[],0,hnew,⟨rfl,(fun x hx=>by simp at hx),(fun x hx=>by simp at hx),by simp⟩,rfl⟩,a1m _, ?_⟩⟩
  show VCells _ _ _ [] _
  unfold VCells;rfl
 ·intro b b' B B' g hb hb' hm hm'
  rcases eV hb with h1|⟨h1,_⟩<;>rcases eV hb' with h2|⟨h2,_⟩<;>rcases lG hm with m1|⟨m1,m1'⟩<;>rcases lG hm' with m2|⟨m2,m2'⟩
  ·exact H.inj b b' B B' g h1 h2 m1 m2
  ·have:=H.mlt h1 m1;omega
  ·have:=H.mlt h2 m2;omega
  ·have:=(a1c.1 h1).1;rw[m1,H.len]at this;omega
  all_goals first
   |(have:=(a1c.1 m2).1;rw[H.len]at this;omega)
   |(have:=(a1c.1 m1).1;rw[H.len]at this;omega)
   |(have:=H.mlt h1 m1;omega)
   |(have:=H.mlt h2 m2;omega)
   |omega
 unfold VR
 refine⟨w.heap.size,by rw[←H.len];simp,rfl,by simp, ?_⟩
 unfold World.shape?; rw[hnew]
theorem Grow.mapSet (H:HR A M h w){b g:Nat}{B:Blk}(hb:h[b]? =some (some B))(hg:M[b]? =some (some g)){es0 es:Array MapEntry}{c0 clock:Nat}{cs:Array Value}{cells:List V}(hw:w.heap[g]? =some (.map es0 c0))(hA: ¬A g)
  (hok:aPz B.e es clock cs) (hone: ∀c∈cells,c.one=true) (hc:VCells (Xs A M h) M w cells (jL es.toList)):
  Grow A M h w M (h.set b (some ⟨B.e,cells⟩)) {w with heap:=w.heap.setIfInBounds g (.map es clock)}:=by
 have hgs:g<w.heap.size:=(a1i.1 hw).1
 have hE:Ext (cU M h) w {w with heap:=w.heap.setIfInBounds g (.map es clock)}:=by
  refine⟨rfl,⟨rfl,a1m _⟩,rfl,by simp,fun k hk hn=> ?_,fun k sh hsh=> ?_,fun k hk hsh=> ?_⟩
  ·show(w.heap.setIfInBounds g _)[k]? =_
   rw[a1g (by rintro rfl;exact hn ⟨b,B,hb,hg⟩)]
  ·unfold World.shape? at *
   show(match(w.heap.setIfInBounds g (.map es clock))[k]? with|some (.cells c elem _)=>some (elem,c.size)|_=>none)=some sh
   by_cases hk:g=k
   ·subst hk
    rw[hw]at hsh;cases hsh
   rw[a1g hk];exact hsh
  unfold World.shape? at *
  show(match(w.heap.setIfInBounds g (.map es clock))[k]? with|some (.cells c elem _)=>some (elem,c.size)|_=>none)=none
  by_cases hk:g=k
  ·subst hk
   rw[a1E hgs]
  rw[a1g hk];exact hsh
 have hlive: ∀k,k<w.heap.size→cU M (h.set b (some ⟨B.e,cells⟩)) k→cU M h k:=fun k _ hl=>aQt hb hl
 have keep: ∀cs us,VCells (Xs A M h) M w cs us→VCells (Xs A M (h.set b (some ⟨B.e,cells⟩))) M _ cs us:=
  fun cs us hk=>VCells.ext hE (a1h _) (fun _ _ hl=> .inr hl) (fun k hk hx=>hx.elim .inl (fun hl=> .inr (hlive k hk hl))) cs us hk
 refine⟨a1h _,⟨by simp[H.len],fun k hk=>by simpa using H.alt k hk, ?_, ?_,H.glob.grow hE hlive⟩,hE,hlive⟩
 ·intro i C hi
  rcases lW hi with⟨rfl,hC⟩|⟨hne,hi'⟩
  ·injection hC with hC
   subst hC
   have hlen:cells.length=cs.size:=by rw[hc.len,←hok.cells];simp
   refine⟨hone,.inr ⟨g,cs,hg,hA,.inr ⟨es,clock,by simp[hgs],hok,hlen⟩,Nat.le_of_eq hlen, ?_⟩⟩
   simp only
   rw[hlen,a1q (by simp),hok.cells]
   exact keep _ _ hc
  obtain⟨h0,hn|⟨k,ds,hk,hA',hh',hle',hds⟩⟩:=H.blk i C hi'
  ·exact⟨h0,.inl hn⟩
  refine⟨h0,.inr ⟨k,ds,hk,hA', ?_,hle',keep _ _ hds⟩⟩
  have hkg:k≠g:=by rintro rfl;exact hne (H.inj i b C B k hi' hb hk hg)
  refine hh'.to ?_
  show(w.heap.setIfInBounds g _)[k]? =_
  rw[a1g (Ne.symm hkg)]
 intro i j C D k hi hj mi mj
 rcases lW hi with⟨rfl,_⟩|⟨_,hi'⟩<;>rcases lW hj with⟨rfl,_⟩|⟨_,hj'⟩
 ·rfl
 ·exact H.inj i j B D k hb hj' mi mj
 ·exact H.inj i j C B k hi' hb mi mj
 exact H.inj i j C D k hi' hj' mi mj
theorem aQP {X:Nat→Prop}{n:Nat}{x:V}{v:Value}(h:aII n x=true)(hx:VR X M w x v):rL n v∧VCells X M w x.cells v.cells.toList∧ ∀c∈x.cells,c.one=true:=by
 unfold aII at h
 rw[a1v]at h
 refine⟨?_,(hx.cells' h.1).1,a1j.1 h.1⟩
 unfold rL
 split
 ·rename_i h0
  have h2:=h.2
  rw[if_pos h0]at h2
  exact hx.oneCell h2
 rename_i h0
 have h2:=h.2
 rw[if_neg h0]at h2
 cases x with
 |agg cs=>
  simp only[beq_iff_eq]at h2
  unfold VR at hx
  obtain⟨vs,rfl,hc⟩:=hx
  exact⟨_,rfl,by rw[←h2,hc.len];simp⟩
 |_=>simp at h2
theorem ERel.set {X:Nat→Prop}: ∀{ps:List (V×V)}{es:List MapEntry},ERel X M w ps es→ ∀{i:Nat}{p:V×V}{e:MapEntry},VR X M w p.1 e.key→VR X M w p.2 e.val→ERel X M w (ps.set i p) (es.set i e)
 | [],[],_,i,_,_,_,_=>by simp[ERel]
 |q::ps,f::es,h,0,p,e,h1,h2=>⟨h1,h2,h.2.2⟩
 |q::ps,f::es,h,i+1,p,e,h1,h2=>⟨h.1,h.2.1,ERel.set h.2.2 h1 h2⟩
 | [],f::es,h,_,_,_,_,_=>h.elim
 |q::ps,[],h,_,_,_,_,_=>h.elim
theorem ERel.flat {X:Nat→Prop}: ∀{ps:List (V×V)}{es:List MapEntry},ERel X M w ps es→(∀p∈ps,p.1.flatOk=true∧p.2.flatOk=true)→VCells X M w (aDO ps) (jL es)∧ ∀c∈aDO ps,c.one=true
 | [],[],_,_=>⟨by simp[aDO,jL];unfold VCells;rfl,by simp[aDO]⟩
 |q::ps,f::es,h,hf=>by
  obtain⟨h1,h2⟩:=hf q (by simp)
  obtain⟨i1,i2⟩:=ERel.flat h.2.2 (fun p hp=>hf p (by simp[hp]))
  have c1:=(h.1.cells' h1).1
  have c2:=(h.2.1.cells' h2).1
  refine⟨?_, ?_⟩
  ·simp only[aDO,jL,a1t]
   exact(c1.append c2).append i1
  intro c hc
  simp only[aDO,a1t,a16]at hc
  rcases hc with(hc|hc)|hc
  ·exact a1j.1 h1 c hc
  ·exact a1j.1 h2 c hc
  exact i2 c hc
 | [],f::es,h,_=>h.elim
 |q::ps,[],h,_=>h.elim
theorem aOS {n:Nat}{cs:List V}(h: ∀c∈cs,c.one=true)(hl:cs.length=cT n):(aEs n cs).flatOk=true:=by
 unfold aEs
 unfold cT at hl
 split
 ·rename_i h0
  rw[if_pos h0]at hl
  match cs,hl with
  | [c],_=>
   have hc:=h c (by simp)
   have e:c.cells=[c]:=by cases c<;>first|rfl|simp[V.one]at hc
   simp[V.flatOk,e,hc]
 simp only[V.flatOk,V.cells]
 exact a1j.2 h
theorem aKo {k l:Nat}: ∀(n:Nat)(cs:List V),(∀c∈cs,c.one=true)→cs.length=n*(cT k+cT l)→ ∀p∈aBV k l n cs,p.1.flatOk=true∧p.2.flatOk=true
 |0,_,_,_=>by simp[aBV]
 |n+1,cs,h,hl=>by
  rw[a1y,a1N]at hl
  intro p hp
  simp only[aBV,List.mem_cons]at hp
  rcases hp with rfl|hp
  ·exact⟨aOS (fun c hc=>h c (a1l hc)) (by simp;omega),aOS (fun c hc=>h c (a1o (a1l hc))) (by simp;omega)⟩
  exact aKo n _ (fun c hc=>h c (a1o hc)) (by simp;omega) p hp
theorem aS9 (H:HR A M h w){t:TypeId}{x k y:V}{h':Hp}{vx vk vy:Value}(hx:VR (Xs A M h) M w x vx)(hk:VR (Xs A M h) M w k vk)(hy:VR (Xs A M h) M w y vy)(hr:aN0 P t h x k y=some h'):
  ∃w',(Instr.mapUpdate t vx vk vy).run P w= .ok () w'∧Grow A M h w M h' w':=by
 unfold aN0 at hr
 split at hr
 ·cases hr
 rename_i a ha
 obtain⟨hm,he,hb,hone,g,es,clock,cs,hg,hA,rfl,hw,hok,hn,hsh,hcs,hE⟩:=aE5 H ha hx
 obtain⟨hu,hdk,hde,_,ok2⟩:=aCd hm
 have hget:=MapKept.run_getObj_map (P:=P) hw
 split at hr
 ·rename_i hs
  rw[Bool.and_eq_true]at hs
  obtain⟨k1,k2,k3⟩:=aQP hs.1 hk
  obtain⟨y1,y2,y3⟩:=aQP hs.2 hy
  have cd:=aFX ok2
  split at hr
  ·cases hr
  ·rename_i kv ks hf
   obtain⟨h1,h2,h3,h4⟩:=sU hf
   have hkv:=pJ hk h1
   subst hkv
   rw[←hE.keys h2]at h4
   have hfk:=vL (w:=w) (cI hdk).1 h4
   injection hr with hr;subst hr
   have hc:=jN _ (h3 false) w
   have hfl:jL (es.push ⟨vk,vy,clock⟩).toList=jL es.toList++(vk.cells.toList++vy.cells.toList):=by simp[jL]
   refine⟨_, ?_,Grow.mapSet H hb hg (es:=es.push ⟨vk,vy,clock⟩) (clock:=clock+1) (cs:=(jL (es.push ⟨vk,vy,clock⟩).toList).toArray) hw hA ⟨by simp, ?_, ?_, ?_⟩ ?_ ?_⟩
   ·simp only[Option.bind_none]at hfk
    simp[Instr.mapUpdate,run_underlying hu,hget,hc,hfk,MapKept.run_setObj_map _ hw,Result.andThen]
   ·intro z hz
    rw[he,cd.1,cd.2]
    simp only[Array.toList_push,List.mem_append,List.mem_singleton]at hz
    rcases hz with hz|rfl
    ·exact hsh z hz
    exact⟨k1,y1⟩
   ·intro z hz
    simp only[Array.toList_push,List.mem_append,List.mem_singleton]at hz
    rcases hz with hz|rfl
    ·have:=hok.born z hz;omega
    simp
   ·rw[Array.toList_push,List.map_append]
    refine List.pairwise_append.2 ⟨hok.nd,by simp,fun x hx y hy=> ?_⟩
    obtain⟨z,hz,rfl⟩:=List.mem_map.1 hx
    have h9:=hok.born z hz
    simp only[List.map_cons,List.map_nil,List.mem_singleton]at hy
    subst hy
    exact Nat.ne_of_lt h9
   ·intro c hc'
    simp only[List.mem_append]at hc'
    rcases hc' with hc'|hc'|hc'
    ·exact hone c hc'
    ·exact k3 c hc'
    exact y3 c hc'
   rw[hfl];exact hcs.append (k2.append y2)
  rename_i kv ks i hf
  obtain⟨h1,h2,h3,h4⟩:=sU hf
  have hkv:=pJ hk h1
  subst hkv
  have hkeys:=hE.keys h2
  rw[←hkeys]at h4
  have hfk:=vL (w:=w) (cI hdk).1 h4
  have hil:=aKi h4
  simp only[List.length_map]at hil
  split at hr
  ·rename_i hsb
   injection hr with hr;subst hr
   have hc:=jN _ (h3 false) w
   rw[←hkeys]at hsb
   have hei:es.toList[i]? =some es.toList[i]:=List.getElem?_eq_getElem hil
   have hea:es[i]? =some es.toList[i]:=by rw[←hei];simp
   simp only[aM8,List.getElem?_map,hei,Option.map_some,Option.any_some]at hsb
   have hfl:(es.modify i fun e=>{e with key:=vk,val:=vy}).toList=es.toList.set i ⟨vk,vy,es.toList[i].born⟩:=by
    apply List.ext_getElem?
    intro j
    simp only[Array.getElem?_toList,Array.getElem?_modify,List.getElem?_set]
    by_cases hij:i=j
    ·subst hij
     simp only[if_true,hea,Option.map_some]
     rw[if_pos hil]
    simp only[if_neg hij]
   have hER:=hE.set (i:=i) (p:=(k,y)) (e:=⟨vk,vy,es.toList[i].born⟩) hk hy
   obtain⟨f1,f2⟩:=hER.flat (fun p hp=>by
    rcases List.mem_or_eq_of_mem_set hp with hp|rfl
    ·have hlen:a.B.cells.length=es.toList.length*(cT (mF a.m.dk)+cT (mF a.m.de)):=by rw[hcs.len,aE8 hsh]
     rw[aMc ha,hlen,Nat.mul_div_cancel _ (by have:=aHn (mF a.m.dk);omega)]at hp
     exact aKo _ _ hone hlen p hp
    simp only[aII,Bool.and_eq_true]at hs
    exact⟨hs.1.1,hs.2.1⟩)
   rw[←hfl]at f1
   refine⟨_, ?_,Grow.mapSet H hb hg (es:=es.modify i fun e=>{e with key:=vk,val:=vy}) (clock:=clock) (cs:=(jL (es.modify i fun e=>{e with key:=vk,val:=vy}).toList).toArray) hw hA ⟨by simp, ?_, ?_, ?_⟩ f2 f1⟩
   ·simp only[Option.bind_some,hei,Option.map_some]at hfk
    have hst:(Instr.keyThatStays es.toList[i].key vk).run P w= .ok vk w:=by
     unfold Instr.keyThatStays
     rw[if_pos hsb];rfl
    simp only[Array.getElem_toList]at hst
    simp[Instr.mapUpdate,run_underlying hu,hget,hc,hfk,MapKept.run_setObj_map _ hw,Result.andThen,hea,hst]
   ·intro z hz
    rw[he,cd.1,cd.2]
    rw[hfl]at hz
    rcases List.mem_or_eq_of_mem_set hz with hz|rfl
    ·exact hsh z hz
    exact⟨k1,y1⟩
   ·intro z hz
    rw[hfl]at hz
    rcases List.mem_or_eq_of_mem_set hz with hz|rfl
    ·exact hok.born z hz
    exact hok.born es.toList[i] (List.getElem_mem hil)
   have hb9:(es.toList.set i ⟨vk,vy,es.toList[i].born⟩).map (·.born)=es.toList.map (·.born):=by
    apply List.ext_getElem?
    intro j
    simp only[List.getElem?_map,List.getElem?_set]
    by_cases hij:i=j
    ·subst hij
     rw[if_pos rfl,if_pos hil,hei];rfl
    rw[if_neg hij]
   rw[hfl,hb9]
   exact hok.nd
  cases hr
 cases hr
theorem ERel.erase {X:Nat→Prop}: ∀{ps:List (V×V)}{es:List MapEntry},ERel X M w ps es→ ∀i,ERel X M w (ps.eraseIdx i) (es.eraseIdx i)
 | [],[],h,_=>h
 |_::_,_::_,h,0=>h.2.2
 |_::_,_::_,h,i+1=>⟨h.1,h.2.1,ERel.erase h.2.2 i⟩
 | [],_::_,h,_=>h.elim
 |_::_,[],h,_=>h.elim
theorem aSk (H:HR A M h w){t t' ty:TypeId}{x k:V}{h':Hp}{vx vk:Value}(hx:VR (Xs A M h) M w x vx)(hk:VR (Xs A M h) M w k vk)(hr:aUA P t h x k=some h'):
  ∃w',(Builtin.delete_ #[t,t'] ty #[vx,vk]).run P w= .ok (.tuple #[]) w'∧Grow A M h w M h' w':=by
 unfold aUA at hr
 split at hr
 ·cases hr
 rename_i a ha
 obtain⟨hm,he,hb,hone,g,es,clock,cs,hg,hA,rfl,hw,hok,hn,hsh,hcs,hE⟩:=aE5 H ha hx
 obtain⟨hu,hdk,hde,_,ok2⟩:=aCd hm
 have hget:=MapKept.run_getObj_map (P:=P) hw
 split at hr
 ·cases hr
 ·rename_i kv ks hf
  obtain⟨h1,h2,h3,h4⟩:=sU hf
  have hkv:=pJ hk h1
  subst hkv
  rw[←hE.keys h2]at h4
  have hfk:=vL (w:=w) (cI hdk).1 h4
  injection hr with hr;subst hr
  have hc:=jN _ (h3 es.isEmpty) w
  refine⟨_, ?_,Grow.mapSet H hb hg (es:=es) (clock:=clock) (cs:=cs) hw hA hok hone hcs⟩
  simp only[Option.bind_none]at hfk
  simp[Builtin.delete_,run_underlying hu,hget,hc,hfk,MapKept.run_setObj_map _ hw,Result.andThen]
 rename_i kv ks i hf
 obtain⟨h1,h2,h3,h4⟩:=sU hf
 have hkv:=pJ hk h1
 subst hkv
 have hkeys:=hE.keys h2
 rw[←hkeys]at h4
 have hfk:=vL (w:=w) (cI hdk).1 h4
 have hil:=aKi h4
 simp only[List.length_map]at hil
 injection hr with hr;subst hr
 have hc:=jN _ (h3 es.isEmpty) w
 have hei:es.toList[i]? =some es.toList[i]:=List.getElem?_eq_getElem hil
 have hea:es[i]? =some es.toList[i]:=by rw[←hei];simp
 have his:i<es.size:=by simpa using hil
 have hfl:(es.eraseIdxIfInBounds i).toList=es.toList.eraseIdx i:=by
  unfold Array.eraseIdxIfInBounds
  rw[dif_pos his]
  simp
 have hsub:(es.toList.eraseIdx i).Sublist es.toList:=List.eraseIdx_sublist _ _
 obtain⟨f1,f2⟩:=(hE.erase i).flat (fun p hp=>by
  have hlen:a.B.cells.length=es.toList.length*(cT (mF a.m.dk)+cT (mF a.m.de)):=by rw[hcs.len,aE8 hsh]
  have hp:=(List.eraseIdx_sublist _ _).subset hp
  rw[aMc ha,hlen,Nat.mul_div_cancel _ (by have:=aHn (mF a.m.dk);omega)]at hp
  exact aKo _ _ hone hlen p hp)
 rw[←hfl]at f1
 refine⟨_, ?_,Grow.mapSet H hb hg (es:=es.eraseIdxIfInBounds i) (clock:=clock) (cs:=(jL (es.eraseIdxIfInBounds i).toList).toArray) hw hA ⟨by simp, ?_, ?_, ?_⟩ f2 f1⟩
 ·simp only[Option.bind_some,hei,Option.map_some]at hfk
  simp[Builtin.delete_,run_underlying hu,hget,hc,hfk,MapKept.run_setObj_map _ hw,Result.andThen]
 ·intro z hz
  rw[he,(aFX ok2).1,(aFX ok2).2]
  rw[hfl]at hz
  exact hsh z (hsub.subset hz)
 ·intro z hz
  rw[hfl]at hz
  exact hok.born z (hsub.subset hz)
 rw[hfl]
 exact List.Pairwise.sublist (hsub.map _) hok.nd
end
def Invokes (P:Program)(f:FuncId)(vs:Array Value)(w:World)(R:Value→World→Prop):Prop:=
 ((callFunc f vs).run P w= .ok (.enter f vs) w∧Calls P f vs w (fun e w'=> ∃v,e= .returned v∧R v w'))∨
 (∃v w',(callFunc f vs).run P w= .ok (.value v) w'∧R v w')
def Fn (P:Program)(f:FuncId)(h:Hp)(args:List V)(r:V)(h':Hp):Prop:=
 ∀(A:Nat→Prop)(M:List (Option Nat))(w:World)(vs:List Value),HR A M h w→VCells (Xs A M h) M w args vs→
  Invokes P f vs.toArray w (fun v w'=> ∃M',Grow A M h w M' h' w'∧VR (Xs A M' h') M' w' r v)
abbrev u2 :=FuncId→Hp→List V→Option (V×Hp)
def zK (P:Program)(O:u2):Prop:= ∀f h args r h',O f h args=some (r,h')→Fn P f h args r h'
def evs (s:List V)(xs:List Operand):Option (List V):=xs.mapM (ev s)
def sM (s:List V):Option Operand→Option (Option V)
 |none=>some none
 |some x=>(ev s x).map some
def aAo (s:List V)(ps:List (Nat×Operand)):Option (List (Nat×V)):=ps.mapM fun p=>(ev s p.2).map fun v=>(p.1,v)
def evB (s:List V):Operand→Option V
 | .const (.slice none 0 0)=>some (.row none 1 [])
 |o=>(ev s o).map V.softA
def aBG (s:List V)(ps:List (Nat×Operand)):Option (List (Nat×V)):=ps.mapM fun p=>(evB s p.2).map fun v=>(p.1,v)
theorem aT0 {s s':List V}{o:Operand}(h:ev s o=ev s' o):evB s o=evB s' o:=by
 unfold evB
 split
 ·rfl
 rw[h]
def aH7 (P:Program)(e:TypeId)(h:Hp):Option (V×Hp):=
 match aK P e with
 |some d=>if(d.zero.cells.toList.map d8).all V.one then some (.ptr h.length 0,h++[some ⟨e,d.zero.cells.toList.map d8⟩])else none
 |none=>none
def aQd (e:TypeId)(x:V)(h:Hp):Option (V×Hp):=
 if x.flatOk then some (.ptr h.length 0,h++[some ⟨e,x.cells⟩])else none
def rF :V→Option V
 | .ptr b off=>some (.ptr b off)
 | .eptr es i off=>some (.eptr es i off)
 |_=>none
def aKS :BinOp→Option V
 | .eql=>some (.sc (.bool false))
 | .neq=>some (.sc (.bool true))
 |_=>none
def aNv (P:Program)(op:BinOp)(t:TypeId)(x y:V):Option V:=
 match aK P t,x,y with
 |some ⟨.slice _,_,_,_⟩,.row _ _ (_::_),.row (some true) _ []=>aKS op
 |some ⟨.slice _,_,_,_⟩,.sl _ _ (_+1) _ _,.row (some true) _ []=>aKS op
 |_,_,_=>none
def c5 (P:Program)(op:BinOp)(t:TypeId)(xo yo:Operand)(x y:V):Option V:=
 match eJ x,eJ y with
 |some a,some b=>pureV P (do eqGuard op t xo yo a b;binOp op t a b)
 |_,_=>aNv P op t x y
def unV (P:Program)(op:UnOp)(x:V):Option V:=
 match eJ x with
 |some a=>pureV P (Op.unary op a)
 |none=>none
def gM (ns:List Int):ByteArray:=ns.foldl (fun r n=>r.push (UInt8.ofNat n.toNat)) ByteArray.empty
def uC :List V→Option (List Int)
 | []=>some []
 | .sc (.int .u8 n)::cs=>(uC cs).map (n:: ·)
 |_=>none
def rN (P:Program)(h:Hp)(a b:TypeId)(x:V):Option V:=
 match aK P a,aK P b with
 |some ⟨.slice e,_,_,_⟩,some ⟨.string,_,_,_⟩=>match aK P e with
  |some ⟨.int .u8,_,_,_⟩=>match fT h 1 x with
   |some (cells,_)=>(uC cells).map fun ns=> .sc (.string (gM ns))
   |none=>none
  |_=>none
 |_,_=>none
def aBN (P:Program)(h:Hp)(a b:TypeId)(x:V):Option V:=
 match rN P h a b x with
 |some v=>some v
 |none=>match eJ x with
  |some v=>pureV P (convert a b v)
  |none=>none
def aHE (P:Program)(ts:Array TypeId)(t:TypeId)(xs:List V)(mx:Bool):Option V:=
 match xs.mapM cZ with
 |some vs=>pureV P (if mx then Builtin.max_ ts t vs.toArray else Builtin.min_ ts t vs.toArray)
 |none=>none
def aIu (x:V)(i:Nat):Option V:=
 match x with
 | .tup vs=>vs[i]?
 |_=>none
def aQV (s:List V)(t:Tmp):Option FuncId:=
 match s[t]? with
 |some (.sc (.func (.func f) first captured))=>if first.isEmpty&&captured.isEmpty then some f else none
 |_=>none
def r7 (P:Program)(O:u2)(c:Call)(ty:TypeId)(s:List V)(h:Hp):Option (V×Hp):=
 match evs s c.args.toList with
 |none=>none
 |some xs=>
  match c.callee,c.argTypes.toList,xs with
  | .builtin .len,[t],[x]=>(aEE P t x).map (·,h)
  | .builtin .append,[t,t'],[x,y]=>hJ P t t' x y h
  | .builtin .copy,[t,_],[x,y]=>aLc P t x y h
  | .builtin .delete,[t,_],[x,y]=>(aUA P t h x y).map (.tup [],·)
  | .builtin .min,_,_=>(aHE P c.argTypes ty xs false).map (·,h)
  | .builtin .max,_,_=>(aHE P c.argTypes ty xs true).map (·,h)
  | .value (.func f),_,_=>O f h xs
  | .value (.tmp t),_,_=>(aQV s t).bind fun f=>O f h xs
  |_,_,_=>none
def bM (P:Program)(O:u2)(o:Oper)(s:List V)(h:Hp):Option (V×Hp):=
 match o.op with
 | .move x=>(ev s x).map (·,h)
 | .assign x=>(ev s x).map (·,h)
 | .pick c a b=>match ev s c with
  |some (.sc (.bool true))=>(ev s a).map (·,h)
  |some (.sc (.bool false))=>(ev s b).map (·,h)
  |_=>none
 | .alloc e=>aH7 P e h
 | .box e x=>(ev s x).bind fun x=>aQd e x h
 | .build t parts=>(aAo s parts.toList).bind fun ps=>(u6 P t ps).map (·,h)
 | .buildSlice t len parts=>(aBG s parts.toList).bind fun ps=>gV P t len ps h
 | .load t a=>(ev s a).bind fun a=>(eZ P t h a).map (·,h)
 | .store t a x=>(ev s a).bind fun a=>(ev s x).bind fun x=>(qY P t h a x).map (.sc undef,·)
 | .nilCheck x=>(ev s x).bind fun x=>(rF x).map (·,h)
 | .binOp op t x y _=>(ev s x).bind fun a=>(ev s y).bind fun b=>(c5 P op t x y a b).map (·,h)
 | .unOp op _ x=>(ev s x).bind fun a=>(unV P op a).map (·,h)
 | .convert a b x=>(ev s x).bind fun x=>(aBN P h a b x).map (·,h)
 | .makeSlice t l c=>(ev s l).bind fun l=>(ev s c).bind fun c=>aCm P t l c h
 | .slice t x lo hi none=>(ev s x).bind fun x=>(sM s lo).bind fun lo=>(sM s hi).bind fun hi=>(iZ P t h x lo hi).map (·,h)
 | .fieldAddr t x f=>(ev s x).bind fun x=>(rR P t x f).map (·,h)
 | .field t x f=>(ev s x).bind fun x=>(aGw P t x f).map (·,h)
 | .indexAddr t x i=>(ev s x).bind fun x=>(ev s i).bind fun i=>(iF P t x i).map (·,h)
 | .index t x i=>(ev s x).bind fun x=>(ev s i).bind fun i=>(aBU P t x i).map (·,h)
 | .extract x i=>(ev s x).bind fun x=>(aIu x i).map (·,h)
 | .call c=>r7 P O c o.type s h
 | .sliceToArrayPointer t x=>(ev s x).bind fun x=>(aIR P t x).map (·,h)
 | .makeMap t none=>aJp P t h
 | .lookup t x k ok=>(ev s x).bind fun x=>(ev s k).bind fun k=>(vM P t h x k ok).map (·,h)
 | .mapUpdate t x k y=>(ev s x).bind fun x=>(ev s k).bind fun k=>(ev s y).bind fun y=>(aN0 P t h x k y).map (.sc undef,·)
 | .slice t x lo (some hi) (some mx)=>(ev s x).bind fun x=>(sM s lo).bind fun lo=>(ev s hi).bind fun hi=>(ev s mx).bind fun mx=>(y5 P t x lo hi mx).map (·,h)
 |_=>none
structure SR (X:Nat→Prop)(M:List (Option Nat))(w:World)(s:List V)(a:Act):Prop where
 len:s.length=a.tmps.size
 val: ∀(t:Nat)(x:V),s[t]? =some x→VR X M w x (a.tmps.getD t undef)
def fK (s:List V)(d:Option Tmp)(x:V):List V:=
 match d with
 |some t=>s.set t x
 |none=>s
section
variable {P:Program}{O:u2}{A:Nat→Prop}{M M':List (Option Nat)}{h h':Hp}{w w':World}{s:List V}{a:Act}
theorem SR.keep (G:Grow A M h w M' h' w')(S:SR (Xs A M h) M w s a):SR (Xs A M' h') M' w' s a:=⟨S.len,fun t x hx=>G.keep (S.val t x hx)⟩
theorem SR.put {X:Nat→Prop}(S:SR X M w s a)(d:Option Tmp){x:V}{v:Value}(hx:VR X M w x v):SR X M w (fK s d x) (a.put d v):=by
 cases d with
 |none=>exact S
 |some t=>
  refine⟨by simp[fK,Act.put,S.len],fun i y hy=> ?_⟩
  simp only[fK]at hy
  rcases lW hy with⟨rfl,rfl⟩|⟨hne,hy'⟩
  ·have hlt:i<a.tmps.size:=by
    have:=(a1c.1 hy).1
    rw[←S.len];simpa using this
   simp[Act.put,hlt,hx]
  have:=S.val i y hy'
  simp only[Act.put]
  rw[show(a.tmps.setIfInBounds t v).getD i undef=a.tmps.getD i undef by
   simp[a1F,a1g (Ne.symm hne)]]
  exact this
theorem b4 {X:Nat→Prop}(Gl:Globs X w)(S:SR X M w s a){o:Operand}{x:V}(h:ev s o=some x):VR X M w x (a.eval o):=by
 cases o with
 |tmp t=>exact S.val t x h
 |const v=>simp only[ev,a1d]at h;subst h;exact aJl v
 |func f=>simp only[ev,a1d]at h;subst h;unfold VR;rfl
 |global g=>
  simp only[ev,a1a]at h
  obtain⟨e,he,rfl⟩:=h
  exact(Gl g e he).1.lift
theorem aOy {X:Nat→Prop}(Gl:Globs X w)(S:SR X M w s a): ∀{os:List Operand}{xs:List V},evs s os=some xs→VCells X M w xs (os.map a.eval)
 | [],xs,h=>by simp[evs]at h;subst h;unfold VCells;rfl
 |o::os,xs,h=>by
  simp only[evs,a1B,a1u,a1b,a1K,a1d]at h
  obtain⟨x,hx,xs',hxs,rfl⟩:=h
  unfold VCells
  exact⟨_,_,rfl,b4 Gl S hx,aOy Gl S hxs⟩
theorem aIE {X:Nat→Prop}(Gl:Globs X w)(S:SR X M w s a){o:Option Operand}{x:Option V}(h:sM s o=some x):aI0 X M w x (o.map a.eval):=by
 cases o with
 |none=>simp only[sM,a1d]at h;subst h;exact .inl ⟨rfl,rfl⟩
 |some o=>
  simp only[sM,a1a]at h
  obtain⟨y,hy,rfl⟩:=h
  exact .inr ⟨y,_,rfl,rfl,b4 Gl S hy⟩
theorem aJZ {X:Nat→Prop}(Gl:Globs X w)(S:SR X M w s a): ∀{ps:List (Nat×Operand)}{xs:List (Nat×V)},aAo s ps=some xs→aJc X M w xs (ps.map fun p=>(p.1,a.eval p.2))
 | [],xs,h=>by simp[aAo]at h;subst h;exact⟨rfl,by simp⟩
 |p::ps,xs,h=>by
  simp only[aAo,a1B,a1u,a1b,a1K,a1d,a1a]at h
  obtain⟨x,⟨y,hy,rfl⟩,xs',hxs,rfl⟩:=h
  obtain⟨h1,h2⟩:=aJZ Gl S hxs
  refine⟨by simp[h1],fun j p' q hp hq=> ?_⟩
  cases j with
  |zero=>simp at hp hq;subst hp hq;exact⟨rfl,b4 Gl S hy⟩
  |succ j=>exact h2 j p' q (by simpa using hp) (by simpa using hq)
theorem aUn {X:Nat→Prop}(Gl:Globs X w)(S:SR X M w s a){o:Operand}{y:V}(h:evB s o=some y):VR X M w y (a.eval o):=by
 unfold evB at h
 split at h
 ·injection h with h
  subst h
  unfold VR
  exact⟨none,0,rfl,a1m _,fun _=>rfl,(fun b hb=>by cases hb),by simp,fun h=>absurd rfl h⟩
 simp only[a1a]at h
 obtain⟨z,hz,rfl⟩:=h
 exact(b4 Gl S hz).softA
theorem aKA {X:Nat→Prop}(Gl:Globs X w)(S:SR X M w s a): ∀{ps:List (Nat×Operand)}{xs:List (Nat×V)},aBG s ps=some xs→aJc X M w xs (ps.map fun p=>(p.1,a.eval p.2))
 | [],xs,h=>by simp[aBG]at h;subst h;exact⟨rfl,by simp⟩
 |p::ps,xs,h=>by
  simp only[aBG,a1B,a1u,a1b,a1K,a1d,a1a]at h
  obtain⟨x,⟨y,hy,rfl⟩,xs',hxs,rfl⟩:=h
  obtain⟨h1,h2⟩:=aKA Gl S hxs
  refine⟨by simp[h1],fun j p' q hp hq=> ?_⟩
  cases j with
  |zero=>simp at hp hq;subst hp hq;exact⟨rfl,aUn Gl S hy⟩
  |succ j=>exact h2 j p' q (by simpa using hp) (by simpa using hq)
def Does (P:Program)(o:Oper)(a:Act)(w:World)(A:Nat→Prop)(M:List (Option Nat))(h:Hp)(r:V)(h':Hp):Prop:=
 ∀(K:Act→World→Prop)(Q:Exit→Act→World→Prop),
  (∀v w' M',Grow A M h w M' h' w'→VR (Xs A M' h') M' w' r v→K (a.put o.dst v) w')→o.wp P a w K Q
theorem Does.value {o:Oper}{r:V}{sem:Sem Value}(he:execOp a.eval o=(do pure (.value (←sem))))(hx: ∃v w' M',sem.run P w= .ok v w'∧Grow A M h w M' h' w'∧VR (Xs A M' h') M' w' r v):Does P o a w A M h r h':=by
 intro K Q hK
 obtain⟨v,w',M',hr,hG,hv⟩:=hx
 unfold Oper.wp
 rw[he,Sem.run_bind,hr,Result.andThen_ok]
 exact hK v w' M' hG hv
theorem Does.same (H:HR A M h w){o:Oper}{r:V}{sem:Sem Value}(he:execOp a.eval o=(do pure (.value (←sem))))(hx: ∃v,sem.run P w= .ok v w∧VR (Xs A M h) M w r v):Does P o a w A M h r h:=
 Does.value he (let⟨v,h1,h2⟩:=hx;⟨v,w,M,h1,Grow.refl H,h2⟩)
theorem Does.pureV (H:HR A M h w){o:Oper}{r:V}{sem:Sem Value}(he:execOp a.eval o=(do pure (.value (←sem))))(hx:Vm.pureV P sem=some r):Does P o a w A M h r h:=by
 refine Does.same H he ?_
 simp only[Vm.pureV,a1a]at hx
 obtain⟨v,hv,rfl⟩:=hx
 exact⟨v,jN _ hv w,aJl v⟩
end
section
variable {P:Program}{O:u2}{A:Nat→Prop}{M M':List (Option Nat)}{h h':Hp}{w w':World}{s:List V}{a:Act}
theorem aRt (H:HR A M h w){e:TypeId}{r:V}(hr:aH7 P e h=some (r,h')):
  ∃v w' M',(Instr.alloc e true (.tuple #[])).run P w= .ok v w'∧Grow A M h w M' h' w'∧VR (Xs A M' h') M' w' r v:=by
 unfold aH7 at hr
 split at hr
 ·rename_i d hd
  split at hr
  ·rename_i hone
   simp only[a1d,a1e]at hr
   obtain⟨rfl,rfl⟩:=hr
   have G:=Grow.alloc H e (d.zero.cells.toList.map d8) d.zero.cells (by simp) (by rw[a1q (by simp)];exact qM _) (fun c hc=>a1j.1 hone c hc)
   refine⟨.pointer (some ⟨w.heap.size,0,none⟩),_,_, ?_,G,by unfold VR;exact⟨w.heap.size,_,by rw[←H.len];simp,rfl,aOu w _ _⟩⟩
   simp[Instr.alloc,aGB hd,newVar,newRow]
  cases hr
 cases hr
theorem aTc (H:HR A M h w){e:TypeId}{x r:V}{v:Value}(hx:VR (Xs A M h) M w x v)(hr:aQd e x h=some (r,h')):
  ∃u w' M',(Instr.box e v).run P w= .ok u w'∧Grow A M h w M' h' w'∧VR (Xs A M' h') M' w' r u:=by
 unfold aQd at hr
 split at hr
 ·rename_i hf
  simp only[a1d,a1e]at hr
  obtain⟨rfl,rfl⟩:=hr
  obtain⟨c1,_⟩:=hx.cells' hf
  have hl:x.cells.length=v.cells.size:=by simpa using c1.len
  have G:=Grow.alloc H e x.cells v.cells (by omega) (by rw[a1q (by simp;omega)];exact c1) (fun c hc=>a1j.1 hf c hc)
  refine⟨.pointer (some ⟨w.heap.size,0,none⟩),_,_, ?_,G,by unfold VR;exact⟨w.heap.size,_,by rw[←H.len];simp,rfl,aOu w _ _⟩⟩
  simp[Instr.box,newVar,newRow]
 cases hr
theorem nil_eq {t e:TypeId}{sz by_:Nat}{z:Value}(ht:aK P t=some ⟨.slice e,sz,by_,z⟩)(ad:Addr)(n c:Nat):aS P (Op.equal t (.slice (some ad) n c) (.slice none 0 0))=some false:=by
 have h1:=(cI ht).1
 have e1:underlying t=Sem.program fun p=>match p.underlying t with|some d=>pure d|none=>stuck "no such type" :=rfl
 unfold Op.equal Op.maxDepth
 show aS P (Op.equalIn (9999+1) t _ _)=_
 rw[Op.equalIn,e1]
 show aS P (Sem.bind (Sem.program _) _)=_
 simp only[Sem.bind,aS,h1]
 rfl
theorem aAF (s:Sem Bool)(f:Bool→Value){a:Bool}(h:aS P s=some a):aS P (do pure (f (←s)))=some (f a):=by
 show aS P (Sem.bind s _)=_
 induction s with
 |pure x=>simp only[aS,a1d]at h;subst h;rfl
 |program k ih=>exact ih P h
 |mark m k ih=>exact ih h
 |_=>simp[aS]at h
theorem aQJ {X:Nat→Prop}{op:BinOp}{t:TypeId}{xo yo:Operand}{x y z:V}{v u:Value}(hx:VR X M w x v)(hy:VR X M w y u)(hz:aNv P op t x y=some z):Vm.pureV P (do eqGuard op t xo yo v u;binOp op t v u)=some z:=by
 have key: ∀(ad:Addr)(n c:Nat){e:TypeId}{sz by_:Nat}{d:Value},aK P t=some ⟨.slice e,sz,by_,d⟩→aKS op=some z→Vm.pureV P (do eqGuard op t xo yo (.slice (some ad) n c) (.slice none 0 0);binOp op t (.slice (some ad) n c) (.slice none 0 0))=some z:=by
  intro ad n c e sz by_ d ht hz
  have hg:eqGuard op t xo yo (.slice (some ad) n c) (.slice none 0 0)=pure ():=by cases op<;>rfl
  rw[hg]
  unfold aKS at hz
  split at hz
  ·injection hz with hz;subst hz
   show Option.map ofValue (aS P (do pure (Value.bool (←Op.equal t _ _))))=_
   rw[aAF _ _ (nil_eq ht ad n c)];rfl
  ·injection hz with hz;subst hz
   show Option.map ofValue (aS P (do pure (Value.bool (!(←Op.equal t _ _)))))=_
   have:=aAF (P:=P) _ (fun b=>Value.bool (!b)) (nil_eq ht ad n c)
   rw[this];rfl
  cases hz
 unfold aNv at hz
 generalize ht:aK P t=T at hz
 split at hz
 ·have hu:=aBW hy rfl
  subst hu
  unfold VR at hx
  obtain⟨a,cap,rfl,_,_,_,_,hr⟩:=hx
  obtain⟨ad,rfl,_⟩:=hr (by simp)
  exact key _ _ _ ht hz
 ·have hu:=aBW hy rfl
  subst hu
  unfold VR at hx
  rcases hx with⟨_,_,h0,_⟩|⟨g,cap,e',sz',h1,rfl,_⟩
  ·cases h0
  exact key _ _ _ ht hz
 cases hz
theorem aSj (hO:zK P O)(H:HR A M h w)(S:SR (Xs A M h) M w s a){o:Oper}{c:Call}(ho:o.op= .call c){r:V}(hr:r7 P O c o.type s h=some (r,h')):Does P o a w A M h r h':=by
 unfold r7 at hr
 split at hr
 ·cases hr
 rename_i xs hxs
 have hargs:=aOy H.glob S hxs
 have hmap:c.args.map a.eval=(c.args.toList.map a.eval).toArray:=by rw[←a2g]
 obtain⟨callee,args,argTypes⟩:=c
 simp only at *
 split at hr
 ·
  rename_i t x hat
  simp only[a1a,a1e]at hr
  obtain⟨y,hy,rfl,rfl⟩:=hr
  unfold VCells at hargs
  obtain⟨v,rest,hv,hx,hrest⟩:=hargs
  unfold VCells at hrest
  subst hrest
  have hat':argTypes= #[t]:=by simpa using congrArg a1X hat
  refine Does.same H (sem:=Builtin.len_ #[t] o.type #[v]) ?_ (aSq hx hy)
  simp only[execOp,ho,resolve,invoke,builtin,hat',hmap,hv]
  rfl
 ·
  rename_i t t' x y hat
  unfold VCells at hargs
  obtain⟨v,rest,hv,hx,hrest⟩:=hargs
  unfold VCells at hrest
  obtain⟨u,rest',hu,hy,hrest'⟩:=hrest
  unfold VCells at hrest'
  subst hrest'
  rw[hu]at hv
  have hat':argTypes= #[t,t']:=by simpa using congrArg a1X hat
  refine Does.value (sem:=Builtin.append_ #[t,t'] o.type #[v,u]) ?_ (aPe H hx hy hr)
  simp only[execOp,ho,resolve,invoke,builtin,hat',hmap,hv]
  rfl
 ·
  rename_i t t' x y hat
  unfold VCells at hargs
  obtain⟨v,rest,hv,hx,hrest⟩:=hargs
  unfold VCells at hrest
  obtain⟨u,rest',hu,hy,hrest'⟩:=hrest
  unfold VCells at hrest'
  subst hrest'
  rw[hu]at hv
  have hat':argTypes= #[t,t']:=by simpa using congrArg a1X hat
  obtain⟨v',w',h1,h2,h3⟩:=aRe (P:=P) (t':=t') (ty:=o.type) H hx hy hr
  refine Does.value (sem:=Builtin.copy_ #[t,t'] o.type #[v,u]) ?_ ⟨v',w',M,h1,h2,h3⟩
  simp only[execOp,ho,resolve,invoke,builtin,hat',hmap,hv]
  rfl
 ·
  rename_i t t' x y hat
  unfold VCells at hargs
  obtain⟨v,rest,hv,hx,hrest⟩:=hargs
  unfold VCells at hrest
  obtain⟨u,rest',hu,hy,hrest'⟩:=hrest
  unfold VCells at hrest'
  subst hrest'
  rw[hu]at hv
  have hat':argTypes= #[t,t']:=by simpa using congrArg a1X hat
  simp only[a1a,a1e]at hr
  obtain⟨h1,hd,rfl,rfl⟩:=hr
  obtain⟨w',e1,G⟩:=aSk (t':=t') (ty:=o.type) H hx hy hd
  refine Does.value (sem:=Builtin.delete_ #[t,t'] o.type #[v,u]) ?_ ⟨_,w',M,e1,G,by unfold VR;exact⟨[],rfl,by unfold VCells;rfl⟩⟩
  simp only[execOp,ho,resolve,invoke,builtin,hat',hmap,hv]
  rfl
 ·simp only[a1a,a1e]at hr
  obtain⟨y,hy,rfl,rfl⟩:=hr
  unfold aHE at hy
  split at hy
  ·rename_i vs hvs
   have:=aDH hargs hvs
   refine Does.pureV H ?_ hy
   simp only[execOp,ho,resolve,invoke,builtin,hmap,this]
   rfl
  cases hy
 ·simp only[a1a,a1e]at hr
  obtain⟨y,hy,rfl,rfl⟩:=hr
  unfold aHE at hy
  split at hy
  ·rename_i vs hvs
   have:=aDH hargs hvs
   refine Does.pureV H ?_ hy
   simp only[execOp,ho,resolve,invoke,builtin,hmap,this]
   rfl
  cases hy
 ·
  rename_i f
  have hf:=hO f h _ r h' hr A M w _ H hargs
  intro K Q hK
  have hex:execOp a.eval o=callFunc f (args.toList.map a.eval).toArray:=by
   simp only[execOp,ho,resolve,Deferred.ofValue,Act.eval,invoke,hmap]
   simp
  unfold Oper.wp
  rw[hex]
  rcases hf with⟨he,hc⟩|⟨v,w',hv,M',hG,hr'⟩
  ·rw[he]
   refine hc.mono ?_
   rintro e w' ⟨v,rfl,M',hG,hr'⟩
   exact hK v w' M' hG hr'
  rw[hv]
  exact hK v w' M' hG hr'
 ·
  rename_i tt
  simp only[a1b]at hr
  obtain⟨f,hfn,hr⟩:=hr
  have hv:a.eval (.tmp tt)= .func (.func f) #[] #[]:=by
   unfold aQV at hfn
   split at hfn
   ·rename_i g first captured hs
    split at hfn
    ·rename_i he
     simp only[a1v,Array.isEmpty_iff]at he
     obtain⟨rfl,rfl⟩:=he
     injection hfn with hfn
     subst hfn
     have:=S.val tt _ hs
     unfold VR at this
     exact this
    cases hfn
   cases hfn
  have hf:=hO f h _ r h' hr A M w _ H hargs
  intro K Q hK
  have hex:execOp a.eval o=callFunc f (args.toList.map a.eval).toArray:=by
   simp only[execOp,ho,resolve,hv,Deferred.ofValue,invoke,hmap]
   simp
  unfold Oper.wp
  rw[hex]
  rcases hf with⟨he,hc⟩|⟨v,w',hv,M',hG,hr'⟩
  ·rw[he]
   refine hc.mono ?_
   rintro e w' ⟨v,rfl,M',hG,hr'⟩
   exact hK v w' M' hG hr'
  rw[hv]
  exact hK v w' M' hG hr'
 cases hr
theorem aIg {X:Nat→Prop}: ∀{cs:List V}{vs:List Value}{ns:List Int},VCells X M w cs vs→uC cs=some ns→vs=ns.map (Value.int .u8)
 | [],vs,ns,h,hc=>by unfold VCells at h;simp only[uC,a1d]at hc;subst h hc;rfl
 |c::cs,vs,ns,h,hc=>by
  unfold VCells at h
  obtain⟨v,rest,rfl,h1,h2⟩:=h
  unfold uC at hc
  split at hc
  ·rename_i heq;cases heq
  ·rename_i n cs' heq
   injection heq with e1 e2
   subst e1 e2
   simp only[a1a]at hc
   obtain⟨ms,hm,rfl⟩:=hc
   unfold VR at h1
   subst h1
   rw[aIg h2 hm];rfl
  cases hc
theorem aNR (H:HR A M h w){a b:TypeId}{x y:V}{v:Value}(hx:VR (Xs A M h) M w x v)(hy:rN P h a b x=some y): ∃u,(convert a b v).run P w= .ok u w∧VR (Xs A M h) M w y u:=by
 unfold rN at hy
 split at hy
 ·rename_i e _ _ _ _ _ _ ha hb
  split at hy
  ·rename_i he
   split at hy
   ·rename_i cells m hs
    simp only[a1a]at hy
    obtain⟨ns,hn,rfl⟩:=hy
    have S:=aIw H hx hs
    have hua:=(cI ha).1
    have hub:=(cI hb).1
    have hue:=(cI he).1
    rcases S.is with⟨c,rfl,rfl⟩|⟨ad,c,vs,rfl,hc,hl⟩
    ·have hc0:cells=[]:=a1s (by have:=S.len;omega)
     subst hc0
     simp only[uC,a1d]at hn
     subst hn
     refine⟨.string .empty, ?_,by unfold VR;rfl⟩
     rw[run_convert_bytes_string w a b e none 0 c hua hue hub]
     simp[Conv.bytesToString,Sem.run_pure]
    have hvs:=aIg hc hn
    have hlen:vs.length=m:=by have h1:=hc.len;have h2:=S.len;omega
    refine⟨.string (gM ns), ?_,by unfold VR;rfl⟩
    rw[run_convert_bytes_string w a b e (some ad) m c hua hue hub]
    have hld:=aJt (P:=P) (w:=w) ad vs hl
    rw[hlen,hvs]at hld
    exact run_bytesToString w ad m c ns hld
   cases hy
  cases hy
 cases hy
theorem aUx (hO:zK P O)(H:HR A M h w)(S:SR (Xs A M h) M w s a){o:Oper}{r:V}(hr:bM P O o s h=some (r,h')):Does P o a w A M h r h':=by
 unfold bM at hr
 split at hr
 case h_1 x hop|h_2 x hop=>
  simp only[a1a,a1e]at hr
  obtain⟨y,hy,rfl,rfl⟩:=hr
  exact Does.same H (sem:=pure (a.eval x)) (by simp[execOp,hop]) ⟨_,rfl,b4 H.glob S hy⟩
 case h_3 c x y hop=>
  split at hr
  ·rename_i hc
   simp only[a1a,a1e]at hr
   obtain⟨z,hz,rfl,rfl⟩:=hr
   have hcv:=b4 H.glob S hc
   unfold VR at hcv
   exact Does.same H (sem:=pure (a.eval x)) (by simp[execOp,hop,hcv,asBool]) ⟨_,rfl,b4 H.glob S hz⟩
  ·rename_i hc
   simp only[a1a,a1e]at hr
   obtain⟨z,hz,rfl,rfl⟩:=hr
   have hcv:=b4 H.glob S hc
   unfold VR at hcv
   exact Does.same H (sem:=pure (a.eval y)) (by simp[execOp,hop,hcv,asBool]) ⟨_,rfl,b4 H.glob S hz⟩
  cases hr
 case h_4 e hop=>exact Does.value (by simp[execOp,hop]) (aRt H hr)
 case h_5 e x hop=>
  simp only[a1b]at hr
  obtain⟨y,hy,hr⟩:=hr
  exact Does.value (by simp[execOp,hop]) (aTc H (b4 H.glob S hy) hr)
 case h_6 t parts hop=>
  simp only[a1b,a1a,a1e]at hr
  obtain⟨ps,hps,y,hy,rfl,rfl⟩:=hr
  have hp:=aJZ H.glob S hps
  refine Does.same H (sem:=Instr.build t (parts.map fun(i,x)=>(i,a.eval x))) (by simp[execOp,hop]) (aPL ?_ hy)
  simpa using hp
 case h_7 t len parts hop=>
  simp only[a1b]at hr
  obtain⟨ps,hps,hr⟩:=hr
  have hp:=aKA H.glob S hps
  refine Does.value (sem:=Instr.buildSlice t len (parts.map fun(i,x)=>(i,a.eval x))) (by simp[execOp,hop]) (aLm H ?_ hr)
  simpa using hp
 case h_8 t x hop=>
  simp only[a1b,a1a,a1e]at hr
  obtain⟨y,hy,z,hz,rfl,rfl⟩:=hr
  exact Does.same H (by simp[execOp,hop]) (aHC H (b4 H.glob S hy) hz)
 case h_9 t x y hop=>
  simp only[a1b,a1a,a1e]at hr
  obtain⟨xa,hxa,ya,hya,z,hz,rfl,rfl⟩:=hr
  obtain⟨w',hw,G⟩:=aQU (P:=P) H (b4 H.glob S hxa) (b4 H.glob S hya) hz
  intro K Q hK
  unfold Oper.wp
  have hex:execOp a.eval o=(do Instr.storeAt t (a.eval x) (a.eval y);pure .skip):=by simp[execOp,hop]
  rw[hex,Sem.run_bind,hw,Result.andThen_ok]
  exact hK undef w' M G (by unfold VR;rfl)
 case h_10 x hop=>
  simp only[a1b,a1a,a1e]at hr
  obtain⟨y,hy,z,hz,rfl,rfl⟩:=hr
  have hv:=b4 H.glob S hy
  unfold rF at hz
  split at hz
  ·injection hz with hz;subst hz
   have hv':=hv
   unfold VR at hv'
   obtain⟨g,sh,hg,hp,_⟩:=hv'
   exact Does.same H (sem:=pure (a.eval x)) (by simp[execOp,hop,hp]) ⟨_,rfl,hv⟩
  ·injection hz with hz;subst hz
   have hv':=hv
   unfold VR at hv'
   obtain⟨ad,k,hp,_⟩:=hv'
   exact Does.same H (sem:=pure (a.eval x)) (by simp[execOp,hop,hp]) ⟨_,rfl,hv⟩
  cases hz
 case h_11 op t x y yt hop=>
  simp only[a1b,a1a,a1e]at hr
  obtain⟨xa,hxa,ya,hya,z,hz,rfl,rfl⟩:=hr
  unfold c5 at hz
  split at hz
  ·rename_i u v hu hv
   have e1:=pJ (b4 H.glob S hxa) hu
   have e2:=pJ (b4 H.glob S hya) hv
   exact Does.pureV H (by simp[execOp,hop,e1,e2]) hz
  exact Does.pureV H (by simp[execOp,hop]) (aQJ (xo:=x) (yo:=y) (b4 H.glob S hxa) (b4 H.glob S hya) hz)
 case h_12 op t x hop=>
  simp only[a1b,a1a,a1e]at hr
  obtain⟨xa,hxa,z,hz,rfl,rfl⟩:=hr
  unfold unV at hz
  split at hz
  ·rename_i u hu
   have e1:=pJ (b4 H.glob S hxa) hu
   exact Does.pureV H (by simp[execOp,hop,e1]) hz
  cases hz
 case h_13 t u x hop=>
  simp only[a1b,a1a,a1e]at hr
  obtain⟨xa,hxa,z,hz,rfl,rfl⟩:=hr
  unfold aBN at hz
  split at hz
  ·rename_i y hy
   injection hz with hz
   subst hz
   exact Does.same H (sem:=convert t u (a.eval x)) (by simp[execOp,hop]) (aNR H (b4 H.glob S hxa) hy)
  split at hz
  ·rename_i u hu
   have e1:=pJ (b4 H.glob S hxa) hu
   exact Does.pureV H (by simp[execOp,hop,e1]) hz
  cases hz
 case h_14 t l c hop=>
  simp only[a1b]at hr
  obtain⟨la,hla,ca,hca,hr⟩:=hr
  exact Does.value (by simp[execOp,hop]) (aRo H (b4 H.glob S hla) (b4 H.glob S hca) hr)
 case h_15 t x lo hi hop=>
  simp only[a1b,a1a,a1e]at hr
  obtain⟨xa,hxa,la,hla,ha,hha,z,hz,rfl,rfl⟩:=hr
  exact Does.same H (by simp[execOp,hop]) (aQ8 H (b4 H.glob S hxa) (aIE H.glob S hla) (aIE H.glob S hha) hz)
 case h_16 t x f hop=>
  simp only[a1b,a1a,a1e]at hr
  obtain⟨y,hy,z,hz,rfl,rfl⟩:=hr
  exact Does.same H (by simp[execOp,hop]) (aPc (b4 H.glob S hy) hz)
 case h_17 t x f hop=>
  simp only[a1b,a1a,a1e]at hr
  obtain⟨y,hy,z,hz,rfl,rfl⟩:=hr
  exact Does.same H (by simp[execOp,hop]) (aRw (b4 H.glob S hy) hz)
 case h_18 t x i hop=>
  simp only[a1b,a1a,a1e]at hr
  obtain⟨y,hy,j,hj,z,hz,rfl,rfl⟩:=hr
  exact Does.same H (by simp[execOp,hop]) (aPb (b4 H.glob S hy) (b4 H.glob S hj) hz)
 case h_19 t x i hop=>
  simp only[a1b,a1a,a1e]at hr
  obtain⟨y,hy,j,hj,z,hz,rfl,rfl⟩:=hr
  exact Does.same H (by simp[execOp,hop]) (aRr (b4 H.glob S hy) (b4 H.glob S hj) hz)
 case h_20 x i hop=>
  simp only[a1b,a1a,a1e]at hr
  obtain⟨y,hy,z,hz,rfl,rfl⟩:=hr
  have hv:=b4 H.glob S hy
  unfold aIu at hz
  split at hz
  ·unfold VR at hv
   obtain⟨vs,hvs,hc⟩:=hv
   obtain⟨u,hu,hru⟩:=hc.get hz
   exact Does.same H (sem:=Instr.extract (a.eval x) i) (by simp[execOp,hop]) ⟨u,by simp[Instr.extract,hvs,hu],hru⟩
  cases hz
 case h_21 c hop=>exact aSj hO H S hop hr
 case h_22 t x hop=>
  simp only[a1b,a1a,a1e]at hr
  obtain⟨y,hy,z,hz,rfl,rfl⟩:=hr
  exact Does.same H (by simp[execOp,hop]) (aSD (b4 H.glob S hy) hz)
 case h_23 t hop=>exact Does.value (by simp[execOp,hop]) (aNG H hr)
 case h_24 t x k ok hop=>
  simp only[a1b,a1a,a1e]at hr
  obtain⟨xa,hxa,ya,hya,z,hz,rfl,rfl⟩:=hr
  exact Does.same H (by simp[execOp,hop]) (aO7 H (b4 H.glob S hxa) (b4 H.glob S hya) hz)
 case h_25 t x k y hop=>
  simp only[a1b,a1a,a1e]at hr
  obtain⟨xa,hxa,ka,hka,ya,hya,z,hz,rfl,rfl⟩:=hr
  obtain⟨w',hw,G⟩:=aS9 (P:=P) H (b4 H.glob S hxa) (b4 H.glob S hka) (b4 H.glob S hya) hz
  intro K Q hK
  unfold Oper.wp
  have hex:execOp a.eval o=(do Instr.mapUpdate t (a.eval x) (a.eval k) (a.eval y);pure .skip):=by simp[execOp,hop]
  rw[hex,Sem.run_bind,hw,Result.andThen_ok]
  exact hK undef w' M G (by unfold VR;rfl)
 case h_26 t x lo hi mx hop=>
  simp only[a1b,a1a,a1e]at hr
  obtain⟨xa,hxa,la,hla,ha,hha,ma,hma,z,hz,rfl,rfl⟩:=hr
  exact Does.same H (by simp[execOp,hop]) (aO6 (b4 H.glob S hxa) (aIE H.glob S hla) (b4 H.glob S hha) (b4 H.glob S hma) hz)
 case h_27=>cases hr
def yV :V→Option (Option Bool)
 | .sc (.bool b)=>some (some b)
 | .any=>none
 |_=>some none
def iX (ops:Array Oper)(o:Oper)(s:List V):Option Bool:=
 match o.guard with
 |none=>some true
 |some (j,want)=>
  match(ops[j]?).bind (·.dst) with
  |none=>some false
  |some t=>match s[t]? with
   |none=>some false
   |some x=>match yV x with
    |some y=>some (y == some want)
    |none=>none
theorem aUY {X:Nat→Prop}{x:V}{v:Value}{y:Option Bool}(hx:VR X M w x v)(hy:yV x=some y):(match some v with|some (.bool b)=>some b|_=>none)=y:=by
 cases x<;>simp only[yV]at hy
 case sc c=>
  unfold VR at hx;subst hx
  cases v<;>simp_all[yV]
 case any=>cases hy
 all_goals
  injection hy with hy
  subst hy
  unfold VR at hx
 case row nil k es=>obtain⟨a,cap,rfl,_⟩:=hx;rfl
 case agg cs=>obtain⟨vs,rfl,_⟩:=hx;rfl
 case tup cs=>obtain⟨vs,rfl,_⟩:=hx;rfl
 case ptr b off=>obtain⟨g,sh,_,rfl,_⟩:=hx;rfl
 case mp b=>obtain⟨g,_,rfl,_⟩:=hx;rfl
 case sl b off n k ag=>rcases hx with⟨_,rfl,_⟩|⟨g,cap,e,sz,_,rfl,_⟩<;>rfl
 case eptr es i off=>obtain⟨ad,k,rfl,_⟩:=hx;rfl
theorem aGc {X:Nat→Prop}(S:SR X M w s a){ops:Array Oper}{o:Oper}{b:Bool}(hb:iX ops o s=some b):Region.wanted o (yielded ops a.tmps)=b:=by
 unfold iX at hb
 unfold Region.wanted
 split at hb
 ·rename_i hg;rw[hg];injection hb
 rename_i j want hg
 rw[hg]
 simp only
 unfold yielded
 split at hb
 ·rename_i hd;rw[hd];injection hb with hb
 rename_i t hd
 rw[hd]
 simp only[a1f]
 split at hb
 ·rename_i ht
  have:a.tmps[t]? =none:=by
   rw[a1M]
   have:=List.getElem?_eq_none_iff.1 ht
   rw[←S.len];exact this
  rw[this]
  injection hb with hb
 rename_i x hx
 split at hb
 ·rename_i y hy
  have hv:=S.val t x hx
  have hlt:t<a.tmps.size:=by rw[←S.len];exact(a1c.1 hx).1
  have hget:a.tmps[t]? =some (a.tmps.getD t undef):=by simp[hlt]
  rw[hget]
  have:=aUY hv hy
  injection hb with hb
  rw[←hb,←this]
  rfl
 cases hb
def qS (P:Program)(O:u2)(ops:Array Oper)(o:Oper)(s:List V)(h:Hp):Option (List V×Hp):=
 match iX ops o s with
 |some true=>(bM P O o s h).map fun p=>(fK s o.dst p.1,p.2)
 |some false=>some (fK s o.dst (.sc undef),h)
 |none=>none
def aAt (P:Program)(O:u2)(ops:Array Oper):List Oper→List V→Hp→Option (List V×Hp)
 | [],s,h=>some (s,h)
 |o::rest,s,h=>(qS P O ops o s h).bind fun p=>aAt P O ops rest p.1 p.2
structure Rel (A:Nat→Prop)(M:List (Option Nat))(s:List V)(h:Hp)(a:Act)(w:World):Prop where
 hr:HR A M h w
 sr:SR (Xs A M h) M w s a
 defers:a.defers=[]
theorem nX (a:Act)(d:Option Tmp)(v:Value):(a.put d v).defers=a.defers:=by cases d<;>rfl
theorem uN (hO:zK P O)(R:Rel A M s h a w){ops:Array Oper}{i:Nat}{o:Oper}(hi:ops[i]? =some o){s':List V}(hr:qS P O ops o s h=some (s',h')){K:Act→World→Prop}{Q:Exit→Act→World→Prop}
  (hK: ∀a' w' M',Grow A M h w M' h' w'→Rel A M' s' h' a' w'→K a' w'):wpOp P ops Q i K a w:=by
 unfold wpOp
 rw[hi]
 simp only
 unfold qS at hr
 split at hr
 ·rename_i hw
  rw[aGc R.sr hw,if_pos rfl]
  simp only[a1a,a1e]at hr
  obtain⟨⟨r,h1⟩,hop,rfl,rfl⟩:=hr
  refine .inl (aUx hO R.hr R.sr hop K Q fun v w' M' G hv=>hK _ _ M' G ⟨G.hr,(SR.keep G R.sr).put o.dst hv,by rw[nX];exact R.defers⟩)
 ·rename_i hw
  rw[aGc R.sr hw,if_neg (by simp)]
  simp only[a1d,a1e]at hr
  obtain⟨rfl,rfl⟩:=hr
  exact hK _ _ M (Grow.refl R.hr) ⟨R.hr,R.sr.put o.dst (by unfold VR;rfl),by rw[nX];exact R.defers⟩
 cases hr
end
def vK (F:FuncId→Bool)(o:Oper):Bool:=
 match o.op with
 | .move _ | .assign _ | .pick _ _ _ | .build _ _ | .load _ _ | .nilCheck _ | .binOp _ _ _ _ _ | .unOp _ _ _ | .convert _ _ _ | .slice _ _ _ _ _
 | .fieldAddr _ _ _ | .field _ _ _ | .indexAddr _ _ _ | .index _ _ _ | .extract _ _ | .sliceToArrayPointer _ _ | .lookup _ _ _ _=>true
 | .call c=>match c.callee with
  | .builtin .len | .builtin .min | .builtin .max=>true
  | .value (.func f)=>F f
  |_=>false
 |_=>false
def xH (O:u2)(F:FuncId→Bool):Prop:= ∀f h args r h',F f=true→O f h args=some (r,h')→h'=h
section
variable {P:Program}{O:u2}{F:FuncId→Bool}{s:List V}{h h':Hp}
theorem aS4 (hF:xH O F){o:Oper}(hs:vK F o=true){r:V}(hr:bM P O o s h=some (r,h')):h'=h:=by
 obtain⟨dst,op,type,pos,after,guard⟩:=o
 cases op<;>simp only[vK,a1x]at hs<;>simp only[bM]at hr
 case pick c x y=>
  split at hr
  ·simp only[a1a,a1e]at hr
   obtain⟨_,_,_,rfl⟩:=hr;rfl
  ·simp only[a1a,a1e]at hr
   obtain⟨_,_,_,rfl⟩:=hr;rfl
  cases hr
 case slice t x lo hi mx=>
  cases mx with
  |some m=>
   cases hi with
   |none=>cases hr
   |some u=>
    simp only[a1b,a1a,a1e]at hr
    obtain⟨_,_,_,_,_,_,_,_,_,_,_,rfl⟩:=hr;rfl
  |none=>
   simp only[a1b,a1a,a1e]at hr
   obtain⟨_,_,_,_,_,_,_,_,_,rfl⟩:=hr;rfl
 case call c=>
  obtain⟨callee,args,argTypes⟩:=c
  simp only[r7]at hr
  simp only at hs
  split at hr
  ·cases hr
  split at hr
  all_goals first
   |(simp only[a1a,a1e]at hr;obtain⟨_,_,_,rfl⟩:=hr;rfl)
   |(simp at hs;done)
   |exact hF _ _ _ _ _ hs hr
   |cases hr
 all_goals
  simp only[a1b,a1a,a1e]at hr
  first
   |(obtain⟨_,_,_,rfl⟩:=hr;rfl)
   |(obtain⟨_,_,_,_,_,rfl⟩:=hr;rfl)
   |(obtain⟨_,_,_,_,_,_,_,rfl⟩:=hr;rfl)
theorem aFx {α β:Type}{f g:α→Option β}: ∀{l:List α},(∀x∈l,f x=g x)→l.mapM f=l.mapM g
 | [],_=>rfl
 |x::l,h=>by simp only[a1B];rw[h x (by simp),aFx (fun y hy=>h y (by simp[hy]))]
theorem aRk {s':List V}(o:Oper)(hx: ∀x∈o.op.operands,ev s x=ev s' x):bM P O o s h=bM P O o s' h:=by
 obtain⟨dst,op,type,pos,after,guard⟩:=o
 simp only at hx
 cases op<;>simp only[bM]<;>simp only[Op.operands]at hx
 case move x=>rw[hx x (by simp)]
 case assign x=>rw[hx x (by simp)]
 case pick c x y=>rw[hx c (by simp),hx x (by simp),hx y (by simp)]
 case box e x=>rw[hx x (by simp)]
 case build t parts=>
  have:aAo s parts.toList=aAo s' parts.toList:=aFx (fun p hp=>by
   rw[hx p.2 (by simp only[a2h,List.mem_map];exact⟨p,by simpa using hp,rfl⟩)])
  rw[this]
 case buildSlice t len parts=>
  have:aBG s parts.toList=aBG s' parts.toList:=aFx (fun p hp=>by
   rw[aT0 (hx p.2 (by simp only[a2h,List.mem_map];exact⟨p,by simpa using hp,rfl⟩))])
  rw[this]
 case load t x=>rw[hx x (by simp)]
 case store t x y=>rw[hx x (by simp),hx y (by simp)]
 case nilCheck x=>rw[hx x (by simp)]
 case binOp op t x y u=>rw[hx x (by simp),hx y (by simp)]
 case unOp op t x=>rw[hx x (by simp)]
 case convert t u x=>rw[hx x (by simp)]
 case makeSlice t x y=>rw[hx x (by simp),hx y (by simp)]
 case slice t x lo hi mx=>
  cases mx with
  |some m=>
   cases hi with
   |none=>rfl
   |some u=>
    simp only
    have h1:sM s lo=sM s' lo:=by cases lo with
     |none=>rfl
     |some l=>simp only[sM];rw[hx l (by simp)]
    rw[hx x (by simp),h1,hx u (by simp),hx m (by simp)]
  |none=>
   simp only
   have h1:sM s lo=sM s' lo:=by cases lo with
    |none=>rfl
    |some l=>simp only[sM];rw[hx l (by simp)]
   have h2:sM s hi=sM s' hi:=by cases hi with
    |none=>rfl
    |some l=>simp only[sM];rw[hx l (by simp)]
   rw[hx x (by simp),h1,h2]
 case fieldAddr t x f=>rw[hx x (by simp)]
 case field t x f=>rw[hx x (by simp)]
 case indexAddr t x i=>rw[hx x (by simp),hx i (by simp)]
 case index t x i=>rw[hx x (by simp),hx i (by simp)]
 case extract x i=>rw[hx x (by simp)]
 case sliceToArrayPointer t x=>rw[hx x (by simp)]
 case makeMap t r=>cases r<;>rfl
 case lookup t x k ok=>rw[hx x (by simp),hx k (by simp)]
 case mapUpdate t x k y=>rw[hx x (by simp),hx k (by simp),hx y (by simp)]
 case call c=>
  unfold r7
  have:evs s c.args.toList=evs s' c.args.toList:=aFx (fun x hx'=>hx x (by
   simp only[Call.operands,Array.mem_append]
   exact .inr (by simpa using hx')))
  rw[this]
  obtain⟨callee,args,argTypes⟩:=c
  cases callee with
  |value f=>cases f with
   |tmp t=>
    have ht:s[t]? =s'[t]? :=hx (.tmp t) (by simp[Call.operands])
    simp only[aQV,ht]
   |_=>rfl
  |builtin b=>
   generalize evs s' _=e
   simp only
   generalize argTypes.toList=l
   cases b<;>rcases l with _|⟨t1,_|⟨t2,_|⟨t3,l⟩⟩⟩<;>rcases e with _|(_|⟨x,_|⟨y,_|⟨z,e⟩⟩⟩)<;>rfl
  |invoke r n=>rfl
theorem aTy {d:Option Tmp}{v:V}{x:Operand}(hd: ∀t,d=some t→x≠ .tmp t):ev (fK s d v) x=ev s x:=by
 cases d with
 |none=>rfl
 |some t=>
  cases x with
  |tmp u=>
   have:u≠t:=fun e=>hd t rfl (by rw[e])
   simp only[ev,fK]
   rw[a1H (Ne.symm this)]
  |_=>rfl
theorem aTo {ops:Array Oper}(o:Oper)(d:Option Tmp)(v:V)(hd: ∀t,d=some t→t∉o.looksAt ops):bM P O o (fK s d v) h=bM P O o s h:=
 aRk o fun x hx=>aTy fun t ht e=>hd t ht (by
  subst e
  exact List.mem_append_left _ (List.mem_filterMap.2 ⟨.tmp t,by simpa using hx,rfl⟩))
theorem aRz {ops:Array Oper}(o:Oper)(d:Option Tmp)(v:V)(hd: ∀t,d=some t→t∉o.looksAt ops):iX ops o (fK s d v)=iX ops o s:=by
 unfold iX
 cases hg:o.guard with
 |none=>rfl
 |some p=>
  obtain⟨j,want⟩:=p
  simp only
  cases hj:(ops[j]?).bind (·.dst) with
  |none=>rfl
  |some t=>
   simp only
   have hne: ∀u,d=some u→u≠t:=fun u hu e=>hd u hu (by
    subst e
    refine List.mem_append_right _ ?_
    rw[hg]
    simp[hj])
   have:(fK s d v)[t]? =s[t]? :=by
    cases d with
    |none=>rfl
    |some u=>simp only[fK];rw[a1H (hne u rfl)]
   rw[this]
def bX (P:Program)(O:u2)(ops:Array Oper)(o:Oper)(s:List V)(h:Hp):Option (V×Hp):=
 match iX ops o s with
 |some true=>bM P O o s h
 |some false=>some (.sc undef,h)
 |none=>none
theorem bU (ops:Array Oper)(o:Oper):qS P O ops o s h=(bX P O ops o s h).map fun p=>(fK s o.dst p.1,p.2):=by
 unfold qS bX
 cases iX ops o s with
 |none=>rfl
 |some b=>cases b<;>rfl
theorem dP {ops:Array Oper}(o:Oper)(d:Option Tmp)(v:V)(hd: ∀t,d=some t→t∉o.looksAt ops):bX P O ops o (fK s d v) h=bX P O ops o s h:=by
 unfold bX;rw[aRz o d v hd,aTo o d v hd]
theorem gG (hF:xH O F){ops:Array Oper}{o:Oper}(hs:vK F o=true){r:V}(hr:bX P O ops o s h=some (r,h')):h'=h:=by
 unfold bX at hr
 split at hr
 ·exact aS4 hF hs hr
 ·simp only[a1d,a1e]at hr;exact hr.2.symm
 cases hr
theorem gY (s:List V){d e:Option Tmp}(x y:V)(hde: ∀t,d=some t→e≠some t):fK (fK s d x) e y=fK (fK s e y) d x:=by
 cases d with
 |none=>rfl
 |some t=>
  cases e with
  |none=>rfl
  |some u=>
   have:t≠u:=fun h=>hde t rfl (by rw[h])
   simp only[fK]
   exact List.set_comm _ _ this
def aFB (o:Oper):Bool:=
 match o.op with
 | .alloc _ | .box _ _ | .buildSlice _ _ _ | .makeSlice _ _ _=>true
 |_=>false
def uX (o:Oper):Bool:=vK (fun _=>false) o
theorem aNz {o:Oper}(ha:aFB o=true){r:V}(hr:bM P O o s h=some (r,h')): ∃B,h'=h++[some B]:=by
 obtain⟨dst,op,type,pos,after,guard⟩:=o
 cases op<;>simp only[aFB,a1x]at ha<;>simp only[bM]at hr
 case alloc e=>
  unfold aH7 at hr
  split at hr
  ·split at hr
   ·simp only[a1d,a1e]at hr;exact⟨_,hr.2.symm⟩
   cases hr
  cases hr
 case box e x=>
  simp only[a1b]at hr
  obtain⟨y,_,hr⟩:=hr
  unfold aQd at hr
  split at hr
  ·simp only[a1d,a1e]at hr;exact⟨_,hr.2.symm⟩
  cases hr
 case buildSlice t len parts=>
  simp only[a1b]at hr
  obtain⟨y,_,hr⟩:=hr
  unfold gV at hr
  repeat' split at hr
  all_goals first|(cases hr;done)|(simp only[a1d,a1e]at hr;exact⟨_,hr.2.symm⟩)
 case makeSlice t l c=>
  simp only[a1b]at hr
  obtain⟨y,_,z,_,hr⟩:=hr
  unfold aCm at hr
  split at hr
  ·split at hr
   ·split at hr
    ·simp only[a1d,a1e]at hr;exact⟨_,hr.2.symm⟩
    cases hr
   cases hr
  cases hr
def inScope (n:Nat):V→Prop
 | .ptr b _=>b<n
 | .sl b _ _ _ _=>b<n
 | .mp b=>b<n
 |_=>True
def Scoped (s:List V)(o:Oper)(n:Nat):Prop:= ∀y∈o.op.operands,∀(z:V),ev s y=some z→inScope n z
theorem aLd {b:Nat}{x:Option Blk}(hb:b<h.length):(h++[x])[b]? =h[b]? :=a1k hb
theorem aTn {t:TypeId}{a:V}{x:Option Blk}(hs: ∀b off,a= .ptr b off→b<h.length):eZ P t (h++[x]) a=eZ P t h a:=by
 cases a<;>simp only[eZ]
 case ptr b off=>rw[aLd (hs b off rfl)]
theorem aST {t:TypeId}{a:V}{lo hi:Option V}{x:Option Blk}(hs: ∀b off,a= .ptr b off→b<h.length):iZ P t (h++[x]) a lo hi=iZ P t h a lo hi:=by
 unfold iZ
 cases aK P t with
 |none=>rfl
 |some d=>
  obtain⟨desc,sz,by_,z⟩:=d
  cases desc<;>first|rfl|skip
  case array n e'=>
   simp only
   cases aK P e'<;>cases a<;>cases mV lo<;>cases vU hi n<;>first|rfl|(simp only[aLd (hs _ _ rfl)])
theorem aU0 {k:Nat}{a:V}{x:Option Blk}(hs: ∀b off n k ag,a= .sl b off n k ag→b<h.length):fT (h++[x]) k a=fT h k a:=by
 cases a<;>simp only[fT]
 case sl b off n k ag=>rw[aLd (hs b off n k ag rfl)]
theorem aTk {t u:TypeId}{a:V}{x:Option Blk}(hs: ∀b off n k ag,a= .sl b off n k ag→b<h.length):aBN P (h++[x]) t u a=aBN P h t u a:=by
 have:rN P (h++[x]) t u a=rN P h t u a:=by unfold rN;rw[aU0 hs]
 unfold aBN;rw[this]
theorem aRx {t:TypeId}{a k:V}{ok:Bool}{x:Option Blk}(hs: ∀b,a= .mp b→b<h.length):vM P t (h++[x]) a k ok=vM P t h a k ok:=by
 have:zA P t (h++[x]) a=zA P t h a:=by
  unfold zA
  cases r9 P t with
  |none=>rfl
  |some m=>cases a<;>first|rfl|(simp only[aLd (hs _ rfl)])
 unfold vM;rw[this]
theorem aSY {o:Oper}(hs:uX o=true){x:Option Blk}(hsc:Scoped s o h.length):bM P O o s (h++[x])=(bM P O o s h).map fun p=>(p.1,h++[x]):=by
 obtain⟨dst,op,type,pos,after,guard⟩:=o
 unfold Scoped at hsc
 cases op<;>simp only[uX,vK,a1x]at hs<;>simp only[bM]<;>simp only[Op.operands]at hsc
 case load t a=>
  cases ha:ev s a with
  |none=>rfl
  |some y=>
   simp only[a1f]
   rw[aTn (fun b off hy=>by have:=hsc a (by simp) y ha;rw[hy]at this;exact this)]
   cases eZ P t h y<;>rfl
 case slice t a lo hi mx=>
  cases mx with
  |some m=>
   cases hi with
   |none=>rfl
   |some u=>
    simp only
    cases ev s a with
    |none=>rfl
    |some y=>
     simp only[a1f]
     cases sM s lo with
     |none=>rfl
     |some l=>
      simp only[a1f]
      cases ev s u with
      |none=>rfl
      |some u'=>
       simp only[a1f]
       cases ev s m with
       |none=>rfl
       |some m'=>
        simp only[a1f]
        cases y5 P t y l u' m'<;>rfl
  |none=>
   simp only
   cases ha:ev s a with
   |none=>rfl
   |some y=>
    simp only[a1f]
    cases sM s lo with
    |none=>rfl
    |some l=>
     simp only[a1f]
     cases sM s hi with
     |none=>rfl
     |some u=>
      simp only[a1f]
      rw[aST (fun b off hy=>by have:=hsc a (by simp) y ha;rw[hy]at this;exact this)]
      cases iZ P t h y l u<;>rfl
 case call c=>
  obtain⟨callee,args,argTypes⟩:=c
  simp only at hs
  simp only[r7]
  cases evs s args.toList with
  |none=>rfl
  |some xs=>
   simp only
   split at hs
   ·split<;>first|(simp only[a2a];rfl)|rfl|simp_all
   ·simp only[a2a];rfl
   ·simp only[a2a];rfl
   ·cases hs
   cases hs
 case lookup t a k ok=>
  cases ha:ev s a with
  |none=>rfl
  |some y=>
   simp only[a1f]
   cases ev s k with
   |none=>rfl
   |some z=>
    simp only[a1f]
    rw[aRx (fun b hy=>by have:=hsc a (by simp) y ha;rw[hy]at this;exact this)]
    cases vM P t h y z ok<;>rfl
 case pick c x y=>
  cases ev s c with
  |none=>rfl
  |some z=>
   split
   ·cases ev s x<;>rfl
   ·cases ev s y<;>rfl
   rfl
 case move x=>cases ev s x<;>rfl
 case assign x=>cases ev s x<;>rfl
 case build t parts=>cases aAo s parts.toList with
  |none=>rfl
  |some ps=>simp only[a1f];cases u6 P t ps<;>rfl
 case nilCheck x=>cases ev s x with
  |none=>rfl
  |some y=>simp only[a1f];cases rF y<;>rfl
 case unOp op t x=>cases ev s x with
  |none=>rfl
  |some y=>simp only[a1f];cases unV P op y<;>rfl
 case convert t u z=>cases hz:ev s z with
  |none=>rfl
  |some y=>
   simp only[a1f]
   rw[aTk (fun b off n k ag hy=>by have:=hsc z (by simp) y hz;rw[hy]at this;exact this)]
   cases aBN P h t u y<;>rfl
 case fieldAddr t x f=>cases ev s x with
  |none=>rfl
  |some y=>simp only[a1f];cases rR P t y f<;>rfl
 case sliceToArrayPointer t x=>cases ev s x with
  |none=>rfl
  |some y=>simp only[a1f];cases aIR P t y<;>rfl
 case field t x f=>cases ev s x with
  |none=>rfl
  |some y=>simp only[a1f];cases aGw P t y f<;>rfl
 case extract x i=>cases ev s x with
  |none=>rfl
  |some y=>simp only[a1f];cases aIu y i<;>rfl
 case binOp op t x y u=>cases ev s x with
  |none=>rfl
  |some a=>cases ev s y with
   |none=>rfl
   |some b=>simp only[a1f];cases c5 P op t x y a b<;>rfl
 case indexAddr t x y=>cases ev s x with
  |none=>rfl
  |some a=>cases ev s y with
   |none=>rfl
   |some b=>simp only[a1f];cases iF P t a b<;>rfl
 case index t x y=>cases ev s x with
  |none=>rfl
  |some a=>cases ev s y with
   |none=>rfl
   |some b=>simp only[a1f];cases aBU P t a b<;>rfl
theorem aHu {ops:Array Oper}{o:Oper}(hs:uX o=true){x:Option Blk}(hsc:Scoped s o h.length):bX P O ops o s (h++[x])=(bX P O ops o s h).map fun p=>(p.1,h++[x]):=by
 unfold bX
 cases iX ops o s with
 |none=>rfl
 |some b=>cases b with
  |true=>exact aSY hs hsc
  |false=>rfl
def aKt (F:FuncId→Bool)(ops:Array Oper)(oj oi:Oper):Bool:=
 oj.apart ops oi&&((vK F oj&&vK F oi) || (aFB oj&&uX oi) || (uX oj&&aFB oi))
def uQ (P:Program)(O:u2)(ops:Array Oper):List Nat→List V→Hp→Option (List V×Hp)
 | [],s,h=>some (s,h)
 |i::rest,s,h=>match ops[i]? with
  |some o=>(qS P O ops o s h).bind fun p=>uQ P O ops rest p.1 p.2
  |none=>none
def ScopedS (s:List V)(n:Nat):Prop:= ∀(t:Nat)(z:V),s[t]? =some z→inScope n z
theorem aM3 (n:Nat)(v:Value):inScope n (ofValue v):=by
 unfold ofValue
 split
 ·trivial
 unfold d8;split<;>trivial
theorem ScopedS.op (hs:ScopedS s h.length)(o:Oper):Scoped s o h.length:=fun y _ z hy=>by
 cases y with
 |tmp t=>exact hs t z hy
 |const v=>simp only[ev,a1d]at hy;subst hy;exact aM3 _ _
 |func f=>simp only[ev,a1d]at hy;subst hy;trivial
 |global g=>simp only[ev,a1a]at hy;obtain⟨e,_,rfl⟩:=hy;trivial
def aIV (ops:Array Oper)(i:Nat):Nat→List Nat→List Nat
 |0,acc=>acc
 |j+1,acc=>aIV ops i j (if acc.any (fun k=>Region.waitsFor .any ops k j)then j::acc else acc)
def aPJ (F:FuncId→Bool)(ops:Array Oper):Bool:=
 (a1T ops.size).all fun i=>match ops[i]? with
  |none=>true
  |some oi=>oi.after.all (fun e=> !Region.binds .any e || decide (e.on<i))&&
   (a1T i).all fun j=>Region.waitsFor .any ops i j || (match ops[j]? with
    |some oj=>aKt F ops oj oi
    |none=>true) || (aIV ops i i [i]).contains j
def aGD (ops:Array Oper)(listed:Array Bool):Prop:=
 ∀j oj,ops[j]? =some oj→listed.getD j false=true→ ∀e∈oj.after,Region.binds .any e=true→listed.getD e.on false=true
theorem aDK {ops:Array Oper}{listed:Array Bool}(hc:aGD ops listed){i:Nat}{oi:Oper}(hoi:ops[i]? =some oi)(hr: ∀e∈oi.after,Region.binds .any e=true→listed.getD e.on false=true):
  ∀(n:Nat)(acc:List Nat),(∀k∈acc,k=i∨listed.getD k false=true)→ ∀k∈aIV ops i n acc,k=i∨listed.getD k false=true
 |0,acc,h,k,hk=>h k hk
 |n+1,acc,h,k,hk=>by
  refine aDK hc hoi hr n _ ?_ k hk
  intro m hm
  split at hm
  ·rename_i hany
   rcases List.mem_cons.1 hm with rfl|hm
   ·obtain⟨k',hk',hw⟩:=List.any_eq_true.1 hany
    obtain⟨oj,hoj,e,he,hb,hon⟩:=Region.waitsFor_spec hw
    rcases h k' hk' with rfl|hl
    ·have:oj=oi:=Option.some.inj (hoj.symm.trans hoi)
     subst this
     exact .inr (hon▸hr e he hb)
    exact .inr (hon▸hc k' oj hoj hl e he hb)
   exact h m hm
  exact h m hm
def gJ (n:Nat)(listed:Array Bool):List Nat:=(a1T n).filter fun i=> !(listed.getD i true)
theorem aLx {ops:Array Oper}{i:Nat}{K:Act→World→Prop}{a:Act}{w:World}(hh:wpOp P ops (fun _ _ _=>False) i K a w): ∃a' w',K a' w':=by
 unfold wpOp at hh
 split at hh
 ·exact⟨_,_,hh⟩
 rename_i o ho
 split at hh
 ·rcases hh with hh|⟨_,_,_,hh⟩
  ·unfold Oper.wp at hh
   generalize (execOp a.eval o).run P w=r at hh
   cases r with
   |ok n w'=>
    cases n<;>simp only[Oper.upon]at hh
    case value v=>exact⟨_,_,hh⟩
    case skip=>exact⟨_,_,hh⟩
    case defer d=>exact⟨_,_,hh⟩
    case enter f args=>
     obtain⟨e,w'',fr,hR,_⟩:=hh []
     cases e with
     |returned v=>exact⟨_,_,hR⟩
     |panicked ch=>exact hR.elim
     |outgrown=>obtain⟨_,_,hR⟩:=hR;exact hR.elim
    case row rw_ args=>
     obtain⟨v,w'',hR,_⟩:=hh default []
     exact⟨_,_,hR⟩
   |halt x w'=>cases x<;>simp only[Oper.upon]at hh
  exact hh.elim
 exact⟨_,_,hh⟩
theorem Rel.scopeOk {A:Nat→Prop}{M:List (Option Nat)}{a:Act}{w:World}(R:Rel A M s h a w):ScopedS s h.length:=fun t z ht=>by
 have hv:=R.sr.val t z ht
 cases z<;>try trivial
 case ptr b off=>
  unfold VR at hv
  obtain⟨g,_,hg,_⟩:=hv
  have:=(a1c.1 hg).1
  rw[R.hr.len]at this;exact this
 case mp b=>
  unfold VR at hv
  obtain⟨g,hg,_⟩:=hv
  have:=(a1c.1 hg).1
  rw[R.hr.len]at this;exact this
 case sl b off n k ag=>
  unfold VR at hv
  rcases hv with⟨hg,_⟩|⟨g,cap,e,sz,hg,_⟩
  ·have:=(a1c.1 hg).1
   rw[R.hr.len]at this;exact this
  have:=(a1c.1 hg).1
  rw[R.hr.len]at this;exact this
end
inductive Ex where
 |normal
 |exit (id:Nat)
 |ret
def Ex.toExit :Ex→Exit
 | .normal=> .normal
 | .exit id=> .exit id
 | .ret=> .ret
structure Env (P:Program) where
 O:u2
 F:FuncId→Bool
 ok:zK P O
 still:xH O F
 mixed:P.follows .mixedOrders=true
def AW (P:Program)(c:Code)(Q:Ex→List V→Hp→Prop)(s:List V)(h:Hp):Prop:=
 ∀(A:Nat→Prop)(M:List (Option Nat))(a:Act)(w:World),Rel A M s h a w→
  c.wp P (fun e a' w'=> ∃x s' h' M',e=Ex.toExit x∧Q x s' h'∧Grow A M h w M' h' w'∧Rel A M' s' h' a' w') a w
section
variable {P:Program}{Q Q':Ex→List V→Hp→Prop}{s s':List V}{h h':Hp}
theorem AW.skip (hq:Q .normal s h):AW P .skip Q s h:=fun A M a w R=>wp_skip ⟨.normal,s,h,M,rfl,hq,Grow.refl R.hr,R⟩
theorem AW.exit {id:Nat}(hq:Q (.exit id) s h):AW P (.exit id) Q s h:=fun A M a w R=>wp_exit ⟨.exit id,s,h,M,rfl,hq,Grow.refl R.hr,R⟩
theorem AW.ret (hq:Q .ret s h):AW P .ret Q s h:=fun A M a w R=>wp_ret ⟨.ret,s,h,M,rfl,hq,Grow.refl R.hr,R⟩
def Ex.then (next:List V→Hp→Prop)(Q:Ex→List V→Hp→Prop):Ex→List V→Hp→Prop
 | .normal,s,h=>next s h
 |x,s,h=>Q x s h
def Ex.inBlock (id:Nat)(Q:Ex→List V→Hp→Prop):Ex→List V→Hp→Prop
 | .exit i,s,h=>if i=id then Q .normal s h else Q (.exit i) s h
 |x,s,h=>Q x s h
theorem aWO {p:Nat→Prop}(hp: ∃n,p n): ∃k,p k∧ ∀j,p j→k≤j:=by
 obtain⟨n,hn⟩:=hp
 induction n using Nat.strongRecOn with
 |_ n ih=>
  by_cases hex: ∃j,j<n∧p j
  ·obtain⟨j,hj,hh⟩:=hex;exact ih j hj hh
  exact⟨n,hn,fun j hj=>Nat.le_of_not_lt fun hlt=>hex ⟨j,hlt,hj⟩⟩
def i7 (P:Program)(s:List V)(h:Hp):ResultVar→Option V
 | .tmp t=>s[t]?
 | .cell a t=>(s[a]?).bind fun x=>(rF x).bind fun x=>eZ P t h x
def aBM (P:Program)(fn:Func)(s:List V)(h:Hp):Option V:=
 match fn.results.toList with
 | []=>some (.tup [])
 | [a]=>i7 P s h a
 | [a,b]=>(i7 P s h a).bind fun x=>(i7 P s h b).bind fun y=>some (.tup [x,y])
 | [a,b,c]=>(i7 P s h a).bind fun x=>(i7 P s h b).bind fun y=>(i7 P s h c).bind fun z=>some (.tup [x,y,z])
 | [a,b,c,d]=>(i7 P s h a).bind fun x=>(i7 P s h b).bind fun y=>(i7 P s h c).bind fun z=>(i7 P s h d).bind fun u=>some (.tup [x,y,z,u])
 |_=>none
def aQ3 (P:Program)(tmps:Array Value):ResultVar→Sem Value
 | .tmp t=>pure (tmps.getD t undef)
 | .cell a t=>do loadVar t (←asAddr (tmps.getD a undef))
theorem jK {A:Nat→Prop}{M:List (Option Nat)}{a:Act}{w:World}(R:Rel A M s h a w){rv:ResultVar}{x:V}(hx:i7 P s h rv=some x):
  ∃v,(aQ3 P a.tmps rv).run P w= .ok v w∧VR (Xs A M h) M w x v:=by
 cases rv with
 |tmp t=>exact⟨_,rfl,R.sr.val t x hx⟩
 |cell b t=>
  simp only[i7,a1b]at hx
  obtain⟨y,hy,z,hz,hl⟩:=hx
  have hv:=R.sr.val b y hy
  obtain⟨u,hu,hru⟩: ∃u,(Instr.loadAt t (a.tmps.getD b undef)).run P w= .ok u w∧VR (Xs A M h) M w x u:=by
   unfold rF at hz
   split at hz
   ·injection hz with hz;subst hz;exact aHC R.hr hv hl
   ·injection hz with hz;subst hz;exact aHC R.hr hv hl
   cases hz
  refine⟨u, ?_,hru⟩
  unfold rF at hz
  have hp: ∃ad,a.tmps.getD b undef= .pointer (some ad):=by
   split at hz
   ·unfold VR at hv;obtain⟨g,_,_,e,_⟩:=hv;exact⟨_,e⟩
   ·unfold VR at hv;obtain⟨ad,k,e,_⟩:=hv;exact⟨_,e⟩
   cases hz
  obtain⟨ad,hp⟩:=hp
  rw[hp]at hu
  simp only[aQ3,hp,asAddr]
  simpa[Instr.loadAt,Instr.sureAddr]using hu
theorem aSx {A:Nat→Prop}{M:List (Option Nat)}{a:Act}{w:World}(R:Rel A M s h a w){fn:Func}{x:V}(hx:aBM P fn s h=some x):
  ∃v,(results fn a.tmps).run P w= .ok v w∧VR (Xs A M h) M w x v:=by
 unfold aBM at hx
 have key: ∀l:List ResultVar,fn.results.toList=l→fn.results=l.toArray:=fun l hl=>by rw[←hl]
 have e:results fn a.tmps=(do let vs←fn.results.mapM (aQ3 P a.tmps);pure (if h:vs.size=1 then vs[0]else .tuple vs)):=by
  unfold results
  congr 1
 rw[e]
 split at hx
 ·rename_i hl
  injection hx with hx;subst hx
  exact⟨.tuple #[],by simp[key _ hl],by unfold VR;exact⟨[],rfl,by unfold VCells;rfl⟩⟩
 ·rename_i r hl
  obtain⟨v,hv,hr⟩:=jK R hx
  refine⟨v, ?_,hr⟩
  simp[key _ hl,hv]
 ·rename_i r q hl
  simp only[a1b,a1d]at hx
  obtain⟨x1,h1,x2,h2,rfl⟩:=hx
  obtain⟨v1,hv1,hr1⟩:=jK R h1
  obtain⟨v2,hv2,hr2⟩:=jK R h2
  refine⟨.tuple #[v1,v2], ?_,by unfold VR;exact⟨[v1,v2],rfl,by unfold VCells;exact⟨_,_,rfl,hr1,by unfold VCells;exact⟨_,_,rfl,hr2,by unfold VCells;rfl⟩⟩⟩⟩
  simp[key _ hl,hv1,hv2]
 ·rename_i r q p hl
  simp only[a1b,a1d]at hx
  obtain⟨x1,h1,x2,h2,x3,h3,rfl⟩:=hx
  obtain⟨v1,hv1,hr1⟩:=jK R h1
  obtain⟨v2,hv2,hr2⟩:=jK R h2
  obtain⟨v3,hv3,hr3⟩:=jK R h3
  refine⟨.tuple #[v1,v2,v3], ?_,by unfold VR;exact⟨[v1,v2,v3],rfl,by unfold VCells;exact⟨_,_,rfl,hr1,by unfold VCells;exact⟨_,_,rfl,hr2,by unfold VCells;exact⟨_,_,rfl,hr3,by unfold VCells;rfl⟩⟩⟩⟩⟩
  simp[key _ hl,hv1,hv2,hv3]
 ·rename_i r q p o hl
  simp only[a1b,a1d]at hx
  obtain⟨x1,h1,x2,h2,x3,h3,x4,h4,rfl⟩:=hx
  obtain⟨v1,hv1,hr1⟩:=jK R h1
  obtain⟨v2,hv2,hr2⟩:=jK R h2
  obtain⟨v3,hv3,hr3⟩:=jK R h3
  obtain⟨v4,hv4,hr4⟩:=jK R h4
  refine⟨.tuple #[v1,v2,v3,v4], ?_,by unfold VR;exact⟨[v1,v2,v3,v4],rfl,by unfold VCells;exact⟨_,_,rfl,hr1,by unfold VCells;exact⟨_,_,rfl,hr2,by unfold VCells;exact⟨_,_,rfl,hr3,by unfold VCells;exact⟨_,_,rfl,hr4,by unfold VCells;rfl⟩⟩⟩⟩⟩⟩
  simp[key _ hl,hv1,hv2,hv3,hv4]
 cases hx
theorem aKx {f:FuncId} {fn:Func} (hf:P.funcs[f]? =some fn) (hb:fn.body.isNone=false) (hn:(fn.name == "runtime.NumGoroutine")=false) (vs:Array Value) (w:World):(callFunc f vs).run P w= .ok (.enter f vs) w:=by
 unfold callFunc
 have hp:(program:Sem Program).run P w= .ok P w:=rfl
 rw[Sem.run_bind,hp,Result.andThen_ok]
 simp only[hf,hn,hb,a1x,if_false]
 rfl
def aJ7 (fn:Func)(args:List V):List V:=args++a1I (fn.ntmps-args.length) (.sc undef)
theorem aTP {A:Nat→Prop}{M:List (Option Nat)}{w:World}{fn:Func}{args:List V}{vs:List Value}(H:HR A M h w)(hargs:VCells (Xs A M h) M w args vs):
  Rel A M (aJ7 fn args) h {tmps:=vs.toArray++a18 (fn.ntmps-vs.toArray.size) undef,defers:=[]} w:=by
 refine⟨H,⟨by simp[aJ7,hargs.len],fun t x hx=> ?_⟩,rfl⟩
 have hl:=hargs.len
 simp only[aJ7]at hx
 rcases a1w t args.length with ht|ht
 ·rw[a1k ht]at hx
  obtain⟨v,hv,hr⟩:=hargs.get hx
  have:(vs.toArray++a18 (fn.ntmps-vs.toArray.size) undef).getD t undef=v:=by
   have ht':t<vs.length:=by omega
   have hv':vs[t]=v:=by rw[a1r ht']at hv;injection hv
   simp[a1F,Array.getElem?_append_left,ht',hv']
  rw[this];exact hr
 rw[a1p ht,List.getElem?_replicate]at hx
 split at hx
 ·injection hx with hx;subst hx
  have:(vs.toArray++a18 (fn.ntmps-vs.toArray.size) undef).getD t undef=undef:=by
   simp only[a1F]
   rw[Array.getElem?_append_right (by simp;omega)]
   simp[Array.getElem?_replicate]
   split<;>rfl
  simp only
  rw[this];unfold VR;rfl
 cases hx
end
def yJ (ag:Bool)(k n:Nat)(cells:List V):List V:=if ag then(a1T n).map fun i=> .agg ((cells.drop (i*k)).take k)else cells
def dZ (h:Hp):Nat→V→Option V
 |_,.sc v=>some (.sc v)
 |_,.row nil k es=>some (.row nil k es)
 |0,_=>none
 |d+1,.sl b off n k ag=>match h[b]? with
  |some (some B)=>
   if off+n*k≤B.cells.length∧0<k∧(ag=true∨k=1) then
    (((B.cells.drop off).take (n*k)).mapM (dZ h d)).map fun cells=> .row none k (yJ ag k n cells)
   else none
  |_=>none
 |_,_=>none
def xA (h:Hp):V→Option V
 | .agg cs=>(cs.mapM (dZ h 4)).map V.agg
 |x=>dZ h 4 x
def aSm (h:Hp):V→Option V
 | .tup vs=>(vs.mapM (xA h)).map V.tup
 |x=>xA h x
theorem aCF {α β:Type}{f:α→Option β}: ∀{l:List α}{m:List β},l.mapM f=some m→l.length=m.length∧ ∀(i:Nat)(x:α)(y:β),l[i]? =some x→m[i]? =some y→f x=some y
 | [],m,h=>by simp at h;subst h;simp
 |x::l,m,h=>by
  simp only[a1B,a1u,a1b,a1K,a1d]at h
  obtain⟨y,hy,m',hm,rfl⟩:=h
  obtain⟨h1,h2⟩:=aCF hm
  refine⟨by simp[h1],fun i a b ha hb=> ?_⟩
  cases i with
  |zero=>simp at ha hb;subst ha hb;exact hy
  |succ i=>exact h2 i a b (by simpa using ha) (by simpa using hb)
section
variable {A:Nat→Prop}{M:List (Option Nat)}{h:Hp}{w:World}
theorem VR.closed_row {X X':Nat→Prop}{nil:Option Bool}{k:Nat}{es:List V}{v:Value}(hX: ∀g,g<w.heap.size→X' g→X g)(hv:VR X M w (.row nil k es) v):VR X' [] w (.row nil k es) v:=by
 have h1:VR X [] w (.row nil k es) v:=by unfold VR at hv ⊢; exact hv
 exact VR.ext (Ext.refl (fun _=>False) w) (a1h _) (fun _ _ h=>h.elim) hX _ _ h1
theorem aHH {X:Nat→Prop}{k:Nat}(hk:0<k): ∀(n:Nat){cells:List V}{vs:List Value}{ad:Addr},cells.length=n*k→VCells X [] w cells vs→LiesAt w ad vs.toArray→
  VRow X [] w k ((a1T n).map fun i=> .agg ((cells.drop (i*k)).take k)) ad
 |0,cells,vs,ad,_,_,_=>by simp only[List.range_zero,List.map_nil];unfold VRow;trivial
 |n+1,cells,vs,ad,hl,hc,hla=>by
  rw[List.range_succ_eq_map,a1J,a2d]
  unfold VRow
  have hlen:=hc.len
  have hsz:(vs.take k).length=k:=by rw[a10,←hlen,hl,a1y];omega
  refine⟨⟨.agg (vs.take k).toArray, ?_,by simpa[Value.cells]using hsz, ?_⟩, ?_⟩
  ·simp only[Nat.zero_mul,List.drop_zero]
   unfold VR
   exact⟨_,rfl,hc.take k⟩
  ·simpa[Value.cells]using hla.take k
  have:=aHH hk n (cells:=cells.drop k) (vs:=vs.drop k) (ad:=ad.add k) (by simp[hl,a1y]) (hc.drop k) (hla.drop k)
  have e:(a1T n).map ((fun i=>V.agg ((cells.drop (i*k)).take k))∘Nat.succ)=(a1T n).map fun i=>V.agg (((cells.drop k).drop (i*k)).take k):=by
   apply List.map_congr_left
   intro i _
   simp only[Function.comp,List.drop_drop]
   rw[show k+i*k=(i+1)*k by rw[a1y,a1N,a1Y]]
  rw[e]
  exact this
theorem aRi {d:Nat}{x y:V}(hy:dZ h d x=some y)(hx:x.one=true):y.one=true:=by
 cases d<;>cases x<;>simp only[dZ]at hy<;>first
  |(injection hy with hy;subst hy;exact hx)
  |cases hy
  |(
   split at hy
   ·split at hy
    ·simp only[a1a]at hy;obtain⟨_,_,rfl⟩:=hy;rfl
    cases hy
   cases hy)
theorem aEH (H:HR A M h w): ∀(d:Nat){x y:V}{v:Value},VR (Xs A M h) M w x v→dZ h d x=some y→VR A [] w y v
 |d,.sc c,y,v,hx,hy=>by
  have:y= .sc c:=by cases d<;>simp only[dZ]at hy<;>injection hy with hy<;>exact hy.symm
  subst this;unfold VR at hx ⊢; exact hx
 |d,.row nil k es,y,v,hx,hy=>by
  have:y= .row nil k es:=by cases d<;>simp only[dZ]at hy<;>injection hy with hy<;>exact hy.symm
  subst this;exact hx.closed_row (fun _ _ ha=> .inl ha)
 |0,.sl b off n k ag,y,v,hx,hy=>by simp only[dZ]at hy;cases hy
 |d,.agg cs,y,v,hx,hy=>by cases d<;>simp only[dZ]at hy<;>cases hy
 |d,.tup cs,y,v,hx,hy=>by cases d<;>simp only[dZ]at hy<;>cases hy
 |d,.ptr b off,y,v,hx,hy=>by cases d<;>simp only[dZ]at hy<;>cases hy
 |d,.eptr es i off,y,v,hx,hy=>by cases d<;>simp only[dZ]at hy<;>cases hy
 |d,.mp b,y,v,hx,hy=>by cases d<;>simp only[dZ]at hy<;>cases hy
 |d,.any,y,v,hx,hy=>by cases d<;>simp only[dZ]at hy<;>cases hy
 |d+1,.sl b off n k ag,y,v,hx,hy=>by
  simp only[dZ]at hy
  split at hy
  ·rename_i B hb
   split at hy
   ·rename_i hc
    obtain⟨hoff,hk,hag⟩:=hc
    simp only[Option.map_eq_some_iff]at hy
    obtain⟨cells,hm,rfl⟩:=hy
    obtain⟨hl,hget⟩:=aCF hm
    have hB1:=(H.blk b B hb).1
    have hlen:cells.length=n*k:=by rw[←hl];simp;omega
    have hone: ∀c∈cells,c.one=true:=by
     intro c hc
     obtain⟨i,hi,rfl⟩:=List.mem_iff_getElem.1 hc
     have hi':i<((B.cells.drop off).take (n*k)).length:=by omega
     have:=hget i _ _ (List.getElem?_eq_getElem hi') (List.getElem?_eq_getElem hi)
     exact aRi this (hB1 _ (List.mem_of_mem_drop (List.mem_of_mem_take (List.getElem_mem hi'))))
    have hok: ∀e∈yJ ag k n cells,e.okElem k=true:=by
     intro e he
     unfold yJ at he
     split at he
     ·simp only[List.mem_map,List.mem_range]at he
      obtain⟨i,hi,rfl⟩:=he
      have hik:i*k+k≤n*k:=by have:=Nat.mul_le_mul_right k hi;rw[Nat.succ_mul]at this;exact this
      simp only[V.okElem,V.flatOk,V.cells,Bool.and_eq_true,beq_iff_eq,List.all_eq_true]
      refine⟨fun c hc=>hone c (List.mem_of_mem_drop (List.mem_of_mem_take hc)), ?_⟩
      rw[List.length_take,List.length_drop,hlen];omega
     rename_i hag'
     have hk1:k=1:=hag.resolve_left hag'
     have h1:=hone e he
     have:e.cells=[e]:=by cases e<;>first|rfl|simp[V.one]at h1
     simp[V.okElem,V.flatOk,this,h1,hk1]
    have hclen:(yJ ag k n cells).length=n:=by
     unfold yJ
     split
     ·simp
     rename_i hag'
     rw[hlen,hag.resolve_left hag',Nat.mul_one]
    unfold VR at hx
    rcases hx with⟨hM,rfl,rfl,rfl⟩|⟨g,cap,e,sz,hg,rfl,h1,h2,h3,h4,h5⟩
    ·have:yJ ag k 0 cells=[]:=List.eq_nil_of_length_eq_zero hclen
     rw[this]
     unfold VR
     exact⟨none,0,rfl,Nat.le_refl _,fun _=>rfl,(fun b hb=>by cases hb),by simp,fun hne=>absurd rfl hne⟩
    unfold VR
    refine⟨some ⟨g,off,none⟩,cap,by rw[hclen],by rw[hclen];exact h1,fun hh=>(by cases hh),(fun b hb=>by cases hb),hok,fun hne=> ?_⟩
    obtain⟨vs,hvs,hlies⟩:=aGF H hb hg h4 off
    have hvs':=hvs.take (n*k)
    have hlies':=hlies.take (n*k)
    have hA: ¬A g:=by
     obtain⟨_,⟨hn,_⟩|⟨g',cs,hg',hA,_⟩⟩:=H.blk b B hb
     ·rw[hg]at hn;cases hn
     rw[hg]at hg';injection hg' with hg';injection hg' with hg';subst hg';exact hA
    have hcv:VCells A [] w cells (vs.take (n*k)):=VCells.mk (by rw[←hl,hvs'.len]) (fun i c v hc hv=>by
     have hi:i<((B.cells.drop off).take (n*k)).length:=by rw[hl];exact(List.getElem?_eq_some_iff.1 hc).1
     have hx:=List.getElem?_eq_getElem hi
     obtain⟨u,hu,hr⟩:=hvs'.get hx
     rw[hv]at hu;injection hu with hu;subst hu
     exact aEH H d hr (hget i _ _ hx hc))
    refine⟨⟨g,off,none⟩,rfl,hk,hA,rfl, ?_⟩
    unfold yJ
    split
    ·exact aHH hk n hlen hcv hlies'
    rename_i hag'
    exact VRow.ofCells (hag.resolve_left hag') hcv hone hlies'
   cases hy
  cases hy
theorem aO4 (H:HR A M h w){cs ds:List V}{vs:List Value}(hc:VCells (Xs A M h) M w cs vs)(hm:cs.mapM (dZ h 4)=some ds):VCells A [] w ds vs:=by
 obtain⟨hl,hget⟩:=aCF hm
 refine VCells.mk (by rw[←hl,hc.len]) (fun i c v hd hv=> ?_)
 have hi:i<cs.length:=by rw[hl];exact(a1c.1 hd).1
 obtain⟨u,hu,hr⟩:=hc.get (a1r hi)
 rw[hv]at hu;injection hu with hu;subst hu
 exact aEH H 4 hr (hget i _ _ (a1r hi) hd)
theorem aGE (H:HR A M h w){x y:V}{v:Value}(hx:VR (Xs A M h) M w x v)(hy:xA h x=some y):VR A [] w y v:=by
 unfold xA at hy
 split at hy
 ·simp only[a1a]at hy
  obtain⟨ds,hd,rfl⟩:=hy
  unfold VR at hx⊢
  obtain⟨vs,rfl,hc⟩:=hx
  exact⟨vs,rfl,aO4 H hc hd⟩
 exact aEH H 4 hx hy
def PFn (P:Program)(f:FuncId)(args:List V)(r:V):Prop:=
 ∀(A:Nat→Prop)(w:World)(vs:List Value),(∀g,A g→g<w.heap.size)→Globs A w→VCells A [] w args vs→
  Invokes P f vs.toArray w (fun v w'=>Ext (fun _=>False) w w'∧VR A [] w' r v)
theorem Invokes.mono {P:Program}{f:FuncId}{vs:Array Value}{R R':Value→World→Prop}(hh:Invokes P f vs w R)(hR: ∀v w',R v w'→R' v w'):Invokes P f vs w R':=by
 rcases hh with⟨h1,h2⟩|⟨v,w',h1,h2⟩
 ·exact .inl ⟨h1,h2.mono fun e w' ⟨v,he,hr⟩=>⟨v,he,hR _ _ hr⟩⟩
 exact .inr ⟨v,w',h1,hR _ _ h2⟩
theorem aNw {A:Nat→Prop}{g:Nat}:Xs A [] [] g↔A g:=⟨fun hx=>hx.elim id (fun⟨b,B,hb,_⟩=>by simp at hb),.inl⟩
theorem VCells.avoid {X X':Nat→Prop}{cs:List V}{vs:List Value}(hX: ∀g,g<w.heap.size→X' g→X g)(hv:VCells X M w cs vs):VCells X' M w cs vs:=
 VCells.ext (Ext.refl (fun _=>False) w) (a1h _) (fun _ _ h=>h.elim) hX _ _ hv
theorem VR.avoid {X X':Nat→Prop}{x:V}{v:Value}(hX: ∀g,g<w.heap.size→X' g→X g)(hv:VR X M w x v):VR X' M w x v:=
 VR.ext (Ext.refl (fun _=>False) w) (a1h _) (fun _ _ h=>h.elim) hX _ _ hv
theorem HR.nil {A:Nat→Prop}(ha: ∀g,A g→g<w.heap.size)(hg:Globs A w):HR A [] [] w:=⟨rfl,ha,by simp,by simp,hg.avoid fun _ _ hx=>aNw.1 hx⟩
def aJn :V→Bool
 | .sc _=>true
 | .row _ _ []=>true
 |_=>false
def aPu :V→Bool
 | .agg cs=>cs.all aJn
 | .tup vs=>vs.all fun x=>match x with
  | .agg cs=>cs.all aJn
  |x=>aJn x
 |x=>aJn x
theorem Grow.none_changed {A:Nat→Prop}{M:List (Option Nat)}{h:Hp}{w w':World}(H:HR A M h w)(hE:Ext (fun _=>False) w w'):Grow A M h w M h w':=by
 have hE':Ext (cU M h) w w':=hE.mono fun _ _ hh=>hh.elim
 refine⟨a1h _,⟨H.len,fun g hg=>a1n (H.alt g hg) hE.size,fun b B hb=> ?_,H.inj,H.glob.grow hE' (fun _ _ hl=>hl)⟩,hE',fun _ _ hl=>hl⟩
 obtain⟨h0,hn|⟨g,cs,h1,h2,h3,h4,h5⟩⟩:=H.blk b B hb
 ·exact⟨h0,.inl hn⟩
 exact⟨h0,.inr ⟨g,cs,h1,h2,h3.to (hE.block g (H.mlt hb h1) id),h4,VCells.ext hE' (a1h _) (fun _ _ hl=> .inr hl) (fun _ _ hx=>hx) _ _ h5⟩⟩
def aHU :V→Bool
 | .sc _=>true
 | .row _ _ _=>true
 |_=>false
theorem aHv {X:Nat→Prop}{x:V}{v:Value}(hx:aHU x=true)(hv:VR X M w x v):VR X [] w x v:=by
 unfold aHU at hx
 split at hx
 ·unfold VR at hv ⊢; exact hv
 ·unfold VR at hv ⊢; exact hv
 cases hx
end
def OpsTo (P:Program)(O:u2)(ops:Array Oper)(l:List Oper)(s:List V)(h:Hp)(K:List V→Hp→Prop):Prop:= ∃p,aAt P O ops l s h=some p∧K p.1 p.2
def Then {α:Type}(o:Option α)(K:α→Prop):Prop:= ∃p,o=some p∧K p
section
variable {P:Program}{O:u2}{ops:Array Oper}{s:List V}{h:Hp}{K:List V→Hp→Prop}
theorem OpsTo.cons {o:Oper}{l:List Oper}(hh:Then (bX P O ops o s h) (fun p=>OpsTo P O ops l (fK s o.dst p.1) p.2 K)):OpsTo P O ops (o::l) s h K:=by
 obtain⟨⟨r,h1⟩,h2,p,h3,h4⟩:=hh
 refine⟨p, ?_,h4⟩
 simp only[aAt,bU,h2,a2l,a1f]
 exact h3
end
@[simp] theorem Ex.then_normal (K:List V→Hp→Prop)(Q:Ex→List V→Hp→Prop):Ex.then K Q .normal=K:=rfl
@[simp] theorem Ex.then_ret (K:List V→Hp→Prop)(Q:Ex→List V→Hp→Prop):Ex.then K Q .ret=Q .ret:=rfl
@[simp] theorem Ex.then_exit (K:List V→Hp→Prop)(Q:Ex→List V→Hp→Prop)(id:Nat):Ex.then K Q (.exit id)=Q (.exit id):=rfl
@[simp] theorem Ex.inBlock_normal (Q:Ex→List V→Hp→Prop)(id:Nat):Ex.inBlock id Q .normal=Q .normal:=rfl
@[simp] theorem Ex.inBlock_ret (Q:Ex→List V→Hp→Prop)(id:Nat):Ex.inBlock id Q .ret=Q .ret:=rfl
theorem Then.mk {α:Type}{o:Option α}{K:α→Prop}{p:α}(h1:o=some p)(h2:K p):Then o K:=⟨p,h1,h2⟩
@[simp] theorem a0f {α:Type}(x:α)(K:α→Prop):Then (some x) K↔K x:=⟨fun⟨p,hp,hk⟩=>by injection hp with hp;subst hp;exact hk,fun hk=>⟨x,rfl,hk⟩⟩
@[simp] theorem a0y {α β:Type}(o:Option α)(f:α→β)(K:β→Prop):Then (o.map f) K↔Then o fun x=>K (f x):=by
 constructor
 ·rintro⟨p,hp,hk⟩
  simp only[a1a]at hp
  obtain⟨x,hx,rfl⟩:=hp
  exact⟨x,hx,hk⟩
 rintro⟨x,hx,hk⟩
 exact⟨f x,by rw[hx];rfl,hk⟩
@[simp] theorem a0h {α β:Type}(o:Option α)(f:α→Option β)(K:β→Prop):Then (o.bind f) K↔Then o fun x=>Then (f x) K:=by
 constructor
 ·rintro⟨p,hp,hk⟩
  simp only[a1b]at hp
  obtain⟨x,hx,hf⟩:=hp
  exact⟨x,hx,p,hf,hk⟩
 rintro⟨x,hx,p,hf,hk⟩
 exact⟨p,by rw[hx];exact hf,hk⟩
@[simp] theorem a00 {α:Type}(c:Prop) [Decidable c] (o:Option α) (K:α→Prop):Then (if c then o else none) K↔c∧Then o K:=by
 constructor
 ·rintro⟨p,hp,hk⟩
  split at hp
  ·rename_i hc;exact⟨hc,p,hp,hk⟩
  cases hp
 rintro⟨hc,p,hp,hk⟩
 exact⟨p,by rw[if_pos hc];exact hp,hk⟩
@[simp] theorem a0g {α:Type}(c:Prop) [Decidable c] (o:Option α) (K:α→Prop):Then (if c then none else o) K↔ ¬c∧Then o K:=by
 constructor
 ·rintro⟨p,hp,hk⟩
  split at hp
  ·cases hp
  rename_i hc;exact⟨hc,p,hp,hk⟩
 rintro⟨hc,p,hp,hk⟩
 exact⟨p,by rw[if_neg hc];exact hp,hk⟩
section
variable (P:Program)(t:TypeId)(xo yo:Operand)
@[simp] theorem aXY {α:Type}(a:α):aS P (pure a)=some a:=rfl
@[simp] theorem aXp {α:Type}(a:α):aS P (Sem.pure a)=some a:=rfl
theorem gX (op:BinOp)(k k':IntKind)(a b:Int):eqGuard op t xo yo (.int k a) (.int k' b)=pure ():=by cases op<;>rfl
theorem aMF (op:BinOp)(a b:Bool):eqGuard op t xo yo (.bool a) (.bool b)=pure ():=by cases op<;>rfl
theorem aQg (op:BinOp)(a b:ByteArray):eqGuard op t xo yo (.string a) (.string b)=pure ():=by cases op<;>rfl
@[simp] theorem aXt (k:IntKind)(a b:Int):c5 P .add t xo yo (.sc (.int k a)) (.sc (.int k b))=some (.sc (.int k (k.wrap (a+b)))):=by
 simp[c5,eJ,cZ,gX,binOp,Op.intArith,pureV];rfl
@[simp] theorem aXC (k:IntKind)(a b:Int):c5 P .sub t xo yo (.sc (.int k a)) (.sc (.int k b))=some (.sc (.int k (k.wrap (a-b)))):=by
 simp[c5,eJ,cZ,gX,binOp,Op.intArith,pureV];rfl
@[simp] theorem aXa (k:IntKind)(a b:Int):c5 P .mul t xo yo (.sc (.int k a)) (.sc (.int k b))=some (.sc (.int k (k.wrap (a*b)))):=by
 simp[c5,eJ,cZ,gX,binOp,Op.intArith,pureV];rfl
@[simp] theorem aXX (k:IntKind)(a b:Int):c5 P .and t xo yo (.sc (.int k a)) (.sc (.int k b))=some (.sc (.int k (bits .and k a b))):=by
 simp[c5,eJ,cZ,gX,binOp,Op.intBits,pureV];rfl
@[simp] theorem aYF (k:IntKind)(a b:Int):c5 P .or t xo yo (.sc (.int k a)) (.sc (.int k b))=some (.sc (.int k (bits .or k a b))):=by
 simp[c5,eJ,cZ,gX,binOp,Op.intBits,pureV];rfl
@[simp] theorem aW0 (k:IntKind)(a b:Int):c5 P .xor t xo yo (.sc (.int k a)) (.sc (.int k b))=some (.sc (.int k (bits .xor k a b))):=by
 simp[c5,eJ,cZ,gX,binOp,Op.intBits,pureV];rfl
@[simp] theorem aXA (k:IntKind)(a b:Int):c5 P .eql t xo yo (.sc (.int k a)) (.sc (.int k b))=some (.sc (.bool (a == b))):=by
 simp[c5,eJ,cZ,gX,binOp,Op.intCmp,pureV];rfl
@[simp] theorem aWX (k:IntKind)(a b:Int):c5 P .neq t xo yo (.sc (.int k a)) (.sc (.int k b))=some (.sc (.bool (a != b))):=by
 simp[c5,eJ,cZ,gX,binOp,Op.intCmp,pureV];rfl
@[simp] theorem aN4 (k:IntKind)(a b:Int):c5 P .lss t xo yo (.sc (.int k a)) (.sc (.int k b))=some (.sc (.bool (decide (a<b)))):=by
 simp[c5,eJ,cZ,gX,binOp,Op.intCmp,pureV];rfl
@[simp] theorem aXD (k:IntKind)(a b:Int):c5 P .leq t xo yo (.sc (.int k a)) (.sc (.int k b))=some (.sc (.bool (decide (a≤b)))):=by
 simp[c5,eJ,cZ,gX,binOp,Op.intCmp,pureV];rfl
@[simp] theorem aW8 (k:IntKind)(a b:Int):c5 P .gtr t xo yo (.sc (.int k a)) (.sc (.int k b))=some (.sc (.bool (decide (b<a)))):=by
 simp[c5,eJ,cZ,gX,binOp,Op.intCmp,pureV];rfl
@[simp] theorem aXH (k:IntKind)(a b:Int):c5 P .geq t xo yo (.sc (.int k a)) (.sc (.int k b))=some (.sc (.bool (decide (b≤a)))):=by
 simp[c5,eJ,cZ,gX,binOp,Op.intCmp,pureV];rfl
@[simp] theorem aXO (k:IntKind)(a b:Int):c5 P .quo t xo yo (.sc (.int k a)) (.sc (.int k b))=if b=0 then none else some (.sc (.int k (k.wrap (a.tdiv b)))):=by
 simp only[c5,eJ,cZ,gX,binOp,Op.intDiv,pureV,ne_eq,not_true,if_false]
 split<;>rfl
@[simp] theorem aWS (k:IntKind)(a b:Int):c5 P .rem t xo yo (.sc (.int k a)) (.sc (.int k b))=if b=0 then none else some (.sc (.int k (a.tmod b))):=by
 simp only[c5,eJ,cZ,gX,binOp,Op.intDiv,pureV,ne_eq,not_true,if_false]
 split<;>rfl
@[simp] theorem aXB (k k':IntKind)(a b:Int):c5 P .shl t xo yo (.sc (.int k a)) (.sc (.int k' b))=if b<0 then none else some (.sc (.int k (k.wrap (a*2^(min b.toNat k.bits))))):=by
 simp only[c5,eJ,cZ,gX,binOp,Op.shift,pureV]
 split<;>rfl
@[simp] theorem aXs (k k':IntKind)(a b:Int):c5 P .shr t xo yo (.sc (.int k a)) (.sc (.int k' b))=if b<0 then none else some (.sc (.int k (a.fdiv (2^(min b.toNat k.bits))))):=by
 simp only[c5,eJ,cZ,gX,binOp,Op.shift,pureV]
 split<;>rfl
@[simp] theorem aYq (b:Bool):unV P .not (.sc (.bool b))=some (.sc (.bool (!b))):=rfl
theorem aRs (h:Hp)(a b:TypeId)(v:Value):rN P h a b (.sc v)=none:=by
 unfold rN
 split
 ·split<;>first|rfl|simp[fT]
 rfl
theorem aVE {h:Hp}{a b:TypeId}{d:TI}{k k':IntKind}{n:Int}(ha: ∃da,aK P a=some da)(hb:aK P b=some d)(hd:d.desc= .int k):aBN P h a b (.sc (.int k' n))=some (.sc (.int k (k.wrap n))):=by
 obtain⟨da,ha⟩:=ha
 have h1:=(cI ha).1
 have h2:=(cI hb).1
 rw[hd]at h2
 have e1:underlying a=Sem.program fun p=>match p.underlying a with|some d=>pure d|none=>stuck "no such type" :=rfl
 have e2:underlying b=Sem.program fun p=>match p.underlying b with|some d=>pure d|none=>stuck "no such type" :=rfl
 simp only[aBN,aRs,eJ,cZ,pureV]
 have:aS P (convert a b (.int k' n))=some (.int k (k.wrap n)):=by
  unfold convert
  rw[e1,e2]
  show aS P (Sem.bind (Sem.program _) _)=_
  simp only[Sem.bind,aS,h1]
  show aS P (Sem.bind (Sem.program _) _)=_
  simp only[Sem.bind,aS,h2]
  cases da.desc<;>rfl
 rw[this];rfl
@[simp] theorem a09 :IntKind.u8.bits=8:=rfl
@[simp] theorem a0O :IntKind.u16.bits=16:=rfl
@[simp] theorem a0v :IntKind.u32.bits=32:=rfl
@[simp] theorem a0Y :IntKind.u64.bits=64:=rfl
@[simp] theorem a05 :IntKind.i64.bits=64:=rfl
theorem cR {a:Int}(h1: -9223372036854775808≤a)(h2:a≤9223372036854775807):IntKind.i64.wrap a=a:=by rw[IntKind.wrap_i64];omega
theorem aFW {a:Int}(h1:0≤a)(h2:a≤18446744073709551615):IntKind.u64.wrap a=a:=by rw[IntKind.wrap_u64];omega
theorem aZo {a:Int}(h1:0≤a)(h2:a≤4294967295):IntKind.u32.wrap a=a:=by rw[IntKind.wrap_u32];omega
end
attribute [irreducible] OpsTo Then
end Go.Vm
namespace Go.Vm
open Go Go.ChangeShapes Go.WideShapes Go.ChangeAt Go.RowKit
def NoX :Nat→Prop:=fun _=>False
def aTx (l:List UInt8):List V:=l.map fun b=> .sc (.int .u8 b.toNat)
@[simp] theorem aZB (l:List UInt8):(aTx l).length=l.length:=by simp[aTx]
section
variable {H:Type}{enc:TypeId×Value→H}{P:Program}{w:World}{spare:Nat→Bool}{held:Bool}
theorem aJG {W W':World}(hlaid:laidOutB P=true)(hb:Below W.heap.size W W'): ∀{ts:List TypeId}{vs:List Value}{ds:List (DataW H)}{p:List MemPlace},
  (∀t∈ts,P.readableRec t=true∧t<P.types.size)→DataW.TrodAll enc P W 0 (fun _=>true) true ts vs ds p→DataW.TrodAll enc P W' 0 (fun b=>decide (b<W.heap.size)) true ts vs ds p
 | [],vs,ds,p,_,h=>by obtain⟨rfl,rfl,rfl⟩:=trodAll_nil h;exact trodAll_mk0
 |t::ts,vs,ds,p,hr,h=>by
  obtain⟨v,vs',d,ds',p',q,rfl,rfl,rfl,h1,h2⟩:=trodAll_cons h
  obtain⟨r1,r2⟩:=hr t (by simp)
  refine trodAll_cons_mk (Below.trod hlaid r1 r2 h1 hb ?_) (aJG hlaid hb (fun t ht=>hr t (by simp[ht])) h2)
  obtain⟨m,hm⟩:=h1
  exact DataW.trod_lt m _ _ _ hm
end
theorem aPZ {P:Program} {f:FuncId} {fn:Func} {c:Code} {args:List V} {vs:List Value} {w:World} (hf:P.funcs[f]? =some fn) (hb:fn.body=some c) (hn:(fn.name == "runtime.NumGoroutine")=false)
  (hp:PFn P f args (.sc (.bool true))) (hGl:Globs NoX w) (hv:VCells NoX [] w args vs):Calls P f vs.toArray w fun e w'=>e= .returned (.bool true)∧Below w.heap.size w w':=by
 rcases hp NoX w vs (fun _ h=>h.elim) hGl hv with⟨_,h⟩|⟨v,w',h,_⟩
 ·refine h.mono fun e w' ⟨v,he,hE,hr⟩=> ?_
  unfold VR at hr
  subst hr
  exact⟨he,hE.below fun _ _ h=>h⟩
 rw[aKx hf (by rw[hb];rfl) hn]at h
 cases h
end Go.Vm
