/- Texts of ours, joined. -/
import Derived.WalkKit
import Derived.Maps.AppendAt
import Derived.Laws.MakeOwn
import Derived.MapKept
import Derived.Laws.BytesString
import Derived.StillTail
import Derived.ProofKit
import Derived.OpenShut
import Derived.ShutString
import Derived.ChangeOld
import Derived.Lib.SmallJoins
open Option renaming map_eq_some_iff → a1K,bind_eq_some_iff → a1L,bind_some → a1P,bind_eq_bind → a14,pure_def → a2k,map_map → a2K,map_some → a2V
open List renaming getElem?_eq_some_iff → a1M,prefix_refl → a1R,all_eq_true → a1T,getElem?_append_left → a1U,mem_of_mem_take → a1V,mem_of_mem_drop → a1Y,getElem?_append_right → a1Z,take_of_length_le → a10,getElem?_eq_getElem → a11,eq_nil_of_length_eq_zero → a12,flatMap_cons → a13,mapM_cons → a2b,getElem?_eq_none → a2d,ext_getElem? → a2g,getElem?_set_ne → a2h,replicate → a2i,map_cons → a2j,length_append → a2l,getElem?_toArray → a2p,length_cons → a2s,range → a2t,getElem?_take → a2v,toArray → a2x,length_take → a2A,head?_eq_getElem? → a2B,getElem?_set_self → a2C,length_nil → a2E,mem_append → a2G,take_left' → a2H,mem_of_getElem? → a2J,getElem?_drop → a2L,size_toArray → a2M,map_map → a2N,take_append → a2O,flatMap_nil → a2P,mem_toArray → a2R,nil_prefix → a2S,drop_left' → a2U
open Option.some renaming injEq → a1N
open Prod.mk renaming injEq → a1O
open Array renaming getElem?_setIfInBounds_ne → a1Q,getElem?_eq_some_iff → a1S,getElem?_setIfInBounds → a2c,getElem?_setIfInBounds_self_of_lt → a2e,getD_eq_getD_getElem? → a2f,getElem?_eq_none → a2m,getElem?_toList → a2q,eq_empty_of_size_eq_zero → a2r,toList_setIfInBounds → a2u,replicate → a2I,toList_map → a2Q,range → a2T,ext' → a2W
open Nat renaming le_refl → a1W,lt_of_lt_of_le → a1X,lt_or_ge → a16,add_mul → a18,mul_le_mul_right → a19,add_assoc → a2a,one_mul → a2n,le_trans → a2o,add_zero → a2w,add_comm → a2y,zero_add → a2D,min_eq_left → a2F
open Bool renaming and_eq_true → a15,false_eq_true → a17
open Int renaming le_refl → a2z
set_option linter.unusedSimpArgs false
set_option linter.unusedVariables false
namespace Go.Vm
open Go
inductive V where
 |sc (v:Value)
 |row (nil:Option Bool) (k:Nat) (es:List V)
 |agg (cs:List V)
 |tup (vs:List V)
 |ptr (b off:Nat)
 |sl (b off n k:Nat) (ag:Bool)
 |eptr (es:List V) (i off:Nat)
 |mp (b:Nat)
 |any
 deriving Inhabited
def aAW :List Int:=[1779033703,3144134277,1013904242,2773480762,1359893119,2600822924,528734635,1541459225]
def aHU :List Int:=[1116352408,1899447441,3049323471,3921009573,961987163,1508970993,2453635748,2870763221,3624381080,310598401,607225278,1426881987,1925078388,2162078206,2614888103,3248222580,3835390401,4022224774,264347078,604807628,770255983,1249150122,1555081692,1996064986,2554220882,2821834349,2952996808,3210313671,3336571891,3584528711,113926993,338241895,666307205,773529912,1294757372,1396182291,1695183700,1986661051,2177026350,2456956037,2730485921,2820302411,3259730800,3345764771,3516065817,3600352804,4094571909,275423344,430227734,506948616,659060556,883997877,958139571,1322822218,1537002063,1747873779,1955562222,2024104815,2227730452,2361852424,2428436474,2756734187,3204031479,3329325298]
def GT :Nat→Option V
 |0=>some (.agg (aAW.map fun x=> .sc (.int .u32 x)))
 |2=>some (.agg (aHU.map fun x=> .sc (.int .u32 x)))
 |_=>none
def V.one :V→Bool
 | .sc v=>v.oneCell'
 | .agg _ | .tup _ | .any=>false
 |_=>true
def V.cells :V→List V
 | .agg cs=>cs
 |x=>[x]
def V.flatOk (x:V):Bool:=x.cells.all V.one
def V.okElem (k:Nat)(x:V):Bool:=x.flatOk&&x.cells.length == k
def LiesAt (w:World)(ad:Addr)(vs:Array Value):Prop:= ∀j u,vs[j]? =some u→w.cell? (ad.add j)=some u
def aN1 (b:Bool)(a:Option Addr)(cap n:Nat):Prop:=if b=true then a=none else cap=n
mutual
def VR (X:Nat→Prop)(M:List (Option Nat))(w:World):V→Value→Prop
 | .sc c,v=>v=c
 | .any,_=>True
 | .row nil k es,v=> ∃a cap,v= .slice a es.length cap∧es.length≤cap∧(a=none→cap=0)∧(∀b,nil=some b→aN1 b a cap es.length)∧(∀e∈es,e.okElem k=true)∧
   (es≠ []→ ∃ad,a=some ad∧0<k∧ ¬X ad.block∧ad.spot=none∧VRow X [] w k es ad)
 | .agg cs,v=> ∃vs:List Value,v= .agg vs.toArray∧VCells X M w cs vs
 | .tup cs,v=> ∃vs:List Value,v= .tuple vs.toArray∧VCells X M w cs vs
 | .ptr b off,v=> ∃g sh,M[b]? =some (some g)∧v= .pointer (some ⟨g,off,none⟩)∧w.shape? g=some sh
 | .mp b,v=> ∃g,M[b]? =some (some g)∧v= .map (some g)∧g<w.heap.size∧w.shape? g=none
 | .sl b off n k _,v=>(M[b]? =some none∧v= .slice none 0 0∧n=0∧off=0)∨
   ∃g cap e sz,M[b]? =some (some g)∧v= .slice (some ⟨g,off,none⟩) n cap∧n≤cap∧cap≤maxLen∧0<k∧w.shape? g=some (e,sz)∧off+cap*k≤sz
 | .eptr es i off,v=> ∃ad k,v= .pointer (some (ad.add (i*k+off)))∧0<k∧(es≠ []→ ¬X ad.block)∧ad.spot=none∧(∀e∈es,e.okElem k=true)∧VRow X [] w k es ad
def VCells (X:Nat→Prop)(M:List (Option Nat))(w:World):List V→List Value→Prop
 | [],vs=>vs=[]
 |c::cs,vs=> ∃v rest,vs=v::rest∧VR X M w c v∧VCells X M w cs rest
def VRow (X:Nat→Prop)(M:List (Option Nat))(w:World)(k:Nat):List V→Addr→Prop
 | [],_=>True
 |e::es,ad=>(∃v,VR X M w e v∧v.cells.size=k∧LiesAt w ad v.cells)∧VRow X M w k es (ad.add k)
end
structure Ext (S:Nat→Prop)(w w':World):Prop where
 os:w'.os=w.os
 tape:w'.tape=w.tape∧w.drawn≤w'.drawn
 output:w'.output=w.output
 size:w.heap.size≤w'.heap.size
 block: ∀g,g<w.heap.size→ ¬S g→w'.heap[g]? =w.heap[g]?
 shape: ∀g sh,w.shape? g=some sh→w'.shape? g=some sh
 nshape: ∀g,g<w.heap.size→w.shape? g=none→w'.shape? g=none
theorem Ext.refl (S:Nat→Prop)(w:World):Ext S w w:=⟨rfl,⟨rfl,a1W _⟩,rfl,a1W _,fun _ _ _=>rfl,fun _ _ h=>h,fun _ _ h=>h⟩
theorem Ext.trans {S:Nat→Prop}{a b c:World}(h:Ext S a b)(k:Ext S b c):Ext S a c:=
 ⟨k.os.trans h.os,⟨k.tape.1.trans h.tape.1,a2o h.tape.2 k.tape.2⟩,k.output.trans h.output,a2o h.size k.size,
  fun g hg hs=>(k.block g (a1X hg h.size) hs).trans (h.block g hg hs),fun g sh e=>k.shape g sh (h.shape g sh e),fun g hg e=>k.nshape g (a1X hg h.size) (h.nshape g hg e)⟩
theorem Ext.mono {S S':Nat→Prop}{a b:World}(h:Ext S a b)(hs: ∀g,g<a.heap.size→S g→S' g):Ext S' a b:=
 ⟨h.os,h.tape,h.output,h.size,fun g hg hn=>h.block g hg (fun hS=>hn (hs g hg hS)),h.shape,h.nshape⟩
theorem Ext.below {S:Nat→Prop}{w w':World}(h:Ext S w w')(hs: ∀g,g<w.heap.size→ ¬S g):RowKit.Below w.heap.size w w':=
 ⟨h.os,h.tape.1,h.output,h.size,fun g hg=>h.block g hg (hs g hg)⟩
theorem aOG {w:World}{a:Addr}{u:Value}(h:w.cell? a=some u):a.block<w.heap.size:=by
 unfold World.cell? at h
 rcases a16 a.block w.heap.size with hl|hl
 ·exact hl
 rw[a2m hl]at h;cases h
theorem aBc (a:Addr)(n:Nat):(a.add n).block=a.block:=by unfold Addr.add;split<;>rfl
theorem aJI (a:Addr)(n:Nat)(h:a.spot=none):(a.add n).spot=none:=by unfold Addr.add;split<;>simp[h]
theorem vA (a:Addr)(i j:Nat):(a.add i).add j=a.add (i+j):=by
 unfold Addr.add
 by_cases hi:i=0<;>by_cases hj:j=0<;>simp[hi,hj,a2a]
theorem Ext.cell {S:Nat→Prop}{w w':World}(h:Ext S w w'){a:Addr}{u:Value}(hs: ¬S a.block)(hc:w.cell? a=some u):w'.cell? a=some u:=by
 rw[World.cell?_of_block (h.block a.block (aOG hc) hs)];exact hc
theorem LiesAt.lt {w:World}{ad:Addr}{vs:Array Value}(h:LiesAt w ad vs)(h0:0<vs.size):ad.block<w.heap.size:=by
 have:=aOG (h 0 vs[0] (by simp[h0]))
 rwa[aBc]at this
theorem aUl {X:Nat→Prop}{M:List (Option Nat)}{w:World}{k:Nat}{es:List V}{ad:Addr}(h:VRow X M w k es ad)(hk:0<k)(hne:es≠ []):ad.block<w.heap.size:=by
 cases es with
 |nil=>exact absurd rfl hne
 |cons e es=>
  unfold VRow at h
  obtain⟨⟨v,_,hsz,hl⟩,_⟩:=h
  exact hl.lt (by omega)
theorem aFk {M M':List (Option Nat)}(h:M <+: M'){b:Nat}{g:Option Nat}(hb:M[b]? =some g):M'[b]? =some g:=by
 obtain⟨t,rfl⟩:=h
 have hl:b<M.length:=(a1M.1 hb).1
 rw[a1U hl]
 exact hb
section
variable {X X' S:Nat→Prop}{w w':World}
mutual
theorem VR.ext {M M':List (Option Nat)}(hE:Ext S w w')(hM:M <+: M')(hS: ∀g,g<w.heap.size→S g→X g)(hX: ∀g,g<w.heap.size→X' g→X g): ∀(x:V)(v:Value),VR X M w x v→VR X' M' w' x v
 | .sc c,v,h=>by unfold VR at *; exact h
 | .any,v,h=>by unfold VR;trivial
 | .row nil k es,v,h=>by
  unfold VR at *
  obtain⟨a,cap,hv,hc,h1,h2,h4,h3⟩:=h
  refine⟨a,cap,hv,hc,h1,h2,h4,fun hne=> ?_⟩
  obtain⟨ad,ha,hk,hx,hsp,hr⟩:=h3 hne
  have hlt:=aUl hr hk hne
  exact⟨ad,ha,hk,fun hx'=>hx (hX _ hlt hx'),hsp,VRow.ext hE (a1R _) hS hX k es ad hx hr⟩
 | .agg cs,v,h=>by
  unfold VR at *
  obtain⟨vs,hv,hc⟩:=h
  exact⟨vs,hv,VCells.ext hE hM hS hX cs vs hc⟩
 | .tup cs,v,h=>by
  unfold VR at *
  obtain⟨vs,hv,hc⟩:=h
  exact⟨vs,hv,VCells.ext hE hM hS hX cs vs hc⟩
 | .ptr b off,v,h=>by
  unfold VR at *
  obtain⟨g,sh,hg,hv,hs⟩:=h
  exact⟨g,sh,aFk hM hg,hv,hE.shape _ _ hs⟩
 | .mp b,v,h=>by
  unfold VR at *
  obtain⟨g,hg,hv,hl,hs⟩:=h
  exact⟨g,aFk hM hg,hv,a1X hl hE.size,hE.nshape _ hl hs⟩
 | .sl b off n k _,v,h=>by
  unfold VR at *
  rcases h with⟨h1,h2⟩|⟨g,cap,e,sz,hg,hv,h1,h2,h3,h4,h5⟩
  ·exact .inl ⟨aFk hM h1,h2⟩
  exact .inr ⟨g,cap,e,sz,aFk hM hg,hv,h1,h2,h3,hE.shape _ _ h4,h5⟩
 | .eptr es i off,v,h=>by
  unfold VR at *
  obtain⟨ad,k,hv,hk,hx,hsp,hok,hr⟩:=h
  by_cases hne:es=[]
  ·subst hne
   exact⟨ad,k,hv,hk,fun h=>absurd rfl h,hsp,hok,by unfold VRow;trivial⟩
  have hlt:=aUl hr hk hne
  exact⟨ad,k,hv,hk,fun _ hx'=>hx hne (hX _ hlt hx'),hsp,hok,VRow.ext hE (a1R _) hS hX k es ad (hx hne) hr⟩
theorem VCells.ext {M M':List (Option Nat)}(hE:Ext S w w')(hM:M <+: M')(hS: ∀g,g<w.heap.size→S g→X g)(hX: ∀g,g<w.heap.size→X' g→X g): ∀(cs:List V)(vs:List Value),VCells X M w cs vs→VCells X' M' w' cs vs
 | [],vs,h=>by unfold VCells at *; exact h
 |c::cs,vs,h=>by
  unfold VCells at *
  obtain⟨v,rest,hv,h1,h2⟩:=h
  exact⟨v,rest,hv,VR.ext hE hM hS hX c v h1,VCells.ext hE hM hS hX cs rest h2⟩
theorem VRow.ext {M M':List (Option Nat)}(hE:Ext S w w')(hM:M <+: M')(hS: ∀g,g<w.heap.size→S g→X g)(hX: ∀g,g<w.heap.size→X' g→X g)(k:Nat): ∀(es:List V)(ad:Addr),¬X ad.block→VRow X M w k es ad→VRow X' M' w' k es ad
 | [],ad,_,h=>by unfold VRow;trivial
 |e::es,ad,hx,h=>by
  unfold VRow at *
  obtain⟨⟨v,h1,h2,h3⟩,h4⟩:=h
  refine⟨⟨v,VR.ext hE hM hS hX e v h1,h2, ?_⟩,VRow.ext hE hM hS hX k es (ad.add k) (by rw[aBc];exact hx) h4⟩
  intro j u hu
  have hc:=h3 j u hu
  exact hE.cell (fun hs=>by
   have hlt:=aOG hc
   have:=hS _ hlt hs
   rw[aBc]at this;exact hx this) hc
end
end
def Globs (X:Nat→Prop)(w:World):Prop:= ∀g e,GT g=some e→VR X [] w (.eptr [e] 0 0) (.pointer (some ⟨g,0,none⟩))∧ ∃t,w.shape? g=some (t,e.cells.length)
theorem Globs.ext {X X' S:Nat→Prop}{w w':World}(hE:Ext S w w')(hS: ∀g,g<w.heap.size→S g→X g)(hX: ∀g,g<w.heap.size→X' g→X g)(h:Globs X w):Globs X' w':=
 fun g e he=>⟨VR.ext hE (a1R _) hS hX _ _ (h g e he).1,(h g e he).2.imp fun _ ht=>hE.shape _ _ ht⟩
theorem Globs.avoid {X X':Nat→Prop}{w:World}(hX: ∀g,g<w.heap.size→X' g→X g)(h:Globs X w):Globs X' w:=
 h.ext (Ext.refl (fun _=>False) w) (fun _ _ h=>h.elim) hX
theorem VR.lift {X:Nat→Prop}{M:List (Option Nat)}{w:World}{x:V}{v:Value}(h:VR X [] w x v):VR X M w x v:=
 VR.ext (Ext.refl (fun _=>False) w) (a2S) (fun _ _ h=>h.elim) (fun _ _ h=>h) x v h
theorem VCells.lift {X:Nat→Prop}{M:List (Option Nat)}{w:World}{cs:List V}{vs:List Value}(h:VCells X [] w cs vs):VCells X M w cs vs:=
 VCells.ext (Ext.refl (fun _=>False) w) (a2S) (fun _ _ h=>h.elim) (fun _ _ h=>h) cs vs h
structure Blk where
 e:TypeId
 cells:List V
abbrev Hp :=List (Option Blk)
def c8 (M:List (Option Nat))(h:Hp)(g:Nat):Prop:= ∃(b:Nat)(B:Blk),h[b]? =some (some B)∧M[b]? =some (some g)
def Xs (A:Nat→Prop)(M:List (Option Nat))(h:Hp)(g:Nat):Prop:=A g∨c8 M h g
def i9 (es:List MapEntry):List Value:=es.flatMap fun e=>e.key.cells.toList++e.val.cells.toList
def rF (n:Nat)(v:Value):Prop:=if n=0 then v.oneCell'=true else∃xs:Array Value,v= .agg xs∧xs.size=n
structure aQb (e:Nat)(es:Array MapEntry)(clock:Nat)(cs:Array Value):Prop where
 cells:cs.toList=i9 es.toList
 shp: ∀x∈es.toList,rF (e/1000) x.key∧rF (e%1000) x.val
 born: ∀x∈es.toList,x.born<clock
 nd:(es.toList.map (·.born)).Nodup
def Holds (w:World)(g:Nat)(cs:Array Value)(e:TypeId)(n:Nat):Prop:=(∃f:Nat×Nat,(f=(0,0)∨f=(cs.size,cs.size+1))∧w.heap[g]? =some (.cells cs e f))∨ ∃es clock,w.heap[g]? =some (.map es clock)∧aQb e es clock cs∧n=cs.size
theorem Holds.to {w w':World}{g:Nat}{cs:Array Value}{e n:Nat}(h:Holds w g cs e n)(hw:w'.heap[g]? =w.heap[g]?):Holds w' g cs e n:=by
 rcases h with⟨f,h1,h2⟩|⟨es,c,h1,h2⟩
 ·exact .inl ⟨f,h1,hw.trans h2⟩
 exact .inr ⟨es,c,hw.trans h1,h2⟩
theorem Holds.lt {w:World}{g:Nat}{cs:Array Value}{e n:Nat}(h:Holds w g cs e n):g<w.heap.size:=by
 rcases h with⟨f,_,h2⟩|⟨es,c,h2,_⟩
 ·exact(a1S.1 h2).1
 exact(a1S.1 h2).1
theorem Holds.inCells {w:World}{g:Nat}{cs:Array Value}{e n:Nat}(h:Holds w g cs e n){sh:TypeId×Nat}(hs:w.shape? g=some sh): ∃f:Nat×Nat,(f=(0,0)∨f=(cs.size,cs.size+1))∧w.heap[g]? =some (.cells cs e f):=by
 rcases h with h|⟨es,c,h2,_⟩
 ·exact h
 simp[World.shape?,h2]at hs
theorem Holds.inMap {w:World}{g:Nat}{cs:Array Value}{e n:Nat}(h:Holds w g cs e n)(hs:w.shape? g=none): ∃es clock,w.heap[g]? =some (.map es clock)∧aQb e es clock cs∧n=cs.size:=by
 rcases h with⟨f,_,h2⟩|h
 ·simp[World.shape?,h2]at hs
 exact h
theorem Holds.shape {w:World}{g:Nat}{cs:Array Value}{e n:Nat}(h:Holds w g cs e n){sh:TypeId×Nat}(hs:w.shape? g=some sh):w.shape? g=some (e,cs.size):=by
 obtain⟨f,_,h2⟩:=h.inCells hs
 unfold World.shape?; rw[h2]
theorem Holds.cell {w:World}{g:Nat}{cs:Array Value}{e n:Nat}(h:Holds w g cs e n){sh:TypeId×Nat}(hs:w.shape? g=some sh)(j:Nat):w.cell? ⟨g,j,none⟩=cs[j]? :=by
 obtain⟨f,_,h2⟩:=h.inCells hs
 simp[World.cell?,h2]
theorem aSj {n:Nat}{f:Nat×Nat}(h:f=(0,0)∨f=(n,n+1)){k:Nat}(hk:k<n):(decide (f.1≤k)&&decide (k<f.2))=false:=by
 rcases h with rfl|rfl
 ·simp
 simp;omega
structure HR (A:Nat→Prop)(M:List (Option Nat))(h:Hp)(w:World):Prop where
 len:M.length=h.length
 alt: ∀g,A g→g<w.heap.size
 blk: ∀(b:Nat)(B:Blk),h[b]? =some (some B)→(∀c∈B.cells,c.one=true)∧((M[b]? =some none∧B.cells=[])∨
  ∃(g:Nat)(cs:Array Value),M[b]? =some (some g)∧ ¬A g∧Holds w g cs B.e B.cells.length∧B.cells.length≤cs.size∧
   VCells (Xs A M h) M w B.cells (cs.toList.take B.cells.length))
 inj: ∀(b b':Nat)(B B':Blk)(g:Nat),h[b]? =some (some B)→h[b']? =some (some B')→M[b]? =some (some g)→M[b']? =some (some g)→b=b'
 glob:Globs (Xs A M h) w
theorem Globs.grow {A:Nat→Prop}{M M':List (Option Nat)}{h h':Hp}{w w':World}(hE:Ext (c8 M h) w w')(hl: ∀g,g<w.heap.size→c8 M' h' g→c8 M h g)(k:Globs (Xs A M h) w):Globs (Xs A M' h') w':=
 k.ext hE (fun _ _ hl=> .inr hl) (fun g hg hx=>hx.elim .inl (fun h'=> .inr (hl g hg h')))
theorem HR.lt {A:Nat→Prop}{M:List (Option Nat)}{h:Hp}{w:World}(H:HR A M h w){g:Nat}(hl:Xs A M h g):g<w.heap.size:=by
 rcases hl with ha|⟨b,B,hb,hm⟩
 ·exact H.alt g ha
 obtain⟨_,⟨hg,_⟩|⟨g',cs,hg,_,hh,_⟩⟩:=H.blk b B hb
 ·rw[hm]at hg;cases hg
 rw[hm]at hg
 injection hg with hg
 injection hg with hg
 subst hg
 exact hh.lt
structure Grow (A:Nat→Prop)(M:List (Option Nat))(h:Hp)(w:World)(M':List (Option Nat))(h':Hp)(w':World):Prop where
 pre:M <+: M'
 hr:HR A M' h' w'
 ext:Ext (c8 M h) w w'
 live: ∀g,g<w.heap.size→c8 M' h' g→c8 M h g
theorem Grow.keep {A:Nat→Prop}{M M':List (Option Nat)}{h h':Hp}{w w':World}(G:Grow A M h w M' h' w'){x:V}{v:Value}(hx:VR (Xs A M h) M w x v):
  VR (Xs A M' h') M' w' x v:=
 VR.ext G.ext G.pre (fun _ _ hl=> .inr hl) (fun g hg hx=>hx.elim .inl (fun hl=> .inr (G.live g hg hl))) x v hx
theorem Grow.refl {A:Nat→Prop}{M:List (Option Nat)}{h:Hp}{w:World}(H:HR A M h w):Grow A M h w M h w:=
 ⟨a1R _,H,Ext.refl _ _,fun _ _ h=>h⟩
theorem Grow.trans {A:Nat→Prop}{M M' M'':List (Option Nat)}{h h' h'':Hp}{w w' w'':World}(G:Grow A M h w M' h' w')(K:Grow A M' h' w' M'' h'' w''):Grow A M h w M'' h'' w'':=by
 refine⟨G.pre.trans K.pre,K.hr, ?_,fun g hg hl=>G.live g hg (K.live g (a1X hg G.ext.size) hl)⟩
 refine⟨K.ext.os.trans G.ext.os,⟨K.ext.tape.1.trans G.ext.tape.1,a2o G.ext.tape.2 K.ext.tape.2⟩,K.ext.output.trans G.ext.output,a2o G.ext.size K.ext.size,fun g hg hn=> ?_,fun g sh e=>K.ext.shape g sh (G.ext.shape g sh e),fun g hg e=>K.ext.nshape g (a1X hg G.ext.size) (G.ext.nshape g hg e)⟩
 exact(K.ext.block g (a1X hg G.ext.size) (fun hl=>hn (G.live g hg hl))).trans (G.ext.block g hg hn)
def aS {α:Type}(P:Program):Sem α→Option α
 | .pure a=>some a
 | .program k=>aS P (k P)
 | .mark _ k=>aS P k
 |_=>none
theorem jD {α:Type}{P:Program}(s:Sem α): ∀{a:α},aS P s=some a→ ∀w,s.run P w= .ok a w:=by
 induction s with
 |pure a=>intro b h w;simp only[aS,a1N]at h;subst h;rfl
 |program k ih=>intro b h w;exact ih P h w
 |mark m k ih=>intro b h w;exact ih h w
 |_=>intro b h;simp[aS]at h
def dY :Value→V
 | .slice none 0 0=> .row (some true) 1 []
 |v=> .sc v
def ofValue :Value→V
 | .agg cs=> .agg (cs.toList.map dY)
 |v=>dY v
section
variable {X:Nat→Prop}{M:List (Option Nat)}{w:World}
theorem aPA (v:Value):VR X M w (dY v) v:=by
 unfold dY
 split
 ·unfold VR;exact⟨none,0,rfl,a1W _,fun _=>rfl,(fun b h=>by injection h with h;subst h;exact show aN1 true none 0 0 from rfl),by simp,fun h=>absurd rfl h⟩
 unfold VR;rfl
theorem qG (vs:List Value):VCells X M w (vs.map dY) vs:=by
 induction vs with
 |nil=>unfold VCells;rfl
 |cons v vs ih=>simp only[a2j];unfold VCells;exact⟨v,vs,rfl,aPA v,ih⟩
theorem aJO (v:Value):VR X M w (ofValue v) v:=by
 unfold ofValue
 split
 ·rename_i cs;unfold VR;exact⟨cs.toList,by simp,qG _⟩
 exact aPA v
theorem VCells.len : ∀{cs:List V}{vs:List Value},VCells X M w cs vs→cs.length=vs.length
 | [],vs,h=>by unfold VCells at h;subst h;rfl
 |c::cs,vs,h=>by
  unfold VCells at h
  obtain⟨v,rest,rfl,_,h2⟩:=h
  simp[VCells.len h2]
theorem VCells.get : ∀{cs:List V}{vs:List Value},VCells X M w cs vs→ ∀{i:Nat}{c:V},cs[i]? =some c→ ∃v,vs[i]? =some v∧VR X M w c v
 | [],vs,h,i,c,hc=>by simp at hc
 |c::cs,vs,h,i,d,hc=>by
  unfold VCells at h
  obtain⟨v,rest,rfl,h1,h2⟩:=h
  cases i with
  |zero=>simp at hc;subst hc;exact⟨v,rfl,h1⟩
  |succ i=>simp at hc;obtain⟨u,hu,hr⟩:=VCells.get h2 hc;exact⟨u,by simpa using hu,hr⟩
theorem VCells.mk : ∀{cs:List V}{vs:List Value},cs.length=vs.length→(∀(i:Nat)(c:V)(v:Value),cs[i]? =some c→vs[i]? =some v→VR X M w c v)→VCells X M w cs vs
 | [],vs,hl,_=>by unfold VCells;exact a12 hl.symm
 |c::cs,[],hl,_=>by simp at hl
 |c::cs,v::vs,hl,h=>by
  unfold VCells
  exact⟨v,vs,rfl,h 0 c v rfl rfl,VCells.mk (by simpa using hl) (fun i c' v' hc hv=>h (i+1) c' v' (by simpa using hc) (by simpa using hv))⟩
theorem VCells.drop {cs:List V}{vs:List Value}(h:VCells X M w cs vs)(n:Nat):VCells X M w (cs.drop n) (vs.drop n):=
 VCells.mk (by simp[h.len]) (fun i c v hc hv=>by
  rw[a2L]at hc hv
  obtain⟨u,hu,hr⟩:=h.get hc
  rw[hv]at hu;injection hu with hu;subst hu;exact hr)
theorem VCells.take {cs:List V}{vs:List Value}(h:VCells X M w cs vs)(n:Nat):VCells X M w (cs.take n) (vs.take n):=
 VCells.mk (by simp[h.len]) (fun i c v hc hv=>by
  rw[a2v]at hc hv
  split at hc
  ·rename_i hi;simp only[hi,if_true]at hv
   obtain⟨u,hu,hr⟩:=h.get hc
   rw[hv]at hu;injection hu with hu;subst hu;exact hr
  cases hc)
theorem VCells.append {cs ds:List V}{vs us:List Value}(h:VCells X M w cs vs)(k:VCells X M w ds us):VCells X M w (cs++ds) (vs++us):=
 VCells.mk (by simp[h.len,k.len]) (fun i c v hc hv=>by
  rcases a16 i cs.length with hi|hi
  ·rw[a1U hi]at hc
   rw[a1U (by rw[←h.len];exact hi)]at hv
   obtain⟨u,hu,hr⟩:=h.get hc
   rw[hv]at hu;injection hu with hu;subst hu;exact hr
  rw[a1Z hi]at hc
  rw[a1Z (by rw[←h.len];exact hi)]at hv
  rw[←h.len]at hv
  obtain⟨u,hu,hr⟩:=k.get hc
  rw[hv]at hu;injection hu with hu;subst hu;exact hr)
end
def V.soft :V→V
 | .row _ k es=> .row none k es
 |x=>x
theorem VR.soft {X:Nat→Prop}{M:List (Option Nat)}{w:World}{x:V}{v:Value}(h:VR X M w x v):VR X M w x.soft v:=by
 cases x<;>first|exact h|(
  unfold VR at h
  unfold V.soft VR
  obtain⟨a,cap,e1,e2,e3,_,e5,e6⟩:=h
  exact⟨a,cap,e1,e2,e3,(fun b hb=>by cases hb),e5,e6⟩)
theorem VCells.soft {X:Nat→Prop}{M:List (Option Nat)}{w:World}: ∀{cs:List V}{vs:List Value},VCells X M w cs vs→VCells X M w (cs.map V.soft) vs
 | [],vs,h=>h
 |c::cs,vs,h=>by
  simp only[a2j]
  unfold VCells at h⊢
  obtain⟨v,rest,e1,e2,e3⟩:=h
  exact⟨v,rest,e1,e2.soft,e3.soft⟩
structure TI where
 desc:TypeDesc
 size:Nat
 bytes:Nat
 zero:Value
def aM (P:Program)(t:TypeId):Option TI:=
 match P.underlying t,P.info? t with
 |some d,some i=>match i.zero with
  |some z=>some ⟨d,i.size,i.bytes,z⟩
  |none=>none
 |_,_=>none
theorem cR {P:Program}{t:TypeId}{d:TI}(h:aM P t=some d):P.underlying t=some d.desc∧ ∃i,P.info? t=some i∧i.size=d.size∧i.bytes=d.bytes∧i.zero=some d.zero:=by
 unfold aM at h
 split at h
 ·rename_i d' i h1 h2
  split at h
  ·rename_i z hz
   injection h with h
   subst h
   exact⟨h1,i,h2,rfl,rfl,hz⟩
  cases h
 cases h
def cB :TypeDesc→Bool
 | .struct _ | .array _ _=>true
 |_=>false
section
variable {P:Program}{w:World}{t:TypeId}{d:TI}
theorem fF (h:aM P t=some d):(sizeOf t).run P w= .ok d.size w:=by
 obtain⟨_,i,hi,h1,_⟩:=cR h
 simp[sizeOf,typeInfo,hi,h1]
theorem aGK (h:aM P t=some d):(zeroValue t).run P w= .ok d.zero w:=by
 obtain⟨_,i,hi,_,_,h3⟩:=cR h
 simp[zeroValue,typeInfo,hi,h3]
theorem eU (h:aM P t=some d):(underlying t).run P w= .ok d.desc w:=run_underlying (cR h).1 w
theorem aPe (h:aM P t=some d):(isAgg t).run P w= .ok (cB d.desc) w:=by
 unfold isAgg
 rw[Sem.run_bind,eU h,Result.andThen_ok]
 cases d.desc<;>rfl
theorem aEZ (a:Addr): ∀(vs:List Value)(i:Nat)(acc:Array Value),(∀j u,vs[j]? =some u→w.cell? (a.add (i+j))=some u)→
  (loadCellsFrom a i vs.length acc).run P w= .ok (acc++vs.toArray) w
 | [],i,acc,_=>by simp[loadCellsFrom]
 |v::vs,i,acc,h=>by
  have h0:=h 0 v rfl
  have ih:=aEZ a vs (i+1) (acc.push v) (fun j u hu=>by have:=h (j+1) u (by simpa using hu);rwa[show i+1+j=i+(j+1) by omega])
  simp only[a2s,loadCellsFrom,load]
  simp only[a2w]at h0
  show(Sem.run P (Sem.bind (Sem.load .plain (a.add i) Sem.pure) _) w)=_
  simp only[Sem.bind,Sem.run,h0,ih]
  simp
theorem aJS (a:Addr)(vs:List Value)(h:LiesAt w a vs.toArray):(loadCells a vs.length).run P w= .ok vs.toArray w:=by
 unfold loadCells
 rw[aEZ a vs 0 #[] (fun j u hu=>by rw[a2D];exact h j u (by simpa using hu))]
 simp
end
def iK (P:Program)(t:TypeId)(cs:List V):Option V:=
 match aM P t with
 |none=>none
 |some d=>if cB d.desc then(if d.size≤cs.length then some (.agg (cs.take d.size))else none)else cs.head?
theorem LiesAt.take {w:World}{ad:Addr}{vs:List Value}(h:LiesAt w ad vs.toArray)(n:Nat):LiesAt w ad (vs.take n).toArray:=fun j u hu=>by
 refine h j u ?_
 simp only[a2p,a2v]at hu⊢
 split at hu
 ·exact hu
 cases hu
theorem LiesAt.drop {w:World}{ad:Addr}{vs:List Value}(h:LiesAt w ad vs.toArray)(n:Nat):LiesAt w (ad.add n) (vs.drop n).toArray:=fun j u hu=>by
 rw[vA]
 refine h _ u ?_
 simpa using hu
section
variable {X:Nat→Prop}{M:List (Option Nat)}{P:Program}{w:World}{t:TypeId}
theorem aNI {ad:Addr}{cs:List V}{vs:List Value}{x:V}(hc:VCells X M w cs vs)(hl:LiesAt w ad vs.toArray)(hp:iK P t cs=some x):
  ∃v,(loadVar t ad).run P w= .ok v w∧VR X M w x v:=by
 unfold iK at hp
 split at hp
 ·cases hp
 rename_i d hd
 unfold loadVar
 rw[Sem.run_bind,aPe hd,Result.andThen_ok]
 split at hp
 ·rename_i hag
  split at hp
  ·rename_i hsz
   injection hp with hp
   subst hp
   have hlen:(vs.take d.size).length=d.size:=by simp[←hc.len];omega
   refine⟨.agg (vs.take d.size).toArray, ?_, ?_⟩
   ·simp only[hag,if_true]
    rw[Sem.run_bind,fF hd,Result.andThen_ok,Sem.run_bind]
    have:=aJS (P:=P) (w:=w) ad (vs.take d.size) (hl.take _)
    rw[hlen]at this
    rw[this,Result.andThen_ok]
    rfl
   unfold VR;exact⟨_,rfl,hc.take _⟩
  cases hp
 rename_i hag
 rw[a2B]at hp
 obtain⟨v,hv,hr⟩:=hc.get hp
 refine⟨v, ?_,hr⟩
 simp only[hag]
 have h0:=hl 0 v (by simpa using hv)
 have:ad.add 0=ad:=by simp[Addr.add]
 rw[this]at h0
 simp[load,Sem.run,h0]
theorem aNx {cs:List V}{vs:List Value}{off:Nat}{x:V}(hc:VCells X M w cs vs)(hp:iK P t (cs.drop off)=some x):
  ∃v,(part t vs.toArray off).run P w= .ok v w∧VR X M w x v:=by
 unfold iK at hp
 split at hp
 ·cases hp
 rename_i d hd
 unfold part
 rw[Sem.run_bind,aPe hd,Result.andThen_ok]
 have hcd:=hc.drop off
 split at hp
 ·rename_i hag
  split at hp
  ·rename_i hsz
   injection hp with hp
   subst hp
   refine⟨.agg ((vs.drop off).take d.size).toArray, ?_,by unfold VR;exact⟨_,rfl,hcd.take _⟩⟩
   simp only[hag,if_true]
   rw[Sem.run_bind,fF hd,Result.andThen_ok]
   simp only[List.extract_toArray,List.extract_eq_drop_take']
   show Result.ok _ _=_
   congr 2
   simp[List.take_drop]
  cases hp
 rename_i hag
 rw[a2B]at hp
 obtain⟨v,hv,hr⟩:=hcd.get hp
 refine⟨v, ?_,hr⟩
 simp only[hag]
 have h0:vs[off]? =some v:=by simpa using hv
 simp[h0]
end
section
variable {X:Nat→Prop}{M:List (Option Nat)}{w:World}
theorem VR.oneCell {x:V}{v:Value}(h:VR X M w x v)(hx:x.one=true):v.oneCell'=true:=by
 cases x<;>simp[V.one]at hx
 case sc c=>unfold VR at h;subst h;exact hx
 case row nil k es=>unfold VR at h;obtain⟨a,cap,rfl,_⟩:=h;rfl
 case ptr b off=>unfold VR at h;obtain⟨g,sh,_,rfl,_⟩:=h;rfl
 case mp b=>unfold VR at h;obtain⟨g,_,rfl,_⟩:=h;rfl
 case sl b off n k ag=>unfold VR at h;rcases h with⟨_,rfl,_⟩|⟨g,cap,e,sz,_,rfl,_⟩<;>rfl
 case eptr es i off=>unfold VR at h;obtain⟨ad,k,rfl,_⟩:=h;rfl
theorem eC {v:Value}(h:v.oneCell'=true):v.cells= #[v]:=by cases v<;>first|rfl|simp[Value.oneCell']at h
theorem VCells.oneCell {cs:List V}{vs:List Value}(h:VCells X M w cs vs)(hx:cs.all V.one=true): ∀v∈vs,v.oneCell'=true:=by
 intro v hv
 obtain⟨i,hi,rfl⟩:=List.mem_iff_getElem.1 hv
 have hc:i<cs.length:=by rw[h.len];exact hi
 obtain⟨u,hu,hr⟩:=h.get (a11 hc)
 rw[a11 hi]at hu
 injection hu with hu
 rw[hu]
 exact hr.oneCell (a1T.1 hx _ (List.getElem_mem hc))
theorem VR.cells' {x:V}{v:Value}(h:VR X M w x v)(hx:x.flatOk=true):VCells X M w x.cells v.cells.toList∧ ∀u∈v.cells.toList,u.oneCell'=true:=by
 have key:VCells X M w x.cells v.cells.toList:=by
  cases x with
  |agg cs=>unfold VR at h;obtain⟨vs,rfl,hc⟩:=h;simpa[V.cells,Value.cells]using hc
  |any=>simp[V.flatOk,V.cells,V.one]at hx
  |tup cs=>simp[V.flatOk,V.cells,V.one]at hx
  |sc c=>rw[eC (h.oneCell (by simpa[V.flatOk,V.cells]using hx))];simp only[V.cells];unfold VCells;exact⟨v,[],rfl,h,by unfold VCells;rfl⟩
  |row _ _ _=>rw[eC (h.oneCell rfl)];simp only[V.cells];unfold VCells;exact⟨v,[],rfl,h,by unfold VCells;rfl⟩
  |mp _=>rw[eC (h.oneCell rfl)];simp only[V.cells];unfold VCells;exact⟨v,[],rfl,h,by unfold VCells;rfl⟩
  |ptr _ _=>rw[eC (h.oneCell rfl)];simp only[V.cells];unfold VCells;exact⟨v,[],rfl,h,by unfold VCells;rfl⟩
  |sl _ _ _ _ _=>rw[eC (h.oneCell rfl)];simp only[V.cells];unfold VCells;exact⟨v,[],rfl,h,by unfold VCells;rfl⟩
  |eptr _ _ _=>rw[eC (h.oneCell rfl)];simp only[V.cells];unfold VCells;exact⟨v,[],rfl,h,by unfold VCells;rfl⟩
 exact⟨key,key.oneCell hx⟩
end
theorem aSU {w:World}{o:Obj}{g:Nat}{sh:TypeId×Nat}(h:w.shape? g=some sh):(w.alloc o).shape? g=some sh:=by
 have hg:g<w.heap.size:=by
  rcases a16 g w.heap.size with h'|h'
  ·exact h'
  simp[World.shape?,a2m h']at h
 have:(w.alloc o).heap[g]? =w.heap[g]? :=RowKit.Below.heap_alloc w o g hg
 unfold World.shape? at *
 rw[this];exact h
theorem aOX (w:World)(cs:Array Value)(e:TypeId):(w.alloc (.cells cs e)).shape? w.heap.size=some (e,cs.size):=by
 unfold World.shape?; rw[heap_alloc_new w _]
theorem Ext.alloc (S:Nat→Prop)(w:World)(o:Obj):Ext S w (w.alloc o):=
 ⟨rfl,⟨rfl,a1W _⟩,rfl,by simp,fun g hg _=>RowKit.Below.heap_alloc w o g hg,fun _ _ h=>aSU h,fun g hg h=>by unfold World.shape? at *; rw[show(w.alloc o).heap[g]? =w.heap[g]? from RowKit.Below.heap_alloc w o g hg];exact h⟩
theorem Ext.drew (S:Nat→Prop)(w:World):Ext S w w.drew:=⟨rfl,⟨rfl,Nat.le_succ _⟩,rfl,a1W _,fun _ _ _=>rfl,fun _ _ h=>h,fun _ _ h=>h⟩
theorem HR.drew {A:Nat→Prop}{M:List (Option Nat)}{h:Hp}{w:World}(H:HR A M h w):HR A M h w.drew:=
 ⟨H.len,H.alt,fun b B hb=>by
  obtain⟨h0,hn|⟨g,cs,h1,h2,h3,h4,h5⟩⟩:=H.blk b B hb
  ·exact⟨h0,.inl hn⟩
  exact⟨h0,.inr ⟨g,cs,h1,h2,h3,h4,VCells.ext (Ext.drew (fun _=>False) w) (a1R _) (fun _ _ h=>h.elim) (fun _ _ h=>h) _ _ h5⟩⟩,H.inj,H.glob.ext (Ext.drew (fun _=>False) w) (fun _ _ h=>h.elim) (fun _ _ h=>h)⟩
theorem Grow.drew {A:Nat→Prop}{M:List (Option Nat)}{h:Hp}{w:World}(H:HR A M h w):Grow A M h w M h w.drew:=
 ⟨a1R _,H.drew,Ext.drew _ _,fun _ _ h=>h⟩
theorem kK {α:Type}{l:List α}{x:α}{b:Nat}{y:α}(h:l[b]? =some y):(l++[x])[b]? =some y:=by
 rw[a1U (a1M.1 h).1];exact h
theorem eR {α:Type}{l:List α}{x:α}{b:Nat}{y:α}(h:(l++[x])[b]? =some y):l[b]? =some y∨(b=l.length∧y=x):=by
 rcases a16 b l.length with hl|hl
 ·rw[a1U hl]at h;exact .inl h
 rw[a1Z hl]at h
 rcases Nat.eq_or_lt_of_le hl with he|he
 ·rw[←he]at h;simp at h;exact .inr ⟨he.symm,h.symm⟩
 rw[a2d (by simp;omega)]at h;cases h
theorem k7 {M:List (Option Nat)}{s b g:Nat}(h:(M++[some s])[b]? =some (some g)):M[b]? =some (some g)∨(b=M.length∧g=s):=by
 rcases eR h with h|⟨h,h'⟩
 ·exact .inl h
 injection h' with h';exact .inr ⟨h,h'⟩
theorem HR.mlt {A:Nat→Prop}{M:List (Option Nat)}{h:Hp}{w:World}(H:HR A M h w){b g:Nat}{B:Blk}(hb:h[b]? =some (some B))(hm:M[b]? =some (some g)):g<w.heap.size:=H.lt (.inr ⟨b,B,hb,hm⟩)
theorem Grow.allocF {A:Nat→Prop}{M:List (Option Nat)}{h:Hp}{w:World}(H:HR A M h w)(e:TypeId)(cells:List V)(vs:Array Value)(hle:cells.length≤vs.size)(hc:VCells (Xs A M h) M w cells (vs.toList.take cells.length))(h1: ∀c∈cells,c.one=true)(f:Nat×Nat)(hf:f=(0,0)∨f=(vs.size,vs.size+1)):
  Grow A M h w (M++[some w.heap.size]) (h++[some ⟨e,cells⟩]) (w.alloc (.cells vs e f)):=by
 have hE:Ext (c8 M h) w (w.alloc (.cells vs e f)):=Ext.alloc _ _ _
 have hlive: ∀g,g<w.heap.size→c8 (M++[some w.heap.size]) (h++[some ⟨e,cells⟩]) g→c8 M h g:=by
  rintro g hg ⟨b,B,hb,hm⟩
  rcases eR hm with hm'|⟨_,hm'⟩
  ·rcases eR hb with hb'|⟨rfl,_⟩
   ·exact⟨b,B,hb',hm'⟩
   have:=(a1M.1 hm').1;rw[H.len]at this;omega
  injection hm';omega
 have keep: ∀cs us,VCells (Xs A M h) M w cs us→VCells (Xs A (M++[some w.heap.size]) (h++[some ⟨e,cells⟩])) (M++[some w.heap.size]) (w.alloc (.cells vs e f)) cs us:=
  fun cs us hh=>VCells.ext hE ⟨_,rfl⟩ (fun _ _ hl=> .inr hl) (fun g hg hx=>hx.elim .inl (fun hl=> .inr (hlive g hg hl))) cs us hh
 refine⟨⟨_,rfl⟩,⟨by simp[H.len],fun g hg=>by have:=H.alt g hg;simp;omega, ?_, ?_,H.glob.grow hE hlive⟩,hE,hlive⟩
 ·intro b B hb
  rcases eR hb with hb'|⟨hbl,hB⟩
  ·obtain⟨h0,⟨hn,hn'⟩|⟨g,cs,h1,h2,h3,h4,h5⟩⟩:=H.blk b B hb'
   ·exact⟨h0,.inl ⟨kK hn,hn'⟩⟩
   exact⟨h0,.inr ⟨g,cs,kK h1,h2,h3.to (RowKit.Below.heap_alloc w _ g (H.mlt hb' h1)),h4,keep _ _ h5⟩⟩
  injection hB with hB
  subst hB
  refine⟨h1,.inr ⟨w.heap.size,vs,by rw[hbl,←H.len];simp,fun ha=>Nat.lt_irrefl _ (H.alt _ ha),.inl ⟨f,hf,heap_alloc_new w _⟩,hle,keep _ _ hc⟩⟩
 intro b b' B B' g hb hb' hm hm'
 rcases eR hb with h1|⟨h1,_⟩<;>rcases eR hb' with h2|⟨h2,_⟩<;>rcases k7 hm with m1|⟨m1,m1'⟩<;>rcases k7 hm' with m2|⟨m2,m2'⟩
 ·exact H.inj b b' B B' g h1 h2 m1 m2
 ·have:=H.mlt h1 m1;omega
 ·have:=H.mlt h2 m2;omega
 ·have:=(a1M.1 h1).1;rw[m1,H.len]at this;omega
 all_goals first
  |(have:=(a1M.1 m2).1;rw[H.len]at this;omega)
  |(have:=(a1M.1 m1).1;rw[H.len]at this;omega)
  |(have:=H.mlt h1 m1;omega)
  |(have:=H.mlt h2 m2;omega)
  |omega
def splice {α:Type}(l:List α)(off:Nat)(vs:List α):List α:=l.take off++vs++l.drop (off+vs.length)
theorem Grow.alloc {A:Nat→Prop}{M:List (Option Nat)}{h:Hp}{w:World}(H:HR A M h w)(e:TypeId)(cells:List V)(vs:Array Value)(hle:cells.length≤vs.size)(hc:VCells (Xs A M h) M w cells (vs.toList.take cells.length))(h1: ∀c∈cells,c.one=true):
  Grow A M h w (M++[some w.heap.size]) (h++[some ⟨e,cells⟩]) (w.alloc (.cells vs e)):=Grow.allocF H e cells vs hle hc h1 (0,0) (.inl rfl)
theorem aNh {α:Type}(l:List α)(k:Nat)(v:α)(vs:List α)(hk:k<l.length):splice (l.set k v) (k+1) vs=splice l k (v::vs):=by
 unfold splice
 have h1:(l.set k v).take (k+1)=l.take k++[v]:=by
  rw[List.take_succ_eq_append_getElem (by simpa using hk)]
  simp[List.take_set_of_le]
 have h2:(l.set k v).drop (k+1+vs.length)=l.drop (k+(v::vs).length):=by
  rw[List.drop_set_of_lt (by omega)]
  congr 1
  simp;omega
 rw[h1,h2]
 simp
theorem aM3 {w:World}{g off:Nat}{cs:Array Value}{e:TypeId}{f:Nat×Nat}(h:w.heap[g]? =some (.cells cs e f))(v:Value):
  w.setCell ⟨g,off,none⟩ v={w with heap:=w.heap.setIfInBounds g (.cells (cs.setIfInBounds off v) e f)}:=by
 unfold World.setCell
 congr 1
 apply a2W
 apply a2g
 intro i
 have hg:g<w.heap.size:=(a1S.1 h).1
 simp only[a2q,Array.getElem?_modify,a2c]
 by_cases hi:g=i
 ·subst hi;rw[h];simp[hg]
 simp[hi]
theorem aC0 {P:Program}{g:Nat}{e:TypeId}{f:Nat×Nat}{sz:Nat}(hf:f=(0,0)∨f=(sz,sz+1)): ∀(vs:List Value)(off i:Nat)(w:World)(cs:Array Value),cs.size=sz→w.heap[g]? =some (.cells cs e f)→(∀v∈vs,v.oneCell'=true)→
  off+i+vs.length≤cs.size→
  (storeCells ⟨g,off,none⟩ vs i).run P w= .ok () {w with heap:=w.heap.setIfInBounds g (.cells (splice cs.toList (off+i) vs).toArray e f)}
 | [],off,i,w,cs,_,h,_,_=>by
  simp only[storeCells,splice,List.append_nil,a2E,a2w,List.take_append_drop]
  show Result.ok () w=_
  congr 1
  have hg:g<w.heap.size:=(a1S.1 h).1
  have:w.heap.setIfInBounds g (.cells cs.toList.toArray e f)=w.heap:=by
   apply a2W
   apply a2g
   intro j
   simp only[a2q,a2c]
   by_cases hj:g=j
   ·subst hj;rw[h];simp[hg]
   simp[hj]
  rw[this]
 |v::vs,off,i,w,cs,hsz,h,h1,hs=>by
  have hv:=h1 v (by simp)
  have hlt:off+i<cs.size:=by simp at hs;omega
  have hadd:(Addr.mk g off none).add i=⟨g,off+i,none⟩:=by unfold Addr.add;split<;>simp_all
  have hcell:w.cell? ⟨g,off+i,none⟩=some cs[off+i]:=by simp[World.cell?,h,hlt]
  have hfz:w.frozen? ⟨g,off+i,none⟩=false:=by
   unfold World.frozen?; rw[h];exact aSj hf (show off+i<sz by omega)
  have hw:=aM3 (off:=off+i) h v
  have hg:g<w.heap.size:=(a1S.1 h).1
  have ih:=aC0 (P:=P) (g:=g) (e:=e) hf vs off (i+1) (w.setCell ⟨g,off+i,none⟩ v) (cs.setIfInBounds (off+i) v) (by simpa using hsz) (by rw[hw];simp[hg]) (fun u hu=>h1 u (by simp[hu])) (by simp at hs ⊢; omega)
  have step:(storeCells ⟨g,off,none⟩ (v::vs) i).run P w=(storeCells ⟨g,off,none⟩ vs (i+1)).run P (w.setCell ⟨g,off+i,none⟩ v):=by
   simp only[storeCells,hadd]
   show Sem.run P (Sem.bind (Sem.store .plain ⟨g,off+i,none⟩ v (Sem.pure ())) _) w=_
   cases v<;>first|(simp only[Sem.bind,Sem.run,hcell,hfz];rfl)|simp[Value.oneCell']at hv
  rw[step,ih,hw]
  congr 1
  simp only[World.mk.injEq,and_true,Array.setIfInBounds_setIfInBounds]
  congr 2
  apply congrArg a2x
  rw[a2u]
  exact aNh _ (off+i) v vs (by simpa using hlt)
theorem aAE {α:Type}(l:List α)(off:Nat)(vs:List α)(h:off+vs.length≤l.length):(splice l off vs).length=l.length:=by
 unfold splice;simp;omega
theorem aR4 {α:Type}(l:List α)(off n:Nat)(vs:List α)(h:off+vs.length≤n)(hn:n≤l.length):(splice l off vs).take n=splice (l.take n) off vs:=by
 unfold splice
 rw[a2O,a2O,List.take_take,List.take_take]
 have h1:(List.take off l++vs).length=off+vs.length:=by simp;omega
 rw[a10 (l:=vs) (by simp;omega),h1,a2F (by omega:off≤n),Nat.min_eq_right (by omega:off≤n)]
 congr 1
 rw[List.take_drop]
 congr 2
 omega
section
variable {X:Nat→Prop}{M:List (Option Nat)}{w:World}
theorem VCells.splice {cs ds:List V}{vs us:List Value}(h:VCells X M w cs vs)(k:VCells X M w ds us)(off:Nat):VCells X M w (splice cs off ds) (splice vs off us):=by
 unfold Vm.splice
 rw[k.len]
 exact((h.take off).append k).append (h.drop _)
end
theorem Ext.setBlock {S:Nat→Prop}{w:World}{g:Nat}{cs cs':Array Value}{e:TypeId}{f:Nat×Nat}(h:w.heap[g]? =some (.cells cs e f))(hs:cs'.size=cs.size)(hS:S g):
  Ext S w {w with heap:=w.heap.setIfInBounds g (.cells cs' e f)}:=by
 have hg:g<w.heap.size:=(a1S.1 h).1
 refine⟨rfl,⟨rfl,a1W _⟩,rfl,by simp,fun k hk hn=> ?_,fun k sh hsh=> ?_,fun k hk hsh=> ?_⟩
 ·show(w.heap.setIfInBounds g _)[k]? =_
  rw[a1Q (by rintro rfl;exact hn hS)]
 ·unfold World.shape? at *
  show(match(w.heap.setIfInBounds g (.cells cs' e f))[k]? with|some (.cells c elem _)=>some (elem,c.size)|_=>none)=some sh
  by_cases hk:g=k
  ·subst hk
   rw[a2e hg]
   rw[h]at hsh
   simpa[hs]using hsh
  rw[a1Q hk];exact hsh
 unfold World.shape? at *
 show(match(w.heap.setIfInBounds g (.cells cs' e f))[k]? with|some (.cells c elem _)=>some (elem,c.size)|_=>none)=none
 by_cases hk:g=k
 ·subst hk
  rw[h]at hsh
  cases hsh
 rw[a1Q hk];exact hsh
theorem lK {α:Type}{l:List α}{b i:Nat}{x y:α}(h:(l.set b x)[i]? =some y):(i=b∧y=x)∨(i≠b∧l[i]? =some y):=by
 by_cases hi:i=b
 ·subst hi
  rcases a16 i l.length with hl|hl
  ·rw[a2C hl]at h;injection h with h;exact .inl ⟨rfl,h.symm⟩
  rw[a2d (by simpa using hl)]at h;cases h
 rw[a2h (Ne.symm hi)]at h;exact .inr ⟨hi,h⟩
theorem aQ0 {M:List (Option Nat)}{h:Hp}{b:Nat}{B B':Blk}(hb:h[b]? =some (some B)){g:Nat}(hl:c8 M (h.set b (some B')) g):c8 M h g:=by
 obtain⟨i,C,hi,hm⟩:=hl
 rcases lK hi with⟨rfl,_⟩|⟨_,hi'⟩
 ·exact⟨i,B,hb,hm⟩
 exact⟨i,C,hi',hm⟩
theorem Grow.store {P:Program}{A:Nat→Prop}{M:List (Option Nat)}{h:Hp}{w:World}(H:HR A M h w){b:Nat}{B:Blk}(hb:h[b]? =some (some B)){off:Nat}{news:List V}{vs:List Value}
  (hoff:off+news.length≤B.cells.length) (hc:VCells (Xs A M h) M w news vs) (h1: ∀v∈vs,v.oneCell'=true) {g:Nat} (hg:M[b]? =some (some g)) {sh:TypeId×Nat} (hs:w.shape? g=some sh) (hone: ∀c∈news,c.one=true):
  ∃w',(storeCells ⟨g,off,none⟩ vs).run P w= .ok () w'∧Grow A M h w M (h.set b (some ⟨B.e,Vm.splice B.cells off news⟩)) w':=by
 obtain⟨hB1,⟨hn,_⟩|⟨g',cs,hg',hA,hh,hle,hcs⟩⟩:=H.blk b B hb
 ·rw[hg]at hn;cases hn
 rw[hg]at hg';injection hg' with hg';injection hg' with hg';subst hg'
 have hlen:=hc.len
 obtain⟨f,hf,hh⟩:=hh.inCells hs
 refine⟨_,aC0 hf vs off 0 w cs rfl hh h1 (by omega), ?_⟩
 simp only[a2w]
 have hsz:(Vm.splice cs.toList off vs).toArray.size=cs.size:=by
  simp only[a2M];rw[aAE _ _ _ (by simp;omega)];simp
 have hE:Ext (c8 M h) w {w with heap:=w.heap.setIfInBounds g (.cells (Vm.splice cs.toList off vs).toArray B.e f)}:=Ext.setBlock hh hsz ⟨b,B,hb,hg⟩
 have hlive: ∀k,k<w.heap.size→c8 M (h.set b (some ⟨B.e,Vm.splice B.cells off news⟩)) k→c8 M h k:=fun k _ hl=>aQ0 hb hl
 have keep: ∀cs us,VCells (Xs A M h) M w cs us→VCells (Xs A M (h.set b (some ⟨B.e,Vm.splice B.cells off news⟩))) M _ cs us:=
  fun cs us hk=>VCells.ext hE (a1R _) (fun _ _ hl=> .inr hl) (fun k hk hx=>hx.elim .inl (fun hl=> .inr (hlive k hk hl))) cs us hk
 have hgs:g<w.heap.size:=(a1S.1 hh).1
 refine⟨a1R _,⟨by simp[H.len],fun k hk=>by simpa using H.alt k hk, ?_, ?_,H.glob.grow hE hlive⟩,hE,hlive⟩
 ·intro i C hi
  rcases lK hi with⟨rfl,hC⟩|⟨hne,hi'⟩
  ·injection hC with hC
   subst hC
   refine⟨?_,.inr ⟨g,(Vm.splice cs.toList off vs).toArray,hg,hA,.inl ⟨f,by rw[hsz];exact hf,by simp[hgs]⟩, ?_, ?_⟩⟩
   ·intro c hc'
    simp only[Vm.splice,a2G]at hc'
    rcases hc' with(hc'|hc')|hc'
    ·exact hB1 c (a1V hc')
    ·exact hone c hc'
    exact hB1 c (a1Y hc')
   ·rw[hsz];simp only;rw[aAE _ _ _ hoff];exact hle
   have e1:((Vm.splice cs.toList off vs).toArray.toList.take (Vm.splice B.cells off news).length)=Vm.splice (cs.toList.take B.cells.length) off vs:=by
    rw[aAE _ _ _ hoff]
    simp only
    exact aR4 _ _ _ _ (by omega) (by simpa using hle)
   rw[e1]
   exact keep _ _ (hcs.splice hc off)
  obtain⟨h0,hn|⟨k,ds,hk,hA',hh',hle',hds⟩⟩:=H.blk i C hi'
  ·exact⟨h0,.inl hn⟩
  refine⟨h0,.inr ⟨k,ds,hk,hA', ?_,hle',keep _ _ hds⟩⟩
  have hkg:k≠g:=by rintro rfl;exact hne (H.inj i b C B k hi' hb hk hg)
  refine hh'.to ?_
  show(w.heap.setIfInBounds g _)[k]? =_
  rw[a1Q (Ne.symm hkg)]
 intro i j C D k hi hj mi mj
 rcases lK hi with⟨rfl,_⟩|⟨_,hi'⟩<;>rcases lK hj with⟨rfl,_⟩|⟨_,hj'⟩
 ·rfl
 ·exact H.inj i j B D k hb hj' mi mj
 ·exact H.inj i j C B k hi' hb mi mj
 exact H.inj i j C D k hi' hj' mi mj
theorem HR.kill {A:Nat→Prop}{M:List (Option Nat)}{h:Hp}{w:World}(H:HR A M h w)(b:Nat):HR A M (h.set b none) w:=by
 have hl: ∀g,c8 M (h.set b none) g→c8 M h g:=by
  rintro g ⟨i,C,hi,hm⟩
  rcases lK hi with⟨_,hC⟩|⟨_,hi'⟩
  ·cases hC
  exact⟨i,C,hi',hm⟩
 refine⟨by simp[H.len],H.alt,fun i C hi=> ?_,fun i j C D k hi hj mi mj=> ?_,H.glob.avoid fun g _ hx=>hx.elim .inl (fun h'=> .inr (hl g h'))⟩
 ·rcases lK hi with⟨_,hC⟩|⟨_,hi'⟩
  ·cases hC
  obtain⟨h0,hn|⟨k,ds,hk,hA',hh',hle',hds⟩⟩:=H.blk i C hi'
  ·exact⟨h0,.inl hn⟩
  exact⟨h0,.inr ⟨k,ds,hk,hA',hh',hle',VCells.ext (Ext.refl (fun _=>False) w) (a1R _) (fun _ _ h=>h.elim) (fun k hk hx=>hx.elim .inl (fun h'=> .inr (hl k h'))) _ _ hds⟩⟩
 rcases lK hi with⟨_,hC⟩|⟨_,hi'⟩
 ·cases hC
 rcases lK hj with⟨_,hC⟩|⟨_,hj'⟩
 ·cases hC
 exact H.inj i j C D k hi' hj' mi mj
theorem Grow.kill {A:Nat→Prop}{M:List (Option Nat)}{h:Hp}{w:World}(H:HR A M h w)(b:Nat):Grow A M h w M (h.set b none) w:=
 ⟨a1R _,H.kill b,Ext.refl _ _,fun g _ hl=>by
  obtain⟨i,C,hi,hm⟩:=hl
  rcases lK hi with⟨_,hC⟩|⟨_,hi'⟩
  ·cases hC
  exact⟨i,C,hi',hm⟩⟩
def lim :Nat:=140737488355328
theorem Grow.move {A:Nat→Prop}{M:List (Option Nat)}{h:Hp}{w w':World}(H:HR A M h w){b g:Nat}{B:Blk}(hb:h[b]? =some (some B))(hg:M[b]? =some (some g))
  (hE:Ext (c8 M h) w w') (hoth: ∀k,k≠g→k<w.heap.size→w'.heap[k]? =w.heap[k]?) {cs':Array Value} {e:TypeId} {cells:List V} (hh:Holds w' g cs' e cells.length)
  (hle:cells.length≤cs'.size) (hc:VCells (Xs A M h) M w cells (cs'.toList.take cells.length)) (h1: ∀c∈cells,c.one=true):
  Grow A M h w (M++[some g]) (h.set b none++[some ⟨e,cells⟩]) w':=by
 have hA: ¬A g:=by
  obtain⟨_,⟨hn,_⟩|⟨g',cs,hg',hA,_⟩⟩:=H.blk b B hb
  ·rw[hg]at hn;cases hn
  rw[hg]at hg';injection hg' with hg';injection hg' with hg';subst hg';exact hA
 have hold: ∀(i:Nat)(C:Blk),(h.set b none++[some ⟨e,cells⟩])[i]? =some (some C)→(i≠b∧h[i]? =some (some C))∨(i=h.length∧C=⟨e,cells⟩):=by
  intro i C hi
  rcases eR hi with hi|⟨hi,hC⟩
  ·rcases lK hi with⟨_,hC⟩|⟨hne,hi'⟩
   ·cases hC
   exact .inl ⟨hne,hi'⟩
  injection hC with hC;exact .inr ⟨by simpa using hi,hC⟩
 have hlive: ∀k,k<w.heap.size→c8 (M++[some g]) (h.set b none++[some ⟨e,cells⟩]) k→c8 M h k:=by
  rintro k hk ⟨i,C,hi,hm⟩
  rcases hold i C hi with⟨_,hi'⟩|⟨rfl,_⟩
  ·rcases k7 hm with hm'|⟨hl,_⟩
   ·exact⟨i,C,hi',hm'⟩
   have:=(a1M.1 hi').1;rw[H.len]at hl;omega
  rcases k7 hm with hm'|⟨_,hl⟩
  ·have:=(a1M.1 hm').1;rw[H.len]at this;omega
  subst hl;exact⟨b,B,hb,hg⟩
 have keep: ∀cs us,VCells (Xs A M h) M w cs us→VCells (Xs A (M++[some g]) (h.set b none++[some ⟨e,cells⟩])) (M++[some g]) w' cs us:=
  fun cs us hk=>VCells.ext hE ⟨_,rfl⟩ (fun _ _ hl=> .inr hl) (fun k hk hx=>hx.elim .inl (fun hl=> .inr (hlive k hk hl))) cs us hk
 refine⟨⟨_,rfl⟩,⟨by simp[H.len],fun k hk=>a1X (H.alt k hk) hE.size, ?_, ?_,H.glob.grow hE hlive⟩,hE,hlive⟩
 ·intro i C hi
  rcases hold i C hi with⟨hne,hi'⟩|⟨rfl,rfl⟩
  ·obtain⟨h0,⟨hn,hn'⟩|⟨k,ds,hk,hA',hh',hle',hds⟩⟩:=H.blk i C hi'
   ·exact⟨h0,.inl ⟨kK hn,hn'⟩⟩
   refine⟨h0,.inr ⟨k,ds,kK hk,hA', ?_,hle',keep _ _ hds⟩⟩
   exact hh'.to (hoth k (by rintro rfl;exact hne (H.inj i b C B k hi' hb hk hg)) (H.mlt hi' hk))
  exact⟨h1,.inr ⟨g,cs',by rw[←H.len];simp,hA,hh,hle,keep _ _ hc⟩⟩
 intro i j C D k hi hj mi mj
 rcases hold i C hi with⟨hne,hi'⟩|⟨rfl,_⟩<;>rcases hold j D hj with⟨hnj,hj'⟩|⟨rfl,_⟩
 ·rcases k7 mi with m1|⟨m1,_⟩
  ·rcases k7 mj with m2|⟨m2,_⟩
   ·exact H.inj i j C D k hi' hj' m1 m2
   have:=(a1M.1 hj').1;rw[H.len]at m2;omega
  have:=(a1M.1 hi').1;rw[H.len]at m1;omega
 ·rcases k7 mi with m1|⟨m1,_⟩
  ·rcases k7 mj with m2|⟨_,m2⟩
   ·have:=(a1M.1 m2).1;rw[H.len]at this;omega
   subst m2;exact absurd (H.inj i b C B k hi' hb m1 hg) hne
  have:=(a1M.1 hi').1;rw[H.len]at m1;omega
 ·rcases k7 mj with m1|⟨m1,_⟩
  ·rcases k7 mi with m2|⟨_,m2⟩
   ·have:=(a1M.1 m2).1;rw[H.len]at this;omega
   subst m2;exact absurd (H.inj j b D B k hj' hb m1 hg) hnj
  have:=(a1M.1 hj').1;rw[H.len]at m1;omega
 rfl
theorem Grow.virt {A:Nat→Prop}{M:List (Option Nat)}{h:Hp}{w:World}(H:HR A M h w)(e:TypeId):Grow A M h w (M++[none]) (h++[some ⟨e,[]⟩]) w:=by
 have hlive: ∀g,c8 (M++[none]) (h++[some ⟨e,[]⟩]) g→c8 M h g:=by
  rintro g ⟨b,B,hb,hm⟩
  rcases eR hm with hm'|⟨_,hm'⟩
  ·rcases eR hb with hb'|⟨rfl,_⟩
   ·exact⟨b,B,hb',hm'⟩
   have:=(a1M.1 hm').1;rw[H.len]at this;omega
  cases hm'
 have keep: ∀cs us,VCells (Xs A M h) M w cs us→VCells (Xs A (M++[none]) (h++[some ⟨e,[]⟩])) (M++[none]) w cs us:=
  fun cs us hh=>VCells.ext (Ext.refl (c8 M h) w) ⟨_,rfl⟩ (fun _ _ hl=> .inr hl) (fun g hg hx=>hx.elim .inl (fun hl=> .inr (hlive g hl))) cs us hh
 refine⟨⟨_,rfl⟩,⟨by simp[H.len],H.alt, ?_, ?_,H.glob.avoid fun g _ hx=>hx.elim .inl (fun h'=> .inr (hlive g h'))⟩,Ext.refl _ _,fun g _ hl=>hlive g hl⟩
 ·intro b B hb
  rcases eR hb with hb'|⟨hbl,hB⟩
  ·obtain⟨h0,⟨hn,hn'⟩|⟨g,cs,h1,h2,h3,h4,h5⟩⟩:=H.blk b B hb'
   ·exact⟨h0,.inl ⟨kK hn,hn'⟩⟩
   exact⟨h0,.inr ⟨g,cs,kK h1,h2,h3,h4,keep _ _ h5⟩⟩
  injection hB with hB
  subst hB
  exact⟨by simp,.inl ⟨by rw[hbl,←H.len];simp,rfl⟩⟩
 intro b b' B B' g hb hb' hm hm'
 rcases eR hm with m1|⟨_,m1⟩
 ·rcases eR hm' with m2|⟨_,m2⟩
  ·rcases eR hb with h1|⟨h1,_⟩
   ·rcases eR hb' with h2|⟨h2,_⟩
    ·exact H.inj b b' B B' g h1 h2 m1 m2
    have:=(a1M.1 m2).1;rw[H.len]at this;omega
   have:=(a1M.1 m1).1;rw[H.len]at this;omega
  cases m2
 cases m1
theorem aLu {w:World}{g:Nat}{cs cs':Array Value}{e:TypeId}{f:Nat×Nat}(h:w.heap[g]? =some (.cells cs e f)):
  w.setRow g cs'={w with heap:=w.heap.setIfInBounds g (.cells cs' e f)}:=by
 have h1:=setRow_heap w g cs cs' e f h
 have hg:g<w.heap.size:=(a1S.1 h).1
 have hw:w.setRow g cs'={w with heap:=(w.setRow g cs').heap}:=by unfold World.setRow;rfl
 rw[hw]
 congr 1
 apply a2W
 apply a2g
 intro i
 simp only[a2q,a2c]
 by_cases hi:g=i
 ·subst hi;rw[h1];simp[hg]
 rw[setRow_other w g i cs' (fun e=>hi e.symm)];simp[hi]
theorem aR7 {P:Program}{w:World}(t ty e:TypeId)(i:TypeInfo)(ht:P.underlying t=some (.slice e))(hi:P.info? e=some i)
  (g sLen sCap:Nat) (cur:Array Value) {f:Nat×Nat} (hfz:f=(0,0)∨f=(cur.size,cur.size+1)) (hg:w.heap[g]? =some (.cells cur e f))
  (a:Addr) (m c:Nat) (news:List Value) (hl:news.length=m*i.size) (hnews: ∀j u,news[j]? =some u→w.cell? (a.add j)=some u) (h1: ∀u∈news,u.oneCell'=true)
  (hroom:sLen+m≤sCap) (hfit:sLen*i.size+news.length≤cur.size):
  (Builtin.append_ #[t,t] ty #[.slice (some ⟨g,0,none⟩) sLen sCap,.slice (some a) m c]).run P w=
   .ok (.slice (some ⟨g,0,none⟩) (sLen+m) sCap) (w.setRow g (cur.toList.take (sLen*i.size)++news++cur.toList.drop (sLen*i.size+news.length)).toArray):=by
 have hf:=run_firstCells_some (P:=P) w i.size m a m c news hl hnews
 have hst:=aC0 (P:=P) hfz news (sLen*i.size) 0 w cur rfl hg h1 (by simpa using hfit)
 simp only[a2w]at hst
 rw[aLu hg]
 simp[Builtin.append_,run_underlying ht,sizeOf,typeInfo,hi,Builtin.lenOf,hroom,hf,Addr.add_lit,hst,splice]
structure Src (X:Nat→Prop)(M:List (Option Nat))(w:World)(k:Nat)(news:List V)(m:Nat)(v:Value):Prop where
 one: ∀c∈news,c.one=true
 len:news.length=m*k
 is:(∃c,v= .slice none 0 c∧m=0)∨ ∃ad c vs,v= .slice (some ad) m c∧VCells X M w news vs∧LiesAt w ad vs.toArray
theorem aK4 {P:Program}{A:Nat→Prop}{M:List (Option Nat)}{h:Hp}{w:World}(H:HR A M h w){t ty e:TypeId}{d dt:TI}(ht:aM P t=some dt)(hts:dt.desc= .slice e)(hd:aM P e=some d)
  (hz:d.zero.cells.size=d.size) (h0:0<d.size) {v x:Value} {b n m:Nat} {B:Blk} {news:List V}
  (hb:h[b]? =some (some B)) (he:B.e=e) (hn:n*d.size≤B.cells.length) {ag:Bool} (hv:VR (Xs A M h) M w (.sl b 0 n d.size ag) v)
  (hs:Src (Xs A M h) M w d.size news m x) (hlim:(n+m)*d.bytes≤lim) (hby:1≤d.bytes):
  ∃v' w' M',(Builtin.append_ #[t,t] ty #[v,x]).run P w= .ok v' w'∧Grow A M h w M' (h.set b none++[some ⟨e,B.cells.take (n*d.size)++news⟩]) w'∧
   VR (Xs A M' (h.set b none++[some ⟨e,B.cells.take (n*d.size)++news⟩])) M' w' (.sl h.length 0 (n+m) d.size ag) v':=by
 obtain⟨hu,_,_,_,_,_⟩:=cR ht
 rw[hts]at hu
 obtain⟨_,i,hi,hsz,hbt,hzz⟩:=cR hd
 have hnm:n+m≤lim:=Nat.le_trans (by have:=Nat.mul_le_mul_left (n+m) hby;omega) hlim
 have hB1:=(H.blk b B hb).1
 have h1: ∀c∈B.cells.take (n*d.size)++news,c.one=true:=by
  intro c hc
  rcases List.mem_append.1 hc with hc|hc
  ·exact hB1 c (List.mem_of_mem_take hc)
  exact hs.one c hc
 have hlV:(B.cells.take (n*d.size)++news).length=(n+m)*d.size:=by
  rw[List.length_append,List.length_take,hs.len,Nat.min_eq_left hn,Nat.add_mul]
 unfold VR at hv
 have hlenM:h.length=M.length:=H.len.symm
 rcases hv with⟨hM,rfl,rfl,_⟩|⟨g,cap,e',sz',hM,rfl,hnc,hcm,_,hshape,hszle⟩
 ·
  have hBc:B.cells=[]:=by
   rcases(H.blk b B hb).2 with⟨_,hh⟩|⟨g,cs,hg,_⟩
   ·exact hh
   rw[hM]at hg;cases hg
  simp only[Nat.zero_mul,List.take_zero,List.nil_append,Nat.zero_add]at *
  have K:=Grow.kill H b
  rcases hs.is with⟨c,rfl,rfl⟩|⟨ad,c,vs,rfl,hc,hl⟩
  ·have hnews:news=[]:=List.eq_nil_of_length_eq_zero (by simpa using hs.len)
   subst hnews
   refine⟨.slice none 0 0,w,M++[none], ?_,K.trans (Grow.virt K.hr e), ?_⟩
   ·simp[Builtin.append_,run_underlying hu,sizeOf,typeInfo,hi,Builtin.lenOf,Builtin.firstCells]
   unfold VR;exact .inl ⟨by rw[hlenM];simp,rfl,rfl,rfl⟩
  rcases Nat.eq_zero_or_pos m with rfl|hm
  ·have hnews:news=[]:=List.eq_nil_of_length_eq_zero (by simpa using hs.len)
   subst hnews
   refine⟨.slice none 0 0,w,M++[none], ?_,K.trans (Grow.virt K.hr e), ?_⟩
   ·simp[Builtin.append_,run_underlying hu,sizeOf,typeInfo,hi,Builtin.lenOf,Builtin.firstCells,loadCells,loadCellsFrom]
   unfold VR;exact .inl ⟨by rw[hlenM];simp,rfl,rfl,rfl⟩
  have hr:=run_append_nil (P:=P) w t ty e i d.zero hu hi hzz ad m c vs (by rw[←hc.len,hs.len,hsz]) (fun j u hj=>hl j u (by simpa using hj)) hm (by unfold lim at hnm;omega) (by rw[hbt];unfold lim at hlim;omega)
  have hge:=grownCap_ge w m 0 e
  have hcm:grownCap w m 0 e≤maxLen:=grownCap_le_maxLen w m 0 e (by unfold lim at hnm;simp only[maxLen];omega)
  have hvl:vs.length=m*d.size:=by rw[←hc.len,hs.len]
  have Gd:=K.trans (Grow.drew K.hr)
  have G:=Gd.trans (Grow.alloc Gd.hr e news (vs.toArray++Builtin.zeroCells d.zero.cells (grownCap w m 0 e-m)) (by simp[hc.len]) (by
   have:(vs.toArray++Builtin.zeroCells d.zero.cells (grownCap w m 0 e-m)).toList.take news.length=vs:=by
    rw[Array.toList_append,hc.len];exact List.take_left
   rw[this]
   exact VCells.ext Gd.ext (List.prefix_refl _) (fun _ _ hl=> .inr hl) (fun k hk hx=>hx.elim .inl (fun hl=> .inr (Gd.live k hk hl))) _ _ hc) hs.one)
  refine⟨_,_,_,hr,G, ?_⟩
  unfold VR
  refine .inr ⟨w.heap.size,grownCap w m 0 e,e,_,by rw[hlenM];simp,rfl,hge,hcm,h0, ?_,Nat.le_refl _⟩
  show World.shape? (w.drew.alloc _) w.heap.size=_
  unfold World.shape?
  rw[show(w.drew.alloc (.cells (vs.toArray++Builtin.zeroCells d.zero.cells (grownCap w m 0 e-m)) e)).heap[w.heap.size]? =some (.cells (vs.toArray++Builtin.zeroCells d.zero.cells (grownCap w m 0 e-m)) e)from heap_alloc_new w.drew _]
  simp only[Array.size_append,List.size_toArray,size_zeroCells,hz,hvl,←Nat.add_mul]
  rw[show m+(grownCap w m 0 e-m)=grownCap w m 0 e by omega,Nat.zero_add]
 
 obtain⟨g',cs,hg',hA,hh,hle,hcs⟩:=(H.blk b B hb).2.resolve_left (fun hn=>by rw[hM]at hn;cases hn.1)
 rw[hM]at hg';injection hg' with hg';injection hg' with hg';subst hg'
 obtain⟨f,hf,hh⟩:=hh.inCells hshape
 have hcsz:cap*d.size≤cs.size:=by
  unfold World.shape? at hshape
  rw[hh]at hshape
  simp only[Option.some.injEq,Prod.mk.injEq]at hshape
  omega
 have hlA:LiesAt w ⟨g,0,none⟩ (cs.toList.take (n*d.size)).toArray:=fun j u hu=>by
  have hadd:(⟨g,0,none⟩:Addr).add j=⟨g,j,none⟩:=by unfold Addr.add;split<;>simp_all
  rw[hadd,cell_of_row w g j cs B.e f hh]
  simp only[List.getElem?_toArray,List.getElem?_take]at hu
  split at hu
  ·simpa using hu
  cases hu
 have hxsl:(cs.toList.take (n*d.size)).length=n*d.size:=by simp;omega
 have hxs:VCells (Xs A M h) M w (B.cells.take (n*d.size)) (cs.toList.take (n*d.size)):=by
  have:=hcs.take (n*d.size)
  rwa[List.take_take,Nat.min_eq_left hn]at this
 obtain⟨vs,hvs,hrunRoom,hrunGrow⟩: ∃vs,VCells (Xs A M h) M w news vs∧
   (n+m≤cap→(Builtin.append_ #[t,t] ty #[.slice (some ⟨g,0,none⟩) n cap,x]).run P w= .ok (.slice (some ⟨g,0,none⟩) (n+m) cap) (w.setRow g (cs.toList.take (n*d.size)++vs++cs.toList.drop (n*d.size+vs.length)).toArray))∧
   (cap<n+m→(Builtin.append_ #[t,t] ty #[.slice (some ⟨g,0,none⟩) n cap,x]).run P w= .ok (.slice (some ⟨w.heap.size,0,none⟩) (n+m) (grownCap w (n+m) cap e))
    (w.drew.alloc (.cells ((cs.toList.take (n*d.size)).toArray++vs.toArray++Builtin.zeroCells d.zero.cells (grownCap w (n+m) cap e-(n+m))) e))):=by
  rcases hs.is with⟨c,rfl,rfl⟩|⟨ad,c,vs,rfl,hc,hl⟩
  ·have hnews:news=[]:=List.eq_nil_of_length_eq_zero (by simpa using hs.len)
   subst hnews
   refine⟨[],by unfold VCells;rfl,fun hroom=> ?_,fun hh=>by omega⟩
   have e1:(cs.toList.take (n*d.size)++[]++cs.toList.drop (n*d.size+([]:List Value).length)).toArray=cs:=by simp
   rw[e1]
   have e2:w.setRow g cs=w:=by
    rw[aLu hh]
    have hgl:g<w.heap.size:=(Array.getElem?_eq_some_iff.1 hh).1
    have:w.heap.setIfInBounds g (.cells cs B.e f)=w.heap:=by
     apply Array.ext'
     apply List.ext_getElem?
     intro j
     simp only[Array.getElem?_toList,Array.getElem?_setIfInBounds]
     by_cases hj:g=j
     ·subst hj;rw[hh];simp[hgl]
     simp[hj]
    rw[this]
   rw[e2]
   simp[Builtin.append_,run_underlying hu,sizeOf,typeInfo,hi,Builtin.lenOf,Builtin.firstCells,hnc,storeCells]
  have hvl:vs.length=m*i.size:=by rw[←hc.len,hs.len,hsz]
  have hone:=VCells.oneCell hc (List.all_eq_true.2 hs.one)
  refine⟨vs,hc,fun hroom=> ?_,fun hgr=> ?_⟩
  ·have:=aR7 (P:=P) (w:=w) t ty e i hu hi g n cap cs hf (he▸hh) ad m c vs hvl (fun j u hj=>hl j u (by simpa using hj)) hone hroom (by
    rw[hvl,hsz,←Nat.add_mul];exact Nat.le_trans (Nat.mul_le_mul_right _ hroom) hcsz)
   rw[hsz]at this
   exact this
  exact run_append_grow (P:=P) w t ty e i d.zero hu hi hzz ⟨g,0,none⟩ n cap (cs.toList.take (n*d.size)) (by rw[hxsl,hsz]) (fun j u hj=>hlA j u (by simpa using hj)) ad m c vs hvl (fun j u hj=>hl j u (by simpa using hj)) hgr
   (by unfold lim at hnm;omega) (growslice_fits hgr (by rw[hbt];exact hlim))
 have hvsl:vs.length=m*d.size:=by rw[←hvs.len,hs.len]
 rcases Nat.lt_or_ge cap (n+m)with hgr|hroom
 ·have hr:=hrunGrow hgr
  have hge:=grownCap_ge w (n+m) cap e
  have hcm':grownCap w (n+m) cap e≤maxLen:=grownCap_le_maxLen w (n+m) cap e (by unfold lim at hnm;simp only[maxLen];omega)
  have K:=Grow.kill H b
  have Gd:=K.trans (Grow.drew K.hr)
  have G:=Gd.trans (Grow.alloc Gd.hr e (B.cells.take (n*d.size)++news) ((cs.toList.take (n*d.size)).toArray++vs.toArray++Builtin.zeroCells d.zero.cells (grownCap w (n+m) cap e-(n+m)))
   (by rw[hlV];simp only[Array.size_append,List.size_toArray,hxsl,hvsl,←Nat.add_mul];omega) (by
   have:((cs.toList.take (n*d.size)).toArray++vs.toArray++Builtin.zeroCells d.zero.cells (grownCap w (n+m) cap e-(n+m))).toList.take (B.cells.take (n*d.size)++news).length=cs.toList.take (n*d.size)++vs:=by
    rw[hlV,Array.toList_append,Array.toList_append]
    have:(n+m)*d.size=((cs.toList.take (n*d.size)).toArray.toList++vs.toArray.toList).length:=by
     simp only[List.length_append,hxsl,hvsl,←Nat.add_mul]
    rw[this]
    exact List.take_left
   rw[this]
   exact VCells.ext Gd.ext (List.prefix_refl _) (fun _ _ hl=> .inr hl) (fun k hk hx=>hx.elim .inl (fun hl=> .inr (Gd.live k hk hl))) _ _ (hxs.append hvs)) h1)
  refine⟨_,_,_,hr,G, ?_⟩
  unfold VR
  refine .inr ⟨w.heap.size,grownCap w (n+m) cap e,e,_,by rw[hlenM];simp,rfl,hge,hcm',h0, ?_,Nat.le_refl _⟩
  unfold World.shape?
  rw[show(w.drew.alloc (.cells ((cs.toList.take (n*d.size)).toArray++vs.toArray++Builtin.zeroCells d.zero.cells (grownCap w (n+m) cap e-(n+m))) e)).heap[w.heap.size]? =some (.cells ((cs.toList.take (n*d.size)).toArray++vs.toArray++Builtin.zeroCells d.zero.cells (grownCap w (n+m) cap e-(n+m))) e)from heap_alloc_new w.drew _]
  simp only[Array.size_append,List.size_toArray,size_zeroCells,hz,hxsl,hvsl,←Nat.add_mul]
  rw[show n+m+(grownCap w (n+m) cap e-(n+m))=grownCap w (n+m) cap e by omega,Nat.zero_add]
 have hr:=hrunRoom hroom
 have hfit:n*d.size+vs.length≤cs.size:=by rw[hvsl,←Nat.add_mul];exact Nat.le_trans (Nat.mul_le_mul_right _ hroom) hcsz
 have hsz':(cs.toList.take (n*d.size)++vs++cs.toList.drop (n*d.size+vs.length)).toArray.size=cs.size:=by simp;omega
 rw[aLu hh]at hr
 have hE:Ext (c8 M h) w {w with heap:=w.heap.setIfInBounds g (.cells (cs.toList.take (n*d.size)++vs++cs.toList.drop (n*d.size+vs.length)).toArray B.e f)}:=Ext.setBlock hh hsz' ⟨b,B,hb,hM⟩
 have hgl:g<w.heap.size:=(Array.getElem?_eq_some_iff.1 hh).1
 refine⟨_,_,M++[some g],hr,Grow.move (e:=e) (cs':=(cs.toList.take (n*d.size)++vs++cs.toList.drop (n*d.size+vs.length)).toArray) H hb hM hE (fun k hk hkl=> ?_) (.inl ⟨f,by rw[hsz'];exact hf,by rw[←he];simp[hgl]⟩) ?_ ?_ h1, ?_⟩
 ·show(w.heap.setIfInBounds g _)[k]? =_
  rw[Array.getElem?_setIfInBounds_ne (Ne.symm hk)]
 ·rw[hsz',hlV];exact Nat.le_trans (Nat.mul_le_mul_right _ hroom) hcsz
 ·have:(cs.toList.take (n*d.size)++vs++cs.toList.drop (n*d.size+vs.length)).toArray.toList.take (B.cells.take (n*d.size)++news).length=cs.toList.take (n*d.size)++vs:=by
   rw[hlV]
   have:(n+m)*d.size=(cs.toList.take (n*d.size)++vs).length:=by simp only[List.length_append,hxsl,hvsl,←Nat.add_mul]
   rw[this]
   exact List.take_left
  rw[this]
  exact hxs.append hvs
 unfold VR
 exact .inr ⟨g,cap,e',sz',by rw[hlenM];simp,rfl,hroom,hcm,h0,hE.shape _ _ hshape,hszle⟩
def ev (s:List V):Operand→Option V
 | .tmp t=>s[t]?
 | .const v=>some (ofValue v)
 | .func f=>some (.sc (.func (.func f) #[] #[]))
 | .global g=>(GT g).map fun e=> .eptr [e] 0 0
def dB :V→Option Value
 | .sc v=>some v
 | .row (some true) _ []=>some (.slice none 0 0)
 |_=>none
def eN :V→Option Value
 | .agg cs=>(cs.mapM dB).map fun vs=> .agg vs.toArray
 |x=>dB x
section
variable {X:Nat→Prop}{M:List (Option Nat)}{w:World}
theorem aB0 {x:V}{v u:Value}(h:VR X M w x v)(hx:dB x=some u):v=u:=by
 unfold dB at hx
 split at hx
 ·injection hx with hx;subst hx;unfold VR at h;exact h
 ·injection hx with hx;subst hx;unfold VR at h
  obtain⟨a,cap,rfl,_,h1,h2,_⟩:=h
  have:a=none:=h2 true rfl
  cases a with
  |none=>simp[h1 rfl]
  |some a=>simp at this
 cases hx
theorem aDP : ∀{cs:List V}{vs us:List Value},VCells X M w cs vs→cs.mapM dB=some us→vs=us
 | [],vs,us,h,hm=>by unfold VCells at h;simp at hm;rw[h,hm]
 |c::cs,vs,us,h,hm=>by
  unfold VCells at h
  obtain⟨v,rest,rfl,h1,h2⟩:=h
  simp only[a2b,a14,a1L,a2k,a1N]at hm
  obtain⟨u,hu,us',hus,rfl⟩:=hm
  rw[aB0 h1 hu,aDP h2 hus]
theorem o8 {x:V}{v u:Value}(h:VR X M w x v)(hx:eN x=some u):v=u:=by
 unfold eN at hx
 split at hx
 ·rename_i cs
  simp only[a1K]at hx
  obtain⟨us,hus,rfl⟩:=hx
  unfold VR at h
  obtain⟨vs,rfl,hc⟩:=h
  rw[aDP hc hus]
 exact aB0 h hx
end
def pureV (P:Program)(s:Sem Value):Option V:=(aS P s).map ofValue
def rM (P:Program)(s:TypeId)(x:V)(f:Nat):Option V:=
 match aM P s with
 |some ⟨.struct fields,_,_,_⟩=>
  match fields[f]? with
  |some fl=>
   match aM P fl.type with
   |some d=>if d.size=0 then none else
    match x with
    | .ptr b off=>some (.ptr b (off+fl.offset))
    | .eptr es i off=>some (.eptr es i (off+fl.offset))
    |_=>none
   |none=>none
  |none=>none
 |_=>none
def aNU (P:Program)(s:TypeId)(x:V)(f:Nat):Option V:=
 match aM P s with
 |some ⟨.struct fields,_,_,_⟩=>
  match fields[f]?,x with
  |some fl,.agg cs=>iK P fl.type (cs.drop fl.offset)
  |_,_=>none
 |_=>none
def nQ :V→Option Int
 | .sc (.int _ n)=>some n
 |_=>none
def fT (P:Program)(t:TypeId)(x i:V):Option V:=
 match aM P t,nQ i with
 |some ⟨.slice e,_,_,_⟩,some n=>
  match aM P e with
  |none=>none
  |some d=>
   match x with
   | .row _ k es=>if k=d.size∧0≤n∧n<es.length then some (.eptr es n.toNat 0)else none
   | .sl b off m k _=>if k=d.size∧0≤n∧n<m then some (.ptr b (off+n.toNat*k))else none
   |_=>none
 |some ⟨.array len e,_,_,_⟩,some n=>
  match aM P e with
  |none=>none
  |some d=>
   match x with
   | .ptr b off=>if 0≤n∧n<len then some (.ptr b (off+n.toNat*d.size))else none
   | .eptr es i off=>if 0≤n∧n<len then some (.eptr es i (off+n.toNat*d.size))else none
   |_=>none
 |_,_=>none
def aBX (P:Program)(t:TypeId)(x i:V):Option V:=
 match aM P t,x,nQ i with
 |some ⟨.array len e,_,_,_⟩,.agg cs,some n=>
  match aM P e with
  |some d=>if 0≤n∧n<len then iK P e (cs.drop (n.toNat*d.size))else none
  |none=>none
 |some ⟨.string,_,_,_⟩,.sc (.string s),some n=>
  if 0≤n then match s[n.toNat]? with
   |some b=>some (.sc (.int .u8 b.toNat))
   |none=>none
  else none
 |_,_,_=>none
def eM (P:Program)(t:TypeId)(h:Hp):V→Option V
 | .ptr b off=>match h[b]? with
  |some (some B)=>iK P t (B.cells.drop off)
  |_=>none
 | .eptr es i off=>match es[i]? with
  |some e=>iK P t (e.cells.drop off)
  |none=>none
 |_=>none
def lZ (P:Program)(t:TypeId)(h:Hp)(a x:V):Option Hp:=
 match a,aM P t with
 | .ptr b off,some d=>match h[b]? with
  |some (some B)=>if x.flatOk=true∧x.cells.length=d.size∧off+d.size≤B.cells.length then some (h.set b (some ⟨B.e,splice B.cells off x.cells⟩))else none
  |_=>none
 |_,_=>none
def nG (lo:Option V):Option Int:=match lo with
 |none=>some 0
 |some v=>nQ v
def yG (hi:Option V)(len:Nat):Option Int:=match hi with
 |none=>some len
 |some v=>nQ v
def nlS :Option Bool→Option Bool
 |some true=>some true
 |_=>none
def jV (P:Program)(t:TypeId)(h:Hp)(x:V)(lo hi:Option V):Option V:=
 match aM P t with
 |some ⟨.slice e,_,_,_⟩=>
  match aM P e with
  |none=>none
  |some d=>
   match x with
   | .row nil k es=>match nG lo,yG hi es.length with
    |some l,some u=>if k=d.size∧0≤l∧l≤u∧u≤es.length then some (.row (nlS nil) k ((es.take u.toNat).drop l.toNat))else none
    |_,_=>none
   | .sl b off n k ag=>match nG lo,yG hi n with
    |some l,some u=>
     if k=d.size∧0≤l∧l≤u∧u≤n then
      (if l=0 then some (.sl b off u.toNat k ag)else if l<u then some (.sl b (off+l.toNat*k) (u.toNat-l.toNat) k ag)else some (.row none k []))
     else none
    |_,_=>none
   |_=>none
 |some ⟨.string,_,_,_⟩=>
  match x with
  | .sc (.string s)=>match nG lo,yG hi s.size with
   |some l,some u=>if 0≤l∧l≤u∧u≤s.size then some (.sc (.string (s.extract l.toNat u.toNat)))else none
   |_,_=>none
  |_=>none
 |some ⟨.array n e,_,_,_⟩=>
  match aM P e,x,nG lo,yG hi n with
  |some d,.ptr b off,some l,some u=>match h[b]? with
   |some (some B)=>
    if 0<d.size∧n≤lim∧0≤l∧l<u∧u≤n∧off+n*d.size≤B.cells.length then some (.sl b (off+l.toNat*d.size) (u.toNat-l.toNat) d.size (cB d.desc))else none
   |_=>none
  |some d,.eptr es i off,some l,some u=>match es[i]? with
   |some e=>if d.size=1∧cB d.desc=false∧0≤l∧l<u∧u≤n∧off+n≤e.cells.length then some (.row none 1 ((e.cells.drop (off+l.toNat)).take (u.toNat-l.toNat)))else none
   |none=>none
  |_,_,_,_=>none
 |_=>none
def y5 (P:Program)(t:TypeId)(x:V)(lo:Option V)(hi mx:V):Option V:=
 match aM P t,x,nG lo,nQ hi,nQ mx with
 |some ⟨.slice e,_,_,_⟩,.row _ k es,some l,some u,some m=>
  match aM P e with
  |some d=>if k=d.size∧0≤l∧l≤u∧u=m∧u≤es.length then some (.row (some false) k ((es.take u.toNat).drop l.toNat))else if es.isEmpty=true∧l=0∧u=0∧m=0 then some (.row (some false) k [])else none
  |none=>none
 |some ⟨.slice e,_,_,_⟩,.sl b off n k ag,some l,some u,some m=>
  match aM P e with
  |some _=>if l=0∧u=m∧0≤u∧u≤(n:Int)then some (.sl b off u.toNat k ag)else none
  |none=>none
 |_,_,_,_,_=>none
def aJd (P:Program)(t:TypeId)(x:V):Option V:=
 match aM P t,x with
 |some ⟨.array n _,_,_,_⟩,.row _ k es=>if k=1∧0<n∧n≤es.length∧es.all V.one=true then some (.eptr [.agg (es.take n)] 0 0)else none
 |some ⟨.array n _,_,_,_⟩,.sl b off m _ _=>if 0<n∧n≤m then some (.ptr b off)else none
 |_,_=>none
def aHL (P:Program)(t:TypeId):V→Option V
 | .row _ _ es=>match aM P t with
  |some ⟨.slice _,_,_,_⟩=>some (.sc (.int .i64 es.length))
  |_=>none
 | .sl _ _ n _ _=>match aM P t with
  |some ⟨.slice _,_,_,_⟩=>some (.sc (.int .i64 n))
  |_=>none
 | .sc (.string s)=>match aM P t with
  |some ⟨.string,_,_,_⟩=>some (.sc (.int .i64 s.size))
  |_=>none
 |_=>none
def eJ (P:Program)(t:TypeId):Option (Array (Nat×Nat)):=
 match aM P t with
 |some ⟨.struct fields,_,_,_⟩=>aS P (fields.mapM fun f=>do pure (f.offset,←sizeOf f.type))
 |_=>none
def pX (place:Nat→Option (Nat×Nat))(cells:List V):List (Nat×V)→Option (List V)
 | []=>some cells
 |(i,x)::rest=>
  match place i with
  |none=>none
  |some (off,size)=>if x.flatOk=true∧x.cells.length=size∧off+size≤cells.length then pX place (splice cells off x.cells) rest else none
def u3 (P:Program)(t:TypeId)(parts:List (Nat×V)):Option V:=
 match aM P t with
 |some ⟨.struct _,_,_,z⟩=>
  match eJ P t with
  |some places=>(pX (places[·]?) (z.cells.toList.map dY) parts).map .agg
  |none=>none
 |some ⟨.array _ e,_,_,z⟩=>
  match aM P e with
  |some d=>(pX (fun i=>some (i*d.size,d.size)) (z.cells.toList.map dY) parts).map .agg
  |none=>none
 |_=>none
def gJ (P:Program)(t:TypeId)(len:Nat)(parts:List (Nat×V))(h:Hp):Option (V×Hp):=
 match aM P t with
 |some ⟨.slice e,_,_,_⟩=>
  match aM P e with
  |some d=>
   if len*d.size≤2^24∧0<len∧0<d.size then
    match pX (fun i=>some (i*d.size,d.size)) (((a2T (len*d.size)).map (d.zero.cells[· % d.zero.cells.size]!)).toList.map dY) parts with
    |some cells=>if cells.all V.one=true∧cells.length=len*d.size then some (.sl h.length 0 len d.size (cB d.desc),h++[some ⟨e,cells⟩])else none
    |none=>none
   else if len=0∧parts.isEmpty=true∧0<d.size then some (.sl h.length 0 0 d.size (cB d.desc),h++[some ⟨e,[]⟩])else none
  |none=>none
 |_=>none
def aCv (P:Program)(t:TypeId)(l c:V)(h:Hp):Option (V×Hp):=
 match aM P t,l,c with
 |some ⟨.slice e,_,_,_⟩,.sc (.int _ n),.sc (.int _ m)=>
  match aM P e with
  |some d=>
   if 0≤n∧n≤m∧m.toNat*d.bytes≤lim∧1≤d.bytes∧0<d.size∧d.zero.cells.size=d.size∧(d.zero.cells.toList.map (V.soft∘dY)).all V.one=true then
    some (.sl h.length 0 n.toNat d.size (cB d.desc),h++[some ⟨e,(a2i (if n=0 then m.toNat else n.toNat) (d.zero.cells.toList.map (V.soft∘dY))).flatten⟩])
   else none
  |none=>none
 |_,_,_=>none
def fM (h:Hp)(k:Nat):V→Option (List V×Nat)
 | .row _ k' es=>if k'=k∨es=[]then some (es.flatMap V.cells,es.length)else none
 | .sl b off m k' _=>match h[b]? with
  |some (some B)=>if k'=k∧off+m*k≤B.cells.length then some ((B.cells.drop off).take (m*k),m)else none
  |_=>none
 |_=>none
def g6 (P:Program)(t t':TypeId)(x y:V)(h:Hp):Option (V×Hp):=
 if t≠t' then none else
 match aM P t with
 |some ⟨.slice e,_,_,_⟩=>
  match aM P e with
  |none=>none
  |some d=>
   if d.zero.cells.size=d.size∧0<d.size∧1≤d.bytes then
    match fM h d.size y with
    |none=>none
    |some (news,m)=>
     match x with
     | .row (some false) k es=>if(es=[]∨k=d.size)∧0<m∧(es.length+m)*d.bytes≤lim then some (.sl h.length 0 (es.length+m) d.size (cB d.desc),h++[some ⟨e,es.flatMap V.cells++news⟩])else none
     | .row (some true) _ []=>if m*d.bytes≤lim then some (.sl (h.length+1) 0 m d.size (cB d.desc),h++[none]++[some ⟨e,news⟩])else none
     | .sl b 0 n k ag=>match h[b]? with
      |some (some B)=>if k=d.size∧B.e=e∧n*k≤B.cells.length∧(n+m)*d.bytes≤lim then
        some (.sl h.length 0 (n+m) k ag,h.set b none++[some ⟨e,B.cells.take (n*k)++news⟩])else none
      |_=>none
     |_=>none
   else none
 |_=>none
def aLI (P:Program)(t:TypeId)(x y:V)(h:Hp):Option (V×Hp):=
 match aM P t with
 |some ⟨.slice e,_,_,_⟩=>
  match aM P e with
  |none=>none
  |some d=>
   match x,fM h d.size y with
   | .sl b off n k _,some (news,m)=>match h[b]? with
    |some (some B)=>if k=d.size∧0<k∧off+n*k≤B.cells.length then
      some (.sc (.int .i64 (min m n:Nat)),h.set b (some ⟨B.e,splice B.cells off (news.take (min m n*k))⟩))else none
    |_=>none
   |_,_=>none
 |_=>none
section
variable {X:Nat→Prop}{M:List (Option Nat)}{P:Program}{w:World}
theorem aFG (g off n:Nat):(⟨g,off,none⟩:Addr).add n=⟨g,off+n,none⟩:=by unfold Addr.add;split<;>simp_all
theorem aN3 {a:Addr}{f:Field}{d:TI}(hd:aM P f.type=some d)(h0:d.size≠0):(fieldPlace a f).run P w= .ok (a.add f.offset) w:=by
 unfold fieldPlace
 rw[Sem.run_bind,fF hd,Result.andThen_ok]
 simp[h0]
theorem aPL {s:TypeId}{x r:V}{f:Nat}{v:Value}(hx:VR X M w x v)(hr:rM P s x f=some r): ∃u,(Instr.fieldAt s v f).run P w= .ok u w∧VR X M w r u:=by
 unfold rM at hr
 split at hr
 ·rename_i fields sz by_ z hs
  split at hr
  ·rename_i fl hfl
   split at hr
   ·rename_i d hd
    split at hr
    ·cases hr
    rename_i h0
    have hu:=eU (w:=w) hs
    have key: ∀a:Addr,(Instr.fieldAt s (.pointer (some a)) f).run P w= .ok (.pointer (some (a.add fl.offset))) w:=fun a=>by
     unfold Instr.fieldAt
     rw[Sem.run_bind,hu,Result.andThen_ok]
     simp only[hfl]
     simp[Instr.sureAddr,aN3 hd h0]
    split at hr
    ·rename_i b off
     injection hr with hr;subst hr
     unfold VR at hx
     obtain⟨g,sh,hg,rfl,hs⟩:=hx
     exact⟨_,key _,by unfold VR;exact⟨g,sh,hg,by rw[aFG],hs⟩⟩
    ·rename_i es i off
     injection hr with hr;subst hr
     unfold VR at hx
     obtain⟨ad,k,rfl,hk,hX,hsp,hok,hrow⟩:=hx
     exact⟨_,key _,by unfold VR;exact⟨ad,k,by rw[vA,a2a],hk,hX,hsp,hok,hrow⟩⟩
    cases hr
   cases hr
  cases hr
 cases hr
theorem aR5 {s:TypeId}{x r:V}{f:Nat}{v:Value}(hx:VR X M w x v)(hr:aNU P s x f=some r): ∃u,(Instr.field s v f).run P w= .ok u w∧VR X M w r u:=by
 unfold aNU at hr
 split at hr
 ·rename_i fields sz by_ z hs
  split at hr
  ·rename_i fl cs hfl
   unfold VR at hx
   obtain⟨vs,rfl,hc⟩:=hx
   obtain⟨u,hu,hru⟩:=aNx (P:=P) hc hr
   refine⟨u, ?_,hru⟩
   unfold Instr.field
   rw[Sem.run_bind,eU hs,Result.andThen_ok]
   simp only[hfl]
   simp[asAgg,hu]
  cases hr
 cases hr
theorem gT {x:V}{n:Int}{v:Value}(hx:VR X M w x v)(h:nQ x=some n): ∃k,v= .int k n:=by
 unfold nQ at h
 split at h
 ·injection h with h;subst h;unfold VR at hx;exact⟨_,hx⟩
 cases h
theorem aPK {t:TypeId}{x i r:V}{v vi:Value}(hx:VR X M w x v)(hi:VR X M w i vi)(hr:fT P t x i=some r): ∃u,(Instr.indexAt t v vi).run P w= .ok u w∧VR X M w r u:=by
 unfold fT at hr
 split at hr
 ·rename_i e sz by_ z n ht hn
  obtain⟨kk,rfl⟩:=gT hi hn
  split at hr
  ·cases hr
  rename_i d hd
  have hu:=eU (w:=w) ht
  have hsz:=fF (w:=w) hd
  split at hr
  ·rename_i nil k es
   split at hr
   ·rename_i hc
    injection hr with hr;subst hr
    obtain⟨hk,h0,hl⟩:=hc
    unfold VR at hx
    obtain⟨a,cap,rfl,hcap,_,_,hok,hrow⟩:=hx
    obtain⟨ad,rfl,hk0,hX,hsp,hrw⟩:=hrow (by rintro rfl;simp at hl;omega)
    refine⟨.pointer (some (ad.add (n.toNat*d.size))), ?_,by unfold VR;exact⟨ad,k,by rw[hk,a2w],hk0,fun _=>hX,hsp,hok,hrw⟩⟩
    simp[Instr.indexAt,asIntOf,hu,hsz,h0,hl]
   cases hr
  ·rename_i b off m k ag
   split at hr
   ·rename_i hc
    injection hr with hr;subst hr
    obtain⟨hk,h0,hl⟩:=hc
    unfold VR at hx
    rcases hx with⟨_,_,rfl,_⟩|⟨g,cap,e',sz',hg,rfl,_,_,_,hs,_⟩
    ·simp at hl;omega
    refine⟨.pointer (some ⟨g,off+n.toNat*k,none⟩), ?_,by unfold VR;exact⟨g,_,hg,rfl,hs⟩⟩
    simp[Instr.indexAt,asIntOf,hu,hsz,h0,hl,aFG,hk]
   cases hr
  cases hr
 ·rename_i len e sz by_ z n ht hn
  obtain⟨kk,rfl⟩:=gT hi hn
  split at hr
  ·cases hr
  rename_i d hd
  have hu:=eU (w:=w) ht
  have hsz:=fF (w:=w) hd
  split at hr
  ·rename_i b off
   split at hr
   ·rename_i hc
    injection hr with hr;subst hr
    obtain⟨h0,hl⟩:=hc
    unfold VR at hx
    obtain⟨g,sh,hg,rfl,hs⟩:=hx
    refine⟨.pointer (some ⟨g,off+n.toNat*d.size,none⟩), ?_,by unfold VR;exact⟨g,sh,hg,rfl,hs⟩⟩
    simp[Instr.indexAt,asIntOf,hu,hsz,h0,hl,aFG,Instr.sureAddr]
   cases hr
  ·rename_i es j off
   split at hr
   ·rename_i hc
    injection hr with hr;subst hr
    obtain⟨h0,hl⟩:=hc
    unfold VR at hx
    obtain⟨ad,k,rfl,hk,hX,hsp,hok,hrow⟩:=hx
    refine⟨.pointer (some ((ad.add (j*k+off)).add (n.toNat*d.size))), ?_,by unfold VR;exact⟨ad,k,by rw[vA,a2a],hk,hX,hsp,hok,hrow⟩⟩
    simp[Instr.indexAt,asIntOf,hu,hsz,h0,hl,Instr.sureAddr]
   cases hr
  cases hr
 cases hr
theorem aR0 {t:TypeId}{x i r:V}{v vi:Value}(hx:VR X M w x v)(hi:VR X M w i vi)(hr:aBX P t x i=some r): ∃u,(Instr.index t v vi).run P w= .ok u w∧VR X M w r u:=by
 unfold aBX at hr
 split at hr
 ·rename_i len e sz by_ z cs n ht hn
  obtain⟨kk,rfl⟩:=gT hi hn
  split at hr
  ·rename_i d hd
   split at hr
   ·rename_i hc
    unfold VR at hx
    obtain⟨vs,rfl,hcs⟩:=hx
    obtain⟨u,hu,hru⟩:=aNx (P:=P) hcs hr
    refine⟨u, ?_,hru⟩
    have hun:=eU (w:=w) ht
    have hsz:=fF (w:=w) hd
    simp[Instr.index,asIntOf,hun,hsz,hc,hu]
   cases hr
  cases hr
 ·rename_i sz by_ z s n ht hn
  obtain⟨kk,rfl⟩:=gT hi hn
  split at hr
  ·rename_i h0
   split at hr
   ·rename_i b hb
    injection hr with hr;subst hr
    unfold VR at hx
    subst hx
    refine⟨_, ?_,by unfold VR;rfl⟩
    have hun:=eU (w:=w) ht
    simp[Instr.index,asIntOf,hun,h0,hb]
   cases hr
  cases hr
 cases hr
theorem VRow.get {k:Nat}: ∀{es:List V}{ad:Addr},VRow X M w k es ad→ ∀{i:Nat}{e:V},es[i]? =some e→ ∃v,VR X M w e v∧v.cells.size=k∧LiesAt w (ad.add (i*k)) v.cells
 | [],ad,_,i,e,he=>by simp at he
 |x::es,ad,h,i,e,he=>by
  unfold VRow at h
  cases i with
  |zero=>
   simp at he;subst he
   obtain⟨v,h1,h2,h3⟩:=h.1
   exact⟨v,h1,h2,by simpa[Addr.add]using h3⟩
  |succ i=>
   simp at he
   obtain⟨v,h1,h2,h3⟩:=VRow.get h.2 he
   refine⟨v,h1,h2, ?_⟩
   rw[vA]at h3
   rwa[show(i+1)*k=k+i*k by rw[a18,a2n,a2y]]
theorem VRow.flat {k:Nat}: ∀{es:List V}{ad:Addr},VRow X M w k es ad→(∀e∈es,e.okElem k=true)→
  ∃vs,VCells X M w (es.flatMap V.cells) vs∧LiesAt w ad vs.toArray∧(es.flatMap V.cells).length=es.length*k∧ ∀c∈es.flatMap V.cells,c.one=true
 | [],ad,_,_=>⟨[],by simp only[a2P];unfold VCells;rfl,fun j u hu=>by simp at hu,by simp,by simp⟩
 |x::es,ad,h,hok=>by
  unfold VRow at h
  obtain⟨⟨v,h1,h2,h3⟩,h4⟩:=h
  obtain⟨vs,g1,g2,g3,g4⟩:=VRow.flat h4 (fun e he=>hok e (by simp[he]))
  have hx:=hok x (by simp)
  simp only[V.okElem,a15,beq_iff_eq]at hx
  obtain⟨c1,_⟩:=h1.cells' hx.1
  have hl:v.cells.toList.length=k:=by simpa using h2
  refine⟨v.cells.toList++vs, ?_, ?_, ?_, ?_⟩
  ·simp only[a13];exact c1.append g1
  ·intro j u hu
   simp only[a2p]at hu
   rcases a16 j k with hj|hj
   ·rw[a1U (by omega)]at hu
    exact h3 j u (by simpa using hu)
   rw[a1Z (by omega),hl]at hu
   have:=g2 (j-k) u (by simpa using hu)
   rwa[vA,show k+(j-k)=j by omega]at this
  ·simp only[a13,a2l,g3,hx.2,a2s,a18,a2n];omega
  intro c hc
  simp only[a13,a2G]at hc
  rcases hc with hc|hc
  ·exact a1T.1 hx.1 c hc
  exact g4 c hc
end
section
variable {A:Nat→Prop}{M:List (Option Nat)}{h:Hp}{P:Program}{w:World}
theorem aQT (H:HR A M h w){b g:Nat}{B:Blk}(hb:h[b]? =some (some B))(hg:M[b]? =some (some g)):
  ∃cs:Array Value,Holds w g cs B.e B.cells.length∧B.cells.length≤cs.size∧VCells (Xs A M h) M w B.cells (cs.toList.take B.cells.length):=by
 obtain⟨_,⟨hn,_⟩|⟨g',cs,hg',_,h1,h2,h3⟩⟩:=H.blk b B hb
 ·rw[hg]at hn;cases hn
 rw[hg]at hg';injection hg' with hg';injection hg' with hg';subst hg';exact⟨cs,h1,h2,h3⟩
theorem aGM (H:HR A M h w){b g:Nat}{B:Blk}(hb:h[b]? =some (some B))(hg:M[b]? =some (some g)){sh:TypeId×Nat}(hs:w.shape? g=some sh)(off:Nat):
  ∃vs:List Value,VCells (Xs A M h) M w (B.cells.drop off) vs∧LiesAt w ⟨g,off,none⟩ vs.toArray:=by
 obtain⟨cs,h1,h2,h3⟩:=aQT H hb hg
 refine⟨(cs.toList.take B.cells.length).drop off,h3.drop off,fun j u hu=> ?_⟩
 rw[aFG,h1.cell hs]
 simp only[a2p,a2L,a2v]at hu
 split at hu
 ·simpa using hu
 cases hu
theorem aHT (H:HR A M h w){t:TypeId}{a r:V}{va:Value}(ha:VR (Xs A M h) M w a va)(hr:eM P t h a=some r):
  ∃u,(Instr.loadAt t va).run P w= .ok u w∧VR (Xs A M h) M w r u:=by
 unfold eM at hr
 split at hr
 ·rename_i b off
  split at hr
  ·rename_i B hb
   unfold VR at ha
   obtain⟨g,sh,hg,rfl,hs⟩:=ha
   obtain⟨vs,hvs,hl⟩:=aGM H hb hg hs off
   obtain⟨u,hu,hru⟩:=aNI (P:=P) hvs hl hr
   exact⟨u,by simp[Instr.loadAt,Instr.sureAddr,hu],hru⟩
  cases hr
 ·rename_i es i off
  split at hr
  ·rename_i e he
   unfold VR at ha
   obtain⟨ad,k,rfl,hk,hX,hsp,hok,hrow⟩:=ha
   obtain⟨v,hv,hsz,hl⟩:=hrow.get he
   have hl':LiesAt w (ad.add (i*k)) v.cells.toList.toArray:=by simpa using hl
   have hl2:=LiesAt.drop hl' off
   rw[vA]at hl2
   have hok':=hok e (a2J he)
   simp only[V.okElem,a15]at hok'
   have hcells:VCells (Xs A M h) M w e.cells v.cells.toList:=(hv.cells' hok'.1).1.lift
   obtain⟨u,hu,hru⟩:=aNI (P:=P) (hcells.drop off) hl2 hr
   exact⟨u,by simp[Instr.loadAt,Instr.sureAddr,hu],hru⟩
  cases hr
 cases hr
theorem aRq (H:HR A M h w){t:TypeId}{a x:V}{va vx:Value}{h':Hp}(ha:VR (Xs A M h) M w a va)(hx:VR (Xs A M h) M w x vx)(hr:lZ P t h a x=some h'):
  ∃w',(Instr.storeAt t va vx).run P w= .ok () w'∧Grow A M h w M h' w':=by
 unfold lZ at hr
 split at hr
 ·rename_i b off d hd
  split at hr
  ·rename_i B hb
   split at hr
   ·rename_i hc
    injection hr with hr;subst hr
    unfold VR at ha
    obtain⟨g,sh,hg,rfl,hs⟩:=ha
    obtain⟨c1,c2⟩:=hx.cells' hc.1
    have hlen:vx.cells.size=d.size:=by have:=c1.len;simp at this;omega
    obtain⟨w',hw,G⟩:=Grow.store (P:=P) H hb (off:=off) (news:=x.cells) (vs:=vx.cells.toList) (by omega) c1 c2 hg hs (fun c hc'=>a1T.1 hc.1 c hc')
    refine⟨w', ?_,G⟩
    simp[Instr.storeAt,Instr.sureAddr,storeVar,fF hd,hlen,hw]
   cases hr
  cases hr
 cases hr
theorem aSO {X:Nat→Prop}{t ty:TypeId}{x r:V}{v:Value}(hx:VR X M w x v)(hr:aHL P t x=some r): ∃u,(Builtin.len_ #[t] ty #[v]).run P w= .ok u w∧VR X M w r u:=by
 unfold aHL at hr
 split at hr
 ·split at hr
  ·rename_i ht
   injection hr with hr;subst hr
   unfold VR at hx
   obtain⟨a,cap,rfl,_⟩:=hx
   refine⟨_, ?_,by unfold VR;rfl⟩
   simp[Builtin.len_,eU ht,goInt]
  cases hr
 ·split at hr
  ·rename_i ht
   injection hr with hr;subst hr
   unfold VR at hx
   rcases hx with⟨_,rfl,rfl,_⟩|⟨g,cap,e,sz,_,rfl,_⟩
   all_goals
    refine⟨_, ?_,by unfold VR;rfl⟩
    simp[Builtin.len_,eU ht,goInt]
  cases hr
 ·split at hr
  ·rename_i ht
   injection hr with hr;subst hr
   unfold VR at hx
   subst hx
   refine⟨_, ?_,by unfold VR;rfl⟩
   simp[Builtin.len_,eU ht,goInt]
  cases hr
 cases hr
theorem aIU (H:HR A M h w){k m:Nat}{x:V}{v:Value}{news:List V}(hx:VR (Xs A M h) M w x v)(hr:fM h k x=some (news,m)):Src (Xs A M h) M w k news m v:=by
 unfold fM at hr
 split at hr
 ·rename_i nil k' es
  split at hr
  ·rename_i hc
   simp only[a1N,a1O]at hr
   obtain⟨rfl,rfl⟩:=hr
   unfold VR at hx
   obtain⟨a,cap,rfl,hcap,hn,_,hok,hrow⟩:=hx
   by_cases hne:es=[]
   ·subst hne
    refine⟨by simp,by simp, ?_⟩
    cases a with
    |none=>exact .inl ⟨cap,rfl,rfl⟩
    |some ad=>exact .inr ⟨ad,cap,[],rfl,by simp only[a2P];unfold VCells;rfl,fun j u hu=>by simp at hu⟩
   obtain⟨ad,rfl,hk,hX,hsp,hrw⟩:=hrow hne
   obtain⟨vs,g1,g2,g3,g4⟩:=hrw.flat hok
   have hk':k'=k:=hc.resolve_right hne
   subst hk'
   exact⟨g4,g3,.inr ⟨ad,cap,vs,rfl,g1.lift,g2⟩⟩
  cases hr
 ·rename_i b off mm k' ag
  split at hr
  ·rename_i B hb
   split at hr
   ·rename_i hc
    simp only[a1N,a1O]at hr
    obtain⟨rfl,rfl⟩:=hr
    have hone:=(H.blk b B hb).1
    refine⟨fun c hc'=>hone c (a1Y (a1V hc')),by simp;omega, ?_⟩
    unfold VR at hx
    rcases hx with⟨_,rfl,rfl,_⟩|⟨g,cap,e,sz,hg,rfl,_,_,_,hs,_⟩
    ·exact .inl ⟨0,rfl,rfl⟩
    obtain⟨vs,hvs,hl⟩:=aGM H hb hg hs off
    exact .inr ⟨_,cap,vs.take (mm*k),rfl,hvs.take _,hl.take _⟩
   cases hr
  cases hr
 cases hr
theorem aLW (H:HR A M h w){t ty e:TypeId}{d dt:TI}(ht:aM P t=some dt)(hts:dt.desc= .slice e)(hd:aM P e=some d)(hz:d.zero.cells.size=d.size)(h0:0<d.size){v x:Value}{k m:Nat}{es news:List V}{ag:Bool}
  (hk:es=[]∨k=d.size) (hv:VR (Xs A M h) M w (.row (some false) k es) v) (hs:Src (Xs A M h) M w d.size news m x) (hm:0<m) (hlim:(es.length+m)*d.bytes≤lim) (hby:1≤d.bytes):
  ∃v' w' M',(Builtin.append_ #[t,t] ty #[v,x]).run P w= .ok v' w'∧Grow A M h w M' (h++[some ⟨e,es.flatMap V.cells++news⟩]) w'∧
   VR (Xs A M' (h++[some ⟨e,es.flatMap V.cells++news⟩])) M' w' (.sl h.length 0 (es.length+m) d.size ag) v':=by
 obtain⟨hu,_,_,_,_,_⟩:=cR ht
 rw[hts]at hu
 obtain⟨_,i,hi,hsz,hbt,hzz⟩:=cR hd
 have hnm:es.length+m≤lim:=Nat.le_trans (by have:=Nat.mul_le_mul_left (es.length+m) hby;omega) hlim
 have hlenM:h.length=M.length:=H.len.symm
 unfold VR at hv
 obtain⟨a,cap,rfl,hcap,hn,hnil,hok,hrow⟩:=hv
 have hce:cap=es.length:=hnil false rfl
 subst hce
 rcases hs.is with⟨c,rfl,rfl⟩|⟨ad,c,vs,rfl,hc,hl⟩
 ·omega
 have hvl:vs.length=m*d.size:=by rw[←hc.len,hs.len]
 have hge:=grownCap_ge w (es.length+m) es.length e
 have hcm':grownCap w (es.length+m) es.length e≤maxLen:=grownCap_le_maxLen w (es.length+m) es.length e (by unfold lim at hnm;simp only[maxLen];omega)
 obtain⟨us,hus,hul,hrun⟩: ∃us,VCells (Xs A M h) M w (es.flatMap V.cells) us∧us.length=es.length*d.size∧
   (Builtin.append_ #[t,t] ty #[.slice a es.length es.length,.slice (some ad) m c]).run P w= .ok (.slice (some ⟨w.heap.size,0,none⟩) (es.length+m) (grownCap w (es.length+m) es.length e))
    (w.drew.alloc (.cells (us.toArray++vs.toArray++Builtin.zeroCells d.zero.cells (grownCap w (es.length+m) es.length e-(es.length+m))) e)):=by
  cases a with
  |none=>
   have he:es=[]:=List.eq_nil_of_length_eq_zero (by have:=hn rfl;omega)
   subst he
   refine⟨[],by simp only[List.flatMap_nil];unfold VCells;rfl,by simp, ?_⟩
   have:=run_append_nil (P:=P) w t ty e i d.zero hu hi hzz ad m c vs (by rw[hvl,hsz]) (fun j u hj=>hl j u (by simpa using hj)) hm (by unfold lim at hnm;simp at hnm;omega) (by rw[hbt];unfold lim at hlim;simp at hlim;omega)
   simpa using this
  |some a=>
   obtain⟨us,h1,h2,h3⟩: ∃us,VCells (Xs A M h) M w (es.flatMap V.cells) us∧LiesAt w a us.toArray∧us.length=es.length*d.size:=by
    by_cases he:es=[]
    ·subst he
     exact⟨[],by simp only[List.flatMap_nil];unfold VCells;rfl,fun j u hu=>by simp at hu,by simp⟩
    obtain⟨a',ha,_,_,_,hr⟩:=hrow he
    injection ha with ha
    subst ha
    obtain⟨us,g1,g2,g3,_⟩:=hr.flat hok
    exact⟨us,g1.lift,g2,by rw[←g1.len,g3,hk.resolve_left he]⟩
   refine⟨us,h1,h3, ?_⟩
   exact run_append_grow (P:=P) w t ty e i d.zero hu hi hzz a es.length es.length us (by rw[h3,hsz]) (fun j u hj=>h2 j u (by simpa using hj)) ad m c vs (by rw[hvl,hsz]) (fun j u hj=>hl j u (by simpa using hj)) (by omega)
    (by unfold lim at hnm;omega) (growslice_fits (by omega) (by rw[hbt];exact hlim))
 have h1: ∀c∈es.flatMap V.cells++news,c.one=true:=by
  intro c hc'
  rcases List.mem_append.1 hc' with hc'|hc'
  ·simp only[List.mem_flatMap]at hc'
   obtain⟨y,hy,hc'⟩:=hc'
   have:=hok y hy
   simp only[V.okElem,V.flatOk,Bool.and_eq_true]at this
   exact List.all_eq_true.1 this.1 c hc'
  exact hs.one c hc'
 have hlV:(es.flatMap V.cells++news).length=(es.length+m)*d.size:=by
  rw[List.length_append,hus.len,hul,hs.len,Nat.add_mul]
 have Gd:=Grow.drew H
 have G:=Gd.trans (Grow.alloc Gd.hr e (es.flatMap V.cells++news) (us.toArray++vs.toArray++Builtin.zeroCells d.zero.cells (grownCap w (es.length+m) es.length e-(es.length+m)))
  (by rw[hlV];simp only[Array.size_append,List.size_toArray,hul,hvl,←Nat.add_mul];omega) (by
  have:(us.toArray++vs.toArray++Builtin.zeroCells d.zero.cells (grownCap w (es.length+m) es.length e-(es.length+m))).toList.take (es.flatMap V.cells++news).length=us++vs:=by
   rw[hlV,Array.toList_append,Array.toList_append]
   have:(es.length+m)*d.size=(us.toArray.toList++vs.toArray.toList).length:=by
    simp only[List.length_append,hul,hvl,←Nat.add_mul]
   rw[this]
   exact List.take_left
  rw[this]
  exact VCells.ext Gd.ext (List.prefix_refl _) (fun _ _ hl=> .inr hl) (fun k hk hx=>hx.elim .inl (fun hl=> .inr (Gd.live k hk hl))) _ _ (hus.append hc)) h1)
 refine⟨_,_,_,hrun,G, ?_⟩
 unfold VR
 refine .inr ⟨w.heap.size,grownCap w (es.length+m) es.length e,e,_,by rw[hlenM];simp,rfl,hge,hcm',h0, ?_,Nat.le_refl _⟩
 unfold World.shape?
 rw[show(w.drew.alloc (.cells (us.toArray++vs.toArray++Builtin.zeroCells d.zero.cells (grownCap w (es.length+m) es.length e-(es.length+m))) e)).heap[w.heap.size]? =some (.cells (us.toArray++vs.toArray++Builtin.zeroCells d.zero.cells (grownCap w (es.length+m) es.length e-(es.length+m))) e)from heap_alloc_new w.drew _]
 simp only[Array.size_append,List.size_toArray,size_zeroCells,hz,hul,hvl,←Nat.add_mul]
 rw[show es.length+m+(grownCap w (es.length+m) es.length e-(es.length+m))=grownCap w (es.length+m) es.length e by omega,Nat.zero_add]
theorem aPN (H:HR A M h w){t t' ty:TypeId}{x y r:V}{v u:Value}{h':Hp}(hx:VR (Xs A M h) M w x v)(hy:VR (Xs A M h) M w y u)(hr:g6 P t t' x y h=some (r,h')):
  ∃v' w' M',(Builtin.append_ #[t,t'] ty #[v,u]).run P w= .ok v' w'∧Grow A M h w M' h' w'∧VR (Xs A M' h') M' w' r v':=by
 unfold g6 at hr
 split at hr
 ·cases hr
 rename_i htt
 have htt:t=t':=by simpa using htt
 subst htt
 split at hr
 ·rename_i e sz by_ z ht
  split at hr
  ·cases hr
  rename_i d hd
  split at hr
  ·rename_i hc
   obtain⟨hz,h0,hby⟩:=hc
   split at hr
   ·cases hr
   rename_i news m hsrc
   have S:=aIU H hy hsrc
   split at hr
   ·rename_i k es
    split at hr
    ·rename_i hl
     simp only[a1N,a1O]at hr
     obtain⟨rfl,rfl⟩:=hr
     exact aLW H ht rfl hd hz h0 hl.1 hx S hl.2.1 hl.2.2 hby
    cases hr
   ·rename_i k0
    split at hr
    ·rename_i hl
     simp only[a1N,a1O]at hr
     obtain⟨rfl,rfl⟩:=hr
     have hv:=aB0 hx rfl
     subst hv
     have G:=Grow.virt H e
     have hlen:M.length=h.length:=H.len
     have S':Src (Xs A (M++[none]) (h++[some ⟨e,[]⟩])) (M++[none]) w d.size news m u:=by
      refine⟨S.one,S.len, ?_⟩
      rcases S.is with hh|⟨ad,c,vs,h1,h2,h3⟩
      ·exact .inl hh
      exact .inr ⟨ad,c,vs,h1,VCells.ext G.ext G.pre (fun _ _ hl=> .inr hl) (fun k hk hx=>hx.elim .inl (fun hl=> .inr (G.live k hk hl))) _ _ h2,h3⟩
     obtain⟨v',w',M',hrun,G',hv'⟩:=aK4 (P:=P) (ty:=ty) G.hr ht rfl hd hz h0 (b:=h.length) (n:=0) (m:=m) (B:=⟨e,[]⟩) (v:= .slice none 0 0) (ag:=cB d.desc) (by simp) rfl (by simp)
      (by unfold VR;exact .inl ⟨by rw[←hlen];simp,rfl,rfl,rfl⟩) S' (by simpa using hl) hby
     have e1:(h++[some (⟨e,[]⟩:Blk)]).set h.length none=h++[none]:=by simp
     rw[e1]at G' hv'
     simp only[List.take_nil,List.nil_append,a2D,a2l,List.length_singleton]at G' hv'
     exact⟨v',w',M',hrun,G.trans G',hv'⟩
    cases hr
   ·rename_i b n k ag
    split at hr
    ·rename_i B hb
     split at hr
     ·rename_i hc
      simp only[a1N,a1O]at hr
      obtain⟨rfl,rfl⟩:=hr
      obtain⟨rfl,he,hn,hl⟩:=hc
      exact aK4 (P:=P) H ht rfl hd hz h0 hb he hn hx S hl hby
     cases hr
    cases hr
   cases hr
  cases hr
 cases hr
end
section
variable {X:Nat→Prop}{M:List (Option Nat)}{P:Program}{w:World}
theorem aO5 : ∀(vs:List Value)(off j:Nat)(cs:Array Value),off+j+vs.length≤cs.size→
  ((vs.zipIdx j).foldl (fun(cs:Array Value)(x:Value×Nat)=>cs.setIfInBounds (off+x.2) x.1) cs).toList=splice cs.toList (off+j) vs
 | [],off,j,cs,h=>by simp[splice]
 |v::vs,off,j,cs,h=>by
  simp only[List.zipIdx_cons,List.foldl_cons]
  rw[aO5 vs off (j+1) (cs.setIfInBounds (off+j) v) (by simp at h ⊢; omega),a2u]
  exact aNh _ (off+j) v vs (by simp at h ⊢; omega)
theorem aFg {place:Nat→Option (Nat×Nat)}: ∀{parts:List (Nat×V)}{vparts:List (Nat×Value)}{cells:List V}{cs:Array Value}{out:List V},
  VCells X M w cells cs.toList→parts.length=vparts.length→(∀(j:Nat)(p:Nat×V)(q:Nat×Value),parts[j]? =some p→vparts[j]? =some q→p.1=q.1∧VR X M w p.2 q.2)→
  pX place cells parts=some out→ ∃ds,Instr.fill place cs vparts=some ds∧VCells X M w out ds.toList
 | [],[],cells,cs,out,hc,_,_,hf=>by
  simp only[pX,a1N]at hf;subst hf;exact⟨cs,rfl,hc⟩
 | [],_::_,_,_,_,_,hl,_,_=>by simp at hl
 |_::_,[],_,_,_,_,hl,_,_=>by simp at hl
 |(i,x)::parts,(i',v)::vparts,cells,cs,out,hc,hl,hp,hf=>by
  obtain⟨hi,hx⟩:=hp 0 (i,x) (i',v) rfl rfl
  simp only at hi hx
  subst hi
  unfold pX at hf
  split at hf
  ·cases hf
  rename_i off size hpl
  split at hf
  ·rename_i hcond
   obtain⟨h1,h2,h3⟩:=hcond
   obtain⟨c1,_⟩:=hx.cells' h1
   have hsz:v.cells.size=size:=by have:=c1.len;simp at this;omega
   have hcl:cells.length=cs.size:=by simpa using hc.len
   have hs:=aO5 v.cells.toList off 0 cs (by simp;omega)
   have hc':VCells X M w (splice cells off x.cells) (v.cells.toList.zipIdx.foldl (fun(cs:Array Value)(x:Value×Nat)=>cs.setIfInBounds (off+x.2) x.1) cs).toList:=by
    rw[hs];exact hc.splice c1 off
   obtain⟨ds,hd,hr⟩:=aFg hc' (by simpa using hl) (fun j p q hpj hqj=>hp (j+1) p q (by simpa using hpj) (by simpa using hqj)) hf
   refine⟨ds, ?_,hr⟩
   unfold Instr.fill
   simp only[hpl,hsz]
   rw[if_neg (by simp;omega)]
   have:v.cells.zipIdx.foldl (fun(cs:Array Value)(x:Value×Nat)=>cs.setIfInBounds (off+x.2) x.1) cs=v.cells.toList.zipIdx.foldl (fun(cs:Array Value)(x:Value×Nat)=>cs.setIfInBounds (off+x.2) x.1) cs:=by
    rw[←Array.foldl_toList,Array.toList_zipIdx]
   rw[←this]at hd
   exact hd
  cases hf
def aJG (X:Nat→Prop)(M:List (Option Nat))(w:World)(parts:List (Nat×V))(vparts:List (Nat×Value)):Prop:=
 parts.length=vparts.length∧ ∀(j:Nat)(p:Nat×V)(q:Nat×Value),parts[j]? =some p→vparts[j]? =some q→p.1=q.1∧VR X M w p.2 q.2
theorem aQq {t:TypeId}{parts:List (Nat×V)}{vparts:Array (Nat×Value)}{r:V}(hp:aJG X M w parts vparts.toList)(hr:u3 P t parts=some r):
  ∃u,(Instr.build t vparts).run P w= .ok u w∧VR X M w r u:=by
 unfold u3 at hr
 split at hr
 ·rename_i fields sz by_ z ht
  split at hr
  ·rename_i places hpl
   simp only[a1K]at hr
   obtain⟨out,hf,rfl⟩:=hr
   unfold eJ at hpl
   rw[ht]at hpl
   simp only at hpl
   have hrun:=jD _ hpl w
   obtain⟨ds,hd,hc⟩:=aFg (qG (X:=X) (M:=M) (w:=w) z.cells.toList) hp.1 hp.2 hf
   refine⟨.agg ds, ?_,by unfold VR;exact⟨ds.toList,by simp,hc⟩⟩
   unfold Instr.build
   rw[Sem.run_bind,aGK ht,Result.andThen_ok,Sem.run_bind,eU ht,Result.andThen_ok]
   simp only
   rw[Sem.run_bind,hrun,Result.andThen_ok]
   have hz:(⟨z.cells.toList⟩:Array Value)=z.cells:=by simp
   simp only[hd]
   rfl
  cases hr
 ·rename_i n e sz by_ z ht
  split at hr
  ·rename_i d hd
   simp only[a1K]at hr
   obtain⟨out,hf,rfl⟩:=hr
   obtain⟨ds,hds,hc⟩:=aFg (qG (X:=X) (M:=M) (w:=w) z.cells.toList) hp.1 hp.2 hf
   refine⟨.agg ds, ?_,by unfold VR;exact⟨ds.toList,by simp,hc⟩⟩
   unfold Instr.build
   rw[Sem.run_bind,aGK ht,Result.andThen_ok,Sem.run_bind,eU ht,Result.andThen_ok]
   simp only
   rw[Sem.run_bind,fF hd,Result.andThen_ok]
   simp only[hds]
   rfl
  cases hr
 cases hr
theorem VRow.drop {k:Nat}: ∀(n:Nat){es:List V}{ad:Addr},VRow X M w k es ad→VRow X M w k (es.drop n) (ad.add (n*k))
 |0,es,ad,h=>by simpa[Addr.add]using h
 |n+1,[],ad,h=>by simp only[List.drop_nil];unfold VRow;trivial
 |n+1,e::es,ad,h=>by
  unfold VRow at h
  have:=VRow.drop n h.2
  rw[vA]at this
  rwa[show(n+1)*k=k+n*k by rw[a18,a2n,a2y]]
theorem VRow.take {k:Nat}: ∀(n:Nat){es:List V}{ad:Addr},VRow X M w k es ad→VRow X M w k (es.take n) ad
 |0,es,ad,h=>by simp only[List.take_zero];unfold VRow;trivial
 |n+1,[],ad,h=>by simp only[List.take_nil];unfold VRow;trivial
 |n+1,e::es,ad,h=>by
  unfold VRow at h
  simp only[List.take_succ_cons]
  unfold VRow
  exact⟨h.1,VRow.take n h.2⟩
theorem VRow.ofCells {k:Nat}(hk:k=1): ∀{cs:List V}{vs:List Value}{ad:Addr},VCells X M w cs vs→(∀c∈cs,c.one=true)→LiesAt w ad vs.toArray→VRow X M w k cs ad
 | [],vs,ad,_,_,_=>by unfold VRow;trivial
 |c::cs,vs,ad,h,h1,hl=>by
  unfold VCells at h
  obtain⟨v,rest,rfl,hv,hc⟩:=h
  have ho:=hv.oneCell (h1 c (by simp))
  unfold VRow
  subst hk
  refine⟨⟨v,hv,by rw[eC ho];rfl, ?_⟩,VRow.ofCells rfl hc (fun c hc=>h1 c (by simp[hc])) (by simpa using hl.drop 1)⟩
  rw[eC ho]
  intro j u hu
  cases j with
  |zero=>exact hl 0 u (by simpa using hu)
  |succ j=>simp at hu
def aJq (X:Nat→Prop)(M:List (Option Nat))(w:World)(o:Option V)(v:Option Value):Prop:=
 (o=none∧v=none)∨ ∃x y,o=some x∧v=some y∧VR X M w x y
theorem aFc {isSlice:Bool}{len cap:Nat}{lo hi:Option V}{vlo vhi:Option Value}{l u:Int}(hlo:aJq X M w lo vlo)(hhi:aJq X M w hi vhi)(hl:nG lo=some l)(hu:yG hi len=some u)
  (h0:0≤l) (hlu:l≤u) (huc:u≤cap):(Instr.sliceBounds isSlice len cap vlo vhi none).run P w= .ok (l.toNat,u.toNat,cap) w:=by
 unfold Instr.sliceBounds
 rcases hhi with⟨rfl,rfl⟩|⟨xh,yh,rfl,rfl,hxh⟩
 ·simp only[yG,a1N]at hu
  subst hu
  rcases hlo with⟨rfl,rfl⟩|⟨xl,yl,rfl,rfl,hxl⟩
  ·simp only[nG,a1N]at hl;subst hl;simp
  simp only[nG]at hl
  obtain⟨k,rfl⟩:=gT hxl hl
  simp[Instr.sliceBound,asIntOf,h0,hlu]
 simp only[yG]at hu
 obtain⟨k,rfl⟩:=gT hxh hu
 have hu0:0≤u:=by omega
 rcases hlo with⟨rfl,rfl⟩|⟨xl,yl,rfl,rfl,hxl⟩
 ·simp only[nG,a1N]at hl;subst hl;simp[Instr.sliceBound,asIntOf,hu0,huc]
 simp only[nG]at hl
 obtain⟨k,rfl⟩:=gT hxl hl
 have:l≤(u.toNat:Int):=by omega
 simp[Instr.sliceBound,asIntOf,h0,hu0,huc]
 intro hh
 exfalso
 omega
theorem aBD {t e:TypeId}{d dt:TI}(ht:aM P t=some dt)(hts:dt.desc= .slice e)(hd:aM P e=some d){a:Option Addr}{len cap:Nat}{lo hi:Option V}{vlo vhi:Option Value}{l u:Int}
  (hlo:aJq X M w lo vlo) (hhi:aJq X M w hi vhi) (hl:nG lo=some l) (hu:yG hi len=some u) (h0:0≤l) (hlu:l≤u) (huc:u≤cap):
  (Instr.sliceAt t (.slice a len cap) vlo vhi none).run P w= .ok (.slice (if cap=l.toNat then a else a.map (·.add (l.toNat*d.size))) (u.toNat-l.toNat) (cap-l.toNat)) w:=by
 have hun:=eU (w:=w) ht
 rw[hts]at hun
 unfold Instr.sliceAt
 rw[Sem.run_bind,hun,Result.andThen_ok]
 simp only
 unfold Instr.slice
 rw[Sem.run_bind,hun,Result.andThen_ok]
 simp only
 rw[Sem.run_bind,aFc hlo hhi hl hu h0 hlu huc,Result.andThen_ok]
 simp only
 rw[Sem.run_bind,fF hd,Result.andThen_ok]
 rfl
theorem aAz {t e:TypeId}{d dt:TI}(ht:aM P t=some dt)(hts:dt.desc= .slice e)(hd:aM P e=some d){a:Option Addr}{len cap:Nat}{lo:Option V}{vlo:Option Value}{ku km:IntKind}{l u:Int}
  (hlo:aJq X M w lo vlo) (hl:nG lo=some l) (h0:0≤l) (hlu:l≤u) (huc:u≤cap):
  (Instr.sliceAt t (.slice a len cap) vlo (some (.int ku u)) (some (.int km u))).run P w= .ok (.slice (if u.toNat=l.toNat then a else a.map (·.add (l.toNat*d.size))) (u.toNat-l.toNat) (u.toNat-l.toNat)) w:=by
 have hun:=eU (w:=w) ht
 rw[hts]at hun
 have hu0:0≤u:=by omega
 have hb:(Instr.sliceBounds true len cap vlo (some (.int ku u)) (some (.int km u))).run P w= .ok (l.toNat,u.toNat,u.toNat) w:=by
  unfold Instr.sliceBounds
  obtain⟨n,rfl⟩: ∃n:Nat,u=n:=⟨u.toNat,by omega⟩
  have huc':n≤cap:=by omega
  rcases hlo with⟨rfl,rfl⟩|⟨xl,yl,rfl,rfl,hxl⟩
  ·simp only[nG,a1N]at hl;subst hl
   simp[Instr.sliceBound,asIntOf,huc']
  simp only[nG]at hl
  obtain⟨k,rfl⟩:=gT hxl hl
  simp[Instr.sliceBound,asIntOf,h0,huc',hlu]
 unfold Instr.sliceAt
 rw[Sem.run_bind,hun,Result.andThen_ok]
 simp only
 unfold Instr.slice
 rw[Sem.run_bind,hun,Result.andThen_ok]
 simp only
 rw[Sem.run_bind,hb,Result.andThen_ok]
 simp only
 rw[Sem.run_bind,fF hd,Result.andThen_ok]
 rfl
theorem aPE {t:TypeId}{x hi mx r:V}{lo:Option V}{v vhi vmx:Value}{vlo:Option Value}(hx:VR X M w x v)(hlo:aJq X M w lo vlo)(hhi:VR X M w hi vhi)(hmx:VR X M w mx vmx)
  (hr:y5 P t x lo hi mx=some r): ∃u,(Instr.sliceAt t v vlo (some vhi) (some vmx)).run P w= .ok u w∧VR X M w r u:=by
 unfold y5 at hr
 split at hr
 ·rename_i e sz by_ z nil k es l u m ht hl hu hm
  split at hr
  ·rename_i d hd
   split at hr
   ·rename_i hc
    obtain⟨hk,h0,hlu,hum,hue⟩:=hc
    subst hum
    injection hr with hr;subst hr
    obtain⟨ku,rfl⟩:=gT hhi hu
    obtain⟨km,rfl⟩:=gT hmx hm
    unfold VR at hx
    obtain⟨a,cap,rfl,hcap,hn,hnil,hok,hrow⟩:=hx
    refine⟨_,aAz ht rfl hd hlo hl h0 hlu (by omega), ?_⟩
    unfold VR
    have hlen:((es.take u.toNat).drop l.toNat).length=u.toNat-l.toNat:=by simp;omega
    refine⟨_,_,by rw[hlen],by omega, ?_, ?_,fun e he=>hok e (a1V (a1Y he)), ?_⟩
    ·intro hh
     split at hh
     ·omega
     cases a with
     |none=>have:=hn rfl;omega
     |some a=>cases hh
    ·intro b hb
     injection hb with hb
     subst hb
     unfold aN1
     rw[hlen]
     simp
    intro hne
    have hlt:l.toNat<u.toNat:=by
     rcases a16 l.toNat u.toNat with hh|hh
     ·exact hh
     exact absurd (a12 (by omega)) hne
    obtain⟨ad,rfl,hk0,hX,hsp,hrw⟩:=hrow (by rintro rfl;simp at hue;omega)
    refine⟨ad.add (l.toNat*d.size),by rw[if_neg (by omega)];rfl,hk0,by rw[aBc];exact hX,aJI _ _ hsp, ?_⟩
    rw[←hk]
    exact(hrw.take u.toNat).drop l.toNat
   split at hr
   ·rename_i hc
    obtain⟨he,rfl,rfl,rfl⟩:=hc
    obtain rfl:es=[]:=by simpa using he
    injection hr with hr;subst hr
    obtain⟨ku,rfl⟩:=gT hhi hu
    obtain⟨km,rfl⟩:=gT hmx hm
    unfold VR at hx
    obtain⟨a,cap,rfl,hcap,hn,hnil,hok,hrow⟩:=hx
    refine⟨_,aAz ht rfl hd hlo hl (a2z 0) (a2z 0) (by omega), ?_⟩
    unfold VR
    exact⟨_,_,rfl,a1W _,fun _=>rfl,(fun b hb=>by injection hb with hb;subst hb;unfold aN1;rfl),(fun e he=>by cases he),fun hh=>absurd rfl hh⟩
   cases hr
  cases hr
 ·rename_i e sz by_ z b off n k ag l u m ht hl hu hm
  split at hr
  ·rename_i d hd
   split at hr
   ·rename_i hc
    obtain⟨rfl,hum,hu0,hun⟩:=hc
    subst hum
    injection hr with hr;subst hr
    obtain⟨ku,rfl⟩:=gT hhi hu
    obtain⟨km,rfl⟩:=gT hmx hm
    unfold VR at hx
    rcases hx with⟨h1,rfl,rfl,rfl⟩|⟨g,cap,e',sz',h1,rfl,h3,h4,h5,h6,h7⟩
    ·obtain rfl:u=0:=by omega
     refine⟨_,aAz ht rfl hd hlo hl (a2z 0) (a2z 0) (by simp), ?_⟩
     unfold VR
     exact .inl ⟨h1,by simp,rfl,rfl⟩
    have hul:u.toNat≤cap:=by omega
    refine⟨_,aAz ht rfl hd hlo hl (a2z 0) hu0 (by omega), ?_⟩
    unfold VR
    refine .inr ⟨g,u.toNat,e',sz',h1, ?_,a1W _,by omega,h5,h6,a2o (Nat.add_le_add_left (a19 _ hul) _) h7⟩
    have e0:(0:Int).toNat=0:=rfl
    simp only[Int.toNat_natCast,e0,Nat.sub_zero,Nat.zero_mul]
    split
    ·rfl
    rfl
   cases hr
  cases hr
 cases hr
theorem aRG {A:Nat→Prop}{h:Hp}(H:HR A M h w){t:TypeId}{x r:V}{lo hi:Option V}{v:Value}{vlo vhi:Option Value}(hx:VR (Xs A M h) M w x v)(hlo:aJq (Xs A M h) M w lo vlo)(hhi:aJq (Xs A M h) M w hi vhi)
  (hr:jV P t h x lo hi=some r): ∃u,(Instr.sliceAt t v vlo vhi none).run P w= .ok u w∧VR (Xs A M h) M w r u:=by
 unfold jV at hr
 split at hr
 ·rename_i e sz by_ z ht
  split at hr
  ·cases hr
  rename_i d hd
  split at hr
  ·rename_i nil k es
   split at hr
   ·rename_i l u hl hu
    split at hr
    ·rename_i hc
     obtain⟨hk,h0,hlu,hue⟩:=hc
     injection hr with hr;subst hr
     unfold VR at hx
     obtain⟨a,cap,rfl,hcap,hn,hnil,hok,hrow⟩:=hx
     refine⟨_,aBD ht rfl hd hlo hhi hl hu h0 hlu (by omega), ?_⟩
     unfold VR
     have hlen:((es.take u.toNat).drop l.toNat).length=u.toNat-l.toNat:=by simp;omega
     refine⟨_,_,by rw[hlen],by omega, ?_, ?_,fun e he=>hok e (a1V (a1Y he)), ?_⟩
     ·intro hh
      split at hh
      ·have:=hn hh;omega
      cases a with
      |none=>have:=hn rfl;omega
      |some a=>cases hh
     ·intro b hb
      cases nil with
      |none=>simp[nlS]at hb
      |some q=>
       cases q with
       |false=>simp[nlS]at hb
       |true=>
        simp only[nlS,a1N]at hb
        subst hb
        have:=hnil true rfl
        unfold aN1 at this⊢
        rw[if_pos rfl]at this⊢
        subst this
        split<;>rfl
     intro hne
     have hlt:l.toNat<u.toNat:=by
      rcases a16 l.toNat u.toNat with hh|hh
      ·exact hh
      exact absurd (a12 (by omega)) hne
     obtain⟨ad,rfl,hk0,hX,hsp,hrw⟩:=hrow (by rintro rfl;simp at hue;omega)
     refine⟨ad.add (l.toNat*d.size),by rw[if_neg (by omega)];rfl,hk0,by rw[aBc];exact hX,aJI _ _ hsp, ?_⟩
     rw[←hk]
     exact(hrw.take u.toNat).drop l.toNat
    cases hr
   cases hr
  ·rename_i b off n k ag
   split at hr
   ·rename_i l u hl hu
    split at hr
    ·rename_i hc
     obtain⟨hk,h0,hlu,hue⟩:=hc
     unfold VR at hx
     rcases hx with⟨hM,rfl,rfl,rfl⟩|⟨g,cap,e',sz',hg,rfl,h1,h2,h3,h4,h5⟩
     ·have hu0:u=0:=by simp at hue;omega
      have hl0:l=0:=by omega
      subst hu0 hl0
      rw[if_pos rfl]at hr
      injection hr with hr;subst hr
      refine⟨_,aBD ht rfl hd hlo hhi hl hu h0 hlu (by omega), ?_⟩
      unfold VR
      exact .inl ⟨hM,rfl,rfl,rfl⟩
     refine⟨_,aBD ht rfl hd hlo hhi hl hu h0 hlu (by omega), ?_⟩
     split at hr
     ·rename_i hl0
      subst hl0
      injection hr with hr;subst hr
      unfold VR
      refine .inr ⟨g,cap,e',sz',hg, ?_,by omega,h2,h3,h4,h5⟩
      simp[Addr.add]
     rename_i hl0
     split at hr
     ·rename_i hlt
      injection hr with hr;subst hr
      unfold VR
      refine .inr ⟨g,cap-l.toNat,e',sz',hg, ?_,by omega,by omega,h3,h4, ?_⟩
      ·rw[if_neg (by omega)];simp[aFG,hk]
      have:cap=l.toNat+(cap-l.toNat):=by omega
      rw[a2a,←a18,←this];exact h5
     rename_i hlt
     injection hr with hr;subst hr
     have hlu':l.toNat=u.toNat:=by omega
     unfold VR
     refine⟨_,cap-l.toNat,by rw[hlu',Nat.sub_self];rfl,by simp, ?_, ?_,by simp,fun hne=>absurd rfl hne⟩
     ·intro hh;split at hh<;>cases hh
     intro b hb
     cases hb
    cases hr
   cases hr
  cases hr
 ·rename_i sz by_ z ht
  split at hr
  ·rename_i s
   split at hr
   ·rename_i l u hl hu
    split at hr
    ·rename_i hc
     injection hr with hr;subst hr
     unfold VR at hx
     subst hx
     refine⟨_, ?_,by unfold VR;rfl⟩
     have hun:=eU (w:=w) ht
     unfold Instr.sliceAt
     rw[Sem.run_bind,hun,Result.andThen_ok]
     simp only
     unfold Instr.slice
     rw[Sem.run_bind,hun,Result.andThen_ok]
     simp only[Option.isSome_none,a17,if_false]
     show Sem.run P (Instr.sliceBounds false s.size s.size vlo vhi none >>= _) w=_
     rw[Sem.run_bind,aFc hlo hhi hl hu hc.1 hc.2.1 (by omega),Result.andThen_ok]
     rfl
    cases hr
   cases hr
  cases hr
 ·rename_i n e sz by_ z ht
  have hun:=eU (w:=w) ht
  split at hr
  ·rename_i d b off l u hd hl hu
   split at hr
   ·rename_i B hb
    split at hr
    ·rename_i hc
     obtain⟨hd0,hnl,h0,hlu,hun',hoff⟩:=hc
     injection hr with hr;subst hr
     unfold VR at hx
     obtain⟨g,sh,hg,rfl,hs⟩:=hx
     obtain⟨cs,hh,hle,_⟩:=aQT H hb hg
     refine⟨.slice (some ⟨g,off+l.toNat*d.size,none⟩) (u.toNat-l.toNat) (n-l.toNat), ?_, ?_⟩
     ·unfold Instr.sliceAt
      rw[Sem.run_bind,hun,Result.andThen_ok]
      simp only[Instr.sureAddr]
      show Sem.run P (Instr.sliceBounds false n n vlo vhi none >>= _) w=_
      rw[Sem.run_bind,aFc hlo hhi hl hu h0 (by omega) (by omega),Result.andThen_ok]
      simp only
      rw[Sem.run_bind,fF hd,Result.andThen_ok,if_neg (by omega),aFG]
      rfl
     unfold VR
     refine .inr ⟨g,n-l.toNat,B.e,cs.size,hg,rfl,by omega,by unfold lim at hnl;simp only[maxLen];omega,hd0,hh.shape hs, ?_⟩
     have:n=l.toNat+(n-l.toNat):=by omega
     rw[a2a,←a18,←this];omega
    cases hr
   cases hr
  ·rename_i d es i off l u hd hl hu
   split at hr
   ·rename_i ev hev
    split at hr
    ·rename_i hc
     obtain⟨hd1,hag,h0,hlu,hun',hoff⟩:=hc
     injection hr with hr;subst hr
     unfold VR at hx
     obtain⟨ad,k,rfl,hk,hX,hsp,hok,hrow⟩:=hx
     have hne:es≠ []:=by rintro rfl;simp at hev
     obtain⟨v,hv,hsz,hlies⟩:=hrow.get hev
     have hok':=hok ev (a2J hev)
     simp only[V.okElem,a15]at hok'
     obtain⟨hcells,_⟩:=hv.cells' hok'.1
     have hl':LiesAt w (ad.add (i*k)) v.cells.toList.toArray:=by simpa using hlies
     have hl2:=(LiesAt.drop hl' (off+l.toNat)).take (u.toNat-l.toNat)
     rw[vA]at hl2
     have hc2:=(hcells.drop (off+l.toNat)).take (u.toNat-l.toNat)
     have hone: ∀c∈(ev.cells.drop (off+l.toNat)).take (u.toNat-l.toNat),c.one=true:=fun c hc=>a1T.1 hok'.1 c (a1Y (a1V hc))
     have hlen:((ev.cells.drop (off+l.toNat)).take (u.toNat-l.toNat)).length=u.toNat-l.toNat:=by simp;omega
     refine⟨.slice (some (ad.add (i*k+(off+l.toNat)))) (u.toNat-l.toNat) (n-l.toNat), ?_, ?_⟩
     ·unfold Instr.sliceAt
      rw[Sem.run_bind,hun,Result.andThen_ok]
      simp only[Instr.sureAddr]
      show Sem.run P (Instr.sliceBounds false n n vlo vhi none >>= _) w=_
      rw[Sem.run_bind,aFc hlo hhi hl hu h0 (by omega) (by omega),Result.andThen_ok]
      simp only
      rw[Sem.run_bind,fF hd,Result.andThen_ok,if_neg (by omega),vA,hd1,Nat.mul_one,a2a]
      rfl
     unfold VR
     refine⟨_,_,by rw[hlen],by rw[hlen];omega,fun hh=>(by cases hh),(fun b hb=>by cases hb), ?_,fun _=>⟨_,rfl,by omega,by rw[aBc];exact hX hne,aJI _ _ hsp,VRow.ofCells rfl hc2 hone hl2⟩⟩
     intro c hc
     have h1:=hone c hc
     have:c.cells=[c]:=by cases c<;>first|rfl|simp[V.one]at h1
     simp[V.okElem,V.flatOk,this,h1]
    cases hr
   cases hr
  cases hr
 cases hr
end
section
variable {A:Nat→Prop}{M:List (Option Nat)}{h:Hp}{P:Program}{w:World}
theorem aO6 (zs:Array Value)(h0:0<zs.size): ∀c:Nat,(madeCells zs (c*zs.size)).toList=(a2i c zs.toList).flatten
 |0=>by simp[madeCells]
 |c+1=>by
  have ih:=aO6 zs h0 c
  have h1:(madeCells zs ((c+1)*zs.size)).toList=(madeCells zs (c*zs.size)).toList++zs.toList:=by
   simp only[madeCells,a2Q,Array.toList_range]
   rw[a18,a2n,List.range_add,List.map_append]
   congr 1
   apply a2g
   intro i
   simp only[a2N,List.getElem?_map]
   rcases a16 i zs.size with hi|hi
   ·rw[List.getElem?_range hi]
    simp[Nat.mul_add_mod_self_right,Nat.mod_eq_of_lt hi,hi]
   rw[a2d (by simpa using hi),a2d (by simpa using hi)]
   rfl
  rw[h1,ih,List.replicate_succ']
  simp
theorem aRX (H:HR A M h w){t:TypeId}{l c r:V}{vl vc:Value}{h':Hp}(hl:VR (Xs A M h) M w l vl)(hc:VR (Xs A M h) M w c vc)(hr:aCv P t l c h=some (r,h')):
  ∃v' w' M',(Instr.makeSlice t vl vc).run P w= .ok v' w'∧Grow A M h w M' h' w'∧VR (Xs A M' h') M' w' r v':=by
 unfold aCv at hr
 split at hr
 ·rename_i e sz by_ z k1 n k2 m ht
  split at hr
  ·rename_i d hd
   split at hr
   ·rename_i hcond
    obtain⟨h0,hnm,hlim,hby,hs0,hz1,hone⟩:=hcond
    simp only[a1N,a1O]at hr
    obtain⟨rfl,rfl⟩:=hr
    unfold VR at hl hc
    subst hl hc
    obtain⟨hu,_⟩:=cR ht
    obtain⟨_,i,hi,hsz,hbt,hzz⟩:=cR hd
    have hN:m.toNat≤lim:=a2o (by have:=Nat.mul_le_mul_left m.toNat hby;omega) hlim
    have hm:((m.toNat:Nat):Int)=m:=by omega
    have hb48:(i.bytes:Int)*m≤281474976710656:=by
     rw[hbt,←hm]
     have:((m.toNat*d.bytes:Nat):Int)≤281474976710656:=by unfold lim at hlim;omega
     rw[Int.natCast_mul,Int.mul_comm]at this
     exact this
    have hrun:=run_make (P:=P) w t e i d.zero hu hi hzz k1 k2 n m h0 hnm hb48 (by unfold lim at hN;omega)
    rw[hsz,←hz1]at hrun
    have hflat:=aO6 d.zero.cells (by omega) m.toNat
    have hqm:(if n=0 then m.toNat else n.toNat)≤m.toNat:=by split<;>omega
    generalize (if n=0 then m.toNat else n.toNat)=q at hqm⊢
    have hlenf:((a2i q (d.zero.cells.toList.map (V.soft∘dY))).flatten).length=q*d.size:=by simp[hz1]
    have hqs:q*d.size≤m.toNat*d.size:=a19 _ hqm
    have hmap:(a2i q (d.zero.cells.toList.map (V.soft∘dY))).flatten=((madeCells d.zero.cells (m.toNat*d.zero.cells.size)).toList.take (q*d.size)).map (V.soft∘dY):=by
     rw[hflat,show m.toNat=q+(m.toNat-q) by omega,←List.replicate_append_replicate,List.flatten_append,a2H (by simp[hz1]),List.map_flatten,List.map_replicate]
    have G:=Grow.alloc H e ((a2i q (d.zero.cells.toList.map (V.soft∘dY))).flatten) (madeCells d.zero.cells (m.toNat*d.zero.cells.size)) (by rw[hlenf,size_madeCells,hz1];exact hqs)
     (by
      rw[hlenf,hmap]
      rw[←a2N]
      exact(qG _).soft)
     (fun c hc=>by
      simp only[List.mem_flatten,List.mem_replicate]at hc
      obtain⟨l,⟨_,rfl⟩,hc⟩:=hc
      exact a1T.1 hone c hc)
    refine⟨_,_,_,hrun,G, ?_⟩
    unfold VR
    refine .inr ⟨w.heap.size,m.toNat,e,_,by rw[←H.len];simp,rfl,by omega,by unfold lim at hN;simp only[maxLen];omega,hs0, ?_,a1W _⟩
    unfold World.shape?
    rw[heap_alloc_new w _]
    simp[size_madeCells,hz1]
   cases hr
  cases hr
 cases hr
theorem aLT (H:HR A M h w){t:TypeId}{len:Nat}{parts:List (Nat×V)}{vparts:Array (Nat×Value)}{r:V}{h':Hp}(hp:aJG (Xs A M h) M w parts vparts.toList)(hr:gJ P t len parts h=some (r,h')):
  ∃v' w' M',(Instr.buildSlice t len vparts).run P w= .ok v' w'∧Grow A M h w M' h' w'∧VR (Xs A M' h') M' w' r v':=by
 unfold gJ at hr
 split at hr
 ·rename_i e sz by_ z ht
  split at hr
  ·rename_i d hd
   split at hr
   ·rename_i hc
    obtain⟨h24,hl0,hs0⟩:=hc
    split at hr
    ·rename_i cells hf
     split at hr
     ·rename_i hc2
      obtain⟨hone,hlen⟩:=hc2
      simp only[a1N,a1O]at hr
      obtain⟨rfl,rfl⟩:=hr
      obtain⟨ds,hds,hcs⟩:=aFg (cs:=(a2T (len*d.size)).map (d.zero.cells[· % d.zero.cells.size]!)) (qG (X:=Xs A M h) (M:=M) (w:=w) _) hp.1 hp.2 hf
      have hdl:ds.size=len*d.size:=by have:=hcs.len;simp at this;omega
      have G:=Grow.alloc H e cells ds (by omega) (by rw[a10 (by simp;omega)];exact hcs) (fun c hc=>a1T.1 hone c hc)
      refine⟨.slice (some ⟨w.heap.size,0,none⟩) len len,_,_, ?_,G, ?_⟩
      ·unfold Instr.buildSlice
       rw[Sem.run_bind,eU ht,Result.andThen_ok]
       simp only
       rw[Sem.run_bind,fF hd,Result.andThen_ok]
       have hne: ¬(len*d.size>2^24):=by omega
       have hne0: ¬(len*d.size=0):=by have:=Nat.mul_pos hl0 hs0;omega
       simp[hne,hne0,aGK hd,hds,newRow]
      unfold VR
      refine .inr ⟨w.heap.size,len,e,_,by rw[←H.len];simp,rfl,a1W _,by simp only[maxLen];have:=Nat.le_mul_of_pos_right len hs0;omega,hs0, ?_,a1W _⟩
      unfold World.shape?
      rw[heap_alloc_new w _]
      simp[hdl]
     cases hr
    cases hr
   split at hr
   ·rename_i hc
    obtain⟨rfl,hp0,hs0⟩:=hc
    obtain rfl:parts=[]:=by simpa using hp0
    simp only[a1N,a1O]at hr
    obtain⟨rfl,rfl⟩:=hr
    have hv0:vparts= #[]:=by
     have h1:=hp.1
     simp only[a2E]at h1
     first
      |exact a2r (by simpa using h1.symm)
      |exact a2r (by simpa using h1)
      |simpa using h1
    subst hv0
    have G:=Grow.alloc H e [] #[] (by simp) (by simp only[a2E,List.take_zero];unfold VCells;rfl) (fun c hc=>by cases hc)
    refine⟨.slice (some ⟨w.heap.size,0,none⟩) 0 0,_,_, ?_,G, ?_⟩
    ·unfold Instr.buildSlice
     rw[Sem.run_bind,eU ht,Result.andThen_ok]
     simp only
     rw[Sem.run_bind,fF hd,Result.andThen_ok]
     have hr0:a2T 0= #[]:=rfl
     simp[Instr.fill,newRow,hr0]
    unfold VR
    refine .inr ⟨w.heap.size,0,e,_,by rw[←H.len];simp,rfl,a1W _,Nat.zero_le _,hs0, ?_,a1W _⟩
    unfold World.shape?
    rw[heap_alloc_new w _]
    simp
   cases hr
  cases hr
 cases hr
theorem aRO (H:HR A M h w){t t' ty:TypeId}{x y r:V}{v u:Value}{h':Hp}(hx:VR (Xs A M h) M w x v)(hy:VR (Xs A M h) M w y u)(hr:aLI P t x y h=some (r,h')):
  ∃v' w',(Builtin.copy_ #[t,t'] ty #[v,u]).run P w= .ok v' w'∧Grow A M h w M h' w'∧VR (Xs A M h') M w' r v':=by
 unfold aLI at hr
 split at hr
 ·rename_i e sz by_ z ht
  split at hr
  ·cases hr
  rename_i d hd
  split at hr
  ·rename_i b off n k ag news m hsrc
   have S:=aIU H hy hsrc
   split at hr
   ·rename_i B hb
    split at hr
    ·rename_i hc
     obtain⟨rfl,hk0,hoff⟩:=hc
     simp only[a1N,a1O]at hr
     obtain⟨rfl,rfl⟩:=hr
     obtain⟨hu,_⟩:=cR ht
     obtain⟨vs,hvs,hlen,hfirst⟩: ∃vs:List Value,VCells (Xs A M h) M w (news.take (min m n*d.size)) vs∧(Builtin.lenOf u).run P w= .ok m w∧
       (Builtin.firstCells d.size (min m n) u).run P w= .ok vs.toArray w:=by
      rcases S.is with⟨c,rfl,rfl⟩|⟨ad,c,vs,rfl,hc,hl⟩
      ·refine⟨[],by simp;unfold VCells;rfl,by simp[Builtin.lenOf],by simp[Builtin.firstCells]⟩
      refine⟨vs.take (min m n*d.size),hc.take _,by simp[Builtin.lenOf], ?_⟩
      have hl2:(vs.take (min m n*d.size)).length=min m n*d.size:=by
       rw[a2A,←hc.len,S.len];exact a2F (a19 _ (Nat.min_le_left _ _))
      exact run_firstCells_some w d.size (min m n) ad m c _ hl2 (fun j u hj=>(hl.take _) j u (by simpa using hj))
     have hone: ∀c∈news.take (min m n*d.size),c.one=true:=fun c hc=>S.one c (a1V hc)
     have hone':=VCells.oneCell hvs (a1T.2 hone)
     have hnl:(news.take (min m n*d.size)).length=min m n*d.size:=by
      rw[a2A,S.len];exact a2F (a19 _ (Nat.min_le_left _ _))
     unfold VR at hx
     rcases hx with⟨hM,rfl,rfl,rfl⟩|⟨g,cap,e',sz',hg,rfl,h1,h2,h3,h4,h5⟩
     ·
      have hB:B.cells=[]:=by
       rcases(H.blk b B hb).2 with⟨_,hh⟩|⟨g,cs,hg,_⟩
       ·exact hh
       rw[hM]at hg;cases hg
      have hset:h.set b (some ⟨B.e,splice B.cells 0 (news.take (min m 0*d.size))⟩)=h:=by
       have:(⟨B.e,splice B.cells 0 (news.take (min m 0*d.size))⟩:Blk)=B:=by
        cases B;simp at hB;subst hB;simp[splice]
       rw[this]
       apply a2g
       intro i
       by_cases hi:b=i
       ·subst hi;rw[a2C (a1M.1 hb).1,hb]
       rw[a2h hi]
      rw[hset]
      refine⟨_,w, ?_,Grow.refl H,by unfold VR;rfl⟩
      have hmin:Nat.min m 0=min m 0:=rfl
      rw[Nat.min_zero]at hfirst
      simp[Builtin.copy_,run_underlying hu,fF hd,hlen,hfirst,goInt,hmin]
     obtain⟨w',hw,G⟩:=Grow.store (P:=P) H hb (off:=off) (news:=news.take (min m n*d.size)) (vs:=vs) (by rw[hnl];have:=a19 d.size (Nat.min_le_right m n);omega) hvs hone' hg h4 hone
     refine⟨.int .i64 (min m n:Nat),w', ?_,G,by unfold VR;rfl⟩
     have hmin:Nat.min m n=min m n:=rfl
     simp[Builtin.copy_,run_underlying hu,fF hd,hlen,hfirst,goInt,hw,hmin]
    cases hr
   cases hr
  cases hr
 cases hr
end
section
variable {X:Nat→Prop}{M:List (Option Nat)}{P:Program}{w:World}
theorem aQ2 : ∀{es:List V},es.all V.one=true→es.flatMap V.cells=es
 | [],_=>rfl
 |e::es,h=>by
  simp only[List.all_cons,a15]at h
  have:e.cells=[e]:=by cases e<;>first|rfl|simp[V.one]at h
  simp[a13,this,aQ2 h.2]
theorem aSW {t:TypeId}{x r:V}{v:Value}(hx:VR X M w x v)(hr:aJd P t x=some r): ∃u,(Instr.arrayAt t v).run P w= .ok u w∧VR X M w r u:=by
 unfold aJd at hr
 split at hr
 ·rename_i n e sz by_ z nil k es ht
  split at hr
  ·rename_i hc
   obtain⟨rfl,hn,hl,hone⟩:=hc
   injection hr with hr;subst hr
   unfold VR at hx
   obtain⟨a,cap,rfl,hcap,_,_,hok,hrow⟩:=hx
   have hne:es≠ []:=by rintro rfl;simp at hl;omega
   obtain⟨ad,rfl,_,hX,hsp,hrw⟩:=hrow hne
   refine⟨.pointer (some ad), ?_, ?_⟩
   ·have hlt: ¬es.length<n:=by omega
    simp[Instr.arrayAt,eU (w:=w) ht,hlt]
   have hone':(es.take n).all V.one=true:=by
    rw[a1T]at hone⊢
    exact fun c hc=>hone c (a1V hc)
   obtain⟨vs,f1,f2,f3,f4⟩:=(VRow.take n hrw).flat (fun e he=>hok e (a1V he))
   rw[aQ2 hone']at f1 f3
   have hlen:(es.take n).length=n:=by simp;omega
   unfold VR
   refine⟨ad,n,by simp[Addr.add],hn,fun _=>hX,hsp, ?_, ?_⟩
   ·intro e he
    simp only[List.mem_singleton]at he
    subst he
    simp only[V.okElem,V.flatOk,V.cells,hone',hlen,beq_self_eq_true,Bool.and_self]
   unfold VRow
   refine⟨⟨.agg vs.toArray,by unfold VR;exact⟨vs,rfl,f1⟩,by simp only[Value.cells,a2M];rw[←f1.len,hlen],f2⟩,by unfold VRow;trivial⟩
  cases hr
 ·rename_i n e sz by_ z b off m k ag ht
  split at hr
  ·rename_i hc
   obtain⟨hn,hl⟩:=hc
   injection hr with hr;subst hr
   unfold VR at hx
   rcases hx with⟨_,_,rfl,_⟩|⟨g,cap,e',sz',hg,rfl,_,_,_,hs,_⟩
   ·omega
   refine⟨.pointer (some ⟨g,off,none⟩), ?_,by unfold VR;exact⟨g,_,hg,rfl,hs⟩⟩
   have hlt: ¬m<n:=by omega
   simp[Instr.arrayAt,eU (w:=w) ht,hlt]
  cases hr
 cases hr
end
def lV (d:TI):Nat:=if cB d.desc then d.size else 0
def aMR (d:TI):Bool:=if cB d.desc then decide (0<d.size)&&decide (d.size<1000)else true
structure MT where
 kt:TypeId
 et:TypeId
 dk:TI
 de:TI
def r6 (P:Program)(t:TypeId):Option MT:=
 match aM P t with
 |some ⟨.map k e,_,_,_⟩=>match aM P k,aM P e with
  |some dk,some de=>if aMR dk&&aMR de then some ⟨k,e,dk,de⟩else none
  |_,_=>none
 |_=>none
def MT.code (m:MT):Nat:=lV m.dk*1000+lV m.de
def c6 (n:Nat):Nat:=if n=0 then 1 else n
def aEz (n:Nat)(cs:List V):V:=if n=0 then cs.headD .any else .agg cs
def aI3 (n:Nat)(x:V):Bool:=x.flatOk&&(if n=0 then x.one else match x with
 | .agg cs=>cs.length == n
 |_=>false)
def aBY (k l:Nat):Nat→List V→List (V×V)
 |0,_=>[]
 |n+1,cs=>(aEz k (cs.take (c6 k)),aEz l ((cs.drop (c6 k)).take (c6 l)))::aBY k l n (cs.drop (c6 k+c6 l))
def aDX (es:List (V×V)):List V:=es.flatMap fun e=>e.1.cells++e.2.cells
def pE (P:Program)(kt:TypeId)(kv:Value):List Value→Option (Option Nat)
 | []=>some none
 |k::ks=>match aS P (Go.Op.equal kt kv k) with
  |some true=>some (some 0)
  |some false=>(pE P kt kv ks).map (·.map (· + 1))
  |none=>none
structure MAt where
 m:MT
 b:Nat
 B:Blk
 es:List (V×V)
def zB (P:Program)(t:TypeId)(h:Hp)(x:V):Option MAt:=
 match r6 P t,x with
 |some m,.mp b=>match h[b]? with
  |some (some B)=>if B.e=m.code then some ⟨m,b,B,aBY (lV m.dk) (lV m.de) (B.cells.length/(c6 (lV m.dk)+c6 (lV m.de))) B.cells⟩else none
  |_=>none
 |_,_=>none
def aCQ (P:Program)(kt:TypeId)(es:List (V×V))(k:V):Option (Value×List Value×Option Nat):=
 match eN k,es.mapM (fun e=>eN e.1) with
 |some kv,some ks=>match aS P (Instr.checkKey true 10000 kt kv),aS P (Instr.checkKey false 10000 kt kv),pE P kt kv ks with
  |some _,some _,some ix=>some (kv,ks,ix)
  |_,_,_=>none
 |_,_=>none
def aJQ (P:Program)(t:TypeId)(h:Hp):Option (V×Hp):=(r6 P t).map fun m=>(.mp h.length,h++[some ⟨m.code,[]⟩])
def V.softA :V→V
 | .agg cs=> .agg (cs.map V.soft)
 |x=>x
theorem VR.softA {X:Nat→Prop}{M:List (Option Nat)}{w:World}{x:V}{v:Value}(h:VR X M w x v):VR X M w x.softA v:=by
 cases x<;>first|exact h|(
  unfold VR at h
  unfold V.softA VR
  obtain⟨vs,e1,e2⟩:=h
  exact⟨vs,e1,e2.soft⟩)
def vI (P:Program)(t:TypeId)(h:Hp)(x k:V)(ok:Bool):Option V:=
 match zB P t h x with
 |none=>none
 |some a=>match aCQ P a.m.kt a.es k with
  |none=>none
  |some (_,_,none)=>some (if ok then .tup [(ofValue a.m.de.zero).softA,.sc (.bool false)]else(ofValue a.m.de.zero).softA)
  |some (_,_,some i)=>match a.es[i]? with
   |none=>none
   |some e=>some (if ok then .tup [e.2,.sc (.bool true)]else e.2)
def aNy (ks:List Value)(i:Nat)(kv:Value):Bool:=(ks[i]?).any fun old=>Instr.sameBits 10000 old kv
def aOt (P:Program)(t:TypeId)(h:Hp)(x k v:V):Option Hp:=
 match zB P t h x with
 |none=>none
 |some a=>if aI3 (lV a.m.dk) k&&aI3 (lV a.m.de) v then match aCQ P a.m.kt a.es k with
  |none=>none
  |some (_,_,none)=>some (h.set a.b (some ⟨a.B.e,a.B.cells++(k.cells++v.cells)⟩))
  |some (kv,ks,some i)=>if aNy ks i kv then some (h.set a.b (some ⟨a.B.e,aDX (a.es.set i (k,v))⟩))else none
  else none
def aQp (P:Program)(t:TypeId)(h:Hp)(x k:V):Option Hp:=
 match zB P t h x with
 |none=>none
 |some a=>match aCQ P a.m.kt a.es k with
  |none=>none
  |some (_,_,none)=>some (h.set a.b (some a.B))
  |some (_,_,some i)=>some (h.set a.b (some ⟨a.B.e,aDX (a.es.eraseIdx i)⟩))
theorem aHA (n:Nat):0<c6 n:=by unfold c6;split<;>omega
theorem aD2 {n:Nat}{v:Value}(h:rF n v):v.cells.size=c6 n:=by
 unfold rF at h
 unfold c6
 split at h
 ·rename_i h0
  rw[eC h,if_pos h0];rfl
 rename_i h0
 obtain⟨xs,rfl,hx⟩:=h
 rw[if_neg h0];exact hx
section
variable {X:Nat→Prop}{M:List (Option Nat)}{w:World}
theorem aQk {n:Nat}{v:Value}(h:rF n v){cs:List V}(hc:VCells X M w cs v.cells.toList):VR X M w (aEz n cs) v:=by
 unfold rF at h
 unfold aEz
 split at h
 ·rename_i h0
  rw[if_pos h0]
  rw[eC h]at hc
  match cs,hc with
  | [],hc=>unfold VCells at hc;simp at hc
  |c::cs,hc=>
   unfold VCells at hc
   obtain⟨u,rest,h1,h2,_⟩:=hc
   simp at h1
   rw[h1.1];exact h2
 rename_i h0
 obtain⟨xs,rfl,hx⟩:=h
 rw[if_neg h0]
 unfold VR
 exact⟨xs.toList,by simp,hc⟩
def ERel (X:Nat→Prop)(M:List (Option Nat))(w:World):List (V×V)→List MapEntry→Prop
 | [],[]=>True
 |p::ps,e::es=>VR X M w p.1 e.key∧VR X M w p.2 e.val∧ERel X M w ps es
 |_,_=>False
theorem aE7 {k l:Nat}: ∀{es:List MapEntry},(∀x∈es,rF k x.key∧rF l x.val)→(i9 es).length=es.length*(c6 k+c6 l)
 | [],_=>by simp[i9]
 |e::es,h=>by
  have h1:=h e (by simp)
  have:=aE7 (es:=es) (fun x hx=>h x (by simp[hx]))
  have e1:(i9 (e::es)).length=(e.key.cells.toList++e.val.cells.toList).length+(i9 es).length:=by simp only[i9,a13,a2l]
  rw[e1,this]
  simp only[a2l,Array.length_toList,aD2 h1.1,aD2 h1.2,a2s,a18,a2n]
  omega
theorem aRe {k l:Nat}: ∀{es:List MapEntry}{cs:List V},(∀x∈es,rF k x.key∧rF l x.val)→VCells X M w cs (i9 es)→ERel X M w (aBY k l es.length cs) es
 | [],cs,_,_=>by simp[aBY,ERel]
 |e::es,cs,h,hc=>by
  have h1:=h e (by simp)
  have s1:=aD2 h1.1
  have s2:=aD2 h1.2
  have e1:i9 (e::es)=e.key.cells.toList++(e.val.cells.toList++i9 es):=by simp[i9]
  rw[e1]at hc
  have t1:=hc.take (c6 k)
  rw[a2H (by simpa using s1)]at t1
  have d1:=hc.drop (c6 k)
  rw[a2U (by simpa using s1)]at d1
  have t2:=d1.take (c6 l)
  rw[a2H (by simpa using s2)]at t2
  have d2:=d1.drop (c6 l)
  rw[a2U (by simpa using s2),List.drop_drop]at d2
  simp only[a2s,aBY,ERel]
  exact⟨aQk h1.1 t1,aQk h1.2 t2,aRe (fun x hx=>h x (by simp[hx])) d2⟩
theorem ERel.get : ∀{ps:List (V×V)}{es:List MapEntry},ERel X M w ps es→ ∀{i:Nat}{p:V×V},ps[i]? =some p→ ∃e,es[i]? =some e∧VR X M w p.1 e.key∧VR X M w p.2 e.val
 | [],[],_,i,p,hp=>by simp at hp
 |q::ps,e::es,h,0,p,hp=>by
  simp at hp;subst hp
  exact⟨e,rfl,h.1,h.2.1⟩
 |q::ps,e::es,h,i+1,p,hp=>by
  obtain⟨e',h1,h2⟩:=ERel.get h.2.2 (i:=i) (p:=p) (by simpa using hp)
  exact⟨e',by simpa using h1,h2⟩
 | [],e::es,h,_,_,_=>h.elim
 |q::ps,[],h,_,_,_=>h.elim
theorem ERel.keys : ∀{ps:List (V×V)}{es:List MapEntry},ERel X M w ps es→ ∀{ks:List Value},ps.mapM (fun e=>eN e.1)=some ks→es.map (·.key)=ks
 | [],[],_,ks,h=>by simp at h;subst h;rfl
 |q::ps,e::es,h,ks,hk=>by
  simp only[a2b,a14,a1L]at hk
  obtain⟨v,hv,vs,hvs,hks⟩:=hk
  injection hks with hks
  subst hks
  rw[a2j,ERel.keys h.2.2 hvs,o8 h.1 hv]
 | [],e::es,h,_,_=>h.elim
 |q::ps,[],h,_,_=>h.elim
end
section
variable {P:Program}{w:World}
theorem aNS {kt:TypeId}{d:TypeDesc}(hd:P.underlying kt=some d){a b:Value}{r:Bool}(h:Instr.sameNow d a b=some r):aS P (Go.Op.equal kt a b)=some r:=by
 have hu:aS P (underlying kt)=some d:=by
  show aS P (match P.underlying kt with|some d=>pure d|none=>stuck "no such type")=_
  rw[hd];rfl
 unfold Go.Op.equal Go.Op.maxDepth
 rw[Go.Op.equalIn]
 show aS P (Sem.bind (underlying kt) _)=_
 have hb: ∀{α β:Type}(s:Sem α)(f:α→Sem β){a:α},aS P s=some a→aS P (Sem.bind s f)=aS P (f a):=by
  intro α β s f a h
  induction s with
  |pure x=>simp only[aS,a1N]at h;subst h;rfl
  |program k ih=>exact ih P h
  |mark m k ih=>exact ih h
  |_=>simp[aS]at h
 rw[hb _ _ hu]
 unfold Instr.sameNow at h
 split at h
 ·split at h
  ·rename_i hk;subst hk;injection h with h;subst h;simp only[if_true];rfl
  cases h
 ·injection h with h;subst h;rfl
 ·injection h with h;subst h;rfl
 cases h
theorem aIi {kt:TypeId}{kv:Value}: ∀(es:List MapEntry)(i:Nat){ix:Option Nat},pE P kt kv (es.map (·.key))=some ix→(Instr.findAsking kt kv es i).run P w= .ok (ix.bind fun j=>(es[j]?).map fun e=>(i+j,e.val)) w
 | [],i,ix,h=>by simp[pE]at h;subst h;simp[Instr.findAsking]
 |e::es,i,ix,h=>by
  simp only[a2j,pE]at h
  unfold Instr.findAsking
  split at h
  ·rename_i hq
   injection h with h;subst h
   rw[Sem.run_bind,jD _ hq w,Result.andThen_ok]
   simp
  ·rename_i hq
   simp only[a1K]at h
   obtain⟨jx,hj,rfl⟩:=h
   rw[Sem.run_bind,jD _ hq w,Result.andThen_ok]
   simp only[a17,if_false]
   rw[aIi es (i+1) hj]
   cases jx with
   |none=>rfl
   |some j=>simp[a2a,a2y 1 j]
  cases h
theorem aNK {kt:TypeId}{d:TypeDesc}(hd:P.underlying kt=some d){kv:Value}: ∀(es:List MapEntry)(i:Nat){ix:Option Nat}{r:Option (Nat×Value)},pE P kt kv (es.map (·.key))=some ix→Instr.findNow d kv es i=some r→r=ix.bind fun j=>(es[j]?).map fun e=>(i+j,e.val)
 | [],i,ix,r,h,hr=>by simp[pE]at h;simp[Instr.findNow]at hr;subst h hr;rfl
 |e::es,i,ix,r,h,hr=>by
  simp only[a2j,pE]at h
  unfold Instr.findNow at hr
  split at hr
  ·rename_i hs
   rw[aNS hd hs]at h
   injection h with h;injection hr with hr;subst h hr;simp
  ·rename_i hs
   rw[aNS hd hs]at h
   simp only[a1K]at h
   obtain⟨jx,hj,rfl⟩:=h
   rw[aNK hd es (i+1) hj hr]
   cases jx with
   |none=>rfl
   |some j=>simp[a2a,a2y 1 j]
  cases hr
theorem vH {kt:TypeId}{d:TypeDesc}(hd:P.underlying kt=some d){kv:Value}{es:List MapEntry}{ix:Option Nat}(h:pE P kt kv (es.map (·.key))=some ix):(Instr.findKey kt kv es).run P w= .ok (ix.bind fun j=>(es[j]?).map fun e=>(j,e.val)) w:=by
 unfold Instr.findKey
 rw[Sem.run_bind,run_underlying hd w,Result.andThen_ok]
 cases hn:Instr.findNow d kv es 0 with
 |some r=>
  simp only
  have:=aNK hd es 0 h hn
  simp only[a2D]at this
  rw[this];rfl
 |none=>
  simp only
  have:=aIi (w:=w) es 0 h
  simpa only[a2D]using this
theorem aKR {kt:TypeId}{kv:Value}: ∀{ks:List Value}{i:Nat},pE P kt kv ks=some (some i)→i<ks.length
 | [],i,h=>by simp[pE]at h
 |k::ks,i,h=>by
  simp only[pE]at h
  split at h
  ·injection h with h;injection h with h;subst h;simp
  ·simp only[a1K]at h
   obtain⟨jx,hj,h2⟩:=h
   cases jx with
   |none=>simp at h2
   |some j=>simp at h2;subst h2;have:=aKR hj;simp;omega
  cases h
end
section
variable {P:Program}{A:Nat→Prop}{M:List (Option Nat)}{h:Hp}{w:World}
theorem aCo {t:TypeId}{m:MT}(hm:r6 P t=some m):P.underlying t=some (.map m.kt m.et)∧aM P m.kt=some m.dk∧aM P m.et=some m.de∧aMR m.dk=true∧aMR m.de=true:=by
 unfold r6 at hm
 split at hm
 ·rename_i k e _ _ _ ht
  split at hm
  ·rename_i dk de h1 h2
   split at hm
   ·rename_i hc
    injection hm with hm;subst hm
    simp only[a15]at hc
    exact⟨(cR ht).1,h1,h2,hc.1,hc.2⟩
   cases hm
  cases hm
 cases hm
theorem aYB {d:TI}(h:aMR d=true):lV d<1000:=by
 unfold aMR at h
 unfold lV
 split<;>simp_all
theorem aF4 {m:MT}(h2:aMR m.de=true):m.code/1000=lV m.dk∧m.code%1000=lV m.de:=by
 have:=aYB h2
 unfold MT.code
 omega
theorem aE6 (H:HR A M h w){t:TypeId}{x:V}{v:Value}{a:MAt}(ha:zB P t h x=some a)(hx:VR (Xs A M h) M w x v):
  r6 P t=some a.m∧a.B.e=a.m.code∧h[a.b]? =some (some a.B)∧(∀c∈a.B.cells,c.one=true)∧ ∃g es clock cs,M[a.b]? =some (some g)∧ ¬A g∧v= .map (some g)∧w.heap[g]? =some (.map es clock)∧aQb a.B.e es clock cs∧a.B.cells.length=cs.size∧
   (∀x∈es.toList,rF (lV a.m.dk) x.key∧rF (lV a.m.de) x.val)∧VCells (Xs A M h) M w a.B.cells (i9 es.toList)∧ERel (Xs A M h) M w a.es es.toList:=by
 unfold zB at ha
 split at ha
 ·rename_i m b hm
  split at ha
  ·rename_i B hb
   split at ha
   ·rename_i he
    injection ha with ha;subst ha
    unfold VR at hx
    obtain⟨g,hg,rfl,hl,hs⟩:=hx
    obtain⟨hone,⟨hn,_⟩|⟨g',cs,hg',hA,hh,hle,hcs⟩⟩:=H.blk b B hb
    ·rw[hg]at hn;cases hn
    rw[hg]at hg';injection hg' with hg';injection hg' with hg';subst hg'
    obtain⟨es,clock,h1,h2,h3⟩:=hh.inMap hs
    obtain⟨_,_,_,_,ok2⟩:=aCo hm
    have hsh:=h2.shp
    rw[he,(aF4 ok2).1,(aF4 ok2).2]at hsh
    rw[h3,a10 (by simp),h2.cells]at hcs
    have hn:B.cells.length/(c6 (lV m.dk)+c6 (lV m.de))=es.toList.length:=by
     rw[hcs.len,aE7 hsh]
     exact Nat.mul_div_cancel _ (by have:=aHA (lV m.dk);omega)
    refine⟨hm,he,hb,hone,g,es,clock,cs,hg,hA,rfl,h1,h2,h3,hsh,hcs, ?_⟩
    simp only
    rw[hn]
    exact aRe hsh hcs
   cases ha
  cases ha
 cases ha
theorem aMA {t:TypeId}{x:V}{a:MAt}(ha:zB P t h x=some a):a.es=aBY (lV a.m.dk) (lV a.m.de) (a.B.cells.length/(c6 (lV a.m.dk)+c6 (lV a.m.de))) a.B.cells:=by
 unfold zB at ha
 split at ha
 ·split at ha
  ·split at ha
   ·injection ha with ha;subst ha;rfl
   cases ha
  cases ha
 cases ha
theorem sR {kt:TypeId}{es:List (V×V)}{k:V}{kv:Value}{ks:List Value}{ix:Option Nat}(h:aCQ P kt es k=some (kv,ks,ix)):
  eN k=some kv∧es.mapM (fun e=>eN e.1)=some ks∧(∀b,aS P (Instr.checkKey b 10000 kt kv)=some ())∧pE P kt kv ks=some ix:=by
 unfold aCQ at h
 split at h
 ·rename_i kv' ks' h1 h2
  split at h
  ·rename_i ix' h3 h4 h5
   simp only[a1N,a1O]at h
   obtain⟨rfl,rfl,rfl⟩:=h
   exact⟨h1,h2,fun b=>by
    cases b
    ·exact h4
    exact h3,h5⟩
  cases h
 cases h
theorem aPF (H:HR A M h w){t:TypeId}{x k r:V}{ok:Bool}{vx vk:Value}(hx:VR (Xs A M h) M w x vx)(hk:VR (Xs A M h) M w k vk)(hr:vI P t h x k ok=some r):
  ∃u,(Instr.lookup t vx vk ok).run P w= .ok u w∧VR (Xs A M h) M w r u:=by
 unfold vI at hr
 split at hr
 ·cases hr
 rename_i a ha
 obtain⟨hm,he,hb,hone,g,es,clock,cs,hg,hA,rfl,hw,hok,hn,hsh,hcs,hE⟩:=aE6 H ha hx
 obtain⟨hu,hdk,hde,_,_⟩:=aCo hm
 have hget:(getObj g).run P w= .ok (.map es clock) w:=by simp[getObj,Sem.run,hw]
 have tup: ∀{y:V}{u:Value}{b:Bool},VR (Xs A M h) M w y u→VR (Xs A M h) M w (if ok=true then .tup [y,.sc (.bool b)]else y) (if ok=true then .tuple #[u,.bool b]else u):=by
  intro y u b hy
  cases ok with
  |false=>exact hy
  |true=>
   simp only[if_true]
   unfold VR
   refine⟨[u,.bool b],rfl, ?_⟩
   unfold VCells
   refine⟨_,_,rfl,hy, ?_⟩
   unfold VCells
   refine⟨_,_,rfl,by unfold VR;rfl,by unfold VCells;rfl⟩
 split at hr
 ·cases hr
 ·rename_i kv ks hf
  obtain⟨h1,h2,h3,h4⟩:=sR hf
  have hkv:=o8 hk h1
  subst hkv
  rw[←hE.keys h2]at h4
  have hfk:=vH (w:=w) (cR hdk).1 h4
  injection hr with hr;subst hr
  refine⟨_, ?_,tup (aJO a.m.de.zero).softA⟩
  have hc:=jD _ (h3 es.isEmpty) w
  simp[Instr.lookup,run_underlying hu,hget,hc,hfk,aGK hde]
 rename_i kv ks i hf
 obtain⟨h1,h2,h3,h4⟩:=sR hf
 have hkv:=o8 hk h1
 subst hkv
 rw[←hE.keys h2]at h4
 have hfk:=vH (w:=w) (cR hdk).1 h4
 split at hr
 ·cases hr
 rename_i e hei
 injection hr with hr;subst hr
 obtain⟨e',q1,q2,q3⟩:=hE.get hei
 refine⟨_, ?_,tup q3⟩
 have hc:=jD _ (h3 es.isEmpty) w
 simp only[q1,a1P,a2V]at hfk
 simp[Instr.lookup,run_underlying hu,hget,hc,hfk]
theorem aN8 (H:HR A M h w){t:TypeId}{r:V}{h':Hp}(hr:aJQ P t h=some (r,h')):
  ∃v w' M',(Instr.makeMap t none).run P w= .ok v w'∧Grow A M h w M' h' w'∧VR (Xs A M' h') M' w' r v:=by
 unfold aJQ at hr
 simp only[a1K,a1O]at hr
 obtain⟨m,hm,rfl,rfl⟩:=hr
 have hE:Ext (c8 M h) w (w.alloc (.map #[] 0)):=Ext.alloc _ _ _
 have hlive: ∀g,g<w.heap.size→c8 (M++[some w.heap.size]) (h++[some ⟨m.code,[]⟩]) g→c8 M h g:=by
  rintro g hg ⟨b,B,hb,hm⟩
  rcases eR hm with hm'|⟨_,hm'⟩
  ·rcases eR hb with hb'|⟨rfl,_⟩
   ·exact⟨b,B,hb',hm'⟩
   have:=(a1M.1 hm').1;rw[H.len]at this;omega
  injection hm';omega
 have keep: ∀cs us,VCells (Xs A M h) M w cs us→VCells (Xs A (M++[some w.heap.size]) (h++[some ⟨m.code,[]⟩])) (M++[some w.heap.size]) (w.alloc (.map #[] 0)) cs us:=
  fun cs us hh=>VCells.ext hE ⟨_,rfl⟩ (fun _ _ hl=> .inr hl) (fun g hg hx=>hx.elim .inl (fun hl=> .inr (hlive g hg hl))) cs us hh
 have hnew:(w.alloc (.map #[] 0)).heap[w.heap.size]? =some (.map #[] 0):=heap_alloc_new w _
 refine⟨.map (some w.heap.size),w.alloc (.map #[] 0),M++[some w.heap.size],by simp[Instr.makeMap,newObj,Sem.run],⟨⟨_,rfl⟩,⟨by simp[H.len],fun g hg=>by have:=H.alt g hg;simp;omega, ?_, ?_,H.glob.grow hE hlive⟩,hE,hlive⟩, ?_⟩
 ·intro b B hb
  rcases eR hb with hb'|⟨hbl,hB⟩
  ·obtain⟨h0,⟨hn,hn'⟩|⟨g,cs,h1,h2,h3,h4,h5⟩⟩:=H.blk b B hb'
   ·exact⟨h0,.inl ⟨kK hn,hn'⟩⟩
   exact⟨h0,.inr ⟨g,cs,kK h1,h2,h3.to (RowKit.Below.heap_alloc w _ g (H.mlt hb' h1)),h4,keep _ _ h5⟩⟩
  injection hB with hB
  subst hB
  refine⟨(fun c hc=>by cases hc),.inr ⟨w.heap.size,#[],by rw[hbl,←H.len];simp,fun ha=>Nat.lt_irrefl _ (H.alt _ ha),.inr ⟨#[],0,hnew,⟨rfl,(fun x hx=>by simp at hx),(fun x hx=>by simp at hx),by simp⟩,rfl⟩,a1W _, ?_⟩⟩
  show VCells _ _ _ [] _
  unfold VCells;rfl
 ·intro b b' B B' g hb hb' hm hm'
  rcases eR hb with h1|⟨h1,_⟩<;>rcases eR hb' with h2|⟨h2,_⟩<;>rcases k7 hm with m1|⟨m1,m1'⟩<;>rcases k7 hm' with m2|⟨m2,m2'⟩
  ·exact H.inj b b' B B' g h1 h2 m1 m2
  ·have:=H.mlt h1 m1;omega
  ·have:=H.mlt h2 m2;omega
  ·have:=(a1M.1 h1).1;rw[m1,H.len]at this;omega
  all_goals first
   |(have:=(a1M.1 m2).1;rw[H.len]at this;omega)
   |(have:=(a1M.1 m1).1;rw[H.len]at this;omega)
   |(have:=H.mlt h1 m1;omega)
   |(have:=H.mlt h2 m2;omega)
   |omega
 unfold VR
 refine⟨w.heap.size,by rw[←H.len];simp,rfl,by simp, ?_⟩
 unfold World.shape?; rw[hnew]
theorem Grow.mapSet (H:HR A M h w){b g:Nat}{B:Blk}(hb:h[b]? =some (some B))(hg:M[b]? =some (some g)){es0 es:Array MapEntry}{c0 clock:Nat}{cs:Array Value}{cells:List V}(hw:w.heap[g]? =some (.map es0 c0))(hA: ¬A g)
  (hok:aQb B.e es clock cs) (hone: ∀c∈cells,c.one=true) (hc:VCells (Xs A M h) M w cells (i9 es.toList)):
  Grow A M h w M (h.set b (some ⟨B.e,cells⟩)) {w with heap:=w.heap.setIfInBounds g (.map es clock)}:=by
 have hgs:g<w.heap.size:=(a1S.1 hw).1
 have hE:Ext (c8 M h) w {w with heap:=w.heap.setIfInBounds g (.map es clock)}:=by
  refine⟨rfl,⟨rfl,a1W _⟩,rfl,by simp,fun k hk hn=> ?_,fun k sh hsh=> ?_,fun k hk hsh=> ?_⟩
  ·show(w.heap.setIfInBounds g _)[k]? =_
   rw[a1Q (by rintro rfl;exact hn ⟨b,B,hb,hg⟩)]
  ·unfold World.shape? at *
   show(match(w.heap.setIfInBounds g (.map es clock))[k]? with|some (.cells c elem _)=>some (elem,c.size)|_=>none)=some sh
   by_cases hk:g=k
   ·subst hk
    rw[hw]at hsh;cases hsh
   rw[a1Q hk];exact hsh
  unfold World.shape? at *
  show(match(w.heap.setIfInBounds g (.map es clock))[k]? with|some (.cells c elem _)=>some (elem,c.size)|_=>none)=none
  by_cases hk:g=k
  ·subst hk
   rw[a2e hgs]
  rw[a1Q hk];exact hsh
 have hlive: ∀k,k<w.heap.size→c8 M (h.set b (some ⟨B.e,cells⟩)) k→c8 M h k:=fun k _ hl=>aQ0 hb hl
 have keep: ∀cs us,VCells (Xs A M h) M w cs us→VCells (Xs A M (h.set b (some ⟨B.e,cells⟩))) M _ cs us:=
  fun cs us hk=>VCells.ext hE (a1R _) (fun _ _ hl=> .inr hl) (fun k hk hx=>hx.elim .inl (fun hl=> .inr (hlive k hk hl))) cs us hk
 refine⟨a1R _,⟨by simp[H.len],fun k hk=>by simpa using H.alt k hk, ?_, ?_,H.glob.grow hE hlive⟩,hE,hlive⟩
 ·intro i C hi
  rcases lK hi with⟨rfl,hC⟩|⟨hne,hi'⟩
  ·injection hC with hC
   subst hC
   have hlen:cells.length=cs.size:=by rw[hc.len,←hok.cells];simp
   refine⟨hone,.inr ⟨g,cs,hg,hA,.inr ⟨es,clock,by simp[hgs],hok,hlen⟩,Nat.le_of_eq hlen, ?_⟩⟩
   simp only
   rw[hlen,a10 (by simp),hok.cells]
   exact keep _ _ hc
  obtain⟨h0,hn|⟨k,ds,hk,hA',hh',hle',hds⟩⟩:=H.blk i C hi'
  ·exact⟨h0,.inl hn⟩
  refine⟨h0,.inr ⟨k,ds,hk,hA', ?_,hle',keep _ _ hds⟩⟩
  have hkg:k≠g:=by rintro rfl;exact hne (H.inj i b C B k hi' hb hk hg)
  refine hh'.to ?_
  show(w.heap.setIfInBounds g _)[k]? =_
  rw[a1Q (Ne.symm hkg)]
 intro i j C D k hi hj mi mj
 rcases lK hi with⟨rfl,_⟩|⟨_,hi'⟩<;>rcases lK hj with⟨rfl,_⟩|⟨_,hj'⟩
 ·rfl
 ·exact H.inj i j B D k hb hj' mi mj
 ·exact H.inj i j C B k hi' hb mi mj
 exact H.inj i j C D k hi' hj' mi mj
theorem aRm {X:Nat→Prop}{n:Nat}{x:V}{v:Value}(h:aI3 n x=true)(hx:VR X M w x v):rF n v∧VCells X M w x.cells v.cells.toList∧ ∀c∈x.cells,c.one=true:=by
 unfold aI3 at h
 rw[a15]at h
 refine⟨?_,(hx.cells' h.1).1,a1T.1 h.1⟩
 unfold rF
 split
 ·rename_i h0
  have h2:=h.2
  rw[if_pos h0]at h2
  exact hx.oneCell h2
 rename_i h0
 have h2:=h.2
 rw[if_neg h0]at h2
 cases x with
 |agg cs=>
  simp only[beq_iff_eq]at h2
  unfold VR at hx
  obtain⟨vs,rfl,hc⟩:=hx
  exact⟨_,rfl,by rw[←h2,hc.len];simp⟩
 |_=>simp at h2
theorem ERel.set {X:Nat→Prop}: ∀{ps:List (V×V)}{es:List MapEntry},ERel X M w ps es→ ∀{i:Nat}{p:V×V}{e:MapEntry},VR X M w p.1 e.key→VR X M w p.2 e.val→ERel X M w (ps.set i p) (es.set i e)
 | [],[],_,i,_,_,_,_=>by simp[ERel]
 |q::ps,f::es,h,0,p,e,h1,h2=>⟨h1,h2,h.2.2⟩
 |q::ps,f::es,h,i+1,p,e,h1,h2=>⟨h.1,h.2.1,ERel.set h.2.2 h1 h2⟩
 | [],f::es,h,_,_,_,_,_=>h.elim
 |q::ps,[],h,_,_,_,_,_=>h.elim
theorem ERel.flat {X:Nat→Prop}: ∀{ps:List (V×V)}{es:List MapEntry},ERel X M w ps es→(∀p∈ps,p.1.flatOk=true∧p.2.flatOk=true)→VCells X M w (aDX ps) (i9 es)∧ ∀c∈aDX ps,c.one=true
 | [],[],_,_=>⟨by simp[aDX,i9];unfold VCells;rfl,by simp[aDX]⟩
 |q::ps,f::es,h,hf=>by
  obtain⟨h1,h2⟩:=hf q (by simp)
  obtain⟨i1,i2⟩:=ERel.flat h.2.2 (fun p hp=>hf p (by simp[hp]))
  have c1:=(h.1.cells' h1).1
  have c2:=(h.2.1.cells' h2).1
  refine⟨?_, ?_⟩
  ·simp only[aDX,i9,a13]
   exact(c1.append c2).append i1
  intro c hc
  simp only[aDX,a13,a2G]at hc
  rcases hc with(hc|hc)|hc
  ·exact a1T.1 h1 c hc
  ·exact a1T.1 h2 c hc
  exact i2 c hc
 | [],f::es,h,_=>h.elim
 |q::ps,[],h,_=>h.elim
theorem aPp {n:Nat}{cs:List V}(h: ∀c∈cs,c.one=true)(hl:cs.length=c6 n):(aEz n cs).flatOk=true:=by
 unfold aEz
 unfold c6 at hl
 split
 ·rename_i h0
  rw[if_pos h0]at hl
  match cs,hl with
  | [c],_=>
   have hc:=h c (by simp)
   have e:c.cells=[c]:=by cases c<;>first|rfl|simp[V.one]at hc
   simp[V.flatOk,e,hc]
 simp only[V.flatOk,V.cells]
 exact a1T.2 h
theorem aKX {k l:Nat}: ∀(n:Nat)(cs:List V),(∀c∈cs,c.one=true)→cs.length=n*(c6 k+c6 l)→ ∀p∈aBY k l n cs,p.1.flatOk=true∧p.2.flatOk=true
 |0,_,_,_=>by simp[aBY]
 |n+1,cs,h,hl=>by
  rw[a18,a2n]at hl
  intro p hp
  simp only[aBY,List.mem_cons]at hp
  rcases hp with rfl|hp
  ·exact⟨aPp (fun c hc=>h c (a1V hc)) (by simp;omega),aPp (fun c hc=>h c (a1Y (a1V hc))) (by simp;omega)⟩
  exact aKX n _ (fun c hc=>h c (a1Y hc)) (by simp;omega) p hp
theorem aTo (H:HR A M h w){t:TypeId}{x k y:V}{h':Hp}{vx vk vy:Value}(hx:VR (Xs A M h) M w x vx)(hk:VR (Xs A M h) M w k vk)(hy:VR (Xs A M h) M w y vy)(hr:aOt P t h x k y=some h'):
  ∃w',(Instr.mapUpdate t vx vk vy).run P w= .ok () w'∧Grow A M h w M h' w':=by
 unfold aOt at hr
 split at hr
 ·cases hr
 rename_i a ha
 obtain⟨hm,he,hb,hone,g,es,clock,cs,hg,hA,rfl,hw,hok,hn,hsh,hcs,hE⟩:=aE6 H ha hx
 obtain⟨hu,hdk,hde,_,ok2⟩:=aCo hm
 have hget:=MapKept.run_getObj_map (P:=P) hw
 split at hr
 ·rename_i hs
  rw[Bool.and_eq_true]at hs
  obtain⟨k1,k2,k3⟩:=aRm hs.1 hk
  obtain⟨y1,y2,y3⟩:=aRm hs.2 hy
  have cd:=aF4 ok2
  split at hr
  ·cases hr
  ·rename_i kv ks hf
   obtain⟨h1,h2,h3,h4⟩:=sR hf
   have hkv:=o8 hk h1
   subst hkv
   rw[←hE.keys h2]at h4
   have hfk:=vH (w:=w) (cR hdk).1 h4
   injection hr with hr;subst hr
   have hc:=jD _ (h3 false) w
   have hfl:i9 (es.push ⟨vk,vy,clock⟩).toList=i9 es.toList++(vk.cells.toList++vy.cells.toList):=by simp[i9]
   refine⟨_, ?_,Grow.mapSet H hb hg (es:=es.push ⟨vk,vy,clock⟩) (clock:=clock+1) (cs:=(i9 (es.push ⟨vk,vy,clock⟩).toList).toArray) hw hA ⟨by simp, ?_, ?_, ?_⟩ ?_ ?_⟩
   ·simp only[Option.bind_none]at hfk
    simp[Instr.mapUpdate,run_underlying hu,hget,hc,hfk,MapKept.run_setObj_map _ hw,Result.andThen]
   ·intro z hz
    rw[he,cd.1,cd.2]
    simp only[Array.toList_push,List.mem_append,List.mem_singleton]at hz
    rcases hz with hz|rfl
    ·exact hsh z hz
    exact⟨k1,y1⟩
   ·intro z hz
    simp only[Array.toList_push,List.mem_append,List.mem_singleton]at hz
    rcases hz with hz|rfl
    ·have:=hok.born z hz;omega
    simp
   ·rw[Array.toList_push,List.map_append]
    refine List.pairwise_append.2 ⟨hok.nd,by simp,fun x hx y hy=> ?_⟩
    obtain⟨z,hz,rfl⟩:=List.mem_map.1 hx
    have h9:=hok.born z hz
    simp only[List.map_cons,List.map_nil,List.mem_singleton]at hy
    subst hy
    exact Nat.ne_of_lt h9
   ·intro c hc'
    simp only[List.mem_append]at hc'
    rcases hc' with hc'|hc'|hc'
    ·exact hone c hc'
    ·exact k3 c hc'
    exact y3 c hc'
   rw[hfl];exact hcs.append (k2.append y2)
  rename_i kv ks i hf
  obtain⟨h1,h2,h3,h4⟩:=sR hf
  have hkv:=o8 hk h1
  subst hkv
  have hkeys:=hE.keys h2
  rw[←hkeys]at h4
  have hfk:=vH (w:=w) (cR hdk).1 h4
  have hil:=aKR h4
  simp only[List.length_map]at hil
  split at hr
  ·rename_i hsb
   injection hr with hr;subst hr
   have hc:=jD _ (h3 false) w
   rw[←hkeys]at hsb
   have hei:es.toList[i]? =some es.toList[i]:=List.getElem?_eq_getElem hil
   have hea:es[i]? =some es.toList[i]:=by rw[←hei];simp
   simp only[aNy,List.getElem?_map,hei,Option.map_some,Option.any_some]at hsb
   have hfl:(es.modify i fun e=>{e with key:=vk,val:=vy}).toList=es.toList.set i ⟨vk,vy,es.toList[i].born⟩:=by
    apply List.ext_getElem?
    intro j
    simp only[Array.getElem?_toList,Array.getElem?_modify,List.getElem?_set]
    by_cases hij:i=j
    ·subst hij
     simp only[if_true,hea,Option.map_some]
     rw[if_pos hil]
    simp only[if_neg hij]
   have hER:=hE.set (i:=i) (p:=(k,y)) (e:=⟨vk,vy,es.toList[i].born⟩) hk hy
   obtain⟨f1,f2⟩:=hER.flat (fun p hp=>by
    rcases List.mem_or_eq_of_mem_set hp with hp|rfl
    ·have hlen:a.B.cells.length=es.toList.length*(c6 (lV a.m.dk)+c6 (lV a.m.de)):=by rw[hcs.len,aE7 hsh]
     rw[aMA ha,hlen,Nat.mul_div_cancel _ (by have:=aHA (lV a.m.dk);omega)]at hp
     exact aKX _ _ hone hlen p hp
    simp only[aI3,Bool.and_eq_true]at hs
    exact⟨hs.1.1,hs.2.1⟩)
   rw[←hfl]at f1
   refine⟨_, ?_,Grow.mapSet H hb hg (es:=es.modify i fun e=>{e with key:=vk,val:=vy}) (clock:=clock) (cs:=(i9 (es.modify i fun e=>{e with key:=vk,val:=vy}).toList).toArray) hw hA ⟨by simp, ?_, ?_, ?_⟩ f2 f1⟩
   ·simp only[Option.bind_some,hei,Option.map_some]at hfk
    have hst:(Instr.keyThatStays es.toList[i].key vk).run P w= .ok vk w:=by
     unfold Instr.keyThatStays
     rw[if_pos hsb];rfl
    simp only[Array.getElem_toList]at hst
    simp[Instr.mapUpdate,run_underlying hu,hget,hc,hfk,MapKept.run_setObj_map _ hw,Result.andThen,hea,hst]
   ·intro z hz
    rw[he,cd.1,cd.2]
    rw[hfl]at hz
    rcases List.mem_or_eq_of_mem_set hz with hz|rfl
    ·exact hsh z hz
    exact⟨k1,y1⟩
   ·intro z hz
    rw[hfl]at hz
    rcases List.mem_or_eq_of_mem_set hz with hz|rfl
    ·exact hok.born z hz
    exact hok.born es.toList[i] (List.getElem_mem hil)
   have hb9:(es.toList.set i ⟨vk,vy,es.toList[i].born⟩).map (·.born)=es.toList.map (·.born):=by
    apply List.ext_getElem?
    intro j
    simp only[List.getElem?_map,List.getElem?_set]
    by_cases hij:i=j
    ·subst hij
     rw[if_pos rfl,if_pos hil,hei];rfl
    rw[if_neg hij]
   rw[hfl,hb9]
   exact hok.nd
  cases hr
 cases hr
theorem ERel.erase {X:Nat→Prop}: ∀{ps:List (V×V)}{es:List MapEntry},ERel X M w ps es→ ∀i,ERel X M w (ps.eraseIdx i) (es.eraseIdx i)
 | [],[],h,_=>h
 |_::_,_::_,h,0=>h.2.2
 |_::_,_::_,h,i+1=>⟨h.1,h.2.1,ERel.erase h.2.2 i⟩
 | [],_::_,h,_=>h.elim
 |_::_,[],h,_=>h.elim
theorem aSM (H:HR A M h w){t t' ty:TypeId}{x k:V}{h':Hp}{vx vk:Value}(hx:VR (Xs A M h) M w x vx)(hk:VR (Xs A M h) M w k vk)(hr:aQp P t h x k=some h'):
  ∃w',(Builtin.delete_ #[t,t'] ty #[vx,vk]).run P w= .ok (.tuple #[]) w'∧Grow A M h w M h' w':=by
 unfold aQp at hr
 split at hr
 ·cases hr
 rename_i a ha
 obtain⟨hm,he,hb,hone,g,es,clock,cs,hg,hA,rfl,hw,hok,hn,hsh,hcs,hE⟩:=aE6 H ha hx
 obtain⟨hu,hdk,hde,_,ok2⟩:=aCo hm
 have hget:=MapKept.run_getObj_map (P:=P) hw
 split at hr
 ·cases hr
 ·rename_i kv ks hf
  obtain⟨h1,h2,h3,h4⟩:=sR hf
  have hkv:=o8 hk h1
  subst hkv
  rw[←hE.keys h2]at h4
  have hfk:=vH (w:=w) (cR hdk).1 h4
  injection hr with hr;subst hr
  have hc:=jD _ (h3 es.isEmpty) w
  refine⟨_, ?_,Grow.mapSet H hb hg (es:=es) (clock:=clock) (cs:=cs) hw hA hok hone hcs⟩
  simp only[Option.bind_none]at hfk
  simp[Builtin.delete_,run_underlying hu,hget,hc,hfk,MapKept.run_setObj_map _ hw,Result.andThen]
 rename_i kv ks i hf
 obtain⟨h1,h2,h3,h4⟩:=sR hf
 have hkv:=o8 hk h1
 subst hkv
 have hkeys:=hE.keys h2
 rw[←hkeys]at h4
 have hfk:=vH (w:=w) (cR hdk).1 h4
 have hil:=aKR h4
 simp only[List.length_map]at hil
 injection hr with hr;subst hr
 have hc:=jD _ (h3 es.isEmpty) w
 have hei:es.toList[i]? =some es.toList[i]:=List.getElem?_eq_getElem hil
 have hea:es[i]? =some es.toList[i]:=by rw[←hei];simp
 have his:i<es.size:=by simpa using hil
 have hfl:(es.eraseIdxIfInBounds i).toList=es.toList.eraseIdx i:=by
  unfold Array.eraseIdxIfInBounds
  rw[dif_pos his]
  simp
 have hsub:(es.toList.eraseIdx i).Sublist es.toList:=List.eraseIdx_sublist _ _
 obtain⟨f1,f2⟩:=(hE.erase i).flat (fun p hp=>by
  have hlen:a.B.cells.length=es.toList.length*(c6 (lV a.m.dk)+c6 (lV a.m.de)):=by rw[hcs.len,aE7 hsh]
  have hp:=(List.eraseIdx_sublist _ _).subset hp
  rw[aMA ha,hlen,Nat.mul_div_cancel _ (by have:=aHA (lV a.m.dk);omega)]at hp
  exact aKX _ _ hone hlen p hp)
 rw[←hfl]at f1
 refine⟨_, ?_,Grow.mapSet H hb hg (es:=es.eraseIdxIfInBounds i) (clock:=clock) (cs:=(i9 (es.eraseIdxIfInBounds i).toList).toArray) hw hA ⟨by simp, ?_, ?_, ?_⟩ f2 f1⟩
 ·simp only[Option.bind_some,hei,Option.map_some]at hfk
  simp[Builtin.delete_,run_underlying hu,hget,hc,hfk,MapKept.run_setObj_map _ hw,Result.andThen]
 ·intro z hz
  rw[he,(aF4 ok2).1,(aF4 ok2).2]
  rw[hfl]at hz
  exact hsh z (hsub.subset hz)
 ·intro z hz
  rw[hfl]at hz
  exact hok.born z (hsub.subset hz)
 rw[hfl]
 exact List.Pairwise.sublist (hsub.map _) hok.nd
end
def Invokes (P:Program)(f:FuncId)(vs:Array Value)(w:World)(R:Value→World→Prop):Prop:=
 ((callFunc f vs).run P w= .ok (.enter f vs) w∧Calls P f vs w (fun e w'=> ∃v,e= .returned v∧R v w'))∨
 (∃v w',(callFunc f vs).run P w= .ok (.value v) w'∧R v w')
def Fn (P:Program)(f:FuncId)(h:Hp)(args:List V)(r:V)(h':Hp):Prop:=
 ∀(A:Nat→Prop)(M:List (Option Nat))(w:World)(vs:List Value),HR A M h w→VCells (Xs A M h) M w args vs→
  Invokes P f vs.toArray w (fun v w'=> ∃M',Grow A M h w M' h' w'∧VR (Xs A M' h') M' w' r v)
abbrev wF :=FuncId→Hp→List V→Option (V×Hp)
def aFu (P:Program)(O:wF):Prop:= ∀f h args r h',O f h args=some (r,h')→Fn P f h args r h'
def evs (s:List V)(xs:List Operand):Option (List V):=xs.mapM (ev s)
def sI (s:List V):Option Operand→Option (Option V)
 |none=>some none
 |some x=>(ev s x).map some
def aAp (s:List V)(ps:List (Nat×Operand)):Option (List (Nat×V)):=ps.mapM fun p=>(ev s p.2).map fun v=>(p.1,v)
def evB (s:List V):Operand→Option V
 | .const (.slice none 0 0)=>some (.row none 1 [])
 |o=>(ev s o).map V.softA
def aBH (s:List V)(ps:List (Nat×Operand)):Option (List (Nat×V)):=ps.mapM fun p=>(evB s p.2).map fun v=>(p.1,v)
theorem aUc {s s':List V}{o:Operand}(h:ev s o=ev s' o):evB s o=evB s' o:=by
 unfold evB
 split
 ·rfl
 rw[h]
def aIs (P:Program)(e:TypeId)(h:Hp):Option (V×Hp):=
 match aM P e with
 |some d=>if(d.zero.cells.toList.map dY).all V.one then some (.ptr h.length 0,h++[some ⟨e,d.zero.cells.toList.map dY⟩])else none
 |none=>none
def aQL (e:TypeId)(x:V)(h:Hp):Option (V×Hp):=
 if x.flatOk then some (.ptr h.length 0,h++[some ⟨e,x.cells⟩])else none
def tM :V→Option V
 | .ptr b off=>some (.ptr b off)
 | .eptr es i off=>some (.eptr es i off)
 |_=>none
def aLp :BinOp→Option V
 | .eql=>some (.sc (.bool false))
 | .neq=>some (.sc (.bool true))
 |_=>none
def aNX (P:Program)(op:BinOp)(t:TypeId)(x y:V):Option V:=
 match aM P t,x,y with
 |some ⟨.slice _,_,_,_⟩,.row _ _ (_::_),.row (some true) _ []=>aLp op
 |some ⟨.slice _,_,_,_⟩,.sl _ _ (_+1) _ _,.row (some true) _ []=>aLp op
 |_,_,_=>none
def dC (P:Program)(op:BinOp)(t:TypeId)(xo yo:Operand)(x y:V):Option V:=
 match eN x,eN y with
 |some a,some b=>pureV P (do eqGuard op t xo yo a b;binOp op t a b)
 |_,_=>aNX P op t x y
def unV (P:Program)(op:UnOp)(x:V):Option V:=
 match eN x with
 |some a=>pureV P (Op.unary op a)
 |none=>none
def iL (ns:List Int):ByteArray:=ns.foldl (fun r n=>r.push (UInt8.ofNat n.toNat)) ByteArray.empty
def t8 :List V→Option (List Int)
 | []=>some []
 | .sc (.int .u8 n)::cs=>(t8 cs).map (n:: ·)
 |_=>none
def rH (P:Program)(h:Hp)(a b:TypeId)(x:V):Option V:=
 match aM P a,aM P b with
 |some ⟨.slice e,_,_,_⟩,some ⟨.string,_,_,_⟩=>match aM P e with
  |some ⟨.int .u8,_,_,_⟩=>match fM h 1 x with
   |some (cells,_)=>(t8 cells).map fun ns=> .sc (.string (iL ns))
   |none=>none
  |_=>none
 |_,_=>none
def aBO (P:Program)(h:Hp)(a b:TypeId)(x:V):Option V:=
 match rH P h a b x with
 |some v=>some v
 |none=>match eN x with
  |some v=>pureV P (convert a b v)
  |none=>none
def aHV (P:Program)(ts:Array TypeId)(t:TypeId)(xs:List V)(mx:Bool):Option V:=
 match xs.mapM dB with
 |some vs=>pureV P (if mx then Builtin.max_ ts t vs.toArray else Builtin.min_ ts t vs.toArray)
 |none=>none
def aIT (x:V)(i:Nat):Option V:=
 match x with
 | .tup vs=>vs[i]?
 |_=>none
def aVK (s:List V)(t:Tmp):Option FuncId:=
 match s[t]? with
 |some (.sc (.func (.func f) first captured))=>if first.isEmpty&&captured.isEmpty then some f else none
 |_=>none
def rZ (P:Program)(O:wF)(c:Call)(ty:TypeId)(s:List V)(h:Hp):Option (V×Hp):=
 match evs s c.args.toList with
 |none=>none
 |some xs=>
  match c.callee,c.argTypes.toList,xs with
  | .builtin .len,[t],[x]=>(aHL P t x).map (·,h)
  | .builtin .append,[t,t'],[x,y]=>g6 P t t' x y h
  | .builtin .copy,[t,_],[x,y]=>aLI P t x y h
  | .builtin .delete,[t,_],[x,y]=>(aQp P t h x y).map (.tup [],·)
  | .builtin .min,_,_=>(aHV P c.argTypes ty xs false).map (·,h)
  | .builtin .max,_,_=>(aHV P c.argTypes ty xs true).map (·,h)
  | .value (.func f),_,_=>O f h xs
  | .value (.tmp t),_,_=>(aVK s t).bind fun f=>O f h xs
  |_,_,_=>none
def bR (P:Program)(O:wF)(o:Oper)(s:List V)(h:Hp):Option (V×Hp):=
 match o.op with
 | .move x=>(ev s x).map (·,h)
 | .assign x=>(ev s x).map (·,h)
 | .pick c a b=>match ev s c with
  |some (.sc (.bool true))=>(ev s a).map (·,h)
  |some (.sc (.bool false))=>(ev s b).map (·,h)
  |_=>none
 | .alloc e=>aIs P e h
 | .box e x=>(ev s x).bind fun x=>aQL e x h
 | .build t parts=>(aAp s parts.toList).bind fun ps=>(u3 P t ps).map (·,h)
 | .buildSlice t len parts=>(aBH s parts.toList).bind fun ps=>gJ P t len ps h
 | .load t a=>(ev s a).bind fun a=>(eM P t h a).map (·,h)
 | .store t a x=>(ev s a).bind fun a=>(ev s x).bind fun x=>(lZ P t h a x).map (.sc undef,·)
 | .nilCheck x=>(ev s x).bind fun x=>(tM x).map (·,h)
 | .binOp op t x y _=>(ev s x).bind fun a=>(ev s y).bind fun b=>(dC P op t x y a b).map (·,h)
 | .unOp op _ x=>(ev s x).bind fun a=>(unV P op a).map (·,h)
 | .convert a b x=>(ev s x).bind fun x=>(aBO P h a b x).map (·,h)
 | .makeSlice t l c=>(ev s l).bind fun l=>(ev s c).bind fun c=>aCv P t l c h
 | .slice t x lo hi none=>(ev s x).bind fun x=>(sI s lo).bind fun lo=>(sI s hi).bind fun hi=>(jV P t h x lo hi).map (·,h)
 | .fieldAddr t x f=>(ev s x).bind fun x=>(rM P t x f).map (·,h)
 | .field t x f=>(ev s x).bind fun x=>(aNU P t x f).map (·,h)
 | .indexAddr t x i=>(ev s x).bind fun x=>(ev s i).bind fun i=>(fT P t x i).map (·,h)
 | .index t x i=>(ev s x).bind fun x=>(ev s i).bind fun i=>(aBX P t x i).map (·,h)
 | .extract x i=>(ev s x).bind fun x=>(aIT x i).map (·,h)
 | .call c=>rZ P O c o.type s h
 | .sliceToArrayPointer t x=>(ev s x).bind fun x=>(aJd P t x).map (·,h)
 | .makeMap t none=>aJQ P t h
 | .lookup t x k ok=>(ev s x).bind fun x=>(ev s k).bind fun k=>(vI P t h x k ok).map (·,h)
 | .mapUpdate t x k y=>(ev s x).bind fun x=>(ev s k).bind fun k=>(ev s y).bind fun y=>(aOt P t h x k y).map (.sc undef,·)
 | .slice t x lo (some hi) (some mx)=>(ev s x).bind fun x=>(sI s lo).bind fun lo=>(ev s hi).bind fun hi=>(ev s mx).bind fun mx=>(y5 P t x lo hi mx).map (·,h)
 |_=>none
structure SR (X:Nat→Prop)(M:List (Option Nat))(w:World)(s:List V)(a:Act):Prop where
 len:s.length=a.tmps.size
 val: ∀(t:Nat)(x:V),s[t]? =some x→VR X M w x (a.tmps.getD t undef)
def fU (s:List V)(d:Option Tmp)(x:V):List V:=
 match d with
 |some t=>s.set t x
 |none=>s
section
variable {P:Program}{O:wF}{A:Nat→Prop}{M M':List (Option Nat)}{h h':Hp}{w w':World}{s:List V}{a:Act}
theorem SR.keep (G:Grow A M h w M' h' w')(S:SR (Xs A M h) M w s a):SR (Xs A M' h') M' w' s a:=⟨S.len,fun t x hx=>G.keep (S.val t x hx)⟩
theorem SR.put {X:Nat→Prop}(S:SR X M w s a)(d:Option Tmp){x:V}{v:Value}(hx:VR X M w x v):SR X M w (fU s d x) (a.put d v):=by
 cases d with
 |none=>exact S
 |some t=>
  refine⟨by simp[fU,Act.put,S.len],fun i y hy=> ?_⟩
  simp only[fU]at hy
  rcases lK hy with⟨rfl,rfl⟩|⟨hne,hy'⟩
  ·have hlt:i<a.tmps.size:=by
    have:=(a1M.1 hy).1
    rw[←S.len];simpa using this
   simp[Act.put,hlt,hx]
  have:=S.val i y hy'
  simp only[Act.put]
  rw[show(a.tmps.setIfInBounds t v).getD i undef=a.tmps.getD i undef by
   simp[a2f,a1Q (Ne.symm hne)]]
  exact this
theorem cH {X:Nat→Prop}(Gl:Globs X w)(S:SR X M w s a){o:Operand}{x:V}(h:ev s o=some x):VR X M w x (a.eval o):=by
 cases o with
 |tmp t=>exact S.val t x h
 |const v=>simp only[ev,a1N]at h;subst h;exact aJO v
 |func f=>simp only[ev,a1N]at h;subst h;unfold VR;rfl
 |global g=>
  simp only[ev,a1K]at h
  obtain⟨e,he,rfl⟩:=h
  exact(Gl g e he).1.lift
theorem aO2 {X:Nat→Prop}(Gl:Globs X w)(S:SR X M w s a): ∀{os:List Operand}{xs:List V},evs s os=some xs→VCells X M w xs (os.map a.eval)
 | [],xs,h=>by simp[evs]at h;subst h;unfold VCells;rfl
 |o::os,xs,h=>by
  simp only[evs,a2b,a14,a1L,a2k,a1N]at h
  obtain⟨x,hx,xs',hxs,rfl⟩:=h
  unfold VCells
  exact⟨_,_,rfl,cH Gl S hx,aO2 Gl S hxs⟩
theorem aI0 {X:Nat→Prop}(Gl:Globs X w)(S:SR X M w s a){o:Option Operand}{x:Option V}(h:sI s o=some x):aJq X M w x (o.map a.eval):=by
 cases o with
 |none=>simp only[sI,a1N]at h;subst h;exact .inl ⟨rfl,rfl⟩
 |some o=>
  simp only[sI,a1K]at h
  obtain⟨y,hy,rfl⟩:=h
  exact .inr ⟨y,_,rfl,rfl,cH Gl S hy⟩
theorem aKs {X:Nat→Prop}(Gl:Globs X w)(S:SR X M w s a): ∀{ps:List (Nat×Operand)}{xs:List (Nat×V)},aAp s ps=some xs→aJG X M w xs (ps.map fun p=>(p.1,a.eval p.2))
 | [],xs,h=>by simp[aAp]at h;subst h;exact⟨rfl,by simp⟩
 |p::ps,xs,h=>by
  simp only[aAp,a2b,a14,a1L,a2k,a1N,a1K]at h
  obtain⟨x,⟨y,hy,rfl⟩,xs',hxs,rfl⟩:=h
  obtain⟨h1,h2⟩:=aKs Gl S hxs
  refine⟨by simp[h1],fun j p' q hp hq=> ?_⟩
  cases j with
  |zero=>simp at hp hq;subst hp hq;exact⟨rfl,cH Gl S hy⟩
  |succ j=>exact h2 j p' q (by simpa using hp) (by simpa using hq)
theorem aUB {X:Nat→Prop}(Gl:Globs X w)(S:SR X M w s a){o:Operand}{y:V}(h:evB s o=some y):VR X M w y (a.eval o):=by
 unfold evB at h
 split at h
 ·injection h with h
  subst h
  unfold VR
  exact⟨none,0,rfl,a1W _,fun _=>rfl,(fun b hb=>by cases hb),by simp,fun h=>absurd rfl h⟩
 simp only[a1K]at h
 obtain⟨z,hz,rfl⟩:=h
 exact(cH Gl S hz).softA
theorem aK5 {X:Nat→Prop}(Gl:Globs X w)(S:SR X M w s a): ∀{ps:List (Nat×Operand)}{xs:List (Nat×V)},aBH s ps=some xs→aJG X M w xs (ps.map fun p=>(p.1,a.eval p.2))
 | [],xs,h=>by simp[aBH]at h;subst h;exact⟨rfl,by simp⟩
 |p::ps,xs,h=>by
  simp only[aBH,a2b,a14,a1L,a2k,a1N,a1K]at h
  obtain⟨x,⟨y,hy,rfl⟩,xs',hxs,rfl⟩:=h
  obtain⟨h1,h2⟩:=aK5 Gl S hxs
  refine⟨by simp[h1],fun j p' q hp hq=> ?_⟩
  cases j with
  |zero=>simp at hp hq;subst hp hq;exact⟨rfl,aUB Gl S hy⟩
  |succ j=>exact h2 j p' q (by simpa using hp) (by simpa using hq)
def Does (P:Program)(o:Oper)(a:Act)(w:World)(A:Nat→Prop)(M:List (Option Nat))(h:Hp)(r:V)(h':Hp):Prop:=
 ∀(K:Act→World→Prop)(Q:Exit→Act→World→Prop),
  (∀v w' M',Grow A M h w M' h' w'→VR (Xs A M' h') M' w' r v→K (a.put o.dst v) w')→o.wp P a w K Q
theorem Does.value {o:Oper}{r:V}{sem:Sem Value}(he:execOp a.eval o=(do pure (.value (←sem))))(hx: ∃v w' M',sem.run P w= .ok v w'∧Grow A M h w M' h' w'∧VR (Xs A M' h') M' w' r v):Does P o a w A M h r h':=by
 intro K Q hK
 obtain⟨v,w',M',hr,hG,hv⟩:=hx
 unfold Oper.wp
 rw[he,Sem.run_bind,hr,Result.andThen_ok]
 exact hK v w' M' hG hv
theorem Does.same (H:HR A M h w){o:Oper}{r:V}{sem:Sem Value}(he:execOp a.eval o=(do pure (.value (←sem))))(hx: ∃v,sem.run P w= .ok v w∧VR (Xs A M h) M w r v):Does P o a w A M h r h:=
 Does.value he (let⟨v,h1,h2⟩:=hx;⟨v,w,M,h1,Grow.refl H,h2⟩)
theorem Does.pureV (H:HR A M h w){o:Oper}{r:V}{sem:Sem Value}(he:execOp a.eval o=(do pure (.value (←sem))))(hx:Vm.pureV P sem=some r):Does P o a w A M h r h:=by
 refine Does.same H he ?_
 simp only[Vm.pureV,a1K]at hx
 obtain⟨v,hv,rfl⟩:=hx
 exact⟨v,jD _ hv w,aJO v⟩
end
section
variable {P:Program}{O:wF}{A:Nat→Prop}{M M':List (Option Nat)}{h h':Hp}{w w':World}{s:List V}{a:Act}
theorem aR2 (H:HR A M h w){e:TypeId}{r:V}(hr:aIs P e h=some (r,h')):
  ∃v w' M',(Instr.alloc e true (.tuple #[])).run P w= .ok v w'∧Grow A M h w M' h' w'∧VR (Xs A M' h') M' w' r v:=by
 unfold aIs at hr
 split at hr
 ·rename_i d hd
  split at hr
  ·rename_i hone
   simp only[a1N,a1O]at hr
   obtain⟨rfl,rfl⟩:=hr
   have G:=Grow.alloc H e (d.zero.cells.toList.map dY) d.zero.cells (by simp) (by rw[a10 (by simp)];exact qG _) (fun c hc=>a1T.1 hone c hc)
   refine⟨.pointer (some ⟨w.heap.size,0,none⟩),_,_, ?_,G,by unfold VR;exact⟨w.heap.size,_,by rw[←H.len];simp,rfl,aOX w _ _⟩⟩
   simp[Instr.alloc,aGK hd,newVar,newRow]
  cases hr
 cases hr
theorem aTs (H:HR A M h w){e:TypeId}{x r:V}{v:Value}(hx:VR (Xs A M h) M w x v)(hr:aQL e x h=some (r,h')):
  ∃u w' M',(Instr.box e v).run P w= .ok u w'∧Grow A M h w M' h' w'∧VR (Xs A M' h') M' w' r u:=by
 unfold aQL at hr
 split at hr
 ·rename_i hf
  simp only[a1N,a1O]at hr
  obtain⟨rfl,rfl⟩:=hr
  obtain⟨c1,_⟩:=hx.cells' hf
  have hl:x.cells.length=v.cells.size:=by simpa using c1.len
  have G:=Grow.alloc H e x.cells v.cells (by omega) (by rw[a10 (by simp;omega)];exact c1) (fun c hc=>a1T.1 hf c hc)
  refine⟨.pointer (some ⟨w.heap.size,0,none⟩),_,_, ?_,G,by unfold VR;exact⟨w.heap.size,_,by rw[←H.len];simp,rfl,aOX w _ _⟩⟩
  simp[Instr.box,newVar,newRow]
 cases hr
theorem nil_eq {t e:TypeId}{sz by_:Nat}{z:Value}(ht:aM P t=some ⟨.slice e,sz,by_,z⟩)(ad:Addr)(n c:Nat):aS P (Op.equal t (.slice (some ad) n c) (.slice none 0 0))=some false:=by
 have h1:=(cR ht).1
 have e1:underlying t=Sem.program fun p=>match p.underlying t with|some d=>pure d|none=>stuck "no such type" :=rfl
 unfold Op.equal Op.maxDepth
 show aS P (Op.equalIn (9999+1) t _ _)=_
 rw[Op.equalIn,e1]
 show aS P (Sem.bind (Sem.program _) _)=_
 simp only[Sem.bind,aS,h1]
 rfl
theorem aAF (s:Sem Bool)(f:Bool→Value){a:Bool}(h:aS P s=some a):aS P (do pure (f (←s)))=some (f a):=by
 show aS P (Sem.bind s _)=_
 induction s with
 |pure x=>simp only[aS,a1N]at h;subst h;rfl
 |program k ih=>exact ih P h
 |mark m k ih=>exact ih h
 |_=>simp[aS]at h
theorem aRg {X:Nat→Prop}{op:BinOp}{t:TypeId}{xo yo:Operand}{x y z:V}{v u:Value}(hx:VR X M w x v)(hy:VR X M w y u)(hz:aNX P op t x y=some z):Vm.pureV P (do eqGuard op t xo yo v u;binOp op t v u)=some z:=by
 have key: ∀(ad:Addr)(n c:Nat){e:TypeId}{sz by_:Nat}{d:Value},aM P t=some ⟨.slice e,sz,by_,d⟩→aLp op=some z→Vm.pureV P (do eqGuard op t xo yo (.slice (some ad) n c) (.slice none 0 0);binOp op t (.slice (some ad) n c) (.slice none 0 0))=some z:=by
  intro ad n c e sz by_ d ht hz
  have hg:eqGuard op t xo yo (.slice (some ad) n c) (.slice none 0 0)=pure ():=by cases op<;>rfl
  rw[hg]
  unfold aLp at hz
  split at hz
  ·injection hz with hz;subst hz
   show Option.map ofValue (aS P (do pure (Value.bool (←Op.equal t _ _))))=_
   rw[aAF _ _ (nil_eq ht ad n c)];rfl
  ·injection hz with hz;subst hz
   show Option.map ofValue (aS P (do pure (Value.bool (!(←Op.equal t _ _)))))=_
   have:=aAF (P:=P) _ (fun b=>Value.bool (!b)) (nil_eq ht ad n c)
   rw[this];rfl
  cases hz
 unfold aNX at hz
 generalize ht:aM P t=T at hz
 split at hz
 ·have hu:=aB0 hy rfl
  subst hu
  unfold VR at hx
  obtain⟨a,cap,rfl,_,_,_,_,hr⟩:=hx
  obtain⟨ad,rfl,_⟩:=hr (by simp)
  exact key _ _ _ ht hz
 ·have hu:=aB0 hy rfl
  subst hu
  unfold VR at hx
  rcases hx with⟨_,_,h0,_⟩|⟨g,cap,e',sz',h1,rfl,_⟩
  ·cases h0
  exact key _ _ _ ht hz
 cases hz
theorem aSL (hO:aFu P O)(H:HR A M h w)(S:SR (Xs A M h) M w s a){o:Oper}{c:Call}(ho:o.op= .call c){r:V}(hr:rZ P O c o.type s h=some (r,h')):Does P o a w A M h r h':=by
 unfold rZ at hr
 split at hr
 ·cases hr
 rename_i xs hxs
 have hargs:=aO2 H.glob S hxs
 have hmap:c.args.map a.eval=(c.args.toList.map a.eval).toArray:=by rw[←a2Q]
 obtain⟨callee,args,argTypes⟩:=c
 simp only at *
 split at hr
 ·
  rename_i t x hat
  simp only[a1K,a1O]at hr
  obtain⟨y,hy,rfl,rfl⟩:=hr
  unfold VCells at hargs
  obtain⟨v,rest,hv,hx,hrest⟩:=hargs
  unfold VCells at hrest
  subst hrest
  have hat':argTypes= #[t]:=by simpa using congrArg a2x hat
  refine Does.same H (sem:=Builtin.len_ #[t] o.type #[v]) ?_ (aSO hx hy)
  simp only[execOp,ho,resolve,invoke,builtin,hat',hmap,hv]
  rfl
 ·
  rename_i t t' x y hat
  unfold VCells at hargs
  obtain⟨v,rest,hv,hx,hrest⟩:=hargs
  unfold VCells at hrest
  obtain⟨u,rest',hu,hy,hrest'⟩:=hrest
  unfold VCells at hrest'
  subst hrest'
  rw[hu]at hv
  have hat':argTypes= #[t,t']:=by simpa using congrArg a2x hat
  refine Does.value (sem:=Builtin.append_ #[t,t'] o.type #[v,u]) ?_ (aPN H hx hy hr)
  simp only[execOp,ho,resolve,invoke,builtin,hat',hmap,hv]
  rfl
 ·
  rename_i t t' x y hat
  unfold VCells at hargs
  obtain⟨v,rest,hv,hx,hrest⟩:=hargs
  unfold VCells at hrest
  obtain⟨u,rest',hu,hy,hrest'⟩:=hrest
  unfold VCells at hrest'
  subst hrest'
  rw[hu]at hv
  have hat':argTypes= #[t,t']:=by simpa using congrArg a2x hat
  obtain⟨v',w',h1,h2,h3⟩:=aRO (P:=P) (t':=t') (ty:=o.type) H hx hy hr
  refine Does.value (sem:=Builtin.copy_ #[t,t'] o.type #[v,u]) ?_ ⟨v',w',M,h1,h2,h3⟩
  simp only[execOp,ho,resolve,invoke,builtin,hat',hmap,hv]
  rfl
 ·
  rename_i t t' x y hat
  unfold VCells at hargs
  obtain⟨v,rest,hv,hx,hrest⟩:=hargs
  unfold VCells at hrest
  obtain⟨u,rest',hu,hy,hrest'⟩:=hrest
  unfold VCells at hrest'
  subst hrest'
  rw[hu]at hv
  have hat':argTypes= #[t,t']:=by simpa using congrArg a2x hat
  simp only[a1K,a1O]at hr
  obtain⟨h1,hd,rfl,rfl⟩:=hr
  obtain⟨w',e1,G⟩:=aSM (t':=t') (ty:=o.type) H hx hy hd
  refine Does.value (sem:=Builtin.delete_ #[t,t'] o.type #[v,u]) ?_ ⟨_,w',M,e1,G,by unfold VR;exact⟨[],rfl,by unfold VCells;rfl⟩⟩
  simp only[execOp,ho,resolve,invoke,builtin,hat',hmap,hv]
  rfl
 ·simp only[a1K,a1O]at hr
  obtain⟨y,hy,rfl,rfl⟩:=hr
  unfold aHV at hy
  split at hy
  ·rename_i vs hvs
   have:=aDP hargs hvs
   refine Does.pureV H ?_ hy
   simp only[execOp,ho,resolve,invoke,builtin,hmap,this]
   rfl
  cases hy
 ·simp only[a1K,a1O]at hr
  obtain⟨y,hy,rfl,rfl⟩:=hr
  unfold aHV at hy
  split at hy
  ·rename_i vs hvs
   have:=aDP hargs hvs
   refine Does.pureV H ?_ hy
   simp only[execOp,ho,resolve,invoke,builtin,hmap,this]
   rfl
  cases hy
 ·
  rename_i f
  have hf:=hO f h _ r h' hr A M w _ H hargs
  intro K Q hK
  have hex:execOp a.eval o=callFunc f (args.toList.map a.eval).toArray:=by
   simp only[execOp,ho,resolve,Deferred.ofValue,Act.eval,invoke,hmap]
   simp
  unfold Oper.wp
  rw[hex]
  rcases hf with⟨he,hc⟩|⟨v,w',hv,M',hG,hr'⟩
  ·rw[he]
   refine hc.mono ?_
   rintro e w' ⟨v,rfl,M',hG,hr'⟩
   exact hK v w' M' hG hr'
  rw[hv]
  exact hK v w' M' hG hr'
 ·
  rename_i tt
  simp only[a1L]at hr
  obtain⟨f,hfn,hr⟩:=hr
  have hv:a.eval (.tmp tt)= .func (.func f) #[] #[]:=by
   unfold aVK at hfn
   split at hfn
   ·rename_i g first captured hs
    split at hfn
    ·rename_i he
     simp only[a15,Array.isEmpty_iff]at he
     obtain⟨rfl,rfl⟩:=he
     injection hfn with hfn
     subst hfn
     have:=S.val tt _ hs
     unfold VR at this
     exact this
    cases hfn
   cases hfn
  have hf:=hO f h _ r h' hr A M w _ H hargs
  intro K Q hK
  have hex:execOp a.eval o=callFunc f (args.toList.map a.eval).toArray:=by
   simp only[execOp,ho,resolve,hv,Deferred.ofValue,invoke,hmap]
   simp
  unfold Oper.wp
  rw[hex]
  rcases hf with⟨he,hc⟩|⟨v,w',hv,M',hG,hr'⟩
  ·rw[he]
   refine hc.mono ?_
   rintro e w' ⟨v,rfl,M',hG,hr'⟩
   exact hK v w' M' hG hr'
  rw[hv]
  exact hK v w' M' hG hr'
 cases hr
theorem aIG {X:Nat→Prop}: ∀{cs:List V}{vs:List Value}{ns:List Int},VCells X M w cs vs→t8 cs=some ns→vs=ns.map (Value.int .u8)
 | [],vs,ns,h,hc=>by unfold VCells at h;simp only[t8,a1N]at hc;subst h hc;rfl
 |c::cs,vs,ns,h,hc=>by
  unfold VCells at h
  obtain⟨v,rest,rfl,h1,h2⟩:=h
  unfold t8 at hc
  split at hc
  ·rename_i heq;cases heq
  ·rename_i n cs' heq
   injection heq with e1 e2
   subst e1 e2
   simp only[a1K]at hc
   obtain⟨ms,hm,rfl⟩:=hc
   unfold VR at h1
   subst h1
   rw[aIG h2 hm];rfl
  cases hc
theorem aOm (H:HR A M h w){a b:TypeId}{x y:V}{v:Value}(hx:VR (Xs A M h) M w x v)(hy:rH P h a b x=some y): ∃u,(convert a b v).run P w= .ok u w∧VR (Xs A M h) M w y u:=by
 unfold rH at hy
 split at hy
 ·rename_i e _ _ _ _ _ _ ha hb
  split at hy
  ·rename_i he
   split at hy
   ·rename_i cells m hs
    simp only[a1K]at hy
    obtain⟨ns,hn,rfl⟩:=hy
    have S:=aIU H hx hs
    have hua:=(cR ha).1
    have hub:=(cR hb).1
    have hue:=(cR he).1
    rcases S.is with⟨c,rfl,rfl⟩|⟨ad,c,vs,rfl,hc,hl⟩
    ·have hc0:cells=[]:=a12 (by have:=S.len;omega)
     subst hc0
     simp only[t8,a1N]at hn
     subst hn
     refine⟨.string .empty, ?_,by unfold VR;rfl⟩
     rw[run_convert_bytes_string w a b e none 0 c hua hue hub]
     simp[Conv.bytesToString,Sem.run_pure]
    have hvs:=aIG hc hn
    have hlen:vs.length=m:=by have h1:=hc.len;have h2:=S.len;omega
    refine⟨.string (iL ns), ?_,by unfold VR;rfl⟩
    rw[run_convert_bytes_string w a b e (some ad) m c hua hue hub]
    have hld:=aJS (P:=P) (w:=w) ad vs hl
    rw[hlen,hvs]at hld
    exact run_bytesToString w ad m c ns hld
   cases hy
  cases hy
 cases hy
theorem aUO (hO:aFu P O)(H:HR A M h w)(S:SR (Xs A M h) M w s a){o:Oper}{r:V}(hr:bR P O o s h=some (r,h')):Does P o a w A M h r h':=by
 unfold bR at hr
 split at hr
 case h_1 x hop|h_2 x hop=>
  simp only[a1K,a1O]at hr
  obtain⟨y,hy,rfl,rfl⟩:=hr
  exact Does.same H (sem:=pure (a.eval x)) (by simp[execOp,hop]) ⟨_,rfl,cH H.glob S hy⟩
 case h_3 c x y hop=>
  split at hr
  ·rename_i hc
   simp only[a1K,a1O]at hr
   obtain⟨z,hz,rfl,rfl⟩:=hr
   have hcv:=cH H.glob S hc
   unfold VR at hcv
   exact Does.same H (sem:=pure (a.eval x)) (by simp[execOp,hop,hcv,asBool]) ⟨_,rfl,cH H.glob S hz⟩
  ·rename_i hc
   simp only[a1K,a1O]at hr
   obtain⟨z,hz,rfl,rfl⟩:=hr
   have hcv:=cH H.glob S hc
   unfold VR at hcv
   exact Does.same H (sem:=pure (a.eval y)) (by simp[execOp,hop,hcv,asBool]) ⟨_,rfl,cH H.glob S hz⟩
  cases hr
 case h_4 e hop=>exact Does.value (by simp[execOp,hop]) (aR2 H hr)
 case h_5 e x hop=>
  simp only[a1L]at hr
  obtain⟨y,hy,hr⟩:=hr
  exact Does.value (by simp[execOp,hop]) (aTs H (cH H.glob S hy) hr)
 case h_6 t parts hop=>
  simp only[a1L,a1K,a1O]at hr
  obtain⟨ps,hps,y,hy,rfl,rfl⟩:=hr
  have hp:=aKs H.glob S hps
  refine Does.same H (sem:=Instr.build t (parts.map fun(i,x)=>(i,a.eval x))) (by simp[execOp,hop]) (aQq ?_ hy)
  simpa using hp
 case h_7 t len parts hop=>
  simp only[a1L]at hr
  obtain⟨ps,hps,hr⟩:=hr
  have hp:=aK5 H.glob S hps
  refine Does.value (sem:=Instr.buildSlice t len (parts.map fun(i,x)=>(i,a.eval x))) (by simp[execOp,hop]) (aLT H ?_ hr)
  simpa using hp
 case h_8 t x hop=>
  simp only[a1L,a1K,a1O]at hr
  obtain⟨y,hy,z,hz,rfl,rfl⟩:=hr
  exact Does.same H (by simp[execOp,hop]) (aHT H (cH H.glob S hy) hz)
 case h_9 t x y hop=>
  simp only[a1L,a1K,a1O]at hr
  obtain⟨xa,hxa,ya,hya,z,hz,rfl,rfl⟩:=hr
  obtain⟨w',hw,G⟩:=aRq (P:=P) H (cH H.glob S hxa) (cH H.glob S hya) hz
  intro K Q hK
  unfold Oper.wp
  have hex:execOp a.eval o=(do Instr.storeAt t (a.eval x) (a.eval y);pure .skip):=by simp[execOp,hop]
  rw[hex,Sem.run_bind,hw,Result.andThen_ok]
  exact hK undef w' M G (by unfold VR;rfl)
 case h_10 x hop=>
  simp only[a1L,a1K,a1O]at hr
  obtain⟨y,hy,z,hz,rfl,rfl⟩:=hr
  have hv:=cH H.glob S hy
  unfold tM at hz
  split at hz
  ·injection hz with hz;subst hz
   have hv':=hv
   unfold VR at hv'
   obtain⟨g,sh,hg,hp,_⟩:=hv'
   exact Does.same H (sem:=pure (a.eval x)) (by simp[execOp,hop,hp]) ⟨_,rfl,hv⟩
  ·injection hz with hz;subst hz
   have hv':=hv
   unfold VR at hv'
   obtain⟨ad,k,hp,_⟩:=hv'
   exact Does.same H (sem:=pure (a.eval x)) (by simp[execOp,hop,hp]) ⟨_,rfl,hv⟩
  cases hz
 case h_11 op t x y yt hop=>
  simp only[a1L,a1K,a1O]at hr
  obtain⟨xa,hxa,ya,hya,z,hz,rfl,rfl⟩:=hr
  unfold dC at hz
  split at hz
  ·rename_i u v hu hv
   have e1:=o8 (cH H.glob S hxa) hu
   have e2:=o8 (cH H.glob S hya) hv
   exact Does.pureV H (by simp[execOp,hop,e1,e2]) hz
  exact Does.pureV H (by simp[execOp,hop]) (aRg (xo:=x) (yo:=y) (cH H.glob S hxa) (cH H.glob S hya) hz)
 case h_12 op t x hop=>
  simp only[a1L,a1K,a1O]at hr
  obtain⟨xa,hxa,z,hz,rfl,rfl⟩:=hr
  unfold unV at hz
  split at hz
  ·rename_i u hu
   have e1:=o8 (cH H.glob S hxa) hu
   exact Does.pureV H (by simp[execOp,hop,e1]) hz
  cases hz
 case h_13 t u x hop=>
  simp only[a1L,a1K,a1O]at hr
  obtain⟨xa,hxa,z,hz,rfl,rfl⟩:=hr
  unfold aBO at hz
  split at hz
  ·rename_i y hy
   injection hz with hz
   subst hz
   exact Does.same H (sem:=convert t u (a.eval x)) (by simp[execOp,hop]) (aOm H (cH H.glob S hxa) hy)
  split at hz
  ·rename_i u hu
   have e1:=o8 (cH H.glob S hxa) hu
   exact Does.pureV H (by simp[execOp,hop,e1]) hz
  cases hz
 case h_14 t l c hop=>
  simp only[a1L]at hr
  obtain⟨la,hla,ca,hca,hr⟩:=hr
  exact Does.value (by simp[execOp,hop]) (aRX H (cH H.glob S hla) (cH H.glob S hca) hr)
 case h_15 t x lo hi hop=>
  simp only[a1L,a1K,a1O]at hr
  obtain⟨xa,hxa,la,hla,ha,hha,z,hz,rfl,rfl⟩:=hr
  exact Does.same H (by simp[execOp,hop]) (aRG H (cH H.glob S hxa) (aI0 H.glob S hla) (aI0 H.glob S hha) hz)
 case h_16 t x f hop=>
  simp only[a1L,a1K,a1O]at hr
  obtain⟨y,hy,z,hz,rfl,rfl⟩:=hr
  exact Does.same H (by simp[execOp,hop]) (aPL (cH H.glob S hy) hz)
 case h_17 t x f hop=>
  simp only[a1L,a1K,a1O]at hr
  obtain⟨y,hy,z,hz,rfl,rfl⟩:=hr
  exact Does.same H (by simp[execOp,hop]) (aR5 (cH H.glob S hy) hz)
 case h_18 t x i hop=>
  simp only[a1L,a1K,a1O]at hr
  obtain⟨y,hy,j,hj,z,hz,rfl,rfl⟩:=hr
  exact Does.same H (by simp[execOp,hop]) (aPK (cH H.glob S hy) (cH H.glob S hj) hz)
 case h_19 t x i hop=>
  simp only[a1L,a1K,a1O]at hr
  obtain⟨y,hy,j,hj,z,hz,rfl,rfl⟩:=hr
  exact Does.same H (by simp[execOp,hop]) (aR0 (cH H.glob S hy) (cH H.glob S hj) hz)
 case h_20 x i hop=>
  simp only[a1L,a1K,a1O]at hr
  obtain⟨y,hy,z,hz,rfl,rfl⟩:=hr
  have hv:=cH H.glob S hy
  unfold aIT at hz
  split at hz
  ·unfold VR at hv
   obtain⟨vs,hvs,hc⟩:=hv
   obtain⟨u,hu,hru⟩:=hc.get hz
   exact Does.same H (sem:=Instr.extract (a.eval x) i) (by simp[execOp,hop]) ⟨u,by simp[Instr.extract,hvs,hu],hru⟩
  cases hz
 case h_21 c hop=>exact aSL hO H S hop hr
 case h_22 t x hop=>
  simp only[a1L,a1K,a1O]at hr
  obtain⟨y,hy,z,hz,rfl,rfl⟩:=hr
  exact Does.same H (by simp[execOp,hop]) (aSW (cH H.glob S hy) hz)
 case h_23 t hop=>exact Does.value (by simp[execOp,hop]) (aN8 H hr)
 case h_24 t x k ok hop=>
  simp only[a1L,a1K,a1O]at hr
  obtain⟨xa,hxa,ya,hya,z,hz,rfl,rfl⟩:=hr
  exact Does.same H (by simp[execOp,hop]) (aPF H (cH H.glob S hxa) (cH H.glob S hya) hz)
 case h_25 t x k y hop=>
  simp only[a1L,a1K,a1O]at hr
  obtain⟨xa,hxa,ka,hka,ya,hya,z,hz,rfl,rfl⟩:=hr
  obtain⟨w',hw,G⟩:=aTo (P:=P) H (cH H.glob S hxa) (cH H.glob S hka) (cH H.glob S hya) hz
  intro K Q hK
  unfold Oper.wp
  have hex:execOp a.eval o=(do Instr.mapUpdate t (a.eval x) (a.eval k) (a.eval y);pure .skip):=by simp[execOp,hop]
  rw[hex,Sem.run_bind,hw,Result.andThen_ok]
  exact hK undef w' M G (by unfold VR;rfl)
 case h_26 t x lo hi mx hop=>
  simp only[a1L,a1K,a1O]at hr
  obtain⟨xa,hxa,la,hla,ha,hha,ma,hma,z,hz,rfl,rfl⟩:=hr
  exact Does.same H (by simp[execOp,hop]) (aPE (cH H.glob S hxa) (aI0 H.glob S hla) (cH H.glob S hha) (cH H.glob S hma) hz)
 case h_27=>cases hr
def yV :V→Option (Option Bool)
 | .sc (.bool b)=>some (some b)
 | .any=>none
 |_=>some none
def iM (ops:Array Oper)(o:Oper)(s:List V):Option Bool:=
 match o.guard with
 |none=>some true
 |some (j,want)=>
  match(ops[j]?).bind (·.dst) with
  |none=>some false
  |some t=>match s[t]? with
   |none=>some false
   |some x=>match yV x with
    |some y=>some (y == some want)
    |none=>none
theorem aVh {X:Nat→Prop}{x:V}{v:Value}{y:Option Bool}(hx:VR X M w x v)(hy:yV x=some y):(match some v with|some (.bool b)=>some b|_=>none)=y:=by
 cases x<;>simp only[yV]at hy
 case sc c=>
  unfold VR at hx;subst hx
  cases v<;>simp_all[yV]
 case any=>cases hy
 all_goals
  injection hy with hy
  subst hy
  unfold VR at hx
 case row nil k es=>obtain⟨a,cap,rfl,_⟩:=hx;rfl
 case agg cs=>obtain⟨vs,rfl,_⟩:=hx;rfl
 case tup cs=>obtain⟨vs,rfl,_⟩:=hx;rfl
 case ptr b off=>obtain⟨g,sh,_,rfl,_⟩:=hx;rfl
 case mp b=>obtain⟨g,_,rfl,_⟩:=hx;rfl
 case sl b off n k ag=>rcases hx with⟨_,rfl,_⟩|⟨g,cap,e,sz,_,rfl,_⟩<;>rfl
 case eptr es i off=>obtain⟨ad,k,rfl,_⟩:=hx;rfl
theorem aGj {X:Nat→Prop}(S:SR X M w s a){ops:Array Oper}{o:Oper}{b:Bool}(hb:iM ops o s=some b):Region.wanted o (yielded ops a.tmps)=b:=by
 unfold iM at hb
 unfold Region.wanted
 split at hb
 ·rename_i hg;rw[hg];injection hb
 rename_i j want hg
 rw[hg]
 simp only
 unfold yielded
 split at hb
 ·rename_i hd;rw[hd];injection hb with hb
 rename_i t hd
 rw[hd]
 simp only[a1P]
 split at hb
 ·rename_i ht
  have:a.tmps[t]? =none:=by
   rw[a2m]
   have:=List.getElem?_eq_none_iff.1 ht
   rw[←S.len];exact this
  rw[this]
  injection hb with hb
 rename_i x hx
 split at hb
 ·rename_i y hy
  have hv:=S.val t x hx
  have hlt:t<a.tmps.size:=by rw[←S.len];exact(a1M.1 hx).1
  have hget:a.tmps[t]? =some (a.tmps.getD t undef):=by simp[hlt]
  rw[hget]
  have:=aVh hv hy
  injection hb with hb
  rw[←hb,←this]
  rfl
 cases hb
def aDE (P:Program)(O:wF)(ops:Array Oper)(o:Oper)(s:List V)(h:Hp):Option (List V×Hp):=
 match iM ops o s with
 |some true=>(bR P O o s h).map fun p=>(fU s o.dst p.1,p.2)
 |some false=>some (fU s o.dst (.sc undef),h)
 |none=>none
def aRC (P:Program)(O:wF)(ops:Array Oper):List Oper→List V→Hp→Option (List V×Hp)
 | [],s,h=>some (s,h)
 |o::rest,s,h=>(aDE P O ops o s h).bind fun p=>aRC P O ops rest p.1 p.2
structure Rel (A:Nat→Prop)(M:List (Option Nat))(s:List V)(h:Hp)(a:Act)(w:World):Prop where
 hr:HR A M h w
 sr:SR (Xs A M h) M w s a
 defers:a.defers=[]
theorem nP (a:Act)(d:Option Tmp)(v:Value):(a.put d v).defers=a.defers:=by cases d<;>rfl
theorem aFw (hO:aFu P O)(R:Rel A M s h a w){ops:Array Oper}{i:Nat}{o:Oper}(hi:ops[i]? =some o){s':List V}(hr:aDE P O ops o s h=some (s',h')){K:Act→World→Prop}{Q:Exit→Act→World→Prop}
  (hK: ∀a' w' M',Grow A M h w M' h' w'→Rel A M' s' h' a' w'→K a' w'):wpOp P ops Q i K a w:=by
 unfold wpOp
 rw[hi]
 simp only
 unfold aDE at hr
 split at hr
 ·rename_i hw
  rw[aGj R.sr hw,if_pos rfl]
  simp only[a1K,a1O]at hr
  obtain⟨⟨r,h1⟩,hop,rfl,rfl⟩:=hr
  refine .inl (aUO hO R.hr R.sr hop K Q fun v w' M' G hv=>hK _ _ M' G ⟨G.hr,(SR.keep G R.sr).put o.dst hv,by rw[nP];exact R.defers⟩)
 ·rename_i hw
  rw[aGj R.sr hw,if_neg (by simp)]
  simp only[a1N,a1O]at hr
  obtain⟨rfl,rfl⟩:=hr
  exact hK _ _ M (Grow.refl R.hr) ⟨R.hr,R.sr.put o.dst (by unfold VR;rfl),by rw[nP];exact R.defers⟩
 cases hr
end
def vG (F:FuncId→Bool)(o:Oper):Bool:=
 match o.op with
 | .move _ | .assign _ | .pick _ _ _ | .build _ _ | .load _ _ | .nilCheck _ | .binOp _ _ _ _ _ | .unOp _ _ _ | .convert _ _ _ | .slice _ _ _ _ _
 | .fieldAddr _ _ _ | .field _ _ _ | .indexAddr _ _ _ | .index _ _ _ | .extract _ _ | .sliceToArrayPointer _ _ | .lookup _ _ _ _=>true
 | .call c=>match c.callee with
  | .builtin .len | .builtin .min | .builtin .max=>true
  | .value (.func f)=>F f
  |_=>false
 |_=>false
def aF3 (O:wF)(F:FuncId→Bool):Prop:= ∀f h args r h',F f=true→O f h args=some (r,h')→h'=h
section
variable {P:Program}{O:wF}{F:FuncId→Bool}{s:List V}{h h':Hp}
theorem aTi (hF:aF3 O F){o:Oper}(hs:vG F o=true){r:V}(hr:bR P O o s h=some (r,h')):h'=h:=by
 obtain⟨dst,op,type,pos,after,guard⟩:=o
 cases op<;>simp only[vG,a17]at hs<;>simp only[bR]at hr
 case pick c x y=>
  split at hr
  ·simp only[a1K,a1O]at hr
   obtain⟨_,_,_,rfl⟩:=hr;rfl
  ·simp only[a1K,a1O]at hr
   obtain⟨_,_,_,rfl⟩:=hr;rfl
  cases hr
 case slice t x lo hi mx=>
  cases mx with
  |some m=>
   cases hi with
   |none=>cases hr
   |some u=>
    simp only[a1L,a1K,a1O]at hr
    obtain⟨_,_,_,_,_,_,_,_,_,_,_,rfl⟩:=hr;rfl
  |none=>
   simp only[a1L,a1K,a1O]at hr
   obtain⟨_,_,_,_,_,_,_,_,_,rfl⟩:=hr;rfl
 case call c=>
  obtain⟨callee,args,argTypes⟩:=c
  simp only[rZ]at hr
  simp only at hs
  split at hr
  ·cases hr
  split at hr
  all_goals first
   |(simp only[a1K,a1O]at hr;obtain⟨_,_,_,rfl⟩:=hr;rfl)
   |(simp at hs;done)
   |exact hF _ _ _ _ _ hs hr
   |cases hr
 all_goals
  simp only[a1L,a1K,a1O]at hr
  first
   |(obtain⟨_,_,_,rfl⟩:=hr;rfl)
   |(obtain⟨_,_,_,_,_,rfl⟩:=hr;rfl)
   |(obtain⟨_,_,_,_,_,_,_,rfl⟩:=hr;rfl)
theorem aFD {α β:Type}{f g:α→Option β}: ∀{l:List α},(∀x∈l,f x=g x)→l.mapM f=l.mapM g
 | [],_=>rfl
 |x::l,h=>by simp only[a2b];rw[h x (by simp),aFD (fun y hy=>h y (by simp[hy]))]
theorem aRT {s':List V}(o:Oper)(hx: ∀x∈o.op.operands,ev s x=ev s' x):bR P O o s h=bR P O o s' h:=by
 obtain⟨dst,op,type,pos,after,guard⟩:=o
 simp only at hx
 cases op<;>simp only[bR]<;>simp only[Op.operands]at hx
 case move x=>rw[hx x (by simp)]
 case assign x=>rw[hx x (by simp)]
 case pick c x y=>rw[hx c (by simp),hx x (by simp),hx y (by simp)]
 case box e x=>rw[hx x (by simp)]
 case build t parts=>
  have:aAp s parts.toList=aAp s' parts.toList:=aFD (fun p hp=>by
   rw[hx p.2 (by simp only[a2R,List.mem_map];exact⟨p,by simpa using hp,rfl⟩)])
  rw[this]
 case buildSlice t len parts=>
  have:aBH s parts.toList=aBH s' parts.toList:=aFD (fun p hp=>by
   rw[aUc (hx p.2 (by simp only[a2R,List.mem_map];exact⟨p,by simpa using hp,rfl⟩))])
  rw[this]
 case load t x=>rw[hx x (by simp)]
 case store t x y=>rw[hx x (by simp),hx y (by simp)]
 case nilCheck x=>rw[hx x (by simp)]
 case binOp op t x y u=>rw[hx x (by simp),hx y (by simp)]
 case unOp op t x=>rw[hx x (by simp)]
 case convert t u x=>rw[hx x (by simp)]
 case makeSlice t x y=>rw[hx x (by simp),hx y (by simp)]
 case slice t x lo hi mx=>
  cases mx with
  |some m=>
   cases hi with
   |none=>rfl
   |some u=>
    simp only
    have h1:sI s lo=sI s' lo:=by cases lo with
     |none=>rfl
     |some l=>simp only[sI];rw[hx l (by simp)]
    rw[hx x (by simp),h1,hx u (by simp),hx m (by simp)]
  |none=>
   simp only
   have h1:sI s lo=sI s' lo:=by cases lo with
    |none=>rfl
    |some l=>simp only[sI];rw[hx l (by simp)]
   have h2:sI s hi=sI s' hi:=by cases hi with
    |none=>rfl
    |some l=>simp only[sI];rw[hx l (by simp)]
   rw[hx x (by simp),h1,h2]
 case fieldAddr t x f=>rw[hx x (by simp)]
 case field t x f=>rw[hx x (by simp)]
 case indexAddr t x i=>rw[hx x (by simp),hx i (by simp)]
 case index t x i=>rw[hx x (by simp),hx i (by simp)]
 case extract x i=>rw[hx x (by simp)]
 case sliceToArrayPointer t x=>rw[hx x (by simp)]
 case makeMap t r=>cases r<;>rfl
 case lookup t x k ok=>rw[hx x (by simp),hx k (by simp)]
 case mapUpdate t x k y=>rw[hx x (by simp),hx k (by simp),hx y (by simp)]
 case call c=>
  unfold rZ
  have:evs s c.args.toList=evs s' c.args.toList:=aFD (fun x hx'=>hx x (by
   simp only[Call.operands,Array.mem_append]
   exact .inr (by simpa using hx')))
  rw[this]
  obtain⟨callee,args,argTypes⟩:=c
  cases callee with
  |value f=>cases f with
   |tmp t=>
    have ht:s[t]? =s'[t]? :=hx (.tmp t) (by simp[Call.operands])
    simp only[aVK,ht]
   |_=>rfl
  |builtin b=>
   generalize evs s' _=e
   simp only
   generalize argTypes.toList=l
   cases b<;>rcases l with _|⟨t1,_|⟨t2,_|⟨t3,l⟩⟩⟩<;>rcases e with _|(_|⟨x,_|⟨y,_|⟨z,e⟩⟩⟩)<;>rfl
  |invoke r n=>rfl
theorem aTO {d:Option Tmp}{v:V}{x:Operand}(hd: ∀t,d=some t→x≠ .tmp t):ev (fU s d v) x=ev s x:=by
 cases d with
 |none=>rfl
 |some t=>
  cases x with
  |tmp u=>
   have:u≠t:=fun e=>hd t rfl (by rw[e])
   simp only[ev,fU]
   rw[a2h (Ne.symm this)]
  |_=>rfl
theorem aTG {ops:Array Oper}(o:Oper)(d:Option Tmp)(v:V)(hd: ∀t,d=some t→t∉o.looksAt ops):bR P O o (fU s d v) h=bR P O o s h:=
 aRT o fun x hx=>aTO fun t ht e=>hd t ht (by
  subst e
  exact List.mem_append_left _ (List.mem_filterMap.2 ⟨.tmp t,by simpa using hx,rfl⟩))
theorem aR8 {ops:Array Oper}(o:Oper)(d:Option Tmp)(v:V)(hd: ∀t,d=some t→t∉o.looksAt ops):iM ops o (fU s d v)=iM ops o s:=by
 unfold iM
 cases hg:o.guard with
 |none=>rfl
 |some p=>
  obtain⟨j,want⟩:=p
  simp only
  cases hj:(ops[j]?).bind (·.dst) with
  |none=>rfl
  |some t=>
   simp only
   have hne: ∀u,d=some u→u≠t:=fun u hu e=>hd u hu (by
    subst e
    refine List.mem_append_right _ ?_
    rw[hg]
    simp[hj])
   have:(fU s d v)[t]? =s[t]? :=by
    cases d with
    |none=>rfl
    |some u=>simp only[fU];rw[a2h (hne u rfl)]
   rw[this]
def b9 (P:Program)(O:wF)(ops:Array Oper)(o:Oper)(s:List V)(h:Hp):Option (V×Hp):=
 match iM ops o s with
 |some true=>bR P O o s h
 |some false=>some (.sc undef,h)
 |none=>none
theorem cJ (ops:Array Oper)(o:Oper):aDE P O ops o s h=(b9 P O ops o s h).map fun p=>(fU s o.dst p.1,p.2):=by
 unfold aDE b9
 cases iM ops o s with
 |none=>rfl
 |some b=>cases b<;>rfl
theorem gH {ops:Array Oper}(o:Oper)(d:Option Tmp)(v:V)(hd: ∀t,d=some t→t∉o.looksAt ops):b9 P O ops o (fU s d v) h=b9 P O ops o s h:=by
 unfold b9;rw[aR8 o d v hd,aTG o d v hd]
theorem pB (hF:aF3 O F){ops:Array Oper}{o:Oper}(hs:vG F o=true){r:V}(hr:b9 P O ops o s h=some (r,h')):h'=h:=by
 unfold b9 at hr
 split at hr
 ·exact aTi hF hs hr
 ·simp only[a1N,a1O]at hr;exact hr.2.symm
 cases hr
theorem mG (s:List V){d e:Option Tmp}(x y:V)(hde: ∀t,d=some t→e≠some t):fU (fU s d x) e y=fU (fU s e y) d x:=by
 cases d with
 |none=>rfl
 |some t=>
  cases e with
  |none=>rfl
  |some u=>
   have:t≠u:=fun h=>hde t rfl (by rw[h])
   simp only[fU]
   exact List.set_comm _ _ this
def aH9 (o:Oper):Bool:=
 match o.op with
 | .alloc _ | .box _ _ | .buildSlice _ _ _ | .makeSlice _ _ _=>true
 |_=>false
def uY (o:Oper):Bool:=vG (fun _=>false) o
theorem aTn {o:Oper}(ha:aH9 o=true){r:V}(hr:bR P O o s h=some (r,h')): ∃B,h'=h++[some B]:=by
 obtain⟨dst,op,type,pos,after,guard⟩:=o
 cases op<;>simp only[aH9,a17]at ha<;>simp only[bR]at hr
 case alloc e=>
  unfold aIs at hr
  split at hr
  ·split at hr
   ·simp only[a1N,a1O]at hr;exact⟨_,hr.2.symm⟩
   cases hr
  cases hr
 case box e x=>
  simp only[a1L]at hr
  obtain⟨y,_,hr⟩:=hr
  unfold aQL at hr
  split at hr
  ·simp only[a1N,a1O]at hr;exact⟨_,hr.2.symm⟩
  cases hr
 case buildSlice t len parts=>
  simp only[a1L]at hr
  obtain⟨y,_,hr⟩:=hr
  unfold gJ at hr
  repeat' split at hr
  all_goals first|(cases hr;done)|(simp only[a1N,a1O]at hr;exact⟨_,hr.2.symm⟩)
 case makeSlice t l c=>
  simp only[a1L]at hr
  obtain⟨y,_,z,_,hr⟩:=hr
  unfold aCv at hr
  split at hr
  ·split at hr
   ·split at hr
    ·simp only[a1N,a1O]at hr;exact⟨_,hr.2.symm⟩
    cases hr
   cases hr
  cases hr
def inScope (n:Nat):V→Prop
 | .ptr b _=>b<n
 | .sl b _ _ _ _=>b<n
 | .mp b=>b<n
 |_=>True
def Scoped (s:List V)(o:Oper)(n:Nat):Prop:= ∀y∈o.op.operands,∀(z:V),ev s y=some z→inScope n z
theorem aLJ {b:Nat}{x:Option Blk}(hb:b<h.length):(h++[x])[b]? =h[b]? :=a1U hb
theorem aTD {t:TypeId}{a:V}{x:Option Blk}(hs: ∀b off,a= .ptr b off→b<h.length):eM P t (h++[x]) a=eM P t h a:=by
 cases a<;>simp only[eM]
 case ptr b off=>rw[aLJ (hs b off rfl)]
theorem aS9 {t:TypeId}{a:V}{lo hi:Option V}{x:Option Blk}(hs: ∀b off,a= .ptr b off→b<h.length):jV P t (h++[x]) a lo hi=jV P t h a lo hi:=by
 unfold jV
 cases aM P t with
 |none=>rfl
 |some d=>
  obtain⟨desc,sz,by_,z⟩:=d
  cases desc<;>first|rfl|skip
  case array n e'=>
   simp only
   cases aM P e'<;>cases a<;>cases nG lo<;>cases yG hi n<;>first|rfl|(simp only[aLJ (hs _ _ rfl)])
theorem aVl {k:Nat}{a:V}{x:Option Blk}(hs: ∀b off n k ag,a= .sl b off n k ag→b<h.length):fM (h++[x]) k a=fM h k a:=by
 cases a<;>simp only[fM]
 case sl b off n k ag=>rw[aLJ (hs b off n k ag rfl)]
theorem aTz {t u:TypeId}{a:V}{x:Option Blk}(hs: ∀b off n k ag,a= .sl b off n k ag→b<h.length):aBO P (h++[x]) t u a=aBO P h t u a:=by
 have:rH P (h++[x]) t u a=rH P h t u a:=by unfold rH;rw[aVl hs]
 unfold aBO;rw[this]
theorem aR6 {t:TypeId}{a k:V}{ok:Bool}{x:Option Blk}(hs: ∀b,a= .mp b→b<h.length):vI P t (h++[x]) a k ok=vI P t h a k ok:=by
 have:zB P t (h++[x]) a=zB P t h a:=by
  unfold zB
  cases r6 P t with
  |none=>rfl
  |some m=>cases a<;>first|rfl|(simp only[aLJ (hs _ rfl)])
 unfold vI;rw[this]
theorem aTb {o:Oper}(hs:uY o=true){x:Option Blk}(hsc:Scoped s o h.length):bR P O o s (h++[x])=(bR P O o s h).map fun p=>(p.1,h++[x]):=by
 obtain⟨dst,op,type,pos,after,guard⟩:=o
 unfold Scoped at hsc
 cases op<;>simp only[uY,vG,a17]at hs<;>simp only[bR]<;>simp only[Op.operands]at hsc
 case load t a=>
  cases ha:ev s a with
  |none=>rfl
  |some y=>
   simp only[a1P]
   rw[aTD (fun b off hy=>by have:=hsc a (by simp) y ha;rw[hy]at this;exact this)]
   cases eM P t h y<;>rfl
 case slice t a lo hi mx=>
  cases mx with
  |some m=>
   cases hi with
   |none=>rfl
   |some u=>
    simp only
    cases ev s a with
    |none=>rfl
    |some y=>
     simp only[a1P]
     cases sI s lo with
     |none=>rfl
     |some l=>
      simp only[a1P]
      cases ev s u with
      |none=>rfl
      |some u'=>
       simp only[a1P]
       cases ev s m with
       |none=>rfl
       |some m'=>
        simp only[a1P]
        cases y5 P t y l u' m'<;>rfl
  |none=>
   simp only
   cases ha:ev s a with
   |none=>rfl
   |some y=>
    simp only[a1P]
    cases sI s lo with
    |none=>rfl
    |some l=>
     simp only[a1P]
     cases sI s hi with
     |none=>rfl
     |some u=>
      simp only[a1P]
      rw[aS9 (fun b off hy=>by have:=hsc a (by simp) y ha;rw[hy]at this;exact this)]
      cases jV P t h y l u<;>rfl
 case call c=>
  obtain⟨callee,args,argTypes⟩:=c
  simp only at hs
  simp only[rZ]
  cases evs s args.toList with
  |none=>rfl
  |some xs=>
   simp only
   split at hs
   ·split<;>first|(simp only[a2K];rfl)|rfl|simp_all
   ·simp only[a2K];rfl
   ·simp only[a2K];rfl
   ·cases hs
   cases hs
 case lookup t a k ok=>
  cases ha:ev s a with
  |none=>rfl
  |some y=>
   simp only[a1P]
   cases ev s k with
   |none=>rfl
   |some z=>
    simp only[a1P]
    rw[aR6 (fun b hy=>by have:=hsc a (by simp) y ha;rw[hy]at this;exact this)]
    cases vI P t h y z ok<;>rfl
 case pick c x y=>
  cases ev s c with
  |none=>rfl
  |some z=>
   split
   ·cases ev s x<;>rfl
   ·cases ev s y<;>rfl
   rfl
 case move x=>cases ev s x<;>rfl
 case assign x=>cases ev s x<;>rfl
 case build t parts=>cases aAp s parts.toList with
  |none=>rfl
  |some ps=>simp only[a1P];cases u3 P t ps<;>rfl
 case nilCheck x=>cases ev s x with
  |none=>rfl
  |some y=>simp only[a1P];cases tM y<;>rfl
 case unOp op t x=>cases ev s x with
  |none=>rfl
  |some y=>simp only[a1P];cases unV P op y<;>rfl
 case convert t u z=>cases hz:ev s z with
  |none=>rfl
  |some y=>
   simp only[a1P]
   rw[aTz (fun b off n k ag hy=>by have:=hsc z (by simp) y hz;rw[hy]at this;exact this)]
   cases aBO P h t u y<;>rfl
 case fieldAddr t x f=>cases ev s x with
  |none=>rfl
  |some y=>simp only[a1P];cases rM P t y f<;>rfl
 case sliceToArrayPointer t x=>cases ev s x with
  |none=>rfl
  |some y=>simp only[a1P];cases aJd P t y<;>rfl
 case field t x f=>cases ev s x with
  |none=>rfl
  |some y=>simp only[a1P];cases aNU P t y f<;>rfl
 case extract x i=>cases ev s x with
  |none=>rfl
  |some y=>simp only[a1P];cases aIT y i<;>rfl
 case binOp op t x y u=>cases ev s x with
  |none=>rfl
  |some a=>cases ev s y with
   |none=>rfl
   |some b=>simp only[a1P];cases dC P op t x y a b<;>rfl
 case indexAddr t x y=>cases ev s x with
  |none=>rfl
  |some a=>cases ev s y with
   |none=>rfl
   |some b=>simp only[a1P];cases fT P t a b<;>rfl
 case index t x y=>cases ev s x with
  |none=>rfl
  |some a=>cases ev s y with
   |none=>rfl
   |some b=>simp only[a1P];cases aBX P t a b<;>rfl
theorem aRW {ops:Array Oper}{o:Oper}(hs:uY o=true){x:Option Blk}(hsc:Scoped s o h.length):b9 P O ops o s (h++[x])=(b9 P O ops o s h).map fun p=>(p.1,h++[x]):=by
 unfold b9
 cases iM ops o s with
 |none=>rfl
 |some b=>cases b with
  |true=>exact aTb hs hsc
  |false=>rfl
def aYV (F:FuncId→Bool)(ops:Array Oper)(oj oi:Oper):Bool:=
 oj.apart ops oi&&((vG F oj&&vG F oi) || (aH9 oj&&uY oi) || (uY oj&&aH9 oi))
def a0M (P:Program)(O:wF)(ops:Array Oper):List Nat→List V→Hp→Option (List V×Hp)
 | [],s,h=>some (s,h)
 |i::rest,s,h=>match ops[i]? with
  |some o=>(aDE P O ops o s h).bind fun p=>a0M P O ops rest p.1 p.2
  |none=>none
def ScopedS (s:List V)(n:Nat):Prop:= ∀(t:Nat)(z:V),s[t]? =some z→inScope n z
theorem aNv (n:Nat)(v:Value):inScope n (ofValue v):=by
 unfold ofValue
 split
 ·trivial
 unfold dY;split<;>trivial
theorem ScopedS.op (hs:ScopedS s h.length)(o:Oper):Scoped s o h.length:=fun y _ z hy=>by
 cases y with
 |tmp t=>exact hs t z hy
 |const v=>simp only[ev,a1N]at hy;subst hy;exact aNv _ _
 |func f=>simp only[ev,a1N]at hy;subst hy;trivial
 |global g=>simp only[ev,a1K]at hy;obtain⟨e,_,rfl⟩:=hy;trivial
def aJi (ops:Array Oper)(i:Nat):Nat→List Nat→List Nat
 |0,acc=>acc
 |j+1,acc=>aJi ops i j (if acc.any (fun k=>Region.waitsFor .any ops k j)then j::acc else acc)
def a1H (F:FuncId→Bool)(ops:Array Oper):Bool:=
 (a2t ops.size).all fun i=>match ops[i]? with
  |none=>true
  |some oi=>oi.after.all (fun e=> !Region.binds .any e || decide (e.on<i))&&
   (a2t i).all fun j=>Region.waitsFor .any ops i j || (match ops[j]? with
    |some oj=>aYV F ops oj oi
    |none=>true) || (aJi ops i i [i]).contains j
def aIK (ops:Array Oper)(listed:Array Bool):Prop:=
 ∀j oj,ops[j]? =some oj→listed.getD j false=true→ ∀e∈oj.after,Region.binds .any e=true→listed.getD e.on false=true
theorem aHO {ops:Array Oper}{listed:Array Bool}(hc:aIK ops listed){i:Nat}{oi:Oper}(hoi:ops[i]? =some oi)(hr: ∀e∈oi.after,Region.binds .any e=true→listed.getD e.on false=true):
  ∀(n:Nat)(acc:List Nat),(∀k∈acc,k=i∨listed.getD k false=true)→ ∀k∈aJi ops i n acc,k=i∨listed.getD k false=true
 |0,acc,h,k,hk=>h k hk
 |n+1,acc,h,k,hk=>by
  refine aHO hc hoi hr n _ ?_ k hk
  intro m hm
  split at hm
  ·rename_i hany
   rcases List.mem_cons.1 hm with rfl|hm
   ·obtain⟨k',hk',hw⟩:=List.any_eq_true.1 hany
    obtain⟨oj,hoj,e,he,hb,hon⟩:=Region.waitsFor_spec hw
    rcases h k' hk' with rfl|hl
    ·have:oj=oi:=Option.some.inj (hoj.symm.trans hoi)
     subst this
     exact .inr (hon▸hr e he hb)
    exact .inr (hon▸hc k' oj hoj hl e he hb)
   exact h m hm
  exact h m hm
def aGZ (n:Nat)(listed:Array Bool):List Nat:=(a2t n).filter fun i=> !(listed.getD i true)
theorem aRV {ops:Array Oper}{i:Nat}{K:Act→World→Prop}{a:Act}{w:World}(hh:wpOp P ops (fun _ _ _=>False) i K a w): ∃a' w',K a' w':=by
 unfold wpOp at hh
 split at hh
 ·exact⟨_,_,hh⟩
 rename_i o ho
 split at hh
 ·rcases hh with hh|⟨_,_,_,hh⟩
  ·unfold Oper.wp at hh
   generalize (execOp a.eval o).run P w=r at hh
   cases r with
   |ok n w'=>
    cases n<;>simp only[Oper.upon]at hh
    case value v=>exact⟨_,_,hh⟩
    case skip=>exact⟨_,_,hh⟩
    case defer d=>exact⟨_,_,hh⟩
    case enter f args=>
     obtain⟨e,w'',fr,hR,_⟩:=hh []
     cases e with
     |returned v=>exact⟨_,_,hR⟩
     |panicked ch=>exact hR.elim
     |outgrown=>obtain⟨_,_,hR⟩:=hR;exact hR.elim
    case row rw_ args=>
     obtain⟨v,w'',hR,_⟩:=hh default []
     exact⟨_,_,hR⟩
   |halt x w'=>cases x<;>simp only[Oper.upon]at hh
  exact hh.elim
 exact⟨_,_,hh⟩
theorem Rel.scopeOk {A:Nat→Prop}{M:List (Option Nat)}{a:Act}{w:World}(R:Rel A M s h a w):ScopedS s h.length:=fun t z ht=>by
 have hv:=R.sr.val t z ht
 cases z<;>try trivial
 case ptr b off=>
  unfold VR at hv
  obtain⟨g,_,hg,_⟩:=hv
  have:=(a1M.1 hg).1
  rw[R.hr.len]at this;exact this
 case mp b=>
  unfold VR at hv
  obtain⟨g,hg,_⟩:=hv
  have:=(a1M.1 hg).1
  rw[R.hr.len]at this;exact this
 case sl b off n k ag=>
  unfold VR at hv
  rcases hv with⟨hg,_⟩|⟨g,cap,e,sz,hg,_⟩
  ·have:=(a1M.1 hg).1
   rw[R.hr.len]at this;exact this
  have:=(a1M.1 hg).1
  rw[R.hr.len]at this;exact this
end
inductive Ex where
 |normal
 |exit (id:Nat)
 |ret
def Ex.toExit :Ex→Exit
 | .normal=> .normal
 | .exit id=> .exit id
 | .ret=> .ret
structure Env (P:Program) where
 O:wF
 F:FuncId→Bool
 ok:aFu P O
 still:aF3 O F
 mixed:P.follows .mixedOrders=true
def AW (P:Program)(c:Code)(Q:Ex→List V→Hp→Prop)(s:List V)(h:Hp):Prop:=
 ∀(A:Nat→Prop)(M:List (Option Nat))(a:Act)(w:World),Rel A M s h a w→
  c.wp P (fun e a' w'=> ∃x s' h' M',e=Ex.toExit x∧Q x s' h'∧Grow A M h w M' h' w'∧Rel A M' s' h' a' w') a w
section
variable {P:Program}{Q Q':Ex→List V→Hp→Prop}{s s':List V}{h h':Hp}
theorem AW.skip (hq:Q .normal s h):AW P .skip Q s h:=fun A M a w R=>wp_skip ⟨.normal,s,h,M,rfl,hq,Grow.refl R.hr,R⟩
theorem AW.exit {id:Nat}(hq:Q (.exit id) s h):AW P (.exit id) Q s h:=fun A M a w R=>wp_exit ⟨.exit id,s,h,M,rfl,hq,Grow.refl R.hr,R⟩
theorem AW.ret (hq:Q .ret s h):AW P .ret Q s h:=fun A M a w R=>wp_ret ⟨.ret,s,h,M,rfl,hq,Grow.refl R.hr,R⟩
def Ex.then (next:List V→Hp→Prop)(Q:Ex→List V→Hp→Prop):Ex→List V→Hp→Prop
 | .normal,s,h=>next s h
 |x,s,h=>Q x s h
def Ex.inBlock (id:Nat)(Q:Ex→List V→Hp→Prop):Ex→List V→Hp→Prop
 | .exit i,s,h=>if i=id then Q .normal s h else Q (.exit i) s h
 |x,s,h=>Q x s h
theorem a0P {p:Nat→Prop}(hp: ∃n,p n): ∃k,p k∧ ∀j,p j→k≤j:=by
 obtain⟨n,hn⟩:=hp
 induction n using Nat.strongRecOn with
 |_ n ih=>
  by_cases hex: ∃j,j<n∧p j
  ·obtain⟨j,hj,hh⟩:=hex;exact ih j hj hh
  exact⟨n,hn,fun j hj=>Nat.le_of_not_lt fun hlt=>hex ⟨j,hlt,hj⟩⟩
def iP (P:Program)(s:List V)(h:Hp):ResultVar→Option V
 | .tmp t=>s[t]?
 | .cell a t=>(s[a]?).bind fun x=>(tM x).bind fun x=>eM P t h x
def aBN (P:Program)(fn:Func)(s:List V)(h:Hp):Option V:=
 match fn.results.toList with
 | []=>some (.tup [])
 | [a]=>iP P s h a
 | [a,b]=>(iP P s h a).bind fun x=>(iP P s h b).bind fun y=>some (.tup [x,y])
 | [a,b,c]=>(iP P s h a).bind fun x=>(iP P s h b).bind fun y=>(iP P s h c).bind fun z=>some (.tup [x,y,z])
 | [a,b,c,d]=>(iP P s h a).bind fun x=>(iP P s h b).bind fun y=>(iP P s h c).bind fun z=>(iP P s h d).bind fun u=>some (.tup [x,y,z,u])
 |_=>none
def aRz (P:Program)(tmps:Array Value):ResultVar→Sem Value
 | .tmp t=>pure (tmps.getD t undef)
 | .cell a t=>do loadVar t (←asAddr (tmps.getD a undef))
theorem i7 {A:Nat→Prop}{M:List (Option Nat)}{a:Act}{w:World}(R:Rel A M s h a w){rv:ResultVar}{x:V}(hx:iP P s h rv=some x):
  ∃v,(aRz P a.tmps rv).run P w= .ok v w∧VR (Xs A M h) M w x v:=by
 cases rv with
 |tmp t=>exact⟨_,rfl,R.sr.val t x hx⟩
 |cell b t=>
  simp only[iP,a1L]at hx
  obtain⟨y,hy,z,hz,hl⟩:=hx
  have hv:=R.sr.val b y hy
  obtain⟨u,hu,hru⟩: ∃u,(Instr.loadAt t (a.tmps.getD b undef)).run P w= .ok u w∧VR (Xs A M h) M w x u:=by
   unfold tM at hz
   split at hz
   ·injection hz with hz;subst hz;exact aHT R.hr hv hl
   ·injection hz with hz;subst hz;exact aHT R.hr hv hl
   cases hz
  refine⟨u, ?_,hru⟩
  unfold tM at hz
  have hp: ∃ad,a.tmps.getD b undef= .pointer (some ad):=by
   split at hz
   ·unfold VR at hv;obtain⟨g,_,_,e,_⟩:=hv;exact⟨_,e⟩
   ·unfold VR at hv;obtain⟨ad,k,e,_⟩:=hv;exact⟨_,e⟩
   cases hz
  obtain⟨ad,hp⟩:=hp
  rw[hp]at hu
  simp only[aRz,hp,asAddr]
  simpa[Instr.loadAt,Instr.sureAddr]using hu
theorem aSS {A:Nat→Prop}{M:List (Option Nat)}{a:Act}{w:World}(R:Rel A M s h a w){fn:Func}{x:V}(hx:aBN P fn s h=some x):
  ∃v,(results fn a.tmps).run P w= .ok v w∧VR (Xs A M h) M w x v:=by
 unfold aBN at hx
 have key: ∀l:List ResultVar,fn.results.toList=l→fn.results=l.toArray:=fun l hl=>by rw[←hl]
 have e:results fn a.tmps=(do let vs←fn.results.mapM (aRz P a.tmps);pure (if h:vs.size=1 then vs[0]else .tuple vs)):=by
  unfold results
  congr 1
 rw[e]
 split at hx
 ·rename_i hl
  injection hx with hx;subst hx
  exact⟨.tuple #[],by simp[key _ hl],by unfold VR;exact⟨[],rfl,by unfold VCells;rfl⟩⟩
 ·rename_i r hl
  obtain⟨v,hv,hr⟩:=i7 R hx
  refine⟨v, ?_,hr⟩
  simp[key _ hl,hv]
 ·rename_i r q hl
  simp only[a1L,a1N]at hx
  obtain⟨x1,h1,x2,h2,rfl⟩:=hx
  obtain⟨v1,hv1,hr1⟩:=i7 R h1
  obtain⟨v2,hv2,hr2⟩:=i7 R h2
  refine⟨.tuple #[v1,v2], ?_,by unfold VR;exact⟨[v1,v2],rfl,by unfold VCells;exact⟨_,_,rfl,hr1,by unfold VCells;exact⟨_,_,rfl,hr2,by unfold VCells;rfl⟩⟩⟩⟩
  simp[key _ hl,hv1,hv2]
 ·rename_i r q p hl
  simp only[a1L,a1N]at hx
  obtain⟨x1,h1,x2,h2,x3,h3,rfl⟩:=hx
  obtain⟨v1,hv1,hr1⟩:=i7 R h1
  obtain⟨v2,hv2,hr2⟩:=i7 R h2
  obtain⟨v3,hv3,hr3⟩:=i7 R h3
  refine⟨.tuple #[v1,v2,v3], ?_,by unfold VR;exact⟨[v1,v2,v3],rfl,by unfold VCells;exact⟨_,_,rfl,hr1,by unfold VCells;exact⟨_,_,rfl,hr2,by unfold VCells;exact⟨_,_,rfl,hr3,by unfold VCells;rfl⟩⟩⟩⟩⟩
  simp[key _ hl,hv1,hv2,hv3]
 ·rename_i r q p o hl
  simp only[a1L,a1N]at hx
  obtain⟨x1,h1,x2,h2,x3,h3,x4,h4,rfl⟩:=hx
  obtain⟨v1,hv1,hr1⟩:=i7 R h1
  obtain⟨v2,hv2,hr2⟩:=i7 R h2
  obtain⟨v3,hv3,hr3⟩:=i7 R h3
  obtain⟨v4,hv4,hr4⟩:=i7 R h4
  refine⟨.tuple #[v1,v2,v3,v4], ?_,by unfold VR;exact⟨[v1,v2,v3,v4],rfl,by unfold VCells;exact⟨_,_,rfl,hr1,by unfold VCells;exact⟨_,_,rfl,hr2,by unfold VCells;exact⟨_,_,rfl,hr3,by unfold VCells;exact⟨_,_,rfl,hr4,by unfold VCells;rfl⟩⟩⟩⟩⟩⟩
  simp[key _ hl,hv1,hv2,hv3,hv4]
 cases hx
theorem aK3 {f:FuncId} {fn:Func} (hf:P.funcs[f]? =some fn) (hb:fn.body.isNone=false) (hn:(fn.name == "runtime.NumGoroutine")=false) (vs:Array Value) (w:World):(callFunc f vs).run P w= .ok (.enter f vs) w:=by
 unfold callFunc
 have hp:(program:Sem Program).run P w= .ok P w:=rfl
 rw[Sem.run_bind,hp,Result.andThen_ok]
 simp only[hf,hn,hb,a17,if_false]
 rfl
def aKC (fn:Func)(args:List V):List V:=args++a2i (fn.ntmps-args.length) (.sc undef)
theorem aT4 {A:Nat→Prop}{M:List (Option Nat)}{w:World}{fn:Func}{args:List V}{vs:List Value}(H:HR A M h w)(hargs:VCells (Xs A M h) M w args vs):
  Rel A M (aKC fn args) h {tmps:=vs.toArray++a2I (fn.ntmps-vs.toArray.size) undef,defers:=[]} w:=by
 refine⟨H,⟨by simp[aKC,hargs.len],fun t x hx=> ?_⟩,rfl⟩
 have hl:=hargs.len
 simp only[aKC]at hx
 rcases a16 t args.length with ht|ht
 ·rw[a1U ht]at hx
  obtain⟨v,hv,hr⟩:=hargs.get hx
  have:(vs.toArray++a2I (fn.ntmps-vs.toArray.size) undef).getD t undef=v:=by
   have ht':t<vs.length:=by omega
   have hv':vs[t]=v:=by rw[a11 ht']at hv;injection hv
   simp[a2f,Array.getElem?_append_left,ht',hv']
  rw[this];exact hr
 rw[a1Z ht,List.getElem?_replicate]at hx
 split at hx
 ·injection hx with hx;subst hx
  have:(vs.toArray++a2I (fn.ntmps-vs.toArray.size) undef).getD t undef=undef:=by
   simp only[a2f]
   rw[Array.getElem?_append_right (by simp;omega)]
   simp[Array.getElem?_replicate]
   split<;>rfl
  simp only
  rw[this];unfold VR;rfl
 cases hx
end
def yE (ag:Bool)(k n:Nat)(cells:List V):List V:=if ag then(a2t n).map fun i=> .agg ((cells.drop (i*k)).take k)else cells
def c9 (h:Hp):Nat→V→Option V
 |_,.sc v=>some (.sc v)
 |_,.row nil k es=>some (.row nil k es)
 |0,_=>none
 |d+1,.sl b off n k ag=>match h[b]? with
  |some (some B)=>
   if off+n*k≤B.cells.length∧0<k∧(ag=true∨k=1) then
    (((B.cells.drop off).take (n*k)).mapM (c9 h d)).map fun cells=> .row none k (yE ag k n cells)
   else none
  |_=>none
 |_,_=>none
def sG (h:Hp):V→Option V
 | .agg cs=>(cs.mapM (c9 h 4)).map V.agg
 |x=>c9 h 4 x
def a1J (h:Hp):V→Option V
 | .tup vs=>(vs.mapM (sG h)).map V.tup
 |x=>sG h x
theorem aIO {α β:Type}{f:α→Option β}: ∀{l:List α}{m:List β},l.mapM f=some m→l.length=m.length∧ ∀(i:Nat)(x:α)(y:β),l[i]? =some x→m[i]? =some y→f x=some y
 | [],m,h=>by simp at h;subst h;simp
 |x::l,m,h=>by
  simp only[a2b,a14,a1L,a2k,a1N]at h
  obtain⟨y,hy,m',hm,rfl⟩:=h
  obtain⟨h1,h2⟩:=aIO hm
  refine⟨by simp[h1],fun i a b ha hb=> ?_⟩
  cases i with
  |zero=>simp at ha hb;subst ha hb;exact hy
  |succ i=>exact h2 i a b (by simpa using ha) (by simpa using hb)
section
variable {A:Nat→Prop}{M:List (Option Nat)}{h:Hp}{w:World}
theorem VR.closed_row {X X':Nat→Prop}{nil:Option Bool}{k:Nat}{es:List V}{v:Value}(hX: ∀g,g<w.heap.size→X' g→X g)(hv:VR X M w (.row nil k es) v):VR X' [] w (.row nil k es) v:=by
 have h1:VR X [] w (.row nil k es) v:=by unfold VR at hv ⊢; exact hv
 exact VR.ext (Ext.refl (fun _=>False) w) (a1R _) (fun _ _ h=>h.elim) hX _ _ h1
theorem aHX {X:Nat→Prop}{k:Nat}(hk:0<k): ∀(n:Nat){cells:List V}{vs:List Value}{ad:Addr},cells.length=n*k→VCells X [] w cells vs→LiesAt w ad vs.toArray→
  VRow X [] w k ((a2t n).map fun i=> .agg ((cells.drop (i*k)).take k)) ad
 |0,cells,vs,ad,_,_,_=>by simp only[List.range_zero,List.map_nil];unfold VRow;trivial
 |n+1,cells,vs,ad,hl,hc,hla=>by
  rw[List.range_succ_eq_map,a2j,a2N]
  unfold VRow
  have hlen:=hc.len
  have hsz:(vs.take k).length=k:=by rw[a2A,←hlen,hl,a18];omega
  refine⟨⟨.agg (vs.take k).toArray, ?_,by simpa[Value.cells]using hsz, ?_⟩, ?_⟩
  ·simp only[Nat.zero_mul,List.drop_zero]
   unfold VR
   exact⟨_,rfl,hc.take k⟩
  ·simpa[Value.cells]using hla.take k
  have:=aHX hk n (cells:=cells.drop k) (vs:=vs.drop k) (ad:=ad.add k) (by simp[hl,a18]) (hc.drop k) (hla.drop k)
  have e:(a2t n).map ((fun i=>V.agg ((cells.drop (i*k)).take k))∘Nat.succ)=(a2t n).map fun i=>V.agg (((cells.drop k).drop (i*k)).take k):=by
   apply List.map_congr_left
   intro i _
   simp only[Function.comp,List.drop_drop]
   rw[show k+i*k=(i+1)*k by rw[a18,a2n,a2y]]
  rw[e]
  exact this
theorem aRR {d:Nat}{x y:V}(hy:c9 h d x=some y)(hx:x.one=true):y.one=true:=by
 cases d<;>cases x<;>simp only[c9]at hy<;>first
  |(injection hy with hy;subst hy;exact hx)
  |cases hy
  |(
   split at hy
   ·split at hy
    ·simp only[a1K]at hy;obtain⟨_,_,rfl⟩:=hy;rfl
    cases hy
   cases hy)
theorem aEJ (H:HR A M h w): ∀(d:Nat){x y:V}{v:Value},VR (Xs A M h) M w x v→c9 h d x=some y→VR A [] w y v
 |d,.sc c,y,v,hx,hy=>by
  have:y= .sc c:=by cases d<;>simp only[c9]at hy<;>injection hy with hy<;>exact hy.symm
  subst this;unfold VR at hx ⊢; exact hx
 |d,.row nil k es,y,v,hx,hy=>by
  have:y= .row nil k es:=by cases d<;>simp only[c9]at hy<;>injection hy with hy<;>exact hy.symm
  subst this;exact hx.closed_row (fun _ _ ha=> .inl ha)
 |0,.sl b off n k ag,y,v,hx,hy=>by simp only[c9]at hy;cases hy
 |d,.agg cs,y,v,hx,hy=>by cases d<;>simp only[c9]at hy<;>cases hy
 |d,.tup cs,y,v,hx,hy=>by cases d<;>simp only[c9]at hy<;>cases hy
 |d,.ptr b off,y,v,hx,hy=>by cases d<;>simp only[c9]at hy<;>cases hy
 |d,.eptr es i off,y,v,hx,hy=>by cases d<;>simp only[c9]at hy<;>cases hy
 |d,.mp b,y,v,hx,hy=>by cases d<;>simp only[c9]at hy<;>cases hy
 |d,.any,y,v,hx,hy=>by cases d<;>simp only[c9]at hy<;>cases hy
 |d+1,.sl b off n k ag,y,v,hx,hy=>by
  simp only[c9]at hy
  split at hy
  ·rename_i B hb
   split at hy
   ·rename_i hc
    obtain⟨hoff,hk,hag⟩:=hc
    simp only[Option.map_eq_some_iff]at hy
    obtain⟨cells,hm,rfl⟩:=hy
    obtain⟨hl,hget⟩:=aIO hm
    have hB1:=(H.blk b B hb).1
    have hlen:cells.length=n*k:=by rw[←hl];simp;omega
    have hone: ∀c∈cells,c.one=true:=by
     intro c hc
     obtain⟨i,hi,rfl⟩:=List.mem_iff_getElem.1 hc
     have hi':i<((B.cells.drop off).take (n*k)).length:=by omega
     have:=hget i _ _ (List.getElem?_eq_getElem hi') (List.getElem?_eq_getElem hi)
     exact aRR this (hB1 _ (List.mem_of_mem_drop (List.mem_of_mem_take (List.getElem_mem hi'))))
    have hok: ∀e∈yE ag k n cells,e.okElem k=true:=by
     intro e he
     unfold yE at he
     split at he
     ·simp only[List.mem_map,List.mem_range]at he
      obtain⟨i,hi,rfl⟩:=he
      have hik:i*k+k≤n*k:=by have:=Nat.mul_le_mul_right k hi;rw[Nat.succ_mul]at this;exact this
      simp only[V.okElem,V.flatOk,V.cells,Bool.and_eq_true,beq_iff_eq,List.all_eq_true]
      refine⟨fun c hc=>hone c (List.mem_of_mem_drop (List.mem_of_mem_take hc)), ?_⟩
      rw[List.length_take,List.length_drop,hlen];omega
     rename_i hag'
     have hk1:k=1:=hag.resolve_left hag'
     have h1:=hone e he
     have:e.cells=[e]:=by cases e<;>first|rfl|simp[V.one]at h1
     simp[V.okElem,V.flatOk,this,h1,hk1]
    have hclen:(yE ag k n cells).length=n:=by
     unfold yE
     split
     ·simp
     rename_i hag'
     rw[hlen,hag.resolve_left hag',Nat.mul_one]
    unfold VR at hx
    rcases hx with⟨hM,rfl,rfl,rfl⟩|⟨g,cap,e,sz,hg,rfl,h1,h2,h3,h4,h5⟩
    ·have:yE ag k 0 cells=[]:=List.eq_nil_of_length_eq_zero hclen
     rw[this]
     unfold VR
     exact⟨none,0,rfl,Nat.le_refl _,fun _=>rfl,(fun b hb=>by cases hb),by simp,fun hne=>absurd rfl hne⟩
    unfold VR
    refine⟨some ⟨g,off,none⟩,cap,by rw[hclen],by rw[hclen];exact h1,fun hh=>(by cases hh),(fun b hb=>by cases hb),hok,fun hne=> ?_⟩
    obtain⟨vs,hvs,hlies⟩:=aGM H hb hg h4 off
    have hvs':=hvs.take (n*k)
    have hlies':=hlies.take (n*k)
    have hA: ¬A g:=by
     obtain⟨_,⟨hn,_⟩|⟨g',cs,hg',hA,_⟩⟩:=H.blk b B hb
     ·rw[hg]at hn;cases hn
     rw[hg]at hg';injection hg' with hg';injection hg' with hg';subst hg';exact hA
    have hcv:VCells A [] w cells (vs.take (n*k)):=VCells.mk (by rw[←hl,hvs'.len]) (fun i c v hc hv=>by
     have hi:i<((B.cells.drop off).take (n*k)).length:=by rw[hl];exact(List.getElem?_eq_some_iff.1 hc).1
     have hx:=List.getElem?_eq_getElem hi
     obtain⟨u,hu,hr⟩:=hvs'.get hx
     rw[hv]at hu;injection hu with hu;subst hu
     exact aEJ H d hr (hget i _ _ hx hc))
    refine⟨⟨g,off,none⟩,rfl,hk,hA,rfl, ?_⟩
    unfold yE
    split
    ·exact aHX hk n hlen hcv hlies'
    rename_i hag'
    exact VRow.ofCells (hag.resolve_left hag') hcv hone hlies'
   cases hy
  cases hy
theorem aPC (H:HR A M h w){cs ds:List V}{vs:List Value}(hc:VCells (Xs A M h) M w cs vs)(hm:cs.mapM (c9 h 4)=some ds):VCells A [] w ds vs:=by
 obtain⟨hl,hget⟩:=aIO hm
 refine VCells.mk (by rw[←hl,hc.len]) (fun i c v hd hv=> ?_)
 have hi:i<cs.length:=by rw[hl];exact(a1M.1 hd).1
 obtain⟨u,hu,hr⟩:=hc.get (a11 hi)
 rw[hv]at hu;injection hu with hu;subst hu
 exact aEJ H 4 hr (hget i _ _ (a11 hi) hd)
theorem aRK (H:HR A M h w){x y:V}{v:Value}(hx:VR (Xs A M h) M w x v)(hy:sG h x=some y):VR A [] w y v:=by
 unfold sG at hy
 split at hy
 ·simp only[a1K]at hy
  obtain⟨ds,hd,rfl⟩:=hy
  unfold VR at hx⊢
  obtain⟨vs,rfl,hc⟩:=hx
  exact⟨vs,rfl,aPC H hc hd⟩
 exact aEJ H 4 hx hy
def PFn (P:Program)(f:FuncId)(args:List V)(r:V):Prop:=
 ∀(A:Nat→Prop)(w:World)(vs:List Value),(∀g,A g→g<w.heap.size)→Globs A w→VCells A [] w args vs→
  Invokes P f vs.toArray w (fun v w'=>Ext (fun _=>False) w w'∧VR A [] w' r v)
theorem Invokes.mono {P:Program}{f:FuncId}{vs:Array Value}{R R':Value→World→Prop}(hh:Invokes P f vs w R)(hR: ∀v w',R v w'→R' v w'):Invokes P f vs w R':=by
 rcases hh with⟨h1,h2⟩|⟨v,w',h1,h2⟩
 ·exact .inl ⟨h1,h2.mono fun e w' ⟨v,he,hr⟩=>⟨v,he,hR _ _ hr⟩⟩
 exact .inr ⟨v,w',h1,hR _ _ h2⟩
theorem aNY {A:Nat→Prop}{g:Nat}:Xs A [] [] g↔A g:=⟨fun hx=>hx.elim id (fun⟨b,B,hb,_⟩=>by simp at hb),.inl⟩
theorem VCells.avoid {X X':Nat→Prop}{cs:List V}{vs:List Value}(hX: ∀g,g<w.heap.size→X' g→X g)(hv:VCells X M w cs vs):VCells X' M w cs vs:=
 VCells.ext (Ext.refl (fun _=>False) w) (a1R _) (fun _ _ h=>h.elim) hX _ _ hv
theorem VR.avoid {X X':Nat→Prop}{x:V}{v:Value}(hX: ∀g,g<w.heap.size→X' g→X g)(hv:VR X M w x v):VR X' M w x v:=
 VR.ext (Ext.refl (fun _=>False) w) (a1R _) (fun _ _ h=>h.elim) hX _ _ hv
theorem HR.nil {A:Nat→Prop}(ha: ∀g,A g→g<w.heap.size)(hg:Globs A w):HR A [] [] w:=⟨rfl,ha,by simp,by simp,hg.avoid fun _ _ hx=>aNY.1 hx⟩
def aQa :V→Bool
 | .sc _=>true
 | .row _ _ []=>true
 |_=>false
def a1I :V→Bool
 | .agg cs=>cs.all aQa
 | .tup vs=>vs.all fun x=>match x with
  | .agg cs=>cs.all aQa
  |x=>aQa x
 |x=>aQa x
theorem Grow.none_changed {A:Nat→Prop}{M:List (Option Nat)}{h:Hp}{w w':World}(H:HR A M h w)(hE:Ext (fun _=>False) w w'):Grow A M h w M h w':=by
 have hE':Ext (c8 M h) w w':=hE.mono fun _ _ hh=>hh.elim
 refine⟨a1R _,⟨H.len,fun g hg=>a1X (H.alt g hg) hE.size,fun b B hb=> ?_,H.inj,H.glob.grow hE' (fun _ _ hl=>hl)⟩,hE',fun _ _ hl=>hl⟩
 obtain⟨h0,hn|⟨g,cs,h1,h2,h3,h4,h5⟩⟩:=H.blk b B hb
 ·exact⟨h0,.inl hn⟩
 exact⟨h0,.inr ⟨g,cs,h1,h2,h3.to (hE.block g (H.mlt hb h1) id),h4,VCells.ext hE' (a1R _) (fun _ _ hl=> .inr hl) (fun _ _ hx=>hx) _ _ h5⟩⟩
def aLz :V→Bool
 | .sc _=>true
 | .row _ _ _=>true
 |_=>false
theorem aMc {X:Nat→Prop}{x:V}{v:Value}(hx:aLz x=true)(hv:VR X M w x v):VR X [] w x v:=by
 unfold aLz at hx
 split at hx
 ·unfold VR at hv ⊢; exact hv
 ·unfold VR at hv ⊢; exact hv
 cases hx
end
def OpsTo (P:Program)(O:wF)(ops:Array Oper)(l:List Oper)(s:List V)(h:Hp)(K:List V→Hp→Prop):Prop:= ∃p,aRC P O ops l s h=some p∧K p.1 p.2
def Then {α:Type}(o:Option α)(K:α→Prop):Prop:= ∃p,o=some p∧K p
section
variable {P:Program}{O:wF}{ops:Array Oper}{s:List V}{h:Hp}{K:List V→Hp→Prop}
theorem OpsTo.cons {o:Oper}{l:List Oper}(hh:Then (b9 P O ops o s h) (fun p=>OpsTo P O ops l (fU s o.dst p.1) p.2 K)):OpsTo P O ops (o::l) s h K:=by
 obtain⟨⟨r,h1⟩,h2,p,h3,h4⟩:=hh
 refine⟨p, ?_,h4⟩
 simp only[aRC,cJ,h2,a2V,a1P]
 exact h3
end
@[simp] theorem Ex.then_normal (K:List V→Hp→Prop)(Q:Ex→List V→Hp→Prop):Ex.then K Q .normal=K:=rfl
@[simp] theorem Ex.then_ret (K:List V→Hp→Prop)(Q:Ex→List V→Hp→Prop):Ex.then K Q .ret=Q .ret:=rfl
@[simp] theorem Ex.then_exit (K:List V→Hp→Prop)(Q:Ex→List V→Hp→Prop)(id:Nat):Ex.then K Q (.exit id)=Q (.exit id):=rfl
@[simp] theorem Ex.inBlock_normal (Q:Ex→List V→Hp→Prop)(id:Nat):Ex.inBlock id Q .normal=Q .normal:=rfl
@[simp] theorem Ex.inBlock_ret (Q:Ex→List V→Hp→Prop)(id:Nat):Ex.inBlock id Q .ret=Q .ret:=rfl
theorem Then.mk {α:Type}{o:Option α}{K:α→Prop}{p:α}(h1:o=some p)(h2:K p):Then o K:=⟨p,h1,h2⟩
@[simp] theorem a0Q {α:Type}(x:α)(K:α→Prop):Then (some x) K↔K x:=⟨fun⟨p,hp,hk⟩=>by injection hp with hp;subst hp;exact hk,fun hk=>⟨x,rfl,hk⟩⟩
@[simp] theorem a1a {α β:Type}(o:Option α)(f:α→β)(K:β→Prop):Then (o.map f) K↔Then o fun x=>K (f x):=by
 constructor
 ·rintro⟨p,hp,hk⟩
  simp only[a1K]at hp
  obtain⟨x,hx,rfl⟩:=hp
  exact⟨x,hx,hk⟩
 rintro⟨x,hx,hk⟩
 exact⟨f x,by rw[hx];rfl,hk⟩
@[simp] theorem a0S {α β:Type}(o:Option α)(f:α→Option β)(K:β→Prop):Then (o.bind f) K↔Then o fun x=>Then (f x) K:=by
 constructor
 ·rintro⟨p,hp,hk⟩
  simp only[a1L]at hp
  obtain⟨x,hx,hf⟩:=hp
  exact⟨x,hx,p,hf,hk⟩
 rintro⟨x,hx,p,hf,hk⟩
 exact⟨p,by rw[hx];exact hf,hk⟩
@[simp] theorem a1v {α:Type}(c:Prop) [Decidable c] (o:Option α) (K:α→Prop):Then (if c then o else none) K↔c∧Then o K:=by
 constructor
 ·rintro⟨p,hp,hk⟩
  split at hp
  ·rename_i hc;exact⟨hc,p,hp,hk⟩
  cases hp
 rintro⟨hc,p,hp,hk⟩
 exact⟨p,by rw[if_pos hc];exact hp,hk⟩
@[simp] theorem a0R {α:Type}(c:Prop) [Decidable c] (o:Option α) (K:α→Prop):Then (if c then none else o) K↔ ¬c∧Then o K:=by
 constructor
 ·rintro⟨p,hp,hk⟩
  split at hp
  ·cases hp
  rename_i hc;exact⟨hc,p,hp,hk⟩
 rintro⟨hc,p,hp,hk⟩
 exact⟨p,by rw[if_neg hc];exact hp,hk⟩
section
variable (P:Program)(t:TypeId)(xo yo:Operand)
@[simp] theorem aYb {α:Type}(a:α):aS P (pure a)=some a:=rfl
@[simp] theorem aXC {α:Type}(a:α):aS P (Sem.pure a)=some a:=rfl
theorem gM (op:BinOp)(k k':IntKind)(a b:Int):eqGuard op t xo yo (.int k a) (.int k' b)=pure ():=by cases op<;>rfl
theorem aM5 (op:BinOp)(a b:Bool):eqGuard op t xo yo (.bool a) (.bool b)=pure ():=by cases op<;>rfl
theorem aQN (op:BinOp)(a b:ByteArray):eqGuard op t xo yo (.string a) (.string b)=pure ():=by cases op<;>rfl
@[simp] theorem aXG (k:IntKind)(a b:Int):dC P .add t xo yo (.sc (.int k a)) (.sc (.int k b))=some (.sc (.int k (k.wrap (a+b)))):=by
 simp[dC,eN,dB,gM,binOp,Op.intArith,pureV];rfl
@[simp] theorem aXQ (k:IntKind)(a b:Int):dC P .sub t xo yo (.sc (.int k a)) (.sc (.int k b))=some (.sc (.int k (k.wrap (a-b)))):=by
 simp[dC,eN,dB,gM,binOp,Op.intArith,pureV];rfl
@[simp] theorem aXs (k:IntKind)(a b:Int):dC P .mul t xo yo (.sc (.int k a)) (.sc (.int k b))=some (.sc (.int k (k.wrap (a*b)))):=by
 simp[dC,eN,dB,gM,binOp,Op.intArith,pureV];rfl
@[simp] theorem aYa (k:IntKind)(a b:Int):dC P .and t xo yo (.sc (.int k a)) (.sc (.int k b))=some (.sc (.int k (bits .and k a b))):=by
 simp[dC,eN,dB,gM,binOp,Op.intBits,pureV];rfl
@[simp] theorem aYT (k:IntKind)(a b:Int):dC P .or t xo yo (.sc (.int k a)) (.sc (.int k b))=some (.sc (.int k (bits .or k a b))):=by
 simp[dC,eN,dB,gM,binOp,Op.intBits,pureV];rfl
@[simp] theorem aXg (k:IntKind)(a b:Int):dC P .xor t xo yo (.sc (.int k a)) (.sc (.int k b))=some (.sc (.int k (bits .xor k a b))):=by
 simp[dC,eN,dB,gM,binOp,Op.intBits,pureV];rfl
@[simp] theorem aXN (k:IntKind)(a b:Int):dC P .eql t xo yo (.sc (.int k a)) (.sc (.int k b))=some (.sc (.bool (a == b))):=by
 simp[dC,eN,dB,gM,binOp,Op.intCmp,pureV];rfl
@[simp] theorem aXd (k:IntKind)(a b:Int):dC P .neq t xo yo (.sc (.int k a)) (.sc (.int k b))=some (.sc (.bool (a != b))):=by
 simp[dC,eN,dB,gM,binOp,Op.intCmp,pureV];rfl
@[simp] theorem aOz (k:IntKind)(a b:Int):dC P .lss t xo yo (.sc (.int k a)) (.sc (.int k b))=some (.sc (.bool (decide (a<b)))):=by
 simp[dC,eN,dB,gM,binOp,Op.intCmp,pureV];rfl
@[simp] theorem aXR (k:IntKind)(a b:Int):dC P .leq t xo yo (.sc (.int k a)) (.sc (.int k b))=some (.sc (.bool (decide (a≤b)))):=by
 simp[dC,eN,dB,gM,binOp,Op.intCmp,pureV];rfl
@[simp] theorem aXq (k:IntKind)(a b:Int):dC P .gtr t xo yo (.sc (.int k a)) (.sc (.int k b))=some (.sc (.bool (decide (b<a)))):=by
 simp[dC,eN,dB,gM,binOp,Op.intCmp,pureV];rfl
@[simp] theorem aXW (k:IntKind)(a b:Int):dC P .geq t xo yo (.sc (.int k a)) (.sc (.int k b))=some (.sc (.bool (decide (b≤a)))):=by
 simp[dC,eN,dB,gM,binOp,Op.intCmp,pureV];rfl
@[simp] theorem aX3 (k:IntKind)(a b:Int):dC P .quo t xo yo (.sc (.int k a)) (.sc (.int k b))=if b=0 then none else some (.sc (.int k (k.wrap (a.tdiv b)))):=by
 simp only[dC,eN,dB,gM,binOp,Op.intDiv,pureV,ne_eq,not_true,if_false]
 split<;>rfl
@[simp] theorem aW8 (k:IntKind)(a b:Int):dC P .rem t xo yo (.sc (.int k a)) (.sc (.int k b))=if b=0 then none else some (.sc (.int k (a.tmod b))):=by
 simp only[dC,eN,dB,gM,binOp,Op.intDiv,pureV,ne_eq,not_true,if_false]
 split<;>rfl
@[simp] theorem aXP (k k':IntKind)(a b:Int):dC P .shl t xo yo (.sc (.int k a)) (.sc (.int k' b))=if b<0 then none else some (.sc (.int k (k.wrap (a*2^(min b.toNat k.bits))))):=by
 simp only[dC,eN,dB,gM,binOp,Op.shift,pureV]
 split<;>rfl
@[simp] theorem aXF (k k':IntKind)(a b:Int):dC P .shr t xo yo (.sc (.int k a)) (.sc (.int k' b))=if b<0 then none else some (.sc (.int k (a.fdiv (2^(min b.toNat k.bits))))):=by
 simp only[dC,eN,dB,gM,binOp,Op.shift,pureV]
 split<;>rfl
@[simp] theorem aYC (b:Bool):unV P .not (.sc (.bool b))=some (.sc (.bool (!b))):=rfl
theorem aR1 (h:Hp)(a b:TypeId)(v:Value):rH P h a b (.sc v)=none:=by
 unfold rH
 split
 ·split<;>first|rfl|simp[fM]
 rfl
theorem aVX {h:Hp}{a b:TypeId}{d:TI}{k k':IntKind}{n:Int}(ha: ∃da,aM P a=some da)(hb:aM P b=some d)(hd:d.desc= .int k):aBO P h a b (.sc (.int k' n))=some (.sc (.int k (k.wrap n))):=by
 obtain⟨da,ha⟩:=ha
 have h1:=(cR ha).1
 have h2:=(cR hb).1
 rw[hd]at h2
 have e1:underlying a=Sem.program fun p=>match p.underlying a with|some d=>pure d|none=>stuck "no such type" :=rfl
 have e2:underlying b=Sem.program fun p=>match p.underlying b with|some d=>pure d|none=>stuck "no such type" :=rfl
 simp only[aBO,aR1,eN,dB,pureV]
 have:aS P (convert a b (.int k' n))=some (.int k (k.wrap n)):=by
  unfold convert
  rw[e1,e2]
  show aS P (Sem.bind (Sem.program _) _)=_
  simp only[Sem.bind,aS,h1]
  show aS P (Sem.bind (Sem.program _) _)=_
  simp only[Sem.bind,aS,h2]
  cases da.desc<;>rfl
 rw[this];rfl
@[simp] theorem a1G :IntKind.u8.bits=8:=rfl
@[simp] theorem a1n :IntKind.u16.bits=16:=rfl
@[simp] theorem a09 :IntKind.u32.bits=32:=rfl
@[simp] theorem a1t :IntKind.u64.bits=64:=rfl
@[simp] theorem a1B :IntKind.i64.bits=64:=rfl
theorem w64 {a:Int}(h1: -9223372036854775808≤a)(h2:a≤9223372036854775807):IntKind.i64.wrap a=a:=by rw[IntKind.wrap_i64];omega
theorem aHJ {a:Int}(h1:0≤a)(h2:a≤18446744073709551615):IntKind.u64.wrap a=a:=by rw[IntKind.wrap_u64];omega
theorem aZO {a:Int}(h1:0≤a)(h2:a≤4294967295):IntKind.u32.wrap a=a:=by rw[IntKind.wrap_u32];omega
end
attribute [irreducible] OpsTo Then
end Go.Vm
namespace Go.Vm
open Go Go.ChangeShapes Go.WideShapes Go.ChangeAt Go.RowKit
def NoX :Nat→Prop:=fun _=>False
def aTN (l:List UInt8):List V:=l.map fun b=> .sc (.int .u8 b.toNat)
@[simp] theorem aZ5 (l:List UInt8):(aTN l).length=l.length:=by simp[aTN]
section
variable {H:Type}{enc:TypeId×Value→H}{P:Program}{w:World}{spare:Nat→Bool}{held:Bool}
theorem aJ8 {W W':World}(hlaid:laidOutB P=true)(hb:Below W.heap.size W W'): ∀{ts:List TypeId}{vs:List Value}{ds:List (DataW H)}{p:List MemPlace},
  (∀t∈ts,P.readableRec t=true∧t<P.types.size)→DataW.TrodAll enc P W 0 (fun _=>true) true ts vs ds p→DataW.TrodAll enc P W' 0 (fun b=>decide (b<W.heap.size)) true ts vs ds p
 | [],vs,ds,p,_,h=>by obtain⟨rfl,rfl,rfl⟩:=trodAll_nil h;exact trodAll_mk0
 |t::ts,vs,ds,p,hr,h=>by
  obtain⟨v,vs',d,ds',p',q,rfl,rfl,rfl,h1,h2⟩:=trodAll_cons h
  obtain⟨r1,r2⟩:=hr t (by simp)
  refine trodAll_cons_mk (Below.trod hlaid r1 r2 h1 hb ?_) (aJ8 hlaid hb (fun t ht=>hr t (by simp[ht])) h2)
  obtain⟨m,hm⟩:=h1
  exact DataW.trod_lt m _ _ _ hm
end
theorem aQC {P:Program} {f:FuncId} {fn:Func} {c:Code} {args:List V} {vs:List Value} {w:World} (hf:P.funcs[f]? =some fn) (hb:fn.body=some c) (hn:(fn.name == "runtime.NumGoroutine")=false)
  (hp:PFn P f args (.sc (.bool true))) (hGl:Globs NoX w) (hv:VCells NoX [] w args vs):Calls P f vs.toArray w fun e w'=>e= .returned (.bool true)∧Below w.heap.size w w':=by
 rcases hp NoX w vs (fun _ h=>h.elim) hGl hv with⟨_,h⟩|⟨v,w',h,_⟩
 ·refine h.mono fun e w' ⟨v,he,hE,hr⟩=> ?_
  unfold VR at hr
  subst hr
  exact⟨he,hE.below fun _ _ h=>h⟩
 rw[aK3 hf (by rw[hb];rfl) hn]at h
 cases h
end Go.Vm
