/- Texts of ours, joined: Plain1, Plain2, PlainX1, PlainX2, PlainX3, PlainY1, PlainX4, PlainX5, PlainH1, PlainH2, PlainX6, PlainR1, PlainY2, PlainU1, PlainU2, PlainU3, PlainU4, PlainV1, PlainV2, PlainV3, PlainN1, PlainC1, PlainN2, PlainV4, PlainV5, PlainV6, PlainVG, PlainC2, PlainC3. -/
import Derived.Test.YtbjiaghljpoliaaGreatDoorQSpendChecks3
open Option renaming bind_some → aXj,bind_eq_some_iff → aXV
open Bool renaming false_eq_true → aXk,true_and → aXq,not_true → aXw,and_eq_true → aXE,not_false → aXW,not_eq_true' → aYh,eq_iff_iff → aYr,false_or → aYS,true_eq_false → aYT
open Go.IntKind renaming i64 → aXl,u64 → aXB,u8 → aXI,u32 → aXJ,bits → aYl,wrap_u64 → aY0,wrap_u8 → aY2
open List renaming replicate → aXm,length_append → aXn,nil_append → aXo,drop_zero → aXs,append_assoc → aXt,getElem_mem → aXv,drop_eq_getElem_cons → aXx,take_of_length_le → aXy,getElem?_eq_getElem → aXz,drop_eq_nil_of_le → aXA,length_set → aXF,range' → aXH,length_cons → aXL,flatMap_cons → aXP,range'_succ → aXQ,all_cons → aXR,range → aXU,flatten_cons → aXY,replicate_succ → aX1,mem_map → aX6,foldl_cons → aX8,range_zero → aX9,getElem?_replicate → aYa,append_nil → aYb,take_succ_eq_append_getElem → aYd,getElem?_set_self → aYf,map_nil → aYk,all_eq_true → aYn,flatten_nil → aYo,mem_cons → aYq,getD_eq_getElem?_getD → aYv,mem_singleton → aYy,take_zero → aYz,mem_or_eq_of_mem_set → aYA,map_cons → aYB,cons_append → aYD,set_append_right → aYE,range_succ → aYF,map_append → aYG,mem_append → aYJ,mem_of_mem_drop → aYL,mem_of_mem_take → aYM,set_set → aYW,not_mem_nil → aY1,length_nil → aY3
open Int renaming toNat_natCast → aXp,toNat → aXN,toNat_of_nonneg → aX3,tmod → aYK,tdiv → aYV
open Nat renaming mod_eq_of_lt → aXr,mod_lt → aXu,mul_comm → aXC,mul_le_mul_right → aXD,two_pow_add_eq_or_of_lt → aXG,lt_of_lt_of_le → aXK,le_refl → aXM,sub_zero → aXO,pow_succ → aXS,div_lt_iff_lt_mul → aXT,mod_eq_sub_mod → aXX,mul_left_comm → aXZ,mul_le_mul → aX0,add_mul → aX2,pow_pos → aX4,pow_add → aX5,pow_zero → aX7,mul_assoc → aYc,testBit_eq_decide_div_mod_eq → aYe,div_div_eq_div_mul → aYg,zero_le → aYi,le_pred_of_lt → aYj,add_zero → aYm,div_eq_of_lt → aYp,mul_add → aYs,div_add_mod → aYt,add_le_add_left → aYu,zero_add → aYw,lt_of_le_of_lt → aYx,add_assoc → aYC,sub_self → aYH,zero_mul → aYI,pred_eq_sub_one → aYN,add_mod → aYO,mul_mod → aYP,mul_one → aYQ,div_one → aYR,mul_right_comm → aYU,add_comm → aYX,le_trans → aYY,lt_trans → aYZ,mod_mod → aY5
open List.cons renaming injEq → aY4
set_option linter.unusedSimpArgs false
set_option linter.unusedVariables false
namespace Go.Vm
open Go
def iN (l:List Nat):List Int:=l.map fun(x:Nat)=>(x:Int)
theorem aIS (l:List Nat):(iN l).length=l.length:=by simp[iN]
theorem aPB {d:List Int}(h:Byt d):iN (d.map aXN)=d∧ ∀x∈d.map aXN,x<256:=by
 constructor
 ·simp only[iN,List.map_map]
  conv=>rhs;rw[←List.map_id d]
  refine List.map_congr_left fun x hx=> ?_
  have:=h x hx
  simp only[Function.comp,id];omega
 intro x hx
 simp only[aX6]at hx
 obtain⟨y,hy,rfl⟩:=hx
 have:=h y hy
 omega
theorem aN9 {d:List Int}(h:Byt d): ∃l:List Nat,d=iN l∧ ∀x∈l,x<256:=⟨_,(aPB h).1.symm,(aPB h).2⟩
theorem i1 {j:Nat}(hj:j≤100000):aXl.wrap ((j:Int)+1)=((j+1:Nat):Int):=by rw[cN (by omega) (by omega)];simp
theorem dT {j n:Nat}(h:j<n):decide ((j:Int)<(n:Int))=true:=by simpa using h
theorem dF {j n:Nat}(h: ¬j<n):decide ((j:Int)<(n:Int))=false:=by simp;omega
theorem jO :100000000≤pJ:=by decide
theorem iZ {l m:List Int}(h:l.length+m.length≤100000000):eD 1 l m=some (l++m):=by
 have:=jO
 exact aBk (by omega)
theorem nI {α:Type}{f:Nat→Int→List Int→Option (List Int)}{xs:List α}{g:α→List Int}{B:Nat}(hn:xs.length≤100000)
  (hs: ∀m j acc (hj:j<xs.length),acc.length+(g xs[j]).length≤B→f (m+1) (j:Int) acc=f m ((j+1:Nat):Int) (acc++g xs[j])) (he: ∀m j acc,xs.length≤j→f (m+1) (j:Int) acc=some acc):
  ∀(m j:Nat)(acc:List Int),xs.length-j<m→j≤xs.length→acc.length+((xs.drop j).flatMap g).length≤B→f m (j:Int) acc=some (acc++(xs.drop j).flatMap g)
 |0,j,acc,hm,_,_=>by omega
 |m+1,j,acc,hm,hj,hB=>by
  by_cases h:j<xs.length
  ·rw[aXx h,aXP,aXn]at hB
   rw[hs m j acc h (by omega),nI hn hs he m (j+1) _ (by omega) (by omega) (by rw[aXn];omega),aXx h,aXP,aXt]
  rw[he m j acc (by omega),aXA (by omega)];simp
theorem jU {α R:Type}{f:Nat→Int→Option (LR Unit R)}{xs:List α}{p:α→Bool}{r:R}
  (hs: ∀m j (hj:j<xs.length),f (m+1) (j:Int)=if p xs[j]=true then f m ((j+1:Nat):Int)else some (.ret r)) (he: ∀m j,xs.length≤j→f (m+1) (j:Int)=some (.brk ())):
  ∀(m j:Nat),xs.length-j<m→j≤xs.length→f m (j:Int)=some (if(xs.drop j).all p=true then .brk ()else .ret r)
 |0,j,hm,_=>by omega
 |m+1,j,hm,hj=>by
  by_cases h:j<xs.length
  ·rw[hs m j h,jU hs he m (j+1) (by omega) (by omega),aXx h,aXR]
   cases p xs[j]<;>simp
  rw[he m j (by omega),aXA (by omega)];simp
theorem aC3 {R:Type}{f:Nat→Int→Option (LR Unit R)}{n:Nat}{p:Nat→Bool}{r:R}
  (hs: ∀m j,j<n→f (m+1) (j:Int)=if p j=true then f m ((j+1:Nat):Int)else some (.ret r)) (he: ∀m j,n≤j→f (m+1) (j:Int)=some (.brk ())):
  ∀(m j:Nat),n-j<m→j≤n→f m (j:Int)=some (if(aXH j (n-j)).all p=true then .brk ()else .ret r)
 |0,j,hm,_=>by omega
 |m+1,j,hm,hj=>by
  by_cases h:j<n
  ·rw[hs m j h,aC3 hs he m (j+1) (by omega) (by omega),show n-j=(n-(j+1))+1 by omega,aXQ,aXR]
   cases p j
   ·rfl
   simp only[aXq,if_true]
  rw[he m j (by omega),show n-j=0 by omega];simp
theorem aGD {α σ:Type}{f:Nat→σ→Int→Option σ}{xs:List α}{g:σ→α→σ}
  (hs: ∀m s j (hj:j<xs.length),f (m+1) s (j:Int)=f m (g s xs[j]) ((j+1:Nat):Int)) (he: ∀m s j,xs.length≤j→f (m+1) s (j:Int)=some s):
  ∀(m:Nat)(s:σ)(j:Nat),xs.length-j<m→j≤xs.length→f m s (j:Int)=some ((xs.drop j).foldl g s)
 |0,s,j,hm,_=>by omega
 |m+1,s,j,hm,hj=>by
  by_cases h:j<xs.length
  ·rw[hs m s j h,aGD hs he m _ (j+1) (by omega) (by omega),aXx h,aX8]
  rw[he m s j (by omega),aXA (by omega)];rfl
end Go.Vm
namespace Go.Proofs.YtbjiaghljpoliaaGreatDoor
open Go Go.Vm
def shV (v:Int)(i:Nat):Int:=aXI.wrap (v.fdiv (2^(min (8*i) 64)))
def aAZ (w:Nat)(v:Int):List Int:=(aXU w).map (shV v)
theorem mW (w:Nat)(v:Int):(aAZ w v).length=w:=by simp[aAZ]
theorem aU7 (v:Int)(i:Nat)(hi:i≤100): ∃y,shr .u64 v (aXl.wrap (8*(i:Int)))=some y∧aXI.wrap y=shV v i:=by
 refine⟨_, ?_,rfl⟩
 rw[cN (by omega) (by omega)]
 unfold shr
 rw[if_neg (by omega)]
 congr 3
theorem aRL (w:Nat)(v:Int)(j:Nat)(hj:j<w):(((aXU j).map (shV v))++aXm (w-j) 0).set j (shV v j)=((aXU (j+1)).map (shV v))++aXm (w-(j+1)) 0:=by
 rw[aYE _ _ (by simp),show w-j=(w-(j+1))+1 by omega,aX1,aYF,aYG,aXt]
 simp
theorem aIi {f:Nat→Int→List Int→Option (List Int)}(w:Nat)(v:Int)(hw:w≤100)
  (hs: ∀m j acc,j<w→acc.length=w→f (m+1) (j:Int) acc=f m ((j+1:Nat):Int) (acc.set j (shV v j))) (he: ∀m acc,acc.length=w→f (m+1) (w:Int) acc=some acc):
  ∀(m j:Nat),w-j<m→j≤w→f m (j:Int) (((aXU j).map (shV v))++aXm (w-j) 0)=some (aAZ w v)
 |0,j,hm,_=>by omega
 |m+1,j,hm,hj=>by
  by_cases h:j<w
  ·rw[hs m j _ h (by simp;omega),aRL w v j h]
   exact aIi w v hw hs he m (j+1) (by omega) (by omega)
  have:j=w:=by omega
  subst this
  rw[he m _ (by simp),aYH]
  simp[aAZ]
theorem aHl (N:Nat)(hN:70000≤N)(v:Int)(w:Nat)(hw:w≤100):rO N v (w:Int)=some (aAZ w v):=by
 have hmk:mks 1 (0:Int) (w:Int)=some (aXm w 0):=aFm (by have:=jO;omega)
 have:=aIi (f:=kO N v (w:Int)) w v hw (fun m j acc hj hl=>by
   obtain⟨y,h1,h2⟩:=aU7 v j (by omega)
   rw[kO,dT hj,if_pos rfl,h1,bZ acc (by omega:j<acc.length)]
   simp only[aXj,aXp,h2,i1 (show j≤100000 by omega)])
  (fun m acc hl=>by rw[kO,dF (Nat.lt_irrefl w)];rfl) N 0 (by omega) (by omega)
 simp only[rO,hmk,aXj,xE]
 simp only[aX9,aYk,aXo,aXO]at this
 rw[show((0:Nat):Int)=0 from rfl]at this
 rw[this];rfl
theorem u2 (N:Nat)(b v:List Int)(h:b.length+v.length≤50000000):gX N b v=some (b++v):=by
 have hmk:mks 1 (0:Int) (aXl.wrap ((b.length:Int)+(v.length:Int)))=some (aXm (b.length+v.length) 0):=by
  rw[cN (by omega) (by omega),show(b.length:Int)+(v.length:Int)=((b.length+v.length:Nat):Int) by omega]
  exact aFm (by have:=jO;omega)
 simp only[gX,hmk,aXj,aYz]
 rw[iZ (by simp;omega)]
 simp only[aXj,aXo]
 rw[iZ (by omega)];rfl
def qC (v:Int):List Int:=aAZ 4 (aXB.wrap v)
def aOZ (v:Int):List Int:=aAZ 8 v
theorem cZ (v:Int):(qC v).length=4:=mW _ _
theorem aEr (v:Int):(aOZ v).length=8:=mW _ _
section
variable (N:Nat)(hN:70000≤N)
include hN
theorem aKc (b:List Int)(v:Int)(h:b.length≤40000000):g9 N b v=some (b++qC v):=by
 simp only[g9,show(4:Int)=((4:Nat):Int)from rfl,aHl N hN _ 4 (by omega),aXj]
 rw[u2 N _ _ (by rw[mW];omega)];rfl
theorem aUU (b:List Int)(v:Int)(h:b.length≤40000000):mK N b v=some (b++aOZ v):=by
 simp only[mK,show(8:Int)=((8:Nat):Int)from rfl,aHl N hN _ 8 (by omega),aXj]
 rw[u2 N _ _ (by rw[mW];omega)];rfl
end
theorem wu (k:IntKind)(n:Nat)(hk:k.signed=false)(h:(n:Int)<2^k.bits):k.wrap (n:Int)=n:=by
 rw[aI1 hk];exact Int.emod_eq_of_lt (by omega) h
def szB (n:Nat):List Int:=if n<253 then aAZ 1 n else if n<65536 then 253::aAZ 2 n else 254::aAZ 4 n
theorem qX (n:Nat):1≤(szB n).length∧(szB n).length≤5:=by
 unfold szB
 split
 ·simp[mW]
 split<;>simp[mW]
theorem aWl (n:Nat)(h:n<256):aAZ 1 (n:Int)=[aXI.wrap (n:Int)]:=by
 simp[aAZ,shV,aYF]
section
variable (N:Nat)(hN:70000≤N)
include hN
theorem aLM (b:List Int)(n:Nat)(hn:n≤1000000)(h:b.length≤30000000):jP N b (aXB.wrap (n:Int))=some (b++szB n):=by
 rw[wu .u64 n rfl (by simp[aYl];omega)]
 unfold jP szB
 by_cases h1:n<253
 ·have e1:decide ((n:Int)<253)=true:=decide_eq_true (by omega)
  rw[e1,if_pos rfl,if_pos h1,u2 N _ _ (by simp;omega),aWl n (by omega)];rfl
 have e1:decide ((n:Int)<253)=false:=decide_eq_false (by omega)
 rw[e1,if_neg h1]
 by_cases h2:n<65536
 ·have e2:decide ((n:Int)<65536)=true:=decide_eq_true (by omega)
  simp only[e2,aXk,if_false,if_true,if_pos h2]
  rw[u2 N _ _ (by simp;omega)]
  simp only[aXj,w8,show(2:Int)=((2:Nat):Int)from rfl,aHl N hN _ 2 (by omega)]
  rw[wu .u16 n rfl (by simp[aYl];omega),wu .u64 n rfl (by simp[aYl];omega),u2 N _ _ (by simp[mW];omega)]
  simp
 have e2:decide ((n:Int)<65536)=false:=decide_eq_false (by omega)
 have e3:decide ((n:Int)<4294967296)=true:=decide_eq_true (by omega)
 simp only[e2,e3,aXk,if_false,if_true,if_neg h2]
 rw[u2 N _ _ (by simp;omega)]
 simp only[aXj]
 rw[aKc N hN (b++[254]) _ (by simp;omega),wu .u32 n rfl (by simp[aYl];omega)]
 simp only[qC,wu .u64 n rfl (show(n:Int)<2^aXB.bits by simp[aYl];omega),aXj,aXt]
 rfl
theorem aMx (b s:List Int)(hs:s.length≤1000000)(h:b.length≤30000000):kM N b s=some (b++(szB s.length++s)):=by
 have:=qX s.length
 simp only[kM,aLM N hN b _ hs (by omega),aXj]
 rw[u2 N _ _ (by rw[aXn];omega),aXj,aXt]
theorem aQq (t:List Int)(i:Int)(ht:t.length=32):aCs N t i=some (t++qC i):=by
 simp only[aCs,vO,a9,if_pos ht,aXj]
 rw[u2 N _ _ (by simp;omega)]
 simp only[aXj,aXo]
 rw[aKc N hN _ _ (by omega)];rfl
def oY (o:aF):List Int:=aOZ (aXB.wrap o.Value)++(szB o.Script.length++o.Script)
end
end Go.Proofs.YtbjiaghljpoliaaGreatDoor
set_option linter.unusedSectionVars false
namespace Go.Proofs.YtbjiaghljpoliaaGreatDoor
open Go Go.Vm
structure aAd (ins:List aG)(outs:List aF):Prop where
 ni:ins.length≤70
 no:outs.length≤70
 wit: ∀x∈ins,x.Witness.length≤40∧ ∀w∈x.Witness,w.length≤600
 scr: ∀o∈outs,o.Script.length≤600
 tx: ∀x∈ins,x.Prev.Tx.length=32
def inB (x:aG):List Int:=(x.Prev.Tx++qC x.Prev.Index)++qC x.Sequence
def itB (w:List Int):List Int:=szB w.length++w
def wiB (x:aG):List Int:=szB x.Witness.length++x.Witness.flatMap itB
def aRG (v:Int)(ins:List aG)(outs:List aF)(lock:Int)(wit:Bool):List Int:=
 ((((qC v++szB ins.length)++ins.flatMap inB)++szB outs.length)++outs.flatMap oY)++qC lock++(if wit then ins.flatMap wiB else [])
theorem zY {α:Type}{g:α→List Int}{c:Nat}: ∀(l:List α),(∀x∈l,(g x).length≤c)→(l.flatMap g).length≤l.length*c
 | [],_=>by simp
 |x::l,h=>by
  have h1:=h x (by simp)
  have h2:=zY l (fun y hy=>h y (by simp[hy]))
  rw[aXP,aXn,aXL,aX2,Nat.one_mul];omega
theorem aMk {w:List Int}(h:w.length≤600):(itB w).length≤605:=by have:=qX w.length;simp only[itB,aXn];omega
theorem aVc {x:aG}(h:x.Witness.length≤40∧ ∀w∈x.Witness,w.length≤600):(wiB x).length≤24205:=by
 have h1:=qX x.Witness.length
 have h2:=zY (g:=itB) (c:=605) x.Witness (fun w hw=>aMk (h.2 w hw))
 have h3:=aXD 605 h.1
 simp only[wiB,aXn];omega
theorem aJP {x:aG}(h:x.Prev.Tx.length=32):(inB x).length=40:=by simp[inB,cZ,h]
theorem aHI {o:aF}(h:o.Script.length≤600):(oY o).length≤613:=by
 have:=qX o.Script.length
 simp only[oY,aXn,aEr];omega
theorem aHy {ins:List aG}{outs:List aF}(K:aAd ins outs):(ins.flatMap inB).length≤2800:=by
 have:=zY (g:=inB) (c:=40) ins (fun x hx=>Nat.le_of_eq (aJP (K.tx x hx)))
 have:=aXD 40 K.ni
 omega
theorem aA6 {ins:List aG}{outs:List aF}(K:aAd ins outs):(outs.flatMap oY).length≤42910:=by
 have:=zY (g:=oY) (c:=613) outs (fun x hx=>aHI (K.scr x hx))
 have:=aXD 613 K.no
 omega
theorem aOq {ins:List aG}{outs:List aF}(K:aAd ins outs):(ins.flatMap wiB).length≤1694350:=by
 have:=zY (g:=wiB) (c:=24205) ins (fun x hx=>aVc (K.wit x hx))
 have:=aXD 24205 K.ni
 omega
section
variable (N:Nat)(hN:70000≤N){v:Int}{ins:List aG}{outs:List aF}{lock:Int}(K:aAd ins outs)
include hN K
theorem aL8 (b:Bool)(acc:List Int)(h:acc.length≤100000):mB N v ins outs lock b N 0 acc=some (acc++ins.flatMap inB):=by
 have hn:=K.ni
 have hl:=aHy K
 refine nI (f:=mB N v ins outs lock b) (xs:=ins) (g:=inB) (B:=200000) (by omega) (fun m j acc hj hB=> ?_) (fun m j acc hj=> ?_) N 0 acc (by omega) (by omega) (by rw[aXs];omega)
 ·have ht:=K.tx _ (aXv hj)
  rw[aJP ht]at hB
  rw[mB,dT hj,if_pos rfl,bZ ins hj]
  simp only[aXj,aQq N hN _ _ ht]
  rw[iZ (by simp[cZ];omega)]
  simp only[aXj,aKc N hN _ _ (show([]:List Int).length≤40000000 by simp),aXo]
  rw[iZ (by simp[cZ];omega)]
  simp only[aXj,i1 (show j≤100000 by omega),inB,aXt]
 rw[mB,dF (by omega)];rfl
theorem aL7 (b:Bool)(acc:List Int)(h:acc.length≤100000):mI N v ins outs lock b N 0 acc=some (acc++outs.flatMap oY):=by
 have hn:=K.no
 have hl:=aA6 K
 refine nI (f:=mI N v ins outs lock b) (xs:=outs) (g:=oY) (B:=200000) (by omega) (fun m j acc hj hB=> ?_) (fun m j acc hj=> ?_) N 0 acc (by omega) (by omega) (by rw[aXs];omega)
 ·have ht:=K.scr _ (aXv hj)
  have hs:=qX outs[j].Script.length
  rw[mI,dT hj,if_pos rfl,bZ outs hj]
  simp only[aXj,aUU N hN _ _ (show([]:List Int).length≤40000000 by simp),aXo]
  rw[iZ (by rw[aEr];omega)]
  simp only[aXj,aMx N hN [] _ (show outs[j].Script.length≤1000000 by omega) (by simp),aXo]
  rw[iZ (by simp only[aXn,aEr];omega)]
  simp only[aXj,i1 (show j≤100000 by omega),oY,aXt]
 rw[mI,dF (by omega)];rfl
theorem aL6 (x:Int)(w:aG)(hw:w.Witness.length≤40∧ ∀z∈w.Witness,z.length≤600)(acc:List Int)(h:acc.length≤5000000):lZ N ins x w N 0 acc=some (acc++w.Witness.flatMap itB):=by
 have hl:=zY (g:=itB) (c:=605) w.Witness (fun z hz=>aMk (hw.2 z hz))
 have:=aXD 605 hw.1
 refine nI (f:=lZ N ins x w) (xs:=w.Witness) (g:=itB) (B:=6000000) (by omega) (fun m j acc hj hB=> ?_) (fun m j acc hj=> ?_) N 0 acc (by omega) (by omega) (by rw[aXs];omega)
 ·have ht:=hw.2 _ (aXv hj)
  rw[lZ,dT hj,if_pos rfl,bZ w.Witness hj]
  simp only[aXj,aMx N hN [] _ (show w.Witness[j].length≤1000000 by omega) (by simp),aXo]
  rw[iZ (by simp only[itB]at hB;omega)]
  simp only[aXj,i1 (show j≤100000 by omega),itB]
 rw[lZ,dF (by omega)];rfl
theorem aL4 (acc:List Int)(h:acc.length≤1000000):k5 N ins N 0 acc=some (acc++ins.flatMap wiB):=by
 have hn:=K.ni
 have hl:=aOq K
 refine nI (f:=k5 N ins) (xs:=ins) (g:=wiB) (B:=4000000) (by omega) (fun m j acc hj hB=> ?_) (fun m j acc hj=> ?_) N 0 acc (by omega) (by omega) (by rw[aXs];omega)
 ·have ht:=K.wit _ (aXv hj)
  have hs:=qX ins[j].Witness.length
  rw[k5,dT hj,if_pos rfl,bZ ins hj]
  simp only[aXj,aLM N hN [] _ (show ins[j].Witness.length≤1000000 by omega) (by simp),aXo]
  rw[iZ (by omega)]
  simp only[aXj]
  rw[aL6 N hN K _ _ ht _ (by rw[aXn];omega)]
  simp only[aXj,aBZ,i1 (show j≤100000 by omega),wiB,aXt]
 rw[k5,dF (by omega)];rfl
theorem aKQ :aA9 N v ins outs lock true=some (aRG v ins outs lock true):=by
 have hn:=K.ni
 have ho:=K.no
 have h1:=qX ins.length
 have h2:=qX outs.length
 have h3:=aHy K
 have h4:=aA6 K
 simp only[aA9,aKc N hN [] _ (by simp),aXj,aXo,aLM N hN [] _ (show ins.length≤1000000 by omega) (by simp)]
 rw[iZ (by rw[cZ];omega)]
 simp only[aXj]
 rw[aL8 N hN K _ _ (by rw[aXn,cZ];omega)]
 simp only[aXj,aBl,aLM N hN [] _ (show outs.length≤1000000 by omega) (by simp),aXo]
 rw[iZ (by simp only[aXn,cZ];omega)]
 simp only[aXj]
 rw[aL7 N hN K _ _ (by simp only[aXn,cZ];omega)]
 simp only[aXj,aBK,aKc N hN [] _ (show([]:List Int).length≤40000000 by simp),aXo]
 rw[iZ (by simp only[aXn,cZ];omega)]
 simp only[aXj,aXw,aXk,if_false]
 rw[aL4 N hN K _ (by simp only[aXn,cZ];omega)]
 rfl
end
end Go.Proofs.YtbjiaghljpoliaaGreatDoor
set_option maxRecDepth 4000
namespace Go.Proofs.YtbjiaghljpoliaaGreatDoor
open Go Go.Vm
theorem nle (a b:Nat):decide ((a:Int)<(b:Int))= !decide (b≤a):=by
 by_cases h:a<b
 ·rw[decide_eq_true (by omega),decide_eq_false (by omega)];rfl
 rw[decide_eq_false (by omega),decide_eq_true (by omega)];rfl
theorem dle (n:Nat):decide ((n:Int)≤20000)=decide (n≤20000):=by
 by_cases h:n≤20000
 ·rw[decide_eq_true h,decide_eq_true (by omega)]
 rw[decide_eq_false h,decide_eq_false (by omega)]
theorem aQZ (N:Nat)(hN:70000≤N)(l:List (List Int))(n k:Nat)(hn:n≤1000):aCa N l (n:Int) (k:Int)=some (decide (l.length≤n)&&l.all fun w=>decide (w.length≤k)):=by
 unfold aCa
 rw[nle]
 by_cases h:l.length≤n
 ·rw[decide_eq_true h]
  simp only[aXw,aXk,if_false,aXq]
  have:=jU (f:=nJ N l (k:Int)) (xs:=l) (p:=fun w=>decide (w.length≤k)) (r:=false) (fun m j hj=>by
    rw[nJ,dT hj,if_pos rfl,bZ l hj]
    simp only[aXj,nle,i1 (show j≤100000 by omega)]
    cases decide (l[j].length≤k)<;>rfl) (fun m j hj=>by rw[nJ,dF (by omega)];rfl) N 0 (by omega) (by omega)
  rw[show((0:Nat):Int)=0 from rfl,aXs]at this
  rw[this]
  cases l.all fun w=>decide (w.length≤k)<;>rfl
 rw[decide_eq_false h];rfl
def aIN (x:aG):Bool:=decide (x.Witness.length≤40)&&x.Witness.all fun w=>decide (w.length≤600)
def aI5 (ins:List aG)(outs:List aF):Bool:=decide (ins.length≤70)&&decide (outs.length≤70)&&ins.all aIN&&outs.all fun o=>decide (o.Script.length≤600)
theorem aQg (N:Nat)(hN:70000≤N)(v:Int)(ins:List aG)(outs:List aF)(lock:Int):aFu N v ins outs lock=some (aI5 ins outs):=by
 unfold aFu aI5
 rw[show(70:Int)=((70:Nat):Int)from rfl,nle,nle]
 by_cases h:ins.length≤70
 ·rw[decide_eq_true h]
  simp only[aXw,aXk,if_false,aXq,aCd]
  by_cases h2:outs.length≤70
  ·rw[decide_eq_true h2]
   simp only[aXw,aXk,if_false,aXq]
   have l5:=jU (f:=sS N v ins outs lock) (xs:=ins) (p:=aIN) (r:=false) (fun m j hj=>by
     rw[sS,dT hj,if_pos rfl,bZ ins hj]
     simp only[aXj,show(40:Int)=((40:Nat):Int)from rfl,show(600:Int)=((600:Nat):Int)from rfl,aQZ N hN _ 40 600 (by omega),i1 (show j≤100000 by omega)]
     rw[show aIN ins[j]=(decide (ins[j].Witness.length≤40)&&ins[j].Witness.all fun w=>decide (w.length≤600))from rfl]
     cases (decide (ins[j].Witness.length≤40)&&ins[j].Witness.all fun w=>decide (w.length≤600))<;>rfl) (fun m j hj=>by rw[sS,dF (by omega)];rfl) N 0 (by omega) (by omega)
   have l4:=jU (f:=sC N outs) (xs:=outs) (p:=fun o=>decide (o.Script.length≤600)) (r:=false) (fun m j hj=>by
     rw[sC,dT hj,if_pos rfl,bZ outs hj]
     simp only[aXj,show(600:Int)=((600:Nat):Int)from rfl,nle,i1 (show j≤100000 by omega)]
     cases decide (outs[j].Script.length≤600)<;>rfl) (fun m j hj=>by rw[sC,dF (by omega)];rfl) N 0 (by omega) (by omega)
   rw[show((0:Nat):Int)=0 from rfl,aXs]at l5 l4
   rw[l5]
   cases ins.all aIN
   ·rfl
   simp only[aXj,if_true,aDN,l4,aXq]
   cases outs.all fun o=>decide (o.Script.length≤600)<;>rfl
  rw[decide_eq_false h2];rfl
 rw[decide_eq_false h];rfl
theorem aTH {ins:List aG}{outs:List aF}(h:aI5 ins outs=true)(ht: ∀x∈ins,x.Prev.Tx.length=32):aAd ins outs:=by
 simp only[aI5,aXE,decide_eq_true_eq,aYn]at h
 obtain⟨⟨⟨h1,h2⟩,h3⟩,h4⟩:=h
 refine⟨h1,h2,fun x hx=> ?_,h4,ht⟩
 have:=h3 x hx
 simp only[aIN,aXE,decide_eq_true_eq,aYn]at this
 exact this
def aGI (o:aF):Bool:= !decide (o.Value<0)&&decide (o.Script.length≤520)
def aID (x:aG):Bool:=decide (x.Witness.length≤32)&&x.Witness.all fun w=>decide (w.length≤520)
def aBj (v:Int)(ins:List aG)(outs:List aF)(lock:Int):Bool:=
 decide (ins.length≤64)&&decide (outs.length≤64)&&outs.all aGI&&ins.all aID&&decide ((aRG v ins outs lock true).length≤20000)
theorem aOg (N:Nat)(hN:70000≤N){v:Int}{ins:List aG}{outs:List aF}{lock:Int}(K:aAd ins outs):aDW N v ins outs lock=some (aBj v ins outs lock):=by
 have k1:=K.ni
 have k2:=K.no
 unfold aDW aBj
 rw[show(64:Int)=((64:Nat):Int)from rfl,nle,nle]
 by_cases h:ins.length≤64
 ·rw[decide_eq_true h]
  simp only[aXw,aXk,if_false,aXq,aBi]
  by_cases h2:outs.length≤64
  ·rw[decide_eq_true h2]
   simp only[aXw,aXk,if_false,aXq]
   have l7:=jU (f:=oR N v ins outs lock) (xs:=outs) (p:=aGI) (r:=false) (fun m j hj=>by
     rw[oR,dT hj,if_pos rfl,bZ outs hj]
     simp only[aXj,show(520:Int)=((520:Nat):Int)from rfl,nle,i1 (show j≤100000 by omega),aCh]
     rw[show aGI outs[j]=(!decide (outs[j].Value<0)&&decide (outs[j].Script.length≤520))from rfl]
     cases decide (outs[j].Value<0)<;>cases decide (outs[j].Script.length≤520)<;>rfl) (fun m j hj=>by rw[oR,dF (by omega)];rfl) N 0 (by omega) (by omega)
   have l6: ∀(x:Int)(w:aG),w.Witness.length≤32→qH N v ins outs lock x w N 0=some (if(w.Witness.all fun w=>decide (w.length≤520))=true then .brk ()else .ret false):=fun x w hw=>by
    have:=jU (f:=qH N v ins outs lock x w) (xs:=w.Witness) (p:=fun w=>decide (w.length≤520)) (r:=false) (fun m j hj=>by
     rw[qH,dT hj,if_pos rfl,bZ w.Witness hj]
     simp only[aXj,show(520:Int)=((520:Nat):Int)from rfl,nle,i1 (show j≤100000 by omega)]
     cases decide (w.Witness[j].length≤520)<;>rfl) (fun m j hj=>by rw[qH,dF (by omega)];rfl) N 0 (by omega) (by omega)
    rw[show((0:Nat):Int)=0 from rfl,aXs]at this
    exact this
   have l4:=jU (f:=qD N v ins outs lock) (xs:=ins) (p:=aID) (r:=false) (fun m j hj=>by
     rw[qD,dT hj,if_pos rfl,bZ ins hj]
     simp only[aXj,show(32:Int)=((32:Nat):Int)from rfl,nle,i1 (show j≤100000 by omega)]
     rw[show aID ins[j]=(decide (ins[j].Witness.length≤32)&&ins[j].Witness.all fun w=>decide (w.length≤520))from rfl]
     by_cases hw:ins[j].Witness.length≤32
     ·rw[decide_eq_true hw]
      simp only[aXw,aXk,if_false,aXq,l6 _ _ hw,aXj,aDJ]
      cases ins[j].Witness.all fun w=>decide (w.length≤520)
      ·rfl
      simp only[if_true,i1 (show j≤100000 by omega)]
     rw[decide_eq_false hw];rfl) (fun m j hj=>by rw[qD,dF (by omega)];rfl) N 0 (by omega) (by omega)
   rw[show((0:Nat):Int)=0 from rfl,aXs]at l7 l4
   rw[l7]
   cases outs.all aGI
   ·rfl
   simp only[aXj,if_true,aDK,l4,aXq]
   cases ins.all aID
   ·rfl
   simp only[aXj,if_true,aDP,aKQ N hN K,aXq]
   rw[dle]
  rw[decide_eq_false h2];rfl
 rw[decide_eq_false h];rfl
theorem aC6 (N:Nat)(hN:70000≤N)(v:Int)(w:Nat)(hw:w≤100):kY N v (w:Int)=some (aAZ w v):=by
 have hmk:mks 1 (0:Int) (w:Int)=some (aXm w 0):=aFm (by have:=jO;omega)
 have hl0:(aXm w (0:Int)).length=w:=by simp
 have:=aIi (f:=kP N v (aXm w 0)) w v hw (fun m j acc hj hl=>by
   obtain⟨y,h1,h2⟩:=aU7 v j (by omega)
   rw[kP,hl0,dT hj,if_pos rfl,h1,bZ acc (by omega:j<acc.length)]
   simp only[aXj,aXp,h2,i1 (show j≤100000 by omega)])
  (fun m acc hl=>by rw[kP,hl0,dF (Nat.lt_irrefl w)];rfl) N 0 (by omega) (by omega)
 simp only[kY,hmk,aXj,w9]
 simp only[aX9,aYk,aXo,aXO]at this
 rw[show((0:Nat):Int)=0 from rfl]at this
 rw[this];rfl
theorem qM (N:Nat)(b v:List Int)(h:b.length+v.length≤50000000):eF N b v=some (b++v):=by
 have hmk:mks 1 (0:Int) (aXl.wrap ((b.length:Int)+(v.length:Int)))=some (aXm (b.length+v.length) 0):=by
  rw[cN (by omega) (by omega),show(b.length:Int)+(v.length:Int)=((b.length+v.length:Nat):Int) by omega]
  exact aFm (by have:=jO;omega)
 simp only[eF,hmk,aXj,aYz]
 rw[iZ (by simp;omega)]
 simp only[aXj,aXo]
 rw[iZ (by omega)];rfl
section
variable (N:Nat)(hN:70000≤N)
include hN
theorem aG2 (b:List Int)(v:Int)(h:b.length≤40000000):fI N b v=some (b++qC v):=by
 simp only[fI,show(4:Int)=((4:Nat):Int)from rfl,aC6 N hN _ 4 (by omega),aXj]
 rw[qM N _ _ (by rw[mW];omega)];rfl
theorem aWF (b:List Int)(v:Int)(h:b.length≤40000000):sX N b v=some (b++aOZ v):=by
 simp only[sX,show(8:Int)=((8:Nat):Int)from rfl,aC6 N hN _ 8 (by omega),aXj]
 rw[qM N _ _ (by rw[mW];omega)];rfl
theorem aLV (b:List Int)(n:Nat)(hn:n≤1000000)(h:b.length≤30000000):jR N b (aXB.wrap (n:Int))=some (b++szB n):=by
 rw[wu .u64 n rfl (by simp[aYl];omega)]
 unfold jR szB
 by_cases h1:n<253
 ·have e1:decide ((n:Int)<253)=true:=decide_eq_true (by omega)
  rw[e1,if_pos rfl,if_pos h1]
  simp only[show(1:Int)=((1:Nat):Int)from rfl,aC6 N hN _ 1 (by omega),aXj]
  rw[qM N _ _ (by rw[mW];omega)];rfl
 have e1:decide ((n:Int)<253)=false:=decide_eq_false (by omega)
 rw[e1,if_neg h1]
 by_cases h2:n<65536
 ·have e2:decide ((n:Int)<65536)=true:=decide_eq_true (by omega)
  simp only[e2,aXk,if_false,if_true,if_pos h2,show(2:Int)=((2:Nat):Int)from rfl,aC6 N hN _ 2 (by omega),aXj]
  rw[qM N _ _ (by simp[mW])]
  simp only[aXj]
  rw[qM N _ _ (by simp[mW];omega)];rfl
 have e2:decide ((n:Int)<65536)=false:=decide_eq_false (by omega)
 have e3:decide ((n:Int)<4294967296)=true:=decide_eq_true (by omega)
 simp only[e2,e3,aXk,if_false,if_true,if_neg h2,show(4:Int)=((4:Nat):Int)from rfl,aC6 N hN _ 4 (by omega),aXj]
 rw[qM N _ _ (by simp[mW])]
 simp only[aXj]
 rw[qM N _ _ (by simp[mW];omega)];rfl
theorem aQv (b s:List Int)(hs:s.length≤1000000)(h:b.length≤30000000):nD N b s=some (b++(szB s.length++s)):=by
 have:=qX s.length
 simp only[nD,aLV N hN b _ hs (by omega),aXj]
 rw[qM N _ _ (by rw[aXn];omega),aXj,aXt]
theorem aPG (t:List Int)(i:Int)(ht:t.length=32):wD N t i=some (t++qC i):=by
 simp only[wD,iK,a9,if_pos ht,aXj]
 rw[qM N _ _ (by simp;omega)]
 simp only[aXj,aXo]
 rw[aG2 N hN _ _ (by omega)];rfl
theorem aQR (o:aF)(h:o.Script.length≤600):xQ N o.Value o.Script=some (oY o):=by
 simp only[xQ,aWF N hN _ _ (show([]:List Int).length≤40000000 by simp),aXj,aXo]
 rw[aQv N hN _ _ (by omega) (by rw[aEr];omega)];rfl
end
section
variable (N:Nat)(hN:70000≤N){v:Int}{ins:List aG}{outs:List aF}{lock:Int}(K:aAd ins outs)
include hN K
theorem rL8 (b:Bool)(acc:List Int)(h:acc.length≤100000):hZ N v ins outs lock b N 0 acc=some (acc++ins.flatMap inB):=by
 have hn:=K.ni
 have hl:=aHy K
 refine nI (f:=hZ N v ins outs lock b) (xs:=ins) (g:=inB) (B:=200000) (by omega) (fun m j acc hj hB=> ?_) (fun m j acc hj=> ?_) N 0 acc (by omega) (by omega) (by rw[aXs];omega)
 ·have ht:=K.tx _ (aXv hj)
  rw[aJP ht]at hB
  rw[hZ,dT hj,if_pos rfl,bZ ins hj]
  simp only[aXj,aPG N hN _ _ ht]
  rw[iZ (by simp[cZ];omega)]
  simp only[aXj]
  rw[aG2 N hN (acc++(ins[j].Prev.Tx++qC ins[j].Prev.Index)) _ (by simp[cZ];omega)]
  simp only[aXj,xA,i1 (show j≤100000 by omega),inB,aXt]
 rw[hZ,dF (by omega)];rfl
theorem rL7 (b:Bool)(acc:List Int)(h:acc.length≤100000):i6 N v ins outs lock b N 0 acc=some (acc++outs.flatMap oY):=by
 have hn:=K.no
 have hl:=aA6 K
 refine nI (f:=i6 N v ins outs lock b) (xs:=outs) (g:=oY) (B:=200000) (by omega) (fun m j acc hj hB=> ?_) (fun m j acc hj=> ?_) N 0 acc (by omega) (by omega) (by rw[aXs];omega)
 ·have ht:=K.scr _ (aXv hj)
  rw[i6,dT hj,if_pos rfl,bZ outs hj]
  simp only[aXj,aQR N hN _ ht]
  rw[iZ (by omega)]
  simp only[aXj,i1 (show j≤100000 by omega)]
 rw[i6,dF (by omega)];rfl
theorem rL6 (b:Bool)(x:Int)(w:aG)(hw:w.Witness.length≤40∧ ∀z∈w.Witness,z.length≤600)(acc:List Int)(h:acc.length≤5000000):jA N ins b x w N 0 acc=some (acc++w.Witness.flatMap itB):=by
 have hl:=zY (g:=itB) (c:=605) w.Witness (fun z hz=>aMk (hw.2 z hz))
 have:=aXD 605 hw.1
 refine nI (f:=jA N ins b x w) (xs:=w.Witness) (g:=itB) (B:=6000000) (by omega) (fun m j acc hj hB=> ?_) (fun m j acc hj=> ?_) N 0 acc (by omega) (by omega) (by rw[aXs];omega)
 ·have ht:=hw.2 _ (aXv hj)
  rw[jA,dT hj,if_pos rfl,bZ w.Witness hj]
  simp only[aXj]
  rw[aQv N hN acc _ (show w.Witness[j].length≤1000000 by omega) (by omega)]
  simp only[aXj,i1 (show j≤100000 by omega),itB]
 rw[jA,dF (by omega)];rfl
theorem rL4 (acc:List Int)(h:acc.length≤1000000):hH N ins true N 0 acc=some (acc++ins.flatMap wiB):=by
 have hn:=K.ni
 have hl:=aOq K
 refine nI (f:=hH N ins true) (xs:=ins) (g:=wiB) (B:=4000000) (by omega) (fun m j acc hj hB=> ?_) (fun m j acc hj=> ?_) N 0 acc (by omega) (by omega) (by rw[aXs];omega)
 ·have ht:=K.wit _ (aXv hj)
  have hs:=qX ins[j].Witness.length
  rw[hH,dT hj,if_pos rfl,bZ ins hj]
  simp only[aXj,aXw,aXk,if_false]
  rw[aLV N hN acc _ (show ins[j].Witness.length≤1000000 by omega) (by omega)]
  simp only[aXj]
  rw[rL6 N hN K _ _ _ ht _ (by rw[aXn];omega)]
  simp only[aXj,wW,i1 (show j≤100000 by omega),wiB,aXt]
 rw[hH,dF (by omega)];rfl
theorem aO9 :zI N v ins outs lock true=some (aRG v ins outs lock true):=by
 have hn:=K.ni
 have ho:=K.no
 have h1:=qX ins.length
 have h2:=qX outs.length
 have h3:=aHy K
 have h4:=aA6 K
 simp only[zI,aG2 N hN [] _ (by simp),aXj,aXo]
 rw[aLV N hN (qC v) _ (show ins.length≤1000000 by omega) (by rw[cZ];omega)]
 simp only[aXj]
 rw[rL8 N hN K _ _ (by rw[aXn,cZ];omega)]
 simp only[aXj,wU]
 rw[aLV N hN _ _ (show outs.length≤1000000 by omega) (by simp only[aXn,cZ];omega)]
 simp only[aXj]
 rw[rL7 N hN K _ _ (by simp only[aXn,cZ];omega)]
 simp only[aXj,xH]
 rw[aG2 N hN _ _ (by simp only[aXn,cZ];omega)]
 simp only[aXj]
 rw[rL4 N hN K _ (by simp only[aXn,cZ];omega)]
 rfl
end
theorem aNg (N:Nat)(hN:70000≤N){v:Int}{ins:List aG}{outs:List aF}{lock:Int}(K:aAd ins outs):aAc N v ins outs lock=some (aBj v ins outs lock):=by
 have k1:=K.ni
 have k2:=K.no
 unfold aAc aBj
 rw[show(64:Int)=((64:Nat):Int)from rfl,nle,nle]
 by_cases h:ins.length≤64
 ·rw[decide_eq_true h]
  simp only[aXw,aXk,if_false,aXq,vZ]
  by_cases h2:outs.length≤64
  ·rw[decide_eq_true h2]
   simp only[aXw,aXk,if_false,aXq]
   have l7:=jU (f:=j6 N v ins outs lock) (xs:=outs) (p:=aGI) (r:=false) (fun m j hj=>by
     rw[j6,dT hj,if_pos rfl,bZ outs hj]
     simp only[aXj,show(520:Int)=((520:Nat):Int)from rfl,nle,i1 (show j≤100000 by omega),vY]
     rw[show aGI outs[j]=(!decide (outs[j].Value<0)&&decide (outs[j].Script.length≤520))from rfl]
     cases decide (outs[j].Value<0)<;>cases decide (outs[j].Script.length≤520)<;>rfl) (fun m j hj=>by rw[j6,dF (by omega)];rfl) N 0 (by omega) (by omega)
   have l6: ∀(x:Int)(w:aG),w.Witness.length≤32→k7 N v ins outs lock x w N 0=some (if(w.Witness.all fun w=>decide (w.length≤520))=true then .brk ()else .ret false):=fun x w hw=>by
    have:=jU (f:=k7 N v ins outs lock x w) (xs:=w.Witness) (p:=fun w=>decide (w.length≤520)) (r:=false) (fun m j hj=>by
     rw[k7,dT hj,if_pos rfl,bZ w.Witness hj]
     simp only[aXj,show(520:Int)=((520:Nat):Int)from rfl,nle,i1 (show j≤100000 by omega)]
     cases decide (w.Witness[j].length≤520)<;>rfl) (fun m j hj=>by rw[k7,dF (by omega)];rfl) N 0 (by omega) (by omega)
    rw[show((0:Nat):Int)=0 from rfl,aXs]at this
    exact this
   have l4:=jU (f:=k9 N v ins outs lock) (xs:=ins) (p:=aID) (r:=false) (fun m j hj=>by
     rw[k9,dT hj,if_pos rfl,bZ ins hj]
     simp only[aXj,show(32:Int)=((32:Nat):Int)from rfl,nle,i1 (show j≤100000 by omega)]
     rw[show aID ins[j]=(decide (ins[j].Witness.length≤32)&&ins[j].Witness.all fun w=>decide (w.length≤520))from rfl]
     by_cases hw:ins[j].Witness.length≤32
     ·rw[decide_eq_true hw]
      simp only[aXw,aXk,if_false,aXq,l6 _ _ hw,aXj,aAU]
      cases ins[j].Witness.all fun w=>decide (w.length≤520)
      ·rfl
      simp only[if_true,i1 (show j≤100000 by omega)]
     rw[decide_eq_false hw];rfl) (fun m j hj=>by rw[k9,dF (by omega)];rfl) N 0 (by omega) (by omega)
   rw[show((0:Nat):Int)=0 from rfl,aXs]at l7 l4
   rw[l7]
   cases outs.all aGI
   ·rfl
   simp only[aXj,if_true,aAT,l4,aXq]
   cases ins.all aID
   ·rfl
   simp only[aXj,if_true,aAP,aO9 N hN K,aXq]
   rw[dle]
  rw[decide_eq_false h2];rfl
 rw[decide_eq_false h];rfl
def aLQ (n:Nat)(l:List bA):Bool:=decide (l.length≤n)&&l.all fun c=>decide (c.Output.Script.length≤600)
def wI (l:List aF):Int:=(l.map (·.Value)).sum
theorem aFd : ∀{l:List aF},(∀o∈l,0≤o.Value)→0≤wI l
 | [],_=>by simp[wI]
 |o::l,h=>by
  have h1:=h o (by simp)
  have h2:=aFd (l:=l) (fun x hx=>h x (by simp[hx]))
  simp only[wI,aYB,List.sum_cons]at h2 ⊢; omega
theorem aHa (o:aF)(l:List aF):wI (o::l)=o.Value+wI l:=by simp[wI]
theorem aIP (N:Nat)(outs:List aF)(hn:outs.length≤64)(h0: ∀o∈outs,0≤o.Value): ∀(m j:Nat)(s:Int),outs.length-j<m→j≤outs.length→0≤s→s≤2100000000000000→
  tU N outs m s (j:Int)=some (if s+wI (outs.drop j)≤2100000000000000 then .brk ()else .ret false)
 |0,j,s,hm,_,_,_=>by omega
 |m+1,j,s,hm,hj,hs,hs2=>by
  rw[tU]
  by_cases h:j<outs.length
  ·have hv:=h0 _ (aXv h)
   have hnn:=aFd (l:=outs.drop (j+1)) (fun x hx=>h0 x (aYL hx))
   rw[dT h,if_pos rfl,bZ outs h,aXj,aXx h,aHa,cN (a:=2100000000000000-s) (by omega) (by omega)]
   by_cases hc:2100000000000000-s<outs[j].Value
   ·rw[decide_eq_true hc,if_pos rfl,if_neg (by omega)]
   rw[decide_eq_false hc,cN (a:=s+outs[j].Value) (by omega) (by omega)]
   simp only[aXk,if_false,i1 (show j≤100000 by omega)]
   rw[aIP N outs hn h0 m (j+1) _ (by omega) (by omega) (by omega) (by omega),Int.add_assoc]
  rw[dF h,aXA (by omega)]
  simp[wI,hs2]
theorem aRp (N:Nat)(hN:70000≤N)(outs:List aF)(hn:outs.length≤64)(h0: ∀o∈outs,0≤o.Value):aEq N outs=some (decide (wI outs≤2100000000000000)):=by
 have:=aIP N outs hn h0 N 0 0 (by omega) (by omega) (by omega) (by omega)
 rw[show((0:Nat):Int)=0 from rfl,aXs,Int.zero_add]at this
 unfold aEq
 rw[this]
 by_cases h:wI outs≤2100000000000000
 ·rw[if_pos h,decide_eq_true h];rfl
 rw[if_neg h,decide_eq_false h];rfl
theorem aMz : ∀{l:List aF},(∀o∈l,0≤o.Value)→(l.all fun o=>decide (o.Value≤2100000000000000))=false→ ¬wI l≤2100000000000000
 | [],_,h=>by simp at h
 |o::l,h0,h=>by
  have h1:=h0 o (by simp)
  have h2:=aFd (l:=l) (fun x hx=>h0 x (by simp[hx]))
  rw[aHa]
  rw[aXR]at h
  by_cases hc:o.Value≤2100000000000000
  ·rw[decide_eq_true hc,aXq]at h
   have:=aMz (fun x hx=>h0 x (by simp[hx])) h
   omega
  omega
def qd (ins:List aG)(j k:Nat):Bool:=match ins[j]?,ins[k]? with
 |some a,some b=>vA a.Prev b.Prev
 |_,_=>false
def nd (ins:List aG)(j:Nat):Bool:=(aXH 0 j).all fun k=> !qd ins j k
theorem aHo {α β:Type}{eq:α→α→Bool}{g:β→α}{k:α}: ∀(xs:List β),aEt eq (xs.map fun x=>(g x,true)) k false=xs.any fun x=>eq k (g x)
 | []=>rfl
 |x::xs=>by
  have ih:=aHo (eq:=eq) (g:=g) (k:=k) xs
  simp only[aEt,aB3,aYB,List.findIdx?_cons,List.any_cons]at ih⊢
  cases h:eq k (g x) with
  |true=>simp
  |false=>
   simp only[aXk,if_false,aYS]
   rw[←ih]
   cases List.findIdx? (fun e=>eq k e.fst) (xs.map fun x=>(g x,true))<;>simp
theorem aRX {α β:Type}{eq:α→α→Bool}{g:β→α}{k:α}(xs:List β)(h:(xs.any fun x=>eq k (g x))=false):aGA eq (xs.map fun x=>(g x,true)) k true=(xs.map fun x=>(g x,true))++[(k,true)]:=by
 have:aB3 eq (xs.map fun x=>(g x,true)) k=none:=by
  simp only[aB3,List.findIdx?_eq_none_iff,aX6]
  rintro e ⟨x,hx,rfl⟩
  have:=List.any_eq_false.1 h x hx
  simpa using this
 simp only[aGA,this]
theorem aMA (ins:List aG)(j:Nat)(hj:j<ins.length):((ins.take j).any fun x=>vA ins[j].Prev x.Prev)= !nd ins j:=by
 unfold nd
 have: ∀c,c≤j→((ins.take c).any fun x=>vA ins[j].Prev x.Prev)= !((aXH 0 c).all fun k=> !qd ins j k):=by
  intro c
  induction c with
  |zero=>intro _;rfl
  |succ c ih=>
   intro hc
   rw[aYd (by omega),List.any_append,ih (by omega),List.range'_concat,List.all_append]
   have:qd ins j (0+1*c)=vA ins[j].Prev ins[c].Prev:=by
    simp only[qd,aYw,Nat.one_mul,aXz hj,aXz (show c<ins.length by omega)]
   simp only[List.any_cons,List.any_nil,Bool.or_false,aXR,List.all_nil,Bool.and_true,this]
   cases (aXH 0 c).all fun k=> !qd ins j k<;>cases vA ins[j].Prev ins[c].Prev<;>rfl
 exact this j (aXM _)
theorem aMO (N:Nat)(v:Int)(ins:List aG)(outs:List aF)(lock:Int)(hn:ins.length≤100): ∀(m j:Nat),ins.length-j<m→j≤ins.length→
  tO N v ins outs lock m (j:Int) ((ins.take j).map fun x=>(x.Prev,true))=some (if(aXH j (ins.length-j)).all (nd ins)=true then .brk (ins.map fun x=>(x.Prev,true))else .ret 91)
 |0,j,hm,_=>by omega
 |m+1,j,hm,hj=>by
  rw[tO]
  by_cases h:j<ins.length
  ·rw[dT h,if_pos rfl,bZ ins h,aXj,aHo (g:=fun x:aG=>x.Prev),aMA ins j h,show ins.length-j=(ins.length-(j+1))+1 by omega,aXQ,aXR]
   cases hd:nd ins j with
   |false=>rfl
   |true=>
    simp only[aXw,aXk,if_false,aXq,i1 (show j≤100000 by omega)]
    rw[aRX (g:=fun x:aG=>x.Prev) _ (by rw[aMA ins j h,hd];rfl)]
    have e:((ins.take j).map fun x=>(x.Prev,true))++[(ins[j].Prev,true)]=(ins.take (j+1)).map fun x=>(x.Prev,true):=by
     rw[aYd h,aYG];rfl
    rw[e]
    exact aMO N v ins outs lock hn m (j+1) (by omega) (by omega)
  have:j=ins.length:=by omega
  subst this
  rw[dF h,aYH,aXy (aXM _)];rfl
def aAX (o:aV):Bool:=lS o.Tx (aXm 32 0) ((o.Index == 4294967295)&&true)
theorem aNc {o:aV}(h:o.Tx.length=32):vA (aV.mk (aXm 32 0) 4294967295) o=aAX o:=by
 unfold vA aAX
 simp only
 rw[aLk (by simp) h,aLk h (by simp)]
 congr 1
 ·rw[aYr];simp only[beq_iff_eq];exact eq_comm
 congr 1
 rw[aYr];simp only[beq_iff_eq];exact eq_comm
def cbB (ins:List aG):Bool:=match ins with
 | [x]=>aAX x.Prev
 |_=>false
theorem aHX (N:Nat)(v:Int)(ins:List aG)(outs:List aF)(lock:Int):wA N v ins outs lock=some (cbB ins):=by
 unfold wA cbB
 match ins with
 | []=>rfl
 | [x]=>rfl
 |x::y::l=>
  have e:(((x::y::l).length:Int) == 1)=false:=by
   simp only[aXL,beq_eq_false_iff_ne];omega
  rw[e]
  rfl
def chk (v:Int)(ins:List aG)(outs:List aF)(lock:Int):Int:=
 if aBj v ins outs lock=false then 4 else if(ins.length == 0 || outs.length == 0)=true then 93 else if¬wI outs≤2100000000000000 then 90 else if(aXH 0 ins.length).all (nd ins)=false then 91
 else if((ins.any fun x=>aAX x.Prev)&& !cbB ins)=true then 92 else 0
theorem aUR {α:Type}(l:List α):((l.length:Int) == 0)=(l.length == 0):=by
 rw[aYr];simp
theorem aJg {v:Int}{ins:List aG}{outs:List aF}{lock:Int}(h:aBj v ins outs lock=true):ins.length≤64∧outs.length≤64∧ ∀o∈outs,0≤o.Value:=by
 simp only[aBj,aXE,decide_eq_true_eq,aYn]at h
 refine⟨h.1.1.1.1,h.1.1.1.2,fun o ho=> ?_⟩
 have:=h.1.1.2 o ho
 simp only[aGI,aXE,aYh,decide_eq_false_iff_not]at this
 omega
theorem aRb (N:Nat)(hN:70000≤N){v:Int}{ins:List aG}{outs:List aF}{lock:Int}(K:aAd ins outs):aEa N v ins outs lock=some (chk v ins outs lock):=by
 unfold aEa chk
 rw[aOg N hN K]
 cases hf:aBj v ins outs lock with
 |false=>rfl
 |true=>
  obtain⟨n1,n2,h0⟩:=aJg hf
  simp only[aXj,aXw,aXk,if_false,aUR,aAm,aYT]
  cases hi:ins.length == 0 with
  |true=>rfl
  |false=>
   cases ho:outs.length == 0 with
   |true=>rfl
   |false=>
    simp only[aXk,if_false,Bool.or_self,aRp N hN outs n2 h0,aXj]
    by_cases hm:wI outs≤2100000000000000
    ·simp only[hm,decide_true,aXw,aXk,if_false,not_true_eq_false]
     have:=aMO N v ins outs lock (by omega) N 0 (by omega) (by omega)
     simp only[aYz,aYk,aXO]at this
     rw[show((0:Nat):Int)=0 from rfl]at this
     rw[this]
     cases hd:(aXH 0 ins.length).all (nd ins) with
     |false=>rfl
     |true=>
      simp only[if_true,aXj,aCR,aHo (g:=fun x:aG=>x.Prev),aHX N v ins outs lock,aYT,if_false]
      have e:(ins.any fun x=>vA (aV.mk (aXm 32 0) 4294967295) x.Prev)=ins.any fun x=>aAX x.Prev:=by
       rw[aYr]
       simp only[List.any_eq_true]
       constructor
       ·rintro⟨x,hx,h⟩;exact⟨x,hx,by rw[←aNc (K.tx x hx)];exact h⟩
       rintro⟨x,hx,h⟩;exact⟨x,hx,by rw[aNc (K.tx x hx)];exact h⟩
      rw[e]
      cases (ins.any fun x=>aAX x.Prev)<;>cases cbB ins<;>rfl
    simp only[hm,decide_false,aXW,if_true,not_false_eq_true]
def tS (l:List bA):Int:=(l.map (·.Output.Value)).sum
theorem aEU (c:bA)(l:List bA):tS (c::l)=c.Output.Value+tS l:=by simp[tS]
def nnC (c:bA):Bool:= !decide (c.Output.Value<0)
def mdC (c:bA):Bool:= !decide (c.Output.Value<0)&& !decide (2100000000000000<c.Output.Value)
theorem aE9 : ∀{l:List bA},l.all nnC=true→0≤tS l
 | [],_=>by simp[tS]
 |c::l,h=>by
  rw[aXR,aXE]at h
  have h2:=aE9 h.2
  have h1:=h.1
  simp only[nnC,aYh,decide_eq_false_iff_not]at h1
  rw[aEU];omega
theorem aPP (N:Nat)(l:List bA)(hn:l.length≤70)(m:Nat): ∀(j:Nat)(s:Int),l.length-j<m→j≤l.length→0≤s→s≤2100000000000000→
  mZ N l m s (j:Int)=some (if(l.drop j).all nnC=true∧s+tS (l.drop j)≤2100000000000000 then .brk (s+tS (l.drop j))else .ret (0,false)):=by
 induction m with
 |zero=>intro j s hm _ _ _;omega
 |succ m ih=>
  intro j s hm hj hs hs2
  rw[mZ]
  by_cases h:j<l.length
  ·rw[dT h,if_pos rfl,bZ l h,aXj,aXx h,aEU,aXR]
   simp only[xY]
   by_cases hv:l[j].Output.Value<0
   ·have e:nnC l[j]=false:=by simp[nnC,hv]
    simp only[e,decide_eq_true hv,if_true,Bool.false_and,aXk,false_and,if_false]
   have e:nnC l[j]=true:=by simp[nnC,hv]
   rw[decide_eq_false hv,e,cN (a:=2100000000000000-s) (by omega) (by omega)]
   simp only[aXk,if_false,aXq]
   by_cases hc:2100000000000000-s<l[j].Output.Value
   ·rw[decide_eq_true hc,if_pos rfl]
    rw[if_neg (fun hh=>by have:=aE9 hh.1;omega)]
   rw[decide_eq_false hc,cN (a:=s+l[j].Output.Value) (by omega) (by omega)]
   simp only[aXk,if_false,i1 (show j≤100000 by omega)]
   rw[ih (j+1) _ (by omega) (by omega) (by omega) (by omega),Int.add_assoc]
  rw[dF h,aXA (by omega)]
  simp[tS,hs2]
theorem aSn : ∀{l:List bA},l.all mdC=true→l.all nnC=true
 | [],_=>rfl
 |c::l,h=>by
  rw[aXR,aXE]at h⊢
  refine⟨?_,aSn h.2⟩
  have:=h.1
  simp only[mdC,aXE]at this
  exact this.1
theorem aSr : ∀{l:List bA},l.all nnC=true→tS l≤2100000000000000→l.all mdC=true
 | [],_,_=>rfl
 |c::l,h,hs=>by
  rw[aXR,aXE]at h⊢
  have h1:=aE9 h.2
  have h2:=h.1
  rw[aEU]at hs
  simp only[nnC,aYh,decide_eq_false_iff_not]at h2
  refine⟨?_,aSr h.2 (by omega)⟩
  simp only[mdC,aXE,aYh,decide_eq_false_iff_not]
  omega
def mtc (l:List bA)(ins:List aG)(k:Nat):Bool:=match l[k]?,ins[k]? with
 |some c,some x=>lS c.Out.Tx x.Prev.Tx ((c.Out.Index == x.Prev.Index)&&true)
 |_,_=>false
theorem aQt {l:List bA}{ins:List aG}{k:Nat}(h:k<l.length)(h2:k<ins.length):mtc l ins k=lS l[k].Out.Tx ins[k].Prev.Tx ((l[k].Out.Index == ins[k].Prev.Index)&&true):=by
 simp only[mtc,aXz h,aXz h2]
def aL5 (v:Int)(ins:List aG)(outs:List aF)(lock:Int)(l:List bA):Int×Int:=
 if chk v ins outs lock≠0 then(0,chk v ins outs lock)else if l.length≠ins.length then(0,8)else if(aXH 0 l.length).all (mtc l ins)=false then(0,101)
 else if¬(l.all nnC=true∧tS l≤2100000000000000)then(0,90)
 else if outs.foldl (fun s o=>aXl.wrap (s-o.Value)) (tS l)<0 then(0,100)else(outs.foldl (fun s o=>aXl.wrap (s-o.Value)) (tS l),0)
theorem aSp {α β:Type}(l:List α)(k:List β):((l.length:Int) != (k.length:Int))=decide (l.length≠k.length):=by
 by_cases h:l.length=k.length
 ·rw[h];simp
 rw[decide_eq_true h];simp;omega
section
variable (N:Nat)(hN:70000≤N){v:Int}{ins:List aG}{outs:List aF}{lock:Int}(K:aAd ins outs){l:List bA}(hl:l.length≤70)
include hN K hl
theorem aVh :xL N v ins outs lock l=some (aL5 v ins outs lock l):=by
 have k1:=K.ni
 have k2:=K.no
 unfold xL aL5
 rw[aRb N hN K,Option.bind_some,aSp]
 by_cases hc:chk v ins outs lock=0
 ·simp only[hc,bne_self_eq_false,Bool.false_eq_true,if_false,ne_eq,not_true_eq_false]
  by_cases hn:l.length=ins.length
  ·simp only[hn,not_true_eq_false,decide_false,Bool.false_eq_true,if_false]
   have:=aC3 (f:=o8 N v ins outs lock l) (n:=l.length) (p:=mtc l ins) (r:=(0,101)) (fun m k hk=>by
     have hk':k<ins.length:=by omega
     rw[o8,dT hk,if_pos rfl,bZ l hk,bZ ins hk',aQt hk hk']
     simp only[Option.bind_some,i1 (show k≤100000 by omega)]
     cases lS l[k].Out.Tx ins[k].Prev.Tx ((l[k].Out.Index == ins[k].Prev.Index)&&true)<;>rfl) (fun m k hk=>by rw[o8,dF (by omega)];rfl) N 0 (by omega) (by omega)
   rw[show((0:Nat):Int)=0 from rfl,Nat.sub_zero]at this
   rw[this,hn]
   cases (List.range' 0 ins.length).all (mtc l ins) with
   |false=>rfl
   |true=>
    have hs:=aPP N l hl N 0 0 (by omega) (by omega) (by omega) (by omega)
    rw[show((0:Nat):Int)=0 from rfl,List.drop_zero,Int.zero_add]at hs
    simp only[if_true,Option.bind_some,aB0,aEJ,hs,Bool.true_eq_false,if_false]
    by_cases hz:l.all nnC=true∧tS l≤2100000000000000
    ·rw[if_pos hz,if_neg (fun h=>h hz)]
     have hf:=aGD (f:=pB N outs) (xs:=outs) (g:=fun s o=>IntKind.i64.wrap (s-o.Value)) (fun m s j hj=>by
       rw[pB,dT hj,if_pos rfl,bZ outs hj]
       simp only[Option.bind_some,i1 (show j≤100000 by omega)]) (fun m s j hj=>by rw[pB,dF (by omega)];rfl) N (tS l) 0 (by omega) (by omega)
     rw[show((0:Nat):Int)=0 from rfl,List.drop_zero]at hf
     simp only[aCg,Option.bind_some,Bool.not_true,Bool.false_eq_true,if_false,hf,aBq]
     by_cases hx:outs.foldl (fun s o=>IntKind.i64.wrap (s-o.Value)) (tS l)<0
     ·rw[decide_eq_true hx,if_pos rfl,if_pos hx]
     rw[decide_eq_false hx,if_neg hx];rfl
    rw[if_neg hz,if_pos hz];rfl
  simp only[hn,not_false_eq_true,decide_true,if_true]
 have:(chk v ins outs lock != 0)=true:=by simpa using hc
 simp only[this,hc,if_true,ne_eq,not_false_eq_true]
end
theorem dV {α:Type}{n:Nat}{l:List α}{i:Nat}(h:i<n)(hl:i<l.length):bX n l (i:Int)=some l[i]:=by
 unfold bX;rw[if_pos (by omega),bZ l hl]
theorem dG {α:Type}{n:Nat}{l:List α}(h:l.length=n):a9 n l=some l:=by unfold a9;rw[if_pos h]
theorem aAJ (N:Nat)(x n s:Int)(hs:bits .and .u64 (aXB.wrap (aXl.wrap (0-n))) 31=s)(h0:0≤s)(h1:s≤32): ∃y,dR N x n=some y:=by
 unfold dR kV
 rw[hs,aA5 (a:=32-s) (by omega) (by omega)]
 unfold shl shr
 rw[if_neg (by omega),if_neg (by omega)]
 exact⟨_,rfl⟩
def rv (N:Nat)(x n:Int):Int:=(dR N x n).getD 0
theorem aCP {N:Nat}{x n:Int}(h: ∃y,dR N x n=some y):dR N x n=some (rv N x n):=by obtain⟨y,h⟩:=h;simp[rv,h]
theorem rv2 (N:Nat)(x:Int):dR N x 2=some (rv N x 2):=aCP (aAJ N x 2 30 (by decide +kernel) (by omega) (by omega))
theorem rv6 (N:Nat)(x:Int):dR N x 6=some (rv N x 6):=aCP (aAJ N x 6 26 (by decide +kernel) (by omega) (by omega))
theorem rv7 (N:Nat)(x:Int):dR N x 7=some (rv N x 7):=aCP (aAJ N x 7 25 (by decide +kernel) (by omega) (by omega))
theorem aV4 (N:Nat)(x:Int):dR N x 11=some (rv N x 11):=aCP (aAJ N x 11 21 (by decide +kernel) (by omega) (by omega))
theorem aV5 (N:Nat)(x:Int):dR N x 13=some (rv N x 13):=aCP (aAJ N x 13 19 (by decide +kernel) (by omega) (by omega))
theorem aWX (N:Nat)(x:Int):dR N x 17=some (rv N x 17):=aCP (aAJ N x 17 15 (by decide +kernel) (by omega) (by omega))
theorem aWN (N:Nat)(x:Int):dR N x 18=some (rv N x 18):=aCP (aAJ N x 18 14 (by decide +kernel) (by omega) (by omega))
theorem aXe (N:Nat)(x:Int):dR N x 19=some (rv N x 19):=aCP (aAJ N x 19 13 (by decide +kernel) (by omega) (by omega))
theorem aW3 (N:Nat)(x:Int):dR N x 22=some (rv N x 22):=aCP (aAJ N x 22 10 (by decide +kernel) (by omega) (by omega))
theorem aWv (N:Nat)(x:Int):dR N x 25=some (rv N x 25):=aCP (aAJ N x 25 7 (by decide +kernel) (by omega) (by omega))
theorem aWy (x:Int):shr .u32 x 3=some (x.fdiv (2^(min (3:Int).toNat 32))):=by unfold shr;rw[if_neg (by omega)];rfl
theorem aVH (x:Int):shr .u32 x 10=some (x.fdiv (2^(min (10:Int).toNat 32))):=by unfold shr;rw[if_neg (by omega)];rfl
theorem sL3 (N:Nat): ∀(m j:Nat)(l:List Int),l.length=64→16≤j→j≤64→64-j<m→ ∃r,jC N m (j:Int) l=some r∧r.length=64
 |0,j,l,_,_,_,hm=>by omega
 |m+1,j,l,hl,h1,h2,hm=>by
  rw[jC]
  by_cases h:j<64
  ·rw[show decide ((j:Int)<64)=true from decide_eq_true (by omega),if_pos rfl]
   rw[cN (a:=(j:Int)-15) (by omega) (by omega),show(j:Int)-15=((j-15:Nat):Int) by omega,dV (show j-15<64 by omega) (by omega)]
   rw[cN (a:=(j:Int)-2) (by omega) (by omega),show(j:Int)-2=((j-2:Nat):Int) by omega,dV (show j-2<64 by omega) (by omega)]
   rw[cN (a:=(j:Int)-16) (by omega) (by omega),show(j:Int)-16=((j-16:Nat):Int) by omega,dV (show j-16<64 by omega) (by omega)]
   rw[cN (a:=(j:Int)-7) (by omega) (by omega),show(j:Int)-7=((j-7:Nat):Int) by omega,dV (show j-7<64 by omega) (by omega)]
   rw[dV h (by omega)]
   simp only[aXj,rv7,aWN,aWX,aXe,aWy,aVH,i1 (show j≤100000 by omega)]
   exact sL3 N m (j+1) _ (by rw[aXF];exact hl) (by omega) (by omega) (by omega)
  rw[show decide ((j:Int)<64)=false from decide_eq_false (by omega)]
  exact⟨l,rfl,hl⟩
theorem cL2 (N:Nat)(st w:List Int)(hw:w.length=64): ∀(m j:Nat)(a b c d e f g h:Int),j≤64→64-j<m→ ∃r,i8 N st w m a b c d e f g h (j:Int)=some r
 |0,j,_,_,_,_,_,_,_,_,_,hm=>by omega
 |m+1,j,a,b,c,d,e,f,g,h,hj,hm=>by
  rw[i8]
  by_cases h1:j<64
  ·rw[show decide ((j:Int)<64)=true from decide_eq_true (by omega),if_pos rfl,dV h1 (show j<aE1.length from h1),dV h1 (by omega)]
   simp only[aXj,rv2,rv6,aV4,aV5,aW3,aWv,i1 (show j≤100000 by omega)]
   exact cL2 N st w hw m (j+1) _ _ _ _ _ _ _ _ (by omega) (by omega)
  rw[show decide ((j:Int)<64)=false from decide_eq_false (by omega)]
  exact⟨_,rfl⟩
def wd (b:List Nat)(i:Nat):Nat:=((b.getD (4*i) 0*256+b.getD (4*i+1) 0)*256+b.getD (4*i+2) 0)*256+b.getD (4*i+3) 0
theorem aBe {b:List Nat}(h: ∀x∈b,x<256)(i:Nat):b.getD i 0<256:=by
 rw[aYv]
 rcases Nat.lt_or_ge i b.length with hi|hi
 ·rw[aXz hi];exact h _ (aXv hi)
 rw[List.getElem?_eq_none hi];simp
theorem aIO (a b k:Nat)(h:b<2^k):a*2^k ||| b=a*2^k+b:=by
 rw[aXC,←aXG h]
theorem orU (a b:Nat)(ha:a<4294967296)(hb:b<4294967296):bits .or .u32 (a:Int) (b:Int)=((a ||| b:Nat):Int):=aAG rfl a b ha hb
theorem aUu (a b:Nat):shl .u32 (a:Int) (b:Int)=some ((a*2^b%4294967296:Nat):Int):=aFj rfl a b
theorem aHd {b:List Nat}{i:Nat}(hl:b.length=64)(hi:i<64):bX 64 (iN b) (i:Int)=some ((b.getD i 0:Nat):Int):=by
 rw[dV hi (by rw[aIS];omega)]
 have h1:i<b.length:=by omega
 simp[iN,h1]
theorem aHD (n:Nat)(h:n<4294967296):aXJ.wrap (n:Int)=n:=aWu (by omega) (by omega)
def aFJ (b:List Nat)(j:Nat)(l:List Int):List Int:=(aXH j (16-j)).foldl (fun l i=>l.set i ((wd b i:Nat):Int)) l
theorem aQb (b:List Nat)(j:Nat)(l:List Int):(aFJ b j l).length=l.length:=by
 unfold aFJ
 generalize aXH j (16-j)=r
 induction r generalizing l with
 |nil=>rfl
 |cons x r ih=>rw[aX8,ih,aXF]
section
variable (N:Nat)(b:List Nat)(hl:b.length=64)(hb: ∀x∈b,x<256)
include hl hb
theorem sL6 (i:Nat)(hi:i<16)(m j:Nat)(hj:j<4)(l:List Int)(hll:l.length=64)(v:Nat)(hv:v<16777216)(hli:l[i]? =some (v:Int)):
  eO N (iN b) (i:Int) (m+1) (j:Int) l=eO N (iN b) (i:Int) m ((j+1:Nat):Int) (l.set i ((v*256+b.getD (4*i+j) 0:Nat):Int)):=by
 have hil:i<l.length:=by omega
 have hbl:=aBe hb (4*i+j)
 rw[eO,show decide ((j:Int)<4)=true from decide_eq_true (by omega),if_pos rfl,dV (show i<64 by omega) hil]
 rw[aXz hil]at hli
 rw[Option.some.inj hli,cN (a:=4*(i:Int)) (by omega) (by omega),cN (a:=4*(i:Int)+(j:Int)) (by omega) (by omega),show 4*(i:Int)+(j:Int)=((4*i+j:Nat):Int) by omega,aHd hl (by omega)]
 rw[show(8:Int)=((8:Nat):Int)from rfl]
 simp only[aXj,aUu,aXp,i1 (show j≤100000 by omega)]
 rw[aHD _ (by omega),orU _ _ (aXu _ (by omega)) (by omega),aXr (by omega),aIO _ _ 8 (by omega)]
theorem aST (i:Nat)(hi:i<16)(l:List Int)(hll:l.length=64)(hli:l[i]? =some 0)(hN:10≤N):eO N (iN b) (i:Int) N 0 l=some (l.set i ((wd b i:Nat):Int)):=by
 have g0:=aBe hb (4*i)
 have g1:=aBe hb (4*i+1)
 have g2:=aBe hb (4*i+2)
 have hil:i<l.length:=by omega
 obtain⟨m,hm⟩: ∃m,N=m+5:=⟨N-5,by omega⟩
 have hfu: ∀k,eO N (iN b) (i:Int) N k l=eO N (iN b) (i:Int) (m+1+1+1+1+1) k l:=fun k=>by
  have:N=m+1+1+1+1+1:=by omega
  exact congrArg (fun q=>eO N (iN b) (i:Int) q k l) this
 rw[hfu,show(0:Int)=((0:Nat):Int)from rfl,sL6 N b hl hb i hi _ 0 (by omega) l hll 0 (by omega) hli]
 rw[sL6 N b hl hb i hi _ 1 (by omega) _ (by rw[aXF];exact hll) (0*256+b.getD (4*i+0) 0) (by simp only[aYm];omega) (aYf hil),aYW]
 rw[sL6 N b hl hb i hi _ 2 (by omega) _ (by rw[aXF];exact hll) _ (by simp only[aYm];omega) (aYf hil),aYW]
 rw[sL6 N b hl hb i hi _ 3 (by omega) _ (by rw[aXF];exact hll) _ (by simp only[aYm];omega) (aYf hil),aYW]
 rw[eO]
 simp only[Nat.reduceAdd,show decide (((4:Nat):Int)<4)=false from rfl,aXk,if_false,wd,aYI,aYw,aYm]
omit hl hb in
theorem aKz {f:Nat→Int→List Int→Option (List Int)}(hs: ∀(m j:Nat) (l:List Int),j<16→l.length=64→l[j]? =some 0→f (m+1) (j:Int) l=f m ((j+1:Nat):Int) (l.set j ((wd b j:Nat):Int)))(he: ∀m l,f (m+1) 16 l=some l):
  ∀(m j:Nat)(l:List Int),16-j<m→j≤16→l.length=64→(∀i,j≤i→i<64→l[i]? =some 0)→f m (j:Int) l=some (aFJ b j l)
 |0,j,l,hm,_,_,_=>by omega
 |m+1,j,l,hm,hj,hll,hz=>by
  by_cases h:j<16
  ·rw[hs m j l h hll (hz j (aXM _) (by omega)),aKz hs he m (j+1) _ (by omega) (by omega) (by rw[aXF];exact hll) (fun i h1 h2=>by rw[List.getElem?_set_ne (by omega)];exact hz i (by omega) h2)]
   unfold aFJ
   rw[show 16-j=(16-(j+1))+1 by omega,aXQ,aX8]
  obtain rfl:j=16:=by omega
  exact he m l
theorem sL4 (hN:70000≤N):hY N (iN b) N 0 (aXm 64 0)=some (aFJ b 0 (aXm 64 0)):=by
 refine aKz b (f:=hY N (iN b)) (fun m j l hj hll hz=> ?_) (fun m l=>by rw[hY];rfl) N 0 _ (by omega) (by omega) (by simp) (fun i _ hi=>by rw[aYa,if_pos hi])
 rw[hY,show decide ((j:Int)<16)=true from decide_eq_true (by omega),if_pos rfl,aST N b hl hb j hj l hll hz (by omega)]
 simp only[aXj,wZ,i1 (show j≤100000 by omega)]
end
section
variable (N:Nat)(hN:70000≤N)(b:List Nat)(hl:b.length=64)(hb: ∀x∈b,x<256)
include hN hl hb
theorem aSy : ∃w,q5 N (iN b)=some w∧w.length=64:=by
 obtain⟨w,h1,h2⟩:=sL3 N N 16 (aFJ b 0 (aXm 64 0)) (by rw[aQb];simp) (by omega) (by omega) (by omega)
 rw[show((16:Nat):Int)=16 from rfl]at h1
 refine⟨w, ?_,h2⟩
 simp only[q5,sL4 N b hl hb hN,aXj,tB,h1,sE,dG h2]
theorem aRB (st:List Int)(hst:st.length=8): ∃r,mQ N st (iN b)=some r∧r.length=8:=by
 obtain⟨w,h1,h2⟩:=aSy N hN b hl hb
 have hbl:(iN b).length=64:=by rw[aIS];exact hl
 have a0:bX 8 st 0=some st[0]:=dV (i:=0) (by omega) (by omega)
 have a1:bX 8 st 1=some st[1]:=dV (i:=1) (by omega) (by omega)
 have a2:bX 8 st 2=some st[2]:=dV (i:=2) (by omega) (by omega)
 have a3:bX 8 st 3=some st[3]:=dV (i:=3) (by omega) (by omega)
 have a4:bX 8 st 4=some st[4]:=dV (i:=4) (by omega) (by omega)
 have a5:bX 8 st 5=some st[5]:=dV (i:=5) (by omega) (by omega)
 have a6:bX 8 st 6=some st[6]:=dV (i:=6) (by omega) (by omega)
 have a7:bX 8 st 7=some st[7]:=dV (i:=7) (by omega) (by omega)
 obtain⟨r,hr⟩:=cL2 N st w h2 N 0 st[0] st[1] st[2] st[3] st[4] st[5] st[6] st[7] (by omega) (by omega)
 rw[show((0:Nat):Int)=0 from rfl]at hr
 refine⟨[aXJ.wrap (st[0]+r.1),aXJ.wrap (st[1]+r.2.1),aXJ.wrap (st[2]+r.2.2.1),aXJ.wrap (st[3]+r.2.2.2.1),aXJ.wrap (st[4]+r.2.2.2.2.1),aXJ.wrap (st[5]+r.2.2.2.2.2.1),aXJ.wrap (st[6]+r.2.2.2.2.2.2.1),aXJ.wrap (st[7]+r.2.2.2.2.2.2.2)], ?_,rfl⟩
 simp only[mQ,dG hbl,h1,dG h2,a0,a1,a2,a3,a4,a5,a6,a7,aXj,hr,sD]
end
def beG (n i:Nat):Int:=aXI.wrap ((aXB.wrap (8*(n:Int))).fdiv (2^(56-8*i)))
def zer (n:Nat):Nat:=(64-(n+9)%64)%64
def y4 (n:Nat):List Int:=(128::aXm (zer n) 0)++(aXH 0 8).map (beG n)
theorem aMM (n:Nat):(y4 n).length=9+zer n:=by simp[y4];omega
theorem aHe (x:Int):0≤aXI.wrap x∧aXI.wrap x<256:=by rw[aY2];omega
theorem aMa (n:Nat):Byt (y4 n):=by
 intro x hx
 simp only[y4,aYJ,aYq,List.mem_replicate,aX6]at hx
 rcases hx with(rfl|⟨_,rfl⟩)|⟨i,_,rfl⟩
 ·omega
 ·omega
 exact aHe _
theorem aOL (a:Int)(s:Nat)(h:s≤64):shr .u64 a (s:Int)=some (a.fdiv (2^s)):=by
 unfold shr
 rw[if_neg (by omega),aXp,show min s aXB.bits=s from Nat.min_eq_left h]
theorem aLY (N n:Nat): ∀(k m:Nat)(acc:List Int),k≤8→k<m→acc.length+k≤1000→sH N (n:Int) m ((8-k:Nat):Int) acc=some (acc++(aXH (8-k) k).map (beG n))
 |0,m,acc,_,hm,_=>by
  obtain⟨m,rfl⟩: ∃q,m=q+1:=⟨m-1,by omega⟩
  rw[sH,show decide (((8-0:Nat):Int)<8)=false from rfl];simp
 |k+1,m,acc,hk,hm,ha=>by
  obtain⟨m,rfl⟩: ∃q,m=q+1:=⟨m-1,by omega⟩
  rw[sH,show decide (((8-(k+1):Nat):Int)<8)=true from decide_eq_true (by omega),if_pos rfl]
  rw[cN (a:=8*((8-(k+1):Nat):Int)) (by omega) (by omega),cN (a:=56-8*((8-(k+1):Nat):Int)) (by omega) (by omega),show 56-8*((8-(k+1):Nat):Int)=((56-8*(8-(k+1)):Nat):Int) by omega,aOL _ _ (by omega)]
  simp only[aXj]
  rw[iZ (by simp;omega)]
  simp only[aXj,i1 (show 8-(k+1)≤100000 by omega)]
  rw[show 8-(k+1)+1=8-k by omega,aLY N n k m _ (by omega) (by omega) (by simp;omega),aXQ,aYB,show 8-(k+1)+1=8-k by omega,aXt]
  rfl
theorem aWM (z:Nat):(aXm (1+z) (0:Int)).set 0 128=128::aXm z 0:=by rw[aYX,aX1];rfl
theorem aWG (N:Nat)(hN:70000≤N)(n:Nat)(hn:n≤1000000000):aFk N (n:Int)=some (y4 n):=by
 have hz:zer n<64:=aXu _ (by omega)
 have hlim:=jO
 unfold aFk
 rw[aA5 (a:=(n:Int)+9) (by omega) (by omega),show(n:Int)+9=((n+9:Nat):Int) by omega,show(64:Int)=((64:Nat):Int)from rfl,vD]
 have h1:(n+9)%64<64:=aXu _ (by omega)
 rw[aA5 (a:=((64:Nat):Int)-(((n+9)%64:Nat):Int)) (by omega) (by omega),show((64:Nat):Int)-(((n+9)%64:Nat):Int)=((64-(n+9)%64:Nat):Int) by omega,vD]
 rw[show((64-(n+9)%64)%64:Nat)=zer n from rfl,aA5 (a:=1+((zer n:Nat):Int)) (by omega) (by omega),aA5 (a:=9+((zer n:Nat):Int)) (by omega) (by omega)]
 have hm:mkl 1 (0:Int) (1+((zer n:Nat):Int)) (9+((zer n:Nat):Int))=some (aXm (1+zer n) 0):=by
  unfold mkl
  rw[if_pos ⟨by omega,by omega,by omega⟩,show(1+((zer n:Nat):Int)).toNat=1+zer n by omega]
 have h0:bU (aXm (1+zer n) (0:Int)) 0=some 0:=by
  rw[show(0:Int)=((0:Nat):Int)from rfl,aFq,aYa,if_pos (by omega)]
 simp only[hm,aXj,h0,Int.toNat_zero,aWM]
 have:=aLY N n 8 N (128::aXm (zer n) 0) (by omega) (by omega) (by simp;omega)
 rw[show((8-8:Nat):Int)=0 from rfl]at this
 rw[this];rfl
theorem aEC {f:Nat→Int→List Int→Option (List Int)}(l:List (List Int))(hn:l.length≤1000)(ht:l.flatten.length≤50000000)
  (hs: ∀m j acc (hj:j<l.length),acc.length+l[j].length≤50000000→f (m+1) (j:Int) acc=f m ((j+1:Nat):Int) (acc++l[j])) (he: ∀m j acc,l.length≤j→f (m+1) (j:Int) acc=some acc) (N:Nat) (hN:70000≤N):
  f N 0 []=some l.flatten:=by
 have hfl:l.flatMap id=l.flatten:=by simp
 have:=nI (f:=f) (xs:=l) (g:=id) (B:=50000000) (by omega) hs he N 0 [] (by omega) (by omega) (by rw[aXs,hfl];simpa using ht)
 rw[aXs,hfl]at this
 simpa using this
theorem aUJ (N:Nat)(hN:70000≤N)(l:List (List Int))(hn:l.length≤1000)(ht:l.flatten.length≤50000000):aD0 N l=some l.flatten:=by
 have:=aEC (f:=tA N l) l hn ht (fun m j acc hj hB=>by
  rw[tA,dT hj,if_pos rfl,bZ l hj,aXj,iZ (by omega)]
  simp only[aXj,i1 (show j≤100000 by omega)]) (fun m j acc hj=>by rw[tA,dF (by omega)];rfl) N hN
 unfold aD0
 rw[this];rfl
def cmp (N:Nat)(st blk:List Int):List Int:=(mQ N st blk).getD []
def wV (msg:List Int)(i:Nat):List Int:=(msg.drop (64*i)).take 64
theorem aFR {l:List Int}(h:Byt l)(k:Nat):Byt (l.take k):=fun x hx=>h x (aYM hx)
theorem aGi {l:List Int}(h:Byt l)(k:Nat):Byt (l.drop k):=fun x hx=>h x (aYL hx)
theorem aP9 (N:Nat)(hN:70000≤N)(st blk:List Int)(hst:st.length=8)(hb:Byt blk)(hl:blk.length=64):mQ N st blk=some (cmp N st blk)∧(cmp N st blk).length=8:=by
 obtain⟨b,rfl,h2⟩:=aN9 hb
 obtain⟨r,h3,h4⟩:=aRB N hN b (by rw[aIS]at hl;exact hl) h2 st hst
 have:cmp N st (iN b)=r:=by simp[cmp,h3]
 rw[this];exact⟨h3,h4⟩
def aAo (N:Nat)(msg st:List Int)(j k:Nat):List Int:=(aXH j k).foldl (fun s i=>cmp N s (wV msg i)) st
section
variable (N:Nat)(hN:70000≤N)(msg:List Int)(hb:Byt msg)(hl:msg.length≤2000000)
include hN hb hl
theorem aH2 : ∀(m j:Nat)(st:List Int),msg.length/64-j<m→j≤msg.length/64→st.length=8→u5 N msg m (j:Int) st=some (aAo N msg st j (msg.length/64-j))∧(aAo N msg st j (msg.length/64-j)).length=8
 |0,j,st,hm,_,_=>by omega
 |m+1,j,st,hm,hj,hst=>by
  rw[u5,show(64:Int)=((64:Nat):Int)from rfl,tJ,cN (a:=((msg.length/64:Nat):Int)) (by omega) (by omega)]
  by_cases h:j<msg.length/64
  ·have hlen:(wV msg j).length=64:=by simp[wV];omega
   obtain⟨c1,c2⟩:=aP9 N hN st (wV msg j) hst (aFR (aGi hb _) _) hlen
   rw[dT h,if_pos rfl,dG hst,cN (a:=((64:Nat):Int)*(j:Int)) (by omega) (by omega)]
   have e1:sub msg (((64:Nat):Int)*(j:Int)) (msg.length:Int)=some (msg.drop (64*j)):=by
    unfold sub
    rw[if_pos ⟨by omega,by omega,by omega⟩,show(((64:Nat):Int)*(j:Int)).toNat=64*j by omega,aXp,aXy (aXM _)]
   have e2:tV 64 (msg.drop (64*j))=some (wV msg j):=by unfold tV;rw[if_pos (by simp;omega)];rfl
   simp only[e1,e2,c1,dG c2,aXj,i1 (show j≤100000 by omega)]
   obtain⟨i1',i2'⟩:=aH2 m (j+1) _ (by omega) (by omega) c2
   have er:aAo N msg st j (msg.length/64-j)=aAo N msg (cmp N st (wV msg j)) (j+1) (msg.length/64-(j+1)):=by
    unfold aAo
    rw[show msg.length/64-j=(msg.length/64-(j+1))+1 by omega,aXQ,aX8]
   rw[er]
   exact⟨i1',i2'⟩
  rw[dF h,show msg.length/64-j=0 by omega]
  exact⟨rfl,hst⟩
end
def yE (st:List Int)(i:Nat):Int:=aXI.wrap ((st.getD (i/4) 0).fdiv (2^(24-8*(i%4))))
def aFP (st:List Int):List Int:=(aXU 32).map (yE st)
theorem aIF (st:List Int):(aFP st).length=32:=by simp[aFP]
theorem aQ9 (st:List Int):Byt (aFP st):=by
 intro x hx
 simp only[aFP,aX6]at hx
 obtain⟨i,_,rfl⟩:=hx
 exact aHe _
theorem aBa (g:Nat→Int)(w j:Nat)(hj:j<w):((aXU j).map g++aXm (w-j) 0).set j (g j)=(aXU (j+1)).map g++aXm (w-(j+1)) 0:=by
 rw[aYE _ _ (by simp),show w-j=(w-(j+1))+1 by omega,aX1,aYF,aYG,aXt]
 simp
theorem aLS (a:Int)(s:Nat)(h:s≤32):shr .u32 a (s:Int)=some (a.fdiv (2^s)):=by
 unfold shr
 rw[if_neg (by omega),aXp,show min s aXJ.bits=s from Nat.min_eq_left h]
theorem aUF {st:List Int}(hst:st.length=8){i:Nat}(h:i<8):bX 8 st (i:Int)=some (st.getD i 0):=by
 have:i<st.length:=by omega
 rw[dV h this];simp[this]
section
variable (N:Nat)(hN:70000≤N)(st:List Int)(hst:st.length=8)
include hN hst
theorem aMt : ∀(m j:Nat),32-j<m→j≤32→vQ N st m (j:Int) ((aXU j).map (yE st)++aXm (32-j) 0)=some (aFP st)
 |0,j,hm,_=>by omega
 |m+1,j,hm,hj=>by
  rw[vQ]
  by_cases h:j<32
  ·rw[show decide ((j:Int)<32)=true from decide_eq_true (by omega),if_pos rfl,show(4:Int)=((4:Nat):Int)from rfl,tJ,vD,cN (a:=((j/4:Nat):Int)) (by omega) (by omega),aUF hst (by omega)]
   rw[cN (a:=((j%4:Nat):Int)*8) (by omega) (by omega),cN (a:=24-((j%4:Nat):Int)*8) (by omega) (by omega),show 24-((j%4:Nat):Int)*8=((24-8*(j%4):Nat):Int) by omega]
   simp only[aXj]
   rw[aLS _ _ (by omega),dV h (by simp;omega)]
   simp only[aXj,aXp,i1 (show j≤100000 by omega)]
   have:=aBa (yE st) 32 j h
   rw[show aXI.wrap ((st.getD (j/4) 0).fdiv (2^(24-8*(j%4))))=yE st j from rfl,this]
   exact aMt m (j+1) (by omega) (by omega)
  obtain rfl:j=32:=by omega
  rw[show decide (((32:Nat):Int)<32)=false from rfl]
  simp[aFP]
end
def sha256 (N:Nat)(b:List Int):List Int:=aFP (aAo N (b++y4 b.length) aAf 0 ((b++y4 b.length).length/64))
theorem fA (N:Nat)(b:List Int):(sha256 N b).length=32:=aIF _
theorem qA (N:Nat)(b:List Int):Byt (sha256 N b):=aQ9 _
theorem aJi (N:Nat)(hN:70000≤N)(b:List Int)(hb:Byt b)(hl:b.length≤1000000):aBd N b=some (sha256 N b):=by
 have hz:zer b.length<64:=aXu _ (by omega)
 have hpl:=aMM b.length
 have hmb:Byt (b++y4 b.length):=hb.append (aMa _)
 have hml:(b++y4 b.length).length≤2000000:=by rw[aXn];omega
 obtain⟨s1,s2⟩:=aH2 N hN _ hmb hml N 0 aAf (by omega) (by omega) rfl
 rw[show((0:Nat):Int)=0 from rfl,aXO]at s1
 rw[aXO]at s2
 have hw:aXB.wrap (b.length:Int)=(b.length:Int):=aA5 (by omega) (by omega)
 have o:=aMt N hN (aAo N (b++y4 b.length) aAf 0 ((b++y4 b.length).length/64)) s2 N 0 (by omega) (by omega)
 simp only[aX9,aYk,aXo,aXO]at o
 rw[show((0:Nat):Int)=0 from rfl]at o
 simp only[aBd,hw,aWG N hN b.length (by omega),aXj]
 rw[aUJ N hN [b,y4 b.length] (by simp) (by simp;omega)]
 simp only[aXj,aXY,aYo,aYb,s1,aDB,o,aDC,dG (aIF _)]
 rfl
theorem aHT (s:ByteArray):Byt (fT s):=by
 intro x hx
 unfold fT at hx
 simp only[aX6]at hx
 obtain⟨b,_,rfl⟩:=hx
 have:=b.toNat_lt
 omega
def aAC (N:Nat)(tag:ByteArray)(b:List Int):List Int:=sha256 N (sha256 N (fT tag)++(sha256 N (fT tag)++b))
theorem z6 (N:Nat)(tag:ByteArray)(b:List Int):(aAC N tag b).length=32:=fA _ _
theorem aGe (N:Nat)(tag:ByteArray)(b:List Int):Byt (aAC N tag b):=qA _ _
theorem aGT (N:Nat)(hN:70000≤N)(tag:ByteArray)(ht:tag.size≤1000)(b:List Int)(hb:Byt b)(hl:b.length≤900000):z4 N tag b=some (aAC N tag b):=by
 have hlim:=jO
 have hs:stb tag=some (fT tag):=by unfold stb;rw[if_pos (by omega)]
 have s1:=aJi N hN (fT tag) (aHT tag) (by rw[aAr];omega)
 have l1:=fA N (fT tag)
 have t1:=aJi N hN (sha256 N (fT tag)++(sha256 N (fT tag)++b)) ((qA _ _).append ((qA _ _).append hb)) (by simp only[aXn,l1];omega)
 simp only[z4,hs,s1,aXj,dG l1]
 rw[aUJ N hN _ (by simp) (by simp[l1];omega)]
 simp only[aXj,aXY,aYo,aYb,t1,dG (fA N _)]
 rfl
theorem u7 (w:Nat)(v:Int):Byt (aAZ w v):=by
 intro x hx
 simp only[aAZ,aX6]at hx
 obtain⟨i,_,rfl⟩:=hx
 exact aHe _
theorem aSD (n:Nat):Byt (szB n):=by
 unfold szB
 split
 ·exact u7 _ _
 split
 ·intro x hx
  rcases aYq.1 hx with rfl|hx
  ·omega
  exact u7 _ _ x hx
 intro x hx
 rcases aYq.1 hx with rfl|hx
 ·omega
 exact u7 _ _ x hx
theorem aIy {α:Type}{g:α→List Int}{l:List α}(h: ∀x∈l,Byt (g x)):Byt (l.flatMap g):=by
 intro y hy
 obtain⟨x,hx,hy⟩:=List.mem_flatMap.1 hy
 exact h x hx y hy
def ptB (x:aG):List Int:=x.Prev.Tx++qC x.Prev.Index
def sqB (x:aG):List Int:=qC x.Sequence
structure aMi (ins:List aG)(outs:List aF):Prop where
 tx: ∀x∈ins,Byt x.Prev.Tx
 scr: ∀o∈outs,Byt o.Script
theorem aNq {o:aF}(h:Byt o.Script):Byt (oY o):=(u7 _ _).append ((aSD _).append h)
section
variable (N:Nat)(hN:70000≤N)
include hN
theorem aLm (v:Int):pA N v=some (qC v):=by
 simp only[pA,aKc N hN [] v (by simp),aXj,aXo]
theorem aUO (l:List (List Int))(hn:l.length≤1000)(ht:l.flatten.length≤50000000):yD N l=some l.flatten:=by
 have:=aEC (f:=o7 N l) l hn ht (fun m j acc hj hB=>by
  rw[o7,dT hj,if_pos rfl,bZ l hj,aXj,iZ (by omega)]
  simp only[aXj,i1 (show j≤100000 by omega)]) (fun m j acc hj=>by rw[o7,dF (by omega)];rfl) N hN
 unfold yD
 rw[this];rfl
theorem aKN (o:aF)(h:o.Script.length≤600):uO N o.Value o.Script=some (oY o):=by
 have:=qX o.Script.length
 simp only[uO,aUU N hN [] _ (show([]:List Int).length≤40000000 by simp),aMx N hN [] _ (show o.Script.length≤1000000 by omega) (by simp),aXj,aXo]
 rw[aUO N hN _ (by simp) (by simp[aEr];omega)]
 simp only[aXj,aXY,aYo,aYb,oY]
theorem aG8 (b:List Int)(hb:Byt b)(hl:b.length≤1000000):rV N b=some (sha256 N b):=by
 simp only[rV,aJi N hN b hb hl,aXj,dG (fA N b)]
variable {v:Int}{ins:List aG}{outs:List aF}{lock:Int}(K:aAd ins outs)
include K
theorem aQO :aBM N v ins outs lock=some (aBj v ins outs lock):=by
 simp only[aBM,aEX,aOg N hN K,aXj]
 cases aBj v ins outs lock
 ·rfl
 simp only[aXw,aXk,if_false,aKQ N hN K,aXj];rfl
variable {i oV:Int}{oS:List Int}
theorem mL6 : ∀(m j:Nat)(a b:List Int),ins.length-j<m→j≤ins.length→a.length≤36*j→b.length≤4*j→lG N v ins outs lock i oV oS m (j:Int) a b=some (a++(ins.drop j).flatMap ptB,b++(ins.drop j).flatMap sqB)
 |0,j,a,b,hm,_,_,_=>by omega
 |m+1,j,a,b,hm,hj,ha,hb=>by
  have hn:=K.ni
  rw[lG]
  by_cases h:j<ins.length
  ·have ht:=K.tx _ (aXv h)
   rw[dT h,if_pos rfl,bZ ins h]
   simp only[aXj,aQq N hN _ _ ht,aLm N hN]
   rw[iZ (by simp only[aXn,cZ];omega)]
   simp only[aXj]
   rw[iZ (by rw[cZ];omega)]
   simp only[aXj,i1 (show j≤100000 by omega)]
   rw[mL6 m (j+1) _ _ (by omega) (by omega) (by simp only[aXn,cZ];omega) (by simp only[aXn,cZ];omega),aXx h,aXP,aXP]
   simp only[ptB,sqB,aXt]
  rw[dF h,aXA (by omega)];simp
theorem mL5 (p q:List Int):iF N v ins outs lock i oV oS p q N 0 []=some (outs.flatMap oY):=by
 have hn:=K.no
 have hl:=aA6 K
 have:=nI (f:=iF N v ins outs lock i oV oS p q) (xs:=outs) (g:=oY) (B:=200000) (by omega) (fun m j acc hj hB=>by
  have ht:=K.scr _ (aXv hj)
  rw[iF,dT hj,if_pos rfl,bZ outs hj]
  simp only[aXj,aKN N hN _ ht]
  rw[iZ (by omega)]
  simp only[aXj,i1 (show j≤100000 by omega)]) (fun m j acc hj=>by rw[iF,dF (by omega)];rfl) N 0 [] (by omega) (by omega) (by rw[aXs,aY3];omega)
 simpa using this
def aF9 (N:Nat)(v:Int)(ins:List aG)(outs:List aF)(lock i oV:Int)(oS:List Int):List Int:=
 qC v++(sha256 N (ins.flatMap ptB)++(sha256 N (ins.flatMap sqB)++(sha256 N (outs.flatMap oY)++(qC lock++(qC (aXJ.wrap i)++oY ⟨oV,oS⟩)))))
def aIG :ByteArray:=⟨#[108,105,103,104,116,99,108,105,101,110,116,47,115,112,101,110,100]⟩
def aJl :List Int:=[0,0,0,0,0,0,0,0,0,0,0,0,0,0,0,0,0,0,0,0,0,0,0,0,0,0,0,0,0,0,0,0]
def aD3 (N:Nat)(v:Int)(ins:List aG)(outs:List aF)(lock i oV:Int)(oS:List Int):List Int×Int:=
 if aBj v ins outs lock&& !decide (oV<0)&& !decide (520<oS.length) then
  if decide (i<0) || decide ((ins.length:Int)≤i)then(aJl,5)else(aAC N aIG (aF9 N v ins outs lock i oV oS),0)
 else(aJl,4)
omit hN K in
theorem aSh :(aD3 N v ins outs lock i oV oS).1.length=32:=by
 unfold aD3
 split
 ·split
  ·rfl
  exact z6 _ _ _
 rfl
variable (B:aMi ins outs)
include B
omit hN in
theorem aMj :Byt (ins.flatMap ptB)∧(ins.flatMap ptB).length≤2520∧Byt (ins.flatMap sqB)∧(ins.flatMap sqB).length≤280∧Byt (outs.flatMap oY)∧(outs.flatMap oY).length≤42910:=by
 have h1:=zY (g:=ptB) (c:=36) ins (fun x hx=>by simp[ptB,cZ,K.tx x hx])
 have h2:=zY (g:=sqB) (c:=4) ins (fun x hx=>by simp[sqB,cZ])
 have hn:=K.ni
 have:=aXD 36 hn
 have:=aXD 4 hn
 exact⟨aIy fun x hx=>(B.tx x hx).append (u7 _ _),by omega,aIy fun x hx=>u7 _ _,by omega,aIy fun o ho=>aNq (B.scr o ho),aA6 K⟩
theorem aOc (hoS:oS.length≤520)(hob:Byt oS):Byt (aF9 N v ins outs lock i oV oS)∧(aF9 N v ins outs lock i oV oS).length≤900000:=by
 have h2:=aHI (o:=⟨oV,oS⟩) (show oS.length≤600 by omega)
 refine⟨(u7 _ _).append ((qA _ _).append ((qA _ _).append ((qA _ _).append ((u7 _ _).append ((u7 _ _).append (aNq hob)))))), ?_⟩
 simp only[aF9,aXn,cZ,fA]
 omega
theorem aO8 (hob:Byt oS):vT N v ins outs lock i oV oS=some (aD3 N v ins outs lock i oV oS):=by
 obtain⟨p1,p2,p3,p4,p5,p6⟩:=aMj K B
 unfold vT aD3
 rw[aQO N hN K]
 cases hf:aBj v ins outs lock with
 |false=>rfl
 |true=>
  simp only[aXj,aXw,aXk,if_false,aXq]
  cases h0:decide (oV<0) with
  |true=>rfl
  |false=>
   simp only[aXk,if_false,aXW,aXq]
   rw[show(520:Int)=((520:Nat):Int)from rfl,nle,show decide (520<oS.length)= !decide (oS.length≤520) by rw[←nle];congr 1;simp;omega]
   cases h1:decide (oS.length≤520) with
   |false=>rfl
   |true=>
    have hoS:oS.length≤520:=by simpa using h1
    obtain⟨q1,q2⟩:=aOc N hN K B (v:=v) (lock:=lock) (i:=i) (oV:=oV) hoS hob
    simp only[aXw,aXW,if_true,n9,aXk,if_false]
    have main:oA N v ins outs lock i oV oS false=some (aAC N aIG (aF9 N v ins outs lock i oV oS),0):=by
     have e6:=mL6 N hN K (v:=v) (lock:=lock) (i:=i) (oV:=oV) (oS:=oS) N 0 [] [] (by have:=K.ni;omega) (by omega) (by simp) (by simp)
     rw[show((0:Nat):Int)=0 from rfl,aXs,aXo,aXo]at e6
     have e7:yD N [qC v,sha256 N (ins.flatMap ptB),sha256 N (ins.flatMap sqB),sha256 N (outs.flatMap oY),qC lock,qC (aXJ.wrap i),oY ⟨oV,oS⟩]=some (aF9 N v ins outs lock i oV oS):=by
      have h2:=aHI (o:=⟨oV,oS⟩) (show oS.length≤600 by omega)
      rw[aUO N hN _ (by simp) (by simp[cZ,fA];omega)]
      simp only[aXY,aYo,aYb,aF9]
     have e8:=aGT N hN aIG (by decide) _ q1 q2
     simp only[oA,aXk,if_false,e6,aXj,vH,mL5 N hN K,vI,aLm N hN,aG8 N hN _ p1 (by omega),aG8 N hN _ p3 (by omega),aG8 N hN _ p5 (by omega),aKN N hN ⟨oV,oS⟩ (show oS.length≤600 by omega),e7]
     rw[show(⟨#[108,105,103,104,116,99,108,105,101,110,116,47,115,112,101,110,100]⟩:ByteArray)=aIG from rfl,e8]
     simp only[aXj,dG (z6 N _ _)]
    cases hi:decide (i<0) with
    |true=>rfl
    |false=>
     simp only[aXk,if_false,aYS]
     cases hi2:decide ((ins.length:Int)≤i) with
     |true=>rfl
     |false=>simp only[aXk,if_false,main]
end
section
variable (N:Nat)(b:List Nat)(hl:b.length=64)(hb: ∀x∈b,x<256)
include hl hb
theorem aWw (hN:70000≤N):gR N (iN b) N 0 (aXm 64 0)=some (aFJ b 0 (aXm 64 0)):=by
 refine aKz b (f:=gR N (iN b)) (fun m j l hj hll hz=> ?_) (fun m l=>by rw[gR];rfl) N 0 _ (by omega) (by omega) (by simp) (fun i _ hi=>by rw[aYa,if_pos hi])
 have g0:=aBe hb (4*j)
 have g1:=aBe hb (4*j+1)
 have g2:=aBe hb (4*j+2)
 have g3:=aBe hb (4*j+3)
 rw[gR,show decide ((j:Int)<16)=true from decide_eq_true (by omega),if_pos rfl]
 rw[cN (a:=4*(j:Int)) (by omega) (by omega),cN (a:=4*(j:Int)+1) (by omega) (by omega),cN (a:=4*(j:Int)+2) (by omega) (by omega),cN (a:=4*(j:Int)+3) (by omega) (by omega)]
 rw[show 4*(j:Int)=((4*j:Nat):Int) by omega,show((4*j:Nat):Int)+1=((4*j+1:Nat):Int) by omega,show((4*j:Nat):Int)+2=((4*j+2:Nat):Int) by omega,show((4*j:Nat):Int)+3=((4*j+3:Nat):Int) by omega]
 rw[aHd hl (by omega),aHd hl (by omega),aHd hl (by omega),aHd hl (by omega),dV (show j<64 by omega) (by omega)]
 rw[show(24:Int)=((24:Nat):Int)from rfl,show(16:Int)=((16:Nat):Int)from rfl,show(8:Int)=((8:Nat):Int)from rfl]
 simp only[aXj,aXp,i1 (show j≤100000 by omega),aHD _ (show b.getD (4*j) 0<4294967296 by omega),aHD _ (show b.getD (4*j+1) 0<4294967296 by omega),aHD _ (show b.getD (4*j+2) 0<4294967296 by omega),aHD _ (show b.getD (4*j+3) 0<4294967296 by omega),aUu]
 congr 2
 unfold wd
 generalize b.getD (4*j) 0=a0 at *
 generalize b.getD (4*j+1) 0=a1 at *
 generalize b.getD (4*j+2) 0=a2 at *
 generalize b.getD (4*j+3) 0=a3 at *
 rw[aXr (show a0*2^24<4294967296 by omega),aXr (show a1*2^16<4294967296 by omega),aXr (show a2*2^8<4294967296 by omega)]
 rw[orU _ _ (by omega) (by omega),aIO a0 _ 24 (by omega)]
 rw[show a0*2^24+a1*2^16=(a0*2^8+a1)*2^16 by omega,orU _ _ (by omega) (by omega),aIO _ (a2*2^8) 16 (by omega)]
 rw[show(a0*2^8+a1)*2^16+a2*2^8=((a0*2^8+a1)*2^8+a2)*2^8 by omega,orU _ _ (by omega) (by omega),aIO _ a3 8 (by omega)]
end
theorem aLu (N:Nat)(x n:Int):kA N x n=dR N x n:=rfl
theorem aOt (N:Nat): ∀(m:Nat)(i:Int)(l:List Int),kJ N m i l=jC N m i l
 |0,_,_=>rfl
 |m+1,i,l=>by simp only[kJ,jC,aLu,aOt N m]
theorem aMP (N:Nat)(st w:List Int): ∀(m:Nat)(a b c d e f g h i:Int),kL N st w aE1 m a b c d e f g h i=i8 N st w m a b c d e f g h i
 |0,_,_,_,_,_,_,_,_,_=>rfl
 |m+1,a,b,c,d,e,f,g,h,i=>by simp only[kL,i8,aLu,aMP N st w m]
section
variable (N:Nat)(hN:70000≤N)(b:List Nat)(hl:b.length=64)(hb: ∀x∈b,x<256)
include hN hl hb
theorem aO3 :uH N (iN b)=q5 N (iN b):=by
 simp only[uH,q5,aWw N b hl hb hN,sL4 N b hl hb hN,aXj,t4,tB,aOt,tZ,sE]
theorem aLA (st:List Int):qY N st (iN b)=mQ N st (iN b):=by
 obtain⟨w,h1,h2⟩:=aSy N hN b hl hb
 have hK:wX N=some aE1:=rfl
 have hKl:a9 64 aE1=some aE1:=rfl
 simp only[qY,mQ,aO3 N hN b hl hb,h1,hK,hKl,aXj,aMP,tY,sD]
end
theorem aLe (N n:Nat): ∀(k m:Nat)(acc:List Int),k≤8→k<m→acc.length+k≤1000→pE N (n:Int) m ((k:Int)-1) acc=some (acc++(aXH (8-k) k).map (beG n))
 |0,m,acc,_,hm,_=>by
  obtain⟨m,rfl⟩: ∃q,m=q+1:=⟨m-1,by omega⟩
  rw[pE,show decide ((0:Int)≤((0:Nat):Int)-1)=false from rfl];simp
 |k+1,m,acc,hk,hm,ha=>by
  obtain⟨m,rfl⟩: ∃q,m=q+1:=⟨m-1,by omega⟩
  rw[pE,show decide ((0:Int)≤((k+1:Nat):Int)-1)=true from decide_eq_true (by omega),if_pos rfl]
  rw[cN (a:=8*(((k+1:Nat):Int)-1)) (by omega) (by omega),show 8*(((k+1:Nat):Int)-1)=((56-8*(8-(k+1)):Nat):Int) by omega,aOL _ _ (by omega)]
  simp only[aXj]
  rw[iZ (by simp;omega)]
  simp only[aXj]
  rw[cN (a:=((k+1:Nat):Int)-1-1) (by omega) (by omega),show((k+1:Nat):Int)-1-1=(k:Int)-1 by omega,aLe N n k m _ (by omega) (by omega) (by simp;omega),aXQ,aYB,show 8-(k+1)+1=8-k by omega,aXt]
  rfl
theorem aK2 (N n:Nat)(hn:n≤1000000000): ∀(z m:Nat)(l:List Int),z<64→z<m→l.length+z≤1000→(n+l.length+8+z)%64=0→q6 N (n:Int) m l=some (l++aXm z 0)
 |z,0,l,_,hm,_,_=>by omega
 |z,m+1,l,hz,hm,hl,he=>by
  rw[q6,aA5 (a:=(l.length:Int)) (by omega) (by omega),aA5 (a:=(n:Int)+(l.length:Int)) (by omega) (by omega),aA5 (a:=(n:Int)+(l.length:Int)+8) (by omega) (by omega)]
  rw[show(n:Int)+(l.length:Int)+8=((n+l.length+8:Nat):Int) by omega,show(64:Int)=((64:Nat):Int)from rfl,vD]
  match z with
  |0=>
   rw[show(n+l.length+8)%64=0 by simpa using he]
   simp
  |z+1=>
   have hne:(n+l.length+8)%64≠0:=by omega
   rw[show((((n+l.length+8)%64:Nat):Int) != 0)=true by simp;omega,if_pos rfl,iZ (by simp;omega)]
   simp only[aXj]
   rw[aK2 N n hn z m _ (by omega) (by omega) (by simp;omega) (by simp;omega),aX1,aXt]
   rfl
theorem aWn (N:Nat)(hN:70000≤N)(n:Nat)(hn:n≤1000000000):aDe N (n:Int)=some (y4 n):=by
 have hz:zer n<64:=aXu _ (by omega)
 have h2:(n+1+8+zer n)%64=0:=by unfold zer;omega
 unfold aDe
 rw[aK2 N n hn (zer n) N [128] hz (by omega) (by simp;omega) (by simpa using h2)]
 simp only[aXj,aBm]
 have:=aLe N n 8 N ([128]++aXm (zer n) 0) (by omega) (by omega) (by simp;omega)
 rw[show((8:Nat):Int)-1=7 from rfl]at this
 rw[this];rfl
section
variable (N:Nat)(hN:70000≤N)(msg:List Int)(hb:Byt msg)(hl:msg.length≤2000000)
include hN hb hl
theorem aLa : ∀(m j:Nat)(st:List Int),msg.length/64-j<m→j≤msg.length/64→st.length=8→rQ N msg m ((64*j:Nat):Int) st=some (aAo N msg st j (msg.length/64-j))
 |0,j,st,hm,_,_=>by omega
 |m+1,j,st,hm,hj,hst=>by
  rw[rQ,cN (a:=((64*j:Nat):Int)+64) (by omega) (by omega)]
  by_cases h:j<msg.length/64
  ·have hlen:(wV msg j).length=64:=by simp[wV];omega
   obtain⟨c1,c2⟩:=aP9 N hN st (wV msg j) hst (aFR (aGi hb _) _) hlen
   have c3:qY N st (wV msg j)=some (cmp N st (wV msg j)):=by
    obtain⟨bn,e1,e2⟩:=aN9 (aFR (aGi hb (64*j)) 64)
    have e3:wV msg j=iN bn:=e1
    rw[e3]at c1 hlen⊢
    rw[aLA N hN bn (by rw[aIS]at hlen;exact hlen) e2]
    exact c1
   rw[show decide (((64*j:Nat):Int)+64≤(msg.length:Int))=true from decide_eq_true (by omega),if_pos rfl]
   have e1:sub msg ((64*j:Nat):Int) (msg.length:Int)=some (msg.drop (64*j)):=by
    unfold sub
    rw[if_pos ⟨by omega,by omega,by omega⟩,aXp,aXp,aXy (aXM _)]
   have e2:nT (aXm 64 (0:Int)) (msg.drop (64*j))=wV msg j:=by
    unfold nT wV
    rw[List.length_replicate,show List.drop (msg.drop (64*j)).length (aXm 64 (0:Int))=[]from aXA (by simp;omega),aYb]
   simp only[e1,e2,aXj,dG hst,dG hlen,c3,dG c2]
   rw[show((64*j:Nat):Int)+64=((64*(j+1):Nat):Int) by omega,aLa m (j+1) _ (by omega) (by omega) c2]
   unfold aAo
   rw[show msg.length/64-j=(msg.length/64-(j+1))+1 by omega,aXQ,aX8]
  rw[show decide (((64*j:Nat):Int)+64≤(msg.length:Int))=false from decide_eq_false (by omega),show msg.length/64-j=0 by omega]
  rfl
end
section
variable (N:Nat)(hN:70000≤N)(st:List Int)(hst:st.length=8)
include hN hst
theorem aLr : ∀(m j:Nat),8-j<m→j≤8→rB N st m (j:Int) ((aXU (4*j)).map (yE st)++aXm (32-4*j) 0)=some (aFP st)
 |0,j,hm,_=>by omega
 |m+1,j,hm,hj=>by
  rw[rB]
  by_cases h:j<8
  ·rw[show decide ((j:Int)<8)=true from decide_eq_true (by omega),if_pos rfl,aUF hst h]
   rw[cN (a:=4*(j:Int)) (by omega) (by omega),cN (a:=4*(j:Int)+1) (by omega) (by omega),cN (a:=4*(j:Int)+2) (by omega) (by omega),cN (a:=4*(j:Int)+3) (by omega) (by omega)]
   rw[show 4*(j:Int)=((4*j:Nat):Int) by omega,show((4*j:Nat):Int)+1=((4*j+1:Nat):Int) by omega,show((4*j:Nat):Int)+2=((4*j+2:Nat):Int) by omega,show((4*j:Nat):Int)+3=((4*j+3:Nat):Int) by omega]
   rw[show(24:Int)=((24:Nat):Int)from rfl,show(16:Int)=((16:Nat):Int)from rfl]
   simp only[aXj,aXp,i1 (show j≤100000 by omega)]
   rw[show(8:Int)=((8:Nat):Int)from rfl,aLS _ 24 (by omega),aLS _ 16 (by omega),aLS _ 8 (by omega)]
   simp only[aXj]
   have o0:aXI.wrap ((st.getD j 0).fdiv (2^24))=yE st (4*j):=by unfold yE;rw[show 4*j/4=j by omega,show 4*j%4=0 by omega]
   have o1:aXI.wrap ((st.getD j 0).fdiv (2^16))=yE st (4*j+1):=by unfold yE;rw[show(4*j+1)/4=j by omega,show(4*j+1)%4=1 by omega]
   have o2:aXI.wrap ((st.getD j 0).fdiv (2^8))=yE st (4*j+2):=by unfold yE;rw[show(4*j+2)/4=j by omega,show(4*j+2)%4=2 by omega]
   have o3:aXI.wrap (st.getD j 0)=yE st (4*j+3):=by
    unfold yE;rw[show(4*j+3)/4=j by omega,show(4*j+3)%4=3 by omega]
    congr 1
    generalize st.getD j 0=x
    simp
   rw[o0,o1,o2,o3,aBa (yE st) 32 (4*j) (by omega),aBa (yE st) 32 (4*j+1) (by omega),aBa (yE st) 32 (4*j+2) (by omega),aBa (yE st) 32 (4*j+3) (by omega)]
   rw[dV (show 4*j<32 by omega) (by simp;omega),dV (show 4*j+1<32 by omega) (by simp;omega),dV (show 4*j+2<32 by omega) (by simp;omega),dV (show 4*j+3<32 by omega) (by simp;omega)]
   simp only[aXj]
   exact aLr m (j+1) (by omega) (by omega)
  obtain rfl:j=8:=by omega
  rw[show decide (((8:Nat):Int)<8)=false from rfl]
  simp[aFP]
end
theorem aDT (N:Nat)(hN:70000≤N)(b:List Int)(hb:Byt b)(hl:b.length≤1000000):qQ N b=some (sha256 N b):=by
 have hz:zer b.length<64:=aXu _ (by omega)
 have hpl:=aMM b.length
 have hmb:Byt (b++y4 b.length):=hb.append (aMa _)
 have hml:(b++y4 b.length).length≤2000000:=by rw[aXn];omega
 obtain⟨s1,s2⟩:=aH2 N hN _ hmb hml N 0 aAf (by omega) (by omega) rfl
 have s3:=aLa N hN _ hmb hml N 0 aAf (by omega) (by omega) rfl
 rw[aXO]at s2
 rw[show((64*0:Nat):Int)=0 from rfl,aXO]at s3
 have hw:aXB.wrap (b.length:Int)=(b.length:Int):=aA5 (by omega) (by omega)
 have o:=aLr N hN (aAo N (b++y4 b.length) aAf 0 ((b++y4 b.length).length/64)) s2 N 0 (by omega) (by omega)
 simp only[Nat.mul_zero,aX9,aYk,aXo,aXO]at o
 rw[show((0:Nat):Int)=0 from rfl]at o
 have hI:aAL N=some aAf:=rfl
 have hIa:a9 8 aAf=some aAf:=rfl
 simp only[qQ]
 rw[iZ (by simp;omega)]
 simp only[aXj,aXo,hw,aWn N hN b.length (by omega)]
 rw[iZ (by omega)]
 simp only[aXj,hI,hIa,s3,aBz,dG s2,o,aBY,dG (aIF _)]
 rfl
theorem aJD (N:Nat)(hN:70000≤N)(tag:ByteArray)(ht:tag.size≤1000)(b:List Int)(hb:Byt b)(hl:b.length≤900000):uM N tag b=some (aAC N tag b):=by
 have hlim:=jO
 have hs:stb tag=some (fT tag):=by unfold stb;rw[if_pos (by omega)]
 have s2:=aDT N hN (fT tag) (aHT tag) (by rw[aAr];omega)
 have l1:=fA N (fT tag)
 have t2:=aDT N hN (sha256 N (fT tag)++(sha256 N (fT tag)++b)) ((qA _ _).append ((qA _ _).append hb)) (by simp only[aXn,l1];omega)
 simp only[uM,hs,s2,aXj,dG l1]
 rw[iZ (by simp[l1])]
 simp only[aXj,aXo]
 rw[iZ (by simp[l1])]
 simp only[aXj]
 rw[iZ (by simp[l1];omega)]
 simp only[aXj,aXt,t2,dG (fA N _)]
 rfl
section
variable (N:Nat)(hN:70000≤N){v:Int}{ins:List aG}{outs:List aF}{lock:Int}(K:aAd ins outs){i oV:Int}{oS:List Int}
include hN K
theorem aVf : ∀(m j:Nat)(a b:List Int),ins.length-j<m→j≤ins.length→a.length≤36*j→b.length≤4*j→lC N v ins outs lock i oV oS m (j:Int) a b=some (a++(ins.drop j).flatMap ptB,b++(ins.drop j).flatMap sqB)
 |0,j,a,b,hm,_,_,_=>by omega
 |m+1,j,a,b,hm,hj,ha,hb=>by
  have hn:=K.ni
  rw[lC]
  by_cases h:j<ins.length
  ·have ht:=K.tx _ (aXv h)
   rw[dT h,if_pos rfl,bZ ins h]
   simp only[aXj,aPG N hN _ _ ht]
   rw[iZ (by simp only[aXn,cZ];omega)]
   simp only[aXj]
   rw[aG2 N hN _ _ (by omega)]
   simp only[aXj,i1 (show j≤100000 by omega)]
   rw[aVf m (j+1) _ _ (by omega) (by omega) (by simp only[aXn,cZ];omega) (by simp only[aXn,cZ];omega),aXx h,aXP,aXP]
   simp only[ptB,sqB,aXt]
  rw[dF h,aXA (by omega)];simp
theorem aWj (p q:List Int):iH N v ins outs lock i oV oS p q N 0 []=some (outs.flatMap oY):=by
 have hn:=K.no
 have hl:=aA6 K
 have:=nI (f:=iH N v ins outs lock i oV oS p q) (xs:=outs) (g:=oY) (B:=200000) (by omega) (fun m j acc hj hB=>by
  have ht:=K.scr _ (aXv hj)
  rw[iH,dT hj,if_pos rfl,bZ outs hj]
  simp only[aXj,aQR N hN _ ht]
  rw[iZ (by omega)]
  simp only[aXj,i1 (show j≤100000 by omega)]) (fun m j acc hj=>by rw[iH,dF (by omega)];rfl) N 0 [] (by omega) (by omega) (by rw[aXs,aY3];omega)
 simpa using this
theorem aOS (b h:List Int)(hh:h.length=32)(hb:b.length≤30000000):iK N b h=some (b++h):=by
 simp only[iK,dG hh,aXj]
 rw[qM N _ _ (by omega)];rfl
variable (B:aMi ins outs)
include B
theorem aNF (hob:Byt oS):v4 N v ins outs lock i oV oS=some (aD3 N v ins outs lock i oV oS):=by
 obtain⟨p1,p2,p3,p4,p5,p6⟩:=aMj K B
 unfold v4 aD3
 rw[aNg N hN K]
 cases hf:aBj v ins outs lock with
 |false=>rfl
 |true=>
  simp only[aXj,aXw,aXk,if_false,aXq]
  cases h0:decide (oV<0) with
  |true=>rfl
  |false=>
   simp only[aXk,if_false,aXW,aXq]
   rw[show(520:Int)=((520:Nat):Int)from rfl,nle,show decide (520<oS.length)= !decide (oS.length≤520) by rw[←nle];congr 1;simp;omega]
   cases h1:decide (oS.length≤520) with
   |false=>rfl
   |true=>
    have hoS:oS.length≤520:=by simpa using h1
    obtain⟨q1,q2⟩:=aOc N hN K B (v:=v) (lock:=lock) (i:=i) (oV:=oV) hoS hob
    simp only[aXw,aXW,if_true,nV,aXk,if_false]
    have main:oF N v ins outs lock i oV oS false=some (aAC N aIG (aF9 N v ins outs lock i oV oS),0):=by
     have e6:=aVf N hN K (v:=v) (lock:=lock) (i:=i) (oV:=oV) (oS:=oS) N 0 [] [] (by have:=K.ni;omega) (by omega) (by simp) (by simp)
     rw[show((0:Nat):Int)=0 from rfl,aXs,aXo,aXo]at e6
     have e8:=aJD N hN aIG (by decide) _ q1 q2
     have h2:=aHI (o:=⟨oV,oS⟩) (show oS.length≤600 by omega)
     simp only[oF,aXk,if_false,e6,aXj,vR,aWj N hN K,vS,aG2 N hN [] _ (show([]:List Int).length≤40000000 by simp),aXo,aDT N hN _ p1 (by omega),aDT N hN _ p3 (by omega),aDT N hN _ p5 (by omega),aQR N hN ⟨oV,oS⟩ (show oS.length≤600 by omega)]
     rw[aOS N hN K _ _ (fA _ _) (by rw[cZ];omega)]
     simp only[aXj]
     rw[aOS N hN K _ _ (fA _ _) (by simp[cZ,fA])]
     simp only[aXj]
     rw[aOS N hN K _ _ (fA _ _) (by simp[cZ,fA])]
     simp only[aXj]
     rw[aG2 N hN _ lock (by simp[cZ,fA])]
     simp only[aXj]
     rw[aG2 N hN _ _ (by simp[cZ,fA])]
     simp only[aXj]
     rw[iZ (by simp[cZ,fA];omega)]
     simp only[aXj,aXt]
     rw[show(⟨#[108,105,103,104,116,99,108,105,101,110,116,47,115,112,101,110,100]⟩:ByteArray)=aIG from rfl]
     rw[show qC v++(sha256 N (ins.flatMap ptB)++(sha256 N (ins.flatMap sqB)++(sha256 N (outs.flatMap oY)++(qC lock++(qC (aXJ.wrap i)++oY ⟨oV,oS⟩)))))=aF9 N v ins outs lock i oV oS from rfl,e8]
     simp only[aXj,dG (z6 N _ _)]
    cases hi:decide (i<0) with
    |true=>rfl
    |false=>
     simp only[aXk,if_false,aYS]
     cases hi2:decide ((ins.length:Int)≤i) with
     |true=>rfl
     |false=>simp only[aXk,if_false,main]
end
def w4 (a b c d:Nat):List Int:=[(a:Int),(b:Int),(c:Int),(d:Int)]
def vl (a b c d:Nat):Nat:=a+18446744073709551616*b+340282366920938463463374607431768211456*c+6277101735386680763835789423207666416102355444464034512896*d
def U (n:Nat):List Int:=w4 (n%18446744073709551616) (n/18446744073709551616%18446744073709551616) (n/340282366920938463463374607431768211456%18446744073709551616) (n/6277101735386680763835789423207666416102355444464034512896%18446744073709551616)
theorem aVE (n:Nat):(U n).length=4:=rfl
theorem aH9 {a b c d:Nat}(ha:a<18446744073709551616)(hb:b<18446744073709551616)(hc:c<18446744073709551616)(hd:d<18446744073709551616):w4 a b c d=U (vl a b c d):=by
 unfold U vl
 have h0:(a+18446744073709551616*b+340282366920938463463374607431768211456*c+6277101735386680763835789423207666416102355444464034512896*d)%18446744073709551616=a:=by omega
 have h1:(a+18446744073709551616*b+340282366920938463463374607431768211456*c+6277101735386680763835789423207666416102355444464034512896*d)/18446744073709551616%18446744073709551616=b:=by omega
 have h2:(a+18446744073709551616*b+340282366920938463463374607431768211456*c+6277101735386680763835789423207666416102355444464034512896*d)/340282366920938463463374607431768211456%18446744073709551616=c:=by omega
 have h3:(a+18446744073709551616*b+340282366920938463463374607431768211456*c+6277101735386680763835789423207666416102355444464034512896*d)/6277101735386680763835789423207666416102355444464034512896%18446744073709551616=d:=by omega
 rw[h0,h1,h2,h3]
theorem aBE {n:Nat}(h:n<115792089237316195423570985008687907853269984665640564039457584007913129639936): ∃a b c d,a<18446744073709551616∧b<18446744073709551616∧c<18446744073709551616∧d<18446744073709551616∧U n=w4 a b c d∧n=vl a b c d:=by
 refine⟨n%18446744073709551616,n/18446744073709551616%18446744073709551616,n/340282366920938463463374607431768211456%18446744073709551616,n/6277101735386680763835789423207666416102355444464034512896%18446744073709551616,by omega,by omega,by omega,by omega,rfl, ?_⟩
 unfold vl
 omega
theorem aHz {a b c d:Nat}(ha:a<18446744073709551616)(hb:b<18446744073709551616)(hc:c<18446744073709551616)(hd:d<18446744073709551616):vl a b c d<115792089237316195423570985008687907853269984665640564039457584007913129639936:=by unfold vl;omega
def Wd (l:List Int):Prop:=l.length=4∧ ∀x∈l,0≤x∧x<18446744073709551616
theorem Wd.ex {l:List Int}(h:Wd l): ∃n,n<115792089237316195423570985008687907853269984665640564039457584007913129639936∧l=U n:=by
 obtain⟨hl,hx⟩:=h
 match l,hl,hx with
 | [a,b,c,d],_,hx=>
  have ha:=hx a (by simp)
  have hb:=hx b (by simp)
  have hc:=hx c (by simp)
  have hd:=hx d (by simp)
  refine⟨vl a.toNat b.toNat c.toNat d.toNat,aHz (by omega) (by omega) (by omega) (by omega), ?_⟩
  rw[←aH9 (by omega) (by omega) (by omega) (by omega)]
  unfold w4
  rw[aX3 ha.1,aX3 hb.1,aX3 hc.1,aX3 hd.1]
theorem aVs {a b:Nat}(ha:a<115792089237316195423570985008687907853269984665640564039457584007913129639936)(hb:b<115792089237316195423570985008687907853269984665640564039457584007913129639936)(h:U a=U b):a=b:=by
 simp only[U,w4,aY4,and_true]at h
 omega
theorem aBv {a b:Nat}(ha:a<115792089237316195423570985008687907853269984665640564039457584007913129639936)(hb:b<115792089237316195423570985008687907853269984665640564039457584007913129639936):(U a == U b)=decide (a=b):=by
 by_cases h:a=b
 ·subst h;simp
 rw[decide_eq_false h]
 apply beq_eq_false_iff_ne.2
 exact fun e=>h (aVs ha hb e)
theorem aAt :U 0=[0,0,0,0]:=rfl
theorem a40 (a b c d:Nat):bX 4 (w4 a b c d) 0=some (a:Int):=rfl
theorem a41 (a b c d:Nat):bX 4 (w4 a b c d) 1=some (b:Int):=rfl
theorem a42 (a b c d:Nat):bX 4 (w4 a b c d) 2=some (c:Int):=rfl
theorem a43 (a b c d:Nat):bX 4 (w4 a b c d) 3=some (d:Int):=rfl
theorem bW (n:Nat):a9 4 (U n)=some (U n):=rfl
theorem q40 (a b c d:Int):bX 4 [a,b,c,d] 0=some a:=rfl
theorem q41 (a b c d:Int):bX 4 [a,b,c,d] 1=some b:=rfl
theorem q42 (a b c d:Int):bX 4 [a,b,c,d] 2=some c:=rfl
theorem q43 (a b c d:Int):bX 4 [a,b,c,d] 3=some d:=rfl
theorem t40 (a b c d x:Int):[a,b,c,d].set (aXN 0) x=[x,b,c,d]:=rfl
theorem t41 (a b c d x:Int):[a,b,c,d].set (aXN 1) x=[a,x,c,d]:=rfl
theorem t42 (a b c d x:Int):[a,b,c,d].set (aXN 2) x=[a,b,x,d]:=rfl
theorem t43 (a b c d x:Int):[a,b,c,d].set (aXN 3) x=[a,b,c,x]:=rfl
theorem r40 :aXm 4 (0:Int)=[0,0,0,0]:=rfl
theorem aU9 (a b c d:Nat):w4 a b c d=[(a:Int),(b:Int),(c:Int),(d:Int)]:=rfl
theorem d04 :decide ((0:Int)<4)=true:=rfl
theorem d14 :decide ((1:Int)<4)=true:=rfl
theorem d24 :decide ((2:Int)<4)=true:=rfl
theorem d34 :decide ((3:Int)<4)=true:=rfl
theorem d44 :decide ((4:Int)<4)=false:=rfl
theorem i01 :aXl.wrap (0+1)=1:=by decide +kernel
theorem i12 :aXl.wrap (1+1)=2:=by decide +kernel
theorem i23 :aXl.wrap (2+1)=3:=by decide +kernel
theorem i34 :aXl.wrap (3+1)=4:=by decide +kernel
theorem i32 :aXl.wrap (3-1)=2:=by decide +kernel
theorem i21 :aXl.wrap (2-1)=1:=by decide +kernel
theorem i10 :aXl.wrap (1-1)=0:=by decide +kernel
theorem i0m :aXl.wrap (0-1)= -1:=by decide +kernel
theorem wY {α:Type}(f:Nat→α){N:Nat}(h:70000≤N): ∃m,f N=f (m+1+1+1+1+1):=⟨N-5,by congr 1;omega⟩
theorem tQ {x y c:Nat}(hx:x<18446744073709551616)(hy:y<18446744073709551616)(hc:c≤1): ∃s k:Nat,tX (x:Int) (y:Int) (c:Int)=some ((s:Int),(k:Int))∧x+y+c=s+18446744073709551616*k∧s<18446744073709551616∧k≤1:=by
 refine⟨(x+y+c)%18446744073709551616,(x+y+c)/18446744073709551616, ?_,by omega,by omega,by omega⟩
 unfold tX
 simp only[aXp]
 rw[if_pos hc]
theorem yK {x y c:Nat}(hx:x<18446744073709551616)(hy:y<18446744073709551616)(hc:c≤1): ∃s k:Nat,aFz (x:Int) (y:Int) (c:Int)=some ((s:Int),(k:Int))∧x+18446744073709551616*k=y+c+s∧s<18446744073709551616∧k≤1:=by
 refine⟨(x+18446744073709551616-y-c)%18446744073709551616,if x<y+c then 1 else 0, ?_, ?_,by omega, ?_⟩
 ·unfold aFz
  simp only[aXp]
  rw[if_pos hc]
 ·split<;>omega
 split<;>omega
theorem aUI {N:Nat}(hN:70000≤N){a0 a1 a2 a3 b0 b1 b2 b3:Nat}(ha0:a0<18446744073709551616)(ha1:a1<18446744073709551616)(ha2:a2<18446744073709551616)(ha3:a3<18446744073709551616)(hb0:b0<18446744073709551616)(hb1:b1<18446744073709551616)(hb2:b2<18446744073709551616)(hb3:b3<18446744073709551616):
  ∃s0 s1 s2 s3 k:Nat,y9 N (w4 a0 a1 a2 a3) (w4 b0 b1 b2 b3)=some (w4 s0 s1 s2 s3,((k:Int) != 0))∧vl a0 a1 a2 a3+vl b0 b1 b2 b3=vl s0 s1 s2 s3+115792089237316195423570985008687907853269984665640564039457584007913129639936*k∧s0<18446744073709551616∧s1<18446744073709551616∧s2<18446744073709551616∧s3<18446744073709551616∧k≤1:=by
 obtain⟨s0,k0,e0,f0,g0,l0⟩:=tQ ha0 hb0 (aYi 1)
 obtain⟨s1,k1,e1,f1,g1,l1⟩:=tQ ha1 hb1 l0
 obtain⟨s2,k2,e2,f2,g2,l2⟩:=tQ ha2 hb2 l1
 obtain⟨s3,k3,e3,f3,g3,l3⟩:=tQ ha3 hb3 l2
 refine⟨s0,s1,s2,s3,k3, ?_,by unfold vl;omega,g0,g1,g2,g3,l3⟩
 obtain⟨m,hm⟩:=wY (fun q=>kT N (w4 a0 a1 a2 a3) (w4 b0 b1 b2 b3) q 0 0 (aXm 4 0)) hN
 unfold y9
 rw[hm]
 have e0':tX (a0:Int) (b0:Int) 0=some ((s0:Int),(k0:Int)):=e0
 simp only[kT,d7,a40,a41,a42,a43,q40,q41,q42,q43,t40,t41,t42,t43,r40,i01,i12,i23,i34,d04,d14,d24,d34,d44,if_true,aXk,if_false,aXj,e0',e1,e2,e3,aAx]
 rfl
theorem aSx {N:Nat}(hN:70000≤N){a b:Nat}(ha:a<115792089237316195423570985008687907853269984665640564039457584007913129639936)(hb:b<115792089237316195423570985008687907853269984665640564039457584007913129639936):y9 N (U a) (U b)=some (U ((a+b)%115792089237316195423570985008687907853269984665640564039457584007913129639936),decide (115792089237316195423570985008687907853269984665640564039457584007913129639936≤a+b)):=by
 obtain⟨a0,a1,a2,a3,x0,x1,x2,x3,ea,va⟩:=aBE ha
 obtain⟨b0,b1,b2,b3,y0,y1,y2,y3,eb,vb⟩:=aBE hb
 obtain⟨s0,s1,s2,s3,k,h1,h2,z0,z1,z2,z3,hk⟩:=aUI hN x0 x1 x2 x3 y0 y1 y2 y3
 have hv:=aHz z0 z1 z2 z3
 rw[ea,eb,h1,aH9 z0 z1 z2 z3,show(a+b)%115792089237316195423570985008687907853269984665640564039457584007913129639936=vl s0 s1 s2 s3 by omega]
 congr 2
 by_cases h:115792089237316195423570985008687907853269984665640564039457584007913129639936≤a+b
 ·rw[decide_eq_true h,show k=1 by omega];rfl
 rw[decide_eq_false h,show k=0 by omega];rfl
theorem aUk {N:Nat}(hN:70000≤N){a0 a1 a2 a3 b0 b1 b2 b3:Nat}(ha0:a0<18446744073709551616)(ha1:a1<18446744073709551616)(ha2:a2<18446744073709551616)(ha3:a3<18446744073709551616)(hb0:b0<18446744073709551616)(hb1:b1<18446744073709551616)(hb2:b2<18446744073709551616)(hb3:b3<18446744073709551616):
  ∃s0 s1 s2 s3 k:Nat,tK N (w4 a0 a1 a2 a3) (w4 b0 b1 b2 b3)=some (w4 s0 s1 s2 s3,((k:Int) != 0))∧vl a0 a1 a2 a3+115792089237316195423570985008687907853269984665640564039457584007913129639936*k=vl b0 b1 b2 b3+vl s0 s1 s2 s3∧s0<18446744073709551616∧s1<18446744073709551616∧s2<18446744073709551616∧s3<18446744073709551616∧k≤1:=by
 obtain⟨s0,k0,e0,f0,g0,l0⟩:=yK ha0 hb0 (aYi 1)
 obtain⟨s1,k1,e1,f1,g1,l1⟩:=yK ha1 hb1 l0
 obtain⟨s2,k2,e2,f2,g2,l2⟩:=yK ha2 hb2 l1
 obtain⟨s3,k3,e3,f3,g3,l3⟩:=yK ha3 hb3 l2
 refine⟨s0,s1,s2,s3,k3, ?_,by unfold vl;omega,g0,g1,g2,g3,l3⟩
 obtain⟨m,hm⟩:=wY (fun q=>kU N (w4 a0 a1 a2 a3) (w4 b0 b1 b2 b3) q 0 0 (aXm 4 0)) hN
 unfold tK
 rw[hm]
 have e0':aFz (a0:Int) (b0:Int) 0=some ((s0:Int),(k0:Int)):=e0
 simp only[kU,sQ,a40,a41,a42,a43,q40,q41,q42,q43,t40,t41,t42,t43,r40,i01,i12,i23,i34,d04,d14,d24,d34,d44,if_true,aXk,if_false,aXj,e0',e1,e2,e3,aAD]
 rfl
theorem aHH {N:Nat}(hN:70000≤N){a b:Nat}(ha:a<115792089237316195423570985008687907853269984665640564039457584007913129639936)(hb:b<115792089237316195423570985008687907853269984665640564039457584007913129639936):tK N (U a) (U b)=some (U ((a+115792089237316195423570985008687907853269984665640564039457584007913129639936-b)%115792089237316195423570985008687907853269984665640564039457584007913129639936),decide (a<b)):=by
 obtain⟨a0,a1,a2,a3,x0,x1,x2,x3,ea,va⟩:=aBE ha
 obtain⟨b0,b1,b2,b3,y0,y1,y2,y3,eb,vb⟩:=aBE hb
 obtain⟨s0,s1,s2,s3,k,h1,h2,z0,z1,z2,z3,hk⟩:=aUk hN x0 x1 x2 x3 y0 y1 y2 y3
 have hv:=aHz z0 z1 z2 z3
 rw[ea,eb,h1,aH9 z0 z1 z2 z3,show(a+115792089237316195423570985008687907853269984665640564039457584007913129639936-b)%115792089237316195423570985008687907853269984665640564039457584007913129639936=vl s0 s1 s2 s3 by omega]
 congr 2
 by_cases h:a<b
 ·rw[decide_eq_true h,show k=1 by omega];rfl
 rw[decide_eq_false h,show k=0 by omega];rfl
theorem aAN {N:Nat}(hN:70000≤N){a b:Nat}(ha:a<115792089237316195423570985008687907853269984665640564039457584007913129639936)(hb:b<115792089237316195423570985008687907853269984665640564039457584007913129639936):pR N (U a) (U b)=some (if a<b then -1 else if b<a then 1 else 0):=by
 obtain⟨a0,a1,a2,a3,x0,x1,x2,x3,ea,va⟩:=aBE ha
 obtain⟨b0,b1,b2,b3,y0,y1,y2,y3,eb,vb⟩:=aBE hb
 rw[ea,eb]
 obtain⟨m,hm⟩:=wY (fun q=>oU N (w4 a0 a1 a2 a3) (w4 b0 b1 b2 b3) q 3) hN
 unfold pR
 rw[hm]
 unfold vl at va vb
 simp only[oU,a40,a41,a42,a43,i32,i21,i10,i0m,show decide ((0:Int)≤3)=true from rfl,show decide ((0:Int)≤2)=true from rfl,show decide ((0:Int)≤1)=true from rfl,show decide ((0:Int)≤0)=true from rfl,show decide ((0:Int)≤ -1)=false from rfl,if_true,aXk,if_false,aXj,aCU,decide_eq_true_eq,Int.ofNat_lt]
 by_cases c3:a3<b3
 ·rw[if_pos c3,if_pos (by omega)];rfl
 rw[if_neg c3]
 by_cases d3:b3<a3
 ·rw[if_pos d3,if_neg (by omega),if_pos (by omega)];rfl
 rw[if_neg d3]
 by_cases c2:a2<b2
 ·rw[if_pos c2,if_pos (by omega)];rfl
 rw[if_neg c2]
 by_cases d2:b2<a2
 ·rw[if_pos d2,if_neg (by omega),if_pos (by omega)];rfl
 rw[if_neg d2]
 by_cases c1:a1<b1
 ·rw[if_pos c1,if_pos (by omega)];rfl
 rw[if_neg c1]
 by_cases d1:b1<a1
 ·rw[if_pos d1,if_neg (by omega),if_pos (by omega)];rfl
 rw[if_neg d1]
 by_cases c0:a0<b0
 ·rw[if_pos c0,if_pos (by omega)];rfl
 rw[if_neg c0]
 by_cases d0:b0<a0
 ·rw[if_pos d0,if_neg (by omega),if_pos (by omega)];rfl
 rw[if_neg d0,if_neg (by omega),if_neg (by omega)];rfl
theorem aII {x l:Nat}(hx:x<18446744073709551616)(hl:l≤1): ∃y s k:Nat,shl .u64 (x:Int) 1=some (y:Int)∧shr .u64 (x:Int) 63=some (k:Int)∧bits .or .u64 (y:Int) (l:Int)=(s:Int)∧2*x+l=s+18446744073709551616*k∧s<18446744073709551616∧k≤1:=by
 have h1:x*2^1%18446744073709551616=(x%9223372036854775808)*2^1:=by omega
 refine⟨x*2^1%18446744073709551616,(x%9223372036854775808)*2^1+l,x/9223372036854775808,aFj rfl x 1,aBc x 63 hx, ?_,by omega,by omega,by omega⟩
 rw[aAG rfl _ _ (show x*2^1%18446744073709551616<2^64 by omega) (show l<2^64 by omega),h1]
 congr 1
 rw[aXC,←aXG (show l<2^1 by omega)]
theorem aSq {N:Nat}(hN:70000≤N){a l:Nat}(ha:a<115792089237316195423570985008687907853269984665640564039457584007913129639936)(hl:l≤1): ∃k:Nat,tF N (U a) (l:Int)=some (U ((2*a+l)%115792089237316195423570985008687907853269984665640564039457584007913129639936),(k:Int))∧k=(2*a+l)/115792089237316195423570985008687907853269984665640564039457584007913129639936:=by
 obtain⟨a0,a1,a2,a3,x0,x1,x2,x3,ea,va⟩:=aBE ha
 obtain⟨y0,s0,k0,e0,f0,g0,h0,j0,l0⟩:=aII x0 hl
 obtain⟨y1,s1,k1,e1,f1,g1,h1,j1,l1⟩:=aII x1 l0
 obtain⟨y2,s2,k2,e2,f2,g2,h2,j2,l2⟩:=aII x2 l1
 obtain⟨y3,s3,k3,e3,f3,g3,h3,j3,l3⟩:=aII x3 l2
 unfold vl at va
 have hv:=aHz j0 j1 j2 j3
 have hvv:2*a+l=vl s0 s1 s2 s3+115792089237316195423570985008687907853269984665640564039457584007913129639936*k3:=by unfold vl;omega
 refine⟨k3, ?_,by omega⟩
 rw[ea,show(2*a+l)%115792089237316195423570985008687907853269984665640564039457584007913129639936=vl s0 s1 s2 s3 by omega,←aH9 j0 j1 j2 j3]
 obtain⟨m,hm⟩:=wY (fun q=>oJ N q (l:Int) 0 (w4 a0 a1 a2 a3)) hN
 unfold tF
 rw[hm]
 simp only[oJ,aU9,q40,q41,q42,q43,t40,t41,t42,t43,i01,i12,i23,i34,d04,d14,d24,d34,d44,if_true,aXk,if_false,aXj,e0,f0,g0,e1,f1,g1,e2,f2,g2,e3,f3,g3,zV]
 rfl
theorem um {a b:Nat}(h:a*b<18446744073709551616):aXB.wrap ((a:Int)*(b:Int))=((a*b:Nat):Int):=by rw[←Int.natCast_mul,aA5 (by omega) (by omega)]
theorem up {a b:Nat}(h:a+b<18446744073709551616):aXB.wrap ((a:Int)+(b:Int))=((a+b:Nat):Int):=by rw[←Int.natCast_add,aA5 (by omega) (by omega)]
theorem aOA {x:Nat}(h:x<18446744073709551616):bits .and .u64 (x:Int) 4294967295=((x%4294967296:Nat):Int):=by
 rw[show(4294967295:Int)=((4294967295:Nat):Int)from rfl,aGY (k:= .u64) rfl x _ (show x<2^64 from h) (by decide),show 4294967295=2^32-1 from rfl,Nat.and_two_pow_sub_one_eq_mod]
theorem aGW {x:Nat}(h:x<18446744073709551616):shr .u64 (x:Int) 32=some ((x/4294967296:Nat):Int):=aBc x 32 h
theorem aRz {N x y:Nat}(hx:x<18446744073709551616)(hy:y<18446744073709551616): ∃h l:Nat,mS N (x:Int) (y:Int)=some ((h:Int),(l:Int))∧x*y=l+18446744073709551616*h∧l<18446744073709551616∧h<18446744073709551616:=by
 have x0:x%4294967296≤4294967295:=by omega
 have y0:y%4294967296≤4294967295:=by omega
 have x1:x/4294967296≤4294967295:=by omega
 have y1:y/4294967296≤4294967295:=by omega
 have ex:x=4294967296*(x/4294967296)+x%4294967296:=by omega
 have ey:y=4294967296*(y/4294967296)+y%4294967296:=by omega
 have lo:aXB.wrap ((x:Int)*(y:Int))=((x*y%18446744073709551616:Nat):Int):=by rw[←Int.natCast_mul,aY0];omega
 unfold mS
 rw[aOA hx,aOA hy,aGW hx,aGW hy,lo]
 simp only[aXj]
 generalize x/4294967296=u1 at *
 generalize x%4294967296=u0 at *
 generalize y/4294967296=v1 at *
 generalize y%4294967296=v0 at *
 have p00:=aX0 x0 y0
 have p10:=aX0 x1 y0
 have p01:=aX0 x0 y1
 have p11:=aX0 x1 y1
 have hxy:x*y=18446744073709551616*(u1*v1)+4294967296*(u1*v0)+4294967296*(u0*v1)+u0*v0:=by
  rw[ex,ey,aX2,aYs,aYs,Nat.mul_mul_mul_comm,aYc 4294967296 u1 v0,aXZ u0 4294967296 v1]
  omega
 rw[um (a:=u0) (b:=v0) (by omega),um (a:=u1) (b:=v0) (by omega),um (a:=u0) (b:=v1) (by omega),um (a:=u1) (b:=v1) (by omega)]
 clear ex ey lo
 generalize u0*v0=q00 at *
 generalize u1*v0=q10 at *
 generalize u0*v1=q01 at *
 generalize u1*v1=q11 at *
 rw[aGW (x:=q00) (by omega)]
 simp only[aXj]
 rw[up (a:=q10) (by omega),aGW (x:=q10+q00/4294967296) (by omega),aOA (x:=q10+q00/4294967296) (by omega)]
 simp only[aXj]
 rw[up (a:=(q10+q00/4294967296)%4294967296) (by omega),aGW (x:=(q10+q00/4294967296)%4294967296+q01) (by omega)]
 simp only[aXj]
 rw[up (a:=q11) (by omega),up (a:=q11+(q10+q00/4294967296)/4294967296) (by omega)]
 exact⟨_,_,rfl,by omega,by omega,by omega⟩
theorem t3 {N A b w c:Nat}(hA:A<18446744073709551616)(hb:b<18446744073709551616)(hw:w<18446744073709551616)(hc:c<18446744073709551616): ∃h l s k s' k' d:Nat,mS N (A:Int) (b:Int)=some ((h:Int),(l:Int))∧tX (l:Int) (w:Int) 0=some ((s:Int),(k:Int))∧tX (s:Int) (c:Int) 0=some ((s':Int),(k':Int))∧
  aXB.wrap (aXB.wrap ((h:Int)+(k:Int))+(k':Int))=(d:Int)∧A*b+w+c=s'+18446744073709551616*d∧s'<18446744073709551616∧d<18446744073709551616:=by
 obtain⟨h,l,e1,f1,l1,h1⟩:=aRz (N:=N) hA hb
 obtain⟨s,k,e2,f2,l2,h2⟩:=tQ l1 hw (aYi 1)
 obtain⟨s',k',e3,f3,l3,h3⟩:=tQ l2 hc (aYi 1)
 have hP:=aX0 (aYj hA) (aYj hb)
 simp only[aYN,Nat.reduceSub,Nat.reduceMul]at hP
 have hd:h+k+k'<18446744073709551616:=by omega
 refine⟨h,l,s,k,s',k',h+k+k',e1,e2,e3, ?_,by omega,l3,hd⟩
 rw[up (by omega),up (by omega)]
theorem q80 (a b c d e f g h:Int):bX 8 [a,b,c,d,e,f,g,h] 0=some a:=rfl
theorem q81 (a b c d e f g h:Int):bX 8 [a,b,c,d,e,f,g,h] 1=some b:=rfl
theorem q82 (a b c d e f g h:Int):bX 8 [a,b,c,d,e,f,g,h] 2=some c:=rfl
theorem q83 (a b c d e f g h:Int):bX 8 [a,b,c,d,e,f,g,h] 3=some d:=rfl
theorem q84 (a b c d e f g h:Int):bX 8 [a,b,c,d,e,f,g,h] 4=some e:=rfl
theorem q85 (a b c d e f g h:Int):bX 8 [a,b,c,d,e,f,g,h] 5=some f:=rfl
theorem q86 (a b c d e f g h:Int):bX 8 [a,b,c,d,e,f,g,h] 6=some g:=rfl
theorem q87 (a b c d e f g h:Int):bX 8 [a,b,c,d,e,f,g,h] 7=some h:=rfl
theorem t80 (a b c d e f g h x:Int):[a,b,c,d,e,f,g,h].set (aXN 0) x=[x,b,c,d,e,f,g,h]:=rfl
theorem t81 (a b c d e f g h x:Int):[a,b,c,d,e,f,g,h].set (aXN 1) x=[a,x,c,d,e,f,g,h]:=rfl
theorem t82 (a b c d e f g h x:Int):[a,b,c,d,e,f,g,h].set (aXN 2) x=[a,b,x,d,e,f,g,h]:=rfl
theorem t83 (a b c d e f g h x:Int):[a,b,c,d,e,f,g,h].set (aXN 3) x=[a,b,c,x,e,f,g,h]:=rfl
theorem t84 (a b c d e f g h x:Int):[a,b,c,d,e,f,g,h].set (aXN 4) x=[a,b,c,d,x,f,g,h]:=rfl
theorem t85 (a b c d e f g h x:Int):[a,b,c,d,e,f,g,h].set (aXN 5) x=[a,b,c,d,e,x,g,h]:=rfl
theorem t86 (a b c d e f g h x:Int):[a,b,c,d,e,f,g,h].set (aXN 6) x=[a,b,c,d,e,f,x,h]:=rfl
theorem t87 (a b c d e f g h x:Int):[a,b,c,d,e,f,g,h].set (aXN 7) x=[a,b,c,d,e,f,g,x]:=rfl
theorem x00 :aXl.wrap (0+0)=0:=by decide +kernel
theorem x01 :aXl.wrap (0+1)=1:=by decide +kernel
theorem x02 :aXl.wrap (0+2)=2:=by decide +kernel
theorem x03 :aXl.wrap (0+3)=3:=by decide +kernel
theorem x04 :aXl.wrap (0+4)=4:=by decide +kernel
theorem cD :aXl.wrap (1+0)=1:=by decide +kernel
theorem b4 :aXl.wrap (1+1)=2:=by decide +kernel
theorem fR :aXl.wrap (1+2)=3:=by decide +kernel
theorem dA :aXl.wrap (1+3)=4:=by decide +kernel
theorem bQ :aXl.wrap (1+4)=5:=by decide +kernel
theorem bT :aXl.wrap (2+0)=2:=by decide +kernel
theorem d5 :aXl.wrap (2+1)=3:=by decide +kernel
theorem bV :aXl.wrap (2+2)=4:=by decide +kernel
theorem iD :aXl.wrap (2+3)=5:=by decide +kernel
theorem fG :aXl.wrap (2+4)=6:=by decide +kernel
theorem jL :aXl.wrap (3+0)=3:=by decide +kernel
theorem eG :aXl.wrap (3+1)=4:=by decide +kernel
theorem lB :aXl.wrap (3+2)=5:=by decide +kernel
theorem iA :aXl.wrap (3+3)=6:=by decide +kernel
theorem cU :aXl.wrap (3+4)=7:=by decide +kernel
theorem aXa {N:Nat}(hN:70000≤N){va:List Int}{A b0 b1 b2 b3 w0 w1 w2 w3 w4' w5 w6 w7:Nat}(hA:bX 4 va 0=some (A:Int))(gA:A<18446744073709551616)(g0:b0<18446744073709551616)(g1:b1<18446744073709551616)(g2:b2<18446744073709551616)(g3:b3<18446744073709551616)(h0:w0<18446744073709551616)(h1:w1<18446744073709551616)(h2:w2<18446744073709551616)(h3:w3<18446744073709551616):
  ∃s0 s1 s2 s3 c:Nat,dK N va (w4 b0 b1 b2 b3) 0 N 0 0 [(w0:Int),(w1:Int),(w2:Int),(w3:Int),(w4':Int),(w5:Int),(w6:Int),(w7:Int)]=some ((c:Int),[(s0:Int),(s1:Int),(s2:Int),(s3:Int),(w4':Int),(w5:Int),(w6:Int),(w7:Int)])∧vl w0 w1 w2 w3+(A*b0+18446744073709551616*(A*b1)+340282366920938463463374607431768211456*(A*b2)+6277101735386680763835789423207666416102355444464034512896*(A*b3))=vl s0 s1 s2 s3+115792089237316195423570985008687907853269984665640564039457584007913129639936*c∧s0<18446744073709551616∧s1<18446744073709551616∧s2<18446744073709551616∧s3<18446744073709551616∧c<18446744073709551616:=by
 obtain⟨hh0,ll0,ss0,kk0,s0,jj0,c0,e0,f0,m0,n0,v0,y0,z0⟩:=t3 (N:=N) gA g0 h0 (show(0:Nat)<18446744073709551616 by omega)
 obtain⟨hh1,ll1,ss1,kk1,s1,jj1,c1,e1,f1,m1,n1,v1,y1,z1⟩:=t3 (N:=N) gA g1 h1 z0
 obtain⟨hh2,ll2,ss2,kk2,s2,jj2,c2,e2,f2,m2,n2,v2,y2,z2⟩:=t3 (N:=N) gA g2 h2 z1
 obtain⟨hh3,ll3,ss3,kk3,s3,jj3,c3,e3,f3,m3,n3,v3,y3,z3⟩:=t3 (N:=N) gA g3 h3 z2
 refine⟨s0,s1,s2,s3,c3, ?_,by unfold vl;omega,y0,y1,y2,y3,z3⟩
 obtain⟨m,hm⟩:=wY (fun q=>dK N va (w4 b0 b1 b2 b3) 0 q 0 0 [(w0:Int),(w1:Int),(w2:Int),(w3:Int),(w4':Int),(w5:Int),(w6:Int),(w7:Int)]) hN
 rw[hm]
 have m0':tX (ss0:Int) 0 0=some ((s0:Int),(jj0:Int)):=m0
 simp only[dK,d7,hA,a40,a41,a42,a43,q80,q81,q82,q83,q84,q85,q86,q87,t80,t81,t82,t83,t84,t85,t86,t87,i01,i12,i23,i34,d04,d14,d24,d34,d44,x00,x01,x02,x03,x04,cD,b4,fR,dA,bQ,bT,d5,bV,iD,fG,jL,eG,lB,iA,cU,if_true,aXk,if_false,aXj,e0,e1,e2,e3,f0,f1,f2,f3,m0',m1,m2,m3,n0,n1,n2,n3]
theorem aWf {N:Nat}(hN:70000≤N){va:List Int}{A b0 b1 b2 b3 w0 w1 w2 w3 w4' w5 w6 w7:Nat}(hA:bX 4 va 1=some (A:Int))(gA:A<18446744073709551616)(g0:b0<18446744073709551616)(g1:b1<18446744073709551616)(g2:b2<18446744073709551616)(g3:b3<18446744073709551616)(h0:w1<18446744073709551616)(h1:w2<18446744073709551616)(h2:w3<18446744073709551616)(h3:w4'<18446744073709551616):
  ∃s0 s1 s2 s3 c:Nat,dK N va (w4 b0 b1 b2 b3) 1 N 0 0 [(w0:Int),(w1:Int),(w2:Int),(w3:Int),(w4':Int),(w5:Int),(w6:Int),(w7:Int)]=some ((c:Int),[(w0:Int),(s0:Int),(s1:Int),(s2:Int),(s3:Int),(w5:Int),(w6:Int),(w7:Int)])∧vl w1 w2 w3 w4'+(A*b0+18446744073709551616*(A*b1)+340282366920938463463374607431768211456*(A*b2)+6277101735386680763835789423207666416102355444464034512896*(A*b3))=vl s0 s1 s2 s3+115792089237316195423570985008687907853269984665640564039457584007913129639936*c∧s0<18446744073709551616∧s1<18446744073709551616∧s2<18446744073709551616∧s3<18446744073709551616∧c<18446744073709551616:=by
 obtain⟨hh0,ll0,ss0,kk0,s0,jj0,c0,e0,f0,m0,n0,v0,y0,z0⟩:=t3 (N:=N) gA g0 h0 (show(0:Nat)<18446744073709551616 by omega)
 obtain⟨hh1,ll1,ss1,kk1,s1,jj1,c1,e1,f1,m1,n1,v1,y1,z1⟩:=t3 (N:=N) gA g1 h1 z0
 obtain⟨hh2,ll2,ss2,kk2,s2,jj2,c2,e2,f2,m2,n2,v2,y2,z2⟩:=t3 (N:=N) gA g2 h2 z1
 obtain⟨hh3,ll3,ss3,kk3,s3,jj3,c3,e3,f3,m3,n3,v3,y3,z3⟩:=t3 (N:=N) gA g3 h3 z2
 refine⟨s0,s1,s2,s3,c3, ?_,by unfold vl;omega,y0,y1,y2,y3,z3⟩
 obtain⟨m,hm⟩:=wY (fun q=>dK N va (w4 b0 b1 b2 b3) 1 q 0 0 [(w0:Int),(w1:Int),(w2:Int),(w3:Int),(w4':Int),(w5:Int),(w6:Int),(w7:Int)]) hN
 rw[hm]
 have m0':tX (ss0:Int) 0 0=some ((s0:Int),(jj0:Int)):=m0
 simp only[dK,d7,hA,a40,a41,a42,a43,q80,q81,q82,q83,q84,q85,q86,q87,t80,t81,t82,t83,t84,t85,t86,t87,i01,i12,i23,i34,d04,d14,d24,d34,d44,x00,x01,x02,x03,x04,cD,b4,fR,dA,bQ,bT,d5,bV,iD,fG,jL,eG,lB,iA,cU,if_true,aXk,if_false,aXj,e0,e1,e2,e3,f0,f1,f2,f3,m0',m1,m2,m3,n0,n1,n2,n3]
theorem aWT {N:Nat}(hN:70000≤N){va:List Int}{A b0 b1 b2 b3 w0 w1 w2 w3 w4' w5 w6 w7:Nat}(hA:bX 4 va 2=some (A:Int))(gA:A<18446744073709551616)(g0:b0<18446744073709551616)(g1:b1<18446744073709551616)(g2:b2<18446744073709551616)(g3:b3<18446744073709551616)(h0:w2<18446744073709551616)(h1:w3<18446744073709551616)(h2:w4'<18446744073709551616)(h3:w5<18446744073709551616):
  ∃s0 s1 s2 s3 c:Nat,dK N va (w4 b0 b1 b2 b3) 2 N 0 0 [(w0:Int),(w1:Int),(w2:Int),(w3:Int),(w4':Int),(w5:Int),(w6:Int),(w7:Int)]=some ((c:Int),[(w0:Int),(w1:Int),(s0:Int),(s1:Int),(s2:Int),(s3:Int),(w6:Int),(w7:Int)])∧vl w2 w3 w4' w5+(A*b0+18446744073709551616*(A*b1)+340282366920938463463374607431768211456*(A*b2)+6277101735386680763835789423207666416102355444464034512896*(A*b3))=vl s0 s1 s2 s3+115792089237316195423570985008687907853269984665640564039457584007913129639936*c∧s0<18446744073709551616∧s1<18446744073709551616∧s2<18446744073709551616∧s3<18446744073709551616∧c<18446744073709551616:=by
 obtain⟨hh0,ll0,ss0,kk0,s0,jj0,c0,e0,f0,m0,n0,v0,y0,z0⟩:=t3 (N:=N) gA g0 h0 (show(0:Nat)<18446744073709551616 by omega)
 obtain⟨hh1,ll1,ss1,kk1,s1,jj1,c1,e1,f1,m1,n1,v1,y1,z1⟩:=t3 (N:=N) gA g1 h1 z0
 obtain⟨hh2,ll2,ss2,kk2,s2,jj2,c2,e2,f2,m2,n2,v2,y2,z2⟩:=t3 (N:=N) gA g2 h2 z1
 obtain⟨hh3,ll3,ss3,kk3,s3,jj3,c3,e3,f3,m3,n3,v3,y3,z3⟩:=t3 (N:=N) gA g3 h3 z2
 refine⟨s0,s1,s2,s3,c3, ?_,by unfold vl;omega,y0,y1,y2,y3,z3⟩
 obtain⟨m,hm⟩:=wY (fun q=>dK N va (w4 b0 b1 b2 b3) 2 q 0 0 [(w0:Int),(w1:Int),(w2:Int),(w3:Int),(w4':Int),(w5:Int),(w6:Int),(w7:Int)]) hN
 rw[hm]
 have m0':tX (ss0:Int) 0 0=some ((s0:Int),(jj0:Int)):=m0
 simp only[dK,d7,hA,a40,a41,a42,a43,q80,q81,q82,q83,q84,q85,q86,q87,t80,t81,t82,t83,t84,t85,t86,t87,i01,i12,i23,i34,d04,d14,d24,d34,d44,x00,x01,x02,x03,x04,cD,b4,fR,dA,bQ,bT,d5,bV,iD,fG,jL,eG,lB,iA,cU,if_true,aXk,if_false,aXj,e0,e1,e2,e3,f0,f1,f2,f3,m0',m1,m2,m3,n0,n1,n2,n3]
theorem aWU {N:Nat}(hN:70000≤N){va:List Int}{A b0 b1 b2 b3 w0 w1 w2 w3 w4' w5 w6 w7:Nat}(hA:bX 4 va 3=some (A:Int))(gA:A<18446744073709551616)(g0:b0<18446744073709551616)(g1:b1<18446744073709551616)(g2:b2<18446744073709551616)(g3:b3<18446744073709551616)(h0:w3<18446744073709551616)(h1:w4'<18446744073709551616)(h2:w5<18446744073709551616)(h3:w6<18446744073709551616):
  ∃s0 s1 s2 s3 c:Nat,dK N va (w4 b0 b1 b2 b3) 3 N 0 0 [(w0:Int),(w1:Int),(w2:Int),(w3:Int),(w4':Int),(w5:Int),(w6:Int),(w7:Int)]=some ((c:Int),[(w0:Int),(w1:Int),(w2:Int),(s0:Int),(s1:Int),(s2:Int),(s3:Int),(w7:Int)])∧vl w3 w4' w5 w6+(A*b0+18446744073709551616*(A*b1)+340282366920938463463374607431768211456*(A*b2)+6277101735386680763835789423207666416102355444464034512896*(A*b3))=vl s0 s1 s2 s3+115792089237316195423570985008687907853269984665640564039457584007913129639936*c∧s0<18446744073709551616∧s1<18446744073709551616∧s2<18446744073709551616∧s3<18446744073709551616∧c<18446744073709551616:=by
 obtain⟨hh0,ll0,ss0,kk0,s0,jj0,c0,e0,f0,m0,n0,v0,y0,z0⟩:=t3 (N:=N) gA g0 h0 (show(0:Nat)<18446744073709551616 by omega)
 obtain⟨hh1,ll1,ss1,kk1,s1,jj1,c1,e1,f1,m1,n1,v1,y1,z1⟩:=t3 (N:=N) gA g1 h1 z0
 obtain⟨hh2,ll2,ss2,kk2,s2,jj2,c2,e2,f2,m2,n2,v2,y2,z2⟩:=t3 (N:=N) gA g2 h2 z1
 obtain⟨hh3,ll3,ss3,kk3,s3,jj3,c3,e3,f3,m3,n3,v3,y3,z3⟩:=t3 (N:=N) gA g3 h3 z2
 refine⟨s0,s1,s2,s3,c3, ?_,by unfold vl;omega,y0,y1,y2,y3,z3⟩
 obtain⟨m,hm⟩:=wY (fun q=>dK N va (w4 b0 b1 b2 b3) 3 q 0 0 [(w0:Int),(w1:Int),(w2:Int),(w3:Int),(w4':Int),(w5:Int),(w6:Int),(w7:Int)]) hN
 rw[hm]
 have m0':tX (ss0:Int) 0 0=some ((s0:Int),(jj0:Int)):=m0
 simp only[dK,d7,hA,a40,a41,a42,a43,q80,q81,q82,q83,q84,q85,q86,q87,t80,t81,t82,t83,t84,t85,t86,t87,i01,i12,i23,i34,d04,d14,d24,d34,d44,x00,x01,x02,x03,x04,cD,b4,fR,dA,bQ,bT,d5,bV,iD,fG,jL,eG,lB,iA,cU,if_true,aXk,if_false,aXj,e0,e1,e2,e3,f0,f1,f2,f3,m0',m1,m2,m3,n0,n1,n2,n3]
theorem aUH (A b0 b1 b2 b3:Nat):A*vl b0 b1 b2 b3=A*b0+18446744073709551616*(A*b1)+340282366920938463463374607431768211456*(A*b2)+6277101735386680763835789423207666416102355444464034512896*(A*b3):=by
 unfold vl
 rw[aYs,aYs,aYs,aXZ A 18446744073709551616 b1,aXZ A 340282366920938463463374607431768211456 b2,aXZ A 6277101735386680763835789423207666416102355444464034512896 b3]
theorem aSm {N:Nat}(hN:70000≤N){a b:Nat}(ha:a<115792089237316195423570985008687907853269984665640564039457584007913129639936)(hb:b<115792089237316195423570985008687907853269984665640564039457584007913129639936):aA4 N (U a) (U b)=some (U (a*b/115792089237316195423570985008687907853269984665640564039457584007913129639936),U (a*b%115792089237316195423570985008687907853269984665640564039457584007913129639936)):=by
 obtain⟨a0,a1,a2,a3,x0,x1,x2,x3,ea,va⟩:=aBE ha
 obtain⟨b0,b1,b2,b3,y0,y1,y2,y3,eb,vb⟩:=aBE hb
 have zW:(0:Nat)<18446744073709551616:=by omega
 obtain⟨s00,s01,s02,s03,c0,e0,f0,g00,g01,g02,g03,h0⟩:=aXa (N:=N) hN (w0:=0) (w1:=0) (w2:=0) (w3:=0) (w4':=0) (w5:=0) (w6:=0) (w7:=0) (a40 a0 a1 a2 a3) x0 y0 y1 y2 y3 zW zW zW zW
 obtain⟨s10,s11,s12,s13,c1,e1,f1,g10,g11,g12,g13,h1⟩:=aWf (N:=N) hN (w0:=s00) (w5:=0) (w6:=0) (w7:=0) (a41 a0 a1 a2 a3) x1 y0 y1 y2 y3 g01 g02 g03 h0
 obtain⟨s20,s21,s22,s23,c2,e2,f2,g20,g21,g22,g23,h2⟩:=aWT (N:=N) hN (w0:=s00) (w1:=s10) (w6:=0) (w7:=0) (a42 a0 a1 a2 a3) x2 y0 y1 y2 y3 g11 g12 g13 h1
 obtain⟨s30,s31,s32,s33,c3,e3,f3,g30,g31,g32,g33,h3⟩:=aWU (N:=N) hN (w0:=s00) (w1:=s10) (w2:=s20) (w7:=0) (a43 a0 a1 a2 a3) x3 y0 y1 y2 y3 g21 g22 g23 h2
 rw[←aUH]at f0 f1 f2 f3
 rw[←vb]at f0 f1 f2 f3
 have hab:a*b=a0*b+18446744073709551616*(a1*b)+340282366920938463463374607431768211456*(a2*b)+6277101735386680763835789423207666416102355444464034512896*(a3*b):=by
  rw[va];unfold vl
  rw[aX2,aX2,aX2,aYc,aYc,aYc]
 have k1:=aHz g00 g10 g20 g30
 have hsum:a*b=vl s00 s10 s20 s30+115792089237316195423570985008687907853269984665640564039457584007913129639936*vl s31 s32 s33 c3:=by
  rw[hab]
  unfold vl at *
  omega
 rw[ea,eb,show a*b/115792089237316195423570985008687907853269984665640564039457584007913129639936=vl s31 s32 s33 c3 by omega,show a*b%115792089237316195423570985008687907853269984665640564039457584007913129639936=vl s00 s10 s20 s30 by omega,←aH9 g00 g10 g20 g30,←aH9 g31 g32 g33 h3]
 obtain⟨m,hm⟩:=wY (fun q=>kW N (w4 a0 a1 a2 a3) (w4 b0 b1 b2 b3) q 0 (aXm 8 0)) hN
 unfold aA4
 rw[hm]
 have e0':dK N (w4 a0 a1 a2 a3) (w4 b0 b1 b2 b3) 0 N 0 0 [0,0,0,0,0,0,0,0]=some ((c0:Int),[(s00:Int),(s01:Int),(s02:Int),(s03:Int),0,0,0,0]):=e0
 have e1':dK N (w4 a0 a1 a2 a3) (w4 b0 b1 b2 b3) 1 N 0 0 [(s00:Int),(s01:Int),(s02:Int),(s03:Int),(c0:Int),0,0,0]=some ((c1:Int),[(s00:Int),(s10:Int),(s11:Int),(s12:Int),(s13:Int),0,0,0]):=e1
 have e2':dK N (w4 a0 a1 a2 a3) (w4 b0 b1 b2 b3) 2 N 0 0 [(s00:Int),(s10:Int),(s11:Int),(s12:Int),(s13:Int),(c1:Int),0,0]=some ((c2:Int),[(s00:Int),(s10:Int),(s20:Int),(s21:Int),(s22:Int),(s23:Int),0,0]):=e2
 have e3':dK N (w4 a0 a1 a2 a3) (w4 b0 b1 b2 b3) 3 N 0 0 [(s00:Int),(s10:Int),(s20:Int),(s21:Int),(s22:Int),(s23:Int),(c2:Int),0]=some ((c3:Int),[(s00:Int),(s10:Int),(s20:Int),(s30:Int),(s31:Int),(s32:Int),(s33:Int),0]):=e3
 simp only[kW,aAs,aAl,show aXm 8 (0:Int)=[0,0,0,0,0,0,0,0]from rfl,e0',e1',e2',e3',q84,q85,q86,q87,t84,t85,t86,t87,i01,i12,i23,i34,d04,d14,d24,d34,d44,x04,bQ,fG,cU,if_true,aXk,if_false,aXj]
 rfl
theorem aFo :(2:Nat)^256=115792089237316195423570985008687907853269984665640564039457584007913129639936:=by decide +kernel
theorem aUl {K v:Nat}(hK:K+1≤256)(hv:v<2^(K+1)): ∃t v',t≤1∧v'<2^K∧v=t*2^K+v'∧2*(v*2^(256-(K+1)))=t*115792089237316195423570985008687907853269984665640564039457584007913129639936+v'*2^(256-K)∧v'*2^(256-K)<115792089237316195423570985008687907853269984665640564039457584007913129639936:=by
 have hp:0<2^K:=aX4 (by omega)
 rw[aXS]at hv
 have h256:2^K*2^(256-K)=115792089237316195423570985008687907853269984665640564039457584007913129639936:=by rw[←aX5,show K+(256-K)=256 by omega,aFo]
 have hlt:v%2^K<2^K:=aXu _ hp
 refine⟨v/2^K,v%2^K, ?_,hlt, ?_, ?_, ?_⟩
 ·exact Nat.le_of_lt_succ ((aXT hp).2 (by rw[aXC];exact hv))
 ·rw[aXC];exact(aYt v (2^K)).symm
 ·have hx:2^(256-K)=2*2^(256-(K+1)):=by rw[show 256-K=(256-(K+1))+1 by omega,aXS,aXC]
  rw[aXZ,←hx]
  conv=>lhs;rw[←aYt v (2^K),aX2,aYU,h256]
  rw[aXC]
 rw[←h256]
 exact Nat.mul_lt_mul_of_pos_right hlt (aX4 (by omega))
theorem z8 {α:Type}{n:Nat}{l:List α}(h:l.length=n):a9 n l=some l:=by unfold a9;rw[if_pos h]
theorem aIs (T b p v:Nat):((T%b)*p+v)%b=(T*p+v)%b:=by
 rw[aYO,aYP,aY5,←aYP,←aYO]
theorem aJk (a b:Nat):decide ((0:Int)≤if a<b then -1 else if b<a then 1 else 0)=decide (b≤a):=by
 by_cases h:a<b
 ·rw[if_pos h,decide_eq_false (show¬b≤a by omega)];rfl
 rw[if_neg h,decide_eq_true (show b≤a by omega)]
 split<;>rfl
theorem aLW (a b:Nat):decide ((if a<b then(-1:Int)else if b<a then 1 else 0)<0)=decide (a<b):=by
 by_cases h:a<b
 ·rw[if_pos h,decide_eq_true h];rfl
 rw[if_neg h,decide_eq_false h]
 split<;>rfl
theorem aSo (a b:Nat):decide ((if a<b then(-1:Int)else if b<a then 1 else 0)≤0)=decide (a≤b):=by
 by_cases h:a<b
 ·rw[if_pos h,decide_eq_true (show a≤b by omega)];rfl
 rw[if_neg h]
 by_cases h2:b<a
 ·rw[if_pos h2,decide_eq_false (show¬a≤b by omega)];rfl
 rw[if_neg h2,decide_eq_true (show a≤b by omega)];rfl
section
variable {N:Nat}(hN:70000≤N){b:Nat}(hb:b<115792089237316195423570985008687907853269984665640564039457584007913129639936)(hb0:0<b)
include hN hb hb0
theorem aTy {dC:Nat}(hw:dC<4){m c K v r:Nat}(hc:c<64)(hK:K=64*dC+c)(hv:v<2^(K+1))(hr:r<b){q:List Int}(hq:q.length=4)(hnz: ¬(r=0∧v=0)):
  ∃q' v' r',q'.length=4∧v'<2^K∧r'<b∧(r'*2^K+v')%b=(r*2^(K+1)+v)%b∧
   dU N (U b) (dC:Int) (m+1) (c:Int) (U (v*2^(256-(K+1)))) q (U r)=dU N (U b) (dC:Int) m ((c:Int)-1) (U (v'*2^(256-K))) q' (U r'):=by
 obtain⟨t,v',ht,hv',hvv,h2,h3⟩:=aUl (by omega:K+1≤256) hv
 have hlo:v*2^(256-(K+1))<115792089237316195423570985008687907853269984665640564039457584007913129639936:=by
  have h5:=(Nat.mul_lt_mul_right (aX4 (n:=256-(K+1)) (show 0<2 by omega))).2 hv
  rw[←aX5,show K+1+(256-(K+1))=256 by omega,aFo]at h5
  exact h5
 generalize hlov:v*2^(256-(K+1))=lo at *
 generalize hlov':v'*2^(256-K)=lo' at *
 have hr4:r<115792089237316195423570985008687907853269984665640564039457584007913129639936:=by omega
 obtain⟨k,d1,d2⟩:=aSq hN hlo (aYi 1)
 rw[show(2*lo+0)%115792089237316195423570985008687907853269984665640564039457584007913129639936=lo' by omega,show(2*lo+0)/115792089237316195423570985008687907853269984665640564039457584007913129639936=t by omega]at *
 rw[d2]at d1
 clear d2
 obtain⟨k,d3,d4⟩:=aSq hN hr4 ht
 have d1':tF N (U lo) 0=some (U lo',((t:Nat):Int)):=d1
 have hT:(2*r+t)%b<b:=aXu _ hb0
 have hTv:((2*r+t)%b*2^K+v')%b=(r*2^(K+1)+v)%b:=by
  rw[aIs,hvv,aX2,aXS,aYC,aYU 2 r,aXC (2^K) 2,aXC (2*2^K) r]
 have main: ∀(q:List Int),q.length=4→ ∃q',q'.length=4∧v5 N (U b) (dC:Int) (c:Int) (U lo) q (U r) (dU N (U b) (dC:Int) m) false=dU N (U b) (dC:Int) m ((c:Int)-1) (U lo') q' (U ((2*r+t)%b)):=by
  intro q hq
  simp only[v5,aXk,if_false,bW,d1',d3,aXj]
  have hcw:aXl.wrap ((c:Int)-1)=(c:Int)-1:=cN (by omega) (by omega)
  have hsub: ∀(x:Nat),x<115792089237316195423570985008687907853269984665640564039457584007913129639936→(x+115792089237316195423570985008687907853269984665640564039457584007913129639936-b)%115792089237316195423570985008687907853269984665640564039457584007913129639936=(2*r+t)%b→ ∃q',q'.length=4∧tT N (U b) (dC:Int) (c:Int) q (U lo',((t:Nat):Int)) (U x,(k:Int)) (dU N (U b) (dC:Int) m) true=dU N (U b) (dC:Int) m ((c:Int)-1) (U lo') q' (U ((2*r+t)%b)):=by
   intro x hx he
   have hs:shl .u64 1 (c:Int)=some ((1*2^c%2^aXB.bits:Nat):Int):=aFj rfl 1 c
   have ha:bX 4 q (dC:Int)=some (q[dC]'(by omega)):=by
    unfold bX
    rw[if_pos (by omega),bZ q (by omega)]
   refine⟨q.set (aXN (dC:Int)) (bits .or .u64 (q[dC]'(by omega)) ((1*2^c%2^aXB.bits:Nat):Int)),by rw[aXF];exact hq, ?_⟩
   simp only[tT,if_true,aHH hN hx hb,aXj,bW,ha,hs,wG,hcw,he]
  by_cases h1:2*r+t<115792089237316195423570985008687907853269984665640564039457584007913129639936
  ·have hk0:k=0:=by omega
   subst hk0
   simp only[show(((0:Nat):Int) != 0)=false from rfl,aXk,if_false,aAN hN (show(2*r+t)%115792089237316195423570985008687907853269984665640564039457584007913129639936<115792089237316195423570985008687907853269984665640564039457584007913129639936 by omega) hb,aXj,aJk]
   rw[aXr h1]at *
   by_cases h4:b≤2*r+t
   ·rw[decide_eq_true h4]
    refine hsub _ h1 ?_
    rw[aXX h4,aXr (show 2*r+t-b<b by omega)]
    omega
   rw[decide_eq_false h4]
   refine⟨q,hq, ?_⟩
   simp only[tT,aXk,if_false,wG,hcw]
   rw[aXr (show 2*r+t<b by omega)]
  have hk1:k=1:=by omega
  subst hk1
  simp only[show(((1:Nat):Int) != 0)=true from rfl,if_true]
  refine hsub _ (by omega) ?_
  rw[aXX (show b≤2*r+t by omega),aXr (show 2*r+t-b<b by omega)]
  omega
 obtain⟨q',hq',he⟩:=main q hq
 refine⟨q',v',(2*r+t)%b,hq',hv',hT,hTv, ?_⟩
 rw[hlov']
 rw[dU,show decide ((0:Int)≤(c:Int))=true from decide_eq_true (by omega),if_pos rfl,bW,aXj,←aAt]
 rw[aBv hr4 (show 0<115792089237316195423570985008687907853269984665640564039457584007913129639936 by omega),bW,aXj,aBv hlo (show 0<115792089237316195423570985008687907853269984665640564039457584007913129639936 by omega)]
 by_cases h0:r=0
 ·have hl0:lo≠0:=by
   intro h
   have:v=0:=by
    rcases Nat.mul_eq_zero.1 (hlov.trans h)with h|h
    ·exact h
    exact absurd h (Nat.ne_of_gt (aX4 (by omega)))
   exact hnz ⟨h0,this⟩
  rw[decide_eq_true h0,if_pos rfl,decide_eq_false hl0]
  exact he
 rw[decide_eq_false h0]
 exact he
theorem aL9 {dC:Nat}(hw:dC<4): ∀(c m v r:Nat)(q:List Int),c≤64→c<m→v<2^(64*dC+c)→r<b→q.length=4→
  (∃q',q'.length=4∧(r*2^(64*dC+c)+v)%b=0∧dU N (U b) (dC:Int) m ((c:Int)-1) (U (v*2^(256-(64*dC+c)))) q (U r)=some (.ret (q',U 0)))∨
  (∃q' v' r',q'.length=4∧v'<2^(64*dC)∧r'<b∧(r'*2^(64*dC)+v')%b=(r*2^(64*dC+c)+v)%b∧
   dU N (U b) (dC:Int) m ((c:Int)-1) (U (v*2^(256-(64*dC+c)))) q (U r)=some (.brk (U (v'*2^(256-64*dC)),q',U r')))
 |0,m,v,r,q,_,hm,hv,hr,hq=>by
  obtain⟨m,rfl⟩: ∃k,m=k+1:=⟨m-1,by omega⟩
  refine .inr ⟨q,v,r,hq,hv,hr,rfl, ?_⟩
  rw[dU,show decide ((0:Int)≤((0:Nat):Int)-1)=false from rfl]
  rfl
 |c+1,m,v,r,q,hc,hm,hv,hr,hq=>by
  obtain⟨m,rfl⟩: ∃k,m=k+1:=⟨m-1,by omega⟩
  rw[show((c+1:Nat):Int)-1=(c:Int) by omega]
  by_cases hz:r=0∧v=0
  ·obtain⟨rfl,rfl⟩:=hz
   refine .inl ⟨q,hq,by simp, ?_⟩
   rw[dU,show decide ((0:Int)≤(c:Int))=true from decide_eq_true (by omega),if_pos rfl,aYI]
   rfl
  obtain⟨q',v',r',h1,h2,h3,h4,h5⟩:=aTy hN hb hb0 hw (m:=m) (show c<64 by omega) rfl (show v<2^(64*dC+c+1)from hv) hr hq hz
  rw[show 64*dC+(c+1)=64*dC+c+1 from rfl,h5,←h4]
  exact aL9 hw c m v' r' q' (by omega) (by omega) h2 h3 h1
theorem aOo : ∀(w m v r:Nat)(q:List Int),w≤4→w<m→v<2^(64*w)→r<b→q.length=4→
  ∃q',q'.length=4∧oP N (U b) m ((w:Int)-1) (U (v*2^(256-64*w))) q (U r)=some (q',U ((r*2^(64*w)+v)%b))
 |0,m,v,r,q,_,hm,hv,hr,hq=>by
  obtain⟨m,rfl⟩: ∃k,m=k+1:=⟨m-1,by omega⟩
  refine⟨q,hq, ?_⟩
  have hv0:v=0:=by simpa using hv
  subst hv0
  rw[oP,show decide ((0:Int)≤((0:Nat):Int)-1)=false from rfl]
  simp[aXr hr]
 |w+1,m,v,r,q,hw,hm,hv,hr,hq=>by
  obtain⟨m,rfl⟩: ∃k,m=k+1:=⟨m-1,by omega⟩
  rw[oP,show((w+1:Nat):Int)-1=(w:Int) by omega,show decide ((0:Int)≤(w:Int))=true from decide_eq_true (by omega),if_pos rfl]
  have e63:(63:Int)=((64:Nat):Int)-1:=rfl
  have ek:64*(w+1)=64*w+64:=by omega
  rw[ek]at hv
  rw[e63,ek]
  rcases aL9 hN hb hb0 (show w<4 by omega) 64 N v r q (aXM _) (by omega) hv hr hq with⟨q',h1,h2,h3⟩|⟨q',v',r',h1,h2,h3,h4,h5⟩
  ·rw[h3,h2]
   exact⟨q',h1,rfl⟩
  rw[h5,←h4]
  simp only[aXj,aC0]
  rw[cN (a:=(w:Int)-1) (by omega) (by omega)]
  exact aOo w m v' r' q' (by omega) (by omega) h2 h3 h1
theorem aSv {hi lo:Nat}(hh:hi<b)(hl:lo<115792089237316195423570985008687907853269984665640564039457584007913129639936): ∃q',q'.length=4∧aCp N (U hi) (U lo) (U b)=some (q',U ((hi*115792089237316195423570985008687907853269984665640564039457584007913129639936+lo)%b),true):=by
 obtain⟨q',h1,h2⟩:=aOo hN hb hb0 4 N lo hi (aXm 4 0) (aXM _) (by omega) (by rw[show 64*4=256 from rfl,aFo];exact hl) hh (by simp)
 rw[show((4:Nat):Int)-1=3 from rfl,show 256-64*4=0 from rfl,aX7,aYQ,show 64*4=256 from rfl,aFo]at h2
 refine⟨q',h1, ?_⟩
 simp only[aCp,bW,aXj,aAN hN hb (show hi<115792089237316195423570985008687907853269984665640564039457584007913129639936 by omega),aSo]
 rw[decide_eq_false (show¬b≤hi by omega)]
 simp only[aXk,if_false,h2,aXj,aCX,z8 h1,bW]
theorem aIh {a:Nat}(ha:a<115792089237316195423570985008687907853269984665640564039457584007913129639936):tN N (U a) (U b)=some (U (a%b)):=by
 simp only[tN,bW,aXj,aAN hN ha hb,aLW]
 by_cases h:a<b
 ·rw[decide_eq_true h,if_pos rfl,aXr h]
 rw[decide_eq_false h]
 obtain⟨q',h1,h2⟩:=aSv hN hb hb0 hb0 ha
 rw[aAt,aYI,aYw]at h2
 simp only[aXk,if_false,h2,aXj,z8 h1,bW]
theorem aU4 :(U b == [0,0,0,0])=false:=by
 rw[←aAt,aBv hb (by omega)]
 exact decide_eq_false (by omega)
theorem aRd {x y:Nat}(hx:x<115792089237316195423570985008687907853269984665640564039457584007913129639936)(hy:y<115792089237316195423570985008687907853269984665640564039457584007913129639936):aAu N (U x) (U y) (U b)=some (U (x*y%b)):=by
 have hp:x*y/115792089237316195423570985008687907853269984665640564039457584007913129639936<115792089237316195423570985008687907853269984665640564039457584007913129639936:=by
  have h5:=aX0 (aYj hx) (aYj hy)
  simp only[aYN,Nat.reduceSub,Nat.reduceMul]at h5
  omega
 obtain⟨q',h1,h2⟩:=aSv hN hb hb0 (aXu (x*y/115792089237316195423570985008687907853269984665640564039457584007913129639936) hb0) (show x*y%115792089237316195423570985008687907853269984665640564039457584007913129639936<115792089237316195423570985008687907853269984665640564039457584007913129639936 by omega)
 rw[aIs,aXC (x*y/115792089237316195423570985008687907853269984665640564039457584007913129639936) 115792089237316195423570985008687907853269984665640564039457584007913129639936,aYt]at h2
 simp only[aAu,bW,aXj,aU4 hN hb hb0,aXk,if_false,aSm hN hx hy,aIh hN hb hb0 hp,h2,z8 h1]
theorem aMK {x y:Nat}(hx:x<115792089237316195423570985008687907853269984665640564039457584007913129639936)(hy:y<115792089237316195423570985008687907853269984665640564039457584007913129639936):aAi N (U x) (U y) (U b)=some (U ((x+y)%b)):=by
 have h1:=aXu x hb0
 have h2:=aXu y hb0
 have key:(x+y)%b=if x%b+y%b<b then x%b+y%b else x%b+y%b-b:=by
  rw[aYO]
  split
  ·rename_i h;exact aXr h
  rename_i h;rw[aXX (by omega),aXr (by omega)]
 simp only[aAi,bW,aXj,aU4 hN hb hb0,aXk,if_false,aIh hN hb hb0 hx,aIh hN hb hb0 hy,aSx hN (show x%b<115792089237316195423570985008687907853269984665640564039457584007913129639936 by omega) (show y%b<115792089237316195423570985008687907853269984665640564039457584007913129639936 by omega)]
 rw[key]
 generalize x%b=u at *
 generalize y%b=v at *
 by_cases h:115792089237316195423570985008687907853269984665640564039457584007913129639936≤u+v
 ·rw[decide_eq_true h,if_neg (show¬u+v<b by omega)]
  simp only[if_true,nY,aHH hN (show(u+v)%115792089237316195423570985008687907853269984665640564039457584007913129639936<115792089237316195423570985008687907853269984665640564039457584007913129639936 by omega) hb,aXj,bW,oC]
  rw[show((u+v)%115792089237316195423570985008687907853269984665640564039457584007913129639936+115792089237316195423570985008687907853269984665640564039457584007913129639936-b)%115792089237316195423570985008687907853269984665640564039457584007913129639936=u+v-b by omega]
 rw[decide_eq_false h]
 simp only[aXk,if_false,aAN hN (show(u+v)%115792089237316195423570985008687907853269984665640564039457584007913129639936<115792089237316195423570985008687907853269984665640564039457584007913129639936 by omega) hb,aXj,aJk]
 rw[aXr (show u+v<115792089237316195423570985008687907853269984665640564039457584007913129639936 by omega)]
 by_cases h3:b≤u+v
 ·rw[decide_eq_true h3,if_neg (show¬u+v<b by omega)]
  simp only[if_true,nY,aHH hN (show u+v<115792089237316195423570985008687907853269984665640564039457584007913129639936 by omega) hb,aXj,bW,oC]
  rw[show(u+v+115792089237316195423570985008687907853269984665640564039457584007913129639936-b)%115792089237316195423570985008687907853269984665640564039457584007913129639936=u+v-b by omega]
 rw[decide_eq_false h3,if_pos (show u+v<b by omega)]
 simp only[aXk,if_false,nY,aXj,bW,oC]
end
end Go.Proofs.YtbjiaghljpoliaaGreatDoor
set_option maxRecDepth 20000
namespace Go.Proofs.YtbjiaghljpoliaaGreatDoor
open Go Go.Vm
theorem aTr :((aXU 256).all fun y=>match jK 0 (y:Int) 0 with|some v=>decide (0≤v∧v≤8∧y<2^v.toNat)|none=>false)=true:=by decide +kernel
theorem aPy (z:Int):aXl.wrap (0+aXl.wrap z)=aXl.wrap z:=by simp only[IntKind.wrap_i64];omega
theorem aUg {N x:Nat}(hx:x<256){n:Nat}(hn:n≤1000): ∃t:Nat,t≤8∧x<2^t∧jK N (x:Int) (n:Int)=some ((n+t:Nat):Int):=by
 have h:=aYn.1 aTr x (by simpa using hx)
 unfold jK at h⊢
 generalize hs:aOO _ (aXI.wrap (x:Int))=s at h⊢
 cases s with
 |none=>simp at h
 |some z=>
  simp only[aXj,aPy,decide_eq_true_eq]at h⊢
  generalize aXl.wrap z=w at *
  obtain⟨h1,h2,h3⟩:=h
  clear hs
  refine⟨w.toNat, ?_,h3, ?_⟩<;>clear h3
  ·omega
  rw[cN (by omega) (by omega)]
  congr 1;omega
theorem aMS {x k t:Nat}(h:x/2^k<2^t):x<2^(k+t):=by
 rw[aX5,aXC]
 exact(aXT (aX4 (by omega))).1 h
theorem aRE (a b:Nat):decide ((a:Int)≤(b:Int))=decide (a≤b):=by
 by_cases h:a≤b
 ·rw[decide_eq_true h,decide_eq_true (by omega)]
 rw[decide_eq_false h,decide_eq_false (by omega)]
theorem aF7 {N x:Nat}(hx:x<18446744073709551616): ∃n:Nat,n≤64∧x<2^n∧s8 N (x:Int)=some (n:Int):=by
 have j2: ∀(x n:Nat),x<65536→n≤100→ ∃t:Nat,t≤16∧x<2^t∧lI N (x:Int) (n:Int)=some ((n+t:Nat):Int):=by
  intro x n hx hn
  unfold lI
  rw[show(256:Int)=((256:Nat):Int)from rfl,aRE]
  by_cases h:256≤x
  ·rw[decide_eq_true h,if_pos rfl,show shr .u64 (x:Int) 8=some ((x/256:Nat):Int)from aBc x 8 (aXK hx (by decide)),aXj,cN (a:=(n:Int)+8) (by omega) (by omega),show(n:Int)+8=((n+8:Nat):Int) by omega]
   obtain⟨t,h1,h2,h3⟩:=aUg (N:=N) (show x/256<256 by omega) (show n+8≤1000 by omega)
   exact⟨8+t,aYu h1 8,aMS (k:=8) h2,by rw[h3,aYC]⟩
  rw[decide_eq_false h]
  obtain⟨t,h1,h2,h3⟩:=aUg (N:=N) (show x<256 by omega) (show n≤1000 by omega)
  exact⟨t,aYY h1 (by decide),h2,h3⟩
 have j1: ∀(x n:Nat),x<4294967296→n≤50→ ∃t:Nat,t≤32∧x<2^t∧lM N (x:Int) (n:Int)=some ((n+t:Nat):Int):=by
  intro x n hx hn
  unfold lM
  rw[show(65536:Int)=((65536:Nat):Int)from rfl,aRE]
  by_cases h:65536≤x
  ·rw[decide_eq_true h,if_pos rfl,show shr .u64 (x:Int) 16=some ((x/65536:Nat):Int)from aBc x 16 (aXK hx (by decide)),aXj,cN (a:=(n:Int)+16) (by omega) (by omega),show(n:Int)+16=((n+16:Nat):Int) by omega]
   obtain⟨t,h1,h2,h3⟩:=j2 (x/65536) (n+16) (by omega) (by omega)
   exact⟨16+t,aYu h1 16,aMS (k:=16) h2,by rw[h3,aYC]⟩
  rw[decide_eq_false h]
  obtain⟨t,h1,h2,h3⟩:=j2 x n (by omega) (by omega)
  exact⟨t,aYY h1 (by decide),h2,h3⟩
 unfold s8
 rw[show(4294967296:Int)=((4294967296:Nat):Int)from rfl,aRE]
 by_cases h:4294967296≤x
 ·rw[decide_eq_true h,if_pos rfl,show shr .u64 (x:Int) 32=some ((x/4294967296:Nat):Int)from aBc x 32 hx,aXj]
  obtain⟨t,h1,h2,h3⟩:=j1 (x/4294967296) 32 (by omega) (by omega)
  exact⟨32+t,aYu h1 32,aMS (k:=32) h2,h3⟩
 rw[decide_eq_false h]
 obtain⟨t,h1,h2,h3⟩:=j1 x 0 (by omega) (by omega)
 exact⟨t,aYY h1 (by decide),h2,by rw[aYw]at h3;exact h3⟩
theorem aVo {N:Nat}(hN:70000≤N){e:Nat}(he:e<115792089237316195423570985008687907853269984665640564039457584007913129639936): ∃n:Nat,n≤256∧e<2^n∧aEl N (U e)=some (n:Int):=by
 obtain⟨a0,a1,a2,a3,x0,x1,x2,x3,ea,va⟩:=aBE he
 unfold vl at va
 obtain⟨n0,l0,p0,f0⟩:=aF7 (N:=N) x0
 obtain⟨n1,l1,p1,f1⟩:=aF7 (N:=N) x1
 obtain⟨n2,l2,p2,f2⟩:=aF7 (N:=N) x2
 obtain⟨n3,l3,p3,f3⟩:=aF7 (N:=N) x3
 rw[ea]
 obtain⟨m,hm⟩:=wY (fun q=>tL N (w4 a0 a1 a2 a3) q 3) hN
 unfold aEl
 rw[hm]
 simp only[tL,a40,a41,a42,a43,i32,i21,i10,i0m,show decide ((0:Int)≤3)=true from rfl,show decide ((0:Int)≤2)=true from rfl,show decide ((0:Int)≤1)=true from rfl,show decide ((0:Int)≤0)=true from rfl,show decide ((0:Int)≤ -1)=false from rfl,if_true,aXk,if_false,aXj,aCY,f0,f1,f2,f3]
 have nz: ∀x:Nat,(((x:Nat):Int) != 0)= !decide (x=0):=fun x=>by
  by_cases h:x=0
  ·subst h;rfl
  rw[decide_eq_false h];simp;omega
 rw[nz,nz,nz,nz]
 have wr: ∀(i n:Nat),i≤3→n≤64→aXl.wrap (aXl.wrap (64*(i:Int))+(n:Int))=((64*i+n:Nat):Int):=fun i n hi hn=>by
  rw[cN (a:=64*(i:Int)) (by omega) (by omega),cN (by omega) (by omega)];omega
 have q3:=wr 3 n3 (by omega) l3
 have q2:=wr 2 n2 (by omega) l2
 have q1:=wr 1 n1 (by omega) l1
 have q0:=wr 0 n0 (by omega) l0
 have pw: ∀i n:Nat,2^(64*i+n)=2^(64*i)*2^n:=fun i n=>aX5 _ _ _
 by_cases h3:a3=0
 ·rw[decide_eq_true h3]
  by_cases h2:a2=0
  ·rw[decide_eq_true h2]
   by_cases h1:a1=0
   ·rw[decide_eq_true h1]
    by_cases h0:a0=0
    ·rw[decide_eq_true h0]
     exact⟨0,by omega,by simp;omega,rfl⟩
    rw[decide_eq_false h0]
    refine⟨64*0+n0,by omega, ?_, ?_⟩
    ·rw[show 64*0+n0=n0 by omega];omega
    rw[←q0];rfl
   rw[decide_eq_false h1]
   refine⟨64*1+n1,by omega, ?_, ?_⟩
   ·rw[pw,show 2^(64*1)=18446744073709551616 from rfl]
    generalize 2^n1=z at *
    omega
   rw[←q1];rfl
  rw[decide_eq_false h2]
  refine⟨64*2+n2,by omega, ?_, ?_⟩
  ·rw[pw,show 2^(64*2)=340282366920938463463374607431768211456 from rfl]
   generalize 2^n2=z at *
   omega
  rw[←q2];rfl
 rw[decide_eq_false h3]
 refine⟨64*3+n3,by omega, ?_, ?_⟩
 ·rw[pw,show 2^(64*3)=6277101735386680763835789423207666416102355444464034512896 from rfl]
  generalize 2^n3=z at *
  omega
 rw[←q3];rfl
theorem aNb (N:Nat):r7 N=some (U 115792089237316195423570985008687907853269984665640564039457584007913129603823):=by unfold r7;decide +kernel
theorem aEb (N:Nat):qN N=some (U 57896044618658097711785492504343953926634992332820282019728792003956564801911):=by unfold qN;decide +kernel
theorem aPm {N:Nat}(hN:70000≤N){a b:Nat}(ha:a<115792089237316195423570985008687907853269984665640564039457584007913129639936)(hb:b<115792089237316195423570985008687907853269984665640564039457584007913129639936):xI N (U a) (U b)=some (U (a*b%115792089237316195423570985008687907853269984665640564039457584007913129603823)):=by
 simp only[xI,bW,aNb,aXj,aRd (b:=115792089237316195423570985008687907853269984665640564039457584007913129603823) hN (by decide) (by decide) ha hb]
theorem aSt {e:Nat}(he:e<115792089237316195423570985008687907853269984665640564039457584007913129639936){j:Nat}(hj:j<256): ∃x y:Nat,bX 4 (U e) ((j/64:Nat):Int)=some (x:Int)∧shr .u64 (x:Int) ((j%64:Nat):Int)=some (y:Int)∧(bits .and .u64 (y:Int) 1 == 1)=decide (e/2^j%2=1):=by
 have hx:bX 4 (U e) ((j/64:Nat):Int)=some ((e/2^(64*(j/64))%18446744073709551616:Nat):Int):=by
  have h4:j/64<4:=by omega
  unfold U
  generalize j/64=k at *
  match k,h4 with
  |0,_=>rw[show 2^(64*0)=1 from rfl,aYR];rfl
  |1,_=>rfl
  |2,_=>rfl
  |3,_=>rfl
 refine⟨_,_,hx,aBc _ _ (show e/2^(64*(j/64))%18446744073709551616<2^64 by omega), ?_⟩
 have hlt:e/2^(64*(j/64))%18446744073709551616/2^(j%64)<2^64:=aYx (Nat.div_le_self _ _) (show e/2^(64*(j/64))%18446744073709551616<2^64 by omega)
 rw[show(1:Int)=((1:Nat):Int)from rfl,aGY (k:= .u64) rfl _ 1 hlt (by decide),Nat.and_one_is_mod]
 have key:e/2^(64*(j/64))%18446744073709551616/2^(j%64)%2=e/2^j%2:=by
  have h1:(e/2^(64*(j/64))%2^64).testBit (j%64)=(e/2^(64*(j/64))).testBit (j%64):=by
   rw[Nat.testBit_mod_two_pow,decide_eq_true (aXu _ (by omega)),aXq]
  rw[Nat.testBit_div_two_pow,show j%64+64*(j/64)=j by omega]at h1
  rw[aYe,aYe,decide_eq_decide]at h1
  have h2:e/2^(64*(j/64))%2^64/2^(j%64)%2=e/2^j%2:=by
   generalize e/2^(64*(j/64))%2^64/2^(j%64)=u at *
   generalize e/2^j=w at *
   omega
  exact h2
 rw[key]
 generalize e/2^j%2=u
 by_cases h:u=1
 ·subst h;rfl
 rw[decide_eq_false h];simp;omega
theorem aMd (a p e:Nat):(a^(e/2)%p)*(a^(e/2)%p)%p*(if e%2=1 then a else 1)%p=a^e%p:=by
 have h:a^e=a^(e/2)*a^(e/2)*(if e%2=1 then a else 1):=by
  rw[←aX5]
  split
  ·rename_i h1
   rw[←aXS];congr 1;omega
  rw[aYQ];congr 1;omega
 rw[h,←aYP,Nat.mod_mul_mod]
section
variable {N:Nat}(hN:70000≤N)
include hN
theorem aIn {a e n:Nat}(ha:a<115792089237316195423570985008687907853269984665640564039457584007913129639936)(he:e<115792089237316195423570985008687907853269984665640564039457584007913129639936)(hn:n≤256): ∀(m j:Nat),n-j<m→j≤n→mL N (U a) (U e) (n:Int) m (j:Int) (U (a^(e/2^(n-j))%115792089237316195423570985008687907853269984665640564039457584007913129603823))=some (U (a^e%115792089237316195423570985008687907853269984665640564039457584007913129603823))
 |0,j,hm,_=>by omega
 |m+1,j,hm,hj=>by
  rw[mL]
  by_cases h:j<n
  ·rw[dT h,if_pos rfl]
   have hp:a^(e/2^(n-j))%115792089237316195423570985008687907853269984665640564039457584007913129603823<115792089237316195423570985008687907853269984665640564039457584007913129639936:=aXK (aXu _ (by omega)) (by omega)
   obtain⟨x,y,b1,b2,b3⟩:=aSt he (show n-1-j<256 by omega)
   rw[cN (a:=(n:Int)-1) (by omega) (by omega),cN (a:=(n:Int)-1-(j:Int)) (by omega) (by omega),show(n:Int)-1-(j:Int)=((n-1-j:Nat):Int) by omega,show(64:Int)=((64:Nat):Int)from rfl,tJ,vD,cN (a:=(((n-1-j)/64:Nat):Int)) (by omega) (by omega)]
   simp only[bW,aPm hN hp hp,aXj,b1,b2,b3]
   have hdiv:e/2^(n-(j+1))/2=e/2^(n-j):=by rw[aYg,show 2^(n-(j+1))*2=2^(n-j) by rw[←aXS];congr 1;omega]
   have key:=aMd a 115792089237316195423570985008687907853269984665640564039457584007913129603823 (e/2^(n-(j+1)))
   rw[hdiv]at key
   have hlt2:(a^(e/2^(n-j))%115792089237316195423570985008687907853269984665640564039457584007913129603823)*(a^(e/2^(n-j))%115792089237316195423570985008687907853269984665640564039457584007913129603823)%115792089237316195423570985008687907853269984665640564039457584007913129603823<115792089237316195423570985008687907853269984665640564039457584007913129639936:=aXK (aXu _ (by omega)) (by omega)
   rw[show n-1-j=n-(j+1) by omega]
   by_cases hb:e/2^(n-(j+1))%2=1
   ·rw[decide_eq_true hb,if_pos rfl,aPm hN hlt2 ha]
    rw[if_pos hb]at key
    simp only[aXj,bW,uK,i1 (show j≤100000 by omega),key]
    exact aIn ha he hn m (j+1) (by omega) (by omega)
   rw[decide_eq_false hb]
   rw[if_neg hb,aYQ,aY5]at key
   simp only[aXk,if_false,uK,i1 (show j≤100000 by omega),key]
   exact aIn ha he hn m (j+1) (by omega) (by omega)
  obtain rfl:j=n:=by omega
  rw[dF h,aYH,aX7,aYR]
  rfl
theorem aHF {a e:Nat}(ha:a<115792089237316195423570985008687907853269984665640564039457584007913129639936)(he:e<115792089237316195423570985008687907853269984665640564039457584007913129639936):yS N (U a) (U e)=some (U (a^e%115792089237316195423570985008687907853269984665640564039457584007913129603823)):=by
 obtain⟨n,h1,h2,h3⟩:=aVo hN he
 have h4:=aIn hN ha he h1 N 0 (by omega) (by omega)
 rw[aXO,aYp h2,aX7,show 1%115792089237316195423570985008687907853269984665640564039457584007913129603823=1 from rfl,show((0:Nat):Int)=0 from rfl]at h4
 have hU1:([1,0,0,0]:List Int)=U 1:=by decide +kernel
 simp only[yS,fS,hU1,bW,h3,aXj,h4,aBg]
end
theorem aP0 {k:Nat}(h:k≤1):((k:Int) == 1)=((k:Int) != 0):=by
 rcases(by omega:k=0∨k=1)with rfl|rfl<;>rfl
theorem aQm (N:Nat)(a b:List Int): ∀(m:Nat)(c x:Int)(l:List Int),q9 N a b m c x l=kT N a b m c x l
 |0,_,_,_=>rfl
 |m+1,c,x,l=>by simp only[q9,kT,aQm N a b m]
theorem aQf (N:Nat)(a b:List Int): ∀(m:Nat)(c x:Int)(l:List Int),q4 N a b m c x l=kU N a b m c x l
 |0,_,_,_=>rfl
 |m+1,c,x,l=>by simp only[q4,kU,aQf N a b m]
theorem aPR (N:Nat)(a b:List Int): ∀(m:Nat)(x:Int),rD N a b m x=oU N a b m x
 |0,_=>rfl
 |m+1,x=>by simp only[rD,oU,aPR N a b m]
theorem aNt (N:Nat)(a b:List Int):sL N a b=pR N a b:=by
 unfold sL pR
 rw[aPR]
 rfl
theorem aS7 {N:Nat}(hN:70000≤N){a0 a1 a2 a3 b0 b1 b2 b3:Nat}(ha0:a0<18446744073709551616)(ha1:a1<18446744073709551616)(ha2:a2<18446744073709551616)(ha3:a3<18446744073709551616)(hb0:b0<18446744073709551616)(hb1:b1<18446744073709551616)(hb2:b2<18446744073709551616)(hb3:b3<18446744073709551616):
  zE N (w4 a0 a1 a2 a3) (w4 b0 b1 b2 b3)=y9 N (w4 a0 a1 a2 a3) (w4 b0 b1 b2 b3):=by
 obtain⟨s0,k0,e0,f0,g0,l0⟩:=tQ ha0 hb0 (aYi 1)
 obtain⟨s1,k1,e1,f1,g1,l1⟩:=tQ ha1 hb1 l0
 obtain⟨s2,k2,e2,f2,g2,l2⟩:=tQ ha2 hb2 l1
 obtain⟨s3,k3,e3,f3,g3,l3⟩:=tQ ha3 hb3 l2
 obtain⟨m,hm⟩:=wY (fun q=>kT N (w4 a0 a1 a2 a3) (w4 b0 b1 b2 b3) q 0 0 (aXm 4 0)) hN
 unfold zE y9
 rw[aQm,hm]
 have e0':tX (a0:Int) (b0:Int) 0=some ((s0:Int),(k0:Int)):=e0
 simp only[kT,d7,a40,a41,a42,a43,q40,q41,q42,q43,t40,t41,t42,t43,r40,i01,i12,i23,i34,d04,d14,d24,d34,d44,if_true,aXk,if_false,aXj,e0',e1,e2,e3,aAx,aBG,aP0 l3]
theorem aPz {N:Nat}(hN:70000≤N){a b:Nat}(ha:a<115792089237316195423570985008687907853269984665640564039457584007913129639936)(hb:b<115792089237316195423570985008687907853269984665640564039457584007913129639936):zE N (U a) (U b)=some (U ((a+b)%115792089237316195423570985008687907853269984665640564039457584007913129639936),decide (115792089237316195423570985008687907853269984665640564039457584007913129639936≤a+b)):=by
 obtain⟨a0,a1,a2,a3,x0,x1,x2,x3,ea,va⟩:=aBE ha
 obtain⟨b0,b1,b2,b3,y0,y1,y2,y3,eb,vb⟩:=aBE hb
 rw[←aSx hN ha hb,ea,eb]
 exact aS7 hN x0 x1 x2 x3 y0 y1 y2 y3
theorem aTm {N:Nat}(hN:70000≤N){a0 a1 a2 a3 b0 b1 b2 b3:Nat}(ha0:a0<18446744073709551616)(ha1:a1<18446744073709551616)(ha2:a2<18446744073709551616)(ha3:a3<18446744073709551616)(hb0:b0<18446744073709551616)(hb1:b1<18446744073709551616)(hb2:b2<18446744073709551616)(hb3:b3<18446744073709551616):
  sV N (w4 a0 a1 a2 a3) (w4 b0 b1 b2 b3)=tK N (w4 a0 a1 a2 a3) (w4 b0 b1 b2 b3):=by
 obtain⟨s0,k0,e0,f0,g0,l0⟩:=yK ha0 hb0 (aYi 1)
 obtain⟨s1,k1,e1,f1,g1,l1⟩:=yK ha1 hb1 l0
 obtain⟨s2,k2,e2,f2,g2,l2⟩:=yK ha2 hb2 l1
 obtain⟨s3,k3,e3,f3,g3,l3⟩:=yK ha3 hb3 l2
 obtain⟨m,hm⟩:=wY (fun q=>kU N (w4 a0 a1 a2 a3) (w4 b0 b1 b2 b3) q 0 0 (aXm 4 0)) hN
 unfold sV tK
 rw[aQf,hm]
 have e0':aFz (a0:Int) (b0:Int) 0=some ((s0:Int),(k0:Int)):=e0
 simp only[kU,sQ,a40,a41,a42,a43,q40,q41,q42,q43,t40,t41,t42,t43,r40,i01,i12,i23,i34,d04,d14,d24,d34,d44,if_true,aXk,if_false,aXj,e0',e1,e2,e3,aAD,aBA,aP0 l3]
theorem aJx {N:Nat}(hN:70000≤N){a b:Nat}(ha:a<115792089237316195423570985008687907853269984665640564039457584007913129639936)(hb:b<115792089237316195423570985008687907853269984665640564039457584007913129639936):sV N (U a) (U b)=some (U ((a+115792089237316195423570985008687907853269984665640564039457584007913129639936-b)%115792089237316195423570985008687907853269984665640564039457584007913129639936),decide (a<b)):=by
 obtain⟨a0,a1,a2,a3,x0,x1,x2,x3,ea,va⟩:=aBE ha
 obtain⟨b0,b1,b2,b3,y0,y1,y2,y3,eb,vb⟩:=aBE hb
 rw[←aHH hN ha hb,ea,eb]
 exact aTm hN x0 x1 x2 x3 y0 y1 y2 y3
theorem aJn {N e:Nat}(he:e<115792089237316195423570985008687907853269984665640564039457584007913129639936){j:Nat}(hj:j<256):o6 N (U e) (j:Int)=some (decide (e/2^j%2=1)):=by
 obtain⟨x,y,h1,h2,h3⟩:=aSt he hj
 have hd:aYV (j:Int) 64=((j/64:Nat):Int):=tJ j 64
 have hm:aYK (j:Int) 64=((j%64:Nat):Int):=vD j 64
 unfold o6
 rw[hd,hm,cN (by omega) (by omega),h1]
 simp only[aXj,h2,h3]
theorem aHx {N n:Nat}(hn:n<115792089237316195423570985008687907853269984665640564039457584007913129639936):s9 N (U n)=some (decide (n=0)):=by
 unfold s9
 rw[bW]
 simp only[aXj]
 rw[←aAt,aBv hn (by omega)]
theorem aLp {N e:Nat}(he:e<115792089237316195423570985008687907853269984665640564039457584007913129639936): ∀(f k:Nat),k<f→k≤256→e<2^k→ ∃n:Nat,n≤256∧e<2^n∧((q8 N (U e) f ((k:Int)-1)).bind fun q=>match q with | .ret v=>some v | .brk _=>aBO N)=some (n:Int)
 |f+1,0,_,_,h=>by
  refine⟨0,by omega,h, ?_⟩
  rfl
 |f+1,k+1,hf,hk,h=>by
  unfold q8
  rw[show(((k+1:Nat):Int)-1)=(k:Int) by omega,if_pos (decide_eq_true (by omega)),bW]
  simp only[aXj]
  rw[aJn he (by omega)]
  simp only[aXj]
  by_cases hb:e/2^k%2=1
  ·rw[if_pos (decide_eq_true hb)]
   refine⟨k+1,by omega,h, ?_⟩
   simp only[aXj]
   rw[cN (by omega) (by omega)]
   rfl
  rw[if_neg (by simpa using hb),cN (by omega) (by omega)]
  refine aLp he f k (by omega) (by omega) ?_
  have h1:e/2^k<2:=by
   rw[aXT (aX4 (by omega))]
   rw[aXS]at h
   omega
  have h2:e/2^k=0:=by revert h1 hb;generalize e/2^k=q;intro h1 hb;omega
  exact(Nat.div_eq_zero_iff.1 h2).resolve_left (by have:=aX4 (n:=k) (show 0<2 by omega);omega)
theorem aU3 {N e:Nat}(hN:70000≤N)(he:e<115792089237316195423570985008687907853269984665640564039457584007913129639936): ∃n:Nat,n≤256∧e<2^n∧aEI N (U e)=some (n:Int):=by
 obtain⟨n,h1,h2,h3⟩:=aLp (N:=N) he N 256 (by omega) (by omega) (by rw[aFo];exact he)
 exact⟨n,h1,h2,h3⟩
theorem aPr (x y c:Int):tX x y c=tX y x c:=by
 unfold tX
 rw[aYX x.toNat y.toNat]
theorem aOp (N:Nat)(a b:List Int)(i:Int): ∀(m:Nat)(c x:Int)(l:List Int),rJ N a b i m c x l=dK N a b i m c x l
 |0,_,_,_=>rfl
 |m+1,c,x,l=>by
  unfold rJ dK
  simp only[aOp N a b i m,d7]
  split
  ·refine congrArg _ (funext fun p=>congrArg _ (funext fun q=>congrArg _ (funext fun r=>congrArg _ (funext fun t=> ?_))))
   rw[aPr t r.2 0]
  rfl
theorem aOa (N:Nat)(a b:List Int): ∀(m:Nat)(x:Int)(l:List Int),mH N a b m x l=kW N a b m x l
 |0,_,_=>rfl
 |m+1,x,l=>by
  unfold mH kW
  simp only[aOp,aCf,aBU,aAs,aAl,aOa N a b m]
theorem aTz (N:Nat)(l:List Int):y8 N l=aAK N l:=by
 by_cases h:l.length=8
 ·match l,h with
  | [a,b,c,d,e,f,g,h],_=>rfl
 unfold y8 aAK
 simp only[a9,if_neg h,Option.bind_none]
theorem aWo (N:Nat)(a b:List Int):aC7 N a b=aA4 N a b:=by
 unfold aC7 aA4
 rw[aOa]
 exact congrArg _ (funext fun l=>aTz N l)
theorem aVd {n:Nat}(h2:n%2=0)(hn:n<115792089237316195423570985008687907853269984665640564039457584007913129639936): ∃x:Int,bX 4 (U n) 0=some x∧(U n).set (aXN 0) (bits .or .u64 x 1)=U (n+1):=by
 refine⟨_,rfl, ?_⟩
 have h1:bits .or .u64 ((n%18446744073709551616:Nat):Int) 1=(((n+1)%18446744073709551616:Nat):Int):=by
  rw[show(1:Int)=((1:Nat):Int)from rfl,aAG (k:= .u64) rfl _ 1 (show n%18446744073709551616<2^64 by omega) (by decide)]
  congr 1
  have h3:n%18446744073709551616=2*(n%18446744073709551616/2):=by omega
  rw[h3,show 2*(n%18446744073709551616/2) ||| 1=2*(n%18446744073709551616/2)+1 from by
   have:=aXG (i:=1) (b:=1) (by decide) (n%18446744073709551616/2)
   simpa using this.symm]
  omega
 show[bits .or .u64 ((n%18446744073709551616:Nat):Int) 1,((n/18446744073709551616%18446744073709551616:Nat):Int),((n/340282366920938463463374607431768211456%18446744073709551616:Nat):Int),((n/6277101735386680763835789423207666416102355444464034512896%18446744073709551616:Nat):Int)]=U (n+1)
 rw[h1]
 unfold U w4
 rw[show(n+1)/18446744073709551616=n/18446744073709551616 by omega,show(n+1)/340282366920938463463374607431768211456=n/340282366920938463463374607431768211456 by omega,show(n+1)/6277101735386680763835789423207666416102355444464034512896=n/6277101735386680763835789423207666416102355444464034512896 by omega]
section
variable {N:Nat}(hN:70000≤N){b:Nat}(hb:b<115792089237316195423570985008687907853269984665640564039457584007913129639936)(hb0:0<b)
include hN hb hb0
theorem aWH {q:List Int}(hq:q.length=4){k:Nat}(hk:k<256): ∃x y:Int,bX 4 q (aXl.wrap (aYV (k:Int) 64))=some x∧shl .u64 1 (aYK (k:Int) 64)=some y:=by
 have hd:aYV (k:Int) 64=((k/64:Nat):Int):=tJ k 64
 have hm:aYK (k:Int) 64=((k%64:Nat):Int):=vD k 64
 rw[hd,hm,cN (by omega) (by omega)]
 refine⟨q[k/64]'(by omega),_, ?_,aFj (k:= .u64) rfl 1 (k%64)⟩
 unfold bX
 rw[if_pos (show((k/64:Nat):Int)<((4:Nat):Int) by omega)]
 exact bZ q (by omega)
theorem aKO {lo:Nat}(hlo:lo<115792089237316195423570985008687907853269984665640564039457584007913129639936): ∀(f k r:Nat)(q:List Int),k<f→k≤256→r<b→q.length=4→ ∃q',q'.length=4∧fN N (U lo) (U b) f ((k:Int)-1) q (U r)=some (q',U ((r*2^k+lo%2^k)%b))
 |f+1,0,r,q,_,_,hr,hq=>by
  refine⟨q,hq, ?_⟩
  rw[show(r*2^0+lo%2^0)%b=r by rw[aX7,Nat.mod_one];simpa using aXr hr]
  rfl
 |f+1,k+1,r,q,hf,hk,hr,hq=>by
  have key: ∀t:Nat,t≤1→lo/2^k%2=t→ ∀q1:List Int,q1.length=4→ ∃q',q'.length=4∧fN N (U lo) (U b) f ((k:Int)-1) q1 (U ((2*r+t)%b))=some (q',U ((r*2^(k+1)+lo%2^(k+1))%b)):=by
   intro t ht hbit q1 hq1
   obtain⟨q',h1,h2⟩:=aKO hlo f k ((2*r+t)%b) q1 (by omega) (by omega) (aXu _ hb0) hq1
   refine⟨q',h1, ?_⟩
   rw[h2,aIs,show lo%2^(k+1)=t*2^k+lo%2^k from by rw[aXS,Nat.mod_mul,hbit,aYX,aXC],show r*2^(k+1)+(t*2^k+lo%2^k)=(2*r+t)*2^k+lo%2^k from by rw[aXS,aX2,aXC (2^k) 2,←aYc,aXC r 2,aYC]]
  have hr4:r<115792089237316195423570985008687907853269984665640564039457584007913129639936:=by omega
  have fin: ∀t:Nat,t≤1→lo/2^k%2=t→ ∃q',q'.length=4∧uT N (U lo) (U b) (k:Int) q (decide (r/2^255%2=1)) (fN N (U lo) (U b) f) (U ((2*r+t)%115792089237316195423570985008687907853269984665640564039457584007913129639936))=some (q',U ((r*2^(k+1)+lo%2^(k+1))%b)):=by
   intro t ht hbit
   have hx:(2*r+t)%115792089237316195423570985008687907853269984665640564039457584007913129639936<115792089237316195423570985008687907853269984665640564039457584007913129639936:=aXu _ (by omega)
   obtain⟨y,z,e1,e2⟩:=aWH hN hb hb0 hq (show k<256 by omega)
   have sub: ∀(h:115792089237316195423570985008687907853269984665640564039457584007913129639936≤2*r+t∨b≤2*r+t),∃q',q'.length=4∧rW N (U lo) (U b) (k:Int) q (U ((2*r+t)%115792089237316195423570985008687907853269984665640564039457584007913129639936)) (fN N (U lo) (U b) f) true=some (q',U ((r*2^(k+1)+lo%2^(k+1))%b)):=by
    intro h
    have hb2:b≤2*r+t:=by omega
    have hm:(2*r+t)%b=2*r+t-b:=by rw[aXX hb2,aXr (by omega)]
    have hs:((2*r+t)%115792089237316195423570985008687907853269984665640564039457584007913129639936+115792089237316195423570985008687907853269984665640564039457584007913129639936-b)%115792089237316195423570985008687907853269984665640564039457584007913129639936=(2*r+t)%b:=by rw[hm];omega
    unfold rW
    rw[if_pos rfl,bW,aXj,aJx hN hx hb,aXj,hs]
    simp only[bW,aXj,e1,e2,t9]
    rw[cN (by omega) (by omega)]
    exact key t ht hbit _ (by rw[aXF];exact hq)
   unfold uT
   by_cases ho:r/2^255%2=1
   ·rw[if_pos (decide_eq_true ho)]
    exact sub (.inl (by omega))
   rw[if_neg (by simpa using ho),bW,aXj,aNt,aAN hN hx hb,aXj,aJk]
   have hnw:2*r+t<115792089237316195423570985008687907853269984665640564039457584007913129639936:=by omega
   by_cases hc:b≤(2*r+t)%115792089237316195423570985008687907853269984665640564039457584007913129639936
   ·rw[decide_eq_true hc]
    exact sub (.inr (by omega))
   rw[decide_eq_false hc]
   rw[aXr hnw]at hc⊢
   unfold rW
   simp only[aXk,if_false,t9]
   rw[cN (by omega) (by omega)]
   have:=key t ht hbit q hq
   rwa[aXr (show 2*r+t<b by omega)]at this
  have h255:o6 N (U r) 255=some (decide (r/2^255%2=1)):=aJn (j:=255) hr4 (by omega)
  unfold fN
  rw[show(((k+1:Nat):Int)-1)=(k:Int) by omega,if_pos (decide_eq_true (by omega)),bW,aXj,h255,aXj,aPz hN hr4 hr4,aXj]
  simp only[bW,aXj]
  rw[aJn hlo (show k<256 by omega),aXj,show r+r=2*r by omega]
  by_cases hbit:lo/2^k%2=1
  ·rw[if_pos (decide_eq_true hbit)]
   obtain⟨x,h1,h2⟩:=aVd (n:=2*r%115792089237316195423570985008687907853269984665640564039457584007913129639936) (by omega) (by omega)
   rw[h1,aXj,h2,show 2*r%115792089237316195423570985008687907853269984665640564039457584007913129639936+1=(2*r+1)%115792089237316195423570985008687907853269984665640564039457584007913129639936 by omega]
   exact fin 1 (by omega) hbit
  rw[if_neg (by simpa using hbit)]
  exact fin 0 (by omega) (by omega)
theorem aPw {hi lo:Nat}(hh:hi<b)(hl:lo<115792089237316195423570985008687907853269984665640564039457584007913129639936): ∃q',q'.length=4∧aBf N (U hi) (U lo) (U b)=some (q',U ((hi*115792089237316195423570985008687907853269984665640564039457584007913129639936+lo)%b),true):=by
 obtain⟨q',h1,h2⟩:=aKO hN hb hb0 hl N 256 hi (aXm 4 0) (by omega) (by omega) hh rfl
 refine⟨q',h1, ?_⟩
 rw[aFo,aXr hl]at h2
 unfold aBf
 rw[bW,aXj,bW,aXj,aNt,aAN hN hb (by omega),aXj,aSo,decide_eq_false (by omega)]
 simp only[aXk,if_false]
 rw[show fN N (U lo) (U b) N 255 (aXm 4 0) (U hi)=_ from h2,aXj]
 simp only[aBh,z8 h1,bW,aXj]
theorem aC9 {a:Nat}(ha:a<115792089237316195423570985008687907853269984665640564039457584007913129639936):mG N (U a) (U b)=some (U (a%b)):=by
 obtain⟨q',h1,h2⟩:=aPw hN hb hb0 (hi:=0) hb0 ha
 rw[aYI,aYw]at h2
 unfold mG
 rw[bW,aXj,bW,aXj,←aAt,h2,aXj]
 simp only[z8 h1,bW,aXj]
theorem aHj {x y:Nat}(hx:x<115792089237316195423570985008687907853269984665640564039457584007913129639936)(hy:y<115792089237316195423570985008687907853269984665640564039457584007913129639936):rC N (U x) (U y) (U b)=some (U (x*y%b)):=by
 have hxb:x%b<b:=aXu _ hb0
 have hyb:y%b<b:=aXu _ hb0
 have hp:x%b*(y%b)/115792089237316195423570985008687907853269984665640564039457584007913129639936<b:=by
  rw[aXT (by omega)]
  exact aXK (Nat.mul_lt_mul_of_lt_of_lt hxb hyb) (Nat.mul_le_mul_left _ (by omega))
 obtain⟨q',h1,h2⟩:=aPw hN hb hb0 hp (aXu (x%b*(y%b)) (show 0<115792089237316195423570985008687907853269984665640564039457584007913129639936 by omega))
 rw[aXC (x%b*(y%b)/_),aYt,←aYP]at h2
 unfold rC
 rw[bW,aXj,aHx hb,aXj,decide_eq_false (by omega)]
 simp only[aXk,if_false,bW,aXj,aC9 hN hb hb0 hx,aC9 hN hb hb0 hy,aWo,aSm hN (show x%b<115792089237316195423570985008687907853269984665640564039457584007913129639936 by omega) (show y%b<115792089237316195423570985008687907853269984665640564039457584007913129639936 by omega),h2,z8 h1]
theorem aPA {x y:Nat}(hx:x<115792089237316195423570985008687907853269984665640564039457584007913129639936)(hy:y<115792089237316195423570985008687907853269984665640564039457584007913129639936):zD N (U x) (U y) (U b)=some (U ((x+y)%b)):=by
 have hxb:x%b<b:=aXu _ hb0
 have hyb:y%b<b:=aXu _ hb0
 have hs:=aYO x y b
 unfold zD
 rw[bW,aXj,aHx hb,aXj,decide_eq_false (by omega)]
 simp only[aXk,if_false,bW,aXj,aC9 hN hb hb0 hx,aC9 hN hb hb0 hy,aPz hN (show x%b<115792089237316195423570985008687907853269984665640564039457584007913129639936 by omega) (show y%b<115792089237316195423570985008687907853269984665640564039457584007913129639936 by omega)]
 have sub:b≤x%b+y%b→mO N (U b) (U ((x%b+y%b)%115792089237316195423570985008687907853269984665640564039457584007913129639936),decide (115792089237316195423570985008687907853269984665640564039457584007913129639936≤x%b+y%b)) true=some (U ((x+y)%b)):=by
  intro h
  have hm:(x+y)%b=x%b+y%b-b:=by rw[hs,aXX h,aXr (by omega)]
  unfold mO
  rw[if_pos rfl,aJx hN (aXu _ (by omega)) hb,aXj]
  simp only[bW,aXj,pP]
  rw[hm]
  congr 2
  omega
 by_cases ho:115792089237316195423570985008687907853269984665640564039457584007913129639936≤x%b+y%b
 ·rw[if_pos (decide_eq_true ho)]
  exact sub (by omega)
 rw[if_neg (by simpa using ho),aNt,aAN hN (aXu _ (by omega)) hb,aXj,aJk]
 by_cases hc:b≤(x%b+y%b)%115792089237316195423570985008687907853269984665640564039457584007913129639936
 ·rw[decide_eq_true hc]
  exact sub (by omega)
 rw[decide_eq_false hc]
 unfold mO
 simp only[aXk,if_false,bW,aXj,pP]
 rw[hs,aXr (show x%b+y%b<115792089237316195423570985008687907853269984665640564039457584007913129639936 by omega),aXr (show x%b+y%b<b by omega)]
end
section
variable {N:Nat}(hN:70000≤N){b:Nat}(hb:b<115792089237316195423570985008687907853269984665640564039457584007913129639936)(hb0:0<b)
include hN hb hb0
theorem aK3 {a e:Nat}(ha:a<115792089237316195423570985008687907853269984665640564039457584007913129639936)(he:e<115792089237316195423570985008687907853269984665640564039457584007913129639936): ∀(f k:Nat),k<f→k≤256→jB N (U a) (U e) (U b) f ((k:Int)-1) (U (a^(e/2^k)%b))=some (U (a^e%b))
 |f+1,0,_,_=>by rw[aX7,aYR];rfl
 |f+1,k+1,hf,hk=>by
  have ih:=aK3 ha he f k (by omega) (by omega)
  have hs:=aMd a b (e/2^k)
  have hd:e/2^(k+1)=e/2^k/2:=by rw[aXS,aYg]
  rw[hd]
  generalize hT:a^(e/2^k/2)%b=T at *
  have hTb:T<b:=hT▸aXu _ hb0
  have hTT:T*T%b<b:=aXu _ hb0
  unfold jB
  rw[show(((k+1:Nat):Int)-1)=(k:Int) by omega,if_pos (decide_eq_true (by omega)),bW,aXj,aHj hN hb hb0 (show T<115792089237316195423570985008687907853269984665640564039457584007913129639936 by omega) (show T<115792089237316195423570985008687907853269984665640564039457584007913129639936 by omega),aXj,bW,aXj,aJn he (show k<256 by omega),aXj]
  by_cases hbit:e/2^k%2=1
  ·rw[if_pos hbit]at hs
   rw[if_pos (decide_eq_true hbit),bW,aXj,aHj hN hb hb0 (show T*T%b<115792089237316195423570985008687907853269984665640564039457584007913129639936 by omega) ha,aXj,bW,aXj,hs]
   unfold pL
   rw[cN (by omega) (by omega)]
   exact ih
  rw[if_neg hbit,aYQ,aY5]at hs
  rw[if_neg (by simpa using hbit),hs]
  unfold pL
  rw[cN (by omega) (by omega)]
  exact ih
theorem aP7 {a e:Nat}(ha:a<115792089237316195423570985008687907853269984665640564039457584007913129639936)(he:e<115792089237316195423570985008687907853269984665640564039457584007913129639936):zC N (U a) (U e) (U b)=some (U (a^e%b)):=by
 obtain⟨n,h1,h2,h3⟩:=aU3 hN he
 have hl:=aK3 hN hb hb0 ha he N n (by omega) h1
 rw[aYp h2,aX7]at hl
 unfold zC
 rw[bW,aXj,aHx hb,aXj,decide_eq_false (by omega)]
 simp only[aXk,if_false]
 rw[show gW N 1=some (U 1)from rfl,aXj,aC9 hN hb hb0 (by omega),aXj,bW,aXj,bW,aXj,h3,aXj,cN (by omega) (by omega),hl,aXj]
 rfl
end
section
variable {N:Nat}(hN:70000≤N)
theorem aHC (N:Nat)(hN:70000≤N):nP N=some (U 115792089237316195423570985008687907853269984665640564039457584007913129603823):=by
 unfold nP
 rw[show gW N 36113=some (U 36113)from rfl,aXj,←aAt,aJx hN (by omega) (by omega),aXj,bW,aXj]
theorem aNv (N:Nat)(va:List Int)(n:Int): ∀(f f':Nat)(i:Int)(l r:List Int),f≤f'→jQ 0 va n f i l=some r→jQ N va n f' i l=some r
 |0,_,_,_,_,_,h=>by cases h
 |f+1,0,_,_,_,hf,_=>by omega
 |f+1,f'+1,i,l,r,hf,h=>by
  have ih:=aNv N va n f f'
  unfold jQ at h⊢
  split at h
  ·rename_i hc
   rw[if_pos hc]
   obtain⟨q,h1,h⟩:=aXV.1 h
   obtain⟨x,h2,h⟩:=aXV.1 h
   rw[h1,aXj,show o6 N va (aXl.wrap (i+n))=some x from h2,aXj]
   split at h
   ·rename_i hx
    rw[if_pos hx]
    obtain⟨y,h3,h⟩:=aXV.1 h
    obtain⟨z,h4,h⟩:=aXV.1 h
    rw[h3,aXj,h4,aXj]
    exact ih _ _ _ (by omega) h
   rename_i hx
   rw[if_neg hx]
   exact ih _ _ _ (by omega) h
  rename_i hc
  rw[if_neg hc]
  exact h
theorem aUj :jQ 0 (U 115792089237316195423570985008687907853269984665640564039457584007913129603823) 1 300 0 (aXm 4 0)=some (U 57896044618658097711785492504343953926634992332820282019728792003956564801911):=by decide +kernel
theorem aHv (N:Nat)(hN:70000≤N):qK N=some (U 57896044618658097711785492504343953926634992332820282019728792003956564801911):=by
 unfold qK
 rw[aHC N hN,aXj]
 unfold aEP
 rw[if_neg (by decide),if_neg (by decide),aNv N _ 1 300 N 0 _ _ (by omega) aUj,aXj]
 rfl
include hN
theorem aMw {a e:Nat}(ha:a<115792089237316195423570985008687907853269984665640564039457584007913129639936)(he:e<115792089237316195423570985008687907853269984665640564039457584007913129639936):u3 N (U a) (U e)=some (U (a^e%115792089237316195423570985008687907853269984665640564039457584007913129603823)):=by
 unfold u3
 rw[bW,aXj,bW,aXj,aHC N hN,aXj,aP7 hN (by omega) (by omega) ha he,aXj,bW,aXj]
theorem aRj {e:Nat}(he:e<115792089237316195423570985008687907853269984665640564039457584007913129639936):aAA N (U e)=some (U (4^e%115792089237316195423570985008687907853269984665640564039457584007913129603823)):=by
 unfold aAA
 rw[show gW N 4=some (U 4)from rfl,aXj,bW,aXj,aMw hN (by omega) he,aXj,bW,aXj]
theorem aMl {a b:Nat}(ha:a<115792089237316195423570985008687907853269984665640564039457584007913129639936)(hb:b<115792089237316195423570985008687907853269984665640564039457584007913129639936):sP N (U a) (U b)=some (U ((a+b)%57896044618658097711785492504343953926634992332820282019728792003956564801911)):=by
 unfold sP
 rw[bW,aXj,bW,aXj,aHv N hN,aXj,aPA hN (by omega) (by omega) ha hb,aXj,bW,aXj]
end
abbrev gP :Nat:=115792089237316195423570985008687907853269984665640564039457584007913129603823
abbrev gQ :Nat:=57896044618658097711785492504343953926634992332820282019728792003956564801911
theorem aVR (op:BinOp)(a b:Int):0≤bits op .u64 a b∧bits op .u64 a b<18446744073709551616:=by
 unfold bits
 rw[aY0]
 omega
theorem Wd.set {l:List Int}(h:Wd l)(i:Nat){x:Int}(hx:0≤x∧x<18446744073709551616):Wd (l.set i x):=
 ⟨by rw[aXF];exact h.1,fun y hy=>(aYA hy).elim (h.2 y) (fun e=>e▸hx)⟩
section
variable {N:Nat}(hN:70000≤N)
include hN
theorem aOk {h:List Int}(hl:h.length=32): ∀(m j:Nat)(l:List Int),32-j<m→j≤32→Wd l→ ∃r,gT N h m (j:Int) l=some r∧Wd r
 |0,j,l,hm,_,_=>by omega
 |m+1,j,l,hm,hj,hw=>by
  rw[gT]
  by_cases hh:j<32
  ·have h4:=hw.1
   rw[show decide ((j:Int)<32)=true from decide_eq_true (by omega),if_pos rfl,dV hh (by omega),show(8:Int)=((8:Nat):Int)from rfl,tJ,cN (a:=((j/8:Nat):Int)) (by omega) (by omega),cN (a:=3-((j/8:Nat):Int)) (by omega) (by omega),show 3-((j/8:Nat):Int)=((3-j/8:Nat):Int) by omega,dV (show 3-j/8<4 by omega) (by omega)]
   obtain⟨y,hy⟩: ∃y,shl .u64 l[3-j/8] ((8:Nat):Int)=some y:=by unfold shl;rw[if_neg (by omega)];exact⟨_,rfl⟩
   simp only[aXj,hy,i1 (show j≤100000 by omega)]
   exact aOk hl m (j+1) _ (by omega) (by omega) (hw.set _ (aVR _ _ _))
  rw[show decide ((j:Int)<32)=false from decide_eq_false (by omega)]
  exact⟨l,rfl,hw⟩
theorem aBC {h:List Int}(hl:h.length=32): ∃n,n<115792089237316195423570985008687907853269984665640564039457584007913129639936∧fV N h=some (U n):=by
 obtain⟨r,h1,h2⟩:=aOk hN hl N 0 (aXm 4 0) (by omega) (by omega) ⟨by simp,fun x hx=>by have:=List.eq_of_mem_replicate hx;omega⟩
 rw[show((0:Nat):Int)=0 from rfl]at h1
 obtain⟨n,hn,rfl⟩:=h2.ex
 exact⟨n,hn,by simp only[fV,dG hl,aXj,h1,pZ,bW]⟩
def byG (n i:Nat):Int:=aXI.wrap (((U n).getD (3-i/8) 0).fdiv (2^(56-8*(i%8))))
def jF (n:Nat):List Int:=(aXU 32).map (byG n)
omit hN in
theorem jG (n:Nat):(jF n).length=32:=by simp[jF]
omit hN in
theorem aDX (n:Nat):Byt (jF n):=by
 intro x hx
 simp only[jF,aX6]at hx
 obtain⟨i,_,rfl⟩:=hx
 exact aHe _
theorem aOn (n:Nat): ∀(m j:Nat),32-j<m→j≤32→k6 N (U n) m (j:Int) ((aXU j).map (byG n)++aXm (32-j) 0)=some (jF n)
 |0,j,hm,_=>by omega
 |m+1,j,hm,hj=>by
  rw[k6]
  by_cases h:j<32
  ·have hg:bX 4 (U n) ((3-j/8:Nat):Int)=some ((U n).getD (3-j/8) 0):=by
    have:3-j/8<(U n).length:=by rw[aVE];omega
    rw[dV (show 3-j/8<4 by omega) this];simp[this]
   rw[show decide ((j:Int)<32)=true from decide_eq_true (by omega),if_pos rfl,show(8:Int)=((8:Nat):Int)from rfl,tJ,vD,cN (a:=((j/8:Nat):Int)) (by omega) (by omega),cN (a:=3-((j/8:Nat):Int)) (by omega) (by omega),show 3-((j/8:Nat):Int)=((3-j/8:Nat):Int) by omega,hg]
   rw[cN (a:=((j%8:Nat):Int)*((8:Nat):Int)) (by omega) (by omega),cN (a:=56-((j%8:Nat):Int)*((8:Nat):Int)) (by omega) (by omega),show 56-((j%8:Nat):Int)*((8:Nat):Int)=((56-8*(j%8):Nat):Int) by omega]
   simp only[aXj]
   rw[aOL _ _ (by omega),dV h (by simp;omega)]
   simp only[aXj,aXp,i1 (show j≤100000 by omega)]
   have:=aBa (byG n) 32 j h
   rw[show aXI.wrap (((U n).getD (3-j/8) 0).fdiv (2^(56-8*(j%8))))=byG n j from rfl,this]
   exact aOn n m (j+1) (by omega) (by omega)
  obtain rfl:j=32:=by omega
  rw[show decide (((32:Nat):Int)<32)=false from rfl]
  simp[jF]
theorem aJW (n:Nat):vM N (U n)=some (jF n):=by
 have:=aOn hN n N 0 (by omega) (by omega)
 simp only[aX9,aYk,aXo,aXO]at this
 rw[show((0:Nat):Int)=0 from rfl]at this
 simp only[vM,this,aXj,aAS,dG (jG n)]
theorem grow (l:List (List Int))(hn:l.length≤1000)(h32: ∀x∈l,x.length=32):aA2 N l=some l.flatten:=by
 have hfl:l.flatten.length≤l.length*32:=by
  clear hn
  induction l with
  |nil=>simp
  |cons x l ih=>
   have h1:=h32 x (by simp)
   have h2:=ih (fun y hy=>h32 y (by simp[hy]))
   simp only[aXY,aXn,aXL];omega
 have:=aEC (f:=qI N l) l hn (by omega) (fun m j acc hj hB=>by
  rw[qI,dT hj,if_pos rfl,bZ l hj,aXj,dG (h32 _ (aXv hj)),aXj,iZ (by omega)]
  simp only[aXj,i1 (show j≤100000 by omega)]) (fun m j acc hj=>by rw[qI,dF (by omega)];rfl) N hN
 unfold aA2
 rw[this];rfl
theorem aPU {h:List Int}(hl:h.length=32): ∃n,n<57896044618658097711785492504343953926634992332820282019728792003956564801911∧rX N h=some (U n):=by
 obtain⟨n,h1,h2⟩:=aBC hN hl
 refine⟨(n+0)%57896044618658097711785492504343953926634992332820282019728792003956564801911,aXu _ (by decide), ?_⟩
 rw[show rX N h=((a9 32 h).bind fun q=>(fV N h).bind fun x4=>(pH N x4 [0,0,0,0]).bind fun x6=>(a9 4 x6).bind fun q_1=>some x6)from rfl]
 simp only[dG hl,aXj,h2,←aAt,pH,bW,aEb,aMK (b:=57896044618658097711785492504343953926634992332820282019728792003956564801911) hN (by decide) (by decide) h1 (show(0:Nat)<115792089237316195423570985008687907853269984665640564039457584007913129639936 by decide)]
def aBN :ByteArray:=⟨#[108,105,103,104,116,99,108,105,101,110,116,47,99,104,97,108,108,101,110,103,101]⟩
theorem aMJ {r p:Nat}{m:List Int}(hm:m.length=32)(hb:Byt m): ∃n,n<57896044618658097711785492504343953926634992332820282019728792003956564801911∧oH N (U r) (U p) m=some (U n):=by
 obtain⟨n,h1,h2⟩:=aPU hN (z6 N aBN (jF r++(jF p++m)))
 refine⟨n,h1, ?_⟩
 have hrow:aA2 N [jF r,jF p,m]=some (jF r++(jF p++m)):=by
  rw[grow hN _ (by simp) (fun x hx=>by
   simp only[aYq,aY1,or_false]at hx
   rcases hx with rfl|rfl|rfl
   ·exact jG _
   ·exact jG _
   exact hm)]
  simp
 have ht:=aGT N hN aBN (by decide) (jF r++(jF p++m)) ((aDX _).append ((aDX _).append hb)) (by simp[jG,hm])
 simp only[oH,bW,aJW hN,dG hm,dG (jG _),hrow,aXj]
 rw[show(⟨#[108,105,103,104,116,99,108,105,101,110,116,47,99,104,97,108,108,101,110,103,101]⟩:ByteArray)=aBN from rfl,ht]
 simp only[aXj,h2,bW]
theorem xT {a:Nat}(ha:a<115792089237316195423570985008687907853269984665640564039457584007913129639936):qP N (U a)=some (decide (a<57896044618658097711785492504343953926634992332820282019728792003956564801911)):=by
 simp only[qP,bW,aEb,aXj,aAN hN ha (show(57896044618658097711785492504343953926634992332820282019728792003956564801911:Nat)<115792089237316195423570985008687907853269984665640564039457584007913129639936 by decide),aLW]
theorem aSk :([1,0,0,0]:List Int)=U 1:=by decide +kernel
theorem aP1 {a:Nat}(ha:a<115792089237316195423570985008687907853269984665640564039457584007913129639936): ∃v,rR N (U a)=some v:=by
 have hJ: ∀t,∃v,mT N (U a) t=some v:=by
  intro t
  cases t with
  |true=>exact⟨_,rfl⟩
  |false=>
   simp only[mT,aXk,if_false,bW,aEb,aXj,aHF hN ha (show(57896044618658097711785492504343953926634992332820282019728792003956564801911:Nat)<115792089237316195423570985008687907853269984665640564039457584007913129639936 by decide),fS,aSk hN]
   exact⟨_,rfl⟩
 simp only[rR,bW,aXj,aNb,aAN hN ha (show(115792089237316195423570985008687907853269984665640564039457584007913129603823:Nat)<115792089237316195423570985008687907853269984665640564039457584007913129639936 by decide)]
 split
 ·exact hJ _
 exact hJ _
theorem aNh {a:Nat}(ha:a<115792089237316195423570985008687907853269984665640564039457584007913129639936): ∃v,sR N (U a)=some v:=by
 obtain⟨v,hv⟩:=aP1 hN ha
 simp only[sR,bW,fS,aSk hN,aXj,hv]
 split<;>exact⟨_,rfl⟩
theorem aQe {p e s:Nat}{m:List Int}(hp:p<115792089237316195423570985008687907853269984665640564039457584007913129639936)(he:e<115792089237316195423570985008687907853269984665640564039457584007913129639936)(hs:s<115792089237316195423570985008687907853269984665640564039457584007913129639936)(hm:m.length=32)(hb:Byt m): ∃v,tM N (U p) m (U e) (U s)=some v:=by
 obtain⟨v,hv⟩:=aNh hN hp
 have hq:(57896044618658097711785492504343953926634992332820282019728792003956564801911:Nat)<115792089237316195423570985008687907853269984665640564039457584007913129639936:=by decide
 have hJ: ∀t,∃v,kD N (U p) m (U e) (U s) t=some v:=by
  intro t
  cases t with
  |true=>exact⟨_,rfl⟩
  |false=>
   have hd:(57896044618658097711785492504343953926634992332820282019728792003956564801911+115792089237316195423570985008687907853269984665640564039457584007913129639936-e)%115792089237316195423570985008687907853269984665640564039457584007913129639936<115792089237316195423570985008687907853269984665640564039457584007913129639936:=aXu _ (by decide)
   have h4:([4,0,0,0]:List Int)=U 4:=by decide +kernel
   have hx: ∀z:Nat,z%115792089237316195423570985008687907853269984665640564039457584007913129603823<115792089237316195423570985008687907853269984665640564039457584007913129639936:=fun z=>aYZ (aXu z (by decide)) (by decide)
   simp only[kD,aXk,if_false,bW,aEb,aXj,aHH hN hq he,wE,fS,h4,aHF hN (show(4:Nat)<115792089237316195423570985008687907853269984665640564039457584007913129639936 by decide) hs,aHF hN hp hd,aPm hN (hx _) (hx _),dG hm]
   obtain⟨n,_,hn⟩:=aMJ hN (r:=4^s%115792089237316195423570985008687907853269984665640564039457584007913129603823*(p^((57896044618658097711785492504343953926634992332820282019728792003956564801911+115792089237316195423570985008687907853269984665640564039457584007913129639936-e)%115792089237316195423570985008687907853269984665640564039457584007913129639936)%115792089237316195423570985008687907853269984665640564039457584007913129603823)%115792089237316195423570985008687907853269984665640564039457584007913129603823) (p:=p) hm hb
   rw[hn]
   exact⟨_,rfl⟩
 simp only[tM,bW,aXj,xT hN he,xT hN hs,hv]
 split
 ·exact hJ _
 split
 ·exact hJ _
 exact hJ _
theorem aPx {b:List Int}: ∃e s r,e<115792089237316195423570985008687907853269984665640564039457584007913129639936∧s<115792089237316195423570985008687907853269984665640564039457584007913129639936∧tP N b=some (U e,U s,r):=by
 have h0:aXm 4 (0:Int)=U 0:=by decide +kernel
 unfold tP
 by_cases hl:b.length=64
 ·rw[show(((b.length:Nat):Int) != 64)=false by rw[hl];rfl]
  have e1:sub b 0 32=some (b.take 32):=by unfold sub;rw[if_pos ⟨by omega,by omega,by omega⟩];simp
  have e2:sub b 32 (b.length:Int)=some (b.drop 32):=by
   unfold sub;rw[if_pos ⟨by omega,by omega,by omega⟩,aXp,aXy (aXM _)];rfl
  have l1:(b.take 32).length=32:=by simp;omega
  have l2:(b.drop 32).length=32:=by simp;omega
  have a1:tV 32 (b.take 32)=some (b.take 32):=by unfold tV;rw[if_pos (by omega),aXy (by omega)]
  have a2:tV 32 (b.drop 32)=some (b.drop 32):=by unfold tV;rw[if_pos (by omega),aXy (by omega)]
  obtain⟨e,h1,h2⟩:=aBC hN l1
  obtain⟨s,h3,h4⟩:=aBC hN l2
  have hJ: ∀t,∃e' s' r,e'<115792089237316195423570985008687907853269984665640564039457584007913129639936∧s'<115792089237316195423570985008687907853269984665640564039457584007913129639936∧qV N (U e) (U s) t=some (U e',U s',r):=by
   intro t
   cases t with
   |true=>exact⟨0,0,5,by decide,by decide,by unfold qV;rw[h0];rfl⟩
   |false=>exact⟨e,s,0,h1,h3,rfl⟩
  simp only[aXk,if_false,e1,e2,a1,a2,h2,h4,aXj,bW,xT hN h1,xT hN h3]
  split
  ·exact hJ _
  exact hJ _
 rw[show(((b.length:Nat):Int) != 64)=true by simp;omega,if_pos rfl,h0]
 exact⟨0,0,8,by decide,by decide,rfl⟩
theorem aQn {m:List Int}(hm:m.length=32)(hb:Byt m)(h a:Int)(st:List (List Int))(br:List aO)(c:Int)(key sig:List Int): ∃e,dM N m h a st br c key sig=some e:=by
 have hJ: ∀t,∃e,g7 N m h a st br c t=some e:=fun t=>by cases t<;>exact⟨_,rfl⟩
 unfold dM
 by_cases hl:key.length=32
 ·rw[show(((key.length:Nat):Int) != 32)=false by rw[hl];rfl]
  have a1:tV 32 key=some key:=by unfold tV;rw[if_pos (by omega),aXy (by omega)]
  obtain⟨p,h1,h2⟩:=aBC hN hl
  obtain⟨v,hv⟩:=aNh hN h1
  simp only[aXk,if_false,a1,h2,aXj,bW,hv]
  split
  ·exact⟨_,rfl⟩
  split
  ·exact⟨_,rfl⟩
  obtain⟨e,s,r,h3,h4,h5⟩:=aPx hN (b:=sig)
  simp only[h5,aXj]
  split
  ·exact hJ _
  obtain⟨w,hw⟩:=aQe hN h1 h3 h4 hm hb
  simp only[dG hm,aXj,hw]
  exact hJ _
 rw[show(((key.length:Nat):Int) != 32)=true by simp;omega]
 exact⟨_,rfl⟩
end
def xF (n w:Nat):Nat:=n/18446744073709551616^(3-w)%18446744073709551616
theorem aOH (n:Nat):U n=[(xF n 3:Int),(xF n 2:Int),(xF n 1:Int),(xF n 0:Int)]:=by
 simp only[U,w4,xF,aYH,aX7,aYR]
theorem aJe (n w:Nat):xF n w<18446744073709551616:=aXu _ (by decide)
def uD (n w j:Nat):Nat:=xF n w/2^(64-8*min 8 (j-8*w))
def stF (n j:Nat):List Int:=[(uD n 3 j:Int),(uD n 2 j:Int),(uD n 1 j:Int),(uD n 0 j:Int)]
theorem aSV (n j w:Nat)(hw:w<4):(stF n j)[3-w]? =some ((uD n w j:Nat):Int):=by
 match w,hw with
 |0,_=>rfl
 |1,_=>rfl
 |2,_=>rfl
 |3,_=>rfl
theorem aKu (n i:Nat)(hi:i<32):byG n i=((xF n (i/8)/2^(56-8*(i%8))%256:Nat):Int):=by
 have h:(U n).getD (3-i/8) 0=((xF n (i/8):Nat):Int):=by
  rw[aOH]
  have:i/8<4:=by omega
  generalize i/8=w at this
  match w,this with
  |0,_=>rfl
  |1,_=>rfl
  |2,_=>rfl
  |3,_=>rfl
 unfold byG
 rw[h,show((2:Int)^(56-8*(i%8)))=((2^(56-8*(i%8)):Nat):Int) by simp,Int.fdiv_eq_ediv_of_nonneg _ (Int.natCast_nonneg _),←Int.natCast_ediv,aY2]
 generalize xF n (i/8)/2^(56-8*(i%8))=y
 omega
theorem aKd {n w r:Nat}(hr:r<8):uD n w (8*w+r+1)=2^8*uD n w (8*w+r)+xF n w/2^(56-8*r)%256∧uD n w (8*w+r)<2^56:=by
 have e1:64-8*min 8 (8*w+r+1-8*w)=56-8*r:=by omega
 have e2:64-8*min 8 (8*w+r-8*w)=(56-8*r)+8:=by omega
 unfold uD
 rw[e1,e2,aX5,←aYg]
 have hu:=aJe n w
 have hd:xF n w/2^(56-8*r)≤xF n w:=Nat.div_le_self _ _
 generalize xF n w/2^(56-8*r)=y at hd
 have:(2:Nat)^8=256:=rfl
 have h56:(2:Nat)^56=72057594037927936:=rfl
 rw[this,h56]
 omega
theorem oB {n w w' r:Nat}(hr:r<8)(hne:w'≠w):uD n w' (8*w+r+1)=uD n w' (8*w+r):=by
 unfold uD
 rw[show min 8 (8*w+r+1-8*w')=min 8 (8*w+r-8*w') by omega]
theorem aSA {n w r:Nat}(hw:w<4)(hr:r<8):(stF n (8*w+r)).set (3-w) ((2^8*uD n w (8*w+r)+xF n w/2^(56-8*r)%256:Nat):Int)=stF n (8*w+r+1):=by
 rw[←(aKd hr).1]
 match w,hw with
 |0,_=>simp only[stF];rw[oB (w':=1) hr (by decide),oB (w':=2) hr (by decide),oB (w':=3) hr (by decide)];rfl
 |1,_=>simp only[stF];rw[oB (w':=0) hr (by decide),oB (w':=2) hr (by decide),oB (w':=3) hr (by decide)];rfl
 |2,_=>simp only[stF];rw[oB (w':=1) hr (by decide),oB (w':=0) hr (by decide),oB (w':=3) hr (by decide)];rfl
 |3,_=>simp only[stF];rw[oB (w':=1) hr (by decide),oB (w':=2) hr (by decide),oB (w':=0) hr (by decide)];rfl
theorem aWb (n:Nat):stF n 0=[0,0,0,0]:=by
 have h: ∀w,uD n w 0=0:=fun w=>by
  unfold uD
  rw[show 64-8*min 8 (0-8*w)=64 by omega]
  exact aYp (by have:=aJe n w;exact this)
 simp only[stF,h];rfl
theorem aVi (n:Nat):stF n 32=U n:=by
 have h: ∀w,w<4→uD n w 32=xF n w:=fun w hw=>by
  unfold uD
  rw[show 64-8*min 8 (32-8*w)=0 by omega]
  simp
 rw[aOH];simp only[stF];rw[h 0 (by decide),h 1 (by decide),h 2 (by decide),h 3 (by decide)]
section
variable {N:Nat}(hN:70000≤N)
include hN
theorem aML (n:Nat): ∀(m j:Nat),32-j<m→j≤32→gT N (jF n) m (j:Int) (stF n j)=some (U n)
 |0,j,hm,_=>by omega
 |m+1,j,hm,hj=>by
  rw[gT]
  by_cases hh:j<32
  ·have hb:bX 32 (jF n) (j:Int)=some (byG n j):=by
    rw[dV hh (by rw[jG];exact hh)];simp[jF]
   have hw:j/8<4:=by omega
   have hr:j%8<8:=by omega
   have hg:bX 4 (stF n j) ((3-j/8:Nat):Int)=some ((uD n (j/8) j:Nat):Int):=by
    rw[dV (show 3-j/8<4 by omega) (by simp[stF];omega)]
    have:=aSV n j (j/8) hw
    rw[aXz (by simp[stF];omega)]at this
    exact this
   rw[show decide ((j:Int)<32)=true from decide_eq_true (by omega),if_pos rfl,hb,show(8:Int)=((8:Nat):Int)from rfl,tJ,cN (a:=((j/8:Nat):Int)) (by omega) (by omega),cN (a:=3-((j/8:Nat):Int)) (by omega) (by omega),show 3-((j/8:Nat):Int)=((3-j/8:Nat):Int) by omega]
   simp only[aXj,hg]
   have ej:j=8*(j/8)+j%8:=by omega
   obtain⟨p1,p2⟩:=aKd (n:=n) (w:=j/8) hr
   rw[←ej]at p1 p2
   have hs:shl .u64 ((uD n (j/8) j:Nat):Int) ((8:Nat):Int)=some ((2^8*uD n (j/8) j:Nat):Int):=by
    unfold shl
    rw[if_neg (by omega),show min (aXN ((8:Nat):Int)) aXB.bits=8 from rfl,show((uD n (j/8) j:Nat):Int)*2^8=((2^8*uD n (j/8) j:Nat):Int) by rw[aXC];simp,aA5 (by omega) (by omega)]
   rw[hs]
   simp only[aXj]
   have hbt:xF n (j/8)/2^(56-8*(j%8))%256<2^8:=aXu _ (by decide)
   rw[aKu n j hh,aA5 (by omega) (by have:=hbt;omega),aAG rfl _ _ (by show _<2^64;omega) (by show _<2^64;omega),←aXG hbt]
   have:=aSA (n:=n) hw hr
   rw[←ej]at this
   rw[aXp,this,i1 (show j≤100000 by omega)]
   exact aML n m (j+1) (by omega) (by omega)
  obtain rfl:j=32:=by omega
  rw[show decide (((32:Nat):Int)<32)=false from rfl,aVi]
  rfl
theorem aHQ (n:Nat):fV N (jF n)=some (U n):=by
 have:=aML hN n N 0 (by omega) (by omega)
 rw[aWb,show((0:Nat):Int)=0 from rfl]at this
 simp only[fV,dG (jG n),aXj,r40,this,pZ,bW]
end
theorem aSl : ∀j<32,aXl.wrap (aYV (aXl.wrap (31-((j:Nat):Int))) 8)=aXl.wrap (3-aXl.wrap (aYV ((j:Nat):Int) 8))∧aXl.wrap (8*(aYK (aXl.wrap (31-((j:Nat):Int))) 8))=aXl.wrap (56-aXl.wrap (aYK ((j:Nat):Int) 8*8)):=by decide +kernel
theorem aPK (N:Nat)(a:List Int): ∀(m j:Nat)(l:List Int),j≤32→lK N a m (j:Int) l=k6 N a m (j:Int) l
 |0,_,_,_=>rfl
 |m+1,j,l,hj=>by
  unfold lK k6
  by_cases h:j<32
  ·have hw:aXl.wrap ((j:Int)+1)=((j+1:Nat):Int):=by rw[cN (by omega) (by omega)];omega
   rw[(aSl j h).1,(aSl j h).2,hw]
   simp only[aPK N a m (j+1) _ (by omega)]
  rw[if_neg (by simp;omega),if_neg (by simp;omega)]
theorem aRm (N:Nat)(hN:70000≤N)(n:Nat):aAI N (U n)=some (jF n):=by
 have h:=aJW hN n
 unfold vM at h
 unfold aAI
 rw[show lK N (U n) N 0 (aXm 32 0)=_ from aPK N (U n) N 0 _ (by omega)]
 exact h
theorem aQl (N:Nat)(hN:70000≤N)(n:Nat):t7 N (U n)=some (jF n):=by
 unfold t7
 rw[bW,aXj,aRm N hN,aXj,z8 (jG n),aXj]
def qwN (n w j:Nat):Nat:=2^(64-8*min 8 (j-8*w))*uD n w j
def stQ (n j:Nat):List Int:=[(qwN n 3 j:Int),(qwN n 2 j:Int),(qwN n 1 j:Int),(qwN n 0 j:Int)]
theorem aTY (n j w:Nat)(hw:w<4):(stQ n j)[3-w]? =some ((qwN n w j:Nat):Int):=by
 match w,hw with
 |0,_=>rfl
 |1,_=>rfl
 |2,_=>rfl
 |3,_=>rfl
theorem aVG (n w j:Nat):qwN n w j<2^64:=aYx (Nat.mul_div_le _ _) (aJe n w)
theorem aTh {n w r:Nat}(hr:r<8):qwN n w (8*w+r+1)=2^(64-8*r)*uD n w (8*w+r)+2^(56-8*r)*(xF n w/2^(56-8*r)%256)∧qwN n w (8*w+r)=2^(64-8*r)*uD n w (8*w+r):=by
 have e1:64-8*min 8 (8*w+r+1-8*w)=56-8*r:=by omega
 have e2:64-8*min 8 (8*w+r-8*w)=64-8*r:=by omega
 unfold qwN
 rw[e1,e2,(aKd hr).1,aYs,←aYc,←aX5,show 56-8*r+8=64-8*r by omega]
 exact⟨rfl,rfl⟩
theorem pW {n w w' r:Nat}(hr:r<8)(hne:w'≠w):qwN n w' (8*w+r+1)=qwN n w' (8*w+r):=by
 unfold qwN
 rw[oB hr hne,show min 8 (8*w+r+1-8*w')=min 8 (8*w+r-8*w') by omega]
theorem aQW {n w r:Nat}(hw:w<4)(hr:r<8):(stQ n (8*w+r)).set (3-w) ((qwN n w (8*w+r+1):Nat):Int)=stQ n (8*w+r+1):=by
 match w,hw with
 |0,_=>simp only[stQ];rw[pW (w':=1) hr (by decide),pW (w':=2) hr (by decide),pW (w':=3) hr (by decide)];rfl
 |1,_=>simp only[stQ];rw[pW (w':=0) hr (by decide),pW (w':=2) hr (by decide),pW (w':=3) hr (by decide)];rfl
 |2,_=>simp only[stQ];rw[pW (w':=1) hr (by decide),pW (w':=0) hr (by decide),pW (w':=3) hr (by decide)];rfl
 |3,_=>simp only[stQ];rw[pW (w':=1) hr (by decide),pW (w':=2) hr (by decide),pW (w':=0) hr (by decide)];rfl
theorem aVz (n:Nat):stQ n 0=[0,0,0,0]:=by
 have h: ∀w,qwN n w 0=0:=fun w=>by
  unfold qwN uD
  rw[show 64-8*min 8 (0-8*w)=64 by omega,aYp (by have:=aJe n w;exact this)]
 simp only[stQ,h];rfl
theorem aUi (n:Nat):stQ n 32=U n:=by
 have h: ∀w,w<4→qwN n w 32=xF n w:=fun w hw=>by
  unfold qwN uD
  rw[show 64-8*min 8 (32-8*w)=0 by omega]
  simp
 rw[aOH];simp only[stQ];rw[h 0 (by decide),h 1 (by decide),h 2 (by decide),h 3 (by decide)]
section
variable {N:Nat}(hN:70000≤N)
include hN
theorem aNp (n:Nat): ∀(m j:Nat),32-j<m→j≤32→j4 N (jF n) m (j:Int) (stQ n j)=some (U n)
 |0,j,hm,_=>by omega
 |m+1,j,hm,hj=>by
  rw[j4]
  by_cases hh:j<32
  ·have hb:bX 32 (jF n) (j:Int)=some (byG n j):=by
    rw[dV hh (by rw[jG];exact hh)];simp[jF]
   have hw:j/8<4:=by omega
   have hr:j%8<8:=by omega
   have hg:bX 4 (stQ n j) ((3-j/8:Nat):Int)=some ((qwN n (j/8) j:Nat):Int):=by
    rw[dV (show 3-j/8<4 by omega) (by simp[stQ];omega)]
    have:=aTY n j (j/8) hw
    rw[aXz (by simp[stQ];omega)]at this
    exact this
   have i1':aXl.wrap (aYV (aXl.wrap (31-(j:Int))) 8)=((3-j/8:Nat):Int):=by
    rw[show 31-(j:Int)=((31-j:Nat):Int) by omega,cN (a:=((31-j:Nat):Int)) (by omega) (by omega),show(8:Int)=((8:Nat):Int)from rfl,tJ,cN (by omega) (by omega),show(31-j)/8=3-j/8 by omega]
   have i2':aXl.wrap (8*(aYK (aXl.wrap (31-(j:Int))) 8))=((56-8*(j%8):Nat):Int):=by
    rw[show 31-(j:Int)=((31-j:Nat):Int) by omega,cN (a:=((31-j:Nat):Int)) (by omega) (by omega),show(aYK ((31-j:Nat):Int) 8)=(((31-j)%8:Nat):Int)from vD _ 8,cN (by omega) (by omega)]
    omega
   rw[show decide ((j:Int)<32)=true from decide_eq_true (by omega),if_pos rfl,i1',i2',hg,aXj,hb,aXj]
   have ej:j=8*(j/8)+j%8:=by omega
   obtain⟨p1,p2⟩:=aTh (n:=n) (w:=j/8) hr
   rw[←ej]at p1 p2
   have hbt:xF n (j/8)/2^(56-8*(j%8))%256<256:=aXu _ (by decide)
   rw[aKu n j hh,aA5 (by omega) (by omega),aFj (k:= .u64) rfl,aXj]
   have hlt:2^(56-8*(j%8))*(xF n (j/8)/2^(56-8*(j%8))%256)<2^(64-8*(j%8)):=by
    have h8:2^(64-8*(j%8))=2^(56-8*(j%8))*256:=by rw[show 64-8*(j%8)=56-8*(j%8)+8 by omega,aX5]
    rw[h8]
    exact(Nat.mul_lt_mul_left (aX4 (by omega))).2 hbt
   have hle:2^(64-8*(j%8))≤2^64:=Nat.pow_le_pow_right (by omega) (by omega)
   have hval:xF n (j/8)/2^(56-8*(j%8))%256*2^(56-8*(j%8))%2^aXB.bits=2^(56-8*(j%8))*(xF n (j/8)/2^(56-8*(j%8))%256):=by
    rw[aXC]
    exact aXr (aXK hlt hle)
   rw[hval,aAG (k:= .u64) rfl _ _ (aVG n (j/8) j) (aXK hlt hle),p2,←aXG hlt,←p1]
   have:=aQW (n:=n) hw hr
   rw[←ej]at this
   rw[aXp,this,i1 (show j≤100000 by omega)]
   exact aNp n m (j+1) (by omega) (by omega)
  obtain rfl:j=32:=by omega
  rw[show decide (((32:Nat):Int)<32)=false from rfl,aUi]
  rfl
theorem aHg (n:Nat):i7 N (jF n)=some (U n):=by
 have:=aNp hN n N 0 (by omega) (by omega)
 rw[aVz,show((0:Nat):Int)=0 from rfl]at this
 simp only[i7,aXj,r40,this,sI,bW]
theorem aQu {n:Nat}(hn:n<115792089237316195423570985008687907853269984665640564039457584007913129639936):yR N (jF n)=some (U (n%57896044618658097711785492504343953926634992332820282019728792003956564801911)):=by
 unfold yR
 rw[z8 (jG n),aXj,aHg hN,aXj,←aAt,aMl hN hn (by omega),aXj,bW,aXj,aYm]
theorem aRq {n:Nat}(hn:n<115792089237316195423570985008687907853269984665640564039457584007913129639936):rX N (jF n)=some (U (n%57896044618658097711785492504343953926634992332820282019728792003956564801911)):=by
 unfold rX pH
 rw[z8 (jG n),aXj,aHQ hN,aXj,←aAt,bW,aXj,bW,aXj,aEb,aXj,aMK hN (by omega) (by omega) hn (by omega),aXj,bW,aXj,aXj,bW,aXj,aYm]
end
def aAQ (f:Nat→Nat)(w:Nat):Nat:=f (8*w)*72057594037927936+f (8*w+1)*281474976710656+f (8*w+2)*1099511627776+f (8*w+3)*4294967296+f (8*w+4)*16777216+f (8*w+5)*65536+f (8*w+6)*256+f (8*w+7)
theorem vC {f:Nat→Nat}(hf: ∀i,f i<256)(w:Nat):aAQ f w<18446744073709551616∧ ∀r,r<8→aAQ f w/2^(56-8*r)%256=f (8*w+r):=by
 have h0:=hf (8*w)
 have h1:=hf (8*w+1)
 have h2:=hf (8*w+2)
 have h3:=hf (8*w+3)
 have h4:=hf (8*w+4)
 have h5:=hf (8*w+5)
 have h6:=hf (8*w+6)
 have h7:=hf (8*w+7)
 unfold aAQ
 refine⟨by omega,fun r hr=> ?_⟩
 match r,hr with
 |0,_=>show _/72057594037927936%256=f (8*w);omega
 |1,_=>show _/281474976710656%256=_;omega
 |2,_=>show _/1099511627776%256=_;omega
 |3,_=>show _/4294967296%256=_;omega
 |4,_=>show _/16777216%256=_;omega
 |5,_=>show _/65536%256=_;omega
 |6,_=>show _/256%256=_;omega
 |7,_=>show _/1%256=_;omega
def byF (h:List Int)(i:Nat):Nat:=((h.getD i 0).toNat)%256
def lT (h:List Int):Nat:=vl (aAQ (byF h) 3) (aAQ (byF h) 2) (aAQ (byF h) 1) (aAQ (byF h) 0)
theorem aBQ (h:List Int)(i:Nat):byF h i<256:=aXu _ (by decide)
theorem tR (h:List Int):lT h<115792089237316195423570985008687907853269984665640564039457584007913129639936:=
 aHz (vC (aBQ h) 3).1 (vC (aBQ h) 2).1 (vC (aBQ h) 1).1 (vC (aBQ h) 0).1
theorem aEW {h:List Int}(hl:h.length=32)(hb:Byt h):jF (lT h)=h:=by
 have hw: ∀w,w<4→xF (lT h) w=aAQ (byF h) w:=by
  have e:=aOH (lT h)
  rw[show U (lT h)=w4 (aAQ (byF h) 3) (aAQ (byF h) 2) (aAQ (byF h) 1) (aAQ (byF h) 0)from(aH9 (vC (aBQ h) 3).1 (vC (aBQ h) 2).1 (vC (aBQ h) 1).1 (vC (aBQ h) 0).1).symm]at e
  simp only[w4,aY4,Int.natCast_inj,and_true]at e
  obtain⟨e3,e2,e1,e0⟩:=e
  intro w hw
  match w,hw with
  |0,_=>exact e0.symm
  |1,_=>exact e1.symm
  |2,_=>exact e2.symm
  |3,_=>exact e3.symm
 refine List.ext_getElem (by rw[jG,hl]) fun i h1 h2=> ?_
 rw[jG]at h1
 have hg:(jF (lT h))[i]'(by rw[jG];exact h1)=byG (lT h) i:=by simp[jF]
 rw[hg,aKu _ i h1,hw (i/8) (by omega),(vC (aBQ h) (i/8)).2 (i%8) (by omega),show 8*(i/8)+i%8=i by omega]
 have hx:=hb h[i] (aXv h2)
 unfold byF
 rw[aYv,aXz h2,Option.getD_some]
 omega
theorem aCT :gQ<115792089237316195423570985008687907853269984665640564039457584007913129639936:=by decide +kernel
theorem aHE (a:Nat):a%gP<115792089237316195423570985008687907853269984665640564039457584007913129639936:=aYZ (aXu _ (by decide +kernel)) (by decide +kernel)
section
variable {N:Nat}(hN:70000≤N)
include hN
theorem aLO (l:List (List Int))(hn:l.length≤1000)(ht:l.flatten.length≤40000000):qF N l=some l.flatten:=by
 have:=aEC (f:=nN N l) l hn (by omega) (fun m j acc hj hB=>by
  rw[nN,dT hj,if_pos rfl,bZ l hj,aXj]
  unfold eF
  rw[show((acc.length:Int)+(l[j].length:Int))=((acc.length+l[j].length:Nat):Int) by omega,cN (by omega) (by omega),aFm (by have:=jO;omega),aXj,aYz,iZ (by simp;omega),aXj,aXo,iZ (by omega)]
  simp only[aXj,i1 (show j≤100000 by omega)]) (fun m j acc hj=>by rw[nN,dF (by omega)];rfl) N hN
 unfold qF
 rw[this];rfl
def aOx (N r p:Nat)(m:List Int):Nat:=lT (aAC N aBN (jF r++(jF p++m)))%gQ
omit hN in
theorem aOe (N r p:Nat)(m:List Int):aOx N r p m<gQ:=aXu _ (by decide)
theorem aNU (r p:Nat){m:List Int}(hm:m.length=32)(hb:Byt m):oH N (U r) (U p) m=some (U (aOx N r p m)):=by
 have hs:=aRq hN (tR (aAC N aBN (jF r++(jF p++m))))
 rw[aEW (z6 N aBN _) (aGe N aBN _)]at hs
 have hrow:aA2 N [jF r,jF p,m]=some (jF r++(jF p++m)):=by
  rw[grow hN _ (by simp) (fun x hx=>by
   simp only[aYq,aY1,or_false]at hx
   rcases hx with rfl|rfl|rfl
   ·exact jG _
   ·exact jG _
   exact hm)]
  simp
 have ht:=aGT N hN aBN (by decide) (jF r++(jF p++m)) ((aDX _).append ((aDX _).append hb)) (by simp[jG,hm])
 simp only[oH,bW,aJW hN,dG hm,dG (jG _),hrow,aXj]
 rw[show(⟨#[108,105,103,104,116,99,108,105,101,110,116,47,99,104,97,108,108,101,110,103,101]⟩:ByteArray)=aBN from rfl,ht]
 simp only[aXj,hs,bW]
 rfl
theorem aNf (r p:Nat){m:List Int}(hm:m.length=32)(hb:Byt m):sU N (U r) (U p) m=some (U (aOx N r p m)):=by
 have hs:=aQu hN (tR (aAC N aBN (jF r++(jF p++m))))
 rw[aEW (z6 N aBN _) (aGe N aBN _)]at hs
 have hrow:qF N [jF r,jF p,m]=some (jF r++(jF p++m)):=by
  rw[aLO hN _ (by simp) (by simp[jG,hm])]
  simp
 have ht:=aJD N hN aBN (by decide) (jF r++(jF p++m)) ((aDX _).append ((aDX _).append hb)) (by simp[jG,hm])
 simp only[sU,bW,aQl N hN,dG hm,hrow,aXj]
 rw[show(⟨#[108,105,103,104,116,99,108,105,101,110,116,47,99,104,97,108,108,101,110,103,101]⟩:ByteArray)=aBN from rfl,ht]
 simp only[aXj,hs,bW]
 rfl
end
def aNn (p:Nat):Bool:= !decide (p=0)&&(decide (p<gP)&&decide (p^gQ%gP=1))
def okN (p:Nat):Bool:= !decide (p=1)&&aNn p
def aIp (N p:Nat)(m:List Int)(e s:Nat):Bool:=decide (e<gQ)&&(decide (s<gQ)&&(okN p&&decide (e=aOx N (4^s%gP*(p^(gQ-e)%gP)%gP) p m)))
section
variable {N:Nat}(hN:70000≤N)
include hN
theorem aSi {p:Nat}(hp:p<115792089237316195423570985008687907853269984665640564039457584007913129639936):rR N (U p)=some (aNn p):=by
 have he:=aHF hN hp aCT
 have hz:(U p == [0,0,0,0])=decide (p=0):=by
  rw[←aAt,aBv hp (by decide +kernel)]
 unfold rR aNn
 rw[bW,aXj,hz]
 by_cases h0:p=0
 ·rw[decide_eq_true h0];rfl
 rw[decide_eq_false h0]
 simp only[aXk,if_false,aXW,aXq]
 rw[aNb,aXj,aAN hN hp (by decide +kernel),aXj,aJk]
 by_cases h1:p<gP
 ·rw[decide_eq_false (Nat.not_le.2 h1),decide_eq_true h1]
  unfold mT
  simp only[aXk,if_false,aXq]
  rw[bW,aXj,aEb,aXj,he,aXj,show fS N 1=some (U 1)from rfl]
  simp only[aXj,bW]
  rw[aBv (aHE _) (by decide +kernel)]
 rw[decide_eq_true (Nat.not_lt.1 h1),decide_eq_false h1]
 rfl
theorem aN2 {p:Nat}(hp:p<115792089237316195423570985008687907853269984665640564039457584007913129639936):sR N (U p)=some (okN p):=by
 unfold sR okN
 rw[bW,aXj,show fS N 1=some (U 1)from rfl,aXj,bW,aXj,aBv hp (by decide +kernel)]
 by_cases h1:p=1
 ·rw[decide_eq_true h1];rfl
 rw[decide_eq_false h1]
 simp only[aXW,if_true,aXq]
 rw[aSi hN hp,aXj]
 rfl
theorem aRT {e:Nat}(he:e<115792089237316195423570985008687907853269984665640564039457584007913129639936):wE N (U e)=some (U (4^e%gP)):=by
 unfold wE
 rw[show fS N 4=some (U 4)from rfl,aXj,bW,aXj,aHF hN (by decide +kernel) he,aXj,bW,aXj]
theorem aR0 {p e s:Nat}(hp:p<115792089237316195423570985008687907853269984665640564039457584007913129639936)(he4:e<115792089237316195423570985008687907853269984665640564039457584007913129639936)(hs4:s<115792089237316195423570985008687907853269984665640564039457584007913129639936){m:List Int}(hm:m.length=32)(hb:Byt m):
  tM N (U p) m (U e) (U s)=some (aIp N p m e s):=by
 have hJt:kD N (U p) m (U e) (U s) true=some false:=rfl
 unfold tM aIp
 rw[bW,aXj,xT hN he4,aXj,show decide (e<57896044618658097711785492504343953926634992332820282019728792003956564801911)=decide (e<gQ)from rfl]
 by_cases h1:e<gQ
 ·rw[decide_eq_true h1]
  simp only[aXw,aXk,if_false,aXq]
  rw[bW,aXj,xT hN hs4,aXj,show decide (s<57896044618658097711785492504343953926634992332820282019728792003956564801911)=decide (s<gQ)from rfl]
  by_cases h2:s<gQ
  ·rw[decide_eq_true h2]
   simp only[aXw,aXk,if_false,aXq]
   rw[bW,aXj,aN2 hN hp,aXj]
   cases okN p with
   |false=>exact hJt
   |true=>
    have hd:(gQ+115792089237316195423570985008687907853269984665640564039457584007913129639936-e)%115792089237316195423570985008687907853269984665640564039457584007913129639936=gQ-e:=by
     have:=aCT
     revert h1 this
     generalize gQ=Q
     intro h1 this
     omega
    have hd4:gQ-e<115792089237316195423570985008687907853269984665640564039457584007913129639936:=aYx (Nat.sub_le _ _) aCT
    have hch:=aNU hN (4^s%gP*(p^(gQ-e)%gP)%gP) p hm hb
    have hcl:=aOe N (4^s%gP*(p^(gQ-e)%gP)%gP) p m
    unfold kD
    simp only[aXw,aXk,if_false,aXq]
    rw[aEb,aXj,bW,aXj,aHH hN (show gQ<_ from aCT) he4,aXj,hd]
    simp only[bW,aXj]
    rw[aRT hN hs4,aXj,aHF hN hp hd4,aXj,aPm hN (aHE _) (aHE _),aXj,bW,aXj,dG hm,aXj,hch,aXj,bW,aXj,aBv he4 (aYZ hcl aCT)]
  rw[decide_eq_false h2]
  exact hJt
 rw[decide_eq_false h1]
 exact hJt
end
theorem aU1 {N:Nat}(hN:70000≤N)(l:List (List Int))(hn:l.length≤1000)(ht:l.flatten.length≤50000000):vE N l=some l.flatten:=by
 have:=aEC (f:=nH N l) l hn ht (fun m j acc hj hB=>by
  rw[nH,dT hj,if_pos rfl,bZ l hj,aXj,iZ (by omega)]
  simp only[aXj,i1 (show j≤100000 by omega)]) (fun m j acc hj=>by rw[nH,dF (by omega)];rfl) N hN
 unfold vE
 rw[this];rfl
def yH (m n:Int):Bool:=decide (1≤n)&&decide (n≤15)&&decide (1≤m)&&decide (m≤n)
theorem aRk (N:Nat)(m n:Int):t6 N m n=some (yH m n):=by
 unfold t6 yH kK
 cases decide (1≤n)<;>cases decide (n≤15)<;>cases decide (1≤m)<;>rfl
def eZ (x:Int)(r:List Int):aX×List Int×Int:=
 if x<1∨17<x then(⟨0,[],0,0⟩,[],80)
 else if x=1 then
  match r with
  | []=>(⟨0,[],0,0⟩,[],1)
  |n::r'=>if(r'.length:Int)<n then(⟨0,[],0,0⟩,[],1)else(⟨1,r'.take n.toNat,0,0⟩,r'.drop n.toNat,0)
 else if x=11 then
  match r with
  |m::n::r'=>if yH m n=true then(⟨11,[],m,n⟩,r',0)else(⟨0,[],0,0⟩,[],5)
  |_=>(⟨0,[],0,0⟩,[],1)
 else(⟨x,[],0,0⟩,r,0)
theorem aFZ {α:Type}(x:α)(l:List α):bU (x::l) 0=some x:=rfl
theorem aU6 {α:Type}(x y:α)(l:List α):bU (x::y::l) 1=some y:=rfl
theorem aUY {α:Type}(x:α)(l:List α):sub (x::l) 1 (((x::l).length:Nat):Int)=some l:=by
 unfold sub
 rw[if_pos ⟨by omega,by simp;omega,by omega⟩,aXp,aXy (aXM _)];rfl
theorem aU5 {α:Type}(x y:α)(l:List α):sub (x::y::l) 2 (((x::y::l).length:Nat):Int)=some l:=by
 unfold sub
 rw[if_pos ⟨by omega,by simp;omega,by omega⟩,aXp,aXy (aXM _)];rfl
theorem aSL {N:Nat}(hN:70000≤N){x:Int}{r:List Int}(hb:Byt (x::r))(hl:r.length≤100000):
  aAw N (x::r)=some ((eZ x r).1.Code,(eZ x r).1.Data,(eZ x r).1.M,(eZ x r).1.N,(eZ x r).2.1,(eZ x r).2.2):=by
 have hx:=hb x (by simp)
 have wx:aXl.wrap x=x:=cN (by omega) (by omega)
 have hk:yF N x=some (decide (1≤x)&&decide (x≤17)):=by
  unfold yF sK
  cases decide (1≤x)<;>rfl
 unfold aAw eZ
 simp only[aFZ,aXj,wx,hk,aUY]
 by_cases h0:x<1∨17<x
 ·rw[if_pos h0]
  have:(decide (1≤x)&&decide (x≤17))=false:=by
   rcases h0 with h|h
   ·rw[decide_eq_false (by omega)];rfl
   rw[decide_eq_false (show¬x≤17 by omega),Bool.and_false]
  rw[this];rfl
 rw[if_neg h0,show(decide (1≤x)&&decide (x≤17))=true by rw[decide_eq_true (by omega),decide_eq_true (by omega)];rfl]
 simp only[aXw,aXk,if_false]
 by_cases h1:x=1
 ·subst h1
  rw[if_pos rfl,show((1:Int) == 1)=true from rfl,if_pos rfl]
  match r,hb,hl with
  | [],_,_=>rfl
  |n::r',hb,hl=>
   have hn:=hb n (by simp)
   have wn:aXl.wrap n=n:=cN (by omega) (by omega)
   rw[show((((n::r').length:Nat):Int) == 0)=false by simp;omega]
   simp only[aXk,if_false,aFZ,aXj,wn]
   have hl':r'.length+1≤100000:=by simpa using hl
   rw[show(((n::r').length:Nat):Int)-1=((r'.length:Nat):Int) by simp,cN (a:=((r'.length:Nat):Int)) (by omega) (by omega)]
   by_cases h2:(r'.length:Int)<n
   ·rw[decide_eq_true h2,if_pos h2];rfl
   rw[decide_eq_false h2,if_neg h2]
   have e1:sub (n::r') 1 (aXl.wrap (1+n))=some (r'.take n.toNat):=by
    rw[cN (by omega) (by omega)]
    unfold sub
    rw[if_pos ⟨by omega,by omega,by simp;omega⟩,show(1+n).toNat=n.toNat+1 by omega];rfl
   have e2:sub (n::r') (aXl.wrap (1+n)) (((n::r').length:Nat):Int)=some (r'.drop n.toNat):=by
    rw[cN (by omega) (by omega)]
    unfold sub
    rw[if_pos ⟨by omega,by simp;omega,by omega⟩,show(1+n).toNat=n.toNat+1 by omega,aXp,aXy (aXM _)];rfl
   have e3:vE N [r'.take n.toNat]=some (r'.take n.toNat):=by
    rw[aU1 hN _ (by simp) (by simp;omega)];simp
   simp only[uC,aXk,if_false,aFZ,aXj,wn,e1,e2,e3,n8]
   rfl
 rw[if_neg h1,show(x == 1)=false by simpa using h1]
 simp only[aXk,if_false]
 by_cases h2:x=11
 ·subst h2
  rw[if_pos rfl,show((11:Int) == 11)=true from rfl,if_pos rfl]
  match r,hb,hl with
  | [],_,_=>rfl
  | [m],_,_=>rfl
  |m::n::r',hb,hl=>
   have hm:=hb m (by simp)
   have hn:=hb n (by simp)
   have wm:aXl.wrap m=m:=cN (by omega) (by omega)
   have wn:aXl.wrap n=n:=cN (by omega) (by omega)
   rw[show decide ((((m::n::r').length:Nat):Int)<2)=false from decide_eq_false (by simp;omega)]
   simp only[aXk,if_false,aFZ,aU6,aXj,wm,wn,aU5,aRk]
   cases hr:yH m n with
   |false=>rfl
   |true=>rfl
 rw[if_neg h2,show(x == 11)=false by simpa using h2]
 simp only[aXk,if_false,n8,wx]
structure VOp (o:aX):Prop where
 data:Byt o.Data∧o.Data.length≤255
 multi:o.Code=11→1≤o.M∧o.M≤o.N∧o.N≤15
theorem aFW {x:Int}{r:List Int}(hb:Byt (x::r))(he:(eZ x r).2.2=0):VOp (eZ x r).1∧Byt (eZ x r).2.1∧(eZ x r).2.1.length≤r.length∧ ∀t,eZ x (r++t)=((eZ x r).1,(eZ x r).2.1++t,0):=by
 have hr:Byt r:=fun y hy=>hb y (by simp[hy])
 unfold eZ at he⊢
 by_cases h0:x<1∨17<x
 ·rw[if_pos h0]at he;cases he
 simp only[if_neg h0]at he⊢
 by_cases h1:x=1
 ·subst h1
  simp only[if_true]at he⊢
  match r,hr,he with
  | [],_,he=>cases he
  |n::r',hr,he=>
   simp only at he⊢
   by_cases h2:(r'.length:Int)<n
   ·rw[if_pos h2]at he;cases he
   simp only[if_neg h2]at he⊢
   have hn:=hr n (by simp)
   have hr':Byt r':=fun y hy=>hr y (by simp[hy])
   refine⟨⟨⟨aFR hr' _,by simp;omega⟩,fun h=>by simp at h⟩,aGi hr' _,by simp;omega,fun t=> ?_⟩
   simp only[aYD]
   rw[if_neg (by simp;omega),List.take_append_of_le_length (by omega),List.drop_append_of_le_length (by omega)]
 simp only[if_neg h1]at he⊢
 by_cases h2:x=11
 ·subst h2
  simp only[if_true]at he⊢
  match r,hr,he with
  | [],_,he=>cases he
  | [_],_,he=>cases he
  |m::n::r',hr,he=>
   simp only[aYD]at he⊢
   by_cases h3:yH m n=true
   ·simp only[if_pos h3]at he⊢
    refine⟨⟨⟨fun y hy=>by simp at hy,by simp⟩,fun _=> ?_⟩,fun y hy=>hr y (by simp[hy]),by simp;omega,fun t=>trivial⟩
    simp only[yH,aXE,decide_eq_true_eq]at h3
    exact⟨h3.1.2,h3.2,h3.1.1.2⟩
   rw[if_neg h3]at he;cases he
 simp only[if_neg h2]at he⊢
 exact⟨⟨⟨fun y hy=>by simp at hy,by simp⟩,fun h=>absurd h h2⟩,hr,aXM _,fun t=>trivial⟩
def kH :Nat→List Int→List aX→LR (List aX) (List aX×Int)
 |0,_,acc=> .brk acc
 |_+1,[],acc=> .brk acc
 |k+1,x::r,acc=>if(eZ x r).2.2=0 then kH k (eZ x r).2.1 (acc++[(eZ x r).1])else .ret ([],(eZ x r).2.2)
theorem aJH {N:Nat}(hN:70000≤N): ∀(m:Nat)(b:List Int)(acc:List aX),b.length<m→Byt b→b.length≤100000→acc.length+b.length≤200000→nB N m b acc=some (kH m b acc)
 |0,b,acc,hm,_,_,_=>by omega
 |m+1,[],acc,_,_,_,_=>rfl
 |m+1,x::r,acc,hm,hb,hl,ha=>by
  simp only[aXL]at hm hl ha
  rw[nB,show decide ((0:Int)<(((x::r).length:Nat):Int))=true from decide_eq_true (by rw[aXL];omega),if_pos rfl,aSL hN hb (by omega)]
  simp only[aXj,kH]
  by_cases he:(eZ x r).2.2=0
  ·obtain⟨h1,h2,h3,_⟩:=aFW hb he
   rw[if_pos he,he,show((0:Int) != 0)=false from rfl]
   have hlim:=jO
   simp only[aXk,if_false]
   rw[aBk (by simp;omega)]
   simp only[aXj]
   exact aJH hN m _ _ (by omega) h2 (by omega) (by simp;omega)
  rw[if_neg he,show((eZ x r).2.2 != 0)=true by simpa using he]
  rfl
theorem aCQ : ∀(k k':Nat)(b:List Int)(acc:List aX),Byt b→b.length<k→b.length<k'→kH k b acc=kH k' b acc
 |0,_,b,_,_,hk,_=>by omega
 |k+1,0,b,_,_,_,hk=>by omega
 |k+1,k'+1,[],acc,_,_,_=>rfl
 |k+1,k'+1,x::r,acc,hb,h1,h2=>by
  simp only[aXL]at h1 h2
  simp only[kH]
  by_cases he:(eZ x r).2.2=0
  ·obtain⟨_,h4,h3,_⟩:=aFW hb he
   rw[if_pos he,if_pos he]
   exact aCQ k k' _ _ h4 (by omega) (by omega)
  rw[if_neg he,if_neg he]
theorem aLh : ∀(k:Nat)(b:List Int)(acc l:List aX),Byt b→b.length<k→(∀o∈acc,VOp o)→kH k b acc= .brk l→(∀o∈l,VOp o)∧l.length≤acc.length+b.length∧ ∀(t:List Int)(k':Nat),Byt t→b.length+t.length<k'→kH k' (b++t) acc=kH (t.length+1) t l
 |0,b,_,_,_,hk,_,_=>by omega
 |k+1,[],acc,l,_,_,hv,h=>by
  injection h with h
  subst h
  refine⟨hv,by simp,fun t k' ht hk=> ?_⟩
  rw[aXo]
  exact aCQ _ _ _ _ ht (by simpa using hk) (by omega)
 |k+1,x::r,acc,l,hb,hk,hv,h=>by
  simp only[aXL]at hk
  simp only[kH]at h
  by_cases he:(eZ x r).2.2=0
  ·obtain⟨h1,h4,h3,h5⟩:=aFW hb he
   rw[if_pos he]at h
   obtain⟨g1,g2,g3⟩:=aLh k _ _ l h4 (by omega) (fun o ho=>(aYJ.1 ho).elim (hv o) (fun hh=>by simp only[aYy]at hh;exact hh▸h1)) h
   refine⟨g1,by simp at g2 ⊢; omega,fun t k' ht hk'=> ?_⟩
   obtain⟨k',rfl⟩: ∃q,k'=q+1:=⟨k'-1,by omega⟩
   simp only[aXL]at hk'
   rw[aYD,kH,h5 t]
   simp only[if_true]
   exact g3 t k' ht (by omega)
  rw[if_neg he]at h;cases h
def cM (b:List Int):List aX×Int:=if 520<b.length then([],4)else match kH (b.length+1) b []with | .ret v=>v | .brk l=>(l,0)
theorem aQM {N:Nat}(hN:70000≤N){b:List Int}(hb:Byt b):yJ N b=some (cM b):=by
 unfold yJ cM
 by_cases h:520<b.length
 ·rw[show decide ((520:Int)<((b.length:Nat):Int))=true from decide_eq_true (by omega),if_pos rfl,if_pos h]
 rw[show decide ((520:Int)<((b.length:Nat):Int))=false from decide_eq_false (by omega),if_neg h,aJH hN N b [] (by omega) hb (by omega) (by simp;omega),aCQ N (b.length+1) b [] hb (by omega) (by omega)]
 cases kH (b.length+1) b []<;>rfl
theorem aIL : ∀(k:Nat)(b:List Int)(acc:List aX)(v:List aX×Int),kH k b acc= .ret v→v.1=[]∧v.2≠0
 |0,_,_,_,h=>by cases h
 |k+1,[],_,_,h=>by cases h
 |k+1,x::r,acc,v,h=>by
  simp only[kH]at h
  by_cases he:(eZ x r).2.2=0
  ·rw[if_pos he]at h;exact aIL k _ _ v h
  rw[if_neg he]at h;injection h with h;subst h;exact⟨rfl,he⟩
theorem aEN {b:List Int}(hb:Byt b)(h:(cM b).2=0):(∀o∈(cM b).1,VOp o)∧(cM b).1.length≤520∧b.length≤520∧kH (b.length+1) b []= .brk (cM b).1:=by
 unfold cM at h⊢
 by_cases hl:520<b.length
 ·rw[if_pos hl]at h;cases h
 simp only[if_neg hl]at h⊢
 cases hp:kH (b.length+1) b [] with
 |ret v=>rw[hp]at h;exact absurd h (aIL _ _ _ _ hp).2
 |brk l=>
  obtain⟨g1,g2,_⟩:=aLh _ b [] l hb (by omega) (by simp) hp
  exact⟨g1,by simp at g2;show l.length≤520;omega,by omega,rfl⟩
def aCN (v:Bool):List Int:=if v then [1]else []
theorem aH3 (v:Bool):Byt (aCN v)∧(aCN v).length≤520:=by
 cases v
 ·exact⟨fun x hx=>by simp[aCN]at hx,by decide⟩
 exact⟨fun x hx=>by simp[aCN]at hx;omega,by decide⟩
theorem aLs (N:Nat): ∀(m k n:Nat)(acc:List Int),n<256^k→k<m→k≤10→acc.length+k≤1000→Byt acc→n<4294967296→ ∃r,fF N m (n:Int) acc=some r∧Byt r∧r.length≤acc.length+k
 |0,k,n,acc,_,hm,_,_,_,_=>by omega
 |m+1,k,n,acc,hn,hm,hk,ha,hb,h32=>by
  rw[fF]
  by_cases h:0<n
  ·match k,hn with
   |0,hn=>simp at hn;omega
   |k+1,hn=>
    rw[show decide ((0:Int)<(n:Int))=true from decide_eq_true (by omega),if_pos rfl,iZ (by simp;omega)]
    simp only[aXj]
    rw[show shr .u32 (n:Int) 8=some ((n/256:Nat):Int)from aBc n 8 h32,aXj]
    rw[aXS]at hn
    obtain⟨r,h1,h2,h3⟩:=aLs N m k (n/256) (acc++[aXI.wrap (n:Int)]) ((aXT (by omega)).2 hn) (by omega) (by omega) (by simp;omega) (hb.append (fun x hx=>by simp only[aYy]at hx;exact hx▸aHe _)) (by omega)
    exact⟨r,h1,h2,by simp at h3;omega⟩
  rw[show decide ((0:Int)<(n:Int))=false from decide_eq_false (by omega)]
  exact⟨acc,rfl,hb,by omega⟩
def aFD (N:Nat)(n:Int):List Int:=(iQ N n).getD []
section
variable {N:Nat}(hN:70000≤N)
include hN
theorem aKm {n:Nat}(h:n<4294967296):iQ N (n:Int)=some (aFD N n)∧Byt (aFD N n)∧(aFD N n).length≤520:=by
 obtain⟨r,h1,h2,h3⟩:=aLs N N 4 n [] (by simpa using h) (by omega) (by omega) (by simp) (fun x hx=>by simp at hx) h
 have:iQ N (n:Int)=some r:=by simp only[iQ,h1,aXj,zJ]
 rw[show aFD N n=r by simp[aFD,this]]
 exact⟨this,h2,by simp at h3;omega⟩
theorem aHA (v:Bool):lV N v=some (aCN v):=by
 obtain⟨m,hm⟩:=wY (fun q=>fF N q 1 []) hN
 obtain⟨m',hm'⟩:=wY (fun q=>fF N q 0 []) hN
 cases v with
 |false=>
  simp only[lV,aXk,if_false,iQ,hm']
  rfl
 |true=>
  simp only[lV,if_true,iQ,hm]
  rw[fF,show decide ((0:Int)<1)=true from rfl,if_pos rfl,iZ (by simp)]
  simp only[aXj]
  rw[show shr .u32 1 8=some 0 from by decide +kernel,aXj,fF]
  rfl
def aNa (N:Nat)(b:List Int):Int×Int:=(k8 N b).getD (0,0)
theorem aVb (b:List Int):k8 N b=some (aNa N b):=by
 have hloop:b.length≤4→ ∀(m j:Nat)(v:Int),b.length-j<m→j≤b.length→ ∃r,iL N b m v (j:Int)=some r:=by
  intro hl m
  induction m with
  |zero=>intro j v hm _;omega
  |succ m ih=>
   intro j v hm hj
   rw[iL]
   by_cases h:j<b.length
   ·obtain⟨y,hy⟩: ∃y,shl .u32 (aXJ.wrap b[j]) (aXl.wrap (8*(j:Int)))=some y:=by
     rw[cN (by omega) (by omega)];unfold shl;rw[if_neg (by omega)];exact⟨_,rfl⟩
    rw[dT h,if_pos rfl,bZ b h]
    simp only[aXj,hy,i1 (show j≤100000 by omega)]
    exact ih (j+1) _ (by omega) (by omega)
   rw[dF h];exact⟨v,rfl⟩
 have hJ:b.length≤4→ ∀t,∃r,gG N b t=some r:=by
  intro hl t
  cases t with
  |true=>exact⟨_,rfl⟩
  |false=>
   obtain⟨r,hr⟩:=hloop hl N 0 0 (by omega) (by omega)
   rw[show((0:Nat):Int)=0 from rfl]at hr
   simp only[gG,aXk,if_false,hr,aXj,vB]
   exact⟨_,rfl⟩
 have: ∃r,k8 N b=some r:=by
  unfold k8
  by_cases h:4<b.length
  ·rw[show decide ((4:Int)<((b.length:Nat):Int))=true from decide_eq_true (by omega)]
   exact⟨_,rfl⟩
  rw[show decide ((4:Int)<((b.length:Nat):Int))=false from decide_eq_false (by omega)]
  simp only[aXk,if_false]
  by_cases h2:0<b.length
  ·rw[show decide ((0:Int)<((b.length:Nat):Int))=true from decide_eq_true (by omega),if_pos rfl,cN (by omega) (by omega),show((b.length:Nat):Int)-1=((b.length-1:Nat):Int) by omega,bZ b (by omega)]
   exact hJ (by omega) _
  rw[show decide ((0:Int)<((b.length:Nat):Int))=false from decide_eq_false (by omega)]
  show∃r,gG N b false=some r
  exact hJ (by omega) _
 obtain⟨r,hr⟩:=this
 simp[aNa,hr]
def aON (N:Nat)(gM:List Int)(now:Int):Int:=if(aNa N gM).2 != 0 then(aNa N gM).2 else if decide (now<aXl.wrap (aNa N gM).1)then 85 else 0
theorem aJI (gM:List Int)(now:Int):nG N gM now=some (aON N gM now):=by
 simp only[nG,aVb hN,aXj,aON]
 split
 ·rfl
 split<;>rfl
def sJ (b:List Int):Bool:=b.any (· != 0)
theorem aCA {b:List Int}(hl:b.length≤60000):kZ N b=some (sJ b):=by
 have:=jU (f:=g8 N b) (xs:=b) (p:=fun x=> !(x != 0)) (r:=true) (fun m j hj=>by
   rw[g8,dT hj,if_pos rfl,bZ b hj]
   simp only[aXj,i1 (show j≤100000 by omega)]
   cases b[j] != 0<;>rfl) (fun m j hj=>by rw[g8,dF (by omega)];rfl) N 0 (by omega) (by omega)
 rw[show((0:Nat):Int)=0 from rfl,aXs]at this
 unfold kZ sJ
 rw[this,List.any_eq_not_all_not]
 cases b.all fun x=> !(x != 0)<;>rfl
end
structure WS (st:List (List Int)):Prop where
 len:st.length≤64
 it: ∀x∈st,Byt x∧x.length≤520
theorem WS.push {st:List (List Int)}(h:WS st)(hl:st.length<64){x:List Int}(hx:Byt x∧x.length≤520):WS (st++[x]):=
 ⟨by simp;omega,fun y hy=>(aYJ.1 hy).elim (h.it y) (fun e=>by simp only[aYy]at e;exact e▸hx)⟩
theorem WS.take {st:List (List Int)}(h:WS st)(k:Nat):WS (st.take k):=⟨by have:=h.len;simp;omega,fun y hy=>h.it y (aYM hy)⟩
theorem WS.set {st:List (List Int)}(h:WS st)(i:Nat){x:List Int}(hx:Byt x∧x.length≤520):WS (st.set i x):=⟨by rw[aXF];exact h.len,fun y hy=>(aYA hy).elim (h.it y) (fun e=>e▸hx)⟩
def fY (st:List (List Int))(k:Nat):List Int:=st.getD (st.length-k) []
theorem t8 {st:List (List Int)}(h:WS st){k:Nat}(h1:1≤k)(hk:k≤st.length):Byt (fY st k)∧(fY st k).length≤520∧bU st (aXl.wrap (((st.length:Nat):Int)-(k:Int)))=some (fY st k):=by
 have hl:=h.len
 have hlt:st.length-k<st.length:=by omega
 have e:fY st k=st[st.length-k]:=by simp[fY,hlt]
 rw[cN (by omega) (by omega),show((st.length:Nat):Int)-(k:Int)=((st.length-k:Nat):Int) by omega,bZ st hlt,e]
 exact⟨(h.it _ (aXv hlt)).1,(h.it _ (aXv hlt)).2,rfl⟩
theorem aJV {N:Nat}{m:List Int}{h a:Int}{st:List (List Int)}{br:List aO}{c:Int}(hs:st.length≤64){k:Nat}(hk:k≤st.length):eR N m h a st br c (k:Int)=some (m,h,a,st.take (st.length-k),br,c):=by
 unfold eR
 rw[cN (by omega) (by omega),show((st.length:Nat):Int)-(k:Int)=((st.length-k:Nat):Int) by omega]
 have:sub st 0 ((st.length-k:Nat):Int)=some (st.take (st.length-k)):=by
  unfold sub;rw[if_pos ⟨by omega,by omega,by omega⟩];simp
 rw[this];rfl
theorem aBD {l m:List (List Int)}(h:l.length+m.length≤1000000):eD 24 l m=some (l++m):=by
 have:=jO
 exact aBk (by omega)
theorem aFC {N:Nat}{m:List Int}{h a:Int}{st:List (List Int)}{br:List aO}{c:Int}(hs:st.length≤64){k:Nat}(hk:k≤st.length)(x:List Int):dP N m h a st br c (k:Int) x=some (m,h,a,st.take (st.length-k)++[x],br,c):=by
 unfold dP
 rw[aJV hs hk,aXj,aBD (by simp;omega)];rfl
def aCJ (st:List (List Int))(x:List Int):Int×List (List Int):=if 64≤st.length then(4,st)else(0,st++[x])
theorem aKq {N:Nat}{m:List Int}{h a:Int}{st:List (List Int)}{br:List aO}{c:Int}(x:List Int):i4 N m h a st br c x=some ((aCJ st x).1,m,h,a,(aCJ st x).2,br,c):=by
 unfold i4 aCJ
 by_cases hl:64≤st.length
 ·rw[show decide ((64:Int)≤((st.length:Nat):Int))=true from decide_eq_true (by omega),if_pos rfl,if_pos hl]
 rw[show decide ((64:Int)≤((st.length:Nat):Int))=false from decide_eq_false (by omega),if_neg hl,aBD (by simp;omega)];rfl
def vJ (N:Nat)(m key sig:List Int):Int:=(dM N m 0 0 [] [] 0 key sig).getD 0
theorem aUv {N:Nat}(hN:70000≤N){m:List Int}(hm:m.length=32)(hb:Byt m)(h a:Int)(st:List (List Int))(br:List aO)(c:Int)(key sig:List Int):dM N m h a st br c key sig=some (vJ N m key sig):=by
 obtain⟨e,he⟩:=aQn hN hm hb 0 0 [] [] 0 key sig
 have h1:dM N m h a st br c key sig=dM N m 0 0 [] [] 0 key sig:=rfl
 rw[h1,show vJ N m key sig=e by simp[vJ,he],he]
def rI (N:Nat)(m:List Int):List (List Int)→List (List Int)→Int→Int×Int
 |k::ks,s::ss,c=>if vJ N m k s != 0 then(vJ N m k s,0)else rI N m ks ss (if decide (0<(s.length:Int))then c+1 else c)
 |_,_,c=>(0,c)
def v6 (N:Nat)(m:List Int)(st:List (List Int))(fO:Int)(n:Nat):Int×List (List Int):=
 if(rI N m (st.drop (st.length-n)) ((st.take (st.length-n)).drop (st.length-2*n)) 0).1=0 then(0,st.take (st.length-2*n)++[aCN (decide (fO≤(rI N m (st.drop (st.length-n)) ((st.take (st.length-n)).drop (st.length-2*n)) 0).2))])
 else((rI N m (st.drop (st.length-n)) ((st.take (st.length-n)).drop (st.length-2*n)) 0).1,st)
section
variable {N:Nat}(hN:70000≤N){m:List Int}(hm:m.length=32)(hb:Byt m)
include hN hm hb
theorem aId (h a:Int)(st:List (List Int))(br:List aO)(c fO:Int)(n:Nat)(hn:n≤100)(ks ss:List (List Int))(hk:ks.length=n)(hs:ss.length=n): ∀(f j:Nat)(cnt:Int),n-j<f→j≤n→0≤cnt→cnt≤j→
  dQ N m h a st br c fO (n:Int) ks ss f cnt (j:Int)=some (if(rI N m (ks.drop j) (ss.drop j) cnt).1=0 then .brk (rI N m (ks.drop j) (ss.drop j) cnt).2 else .ret ((rI N m (ks.drop j) (ss.drop j) cnt).1,m,h,a,st,br,c))
 |0,j,cnt,hf,_,_,_=>by omega
 |f+1,j,cnt,hf,hj,h0,h1=>by
  rw[dQ]
  by_cases hjn:j<n
  ·rw[dT hjn,if_pos rfl,bZ ks (by omega),bZ ss (by omega)]
   simp only[aXj,aUv hN hm hb]
   rw[aXx (show j<ks.length by omega),aXx (show j<ss.length by omega),rI]
   cases hv:vJ N m ks[j] ss[j] != 0 with
   |true=>
    have hv':vJ N m ks[j] ss[j]≠0:=by simpa using hv
    simp only[if_true,if_neg hv']
   |false=>
    simp only[aXk,if_false,jN,i1 (show j≤100000 by omega)]
    cases hl:decide (0<((ss[j].length:Nat):Int)) with
    |true=>
     simp only[if_true]
     rw[cN (a:=cnt+1) (by omega) (by omega)]
     exact aId h a st br c fO n hn ks ss hk hs f (j+1) _ (by omega) (by omega) (by omega) (by omega)
    |false=>
     simp only[aXk,if_false]
     exact aId h a st br c fO n hn ks ss hk hs f (j+1) _ (by omega) (by omega) (by omega) (by omega)
  rw[dF hjn,aXA (by omega)]
  rfl
theorem aK6 {h a:Int}{st:List (List Int)}(hs:WS st){br:List aO}{c fO:Int}{n:Nat}(h1:1≤n)(hn:2*n≤st.length):jH N m h a st br c fO (n:Int)=some ((v6 N m st fO n).1,m,h,a,(v6 N m st fO n).2,br,c):=by
 have hl:=hs.len
 have e1:wH st (aXl.wrap (((st.length:Nat):Int)-(n:Int))) ((st.length:Nat):Int)=some (st.drop (st.length-n)):=by
  rw[cN (by omega) (by omega),show((st.length:Nat):Int)-(n:Int)=((st.length-n:Nat):Int) by omega]
  unfold wH
  rw[if_pos ⟨by omega,by omega,by omega⟩,aXp,aXp,aXy (aXM _)]
 have e2:wH st (aXl.wrap (((st.length:Nat):Int)-(aXl.wrap (2*(n:Int))))) (aXl.wrap (((st.length:Nat):Int)-(n:Int)))=some ((st.take (st.length-n)).drop (st.length-2*n)):=by
  rw[cN (a:=2*(n:Int)) (by omega) (by omega),cN (a:=((st.length:Nat):Int)-(n:Int)) (by omega) (by omega),cN (by omega) (by omega),show((st.length:Nat):Int)-(n:Int)=((st.length-n:Nat):Int) by omega,show((st.length:Nat):Int)-2*(n:Int)=((st.length-2*n:Nat):Int) by omega]
  unfold wH
  rw[if_pos ⟨by omega,by omega,by omega⟩,aXp,aXp]
 have lp:=aId hN hm hb h a st br c fO n (by omega) (st.drop (st.length-n)) ((st.take (st.length-n)).drop (st.length-2*n)) (by simp;omega) (by simp;omega) N 0 0 (by omega) (by omega) (by omega) (by omega)
 rw[aXs,aXs,show((0:Nat):Int)=0 from rfl]at lp
 simp only[jH,e1,e2,lp,aXj]
 unfold v6
 by_cases hz:(rI N m (st.drop (st.length-n)) ((st.take (st.length-n)).drop (st.length-2*n)) 0).1=0
 ·rw[if_pos hz,if_pos hz]
  simp only[lY,aHA hN,aXj]
  rw[cN (a:=2*(n:Int)) (by omega) (by omega),show 2*(n:Int)=((2*n:Nat):Int) by omega,aFC hl hn]
  rfl
 rw[if_neg hz,if_neg hz]
end
end Go.Proofs.YtbjiaghljpoliaaGreatDoor
