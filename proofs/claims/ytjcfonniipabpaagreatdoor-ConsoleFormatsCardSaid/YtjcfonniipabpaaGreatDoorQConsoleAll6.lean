/- Texts of ours, joined: Wk1, VmRunG, VmRunK, SaneT, SaneA, SaneB, Clone. -/
import Derived.Test.YtjcfonniipabpaaGreatDoorQConsoleAll5
import Derived.Lib.Join
import Derived.Test.YtjcfonniipabpaaGreatDoorProg
import Derived.Deep.Upon
import Derived.Lib.LazyBuf
import Derived.WalkKit
import Derived.BigCall
import Derived.Handy
open List renaming replicate → aOg,getElem?_eq_getElem → aOy,getElem?_eq_some_iff → aOC,all_eq_true → aOE,mem_cons_self → aOJ,getElem?_cons_succ → aOK,range → aOM,mem_map → aON,getElem?_eq_none → aOO,mem_cons → aOQ,length_take → aOX,mem_of_getElem? → aO0,mem_singleton → aO1
open Go.Vm.DrawG renaming pick → aOh,jg → aOw,fork → aOx,nil → aOH,jn → aOW
open Go.IntKind renaming i64 → aOi,u32 → aOs,max → aOL,u8 → aOR
open Bool renaming eq_false_or_eq_true → aOj,and_eq_true → aOo,false_eq_true → aOp,or_eq_true → aOT,not_eq_false' → aOV,not_eq_true → aOY
open Go.Vm.AB renaming block → aOk,seq → aOl,seq_g → aOn,ghost → aOr,loopN → aOt,rs → aOP,rd → aO3
open Option renaming map_eq_some_iff → aOm,map_some → aOS
open Go.Vm.Fork renaming cons → aOq,nil → aOB
open ByteArray renaming empty → aOu
open Option.some renaming injEq → aOv
open Int renaming toNat → aOz
open Nat renaming beq → aOA,le_refl → aOF,le_of_ble_eq_true → aOG,testBit → aOU,eq_of_beq_eq_true → aOZ,blt → aO2
open Prod.mk renaming injEq → aOD
open Array renaming replicate → aOI
set_option linter.unusedVariables false
set_option linter.unusedSimpArgs false
set_option maxRecDepth 20000
set_option maxHeartbeats 1000000
namespace Go.Proofs.YtjcfonniipabpaaGreatDoor
open Go Go.Vm
theorem aDd {N:Nat}{vn:Int}{r:(List Int)}(hr:xF N vn=some r):
  Vm.Fn Tryz.prog 261 [] [(eI .u64 vn)] (.sl 0 0 r.length 1 false) [some ⟨5,r.map (eI .u8)⟩]:=by
 refine zf Tryz.func261 Tryz.ntmps261 ?_
 unfold xF at hr
 refine zz ?_
 refine aOn fun K1 hK1 hG1=> ?_
 have J1: ∀(l0:List Int),sQ N vn l0=some r→K1 (aE 31 [(0,(eI .u64 vn)),(3,(.sl 0 0 l0.length 1 false))]) [some ⟨5,l0.map (eI .u8)⟩]:=by
  intro l0 hr
  unfold sQ at hr
  refine hK1 _ _ ?_
  refine aOn fun K2 hK2 hG2=> ?_
  have J2: ∀(aI:List Int),sI N aI=some r→K2 (aE 31 [(3,(.sl 0 0 aI.length 1 false))]) [some ⟨5,aI.map (eI .u8)⟩]:=by
   intro aI hr
   unfold sI at hr
   refine hK2 _ _ ?_
   refine zz ?_
   obtain rfl:=sj hr
   exact dZ Tryz.results261 [0]
  obtain⟨mW,hL3,hr⟩:=aF hr
  refine zz ?_
  refine aOk<|aOt (fun m s h=> ∃(vi:Int)(bC:List Int),l9 N vn m vi bC=some mW∧Ghost 0 s h (aE 31 [(0,(eI .u64 vn)),(3,(.sl 0 0 bC.length 1 false)),(4,(eI .i64 vi))]) [some ⟨5,bC.map (eI .u8)⟩]) (n:=N) ⟨7,l0,hL3,(zG [0])⟩ (by rintro s h ⟨_,_,h0,_⟩;simp[l9]at h0) ?_
  rintro m3 s h ⟨vi,bC,hr3,hg⟩
  refine aOr hg ?_
  clear hg hL3
  rw[l9]at hr3
  refine aOl ?_
  refine zz ?_
  refine zk hr3 rfl (fun h1 hr3=> ?_) (fun h1 hr3=> ?_)
  ·refine zz ?_
   refine aOl<|aOk ?_
   obtain⟨x26,h_2,hr3⟩:=aF hr3
   obtain⟨x29,h_3,hr3⟩:=aF hr3
   refine zz ?_
   exact⟨aOi.wrap (vi-1),x29,hr3,(zG [2])⟩
  refine zz ?_
  obtain rfl:=sj hr3
  refine zz ?_
  exact hG2 _ _ _ _ (zG [0]) (J2 bC hr)
 obtain⟨res4,hL4,hr⟩:=aF hr
 refine aOk<|aOt (fun m s h=> ∃(bO:List Int),l5 N vn m bO=some res4∧Ghost 0 s h (aE 31 [(0,(eI .u64 vn)),(3,(.sl 0 0 bO.length 1 false))]) [some ⟨5,bO.map (eI .u8)⟩]) (n:=N) ⟨[128],hL4,(oD [0])⟩ (by rintro s h ⟨_,h0,_⟩;simp[l5]at h0) ?_
 rintro m4 s h ⟨bO,hr4,hg⟩
 refine aOr hg ?_
 clear hg hL4
 rw[l5]at hr4
 refine aOl ?_
 refine zz ?_
 refine zk hr4 rfl (fun h4 hr4=> ?_) (fun h4 hr4=> ?_)
 ·refine zz ?_
  refine aOk ?_
  obtain⟨x16,h_5,hr4⟩:=aF hr4
  refine zz ?_
  exact⟨x16,hr4,(zG [2])⟩
 refine zz ?_
 obtain rfl:=sj hr4
 refine zz ?_
 exact hG1 _ _ _ _ (zG [0]) (J1 bO hr)
theorem zY {N:Nat}{r:(List Int)}(hr:qU N=some r):
  Vm.Fn Tryz.prog 262 [] [] (.agg (r.map (eI .u32))) []:=by
 refine zf Tryz.func262 Tryz.ntmps262 ?_
 unfold qU at hr
 refine zz ?_
 refine xw (v:=(.agg ([1779033703,3144134277,1013904242,2773480762,1359893119,2600822924,528734635,1541459225].map (eI .u32)))) (dD rfl (jO aCr aC4 rfl)) ?_
 refine zz ?_
 obtain rfl:=sj hr
 exact qP Tryz.results262 cJ (zG [])
theorem rF {N:Nat}{x k r:Int}(hr:jS N x k=some r):
  Vm.Fn Tryz.prog 416 [] [(eI .u32 x),(eI .i64 k)] (eI .u32 r) []:=by
 refine zf Tryz.func416 Tryz.ntmps416 ?_
 unfold jS at hr
 obtain⟨x11,h_1,hr⟩:=aF hr
 obtain⟨x15,h_2,hr⟩:=aF hr
 refine zz ?_
 obtain rfl:=sj hr
 exact dZ Tryz.results416 []
theorem d5 {N:Nat}{x vn r:Int}(hr:eP N x vn=some r):
  Vm.Fn Tryz.prog 345 [] [(eI .u32 x),(eI .i64 vn)] (eI .u32 r) []:=by
 refine zf Tryz.func345 Tryz.ntmps345 ?_
 unfold eP at hr
 obtain⟨x8,h_1,hr⟩:=aF hr
 refine zz ?_
 refine xw (yB rfl (aFA ..))<|xp (rF h_1) ?_
 refine zz ?_
 obtain rfl:=sj hr
 exact dZ Tryz.results345 []
theorem zE {N:Nat}{block:List Int}{r:(List Int)}(hr:pL N block=some r):
  Vm.Fn Tryz.prog 343 [] [(.agg (block.map (eI .u8)))] (.agg (r.map (eI .u32))) []:=by
 refine zf Tryz.func343 Tryz.ntmps343 ?_
 unfold pL at hr
 refine zz ?_
 refine aOn fun K1 hK1 hG1=> ?_
 have J1: ∀(l1:List Int),m9 N l1=some r→K1 (aE 97 [(2,(.ptr 0 0)),(3,(.ptr 1 0))]) [some ⟨478,(aOg 64 0).map (eI .u32)⟩,some ⟨478,l1.map (eI .u32)⟩]:=by
  intro l1 hr
  unfold m9 at hr
  refine hK1 _ _ ?_
  refine aOn fun K2 hK2 hG2=> ?_
  have J2: ∀(bD:List Int),mU N bD=some r→K2 (aE 97 [(2,(.ptr 0 0)),(3,(.ptr 1 0))]) [some ⟨478,(aOg 64 0).map (eI .u32)⟩,some ⟨478,bD.map (eI .u32)⟩]:=by
   intro bD hr
   unfold mU at hr
   refine hK2 _ _ ?_
   obtain⟨q,h_1,hr⟩:=aF hr
   refine zz ?_
   obtain rfl:=sj hr
   exact qP Tryz.results343 cJ (zG [])
  obtain⟨mW,hL3,hr⟩:=aF hr
  refine zz ?_
  refine aOk<|aOt (fun m s h=> ∃(vi:Int)(l1_2:List Int),hZ N m vi l1_2=some mW∧Ghost 0 s h (aE 97 [(2,(.ptr 0 0)),(3,(.ptr 1 0)),(5,(eI .i64 vi))]) [some ⟨478,(aOg 64 0).map (eI .u32)⟩,some ⟨478,l1_2.map (eI .u32)⟩]) (n:=N) ⟨16,l1,hL3,(zG [0,1])⟩ (by rintro s h ⟨_,_,h0,_⟩;simp[hZ]at h0) ?_
  rintro m3 s h ⟨vi,l1_2,hr3,hg⟩
  refine aOr hg ?_
  clear hg hL3
  rw[hZ]at hr3
  refine aOl ?_
  refine zz ?_
  refine zk hr3 rfl (fun h2 hr3=> ?_) (fun h2 hr3=> ?_)
  ·refine zz ?_
   refine aOl<|aOk<|aOl ?_
   obtain⟨x49,h_3,hr3⟩:=aF hr3
   obtain⟨x51,h_4,hr3⟩:=aF hr3
   obtain⟨x56,h_6,hr3⟩:=aF hr3
   obtain⟨x62,h_8,hr3⟩:=aF hr3
   refine aOP mixed [345] [] [[0,1,2,3,4,5,6,7,8,9,10,11,12,13,14,15,16,17]] ?_
   refine zz ?_
   refine xu (d5 h_4) ?_
   refine zz ?_
   refine xu (d5 h_6) ?_
   refine zz ?_
   refine aOl ?_
   obtain⟨x66,h_9,hr3⟩:=aF hr3
   obtain⟨x68,h_10,hr3⟩:=aF hr3
   obtain⟨x73,h_12,hr3⟩:=aF hr3
   obtain⟨x79,h_14,hr3⟩:=aF hr3
   refine aOP mixed [345] [] [[0,1,2,3,4,5,6,7,8,9,10,11,12,13,14,15,16,17]] ?_
   refine zz ?_
   refine xu (d5 h_10) ?_
   refine zz ?_
   refine xu (d5 h_12) ?_
   obtain⟨x84,h_15,hr3⟩:=aF hr3
   obtain⟨x90,h_16,hr3⟩:=aF hr3
   obtain⟨x95,h_17,hr3⟩:=aF hr3
   refine zz ?_
   refine aOP mixed [] [] [[0,1,2,3,4,5,6,7,8,9,10,11,12,13,14,15]] ?_
   refine zz ?_
   exact⟨aOi.wrap (vi+1),l1_2.set (aOz vi) (aOs.wrap ((aOs.wrap ((aOs.wrap (x84+(bits .xor .u32 (bits .xor .u32 x51 x56) x62)))+x90))+(bits .xor .u32 (bits .xor .u32 x68 x73) x79))),hr3,(zG [0,1])⟩
  refine zz ?_
  obtain rfl:=sj hr3
  refine zz ?_
  exact hG2 _ _ _ _ (zG [0,1]) (J2 l1_2 hr)
 obtain⟨res4,hL4,hr⟩:=aF hr
 refine zz ?_
 refine aOk<|aOt (fun m s h=> ∃(vi_1:Int)(l2:List Int),hH N block m vi_1 l2=some res4∧Ghost 0 s h (aE 97 [(1,(.ptr 0 0)),(2,(.ptr 1 0)),(3,(.ptr 2 0)),(4,(eI .i64 vi_1))]) [some ⟨395,block.map (eI .u8)⟩,some ⟨478,(aOg 64 0).map (eI .u32)⟩,some ⟨478,l2.map (eI .u32)⟩]) (n:=N) ⟨0,aOg 64 0,hL4,(zG [0,1,2])⟩ (by rintro s h ⟨_,_,h0,_⟩;simp[hH]at h0) ?_
 rintro m4 s h ⟨vi_1,l2,hr4,hg⟩
 refine aOr hg ?_
 clear hg hL4
 rw[hH]at hr4
 refine aOl ?_
 refine zz ?_
 refine zk hr4 rfl (fun h18 hr4=> ?_) (fun h18 hr4=> ?_)
 ·refine zz ?_
  refine aOl<|aOk ?_
  obtain⟨x15,h_19,hr4⟩:=aF hr4
  obtain⟨x18,h_20,hr4⟩:=aF hr4
  obtain⟨x22,h_21,hr4⟩:=aF hr4
  obtain⟨x25,h_22,hr4⟩:=aF hr4
  obtain⟨x30,h_23,hr4⟩:=aF hr4
  obtain⟨x33,h_24,hr4⟩:=aF hr4
  obtain⟨x38,h_25,hr4⟩:=aF hr4
  obtain⟨x42,h_26,hr4⟩:=aF hr4
  refine aOP mixed [] [] [[0,1,2,3,4,5,6,7,8,9,10,11,12,13,14,15,16,17,18,19,20,21,22,23,24,25,26,27,28,29,30,31]] ?_
  refine zz ?_
  exact⟨aOi.wrap (vi_1+1),l2.set (aOz vi_1) (bits .or .u32 (bits .or .u32 (bits .or .u32 x18 x25) x33) (aOs.wrap x38)),hr4,(zG [0,1,2])⟩
 refine zz ?_
 obtain rfl:=sj hr4
 refine zz ?_
 exact hG1 _ _ _ _ (zG [1,2]) (J1 l2 hr)
theorem yF {N:Nat}{r:(List Int)}(hr:oO N=some r):
  Vm.Fn Tryz.prog 344 [] [] (.agg (r.map (eI .u32))) []:=by
 refine zf Tryz.func344 Tryz.ntmps344 ?_
 unfold oO at hr
 refine zz ?_
 refine xw (v:=(.agg ([1116352408,1899447441,3049323471,3921009573,961987163,1508970993,2453635748,2870763221,3624381080,310598401,607225278,1426881987,1925078388,2162078206,2614888103,3248222580,3835390401,4022224774,264347078,604807628,770255983,1249150122,1555081692,1996064986,2554220882,2821834349,2952996808,3210313671,3336571891,3584528711,113926993,338241895,666307205,773529912,1294757372,1396182291,1695183700,1986661051,2177026350,2456956037,2730485921,2820302411,3259730800,3345764771,3516065817,3600352804,4094571909,275423344,430227734,506948616,659060556,883997877,958139571,1322822218,1537002063,1747873779,1955562222,2024104815,2227730452,2361852424,2428436474,2756734187,3204031479,3329325298].map (eI .u32)))) (dD rfl (jO aHq aC4 rfl)) ?_
 refine zz ?_
 obtain rfl:=sj hr
 exact qP Tryz.results344 cJ (zG [])
theorem zC {N:Nat}{dW block:List Int}{r:(List Int)}(hr:pP N dW block=some r):
  Vm.Fn Tryz.prog 263 [] [(.agg (dW.map (eI .u32))),(.agg (block.map (eI .u8)))] (.agg (r.map (eI .u32))) []:=by
 refine zf Tryz.func263 Tryz.ntmps263 ?_
 unfold pP at hr
 obtain⟨q,h_1,hr⟩:=aF hr
 obtain⟨x19,h_2,hr⟩:=aF hr
 obtain⟨x20,h_3,hr⟩:=aF hr
 obtain⟨q_1,h_4,hr⟩:=aF hr
 obtain⟨q_2,h_5,hr⟩:=aF hr
 refine zz ?_
 refine xp (zE h_2)<|xp (yF h_3) ?_
 refine zz ?_
 refine aOl ?_
 obtain⟨x21,h_6,hr⟩:=aF hr
 obtain⟨x23,h_7,hr⟩:=aF hr
 obtain⟨x25,h_8,hr⟩:=aF hr
 obtain⟨x27,h_9,hr⟩:=aF hr
 obtain⟨x29,h_10,hr⟩:=aF hr
 obtain⟨x31,h_11,hr⟩:=aF hr
 obtain⟨x33,h_12,hr⟩:=aF hr
 obtain⟨x35,h_13,hr⟩:=aF hr
 refine aOP mixed [] [] [[0,1,2,3,4,5,6,7,8,9,10,11,12,13,14,15,16,17,18,19,20,21,22,23]] ?_
 refine zz ?_
 refine aOn fun K1 hK1 hG1=> ?_
 have J1: ∀(va b c d ve f g vh:Int),nA N dW va b c d ve f g vh=some r→K1 (aE 133 [(2,(.ptr 0 0)),(4,(.ptr 1 0)),(7,(eI .u32 va)),(8,(eI .u32 b)),(9,(eI .u32 c)),(10,(eI .u32 d)),(11,(eI .u32 ve)),(12,(eI .u32 f)),(13,(eI .u32 g)),(14,(eI .u32 vh))]) [some ⟨393,dW.map (eI .u32)⟩,some ⟨393,(aOg 8 0).map (eI .u32)⟩]:=by
  intro va b c d ve f g vh hr
  unfold nA at hr
  refine hK1 _ _ ?_
  obtain⟨aHg,h_14,hr⟩:=aF hr
  obtain⟨aG8,h_15,hr⟩:=aF hr
  obtain⟨aHi,h_16,hr⟩:=aF hr
  obtain⟨aGB,h_17,hr⟩:=aF hr
  obtain⟨aGu,h_18,hr⟩:=aF hr
  obtain⟨aGU,h_19,hr⟩:=aF hr
  obtain⟨aGX,h_20,hr⟩:=aF hr
  obtain⟨aGG,h_21,hr⟩:=aF hr
  refine zz ?_
  refine xw (v:=(.agg ([aOs.wrap (aHg+va),aOs.wrap (aG8+b),aOs.wrap (aHi+c),aOs.wrap (aGB+d),aOs.wrap (aGu+ve),aOs.wrap (aGU+f),aOs.wrap (aGX+g),aOs.wrap (aGG+vh)].map (eI .u32)))) (dD rfl (jO aCr aC4 rfl)) ?_
  refine zz ?_
  obtain rfl:=sj hr
  exact qP Tryz.results263 cJ (zG [])
 obtain⟨bI,hL2,hr⟩:=aF hr
 refine zz ?_
 refine aOk<|aOt (fun m s h=> ∃(va_1 b_1 c_1 d_1 ve_1 f_1 g_1 vh_1 vi:Int),iC N dW x19 x20 m va_1 b_1 c_1 d_1 ve_1 f_1 g_1 vh_1 vi=some bI∧Ghost 0 s h (aE 133 [(2,(.ptr 0 0)),(4,(.ptr 1 0)),(5,(.ptr 2 0)),(6,(.ptr 3 0)),(7,(eI .u32 va_1)),(8,(eI .u32 b_1)),(9,(eI .u32 c_1)),(10,(eI .u32 d_1)),(11,(eI .u32 ve_1)),(12,(eI .u32 f_1)),(13,(eI .u32 g_1)),(14,(eI .u32 vh_1)),(15,(eI .i64 vi))]) [some ⟨393,dW.map (eI .u32)⟩,some ⟨393,(aOg 8 0).map (eI .u32)⟩,some ⟨478,x19.map (eI .u32)⟩,some ⟨478,x20.map (eI .u32)⟩]) (n:=N) ⟨x21,x23,x25,x27,x29,x31,x33,x35,0,hL2,(zG [0,2,3,4])⟩ (by rintro s h ⟨_,_,_,_,_,_,_,_,_,h0,_⟩;simp[iC]at h0) ?_
 rintro m2 s h ⟨va_1,b_1,c_1,d_1,ve_1,f_1,g_1,vh_1,vi,hr2,hg⟩
 refine aOr hg ?_
 clear hg hL2
 rw[iC]at hr2
 refine aOl ?_
 refine zz ?_
 refine zk hr2 rfl (fun h22 hr2=> ?_) (fun h22 hr2=> ?_)
 ·refine zz ?_
  refine aOl<|aOk<|aOl ?_
  obtain⟨x43,h_23,hr2⟩:=aF hr2
  obtain⟨x45,h_25,hr2⟩:=aF hr2
  obtain⟨x48,h_27,hr2⟩:=aF hr2
  obtain⟨x61,h_29,hr2⟩:=aF hr2
  obtain⟨x65,h_30,hr2⟩:=aF hr2
  refine aOP mixed [345] [] [[0,1,2,3,4,5,6,7,8,9,10,11,12,13,14,15,16,17,18,19,20,21,22,23,24,25,26,27]] ?_
  refine zz ?_
  refine xu (d5 h_23) ?_
  refine zz ?_
  refine xu (d5 h_25) ?_
  refine zz ?_
  refine xu (d5 h_27) ?_
  refine zz ?_
  refine xw (v:=(eI .u32 (bits .xor .u32 (aOL .u32) ve_1))) (yB rfl (t6 rfl _)) ?_
  obtain⟨x69,h_31,hr2⟩:=aF hr2
  obtain⟨x71,h_32,hr2⟩:=aF hr2
  obtain⟨x74,h_33,hr2⟩:=aF hr2
  refine zz ?_
  refine xp (d5 h_31) ?_
  refine zz ?_
  refine xp (d5 h_32) ?_
  refine zz ?_
  refine xp (d5 h_33) ?_
  refine zz ?_
  exact⟨aOs.wrap ((aOs.wrap ((aOs.wrap ((aOs.wrap ((aOs.wrap (vh_1+(bits .xor .u32 (bits .xor .u32 x43 x45) x48)))+(bits .xor .u32 (bits .and .u32 ve_1 f_1) (bits .and .u32 (bits .xor .u32 (aOL .u32) ve_1) g_1))))+x61))+x65))+(aOs.wrap ((bits .xor .u32 (bits .xor .u32 x69 x71) x74)+(bits .xor .u32 (bits .xor .u32 (bits .and .u32 va_1 b_1) (bits .and .u32 va_1 c_1)) (bits .and .u32 b_1 c_1))))),va_1,b_1,c_1,aOs.wrap (d_1+(aOs.wrap ((aOs.wrap ((aOs.wrap ((aOs.wrap (vh_1+(bits .xor .u32 (bits .xor .u32 x43 x45) x48)))+(bits .xor .u32 (bits .and .u32 ve_1 f_1) (bits .and .u32 (bits .xor .u32 (aOL .u32) ve_1) g_1))))+x61))+x65))),ve_1,f_1,g_1,aOi.wrap (vi+1),hr2,(zG [0,1,2,3])⟩
 refine zz ?_
 obtain rfl:=sj hr2
 refine zz ?_
 exact hG1 _ _ _ _ (zG [0,1]) (J1 va_1 b_1 c_1 d_1 ve_1 f_1 g_1 vh_1 hr)
theorem yI {N:Nat}{b:List Int}{r:(List Int)}(hr:s6 N b=some r):
  Vm.Fn Tryz.prog 165 [] [(.row none 1 (b.map (eI .u8)))] (.agg (r.map (eI .u8))) []:=by
 refine zf Tryz.func165 Tryz.ntmps165 ?_
 unfold s6 at hr
 obtain⟨x11,h_1,hr⟩:=aF hr
 obtain⟨x15,h_2,hr⟩:=aF hr
 obtain⟨x16,h_3,hr⟩:=aF hr
 refine zz ?_
 refine zc (aDd h_2) [] ?_
 obtain⟨x17,h_4,hr⟩:=aF hr
 obtain⟨q,h_5,hr⟩:=aF hr
 refine zz ?_
 refine xp (zY h_4) ?_
 refine zz ?_
 refine aOn fun K1 hK1 hG1=> ?_
 have J1: ∀(l1:List Int),rX N l1=some r→K1 (aE 66 [(2,(.ptr 0 0)),(4,(.ptr 1 0))]) [some ⟨46,(aOg 32 0).map (eI .u8)⟩,some ⟨393,l1.map (eI .u32)⟩]:=by
  intro l1 hr
  unfold rX at hr
  refine hK1 _ _ ?_
  refine zz ?_
  refine aOn fun K2 hK2 hG2=> ?_
  have J2: ∀(bD:List Int),r8 N bD=some r→K2 (aE 66 [(2,(.ptr 0 0)),(7,(.ptr 1 0))]) [some ⟨46,(aOg 32 0).map (eI .u8)⟩,some ⟨46,bD.map (eI .u8)⟩]:=by
   intro bD hr
   unfold r8 at hr
   refine hK2 _ _ ?_
   obtain⟨q_1,h_6,hr⟩:=aF hr
   refine zz ?_
   obtain rfl:=sj hr
   exact qP Tryz.results165 cJ (zG [])
  obtain⟨q_2,h_7,hr⟩:=aF hr
  obtain⟨mW,hL3,hr⟩:=aF hr
  refine zz ?_
  refine aOk<|aOt (fun m s h=> ∃(x34:Int)(l1_2:List Int),lV N l1 m x34 l1_2=some mW∧Ghost 0 s h (aE 66 [(2,(.ptr 0 0)),(7,(.ptr 1 0)),(33,(.agg (l1.map (eI .u32)))),(34,(eI .i64 x34))]) [some ⟨46,(aOg 32 0).map (eI .u8)⟩,some ⟨46,l1_2.map (eI .u8)⟩]) (n:=N) ⟨0,aOg 32 0,hL3,(zG [0,2])⟩ (by rintro s h ⟨_,_,h0,_⟩;simp[lV]at h0) ?_
  rintro m3 s h ⟨x34,l1_2,hr3,hg⟩
  refine aOr hg ?_
  clear hg hL3
  rw[lV]at hr3
  refine zz ?_
  refine aOl ?_
  refine zk hr3 rfl (fun h8 hr3=> ?_) (fun h8 hr3=> ?_)
  ·refine zz ?_
   refine aOl<|aOk ?_
   obtain⟨x37,h_9,hr3⟩:=aF hr3
   refine zz ?_
   refine xw (v:=(eI .u32 x37)) (mV rfl rfl (ixA (E:=(eI .u32)) aCr aC4 rfl rfl h_9)) ?_
   obtain⟨x50,h_10,hr3⟩:=aF hr3
   obtain⟨x53,h_11,hr3⟩:=aF hr3
   obtain⟨x56,h_12,hr3⟩:=aF hr3
   obtain⟨x60,h_13,hr3⟩:=aF hr3
   obtain⟨x61,h_14,hr3⟩:=aF hr3
   obtain⟨x62,h_15,hr3⟩:=aF hr3
   obtain⟨x63,h_16,hr3⟩:=aF hr3
   refine zz ?_
   exact⟨aOi.wrap (x34+1),(((l1_2.set (aOz (aOi.wrap (4*x34))) (aOR.wrap x50)).set (aOz (aOi.wrap ((aOi.wrap (4*x34))+1))) (aOR.wrap x53)).set (aOz (aOi.wrap ((aOi.wrap (4*x34))+2))) (aOR.wrap x56)).set (aOz (aOi.wrap ((aOi.wrap (4*x34))+3))) (aOR.wrap x37),hr3,(zG [0,1])⟩
  refine zz ?_
  obtain rfl:=sj hr3
  refine zz ?_
  exact hG2 _ _ _ _ (zG [0,1]) (J2 l1_2 hr)
 refine zz ?_
 refine aOr (zv 4) ?_
 obtain⟨res4,hL4,hr⟩:=aF hr
 refine aOk<|aOt (fun m s h=> ∃(vi:Int)(l1_3:List Int),lT N x16 m vi l1_3=some res4∧Ghost 0 s h (aE 66 [(2,(.ptr 0 0)),(3,(.row none 1 (x16.map (eI .u8)))),(4,(.ptr 1 0)),(5,(eI .i64 vi))]) [some ⟨46,(aOg 32 0).map (eI .u8)⟩,some ⟨393,l1_3.map (eI .u32)⟩]) (n:=N) ⟨0,x17,hL4,(zG [0,5])⟩ (by rintro s h ⟨_,_,h0,_⟩;simp[lT]at h0) ?_
 rintro m4 s h ⟨vi,l1_3,hr4,hg⟩
 refine aOr hg ?_
 clear hg hL4
 rw[lT]at hr4
 refine aOl ?_
 refine zz ?_
 refine zk hr4 rfl (fun h17 hr4=> ?_) (fun h17 hr4=> ?_)
 ·refine zz ?_
  refine aOl<|aOk ?_
  refine zz ?_
  refine aOl ?_
  obtain⟨x28,h_18,hr4⟩:=aF hr4
  refine aOP mixed [] [] [[0,1,2,3,4]] ?_
  refine zz ?_
  refine xw (v:=(eI .i64 ((min x28.length (aOg 64 0).length:Nat):Int))) (h':=[some ⟨46,(aOg 32 0).map (eI .u8)⟩,some ⟨393,l1_3.map (eI .u32)⟩,some ⟨395,(cpy (aOg 64 0) x28).map (eI .u8)⟩]) (aJJ rfl rfl (aNQ (E:=(eI .u8)) (l:=aOg 64 0) rfl bJ cG rfl rfl (mZ (fun _=>rfl)) rfl)) ?_
  obtain⟨q_3,h_19,hr4⟩:=aF hr4
  obtain⟨q_4,h_20,hr4⟩:=aF hr4
  obtain⟨x32,h_21,hr4⟩:=aF hr4
  obtain⟨q_5,h_22,hr4⟩:=aF hr4
  refine zz ?_
  refine xp (zC h_21) ?_
  refine zz ?_
  exact⟨aOi.wrap (vi+64),x32,hr4,(zG [0,1])⟩
 refine zz ?_
 obtain rfl:=sj hr4
 refine zz ?_
 exact hG1 _ _ _ _ (zG [0,1]) (J1 l1_3 hr)
theorem aAA {N:Nat}{b:List Int}{r:(List Int)}(hr:sC N b=some r):
  Vm.Fn Tryz.prog 94 [] [(.row none 1 (b.map (eI .u8)))] (.agg (r.map (eI .u8))) []:=by
 refine zf Tryz.func94 Tryz.ntmps94 ?_
 unfold sC at hr
 obtain⟨x5,h_1,hr⟩:=aF hr
 obtain⟨q,h_2,hr⟩:=aF hr
 refine zz ?_
 refine xp (yI h_1) ?_
 obtain⟨x7,h_3,hr⟩:=aF hr
 obtain⟨q_1,h_4,hr⟩:=aF hr
 refine zz ?_
 refine zcL (yI h_3) [] [1] ?_
 refine zz ?_
 obtain rfl:=sj hr
 exact qP Tryz.results94 cJ (zG [])
theorem fE {N:Nat}{vn:Int}{r:(List Int)}(hr:gA N vn=some r):
  Vm.Fn Tryz.prog 79 [] [(eI .u64 vn)] (.agg (r.map (eI .u64))) []:=by
 refine zf Tryz.func79 Tryz.ntmps79 ?_
 unfold gA at hr
 refine zz ?_
 refine xw (v:=(.agg ([vn,0,0,0].map (eI .u64)))) (dD rfl (jO bK kM rfl)) ?_
 refine zz ?_
 obtain rfl:=sj hr
 exact qP Tryz.results79 cJ (zG [])
theorem o6 {N:Nat}{va:List Int}{vi:Int}{r:Bool}(hr:iL N va vi=some r):
  Vm.Fn Tryz.prog 232 [] [(.agg (va.map (eI .u64))),(eI .i64 vi)] (eB r) []:=by
 refine zf Tryz.func232 Tryz.ntmps232 ?_
 unfold iL at hr
 obtain⟨x7,h_1,hr⟩:=aF hr
 obtain⟨x11,h_2,hr⟩:=aF hr
 refine zz ?_
 obtain rfl:=sj hr
 exact dZ Tryz.results232 []
theorem wH {N:Nat}{va:List Int}{vn:Int}{r:(List Int)}(hr:s7 N va vn=some r):
  Vm.Fn Tryz.prog 235 [] [(.agg (va.map (eI .u64))),(eI .i64 vn)] (.agg (r.map (eI .u64))) []:=by
 refine zf Tryz.func235 Tryz.ntmps235 ?_
 unfold s7 at hr
 refine zz ?_
 refine aOl ?_
 refine zz ?_
 refine zk hr rfl (fun h1 hr=> ?_) (fun h1 hr=> ?_)
 ·obtain⟨q,h_2,hr⟩:=aF hr
  refine zz ?_
  obtain rfl:=sj hr
  exact qP Tryz.results235 cJ (zG [])
 refine zz ?_
 refine aOl ?_
 refine zz ?_
 refine zk hr rfl (fun h3 hr=> ?_) (fun h3 hr=> ?_)
 ·refine zz ?_
  refine xw (v:=(.agg ([0,0,0,0].map (eI .u64)))) (dD rfl (jO bK kM rfl)) ?_
  refine zz ?_
  obtain rfl:=sj hr
  exact qP Tryz.results235 cJ (zG [])
 refine zz ?_
 refine aOn fun K1 hK1 hG1=> ?_
 have J1: ∀(l1:List Int),sA N l1=some r→K1 (aE 34 [(4,(.ptr 0 0)),(5,(.ptr 1 0))]) [some ⟨51,(aOg 4 0).map (eI .u64)⟩,some ⟨51,l1.map (eI .u64)⟩]:=by
  intro l1 hr
  unfold sA at hr
  refine hK1 _ _ ?_
  obtain⟨q_1,h_4,hr⟩:=aF hr
  refine zz ?_
  obtain rfl:=sj hr
  exact qP Tryz.results235 cJ (zG [])
 obtain⟨bI,hL2,hr⟩:=aF hr
 refine zz ?_
 refine aOk<|aOt (fun m s h=> ∃(vi:Int)(l2:List Int),iX N va vn m vi l2=some bI∧Ghost 0 s h (aE 34 [(1,(eI .i64 vn)),(2,(.ptr 0 0)),(4,(.ptr 1 0)),(5,(.ptr 2 0)),(6,(eI .i64 vi))]) [some ⟨51,va.map (eI .u64)⟩,some ⟨51,(aOg 4 0).map (eI .u64)⟩,some ⟨51,l2.map (eI .u64)⟩]) (n:=N) ⟨0,aOg 4 0,hL2,(zG [0,1,2])⟩ (by rintro s h ⟨_,_,h0,_⟩;simp[iX]at h0) ?_
 rintro m2 s h ⟨vi,l2,hr2,hg⟩
 refine aOr hg ?_
 clear hg hL2
 rw[iX]at hr2
 refine aOl ?_
 refine zz ?_
 refine zk hr2 rfl (fun h5 hr2=> ?_) (fun h5 hr2=> ?_)
 ·refine zz ?_
  refine aOn fun K3 hK3 hG3=> ?_
  have J3: ∀(j5:List Int),oN N va vn vi (iX N va vn m2) j5=some bI→K3 (aE 34 [(1,(eI .i64 vn)),(2,(.ptr 0 0)),(4,(.ptr 1 0)),(5,(.ptr 2 0)),(6,(eI .i64 vi))]) [some ⟨51,va.map (eI .u64)⟩,some ⟨51,(aOg 4 0).map (eI .u64)⟩,some ⟨51,j5.map (eI .u64)⟩]:=by
   intro j5 hr2
   unfold oN at hr2
   refine hK3 _ _ ?_
   refine zz ?_
   exact⟨aOi.wrap (vi+1),j5,hr2,(zG [0,1,2])⟩
  refine aOk ?_
  obtain⟨q_2,h_6,hr2⟩:=aF hr2
  obtain⟨x23,h_7,hr2⟩:=aF hr2
  refine zz ?_
  refine xp (o6 h_7) ?_
  refine zz ?_
  refine zk hr2 rfl (fun h8 hr2=> ?_) (fun h8 hr2=> ?_)
  ·obtain⟨x26,h_9,hr2⟩:=aF hr2
   obtain⟨x30,h_10,hr2⟩:=aF hr2
   refine aOP mixed [] [] [[0,1,2,3,4,5,6,7,8,9]] ?_
   refine zz ?_
   exact hG3 _ _ _ _ (zG [0,1,2]) (J3 (l2.set (aOz (aOi.wrap (Int.tdiv vi 64))) (bits .or .u64 x26 x30)) hr2)
  refine zz ?_
  exact hG3 _ _ _ _ (zG [0,1,2]) (J3 l2 hr2)
 refine zz ?_
 obtain rfl:=sj hr2
 refine zz ?_
 exact hG1 _ _ _ _ (zG [1,2]) (J1 l2 hr)
theorem kO {N:Nat}{va:List Int}{r:Bool}(hr:jH N va=some r):
  Vm.Fn Tryz.prog 129 [] [(.agg (va.map (eI .u64)))] (eB r) []:=by
 refine zf Tryz.func129 Tryz.ntmps129 ?_
 unfold jH at hr
 obtain⟨q,h_1,hr⟩:=aF hr
 refine zz ?_
 refine xw (v:=(.agg ([0,0,0,0].map (eI .u64)))) (dD rfl (jO bK kM rfl)) ?_
 refine zz ?_
 obtain rfl:=sj hr
 exact dZ Tryz.results129 []
theorem aCS {N:Nat}{va:List Int}{r:Int}(hr:wU N va=some r):
  Vm.Fn Tryz.prog 251 [] [(.agg (va.map (eI .u64)))] (eI .i64 r) []:=by
 refine zf Tryz.func251 Tryz.ntmps251 ?_
 unfold wU at hr
 refine zz ?_
 refine aOn fun K1 hK1 hG1=> ?_
 have J1:sE N=some r→K1 (aE 13 []) []:=by
  intro hr
  unfold sE at hr
  refine hK1 _ _ ?_
  refine zz ?_
  obtain rfl:=sj hr
  exact dZ Tryz.results251 []
 obtain⟨bI,hL2,hr⟩:=aF hr
 refine zz ?_
 refine aOk<|aOt (fun m s h=> ∃(vi:Int),mD N va m vi=some bI∧Ghost 0 s h (aE 13 [(1,(.ptr 0 0)),(3,(eI .i64 vi))]) [some ⟨51,va.map (eI .u64)⟩]) (n:=N) ⟨255,hL2,(zG [0])⟩ (by rintro s h ⟨_,h0,_⟩;simp[mD]at h0) ?_
 rintro m2 s h ⟨vi,hr2,hg⟩
 refine aOr hg ?_
 clear hg hL2
 rw[mD]at hr2
 refine aOl ?_
 refine zz ?_
 refine zk hr2 rfl (fun h1 hr2=> ?_) (fun h1 hr2=> ?_)
 ·refine zz ?_
  refine aOl<|aOk ?_
  obtain⟨q,h_2,hr2⟩:=aF hr2
  obtain⟨x10,h_3,hr2⟩:=aF hr2
  refine zz ?_
  refine xp (o6 h_3) ?_
  refine zz ?_
  refine zk hr2 rfl (fun h4 hr2=> ?_) (fun h4 hr2=> ?_)
  ·refine zz ?_
   obtain rfl:=sj hr2
   obtain rfl:=sj hr
   exact dZ Tryz.results251 []
  refine zz ?_
  exact⟨aOi.wrap (vi-1),hr2,(zG [0])⟩
 refine zz ?_
 obtain rfl:=sj hr2
 refine zz ?_
 exact hG1 _ _ _ _ (zG []) (J1 hr)
theorem xB {N:Nat}{x y c:Int}{r:Int×Int}(hr:oX N x y c=some r):Vm.Fn Tryz.prog 325 [] [(eI .u64 x),(eI .u64 y),(eI .u64 c)] (.tup [(eI .u64 r.1),(eI .u64 r.2)]) []:=
 aGV Tryz.func325 (by kernel_rfl) (by kernel_rfl) (by kernel_rfl) (by kernel_rfl) hr
theorem r5 {N:Nat}{va b:List Int}{r:(List Int)×Bool}(hr:lR N va b=some r):
  Vm.Fn Tryz.prog 233 [] [(.agg (va.map (eI .u64))),(.agg (b.map (eI .u64)))] (.tup [(.agg (r.1.map (eI .u64))),(eB r.2)]) []:=by
 refine zf Tryz.func233 Tryz.ntmps233 ?_
 unfold lR at hr
 refine zz ?_
 refine aOn fun K1 hK1 hG1=> ?_
 have J1: ∀(aAH:Int)(l1:List Int),o8 N aAH l1=some r→K1 (aE 29 [(4,(.ptr 0 0)),(6,(.ptr 1 0)),(7,(eI .u64 aAH))]) [some ⟨51,(aOg 4 0).map (eI .u64)⟩,some ⟨51,l1.map (eI .u64)⟩]:=by
  intro aAH l1 hr
  unfold o8 at hr
  refine hK1 _ _ ?_
  obtain⟨q,h_1,hr⟩:=aF hr
  refine zz ?_
  obtain rfl:=sj hr
  exact zr2 Tryz.results233 cJ cJ (oD [])
 obtain⟨bI,hL2,hr⟩:=aF hr
 refine zz ?_
 refine aOk<|aOt (fun m s h=> ∃(carry_1 x9:Int)(l3:List Int),iW N va b m carry_1 x9 l3=some bI∧Ghost 0 s h (aE 29 [(2,(.ptr 0 0)),(3,(.ptr 1 0)),(4,(.ptr 2 0)),(6,(.ptr 3 0)),(7,(eI .u64 carry_1)),(9,(eI .i64 x9))]) [some ⟨51,va.map (eI .u64)⟩,some ⟨51,b.map (eI .u64)⟩,some ⟨51,(aOg 4 0).map (eI .u64)⟩,some ⟨51,l3.map (eI .u64)⟩]) (n:=N) ⟨0,0,aOg 4 0,hL2,(zG [0,1,2,3])⟩ (by rintro s h ⟨_,_,_,h0,_⟩;simp[iW]at h0) ?_
 rintro m2 s h ⟨carry_1,x9,l3,hr2,hg⟩
 refine aOr hg ?_
 clear hg hL2
 rw[iW]at hr2
 refine zz ?_
 refine aOl ?_
 refine zk hr2 rfl (fun h2 hr2=> ?_) (fun h2 hr2=> ?_)
 ·refine zz ?_
  refine aOl<|aOk ?_
  obtain⟨x15,h_3,hr2⟩:=aF hr2
  obtain⟨x18,h_4,hr2⟩:=aF hr2
  obtain⟨x21,h_5,hr2⟩:=aF hr2
  obtain⟨x24,h_7,hr2⟩:=aF hr2
  refine zz ?_
  refine aOP mixed [325] [] [[0,1,2,3,4,5,6,7,8,9,10,11,12,13,14]] ?_
  refine zz ?_
  refine xu (xB h_5) ?_
  refine zz ?_
  exact⟨x21.2,aOi.wrap (x9+1),l3.set (aOz x9) x21.1,hr2,(zG [0,1,2,3])⟩
 refine zz ?_
 obtain rfl:=sj hr2
 refine zz ?_
 exact hG1 _ _ _ _ (zG [2,3]) (J1 carry_1 l3 hr)
theorem aDF {N:Nat}{va:List Int}{vn:Int}{r:(List Int)}(hr:wL N va vn=some r):
  Vm.Fn Tryz.prog 252 [] [(.agg (va.map (eI .u64))),(eI .i64 vn)] (.agg (r.map (eI .u64))) []:=by
 refine zf Tryz.func252 Tryz.ntmps252 ?_
 unfold wL at hr
 refine zz ?_
 refine aOl ?_
 refine zz ?_
 refine zk hr rfl (fun h1 hr=> ?_) (fun h1 hr=> ?_)
 ·refine zz ?_
  refine xw (v:=(.agg ([0,0,0,0].map (eI .u64)))) (dD rfl (jO bK kM rfl)) ?_
  refine zz ?_
  obtain rfl:=sj hr
  exact qP Tryz.results252 cJ (zG [])
 refine zz ?_
 refine aOn fun K1 hK1 hG1=> ?_
 have J1: ∀(l0:List Int),sD N l0=some r→K1 (aE 19 [(2,(.ptr 0 0)),(4,(.ptr 1 0))]) [some ⟨51,l0.map (eI .u64)⟩,some ⟨51,(aOg 4 0).map (eI .u64)⟩]:=by
  intro l0 hr
  unfold sD at hr
  refine hK1 _ _ ?_
  obtain⟨q,h_2,hr⟩:=aF hr
  refine zz ?_
  obtain rfl:=sj hr
  exact qP Tryz.results252 cJ (zG [])
 obtain⟨bI,hL2,hr⟩:=aF hr
 refine aOk<|aOt (fun m s h=> ∃(fR:Int)(aI:List Int),l4 N m fR aI=some bI∧Ghost 0 s h (aE 19 [(1,(eI .i64 fR)),(2,(.ptr 0 0)),(4,(.ptr 1 0))]) [some ⟨51,aI.map (eI .u64)⟩,some ⟨51,(aOg 4 0).map (eI .u64)⟩]) (n:=N) ⟨vn,va,hL2,(zG [0,1])⟩ (by rintro s h ⟨_,_,h0,_⟩;simp[l4]at h0) ?_
 rintro m2 s h ⟨fR,aI,hr2,hg⟩
 refine aOr hg ?_
 clear hg hL2
 rw[l4]at hr2
 refine aOl ?_
 refine zz ?_
 refine zk hr2 rfl (fun h3 hr2=> ?_) (fun h3 hr2=> ?_)
 ·refine zz ?_
  refine aOl<|aOk ?_
  obtain⟨q_1,h_4,hr2⟩:=aF hr2
  obtain⟨x15,h_5,hr2⟩:=aF hr2
  obtain⟨q_2,h_6,hr2⟩:=aF hr2
  refine zz ?_
  refine xp (r5 h_5) ?_
  refine zz ?_
  exact⟨aOi.wrap (fR-1),x15.1,hr2,(zG [0,1])⟩
 refine zz ?_
 obtain rfl:=sj hr2
 refine zz ?_
 exact hG1 _ _ _ _ (zG [0,1]) (J1 aI hr)
theorem aAO {N:Nat}{y7:Int}{r:(List Int)×Int}(hr:rQ N y7=some r):
  Vm.Fn Tryz.prog 151 [] [(eI .u32 y7)] (.tup [(.agg (r.1.map (eI .u64))),(eI .i64 r.2)]) []:=by
 refine zf Tryz.func151 Tryz.ntmps151 ?_
 unfold rQ at hr
 obtain⟨x8,h_1,hr⟩:=aF hr
 obtain⟨x13,h_2,hr⟩:=aF hr
 obtain⟨q,h_3,hr⟩:=aF hr
 refine zz ?_
 refine xp (fE h_2) ?_
 refine zz ?_
 refine aOl ?_
 refine zz ?_
 refine zk hr rfl (fun h4 hr=> ?_) (fun h4 hr=> ?_)
 ·refine zz ?_
  refine xw (v:=(.agg ([0,0,0,0].map (eI .u64)))) (dD rfl (jO bK kM rfl)) ?_
  refine zz ?_
  obtain rfl:=sj hr
  exact zr2 Tryz.results151 cJ cJ (oD [])
 refine zz ?_
 refine aOn fun K1 hK1 hG1=> ?_
 have J1: ∀(l1:List Int),lG N l1=some r→K1 (aE 48 [(2,(.ptr 0 0)),(6,(.ptr 1 0))]) [some ⟨51,(aOg 4 0).map (eI .u64)⟩,some ⟨51,l1.map (eI .u64)⟩]:=by
  intro l1 hr
  unfold lG at hr
  refine hK1 _ _<|aOl ?_
  obtain⟨q_1,h_5,hr⟩:=aF hr
  obtain⟨x45,h_6,hr⟩:=aF hr
  refine zz ?_
  refine xp (kO h_6) ?_
  refine zz ?_
  refine zk hr rfl (fun h7 hr=> ?_) (fun h7 hr=> ?_)
  ·refine zz ?_
   refine xw (v:=(.agg ([0,0,0,0].map (eI .u64)))) (dD rfl (jO bK kM rfl)) ?_
   refine zz ?_
   obtain rfl:=sj hr
   exact zr2 Tryz.results151 cJ cJ (oD [])
  refine zz ?_
  obtain rfl:=sj hr
  exact zr2 Tryz.results151 cJ cJ (oD [])
 refine zz ?_
 refine zk hr rfl (fun h8 hr=> ?_) (fun h8 hr=> ?_)
 ·obtain⟨x25,h_9,hr⟩:=aF hr
  obtain⟨q_2,h_10,hr⟩:=aF hr
  refine zz ?_
  refine xp (wH h_9) ?_
  refine zz ?_
  exact hG1 _ _ _ _ (zG [0,2]) (J1 x25 hr)
 refine aOl ?_
 refine aOn fun K2 hK2 hG2=> ?_
 have J2: ∀(x37:Bool),lJ N x8 x13 x37=some r→K2 (aE 48 [(2,(.ptr 0 0)),(4,(eI .i64 (aOi.wrap x8))),(5,(.ptr 1 0)),(6,(.ptr 2 0)),(37,(eB x37))]) [some ⟨51,(aOg 4 0).map (eI .u64)⟩,some ⟨51,x13.map (eI .u64)⟩,some ⟨51,x13.map (eI .u64)⟩]:=by
  intro x37 hr
  unfold lJ at hr
  refine hK2 _ _ ?_
  refine zk hr rfl (fun h11 hr=> ?_) (fun h11 hr=> ?_)
  ·refine zz ?_
   refine xw (v:=(.agg ([0,0,0,0].map (eI .u64)))) (dD rfl (jO bK kM rfl)) ?_
   refine zz ?_
   obtain rfl:=sj hr
   exact zr2 Tryz.results151 cJ cJ (oD [])
  obtain⟨x43,h_12,hr⟩:=aF hr
  obtain⟨q_3,h_13,hr⟩:=aF hr
  refine zz ?_
  refine xp (aDF h_12) ?_
  refine zz ?_
  exact hG1 _ _ _ _ (zG [0,2]) (J1 x43 hr)
 obtain⟨x27,h_14,hr⟩:=aF hr
 rcases aOj (!x27)with h15|h15
 ·replace hr:=dI hr h15
  obtain⟨x31,h_16,hr⟩:=aF hr
  refine xr ?_
  refine zz ?_
  refine xp (kO h_14) ?_
  refine zz ?_
  refine xCg (v:=(eI .i64 x31)) (h':=[some ⟨51,(aOg 4 0).map (eI .u64)⟩,some ⟨51,x13.map (eI .u64)⟩,some ⟨51,x13.map (eI .u64)⟩]) rfl rfl h15 rfl (Vm.Fn.pure (aCS h_16) zR rfl) ?_
  refine zz ?_
  exact hG2 _ _ _ _ (zG [0,1,2]) (J2 (decide (256<(aOi.wrap (x31+(aOi.wrap (8*(aOi.wrap ((aOi.wrap x8)-3)))))))) hr)
 replace hr:=dE hr h15
 refine xr ?_
 refine zz ?_
 refine xp (kO h_14) ?_
 refine zz ?_
 exact hG2 _ _ _ _ (zG [0,1,2]) (J2 false hr)
theorem aDj {N:Nat}{va:List Int}{r:(List Int)}(hr:wR N va=some r):
  Vm.Fn Tryz.prog 236 [] [(.agg (va.map (eI .u64)))] (.agg (r.map (eI .u64))) []:=by
 refine zf Tryz.func236 Tryz.ntmps236 ?_
 unfold wR at hr
 obtain⟨x3,h_1,hr⟩:=aF hr
 obtain⟨x6,h_2,hr⟩:=aF hr
 obtain⟨x9,h_3,hr⟩:=aF hr
 obtain⟨x12,h_4,hr⟩:=aF hr
 refine zz ?_
 refine xw (yB rfl (t6 rfl _)) ?_
 refine zz ?_
 refine xw (yB rfl (t6 rfl _)) ?_
 refine zz ?_
 refine xw (yB rfl (t6 rfl _)) ?_
 refine zz ?_
 refine xw (yB rfl (t6 rfl _))<|xw (v:=(.agg ([bits .xor .u64 (aOL .u64) x3,bits .xor .u64 (aOL .u64) x6,bits .xor .u64 (aOL .u64) x9,bits .xor .u64 (aOL .u64) x12].map (eI .u64)))) (dD rfl (jO bK kM rfl)) ?_
 refine zz ?_
 obtain rfl:=sj hr
 exact qP Tryz.results236 cJ (zG [])
theorem wO {N:Nat}{va b:List Int}{r:Int}(hr:lS N va b=some r):
  Vm.Fn Tryz.prog 152 [] [(.agg (va.map (eI .u64))),(.agg (b.map (eI .u64)))] (eI .i64 r) []:=by
 refine zf Tryz.func152 Tryz.ntmps152 ?_
 unfold lS at hr
 refine zz ?_
 refine aOn fun K1 hK1 hG1=> ?_
 have J1:rU N=some r→K1 (aE 24 []) []:=by
  intro hr
  unfold rU at hr
  refine hK1 _ _ ?_
  refine zz ?_
  obtain rfl:=sj hr
  exact dZ Tryz.results152 []
 obtain⟨bI,hL2,hr⟩:=aF hr
 refine zz ?_
 refine aOk<|aOt (fun m s h=> ∃(vi:Int),iZ N va b m vi=some bI∧Ghost 0 s h (aE 24 [(2,(.ptr 0 0)),(3,(.ptr 1 0)),(5,(eI .i64 vi))]) [some ⟨51,va.map (eI .u64)⟩,some ⟨51,b.map (eI .u64)⟩]) (n:=N) ⟨3,hL2,(zG [0,1])⟩ (by rintro s h ⟨_,h0,_⟩;simp[iZ]at h0) ?_
 rintro m2 s h ⟨vi,hr2,hg⟩
 refine aOr hg ?_
 clear hg hL2
 rw[iZ]at hr2
 refine aOl ?_
 refine zz ?_
 refine zk hr2 rfl (fun h1 hr2=> ?_) (fun h1 hr2=> ?_)
 ·refine zz ?_
  refine aOl<|aOk<|aOl<|aOl ?_
  obtain⟨x11,h_2,hr2⟩:=aF hr2
  obtain⟨x14,h_3,hr2⟩:=aF hr2
  refine aOP mixed [] [] [[0,1,2,3,4,5,6]] ?_
  refine zz ?_
  refine zk hr2 rfl (fun h4 hr2=> ?_) (fun h4 hr2=> ?_)
  ·refine zz ?_
   obtain rfl:=sj hr2
   obtain rfl:=sj hr
   exact dZ Tryz.results152 []
  refine zz ?_
  refine aOl<|aOP mixed [] [] [[0,1,2,3,4,5,6]] ?_
  refine zz ?_
  refine zk hr2 rfl (fun h5 hr2=> ?_) (fun h5 hr2=> ?_)
  ·refine zz ?_
   obtain rfl:=sj hr2
   obtain rfl:=sj hr
   exact dZ Tryz.results152 []
  refine zz ?_
  exact⟨aOi.wrap (vi-1),hr2,(zG [0,1])⟩
 refine zz ?_
 obtain rfl:=sj hr2
 refine zz ?_
 exact hG1 _ _ _ _ (zG []) (J1 hr)
theorem qR {N:Nat}{x y c:Int}{r:Int×Int}(hr:lI N x y c=some r):Vm.Fn Tryz.prog 323 [] [(eI .u64 x),(eI .u64 y),(eI .u64 c)] (.tup [(eI .u64 r.1),(eI .u64 r.2)]) []:=
 aHf Tryz.func323 (by kernel_rfl) (by kernel_rfl) (by kernel_rfl) (by kernel_rfl) hr
theorem aC9 {N:Nat}{va b:List Int}{r:(List Int)×Bool}(hr:qK N va b=some r):
  Vm.Fn Tryz.prog 234 [] [(.agg (va.map (eI .u64))),(.agg (b.map (eI .u64)))] (.tup [(.agg (r.1.map (eI .u64))),(eB r.2)]) []:=by
 refine zf Tryz.func234 Tryz.ntmps234 ?_
 unfold qK at hr
 refine zz ?_
 refine aOn fun K1 hK1 hG1=> ?_
 have J1: ∀(borrow:Int)(l1:List Int),o2 N borrow l1=some r→K1 (aE 29 [(4,(.ptr 0 0)),(6,(.ptr 1 0)),(7,(eI .u64 borrow))]) [some ⟨51,(aOg 4 0).map (eI .u64)⟩,some ⟨51,l1.map (eI .u64)⟩]:=by
  intro borrow l1 hr
  unfold o2 at hr
  refine hK1 _ _ ?_
  obtain⟨q,h_1,hr⟩:=aF hr
  refine zz ?_
  obtain rfl:=sj hr
  exact zr2 Tryz.results234 cJ cJ (oD [])
 obtain⟨bI,hL2,hr⟩:=aF hr
 refine zz ?_
 refine aOk<|aOt (fun m s h=> ∃(borrow_1 x9:Int)(l3:List Int),iV N va b m borrow_1 x9 l3=some bI∧Ghost 0 s h (aE 29 [(2,(.ptr 0 0)),(3,(.ptr 1 0)),(4,(.ptr 2 0)),(6,(.ptr 3 0)),(7,(eI .u64 borrow_1)),(9,(eI .i64 x9))]) [some ⟨51,va.map (eI .u64)⟩,some ⟨51,b.map (eI .u64)⟩,some ⟨51,(aOg 4 0).map (eI .u64)⟩,some ⟨51,l3.map (eI .u64)⟩]) (n:=N) ⟨0,0,aOg 4 0,hL2,(zG [0,1,2,3])⟩ (by rintro s h ⟨_,_,_,h0,_⟩;simp[iV]at h0) ?_
 rintro m2 s h ⟨borrow_1,x9,l3,hr2,hg⟩
 refine aOr hg ?_
 clear hg hL2
 rw[iV]at hr2
 refine zz ?_
 refine aOl ?_
 refine zk hr2 rfl (fun h2 hr2=> ?_) (fun h2 hr2=> ?_)
 ·refine zz ?_
  refine aOl<|aOk ?_
  obtain⟨x15,h_3,hr2⟩:=aF hr2
  obtain⟨x18,h_4,hr2⟩:=aF hr2
  obtain⟨x21,h_5,hr2⟩:=aF hr2
  obtain⟨x24,h_7,hr2⟩:=aF hr2
  refine zz ?_
  refine aOP mixed [323] [] [[0,1,2,3,4,5,6,7,8,9,10,11,12,13,14]] ?_
  refine zz ?_
  refine xu (qR h_5) ?_
  refine zz ?_
  exact⟨x21.2,aOi.wrap (x9+1),l3.set (aOz x9) x21.1,hr2,(zG [0,1,2,3])⟩
 refine zz ?_
 obtain rfl:=sj hr2
 refine zz ?_
 exact hG1 _ _ _ _ (zG [2,3]) (J1 borrow_1 l3 hr)
theorem wY {N:Nat}{hi lo b:List Int}{r:(List Int)×(List Int)×Bool}(hr:oH N hi lo b=some r):
  Vm.Fn Tryz.prog 128 [] [(.agg (hi.map (eI .u64))),(.agg (lo.map (eI .u64))),(.agg (b.map (eI .u64)))] (.tup [(.agg (r.1.map (eI .u64))),(.agg (r.2.1.map (eI .u64))),(eB r.2.2)]) []:=by
 refine zf Tryz.func128 Tryz.ntmps128 ?_
 unfold oH at hr
 refine zz ?_
 refine aOl ?_
 obtain⟨q,h_1,hr⟩:=aF hr
 obtain⟨q_1,h_2,hr⟩:=aF hr
 obtain⟨x13,h_3,hr⟩:=aF hr
 refine zz ?_
 refine xp (wO h_3) ?_
 refine zz ?_
 refine zk hr rfl (fun h4 hr=> ?_) (fun h4 hr=> ?_)
 ·refine aOl<|aO3 (eN []) (eN []) mixed<|aOh (n:=4) (i:=0) (by decide +kernel) rfl (gS (v:=(.agg ((aOg 4 0).map (eI .u64)))) (sv (eU rfl (tB (E:=(eI .u64)) (l:=aOg 4 0) bK rfl rfl rfl)))) ?_
  refine aOW (m:=2) (L:=lst [0,1,2] 5) (s1:=aE 61 [(6,(.ptr 0 0)),(7,(.ptr 1 0)),(8,(eB false)),(16,(.agg ((aOg 4 0).map (eI .u64))))]) (h1:=[some ⟨51,(aOg 4 0).map (eI .u64)⟩,some ⟨51,(aOg 4 0).map (eI .u64)⟩]) ?_ (fun J=> ?_)
  ·refine aOh (n:=1) (i:=3) (by decide +kernel) rfl (gN (h':=[some ⟨51,(aOg 4 0).map (eI .u64)⟩,some ⟨51,(aOg 4 0).map (eI .u64)⟩]) (sv (cV rfl rfl (mQ (E:=(eI .u64)) (l:=aOg 4 0) bK rfl rfl (fun _=>rfl) rfl rfl rfl))))<|aOh (n:=0) (i:=4) (by decide +kernel) rfl (gS (v:=(eB false)) (sv (kH rfl)))<|aOH (by decide +kernel) ?_
   refine zz ?_
   obtain rfl:=sj hr
   exact zS Tryz.results128 cJ cJ cJ (oD [])
  refine aOx (n:=3) [1,2] (by decide +kernel) (by decide) ?_
  refine(aOq rfl (gS (v:=(.agg ((aOg 4 0).map (eI .u64)))) (sv (eU rfl (tB (E:=(eI .u64)) (l:=aOg 4 0) bK rfl rfl rfl)))) ?_ (aOq rfl (gN (h':=[some ⟨51,hi.map (eI .u64)⟩,some ⟨51,lo.map (eI .u64)⟩,some ⟨51,b.map (eI .u64)⟩,some ⟨51,(aOg 4 0).map (eI .u64)⟩,some ⟨51,(aOg 4 0).map (eI .u64)⟩]) (sv (cV rfl rfl (mQ (E:=(eI .u64)) (l:=aOg 4 0) bK rfl rfl (fun _=>rfl) rfl rfl rfl)))) ?_ aOB))
  ·refine aOh (n:=2) (i:=2) (by decide +kernel) rfl (gN (h':=[some ⟨51,hi.map (eI .u64)⟩,some ⟨51,lo.map (eI .u64)⟩,some ⟨51,b.map (eI .u64)⟩,some ⟨51,(aOg 4 0).map (eI .u64)⟩,some ⟨51,(aOg 4 0).map (eI .u64)⟩]) (sv (cV rfl rfl (mQ (E:=(eI .u64)) (l:=aOg 4 0) bK rfl rfl (fun _=>rfl) rfl rfl rfl)))) ?_
   exact aOw (by decide +kernel) (by decide +kernel) (zG [3,4]) J
  refine aOh (n:=2) (i:=1) (by decide +kernel) rfl (gS (v:=(.agg ((aOg 4 0).map (eI .u64)))) (sv (eU rfl (tB (E:=(eI .u64)) (l:=aOg 4 0) bK rfl rfl rfl)))) ?_
  exact aOw (by decide +kernel) (by decide +kernel) (zG [3,4]) J
 refine zz ?_
 refine aOn fun K1 hK1 hG1=> ?_
 have J1: ∀(l0 l1:List Int),oM N l0 l1=some r→K1 (aE 61 [(6,(.ptr 0 0)),(7,(.ptr 1 0))]) [some ⟨51,l0.map (eI .u64)⟩,some ⟨51,l1.map (eI .u64)⟩]:=by
  intro l0 l1 hr
  unfold oM at hr
  refine hK1 _ _<|aOl ?_
  obtain⟨q_2,h_5,hr⟩:=aF hr
  obtain⟨q_3,h_6,hr⟩:=aF hr
  refine aO3 (eN []) (eN []) mixed<|aOh (n:=4) (i:=0) (by decide +kernel) rfl (gS (v:=(.agg (l0.map (eI .u64)))) (sv (eU rfl (tB (E:=(eI .u64)) (l:=l0) bK rfl rfl (aO h_5))))) ?_
  refine aOW (m:=2) (L:=lst [0,1,2] 5) (s1:=aE 61 [(6,(.ptr 0 0)),(7,(.ptr 1 0)),(60,(.agg (l1.map (eI .u64))))]) (h1:=[some ⟨51,l0.map (eI .u64)⟩,some ⟨51,l1.map (eI .u64)⟩]) ?_ (fun J=> ?_)
  ·refine aOh (n:=1) (i:=3) (by decide +kernel) rfl (gN (h':=[some ⟨51,l0.map (eI .u64)⟩,some ⟨51,l1.map (eI .u64)⟩]) (sv (cV rfl rfl (mQ (E:=(eI .u64)) (l:=l1) bK rfl rfl (fun _=>rfl) (aO h_6) (aO h_6) rfl))))<|aOh (n:=0) (i:=4) (by decide +kernel) rfl (gS (v:=(eB true)) (sv (kH rfl)))<|aOH (by decide +kernel) ?_
   refine zz ?_
   obtain rfl:=sj hr
   exact zS Tryz.results128 cJ cJ cJ (oD [])
  refine aOx (n:=3) [1,2] (by decide +kernel) (by decide) ?_
  refine(aOq rfl (gS (v:=(.agg (l1.map (eI .u64)))) (sv (eU rfl (tB (E:=(eI .u64)) (l:=l1) bK rfl rfl (aO h_6))))) ?_ (aOq rfl (gN (h':=[some ⟨51,l0.map (eI .u64)⟩,some ⟨51,l1.map (eI .u64)⟩]) (sv (cV rfl rfl (mQ (E:=(eI .u64)) (l:=l0) bK rfl rfl (fun _=>rfl) (aO h_5) (aO h_5) rfl)))) ?_ aOB))
  ·refine aOh (n:=2) (i:=2) (by decide +kernel) rfl (gN (h':=[some ⟨51,l0.map (eI .u64)⟩,some ⟨51,l1.map (eI .u64)⟩]) (sv (cV rfl rfl (mQ (E:=(eI .u64)) (l:=l0) bK rfl rfl (fun _=>rfl) (aO h_5) (aO h_5) rfl)))) ?_
   exact aOw (by decide +kernel) (by decide +kernel) (zG [0,1]) J
  refine aOh (n:=2) (i:=1) (by decide +kernel) rfl (gS (v:=(.agg (l1.map (eI .u64)))) (sv (eU rfl (tB (E:=(eI .u64)) (l:=l1) bK rfl rfl (aO h_6))))) ?_
  exact aOw (by decide +kernel) (by decide +kernel) (zG [0,1]) J
 obtain⟨bI,hL2,hr⟩:=aF hr
 refine zz ?_
 refine aOk<|aOt (fun m s h=> ∃(vi:Int)(l2 l3:List Int),cR N lo b m vi l2 l3=some bI∧Ghost 0 s h (aE 61 [(4,(.ptr 0 0)),(5,(.ptr 1 0)),(6,(.ptr 2 0)),(7,(.ptr 3 0)),(9,(eI .i64 vi))]) [some ⟨51,lo.map (eI .u64)⟩,some ⟨51,b.map (eI .u64)⟩,some ⟨51,l2.map (eI .u64)⟩,some ⟨51,l3.map (eI .u64)⟩]) (n:=N) ⟨255,aOg 4 0,hi,hL2,(zG [1,2,3,4])⟩ (by rintro s h ⟨_,_,_,h0,_⟩;simp[cR]at h0) ?_
 rintro m2 s h ⟨vi,l2,l3,hr2,hg⟩
 refine aOr hg ?_
 clear hg hL2
 rw[cR]at hr2
 refine aOl ?_
 refine zz ?_
 refine zk hr2 rfl (fun h7 hr2=> ?_) (fun h7 hr2=> ?_)
 ·refine zz ?_
  refine aOn fun K3 hK3 hG3=> ?_
  have J3: ∀(j5 pA:List Int),j9 N lo b vi (cR N lo b m2) j5 pA=some bI→K3 (aE 61 [(4,(.ptr 0 0)),(5,(.ptr 1 0)),(6,(.ptr 2 0)),(7,(.ptr 3 0)),(9,(eI .i64 vi))]) [some ⟨51,lo.map (eI .u64)⟩,some ⟨51,b.map (eI .u64)⟩,some ⟨51,j5.map (eI .u64)⟩,some ⟨51,pA.map (eI .u64)⟩]:=by
   intro j5 pA hr2
   unfold j9 at hr2
   refine hK3 _ _ ?_
   refine zz ?_
   exact⟨aOi.wrap (vi-1),j5,pA,hr2,(zG [0,1,2,3])⟩
  refine aOk ?_
  obtain⟨q_4,h_8,hr2⟩:=aF hr2
  obtain⟨x23,h_9,hr2⟩:=aF hr2
  refine zz ?_
  refine xp (o6 h_9) ?_
  obtain⟨x27,h_10,hr2⟩:=aF hr2
  obtain⟨q_5,h_11,hr2⟩:=aF hr2
  refine zz ?_
  refine xp (r5 h_10) ?_
  refine zz ?_
  refine aOn fun K4 hK4 hG4=> ?_
  have J4: ∀(d4:List Int),j1 N lo b vi l2 x23 (cR N lo b m2) d4=some bI→K4 (aE 61 [(4,(.ptr 0 0)),(5,(.ptr 1 0)),(6,(.ptr 2 0)),(7,(.ptr 3 0)),(9,(eI .i64 vi)),(10,(eB x23))]) [some ⟨51,lo.map (eI .u64)⟩,some ⟨51,b.map (eI .u64)⟩,some ⟨51,l2.map (eI .u64)⟩,some ⟨51,d4.map (eI .u64)⟩]:=by
   intro d4 hr2
   unfold j1 at hr2
   refine hK4 _ _ ?_
   refine aOn fun K5 hK5 hG5=> ?_
   have J5: ∀(x43:Bool),j2 N lo b vi l2 d4 (cR N lo b m2) x43=some bI→K5 (aE 61 [(4,(.ptr 0 0)),(5,(.ptr 1 0)),(6,(.ptr 2 0)),(7,(.ptr 3 0)),(9,(eI .i64 vi)),(43,(eB x43))]) [some ⟨51,lo.map (eI .u64)⟩,some ⟨51,b.map (eI .u64)⟩,some ⟨51,l2.map (eI .u64)⟩,some ⟨51,d4.map (eI .u64)⟩]:=by
    intro x43 hr2
    unfold j2 at hr2
    refine hK5 _ _ ?_
    refine zk hr2 rfl (fun h12 hr2=> ?_) (fun h12 hr2=> ?_)
    ·obtain⟨q_6,h_13,hr2⟩:=aF hr2
     obtain⟨x47,h_14,hr2⟩:=aF hr2
     obtain⟨q_7,h_15,hr2⟩:=aF hr2
     refine zz ?_
     refine xp (aC9 h_14) ?_
     obtain⟨x52,h_16,hr2⟩:=aF hr2
     obtain⟨x56,h_17,hr2⟩:=aF hr2
     refine zz ?_
     refine aOP mixed [] [] [[0,1,2,3,4,5,6,7,8,9]] ?_
     refine zz ?_
     exact hG3 _ _ _ _ (zG [0,1,2,3]) (J3 (l2.set (aOz (aOi.wrap (Int.tdiv vi 64))) (bits .or .u64 x52 x56)) x47.1 hr2)
    refine zz ?_
    exact hG3 _ _ _ _ (zG [0,1,2,3]) (J3 l2 d4 hr2)
   rcases aOj x23 with h18|h18
   ·replace hr2:=dI hr2 h18
    refine xr ?_
    refine zz ?_
    exact hG5 _ _ _ _ (zG [0,1,2,3]) (J5 true hr2)
   replace hr2:=dE hr2 h18
   obtain⟨q_8,h_19,hr2⟩:=aF hr2
   obtain⟨x41,h_20,hr2⟩:=aF hr2
   refine xr ?_
   refine zz ?_
   refine xCg (v:=(eI .i64 x41)) (h':=[some ⟨51,lo.map (eI .u64)⟩,some ⟨51,b.map (eI .u64)⟩,some ⟨51,l2.map (eI .u64)⟩,some ⟨51,d4.map (eI .u64)⟩]) rfl rfl h18 rfl (Vm.Fn.pure (wO h_20) zR rfl) ?_
   refine zz ?_
   exact hG5 _ _ _ _ (zG [0,1,2,3]) (J5 (decide (0≤x41)) hr2)
  obtain⟨q_9,h_21,hr2⟩:=aF hr2
  obtain⟨x32,h_22,hr2⟩:=aF hr2
  refine zz ?_
  refine xp (o6 h_22) ?_
  refine zz ?_
  refine zk hr2 rfl (fun h23 hr2=> ?_) (fun h23 hr2=> ?_)
  ·obtain⟨x33,h_24,hr2⟩:=aF hr2
   refine zz ?_
   exact hG4 _ _ _ _ (zG [0,1,2,3]) (J4 (x27.1.set (aOz 0) (bits .or .u64 x33 1)) hr2)
  refine zz ?_
  exact hG4 _ _ _ _ (zG [0,1,2,3]) (J4 x27.1 hr2)
 refine zz ?_
 obtain rfl:=sj hr2
 refine zz ?_
 exact hG1 _ _ _ _ (zG [2,3]) (J1 l2 l3 hr)
theorem aCg {N:Nat}{t:List Int}{r:(List Int)}(hr:uV N t=some r):
  Vm.Fn Tryz.prog 153 [] [(.agg (t.map (eI .u64)))] (.agg (r.map (eI .u64))) []:=by
 refine zf Tryz.func153 Tryz.ntmps153 ?_
 unfold uV at hr
 refine zz ?_
 refine aOl ?_
 obtain⟨q,h_1,hr⟩:=aF hr
 obtain⟨x9,h_2,hr⟩:=aF hr
 refine zz ?_
 refine xp (kO h_2) ?_
 refine zz ?_
 refine zk hr rfl (fun h3 hr=> ?_) (fun h3 hr=> ?_)
 ·obtain⟨x11,h_4,hr⟩:=aF hr
  obtain⟨q_1,h_5,hr⟩:=aF hr
  refine zz ?_
  refine xw (v:=(.agg ([0,0,0,0].map (eI .u64)))) (dD rfl (jO bK kM rfl))<|xp (aDj h_4) ?_
  refine zz ?_
  obtain rfl:=sj hr
  exact qP Tryz.results153 cJ (zG [])
 refine zz ?_
 refine aOl ?_
 obtain⟨x14,h_6,hr⟩:=aF hr
 obtain⟨x15,h_8,hr⟩:=aF hr
 obtain⟨q_2,h_10,hr⟩:=aF hr
 refine aOP mixed [79,233] [] [[0,1,2,3,4,5,6,7,8]] ?_
 refine zz ?_
 refine xu (fE h_6)<|xu (r5 h_8) ?_
 refine zz ?_
 refine aOl ?_
 refine zz ?_
 refine zk hr rfl (fun h11 hr=> ?_) (fun h11 hr=> ?_)
 ·obtain⟨q_3,h_12,hr⟩:=aF hr
  refine zz ?_
  refine xp (fE h_6) ?_
  refine zz ?_
  obtain rfl:=sj hr
  exact qP Tryz.results153 cJ (zG [])
 refine zz ?_
 refine aOl ?_
 obtain⟨x24,h_14,hr⟩:=aF hr
 obtain⟨q_4,h_16,hr⟩:=aF hr
 obtain⟨q_5,h_17,hr⟩:=aF hr
 refine aO3 (eN [79,128]) (eN []) mixed<|aOh (n:=12) (i:=0) (by decide +kernel) rfl (gU (fun _=>(Vm.Fn.pure (fE h_6) rfl zR)) rfl (sv (nK rfl iS)))<|aOh (n:=11) (i:=1) (by decide +kernel) rfl (gS (v:=(.agg ([0,0,0,0].map (eI .u64)))) (sv (dD rfl (jO bK kM rfl))))<|aOh (n:=10) (i:=2) (by decide +kernel) rfl (gS (v:=(.agg (x15.1.map (eI .u64)))) (sv (eU rfl (tB (E:=(eI .u64)) (l:=x15.1) bK rfl rfl (aO h_10)))))<|aOh (n:=9) (i:=3) (by decide +kernel) rfl (gU (fun _=>(Vm.Fn.pure (wY h_14) zR zR)) rfl (sv (nK rfl iS))) ?_
 refine aOh (n:=8) (i:=4) (by decide +kernel) rfl (gS (v:=(.tup [(.agg (x24.1.map (eI .u64))),(.agg (x24.2.1.map (eI .u64))),(eB x24.2.2)])) (sv (kP rfl)))<|aOh (n:=7) (i:=5) (by decide +kernel) rfl (gS (v:=(.agg (x24.1.map (eI .u64)))) (sv (p7 rfl rfl)))<|aOh (n:=6) (i:=6) (by decide +kernel) rfl (gS (v:=(.agg (x24.2.1.map (eI .u64)))) (sv (p7 rfl rfl)))<|aOh (n:=5) (i:=7) (by decide +kernel) rfl (gS (v:=(eB x24.2.2)) (sv (p7 rfl rfl))) ?_
 refine aOW (m:=1) (L:=lst [0,1,2,3,4,5,6,7,8,9,10,11] 13) (s1:=aE 29 [(2,(.ptr 0 0)),(5,(.ptr 1 0)),(27,(eB x24.2.2))]) (h1:=[some ⟨51,(aOg 4 0).map (eI .u64)⟩,some ⟨51,x24.1.map (eI .u64)⟩]) ?_ (fun J=> ?_)
 ·refine aOh (n:=0) (i:=12) (by decide +kernel) rfl (gS (v:=(eB x24.2.2)) (sv (kH rfl)))<|aOH (by decide +kernel) ?_
  refine zz ?_
  obtain rfl:=sj hr
  exact qP Tryz.results153 cJ (zG [])
 refine aOx (n:=4) [8,9] (by decide +kernel) (by decide) ?_
 refine(aOq rfl (gS (v:=(.ptr 3 0)) (h':=[some ⟨51,t.map (eI .u64)⟩,some ⟨51,(aOg 4 0).map (eI .u64)⟩,some ⟨51,x15.1.map (eI .u64)⟩,some ⟨51,(aOg 4 0).map (eI .u64)⟩]) (sv (gQ bK rfl rfl rfl))) ?_ (aOq rfl (gS (v:=(.ptr 3 0)) (h':=[some ⟨51,t.map (eI .u64)⟩,some ⟨51,(aOg 4 0).map (eI .u64)⟩,some ⟨51,x15.1.map (eI .u64)⟩,some ⟨51,(aOg 4 0).map (eI .u64)⟩]) (sv (gQ bK rfl rfl rfl))) ?_ aOB))
 ·refine aOh (n:=3) (i:=9) (by decide +kernel) rfl (gS (v:=(.ptr 4 0)) (h':=[some ⟨51,t.map (eI .u64)⟩,some ⟨51,(aOg 4 0).map (eI .u64)⟩,some ⟨51,x15.1.map (eI .u64)⟩,some ⟨51,(aOg 4 0).map (eI .u64)⟩,some ⟨51,(aOg 4 0).map (eI .u64)⟩]) (sv (gQ bK rfl rfl rfl)))<|aOh (n:=2) (i:=10) (by decide +kernel) rfl (gN (h':=[some ⟨51,t.map (eI .u64)⟩,some ⟨51,(aOg 4 0).map (eI .u64)⟩,some ⟨51,x15.1.map (eI .u64)⟩,some ⟨51,x24.1.map (eI .u64)⟩,some ⟨51,(aOg 4 0).map (eI .u64)⟩]) (sv (cV rfl rfl (mQ (E:=(eI .u64)) (l:=aOg 4 0) bK rfl rfl (fun _=>rfl) rfl (aO h_16) rfl)))) ?_
  refine aOh (n:=1) (i:=11) (by decide +kernel) rfl (gN (h':=[some ⟨51,t.map (eI .u64)⟩,some ⟨51,(aOg 4 0).map (eI .u64)⟩,some ⟨51,x15.1.map (eI .u64)⟩,some ⟨51,x24.1.map (eI .u64)⟩,some ⟨51,x24.2.1.map (eI .u64)⟩]) (sv (cV rfl rfl (mQ (E:=(eI .u64)) (l:=aOg 4 0) bK rfl rfl (fun _=>rfl) rfl (aO h_17) rfl)))) ?_
  exact aOw (by decide +kernel) (by decide +kernel) (zG [1,3]) J
 refine aOh (n:=3) (i:=8) (by decide +kernel) rfl (gS (v:=(.ptr 4 0)) (h':=[some ⟨51,t.map (eI .u64)⟩,some ⟨51,(aOg 4 0).map (eI .u64)⟩,some ⟨51,x15.1.map (eI .u64)⟩,some ⟨51,(aOg 4 0).map (eI .u64)⟩,some ⟨51,(aOg 4 0).map (eI .u64)⟩]) (sv (gQ bK rfl rfl rfl)))<|aOh (n:=2) (i:=10) (by decide +kernel) rfl (gN (h':=[some ⟨51,t.map (eI .u64)⟩,some ⟨51,(aOg 4 0).map (eI .u64)⟩,some ⟨51,x15.1.map (eI .u64)⟩,some ⟨51,(aOg 4 0).map (eI .u64)⟩,some ⟨51,x24.1.map (eI .u64)⟩]) (sv (cV rfl rfl (mQ (E:=(eI .u64)) (l:=aOg 4 0) bK rfl rfl (fun _=>rfl) rfl (aO h_16) rfl)))) ?_
 refine aOh (n:=1) (i:=11) (by decide +kernel) rfl (gN (h':=[some ⟨51,t.map (eI .u64)⟩,some ⟨51,(aOg 4 0).map (eI .u64)⟩,some ⟨51,x15.1.map (eI .u64)⟩,some ⟨51,x24.2.1.map (eI .u64)⟩,some ⟨51,x24.1.map (eI .u64)⟩]) (sv (cV rfl rfl (mQ (E:=(eI .u64)) (l:=aOg 4 0) bK rfl rfl (fun _=>rfl) rfl (aO h_17) rfl)))) ?_
 exact aOw (by decide +kernel) (by decide +kernel) (zG [1,4]) J
theorem aAh {N:Nat}{vn:Int}{r:(List Int)}(hr:qZ N vn=some r):
  Vm.Fn Tryz.prog 120 [] [(eI .u64 vn)] (.agg (r.map (eI .u64))) []:=by
 refine zf Tryz.func120 Tryz.ntmps120 ?_
 unfold qZ at hr
 refine zz ?_
 refine xw (v:=(.agg ([vn,0,0,0].map (eI .u64)))) (dD rfl (jO bK kM rfl)) ?_
 refine zz ?_
 obtain rfl:=sj hr
 exact qP Tryz.results120 cJ (zG [])
theorem zK {N:Nat}{va b:List Int}{r:Int}(hr:u5 N va b=some r):
  Vm.Fn Tryz.prog 225 [] [(.agg (va.map (eI .u64))),(.agg (b.map (eI .u64)))] (eI .i64 r) []:=by
 refine zf Tryz.func225 Tryz.ntmps225 ?_
 unfold u5 at hr
 refine zz ?_
 refine aOn fun K1 hK1 hG1=> ?_
 have J1:tR N=some r→K1 (aE 24 []) []:=by
  intro hr
  unfold tR at hr
  refine hK1 _ _ ?_
  refine zz ?_
  obtain rfl:=sj hr
  exact dZ Tryz.results225 []
 obtain⟨bI,hL2,hr⟩:=aF hr
 refine zz ?_
 refine aOk<|aOt (fun m s h=> ∃(vi:Int),nI N va b m vi=some bI∧Ghost 0 s h (aE 24 [(2,(.ptr 0 0)),(3,(.ptr 1 0)),(5,(eI .i64 vi))]) [some ⟨51,va.map (eI .u64)⟩,some ⟨51,b.map (eI .u64)⟩]) (n:=N) ⟨3,hL2,(zG [0,1])⟩ (by rintro s h ⟨_,h0,_⟩;simp[nI]at h0) ?_
 rintro m2 s h ⟨vi,hr2,hg⟩
 refine aOr hg ?_
 clear hg hL2
 rw[nI]at hr2
 refine aOl ?_
 refine zz ?_
 refine zk hr2 rfl (fun h1 hr2=> ?_) (fun h1 hr2=> ?_)
 ·refine zz ?_
  refine aOl<|aOk<|aOl<|aOl ?_
  obtain⟨x11,h_2,hr2⟩:=aF hr2
  obtain⟨x14,h_3,hr2⟩:=aF hr2
  refine aOP mixed [] [] [[0,1,2,3,4,5,6]] ?_
  refine zz ?_
  refine zk hr2 rfl (fun h4 hr2=> ?_) (fun h4 hr2=> ?_)
  ·refine zz ?_
   obtain rfl:=sj hr2
   obtain rfl:=sj hr
   exact dZ Tryz.results225 []
  refine zz ?_
  refine aOl<|aOP mixed [] [] [[0,1,2,3,4,5,6]] ?_
  refine zz ?_
  refine zk hr2 rfl (fun h5 hr2=> ?_) (fun h5 hr2=> ?_)
  ·refine zz ?_
   obtain rfl:=sj hr2
   obtain rfl:=sj hr
   exact dZ Tryz.results225 []
  refine zz ?_
  exact⟨aOi.wrap (vi-1),hr2,(zG [0,1])⟩
 refine zz ?_
 obtain rfl:=sj hr2
 refine zz ?_
 exact hG1 _ _ _ _ (zG []) (J1 hr)
theorem uI {N:Nat}{va:List Int}{low:Int}{r:(List Int)×Int}(hr:qC N va low=some r):
  Vm.Fn Tryz.prog 226 [] [(.agg (va.map (eI .u64))),(eI .u64 low)] (.tup [(.agg (r.1.map (eI .u64))),(eI .u64 r.2)]) []:=by
 refine zf Tryz.func226 Tryz.ntmps226 ?_
 unfold qC at hr
 refine zz ?_
 refine aOn fun K1 hK1 hG1=> ?_
 have J1: ∀(aAy:Int)(l0:List Int),pF N aAy l0=some r→K1 (aE 25 [(1,(eI .u64 aAy)),(2,(.ptr 0 0)),(4,(.ptr 1 0))]) [some ⟨51,l0.map (eI .u64)⟩,some ⟨51,(aOg 4 0).map (eI .u64)⟩]:=by
  intro aAy l0 hr
  unfold pF at hr
  refine hK1 _ _ ?_
  obtain⟨q,h_1,hr⟩:=aF hr
  refine zz ?_
  obtain rfl:=sj hr
  exact zr2 Tryz.results226 cJ cJ (oD [])
 obtain⟨bI,hL2,hr⟩:=aF hr
 refine zz ?_
 refine aOk<|aOt (fun m s h=> ∃(low_2 x7:Int)(aI:List Int),j0 N m low_2 x7 aI=some bI∧Ghost 0 s h (aE 25 [(1,(eI .u64 low_2)),(2,(.ptr 0 0)),(4,(.ptr 1 0)),(7,(eI .i64 x7))]) [some ⟨51,aI.map (eI .u64)⟩,some ⟨51,(aOg 4 0).map (eI .u64)⟩]) (n:=N) ⟨low,0,va,hL2,(zG [0,1])⟩ (by rintro s h ⟨_,_,_,h0,_⟩;simp[j0]at h0) ?_
 rintro m2 s h ⟨low_2,x7,aI,hr2,hg⟩
 refine aOr hg ?_
 clear hg hL2
 rw[j0]at hr2
 refine zz ?_
 refine aOl ?_
 refine zk hr2 rfl (fun h2 hr2=> ?_) (fun h2 hr2=> ?_)
 ·refine zz ?_
  refine aOl<|aOk ?_
  obtain⟨x12,h_3,hr2⟩:=aF hr2
  obtain⟨x14,h_4,hr2⟩:=aF hr2
  obtain⟨x20,h_5,hr2⟩:=aF hr2
  refine zz ?_
  refine aOP mixed [] [] [[0,1,2,3,4,5,6,7,8,9,10,11,12,13]] ?_
  refine zz ?_
  exact⟨x20,aOi.wrap (x7+1),aI.set (aOz x7) (bits .or .u64 x14 low_2),hr2,(zG [0,1])⟩
 refine zz ?_
 obtain rfl:=sj hr2
 refine zz ?_
 exact hG1 _ _ _ _ (zG [0,1]) (J1 low_2 aI hr)
theorem aDQ {N:Nat}{va b:List Int}{r:(List Int)×Bool}(hr:aAd N va b=some r):
  Vm.Fn Tryz.prog 227 [] [(.agg (va.map (eI .u64))),(.agg (b.map (eI .u64)))] (.tup [(.agg (r.1.map (eI .u64))),(eB r.2)]) []:=by
 refine zf Tryz.func227 Tryz.ntmps227 ?_
 unfold aAd at hr
 refine zz ?_
 refine aOn fun K1 hK1 hG1=> ?_
 have J1: ∀(borrow:Int)(l1:List Int),tP N borrow l1=some r→K1 (aE 29 [(4,(.ptr 0 0)),(6,(.ptr 1 0)),(7,(eI .u64 borrow))]) [some ⟨51,(aOg 4 0).map (eI .u64)⟩,some ⟨51,l1.map (eI .u64)⟩]:=by
  intro borrow l1 hr
  unfold tP at hr
  refine hK1 _ _ ?_
  obtain⟨q,h_1,hr⟩:=aF hr
  refine zz ?_
  obtain rfl:=sj hr
  exact zr2 Tryz.results227 cJ cJ (oD [])
 obtain⟨bI,hL2,hr⟩:=aF hr
 refine zz ?_
 refine aOk<|aOt (fun m s h=> ∃(borrow_1 x9:Int)(l3:List Int),nB N va b m borrow_1 x9 l3=some bI∧Ghost 0 s h (aE 29 [(2,(.ptr 0 0)),(3,(.ptr 1 0)),(4,(.ptr 2 0)),(6,(.ptr 3 0)),(7,(eI .u64 borrow_1)),(9,(eI .i64 x9))]) [some ⟨51,va.map (eI .u64)⟩,some ⟨51,b.map (eI .u64)⟩,some ⟨51,(aOg 4 0).map (eI .u64)⟩,some ⟨51,l3.map (eI .u64)⟩]) (n:=N) ⟨0,0,aOg 4 0,hL2,(zG [0,1,2,3])⟩ (by rintro s h ⟨_,_,_,h0,_⟩;simp[nB]at h0) ?_
 rintro m2 s h ⟨borrow_1,x9,l3,hr2,hg⟩
 refine aOr hg ?_
 clear hg hL2
 rw[nB]at hr2
 refine zz ?_
 refine aOl ?_
 refine zk hr2 rfl (fun h2 hr2=> ?_) (fun h2 hr2=> ?_)
 ·refine zz ?_
  refine aOl<|aOk ?_
  obtain⟨x15,h_3,hr2⟩:=aF hr2
  obtain⟨x18,h_4,hr2⟩:=aF hr2
  obtain⟨x21,h_5,hr2⟩:=aF hr2
  obtain⟨x24,h_7,hr2⟩:=aF hr2
  refine zz ?_
  refine aOP mixed [323] [] [[0,1,2,3,4,5,6,7,8,9,10,11,12,13,14]] ?_
  refine zz ?_
  refine xu (qR h_5) ?_
  refine zz ?_
  exact⟨x21.2,aOi.wrap (x9+1),l3.set (aOz x9) x21.1,hr2,(zG [0,1,2,3])⟩
 refine zz ?_
 obtain rfl:=sj hr2
 refine zz ?_
 exact hG1 _ _ _ _ (zG [2,3]) (J1 borrow_1 l3 hr)
theorem aDO {N:Nat}{hi lo b:List Int}{r:(List Int)×(List Int)×Bool}(hr:aAa N hi lo b=some r):
  Vm.Fn Tryz.prog 119 [] [(.agg (hi.map (eI .u64))),(.agg (lo.map (eI .u64))),(.agg (b.map (eI .u64)))] (.tup [(.agg (r.1.map (eI .u64))),(.agg (r.2.1.map (eI .u64))),(eB r.2.2)]) []:=by
 refine zf Tryz.func119 Tryz.ntmps119 ?_
 unfold aAa at hr
 refine zz ?_
 refine AB.scope<|aOl ?_
 obtain⟨q,h_1,hr⟩:=aF hr
 obtain⟨q_1,h_2,hr⟩:=aF hr
 obtain⟨x16,h_3,hr⟩:=aF hr
 refine zz ?_
 refine xp (zK h_3) ?_
 refine zz ?_
 refine zk hr rfl (fun h4 hr=> ?_) (fun h4 hr=> ?_)
 ·refine zz ?_
  refine xw (v:=(.agg ([0,0,0,0].map (eI .u64)))) (dD rfl (jO bK kM rfl))<|xw (v:=(.agg ([0,0,0,0].map (eI .u64)))) (dD rfl (jO bK kM rfl)) ?_
  refine zz ?_
  obtain rfl:=sj hr
  exact zS Tryz.results119 cJ cJ cJ (oD [])
 refine zz ?_
 refine xw (v:=(.agg ([0,0,0,0].map (eI .u64)))) (dD rfl (jO bK kM rfl)) ?_
 refine zz ?_
 refine aOl<|AB.label ?_
 refine zz ?_
 refine aOn fun K1 hK1 hG1=> ?_
 have J1: ∀(l0 l1:List Int),tX N l0 l1=some r→K1 (aE 72 [(6,(.ptr 0 0)),(7,(.ptr 1 0))]) [some ⟨51,l0.map (eI .u64)⟩,some ⟨51,l1.map (eI .u64)⟩]:=by
  intro l0 l1 hr
  unfold tX at hr
  refine hK1 _ _<|aOl ?_
  obtain⟨q_2,h_5,hr⟩:=aF hr
  obtain⟨q_3,h_6,hr⟩:=aF hr
  refine aO3 (eN []) (eN []) mixed<|aOh (n:=4) (i:=0) (by decide +kernel) rfl (gS (v:=(.agg (l0.map (eI .u64)))) (sv (eU rfl (tB (E:=(eI .u64)) (l:=l0) bK rfl rfl (aO h_5))))) ?_
  refine aOW (m:=2) (L:=lst [0,1,2] 5) (s1:=aE 72 [(6,(.ptr 0 0)),(7,(.ptr 1 0)),(71,(.agg (l1.map (eI .u64))))]) (h1:=[some ⟨51,l0.map (eI .u64)⟩,some ⟨51,l1.map (eI .u64)⟩]) ?_ (fun J=> ?_)
  ·refine aOh (n:=1) (i:=3) (by decide +kernel) rfl (gN (h':=[some ⟨51,l0.map (eI .u64)⟩,some ⟨51,l1.map (eI .u64)⟩]) (sv (cV rfl rfl (mQ (E:=(eI .u64)) (l:=l1) bK rfl rfl (fun _=>rfl) (aO h_6) (aO h_6) rfl))))<|aOh (n:=0) (i:=4) (by decide +kernel) rfl (gS (v:=(eB true)) (sv (kH rfl)))<|aOH (by decide +kernel) ?_
   refine zz ?_
   obtain rfl:=sj hr
   exact zS Tryz.results119 cJ cJ cJ (oD [])
  refine aOx (n:=3) [1,2] (by decide +kernel) (by decide) ?_
  refine(aOq rfl (gS (v:=(.agg (l1.map (eI .u64)))) (sv (eU rfl (tB (E:=(eI .u64)) (l:=l1) bK rfl rfl (aO h_6))))) ?_ (aOq rfl (gN (h':=[some ⟨51,l0.map (eI .u64)⟩,some ⟨51,l1.map (eI .u64)⟩]) (sv (cV rfl rfl (mQ (E:=(eI .u64)) (l:=l0) bK rfl rfl (fun _=>rfl) (aO h_5) (aO h_5) rfl)))) ?_ aOB))
  ·refine aOh (n:=2) (i:=2) (by decide +kernel) rfl (gN (h':=[some ⟨51,l0.map (eI .u64)⟩,some ⟨51,l1.map (eI .u64)⟩]) (sv (cV rfl rfl (mQ (E:=(eI .u64)) (l:=l0) bK rfl rfl (fun _=>rfl) (aO h_5) (aO h_5) rfl)))) ?_
   exact aOw (by decide +kernel) (by decide +kernel) (zG [0,1]) J
  refine aOh (n:=2) (i:=1) (by decide +kernel) rfl (gS (v:=(.agg (l1.map (eI .u64)))) (sv (eU rfl (tB (E:=(eI .u64)) (l:=l1) bK rfl rfl (aO h_6))))) ?_
  exact aOw (by decide +kernel) (by decide +kernel) (zG [0,1]) J
 obtain⟨bI,hL2,hr⟩:=aF hr
 refine zz ?_
 refine aOk<|aOt (fun m s h=> ∃(dL:Int)(aI l2 l3:List Int),kX N b m dL aI l2 l3=some bI∧Ghost 0 s h (aE 72 [(4,(.ptr 0 0)),(5,(.ptr 1 0)),(6,(.ptr 2 0)),(7,(.ptr 3 0)),(9,(.ptr 4 0)),(10,(eI .i64 dL))]) [some ⟨51,aI.map (eI .u64)⟩,some ⟨51,b.map (eI .u64)⟩,some ⟨51,l2.map (eI .u64)⟩,some ⟨51,l3.map (eI .u64)⟩,some ⟨51,[0,0,0,0].map (eI .u64)⟩]) (n:=N) ⟨3,lo,aOg 4 0,hi,hL2,(zG [1,2,3,4,5])⟩ (by rintro s h ⟨_,_,_,_,h0,_⟩;simp[kX]at h0) ?_
 rintro m2 s h ⟨dL,aI,l2,l3,hr2,hg⟩
 refine aOr hg ?_
 clear hg hL2
 rw[kX]at hr2
 refine aOl ?_
 refine zz ?_
 refine zk hr2 rfl (fun h7 hr2=> ?_) (fun h7 hr2=> ?_)
 ·refine zz ?_
  refine aOn fun K3 hK3 hG3=> ?_
  have J3: ∀(bC j5 pA:List Int),tK N b dL (kX N b m2) bC j5 pA=some bI→K3 (aE 72 [(4,(.ptr 0 0)),(5,(.ptr 1 0)),(6,(.ptr 2 0)),(7,(.ptr 3 0)),(9,(.ptr 4 0)),(10,(eI .i64 dL))]) [some ⟨51,bC.map (eI .u64)⟩,some ⟨51,b.map (eI .u64)⟩,some ⟨51,j5.map (eI .u64)⟩,some ⟨51,pA.map (eI .u64)⟩,some ⟨51,[0,0,0,0].map (eI .u64)⟩]:=by
   intro bC j5 pA hr2
   unfold tK at hr2
   refine hK3 _ _ ?_
   refine zz ?_
   exact⟨aOi.wrap (dL-1),bC,j5,pA,hr2,(zG [0,1,2,3,4])⟩
  refine aOk ?_
  obtain⟨res4,hL4,hr2⟩:=aF hr2
  refine zz ?_
  refine aOk<|aOt (fun m s h=> ∃(bit:Int)(bO iE d4:List Int),gB N b dL m bit bO iE d4=some res4∧Ghost 0 s h (aE 72 [(4,(.ptr 0 0)),(5,(.ptr 1 0)),(6,(.ptr 2 0)),(7,(.ptr 3 0)),(9,(.ptr 4 0)),(10,(eI .i64 dL)),(11,(eI .i64 bit))]) [some ⟨51,bO.map (eI .u64)⟩,some ⟨51,b.map (eI .u64)⟩,some ⟨51,iE.map (eI .u64)⟩,some ⟨51,d4.map (eI .u64)⟩,some ⟨51,[0,0,0,0].map (eI .u64)⟩]) (n:=N) ⟨63,aI,l2,l3,hL4,(zG [0,1,2,3,4])⟩ (by rintro s h ⟨_,_,_,_,h0,_⟩;simp[gB]at h0) ?_
  rintro m4 s h ⟨bit,bO,iE,d4,hr4,hg⟩
  refine aOr hg ?_
  clear hg hL4
  rw[gB]at hr4
  refine aOl ?_
  refine zz ?_
  refine zk hr4 rfl (fun h8 hr4=> ?_) (fun h8 hr4=> ?_)
  ·refine zz ?_
   refine aOn fun K5 hK5 hG5=> ?_
   have J5: ∀(aA7 aBp aBe:List Int),pY N b dL bit (gB N b dL m4) aA7 aBp aBe=some res4→K5 (aE 72 [(4,(.ptr 0 0)),(5,(.ptr 1 0)),(6,(.ptr 2 0)),(7,(.ptr 3 0)),(9,(.ptr 4 0)),(10,(eI .i64 dL)),(11,(eI .i64 bit))]) [some ⟨51,aA7.map (eI .u64)⟩,some ⟨51,b.map (eI .u64)⟩,some ⟨51,aBp.map (eI .u64)⟩,some ⟨51,aBe.map (eI .u64)⟩,some ⟨51,[0,0,0,0].map (eI .u64)⟩]:=by
    intro aA7 aBp aBe hr4
    unfold pY at hr4
    refine hK5 _ _ ?_
    refine zz ?_
    exact⟨aOi.wrap (bit-1),aA7,aBp,aBe,hr4,(zG [0,1,2,3,4])⟩
   refine aOk<|aOl ?_
   refine aOn fun K6 hK6 hG6=> ?_
   have J6: ∀(x37:Bool),pZ N b dL bit bO iE d4 (gB N b dL m4) x37=some res4→K6 (aE 72 [(4,(.ptr 0 0)),(5,(.ptr 1 0)),(6,(.ptr 2 0)),(7,(.ptr 3 0)),(9,(.ptr 4 0)),(10,(eI .i64 dL)),(11,(eI .i64 bit)),(37,(eB x37))]) [some ⟨51,bO.map (eI .u64)⟩,some ⟨51,b.map (eI .u64)⟩,some ⟨51,iE.map (eI .u64)⟩,some ⟨51,d4.map (eI .u64)⟩,some ⟨51,[0,0,0,0].map (eI .u64)⟩]:=by
    intro x37 hr4
    unfold pZ at hr4
    refine hK6 _ _ ?_
    refine zk hr4 rfl (fun h9 hr4=> ?_) (fun h9 hr4=> ?_)
    ·refine zz ?_
     obtain rfl:=sj hr4
     obtain rfl:=sj hr2
     refine zz ?_
     exact hG1 _ _ _ _ (zG [2,3]) (J1 iE d4 hr)
    obtain⟨q_4,h_10,hr4⟩:=aF hr4
    obtain⟨x40,h_11,hr4⟩:=aF hr4
    obtain⟨q_5,h_12,hr4⟩:=aF hr4
    refine zz ?_
    refine xp (uI h_11) ?_
    obtain⟨q_6,h_13,hr4⟩:=aF hr4
    obtain⟨x46,h_14,hr4⟩:=aF hr4
    obtain⟨q_7,h_15,hr4⟩:=aF hr4
    refine zz ?_
    refine xp (uI h_14) ?_
    refine zz ?_
    refine aOn fun K7 hK7 hG7=> ?_
    have J7: ∀(x56:Bool),pW N b dL bit iE x40 x46 (gB N b dL m4) x56=some res4→K7 (aE 72 [(4,(.ptr 0 0)),(5,(.ptr 1 0)),(6,(.ptr 2 0)),(7,(.ptr 3 0)),(9,(.ptr 4 0)),(10,(eI .i64 dL)),(11,(eI .i64 bit)),(56,(eB x56))]) [some ⟨51,x40.1.map (eI .u64)⟩,some ⟨51,b.map (eI .u64)⟩,some ⟨51,iE.map (eI .u64)⟩,some ⟨51,x46.1.map (eI .u64)⟩,some ⟨51,[0,0,0,0].map (eI .u64)⟩]:=by
     intro x56 hr4
     unfold pW at hr4
     refine hK7 _ _ ?_
     refine zk hr4 rfl (fun h16 hr4=> ?_) (fun h16 hr4=> ?_)
     ·obtain⟨x60,h_17,hr4⟩:=aF hr4
      obtain⟨q_8,h_18,hr4⟩:=aF hr4
      refine zz ?_
      refine xp (aDQ h_17) ?_
      obtain⟨x64,h_19,hr4⟩:=aF hr4
      obtain⟨x67,h_20,hr4⟩:=aF hr4
      refine zz ?_
      refine aOP mixed [] [] [[0,1,2,3,4,5,6,7]] ?_
      refine zz ?_
      exact hG5 _ _ _ _ (zG [0,1,2,3,4]) (J5 x40.1 (iE.set (aOz dL) (bits .or .u64 x64 x67)) x60.1 hr4)
     refine zz ?_
     exact hG5 _ _ _ _ (zG [0,1,2,3,4]) (J5 x40.1 iE x46.1 hr4)
    rcases aOj (x46.2 != 0)with h21|h21
    ·replace hr4:=dI hr4 h21
     refine xr ?_
     refine zz ?_
     exact hG7 _ _ _ _ (zG [0,1,2,3,4]) (J7 true hr4)
    replace hr4:=dE hr4 h21
    obtain⟨x54,h_22,hr4⟩:=aF hr4
    refine xr ?_
    refine zz ?_
    refine xCg (v:=(eI .i64 x54)) (h':=[some ⟨51,x40.1.map (eI .u64)⟩,some ⟨51,b.map (eI .u64)⟩,some ⟨51,iE.map (eI .u64)⟩,some ⟨51,x46.1.map (eI .u64)⟩,some ⟨51,[0,0,0,0].map (eI .u64)⟩]) rfl rfl h21 rfl (Vm.Fn.pure (zK h_22) zR rfl) ?_
    refine zz ?_
    exact hG7 _ _ _ _ (zG [0,1,2,3,4]) (J7 (decide (0≤x54)) hr4)
   obtain⟨q_9,h_23,hr4⟩:=aF hr4
   rcases aOj (d4 == [0,0,0,0])with h24|h24
   ·replace hr4:=dI hr4 h24
    obtain⟨aN4,h_25,hr4⟩:=aF hr4
    refine xr ?_
    refine zz ?_
    exact hG6 _ _ _ _ (zG [0,1,2,3,4]) (J6 (bO == [0,0,0,0]) hr4)
   replace hr4:=dE hr4 h24
   refine xr ?_
   refine zz ?_
   exact hG6 _ _ _ _ (zG [0,1,2,3,4]) (J6 false hr4)
  refine zz ?_
  obtain rfl:=sj hr4
  refine zz ?_
  exact hG3 _ _ _ _ (zG [0,1,2,3,4]) (J3 bO iE d4 hr2)
 refine zz ?_
 obtain rfl:=sj hr2
 refine zz ?_
 exact hG1 _ _ _ _ (zG [2,3]) (J1 l2 l3 hr)
theorem aDE {N:Nat}{va:List Int}{r:ByteArray}(hr:xW N va=some r):
  Vm.Fn Tryz.prog 71 [] [(.agg (va.map (eI .u64)))] (eS r) []:=by
 refine zf Tryz.func71 Tryz.ntmps71 ?_
 unfold xW at hr
 refine zz ?_
 refine aOl ?_
 obtain⟨q,h_1,hr⟩:=aF hr
 refine zz ?_
 refine xw (v:=(.agg ([0,0,0,0].map (eI .u64)))) (dD rfl (jO bK kM rfl)) ?_
 refine zz ?_
 refine zk hr rfl (fun h2 hr=> ?_) (fun h2 hr=> ?_)
 ·refine zz ?_
  obtain rfl:=sj hr
  exact dZ Tryz.results71 []
 refine zz ?_
 refine aOn fun K1 hK1 hG1=> ?_
 have J1: ∀(l0:List Int),sJ N l0=some r→K1 (aE 53 [(3,(.sl 0 0 l0.length 1 false))]) [some ⟨5,l0.map (eI .u8)⟩]:=by
  intro l0 hr
  unfold sJ at hr
  refine hK1 _ _ ?_
  obtain⟨x34,h_3,hr⟩:=aF hr
  refine zz ?_
  refine xw (v:=(.sl 1 0 x34.length 1 false)) (h':=[some ⟨5,l0.map (eI .u8)⟩,some ⟨5,x34.map (eI .u8)⟩]) (aJM rfl rfl (mkS (E:=(eI .u8)) (y:=0) bJ cG ⟨zl,rfl,rfl⟩ rfl rfl rfl h_3 rfl rfl)) ?_
  refine zz ?_
  refine aOn fun K2 hK2 hG2=> ?_
  have J2: ∀(aI:List Int),rT N aI=some r→K2 (aE 53 [(7,(.sl 0 0 aI.length 1 false))]) [some ⟨5,aI.map (eI .u8)⟩]:=by
   intro aI hr
   unfold rT at hr
   refine hK2 _ _ ?_
   refine zz ?_
   refine xw (v:=(eS (mO aI))) (xJ rfl (aCj bJ eT cG (k9 rfl rfl))) ?_
   refine zz ?_
   obtain rfl:=sj hr
   exact dZ Tryz.results71 []
  obtain⟨mW,hL3,hr⟩:=aF hr
  refine zz ?_
  refine aOk<|aOt (fun m s h=> ∃(x37:Int)(bC:List Int),l6 N l0 m x37 bC=some mW∧Ghost 0 s h (aE 53 [(7,(.sl 0 0 bC.length 1 false)),(35,(.sl 1 0 l0.length 1 false)),(36,(eI .i64 (l0.length:Int))),(37,(eI .i64 x37))]) [some ⟨5,bC.map (eI .u8)⟩,some ⟨5,l0.map (eI .u8)⟩]) (n:=N) ⟨0,x34,hL3,(zG [1,0])⟩ (by rintro s h ⟨_,_,h0,_⟩;simp[l6]at h0) ?_
  rintro m3 s h ⟨x37,bC,hr3,hg⟩
  refine aOr hg ?_
  clear hg hL3
  rw[l6]at hr3
  refine zz ?_
  refine aOl ?_
  refine zk hr3 rfl (fun h4 hr3=> ?_) (fun h4 hr3=> ?_)
  ·refine zz ?_
   refine aOl<|aOk ?_
   obtain⟨x40,h_5,hr3⟩:=aF hr3
   obtain⟨x49,h_6,hr3⟩:=aF hr3
   refine zz ?_
   exact⟨aOi.wrap (x37+1),bC.set (aOz (aOi.wrap ((aOi.wrap ((bC.length:Int)-1))-x37))) x40,hr3,(oD [0,1])⟩
  refine zz ?_
  obtain rfl:=sj hr3
  refine zz ?_
  exact hG2 _ _ _ _ (zG [0]) (J2 bC hr)
 obtain⟨res4,hL4,hr⟩:=aF hr
 refine aOk<|aOt (fun m s h=> ∃(bO l1:List Int),lO N m bO l1=some res4∧Ghost 0 s h (aE 53 [(1,(.ptr 0 0)),(3,(.sl 1 0 l1.length 1 false))]) [some ⟨51,bO.map (eI .u64)⟩,some ⟨5,l1.map (eI .u8)⟩]) (n:=N) ⟨va,[],hL4,(zW 5 [0,1])⟩ (by rintro s h ⟨_,_,h0,_⟩;simp[lO]at h0) ?_
 rintro m4 s h ⟨bO,l1,hr4,hg⟩
 refine aOr hg ?_
 clear hg hL4
 rw[lO]at hr4
 refine aOl ?_
 obtain⟨q_1,h_7,hr4⟩:=aF hr4
 refine zz ?_
 refine xw (v:=(.agg ([0,0,0,0].map (eI .u64)))) (dD rfl (jO bK kM rfl)) ?_
 refine zz ?_
 refine zk hr4 rfl (fun h8 hr4=> ?_) (fun h8 hr4=> ?_)
 ·refine zz ?_
  refine aOk<|aOl ?_
  obtain⟨x19,h_9,hr4⟩:=aF hr4
  obtain⟨x20,h_11,hr4⟩:=aF hr4
  obtain⟨q_2,h_13,hr4⟩:=aF hr4
  obtain⟨q_3,h_14,hr4⟩:=aF hr4
  refine aO3 (eN [119,120]) (eN []) mixed<|aOh (n:=12) (i:=0) (by decide +kernel) rfl (gS (v:=(.agg ([0,0,0,0].map (eI .u64)))) (sv (dD rfl (jO bK kM rfl))))<|aOh (n:=11) (i:=1) (by decide +kernel) rfl (gS (v:=(.agg (bO.map (eI .u64)))) (sv (eU rfl (tB (E:=(eI .u64)) (l:=bO) bK rfl rfl (aO h_7)))))<|aOh (n:=10) (i:=2) (by decide +kernel) rfl (gU (fun _=>(Vm.Fn.pure (aAh h_9) rfl zR)) rfl (sv (nK rfl iS)))<|aOh (n:=9) (i:=3) (by decide +kernel) rfl (gU (fun _=>(Vm.Fn.pure (aDO h_11) zR zR)) rfl (sv (nK rfl iS))) ?_
  refine aOh (n:=8) (i:=4) (by decide +kernel) rfl (gS (v:=(.tup [(.agg (x20.1.map (eI .u64))),(.agg (x20.2.1.map (eI .u64))),(eB x20.2.2)])) (sv (kP rfl)))<|aOh (n:=7) (i:=5) (by decide +kernel) rfl (gS (v:=(.agg (x20.1.map (eI .u64)))) (sv (p7 rfl rfl)))<|aOh (n:=6) (i:=6) (by decide +kernel) rfl (gS (v:=(.agg (x20.2.1.map (eI .u64)))) (sv (p7 rfl rfl)))<|aOh (n:=5) (i:=7) (by decide +kernel) rfl (gS (v:=(eB x20.2.2)) (sv (p7 rfl rfl))) ?_
  refine aOW (m:=1) (L:=lst [0,1,2,3,4,5,6,7,8,9,10,11] 13) (s1:=aE 53 [(1,(.ptr 0 0)),(3,(.sl 1 0 l1.length 1 false)),(4,(.ptr 2 0)),(5,(.ptr 3 0)),(23,(eB x20.2.2))]) (h1:=[some ⟨51,bO.map (eI .u64)⟩,some ⟨5,l1.map (eI .u8)⟩,some ⟨51,x20.1.map (eI .u64)⟩,some ⟨51,x20.2.1.map (eI .u64)⟩]) ?_ (fun J=> ?_)
  ·refine aOh (n:=0) (i:=12) (by decide +kernel) rfl (gS (v:=(eB x20.2.2)) (sv (kH rfl)))<|aOH (by decide +kernel) ?_
   obtain⟨x25,h_15,hr4⟩:=aF hr4
   obtain⟨x30,h_16,hr4⟩:=aF hr4
   refine zz ?_
   exact⟨x20.1,x30,hr4,(zG [0,5])⟩
  refine aOx (n:=4) [8,9] (by decide +kernel) (by decide) ?_
  refine(aOq rfl (gS (v:=(.ptr 2 0)) (h':=[some ⟨51,bO.map (eI .u64)⟩,some ⟨5,l1.map (eI .u8)⟩,some ⟨51,(aOg 4 0).map (eI .u64)⟩]) (sv (gQ bK rfl rfl rfl))) ?_ (aOq rfl (gS (v:=(.ptr 2 0)) (h':=[some ⟨51,bO.map (eI .u64)⟩,some ⟨5,l1.map (eI .u8)⟩,some ⟨51,(aOg 4 0).map (eI .u64)⟩]) (sv (gQ bK rfl rfl rfl))) ?_ aOB))
  ·refine aOh (n:=3) (i:=9) (by decide +kernel) rfl (gS (v:=(.ptr 3 0)) (h':=[some ⟨51,bO.map (eI .u64)⟩,some ⟨5,l1.map (eI .u8)⟩,some ⟨51,(aOg 4 0).map (eI .u64)⟩,some ⟨51,(aOg 4 0).map (eI .u64)⟩]) (sv (gQ bK rfl rfl rfl)))<|aOh (n:=2) (i:=10) (by decide +kernel) rfl (gN (h':=[some ⟨51,bO.map (eI .u64)⟩,some ⟨5,l1.map (eI .u8)⟩,some ⟨51,x20.1.map (eI .u64)⟩,some ⟨51,(aOg 4 0).map (eI .u64)⟩]) (sv (cV rfl rfl (mQ (E:=(eI .u64)) (l:=aOg 4 0) bK rfl rfl (fun _=>rfl) rfl (aO h_13) rfl))))<|aOh (n:=1) (i:=11) (by decide +kernel) rfl (gN (h':=[some ⟨51,bO.map (eI .u64)⟩,some ⟨5,l1.map (eI .u8)⟩,some ⟨51,x20.1.map (eI .u64)⟩,some ⟨51,x20.2.1.map (eI .u64)⟩]) (sv (cV rfl rfl (mQ (E:=(eI .u64)) (l:=aOg 4 0) bK rfl rfl (fun _=>rfl) rfl (aO h_14) rfl)))) ?_
   exact aOw (by decide +kernel) (by decide +kernel) (zG [0,1,2,3]) J
  refine aOh (n:=3) (i:=8) (by decide +kernel) rfl (gS (v:=(.ptr 3 0)) (h':=[some ⟨51,bO.map (eI .u64)⟩,some ⟨5,l1.map (eI .u8)⟩,some ⟨51,(aOg 4 0).map (eI .u64)⟩,some ⟨51,(aOg 4 0).map (eI .u64)⟩]) (sv (gQ bK rfl rfl rfl)))<|aOh (n:=2) (i:=10) (by decide +kernel) rfl (gN (h':=[some ⟨51,bO.map (eI .u64)⟩,some ⟨5,l1.map (eI .u8)⟩,some ⟨51,(aOg 4 0).map (eI .u64)⟩,some ⟨51,x20.1.map (eI .u64)⟩]) (sv (cV rfl rfl (mQ (E:=(eI .u64)) (l:=aOg 4 0) bK rfl rfl (fun _=>rfl) rfl (aO h_13) rfl))))<|aOh (n:=1) (i:=11) (by decide +kernel) rfl (gN (h':=[some ⟨51,bO.map (eI .u64)⟩,some ⟨5,l1.map (eI .u8)⟩,some ⟨51,x20.2.1.map (eI .u64)⟩,some ⟨51,x20.1.map (eI .u64)⟩]) (sv (cV rfl rfl (mQ (E:=(eI .u64)) (l:=aOg 4 0) bK rfl rfl (fun _=>rfl) rfl (aO h_14) rfl)))) ?_
  exact aOw (by decide +kernel) (by decide +kernel) (zG [0,1,3,2]) J
 refine zz ?_
 obtain rfl:=sj hr4
 refine zz ?_
 exact hG1 _ _ _ _ (zG [1]) (J1 l1 hr)
theorem nL {N:Nat}{vs d7:ByteArray}{r:Bool}(hr:dR N vs d7=some r):
  Vm.Fn Tryz.prog 231 [] [(eS vs),(eS d7)] (eB r) []:=by
 refine zf Tryz.func231 Tryz.ntmps231 ?_
 unfold dR at hr
 refine zz ?_
 refine aOn fun K1 hK1 hG1=> ?_
 have J1: ∀(x4:Bool),cE N x4=some r→K1 (aE 18 [(4,(eB x4))]) []:=by
  intro x4 hr
  unfold cE at hr
  refine hK1 _ _ ?_
  refine zz ?_
  obtain rfl:=sj hr
  exact dZ Tryz.results231 []
 rcases aOj (decide ((d7.size:Int)≤(vs.size:Int)))with h1|h1
 ·replace hr:=dI hr h1
  obtain⟨x14,h_2,hr⟩:=aF hr
  refine xr ?_
  refine zz ?_
  refine vW (v:=(eS x14)) rfl rfl h1 (cK rfl rfl rfl (slT eT rfl rfl h_2)) ?_
  refine zz ?_
  refine vW rfl rfl h1 (gC rfl rfl (aDm ..)) ?_
  refine zz ?_
  exact hG1 _ _ _ _ (zG []) (J1 (x14.toList == d7.toList) hr)
 replace hr:=dE hr h1
 refine xr ?_
 refine zz ?_
 exact hG1 _ _ _ _ (zG []) (J1 false hr)
theorem nN {N:Nat}{vs d7:ByteArray}{r:ByteArray×Bool}(hr:dP N vs d7=some r):
  Vm.Fn Tryz.prog 127 [] [(eS vs),(eS d7)] (.tup [(eS r.1),(eB r.2)]) []:=by
 refine zf Tryz.func127 Tryz.ntmps127 ?_
 unfold dP at hr
 refine zz ?_
 refine aOl ?_
 obtain⟨x8,h_1,hr⟩:=aF hr
 refine zz ?_
 refine xp (nL h_1) ?_
 refine zz ?_
 refine zk hr rfl (fun h2 hr=> ?_) (fun h2 hr=> ?_)
 ·refine zz ?_
  obtain rfl:=sj hr
  exact oK Tryz.results127 []
 obtain⟨x14,h_3,hr⟩:=aF hr
 refine zz ?_
 refine xw (v:=(eS x14)) (cK rfl rfl rfl (slT eT rfl rfl h_3)) ?_
 refine zz ?_
 obtain rfl:=sj hr
 exact oK Tryz.results127 []
theorem vH {N:Nat}{vs d7:ByteArray}{r:ByteArray×Bool}(hr:iB N vs d7=some r):
  Vm.Fn Tryz.prog 77 [] [(eS vs),(eS d7)] (.tup [(eS r.1),(eB r.2)]) []:=by
 refine zf Tryz.func77 Tryz.ntmps77 ?_
 unfold iB at hr
 obtain⟨x8,h_1,hr⟩:=aF hr
 refine zz ?_
 refine xp (nN h_1) ?_
 refine zz ?_
 obtain rfl:=sj hr
 exact oK Tryz.results77 []
theorem zA {N:Nat}{vs:ByteArray}{r:Int×Bool}(hr:b7 N vs=some r):
  Vm.Fn Tryz.prog 44 [] [(eS vs)] (.tup [(eI .i64 r.1),(eB r.2)]) []:=by
 refine zf Tryz.func44 Tryz.ntmps44 ?_
 unfold b7 at hr
 obtain⟨x11,h_1,hr⟩:=aF hr
 refine zz ?_
 refine xp (vH h_1) ?_
 refine zz ?_
 refine aOl ?_
 refine aOn fun K1 hK1 hG1=> ?_
 have J1: ∀(x34:Bool),cA N x11 x34=some r→K1 (aE 60 [(4,(eS x11.1)),(5,(eB x11.2)),(34,(eB x34))]) []:=by
  intro x34 hr
  unfold cA at hr
  refine hK1 _ _ ?_
  refine zk hr rfl (fun h2 hr=> ?_) (fun h2 hr=> ?_)
  ·refine zz ?_
   obtain rfl:=sj hr
   exact oK Tryz.results44 []
  refine zz ?_
  refine aOn fun K2 hK2 hG2=> ?_
  have J2: ∀(vn:Int),jW N x11 vn=some r→K2 (aE 60 [(5,(eB x11.2)),(6,(eI .i64 vn))]) []:=by
   intro vn hr
   unfold jW at hr
   refine hK2 _ _ ?_
   refine aOn fun K3 hK3 hG3=> ?_
   have J3: ∀(fR:Int),g7 N fR=some r→K3 (aE 60 [(6,(eI .i64 fR))]) []:=by
    intro fR hr
    unfold g7 at hr
    refine hK3 _ _ ?_
    refine zz ?_
    obtain rfl:=sj hr
    exact oK Tryz.results44 []
   refine zz ?_
   refine zk hr rfl (fun h3 hr=> ?_) (fun h3 hr=> ?_)
   ·refine zz ?_
    refine xw (yB rfl (aFA ..)) ?_
    refine zz ?_
    exact hG3 _ _ _ _ (zG []) (J3 (aOi.wrap (0-vn)) hr)
   refine zz ?_
   exact hG3 _ _ _ _ (zG []) (J3 vn hr)
  obtain⟨res4,hL4,hr⟩:=aF hr
  refine zz ?_
  refine aOk<|aOt (fun m s h=> ∃(pD x37:Int),c6 N x11 m pD x37=some res4∧Ghost 0 s h (aE 60 [(4,(eS x11.1)),(5,(eB x11.2)),(6,(eI .i64 pD)),(36,(eI .i64 (x11.1.size:Int))),(37,(eI .i64 x37))]) []) (n:=N) ⟨0,0,hL4,(zG [])⟩ (by rintro s h ⟨_,_,h0,_⟩;simp[c6]at h0) ?_
  rintro m4 s h ⟨pD,x37,hr4,hg⟩
  refine aOr hg ?_
  clear hg hL4
  rw[c6]at hr4
  refine zz ?_
  refine aOl ?_
  refine zk hr4 rfl (fun h4 hr4=> ?_) (fun h4 hr4=> ?_)
  ·refine zz ?_
   refine aOl<|aOk ?_
   obtain⟨x42,h_5,hr4⟩:=aF hr4
   refine zz ?_
   refine xw (v:=(eI .u8 x42)) (mV rfl rfl (sM eT h_5)) ?_
   refine zz ?_
   refine aOl ?_
   refine aOn fun K5 hK5 hG5=> ?_
   have J5: ∀(x48:Bool),fF N x11 pD x37 x42 (c6 N x11 m4) x48=some res4→K5 (aE 60 [(4,(eS x11.1)),(5,(eB x11.2)),(6,(eI .i64 pD)),(8,(eI .u8 x42)),(36,(eI .i64 (x11.1.size:Int))),(37,(eI .i64 x37)),(48,(eB x48))]) []:=by
    intro x48 hr4
    unfold fF at hr4
    refine hK5 _ _ ?_
    refine zk hr4 rfl (fun h6 hr4=> ?_) (fun h6 hr4=> ?_)
    ·refine zz ?_
     obtain rfl:=sj hr4
     obtain rfl:=sj hr
     exact oK Tryz.results44 []
    refine zz ?_
    exact⟨aOi.wrap ((aOi.wrap (10*pD))+(aOi.wrap (aOR.wrap (x42-48)))),aOi.wrap (x37+1),hr4,(zG [])⟩
   rcases aOj (decide (x42<48))with h7|h7
   ·replace hr4:=dI hr4 h7
    refine xr ?_
    refine zz ?_
    exact hG5 _ _ _ _ (zG []) (J5 true hr4)
   replace hr4:=dE hr4 h7
   refine xr ?_
   refine zz ?_
   exact hG5 _ _ _ _ (zG []) (J5 (decide (57<x42)) hr4)
  refine zz ?_
  obtain rfl:=sj hr4
  refine zz ?_
  exact hG2 _ _ _ _ (zG []) (J2 pD hr)
 rcases aOj (decide ((x11.1.size:Int)<1))with h8|h8
 ·replace hr:=dI hr h8
  refine xr ?_
  refine zz ?_
  refine xX rfl<|xX rfl<|xX rfl<|xX rfl ?_
  refine zz ?_
  refine xX rfl ?_
  refine zz ?_
  exact hG1 _ _ _ _ (zG []) (J1 true hr)
 replace hr:=dE hr h8
 rcases aOj (decide (9<(x11.1.size:Int)))with h9|h9
 ·replace hr:=dI hr h9
  refine xr ?_
  refine zz ?_
  exact hG1 _ _ _ _ (zG []) (J1 true hr)
 replace hr:=dE hr h9
 obtain⟨x24,h_10,hr⟩:=aF hr
 rcases aOj (x24 == 48)with h11|h11
 ·replace hr:=dI hr h11
  rcases aOj x11.2 with h12|h12
  ·replace hr:=dI hr h12
   refine xr ?_
   refine zz ?_
   refine vW (v:=(eI .u8 x24)) rfl rfl h9 (mV rfl rfl (sM eT h_10)) ?_
   refine zz ?_
   exact hG1 _ _ _ _ (zG []) (J1 true hr)
  replace hr:=dE hr h12
  refine xr ?_
  refine zz ?_
  refine vW (v:=(eI .u8 x24)) rfl rfl h9 (mV rfl rfl (sM eT h_10)) ?_
  refine zz ?_
  exact hG1 _ _ _ _ (zG []) (J1 (decide (1<(x11.1.size:Int))) hr)
 replace hr:=dE hr h11
 refine xr ?_
 refine zz ?_
 refine vW (v:=(eI .u8 x24)) rfl rfl h9 (mV rfl rfl (sM eT h_10)) ?_
 refine zz ?_
 exact hG1 _ _ _ _ (zG []) (J1 false hr)
theorem nD {N:Nat}{v vn r:Int}(hr:fA N v vn=some r):
  Vm.Fn Tryz.prog 12 [] [(eI .i64 v),(eI .i64 vn)] (eI .i64 r) []:=by
 refine zf Tryz.func12 Tryz.ntmps12 ?_
 unfold fA at hr
 obtain⟨x8,h_1,hr⟩:=aF hr
 refine zz ?_
 refine aOn fun K1 hK1 hG1=> ?_
 have J1: ∀(vr:Int),kY N vr=some r→K1 (aE 15 [(5,(eI .i64 vr))]) []:=by
  intro vr hr
  unfold kY at hr
  refine hK1 _ _ ?_
  refine zz ?_
  obtain rfl:=sj hr
  exact dZ Tryz.results12 []
 refine zz ?_
 refine zk hr rfl (fun h2 hr=> ?_) (fun h2 hr=> ?_)
 ·refine zz ?_
  exact hG1 _ _ _ _ (zG []) (J1 (aOi.wrap (x8+vn)) hr)
 refine zz ?_
 exact hG1 _ _ _ _ (zG []) (J1 x8 hr)
theorem qH {N:Nat}{vs sep:ByteArray}{r:ByteArray×ByteArray×Bool}(hr:eY N vs sep=some r):
  Vm.Fn Tryz.prog 41 [] [(eS vs),(eS sep)] (.tup [(eS r.1),(eS r.2.1),(eB r.2.2)]) []:=by
 refine zf Tryz.func41 Tryz.ntmps41 ?_
 unfold eY at hr
 refine zz ?_
 refine aOl ?_
 obtain⟨x10,h_1,hr⟩:=aF hr
 refine zz ?_
 refine xp (vE h_1) ?_
 refine zz ?_
 refine zk hr rfl (fun h2 hr=> ?_) (fun h2 hr=> ?_)
 ·refine aOl ?_
  obtain⟨x15,h_3,hr⟩:=aF hr
  obtain⟨x21,h_4,hr⟩:=aF hr
  refine aOP mixed [] [] [[0,1,2,3,4,5,6,7,8,9,10,11]] ?_
  refine zz ?_
  refine xw (v:=(eS x15)) (cK rfl rfl rfl (slT eT rfl rfl h_3)) ?_
  refine zz ?_
  refine xw (v:=(eS x21)) (cK rfl rfl rfl (slT eT rfl rfl h_4)) ?_
  refine zz ?_
  obtain rfl:=sj hr
  exact zd3 Tryz.results41 []
 refine zz ?_
 obtain rfl:=sj hr
 exact zd3 Tryz.results41 []
theorem aBc {N:Nat}{vs sep:ByteArray}{r:ByteArray×ByteArray×Bool}(hr:kU N vs sep=some r):
  Vm.Fn Tryz.prog 21 [] [(eS vs),(eS sep)] (.tup [(eS r.1),(eS r.2.1),(eB r.2.2)]) []:=by
 refine zf Tryz.func21 Tryz.ntmps21 ?_
 unfold kU at hr
 obtain⟨x9,h_1,hr⟩:=aF hr
 refine zz ?_
 refine xp (qH h_1) ?_
 refine zz ?_
 obtain rfl:=sj hr
 exact zd3 Tryz.results21 []
theorem aAl {N:Nat}{aV:ByteArray}{r:(List ByteArray)}(hr:jC N aV=some r):
  Vm.Fn Tryz.prog 22 [] [(eS aV)] (.sl 0 0 r.length 1 false) [some ⟨9,r.map eS⟩]:=by
 refine zf Tryz.func22 Tryz.ntmps22 ?_
 unfold jC at hr
 refine zz ?_
 refine aOn fun K1 hK1 hG1=> ?_
 have J1: ∀(l0:List ByteArray),kL N l0=some r→K1 (aE 36 [(3,(.sl 0 0 l0.length 1 false))]) [some ⟨9,l0.map eS⟩]:=by
  intro l0 hr
  unfold kL at hr
  refine hK1 _ _ ?_
  refine zz ?_
  obtain rfl:=sj hr
  exact dZ Tryz.results22 [0]
 obtain⟨bI,hL2,hr⟩:=aF hr
 refine zz ?_
 refine aOk<|aOt (fun m s h=> ∃(vi:Int)(aI:List ByteArray),dH N aV m vi aI=some bI∧Ghost 0 s h (aE 36 [(0,(eS aV)),(3,(.sl 0 0 aI.length 1 false)),(4,(eI .i64 vi))]) [some ⟨9,aI.map eS⟩]) (n:=N) ⟨0,[],hL2,(zW 9 [0])⟩ (by rintro s h ⟨_,_,h0,_⟩;simp[dH]at h0) ?_
 rintro m2 s h ⟨vi,aI,hr2,hg⟩
 refine aOr hg ?_
 clear hg hL2
 rw[dH]at hr2
 refine aOl ?_
 refine zz ?_
 refine zk hr2 rfl (fun h1 hr2=> ?_) (fun h1 hr2=> ?_)
 ·refine zz ?_
  refine aOk ?_
  refine zz ?_
  refine aOn fun K3 hK3 hG3=> ?_
  have J3: ∀(k:Int),kG N aV vi aI (dH N aV m2) k=some bI→K3 (aE 36 [(0,(eS aV)),(3,(.sl 0 0 aI.length 1 false)),(4,(eI .i64 vi)),(5,(eI .i64 k))]) [some ⟨9,aI.map eS⟩]:=by
   intro k hr2
   unfold kG at hr2
   refine hK3 _ _ ?_
   refine aOn fun K4 hK4 hG4=> ?_
   have J4: ∀(bC:List ByteArray),fV N aV k (dH N aV m2) bC=some bI→K4 (aE 36 [(0,(eS aV)),(3,(.sl 0 0 bC.length 1 false)),(5,(eI .i64 k))]) [some ⟨9,bC.map eS⟩]:=by
    intro bC hr2
    unfold fV at hr2
    refine hK4 _ _ ?_
    refine zz ?_
    exact⟨aOi.wrap (k+1),bC,hr2,(zG [0])⟩
   refine zz ?_
   refine zk hr2 rfl (fun h2 hr2=> ?_) (fun h2 hr2=> ?_)
   ·obtain⟨x30,h_3,hr2⟩:=aF hr2
    obtain⟨x32,h_4,hr2⟩:=aF hr2
    refine zz ?_
    refine xw (v:=(eS x30)) (cK rfl rfl rfl (slT eT rfl rfl h_3)) ?_
    refine xw (v:=(.sl 1 0 1 1 false)) (h':=[some ⟨9,aI.map eS⟩,some ⟨9,[x30].map eS⟩]) (b8 rfl (jV (xs:=[x30].map eS) yH eT zl zl rfl rfl rfl rfl rfl rfl rfl)) ?_
    refine zz ?_
    exact hG4 _ _ _ _ (zG [2]) (J4 x32 hr2)
   refine zz ?_
   exact hG4 _ _ _ _ (zG [0]) (J4 aI hr2)
  obtain⟨res5,hL5,hr2⟩:=aF hr2
  refine aOk<|aOt (fun m s h=> ∃(k_1:Int),dK N aV vi aI m k_1=some res5∧Ghost 0 s h (aE 36 [(0,(eS aV)),(3,(.sl 0 0 aI.length 1 false)),(4,(eI .i64 vi)),(5,(eI .i64 k_1))]) [some ⟨9,aI.map eS⟩]) (n:=N) ⟨vi,hL5,(zG [0])⟩ (by rintro s h ⟨_,h0,_⟩;simp[dK]at h0) ?_
  rintro m5 s h ⟨k_1,hr5,hg⟩
  refine aOr hg ?_
  clear hg hL5
  rw[dK]at hr5
  refine aOl ?_
  refine aOn fun K6 hK6 hG6=> ?_
  have J6: ∀(x20:Bool),fZ N aV vi aI k_1 (dK N aV vi aI m5) x20=some res5→K6 (aE 36 [(0,(eS aV)),(3,(.sl 0 0 aI.length 1 false)),(4,(eI .i64 vi)),(5,(eI .i64 k_1)),(20,(eB x20))]) [some ⟨9,aI.map eS⟩]:=by
   intro x20 hr5
   unfold fZ at hr5
   refine hK6 _ _ ?_
   refine zk hr5 rfl (fun h5 hr5=> ?_) (fun h5 hr5=> ?_)
   ·refine zz ?_
    refine aOk ?_
    refine zz ?_
    exact⟨aOi.wrap (k_1+1),hr5,(zG [0])⟩
   refine zz ?_
   obtain rfl:=sj hr5
   refine zz ?_
   exact hG3 _ _ _ _ (zG [0]) (J3 k_1 hr2)
  rcases aOj (decide (k_1<(aV.size:Int)))with h6|h6
  ·replace hr5:=dI hr5 h6
   obtain⟨x18,h_7,hr5⟩:=aF hr5
   refine xr ?_
   refine zz ?_
   refine vW (v:=(eI .u8 x18)) rfl rfl h6 (mV rfl rfl (sM eT h_7)) ?_
   refine zz ?_
   exact hG6 _ _ _ _ (zG [0]) (J6 (x18 != 32) hr5)
  replace hr5:=dE hr5 h6
  refine xr ?_
  refine zz ?_
  exact hG6 _ _ _ _ (zG [0]) (J6 false hr5)
 refine zz ?_
 obtain rfl:=sj hr2
 refine zz ?_
 exact hG1 _ _ _ _ (zG [0]) (J1 aI hr)
theorem uM {N:Nat}{l:List ByteArray}{r:Int×Int×Int×Int×Bool}(hr:iK N l=some r):Vm.Fn Tryz.prog 23 [] [(.row none 1 (l.map eS))] (.tup [(.agg [(eI .i64 r.1),(eI .i64 r.2.1),(eI .i64 r.2.2.1),(eI .i64 r.2.2.2.1)]),(eB r.2.2.2.2)]) []:=aGg (fun h=>zA h) hr
theorem fS {N:Nat}{vs:ByteArray}{r:(List aC)×Int×Int}(hr:bP N vs=some r):
  Vm.Fn Tryz.prog 9 [] [(eS vs)] (.tup [(.sl 0 0 r.1.length 4 true),(eI .i64 r.2.1),(eI .i64 r.2.2)]) [some ⟨39,r.1.flatMap aJ⟩]:=by
 refine zf Tryz.func9 Tryz.ntmps9 ?_
 unfold bP at hr
 refine zz ?_
 refine aOl ?_
 refine zz ?_
 refine zk hr rfl (fun h1 hr=> ?_) (fun h1 hr=> ?_)
 ·refine zz ?_
  obtain rfl:=sj hr
  exact zS Tryz.results9 cJ cJ cJ (zW 39 [0])
 refine zz ?_
 refine aOn fun K1 hK1 hG1=> ?_
 have J1: ∀(aAT:Int)(l0:List aC),nX N aAT l0=some r→K1 (aE 57 [(5,(.sl 0 0 l0.length 4 true)),(6,(eI .i64 aAT))]) [some ⟨39,l0.flatMap aJ⟩]:=by
  intro aAT l0 hr
  unfold nX at hr
  refine hK1 _ _ ?_
  refine zz ?_
  obtain rfl:=sj hr
  exact zd3 Tryz.results9 [0]
 obtain⟨bI,hL2,hr⟩:=aF hr
 refine aOk<|aOt (fun m s h=> ∃(cM:ByteArray)(dV:Int)(aI:List aC),aT N m cM dV aI=some bI∧Ghost 0 s h (aE 57 [(0,(eS cM)),(5,(.sl 0 0 aI.length 4 true)),(6,(eI .i64 dV))]) [some ⟨39,aI.flatMap aJ⟩]) (n:=N) ⟨vs,0,[],hL2,(zW 39 [0])⟩ (by rintro s h ⟨_,_,_,h0,_⟩;simp[aT]at h0) ?_
 rintro m2 s h ⟨cM,dV,aI,hr2,hg⟩
 refine aOr hg ?_
 clear hg hL2
 rw[aT]at hr2
 refine aOl ?_
 refine zz ?_
 refine xw (v:=(eB (!(cM.toList == ByteArray.empty.toList)))) (gC rfl rfl (z6 ..)) ?_
 refine zz ?_
 refine zk hr2 rfl (fun h2 hr2=> ?_) (fun h2 hr2=> ?_)
 ·refine zz ?_
  refine aOk ?_
  obtain⟨x20,h_3,hr2⟩:=aF hr2
  refine zz ?_
  refine xp (aBc h_3) ?_
  refine zz ?_
  refine aOn fun K3 hK3 hG3=> ?_
  have J3: ∀(bC:List aC),dG N dV x20 (aT N m2) bC=some bI→K3 (aE 57 [(5,(.sl 0 0 bC.length 4 true)),(6,(eI .i64 dV)),(8,(eS x20.2.1))]) [some ⟨39,bC.flatMap aJ⟩]:=by
   intro bC hr2
   unfold dG at hr2
   refine hK3 _ _ ?_
   refine zz ?_
   exact⟨x20.2.1,aOi.wrap (dV+1),bC,hr2,(zG [0])⟩
  obtain⟨x25,h_4,hr2⟩:=aF hr2
  refine zz ?_
  refine zc (aAl h_4) [] ?_
  refine zz ?_
  refine aOn fun K4 hK4 hG4=> ?_
  have J4: ∀(x35:Bool),d3 N dV aI x20 x25 (aT N m2) x35=some bI→K4 (aE 57 [(5,(.sl 0 0 aI.length 4 true)),(6,(eI .i64 dV)),(8,(eS x20.2.1)),(10,(.sl 1 0 x25.length 1 false)),(35,(eB x35))]) [some ⟨39,aI.flatMap aJ⟩,some ⟨9,x25.map eS⟩]:=by
   intro x35 hr2
   unfold d3 at hr2
   refine hK4 _ _ ?_
   refine zk hr2 rfl (fun h5 hr2=> ?_) (fun h5 hr2=> ?_)
   ·obtain⟨x38,h_6,hr2⟩:=aF hr2
    refine zz ?_
    refine zcL (uM h_6) [] [1] ?_
    refine zz ?_
    refine aOl ?_
    refine zz ?_
    refine zk hr2 rfl (fun h7 hr2=> ?_) (fun h7 hr2=> ?_)
    ·refine zz ?_
     obtain rfl:=sj hr2
     obtain rfl:=sj hr
     exact zS Tryz.results9 cJ cJ cJ (zW 39 [3])
    refine zz ?_
    refine aOl ?_
    refine zz ?_
    refine zk hr2 rfl (fun h8 hr2=> ?_) (fun h8 hr2=> ?_)
    ·refine zz ?_
     obtain rfl:=sj hr2
     obtain rfl:=sj hr
     exact zS Tryz.results9 cJ cJ cJ (zW 39 [3])
    obtain⟨x51,h_9,hr2⟩:=aF hr2
    refine zz ?_
    refine xw (v:=(.sl 3 0 1 4 true)) (h':=[some ⟨39,aI.flatMap aJ⟩,some ⟨9,x25.map eS⟩,some ⟨39,[(eI .i64 x38.1),(eI .i64 x38.2.1),(eI .i64 x38.2.2.1),(eI .i64 x38.2.2.2.1)]⟩,some ⟨39,[(aC.mk x38.1 x38.2.1 x38.2.2.1 x38.2.2.2.1)].flatMap aJ⟩]) (b8 rfl (aCu (C:=aJ) (xs:=[(aC.mk x38.1 x38.2.1 x38.2.2.1 x38.2.2.2.1)]) (K:=4) (fun _=>rfl) (fun _=>rfl) aDh o5 ⟨zl,zl,zl⟩ rfl rfl rfl rfl rfl rfl)) ?_
    refine zz ?_
    exact hG3 _ _ _ _ (zG [4]) (J3 x51 hr2)
   refine zz ?_
   exact hG3 _ _ _ _ (zG [0]) (J3 aI hr2)
  rcases aOj (decide (0<(x25.length:Int)))with h10|h10
  ·replace hr2:=dI hr2 h10
   obtain⟨x31,h_11,hr2⟩:=aF hr2
   obtain⟨x33,h_12,hr2⟩:=aF hr2
   refine xr ?_
   refine zz ?_
   refine vW (v:=(eI .u8 x33)) rfl rfl h10 (mV rfl rfl (sM eT h_12)) ?_
   refine zz ?_
   exact hG4 _ _ _ _ (zG [0,1]) (J4 (x33 != 35) hr2)
  replace hr2:=dE hr2 h10
  refine xr ?_
  refine zz ?_
  exact hG4 _ _ _ _ (zG [0,1]) (J4 false hr2)
 refine zz ?_
 obtain rfl:=sj hr2
 refine zz ?_
 exact hG1 _ _ _ _ (zG [0]) (J1 dV aI hr)
theorem tO {N:Nat}{l:List Int}{r:(List Int)×Int}(hr:lM N l=some r):
  Vm.Fn Tryz.prog 14 [] [(.row none 1 (l.map (eI .i64)))] (.ptr 0 0) [some ⟨88,[(.row none 1 (r.1.map (eI .i64))),(eI .i64 r.2)]⟩]:=by
 refine zf Tryz.func14 Tryz.ntmps14 ?_
 unfold lM at hr
 refine zz ?_
 obtain rfl:=sj hr
 exact dZ Tryz.results14 [0]
theorem q6 {N:Nat}{d_L:List Int}{iT:Int}{r:Bool}(hr:iR N d_L iT=some r):
  Vm.Fn Tryz.prog 19 [some ⟨88,[(.row none 1 (d_L.map (eI .i64))),(eI .i64 iT)]⟩] [(.ptr 0 0)] (eB r) [some ⟨88,[(.row none 1 (d_L.map (eI .i64))),(eI .i64 iT)]⟩]:=by
 refine zf Tryz.func19 Tryz.ntmps19 ?_
 unfold iR at hr
 refine zz ?_
 refine aOl<|aOP mixed [] [] [[0,1,2,3,4,5,6,7,8,9,10]] ?_
 refine zz ?_
 obtain rfl:=sj hr
 exact dZ Tryz.results19 [0]
theorem eE {N:Nat}{d_L:List Int}{iT vn:Int}{r:Int×(List Int)×Int}(hr:c7 N d_L iT vn=some r):
  Vm.Fn Tryz.prog 20 [some ⟨88,[(.row none 1 (d_L.map (eI .i64))),(eI .i64 iT)]⟩] [(.ptr 0 0),(eI .i64 vn)] (eI .i64 r.1) [some ⟨88,[(.row none 1 (r.2.1.map (eI .i64))),(eI .i64 r.2.2)]⟩]:=by
 refine zf Tryz.func20 Tryz.ntmps20 ?_
 unfold c7 at hr
 refine zz ?_
 refine aOl ?_
 obtain⟨x6,h_1,hr⟩:=aF hr
 refine zz ?_
 refine zc (q6 h_1) [0] ?_
 refine zz ?_
 refine zk hr rfl (fun h2 hr=> ?_) (fun h2 hr=> ?_)
 ·refine zz ?_
  obtain rfl:=sj hr
  exact dZ Tryz.results20 [0]
 refine zz ?_
 refine aOl ?_
 obtain⟨x24,h_3,hr⟩:=aF hr
 obtain⟨x27,h_4,hr⟩:=aF hr
 refine aOP mixed [12] [] [[0,1,2,3,4,5,6,7,8,9,10,11,12,13]] ?_
 refine zz ?_
 refine xu (nD h_4) ?_
 refine zz ?_
 obtain rfl:=sj hr
 exact dZ Tryz.results20 [0]
theorem qJ {N:Nat}{d_L:List Int}{iT low nZ:Int}{r:Int×(List Int)×Int}(hr:gR N d_L iT low nZ=some r):
  Vm.Fn Tryz.prog 27 [some ⟨88,[(.row none 1 (d_L.map (eI .i64))),(eI .i64 iT)]⟩] [(.ptr 0 0),(eI .i64 low),(eI .i64 nZ)] (eI .i64 r.1) [some ⟨88,[(.row none 1 (r.2.1.map (eI .i64))),(eI .i64 r.2.2)]⟩]:=by
 refine zf Tryz.func27 Tryz.ntmps27 ?_
 unfold gR at hr
 obtain⟨x13,h_1,hr⟩:=aF hr
 refine zz ?_
 refine zc (eE h_1) [0] ?_
 refine zz ?_
 obtain rfl:=sj hr
 exact dZ Tryz.results27 [0]
theorem q4 {N:Nat}{d_L:List Int}{iT:Int}{r:(List aC)×(List Int)×Int}(hr:iI N d_L iT=some r):
  Vm.Fn Tryz.prog 13 [some ⟨88,[(.row none 1 (d_L.map (eI .i64))),(eI .i64 iT)]⟩] [(.ptr 0 0)] (.sl 1 0 r.1.length 4 true) [some ⟨88,[(.row none 1 (r.2.1.map (eI .i64))),(eI .i64 r.2.2)]⟩,some ⟨39,r.1.flatMap aJ⟩]:=by
 refine zf Tryz.func13 Tryz.ntmps13 ?_
 unfold iI at hr
 refine zz ?_
 refine aOn fun K1 hK1 hG1=> ?_
 have J1: ∀(c0:List Int)(k5:Int)(l1:List aC),qT N c0 k5 l1=some r→K1 (aE 40 [(3,(.sl 1 0 l1.length 4 true))]) [some ⟨88,[(.row none 1 (c0.map (eI .i64))),(eI .i64 k5)]⟩,some ⟨39,l1.flatMap aJ⟩]:=by
  intro c0 k5 l1 hr
  unfold qT at hr
  refine hK1 _ _ ?_
  refine zz ?_
  obtain rfl:=sj hr
  exact dZ Tryz.results13 [0,1]
 obtain⟨x7,h_1,hr⟩:=aF hr
 refine zz ?_
 refine zc (eE h_1) [0] ?_
 obtain⟨bI,hL2,hr⟩:=aF hr
 refine zz ?_
 refine aOk<|aOt (fun m s h=> ∃(k:Int)(o9:List Int)(o7:Int)(bD:List aC),cH N m k o9 o7 bD=some bI∧Ghost 1 s h (aE 40 [(0,(.ptr 0 0)),(3,(.sl 1 0 bD.length 4 true)),(4,(eI .i64 k))]) [some ⟨88,[(.row none 1 (o9.map (eI .i64))),(eI .i64 o7)]⟩,some ⟨39,bD.flatMap aJ⟩]) (n:=N) ⟨x7.1,x7.2.1,x7.2.2,[],hL2,(zW 39 [0,1])⟩ (by rintro s h ⟨_,_,_,_,h0,_⟩;simp[cH]at h0) ?_
 rintro m2 s h ⟨k,o9,o7,bD,hr2,hg⟩
 refine aOr hg ?_
 clear hg hL2
 rw[cH]at hr2
 refine aOl ?_
 refine zz ?_
 refine zk hr2 rfl (fun h2 hr2=> ?_) (fun h2 hr2=> ?_)
 ·refine zz ?_
  refine aOl<|aOk ?_
  obtain⟨x13,h_3,hr2⟩:=aF hr2
  obtain⟨x15,h_4,hr2⟩:=aF hr2
  obtain⟨x17,h_5,hr2⟩:=aF hr2
  obtain⟨x19,h_6,hr2⟩:=aF hr2
  refine zz ?_
  refine zc (qJ h_3) [0] ?_
  refine zz ?_
  refine zc (eE h_4) [0] ?_
  refine zz ?_
  refine zc (eE h_5) [0] ?_
  refine zz ?_
  refine zc (qJ h_6) [0] ?_
  refine zz ?_
  refine aOn fun K3 hK3 hG3=> ?_
  have J3: ∀(c2 xA wJ:Int),fI N k bD x13 x19 (cH N m2) c2 xA wJ=some bI→K3 (aE 40 [(0,(.ptr 0 0)),(3,(.sl 1 0 bD.length 4 true)),(4,(eI .i64 k)),(5,(.ptr 2 0))]) [some ⟨88,[(.row none 1 (x19.2.1.map (eI .i64))),(eI .i64 x19.2.2)]⟩,some ⟨39,bD.flatMap aJ⟩,some ⟨39,[(eI .i64 x13.1),(eI .i64 c2),(eI .i64 xA),(eI .i64 wJ)]⟩]:=by
   intro c2 xA wJ hr2
   unfold fI at hr2
   refine hK3 _ _ ?_
   obtain⟨x38,h_7,hr2⟩:=aF hr2
   refine zz ?_
   refine xw (v:=(.sl 3 0 1 4 true)) (h':=[some ⟨88,[(.row none 1 (x19.2.1.map (eI .i64))),(eI .i64 x19.2.2)]⟩,some ⟨39,bD.flatMap aJ⟩,some ⟨39,[(eI .i64 x13.1),(eI .i64 c2),(eI .i64 xA),(eI .i64 wJ)]⟩,some ⟨39,[(aC.mk x13.1 c2 xA wJ)].flatMap aJ⟩]) (b8 rfl (aCu (C:=aJ) (xs:=[(aC.mk x13.1 c2 xA wJ)]) (K:=4) (fun _=>rfl) (fun _=>rfl) aDh o5 ⟨zl,zl,zl⟩ rfl rfl rfl rfl rfl rfl)) ?_
   refine zz ?_
   exact⟨aOi.wrap (k-1),x19.2.1,x19.2.2,x38,hr2,(zG [0,4])⟩
  refine zz ?_
  refine aOk ?_
  refine zz ?_
  refine zk hr2 rfl (fun h8 hr2=> ?_) (fun h8 hr2=> ?_)
  ·refine zz ?_
   exact hG3 _ _ _ _ (zG [0,1,2]) (J3 0 0 x19.1 hr2)
  refine aOn fun K4 hK4 hG4=> ?_
  have J4: ∀(x27:Bool),jB N k bD x13 x15 x17 x19 (cH N m2) x27=some bI→K4 (aE 40 [(0,(.ptr 0 0)),(3,(.sl 1 0 bD.length 4 true)),(4,(eI .i64 k)),(5,(.ptr 2 0)),(22,(eI .i64 x13.1)),(27,(eB x27))]) [some ⟨88,[(.row none 1 (x19.2.1.map (eI .i64))),(eI .i64 x19.2.2)]⟩,some ⟨39,bD.flatMap aJ⟩,some ⟨39,[(eI .i64 x13.1),(eI .i64 x15.1),(eI .i64 x17.1),(eI .i64 x19.1)]⟩]:=by
   intro x27 hr2
   unfold jB at hr2
   refine hK4 _ _ ?_
   refine zk hr2 rfl (fun h9 hr2=> ?_) (fun h9 hr2=> ?_)
   ·refine zz ?_
    exact hG3 _ _ _ _ (zG [0,1,2]) (J3 x15.1 0 x19.1 hr2)
   refine zz ?_
   refine zk hr2 rfl (fun h10 hr2=> ?_) (fun h10 hr2=> ?_)
   ·refine zz ?_
    exact hG3 _ _ _ _ (zG [0,1,2]) (J3 x15.1 x17.1 0 hr2)
   refine zz ?_
   exact hG3 _ _ _ _ (zG [0,1,2]) (J3 x15.1 x17.1 x19.1 hr2)
  refine zz ?_
  refine zk hr2 rfl (fun h11 hr2=> ?_) (fun h11 hr2=> ?_)
  ·refine zz ?_
   exact hG4 _ _ _ _ (zG [0,1,2]) (J4 (x13.1 == 3) hr2)
  refine zz ?_
  refine zk hr2 rfl (fun h12 hr2=> ?_) (fun h12 hr2=> ?_)
  ·refine zz ?_
   exact hG4 _ _ _ _ (zG [0,1,2]) (J4 (x13.1 == 5) hr2)
  refine zz ?_
  exact hG4 _ _ _ _ (zG [0,1,2]) (J4 (x13.1 == 7) hr2)
 refine zz ?_
 obtain rfl:=sj hr2
 refine zz ?_
 exact hG1 _ _ _ _ (zG [0,1]) (J1 o9 o7 bD hr)
theorem mT {N:Nat}{l:List aC}{r:ByteArray×Int}(hr:eA N l=some r):
  Vm.Fn Tryz.prog 15 [] [(.row none 4 (l.map cX))] (.tup [(eS r.1),(eI .i64 r.2)]) []:=by
 refine zf Tryz.func15 Tryz.ntmps15 ?_
 unfold eA at hr
 refine zz ?_
 refine aOl ?_
 refine zz ?_
 refine zk hr rfl (fun h1 hr=> ?_) (fun h1 hr=> ?_)
 ·refine zz ?_
  obtain rfl:=sj hr
  exact oK Tryz.results15 []
 refine zz ?_
 refine aOn fun K1 hK1 hG1=> ?_
 have J1: ∀(text:ByteArray),hY N text=some r→K1 (aE 33 [(4,(eS text))]) []:=by
  intro text hr
  unfold hY at hr
  refine hK1 _ _<|aOl ?_
  refine zz ?_
  refine zk hr rfl (fun h2 hr=> ?_) (fun h2 hr=> ?_)
  ·refine zz ?_
   obtain rfl:=sj hr
   exact oK Tryz.results15 []
  refine zz ?_
  obtain rfl:=sj hr
  exact oK Tryz.results15 []
 obtain⟨bI,hL2,hr⟩:=aF hr
 refine zz ?_
 refine aOk<|aOt (fun m s h=> ∃(text_1:ByteArray)(x14:Int),cY N l m text_1 x14=some bI∧Ghost 0 s h (aE 33 [(4,(eS text_1)),(12,(.row none 4 (l.map cX))),(13,(eI .i64 (l.length:Int))),(14,(eI .i64 x14))]) []) (n:=N) ⟨aOu,0,hL2,(zG [])⟩ (by rintro s h ⟨_,_,h0,_⟩;simp[cY]at h0) ?_
 rintro m2 s h ⟨text_1,x14,hr2,hg⟩
 refine aOr hg ?_
 clear hg hL2
 rw[cY]at hr2
 refine zz ?_
 refine aOl ?_
 refine zk hr2 rfl (fun h3 hr2=> ?_) (fun h3 hr2=> ?_)
 ·refine zz ?_
  refine aOl<|aOk ?_
  obtain⟨x16,h_4,hr2⟩:=aF hr2
  obtain⟨x20,h_5,hr2⟩:=aF hr2
  refine zz ?_
  refine xp (y9 h_5) ?_
  refine zz ?_
  refine aOl ?_
  refine zz ?_
  refine zk hr2 rfl (fun h6 hr2=> ?_) (fun h6 hr2=> ?_)
  ·refine zz ?_
   obtain rfl:=sj hr2
   obtain rfl:=sj hr
   exact oK Tryz.results15 []
  obtain⟨x27,h_7,hr2⟩:=aF hr2
  refine zz ?_
  refine xw (v:=(eS x27)) (gC rfl rfl (pJ _ _ _ h_7)) ?_
  refine zz ?_
  exact⟨x27,aOi.wrap (x14+1),hr2,(zG [])⟩
 refine zz ?_
 obtain rfl:=sj hr2
 refine zz ?_
 exact hG1 _ _ _ _ (zG []) (J1 text_1 hr)
theorem mX {N:Nat}{va b:List aC}{r:Bool}(hr:fU N va b=some r):
  Vm.Fn Tryz.prog 11 [] [(.row none 4 (va.map cX)),(.row none 4 (b.map cX))] (eB r) []:=by
 refine zf Tryz.func11 Tryz.ntmps11 ?_
 unfold fU at hr
 refine zz ?_
 refine aOl ?_
 refine zz ?_
 refine zk hr rfl (fun h1 hr=> ?_) (fun h1 hr=> ?_)
 ·refine zz ?_
  obtain rfl:=sj hr
  exact dZ Tryz.results11 []
 refine zz ?_
 refine aOn fun K1 hK1 hG1=> ?_
 have J1:m7 N=some r→K1 (aE 26 []) []:=by
  intro hr
  unfold m7 at hr
  refine hK1 _ _ ?_
  refine zz ?_
  obtain rfl:=sj hr
  exact dZ Tryz.results11 []
 obtain⟨bI,hL2,hr⟩:=aF hr
 refine zz ?_
 refine aOk<|aOt (fun m s h=> ∃(vi:Int),eF N va b m vi=some bI∧Ghost 0 s h (aE 26 [(0,(.row none 4 (va.map cX))),(1,(.row none 4 (b.map cX))),(5,(eI .i64 vi))]) []) (n:=N) ⟨0,hL2,(zG [])⟩ (by rintro s h ⟨_,h0,_⟩;simp[eF]at h0) ?_
 rintro m2 s h ⟨vi,hr2,hg⟩
 refine aOr hg ?_
 clear hg hL2
 rw[eF]at hr2
 refine aOl ?_
 refine zz ?_
 refine zk hr2 rfl (fun h2 hr2=> ?_) (fun h2 hr2=> ?_)
 ·refine zz ?_
  refine aOl<|aOk<|aOl ?_
  obtain⟨x19,h_3,hr2⟩:=aF hr2
  obtain⟨x23,h_4,hr2⟩:=aF hr2
  refine aOP mixed [] [] [[0,1,2,3,4,5,6,7,8]] ?_
  refine zz ?_
  refine xw (v:=(eB (!((x19.Kind == x23.Kind)&&((x19.A == x23.A)&&((x19.B == x23.B)&&((x19.N == x23.N)&&true))))))) (gC rfl rfl (aGT (d:=9) o5 rfl aNw zl aNT rfl rfl rfl rfl rfl)) ?_
  refine zz ?_
  refine zk hr2 rfl (fun h5 hr2=> ?_) (fun h5 hr2=> ?_)
  ·refine zz ?_
   obtain rfl:=sj hr2
   obtain rfl:=sj hr
   exact dZ Tryz.results11 []
  refine zz ?_
  exact⟨aOi.wrap (vi+1),hr2,(zG [])⟩
 refine zz ?_
 obtain rfl:=sj hr2
 refine zz ?_
 exact hG1 _ _ _ _ (zG []) (J1 hr)
theorem wD {N:Nat}{kind:Int}{r:ByteArray×ByteArray}(hr:gE N kind=some r):
  Vm.Fn Tryz.prog 46 [] [(eI .i64 kind)] (.tup [(eS r.1),(eS r.2)]) []:=by
 refine zf Tryz.func46 Tryz.ntmps46 ?_
 unfold gE at hr
 refine zz ?_
 refine xw (v:=(.sl 0 0 8 1 false)) (h':=[some ⟨9,[aOu,⟨#[115,116,101,112,115]⟩,⟨#[98,114,97,110,99,104]⟩,⟨#[119,97,116,99,104]⟩,⟨#[102,97,117,108,116]⟩,⟨#[100,101,108,97,121]⟩,⟨#[115,101,110,100]⟩,⟨#[98,121,116,101,115]⟩].map eS⟩]) (b8 rfl (jV (xs:=[aOu,⟨#[115,116,101,112,115]⟩,⟨#[98,114,97,110,99,104]⟩,⟨#[119,97,116,99,104]⟩,⟨#[102,97,117,108,116]⟩,⟨#[100,101,108,97,121]⟩,⟨#[115,101,110,100]⟩,⟨#[98,121,116,101,115]⟩].map eS) yH eT zl zl rfl rfl rfl rfl rfl rfl rfl)) ?_
 refine zz ?_
 refine xw (v:=(.sl 1 0 8 1 false)) (h':=[some ⟨9,[aOu,⟨#[115,116,101,112,115]⟩,⟨#[98,114,97,110,99,104]⟩,⟨#[119,97,116,99,104]⟩,⟨#[102,97,117,108,116]⟩,⟨#[100,101,108,97,121]⟩,⟨#[115,101,110,100]⟩,⟨#[98,121,116,101,115]⟩].map eS⟩,some ⟨9,[aOu,⟨#[78]⟩,⟨#[65,66,78]⟩,⟨#[65,78]⟩,⟨#[65,66,78]⟩,⟨#[65,78]⟩,⟨#[65,66]⟩,⟨#[65,78]⟩].map eS⟩]) (b8 rfl (jV (xs:=[aOu,⟨#[78]⟩,⟨#[65,66,78]⟩,⟨#[65,78]⟩,⟨#[65,66,78]⟩,⟨#[65,78]⟩,⟨#[65,66]⟩,⟨#[65,78]⟩].map eS) yH eT zl zl rfl rfl rfl rfl rfl rfl rfl)) ?_
 refine zz ?_
 refine aOl ?_
 refine aOn fun K1 hK1 hG1=> ?_
 have J1: ∀(x15:Bool),kS N kind x15=some r→K1 (aE 24 [(0,(eI .i64 kind)),(4,(.sl 0 0 ([aOu,⟨#[115,116,101,112,115]⟩,⟨#[98,114,97,110,99,104]⟩,⟨#[119,97,116,99,104]⟩,⟨#[102,97,117,108,116]⟩,⟨#[100,101,108,97,121]⟩,⟨#[115,101,110,100]⟩,⟨#[98,121,116,101,115]⟩].length) 1 false)),(5,(.sl 1 0 ([aOu,⟨#[78]⟩,⟨#[65,66,78]⟩,⟨#[65,78]⟩,⟨#[65,66,78]⟩,⟨#[65,78]⟩,⟨#[65,66]⟩,⟨#[65,78]⟩].length) 1 false)),(15,(eB x15))]) [some ⟨9,[aOu,⟨#[115,116,101,112,115]⟩,⟨#[98,114,97,110,99,104]⟩,⟨#[119,97,116,99,104]⟩,⟨#[102,97,117,108,116]⟩,⟨#[100,101,108,97,121]⟩,⟨#[115,101,110,100]⟩,⟨#[98,121,116,101,115]⟩].map eS⟩,some ⟨9,[aOu,⟨#[78]⟩,⟨#[65,66,78]⟩,⟨#[65,78]⟩,⟨#[65,66,78]⟩,⟨#[65,78]⟩,⟨#[65,66]⟩,⟨#[65,78]⟩].map eS⟩]:=by
  intro x15 hr
  unfold kS at hr
  refine hK1 _ _ ?_
  refine zk hr rfl (fun h1 hr=> ?_) (fun h1 hr=> ?_)
  ·refine zz ?_
   obtain rfl:=sj hr
   exact oK Tryz.results46 []
  refine zz ?_
  refine aOl ?_
  obtain⟨x18,h_2,hr⟩:=aF hr
  obtain⟨x22,h_3,hr⟩:=aF hr
  refine aOP mixed [] [] [[0,1,2,3,4,5,6,7,8,9]] ?_
  refine zz ?_
  obtain rfl:=sj hr
  exact oK Tryz.results46 []
 rcases aOj (decide (kind<1))with h4|h4
 ·replace hr:=dI hr h4
  refine xr ?_
  refine zz ?_
  exact hG1 _ _ _ _ (oD [0,1]) (J1 true hr)
 replace hr:=dE hr h4
 refine xr ?_
 refine zz ?_
 exact hG1 _ _ _ _ (oD [0,1]) (J1 (decide ((8:Int)≤kind)) hr)
theorem aAK {N:Nat}{vs:ByteArray}{r:Int×Bool}(hr:cS N vs=some r):
  Vm.Fn Tryz.prog 47 [] [(eS vs)] (.tup [(eI .i64 r.1),(eB r.2)]) []:=by
 refine zf Tryz.func47 Tryz.ntmps47 ?_
 unfold cS at hr
 refine zz ?_
 refine aOl ?_
 refine zz ?_
 refine xw (v:=(eB (vs.toList == (⟨#[48]⟩:ByteArray).toList))) (gC rfl rfl (aDm ..)) ?_
 refine zz ?_
 refine zk hr rfl (fun h1 hr=> ?_) (fun h1 hr=> ?_)
 ·refine zz ?_
  obtain rfl:=sj hr
  exact oK Tryz.results47 []
 refine zz ?_
 refine aOn fun K1 hK1 hG1=> ?_
 have J1: ∀(cM:ByteArray)(fT:Int),gT N cM fT=some r→K1 (aE 59 [(0,(eS cM)),(4,(eI .i64 fT))]) []:=by
  intro cM fT hr
  unfold gT at hr
  refine hK1 _ _<|aOl ?_
  refine aOn fun K2 hK2 hG2=> ?_
  have J2: ∀(x31:Bool),eJ N cM fT x31=some r→K2 (aE 59 [(0,(eS cM)),(4,(eI .i64 fT)),(31,(eB x31))]) []:=by
   intro x31 hr
   unfold eJ at hr
   refine hK2 _ _ ?_
   refine zk hr rfl (fun h2 hr=> ?_) (fun h2 hr=> ?_)
   ·refine zz ?_
    obtain rfl:=sj hr
    exact oK Tryz.results47 []
   refine zz ?_
   refine aOn fun K3 hK3 hG3=> ?_
   have J3: ∀(vn:Int),lB N fT vn=some r→K3 (aE 59 [(4,(eI .i64 fT)),(5,(eI .i64 vn))]) []:=by
    intro vn hr
    unfold lB at hr
    refine hK3 _ _ ?_
    refine zz ?_
    obtain rfl:=sj hr
    exact oK Tryz.results47 []
   obtain⟨res4,hL4,hr⟩:=aF hr
   refine zz ?_
   refine aOk<|aOt (fun m s h=> ∃(fR vi:Int),dS N cM fT m fR vi=some res4∧Ghost 0 s h (aE 59 [(0,(eS cM)),(4,(eI .i64 fT)),(5,(eI .i64 fR)),(6,(eI .i64 vi))]) []) (n:=N) ⟨0,0,hL4,(zG [])⟩ (by rintro s h ⟨_,_,h0,_⟩;simp[dS]at h0) ?_
   rintro m4 s h ⟨fR,vi,hr4,hg⟩
   refine aOr hg ?_
   clear hg hL4
   rw[dS]at hr4
   refine aOl ?_
   refine zz ?_
   refine zk hr4 rfl (fun h3 hr4=> ?_) (fun h3 hr4=> ?_)
   ·refine zz ?_
    refine aOl<|aOk<|aOl ?_
    refine aOn fun K5 hK5 hG5=> ?_
    have J5: ∀(x47:Bool),gW N cM fT fR vi (dS N cM fT m4) x47=some res4→K5 (aE 59 [(0,(eS cM)),(4,(eI .i64 fT)),(5,(eI .i64 fR)),(6,(eI .i64 vi)),(47,(eB x47))]) []:=by
     intro x47 hr4
     unfold gW at hr4
     refine hK5 _ _ ?_
     refine zk hr4 rfl (fun h4 hr4=> ?_) (fun h4 hr4=> ?_)
     ·refine zz ?_
      obtain rfl:=sj hr4
      obtain rfl:=sj hr
      exact oK Tryz.results47 []
     obtain⟨x52,h_5,hr4⟩:=aF hr4
     refine zz ?_
     refine xw (v:=(eI .u8 x52)) (mV rfl rfl (sM eT h_5)) ?_
     refine zz ?_
     exact⟨aOi.wrap ((aOi.wrap (10*fR))+(aOi.wrap (aOR.wrap (x52-48)))),aOi.wrap (vi+1),hr4,(zG [])⟩
    obtain⟨x40,h_6,hr4⟩:=aF hr4
    rcases aOj (decide (x40<48))with h7|h7
    ·replace hr4:=dI hr4 h7
     refine xr ?_
     refine zz ?_
     refine xw (v:=(eI .u8 x40)) (mV rfl rfl (sM eT h_6)) ?_
     refine zz ?_
     exact hG5 _ _ _ _ (zG []) (J5 true hr4)
    replace hr4:=dE hr4 h7
    refine xr ?_
    refine zz ?_
    refine xw (v:=(eI .u8 x40)) (mV rfl rfl (sM eT h_6)) ?_
    refine zz ?_
    refine vW (v:=(eI .u8 x40)) rfl rfl h7 (mV rfl rfl (sM eT h_6)) ?_
    refine zz ?_
    exact hG5 _ _ _ _ (zG []) (J5 (decide (57<x40)) hr4)
   refine zz ?_
   obtain rfl:=sj hr4
   refine zz ?_
   exact hG3 _ _ _ _ (zG []) (J3 fR hr)
  rcases aOj (decide ((cM.size:Int)<1))with h8|h8
  ·replace hr:=dI hr h8
   refine xr ?_
   refine zz ?_
   refine xX rfl<|xX rfl<|xX rfl ?_
   refine zz ?_
   exact hG2 _ _ _ _ (zG []) (J2 true hr)
  replace hr:=dE hr h8
  rcases aOj (decide (9<(cM.size:Int)))with h9|h9
  ·replace hr:=dI hr h9
   refine xr ?_
   refine zz ?_
   exact hG2 _ _ _ _ (zG []) (J2 true hr)
  replace hr:=dE hr h9
  obtain⟨x29,h_10,hr⟩:=aF hr
  refine xr ?_
  refine zz ?_
  refine vW (v:=(eI .u8 x29)) rfl rfl h9 (mV rfl rfl (sM eT h_10)) ?_
  refine zz ?_
  exact hG2 _ _ _ _ (zG []) (J2 (x29 == 48) hr)
 refine aOn fun K6 hK6 hG6=> ?_
 have J6: ∀(x16:Bool),gZ N vs x16=some r→K6 (aE 59 [(0,(eS vs)),(4,(eI .i64 1)),(16,(eB x16))]) []:=by
  intro x16 hr
  unfold gZ at hr
  refine hK6 _ _ ?_
  refine zk hr rfl (fun h11 hr=> ?_) (fun h11 hr=> ?_)
  ·obtain⟨x18,h_12,hr⟩:=aF hr
   refine aOP mixed [] [] [[0,1,2,3]] ?_
   refine zz ?_
   refine xw (v:=(eS x18)) (cK rfl rfl rfl (slT eT rfl rfl h_12)) ?_
   refine zz ?_
   exact hG1 _ _ _ _ (zG []) (J1 x18 (-1) hr)
  refine zz ?_
  exact hG1 _ _ _ _ (zG []) (J1 vs 1 hr)
 rcases aOj (decide (0<(vs.size:Int)))with h13|h13
 ·replace hr:=dI hr h13
  obtain⟨x14,h_14,hr⟩:=aF hr
  refine xr ?_
  refine zz ?_
  refine vW (v:=(eI .u8 x14)) rfl rfl h13 (mV rfl rfl (sM eT h_14)) ?_
  refine zz ?_
  exact hG6 _ _ _ _ (zG []) (J6 (x14 == 45) hr)
 replace hr:=dE hr h13
 refine xr ?_
 refine zz ?_
 exact hG6 _ _ _ _ (zG []) (J6 false hr)
theorem aCe {N:Nat}{va:List Int}{r:ByteArray}(hr:mI N va=some r):
  Vm.Fn Tryz.prog 78 [] [(.agg (va.map (eI .u64)))] (eS r) []:=by
 refine zf Tryz.func78 Tryz.ntmps78 ?_
 unfold mI at hr
 obtain⟨aEx,hL1,hr⟩:=aF hr
 refine zz ?_
 refine aOk<|aOt (fun m s h=> ∃(vs:ByteArray)(l0:List Int),fH N m vs l0=some aEx∧Ghost 0 s h (aE 27 [(1,(.ptr 0 0)),(3,(eS vs))]) [some ⟨51,l0.map (eI .u64)⟩]) (n:=N) ⟨aOu,va,hL1,(zG [0])⟩ (by rintro s h ⟨_,_,h0,_⟩;simp[fH]at h0) ?_
 rintro m1 s h ⟨vs,l0,hr1,hg⟩
 refine aOr hg ?_
 clear hg hL1
 rw[fH]at hr1
 refine aOk<|aOl ?_
 obtain⟨q,h_1,hr1⟩:=aF hr1
 obtain⟨x10,h_2,hr1⟩:=aF hr1
 obtain⟨x11,h_4,hr1⟩:=aF hr1
 obtain⟨q_1,h_6,hr1⟩:=aF hr1
 obtain⟨q_2,h_7,hr1⟩:=aF hr1
 refine aO3 (eN [79,128]) (eN []) mixed<|aOh (n:=12) (i:=0) (by decide +kernel) rfl (gS (v:=(.agg ([0,0,0,0].map (eI .u64)))) (sv (dD rfl (jO bK kM rfl))))<|aOh (n:=11) (i:=1) (by decide +kernel) rfl (gS (v:=(.agg (l0.map (eI .u64)))) (sv (eU rfl (tB (E:=(eI .u64)) (l:=l0) bK rfl rfl (aO h_1)))))<|aOh (n:=10) (i:=2) (by decide +kernel) rfl (gU (fun _=>(Vm.Fn.pure (fE h_2) rfl zR)) rfl (sv (nK rfl iS)))<|aOh (n:=9) (i:=3) (by decide +kernel) rfl (gU (fun _=>(Vm.Fn.pure (wY h_4) zR zR)) rfl (sv (nK rfl iS))) ?_
 refine aOh (n:=8) (i:=4) (by decide +kernel) rfl (gS (v:=(.tup [(.agg (x11.1.map (eI .u64))),(.agg (x11.2.1.map (eI .u64))),(eB x11.2.2)])) (sv (kP rfl)))<|aOh (n:=7) (i:=5) (by decide +kernel) rfl (gS (v:=(.agg (x11.1.map (eI .u64)))) (sv (p7 rfl rfl)))<|aOh (n:=6) (i:=6) (by decide +kernel) rfl (gS (v:=(.agg (x11.2.1.map (eI .u64)))) (sv (p7 rfl rfl)))<|aOh (n:=5) (i:=7) (by decide +kernel) rfl (gS (v:=(eB x11.2.2)) (sv (p7 rfl rfl))) ?_
 refine aOW (m:=1) (L:=lst [0,1,2,3,4,5,6,7,8,9,10,11] 13) (s1:=aE 27 [(1,(.ptr 0 0)),(3,(eS vs)),(4,(.ptr 1 0)),(5,(.ptr 2 0)),(14,(eB x11.2.2))]) (h1:=[some ⟨51,l0.map (eI .u64)⟩,some ⟨51,x11.1.map (eI .u64)⟩,some ⟨51,x11.2.1.map (eI .u64)⟩]) ?_ (fun J=> ?_)
 ·refine aOh (n:=0) (i:=12) (by decide +kernel) rfl (gS (v:=(eB x11.2.2)) (sv (kH rfl)))<|aOH (by decide +kernel) ?_
  obtain⟨x15,h_8,hr1⟩:=aF hr1
  obtain⟨x22,h_9,hr1⟩:=aF hr1
  refine zz ?_
  refine xw (v:=(eS (mO [aOR.wrap (IntKind.u64.wrap (48+x15))]))) (xJ rfl (aCj bJ eT cG (k9 rfl rfl))) ?_
  refine zz ?_
  refine xw (v:=(eS x22)) (gC rfl rfl (pJ _ _ _ h_9)) ?_
  obtain⟨x25,h_10,hr1⟩:=aF hr1
  refine zz ?_
  refine xp (kO h_10) ?_
  refine zz ?_
  refine zk hr1 rfl (fun h11 hr1=> ?_) (fun h11 hr1=> ?_)
  ·refine zz ?_
   obtain rfl:=sj hr1
   obtain rfl:=sj hr
   exact dZ Tryz.results78 []
  refine zz ?_
  exact⟨x22,x11.1,hr1,(zG [0])⟩
 refine aOx (n:=4) [8,9] (by decide +kernel) (by decide) ?_
 refine(aOq rfl (gS (v:=(.ptr 1 0)) (h':=[some ⟨51,l0.map (eI .u64)⟩,some ⟨51,(aOg 4 0).map (eI .u64)⟩]) (sv (gQ bK rfl rfl rfl))) ?_ (aOq rfl (gS (v:=(.ptr 1 0)) (h':=[some ⟨51,l0.map (eI .u64)⟩,some ⟨51,(aOg 4 0).map (eI .u64)⟩]) (sv (gQ bK rfl rfl rfl))) ?_ aOB))
 ·refine aOh (n:=3) (i:=9) (by decide +kernel) rfl (gS (v:=(.ptr 2 0)) (h':=[some ⟨51,l0.map (eI .u64)⟩,some ⟨51,(aOg 4 0).map (eI .u64)⟩,some ⟨51,(aOg 4 0).map (eI .u64)⟩]) (sv (gQ bK rfl rfl rfl)))<|aOh (n:=2) (i:=10) (by decide +kernel) rfl (gN (h':=[some ⟨51,l0.map (eI .u64)⟩,some ⟨51,x11.1.map (eI .u64)⟩,some ⟨51,(aOg 4 0).map (eI .u64)⟩]) (sv (cV rfl rfl (mQ (E:=(eI .u64)) (l:=aOg 4 0) bK rfl rfl (fun _=>rfl) rfl (aO h_6) rfl))))<|aOh (n:=1) (i:=11) (by decide +kernel) rfl (gN (h':=[some ⟨51,l0.map (eI .u64)⟩,some ⟨51,x11.1.map (eI .u64)⟩,some ⟨51,x11.2.1.map (eI .u64)⟩]) (sv (cV rfl rfl (mQ (E:=(eI .u64)) (l:=aOg 4 0) bK rfl rfl (fun _=>rfl) rfl (aO h_7) rfl)))) ?_
  exact aOw (by decide +kernel) (by decide +kernel) (zG [0,1,2]) J
 refine aOh (n:=3) (i:=8) (by decide +kernel) rfl (gS (v:=(.ptr 2 0)) (h':=[some ⟨51,l0.map (eI .u64)⟩,some ⟨51,(aOg 4 0).map (eI .u64)⟩,some ⟨51,(aOg 4 0).map (eI .u64)⟩]) (sv (gQ bK rfl rfl rfl)))<|aOh (n:=2) (i:=10) (by decide +kernel) rfl (gN (h':=[some ⟨51,l0.map (eI .u64)⟩,some ⟨51,(aOg 4 0).map (eI .u64)⟩,some ⟨51,x11.1.map (eI .u64)⟩]) (sv (cV rfl rfl (mQ (E:=(eI .u64)) (l:=aOg 4 0) bK rfl rfl (fun _=>rfl) rfl (aO h_6) rfl))))<|aOh (n:=1) (i:=11) (by decide +kernel) rfl (gN (h':=[some ⟨51,l0.map (eI .u64)⟩,some ⟨51,x11.2.1.map (eI .u64)⟩,some ⟨51,x11.1.map (eI .u64)⟩]) (sv (cV rfl rfl (mQ (E:=(eI .u64)) (l:=aOg 4 0) bK rfl rfl (fun _=>rfl) rfl (aO h_7) rfl)))) ?_
 exact aOw (by decide +kernel) (by decide +kernel) (zG [0,2,1]) J
theorem aAL {N:Nat}{n:Int}{r:ByteArray}(hr:bW N n=some r):Vm.Fn Tryz.prog 50 [] [(eI .i64 n)] (eS r) []:=aDe (fun h=>fE h) (fun h=>aCe h) hr
theorem aCc {N:Nat}{kd va vb vn:Int}{r:ByteArray×Bool}(hr:mH N kd va vb vn=some r):Vm.Fn Tryz.prog 29 [] [(.agg [(eI .i64 kd),(eI .i64 va),(eI .i64 vb),(eI .i64 vn)])] (.tup [(eS r.1),(eB r.2)]) []:=aES (fun h=>wD h) (fun h=>aAL h) hr
theorem tA {N:Nat}{l:List aC}{r:ByteArray×Int}(hr:j8 N l=some r):
  Vm.Fn Tryz.prog 16 [] [(.row none 4 (l.map cX))] (.tup [(eS r.1),(eI .i64 r.2)]) []:=by
 refine zf Tryz.func16 Tryz.ntmps16 ?_
 unfold j8 at hr
 refine zz ?_
 refine aOl ?_
 refine zz ?_
 refine zk hr rfl (fun h1 hr=> ?_) (fun h1 hr=> ?_)
 ·refine zz ?_
  obtain rfl:=sj hr
  exact oK Tryz.results16 []
 refine zz ?_
 refine aOn fun K1 hK1 hG1=> ?_
 have J1: ∀(out:ByteArray),lA N out=some r→K1 (aE 34 [(4,(eS out))]) []:=by
  intro out hr
  unfold lA at hr
  refine hK1 _ _<|aOl ?_
  refine zz ?_
  refine zk hr rfl (fun h2 hr=> ?_) (fun h2 hr=> ?_)
  ·refine zz ?_
   obtain rfl:=sj hr
   exact oK Tryz.results16 []
  refine zz ?_
  obtain rfl:=sj hr
  exact oK Tryz.results16 []
 obtain⟨bI,hL2,hr⟩:=aF hr
 refine zz ?_
 refine aOk<|aOt (fun m s h=> ∃(out_1:ByteArray)(vi:Int),eZ N l m out_1 vi=some bI∧Ghost 0 s h (aE 34 [(0,(.row none 4 (l.map cX))),(4,(eS out_1)),(5,(eI .i64 vi))]) []) (n:=N) ⟨aOu,0,hL2,(zG [])⟩ (by rintro s h ⟨_,_,h0,_⟩;simp[eZ]at h0) ?_
 rintro m2 s h ⟨out_1,vi,hr2,hg⟩
 refine aOr hg ?_
 clear hg hL2
 rw[eZ]at hr2
 refine aOl ?_
 refine zz ?_
 refine zk hr2 rfl (fun h3 hr2=> ?_) (fun h3 hr2=> ?_)
 ·refine zz ?_
  refine aOl<|aOk ?_
  obtain⟨x20,h_4,hr2⟩:=aF hr2
  obtain⟨x22,h_5,hr2⟩:=aF hr2
  refine zz ?_
  refine xp (aCc h_5) ?_
  refine zz ?_
  refine aOl ?_
  refine zz ?_
  refine zk hr2 rfl (fun h6 hr2=> ?_) (fun h6 hr2=> ?_)
  ·refine zz ?_
   obtain rfl:=sj hr2
   obtain rfl:=sj hr
   exact oK Tryz.results16 []
  obtain⟨x29,h_7,hr2⟩:=aF hr2
  refine zz ?_
  refine xw (v:=(eS x29)) (gC rfl rfl (pJ _ _ _ h_7)) ?_
  refine zz ?_
  exact⟨x29,aOi.wrap (vi+1),hr2,(zG [])⟩
 refine zz ?_
 obtain rfl:=sj hr2
 refine zz ?_
 exact hG1 _ _ _ _ (zG []) (J1 out_1 hr)
theorem aA9 {N:Nat}{vs:ByteArray}{r:(List ByteArray)}(hr:nG N vs=some r):
  Vm.Fn Tryz.prog 24 [] [(eS vs)] (.sl 0 0 r.length 1 false) [some ⟨9,r.map eS⟩]:=by
 refine zf Tryz.func24 Tryz.ntmps24 ?_
 unfold nG at hr
 refine zz ?_
 refine aOn fun K1 hK1 hG1=> ?_
 have J1: ∀(gV:Int)(l0:List ByteArray),j6 N vs gV l0=some r→K1 (aE 36 [(0,(eS vs)),(3,(.sl 0 0 l0.length 1 false)),(4,(eI .i64 gV))]) [some ⟨9,l0.map eS⟩]:=by
  intro gV l0 hr
  unfold j6 at hr
  refine hK1 _ _ ?_
  refine aOn fun K2 hK2 hG2=> ?_
  have J2: ∀(aI:List ByteArray),jX N aI=some r→K2 (aE 36 [(3,(.sl 0 0 aI.length 1 false))]) [some ⟨9,aI.map eS⟩]:=by
   intro aI hr
   unfold jX at hr
   refine hK2 _ _ ?_
   refine zz ?_
   obtain rfl:=sj hr
   exact dZ Tryz.results24 [0]
  refine zz ?_
  refine zk hr rfl (fun h1 hr=> ?_) (fun h1 hr=> ?_)
  ·obtain⟨x32,h_2,hr⟩:=aF hr
   obtain⟨x34,h_3,hr⟩:=aF hr
   refine zz ?_
   refine xw (v:=(eS x32)) (cK rfl rfl rfl (slT eT rfl rfl h_2)) ?_
   refine xw (v:=(.sl 1 0 1 1 false)) (h':=[some ⟨9,l0.map eS⟩,some ⟨9,[x32].map eS⟩]) (b8 rfl (jV (xs:=[x32].map eS) yH eT zl zl rfl rfl rfl rfl rfl rfl rfl)) ?_
   refine zz ?_
   exact hG2 _ _ _ _ (zG [2]) (J2 x34 hr)
  refine zz ?_
  exact hG2 _ _ _ _ (zG [0]) (J2 l0 hr)
 obtain⟨mW,hL3,hr⟩:=aF hr
 refine zz ?_
 refine aOk<|aOt (fun m s h=> ∃(fD vi:Int)(bC:List ByteArray),d9 N vs m fD vi bC=some mW∧Ghost 0 s h (aE 36 [(0,(eS vs)),(3,(.sl 0 0 bC.length 1 false)),(4,(eI .i64 fD)),(5,(eI .i64 vi))]) [some ⟨9,bC.map eS⟩]) (n:=N) ⟨0,0,[],hL3,(zW 9 [0])⟩ (by rintro s h ⟨_,_,_,h0,_⟩;simp[d9]at h0) ?_
 rintro m3 s h ⟨fD,vi,bC,hr3,hg⟩
 refine aOr hg ?_
 clear hg hL3
 rw[d9]at hr3
 refine aOl ?_
 refine zz ?_
 refine zk hr3 rfl (fun h4 hr3=> ?_) (fun h4 hr3=> ?_)
 ·refine zz ?_
  refine aOn fun K4 hK4 hG4=> ?_
  have J4: ∀(rL:Int)(bO:List ByteArray),iP N vs vi (d9 N vs m3) rL bO=some mW→K4 (aE 36 [(0,(eS vs)),(3,(.sl 0 0 bO.length 1 false)),(4,(eI .i64 rL)),(5,(eI .i64 vi))]) [some ⟨9,bO.map eS⟩]:=by
   intro rL bO hr3
   unfold iP at hr3
   refine hK4 _ _ ?_
   refine zz ?_
   exact⟨rL,aOi.wrap (vi+1),bO,hr3,(zG [0])⟩
  refine aOk ?_
  obtain⟨x14,h_5,hr3⟩:=aF hr3
  refine zz ?_
  refine xw (v:=(eI .u8 x14)) (mV rfl rfl (sM eT h_5)) ?_
  refine zz ?_
  refine zk hr3 rfl (fun h6 hr3=> ?_) (fun h6 hr3=> ?_)
  ·obtain⟨x20,h_7,hr3⟩:=aF hr3
   obtain⟨x22,h_8,hr3⟩:=aF hr3
   refine zz ?_
   refine xw (v:=(eS x20)) (cK rfl rfl rfl (slT eT rfl rfl h_7)) ?_
   refine xw (v:=(.sl 1 0 1 1 false)) (h':=[some ⟨9,bC.map eS⟩,some ⟨9,[x20].map eS⟩]) (b8 rfl (jV (xs:=[x20].map eS) yH eT zl zl rfl rfl rfl rfl rfl rfl rfl)) ?_
   refine zz ?_
   exact hG4 _ _ _ _ (zG [2]) (J4 (aOi.wrap (vi+1)) x22 hr3)
  refine zz ?_
  exact hG4 _ _ _ _ (zG [0]) (J4 fD bC hr3)
 refine zz ?_
 obtain rfl:=sj hr3
 refine zz ?_
 exact hG1 _ _ _ _ (zG [0]) (J1 fD bC hr)
theorem aBq {N:Nat}{aV:ByteArray}{r:(List ByteArray)}(hr:nF N aV=some r):
  Vm.Fn Tryz.prog 25 [] [(eS aV)] (.sl 0 0 r.length 1 false) [some ⟨9,r.map eS⟩]:=by
 refine zf Tryz.func25 Tryz.ntmps25 ?_
 unfold nF at hr
 refine zz ?_
 refine aOn fun K1 hK1 hG1=> ?_
 have J1: ∀(l0:List ByteArray),mK N l0=some r→K1 (aE 35 [(3,(.sl 0 0 l0.length 1 false))]) [some ⟨9,l0.map eS⟩]:=by
  intro l0 hr
  unfold mK at hr
  refine hK1 _ _ ?_
  refine zz ?_
  obtain rfl:=sj hr
  exact dZ Tryz.results25 [0]
 obtain⟨bI,hL2,hr⟩:=aF hr
 refine zz ?_
 refine aOk<|aOt (fun m s h=> ∃(gV vi:Int)(aI:List ByteArray),b5 N aV m gV vi aI=some bI∧Ghost 0 s h (aE 35 [(0,(eS aV)),(3,(.sl 0 0 aI.length 1 false)),(4,(eI .i64 gV)),(5,(eI .i64 vi))]) [some ⟨9,aI.map eS⟩]) (n:=N) ⟨0,0,[],hL2,(zW 9 [0])⟩ (by rintro s h ⟨_,_,_,h0,_⟩;simp[b5]at h0) ?_
 rintro m2 s h ⟨gV,vi,aI,hr2,hg⟩
 refine aOr hg ?_
 clear hg hL2
 rw[b5]at hr2
 refine aOl ?_
 refine zz ?_
 refine zk hr2 rfl (fun h1 hr2=> ?_) (fun h1 hr2=> ?_)
 ·refine zz ?_
  refine aOn fun K3 hK3 hG3=> ?_
  have J3: ∀(fD:Int)(bC:List ByteArray),fW N aV vi (b5 N aV m2) fD bC=some bI→K3 (aE 35 [(0,(eS aV)),(3,(.sl 0 0 bC.length 1 false)),(4,(eI .i64 fD)),(5,(eI .i64 vi))]) [some ⟨9,bC.map eS⟩]:=by
   intro fD bC hr2
   unfold fW at hr2
   refine hK3 _ _ ?_
   refine zz ?_
   exact⟨fD,aOi.wrap (vi+1),bC,hr2,(zG [0])⟩
  refine aOk<|aOl ?_
  refine aOn fun K4 hK4 hG4=> ?_
  have J4: ∀(x21:Bool),iO N aV gV vi aI (b5 N aV m2) x21=some bI→K4 (aE 35 [(0,(eS aV)),(3,(.sl 0 0 aI.length 1 false)),(4,(eI .i64 gV)),(5,(eI .i64 vi)),(21,(eB x21))]) [some ⟨9,aI.map eS⟩]:=by
   intro x21 hr2
   unfold iO at hr2
   refine hK4 _ _ ?_
   refine zk hr2 rfl (fun h2 hr2=> ?_) (fun h2 hr2=> ?_)
   ·refine zz ?_
    exact hG3 _ _ _ _ (zG [0]) (J3 gV aI hr2)
   refine zz ?_
   refine aOn fun K5 hK5 hG5=> ?_
   have J5: ∀(bO:List ByteArray),eR N aV vi (b5 N aV m2) bO=some bI→K5 (aE 35 [(0,(eS aV)),(3,(.sl 0 0 bO.length 1 false)),(5,(eI .i64 vi))]) [some ⟨9,bO.map eS⟩]:=by
    intro bO hr2
    unfold eR at hr2
    refine hK5 _ _ ?_
    refine zz ?_
    exact hG3 _ _ _ _ (zG [0]) (J3 (aOi.wrap (vi+1)) bO hr2)
   refine zz ?_
   refine zk hr2 rfl (fun h3 hr2=> ?_) (fun h3 hr2=> ?_)
   ·obtain⟨x29,h_4,hr2⟩:=aF hr2
    obtain⟨x31,h_5,hr2⟩:=aF hr2
    refine zz ?_
    refine xw (v:=(eS x29)) (cK rfl rfl rfl (slT eT rfl rfl h_4)) ?_
    refine xw (v:=(.sl 1 0 1 1 false)) (h':=[some ⟨9,aI.map eS⟩,some ⟨9,[x29].map eS⟩]) (b8 rfl (jV (xs:=[x29].map eS) yH eT zl zl rfl rfl rfl rfl rfl rfl rfl)) ?_
    refine zz ?_
    exact hG5 _ _ _ _ (zG [2]) (J5 x31 hr2)
   refine zz ?_
   exact hG5 _ _ _ _ (zG [0]) (J5 aI hr2)
  rcases aOj (decide (vi<(aV.size:Int)))with h6|h6
  ·replace hr2:=dI hr2 h6
   obtain⟨x19,h_7,hr2⟩:=aF hr2
   refine xr ?_
   refine zz ?_
   refine vW (v:=(eI .u8 x19)) rfl rfl h6 (mV rfl rfl (sM eT h_7)) ?_
   refine zz ?_
   exact hG4 _ _ _ _ (zG [0]) (J4 (x19 != 32) hr2)
  replace hr2:=dE hr2 h6
  refine xr ?_
  refine zz ?_
  exact hG4 _ _ _ _ (zG [0]) (J4 false hr2)
 refine zz ?_
 obtain rfl:=sj hr2
 refine zz ?_
 exact hG1 _ _ _ _ (zG [0]) (J1 aI hr)
theorem aDb {N:Nat}{l:List ByteArray}{r:Int×Int×Int×Int×Bool}(hr:oI N l=some r):Vm.Fn Tryz.prog 26 [] [(.row none 1 (l.map eS))] (.tup [(.agg [(eI .i64 r.1),(eI .i64 r.2.1),(eI .i64 r.2.2.1),(eI .i64 r.2.2.2.1)]),(eB r.2.2.2.2)]) []:=aFw (fun h=>aAK h) (fun h=>wD h) hr
theorem aBm {N:Nat}{vs:ByteArray}{r:(List aC)×Int×Int}(hr:nO N vs=some r):
  Vm.Fn Tryz.prog 10 [] [(eS vs)] (.tup [(.sl 0 0 r.1.length 4 true),(eI .i64 r.2.1),(eI .i64 r.2.2)]) [some ⟨39,r.1.flatMap aJ⟩]:=by
 refine zf Tryz.func10 Tryz.ntmps10 ?_
 unfold nO at hr
 refine zz ?_
 refine aOl ?_
 refine zz ?_
 refine zk hr rfl (fun h1 hr=> ?_) (fun h1 hr=> ?_)
 ·refine zz ?_
  obtain rfl:=sj hr
  exact zS Tryz.results10 cJ cJ cJ (zW 39 [0])
 obtain⟨x15,h_2,hr⟩:=aF hr
 refine zz ?_
 refine zc (aA9 h_2) [] ?_
 refine zz ?_
 refine aOn fun K1 hK1 hG1=> ?_
 have J1: ∀(l0:List aC),pO N x15 l0=some r→K1 (aE 56 [(5,(.sl 0 0 l0.length 4 true)),(6,(.sl 1 0 x15.length 1 false))]) [some ⟨39,l0.flatMap aJ⟩,some ⟨9,x15.map eS⟩]:=by
  intro l0 hr
  unfold pO at hr
  refine hK1 _ _ ?_
  refine zz ?_
  obtain rfl:=sj hr
  exact zd3 Tryz.results10 [0]
 obtain⟨bI,hL2,hr⟩:=aF hr
 refine zz ?_
 refine aOk<|aOt (fun m s h=> ∃(vi:Int)(aI:List aC),bX N x15 m vi aI=some bI∧Ghost 0 s h (aE 56 [(5,(.sl 0 0 aI.length 4 true)),(6,(.sl 1 0 x15.length 1 false)),(7,(eI .i64 vi))]) [some ⟨39,aI.flatMap aJ⟩,some ⟨9,x15.map eS⟩]) (n:=N) ⟨0,[],hL2,(zW 39 [1,0])⟩ (by rintro s h ⟨_,_,h0,_⟩;simp[bX]at h0) ?_
 rintro m2 s h ⟨vi,aI,hr2,hg⟩
 refine aOr hg ?_
 clear hg hL2
 rw[bX]at hr2
 refine aOl ?_
 refine zz ?_
 refine zk hr2 rfl (fun h3 hr2=> ?_) (fun h3 hr2=> ?_)
 ·refine zz ?_
  refine aOn fun K3 hK3 hG3=> ?_
  have J3: ∀(bC:List aC),f9 N x15 vi (bX N x15 m2) bC=some bI→K3 (aE 56 [(5,(.sl 0 0 bC.length 4 true)),(6,(.sl 1 0 x15.length 1 false)),(7,(eI .i64 vi))]) [some ⟨39,bC.flatMap aJ⟩,some ⟨9,x15.map eS⟩]:=by
   intro bC hr2
   unfold f9 at hr2
   refine hK3 _ _ ?_
   refine zz ?_
   exact⟨aOi.wrap (vi+1),bC,hr2,(zG [0,1])⟩
  refine aOk ?_
  obtain⟨x24,h_4,hr2⟩:=aF hr2
  obtain⟨x26,h_5,hr2⟩:=aF hr2
  refine zz ?_
  refine zc (aBq h_5) [] ?_
  refine zz ?_
  refine aOl ?_
  refine aOn fun K4 hK4 hG4=> ?_
  have J4: ∀(x36:Bool),iQ N x15 vi aI x26 (bX N x15 m2) x36=some bI→K4 (aE 56 [(5,(.sl 0 0 aI.length 4 true)),(6,(.sl 1 0 x15.length 1 false)),(7,(eI .i64 vi)),(8,(.sl 2 0 x26.length 1 false)),(36,(eB x36))]) [some ⟨39,aI.flatMap aJ⟩,some ⟨9,x15.map eS⟩,some ⟨9,x26.map eS⟩]:=by
   intro x36 hr2
   unfold iQ at hr2
   refine hK4 _ _ ?_
   refine zk hr2 rfl (fun h6 hr2=> ?_) (fun h6 hr2=> ?_)
   ·refine zz ?_
    exact hG3 _ _ _ _ (zG [0,1]) (J3 aI hr2)
   obtain⟨x39,h_7,hr2⟩:=aF hr2
   refine zz ?_
   refine zcL (aDb h_7) [] [2] ?_
   refine zz ?_
   refine aOl ?_
   refine zz ?_
   refine zk hr2 rfl (fun h8 hr2=> ?_) (fun h8 hr2=> ?_)
   ·refine zz ?_
    obtain rfl:=sj hr2
    obtain rfl:=sj hr
    exact zS Tryz.results10 cJ cJ cJ (zW 39 [4])
   refine zz ?_
   refine aOl ?_
   refine zz ?_
   refine zk hr2 rfl (fun h9 hr2=> ?_) (fun h9 hr2=> ?_)
   ·refine zz ?_
    obtain rfl:=sj hr2
    obtain rfl:=sj hr
    exact zS Tryz.results10 cJ cJ cJ (zW 39 [4])
   obtain⟨x52,h_10,hr2⟩:=aF hr2
   refine zz ?_
   refine xw (v:=(.sl 4 0 1 4 true)) (h':=[some ⟨39,aI.flatMap aJ⟩,some ⟨9,x15.map eS⟩,some ⟨9,x26.map eS⟩,some ⟨39,[(eI .i64 x39.1),(eI .i64 x39.2.1),(eI .i64 x39.2.2.1),(eI .i64 x39.2.2.2.1)]⟩,some ⟨39,[(aC.mk x39.1 x39.2.1 x39.2.2.1 x39.2.2.2.1)].flatMap aJ⟩]) (b8 rfl (aCu (C:=aJ) (xs:=[(aC.mk x39.1 x39.2.1 x39.2.2.1 x39.2.2.2.1)]) (K:=4) (fun _=>rfl) (fun _=>rfl) aDh o5 ⟨zl,zl,zl⟩ rfl rfl rfl rfl rfl rfl)) ?_
   refine zz ?_
   exact hG3 _ _ _ _ (zG [5,1]) (J3 x52 hr2)
  rcases aOj ((x26.length:Int) == 0)with h11|h11
  ·replace hr2:=dI hr2 h11
   refine xr ?_
   refine zz ?_
   exact hG4 _ _ _ _ (zG [0,1,2]) (J4 true hr2)
  replace hr2:=dE hr2 h11
  obtain⟨x32,h_12,hr2⟩:=aF hr2
  obtain⟨x34,h_13,hr2⟩:=aF hr2
  refine xr ?_
  refine zz ?_
  refine vW (v:=(eI .u8 x34)) rfl rfl h11 (mV rfl rfl (sM eT h_13)) ?_
  refine zz ?_
  exact hG4 _ _ _ _ (zG [0,1,2]) (J4 (x34 == 35) hr2)
 refine zz ?_
 obtain rfl:=sj hr2
 refine zz ?_
 exact hG1 _ _ _ _ (zG [0,1]) (J1 aI hr)
theorem tE {N:Nat}{l:List Int}{r:ByteArray}(hr:l8 N l=some r):
  Vm.Fn Tryz.prog 8 [] [(.row none 1 (l.map (eI .i64)))] (eS r) []:=by
 refine zf Tryz.func8 Tryz.ntmps8 ?_
 unfold l8 at hr
 obtain⟨x10,h_1,hr⟩:=aF hr
 refine zz ?_
 refine zc (tO h_1) [] ?_
 obtain⟨x13,h_2,hr⟩:=aF hr
 obtain⟨x14,h_3,hr⟩:=aF hr
 refine zz ?_
 refine zc (q4 h_2) [0] ?_
 refine zcL (tA h_3) [] [1] ?_
 obtain⟨x18,h_4,hr⟩:=aF hr
 obtain⟨x19,h_5,hr⟩:=aF hr
 refine zz ?_
 refine xw (v:=(eS x18)) (gC rfl rfl (pJ _ _ _ h_4)) ?_
 refine aMZ (i:=2) (h':=[some ⟨88,[(.row none 1 (x13.2.1.map (eI .i64))),(eI .i64 x13.2.2)]⟩,some ⟨39,x13.1.flatMap aJ⟩,some ⟨5,x19.map (eI .u8)⟩]) rfl eT bJ cG h_5 rfl rfl (xOf ?_)
 refine zz ?_
 refine aOn fun K1 hK1 hG1=> ?_
 have J1: ∀(l0:List Int),lK N l0=some r→K1 (aE 72 [(6,(.sl 0 0 l0.length 1 false))]) [some ⟨5,l0.map (eI .u8)⟩]:=by
  intro l0 hr
  unfold lK at hr
  refine hK1 _ _ ?_
  refine zz ?_
  refine xw (v:=(eS (mO l0))) (xJ rfl (aCj bJ eT cG (k9 rfl rfl))) ?_
  refine zz ?_
  obtain rfl:=sj hr
  exact dZ Tryz.results8 []
 obtain⟨bI,hL2,hr⟩:=aF hr
 refine zz ?_
 refine aOk<|aOt (fun m s h=> ∃(vi:Int)(c0:List Int)(k5:Int)(l1:List Int),cF N m vi c0 k5 l1=some bI∧Ghost 0 s h (aE 72 [(3,(.ptr 0 0)),(6,(.sl 1 0 l1.length 1 false)),(7,(eI .i64 vi))]) [some ⟨88,[(.row none 1 (c0.map (eI .i64))),(eI .i64 k5)]⟩,some ⟨5,l1.map (eI .u8)⟩]) (n:=N) ⟨0,x13.2.1,x13.2.2,x19,hL2,(zG [0,2])⟩ (by rintro s h ⟨_,_,_,_,h0,_⟩;simp[cF]at h0) ?_
 rintro m2 s h ⟨vi,c0,k5,l1,hr2,hg⟩
 refine aOr hg ?_
 clear hg hL2
 rw[cF]at hr2
 refine aOl ?_
 refine aOn fun K3 hK3 hG3=> ?_
 have J3: ∀(x25:Bool),fB N vi c0 k5 l1 (cF N m2) x25=some bI→K3 (aE 72 [(3,(.ptr 0 0)),(6,(.sl 1 0 l1.length 1 false)),(7,(eI .i64 vi)),(25,(eB x25))]) [some ⟨88,[(.row none 1 (c0.map (eI .i64))),(eI .i64 k5)]⟩,some ⟨5,l1.map (eI .u8)⟩]:=by
  intro x25 hr2
  unfold fB at hr2
  refine hK3 _ _ ?_
  refine zk hr2 rfl (fun h6 hr2=> ?_) (fun h6 hr2=> ?_)
  ·refine zz ?_
   refine aOn fun K4 hK4 hG4=> ?_
   have J4: ∀(o9:List Int)(o7:Int)(bD:List Int),eH N vi (cF N m2) o9 o7 bD=some bI→K4 (aE 72 [(3,(.ptr 0 0)),(6,(.sl 1 0 bD.length 1 false)),(7,(eI .i64 vi))]) [some ⟨88,[(.row none 1 (o9.map (eI .i64))),(eI .i64 o7)]⟩,some ⟨5,bD.map (eI .u8)⟩]:=by
    intro o9 o7 bD hr2
    unfold eH at hr2
    refine hK4 _ _ ?_
    refine zz ?_
    exact⟨aOi.wrap (vi+1),o9,o7,bD,hr2,(zG [0,1])⟩
   refine aOk ?_
   obtain⟨x31,h_7,hr2⟩:=aF hr2
   refine zz ?_
   refine zc (eE h_7) [0] ?_
   obtain⟨x33,h_8,hr2⟩:=aF hr2
   refine zz ?_
   refine zc (eE h_8) [0] ?_
   refine zz ?_
   refine aOk ?_
   refine zz ?_
   refine zk hr2 rfl (fun h9 hr2=> ?_) (fun h9 hr2=> ?_)
   ·obtain⟨x41,h_10,hr2⟩:=aF hr2
    obtain⟨x42,h_11,hr2⟩:=aF hr2
    obtain⟨x44,h_12,hr2⟩:=aF hr2
    refine zz ?_
    refine aMe rfl rfl bJ cG (by decide) (xOf ?_)
    refine zz ?_
    refine zc (eE h_10) [0] ?_
    refine xHp (h':=[some ⟨88,[(.row none 1 (x41.2.1.map (eI .i64))),(eI .i64 x41.2.2)]⟩,some ⟨5,l1.map (eI .u8)⟩,some ⟨5,[32,48,45,35,10,120,57].map (eI .u8)⟩]) rfl ?_
    refine zz ?_
    exact hG4 _ _ _ _ (oD [0,1]) (J4 x41.2.1 x41.2.2 (l1.set (aOz x31.1) x42) hr2)
   refine zz ?_
   refine zk hr2 rfl (fun h13 hr2=> ?_) (fun h13 hr2=> ?_)
   ·refine aOr (zv 1) ?_
    obtain⟨x50,h_14,hr2⟩:=aF hr2
    obtain⟨x51,h_15,hr2⟩:=aF hr2
    obtain⟨x53,h_16,hr2⟩:=aF hr2
    obtain⟨x56,h_17,hr2⟩:=aF hr2
    obtain⟨x57,h_18,hr2⟩:=aF hr2
    refine aO3 (eN []) (eN []) mixed<|aOh (n:=11) (i:=1) (by decide +kernel) rfl (gS (v:=(.row none 1 (l1.map (eI .u8)))) (sv (kP rfl)))<|aOh (n:=10) (i:=2) (by decide +kernel) rfl (gS (v:=(eI .i64 x31.1)) (sv (kP rfl)))<|aOh (n:=9) (i:=3) (by decide +kernel) rfl (gS (v:=(.row none 1 (x50.map (eI .u8)))) (sv (cK rfl rfl rfl (rS bJ cG rfl rfl h_14))))<|aOh (n:=8) (i:=7) (by decide +kernel) rfl (gS (v:=(.row none 1 (l1.map (eI .u8)))) (sv (kP rfl)))<|aOh (n:=7) (i:=8) (by decide +kernel) rfl (gS (v:=(eI .i64 x31.1)) (sv (kP rfl))) ?_
    refine aOW (m:=2) (L:=lst [0,1,2,3,4,5,6,7,8,9] 12) (s1:=aE 72 [(3,(.ptr 0 0)),(6,(.row none 1 (l1.map (eI .u8)))),(7,(eI .i64 vi)),(53,(.sl 1 0 x53.length 1 false)),(56,(.row none 1 (x56.map (eI .u8))))]) (h1:=[some ⟨88,[(.row none 1 (x33.2.1.map (eI .i64))),(eI .i64 x33.2.2)]⟩,some ⟨5,x53.map (eI .u8)⟩]) ?_ (fun J=> ?_)
    ·refine aOh (n:=1) (i:=10) (by decide +kernel) rfl (gS (v:=(.sl 2 0 x57.length 1 false)) (h':=[some ⟨88,[(.row none 1 (x33.2.1.map (eI .i64))),(eI .i64 x33.2.2)]⟩,none,some ⟨5,x57.map (eI .u8)⟩]) (sv (bH rfl rfl (fL (E:=(eI .u8)) rfl bJ cG ⟨rfl,rfl,zl⟩ rfl (mZ (fun _=>rfl)) h_18 rfl rfl))))<|aOh (n:=0) (i:=11) (by decide +kernel) rfl (gS (v:=(.sl 2 0 x57.length 1 false)) (sv (kH rfl)))<|aOH (by decide +kernel) ?_
     refine zz ?_
     exact hG4 _ _ _ _ (zG [0,2]) (J4 x33.2.1 x33.2.2 x57 hr2)
    refine aOx (n:=6) [0,5,9] (by decide +kernel) (by decide) ?_
    refine(aOq rfl (gS (v:=(.sl 2 0 0 1 false)) (h':=[some ⟨88,[(.row none 1 (x33.2.1.map (eI .i64))),(eI .i64 x33.2.2)]⟩,none,some ⟨5,[].map (eI .u8)⟩]) (sv (b8 rfl (aAz bJ cG rfl rfl rfl rfl)))) ?_ (aOq rfl (gS (v:=(.sl 2 0 1 1 false)) (h':=[some ⟨88,[(.row none 1 (x33.2.1.map (eI .i64))),(eI .i64 x33.2.2)]⟩,none,some ⟨5,[32].map (eI .u8)⟩]) (sv (b8 rfl (jV (xs:=[32].map (eI .u8)) bJ cG zl zl rfl rfl rfl rfl rfl rfl rfl)))) ?_ (aOq rfl (gS (v:=(.row none 1 (x56.map (eI .u8)))) (sv (cK rfl rfl rfl (rS bJ cG rfl rfl h_17)))) ?_ aOB)))
    ·refine aOx (n:=5) [4,5,9] (by decide +kernel) (by decide) ?_
     refine(aOq rfl (gS (v:=(.sl 3 0 x51.length 1 false)) (h':=[some ⟨88,[(.row none 1 (x33.2.1.map (eI .i64))),(eI .i64 x33.2.2)]⟩,none,none,some ⟨5,x51.map (eI .u8)⟩]) (sv (bH rfl rfl (fL (E:=(eI .u8)) rfl bJ cG ⟨rfl,rfl,zl⟩ rfl (mZ (fun _=>rfl)) h_15 rfl rfl)))) ?_ (aOq rfl (gS (v:=(.sl 3 0 1 1 false)) (h':=[some ⟨88,[(.row none 1 (x33.2.1.map (eI .i64))),(eI .i64 x33.2.2)]⟩,none,some ⟨5,[].map (eI .u8)⟩,some ⟨5,[32].map (eI .u8)⟩]) (sv (b8 rfl (jV (xs:=[32].map (eI .u8)) bJ cG zl zl rfl rfl rfl rfl rfl rfl rfl)))) ?_ (aOq rfl (gS (v:=(.row none 1 (x56.map (eI .u8)))) (sv (cK rfl rfl rfl (rS bJ cG rfl rfl h_17)))) ?_ aOB)))
     ·refine aOh (n:=4) (i:=5) (by decide +kernel) rfl (gS (v:=(.sl 4 0 1 1 false)) (h':=[some ⟨88,[(.row none 1 (x33.2.1.map (eI .i64))),(eI .i64 x33.2.2)]⟩,none,none,some ⟨5,x51.map (eI .u8)⟩,some ⟨5,[32].map (eI .u8)⟩]) (sv (b8 rfl (jV (xs:=[32].map (eI .u8)) bJ cG zl zl rfl rfl rfl rfl rfl rfl rfl))))<|aOx (n:=3) [6,9] (by decide +kernel) (by decide) ?_
      refine(aOq rfl (gS (v:=(.sl 5 0 x53.length 1 false)) (h':=[some ⟨88,[(.row none 1 (x33.2.1.map (eI .i64))),(eI .i64 x33.2.2)]⟩,none,none,none,some ⟨5,[32].map (eI .u8)⟩,some ⟨5,x53.map (eI .u8)⟩]) (sv (bH rfl rfl (fL (E:=(eI .u8)) rfl bJ cG ⟨rfl,rfl,zl⟩ rfl (k9 rfl rfl) h_16 rfl rfl)))) ?_ (aOq rfl (gS (v:=(.row none 1 (x56.map (eI .u8)))) (sv (cK rfl rfl rfl (rS bJ cG rfl rfl h_17)))) ?_ aOB))
      ·refine aOh (n:=2) (i:=9) (by decide +kernel) rfl (gS (v:=(.row none 1 (x56.map (eI .u8)))) (sv (cK rfl rfl rfl (rS bJ cG rfl rfl h_17)))) ?_
       exact aOw (by decide +kernel) (by decide +kernel) (zG [0,5]) J
      refine aOh (n:=2) (i:=6) (by decide +kernel) rfl (gS (v:=(.sl 5 0 x53.length 1 false)) (h':=[some ⟨88,[(.row none 1 (x33.2.1.map (eI .i64))),(eI .i64 x33.2.2)]⟩,none,none,none,some ⟨5,[32].map (eI .u8)⟩,some ⟨5,x53.map (eI .u8)⟩]) (sv (bH rfl rfl (fL (E:=(eI .u8)) rfl bJ cG ⟨rfl,rfl,zl⟩ rfl (k9 rfl rfl) h_16 rfl rfl)))) ?_
      exact aOw (by decide +kernel) (by decide +kernel) (zG [0,5]) J
     ·refine aOx (n:=4) [4,9] (by decide +kernel) (by decide) ?_
      refine(aOq rfl (gS (v:=(.sl 4 0 x51.length 1 false)) (h':=[some ⟨88,[(.row none 1 (x33.2.1.map (eI .i64))),(eI .i64 x33.2.2)]⟩,none,none,some ⟨5,[32].map (eI .u8)⟩,some ⟨5,x51.map (eI .u8)⟩]) (sv (bH rfl rfl (fL (E:=(eI .u8)) rfl bJ cG ⟨rfl,rfl,zl⟩ rfl (mZ (fun _=>rfl)) h_15 rfl rfl)))) ?_ (aOq rfl (gS (v:=(.row none 1 (x56.map (eI .u8)))) (sv (cK rfl rfl rfl (rS bJ cG rfl rfl h_17)))) ?_ aOB))
      ·refine aOx (n:=3) [6,9] (by decide +kernel) (by decide) ?_
       refine(aOq rfl (gS (v:=(.sl 5 0 x53.length 1 false)) (h':=[some ⟨88,[(.row none 1 (x33.2.1.map (eI .i64))),(eI .i64 x33.2.2)]⟩,none,none,some ⟨5,[32].map (eI .u8)⟩,none,some ⟨5,x53.map (eI .u8)⟩]) (sv (bH rfl rfl (fL (E:=(eI .u8)) rfl bJ cG ⟨rfl,rfl,zl⟩ rfl (k9 rfl rfl) h_16 rfl rfl)))) ?_ (aOq rfl (gS (v:=(.row none 1 (x56.map (eI .u8)))) (sv (cK rfl rfl rfl (rS bJ cG rfl rfl h_17)))) ?_ aOB))
       ·refine aOh (n:=2) (i:=9) (by decide +kernel) rfl (gS (v:=(.row none 1 (x56.map (eI .u8)))) (sv (cK rfl rfl rfl (rS bJ cG rfl rfl h_17)))) ?_
        exact aOw (by decide +kernel) (by decide +kernel) (zG [0,5]) J
       refine aOh (n:=2) (i:=6) (by decide +kernel) rfl (gS (v:=(.sl 5 0 x53.length 1 false)) (h':=[some ⟨88,[(.row none 1 (x33.2.1.map (eI .i64))),(eI .i64 x33.2.2)]⟩,none,none,some ⟨5,[32].map (eI .u8)⟩,none,some ⟨5,x53.map (eI .u8)⟩]) (sv (bH rfl rfl (fL (E:=(eI .u8)) rfl bJ cG ⟨rfl,rfl,zl⟩ rfl (k9 rfl rfl) h_16 rfl rfl)))) ?_
       exact aOw (by decide +kernel) (by decide +kernel) (zG [0,5]) J
      refine aOh (n:=3) (i:=4) (by decide +kernel) rfl (gS (v:=(.sl 4 0 x51.length 1 false)) (h':=[some ⟨88,[(.row none 1 (x33.2.1.map (eI .i64))),(eI .i64 x33.2.2)]⟩,none,none,some ⟨5,[32].map (eI .u8)⟩,some ⟨5,x51.map (eI .u8)⟩]) (sv (bH rfl rfl (fL (E:=(eI .u8)) rfl bJ cG ⟨rfl,rfl,zl⟩ rfl (mZ (fun _=>rfl)) h_15 rfl rfl))))<|aOh (n:=2) (i:=6) (by decide +kernel) rfl (gS (v:=(.sl 5 0 x53.length 1 false)) (h':=[some ⟨88,[(.row none 1 (x33.2.1.map (eI .i64))),(eI .i64 x33.2.2)]⟩,none,none,some ⟨5,[32].map (eI .u8)⟩,none,some ⟨5,x53.map (eI .u8)⟩]) (sv (bH rfl rfl (fL (E:=(eI .u8)) rfl bJ cG ⟨rfl,rfl,zl⟩ rfl (k9 rfl rfl) h_16 rfl rfl)))) ?_
      exact aOw (by decide +kernel) (by decide +kernel) (zG [0,5]) J
     refine aOx (n:=4) [4,5] (by decide +kernel) (by decide) ?_
     refine(aOq rfl (gS (v:=(.sl 3 0 x51.length 1 false)) (h':=[some ⟨88,[(.row none 1 (x33.2.1.map (eI .i64))),(eI .i64 x33.2.2)]⟩,none,none,some ⟨5,x51.map (eI .u8)⟩]) (sv (bH rfl rfl (fL (E:=(eI .u8)) rfl bJ cG ⟨rfl,rfl,zl⟩ rfl (mZ (fun _=>rfl)) h_15 rfl rfl)))) ?_ (aOq rfl (gS (v:=(.sl 3 0 1 1 false)) (h':=[some ⟨88,[(.row none 1 (x33.2.1.map (eI .i64))),(eI .i64 x33.2.2)]⟩,none,some ⟨5,[].map (eI .u8)⟩,some ⟨5,[32].map (eI .u8)⟩]) (sv (b8 rfl (jV (xs:=[32].map (eI .u8)) bJ cG zl zl rfl rfl rfl rfl rfl rfl rfl)))) ?_ aOB))
     ·refine aOh (n:=3) (i:=5) (by decide +kernel) rfl (gS (v:=(.sl 4 0 1 1 false)) (h':=[some ⟨88,[(.row none 1 (x33.2.1.map (eI .i64))),(eI .i64 x33.2.2)]⟩,none,none,some ⟨5,x51.map (eI .u8)⟩,some ⟨5,[32].map (eI .u8)⟩]) (sv (b8 rfl (jV (xs:=[32].map (eI .u8)) bJ cG zl zl rfl rfl rfl rfl rfl rfl rfl))))<|aOh (n:=2) (i:=6) (by decide +kernel) rfl (gS (v:=(.sl 5 0 x53.length 1 false)) (h':=[some ⟨88,[(.row none 1 (x33.2.1.map (eI .i64))),(eI .i64 x33.2.2)]⟩,none,none,none,some ⟨5,[32].map (eI .u8)⟩,some ⟨5,x53.map (eI .u8)⟩]) (sv (bH rfl rfl (fL (E:=(eI .u8)) rfl bJ cG ⟨rfl,rfl,zl⟩ rfl (k9 rfl rfl) h_16 rfl rfl)))) ?_
      exact aOw (by decide +kernel) (by decide +kernel) (zG [0,5]) J
     refine aOh (n:=3) (i:=4) (by decide +kernel) rfl (gS (v:=(.sl 4 0 x51.length 1 false)) (h':=[some ⟨88,[(.row none 1 (x33.2.1.map (eI .i64))),(eI .i64 x33.2.2)]⟩,none,none,some ⟨5,[32].map (eI .u8)⟩,some ⟨5,x51.map (eI .u8)⟩]) (sv (bH rfl rfl (fL (E:=(eI .u8)) rfl bJ cG ⟨rfl,rfl,zl⟩ rfl (mZ (fun _=>rfl)) h_15 rfl rfl))))<|aOh (n:=2) (i:=6) (by decide +kernel) rfl (gS (v:=(.sl 5 0 x53.length 1 false)) (h':=[some ⟨88,[(.row none 1 (x33.2.1.map (eI .i64))),(eI .i64 x33.2.2)]⟩,none,none,some ⟨5,[32].map (eI .u8)⟩,none,some ⟨5,x53.map (eI .u8)⟩]) (sv (bH rfl rfl (fL (E:=(eI .u8)) rfl bJ cG ⟨rfl,rfl,zl⟩ rfl (k9 rfl rfl) h_16 rfl rfl)))) ?_
     exact aOw (by decide +kernel) (by decide +kernel) (zG [0,5]) J
    ·refine aOh (n:=5) (i:=0) (by decide +kernel) rfl (gS (v:=(.sl 3 0 0 1 false)) (h':=[some ⟨88,[(.row none 1 (x33.2.1.map (eI .i64))),(eI .i64 x33.2.2)]⟩,none,some ⟨5,[32].map (eI .u8)⟩,some ⟨5,[].map (eI .u8)⟩]) (sv (b8 rfl (aAz bJ cG rfl rfl rfl rfl))))<|aOx (n:=4) [4,9] (by decide +kernel) (by decide) ?_
     refine(aOq rfl (gS (v:=(.sl 4 0 x51.length 1 false)) (h':=[some ⟨88,[(.row none 1 (x33.2.1.map (eI .i64))),(eI .i64 x33.2.2)]⟩,none,some ⟨5,[32].map (eI .u8)⟩,none,some ⟨5,x51.map (eI .u8)⟩]) (sv (bH rfl rfl (fL (E:=(eI .u8)) rfl bJ cG ⟨rfl,rfl,zl⟩ rfl (mZ (fun _=>rfl)) h_15 rfl rfl)))) ?_ (aOq rfl (gS (v:=(.row none 1 (x56.map (eI .u8)))) (sv (cK rfl rfl rfl (rS bJ cG rfl rfl h_17)))) ?_ aOB))
     ·refine aOx (n:=3) [6,9] (by decide +kernel) (by decide) ?_
      refine(aOq rfl (gS (v:=(.sl 5 0 x53.length 1 false)) (h':=[some ⟨88,[(.row none 1 (x33.2.1.map (eI .i64))),(eI .i64 x33.2.2)]⟩,none,some ⟨5,[32].map (eI .u8)⟩,none,none,some ⟨5,x53.map (eI .u8)⟩]) (sv (bH rfl rfl (fL (E:=(eI .u8)) rfl bJ cG ⟨rfl,rfl,zl⟩ rfl (k9 rfl rfl) h_16 rfl rfl)))) ?_ (aOq rfl (gS (v:=(.row none 1 (x56.map (eI .u8)))) (sv (cK rfl rfl rfl (rS bJ cG rfl rfl h_17)))) ?_ aOB))
      ·refine aOh (n:=2) (i:=9) (by decide +kernel) rfl (gS (v:=(.row none 1 (x56.map (eI .u8)))) (sv (cK rfl rfl rfl (rS bJ cG rfl rfl h_17)))) ?_
       exact aOw (by decide +kernel) (by decide +kernel) (zG [0,5]) J
      refine aOh (n:=2) (i:=6) (by decide +kernel) rfl (gS (v:=(.sl 5 0 x53.length 1 false)) (h':=[some ⟨88,[(.row none 1 (x33.2.1.map (eI .i64))),(eI .i64 x33.2.2)]⟩,none,some ⟨5,[32].map (eI .u8)⟩,none,none,some ⟨5,x53.map (eI .u8)⟩]) (sv (bH rfl rfl (fL (E:=(eI .u8)) rfl bJ cG ⟨rfl,rfl,zl⟩ rfl (k9 rfl rfl) h_16 rfl rfl)))) ?_
      exact aOw (by decide +kernel) (by decide +kernel) (zG [0,5]) J
     refine aOh (n:=3) (i:=4) (by decide +kernel) rfl (gS (v:=(.sl 4 0 x51.length 1 false)) (h':=[some ⟨88,[(.row none 1 (x33.2.1.map (eI .i64))),(eI .i64 x33.2.2)]⟩,none,some ⟨5,[32].map (eI .u8)⟩,none,some ⟨5,x51.map (eI .u8)⟩]) (sv (bH rfl rfl (fL (E:=(eI .u8)) rfl bJ cG ⟨rfl,rfl,zl⟩ rfl (mZ (fun _=>rfl)) h_15 rfl rfl))))<|aOh (n:=2) (i:=6) (by decide +kernel) rfl (gS (v:=(.sl 5 0 x53.length 1 false)) (h':=[some ⟨88,[(.row none 1 (x33.2.1.map (eI .i64))),(eI .i64 x33.2.2)]⟩,none,some ⟨5,[32].map (eI .u8)⟩,none,none,some ⟨5,x53.map (eI .u8)⟩]) (sv (bH rfl rfl (fL (E:=(eI .u8)) rfl bJ cG ⟨rfl,rfl,zl⟩ rfl (k9 rfl rfl) h_16 rfl rfl)))) ?_
     exact aOw (by decide +kernel) (by decide +kernel) (zG [0,5]) J
    refine aOx (n:=5) [0,5] (by decide +kernel) (by decide) ?_
    refine(aOq rfl (gS (v:=(.sl 2 0 0 1 false)) (h':=[some ⟨88,[(.row none 1 (x33.2.1.map (eI .i64))),(eI .i64 x33.2.2)]⟩,none,some ⟨5,[].map (eI .u8)⟩]) (sv (b8 rfl (aAz bJ cG rfl rfl rfl rfl)))) ?_ (aOq rfl (gS (v:=(.sl 2 0 1 1 false)) (h':=[some ⟨88,[(.row none 1 (x33.2.1.map (eI .i64))),(eI .i64 x33.2.2)]⟩,none,some ⟨5,[32].map (eI .u8)⟩]) (sv (b8 rfl (jV (xs:=[32].map (eI .u8)) bJ cG zl zl rfl rfl rfl rfl rfl rfl rfl)))) ?_ aOB))
    ·refine aOx (n:=4) [4,5] (by decide +kernel) (by decide) ?_
     refine(aOq rfl (gS (v:=(.sl 3 0 x51.length 1 false)) (h':=[some ⟨88,[(.row none 1 (x33.2.1.map (eI .i64))),(eI .i64 x33.2.2)]⟩,none,none,some ⟨5,x51.map (eI .u8)⟩]) (sv (bH rfl rfl (fL (E:=(eI .u8)) rfl bJ cG ⟨rfl,rfl,zl⟩ rfl (mZ (fun _=>rfl)) h_15 rfl rfl)))) ?_ (aOq rfl (gS (v:=(.sl 3 0 1 1 false)) (h':=[some ⟨88,[(.row none 1 (x33.2.1.map (eI .i64))),(eI .i64 x33.2.2)]⟩,none,some ⟨5,[].map (eI .u8)⟩,some ⟨5,[32].map (eI .u8)⟩]) (sv (b8 rfl (jV (xs:=[32].map (eI .u8)) bJ cG zl zl rfl rfl rfl rfl rfl rfl rfl)))) ?_ aOB))
     ·refine aOh (n:=3) (i:=5) (by decide +kernel) rfl (gS (v:=(.sl 4 0 1 1 false)) (h':=[some ⟨88,[(.row none 1 (x33.2.1.map (eI .i64))),(eI .i64 x33.2.2)]⟩,none,none,some ⟨5,x51.map (eI .u8)⟩,some ⟨5,[32].map (eI .u8)⟩]) (sv (b8 rfl (jV (xs:=[32].map (eI .u8)) bJ cG zl zl rfl rfl rfl rfl rfl rfl rfl))))<|aOh (n:=2) (i:=6) (by decide +kernel) rfl (gS (v:=(.sl 5 0 x53.length 1 false)) (h':=[some ⟨88,[(.row none 1 (x33.2.1.map (eI .i64))),(eI .i64 x33.2.2)]⟩,none,none,none,some ⟨5,[32].map (eI .u8)⟩,some ⟨5,x53.map (eI .u8)⟩]) (sv (bH rfl rfl (fL (E:=(eI .u8)) rfl bJ cG ⟨rfl,rfl,zl⟩ rfl (k9 rfl rfl) h_16 rfl rfl)))) ?_
      exact aOw (by decide +kernel) (by decide +kernel) (zG [0,5]) J
     refine aOh (n:=3) (i:=4) (by decide +kernel) rfl (gS (v:=(.sl 4 0 x51.length 1 false)) (h':=[some ⟨88,[(.row none 1 (x33.2.1.map (eI .i64))),(eI .i64 x33.2.2)]⟩,none,none,some ⟨5,[32].map (eI .u8)⟩,some ⟨5,x51.map (eI .u8)⟩]) (sv (bH rfl rfl (fL (E:=(eI .u8)) rfl bJ cG ⟨rfl,rfl,zl⟩ rfl (mZ (fun _=>rfl)) h_15 rfl rfl))))<|aOh (n:=2) (i:=6) (by decide +kernel) rfl (gS (v:=(.sl 5 0 x53.length 1 false)) (h':=[some ⟨88,[(.row none 1 (x33.2.1.map (eI .i64))),(eI .i64 x33.2.2)]⟩,none,none,some ⟨5,[32].map (eI .u8)⟩,none,some ⟨5,x53.map (eI .u8)⟩]) (sv (bH rfl rfl (fL (E:=(eI .u8)) rfl bJ cG ⟨rfl,rfl,zl⟩ rfl (k9 rfl rfl) h_16 rfl rfl)))) ?_
     exact aOw (by decide +kernel) (by decide +kernel) (zG [0,5]) J
    refine aOh (n:=4) (i:=0) (by decide +kernel) rfl (gS (v:=(.sl 3 0 0 1 false)) (h':=[some ⟨88,[(.row none 1 (x33.2.1.map (eI .i64))),(eI .i64 x33.2.2)]⟩,none,some ⟨5,[32].map (eI .u8)⟩,some ⟨5,[].map (eI .u8)⟩]) (sv (b8 rfl (aAz bJ cG rfl rfl rfl rfl))))<|aOh (n:=3) (i:=4) (by decide +kernel) rfl (gS (v:=(.sl 4 0 x51.length 1 false)) (h':=[some ⟨88,[(.row none 1 (x33.2.1.map (eI .i64))),(eI .i64 x33.2.2)]⟩,none,some ⟨5,[32].map (eI .u8)⟩,none,some ⟨5,x51.map (eI .u8)⟩]) (sv (bH rfl rfl (fL (E:=(eI .u8)) rfl bJ cG ⟨rfl,rfl,zl⟩ rfl (mZ (fun _=>rfl)) h_15 rfl rfl)))) ?_
    refine aOh (n:=2) (i:=6) (by decide +kernel) rfl (gS (v:=(.sl 5 0 x53.length 1 false)) (h':=[some ⟨88,[(.row none 1 (x33.2.1.map (eI .i64))),(eI .i64 x33.2.2)]⟩,none,some ⟨5,[32].map (eI .u8)⟩,none,none,some ⟨5,x53.map (eI .u8)⟩]) (sv (bH rfl rfl (fL (E:=(eI .u8)) rfl bJ cG ⟨rfl,rfl,zl⟩ rfl (k9 rfl rfl) h_16 rfl rfl)))) ?_
    exact aOw (by decide +kernel) (by decide +kernel) (zG [0,5]) J
   refine zz ?_
   refine zk hr2 rfl (fun h19 hr2=> ?_) (fun h19 hr2=> ?_)
   ·refine aOr (zv 1) ?_
    obtain⟨x63,h_20,hr2⟩:=aF hr2
    obtain⟨x64,h_21,hr2⟩:=aF hr2
    obtain⟨x68,h_22,hr2⟩:=aF hr2
    obtain⟨x69,h_23,hr2⟩:=aF hr2
    refine aO3 (eN []) (eN []) mixed<|aOh (n:=10) (i:=0) (by decide +kernel) rfl (gS (v:=(.sl 2 0 0 1 false)) (h':=[some ⟨88,[(.row none 1 (x33.2.1.map (eI .i64))),(eI .i64 x33.2.2)]⟩,none,some ⟨5,[].map (eI .u8)⟩]) (sv (b8 rfl (aAz bJ cG rfl rfl rfl rfl))))<|aOh (n:=9) (i:=1) (by decide +kernel) rfl (gS (v:=(.row none 1 (l1.map (eI .u8)))) (sv (kP rfl)))<|aOh (n:=8) (i:=2) (by decide +kernel) rfl (gS (v:=(eI .i64 x31.1)) (sv (kP rfl)))<|aOh (n:=7) (i:=3) (by decide +kernel) rfl (gS (v:=(.row none 1 (x63.map (eI .u8)))) (sv (cK rfl rfl rfl (rS bJ cG rfl rfl h_20)))) ?_
    refine aOh (n:=6) (i:=5) (by decide +kernel) rfl (gS (v:=(.row none 1 (l1.map (eI .u8)))) (sv (kP rfl)))<|aOh (n:=5) (i:=6) (by decide +kernel) rfl (gS (v:=(eI .i64 x31.1)) (sv (kP rfl)))<|aOh (n:=4) (i:=7) (by decide +kernel) rfl (gS (v:=(eI .i64 (aOi.wrap (x31.1+1)))) (sv (gC rfl rfl (aEn ..)))) ?_
    refine aOW (m:=2) (L:=lst [0,1,2,3,4,5,6,7,8] 11) (s1:=aE 72 [(3,(.ptr 0 0)),(6,(.row none 1 (l1.map (eI .u8)))),(7,(eI .i64 vi)),(64,(.sl 1 0 x64.length 1 false)),(68,(.row none 1 (x68.map (eI .u8))))]) (h1:=[some ⟨88,[(.row none 1 (x33.2.1.map (eI .i64))),(eI .i64 x33.2.2)]⟩,some ⟨5,x64.map (eI .u8)⟩]) ?_ (fun J=> ?_)
    ·refine aOh (n:=1) (i:=9) (by decide +kernel) rfl (gS (v:=(.sl 2 0 x69.length 1 false)) (h':=[some ⟨88,[(.row none 1 (x33.2.1.map (eI .i64))),(eI .i64 x33.2.2)]⟩,none,some ⟨5,x69.map (eI .u8)⟩]) (sv (bH rfl rfl (fL (E:=(eI .u8)) rfl bJ cG ⟨rfl,rfl,zl⟩ rfl (mZ (fun _=>rfl)) h_23 rfl rfl))))<|aOh (n:=0) (i:=10) (by decide +kernel) rfl (gS (v:=(.sl 2 0 x69.length 1 false)) (sv (kH rfl)))<|aOH (by decide +kernel) ?_
     refine zz ?_
     exact hG4 _ _ _ _ (zG [0,2]) (J4 x33.2.1 x33.2.2 x69 hr2)
    refine aOx (n:=3) [4,8] (by decide +kernel) (by decide) ?_
    refine(aOq rfl (gS (v:=(.sl 3 0 x64.length 1 false)) (h':=[some ⟨88,[(.row none 1 (x33.2.1.map (eI .i64))),(eI .i64 x33.2.2)]⟩,none,none,some ⟨5,x64.map (eI .u8)⟩]) (sv (bH rfl rfl (fL (E:=(eI .u8)) rfl bJ cG ⟨rfl,rfl,zl⟩ rfl (mZ (fun _=>rfl)) h_21 rfl rfl)))) ?_ (aOq rfl (gS (v:=(.row none 1 (x68.map (eI .u8)))) (sv (cK rfl rfl rfl (rS bJ cG rfl rfl h_22)))) ?_ aOB))
    ·refine aOh (n:=2) (i:=8) (by decide +kernel) rfl (gS (v:=(.row none 1 (x68.map (eI .u8)))) (sv (cK rfl rfl rfl (rS bJ cG rfl rfl h_22)))) ?_
     exact aOw (by decide +kernel) (by decide +kernel) (zG [0,3]) J
    refine aOh (n:=2) (i:=4) (by decide +kernel) rfl (gS (v:=(.sl 3 0 x64.length 1 false)) (h':=[some ⟨88,[(.row none 1 (x33.2.1.map (eI .i64))),(eI .i64 x33.2.2)]⟩,none,none,some ⟨5,x64.map (eI .u8)⟩]) (sv (bH rfl rfl (fL (E:=(eI .u8)) rfl bJ cG ⟨rfl,rfl,zl⟩ rfl (mZ (fun _=>rfl)) h_21 rfl rfl)))) ?_
    exact aOw (by decide +kernel) (by decide +kernel) (zG [0,3]) J
   refine zz ?_
   exact hG4 _ _ _ _ (zG [0,1]) (J4 x33.2.1 x33.2.2 l1 hr2)
  refine zz ?_
  obtain rfl:=sj hr2
  refine zz ?_
  exact hG1 _ _ _ _ (zG [1]) (J1 l1 hr)
 rcases aOj (decide (vi<3))with h24|h24
 ·replace hr2:=dI hr2 h24
  obtain⟨x24,h_25,hr2⟩:=aF hr2
  refine xr ?_
  refine zz ?_
  refine xCg (v:=(eB x24)) (h':=[some ⟨88,[(.row none 1 (c0.map (eI .i64))),(eI .i64 k5)]⟩,some ⟨5,l1.map (eI .u8)⟩]) rfl rfl h24 rfl (zB (q6 h_25) [0]) ?_
  refine zz ?_
  exact hG3 _ _ _ _ (zG [0,1]) (J3 x24 hr2)
 replace hr2:=dE hr2 h24
 refine xr ?_
 refine zz ?_
 exact hG3 _ _ _ _ (zG [0,1]) (J3 false hr2)
end Go.Proofs.YtjcfonniipabpaaGreatDoor
namespace Go.Vm
open Go
def aER :Value→Value→Bool
 | .int k a,.int k' b=>decide (k=k')&&decide (a=b)
 | .bool a,.bool b=>decide (a=b)
 | .string a,.string b=>decide (a=b)
 | .pointer none,.pointer none=>true
 | .slice none a b,.slice none c d=>decide (a=c)&&decide (b=d)
 | .nilIface,.nilIface=>true
 | .tuple ⟨[]⟩,.tuple ⟨[]⟩=>true
 |_,_=>false
theorem aGF {a b:Value}(h:aER a b=true):a=b:=by
 unfold aER at h
 split at h
 ·simp only[aOo,decide_eq_true_eq]at h;rw[h.1,h.2]
 ·simp only[decide_eq_true_eq]at h;rw[h]
 ·simp only[decide_eq_true_eq]at h;rw[h]
 ·rfl
 ·simp only[aOo,decide_eq_true_eq]at h;rw[h.1,h.2]
 ·rfl
 ·rfl
 cases h
mutual
def vZ :V→V→Bool
 | .sc a,.sc b=>aER a b
 | .row n k es,.row n' k' es'=>decide (n=n')&&decide (k=k')&&mS es es'
 | .agg a,.agg b=>mS a b
 | .tup a,.tup b=>mS a b
 | .ptr b o,.ptr b' o'=>decide (b=b')&&decide (o=o')
 | .sl b o n k a,.sl b' o' n' k' a'=>decide (b=b')&&decide (o=o')&&decide (n=n')&&decide (k=k')&&decide (a=a')
 | .eptr es i o,.eptr es' i' o'=>mS es es'&&decide (i=i')&&decide (o=o')
 | .any,.any=>true
 |_,_=>false
def mS :List V→List V→Bool
 | [],[]=>true
 |x::xs,y::ys=>vZ x y&&mS xs ys
 |_,_=>false
end
mutual
theorem aCT : ∀(x y:V),vZ x y=true→x=y
 | .sc a,y,h=>by cases y<;>simp only[vZ,aOp]at h;rw[aGF h]
 | .row n k es,y,h=>by
  cases y<;>simp only[vZ,aOp,aOo,decide_eq_true_eq]at h
  rw[h.1.1,h.1.2,kA es _ h.2]
 | .agg a,y,h=>by cases y<;>simp only[vZ,aOp]at h;rw[kA a _ h]
 | .tup a,y,h=>by cases y<;>simp only[vZ,aOp]at h;rw[kA a _ h]
 | .ptr b o,y,h=>by cases y<;>simp only[vZ,aOp,aOo,decide_eq_true_eq]at h;rw[h.1,h.2]
 | .sl b o n k a,y,h=>by
  cases y<;>simp only[vZ,aOp,aOo,decide_eq_true_eq]at h
  rw[h.1.1.1.1,h.1.1.1.2,h.1.1.2,h.1.2,h.2]
 | .eptr es i o,y,h=>by
  cases y<;>simp only[vZ,aOp,aOo,decide_eq_true_eq]at h
  rw[kA es _ h.1.1,h.1.2,h.2]
 | .any,y,h=>by cases y<;>simp only[vZ,aOp]at h;rfl
theorem kA : ∀(xs ys:List V),mS xs ys=true→xs=ys
 | [],ys,h=>by cases ys<;>simp only[mS,aOp]at h;rfl
 |x::xs,ys,h=>by
  cases ys<;>simp only[mS,aOp,aOo]at h
  rw[aCT x _ h.1,kA xs _ h.2]
end
def yC :Hp→Hp→Bool
 | [],[]=>true
 |none::h,none::h'=>yC h h'
 |some B::h,some B'::h'=>decide (B.e=B'.e)&&mS B.cells B'.cells&&yC h h'
 |_,_=>false
theorem xO : ∀(h h':Hp),yC h h'=true→h=h'
 | [],h',hh=>by cases h'<;>simp only[yC,aOp]at hh;rfl
 |none::h,h',hh=>by
  cases h' with
  |nil=>simp only[yC,aOp]at hh
  |cons o h'=>cases o<;>simp only[yC,aOp]at hh;rw[xO h _ hh]
 |some B::h,h',hh=>by
  cases h' with
  |nil=>simp only[yC,aOp]at hh
  |cons o h'=>
   cases o<;>simp only[yC,aOp,aOo,decide_eq_true_eq]at hh
   rename_i B'
   cases B;cases B'
   simp only at hh
   rw[hh.1.1,kA _ _ hh.1.2,xO h _ hh.2]
def vK {α β:Type}(f:α→Option (List β)):List α→Option (List β)
 | []=>some []
 |r::rs=>match f r,vK f rs with
  |some a,some b=>some (a++b)
  |_,_=>none
theorem qO {α β:Type}{f:α→Option (List β)}: ∀{rs:List α}{out:List β},vK f rs=some out→ ∀r∈rs,∃a,f r=some a∧ ∀x∈a,x∈out
 | [],out,_,r,hr=>by cases hr
 |q::rs,out,h,r,hr=>by
  simp only[vK]at h
  split at h
  ·rename_i a b ha hb
   injection h with h
   subst h
   rcases aOQ.1 hr with rfl|hr
   ·exact⟨a,ha,fun x hx=>List.mem_append_left _ hx⟩
   obtain⟨c,hc,hm⟩:=qO hb r hr
   exact⟨c,hc,fun x hx=>List.mem_append_right _ (hm x hx)⟩
  cases h
section
variable {P:Program}{F G:FuncId→Bool}{O:mC}
def aEa (id:Nat)(r:Ex×List V×Hp):Ex×List V×Hp:=match r with
 |(.exit i,s,h)=>if i=id then(.normal,s,h)else(.exit i,s,h)
 |r=>r
theorem aFx {f:FuncId} {fn:Func} {c:Code} {args:List V} {r:V} (hf:P.funcs[f]? =some fn) (hb:fn.body=some c) (hn:(fn.name == "runtime.NumGoroutine")=false) (hal:args.length≤fn.ntmps)
  (hh:AB P 0 c (fun x s' h''=>(∀id,x≠ .exit id)∧(lX P fn s' h'').bind (mR h'')=some r) (aE fn.ntmps (cO 0 args)) []):PFn P f args r:=by
 intro A w vs hA hGl hargs
 refine .inl ⟨kC hf (by rw[hb];rfl) hn _ _,calls_of_wp hf hb ?_⟩
 have hargs':VCells (Xs A [] []) [] w args vs:=hargs.avoid fun g _ hx=>uK.1 hx
 have R0:=aBQ (fn:=fn) (HR.nil hA hGl) hargs'
 have R1:Rel A [] (aE fn.ntmps (cO 0 args)) [] {tmps:=vs.toArray++aOI (fn.ntmps-vs.toArray.size) undef,defers:=[]} w:=by
  refine⟨R0.hr,⟨?_,fun t x hx=> ?_⟩,R0.defers⟩
  ·rw[gO,←R0.sr.len]
   simp[rR];omega
  have ht:t<fn.ntmps:=by have:=(aOC.1 hx).1;rw[gO]at this;exact this
  rw[mJ ht]at hx
  injection hx with hx
  cases hl:look (cO 0 args) t with
  |none=>rw[hl]at hx;subst hx;unfold VR;trivial
  |some z=>
   rw[hl]at hx
   subst hx
   obtain⟨_,h2⟩:=z8 hl
   refine R0.sr.val t z ?_
   unfold rR
   rw[List.getElem?_append_left (by have:=(aOC.1 h2).1;omega)]
   simpa using h2
 refine Code.wp_mono (fun e a' w' ⟨x,s1,h1,M1,he,⟨hx,hres⟩,G,R2⟩=> ?_) (hh A [] [] [] w _ w rfl rfl (Grow.refl (HR.nil hA hGl)) R1)
 subst he
 simp only[Option.bind_eq_some_iff]at hres
 obtain⟨r0,hr0,hex⟩:=hres
 obtain⟨v,hv,hr⟩:=aAC R2 hr0
 have hfin:Ext (fun _=>False) w w'∧VR A [] w' r v:=
  ⟨G.ext.mono fun g _ hl=>by obtain⟨b,B,hb,_⟩:=hl;simp at hb,q7 R2.hr hr hex⟩
 cases x with
 |normal=>exact⟨R2.defers,v,hv,v,rfl,hfin⟩
 |ret=>exact⟨R2.defers,v,hv,v,rfl,hfin⟩
 |exit id=>exact absurd rfl (hx id)
end
abbrev oF :=FuncId→Hp→List V→Option (V×Option Hp)
def aI9 (P:Program)(F:FuncId→Bool)(f:FuncId)(h:Hp)(xs:List V):V×Option Hp→Prop
 |(v,none)=>Fn P f h xs v h∧(F f=true→ ∀h2,Fn P f h2 xs v h2)
 |(v,some h')=>F f=false∧Fn P f h xs v h'
def lC (P:Program)(F:FuncId→Bool)(O:oF):Prop:= ∀f h xs r,O f h xs=some r→aI9 P F f h xs r
def aBn (s:List V):Callee→Option FuncId
 | .value (.func f)=>some f
 | .value (.tmp t)=>aE3 s t
 |_=>none
def aCk (P:Program)(G:FuncId→Bool)(O:oF)(ops:Array Oper)(o:Oper)(s:List V)(h:Hp):Option (List V×Hp):=
 match eC ops o s with
 |none=>none
 |some false=>some (c9 s o.dst (.sc undef),h)
 |some true=>
  match o.op with
  | .call c=>match aBn s c.callee with
   |none=>(aQ P O0 o s h).map fun p=>(c9 s o.dst p.1,p.2)
   |some f=>match nH s c.args.toList with
    |none=>none
    |some xs=>match O f h xs with
     |none=>none
     |some (v,none)=>some (c9 s o.dst v,h)
     |some (v,some h')=>if !G f || yC (h'.take h.length) h then some (c9 s o.dst v,h')else none
  |_=>(aQ P O0 o s h).map fun p=>(c9 s o.dst p.1,p.2)
section
variable {P:Program}{F G:FuncId→Bool}{O:oF}
theorem aB3 {f:FuncId}{xs:List V}{v:V}{k:FuncId}{h1:Hp}{args:List V}{r1:V}{h2:Hp}(hh:u4 f xs v k h1 args=some (r1,h2)):k=f∧args=xs∧r1=v∧h2=h1:=by
 unfold u4 at hh
 split at hh
 ·rename_i he
  simp only[aOv,aOD]at hh
  exact⟨he.1,he.2,hh.1.symm,hh.2.symm⟩
 cases hh
theorem uO {ops:Array Oper}{o:Oper}{s:List V}{h:Hp}{f:FuncId}{xs:List V}{v:V}{h':Hp}{Q:mC}(hQ:mL P Q)(h1Q: ∀k a b r c,Q k a b=some (r,c)→k=f∧(F f=true→c=a)∧(G f=true→ ∃news,c=a++news)∧(F f=true→ ∀h2,Q k h2 b=some (r,h2)))
  {c:Call} (hw:eC ops o s=some true) (hop:o.op= .call c) (hf:aBn s c.callee=some f) (hx:nH s c.args.toList=some xs) (hh:Q f h xs=some (v,h')):StepR P F G ops o s h (c9 s o.dst v) h':=by
 refine⟨Q,hQ, ?_, ?_, ?_, ?_⟩
 ·intro k a b r c hk hq
  obtain⟨rfl,h2,_⟩:=h1Q _ _ _ _ _ hq
  exact h2 hk
 ·intro k a b r c hk hq
  obtain⟨rfl,_,h2,_⟩:=h1Q _ _ _ _ _ hq
  exact h2 hk
 ·intro k a b r c hk hq
  obtain⟨rfl,_,_,h2⟩:=h1Q _ _ _ _ _ hq
  exact h2 hk
 rw[a6]
 have:aQ P Q o s h=some (v,h'):=by
  obtain⟨callee,args,ts⟩:=c
  simp only[aQ,hop,lD,hx]
  unfold aBn at hf
  simp only at hf
  split at hf
  ·injection hf with hf;subst hf;exact hh
  ·simp only[hf,Option.bind_some];exact hh
  cases hf
 simp only[bA,hw,this,aOS]
theorem aB2 {ops:Array Oper}{o:Oper}{s s1:List V}{h h1:Hp}(hw:eC ops o s=some true)(hs:((aQ P O0 o s h).map fun p=>(c9 s o.dst p.1,p.2))=some (s1,h1)):StepR P F G ops o s h s1 h1:=by
 simp only[aOm,aOD]at hs
 obtain⟨p,hp,rfl,rfl⟩:=hs
 exact⟨O0,yM,yN,aAq,aCq,by rw[a6];simp only[bA,hw,hp,aOS]⟩
theorem zF (hO:lC P F O){ops:Array Oper}{o:Oper}{s s1:List V}{h h1:Hp}(hs:aCk P G O ops o s h=some (s1,h1)):StepR P F G ops o s h s1 h1:=by
 unfold aCk at hs
 split at hs
 ·cases hs
 ·rename_i hw
  injection hs with hs
  injection hs with e1 e2
  subst e1 e2
  exact⟨O0,yM,yN,aAq,aCq,by rw[a6];simp only[bA,hw,aOS]⟩
 rename_i hw
 split at hs
 ·rename_i c hop
  split at hs
  ·exact aB2 hw hs
  rename_i f hf
  split at hs
  ·cases hs
  rename_i xs hxs
  split at hs
  ·cases hs
  ·rename_i v hv
   obtain⟨hc,hu⟩:=hO _ _ _ _ hv
   injection hs with hs
   injection hs with e1 e2
   subst e1 e2
   by_cases hF:F f=true
   ·refine uO (Q:=u4 f xs v) ?_ ?_ hw hop hf hxs iS
    ·intro k a b r c hh
     obtain⟨rfl,rfl,rfl,rfl⟩:=aB3 hh
     exact hu hF _
    intro k a b r c hh
    obtain⟨rfl,rfl,rfl,rfl⟩:=aB3 hh
    exact⟨rfl,fun _=>rfl,fun _=>⟨[],by simp⟩,fun _ _=>iS⟩
   refine uO (Q:=wK f h xs v h) (yR hc) ?_ hw hop hf hxs u6
   intro k a b r c hh
   unfold wK at hh
   split at hh
   ·rename_i he
    obtain⟨rfl,rfl,rfl⟩:=he
    simp only[aOv,aOD]at hh
    obtain⟨rfl,rfl⟩:=hh
    exact⟨rfl,fun _=>rfl,fun _=>⟨[],by simp⟩,fun hf=>absurd hf hF⟩
   cases hh
  rename_i v h' hv
  obtain⟨hF,hc⟩:=hO _ _ _ _ hv
  split at hs
  ·rename_i hcond
   injection hs with hs
   injection hs with e1 e2
   subst e1 e2
   refine uO (Q:=wK f h xs v h') (yR hc) ?_ hw hop hf hxs u6
   intro k a b r c hh
   unfold wK at hh
   split at hh
   ·rename_i he
    obtain⟨rfl,rfl,rfl⟩:=he
    simp only[aOv,aOD]at hh
    obtain⟨rfl,rfl⟩:=hh
    refine⟨rfl,fun hf=>(by rw[hF]at hf;cases hf),fun hg=> ?_,fun hf=>(by rw[hF]at hf;cases hf)⟩
    simp only[aOT,Bool.not_eq_true']at hcond
    rcases hcond with h1|h1
    ·rw[hg]at h1;cases h1
    exact⟨h'.drop a.length,by conv=>lhs;rw[←List.take_append_drop a.length h',xO _ _ h1]⟩
   cases hh
  cases hs
 exact aB2 hw hs
def goX (P:Program)(G:FuncId→Bool)(O:oF)(ops:Array Oper):List Oper→List V→Hp→Option (List V×Hp)
 | [],s,h=>some (s,h)
 |o::l,s,h=>match aCk P G O ops o s h with
  |none=>none
  |some p=>goX P G O ops l p.1 p.2
theorem aB0 (hO:lC P F O){ops:Array Oper}{K:List V→Hp→Prop}: ∀(l:List Oper)(s:List V)(h:Hp)(p:List V×Hp),goX P G O ops l s h=some p→K p.1 p.2→OpsG P F G ops l s h K
 | [],s,h,p,hr,hk=>by simp only[goX,aOv]at hr;subst hr;exact hk
 |o::l,s,h,p,hr,hk=>by
  simp only[goX]at hr
  split at hr
  ·cases hr
  rename_i q hq
  exact⟨_,_,zF hO hq,aB0 hO l _ _ p hr hk⟩
theorem OpsG.toW {N:Nat}{ops:Array Oper}{K:List V→Hp→Prop}: ∀{l:List Oper}{s:List V}{h:Hp},OpsG P F G ops l s h K→OpsW P N ops l s h K
 | [],_,_,hk=>OpsW.nil hk
 |_::_,_,_,⟨s1,h1,⟨Q,hQ,_,_,_,e⟩,hk⟩=>by
  rw[a6]at e
  simp only[aOm,aOD]at e
  obtain⟨⟨v,h'⟩,hv,rfl,rfl⟩:=e
  exact OpsW.cons hQ hv hk.toW
abbrev s9 :=Array Bool×List V×Hp
def aBo :List Bool→List Bool→Bool
 | [],[]=>true
 |a::l,b::m=>(a == b)&&aBo l m
 |_,_=>false
theorem aEf : ∀(l m:List Bool),aBo l m=true→l=m
 | [],[],_=>rfl
 |a::l,b::m,h=>by
  simp only[aBo,aOo,beq_iff_eq]at h
  rw[h.1,aEf l m h.2]
 | [],_::_,h=>by simp[aBo]at h
 |_::_,[],h=>by simp[aBo]at h
def eqD (x y:s9):Bool:=aBo x.1.toList y.1.toList&&yC x.2.2 y.2.2&&mS x.2.1 y.2.1
theorem aJr {x y:s9}(h:eqD x y=true):x=y:=by
 obtain⟨⟨a⟩,b,c⟩:=x
 obtain⟨⟨a'⟩,b',c'⟩:=y
 simp only[eqD,aOo]at h
 have h1:a=a':=aEf _ _ h.1.1
 rw[h1,xO _ _ h.1.2,kA _ _ h.2]
def aAg :List s9→List s9
 | []=>[]
 |x::l=>if(aAg l).any (eqD x)then aAg l else x::aAg l
theorem vL : ∀{l:List s9}{x:s9},x∈l→x∈aAg l
 |y::l,x,hx=>by
  simp only[aAg]
  split
  ·rename_i ha
   rcases aOQ.1 hx with rfl|hx
   ·obtain⟨z,hz,he⟩:=List.any_eq_true.1 ha
    rw[aJr he];exact hz
   exact vL hx
  rcases aOQ.1 hx with rfl|hx
  ·exact aOJ
  exact List.mem_cons_of_mem _ (vL hx)
def aEN (P:Program)(G:FuncId→Bool)(O:oF)(ops:Array Oper)(d:s9)(i:Nat):Option (List s9):=
 match ops[i]? with
 |none=>none
 |some o=>match aCk P G O ops o d.2.1 d.2.2 with
  |none=>none
  |some p=>some [(d.1.setIfInBounds i true,p.1,p.2)]
def aHl (P:Program)(F G:FuncId→Bool)(O:oF)(ops:Array Oper)(d:s9):Option (List s9):=
 match(aOM ops.size).find? fun i=>y5 F G ops d.1 i with
 |some i=>aEN P G O ops d i
 |none=>if(Region.ready .any ops d.1).isEmpty then none else vK (aEN P G O ops d) (Region.ready .any ops d.1)
def aA3 (P:Program)(F G:FuncId→Bool)(O:oF)(ops:Array Oper):Nat→List s9→Option (List (List V×Hp))
 |0,ds=>if ds.all (fun d=>(c8 ops.size d.1).isEmpty)then some (ds.map fun d=>d.2)else none
 |n+1,ds=>match vK (aHl P F G O ops) ds with
  |none=>none
  |some es=>aA3 P F G O ops n (aAg es)
theorem aBR {ops:Array Oper}{d:s9}{i:Nat}{a:List s9}(hO:lC P F O)(h:aEN P G O ops d i=some a): ∃(o:Oper)(p:List V×Hp),ops[i]? =some o∧StepR P F G ops o d.2.1 d.2.2 p.1 p.2∧a=[(d.1.setIfInBounds i true,p.1,p.2)]:=by
 unfold aEN at h
 split at h
 ·cases h
 rename_i o ho
 split at h
 ·cases h
 rename_i p hp
 injection h with h
 exact⟨o,p,ho,zF hO hp,h.symm⟩
theorem zL {N:Nat}(hO:lC P F O){ops:Array Oper}{K:List V→Hp→Prop}: ∀(n:Nat)(ds:List s9)(rs:List (List V×Hp)),aA3 P F G O ops n ds=some rs→(∀p∈rs,K p.1 p.2)→ ∀d∈ds,DrawG P N F G ops n d.1 d.2.1 d.2.2 K
 |0,ds,rs,hr,hK,d,hd=>by
  simp only[aA3]at hr
  split at hr
  ·rename_i he
   injection hr with hr
   subst hr
   exact aOH (by simpa using aOE.1 he d hd) (hK d.2 (aON.2 ⟨d,hd,rfl⟩))
  cases hr
 |n+1,ds,rs,hr,hK,d,hd=>by
  simp only[aA3]at hr
  split at hr
  ·cases hr
  rename_i es hes
  obtain⟨a,ha,hm⟩:=qO hes d hd
  have ih:=zL (N:=N) hO n (aAg es) rs hr hK
  unfold aHl at ha
  split at ha
  ·rename_i i hi
   have hp:=List.find?_some hi
   obtain⟨o,p,ho,hs,rfl⟩:=aBR hO ha
   exact aOh hp ho hs (ih _ (vL (hm _ aOJ)))
  split at ha
  ·cases ha
  rename_i hne
  refine aOx _ rfl (by intro h0;rw[h0]at hne;exact hne rfl) ?_
  have hall:=qO ha
  clear ha hne
  generalize Region.ready .any ops d.1=l at hall
  induction l with
  |nil=>exact aOB
  |cons i l ih2=>
   obtain⟨b,hb,hmb⟩:=hall i (by simp)
   obtain⟨o,p,ho,hs,rfl⟩:=aBR hO hb
   exact aOq ho hs (ih _ (vL (hm _ (hmb _ aOJ)))) (ih2 fun j hj=>hall j (by simp[hj]))
theorem aBt (s:List V):aE s.length (cO 0 s)=s:=by
 have hl: ∀(l:List V)(k t:Nat)(x:V),l[t]? =some x→look (cO k l) (k+t)=some x:=by
  intro l
  induction l with
  |nil=>intro k t x h;simp at h
  |cons y l ih=>
   intro k t x h
   cases t with
   |zero=>simp at h;subst h;simp[cO,look]
   |succ t=>
    simp only[aOK]at h
    simp only[cO,look]
    rw[show aOA k (k+(t+1))=false by cases hb:aOA k (k+(t+1)) with
     |false=>rfl
     |true=>have:=aOZ hb;omega]
    have:=ih (k+1) t x h
    rw[show k+1+t=k+(t+1) by omega]at this
    simpa using this
 refine List.ext_getElem? fun t=> ?_
 by_cases ht:t<s.length
 ·rw[mJ ht]
  have:=hl s 0 t s[t] (aOy ht)
  rw[Nat.zero_add]at this
  rw[this,aOy ht];rfl
 rw[aOO (by rw[gO];omega),aOO (by omega)]
theorem FLe.map {f:V→V}: ∀(l:List V)(k:Nat)(fr:List (Nat×V)),(∀t x,l[t]? =some x→look fr (k+t)=some (f x))→FLe j7 f fr (cO k l)
 | [],_,_,_=>FLe.nil
 |x::l,k,fr,h=>FLe.same (by simpa using h 0 x rfl) (FLe.map l (k+1) fr fun t y hy=>by rw[show k+1+t=k+(t+1) by omega];exact h (t+1) y (by simpa using hy))
theorem aEh {f:Nat→Nat}: ∀(l:List V)(t:Nat)(x:V),l[t]? =some x→(V.rns f l)[t]? =some (x.rn f)
 | [],_,_,h=>by simp at h
 |y::l,0,x,h=>by simp at h;subst h;simp[V.rns]
 |y::l,t+1,x,h=>by simp only[V.rns,aOK]at h ⊢; exact aEh l t x h
def wW (f:Nat→Nat)(h:Hp):List Nat→Hp→Bool
 | [],[]=>true
 |_::σ,none::h'=>wW f h σ h'
 |b::σ,some B'::h'=>(match h[b]? with
  |some (some B)=>decide (B.e=B'.e)&&mS B.cells (V.rns f B'.cells)&&B'.cells.all V.one
  |_=>false)&&wW f h σ h'
 |_,_=>false
theorem aBh {f:Nat→Nat}{h:Hp}: ∀(σ:List Nat)(h':Hp),wW f h σ h'=true→HLe f h σ h'
 | [],[],_=>HLe.nil
 |_::σ,none::h',hh=>HLe.dead (aBh σ h' (by simpa[wW]using hh))
 |b::σ,some ⟨e',cs'⟩::h',hh=>by
  simp only[wW,aOo]at hh
  obtain⟨h1,h2⟩:=hh
  split at h1
  ·rename_i B hB
   obtain⟨e,cs⟩:=B
   simp only[aOo,decide_eq_true_eq]at h1
   obtain⟨⟨rfl,he⟩,ho⟩:=h1
   exact HLe.live hB (by rw[kA _ _ he];exact V.les_refl _ _) ho (aBh σ h' h2)
  cases h1
 | [],_::_,hh=>by simp[wW]at hh
 |_::_,[],hh=>by simp[wW]at hh
def aA8 :List Nat→List Nat→Bool
 | [],[]=>true
 |a::l,b::m=>aOA a b&&aA8 l m
 |_,_=>false
theorem aEb : ∀(l m:List Nat),aA8 l m=true→l=m
 | [],[],_=>rfl
 |a::l,b::m,h=>by
  simp only[aA8,aOo]at h
  rw[aOZ h.1,aEb l m h.2]
 | [],_::_,h=>by simp[aA8]at h
 |_::_,[],h=>by simp[aA8]at h
def aEL (N:Nat)(σ:List Nat)(s:List V)(h:Hp)(s':List V)(h':Hp):Bool:=
 aA8 (σ.take N) (aOM N)&&σ.all (fun b=>aO2 b h.length)&&mS s (V.rns (sg σ h.length) s')&&wW (sg σ h.length) h σ h'&&wP (rW σ h')
theorem aGt {N:Nat}{σ:List Nat}{s:List V}{h:Hp}{s':List V}{h':Hp}(hh:aEL N σ s h s' h'=true):Ghost N s h s' h':=by
 simp only[aEL,Bool.and_eq_true]at hh
 obtain⟨⟨⟨⟨h1,h2⟩,h3⟩,h4⟩,h5⟩:=hh
 have hs:=kA _ _ h3
 have hl:s.length=s'.length:=by rw[hs,V.rns_length]
 have:=Ghost.rn (N:=N) (n:=s.length) (fr:=cO 0 s) (fr':=cO 0 s') σ (aEb _ _ h1) h2 (FLe.map s' 0 _ fun t x hx=>by
  have hx':=aEh (f:=sg σ h.length) s' t x hx
  rw[←hs]at hx'
  have h6:(aE s.length (cO 0 s))[t]? =some (x.rn (sg σ h.length)):=by rw[aBt];exact hx'
  have ht:t<s.length:=(List.getElem?_eq_some_iff.1 hx').1
  rw[mJ ht]at h6
  rw[Nat.zero_add]
  cases hq:look (cO 0 s) t with
  |some y=>rw[hq]at h6;simpa using h6
  |none=>
   exfalso
   have: ∀(l:List V)(k t:Nat),t<l.length→look (cO k l) (k+t)≠none:=by
    intro l
    induction l with
    |nil=>intro k t ht;simp at ht
    |cons y l ih=>
     intro k t ht
     simp only[cO,look]
     cases hb:Nat.beq k (k+t) with
     |true=>simp
     |false=>
      cases t with
      |zero=>simp at hb
      |succ t=>
       simp only[cond_false]
       have:=ih (k+1) t (by simpa using ht)
       rwa[show k+1+t=k+(t+1) by omega]at this
   exact this s 0 t ht (by rw[Nat.zero_add];exact hq)) (aBh _ _ h4) h5
 rw[aBt,hl,aBt]at this
 exact this
def aHs :V→V→List (Nat×Nat)
 | .sl b _ _ _ _,.sl c _ _ _ _=>[(c,b)]
 | .ptr b _,.ptr c _=>[(c,b)]
 |_,_=>[]
def aCs :List V→List V→List (Nat×Nat)
 |x::l,y::m=>aHs x y++aCs l m
 |_,_=>[]
def yO :List V→List V→List (Nat×Nat)
 | .agg a::l,.agg b::m=>aCs a b++yO l m
 | .tup a::l,.tup b::m=>aCs a b++yO l m
 |x::l,y::m=>aHs x y++yO l m
 |_,_=>[]
def aCB (h h':Hp):Nat→List (Nat×Nat)→List (Nat×Nat)
 |0,_=>[]
 |n+1,ps=>ps++aCB h h' n (ps.flatMap fun p=>match h[p.2]?,h'[p.1]? with
  |some (some B),some (some B')=>aCs B.cells B'.cells
  |_,_=>[])
def aHj :List (Nat×Nat)→Nat→Option Nat
 | [],_=>none
 |(a,b)::l,k=>bif aOA a k then some b else aHj l k
def gcI (N:Nat)(ls:List Nat):Nat→Hp→Hp
 |_,[]=>[]
 |i,o::h=>(bif aO2 i N || ls.elem i then o else none)::gcI N ls (i+1) h
def aJN (N L:Nat)(ps:List (Nat×Nat))(j:Nat):Nat:=bif aO2 j N then j else match aHj ps j with
 |some b=>b
 |none=>bif aO2 j L then j else 0
def aKX (N:Nat)(s1:List V)(h1 h1':Hp):Ex×List V×Hp→Bool
 |(.normal,s,h)=>aEL N ((aOM h1.length).map (aJN N h.length (aCB h h1 4 (yO s s1)))) s h s1 h1'
 |_=>false
def aEE (N:Nat):List (Ex×List V×Hp)→List (Ex×List V×Hp)
 |(.normal,s1,h1)::r2::rest=>
  if((.normal,s1,h1)::r2::rest).all (aKX N s1 h1 (gcI N ((aCB h1 h1 4 (yO s1 s1)).map (·.1)) 0 h1))then [(.normal,s1,gcI N ((aCB h1 h1 4 (yO s1 s1)).map (·.1)) 0 h1)]else(.normal,s1,h1)::r2::rest
 |rs=>rs
theorem aGj {N:Nat}{rs:List (Ex×List V×Hp)}: ∀r∈rs,∃q∈aEE N rs,r=q∨(r.1= .normal∧q.1= .normal∧Ghost N r.2.1 r.2.2 q.2.1 q.2.2):=by
 unfold aEE
 split
 ·rename_i s1 h1 r2 rest
  split
  ·rename_i ha
   intro r hr
   have:=aOE.1 ha r hr
   refine⟨_,aO1.2 rfl,.inr ?_⟩
   obtain⟨x,s,h⟩:=r
   cases x with
   |normal=>exact⟨rfl,rfl,aGt this⟩
   |ret=>cases this
   |exit i=>cases this
  exact fun r hr=>⟨r,hr,.inl rfl⟩
 exact fun r hr=>⟨r,hr,.inl rfl⟩
theorem zX : ∀(m i:Nat)(l:List Oper),i+m=l.length→pV l (List.range' i m)=l.drop i
 |0,i,l,h=>by simp[pV];omega
 |m+1,i,l,h=>by
  have hi:i<l.length:=by omega
  rw[List.range'_succ,pV,aOy hi]
  simp only
  rw[zX m (i+1) l (by omega),List.drop_eq_getElem_cons hi]
def aHk (F G:FuncId→Bool)(ops:Array Oper):Bool:=uF F G ops (aOM ops.size) (aOI ops.size false)&&(c8 ops.size (tC (aOM ops.size) (aOI ops.size false))).isEmpty
def fN (F G:FuncId→Bool)(ids:List Nat):Code→Bool
 | .region id ops draw=> !(draw&&ids.elem id) || aHk F G ops
 | .seq a b=>fN F G ids a&&fN F G ids b
 | .cond _ a b=>fN F G ids a&&fN F G ids b
 | .block _ c=>fN F G ids c
 | .loop c=>fN F G ids c
 | .scope c=>fN F G ids c
 |_=>true
def jN (P:Program)(F G:FuncId→Bool)(O:oF)(ids:List Nat)(N:Nat):Nat→Code→List V→Hp→Option (List (Ex×List V×Hp))
 |0,_,_,_=>none
 |n+1,c,s,h=>match c with
  | .skip=>some [(.normal,s,h)]
  | .region id ops draw=>if draw&& !(ids.elem id)then(aA3 P F G O ops ops.size [(aOI ops.size false,s,h)]).map (List.map fun p=>(.normal,p.1,p.2))else(goX P G O ops ops.toList s h).map fun p=>[(.normal,p.1,p.2)]
  | .seq a b=>match jN P F G O ids N n a s h with
   |none=>none
   |some rs=>vK (fun r=>match r with
    |(.normal,s1,h1)=>jN P F G O ids N n b s1 h1
    |r=>some [r]) (aEE N rs)
  | .cond c x y=>match ev s c with
   |some (.sc (.bool true))=>jN P F G O ids N n x s h
   |some (.sc (.bool false))=>jN P F G O ids N n y s h
   |_=>none
  | .block id c=>(jN P F G O ids N n c s h).map (List.map (aEa id))
  | .loop c=>match jN P F G O ids N n c s h with
   |none=>none
   |some rs=>vK (fun r=>match r with
    |(.normal,s1,h1)=>jN P F G O ids N n (.loop c) s1 h1
    |r=>some [r]) rs
  | .exit id=>some [(.exit id,s,h)]
  | .ret=>some [(.ret,s,h)]
  | .scope c=>jN P F G O ids N n c s h
  | .label _=>some [(.normal,s,h)]
  |_=>none
theorem tG {N:Nat}{ids:List Nat}(hO:lC P F O)(hm:P.follows .mixedOrders=true): ∀(n:Nat)(c:Code)(s:List V)(h:Hp)(rs:List (Ex×List V×Hp))(Q:Ex→List V→Hp→Prop),fN F G ids c=true→jN P F G O ids N n c s h=some rs→(∀r∈rs,Q r.1 r.2.1 r.2.2)→AB P N c Q s h:=by
 intro n
 induction n using Nat.strongRecOn with
 |_ n ih=>
  intro c s h rs Q hok hr hQ
  cases n with
  |zero=>simp[jN]at hr
  |succ n=>
   cases c<;>simp only[jN]at hr<;>simp only[fN,aOo]at hok
   case skip=>injection hr with hr;subst hr;exact AB.skip (hQ (.normal,s,h) (by simp))
   case region id ops draw=>
    obtain⟨l⟩:=ops
    split at hr
    ·rename_i hd
     simp only[aOo]at hd
     obtain⟨rfl,_⟩:=hd
     simp only[aOm]at hr
     obtain⟨ps,hp,rfl⟩:=hr
     exact aO3 F G hm (zL hO _ _ ps hp (fun p hp'=>hQ (.normal,p.1,p.2) (aON.2 ⟨p,hp',rfl⟩)) _ aOJ)
    rename_i hd
    simp only[aOm]at hr
    obtain⟨p,hp,rfl⟩:=hr
    have hg:=aB0 (K:=Q .normal) hO l s h p hp (hQ (.normal,p.1,p.2) (by simp))
    cases draw with
    |false=>exact AB.rw hg.toW
    |true=>
     have he:ids.elem id=true:=by simpa using hd
     rw[he]at hok
     simp only[Bool.and_self,Bool.not_true,Bool.false_or,aHk,aOo]at hok
     refine aO3 F G hm ?_
     have hp:pV l (aOM l.length)=l:=by rw[List.range_eq_range',zX l.length 0 l (by omega)];rfl
     have:=p9 (P:=P) (N:=N) (K:=Q .normal) (m:=0) (aOM l.toArray.size) (aOI l.toArray.size false) s h hok.1 (by
      show OpsG P F G l.toArray (pV l (aOM l.length)) s h _
      rw[hp]
      exact hg.mono fun s h hk=>aOH (List.isEmpty_iff.1 hok.2) hk)
     simpa using this
   case seq a b=>
    split at hr
    ·cases hr
    rename_i os ho
    refine aOl (ih n (by omega) a s h os _ hok.1 ho fun r hr'=> ?_)
    obtain⟨r',hr',hg⟩:=aGj (N:=N) r hr'
    obtain⟨q,hq,hm'⟩:=qO hr r' hr'
    rcases hg with rfl|⟨e1,e2,hg⟩
    rotate_left
    ·obtain⟨x,s1,h1⟩:=r
     obtain⟨x',s2,h2⟩:=r'
     simp only at e1 e2
     subst e1 e2
     exact aOr hg (ih n (by omega) b s2 h2 q Q hok.2 hq (fun z hz=>hQ z (hm' z hz)))
    obtain⟨x,s1,h1⟩:=r
    cases x with
    |normal=>exact ih n (by omega) b s1 h1 q Q hok.2 hq (fun z hz=>hQ z (hm' z hz))
    |exit i=>simp only[aOv]at hq;subst hq;exact hQ (.exit i,s1,h1) (hm' _ (by simp))
    |ret=>simp only[aOv]at hq;subst hq;exact hQ (.ret,s1,h1) (hm' _ (by simp))
   case cond c x y=>
    split at hr
    ·rename_i hc;exact AB.cond hc (fun _=>ih n (by omega) x s h rs Q hok.1 hr hQ) (fun hh=>by cases hh)
    ·rename_i hc;exact AB.cond hc (fun hh=>by cases hh) (fun _=>ih n (by omega) y s h rs Q hok.2 hr hQ)
    cases hr
   case block id c=>
    simp only[aOm]at hr
    obtain⟨os,ho,rfl⟩:=hr
    refine aOk (ih n (by omega) c s h os _ hok ho fun r hr'=> ?_)
    have:=hQ _ (aON.2 ⟨r,hr',rfl⟩)
    obtain⟨x,s1,h1⟩:=r
    cases x with
    |normal=>exact this
    |ret=>exact this
    |exit i=>
     simp only[aEa]at this
     simp only[Ex.inBlock]
     split at this
     ·rename_i hi;rw[if_pos hi];exact this
     rename_i hi;rw[if_neg hi];exact this
   case loop c=>
    have h0:jN P F G O ids N (n+1) (.loop c) s h=some rs:=by simp only[jN];exact hr
    refine AB.loop (fun m s h=>m≤n+1∧ ∃rs,jN P F G O ids N m (.loop c) s h=some rs∧ ∀r∈rs,Q r.1 r.2.1 r.2.2) ⟨aOF _,rs,h0,hQ⟩ ?_
    rintro m s1 h1 ⟨hm',rs1,he,hQ1⟩
    cases m with
    |zero=>simp[jN]at he
    |succ m=>
     simp only[jN]at he
     split at he
     ·cases he
     rename_i os ho
     refine ih m (by omega) c s1 h1 os _ hok ho fun r hr'=> ?_
     obtain⟨q,hq,hmm⟩:=qO he r hr'
     obtain⟨x,s2,h2⟩:=r
     cases x with
     |normal=>exact⟨m,by omega,by omega,q,hq,fun z hz=>hQ1 z (hmm z hz)⟩
     |exit i=>simp only[aOv]at hq;subst hq;exact hQ1 (.exit i,s2,h2) (hmm _ (by simp))
     |ret=>simp only[aOv]at hq;subst hq;exact hQ1 (.ret,s2,h2) (hmm _ (by simp))
   case exit id=>injection hr with hr;subst hr;exact AB.exit (hQ (.exit id,s,h) (by simp))
   case ret=>injection hr with hr;subst hr;exact AB.ret (hQ (.ret,s,h) (by simp))
   case scope c=>exact AB.scope (ih n (by omega) c s h rs Q hok hr hQ)
   case label l=>injection hr with hr;subst hr;exact AB.label (hQ (.normal,s,h) (by simp))
   all_goals cases hr
end
def aBd (r:V):Option (V×Hp)→Bool
 |none=>false
 |some p=>match mR p.2 p.1 with
  |none=>false
  |some v=>vZ v r
def pQ :Option (List (Option (V×Hp)))→Option V
 |some (some p::rest)=>match mR p.2 p.1 with
  |some r=>if rest.all (aBd r)then some r else none
  |none=>none
 |_=>none
def aE0 :Option (List (Option (V×Hp)))→Option (V×Hp)
 |some [some r]=>some r
 |_=>none
def aDu (N:Nat):V→Bool
 | .sc _=>true
 | .row _ _ _=>true
 | .eptr _ _ _=>true
 | .any=>true
 | .ptr b _=>aO2 b N
 | .sl b _ _ _ _=>aO2 b N
 | .mp b=>aO2 b N
 |_=>false
def aEA (N:Nat)(h:Hp):Bool:=(h.take N).all fun o=>match o with
 |none=>true
 |some B=>B.cells.all (aDu N)
def uG (N:Nat)(h:Hp):Hp:=only (List.range' N (h.length-N)) h
theorem kT {α:Type}{M:List α}{N b:Nat}(hb:b<N):(M.take N)[b]? =M[b]? :=by rw[List.getElem?_take];simp[hb]
theorem VR.low {X:Nat→Prop}{M:List (Option Nat)}{w:World}{N:Nat}{x:V}{v:Value}(hl:aDu N x=true)(hx:VR X M w x v):VR X (M.take N) w x v:=by
 cases x with
 |sc c=>unfold VR at hx ⊢; exact hx
 |row nil k es=>unfold VR at hx ⊢; exact hx
 |eptr es i off=>unfold VR at hx ⊢; exact hx
 |any=>unfold VR;trivial
 |ptr b off=>
  have hb:b<N:=by simpa[aDu]using hl
  unfold VR at hx⊢
  rw[kT hb];exact hx
 |sl b off n k ag=>
  have hb:b<N:=by simpa[aDu]using hl
  unfold VR at hx⊢
  rw[kT hb];exact hx
 |mp b=>
  have hb:b<N:=by simpa[aDu]using hl
  unfold VR at hx⊢
  rw[kT hb];exact hx
 |agg cs=>cases hl
 |tup cs=>cases hl
theorem Ghost.exp {N:Nat}{h:Hp}{r1 r:V}(hNh:N≤h.length)(he:mR (uG N h) r1=some r)(hlow:aEA N h=true):Ghost N (aE 1 [(0,r1)]) h (aE 1 [(0,r)]) (h.take N):=fun A M a w hle R=>by
 have hb: ∀{b:Nat}{B:Blk},(h.take N)[b]? =some (some B)→b<N∧h[b]? =some (some B):=fun{b B} hb=>by
  have:b<N:=by
   have:=(aOC.1 hb).1
   rw[aOX]at this;omega
  exact⟨this,by rw[kT this]at hb;exact hb⟩
 have hlive: ∀g,bN (M.take N) (h.take N) g→bN M h g:=fun g ⟨b,B,h1,h2⟩=>by
  obtain⟨h3,h4⟩:=hb h1
  exact⟨b,B,h4,by rw[kT h3]at h2;exact h2⟩
 have hX: ∀g,Xs A (M.take N) (h.take N) g→Xs A M h g:=fun g hx=>hx.elim .inl fun hl=> .inr (hlive g hl)
 have H':HR A (M.take N) (h.take N) w:=by
  refine⟨by rw[aOX,aOX,R.hr.len],R.hr.alt,fun b B hb'=> ?_,fun b b' B B' g h1 h2 h3 h4=> ?_,R.hr.glob.avoid fun g _ hx=>hX g hx⟩
  ·obtain⟨hbN,hb2⟩:=hb hb'
   obtain⟨k0,hn|⟨g,cs,hg,hA,hh,hle',hcs⟩⟩:=R.hr.blk b B hb2
   ·exact⟨k0,.inl ⟨by rw[kT hbN];exact hn.1,hn.2⟩⟩
   refine⟨k0,.inr ⟨g,cs,by rw[kT hbN];exact hg,hA,hh,hle', ?_⟩⟩
   have hc2:=hcs.avoid (X':=Xs A (M.take N) (h.take N)) (fun g _ hx=>hX g hx)
   refine VCells.mk hc2.len (fun i c v hc hv=> ?_)
   obtain⟨u,hu,hr⟩:=hc2.get hc
   rw[hv]at hu;injection hu with hu;subst hu
   refine VR.low ?_ hr
   have h5:=aOE.1 hlow (some B) (aO0 hb')
   exact aOE.1 h5 c (aO0 hc)
  obtain⟨a1,a2⟩:=hb h1
  obtain⟨b1,b2⟩:=hb h2
  rw[kT a1]at h3
  rw[kT b1]at h4
  exact R.hr.inj b b' B B' g a2 b2 h3 h4
 have hX3: ∀g,Xs (Xs A (M.take N) (h.take N)) M (uG N h) g→Xs A M h g:=fun g hx=>hx.elim (hX g) fun⟨b,B,h1,h2⟩=> .inr ⟨b,B,(lY h1).2,h2⟩
 have Ho:HR (Xs A (M.take N) (h.take N)) M (uG N h) w:=by
  refine R.hr.only _ (fun g hg=>R.hr.lt (hX g hg)) (fun b B g hbm hb1 hm hx=> ?_) hX3
  have hbN:N≤b:=(List.mem_range'_1.1 hbm).1
  rcases hx with hA|⟨b',B',h1,h2⟩
  ·obtain⟨_,⟨hn,_⟩|⟨g',cs,hg,hA',_⟩⟩:=R.hr.blk b B hb1
   ·rw[hm]at hn;cases hn
   rw[hm]at hg;injection hg with hg;injection hg with hg;subst hg;exact hA' hA
  obtain⟨h3,h4⟩:=hb h1
  rw[kT h3]at h2
  have:=R.hr.inj b b' B B' g hb1 h4 hm h2
  omega
 refine⟨M.take N,by rw[List.take_take,Nat.min_self],⟨H',⟨?_,fun t x hx=> ?_⟩,R.defers⟩,hlive⟩
 ·have:=R.sr.len;rw[gO]at this ⊢; exact this
 cases t with
 |zero=>
  simp[aE,look]at hx
  subst hx
  exact(q7 Ho ((R.sr.val 0 r1 rfl).avoid fun g _ hx=>hX3 g hx) he).lift
 |succ t=>rw[aOO (by rw[gO];omega)]at hx;cases hx
def nT (P:Program)(F G:FuncId→Bool)(T:FuncId→List Nat)(O:oF)(n:Nat)(f:FuncId)(h:Hp)(args:List V):Option (List (Option (V×Hp))):=
 match P.funcs[f]? with
 |none=>none
 |some fn=>match fn.body with
  |none=>none
  |some c=>if fn.name == "runtime.NumGoroutine" || !(Nat.ble args.length fn.ntmps)then none else
   (jN P F G O (T f) h.length n c (aE fn.ntmps (cO 0 args)) h).map (List.map fun r=>match r.1 with
    | .exit _=>none
    |_=>(lX P fn r.2.1 r.2.2).map fun v=>(v,r.2.2))
def aDq (N:Nat)(p:V×Hp):Option V:=if aEA N p.2&&Nat.ble N p.2.length then mR (uG N p.2) p.1 else none
def aFj (N:Nat)(r:V)(h:Hp):Option (V×Hp)→Bool
 |none=>false
 |some p=>match aDq N p with
  |none=>false
  |some v=>vZ v r&&yC (p.2.take N) h
def aCl (N:Nat):Option (List (Option (V×Hp)))→Option (V×Hp)
 |some (some p::rest)=>match aDq N p with
  |some r=>if rest.all (aFj N r (p.2.take N))then some (r,p.2.take N)else none
  |none=>none
 |_=>none
def sX (β:List Nat):Nat→Hp→Hp
 |_,[]=>[]
 |i,o::h=>(bif β.elem i then none else o)::sX β (i+1) h
def nR (β:List Nat)(h:Hp):Hp:=sX β 0 h
theorem aB4 (β:List Nat): ∀(h:Hp)(i j:Nat),(sX β i h)[j]? =(h[j]?).map fun o=>bif β.elem (i+j)then none else o
 | [],i,j=>by simp[sX]
 |o::h,i,0=>by simp[sX]
 |o::h,i,j+1=>by
  simp only[sX,aOK]
  rw[aB4 β h (i+1) j]
  simp[Nat.add_assoc,Nat.add_comm 1 j]
theorem oY {β:List Nat}{h:Hp}{j:Nat}{B:Blk}(hj:(nR β h)[j]? =some (some B)):j∉β∧h[j]? =some (some B):=by
 unfold nR at hj
 rw[aB4]at hj
 cases ho:h[j]? with
 |none=>rw[ho]at hj;cases hj
 |some o=>
  rw[ho]at hj
  simp only[Nat.zero_add,aOS,aOv]at hj
  cases he:β.elem j with
  |true=>rw[he]at hj;cases hj
  |false=>
   rw[he]at hj
   simp only[cond_false]at hj
   subst hj
   exact⟨fun hm=>(by rw[List.elem_iff.2 hm]at he;cases he),rfl⟩
theorem aFh (β:List Nat)(h:Hp):(nR β h).length=h.length:=by
 have: ∀(h:Hp)(i:Nat),(sX β i h).length=h.length:=by
  intro h
  induction h with
  |nil=>intro i;rfl
  |cons o h ih=>intro i;simp[sX,ih]
 exact this h 0
def aGO :V→List Nat
 | .sl b _ _ _ _=>[b]
 | .ptr b _=>[b]
 |_=>[]
def aFe :V→List Nat
 | .agg cs=>cs.flatMap aGO
 |x=>aGO x
def aCw (h:Hp):Nat→List Nat→List Nat
 |0,_=>[]
 |n+1,bs=>bs++aCw h n (bs.flatMap fun b=>match h[b]? with
  |some (some B)=>B.cells.flatMap aGO
  |_=>[])
theorem aEk {P:Program}{f:FuncId}{h:Hp}{xs ys:List V}{r:V}(β:List Nat)(hp:PFn P f ys r)(hx:xs.mapM (mR (only β h))=some ys):Fn P f h xs r (nR β h):=by
 intro A M w vs H hargs
 have hlv: ∀g,bN M (nR β h) g→bN M h g:=fun g ⟨b,B,h1,h2⟩=>⟨b,B,(oY h1).2,h2⟩
 have hX: ∀g,Xs A M (nR β h) g→Xs A M h g:=fun g hx=>hx.elim .inl fun hl=> .inr (hlv g hl)
 have hX3: ∀g,Xs (Xs A M (nR β h)) M (only β h) g→Xs A M h g:=fun g hx=>hx.elim (hX g) fun⟨b,B,h1,h2⟩=> .inr ⟨b,B,(lY h1).2,h2⟩
 have Ho:HR (Xs A M (nR β h)) M (only β h) w:=by
  refine H.only β (fun g hg=>H.lt (hX g hg)) (fun b B g hbm hb1 hm hx=> ?_) hX3
  rcases hx with hA|⟨b',B',h1,h2⟩
  ·obtain⟨_,⟨hn,_⟩|⟨g',cs,hg,hA',_⟩⟩:=H.blk b B hb1
   ·rw[hm]at hn;cases hn
   rw[hm]at hg;injection hg with hg;injection hg with hg;subst hg;exact hA' hA
  obtain⟨h3,h4⟩:=oY h1
  have:=H.inj b b' B B' g hb1 h4 hm h2
  subst this
  exact h3 hbm
 have hargs':VCells (Xs A M (nR β h)) [] w ys vs:=by
  obtain⟨hl,hget⟩:=nY hx
  refine VCells.mk (by rw[←hl,hargs.len]) (fun i c v hd hv=> ?_)
  have hi:i<xs.length:=by rw[hl];exact(aOC.1 hd).1
  obtain⟨u,hu,hr⟩:=hargs.get (aOy hi)
  rw[hv]at hu;injection hu with hu;subst hu
  exact q7 Ho (hr.avoid fun g _ hx=>hX3 g hx) (hget i _ _ (aOy hi) hd)
 refine(hp (Xs A M (nR β h)) w vs (fun g hg=>H.lt (hX g hg)) (H.glob.avoid fun g _ hg=>hX g hg) hargs').mono fun v w' ⟨hE,hv⟩=>⟨M, ?_,hv.lift⟩
 have G:=Grow.none_changed H hE
 refine⟨List.prefix_refl _,⟨by rw[aFh];exact H.len,G.hr.alt,fun b B hb=> ?_,fun b b' B B' g h1 h2=>G.hr.inj b b' B B' g (oY h1).2 (oY h2).2,G.hr.glob.avoid fun g _ hg=>hX g hg⟩,hE.mono fun _ _ hh=>hh.elim,fun g _ hl=>hlv g hl⟩
 obtain⟨k0,hn|⟨g,cs,hg,hA,hh,hle,hcs⟩⟩:=G.hr.blk b B (oY hb).2
 ·exact⟨k0,.inl hn⟩
 exact⟨k0,.inr ⟨g,cs,hg,hA,hh,hle,hcs.avoid fun g _ hg=>hX g hg⟩⟩
theorem gK {P:Program}{f:FuncId}{xs:List V}{r:V}(hc:Fn P f [] xs r []):PFn P f xs r:=by
 intro A w vs hA hGl hargs
 refine(hc A [] w vs (HR.nil hA hGl) (hargs.avoid fun g _ hx=>uK.1 hx)).mono fun v w' ⟨M',G,hv⟩=> ?_
 have hM:M'=[]:=List.length_eq_zero_iff.1 G.hr.len
 subst hM
 exact⟨G.ext.mono fun g _ hl=>by obtain⟨b,B,hb,_⟩:=hl;simp at hb,hv.avoid fun g _ hx=>uK.2 hx⟩
def sY (P:Program)(F G L K:FuncId→Bool)(T:FuncId→List Nat)(B:oF):Nat→oF
 |0,_,_,_=>none
 |n+1,f,h,xs=>match B f h xs with
  |some r=>some r
  |none=>
   if L f then(if F f then none else(aE0 (nT P F G T (sY P F G L K T B n) n f h xs)).map fun p=>(p.1,some p.2))
   else if xs.all dA then(pQ (nT P F G T (sY P F G L K T B n) n f [] xs)).map fun v=>(v,none)
   else if F f then none else
   if K f then(match xs.mapM (mR (only (aCw h 5 (xs.flatMap aFe)) h)) with
    |none=>none
    |some ys=>match B f [] ys with
     |some (v,none)=>some (v,some (nR (aCw h 5 (xs.flatMap aFe)) h))
     |_=>(pQ (nT P F G T (sY P F G L K T B n) n f [] ys)).map fun v=>(v,some (nR (aCw h 5 (xs.flatMap aFe)) h)))
   else(aCl h.length (nT P F G T (sY P F G L K T B n) n f h xs)).map fun p=>(p.1,some p.2)
section
variable {P:Program}{F G L K:FuncId→Bool}{T:FuncId→List Nat}{B:oF}
theorem aHC {O:oF}(hO:lC P F O)(hT: ∀(f:FuncId) fn c,P.funcs[f]? =some fn→fn.body=some c→fN F G (T f) c=true)(hm:P.follows .mixedOrders=true){n:Nat}{f:FuncId}{h h':Hp}{args:List V}{r:V}(hh:aE0 (nT P F G T O n f h args)=some (r,h')):Fn P f h args r h':=by
 unfold aE0 at hh
 split at hh
 ·rename_i p hp
  injection hh with hh
  subst hh
  unfold nT at hp
  split at hp
  ·cases hp
  rename_i fn hf
  split at hp
  ·cases hp
  rename_i c hb
  split at hp
  ·cases hp
  rename_i hn
  simp only[aOT,not_or,aOY,aOV]at hn
  simp only[aOm]at hp
  obtain⟨rs,hrs,hmap⟩:=hp
  refine aEY (fn:=fn) (n:=fn.ntmps) hf hb hn.1 rfl (aOG (by simpa using hn.2)) rfl rfl (tG hO hm n c _ h rs _ (hT f fn c hf hb) hrs fun q hq=> ?_)
  have hmem:(match q.1 with | .exit _=>none|_=>(lX P fn q.2.1 q.2.2).map fun v=>(v,q.2.2))∈ [some (r,h')]:=by
   rw[←hmap];exact aON.2 ⟨q,hq,rfl⟩
  obtain⟨x,s1,h1⟩:=q
  simp only[aO1]at hmem
  cases x with
  |exit i=>cases hmem
  |normal=>
   simp only[aOm,aOD]at hmem
   obtain⟨v,hv,rfl,rfl⟩:=hmem
   exact aBz hv (Ghost.weak (FLe.same rfl FLe.nil))
  |ret=>
   simp only[aOm,aOD]at hmem
   obtain⟨v,hv,rfl,rfl⟩:=hmem
   exact lW hv (Ghost.weak (FLe.same rfl FLe.nil))
 cases hh
theorem aEP {r:V}{o:Option (V×Hp)}(h:aBd r o=true): ∃p,o=some p∧mR p.2 p.1=some r:=by
 unfold aBd at h
 split at h
 ·cases h
 rename_i p
 split at h
 ·cases h
 rename_i v hv
 exact⟨p,rfl,by rw[hv,aCT _ _ h]⟩
theorem aDI {x:Option (List (Option (V×Hp)))}{r:V}(hh:pQ x=some r): ∃os,x=some os∧ ∀o∈os,∃p,o=some p∧mR p.2 p.1=some r:=by
 unfold pQ at hh
 split at hh
 ·rename_i p rest
  split at hh
  ·rename_i v hv
   split at hh
   ·rename_i ha
    injection hh with hh
    subst hh
    refine⟨_,rfl,fun o ho=> ?_⟩
    rcases aOQ.1 ho with rfl|ho
    ·exact⟨p,rfl,hv⟩
    exact aEP (aOE.1 ha o ho)
   cases hh
  cases hh
 cases hh
theorem aFE {N:Nat}{x:Option (List (Option (V×Hp)))}{r:V}{h:Hp}(hh:aCl N x=some (r,h)): ∃os,x=some os∧ ∀o∈os,∃p,o=some p∧aEA N p.2=true∧N≤p.2.length∧mR (uG N p.2) p.1=some r∧p.2.take N=h:=by
 have key: ∀{p:V×Hp}{r:V},aDq N p=some r→aEA N p.2=true∧N≤p.2.length∧mR (uG N p.2) p.1=some r:=fun{p r} he=>by
  unfold aDq at he
  split at he
  ·rename_i hc
   simp only[aOo]at hc
   exact⟨hc.1,aOG hc.2,he⟩
  cases he
 unfold aCl at hh
 split at hh
 ·rename_i p rest
  split at hh
  ·rename_i v hv
   split at hh
   ·rename_i ha
    simp only[aOv,aOD]at hh
    obtain⟨rfl,rfl⟩:=hh
    refine⟨_,rfl,fun o ho=> ?_⟩
    rcases aOQ.1 ho with rfl|ho
    ·obtain⟨h1,h2,h3⟩:=key hv
     exact⟨p,rfl,h1,h2,h3,rfl⟩
    have:=aOE.1 ha o ho
    cases o with
    |none=>cases this
    |some q=>
     simp only[aFj]at this
     cases hu:aDq N q with
     |none=>rw[hu]at this;cases this
     |some u=>
      rw[hu]at this
      simp only[aOo]at this
      obtain⟨h1,h2,h3⟩:=key hu
      exact⟨q,rfl,h1,h2,by rw[h3,aCT _ _ this.1],xO _ _ this.2⟩
   cases hh
  cases hh
 cases hh
theorem aGD {O:oF}(hO:lC P F O)(hT: ∀(f:FuncId) fn c,P.funcs[f]? =some fn→fn.body=some c→fN F G (T f) c=true)(hm:P.follows .mixedOrders=true){n:Nat}{f:FuncId}{h h':Hp}{args:List V}{r:V}(hh:aCl h.length (nT P F G T O n f h args)=some (r,h')):Fn P f h args r h':=by
 obtain⟨os,hos,hall⟩:=aFE hh
 unfold nT at hos
 split at hos
 ·cases hos
 rename_i fn hf
 split at hos
 ·cases hos
 rename_i c hb
 split at hos
 ·cases hos
 rename_i hn
 simp only[aOT,not_or,aOY,aOV]at hn
 simp only[aOm]at hos
 obtain⟨rs,hrs,hmap⟩:=hos
 refine aEY (fn:=fn) (n:=fn.ntmps) hf hb hn.1 rfl (aOG (by simpa using hn.2)) rfl rfl (tG hO hm n c _ h rs _ (hT f fn c hf hb) hrs fun q hq=> ?_)
 have hmem:(match q.1 with | .exit _=>none|_=>(lX P fn q.2.1 q.2.2).map fun v=>(v,q.2.2))∈os:=by
  rw[←hmap];exact aON.2 ⟨q,hq,rfl⟩
 obtain⟨p,hp,hl,hle,hv,ht⟩:=hall _ hmem
 obtain⟨x,s1,h1'⟩:=q
 cases x with
 |exit i=>cases hp
 |normal=>
  simp only[aOm]at hp
  obtain⟨v,hv',rfl⟩:=hp
  subst ht
  exact aBz hv' (Ghost.exp hle hv hl)
 |ret=>
  simp only[aOm]at hp
  obtain⟨v,hv',rfl⟩:=hp
  subst ht
  exact lW hv' (Ghost.exp hle hv hl)
theorem s4 {O:oF}(hO:lC P F O)(hT: ∀(f:FuncId) fn c,P.funcs[f]? =some fn→fn.body=some c→fN F G (T f) c=true)(hm:P.follows .mixedOrders=true){n:Nat}{f:FuncId}{args:List V}{r:V}(hh:pQ (nT P F G T O n f [] args)=some r):PFn P f args r:=by
 obtain⟨os,hos,hall⟩:=aDI hh
 unfold nT at hos
 split at hos
 ·cases hos
 rename_i fn hf
 split at hos
 ·cases hos
 rename_i c hb
 split at hos
 ·cases hos
 rename_i hn
 simp only[aOT,not_or,aOY,aOV]at hn
 simp only[aOm]at hos
 obtain⟨rs,hrs,hmap⟩:=hos
 have hab:AB P 0 c (fun x s' h''=>(∀id,x≠ .exit id)∧(lX P fn s' h'').bind (mR h'')=some r) (aE fn.ntmps (cO 0 args)) []:=tG hO hm n c _ [] rs _ (hT f fn c hf hb) hrs fun q hq=>by
  have hmem:(match q.1 with | .exit _=>none|_=>(lX P fn q.2.1 q.2.2).map fun v=>(v,q.2.2))∈os:=by
   rw[←hmap];exact aON.2 ⟨q,hq,rfl⟩
  obtain⟨p,hp,hv⟩:=hall _ hmem
  obtain⟨x,s1,h1'⟩:=q
  cases x with
  |exit i=>cases hp
  |normal=>
   simp only[aOm]at hp
   obtain⟨v,hv',rfl⟩:=hp
   exact⟨fun id hh=>(by cases hh),by simp only at hv ⊢; rw[hv'];exact hv⟩
  |ret=>
   simp only[aOm]at hp
   obtain⟨v,hv',rfl⟩:=hp
   exact⟨fun id hh=>(by cases hh),by simp only at hv ⊢; rw[hv'];exact hv⟩
 exact aFx hf hb hn.1 (aOG (by simpa using hn.2)) hab
theorem aAk (hB:lC P F B)(hT: ∀(f:FuncId) fn c,P.funcs[f]? =some fn→fn.body=some c→fN F G (T f) c=true)(hm:P.follows .mixedOrders=true): ∀n,lC P F (sY P F G L K T B n)
 |0=>fun f h xs r hh=>by cases hh
 |n+1=>fun f h xs r hh=>by
  have ih:=aAk hB hT hm n
  simp only[sY]at hh
  split at hh
  ·rename_i q hq
   injection hh with hh
   subst hh
   exact hB _ _ _ _ hq
  split at hh
  ·split at hh
   ·cases hh
   rename_i hF
   simp only[aOm]at hh
   obtain⟨p,hp,rfl⟩:=hh
   exact⟨by simpa using hF,aHC ih hT hm hp⟩
  split at hh
  ·rename_i hc
   simp only[aOm]at hh
   obtain⟨v,hv,rfl⟩:=hh
   have hp:=s4 ih hT hm hv
   exact⟨qQ hp hc,fun _ h2=>qQ hp hc⟩
  split at hh
  ·cases hh
  rename_i hF
  split at hh
  ·split at hh
   ·cases hh
   rename_i ys hys
   split at hh
   ·rename_i v hv
    injection hh with hh
    subst hh
    exact⟨by simpa using hF,aEk _ (gK (hB _ _ _ _ hv).1) hys⟩
   simp only[aOm]at hh
   obtain⟨v,hv,rfl⟩:=hh
   exact⟨by simpa using hF,aEk _ (s4 ih hT hm hv) hys⟩
  simp only[aOm]at hh
  obtain⟨p,hp,rfl⟩:=hh
  exact⟨by simpa using hF,aGD ih hT hm hp⟩
end
end Go.Vm
namespace Go.Proofs.YtjcfonniipabpaaGreatDoor
open Go Go.Vm
set_option maxRecDepth 100000
def sF :FuncId→Bool:=fun f=>aOU 10855639499178982341671741128329882290740834863979841786894421437335281336320 f
def sL :FuncId→Bool:=fun f=>aOU 36151498293217307390828561866414323762008197913811103802072813475052848459144636592793084299946869018156141861699313483776 f
def sK :FuncId→Bool:=fun f=>aOU 18889610046709606383616 f
def sG :FuncId→Bool:=fun f=> !(aOU 18889610046709606383616 f)
def tT :List (Nat×List Nat):=[(19,[1]),(20,[4]),(31,[1]),(33,[4,19]),(39,[6]),(41,[3]),(53,[1,2]),(55,[3]),(56,[3]),(70,[5]),(85,[8]),(89,[1]),(95,[2]),(96,[3]),(119,[17]),(128,[13]),(152,[4,6]),(155,[1]),(158,[8]),(159,[3,6]),(164,[1]),(225,[4,6]),(226,[4]),(233,[6]),(234,[6]),(235,[10])]
def yZ :List (Nat×List Nat)→Nat→List Nat
 | [],_=>[]
 |(a,b)::l,f=>bif aOA a f then b else yZ l f
def sT :FuncId→List Nat:=fun f=>yZ tT f
def kEq :IntKind→IntKind→Bool
 | .u8,.u8=>true
 | .u64,.u64=>true
 |_,_=>false
def xR (k:IntKind):List V→Option (List Int)
 | []=>some []
 | .sc (.int k' n)::l=>bif kEq k k' then(xR k l).map (n:: ·)else none
 |_=>none
def aBl :List V→Option (List ByteArray)
 | []=>some []
 | .sc (.string s)::l=>(aBl l).map (s:: ·)
 |_=>none
def aE6 (elems:List ByteArray)(sep:ByteArray):Option ByteArray:=if elems.length≤140737488355328∧(Lib.join (elems.map (·.data.toList)) sep.data.toList).length≤140737488355328 then some ⟨(Lib.join (elems.map (·.data.toList)) sep.data.toList).toArray⟩else none
def NS :Nat:=100000
def b94 :List V→Option V
 | [.row _ 1 es]=>(xR .u8 es).bind fun b=>(sC NS b).map fun r=> .agg (r.map (eI .u8))
 |_=>none
def aGM :List V→Option V
 | [.sc (.int .u32 n)]=>(rQ NS n).map fun r=> .tup [.agg (r.1.map (eI .u64)),eI .i64 r.2]
 |_=>none
def aGZ :List V→Option V
 | [.agg es]=>(xR .u64 es).bind fun b=>(uV NS b).map fun r=> .agg (r.map (eI .u64))
 |_=>none
def aGH :List V→Option V
 | [.agg es,.sc (.int .i64 n)]=>(xR .u64 es).bind fun b=>(s7 NS b n).map fun r=> .agg (r.map (eI .u64))
 |_=>none
def b71 :List V→Option V
 | [.agg es]=>(xR .u64 es).bind fun b=>(xW NS b).map fun r=>eS r
 |_=>none
def aHc :List V→Option V
 | [.sc (.string s),.sc (.int .u8 c)]=>some (eI .i64 (ixb s c))
 |_=>none
def b74 :List V→Option V
 | [.row _ 1 es,.sc (.string sep)]=>(aBl es).bind fun l=>(aE6 l sep).map eS
 |_=>none
def b23 :List V→Option V
 | [.row _ 1 es]=>(aBl es).bind fun l=>(iK NS l).map fun r=> .tup [.agg [eI .i64 r.1,eI .i64 r.2.1,eI .i64 r.2.2.1,eI .i64 r.2.2.2.1],eB r.2.2.2.2]
 |_=>none
def bE :List V→Option V
 | [.row _ _ []]=>some (.row none 1 [])
 |_=>none
def sBf (f:FuncId)(xs:List V):Option V:=bif aOU 177856649124594368532099621504599200980633490794795361898413478880588188109242368 f then(
 bif aOA f 94 then b94 xs else bif aOA f 151 then aGM xs else bif aOA f 153 then aGZ xs else bif aOA f 235 then aGH xs else bif aOA f 71 then b71 xs else bif aOA f 229 then aHc xs else bif aOA f 74 then b74 xs else bif aOA f 23 then b23 xs
 else bif aOA f 172 then bE xs else bif aOA f 180 then bE xs else bif aOA f 198 then bE xs else bif aOA f 199 then bE xs else bif aOA f 200 then bE xs else bif aOA f 211 then bE xs else bif aOA f 265 then bE xs else bif aOA f 266 then bE xs else none)else none
def sB :oF:=fun f _ xs=>(sBf f xs).map fun v=>(v,none)
def mA0 :List V:=[.agg (aOg 4 (eI .u64 0))]
def mR0 :V:= .agg (aOg 4 (eI .u64 18446744073709551615))
def mA1 :List V:=[eI .u8 0]
def mR1 :V:= .agg ([eI .u32 1]++(aOg 64 (eI .u8 0))++[eI .u32 1000,eI .u32 545259519,eI .u32 0]++([18446744073709551615,18446744073709551615,18446744073709551615,9223372036854775807].map (eI .u64))++[eI .i64 3,eI .u32 5,eI .u32 600,eI .u32 1,.row (some true) 1 [],eI .i64 1000,eI .i64 4,eI .i64 0])
def mA2 :List V:=[.agg ([eI .u32 1]++(aOg 64 (eI .u8 0))++[eI .u32 1000,eI .u32 545259519,eI .u32 0]++([18446744073709551615,18446744073709551615,18446744073709551615,9223372036854775807].map (eI .u64))++[eI .i64 3,eI .u32 5,eI .u32 600,eI .u32 1,.row (some true) 1 [],eI .i64 1000,eI .i64 4,eI .i64 0])]
def mR2 :V:=eB true
def mA3 :List V:=[.agg ([eI .u32 1]++(aOg 64 (eI .u8 0))++[eI .u32 1000,eI .u32 545259519,eI .u32 0])]
def mR3 :V:= .agg ([61,203,117,189,137,197,20,104,21,221,192,209,215,49,76,183,70,25,253,247,43,253,106,115,55,132,161,91,255,182,29,187].map (eI .u8))
def mA4 :List V:=[.agg ([eI .u32 1]++(aOg 64 (eI .u8 0))++[eI .u32 1000,eI .u32 545259519,eI .u32 0]++([18446744073709551615,18446744073709551615,18446744073709551615,9223372036854775807].map (eI .u64))++[eI .i64 3,eI .u32 5,eI .u32 600,eI .u32 1,.row (some true) 1 [],eI .i64 1000,eI .i64 4,eI .i64 0])]
def mR4 :V:= .tup ([.agg ([eI .i64 0]++([61,203,117,189,137,197,20,104,21,221,192,209,215,49,76,183,70,25,253,247,43,253,106,115,55,132,161,91,255,182,29,187].map (eI .u8))++[.row (some true) 1 []]),eI .i64 0])
def mA5 :List V:=[.agg ([eI .u32 1]++(aOg 64 (eI .u8 0))++[eI .u32 1000,eI .u32 545259519,eI .u32 0]++([18446744073709551615,18446744073709551615,18446744073709551615,9223372036854775807].map (eI .u64))++[eI .i64 3,eI .u32 5,eI .u32 600,eI .u32 1,.row (some true) 1 [],eI .i64 1000,eI .i64 4,eI .i64 0])]
def mR5 :V:= .tup ([.agg ([eI .i64 0]++([61,203,117,189,137,197,20,104,21,221,192,209,215,49,76,183,70,25,253,247,43,253,106,115,55,132,161,91,255,182,29,187].map (eI .u8))++[eI .u32 545259519,eI .u32 1000,.row none 1 [eI .u32 1000]]),eI .i64 0])
def mA6 :List V:=[eI .u8 0]
def mR6 :V:= .agg ([eI .u32 1]++(aOg 64 (eI .u8 0))++[eI .u32 1000,eI .u32 545259519,eI .u32 0]++([18446744073709551615,18446744073709551615,18446744073709551615,9223372036854775807].map (eI .u64))++([eI .i64 3,eI .u32 5,eI .u32 600,eI .u32 1,.row (some true) 1 [],eI .i64 1000,eI .i64 4,eI .i64 0,.row (some true) 1 [],.row none 34 ([.agg ([eI .i64 0]++([61,203,117,189,137,197,20,104,21,221,192,209,215,49,76,183,70,25,253,247,43,253,106,115,55,132,161,91,255,182,29,187].map (eI .u8))++[.row none 1 []])]),.row none 36 ([.agg ([eI .i64 0]++([61,203,117,189,137,197,20,104,21,221,192,209,215,49,76,183,70,25,253,247,43,253,106,115,55,132,161,91,255,182,29,187].map (eI .u8))++[eI .u32 545259519,eI .u32 1000,.row none 1 [eI .u32 1000]])]),.row (some true) 1 []]))
def mA7 :List V:=[.agg ([eI .u32 1]++(aOg 64 (eI .u8 0))++[eI .u32 1000,eI .u32 545259519,eI .u32 0]++([18446744073709551615,18446744073709551615,18446744073709551615,9223372036854775807].map (eI .u64))++([eI .i64 3,eI .u32 5,eI .u32 600,eI .u32 1,.row (some true) 1 [],eI .i64 1000,eI .i64 4,eI .i64 0,.row (some true) 1 [],.row none 34 ([.agg ([eI .i64 0]++([61,203,117,189,137,197,20,104,21,221,192,209,215,49,76,183,70,25,253,247,43,253,106,115,55,132,161,91,255,182,29,187].map (eI .u8))++[.row none 1 []])]),.row none 36 ([.agg ([eI .i64 0]++([61,203,117,189,137,197,20,104,21,221,192,209,215,49,76,183,70,25,253,247,43,253,106,115,55,132,161,91,255,182,29,187].map (eI .u8))++[eI .u32 545259519,eI .u32 1000,.row none 1 [eI .u32 1000]])]),.row (some true) 1 []])),.row (some true) 1 []]
def mR7 :V:= .agg ([eI .u32 1]++(aOg 64 (eI .u8 0))++[eI .u32 1000,eI .u32 545259519,eI .u32 0]++([18446744073709551615,18446744073709551615,18446744073709551615,9223372036854775807].map (eI .u64))++([eI .i64 3,eI .u32 5,eI .u32 600,eI .u32 1,.row (some true) 1 [],eI .i64 1000,eI .i64 4,eI .i64 0,.row none 69 [],.row none 34 ([.agg ([eI .i64 0]++([61,203,117,189,137,197,20,104,21,221,192,209,215,49,76,183,70,25,253,247,43,253,106,115,55,132,161,91,255,182,29,187].map (eI .u8))++[.row none 1 []])]),.row none 36 ([.agg ([eI .i64 0]++([61,203,117,189,137,197,20,104,21,221,192,209,215,49,76,183,70,25,253,247,43,253,106,115,55,132,161,91,255,182,29,187].map (eI .u8))++[eI .u32 545259519,eI .u32 1000,.row none 1 [eI .u32 1000]])]),.row none 1 []]))
def mA8 :List V:=[eI .u8 0,.row (some true) 1 []]
def mR8 :V:= .agg ([eI .u32 1]++(aOg 64 (eI .u8 0))++[eI .u32 1000,eI .u32 545259519,eI .u32 0]++([18446744073709551615,18446744073709551615,18446744073709551615,9223372036854775807].map (eI .u64))++([eI .i64 3,eI .u32 5,eI .u32 600,eI .u32 1,.row (some true) 1 [],eI .i64 1000,eI .i64 4,eI .i64 0,.row none 69 [],.row none 34 ([.agg ([eI .i64 0]++([61,203,117,189,137,197,20,104,21,221,192,209,215,49,76,183,70,25,253,247,43,253,106,115,55,132,161,91,255,182,29,187].map (eI .u8))++[.row none 1 []])]),.row none 36 ([.agg ([eI .i64 0]++([61,203,117,189,137,197,20,104,21,221,192,209,215,49,76,183,70,25,253,247,43,253,106,115,55,132,161,91,255,182,29,187].map (eI .u8))++[eI .u32 545259519,eI .u32 1000,.row none 1 [eI .u32 1000]])]),.row none 1 []]))
def mA9 :List V:=[.agg ([eI .u32 1]++(aOg 64 (eI .u8 0))++[eI .u32 1000,eI .u32 545259519,eI .u32 0]++([18446744073709551615,18446744073709551615,18446744073709551615,9223372036854775807].map (eI .u64))++([eI .i64 3,eI .u32 5,eI .u32 600,eI .u32 1,.row (some true) 1 [],eI .i64 1000,eI .i64 4,eI .i64 0,.row none 69 [],.row none 34 ([.agg ([eI .i64 0]++([61,203,117,189,137,197,20,104,21,221,192,209,215,49,76,183,70,25,253,247,43,253,106,115,55,132,161,91,255,182,29,187].map (eI .u8))++[.row none 1 []])]),.row none 36 ([.agg ([eI .i64 0]++([61,203,117,189,137,197,20,104,21,221,192,209,215,49,76,183,70,25,253,247,43,253,106,115,55,132,161,91,255,182,29,187].map (eI .u8))++[eI .u32 545259519,eI .u32 1000,.row none 1 [eI .u32 1000]])]),.row none 1 []])),eI .i64 0]
def mR9 :V:= .agg ([eI .u32 1]++(aOg 64 (eI .u8 0))++[eI .u32 1000,eI .u32 545259519,eI .u32 0]++([18446744073709551615,18446744073709551615,18446744073709551615,9223372036854775807].map (eI .u64))++([eI .i64 3,eI .u32 5,eI .u32 600,eI .u32 1,.row (some true) 1 [],eI .i64 1000,eI .i64 4,eI .i64 0,.row (some false) 69 [],.row (some false) 34 ([.agg ([eI .i64 0]++([61,203,117,189,137,197,20,104,21,221,192,209,215,49,76,183,70,25,253,247,43,253,106,115,55,132,161,91,255,182,29,187].map (eI .u8))++[.row none 1 []])]),.row (some false) 36 ([.agg ([eI .i64 0]++([61,203,117,189,137,197,20,104,21,221,192,209,215,49,76,183,70,25,253,247,43,253,106,115,55,132,161,91,255,182,29,187].map (eI .u8))++[eI .u32 545259519,eI .u32 1000,.row none 1 [eI .u32 1000]])]),.row (some false) 1 []]))
def aIZ :List V:=[.agg ([eI .u32 1]++(aOg 64 (eI .u8 0))++[eI .u32 1000,eI .u32 545259519,eI .u32 0]++([18446744073709551615,18446744073709551615,18446744073709551615,9223372036854775807].map (eI .u64))++([eI .i64 3,eI .u32 5,eI .u32 600,eI .u32 1,.row (some true) 1 [],eI .i64 1000,eI .i64 4,eI .i64 0,.row (some false) 69 [],.row (some false) 34 ([.agg ([eI .i64 0]++([61,203,117,189,137,197,20,104,21,221,192,209,215,49,76,183,70,25,253,247,43,253,106,115,55,132,161,91,255,182,29,187].map (eI .u8))++[.row none 1 []])]),.row (some false) 36 ([.agg ([eI .i64 0]++([61,203,117,189,137,197,20,104,21,221,192,209,215,49,76,183,70,25,253,247,43,253,106,115,55,132,161,91,255,182,29,187].map (eI .u8))++[eI .u32 545259519,eI .u32 1000,.row none 1 [eI .u32 1000]])]),.row (some false) 1 []])),.row (some true) 1 []]
def aJ4 :V:= .agg ([eI .u32 1]++(aOg 64 (eI .u8 0))++[eI .u32 1000,eI .u32 545259519,eI .u32 0]++([18446744073709551615,18446744073709551615,18446744073709551615,9223372036854775807].map (eI .u64))++([eI .i64 3,eI .u32 5,eI .u32 600,eI .u32 1,.row (some true) 1 [],eI .i64 1000,eI .i64 4,eI .i64 0,.row none 69 [],.row none 34 ([.agg ([eI .i64 0]++([61,203,117,189,137,197,20,104,21,221,192,209,215,49,76,183,70,25,253,247,43,253,106,115,55,132,161,91,255,182,29,187].map (eI .u8))++[.row none 1 []])]),.row none 36 ([.agg ([eI .i64 0]++([61,203,117,189,137,197,20,104,21,221,192,209,215,49,76,183,70,25,253,247,43,253,106,115,55,132,161,91,255,182,29,187].map (eI .u8))++[eI .u32 545259519,eI .u32 1000,.row none 1 [eI .u32 1000]])]),.row none 1 []]))
def aKb :List V:=[.agg ([eI .u32 1]++(aOg 64 (eI .u8 0))++[eI .u32 1000,eI .u32 545259519,eI .u32 0])]
def aJv :V:= .agg ([2,0,0,0].map (eI .u64))
def aIT :List V:=[.agg ([eI .u32 1]++(aOg 64 (eI .u8 0))++[eI .u32 1000,eI .u32 545259519,eI .u32 0]++([18446744073709551615,18446744073709551615,18446744073709551615,9223372036854775807].map (eI .u64))++[eI .i64 3,eI .u32 5,eI .u32 600,eI .u32 1,.row (some true) 1 [],eI .i64 1000,eI .i64 4,eI .i64 0])]
def aJL :V:= .tup ([.agg ([.row none 106 ([.agg ([eI .u32 1]++(aOg 64 (eI .u8 0))++[eI .u32 1000,eI .u32 545259519,eI .u32 0]++([61,203,117,189,137,197,20,104,21,221,192,209,215,49,76,183,70,25,253,247,43,253,106,115,55,132,161,91,255,182,29,187].map (eI .u8))++[eI .i64 (-1),eI .i64 0]++([2,0,0,0].map (eI .u64)))]),eI .i64 0]),eI .i64 0])
def aIV :List V:=[.agg ([eI .u32 1]++(aOg 64 (eI .u8 0))++[eI .u32 1000,eI .u32 545259519,eI .u32 0,.row (some true) 1 []])]
def aJp :V:=eB true
def aJI :List V:=[.agg [eI .u64 7499836474858523453,eI .u64 13207986610177629461],.row (some true) 1 [],eI .i64 10,eI .u64 1533]
def aJD :V:= .tup [.agg [eI .i64 0,.row (some true) 1 []],eI .i64 0]
def aI3 :List V:=[.agg ([eI .u32 1]++(aOg 64 (eI .u8 0))++[eI .u32 1000,eI .u32 545259519,eI .u32 0,.row (some true) 1 []])]
def aJx :V:= .tup [.agg [eI .i64 0,.row (some true) 1 []],eI .i64 0]
def aJg :List V:=[.agg [eI .i64 0,.row (some true) 1 []]]
def aJc :V:= .tup [.row none 1 [eI .u8 0,eI .u8 0],eI .i64 0]
def aJY :List V:=[.agg [eI .i64 0,.row (some true) 1 []]]
def aJt :V:= .agg ([64,127,235,74,75,131,3,186,244,248,78,41,162,9,224,220,253,98,232,31,136,200,237,183,103,92,90,149,217,14,92,144].map (eI .u8))
def aI5 :List V:=[.agg (aOg 32 (eI .u8 0)),.row none 32 ([.agg ([64,127,235,74,75,131,3,186,244,248,78,41,162,9,224,220,253,98,232,31,136,200,237,183,103,92,90,149,217,14,92,144].map (eI .u8))])]
def aJs :V:= .row none 32 ([.agg ([205,82,2,82,211,218,165,190,85,96,76,49,177,182,137,101,134,123,114,215,211,153,30,180,139,2,68,173,178,140,228,82].map (eI .u8))])
def aJC :List V:=[.agg [.row (some true) 1 [],.row (some true) 1 []],.row none 32 ([.agg ([61,203,117,189,137,197,20,104,21,221,192,209,215,49,76,183,70,25,253,247,43,253,106,115,55,132,161,91,255,182,29,187].map (eI .u8))]),.row none 32 ([.agg ([64,127,235,74,75,131,3,186,244,248,78,41,162,9,224,220,253,98,232,31,136,200,237,183,103,92,90,149,217,14,92,144].map (eI .u8))])]
def aJz :V:= .tup ([.agg ([.row none 32 ([.agg ([61,203,117,189,137,197,20,104,21,221,192,209,215,49,76,183,70,25,253,247,43,253,106,115,55,132,161,91,255,182,29,187].map (eI .u8))]),.row none 32 ([.agg ([205,82,2,82,211,218,165,190,85,96,76,49,177,182,137,101,134,123,114,215,211,153,30,180,139,2,68,173,178,140,228,82].map (eI .u8))])]),eI .i64 0])
def aI8 :List V:=[.agg ([eI .u32 1]++(aOg 64 (eI .u8 0))++[eI .u32 1000,eI .u32 545259519,eI .u32 0]++([18446744073709551615,18446744073709551615,18446744073709551615,9223372036854775807].map (eI .u64))++[eI .i64 3,eI .u32 5,eI .u32 600,eI .u32 1,.row (some true) 1 [],eI .i64 1000,eI .i64 4,eI .i64 0]),.agg (aOg 32 (eI .u8 0)),.row none 1 [eI .i64 0,eI .i64 1],eI .i64 1,eI .i64 2]
def aJG :V:= .tup ([.agg ((aOg 32 (eI .u8 0))++([eI .i64 1,eI .i64 2,.row none 106 ([.agg ([eI .u32 1]++(aOg 64 (eI .u8 0))++[eI .u32 1000,eI .u32 545259519,eI .u32 0]++([61,203,117,189,137,197,20,104,21,221,192,209,215,49,76,183,70,25,253,247,43,253,106,115,55,132,161,91,255,182,29,187].map (eI .u8))++[eI .i64 (-1),eI .i64 0]++([2,0,0,0].map (eI .u64)))]),eI .i64 0,.row none 32 ([.agg ([61,203,117,189,137,197,20,104,21,221,192,209,215,49,76,183,70,25,253,247,43,253,106,115,55,132,161,91,255,182,29,187].map (eI .u8))]),.row none 32 ([.agg ([205,82,2,82,211,218,165,190,85,96,76,49,177,182,137,101,134,123,114,215,211,153,30,180,139,2,68,173,178,140,228,82].map (eI .u8))]),eI .i64 1,eI .i64 1,eI .i64 (-1),eB false])++(aOg 32 (eI .u8 0))++[eB false,eI .i64 0,eI .i64 0]++(aOg 32 (eI .u8 0))++[.row (some true) 1 [],eI .i64 0,eI .i64 0,eI .i64 0,.row (some true) 1 [],.row (some true) 1 [],.row none 157 ([.agg ([eI .i64 0,eB false,eB false,eB false,eB false,eI .i64 0]++(aOg 32 (eI .u8 0))++(aOg 4 (eI .u64 0))++[eI .i64 0]++(aOg 32 (eI .u8 0))++[eI .u32 0,eI .u32 0,.row none 1 []]++(aOg 4 (eI .u64 0))++[eI .i64 0]++(aOg 32 (eI .u8 0))++[eI .u32 0,eI .u32 0,.row none 1 []]++(aOg 4 (eI .u64 0))++[eI .i64 0,.row none 1 [],.row none 1 []]++(aOg 32 (eI .u8 0))),.agg ([eI .i64 1,eB false,eB false,eB false,eB false,eI .i64 0]++(aOg 32 (eI .u8 0))++(aOg 4 (eI .u64 0))++[eI .i64 0]++(aOg 32 (eI .u8 0))++[eI .u32 0,eI .u32 0,.row none 1 []]++(aOg 4 (eI .u64 0))++[eI .i64 0]++(aOg 32 (eI .u8 0))++[eI .u32 0,eI .u32 0,.row none 1 []]++(aOg 4 (eI .u64 0))++[eI .i64 0,.row none 1 [],.row none 1 []]++(aOg 32 (eI .u8 0)))]),.row (some true) 1 []]),eI .i64 0])
def aJy :List V:=[.agg ([eI .u32 1]++(aOg 64 (eI .u8 0))++[eI .u32 1000,eI .u32 545259519,eI .u32 0]++([18446744073709551615,18446744073709551615,18446744073709551615,9223372036854775807].map (eI .u64))++[eI .i64 3,eI .u32 5,eI .u32 600,eI .u32 1,.row (some true) 1 [],eI .i64 1000,eI .i64 4,eI .i64 0]),.agg ((aOg 32 (eI .u8 0))++([eI .i64 1,eI .i64 2,.row none 106 ([.agg ([eI .u32 1]++(aOg 64 (eI .u8 0))++[eI .u32 1000,eI .u32 545259519,eI .u32 0]++([61,203,117,189,137,197,20,104,21,221,192,209,215,49,76,183,70,25,253,247,43,253,106,115,55,132,161,91,255,182,29,187].map (eI .u8))++[eI .i64 (-1),eI .i64 0]++([2,0,0,0].map (eI .u64)))]),eI .i64 0,.row none 32 ([.agg ([61,203,117,189,137,197,20,104,21,221,192,209,215,49,76,183,70,25,253,247,43,253,106,115,55,132,161,91,255,182,29,187].map (eI .u8))]),.row none 32 ([.agg ([205,82,2,82,211,218,165,190,85,96,76,49,177,182,137,101,134,123,114,215,211,153,30,180,139,2,68,173,178,140,228,82].map (eI .u8))]),eI .i64 1,eI .i64 1,eI .i64 (-1),eB false])++(aOg 32 (eI .u8 0))++[eB false,eI .i64 0,eI .i64 0]++(aOg 32 (eI .u8 0))++[.row (some true) 1 [],eI .i64 0,eI .i64 0,eI .i64 0,.row (some true) 1 [],.row (some true) 1 [],.row none 157 ([.agg ([eI .i64 0,eB false,eB false,eB false,eB false,eI .i64 0]++(aOg 32 (eI .u8 0))++(aOg 4 (eI .u64 0))++[eI .i64 0]++(aOg 32 (eI .u8 0))++[eI .u32 0,eI .u32 0,.row none 1 []]++(aOg 4 (eI .u64 0))++[eI .i64 0]++(aOg 32 (eI .u8 0))++[eI .u32 0,eI .u32 0,.row none 1 []]++(aOg 4 (eI .u64 0))++[eI .i64 0,.row none 1 [],.row none 1 []]++(aOg 32 (eI .u8 0))),.agg ([eI .i64 1,eB false,eB false,eB false,eB false,eI .i64 0]++(aOg 32 (eI .u8 0))++(aOg 4 (eI .u64 0))++[eI .i64 0]++(aOg 32 (eI .u8 0))++[eI .u32 0,eI .u32 0,.row none 1 []]++(aOg 4 (eI .u64 0))++[eI .i64 0]++(aOg 32 (eI .u8 0))++[eI .u32 0,eI .u32 0,.row none 1 []]++(aOg 4 (eI .u64 0))++[eI .i64 0,.row none 1 [],.row none 1 []]++(aOg 32 (eI .u8 0)))]),.row (some true) 1 []]),.row none 3 [.agg [.row none 69 [],eI .i64 0,eI .i64 0],.agg [.row none 69 [],eI .i64 0,eI .i64 0]],.row none 1 [eI .i64 0,eI .i64 0],eI .i64 2]
def aI0 :V:= .tup ([.agg ([eI .i64 0,eI .i64 2]++(aOg 32 (eI .u8 0))++([eI .i64 1,eI .i64 2,.row none 106 ([.agg ([eI .u32 1]++(aOg 64 (eI .u8 0))++[eI .u32 1000,eI .u32 545259519,eI .u32 0]++([61,203,117,189,137,197,20,104,21,221,192,209,215,49,76,183,70,25,253,247,43,253,106,115,55,132,161,91,255,182,29,187].map (eI .u8))++[eI .i64 (-1),eI .i64 0]++([2,0,0,0].map (eI .u64)))]),eI .i64 0,.row none 32 ([.agg ([61,203,117,189,137,197,20,104,21,221,192,209,215,49,76,183,70,25,253,247,43,253,106,115,55,132,161,91,255,182,29,187].map (eI .u8))]),.row none 32 ([.agg ([205,82,2,82,211,218,165,190,85,96,76,49,177,182,137,101,134,123,114,215,211,153,30,180,139,2,68,173,178,140,228,82].map (eI .u8))]),eI .i64 1,eI .i64 1,eI .i64 (-1),eB false])++(aOg 32 (eI .u8 0))++[eB false,eI .i64 0,eI .i64 0]++(aOg 32 (eI .u8 0))++[.row (some true) 1 [],eI .i64 0,eI .i64 0,eI .i64 0,.row (some true) 1 [],.row (some true) 1 [],.row none 157 ([.agg ([eI .i64 0,eB false,eB false,eB false,eB false,eI .i64 0]++(aOg 32 (eI .u8 0))++(aOg 4 (eI .u64 0))++[eI .i64 0]++(aOg 32 (eI .u8 0))++[eI .u32 0,eI .u32 0,.row none 1 []]++(aOg 4 (eI .u64 0))++[eI .i64 0]++(aOg 32 (eI .u8 0))++[eI .u32 0,eI .u32 0,.row none 1 []]++(aOg 4 (eI .u64 0))++[eI .i64 0,.row none 1 [],.row none 1 []]++(aOg 32 (eI .u8 0))),.agg ([eI .i64 1,eB false,eB false,eB false,eB false,eI .i64 0]++(aOg 32 (eI .u8 0))++(aOg 4 (eI .u64 0))++[eI .i64 0]++(aOg 32 (eI .u8 0))++[eI .u32 0,eI .u32 0,.row none 1 []]++(aOg 4 (eI .u64 0))++[eI .i64 0]++(aOg 32 (eI .u8 0))++[eI .u32 0,eI .u32 0,.row none 1 []]++(aOg 4 (eI .u64 0))++[eI .i64 0,.row none 1 [],.row none 1 []]++(aOg 32 (eI .u8 0)))]),.row (some true) 1 [],.row none 3 [.agg [.row none 69 [],eI .i64 0,eI .i64 0],.agg [.row none 69 [],eI .i64 0,eI .i64 0]],.row none 1 [eI .i64 0,eI .i64 0]]),eI .i64 0])
def aAj :List (FuncId×List V×V):=[(236,mA0,mR0),(130,mA1,mR1),(85,mA2,mR2),(58,mA3,mR3),(131,mA4,mR4),(132,mA5,mR5),(80,mA6,mR6),(53,mA7,mR7),(51,mA8,mR8),(54,mA9,mR9),(53,aIZ,aJ4),(86,aKb,aJv),(55,aIT,aJL),(87,aIV,aJp),(88,aJI,aJD),(56,aI3,aJx),(96,aJg,aJc),(59,aJY,aJt),(93,aI5,aJs),(57,aJC,aJz),(33,aI8,aJG),(35,aJy,aI0)]
def aIS :Nat:=110427941548649020598956093796441935145491619544879308299791050976788480
def aCn (f:FuncId)(xs:List V):List (FuncId×List V×V)→Option V
 | []=>none
 |e::l=>bif aOA e.1 f&&mS e.2.1 xs then some e.2.2 else aCn f xs l
def aEG (base:oF)(l:List (FuncId×List V×V)):oF:=fun f h xs=>match base f h xs with
 |some r=>some r
 |none=>bif aOU aIS f then(aCn f xs l).map fun v=>(v,none)else none
def NF :Nat:=100000
noncomputable def gJ (n:Nat)(f:FuncId)(xs:List V):Option V:=pQ (nT Tryz.prog sF sG sT (sY Tryz.prog sF sG sL sK sT (aEG sB (aAj.take n)) NF) NF f [] xs)
def aP :V:= .agg ([eI .u32 1]++(aOg 64 (eI .u8 0))++[eI .u32 1000,eI .u32 545259519,eI .u32 0]++([18446744073709551615,18446744073709551615,18446744073709551615,9223372036854775807].map (eI .u64))++[eI .i64 3,eI .u32 5,eI .u32 600,eI .u32 1,.row (some true) 1 [],eI .i64 1000,eI .i64 4,eI .i64 0])
def aN :V:= .agg ([eI .i64 0,eI .i64 2]++(aOg 32 (eI .u8 0))++([eI .i64 1,eI .i64 2,.row none 106 ([.agg ([eI .u32 1]++(aOg 64 (eI .u8 0))++[eI .u32 1000,eI .u32 545259519,eI .u32 0]++([61,203,117,189,137,197,20,104,21,221,192,209,215,49,76,183,70,25,253,247,43,253,106,115,55,132,161,91,255,182,29,187].map (eI .u8))++[eI .i64 (-1),eI .i64 0]++([2,0,0,0].map (eI .u64)))]),eI .i64 0,.row none 32 ([.agg ([61,203,117,189,137,197,20,104,21,221,192,209,215,49,76,183,70,25,253,247,43,253,106,115,55,132,161,91,255,182,29,187].map (eI .u8))]),.row none 32 ([.agg ([205,82,2,82,211,218,165,190,85,96,76,49,177,182,137,101,134,123,114,215,211,153,30,180,139,2,68,173,178,140,228,82].map (eI .u8))]),eI .i64 1,eI .i64 1,eI .i64 (-1),eB false])++(aOg 32 (eI .u8 0))++[eB false,eI .i64 0,eI .i64 0]++(aOg 32 (eI .u8 0))++[.row (some true) 1 [],eI .i64 0,eI .i64 0,eI .i64 0,.row (some true) 1 [],.row (some true) 1 [],.row none 157 ([.agg ([eI .i64 0,eB false,eB false,eB false,eB false,eI .i64 0]++(aOg 32 (eI .u8 0))++(aOg 4 (eI .u64 0))++[eI .i64 0]++(aOg 32 (eI .u8 0))++[eI .u32 0,eI .u32 0,.row none 1 []]++(aOg 4 (eI .u64 0))++[eI .i64 0]++(aOg 32 (eI .u8 0))++[eI .u32 0,eI .u32 0,.row none 1 []]++(aOg 4 (eI .u64 0))++[eI .i64 0,.row none 1 [],.row none 1 []]++(aOg 32 (eI .u8 0))),.agg ([eI .i64 1,eB false,eB false,eB false,eB false,eI .i64 0]++(aOg 32 (eI .u8 0))++(aOg 4 (eI .u64 0))++[eI .i64 0]++(aOg 32 (eI .u8 0))++[eI .u32 0,eI .u32 0,.row none 1 []]++(aOg 4 (eI .u64 0))++[eI .i64 0]++(aOg 32 (eI .u8 0))++[eI .u32 0,eI .u32 0,.row none 1 []]++(aOg 4 (eI .u64 0))++[eI .i64 0,.row none 1 [],.row none 1 []]++(aOg 32 (eI .u8 0)))]),.row (some true) 1 [],.row none 3 [.agg [.row none 69 [],eI .i64 0,eI .i64 0],.agg [.row none 69 [],eI .i64 0,eI .i64 0]],.row none 1 [eI .i64 0,eI .i64 0]])
def aB :V:= .row none 1 [.row none 69 [],.row none 69 []]
def aS :V:= .row none 1 ([.row none 1 ([1,1,1,5].map (eI .u8)),.row none 1 ([1,1,2,5].map (eI .u8))])
def aM :V:= .agg ([eI .i64 0,eI .i64 2]++(aOg 32 (eI .u8 0))++([eI .i64 1,eI .i64 2,.row none 106 ([.agg ([eI .u32 1]++(aOg 64 (eI .u8 0))++[eI .u32 1000,eI .u32 545259519,eI .u32 0]++([61,203,117,189,137,197,20,104,21,221,192,209,215,49,76,183,70,25,253,247,43,253,106,115,55,132,161,91,255,182,29,187].map (eI .u8))++[eI .i64 (-1),eI .i64 0]++([2,0,0,0].map (eI .u64)))]),eI .i64 0,.row none 32 ([.agg ([61,203,117,189,137,197,20,104,21,221,192,209,215,49,76,183,70,25,253,247,43,253,106,115,55,132,161,91,255,182,29,187].map (eI .u8))]),.row none 32 ([.agg ([205,82,2,82,211,218,165,190,85,96,76,49,177,182,137,101,134,123,114,215,211,153,30,180,139,2,68,173,178,140,228,82].map (eI .u8))]),eI .i64 1,eI .i64 1,eI .i64 (-1),eB false])++(aOg 32 (eI .u8 0))++[eB false,eI .i64 0,eI .i64 0]++(aOg 32 (eI .u8 0))++[.row none 1 [],eI .i64 0,eI .i64 0,eI .i64 0,.row none 1 [],.row none 1 [],.row none 157 ([.agg ([eI .i64 0,eB false,eB false,eB false,eB false,eI .i64 0]++(aOg 32 (eI .u8 0))++(aOg 4 (eI .u64 0))++[eI .i64 0]++(aOg 32 (eI .u8 0))++[eI .u32 0,eI .u32 0,.row none 1 []]++(aOg 4 (eI .u64 0))++[eI .i64 0]++(aOg 32 (eI .u8 0))++[eI .u32 0,eI .u32 0,.row none 1 []]++(aOg 4 (eI .u64 0))++[eI .i64 0,.row none 1 [],.row none 1 []]++(aOg 32 (eI .u8 0))),.agg ([eI .i64 1,eB false,eB false,eB false,eB false,eI .i64 0]++(aOg 32 (eI .u8 0))++(aOg 4 (eI .u64 0))++[eI .i64 0]++(aOg 32 (eI .u8 0))++[eI .u32 0,eI .u32 0,.row none 1 []]++(aOg 4 (eI .u64 0))++[eI .i64 0]++(aOg 32 (eI .u8 0))++[eI .u32 0,eI .u32 0,.row none 1 []]++(aOg 4 (eI .u64 0))++[eI .i64 0,.row none 1 [],.row none 1 []]++(aOg 32 (eI .u8 0)))]),.row none 1 [],.row none 3 [.agg [.row none 1 [],eI .i64 0,eI .i64 0],.agg [.row none 1 [],eI .i64 0,eI .i64 0]],.row none 1 [eI .i64 0,eI .i64 0]])
def aA :V:= .agg [eI .i64 1,eI .i64 0,eI .i64 0,eI .i64 0]
def aAQ :ByteArray:=⟨#[114,111,117,110,100,32,48,10,115,116,97,103,101,32,49,10,116,105,112,32,48,32,51,100,99,98,55,53,98,100,56,57,99,53,49,52,54,56,49,53,100,100,99,48,100,49,100,55,51,49,52,99,98,55,52,54,49,57,102,100,102,55,50,98,102,100,54,97,55,51,51,55,56,52,97,49,53,98,102,102,98,54,49,100,98,98,32,50,10,102,105,108,116,101,114,115,32,49,32,49,10,99,111,105,110,115,32,48,32,48,10]⟩
def goS :ByteArray:=⟨#[115,116,101,112,115,32,48]⟩
def aHh :ByteArray:=⟨#[111,107,10]++aAQ.data⟩
def sR :oF:=fun f h xs=>bif aOA f 18&&mS xs [aP,aN,aB,aS,eS goS]then some (.tup [eS aHh,eI .i64 0],none)else aEG sB aAj f h xs
set_option maxRecDepth 100000
theorem km0 :gJ 0 236 mA0=some mR0:=by kernel_rfl
theorem km1 :gJ 1 130 mA1=some mR1:=by kernel_rfl
theorem km2 :gJ 2 85 mA2=some mR2:=by kernel_rfl
theorem km3 :gJ 3 58 mA3=some mR3:=by kernel_rfl
theorem km4 :gJ 4 131 mA4=some mR4:=by kernel_rfl
theorem km5 :gJ 5 132 mA5=some mR5:=by kernel_rfl
theorem km6 :gJ 6 80 mA6=some mR6:=by kernel_rfl
theorem km7 :gJ 7 53 mA7=some mR7:=by kernel_rfl
theorem km8 :gJ 8 51 mA8=some mR8:=by kernel_rfl
theorem km9 :gJ 9 54 mA9=some mR9:=by kernel_rfl
theorem aMI :gJ 10 53 aIZ=some aJ4:=by kernel_rfl
theorem aOb :gJ 11 86 aKb=some aJv:=by kernel_rfl
theorem aNm :gJ 12 55 aIT=some aJL:=by kernel_rfl
theorem aNe :gJ 13 87 aIV=some aJp:=by kernel_rfl
theorem aNN :gJ 14 88 aJI=some aJD:=by kernel_rfl
theorem aOe :gJ 15 56 aI3=some aJx:=by kernel_rfl
theorem aNA :gJ 16 96 aJg=some aJc:=by kernel_rfl
theorem aNJ :gJ 17 59 aJY=some aJt:=by kernel_rfl
theorem aNo :gJ 18 93 aI5=some aJs:=by kernel_rfl
theorem aN5 :gJ 19 57 aJC=some aJz:=by kernel_rfl
theorem aN1 :gJ 20 33 aI8=some aJG:=by kernel_rfl
theorem aMV :gJ 21 35 aJy=some aI0:=by kernel_rfl
set_option maxRecDepth 100000
theorem k1 :gJ 22 9 [eS goS]=some (.tup [.row none 4 [aA],eI .i64 1,eI .i64 0]):=by kernel_rfl
theorem k2 :gJ 22 36 [aP,aN,aB,aS,aA]=some (.tup [aM,eI .i64 0]):=by kernel_rfl
theorem k3 :gJ 22 39 [aM]=some (eS aAQ):=by kernel_rfl
theorem k4 :pQ (nT Tryz.prog sF sG sT (sY Tryz.prog sF sG sL sK sT sR NF) NF 7 [] [])=some (eB true):=by kernel_rfl
end Go.Proofs.YtjcfonniipabpaaGreatDoor
namespace Go.Proofs
open Go.RowKit Go.Lib
set_option maxRecDepth 100000 in
set_option maxHeartbeats 4000000 in
theorem Tryz.clone172 (a:Option Addr)(c:Nat)(w:World):Calls Tryz.prog 172 #[.slice a 0 c] w fun e w'=> ∃b d,e= .returned (.slice b 0 d)∧(b=none→d=0)∧Below w.heap.size w w':=by
 have he:=fun(w:World)=>run_eql_slice_nil (P:=Tryz.prog) w 61 301 a 0 c Tryz.underlying61
 cases a with
 |none=>
  go_enter Tryz.func172,Tryz.ntmps172
  go_wp2
  go_ret
  exact⟨_,_,rfl,fun _=>rfl,Below.refl _ _⟩
 |some a=>
  go_enter Tryz.func172,Tryz.ntmps172
  go_wp2
  go_ret
  exact⟨_,_,rfl,fun h=>(by cases h),(Below.refl _ _).alloc (aOF _) _⟩
set_option maxRecDepth 100000 in
set_option maxHeartbeats 4000000 in
theorem Tryz.clone180 (a:Option Addr)(c:Nat)(w:World):Calls Tryz.prog 180 #[.slice a 0 c] w fun e w'=> ∃b d,e= .returned (.slice b 0 d)∧(b=none→d=0)∧Below w.heap.size w w':=by
 have he:=fun(w:World)=>run_eql_slice_nil (P:=Tryz.prog) w 69 315 a 0 c Tryz.underlying69
 cases a with
 |none=>
  go_enter Tryz.func180,Tryz.ntmps180
  go_wp2
  go_ret
  exact⟨_,_,rfl,fun _=>rfl,Below.refl _ _⟩
 |some a=>
  go_enter Tryz.func180,Tryz.ntmps180
  go_wp2
  go_ret
  exact⟨_,_,rfl,fun h=>(by cases h),(Below.refl _ _).alloc (aOF _) _⟩
set_option maxRecDepth 100000 in
set_option maxHeartbeats 4000000 in
theorem Tryz.clone198 (a:Option Addr)(c:Nat)(w:World):Calls Tryz.prog 198 #[.slice a 0 c] w fun e w'=> ∃b d,e= .returned (.slice b 0 d)∧(b=none→d=0)∧Below w.heap.size w w':=by
 have he:=fun(w:World)=>run_eql_slice_nil (P:=Tryz.prog) w 148 44 a 0 c Tryz.underlying148
 cases a with
 |none=>
  go_enter Tryz.func198,Tryz.ntmps198
  go_wp2
  go_ret
  exact⟨_,_,rfl,fun _=>rfl,Below.refl _ _⟩
 |some a=>
  go_enter Tryz.func198,Tryz.ntmps198
  go_wp2
  go_ret
  exact⟨_,_,rfl,fun h=>(by cases h),(Below.refl _ _).alloc (aOF _) _⟩
set_option maxRecDepth 100000 in
set_option maxHeartbeats 4000000 in
theorem Tryz.clone199 (a:Option Addr)(c:Nat)(w:World):Calls Tryz.prog 199 #[.slice a 0 c] w fun e w'=> ∃b d,e= .returned (.slice b 0 d)∧(b=none→d=0)∧Below w.heap.size w w':=by
 have he:=fun(w:World)=>run_eql_slice_nil (P:=Tryz.prog) w 151 4 a 0 c Tryz.underlying151
 cases a with
 |none=>
  go_enter Tryz.func199,Tryz.ntmps199
  go_wp2
  go_ret
  exact⟨_,_,rfl,fun _=>rfl,Below.refl _ _⟩
 |some a=>
  go_enter Tryz.func199,Tryz.ntmps199
  go_wp2
  go_ret
  exact⟨_,_,rfl,fun h=>(by cases h),(Below.refl _ _).alloc (aOF _) _⟩
set_option maxRecDepth 100000 in
set_option maxHeartbeats 4000000 in
theorem Tryz.clone200 (a:Option Addr)(c:Nat)(w:World):Calls Tryz.prog 200 #[.slice a 0 c] w fun e w'=> ∃b d,e= .returned (.slice b 0 d)∧(b=none→d=0)∧Below w.heap.size w w':=by
 have he:=fun(w:World)=>run_eql_slice_nil (P:=Tryz.prog) w 152 48 a 0 c Tryz.underlying152
 cases a with
 |none=>
  go_enter Tryz.func200,Tryz.ntmps200
  go_wp2
  go_ret
  exact⟨_,_,rfl,fun _=>rfl,Below.refl _ _⟩
 |some a=>
  go_enter Tryz.func200,Tryz.ntmps200
  go_wp2
  go_ret
  exact⟨_,_,rfl,fun h=>(by cases h),(Below.refl _ _).alloc (aOF _) _⟩
set_option maxRecDepth 100000 in
set_option maxHeartbeats 4000000 in
theorem Tryz.clone211 (a:Option Addr)(c:Nat)(w:World):Calls Tryz.prog 211 #[.slice a 0 c] w fun e w'=> ∃b d,e= .returned (.slice b 0 d)∧(b=none→d=0)∧Below w.heap.size w w':=by
 have he:=fun(w:World)=>run_eql_slice_nil (P:=Tryz.prog) w 91 143 a 0 c Tryz.underlying91
 cases a with
 |none=>
  go_enter Tryz.func211,Tryz.ntmps211
  go_wp2
  go_ret
  exact⟨_,_,rfl,fun _=>rfl,Below.refl _ _⟩
 |some a=>
  go_enter Tryz.func211,Tryz.ntmps211
  go_wp2
  go_ret
  exact⟨_,_,rfl,fun h=>(by cases h),(Below.refl _ _).alloc (aOF _) _⟩
set_option maxRecDepth 100000 in
set_option maxHeartbeats 4000000 in
theorem Tryz.clone265 (a:Option Addr)(c:Nat)(w:World):Calls Tryz.prog 265 #[.slice a 0 c] w fun e w'=> ∃b d,e= .returned (.slice b 0 d)∧(b=none→d=0)∧Below w.heap.size w w':=by
 have he:=fun(w:World)=>run_eql_slice_nil (P:=Tryz.prog) w 64 304 a 0 c Tryz.underlying64
 cases a with
 |none=>
  go_enter Tryz.func265,Tryz.ntmps265
  go_wp2
  go_ret
  exact⟨_,_,rfl,fun _=>rfl,Below.refl _ _⟩
 |some a=>
  go_enter Tryz.func265,Tryz.ntmps265
  go_wp2
  go_ret
  exact⟨_,_,rfl,fun h=>(by cases h),(Below.refl _ _).alloc (aOF _) _⟩
set_option maxRecDepth 100000 in
set_option maxHeartbeats 4000000 in
theorem Tryz.clone266 (a:Option Addr)(c:Nat)(w:World):Calls Tryz.prog 266 #[.slice a 0 c] w fun e w'=> ∃b d,e= .returned (.slice b 0 d)∧(b=none→d=0)∧Below w.heap.size w w':=by
 have he:=fun(w:World)=>run_eql_slice_nil (P:=Tryz.prog) w 65 309 a 0 c Tryz.underlying65
 cases a with
 |none=>
  go_enter Tryz.func266,Tryz.ntmps266
  go_wp2
  go_ret
  exact⟨_,_,rfl,fun _=>rfl,Below.refl _ _⟩
 |some a=>
  go_enter Tryz.func266,Tryz.ntmps266
  go_wp2
  go_ret
  exact⟨_,_,rfl,fun h=>(by cases h),(Below.refl _ _).alloc (aOF _) _⟩
end Go.Proofs
namespace Go.Proofs.YtjcfonniipabpaaGreatDoor
open Go Go.Proofs Go.RowKit Go.Vm
theorem qI {f:FuncId} {fn:Func} (hf:Tryz.prog.funcs[f]? =some fn) (hb:fn.body.isNone=false) (hn:(fn.name == "runtime.NumGoroutine")=false)
  (hc: ∀(a:Option Addr)(c:Nat)(w:World),Calls Tryz.prog f #[.slice a 0 c] w fun e w'=> ∃b d,e= .returned (.slice b 0 d)∧(b=none→d=0)∧Below w.heap.size w w') {nl:Option Bool} {k:Nat}:Vm.Fn Tryz.prog f [] [.row nl k []] (.row none 1 []) []:=by
 refine aFo hf hb hn fun X w vs _ _ hv=> ?_
 unfold VCells at hv
 obtain⟨v,rest,rfl,hv,hn⟩:=hv
 unfold VCells at hn
 subst hn
 unfold VR at hv
 obtain⟨a,cap,rfl,_⟩:=hv
 refine(hc a cap w).mono ?_
 rintro e w' ⟨b,d,he,h0,hB⟩
 refine⟨_,he,hB, ?_⟩
 unfold VR
 exact⟨b,d,rfl,Nat.zero_le _,h0,fun b h=>(by cases h),fun e h=>(by cases h),fun h=>absurd rfl h⟩
theorem aDM {nl:Option Bool}{k:Nat}:Vm.Fn Tryz.prog 172 [] [.row nl k []] (.row none 1 []) []:=qI Tryz.func172 (by kernel_rfl) (by kernel_rfl) Tryz.clone172
theorem aDW {nl:Option Bool}{k:Nat}:Vm.Fn Tryz.prog 180 [] [.row nl k []] (.row none 1 []) []:=qI Tryz.func180 (by kernel_rfl) (by kernel_rfl) Tryz.clone180
theorem aDX {nl:Option Bool}{k:Nat}:Vm.Fn Tryz.prog 198 [] [.row nl k []] (.row none 1 []) []:=qI Tryz.func198 (by kernel_rfl) (by kernel_rfl) Tryz.clone198
theorem aDJ {nl:Option Bool}{k:Nat}:Vm.Fn Tryz.prog 199 [] [.row nl k []] (.row none 1 []) []:=qI Tryz.func199 (by kernel_rfl) (by kernel_rfl) Tryz.clone199
theorem aDG {nl:Option Bool}{k:Nat}:Vm.Fn Tryz.prog 200 [] [.row nl k []] (.row none 1 []) []:=qI Tryz.func200 (by kernel_rfl) (by kernel_rfl) Tryz.clone200
theorem aD7 {nl:Option Bool}{k:Nat}:Vm.Fn Tryz.prog 211 [] [.row nl k []] (.row none 1 []) []:=qI Tryz.func211 (by kernel_rfl) (by kernel_rfl) Tryz.clone211
theorem aD8 {nl:Option Bool}{k:Nat}:Vm.Fn Tryz.prog 265 [] [.row nl k []] (.row none 1 []) []:=qI Tryz.func265 (by kernel_rfl) (by kernel_rfl) Tryz.clone265
theorem aDP {nl:Option Bool}{k:Nat}:Vm.Fn Tryz.prog 266 [] [.row nl k []] (.row none 1 []) []:=qI Tryz.func266 (by kernel_rfl) (by kernel_rfl) Tryz.clone266
end Go.Proofs.YtjcfonniipabpaaGreatDoor
