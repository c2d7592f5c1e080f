/- Texts of ours, joined. -/
import Derived.Test.YtopdhljncajmpaaGreatDoorQC10
open Go.Vm.AB renaming block → a1K,seq → a1M,cndF → a1O,rs → a1Q
open List renaming replicate → a1L
open Go.IntKind renaming u32 → a1N
open Go.Vm.OpsX renaming ghost → a1P
set_option linter.unusedVariables false
set_option linter.unusedSimpArgs false
set_option maxRecDepth 20000
set_option maxHeartbeats 8000000
namespace Go.Proofs.YtopdhljncajmpaaGreatDoor
open Go Go.Vm Go.Proofs.Tryz
theorem aGh {N vn r} (hr:aEN N vn=some r):
  Fp 139 [] [eI .u64 vn] (.agg (r.map (eI .u64))) []:=by
 refine bT func139 ntmps139 results139 fun hR=> ?_
 unfold aEN at hr
 refine zz ?_
 refine xw (v:=(.agg ([vn,0,0,0].map (eI .u64)))) (cS rfl (aHG aHK aGz rfl)) ?_
 exact zE
instance :CtC 139 true (bC @aGh):=⟨@aGh⟩
theorem aEl {N x r} (hr:aG6 N x=some r):
  Fp 187 [] [eI .u64 x] (eI .i64 r) []:=by
 refine bT func187 ntmps187 results187 fun hR=> ?_
 refine zz ?_
 refine a1M<|zz ?_
 obtain⟨h1,hr⟩:=cutF hr
 refine a1O rfl h1 ?_
 refine zz ?_
 refine a1M<|zz ?_
 obtain⟨h2,hr⟩:=aKF hr
 refine AB.cndT rfl h2 ?_
 obtain⟨x10,h_3,hr⟩:=aL hr
 refine zz ?_
 refine a1M<|zz ?_
 obtain⟨h4,hr⟩:=cutF hr
 refine a1O rfl h4 ?_
 obtain⟨x22,h_5,hr⟩:=aL hr
 refine zz ?_
 refine xw (v:=(eI .u8 x22)) (aYJ rfl rfl (ixT ti9 h_5)) ?_
 exact zE
instance :CtC 187 true (bC @aEl):=⟨@aEl⟩
theorem aL3 {N va r} (hr:aRJ N va=some r):
  Fp 140 [] [.agg (va.map (eI .u64))] (eI .i64 r) []:=by
 refine bT func140 ntmps140 results140 fun hR=> ?_
 refine zz ?_
 obtain⟨aQg,hL1,hr⟩:=aL hr
 refine a1M<|zz ?_
 exact a1K<|gQ hL1 (fun vi=>[(1,.ptr 0 0),(3,eI .i64 vi)]) (fun vi=>[some ⟨31,va.map (eI .u64)⟩])
instance :CtC 140 true (bC @aL3):=⟨@aL3⟩
theorem aLZ {N va vn r} (hr:aRs N va vn=some r):
  Fp 189 [] [.agg (va.map (eI .u64)),eI .i64 vn] (.agg (r.map (eI .u64))) []:=by
 refine bT func189 ntmps189 results189 fun hR=> ?_
 refine zz ?_
 refine a1M<|zz ?_
 obtain⟨h1,hr⟩:=cutF hr
 refine a1O rfl h1 ?_
 refine zz ?_
 refine a1M<|zz ?_
 obtain⟨h2,hr⟩:=cutF hr
 refine a1O rfl h2 ?_
 refine zz ?_
 refine bW (aMk N) (fun l1=>[(4,.ptr 0 0),(5,.ptr 1 0)]) (fun l1=>[some ⟨31,(a1L 4 0).map (eI .u64)⟩,some ⟨31,l1.map (eI .u64)⟩]) ?_
 obtain⟨cN,hL2,hr⟩:=aL hr
 refine zz ?_
 exact a1K<|dH hL2 (fun vi l2=>[(2,.ptr 0 0),(4,.ptr 1 0),(5,.ptr 2 0),(6,eI .i64 (IntKind.i64.wrap (Int.tdiv vn 64))),(7,eI .i64 (Int.tmod vn 64)),(8,eI .i64 vi)]) (fun vi l2=>[some ⟨31,va.map (eI .u64)⟩,some ⟨31,(a1L 4 0).map (eI .u64)⟩,some ⟨31,l2.map (eI .u64)⟩])
instance :CtC 189 true (bC @aLZ):=⟨@aLZ⟩
theorem aE5 {N va vn r} (hr:aIb N va vn=some r):
  Fp 141 [] [.agg (va.map (eI .u64)),eI .i64 vn] (.agg (r.map (eI .u64))) []:=
 fV func141 ntmps141 results141
instance :CtC 141 true (bC @aE5):=⟨@aE5⟩
theorem aGE {N kS r} (hr:aEX N kS=some r):
  Fp 92 [] [eI .u32 kS] (.tup [.agg (r.1.map (eI .u64)),eI .i64 r.2]) []:=
 fV func92 ntmps92 results92
instance :CtC 92 true (bC @aGE):=⟨@aGE⟩
theorem aLY {N va b r} (hr:aI7 N va b=some r):
  Fp 93 [] [.agg (va.map (eI .u64)),.agg (b.map (eI .u64))] (eI .i64 r) []:=by
 refine bT func93 ntmps93 results93 fun hR=> ?_
 unfold aI7 at hr
 refine zz ?_
 obtain⟨aQg,hL1,hr⟩:=aL hr
 refine a1M<|zz ?_
 refine a1K<|lp0 hL1 [(2,.ptr 0 0),(3,.ptr 1 0),(5,eI .i64 3)] [some ⟨31,va.map (eI .u64)⟩,some ⟨31,b.map (eI .u64)⟩] (round:= ?_)
 intro m1 hr
 rw[aMf]at hr
 exact zE
instance :CtC 93 true (bC @aLY):=⟨@aLY⟩
theorem aE1 {N p r} (hr:oA N p=some r):
  Fp 58 [] [cU p] (eB r) []:=by
 refine bT func58 ntmps58 results58 fun hR=> ?_
 refine zz ?_
 refine a1M ?_
 obtain⟨q,h_1,hr⟩:=aL hr
 obtain⟨h2,hr⟩:=cutF hr
 obtain⟨h3,hr⟩:=cutF hr
 refine xq ?_
 refine zz ?_
 refine xw (v:=(.agg ([0,0,0,0].map (eI .u64)))) (cS rfl (aHG aHK aGz rfl)) ?_
 refine zz ?_
 obtain⟨h4,hr⟩:=cutF hr
 refine a1O rfl h4 ?_
 refine zz ?_
 refine a1M ?_
 obtain⟨h5,hr⟩:=cutF hr
 obtain⟨h6,hr⟩:=cutF hr
 obtain⟨h7,hr⟩:=cutF hr
 refine xq ?_
 refine zz ?_
 obtain⟨h8,hr⟩:=cutF hr
 refine a1O rfl h8 ?_
 refine zz ?_
 refine a1M ?_
 obtain⟨h9,hr⟩:=cutF hr
 obtain⟨h10,hr⟩:=cutF hr
 obtain⟨h11,hr⟩:=cutF hr
 refine xq ?_
 refine zz ?_
 obtain⟨h12,hr⟩:=cutF hr
 refine a1O rfl h12 ?_
 refine zz ?_
 refine fY (z6 N p) [(1,.ptr 0 0)] [some ⟨34,bG p⟩] ?_
 obtain⟨cN,hL2,hr⟩:=aL hr
 refine zz ?_
 exact a1K<|lp0 hL2 [(1,.ptr 0 0),(3,eI .i64 0),(59,.row none 33 (p.Checkpoints.map bB)),(60,eI .i64 (p.Checkpoints.length:Int)),(61,eI .i64 0)] [some ⟨34,bG p⟩]
instance :CtC 58 true (bC @aE1):=⟨@aE1⟩
theorem aHc {N vn c6 r} (hr:sO N vn c6=some r):
  Fp 179 [] [eI .u64 vn,eI .i64 c6] (.sl 0 0 r.length 1 false) [some ⟨5,r.map (eI .u8)⟩]:=by
 refine bT func179 ntmps179 results179 fun hR=> ?_
 obtain⟨x8,h_1,hr⟩:=aL hr
 refine zz ?_
 refine xw (v:=(.sl 0 0 x8.length 1 false)) (h':=[some ⟨5,x8.map (eI .u8)⟩]) (aOu rfl rfl (mkS (E:=(eI .u8)) (y:=0) lI mF ⟨zl,rfl,rfl⟩ rfl rfl rfl h_1 rfl rfl)) ?_
 refine zz ?_
 refine bW (aBz N) (fun l0=>[(5,.sl 0 0 l0.length 1 false)]) (fun l0=>[some ⟨5,l0.map (eI .u8)⟩]) ?_
 obtain⟨cN,hL2,hr⟩:=aL hr
 refine zz ?_
 exact a1K<|dH hL2 (fun x10 aO=>[(0,eI .u64 vn),(5,.sl 0 0 aO.length 1 false),(9,eI .i64 c6),(10,eI .i64 x10)]) (fun x10 aO=>[some ⟨5,aO.map (eI .u8)⟩])
instance :CtC 179 false (bC @aHc):=⟨@aHc⟩
theorem aGY {N b vs r} (hr:fX N b vs=some r):
  Fp 178 [] [.row none 1 (b.map (eI .u8)),.row none 1 (vs.map (eI .u8))] (.sl 0 0 r.length 1 false) [some ⟨5,r.map (eI .u8)⟩]:=by
 refine bT func178 ntmps178 results178 fun hR=> ?_
 obtain⟨x11,h_1,hr⟩:=aL hr
 refine zz ?_
 refine xw (v:=(.sl 0 0 0 1 false)) (h':=[some ⟨5,x11.map (eI .u8)⟩]) (aOu rfl rfl (mkC (E:=(eI .u8)) (y:=0) lI mF ⟨zl,rfl,rfl⟩ rfl rfl rfl h_1 rfl rfl)) ?_
 obtain⟨x14,h_2,hr⟩:=aL hr
 refine zz ?_
 refine xw (v:=(.sl 1 0 x14.length 1 false)) (h':=[none,some ⟨5,x14.map (eI .u8)⟩]) (uE rfl rfl (aYH (E:=(eI .u8)) (Nat.zero_le _) lI mF ⟨rfl,rfl,zl⟩ rfl (aHS (fun _=>rfl)) h_2 rfl rfl)) ?_
 exact zE
instance :CtC 178 false (bC @aGY):=⟨@aGY⟩
theorem dP {N b vn r} (hr:dU N b vn=some r):
  Fp 130 [] [.row none 1 (b.map (eI .u8)),eI .u32 vn] (.sl 0 0 r.length 1 false) [some ⟨5,r.map (eI .u8)⟩]:=
 fV func130 ntmps130 results130
instance :CtC 130 false (bC @dP):=⟨@dP⟩
theorem lA {N b vh r} (hr:jP N b vh=some r):
  Fp 131 [] [.row none 1 (b.map (eI .u8)),.agg (vh.map (eI .u8))] (.sl 0 0 r.length 1 false) [some ⟨5,r.map (eI .u8)⟩]:=
 fV func131 ntmps131 results131
instance :CtC 131 false (bC @lA):=⟨@lA⟩
theorem sT {N vh r} (hr:mA N vh=some r):
  Fp 81 [] [pD vh] (.sl 0 0 r.length 1 false) [some ⟨5,r.map (eI .u8)⟩]:=by
 refine bT func81 ntmps81 results81 fun hR=> ?_
 obtain⟨x6,h_1,hr⟩:=aL hr
 refine zz ?_
 refine zc (dP h_1) [] ?_
 obtain⟨q,h_2,x10,h_3,hr⟩:=cE hr
 refine zz ?_
 refine kY (lA h_3) [] [1] ?_
 obtain⟨q_1,h_4,x14,h_5,hr⟩:=cE hr
 refine zz ?_
 refine kY (lA h_5) [] [2] ?_
 obtain⟨x18,h_6,hr⟩:=aL hr
 refine zz ?_
 refine kY (dP h_6) [] [3] ?_
 obtain⟨x22,h_7,hr⟩:=aL hr
 refine zz ?_
 refine kY (dP h_7) [] [4] ?_
 obtain⟨x26,h_8,hr⟩:=aL hr
 refine zz ?_
 refine kY (dP h_8) [] [5] ?_
 refine zz ?_
 replace hr:=sj hr
 subst hr
 exact zd1 Tryz.results81 [6]
instance :CtC 81 false (bC @sT):=⟨@sT⟩
theorem aJB {N vn r} (hr:aLH N vn=some r):
  Fp 176 [] [eI .u64 vn] (.sl 0 0 r.length 1 false) [some ⟨5,r.map (eI .u8)⟩]:=by
 refine bT func176 ntmps176 results176 fun hR=> ?_
 obtain⟨x15,h_1,hr⟩:=aL hr
 refine zz ?_
 refine xw (v:=(.sl 0 0 x15.length 1 false)) (h':=[some ⟨5,x15.map (eI .u8)⟩]) (aOu rfl rfl (mkL (E:=(eI .u8)) (y:=0) lI mF ⟨zl,rfl,rfl⟩ rfl rfl rfl h_1 rfl rfl)) ?_
 obtain⟨x17,h_2,hr⟩:=aL hr
 refine zz ?_
 refine bW (aNV N) (fun l0=>[(4,.sl 0 0 l0.length 1 false)]) (fun l0=>[some ⟨5,l0.map (eI .u8)⟩]) ?_
 obtain⟨cN,hL2,hr⟩:=aL hr
 refine zz ?_
 exact a1K<|dH hL2 (fun x18 aO=>[(0,eI .u64 vn),(4,.sl 0 0 aO.length 1 false),(18,eI .i64 x18)]) (fun x18 aO=>[some ⟨5,aO.map (eI .u8)⟩])
instance :CtC 176 false (bC @aJB):=⟨@aJB⟩
theorem aFA {N parts r} (hr:aIq N parts=some r):
  Fp 175 [] [.row none 1 (parts.map (eL 1 (eI .u8)))] (.sl 0 0 r.length 1 false) [some ⟨5,r.map (eI .u8)⟩]:=by
 refine bT func175 ntmps175 results175 fun hR=> ?_
 refine zz ?_
 refine bW (aM9 N) (fun l0=>[(3,.sl 0 0 l0.length 1 false)]) (fun l0=>[some ⟨5,l0.map (eI .u8)⟩]) ?_
 obtain⟨cN,hL2,hr⟩:=aL hr
 refine zz ?_
 exact a1K<|dH hL2 (fun x8 aO=>[(3,.sl 0 0 aO.length 1 false),(6,.row none 1 (parts.map (eL 1 (eI .u8)))),(7,eI .i64 (parts.length:Int)),(8,eI .i64 x8)]) (fun x8 aO=>[some ⟨5,aO.map (eI .u8)⟩]) (h0:=(zW 5 [0]))
instance :CtC 175 false (bC @aFA):=⟨@aFA⟩
theorem n7 {N x vn r} (hr:dL N x vn=some r):
  Fp 220 [] [eI .u32 x,eI .i64 vn] (eI .u32 r) []:=by
 refine bT func220 ntmps220 results220 fun hR=> ?_
 obtain⟨x8,h_1,hr⟩:=aL hr
 refine zz ?_
 refine xw (aJD rfl (aTV ..))<|xp (j9 h_1) ?_
 exact zE
instance :CtC 220 true (bC @n7):=⟨@n7⟩
theorem aCr {N block r} (hr:sX N block=some r):
  Fp 219 [] [.agg (block.map (eI .u8))] (.agg (r.map (eI .u32))) []:=by
 refine bT func219 ntmps219 results219 fun hR=> ?_
 refine zz ?_
 refine bW (v8 N) (fun l1=>[(2,.ptr 0 0),(3,.ptr 1 0)]) (fun l1=>[some ⟨251,(a1L 64 0).map (eI .u32)⟩,some ⟨251,l1.map (eI .u32)⟩]) ?_ (body:= ?_)
 rotate_left
 ·clear hr
  intro l1 hr
  refine bW (vR N) (fun bL=>[(2,.ptr 0 0),(3,.ptr 1 0)]) (fun bL=>[some ⟨251,(a1L 64 0).map (eI .u32)⟩,some ⟨251,bL.map (eI .u32)⟩]) ?_
  obtain⟨aBW,hL3,hr⟩:=aL hr
  refine zz ?_
  exact a1K<|dH hL3 (fun vi cL=>[(2,.ptr 0 0),(3,.ptr 1 0),(6,eI .i64 vi)]) (fun vi cL=>[some ⟨251,(a1L 64 0).map (eI .u32)⟩,some ⟨251,cL.map (eI .u32)⟩])
 obtain⟨res4,hL4,hr⟩:=aL hr
 refine zz ?_
 refine a1K<|dH hL4 (fun x9 l2=>[(1,.ptr 0 0),(2,.ptr 1 0),(3,.ptr 2 0),(9,eI .i64 x9)]) (fun x9 l2=>[some ⟨223,block.map (eI .u8)⟩,some ⟨251,(a1L 64 0).map (eI .u32)⟩,some ⟨251,l2.map (eI .u32)⟩]) (round:= ?_)
 intro m4 x9 l2 hr
 refine zz ?_
 refine a1M ?_
 refine zk hr ?_ ?_<;>clear hr<;>intro h18 hr<;>refine zz ?_
 ·refine bW (aBQ N block x9 (kP N block m4)) (fun fA=>[(1,.ptr 0 0),(2,.ptr 1 0),(3,.ptr 2 0),(9,eI .i64 x9)]) (fun fA=>[some ⟨223,block.map (eI .u8)⟩,some ⟨251,(a1L 64 0).map (eI .u32)⟩,some ⟨251,fA.map (eI .u32)⟩]) ?_
  refine a1K ?_
  replace hr:=aL hr
  obtain⟨res6,hL6,hr⟩:=hr
  refine zz ?_
  exact a1K<|dH hL6 (fun x12 aB9=>[(1,.ptr 0 0),(2,.ptr 1 0),(3,.ptr 2 0),(4,eI .i64 x9),(9,eI .i64 x9),(12,eI .i64 x12)]) (fun x12 aB9=>[some ⟨223,block.map (eI .u8)⟩,some ⟨251,(a1L 64 0).map (eI .u32)⟩,some ⟨251,aB9.map (eI .u32)⟩])
 exact zE
instance :CtC 219 true (bC @aCr):=⟨@aCr⟩
theorem aCe {N cX block r} (hr:mB N cX block=some r):
  Fp 177 [] [.agg (cX.map (eI .u32)),.agg (block.map (eI .u8))] (.agg (r.map (eI .u32))) []:=by
 refine bT func177 ntmps177 results177 fun hR=> ?_
 obtain⟨q,h_1,x18,h_2,q_1,h_3,hr⟩:=fK hr
 refine zz ?_
 refine xp (aCr h_2) ?_
 refine zz ?_
 refine a1M ?_
 obtain⟨x19,h_4,x21,h_5,x23,h_6,x25,h_7,hr⟩:=aA4 hr
 refine a1Q mixed [] [] [[0,1,2,3,4,5,6,7,8,9,10,11]]<|zz ?_
 refine a1M ?_
 obtain⟨x27,h_8,x29,h_9,x31,h_10,x33,h_11,hr⟩:=aA4 hr
 refine a1Q mixed [] [] [[0,1,2,3,4,5,6,7,8,9,10,11]]<|zz ?_
 refine sk8 (vV N cX) (fun va b c d ve f g vh=>[(2,.ptr 0 0),(4,.ptr 1 0),(6,eI .u32 va),(7,eI .u32 b),(8,eI .u32 c),(9,eI .u32 d),(10,eI .u32 ve),(11,eI .u32 f),(12,eI .u32 g),(13,eI .u32 vh)]) (fun va b c d ve f g vh=>[some ⟨221,cX.map (eI .u32)⟩,some ⟨221,(a1L 8 0).map (eI .u32)⟩]) ?_ (body:= ?_)
 rotate_left
 ·clear hr
  intro va b c d ve f g vh hr
  obtain⟨x98,h_12,aJc,h_13,aVS,h_14,aVo,h_15,aFT,h_16,aVf,h_17,hr⟩:=aOv hr
  obtain⟨aU8,h_18,aU7,h_19,hr⟩:=cE hr
  refine zz ?_
  refine xw (v:=(.agg ([a1N.wrap (x98+va),a1N.wrap (aJc+b),a1N.wrap (aVS+c),a1N.wrap (aVo+d),a1N.wrap (aFT+ve),a1N.wrap (aVf+f),a1N.wrap (aU8+g),a1N.wrap (aU7+vh)].map (eI .u32)))) (cS rfl (aHG aI4 jA rfl)) ?_
  refine zz ?_
  replace hr:=sj hr
  subst hr
  exact zr1 Tryz.results177 fW (zG [])
 obtain⟨cN,hL2,hr⟩:=aL hr
 refine zz ?_
 refine a1K<|lp9 hL2 (fun va_1 b_1 c_1 d_1 ve_1 f_1 g_1 vh_1 x35=>[(2,.ptr 0 0),(4,.ptr 1 0),(5,.ptr 2 0),(6,eI .u32 va_1),(7,eI .u32 b_1),(8,eI .u32 c_1),(9,eI .u32 d_1),(10,eI .u32 ve_1),(11,eI .u32 f_1),(12,eI .u32 g_1),(13,eI .u32 vh_1),(35,eI .i64 x35)]) (fun va_1 b_1 c_1 d_1 ve_1 f_1 g_1 vh_1 x35=>[some ⟨221,cX.map (eI .u32)⟩,some ⟨221,(a1L 8 0).map (eI .u32)⟩,some ⟨251,x18.map (eI .u32)⟩]) (round:= ?_)
 intro m2 va_1 b_1 c_1 d_1 ve_1 f_1 g_1 vh_1 x35 hr
 refine zz ?_
 refine a1M ?_
 refine zk hr ?_ ?_<;>clear hr<;>intro h20 hr<;>refine zz ?_
 ·refine a1M<|a1K ?_
  refine zz ?_
  refine a1M ?_
  replace hr:=aJh hr
  obtain⟨x40,h_21,x42,h_23,x45,h_25,x58,h_27,x62,h_28,hr⟩:=hr
  refine a1Q mixed [220] [] [[0,1,2,3,4,5,6,7,8,9,10,11,12,13,14,15,16,17,18,19,20,21,22,23,24,25,26,27]]<|zz ?_
  refine xu (n7 h_21) ?_
  refine zz ?_
  refine xu (n7 h_23) ?_
  refine zz ?_
  refine xu (n7 h_25) ?_
  refine zz ?_
  refine xw (v:=(eI .u32 (bits .xor .u32 (IntKind.max .u32) ve_1))) (aJD rfl (aFH rfl _)) ?_
  refine zz ?_
  refine xw (v:=(.eptr [.agg (aHU.map (eI .u32))] 0 (Int.toNat x35))) (aGp rfl rfl (iaG aPS jA rfl h_27))<|xw (v:=(eI .u32 x58)) (b8 rfl (ldG (E:=(eI .u32)) (y:=x58) jA rfl (fJ h_27))) ?_
  replace hr:=fK hr
  obtain⟨x66,h_29,x68,h_30,x71,h_31,hr⟩:=hr
  refine zz ?_
  refine xp (n7 h_29) ?_
  refine zz ?_
  refine xp (n7 h_30) ?_
  refine zz ?_
  refine xp (n7 h_31) ?_
  refine zz ?_
  exact⟨_,_,_,_,_,_,_,_,_,hr,zG [0,1,2]⟩
 exact zE
instance :CtC 177 true (bC @aCe):=⟨@aCe⟩
theorem zP {N b r} (hr:yX N b=some r):
  Fp 129 [] [.row none 1 (b.map (eI .u8))] (.agg (r.map (eI .u8))) []:=by
 refine bT func129 ntmps129 results129 fun hR=> ?_
 obtain⟨x12,h_1,x14,h_2,hr⟩:=cE hr
 refine zz ?_
 refine zc (aJB h_1) [] ?_
 refine a1P (zv 1) ?_
 refine zz ?_
 refine kY (aFA h_2) [] [2] ?_
 refine zz ?_
 refine xw (v:=(.agg (aAW.map (eI .u32)))) (b8 rfl (aZQ (E:=(eI .u32)) (l:=aAW) aI4 rfl rfl)) ?_
 refine zz ?_
 refine bW (aJf N) (fun l1=>[(2,.ptr 0 0),(4,.ptr 1 0)]) (fun l1=>[some ⟨26,(a1L 32 0).map (eI .u8)⟩,some ⟨221,l1.map (eI .u32)⟩]) ?_ (body:= ?_)
 rotate_left
 ·clear hr
  intro l1 hr
  refine zz ?_
  refine bW (aI5 N) (fun bL=>[(2,.ptr 0 0),(6,.ptr 1 0)]) (fun bL=>[some ⟨26,(a1L 32 0).map (eI .u8)⟩,some ⟨26,bL.map (eI .u8)⟩]) ?_
  obtain⟨aBW,hL3,hr⟩:=aL hr
  refine zz ?_
  exact a1K<|dH hL3 (fun x31 l2=>[(2,.ptr 0 0),(4,.ptr 1 0),(6,.ptr 2 0),(31,eI .i64 x31)]) (fun x31 l2=>[some ⟨26,(a1L 32 0).map (eI .u8)⟩,some ⟨221,l1.map (eI .u32)⟩,some ⟨26,l2.map (eI .u8)⟩])
 refine zz ?_
 refine AB.ghost (zv 3) ?_
 obtain⟨res4,hL4,hr⟩:=aL hr
 refine a1K<|dH hL4 (fun x19 cL=>[(2,.ptr 0 0),(3,.row none 1 (x14.map (eI .u8))),(4,.ptr 1 0),(18,eI .i64 (IntKind.i64.wrap (Int.tdiv (x14.length:Int) 64))),(19,eI .i64 x19)]) (fun x19 cL=>[some ⟨26,(a1L 32 0).map (eI .u8)⟩,some ⟨221,cL.map (eI .u32)⟩]) (round:= ?_)
 intro m4 x19 cL hr
 refine zz ?_
 refine a1M ?_
 refine zk hr ?_ ?_<;>clear hr<;>intro h8 hr<;>refine zz ?_
 ·refine a1M<|a1K ?_
  replace hr:=aJh hr
  obtain⟨q_1,h_9,x26,h_10,x27,h_11,x29,h_12,q_2,h_14,hr⟩:=hr
  refine zz ?_
  refine a1Q mixed [177] [] [[0,1,2,3,4,5,6,7,8]]<|zz ?_
  refine xw (v:=(.eptr [.agg (x27.map (eI .u8))] 0 0)) (a0H rfl (apR (E:=(eI .u8)) aPP (fun _=>rfl) zl h_11))<|xw (v:=(.agg (x27.map (eI .u8)))) (b8 rfl (aZQ (E:=(eI .u8)) (l:=x27) aPP rfl (bQ h_11)))<|xu (aCe h_12) ?_
  exact zE
 exact zE
instance :CtC 129 true (bC @zP):=⟨@zP⟩
theorem aKb {N b r} (hr:aCw N b=some r):
  Fp 80 [] [.row none 1 (b.map (eI .u8))] (.agg (r.map (eI .u8))) []:=by
 refine bT func80 ntmps80 results80 fun hR=> ?_
 obtain⟨x5,h_1,q,h_2,hr⟩:=cE hr
 refine zz ?_
 refine xp (zP h_1) ?_
 obtain⟨x7,h_3,q_1,h_4,hr⟩:=cE hr
 refine zz ?_
 refine kY (zP h_3) [] [1] ?_
 refine zz ?_
 replace hr:=sj hr
 subst hr
 exact zr1 Tryz.results80 fW (zG [])
instance :CtC 80 true (bC @aKb):=⟨@aKb⟩
theorem aEQ {N vh r} (hr:aCa N vh=some r):
  Fp 43 [] [pD vh] (.agg (r.map (eI .u8))) []:=
 fV func43 ntmps43 results43
instance :CtC 43 true (bC @aEQ):=⟨@aEQ⟩
theorem aBM {N p r} (hr:aKK N p=some r):
  Fp 25 [] [cU p] (.tup [dD r.1,eI .i64 r.2]) []:=
 fV func25 ntmps25 results25
instance :CtC 25 true (bC @aBM):=⟨@aBM⟩
theorem aEp {N:Nat}{a b:List Int}{r:Int}(hr:aBr N a b=some r):Vm.Fn Tryz.prog 156 [] [.row none 1 (a.map (eI .u8)),.row none 1 (b.map (eI .u8))] (eI .i64 r) []:=by
 obtain rfl:=Option.some.inj hr
 exact aXX Tryz.func156 (by kernel_rfl) (by kernel_rfl) (by kernel_rfl) (by kernel_rfl) a b
instance :CtC 156 true (bC @aEp):=⟨@aEp⟩
theorem aAU {N va b r} (hr:aES N va b=some r):
  Fp 112 [] [.row none 1 (va.map (eI .u8)),.row none 1 (b.map (eI .u8))] (eI .i64 r) []:=
 fV func112 ntmps112 results112
instance :CtC 112 true (bC @aAU):=⟨@aAU⟩
theorem qC {N x r} (hr:uJ N x=some r):
  Fp 157 [] [eI .u32 x] (eB r) []:=
 fV func157 ntmps157 results157
instance :CtC 157 true (bC @qC):=⟨@qC⟩
theorem s8 {N x y r} (hr:yA N x y=some r):
  Fp 113 [] [eI .u32 x,eI .u32 y] (eI .i64 r) []:=by
 refine bT func113 ntmps113 results113 fun hR=> ?_
 obtain⟨x8,h_1,hr⟩:=aL hr
 refine zz ?_
 refine xp (qC h_1) ?_
 obtain⟨x10,h_2,hr⟩:=aL hr
 refine zz ?_
 refine xp (qC h_2) ?_
 refine zz ?_
 refine a1M<|zz ?_
 refine zk hr ?_ ?_<;>intro h3 hr
 ·exact zE
 exact zE
instance :CtC 113 true (bC @s8):=⟨@s8⟩
theorem aEu {N aBp r} (hr:aFn N aBp=some r):
  Fp 111 [] [.row none 1 (aBp.map (eI .i64))] (eI .i64 r) []:=by
 refine bT func111 ntmps111 results111 fun hR=> ?_
 refine zz ?_
 refine fY (aEC N) [(3,eI .i64 0)] [] ?_
 obtain⟨cN,hL2,hr⟩:=aL hr
 refine zz ?_
 exact a1K<|gQ hL2 (fun x8=>[(3,eI .i64 0),(6,.row none 1 (aBp.map (eI .i64))),(7,eI .i64 (aBp.length:Int)),(8,eI .i64 x8)]) (fun x8=>[])
instance :CtC 111 true (bC @aEu):=⟨@aEu⟩
theorem aJR {N va b r} (hr:aCy N va b=some r):
  Fp 66 [] [cW va,cW b] (eI .i64 r) []:=by
 refine bT func66 ntmps66 results66 fun hR=> ?_
 refine zz ?_
 refine a1M<|AB.ghost (zqf [0,1])<|AB.ghost (zqf [0,0]) ?_
 obtain⟨q,h_1,q_1,h_2,x9,h_3,x14,h_5,x16,h_7,hr⟩:=aJh hr
 refine a1Q mixed [112,113] [111] [[0,1,2,3,4,5,6,7,8,9,10,11,12]]<|zz ?_
 refine xw (v:=(.row none 1 (va.Tx.map (eI .u8)))) (yS rfl rfl rfl (aUo (E:=(eI .u8)) (l:=va.Tx) gZ mF rfl rfl (aU h_1))) ?_
 refine zz ?_
 refine xw (v:=(.row none 1 (b.Tx.map (eI .u8)))) (yS rfl rfl rfl (aUo (E:=(eI .u8)) (l:=b.Tx) gZ mF rfl rfl (aU h_2))) ?_
 refine xu (aAU h_3) ?_
 refine zz ?_
 refine xw (v:=(eI .u32 va.Index)) (b8 rfl (aOq (lW jA rfl rfl))) ?_
 refine zz ?_
 refine xw (v:=(eI .u32 b.Index)) (b8 rfl (aOq (lW jA rfl rfl)))<|xu (s8 h_5) ?_
 refine zz ?_
 refine xZ (aEu h_7) [] [2] ?_
 refine zz ?_
 replace hr:=sj hr
 subst hr
 exact zd1 Tryz.results66 []
instance :CtC 66 true (bC @aJR):=⟨@aJR⟩
theorem aBm {N l r} (hr:pJ N l=some r):
  Fp 42 [] [.row none 37 (l.map aP)] (.tup [eI .i64 r.1,eB r.2]) []:=by
 refine bT func42 ntmps42 results42 fun hR=> ?_
 refine zz ?_
 refine bW (aGU N) (fun sum=>[(4,eI .i64 sum)]) (fun sum=>[]) ?_
 obtain⟨cN,hL2,hr⟩:=aL hr
 refine zz ?_
 refine a1K<|dH hL2 (fun gB x10=>[(4,eI .i64 gB),(8,.row none 37 (l.map aP)),(9,eI .i64 (l.length:Int)),(10,eI .i64 x10)]) (fun gB x10=>[]) (round:= ?_)
 intro m2 gB x10 hr
 refine zz ?_
 refine a1M ?_
 refine zk hr ?_ ?_<;>clear hr<;>intro h1 hr<;>refine zz ?_
 ·refine a1M<|a1K ?_
  replace hr:=aL hr
  obtain⟨x12,h_2,hr⟩:=hr
  refine zz ?_
  refine a1M ?_
  refine bW (wO N l gB x10 x12 (mJ N l m2)) (fun x24=>[(4,eI .i64 gB),(7,eI .i64 x12.Output.Value),(8,.row none 37 (l.map aP)),(9,eI .i64 (l.length:Int)),(10,eI .i64 x10),(24,eB x24)]) (fun x24=>[]) ?_
  exact zE
 exact zE
instance :CtC 42 true (bC @aBm):=⟨@aBm⟩
theorem aHr {N l r} (hr:xL N l=some r):
  Fp 29 [] [dD l] (eB r) []:=by
 refine bT func29 ntmps29 results29 fun hR=> ?_
 unfold xL at hr
 refine zz ?_
 refine a1M ?_
 refine bW (kO N l) (fun x20=>[(1,.ptr 0 0),(20,eB x20)]) (fun x20=>[some ⟨44,bD l⟩]) ?_ (body:= ?_)
 rotate_left
 ·clear hr
  intro x20 hr
  unfold kO at hr
  refine zk hr ?_ ?_<;>intro h1 hr<;>refine zz ?_
  ·exact zE
  refine fY (aBE N l) [(1,.ptr 0 0)] [some ⟨44,bD l⟩] ?_
  obtain⟨aBW,hL3,hr⟩:=aL hr
  refine zz ?_
  refine a1K<|gQ hL3 (fun x24=>[(1,.ptr 0 0),(22,.row none 37 (l.Coins.map aP)),(23,eI .i64 (l.Coins.length:Int)),(24,eI .i64 x24)]) (fun x24=>[some ⟨44,bD l⟩]) (round:= ?_)
  intro m3 x24 hr
  rw[fN]at hr
  refine zz ?_
  refine a1M ?_
  refine zk hr ?_ ?_<;>clear hr<;>intro h3 hr<;>refine zz ?_
  ·refine a1M<|a1K ?_
   replace hr:=aL hr
   obtain⟨x27,h_4,hr⟩:=hr
   refine zz ?_
   refine a1M ?_
   refine bW (mK N l x24 x27 (fN N l m3)) (fun x43=>[(1,.ptr 0 0),(4,.ptr 1 0),(22,.row none 37 (l.Coins.map aP)),(23,eI .i64 (l.Coins.length:Int)),(24,eI .i64 x24),(43,eB x43)]) (fun x43=>[some ⟨44,bD l⟩,some ⟨80,aH x27⟩]) ?_ (body:= ?_)
   rotate_left
   ·clear hr
    intro x43 hr
    unfold mK at hr
    refine zk hr ?_ ?_<;>clear hr<;>intro h5 hr<;>refine zz ?_
    ·exact zE
    refine bW (mY N l x24 (fN N l m3)) (fun x60=>[(1,.ptr 0 0),(22,.row none 37 (l.Coins.map aP)),(23,eI .i64 (l.Coins.length:Int)),(24,eI .i64 x24),(60,eB x60)]) (fun x60=>[some ⟨44,bD l⟩]) ?_
    exact zE
   exact zE
  exact zE
 exact zE
instance :CtC 29 true (bC @aHr):=⟨@aHr⟩
theorem aEo {N b vn r} (hr:aCh N b vn=some r):
  Fp 190 [] [.row none 1 (b.map (eI .u8)),eI .u16 vn] (.sl 0 0 r.length 1 false) [some ⟨5,r.map (eI .u8)⟩]:=
 fV func190 ntmps190 results190
instance :CtC 190 false (bC @aEo):=⟨@aEo⟩
theorem qV {N b vn r} (hr:mS N b vn=some r):
  Fp 191 [] [.row none 1 (b.map (eI .u8)),eI .u64 vn] (.sl 0 0 r.length 1 false) [some ⟨5,r.map (eI .u8)⟩]:=
 fV func191 ntmps191 results191
instance :CtC 191 false (bC @qV):=⟨@qV⟩
theorem i0 {N b vn r} (hr:iC N b vn=some r):
  Fp 142 [] [.row none 1 (b.map (eI .u8)),eI .u64 vn] (.sl 0 0 r.length 1 false) [some ⟨5,r.map (eI .u8)⟩]:=
 fV func142 ntmps142 results142
instance :CtC 142 false (bC @i0):=⟨@i0⟩
theorem aHI {N o r} (hr:aGI N o=some r):
  Fp 211 [] [cW o] (.sl 0 0 r.length 1 false) [some ⟨5,r.map (eI .u8)⟩]:=by
 refine bT func211 ntmps211 results211 fun hR=> ?_
 refine zz ?_
 refine a1M ?_
 obtain⟨q,h_1,x5,h_2,x8,h_4,hr⟩:=fK hr
 refine a1Q mixed [] [130,131] [[0,1,2,3,4,5,6]]<|zz ?_
 refine zg (lA h_2) [] ?_
 refine zz ?_
 refine xZ (dP h_4) [] [1] ?_
 refine zz ?_
 replace hr:=sj hr
 subst hr
 exact zd1 Tryz.results211 [2]
instance :CtC 211 false (bC @aHI):=⟨@aHI⟩
theorem kR {N b vs r} (hr:kW N b vs=some r):
  Fp 232 [] [.row none 1 (b.map (eI .u8)),.row none 1 (vs.map (eI .u8))] (.sl 0 0 r.length 1 false) [some ⟨5,r.map (eI .u8)⟩]:=
 fV func232 ntmps232 results232
instance :CtC 232 false (bC @kR):=⟨@kR⟩
theorem aLf {N t bI r} (hr:aEq N t bI=some r):
  Fp 192 [] [aZ t,eB bI] (.sl 0 0 r.length 1 false) [some ⟨5,r.map (eI .u8)⟩]:=by
 refine bT func192 ntmps192 results192 fun hR=> ?_
 obtain⟨x16,h_1,hr⟩:=aL hr
 refine zz ?_
 refine zc (dP h_1) [] ?_
 obtain⟨x22,h_2,x23,h_3,hr⟩:=cE hr
 refine zz ?_
 refine zc (i0 h_2) [] ?_
 refine zz ?_
 refine bW (aGa N t bI) (fun l1=>[(1,eB bI),(2,.ptr 0 0),(5,.sl 1 0 l1.length 1 false)]) (fun l1=>[some ⟨91,aQ t⟩,some ⟨5,l1.map (eI .u8)⟩]) ?_ (body:= ?_)
 rotate_left
 ·clear hr
  intro l1 hr
  obtain⟨x47,h_4,x48,h_5,hr⟩:=cE hr
  refine zz ?_
  refine zc (i0 h_4) [] ?_
  refine zz ?_
  refine bW (aFS N t bI) (fun bL=>[(1,eB bI),(2,.ptr 0 0),(5,.sl 1 0 bL.length 1 false)]) (fun bL=>[some ⟨91,aQ t⟩,some ⟨5,bL.map (eI .u8)⟩]) ?_ (body:= ?_)
  rotate_left
  ·clear hr
   intro bL hr
   obtain⟨x71,h_6,x72,h_7,hr⟩:=cE hr
   refine zz ?_
   refine zc (dP h_6) [] ?_
   refine zz ?_
   refine a1M<|zz ?_
   refine zk hr ?_ ?_<;>intro h8 hr<;>refine zz ?_
   ·exact zE
   refine bW (aKB N) (fun l0=>[(5,.sl 0 0 l0.length 1 false)]) (fun l0=>[some ⟨5,l0.map (eI .u8)⟩]) ?_
   obtain⟨res4,hL4,hr⟩:=aL hr
   refine zz ?_
   refine a1K<|dH hL4 (fun x79 aO=>[(5,.sl 0 0 aO.length 1 false),(77,.row none 35 (t.Inputs.map bU)),(78,eI .i64 (t.Inputs.length:Int)),(79,eI .i64 x79)]) (fun x79 aO=>[some ⟨5,aO.map (eI .u8)⟩]) (round:= ?_)
   intro m4 x79 aO hr
   refine zz ?_
   refine a1M ?_
   refine zk hr ?_ ?_<;>clear hr<;>intro h9 hr<;>refine zz ?_
   ·refine bW (aGG N t x79 (pA N t m4)) (fun d8=>[(5,.sl 0 0 d8.length 1 false),(77,.row none 35 (t.Inputs.map bU)),(78,eI .i64 (t.Inputs.length:Int)),(79,eI .i64 x79)]) (fun d8=>[some ⟨5,d8.map (eI .u8)⟩]) ?_
    refine a1K ?_
    replace hr:=fK hr
    obtain⟨x81,h_10,x88,h_11,x89,h_12,hr⟩:=hr
    refine zz ?_
    refine zc (i0 h_11) [] ?_
    replace hr:=aL hr
    obtain⟨res6,hL6,hr⟩:=hr
    refine zz ?_
    refine a1K<|dH hL6 (fun x93 gY=>[(5,.sl 0 0 gY.length 1 false),(77,.row none 35 (t.Inputs.map bU)),(78,eI .i64 (t.Inputs.length:Int)),(79,eI .i64 x79),(91,.row none 1 (x81.Witness.map (eL 1 (eI .u8)))),(92,eI .i64 (x81.Witness.length:Int)),(93,eI .i64 x93)]) (fun x93 gY=>[some ⟨5,gY.map (eI .u8)⟩]) (round:= ?_)
    intro m6 x93 gY hr
    refine zz ?_
    refine a1M ?_
    refine zk hr ?_ ?_<;>clear hr<;>intro h13 hr<;>refine zz ?_
    ·refine a1M<|a1K ?_
     replace hr:=fK hr
     obtain⟨x95,h_14,x99,h_15,aOE,h_16,hr⟩:=hr
     refine zz ?_
     refine zc (kR h_15) [] ?_
     refine zz ?_
     exact⟨_,_,hr,zG [2]⟩
    replace hr:=sj hr
    subst hr
    refine zz ?_
    exact⟨_,hr,zG [0]⟩
   replace hr:=sj hr
   subst hr
   refine zz ?_
   exact⟨_,hr,zG [0]⟩
  obtain⟨res7,hL7,hr⟩:=aL hr
  refine zz ?_
  refine a1K<|dH hL7 (fun x52 cL=>[(1,eB bI),(2,.ptr 0 0),(5,.sl 1 0 cL.length 1 false),(50,.row none 2 (t.Outputs.map b7)),(51,eI .i64 (t.Outputs.length:Int)),(52,eI .i64 x52)]) (fun x52 cL=>[some ⟨91,aQ t⟩,some ⟨5,cL.map (eI .u8)⟩]) (round:= ?_)
  intro m7 x52 cL hr
  refine zz ?_
  refine a1M ?_
  refine zk hr ?_ ?_<;>clear hr<;>intro h17 hr<;>refine zz ?_
  ·refine a1M<|a1K ?_
   replace hr:=fK hr
   obtain⟨x54,h_18,x60,h_19,x61,h_20,hr⟩:=hr
   refine zz ?_
   refine zc (qV h_19) [] ?_
   replace hr:=cE hr
   obtain⟨x65,h_21,x66,h_22,hr⟩:=hr
   refine zz ?_
   refine zc (kR h_21) [] ?_
   refine zz ?_
   exact⟨_,_,hr,zG [0,6]⟩
  exact zE
 obtain⟨res8,hL8,hr⟩:=aL hr
 refine zz ?_
 refine a1K<|dH hL8 (fun x27 l1_3=>[(1,eB bI),(2,.ptr 0 0),(5,.sl 1 0 l1_3.length 1 false),(25,.row none 35 (t.Inputs.map bU)),(26,eI .i64 (t.Inputs.length:Int)),(27,eI .i64 x27)]) (fun x27 l1_3=>[some ⟨91,aQ t⟩,some ⟨5,l1_3.map (eI .u8)⟩]) (round:= ?_)
 intro m8 x27 l1_3 hr
 refine zz ?_
 refine a1M ?_
 refine zk hr ?_ ?_<;>clear hr<;>intro h23 hr<;>refine zz ?_
 ·refine a1M<|a1K ?_
  replace hr:=fK hr
  obtain⟨x29,h_24,x34,h_25,x35,h_26,hr⟩:=hr
  refine zz ?_
  refine zc (aHI h_25) [] ?_
  replace hr:=cE hr
  obtain⟨x39,h_27,x40,h_28,hr⟩:=hr
  refine zz ?_
  refine zc (dP h_27) [] ?_
  refine zz ?_
  exact⟨_,_,hr,zG [0,6]⟩
 exact zE
instance :CtC 192 false (bC @aLf):=⟨@aLf⟩
theorem aFm {N t r} (hr:aFF N t=some r):
  Fp 145 [] [aZ t] (eB r) []:=by
 refine bT func145 ntmps145 results145 fun hR=> ?_
 unfold aFF at hr
 refine zz ?_
 refine a1M ?_
 refine bW (aCg N t) (fun x18=>[(1,.ptr 0 0),(18,eB x18)]) (fun x18=>[some ⟨91,aQ t⟩]) ?_ (body:= ?_)
 rotate_left
 ·clear hr
  intro x18 hr
  unfold aCg at hr
  refine zk hr ?_ ?_<;>intro h1 hr<;>refine zz ?_
  ·exact zE
  refine fY (aFE N t) [(1,.ptr 0 0)] [some ⟨91,aQ t⟩] ?_ (body:= ?_)
  rotate_left
  ·clear hr
   intro hr
   unfold aFE at hr
   refine fY (aJC N t) [(1,.ptr 0 0)] [some ⟨91,aQ t⟩] ?_
   obtain⟨res4,hL4,hr⟩:=aL hr
   refine zz ?_
   refine a1K<|gQ hL4 (fun x39=>[(1,.ptr 0 0),(37,.row none 35 (t.Inputs.map bU)),(38,eI .i64 (t.Inputs.length:Int)),(39,eI .i64 x39)]) (fun x39=>[some ⟨91,aQ t⟩]) (round:= ?_)
   intro m4 x39 hr
   rw[yN]at hr
   refine zz ?_
   refine a1M ?_
   refine zk hr ?_ ?_<;>clear hr<;>intro h3 hr<;>refine zz ?_
   ·refine fY (aJH N t x39 (yN N t m4)) [(1,.ptr 0 0),(37,.row none 35 (t.Inputs.map bU)),(38,eI .i64 (t.Inputs.length:Int)),(39,eI .i64 x39)] [some ⟨91,aQ t⟩] ?_
    refine a1K ?_
    replace hr:=aL hr
    obtain⟨x41,h_4,hr⟩:=hr
    refine zz ?_
    refine a1M<|zz ?_
    refine zk hr ?_ ?_<;>clear hr<;>intro h5 hr
    ·exact zE
    replace hr:=aL hr
    obtain⟨res6,hL6,hr⟩:=hr
    refine zz ?_
    exact a1K<|gQ hL6 (fun x50=>[(1,.ptr 0 0),(37,.row none 35 (t.Inputs.map bU)),(38,eI .i64 (t.Inputs.length:Int)),(39,eI .i64 x39),(48,.row none 1 (x41.Witness.map (eL 1 (eI .u8)))),(49,eI .i64 (x41.Witness.length:Int)),(50,eI .i64 x50)]) (fun x50=>[some ⟨91,aQ t⟩])
   exact zE
  obtain⟨res7,hL7,hr⟩:=aL hr
  refine zz ?_
  refine a1K<|gQ hL7 (fun x22=>[(1,.ptr 0 0),(20,.row none 2 (t.Outputs.map b7)),(21,eI .i64 (t.Outputs.length:Int)),(22,eI .i64 x22)]) (fun x22=>[some ⟨91,aQ t⟩]) (round:= ?_)
  intro m7 x22 hr
  rw[uC]at hr
  refine zz ?_
  refine a1M ?_
  refine zk hr ?_ ?_<;>clear hr<;>intro h9 hr<;>refine zz ?_
  ·refine a1M<|a1K ?_
   replace hr:=aL hr
   obtain⟨x24,h_10,hr⟩:=hr
   refine zz ?_
   refine bW (aFq N t x22 (uC N t m7)) (fun x34=>[(1,.ptr 0 0),(20,.row none 2 (t.Outputs.map b7)),(21,eI .i64 (t.Outputs.length:Int)),(22,eI .i64 x22),(34,eB x34)]) (fun x34=>[some ⟨91,aQ t⟩]) ?_
   exact zE
  exact zE
 exact zE
instance :CtC 145 true (bC @aFm):=⟨@aFm⟩
theorem aGQ {N t bI r} (hr:aBg N t bI=some r):
  Fp 143 [] [aZ t,eB bI] (.tup [.sl 0 0 r.1.length 1 false,eI .i64 r.2]) [some ⟨5,r.1.map (eI .u8)⟩]:=by
 refine bT func143 ntmps143 results143 fun hR=> ?_
 refine zz ?_
 obtain⟨x7,h_1,hr⟩:=aL hr
 refine a1M<|zz ?_
 refine xp (aFm h_1) ?_
 refine zz ?_
 refine zk hr ?_ ?_<;>intro h2 hr
 ·refine zz ?_
  replace hr:=sj hr
  subst hr
  exact zr2 Tryz.results143 fW fW (zW 5 [1])
 exact zE
instance :CtC 143 false (bC @aGQ):=⟨@aGQ⟩
theorem aBI {N b r} (hr:aCt N b=some r):
  Fp 94 [] [dZ b] (.tup [.sl 0 0 r.1.length 1 false,eI .i64 r.2]) [some ⟨5,r.1.map (eI .u8)⟩]:=by
 refine bT func94 ntmps94 results94 fun hR=> ?_
 refine zz ?_
 refine a1M<|zz ?_
 refine zk hr ?_ ?_<;>intro h1 hr<;>refine zz ?_
 ·replace hr:=sj hr
  subst hr
  exact zr2 Tryz.results94 fW fW (zW 5 [1])
 refine a1M ?_
 obtain⟨x15,h_2,x20,h_4,hr⟩:=cE hr
 refine a1Q mixed [] [81,142] [[0,1,2,3,4,5,6,7,8]]<|zz ?_
 refine zg (sT h_2) [] ?_
 refine zz ?_
 refine xZ (i0 h_4) [] [1] ?_
 refine zz ?_
 refine bW (aCB N) (fun l0=>[(4,.sl 0 0 l0.length 1 false)]) (fun l0=>[some ⟨5,l0.map (eI .u8)⟩]) ?_ (body:= ?_)
 rotate_left
 ·clear hr
  intro l0 hr
  refine a1M ?_
  refine zz ?_
  refine zk hr ?_ ?_<;>intro h6 hr<;>refine zz ?_
  ·replace hr:=sj hr
   subst hr
   exact zr2 Tryz.results94 fW fW (zW 5 [1])
  exact zE
 obtain⟨cN,hL2,hr⟩:=aL hr
 refine zz ?_
 refine a1K<|dH hL2 (fun x24 aO=>[(4,.sl 0 0 aO.length 1 false),(22,.row none 4 (b.Txs.map aZ)),(23,eI .i64 (b.Txs.length:Int)),(24,eI .i64 x24)]) (fun x24 aO=>[some ⟨5,aO.map (eI .u8)⟩]) (round:= ?_)
 intro m2 x24 aO hr
 refine zz ?_
 refine a1M ?_
 refine zk hr ?_ ?_<;>clear hr<;>intro h7 hr<;>refine zz ?_
 ·refine a1M<|a1K ?_
  replace hr:=cE hr
  obtain⟨x26,h_8,x30,h_9,hr⟩:=hr
  refine zz ?_
  refine zc (aGQ h_9) [] ?_
  refine zz ?_
  refine a1M<|zz ?_
  refine zk hr ?_ ?_<;>clear hr<;>intro h10 hr
  ·refine zz ?_
   replace hr:=sj hr
   subst hr
   replace hr:=sj hr
   subst hr
   exact zr2 Tryz.results94 fW fW (zW 5 [3])
  exact zE
 exact zE
instance :CtC 94 false (bC @aBI):=⟨@aBI⟩
theorem aNQ {N o r} (hr:aN2 N o=some r):
  Fp 144 [] [cW o] (eB r) []:=by
 refine bT func144 ntmps144 results144 fun hR=> ?_
 refine zz ?_
 refine xw (v:=(.agg (aN (eI .u8) (a1L 32 0) [eI .u32 4294967295]))) (cS rfl (jC jL aJx rfl))<|xw (gA rfl rfl (uQ (d:=9) jL rfl aAQ zl aDk rfl rfl rfl rfl rfl)) ?_
 exact zE
instance :CtC 144 true (bC @aNQ):=⟨@aNQ⟩
theorem yK {N t r} (hr:rK N t=some r):
  Fp 95 [] [aZ t] (eB r) []:=by
 refine bT func95 ntmps95 results95 fun hR=> ?_
 unfold rK at hr
 refine zz ?_
 refine bW (zF N) (fun x2=>[(2,eB x2)]) (fun x2=>[]) ?_
 exact zE
instance :CtC 95 true (bC @yK):=⟨@yK⟩
theorem aHC {N l r} (hr:aIQ N l=some r):
  Fp 146 [] [.row none 2 (l.map b7)] (eB r) []:=by
 refine bT func146 ntmps146 results146 fun hR=> ?_
 refine zz ?_
 refine fY (aMl N) [] [] ?_
 obtain⟨cN,hL2,hr⟩:=aL hr
 refine zz ?_
 exact a1K<|dH hL2 (fun sum x8=>[(3,eI .i64 sum),(6,.row none 2 (l.map b7)),(7,eI .i64 (l.length:Int)),(8,eI .i64 x8)]) (fun sum x8=>[])
instance :CtC 146 true (bC @aHC):=⟨@aHC⟩
theorem aHD {N t r} (hr:aGb N t=some r):
  Fp 96 [] [aZ t] (eI .i64 r) []:=by
 refine bT func96 ntmps96 results96 fun hR=> ?_
 refine zz ?_
 obtain⟨x7,h_1,hr⟩:=aL hr
 refine a1M<|zz ?_
 refine xp (aFm h_1) ?_
 refine zz ?_
 refine zk hr ?_ ?_<;>intro h2 hr<;>refine zz ?_
 ·exact zE
 refine a1M ?_
 refine bW (aDU N t) (fun x18=>[(1,.ptr 0 0),(18,eB x18)]) (fun x18=>[some ⟨91,aQ t⟩]) ?_ (body:= ?_)
 rotate_left
 ·clear hr
  intro x18 hr
  refine zk hr ?_ ?_<;>intro h3 hr<;>refine zz ?_
  ·exact zE
  obtain⟨x21,h_4,hr⟩:=aL hr
  refine a1M<|zz ?_
  refine xp (aHC h_4) ?_
  refine zz ?_
  refine zk hr ?_ ?_<;>intro h5 hr<;>refine zz ?_
  ·exact zE
  refine bW (aHF N t) (fun l1=>[(1,.ptr 0 0),(3,.mp 1)]) (fun l1=>[some ⟨91,aQ t⟩,some ⟨33000,l1.flatMap aHd⟩]) ?_ (body:= ?_)
  rotate_left
  ·clear hr
   intro l1 hr
   refine a1M ?_
   refine bW (aDO N) (fun x46=>[(46,eB x46)]) (fun x46=>[]) ?_
   rcases Bool.eq_false_or_eq_true (pC tY l1 (aD.mk (a1L 32 0) 4294967295) false)with h7|h7
   ·replace hr:=rQ hr h7
    obtain⟨x44,h_8,hr⟩:=aL hr
    refine xr<|zz ?_
    refine xw (v:=(.agg (aN (eI .u8) (a1L 32 0) [eI .u32 4294967295]))) (cS rfl (jC jL aJx rfl))<|xlk (aD.mk (a1L 32 0) 4294967295) ?_
    exact zE
   replace hr:=sP hr h7
   refine xr<|zz ?_
   refine xw (v:=(.agg (aN (eI .u8) (a1L 32 0) [eI .u32 4294967295]))) (cS rfl (jC jL aJx rfl))<|xlk (aD.mk (a1L 32 0) 4294967295) ?_
   exact zE
  obtain⟨res4,hL4,hr⟩:=aL hr
  refine zz ?_
  refine a1K<|dH hL4 (fun x27 bL=>[(1,.ptr 0 0),(3,.mp 1),(25,.row none 35 (t.Inputs.map bU)),(26,eI .i64 (t.Inputs.length:Int)),(27,eI .i64 x27)]) (fun x27 bL=>[some ⟨91,aQ t⟩,some ⟨33000,bL.flatMap aHd⟩]) (round:= ?_)
  intro m4 x27 bL hr
  refine zz ?_
  refine a1M ?_
  refine zk hr ?_ ?_<;>clear hr<;>intro h9 hr<;>refine zz ?_
  ·refine a1M<|a1K ?_
   replace hr:=aL hr
   obtain⟨x29,h_10,hr⟩:=hr
   refine zz ?_
   refine a1M<|zz ?_
   refine xlk x29.Prev ?_
   refine zz ?_
   refine zk hr ?_ ?_<;>clear hr<;>intro h11 hr<;>refine zz ?_
   ·exact zE
   refine xup x29.Prev true ?_
   exact zE
  exact zE
 exact zE
instance :CtC 96 true (bC @aHD):=⟨@aHD⟩
theorem aK1 {N t bI r} (hr:aD7 N t bI=some r):
  Fp 149 [] [aZ t,eB bI] (.agg (r.map (eI .u8))) []:=
 fV func149 ntmps149 results149
instance :CtC 149 true (bC @aK1):=⟨@aK1⟩
theorem aIR {N t r} (hr:aNB N t=some r):
  Fp 99 [] [aZ t] (.agg (r.map (eI .u8))) []:=
 fV func99 ntmps99 results99
instance :CtC 99 true (bC @aIR):=⟨@aIR⟩
theorem aIe {N l r} (hr:aH0 N l=some r):
  Fp 97 [] [.row none 4 (l.map aZ)] (eI .i64 r) []:=by
 refine bT func97 ntmps97 results97 fun hR=> ?_
 refine zz ?_
 refine bW (aCT N l) (fun l0=>[(0,.row none 4 (l.map aZ)),(3,.mp 0)]) (fun l0=>[some ⟨32000,l0.flatMap aFa⟩]) ?_ (body:= ?_)
 rotate_left
 ·clear hr
  intro l0 hr
  refine fY (aDe N l) [(0,.row none 4 (l.map aZ))] [] ?_ (body:= ?_)
  rotate_left
  ·clear hr
   intro hr
   refine zz ?_
   refine fY (aC3 N) [] [] ?_
   obtain⟨res4,hL4,hr⟩:=aL hr
   refine zz ?_
   refine a1K<|dH hL4 (fun x74 aO=>[(15,.mp 0),(72,.row none 4 (l.map aZ)),(73,eI .i64 (l.length:Int)),(74,eI .i64 x74)]) (fun x74 aO=>[some ⟨33000,aO.flatMap aHd⟩]) (round:= ?_)
   intro m4 x74 aO hr
   refine zz ?_
   refine a1M ?_
   refine zk hr ?_ ?_<;>clear hr<;>intro h1 hr<;>refine zz ?_
   ·refine bW (aDj N l x74 (lR N l m4)) (fun d8=>[(15,.mp 0),(72,.row none 4 (l.map aZ)),(73,eI .i64 (l.length:Int)),(74,eI .i64 x74)]) (fun d8=>[some ⟨33000,d8.flatMap aHd⟩]) ?_
    refine a1K ?_
    replace hr:=cE hr
    obtain⟨x76,h_2,res6,hL6,hr⟩:=hr
    refine zz ?_
    refine a1K<|dH hL6 (fun x81 gY=>[(15,.mp 0),(72,.row none 4 (l.map aZ)),(73,eI .i64 (l.length:Int)),(74,eI .i64 x74),(79,.row none 35 (x76.Inputs.map bU)),(80,eI .i64 (x76.Inputs.length:Int)),(81,eI .i64 x81)]) (fun x81 gY=>[some ⟨33000,gY.flatMap aHd⟩]) (round:= ?_)
    intro m6 x81 gY hr
    refine zz ?_
    refine a1M ?_
    refine zk hr ?_ ?_<;>clear hr<;>intro h3 hr<;>refine zz ?_
    ·refine a1M<|a1K ?_
     replace hr:=aL hr
     obtain⟨x83,h_4,hr⟩:=hr
     refine zz ?_
     refine a1M<|zz ?_
     refine xlk x83.Prev ?_
     refine zz ?_
     refine zk hr ?_ ?_<;>clear hr<;>intro h5 hr<;>refine zz ?_
     ·exact zE
     refine xup x83.Prev true ?_
     exact zE
    exact zE
   exact zE
  obtain⟨res7,hL7,hr⟩:=aL hr
  refine zz ?_
  refine a1K<|gQ hL7 (fun x43=>[(0,.row none 4 (l.map aZ)),(3,.mp 0),(41,.row none 4 (l.map aZ)),(42,eI .i64 (l.length:Int)),(43,eI .i64 x43)]) (fun x43=>[some ⟨32000,l0.flatMap aFa⟩]) (round:= ?_)
  intro m7 x43 hr
  refine zz ?_
  refine a1M ?_
  refine zk hr ?_ ?_<;>clear hr<;>intro h6 hr<;>refine zz ?_
  ·refine fY (aCZ N l l0 x43 (gE N l l0 m7)) [(0,.row none 4 (l.map aZ)),(3,.mp 0),(41,.row none 4 (l.map aZ)),(42,eI .i64 (l.length:Int)),(43,eI .i64 x43)] [some ⟨32000,l0.flatMap aFa⟩] ?_
   refine a1K ?_
   replace hr:=cE hr
   obtain⟨x46,h_7,res9,hL9,hr⟩:=hr
   refine zz ?_
   refine a1K<|gQ hL9 (fun x51=>[(0,.row none 4 (l.map aZ)),(3,.mp 0),(9,eI .i64 x43),(41,.row none 4 (l.map aZ)),(42,eI .i64 (l.length:Int)),(43,eI .i64 x43),(49,.row none 35 (x46.Inputs.map bU)),(50,eI .i64 (x46.Inputs.length:Int)),(51,eI .i64 x51)]) (fun x51=>[some ⟨32000,l0.flatMap aFa⟩]) (round:= ?_)
   intro m9 x51 hr
   refine zz ?_
   refine a1M ?_
   refine zk hr ?_ ?_<;>clear hr<;>intro h8 hr<;>refine zz ?_
   ·refine a1M<|a1K ?_
    replace hr:=cE hr
    obtain⟨x53,h_9,q,h_10,hr⟩:=hr
    refine zz ?_
    refine xlo x53.Prev.Tx (hk:=congrArg V.agg (dJ (aU h_10)).symm) ?_
    refine zz ?_
    refine bW (wD N l l0 x43 x46 x51 (jQ N l l0 x43 x46 m9)) (fun x68=>[(0,.row none 4 (l.map aZ)),(3,.mp 0),(9,eI .i64 x43),(41,.row none 4 (l.map aZ)),(42,eI .i64 (l.length:Int)),(43,eI .i64 x43),(49,.row none 35 (x46.Inputs.map bU)),(50,eI .i64 (x46.Inputs.length:Int)),(51,eI .i64 x51),(68,eB x68)]) (fun x68=>[some ⟨32000,l0.flatMap aFa⟩]) ?_
    exact zE
   exact zE
  exact zE
 obtain⟨res11,hL11,hr⟩:=aL hr
 refine zz ?_
 refine a1K<|dH hL11 (fun x23 l0_4=>[(0,.row none 4 (l.map aZ)),(3,.mp 0),(21,.row none 4 (l.map aZ)),(22,eI .i64 (l.length:Int)),(23,eI .i64 x23)]) (fun x23 l0_4=>[some ⟨32000,l0_4.flatMap aFa⟩]) (round:= ?_)
 intro m11 x23 l0_4 hr
 refine zz ?_
 refine a1M ?_
 refine zk hr ?_ ?_<;>clear hr<;>intro h13 hr<;>refine zz ?_
 ·refine a1M<|a1K ?_
  replace hr:=fK hr
  obtain⟨x26,h_14,x29,h_15,q_1,h_16,hr⟩:=hr
  refine zz ?_
  refine xp (aIR h_15) ?_
  refine zz ?_
  refine a1M<|zz ?_
  refine xlo x29 (hk:=congrArg V.agg (dJ (aU h_16)).symm) ?_
  refine zz ?_
  refine zk hr ?_ ?_<;>clear hr<;>intro h17 hr<;>refine zz ?_
  ·exact zE
  refine xup x29 x23 (hk:=congrArg V.agg (dJ (aU h_16)).symm) ?_
  exact zE
 exact zE
instance :CtC 97 true (bC @aIe):=⟨@aIe⟩
theorem aJE {N t r} (hr:aIL N t=some r):
  Fp 147 [] [aZ t] (.agg (r.map (eI .u8))) []:=
 fV func147 ntmps147 results147
instance :CtC 147 true (bC @aJE):=⟨@aJE⟩
theorem aCO {N l vr r} (hr:aDQ N l vr=some r):
  Fp 233 [] [.agg (l.map (eI .u8)),.agg (vr.map (eI .u8))] (.agg (r.map (eI .u8))) []:=
 fV func233 ntmps233 results233
instance :CtC 233 true (bC @aCO):=⟨@aCO⟩
theorem aBb {N l r} (hr:aEU N l=some r):
  Fp 193 [] [.row none 32 (l.map (eA (eI .u8)))] (.sl 0 0 r.length 1 false) [some ⟨140,r.map (eL 32 (eA (eI .u8)))⟩]:=by
 refine bT func193 ntmps193 results193 fun hR=> ?_
 refine zz ?_
 refine bW (aAS N) (fun l0=>[(3,.sl 0 0 l0.length 1 false)]) (fun l0=>[some ⟨140,l0.map (eL 32 (eA (eI .u8)))⟩]) ?_
 obtain⟨cN,hL2,hr⟩:=aL hr
 refine a1K<|dH hL2 (fun l_1 aO=>[(0,.row none 32 (l_1.map (eA (eI .u8)))),(3,.sl 0 0 aO.length 1 false)]) (fun l_1 aO=>[some ⟨140,aO.map (eL 32 (eA (eI .u8)))⟩]) (round:= ?_)
 intro m2 l_1 aO hr
 refine a1M<|zz ?_
 refine zk hr ?_ ?_<;>clear hr<;>intro h1 hr<;>refine zz ?_
 ·refine a1K ?_
  refine zz ?_
  refine bW (aA5 N aO (oM N m2)) (fun l1=>[(3,.sl 0 0 aO.length 1 false),(4,.sl 1 0 l1.length 32 true)]) (fun l1=>[some ⟨140,aO.map (eL 32 (eA (eI .u8)))⟩,some ⟨26,l1.flatMap (dQ (eI .u8))⟩]) ?_ (body:= ?_)
  rotate_left
  ·clear hr
   intro l1 hr
   replace hr:=cE hr
   obtain⟨q,h_2,x45,h_3,hr⟩:=hr
   refine zz ?_
   refine a1P (zqf [1,0]) ?_
   exact zE
  replace hr:=aL hr
  obtain⟨res4,hL4,hr⟩:=hr
  refine zz ?_
  refine a1K<|dH hL4 (fun vi bL=>[(0,.row none 32 (l_1.map (eA (eI .u8)))),(3,.sl 0 0 aO.length 1 false),(4,.sl 1 0 bL.length 32 true),(5,eI .i64 vi)]) (fun vi bL=>[some ⟨140,aO.map (eL 32 (eA (eI .u8)))⟩,some ⟨26,bL.flatMap (dQ (eI .u8))⟩]) (h0:=(zW 26 [0,1])) (round:= ?_)
  intro m4 vi bL hr
  refine a1M<|zz ?_
  refine zk hr ?_ ?_<;>clear hr<;>intro h4 hr<;>refine zz ?_
  ·refine bW (uL N l_1 aO vi (lH N l_1 aO m4)) (fun cL=>[(0,.row none 32 (l_1.map (eA (eI .u8)))),(3,.sl 0 0 aO.length 1 false),(4,.sl 1 0 cL.length 32 true),(5,eI .i64 vi)]) (fun cL=>[some ⟨140,aO.map (eL 32 (eA (eI .u8)))⟩,some ⟨26,cL.flatMap (dQ (eI .u8))⟩]) ?_
   refine a1K ?_
   refine zz ?_
   refine zk hr ?_ ?_<;>clear hr<;>intro h5 hr
   ·replace hr:=aOv hr
    obtain⟨x25,h_6,q_1,h_7,x30,h_8,q_2,h_9,x32,h_10,q_3,h_12,hr⟩:=hr
    replace hr:=aL hr
    obtain⟨x34,h_13,hr⟩:=hr
    refine a1Q mixed [233] [] [[0,1,2,3,4,5,6,7,8,9,10,11,12,13]]<|zz ?_
    refine xw (v:=(.agg (x25.map (eI .u8)))) (b8 rfl (aJr (E:=(eI .u8)) gZ rfl h_6 (aU h_7))) ?_
    refine zz ?_
    refine xw (v:=(.agg (x30.map (eI .u8)))) (b8 rfl (aJr (E:=(eI .u8)) gZ rfl h_8 (aU h_9)))<|xu (aCO h_10)<|xw (v:=(.sl 2 0 1 32 true)) (h':=[some ⟨140,aO.map (eL 32 (eA (eI .u8)))⟩,some ⟨26,bL.flatMap (dQ (eI .u8))⟩,some ⟨26,[x32].flatMap (dQ (eI .u8))⟩]) (oV rfl (aJL (ps':=[(0,.agg (dQ (eI .u8) x32))]) (by simp only[aA3,dQ,dJ (l:=x32) (aU h_12)]) (aHp (len:=1) (C:=(dQ (eI .u8))) (xs:=[x32]) (K:=32) (fun _=>rfl) (fun _=>rfl) aFd gZ ⟨zl,zl,zl⟩ rfl rfl rfl rfl rfl rfl))) ?_
    exact zE
   replace hr:=fK hr
   obtain⟨x38,h_14,q_4,h_15,x41,h_16,hr⟩:=hr
   refine zz ?_
   refine xw (v:=(.agg (x38.map (eI .u8)))) (b8 rfl (aJr (E:=(eI .u8)) gZ rfl h_14 (aU h_15)))<|xw (v:=(.sl 2 0 1 32 true)) (h':=[some ⟨140,aO.map (eL 32 (eA (eI .u8)))⟩,some ⟨26,bL.flatMap (dQ (eI .u8))⟩,some ⟨26,[x38].flatMap (dQ (eI .u8))⟩]) (oV rfl (aJL (ps':=[(0,.agg (dQ (eI .u8) x38))]) (by simp only[aA3,dQ,dJ (l:=x38) (aU h_15)]) (aHp (len:=1) (C:=(dQ (eI .u8))) (xs:=[x38]) (K:=32) (fun _=>rfl) (fun _=>rfl) aFd gZ ⟨zl,zl,zl⟩ rfl rfl rfl rfl rfl rfl))) ?_
   exact zE
  exact zE
 exact zE
instance :CtC 193 false (bC @aBb):=⟨@aBb⟩
theorem aDA {N l r} (hr:aAh N l=some r):
  Fp 148 [] [.row none 32 (l.map (eA (eI .u8)))] (.agg (r.map (eI .u8))) []:=by
 refine bT func148 ntmps148 results148 fun hR=> ?_
 unfold aAh at hr
 refine zz ?_
 refine a1M ?_
 refine bW (sW N l) (fun x11=>[(0,.row none 32 (l.map (eA (eI .u8)))),(2,.ptr 0 0),(11,eB x11)]) (fun x11=>[some ⟨26,(a1L 32 0).map (eI .u8)⟩]) ?_ (body:= ?_)
 rotate_left
 ·clear hr
  intro x11 hr
  unfold sW at hr
  refine zk hr ?_ ?_<;>intro h1 hr
  ·exact zE
  obtain⟨x14,h_2,hr⟩:=aL hr
  refine zz ?_
  refine zc (aBb h_2) [] ?_
  obtain⟨x19,h_3,x21,h_4,q,h_5,hr⟩:=fK hr
  refine zz ?_
  refine xw (v:=(.agg (x21.map (eI .u8)))) (b8 rfl (aJr (E:=(eI .u8)) gZ rfl h_4 (aU h_5))) ?_
  exact zE
 exact zE
instance :CtC 148 true (bC @aDA):=⟨@aDA⟩
theorem aJY {N l r} (hr:aE8 N l=some r):
  Fp 98 [] [.row none 4 (l.map aZ)] (.agg (r.map (eI .u8))) []:=by
 refine bT func98 ntmps98 results98 fun hR=> ?_
 refine zz ?_
 refine bW (aEr N) (fun l1=>[(2,.ptr 0 0),(3,.sl 1 0 l1.length 32 true)]) (fun l1=>[some ⟨26,(a1L 32 0).map (eI .u8)⟩,some ⟨26,l1.flatMap (dQ (eI .u8))⟩]) ?_ (body:= ?_)
 rotate_left
 ·clear hr
  intro l1 hr
  obtain⟨q,h_1,x19,h_2,q_1,h_3,hr⟩:=fK hr
  refine zz ?_
  refine a1P (zqf [1,0])<|xp (aDA h_2) ?_
  exact zE
 obtain⟨cN,hL2,hr⟩:=aL hr
 refine zz ?_
 refine a1K<|dH hL2 (fun x8 bL=>[(2,.ptr 0 0),(3,.sl 1 0 bL.length 32 true),(6,.row none 4 (l.map aZ)),(7,eI .i64 (l.length:Int)),(8,eI .i64 x8)]) (fun x8 bL=>[some ⟨26,(a1L 32 0).map (eI .u8)⟩,some ⟨26,bL.flatMap (dQ (eI .u8))⟩]) (h0:=(zW 26 [0,1])) (round:= ?_)
 intro m2 x8 bL hr
 refine zz ?_
 refine a1M ?_
 refine zk hr ?_ ?_<;>clear hr<;>intro h4 hr<;>refine zz ?_
 ·refine a1M<|a1K ?_
  replace hr:=aA4 hr
  obtain⟨x10,h_5,x14,h_6,q_2,h_7,x16,h_8,hr⟩:=hr
  refine zz ?_
  refine xp (aJE h_6)<|xw (v:=(.sl 3 0 1 32 true)) (h':=[some ⟨26,(a1L 32 0).map (eI .u8)⟩,some ⟨26,bL.flatMap (dQ (eI .u8))⟩,some ⟨91,aQ x10⟩,some ⟨26,[x14].flatMap (dQ (eI .u8))⟩]) (oV rfl (aJL (ps':=[(0,.agg (dQ (eI .u8) x14))]) (by simp only[aA3,dQ,dJ (l:=x14) (aU h_7)]) (aHp (len:=1) (C:=(dQ (eI .u8))) (xs:=[x14]) (K:=32) (fun _=>rfl) (fun _=>rfl) aFd gZ ⟨zl,zl,zl⟩ rfl rfl rfl rfl rfl rfl))) ?_
  exact zE
 exact zE
instance :CtC 98 true (bC @aJY):=⟨@aJY⟩
theorem aH4 {N b r} (hr:aD4 N b=some r):
  Fp 59 [] [dZ b] (eI .i64 r) []:=by
 refine bT func59 ntmps59 results59 fun hR=> ?_
 refine zz ?_
 obtain⟨x13,h_1,hr⟩:=aL hr
 refine a1M<|zz ?_
 refine zc (aBI h_1) [] ?_
 refine zz ?_
 refine zk hr ?_ ?_<;>intro h2 hr<;>refine zz ?_
 ·exact zE
 refine a1M<|zz ?_
 refine zk hr ?_ ?_<;>intro h3 hr<;>refine zz ?_
 ·exact zE
 refine fY (aDh N b) [(1,.ptr 0 0)] [some ⟨47,aY b⟩] ?_ (body:= ?_)
 rotate_left
 ·clear hr
  intro hr
  refine fY (zI N b) [(1,.ptr 0 0)] [some ⟨47,aY b⟩] ?_
  obtain⟨aBW,hL3,hr⟩:=aL hr
  refine zz ?_
  exact a1K<|gQ hL3 (fun x40=>[(1,.ptr 0 0),(38,.row none 4 (b.Txs.map aZ)),(39,eI .i64 (b.Txs.length:Int)),(40,eI .i64 x40)]) (fun x40=>[some ⟨47,aY b⟩])
 obtain⟨res4,hL4,hr⟩:=aL hr
 refine zz ?_
 refine a1K<|gQ hL4 (fun x26=>[(1,.ptr 0 0),(24,.row none 4 (b.Txs.map aZ)),(25,eI .i64 (b.Txs.length:Int)),(26,eI .i64 x26)]) (fun x26=>[some ⟨47,aY b⟩]) (round:= ?_)
 intro m4 x26 hr
 refine zz ?_
 refine a1M ?_
 refine zk hr ?_ ?_<;>clear hr<;>intro h15 hr<;>refine zz ?_
 ·refine a1M<|a1K ?_
  replace hr:=cE hr
  obtain⟨x29,h_16,x32,h_17,hr⟩:=hr
  refine zz ?_
  refine xp (yK h_17) ?_
  refine zz ?_
  refine xw (gA rfl rfl (aRp _ _ ti4 ..)) ?_
  exact zE
 exact zE
instance :CtC 59 true (bC @aH4):=⟨@aH4⟩
theorem aHE {N t height r} (hr:aF8 N t height=some r):
  Fp 78 [] [aZ t,eI .i64 height] (eB r) []:=by
 refine bT func78 ntmps78 results78 fun hR=> ?_
 refine zz ?_
 refine a1M<|zz ?_
 refine zk hr ?_ ?_<;>intro h1 hr<;>refine zz ?_
 ·exact zE
 refine fY (aHM N) [] [] ?_
 obtain⟨cN,hL2,hr⟩:=aL hr
 refine zz ?_
 exact a1K<|gQ hL2 (fun x15=>[(13,.row none 35 (t.Inputs.map bU)),(14,eI .i64 (t.Inputs.length:Int)),(15,eI .i64 x15)]) (fun x15=>[])
instance :CtC 78 true (bC @aHE):=⟨@aHE⟩
theorem aDm {N p l b r} (hr:aAj N p l b=some r):
  Fp 38 [] [cU p,dD l,dZ b] (eI .i64 r) []:=by
 refine bT func38 ntmps38 results38 fun hR=> ?_
 unfold aAj at hr
 refine zz ?_
 refine a1M ?_
 refine bW (sV N l b) (fun x15=>[(4,.ptr 0 0),(5,.ptr 1 0),(15,eB x15)]) (fun x15=>[some ⟨44,bD l⟩,some ⟨47,aY b⟩]) ?_
 exact zE
instance :CtC 38 true (bC @aDm):=⟨@aDm⟩
theorem aFX {N l r} (hr:aHl N l=some r):
  Fp 172 [] [.row none 37 (l.map aP)] (.tup [eI .i64 r.1,eB r.2]) []:=by
 refine bT func172 ntmps172 results172 fun hR=> ?_
 refine zz ?_
 refine bW (aLj N) (fun aPX=>[(4,eI .i64 aPX)]) (fun aPX=>[]) ?_
 obtain⟨cN,hL2,hr⟩:=aL hr
 refine zz ?_
 refine a1K<|dH hL2 (fun qH x9=>[(4,eI .i64 qH),(7,.row none 37 (l.map aP)),(8,eI .i64 (l.length:Int)),(9,eI .i64 x9)]) (fun qH x9=>[]) (round:= ?_)
 intro m2 qH x9 hr
 refine zz ?_
 refine a1M ?_
 refine zk hr ?_ ?_<;>clear hr<;>intro h1 hr<;>refine zz ?_
 ·refine a1M<|a1K ?_
  replace hr:=aL hr
  obtain⟨x11,h_2,hr⟩:=hr
  refine zz ?_
  refine a1M ?_
  refine bW (aB7 N l qH x9 x11 (l8 N l m2)) (fun x24=>[(4,eI .i64 qH),(6,.ptr 0 0),(7,.row none 37 (l.map aP)),(8,eI .i64 (l.length:Int)),(9,eI .i64 x9),(24,eB x24)]) (fun x24=>[some ⟨80,aH x11⟩]) ?_
  exact zE
 exact zE
instance :CtC 172 true (bC @aFX):=⟨@aFX⟩
theorem aFV {N t l r} (hr:aHa N t l=some r):
  Fp 127 [] [aZ t,.row none 37 (l.map aP)] (.tup [eI .i64 r.1,eI .i64 r.2]) []:=by
 refine bT func127 ntmps127 results127 fun hR=> ?_
 refine zz ?_
 obtain⟨x14,h_1,hr⟩:=aL hr
 refine a1M<|zz ?_
 refine xp (aHD h_1) ?_
 refine zz ?_
 refine zk hr ?_ ?_<;>intro h2 hr<;>refine zz ?_
 ·exact zE
 refine a1M<|zz ?_
 refine zk hr ?_ ?_<;>intro h3 hr<;>refine zz ?_
 ·exact zE
 refine fY (aBu N t l) [(1,.row none 37 (l.map aP)),(2,.ptr 0 0)] [some ⟨91,aQ t⟩] ?_ (body:= ?_)
 rotate_left
 ·clear hr
  intro hr
  obtain⟨x43,h_4,hr⟩:=aL hr
  refine zz ?_
  refine xp (aFX h_4) ?_
  refine zz ?_
  refine a1M<|zz ?_
  refine zk hr ?_ ?_<;>intro h5 hr<;>refine zz ?_
  ·exact zE
  refine bW (aKE N) (fun fee=>[(9,eI .i64 fee)]) (fun fee=>[]) ?_
  obtain⟨aBW,hL3,hr⟩:=aL hr
  refine zz ?_
  exact a1K<|dH hL3 (fun fee_1 x51=>[(9,eI .i64 fee_1),(49,.row none 2 (t.Outputs.map b7)),(50,eI .i64 (t.Outputs.length:Int)),(51,eI .i64 x51)]) (fun fee_1 x51=>[])
 obtain⟨res4,hL4,hr⟩:=aL hr
 refine zz ?_
 refine a1K<|gQ hL4 (fun x26=>[(1,.row none 37 (l.map aP)),(2,.ptr 0 0),(24,.row none 37 (l.map aP)),(25,eI .i64 (l.length:Int)),(26,eI .i64 x26)]) (fun x26=>[some ⟨91,aQ t⟩]) (round:= ?_)
 intro m4 x26 hr
 refine zz ?_
 refine a1M ?_
 refine zk hr ?_ ?_<;>clear hr<;>intro h9 hr<;>refine zz ?_
 ·refine a1M<|a1K ?_
  replace hr:=aL hr
  obtain⟨x29,h_10,hr⟩:=hr
  refine zz ?_
  refine a1M ?_
  replace hr:=aL hr
  obtain⟨x36,h_11,hr⟩:=hr
  refine a1Q mixed [] [] [[0,1,2,3,4,5,6,7,8]]<|zz ?_
  refine xw (v:=(eB (!(iU x29.Out.Tx x36.Prev.Tx ((x29.Out.Index == x36.Prev.Index)&&true))))) (gA rfl rfl (aJu (d:=9) jL rfl aAQ zl aDk rfl rfl rfl rfl rfl)) ?_
  exact zE
 exact zE
instance :CtC 127 true (bC @aFV):=⟨@aFV⟩
end Go.Proofs.YtopdhljncajmpaaGreatDoor
