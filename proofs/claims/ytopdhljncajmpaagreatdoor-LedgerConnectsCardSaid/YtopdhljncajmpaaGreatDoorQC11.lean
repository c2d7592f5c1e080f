/- Texts of ours, joined. -/
import Derived.Test.YtopdhljncajmpaaGreatDoorQC10
open List renaming replicate → a1K
open Go.Vm.AB renaming block → a1L,seq → a1N,rs → a1V,ghost → a12,rd → a14
open Go.IntKind renaming u64 → a1M,i64 → a1O,u32 → a1P,max → a1X
open Go.Vm.DrawG renaming ps → a1Q,jh → a1S,nil → a1U,fk → a1W,jn → a1Y
open Bool renaming eq_false_or_eq_true → a1R
open Int renaming tmod → a1T,toNat → a1Z,tdiv → a11
open Go.Vm.OpsX renaming ghost → a10
open Go.Vm.Ghost renaming trans → a13
set_option linter.unusedVariables false
set_option linter.unusedSimpArgs false
set_option maxRecDepth 20000
set_option maxHeartbeats 8000000
namespace Go.Proofs.YtopdhljncajmpaaGreatDoor
open Go Go.Vm Go.Proofs.Tryz
theorem aLc {N va r} (hr:aOS N va=some r):
  Fp 160 [] [.agg (va.map (eI .u64))] (.agg (r.map (eI .u64))) []:=by
 refine bT func160 ntmps160 results160 fun hR=> ?_
 obtain⟨x3,h_1,x6,h_2,x9,h_3,x12,h_4,hr⟩:=aA4 hr
 refine zz ?_
 refine xw (aJD rfl (aFH rfl _)) ?_
 refine zz ?_
 refine xw (aJD rfl (aFH rfl _)) ?_
 refine zz ?_
 refine xw (aJD rfl (aFH rfl _)) ?_
 refine zz ?_
 refine xw (aJD rfl (aFH rfl _))<|xw (v:=(.agg ([bits .xor .u64 (a1X .u64) x3,bits .xor .u64 (a1X .u64) x6,bits .xor .u64 (a1X .u64) x9,bits .xor .u64 (a1X .u64) x12].map (eI .u64)))) (cS rfl (aHG aHK aGz rfl)) ?_
 exact zE
instance :CtC 160 true (bC @aLc):=⟨@aLc⟩
theorem aCE {N va vi r} (hr:tL N va vi=some r):
  Fp 204 [] [.agg (va.map (eI .u64)),eI .i64 vi] (eB r) []:=
 fV func204 ntmps204 results204
instance :CtC 204 true (bC @aCE):=⟨@aCE⟩
theorem aKw {N va vn r} (hr:tK N va vn=some r):
  Fp 159 [] [.agg (va.map (eI .u64)),eI .i64 vn] (.agg (r.map (eI .u64))) []:=by
 refine bT func159 ntmps159 results159 fun hR=> ?_
 refine zz ?_
 refine a1N<|zz ?_
 refine zk hr ?_ ?_<;>intro h1 hr
 ·exact zE
 refine zz ?_
 refine a1N<|zz ?_
 refine zk hr ?_ ?_<;>intro h3 hr<;>refine zz ?_
 ·exact zE
 refine bW (aGl N) (fun l1=>[(4,.ptr 0 0),(5,.ptr 1 0)]) (fun l1=>[some ⟨31,(a1K 4 0).map (eI .u64)⟩,some ⟨31,l1.map (eI .u64)⟩]) ?_
 obtain⟨cN,hL2,hr⟩:=aL hr
 refine zz ?_
 refine a1L<|dH hL2 (fun vi l2=>[(1,eI .i64 vn),(2,.ptr 0 0),(4,.ptr 1 0),(5,.ptr 2 0),(6,eI .i64 vi)]) (fun vi l2=>[some ⟨31,va.map (eI .u64)⟩,some ⟨31,(a1K 4 0).map (eI .u64)⟩,some ⟨31,l2.map (eI .u64)⟩]) (round:= ?_)
 intro m2 vi l2 hr
 refine a1N<|zz ?_
 refine zk hr ?_ ?_<;>clear hr<;>intro h5 hr<;>refine zz ?_
 ·refine bW (aBq N va vn vi (pF N va vn m2)) (fun fA=>[(1,eI .i64 vn),(2,.ptr 0 0),(4,.ptr 1 0),(5,.ptr 2 0),(6,eI .i64 vi)]) (fun fA=>[some ⟨31,va.map (eI .u64)⟩,some ⟨31,(a1K 4 0).map (eI .u64)⟩,some ⟨31,fA.map (eI .u64)⟩]) ?_
  exact zE
 exact zE
instance :CtC 159 true (bC @aKw):=⟨@aKw⟩
theorem aCP {N v r} (hr:aDV N v=some r):
  Fp 116 [] [eI .u8 v] (cU r) []:=
 fV func116 ntmps116 results116
instance :CtC 116 true (bC @aCP):=⟨@aCP⟩
theorem uR {N va r} (hr:nT N va=some r):
  Fp 121 [] [.agg (va.map (eI .u64))] (eB r) []:=
 fV func121 ntmps121 results121
instance :CtC 121 true (bC @uR):=⟨@uR⟩
theorem kU {N vn r} (hr:gL N vn=some r):
  Fp 165 [] [eI .u64 vn] (.agg (r.map (eI .u64))) []:=by
 refine bT func165 ntmps165 results165 fun hR=> ?_
 unfold gL at hr
 refine zz ?_
 refine xw (v:=(.agg ([vn,0,0,0].map (eI .u64)))) (cS rfl (aHG aHK aGz rfl)) ?_
 exact zE
instance :CtC 165 true (bC @kU):=⟨@kU⟩
theorem aKL {N va r} (hr:aEc N va=some r):
  Fp 166 [] [.agg (va.map (eI .u64))] (eI .i64 r) []:=by
 refine bT func166 ntmps166 results166 fun hR=> ?_
 refine zz ?_
 refine fY (aLm N) [] [] ?_
 obtain⟨cN,hL2,hr⟩:=aL hr
 refine zz ?_
 exact a1L<|gQ hL2 (fun vi=>[(1,.ptr 0 0),(3,eI .i64 vi)]) (fun vi=>[some ⟨31,va.map (eI .u64)⟩])
instance :CtC 166 true (bC @aKL):=⟨@aKL⟩
theorem aF7 {N va b r} (hr:aD9 N va b=some r):
  Fp 206 [] [.agg (va.map (eI .u64)),.agg (b.map (eI .u64))] (.tup [.agg (r.1.map (eI .u64)),eB r.2]) []:=by
 refine bT func206 ntmps206 results206 fun hR=> ?_
 refine zz ?_
 refine sk2 (aGO N) (fun aFh l1=>[(4,.ptr 0 0),(6,.ptr 1 0),(7,eI .u64 aFh)]) (fun aFh l1=>[some ⟨31,(a1K 4 0).map (eI .u64)⟩,some ⟨31,l1.map (eI .u64)⟩]) ?_
 obtain⟨cN,hL2,hr⟩:=aL hr
 refine zz ?_
 exact a1L<|lp3 hL2 (fun carry_1 x9 l3=>[(2,.ptr 0 0),(3,.ptr 1 0),(4,.ptr 2 0),(6,.ptr 3 0),(7,eI .u64 carry_1),(9,eI .i64 x9)]) (fun carry_1 x9 l3=>[some ⟨31,va.map (eI .u64)⟩,some ⟨31,b.map (eI .u64)⟩,some ⟨31,(a1K 4 0).map (eI .u64)⟩,some ⟨31,l3.map (eI .u64)⟩])
instance :CtC 206 true (bC @aF7):=⟨@aF7⟩
theorem aLw {N va vn r} (hr:aD6 N va vn=some r):
  Fp 167 [] [.agg (va.map (eI .u64)),eI .i64 vn] (.agg (r.map (eI .u64))) []:=by
 refine bT func167 ntmps167 results167 fun hR=> ?_
 refine zz ?_
 refine a1N<|zz ?_
 refine zk hr ?_ ?_<;>intro h1 hr<;>refine zz ?_
 ·exact zE
 refine bW (aGF N) (fun l0=>[(2,.ptr 0 0),(4,.ptr 1 0)]) (fun l0=>[some ⟨31,l0.map (eI .u64)⟩,some ⟨31,(a1K 4 0).map (eI .u64)⟩]) ?_
 obtain⟨cN,hL2,hr⟩:=aL hr
 exact a1L<|dH hL2 (fun vn_1 aO=>[(1,eI .i64 vn_1),(2,.ptr 0 0),(4,.ptr 1 0)]) (fun vn_1 aO=>[some ⟨31,aO.map (eI .u64)⟩,some ⟨31,(a1K 4 0).map (eI .u64)⟩])
instance :CtC 167 true (bC @aLw):=⟨@aLw⟩
theorem wJ {N kS r} (hr:oS N kS=some r):
  Fp 122 [] [eI .u32 kS] (.tup [.agg (r.1.map (eI .u64)),eI .i64 r.2]) []:=by
 refine bT func122 ntmps122 results122 fun hR=> ?_
 obtain⟨x8,h_1,x13,h_2,q,h_3,hr⟩:=fK hr
 refine zz ?_
 refine xp (kU h_2) ?_
 refine zz ?_
 refine a1N<|zz ?_
 refine zk hr ?_ ?_<;>intro h4 hr<;>refine zz ?_
 ·exact zE
 refine bW (rD N) (fun l1=>[(2,.ptr 0 0),(6,.ptr 1 0)]) (fun l1=>[some ⟨31,(a1K 4 0).map (eI .u64)⟩,some ⟨31,l1.map (eI .u64)⟩]) ?_
 refine zz ?_
 refine zk hr ?_ ?_<;>intro h8 hr
 ·exact zE
 refine a1N ?_
 refine bW (rI N x8 x13) (fun x37=>[(2,.ptr 0 0),(4,eI .i64 (a1O.wrap x8)),(5,.ptr 1 0),(6,.ptr 2 0),(37,eB x37)]) (fun x37=>[some ⟨31,(a1K 4 0).map (eI .u64)⟩,some ⟨31,x13.map (eI .u64)⟩,some ⟨31,x13.map (eI .u64)⟩]) ?_
 exact zE
instance :CtC 122 true (bC @wJ):=⟨@wJ⟩
theorem aBw {N va b r} (hr:n4 N va b=some r):
  Fp 123 [] [.agg (va.map (eI .u64)),.agg (b.map (eI .u64))] (eI .i64 r) []:=by
 refine bT func123 ntmps123 results123 fun hR=> ?_
 refine zz ?_
 refine fY (aKJ N) [] [] ?_
 obtain⟨cN,hL2,hr⟩:=aL hr
 refine zz ?_
 exact a1L<|gQ hL2 (fun vi=>[(2,.ptr 0 0),(3,.ptr 1 0),(5,eI .i64 vi)]) (fun vi=>[some ⟨31,va.map (eI .u64)⟩,some ⟨31,b.map (eI .u64)⟩])
instance :CtC 123 true (bC @aBw):=⟨@aBw⟩
theorem lF {N p r} (hr:jB N p=some r):
  Fp 72 [] [cU p] (eB r) []:=by
 refine bT func72 ntmps72 results72 fun hR=> ?_
 refine zz ?_
 refine a1N ?_
 obtain⟨q,h_1,x9,h_2,hr⟩:=cE hr
 obtain⟨h3,hr⟩:=cutF hr
 obtain⟨h4,hr⟩:=cutF hr
 obtain⟨h5,hr⟩:=cutF hr
 obtain⟨h6,hr⟩:=cutF hr
 refine xq ?_
 refine zz ?_
 refine xp (uR h_2) ?_
 refine zz ?_
 obtain⟨h7,hr⟩:=cutF hr
 refine AB.cndF rfl h7 ?_
 refine zz ?_
 refine a1N ?_
 obtain⟨h8,hr⟩:=cutF hr
 obtain⟨h9,hr⟩:=cutF hr
 obtain⟨h10,hr⟩:=cutF hr
 obtain⟨h11,hr⟩:=cutF hr
 obtain⟨h12,hr⟩:=cutF hr
 refine xq ?_
 refine zz ?_
 obtain⟨h13,hr⟩:=cutF hr
 refine AB.cndF rfl h13 ?_
 refine zz ?_
 refine fY (aDy N p) [(1,.ptr 0 0)] [some ⟨34,bG p⟩] ?_
 obtain⟨cN,hL2,hr⟩:=aL hr
 refine zz ?_
 exact a1L<|lp0 hL2 [(1,.ptr 0 0),(59,.row none 33 (p.Checkpoints.map bB)),(60,eI .i64 (p.Checkpoints.length:Int)),(61,eI .i64 0)] [some ⟨34,bG p⟩]
instance :CtC 72 true (bC @lF):=⟨@lF⟩
theorem qW {N v vn r} (hr:kM N v vn=some r):
  Fp 183 [] [eI .u64 v,eI .i64 vn] (.sl 0 0 r.length 1 false) [some ⟨5,r.map (eI .u8)⟩]:=by
 refine bT func183 ntmps183 results183 fun hR=> ?_
 obtain⟨x8,h_1,hr⟩:=aL hr
 refine zz ?_
 refine xw (v:=(.sl 0 0 x8.length 1 false)) (h':=[some ⟨5,x8.map (eI .u8)⟩]) (aOu rfl rfl (mkS (E:=(eI .u8)) (y:=0) lI mF ⟨zl,rfl,rfl⟩ rfl rfl rfl h_1 rfl rfl)) ?_
 refine zz ?_
 refine bW (aB6 N) (fun l0=>[(5,.sl 0 0 l0.length 1 false)]) (fun l0=>[some ⟨5,l0.map (eI .u8)⟩]) ?_
 obtain⟨cN,hL2,hr⟩:=aL hr
 refine zz ?_
 exact a1L<|dH hL2 (fun x11 aO=>[(0,eI .u64 v),(5,.sl 0 0 aO.length 1 false),(10,eI .i64 (x8.length:Int)),(11,eI .i64 x11)]) (fun x11 aO=>[some ⟨5,aO.map (eI .u8)⟩])
instance :CtC 183 false (bC @qW):=⟨@qW⟩
theorem iX {N va b r} (hr:eQ N va b=some r):
  Fp 138 [] [.row none 1 (va.map (eI .u8)),.row none 1 (b.map (eI .u8))] (.sl 0 0 r.length 1 false) [some ⟨5,r.map (eI .u8)⟩]:=by
 refine bT func138 ntmps138 results138 fun hR=> ?_
 obtain⟨x11,h_1,hr⟩:=aL hr
 refine zz ?_
 refine xw (v:=(.sl 0 0 0 1 false)) (h':=[some ⟨5,x11.map (eI .u8)⟩]) (aOu rfl rfl (mkC (E:=(eI .u8)) (y:=0) lI mF ⟨zl,rfl,rfl⟩ rfl rfl rfl h_1 rfl rfl)) ?_
 obtain⟨x14,h_2,x16,h_3,hr⟩:=cE hr
 refine zz ?_
 refine xw (v:=(.sl 1 0 x14.length 1 false)) (h':=[none,some ⟨5,x14.map (eI .u8)⟩]) (uE rfl rfl (aYH (E:=(eI .u8)) (Nat.zero_le _) lI mF ⟨rfl,rfl,zl⟩ rfl (aHS (fun _=>rfl)) h_2 rfl rfl)) ?_
 exact zE
instance :CtC 138 false (bC @iX):=⟨@iX⟩
theorem dN {N b vn r} (hr:dW N b vn=some r):
  Fp 133 [] [.row none 1 (b.map (eI .u8)),eI .u32 vn] (.sl 0 0 r.length 1 false) [some ⟨5,r.map (eI .u8)⟩]:=
 fV func133 ntmps133 results133
instance :CtC 133 false (bC @dN):=⟨@dN⟩
theorem fE {N b vh r} (hr:e7 N b vh=some r):
  Fp 134 [] [.row none 1 (b.map (eI .u8)),.agg (vh.map (eI .u8))] (.sl 0 0 r.length 1 false) [some ⟨5,r.map (eI .u8)⟩]:=
 fV func134 ntmps134 results134
instance :CtC 134 false (bC @fE):=⟨@fE⟩
theorem s9 {N vh r} (hr:mD N vh=some r):
  Fp 84 [] [pD vh] (.sl 0 0 r.length 1 false) [some ⟨5,r.map (eI .u8)⟩]:=by
 refine bT func84 ntmps84 results84 fun hR=> ?_
 obtain⟨x8,h_1,hr⟩:=aL hr
 refine zz ?_
 refine zc (dN h_1) [] ?_
 refine zz ?_
 refine a1N ?_
 obtain⟨q,h_2,x12,h_3,q_1,h_5,x15,h_6,hr⟩:=aA4 hr
 refine a1V mixed [] [134] [[0,1,2,3,4,5,6,7]]<|zz ?_
 refine xZ (fE h_3) [] [1] ?_
 refine zz ?_
 refine xZ (fE h_6) [] [2] ?_
 refine zz ?_
 refine bW (aBj N) (fun l0=>[(3,.sl 0 0 l0.length 1 false)]) (fun l0=>[some ⟨5,l0.map (eI .u8)⟩]) ?_
 obtain⟨cN,hL2,hr⟩:=aL hr
 refine zz ?_
 refine a1L<|dH hL2 (fun x24 aO=>[(3,.sl 0 0 aO.length 1 false),(22,.sl 1 0 ([vh.Time,vh.Bits,vh.Nonce].length) 1 false),(23,eI .i64 (3:Int)),(24,eI .i64 x24)]) (fun x24 aO=>[some ⟨5,aO.map (eI .u8)⟩,some ⟨24,[vh.Time,vh.Bits,vh.Nonce].map (eI .u32)⟩]) (round:= ?_)
 intro m2 x24 aO hr
 refine zz ?_
 refine a1N ?_
 refine zk hr ?_ ?_<;>clear hr<;>intro h8 hr<;>refine zz ?_
 ·refine a1N<|a1L ?_
  replace hr:=aL hr
  obtain⟨x26,h_9,hr⟩:=hr
  refine zz ?_
  refine xHp (h':=[some ⟨5,aO.map (eI .u8)⟩,some ⟨24,[vh.Time,vh.Bits,vh.Nonce].map (eI .u32)⟩]) rfl ?_
  replace hr:=aL hr
  obtain⟨x30,h_10,hr⟩:=hr
  refine zz ?_
  refine kY (dN h_10) [] [0] ?_
  refine zz ?_
  exact⟨_,_,hr,zG [2,1]⟩
 exact zE
instance :CtC 84 false (bC @s9):=⟨@s9⟩
theorem aGo {N vn r} (hr:aG9 N vn=some r):
  Fp 180 [] [eI .u64 vn] (.sl 0 0 r.length 1 false) [some ⟨5,r.map (eI .u8)⟩]:=by
 refine bT func180 ntmps180 results180 fun hR=> ?_
 refine zz ?_
 refine bW (aGN N vn) (fun l0=>[(0,eI .u64 vn),(3,.sl 0 0 l0.length 1 false)]) (fun l0=>[some ⟨5,l0.map (eI .u8)⟩]) ?_ (body:= ?_)
 rotate_left
 ·clear hr
  intro l0 hr
  refine bW (aLs N) (fun aO=>[(3,.sl 0 0 aO.length 1 false)]) (fun aO=>[some ⟨5,aO.map (eI .u8)⟩]) ?_
  obtain⟨aBW,hL3,hr⟩:=aL hr
  refine zz ?_
  exact a1L<|dH hL3 (fun vi d8=>[(0,eI .u64 vn),(3,.sl 0 0 d8.length 1 false),(4,eI .i64 vi)]) (fun vi d8=>[some ⟨5,d8.map (eI .u8)⟩])
 obtain⟨res4,hL4,hr⟩:=aL hr
 exact a1L<|gQ hL4 (fun gY=>[(0,eI .u64 vn),(3,.sl 0 0 gY.length 1 false)]) (fun gY=>[some ⟨5,gY.map (eI .u8)⟩])
instance :CtC 180 false (bC @aGo):=⟨@aGo⟩
theorem aAP {N r} (hr:aAw N=some r):
  Fp 181 [] [] (.agg (r.map (eI .u32))) []:=by
 refine bT func181 ntmps181 results181 fun hR=> ?_
 unfold aAw at hr
 refine zz ?_
 refine xw (v:=(.agg ([1779033703,3144134277,1013904242,2773480762,1359893119,2600822924,528734635,1541459225].map (eI .u32)))) (cS rfl (aHG aI4 jA rfl)) ?_
 exact zE
instance :CtC 181 true (bC @aAP):=⟨@aAP⟩
theorem kX {N x vn r} (hr:jH N x vn=some r):
  Fp 223 [] [eI .u32 x,eI .i64 vn] (eI .u32 r) []:=by
 refine bT func223 ntmps223 results223 fun hR=> ?_
 obtain⟨x8,h_1,hr⟩:=aL hr
 refine zz ?_
 refine xw (aJD rfl (aTV ..))<|xp (j9 h_1) ?_
 exact zE
instance :CtC 223 true (bC @kX):=⟨@kX⟩
theorem aAf {N block r} (hr:zC N block=some r):
  Fp 221 [] [.agg (block.map (eI .u8))] (.agg (r.map (eI .u32))) []:=by
 refine bT func221 ntmps221 results221 fun hR=> ?_
 refine zz ?_
 refine bW (aAc N) (fun l1=>[(2,.ptr 0 0),(3,.ptr 1 0)]) (fun l1=>[some ⟨251,(a1K 64 0).map (eI .u32)⟩,some ⟨251,l1.map (eI .u32)⟩]) ?_ (body:= ?_)
 rotate_left
 ·clear hr
  intro l1 hr
  refine bW (zZ N) (fun bL=>[(2,.ptr 0 0),(3,.ptr 1 0)]) (fun bL=>[some ⟨251,(a1K 64 0).map (eI .u32)⟩,some ⟨251,bL.map (eI .u32)⟩]) ?_
  obtain⟨aBW,hL3,hr⟩:=aL hr
  refine zz ?_
  exact a1L<|dH hL3 (fun vi cL=>[(2,.ptr 0 0),(3,.ptr 1 0),(5,eI .i64 vi)]) (fun vi cL=>[some ⟨251,(a1K 64 0).map (eI .u32)⟩,some ⟨251,cL.map (eI .u32)⟩])
 obtain⟨res4,hL4,hr⟩:=aL hr
 refine zz ?_
 exact a1L<|dH hL4 (fun nF l2=>[(1,.ptr 0 0),(2,.ptr 1 0),(3,.ptr 2 0),(4,eI .i64 nF)]) (fun nF l2=>[some ⟨223,block.map (eI .u8)⟩,some ⟨251,(a1K 64 0).map (eI .u32)⟩,some ⟨251,l2.map (eI .u32)⟩])
instance :CtC 221 true (bC @aAf):=⟨@aAf⟩
theorem yF {N r} (hr:vS N=some r):
  Fp 222 [] [] (.agg (r.map (eI .u32))) []:=by
 refine bT func222 ntmps222 results222 fun hR=> ?_
 unfold vS at hr
 refine zz ?_
 refine xw (v:=(.agg ([1116352408,1899447441,3049323471,3921009573,961987163,1508970993,2453635748,2870763221,3624381080,310598401,607225278,1426881987,1925078388,2162078206,2614888103,3248222580,3835390401,4022224774,264347078,604807628,770255983,1249150122,1555081692,1996064986,2554220882,2821834349,2952996808,3210313671,3336571891,3584528711,113926993,338241895,666307205,773529912,1294757372,1396182291,1695183700,1986661051,2177026350,2456956037,2730485921,2820302411,3259730800,3345764771,3516065817,3600352804,4094571909,275423344,430227734,506948616,659060556,883997877,958139571,1322822218,1537002063,1747873779,1955562222,2024104815,2227730452,2361852424,2428436474,2756734187,3204031479,3329325298].map (eI .u32)))) (cS rfl (aHG aPS jA rfl)) ?_
 exact zE
instance :CtC 222 true (bC @yF):=⟨@yF⟩
theorem aE4 {N cX block r} (hr:tH N cX block=some r):
  Fp 182 [] [.agg (cX.map (eI .u32)),.agg (block.map (eI .u8))] (.agg (r.map (eI .u32))) []:=by
 refine bT func182 ntmps182 results182 fun hR=> ?_
 obtain⟨q,h_1,x19,h_2,x20,h_3,q_1,h_4,q_2,h_5,hr⟩:=aJh hr
 refine zz ?_
 refine xp (aAf h_2)<|xp (yF h_3) ?_
 refine zz ?_
 refine a1N ?_
 obtain⟨x21,h_6,x23,h_7,x25,h_8,x27,h_9,x29,h_10,x31,h_11,hr⟩:=aOv hr
 obtain⟨x33,h_12,x35,h_13,hr⟩:=cE hr
 refine a1V mixed [] [] [[0,1,2,3,4,5,6,7,8,9,10,11,12,13,14,15,16,17,18,19,20,21,22,23]]<|zz ?_
 refine sk8 (aAe N cX) (fun va b c d ve f g vh=>[(2,.ptr 0 0),(4,.ptr 1 0),(7,eI .u32 va),(8,eI .u32 b),(9,eI .u32 c),(10,eI .u32 d),(11,eI .u32 ve),(12,eI .u32 f),(13,eI .u32 g),(14,eI .u32 vh)]) (fun va b c d ve f g vh=>[some ⟨221,cX.map (eI .u32)⟩,some ⟨221,(a1K 8 0).map (eI .u32)⟩]) ?_ (body:= ?_)
 rotate_left
 ·clear hr
  intro va b c d ve f g vh hr
  obtain⟨aOE,h_14,aLo,h_15,aV9,h_16,aVc,h_17,aU1,h_18,aVs,h_19,hr⟩:=aOv hr
  obtain⟨aVw,h_20,aVj,h_21,hr⟩:=cE hr
  refine zz ?_
  refine xw (v:=(.agg ([a1P.wrap (aOE+va),a1P.wrap (aLo+b),a1P.wrap (aV9+c),a1P.wrap (aVc+d),a1P.wrap (aU1+ve),a1P.wrap (aVs+f),a1P.wrap (aVw+g),a1P.wrap (aVj+vh)].map (eI .u32)))) (cS rfl (aHG aI4 jA rfl)) ?_
  refine zz ?_
  replace hr:=sj hr
  subst hr
  exact zr1 Tryz.results182 fW (zG [])
 obtain⟨cN,hL2,hr⟩:=aL hr
 refine zz ?_
 refine a1L<|lp9 hL2 (fun va_1 b_1 c_1 d_1 ve_1 f_1 g_1 vh_1 vi=>[(2,.ptr 0 0),(4,.ptr 1 0),(5,.ptr 2 0),(6,.ptr 3 0),(7,eI .u32 va_1),(8,eI .u32 b_1),(9,eI .u32 c_1),(10,eI .u32 d_1),(11,eI .u32 ve_1),(12,eI .u32 f_1),(13,eI .u32 g_1),(14,eI .u32 vh_1),(15,eI .i64 vi)]) (fun va_1 b_1 c_1 d_1 ve_1 f_1 g_1 vh_1 vi=>[some ⟨221,cX.map (eI .u32)⟩,some ⟨221,(a1K 8 0).map (eI .u32)⟩,some ⟨251,x19.map (eI .u32)⟩,some ⟨251,x20.map (eI .u32)⟩]) (round:= ?_)
 intro m2 va_1 b_1 c_1 d_1 ve_1 f_1 g_1 vh_1 vi hr
 refine a1N<|zz ?_
 refine zk hr ?_ ?_<;>clear hr<;>intro h22 hr<;>refine zz ?_
 ·refine a1N<|a1L<|a1N ?_
  replace hr:=aJh hr
  obtain⟨x43,h_23,x45,h_25,x48,h_27,x61,h_29,x65,h_30,hr⟩:=hr
  refine a1V mixed [223] [] [[0,1,2,3,4,5,6,7,8,9,10,11,12,13,14,15,16,17,18,19,20,21,22,23,24,25,26,27]]<|zz ?_
  refine xu (kX h_23) ?_
  refine zz ?_
  refine xu (kX h_25) ?_
  refine zz ?_
  refine xu (kX h_27) ?_
  refine zz ?_
  refine xw (v:=(eI .u32 (bits .xor .u32 (a1X .u32) ve_1))) (aJD rfl (aFH rfl _)) ?_
  replace hr:=fK hr
  obtain⟨x69,h_31,x71,h_32,x74,h_33,hr⟩:=hr
  refine zz ?_
  refine xp (kX h_31) ?_
  refine zz ?_
  refine xp (kX h_32) ?_
  refine zz ?_
  refine xp (kX h_33) ?_
  refine zz ?_
  exact⟨_,_,_,_,_,_,_,_,_,hr,zG [0,1,2,3]⟩
 exact zE
instance :CtC 182 true (bC @aE4):=⟨@aE4⟩
theorem jF {N b r} (hr:mE N b=some r):
  Fp 132 [] [.row none 1 (b.map (eI .u8))] (.agg (r.map (eI .u8))) []:=by
 refine bT func132 ntmps132 results132 fun hR=> ?_
 obtain⟨x11,h_1,x15,h_2,x16,h_3,hr⟩:=fK hr
 refine zz ?_
 refine zc (aGo h_2) [] ?_
 obtain⟨x17,h_4,q,h_5,hr⟩:=cE hr
 refine zz ?_
 refine xp (aAP h_4) ?_
 refine zz ?_
 refine bW (aF2 N) (fun l1=>[(2,.ptr 0 0),(4,.ptr 1 0)]) (fun l1=>[some ⟨26,(a1K 32 0).map (eI .u8)⟩,some ⟨221,l1.map (eI .u32)⟩]) ?_ (body:= ?_)
 rotate_left
 ·clear hr
  intro l1 hr
  refine zz ?_
  refine bW (aGg N) (fun bL=>[(2,.ptr 0 0),(7,.ptr 1 0)]) (fun bL=>[some ⟨26,(a1K 32 0).map (eI .u8)⟩,some ⟨26,bL.map (eI .u8)⟩]) ?_
  obtain⟨q_2,h_7,aBW,hL3,hr⟩:=cE hr
  refine zz ?_
  refine a1L<|dH hL3 (fun x34 cL=>[(2,.ptr 0 0),(7,.ptr 1 0),(33,.agg (l1.map (eI .u32))),(34,eI .i64 x34)]) (fun x34 cL=>[some ⟨26,(a1K 32 0).map (eI .u8)⟩,some ⟨26,cL.map (eI .u8)⟩]) (round:= ?_)
  intro m3 x34 cL hr
  refine zz ?_
  refine a1N ?_
  refine zk hr ?_ ?_<;>clear hr<;>intro h8 hr<;>refine zz ?_
  ·refine a1N<|a1L ?_
   replace hr:=aL hr
   obtain⟨x37,h_9,hr⟩:=hr
   refine zz ?_
   refine xw (v:=(eI .u32 x37)) (aYJ rfl rfl (ixA (E:=(eI .u32)) aI4 jA rfl rfl h_9)) ?_
   exact zE
  exact zE
 refine zz ?_
 refine a12 (zv 4) ?_
 obtain⟨res4,hL4,hr⟩:=aL hr
 refine a1L<|dH hL4 (fun vi l1_3=>[(2,.ptr 0 0),(3,.row none 1 (x16.map (eI .u8))),(4,.ptr 1 0),(5,eI .i64 vi)]) (fun vi l1_3=>[some ⟨26,(a1K 32 0).map (eI .u8)⟩,some ⟨221,l1_3.map (eI .u32)⟩]) (round:= ?_)
 intro m4 vi l1_3 hr
 refine a1N<|zz ?_
 refine zk hr ?_ ?_<;>clear hr<;>intro h17 hr<;>refine zz ?_
 ·refine a1N<|a1L ?_
  refine zz ?_
  refine a1N ?_
  replace hr:=aL hr
  obtain⟨x28,h_18,hr⟩:=hr
  refine a1V mixed [] [] [[0,1,2,3,4]]<|zz ?_
  refine xw (v:=(eI .i64 ((min x28.length (a1K 64 0).length:Nat):Int))) (h':=[some ⟨26,(a1K 32 0).map (eI .u8)⟩,some ⟨221,l1_3.map (eI .u32)⟩,some ⟨223,(cpy (a1K 64 0) x28).map (eI .u8)⟩]) (aQ9 rfl rfl (aVL (E:=(eI .u8)) (l:=a1K 64 0) rfl lI mF rfl rfl (aHS (fun _=>rfl)) rfl)) ?_
  exact zE
 exact zE
instance :CtC 132 true (bC @jF):=⟨@jF⟩
theorem aG0 {N b r} (hr:pI N b=some r):
  Fp 83 [] [.row none 1 (b.map (eI .u8))] (.agg (r.map (eI .u8))) []:=by
 refine bT func83 ntmps83 results83 fun hR=> ?_
 obtain⟨x5,h_1,q,h_2,hr⟩:=cE hr
 refine zz ?_
 refine xp (jF h_1) ?_
 obtain⟨x7,h_3,q_1,h_4,hr⟩:=cE hr
 refine zz ?_
 refine kY (jF h_3) [] [1] ?_
 refine zz ?_
 replace hr:=sj hr
 subst hr
 exact zr1 Tryz.results83 fW (zG [])
instance :CtC 83 true (bC @aG0):=⟨@aG0⟩
theorem aAK {N vh r} (hr:nW N vh=some r):
  Fp 45 [] [pD vh] (.agg (r.map (eI .u8))) []:=
 fV func45 ntmps45 results45
instance :CtC 45 true (bC @aAK):=⟨@aAK⟩
theorem aDg {N p r} (hr:aHB N p=some r):
  Fp 54 [] [cU p] (.tup [dD r.1,eI .i64 r.2]) []:=
 fV func54 ntmps54 results54
instance :CtC 54 true (bC @aDg):=⟨@aDg⟩
theorem aC9 {N p r} (hr:aHP N p=some r):
  Fp 117 [] [cU p] (.tup [fH r.1,eI .i64 r.2]) []:=
 fV func117 ntmps117 results117
instance :CtC 117 true (bC @aC9):=⟨@aC9⟩
theorem aKf {N v r} (hr:aFi N v=some r):
  Fp 68 [] [eI .u8 v] (fS r) []:=by
 refine bT func68 ntmps68 results68 fun hR=> ?_
 obtain⟨x9,h_1,hr⟩:=aL hr
 refine zz ?_
 refine xp (aCP h_1) ?_
 obtain⟨x12,h_2,hr⟩:=aL hr
 refine zz ?_
 refine xp (aDg h_2) ?_
 obtain⟨x17,h_3,hr⟩:=aL hr
 refine zz ?_
 refine xp (aC9 h_3) ?_
 refine zz ?_
 refine jU bD 34 [x12.1] ?_
 refine zz ?_
 refine jU cF 36 [x17.1]<|xw (v:=(.agg ((eI .u32 x9.Genesis.Version)::(aN (eI .u8) x9.Genesis.Prev (aN (eI .u8) x9.Genesis.Root ((eI .u32 x9.Genesis.Time)::((eI .u32 x9.Genesis.Bits)::((eI .u32 x9.Genesis.Nonce)::(eG (eI .u64) x9.Limit [eI .i64 x9.Window,eI .u32 x9.Spacing,eI .u32 x9.Future,eI .u32 x9.Version,.row none 33 (x9.Checkpoints.map bB),eI .i64 x9.Subsidy,eI .i64 x9.Halving,eI .i64 x9.Maturity,.row (some true) 1 [],.sl 4 0 1 34 true,.sl 5 0 1 36 true,.row (some true) 1 []]))))))))) (cS rfl (jC aJv aU0 rfl)) ?_
 exact zE
instance :CtC 68 true (bC @aKf):=⟨@aKf⟩
theorem aH1 {N script r} (hr:aQ8 N script=some r):
  Fp 118 [] [.row none 1 (script.map (eI .u8))] (.row none 1 (r.map (eL 1 (eI .u8)))) []:=by
 refine bT func118 ntmps118 results118 fun hR=> ?_
 refine zz ?_
 refine a1N<|zz ?_
 refine zk hr ?_ ?_<;>intro h1 hr
 ·exact zE
 obtain⟨x7,h_2,hr⟩:=aL hr
 refine zz ?_
 refine a10 (zv 0) ?_
 exact zE
instance :CtC 118 true (bC @aH1):=⟨@aH1⟩
theorem lP {N vj r} (hr:nZ N vj=some r):
  Fp 20 [] [eI .u8 vj] (.row none 1 (r.map (eI .u8))) []:=
 fV func20 ntmps20 results20
instance :CtC 20 true (bC @lP):=⟨@lP⟩
theorem aEF {N c vs r} (hr:aFr N c vs=some r):
  Fp 69 [] [aP c,eI .u8 vs] (.tup [.agg [eI .u32 r.1,.sl 0 0 r.2.1.length 35 true,.sl 1 0 r.2.2.1.length 2 true,eI .u32 r.2.2.2.1],eI .i64 r.2.2.2.2]) [some ⟨97,r.2.1.flatMap cP⟩,some ⟨78,r.2.2.1.flatMap aX⟩]:=by
 refine bT func69 ntmps69 results69 fun hR=> ?_
 refine zz ?_
 refine xw (v:=(eI .i64 (if c.Output.Value<(a1O.wrap (a1T vs 3))then c.Output.Value else(a1O.wrap (a1T vs 3))))) (aP2 rfl aPT) ?_
 refine zz ?_
 refine a1N ?_
 obtain⟨x29,h_1,hr⟩:=aL hr
 refine a14 (cA [118]) (cA []) mixed<|a1Q (m:=4) [0,1,2,3,4,5,6,7,8] ?_
 refine zz ?_
 refine xu (aH1 h_1)<|xw (v:=(.agg (aN (eI .u8) c.Out.Tx [eI .u32 c.Out.Index,eI .u32 (a1P.wrap vs),.row none 1 (x29.map (eL 1 (eI .u8)))]))) (cS rfl (jC aJg aQi rfl)) ?_
 refine zz ?_
 refine a1Y (m:=1) (L:=lst [0,1,2,3,4,5,6,7,8,9,10,11] 13) (s1:=aG 63 [(1,eI .u8 vs),(4,.ptr 0 0),(6,eI .i64 (if c.Output.Value<(a1O.wrap (a1T vs 3))then c.Output.Value else(a1O.wrap (a1T vs 3)))),(7,eI .i64 (a1O.wrap (c.Output.Value-(if c.Output.Value<(a1O.wrap (a1T vs 3))then c.Output.Value else(a1O.wrap (a1T vs 3)))))),(8,.ptr 1 0),(32,.agg [eI .u32 1,.sl 2 0 1 35 true,.row (some true) 1 [],eI .u32 0])]) (h1:=[some ⟨91,[eI .u32 0,.row (some true) 1 [],.row (some true) 1 [],eI .u32 0]⟩,some ⟨91,[eI .u32 0,.row (some true) 1 [],.row (some true) 1 [],eI .u32 0]⟩,some ⟨97,[aT.mk c.Out (a1P.wrap vs) x29].flatMap cP⟩]) ?_ (fun J=> ?_)
 ·refine a1Q (m:=0) [12]<|zz ?_
  refine a1U (by decide +kernel) ?_
  refine zz ?_
  refine sk2 (uV N c vs x29) (fun first l3=>[(1,eI .u8 vs),(4,.ptr 0 0),(6,eI .i64 (if c.Output.Value<(a1O.wrap (a1T vs 3))then c.Output.Value else(a1O.wrap (a1T vs 3)))),(8,.ptr 1 0),(9,eI .i64 first)]) (fun first l3=>[some ⟨91,[eI .u32 0,.row (some true) 1 [],.row (some true) 1 [],eI .u32 0]⟩,some ⟨91,[eI .u32 1,.sl 2 0 ([aT.mk c.Out (a1P.wrap vs) x29].length) 35 true,.sl 3 0 l3.length 2 true,eI .u32 0]⟩,some ⟨97,[aT.mk c.Out (a1P.wrap vs) x29].flatMap cP⟩,some ⟨78,l3.flatMap aX⟩]) ?_ (body:= ?_)
  rotate_left
  ·clear hr
   intro first l3 hr
   refine a1N ?_
   obtain⟨x56,h_3,x59,h_5,hr⟩:=cE hr
   refine a1V mixed [20] [] [[0,1,2,3,4,5,6,7,8,9,10]]<|zz ?_
   refine xu (lP h_3) ?_
   refine zz ?_
   refine jU aX 2 [aI.mk first x56] ?_
   exact zE
  refine zz ?_
  refine zk hr ?_ ?_<;>intro h6 hr
  ·obtain⟨x46,h_7,x49,h_9,hr⟩:=cE hr
   refine zz ?_
   refine a1V mixed [20] [] [[0,1,2,3,4,5,6,7,8,9,10,11,12]]<|zz ?_
   refine xu (lP h_7) ?_
   refine zz ?_
   refine jU aX 2 [aI.mk (a1O.wrap ((a1O.wrap (c.Output.Value-(if c.Output.Value<(a1O.wrap (a1T vs 3))then c.Output.Value else(a1O.wrap (a1T vs 3)))))-(a1O.wrap (a11 (a1O.wrap (c.Output.Value-(if c.Output.Value<(a1O.wrap (a1T vs 3))then c.Output.Value else(a1O.wrap (a1T vs 3))))) 3)))) x46] ?_
   exact zE
  refine zz ?_
  exact⟨_,_,hr,a13 (Ghost.virt (fr':=[(1,eI .u8 vs),(4,.ptr 0 0),(6,eI .i64 (if c.Output.Value<(a1O.wrap (a1T vs 3))then c.Output.Value else(a1O.wrap (a1T vs 3)))),(8,.ptr 1 0),(9,eI .i64 (a1O.wrap (c.Output.Value-(if c.Output.Value<(a1O.wrap (a1T vs 3))then c.Output.Value else(a1O.wrap (a1T vs 3))))))]) (h1:=[some ⟨91,[eI .u32 0,.row (some true) 1 [],.row (some true) 1 [],eI .u32 0]⟩,some ⟨91,[eI .u32 1,.sl 2 0 1 35 true,.sl 3 0 0 2 true,eI .u32 0]⟩,some ⟨97,[aT.mk c.Out (a1P.wrap vs) x29].flatMap cP⟩]) 78 (FLe.same rfl (FLe.same rfl (FLe.same rfl (FLe.same rfl (FLe.same rfl FLe.nil))))) (HLv.live (V.les_refl _ _) rfl (HLv.live (V.les_cons (V.le_refl _ _) (V.les_cons (V.le_refl _ _) (V.les_cons (V.le_virt rfl) (V.les_cons (V.le_refl _ _) V.les_nil)))) rfl (HLv.live (V.les_refl _ _) (hY (fun _=>rfl) _) HLv.nil)))) (zg' [0,1,2,3])⟩
 refine a1W (n:=3) [9,11] ⟨?_, ?_,trivial⟩
 ·refine jU cP 35 [aT.mk c.Out (a1P.wrap vs) x29] ?_
  refine zz ?_
  refine a1Q (m:=1) [10,11]<|zz ?_
  refine a1S J ?_
  exact(zG [1,3,2])
 refine zz ?_
 refine a1Q (m:=1) [9,10]<|jU cP 35 [aT.mk c.Out (a1P.wrap vs) x29] ?_
 refine zz ?_
 refine a1S J ?_
 exact(zG [1,2,3])
instance :CtC 69 false (bC @aEF):=⟨@aEF⟩
theorem i5 {N b vn r} (hr:hP N b vn=some r):
  Fp 161 [] [.row none 1 (b.map (eI .u8)),eI .u64 vn] (.sl 0 0 r.length 1 false) [some ⟨5,r.map (eI .u8)⟩]:=by
 refine bT func161 ntmps161 results161 fun hR=> ?_
 refine zz ?_
 refine a1N<|a1L ?_
 refine zz ?_
 refine zk hr ?_ ?_<;>intro h1 hr
 ·exact zE
 refine zz ?_
 refine zk hr ?_ ?_<;>intro h4 hr
 ·obtain⟨x18,h_5,x19,h_6,x20,h_7,hr⟩:=fK hr
  refine zz ?_
  refine zc (qW h_5) [] ?_
  refine kY (iX h_6) [] [0,1] ?_
  refine kY (iX h_7) [] [2] ?_
  refine zz ?_
  replace hr:=sj hr
  subst hr
  exact zd1 Tryz.results161 [3]
 refine zz ?_
 refine zk hr ?_ ?_<;>intro h8 hr
 ·obtain⟨x27,h_9,x28,h_10,x29,h_11,hr⟩:=fK hr
  refine zz ?_
  refine zc (qW h_9) [] ?_
  refine kY (iX h_10) [] [0,1] ?_
  refine kY (iX h_11) [] [2] ?_
  refine zz ?_
  replace hr:=sj hr
  subst hr
  exact zd1 Tryz.results161 [3]
 obtain⟨x33,h_12,x34,h_13,x35,h_14,hr⟩:=fK hr
 refine zz ?_
 refine zc (qW h_12) [] ?_
 refine kY (iX h_13) [] [0,1] ?_
 refine kY (iX h_14) [] [2] ?_
 refine zz ?_
 replace hr:=sj hr
 subst hr
 exact zd1 Tryz.results161 [3]
instance :CtC 161 false (bC @i5):=⟨@i5⟩
theorem aDD {N o r} (hr:aAs N o=some r):
  Fp 162 [] [cW o] (.sl 0 0 r.length 1 false) [some ⟨5,r.map (eI .u8)⟩]:=by
 refine bT func162 ntmps162 results162 fun hR=> ?_
 refine zz ?_
 refine a1N ?_
 obtain⟨q,h_1,x5,h_2,x8,h_4,hr⟩:=fK hr
 refine a1V mixed [] [133,134] [[0,1,2,3,4,5,6]]<|zz ?_
 refine zg (fE h_2) [] ?_
 refine zz ?_
 refine xZ (dN h_4) [] [1] ?_
 refine zz ?_
 replace hr:=sj hr
 subst hr
 exact zd1 Tryz.results162 [2]
instance :CtC 162 false (bC @aDD):=⟨@aDD⟩
theorem wU {N b vn r} (hr:vY N b vn=some r):
  Fp 205 [] [.row none 1 (b.map (eI .u8)),eI .u64 vn] (.sl 0 0 r.length 1 false) [some ⟨5,r.map (eI .u8)⟩]:=
 fV func205 ntmps205 results205
instance :CtC 205 false (bC @wU):=⟨@wU⟩
theorem uH {N b vs r} (hr:nN N b vs=some r):
  Fp 164 [] [.row none 1 (b.map (eI .u8)),.row none 1 (vs.map (eI .u8))] (.sl 0 0 r.length 1 false) [some ⟨5,r.map (eI .u8)⟩]:=
 fV func164 ntmps164 results164
instance :CtC 164 false (bC @uH):=⟨@uH⟩
theorem aFZ {N o r} (hr:aBh N o=some r):
  Fp 163 [] [b7 o] (.sl 0 0 r.length 1 false) [some ⟨5,r.map (eI .u8)⟩]:=by
 refine bT func163 ntmps163 results163 fun hR=> ?_
 refine zz ?_
 refine a1N ?_
 obtain⟨x6,h_1,x9,h_3,hr⟩:=cE hr
 refine a1V mixed [] [164,205] [[0,1,2,3,4,5,6,7]]<|zz ?_
 refine zg (wU h_1) [] ?_
 refine zz ?_
 refine xZ (uH h_3) [] [1] ?_
 refine zz ?_
 replace hr:=sj hr
 subst hr
 exact zd1 Tryz.results163 [2]
instance :CtC 163 false (bC @aFZ):=⟨@aFZ⟩
theorem aHt {N t bI r} (hr:g8 N t bI=some r):
  Fp 120 [] [aZ t,eB bI] (.sl 0 0 r.length 1 false) [some ⟨5,r.map (eI .u8)⟩]:=by
 refine bT func120 ntmps120 results120 fun hR=> ?_
 obtain⟨x16,h_1,hr⟩:=aL hr
 refine zz ?_
 refine zc (dN h_1) [] ?_
 obtain⟨x22,h_2,hr⟩:=aL hr
 refine zz ?_
 refine kY (i5 h_2) [] [1] ?_
 refine zz ?_
 refine bW (v7 N t bI) (fun l1=>[(1,eB bI),(2,.ptr 0 0),(5,.sl 1 0 l1.length 1 false)]) (fun l1=>[some ⟨91,aQ t⟩,some ⟨5,l1.map (eI .u8)⟩]) ?_ (body:= ?_)
 rotate_left
 ·clear hr
  intro l1 hr
  obtain⟨x44,h_3,hr⟩:=aL hr
  refine zz ?_
  refine kY (i5 h_3) [] [1] ?_
  refine zz ?_
  refine bW (vZ N t bI) (fun bL=>[(1,eB bI),(2,.ptr 0 0),(5,.sl 1 0 bL.length 1 false)]) (fun bL=>[some ⟨91,aQ t⟩,some ⟨5,bL.map (eI .u8)⟩]) ?_ (body:= ?_)
  rotate_left
  ·clear hr
   intro bL hr
   obtain⟨x60,h_4,hr⟩:=aL hr
   refine zz ?_
   refine kY (dN h_4) [] [1] ?_
   refine zz ?_
   refine bW (aBo N) (fun l0=>[(5,.sl 0 0 l0.length 1 false)]) (fun l0=>[some ⟨5,l0.map (eI .u8)⟩]) ?_
   obtain⟨res4,hL4,hr⟩:=aL hr
   refine zz ?_
   refine a1L<|dH hL4 (fun x64 aO=>[(1,eB bI),(5,.sl 0 0 aO.length 1 false),(62,.row none 35 (t.Inputs.map bU)),(63,eI .i64 (t.Inputs.length:Int)),(64,eI .i64 x64)]) (fun x64 aO=>[some ⟨5,aO.map (eI .u8)⟩]) (round:= ?_)
   intro m4 x64 aO hr
   refine zz ?_
   refine a1N ?_
   refine zk hr ?_ ?_<;>clear hr<;>intro h5 hr<;>refine zz ?_
   ·refine bW (aCA N t bI x64 (eZ N t bI m4)) (fun d8=>[(1,eB bI),(5,.sl 0 0 d8.length 1 false),(62,.row none 35 (t.Inputs.map bU)),(63,eI .i64 (t.Inputs.length:Int)),(64,eI .i64 x64)]) (fun d8=>[some ⟨5,d8.map (eI .u8)⟩]) ?_
    refine a1L ?_
    replace hr:=aL hr
    obtain⟨x66,h_6,hr⟩:=hr
    refine zz ?_
    refine a1N<|zz ?_
    refine zk hr ?_ ?_<;>clear hr<;>intro h7 hr
    ·exact zE
    replace hr:=aL hr
    obtain⟨x75,h_8,hr⟩:=hr
    refine zz ?_
    refine kY (i5 h_8) [] [0] ?_
    replace hr:=aL hr
    obtain⟨res6,hL6,hr⟩:=hr
    refine zz ?_
    exact a1L<|dH hL6 (fun x79 gY=>[(1,eB bI),(5,.sl 0 0 gY.length 1 false),(62,.row none 35 (t.Inputs.map bU)),(63,eI .i64 (t.Inputs.length:Int)),(64,eI .i64 x64),(77,.row none 1 (x66.Witness.map (eL 1 (eI .u8)))),(78,eI .i64 (x66.Witness.length:Int)),(79,eI .i64 x79)]) (fun x79 gY=>[some ⟨5,gY.map (eI .u8)⟩])
   exact zE
  obtain⟨res7,hL7,hr⟩:=aL hr
  refine zz ?_
  exact a1L<|dH hL7 (fun x48 cL=>[(1,eB bI),(2,.ptr 0 0),(5,.sl 1 0 cL.length 1 false),(46,.row none 2 (t.Outputs.map b7)),(47,eI .i64 (t.Outputs.length:Int)),(48,eI .i64 x48)]) (fun x48 cL=>[some ⟨91,aQ t⟩,some ⟨5,cL.map (eI .u8)⟩])
 obtain⟨res8,hL8,hr⟩:=aL hr
 refine zz ?_
 refine a1L<|dH hL8 (fun x26 l1_3=>[(1,eB bI),(2,.ptr 0 0),(5,.sl 1 0 l1_3.length 1 false),(24,.row none 35 (t.Inputs.map bU)),(25,eI .i64 (t.Inputs.length:Int)),(26,eI .i64 x26)]) (fun x26 l1_3=>[some ⟨91,aQ t⟩,some ⟨5,l1_3.map (eI .u8)⟩]) (round:= ?_)
 intro m8 x26 l1_3 hr
 refine zz ?_
 refine a1N ?_
 refine zk hr ?_ ?_<;>clear hr<;>intro h16 hr<;>refine zz ?_
 ·refine a1N<|a1L ?_
  replace hr:=aA4 hr
  obtain⟨x28,h_17,x33,h_18,x34,h_20,x37,h_21,hr⟩:=hr
  refine zz ?_
  refine a14 (cA []) (cA [133,162]) mixed<|a1Q (m:=4) [0,1,2,3,5] ?_
  refine zz ?_
  refine zg (aDD h_18) [] ?_
  refine zz ?_
  refine a1Y (m:=2) (L:=lst [0,1,2,3,4,5,6] 9) (s1:=aG 89 [(1,eB bI),(2,.ptr 0 0),(5,.sl 1 0 l1_3.length 1 false),(24,.row none 35 (t.Inputs.map bU)),(25,eI .i64 (t.Inputs.length:Int)),(26,eI .i64 x26),(34,.sl 2 0 x34.length 1 false),(36,eI .u32 x28.Sequence)]) (h1:=[some ⟨91,aQ t⟩,none,some ⟨5,x34.map (eI .u8)⟩]) ?_ (fun J=> ?_)
  ·refine a1Q (m:=0) [7,8]<|xZ (dN h_21) [] [2] ?_
   refine zz ?_
   refine a1U (by decide +kernel) ?_
   exact zE
  refine a1W (n:=3) [4,6] ⟨?_, ?_,trivial⟩
  ·refine zz ?_
   refine a1Q (m:=2) [6]<|zz ?_
   refine a1S J ?_
   exact(zG [0,1,4])
  refine zz ?_
  refine a1Q (m:=2) [4]<|zz ?_
  refine a1S J ?_
  exact(zG [0,1,4])
 exact zE
instance :CtC 120 false (bC @aHt):=⟨@aHt⟩
theorem aAv {N t r} (hr:gP N t=some r):
  Fp 119 [] [aZ t] (eB r) []:=by
 refine bT func119 ntmps119 results119 fun hR=> ?_
 unfold gP at hr
 refine zz ?_
 refine a1N ?_
 refine bW (qK N t) (fun x18=>[(1,.ptr 0 0),(18,eB x18)]) (fun x18=>[some ⟨91,aQ t⟩]) ?_ (body:= ?_)
 rotate_left
 ·clear hr
  intro x18 hr
  unfold qK at hr
  refine zk hr ?_ ?_<;>intro h1 hr<;>refine zz ?_
  ·exact zE
  refine fY (u1 N t) [(1,.ptr 0 0)] [some ⟨91,aQ t⟩] ?_ (body:= ?_)
  rotate_left
  ·clear hr
   intro hr
   unfold u1 at hr
   refine fY (aAN N t) [(1,.ptr 0 0)] [some ⟨91,aQ t⟩] ?_
   obtain⟨res4,hL4,hr⟩:=aL hr
   refine zz ?_
   refine a1L<|gQ hL4 (fun x39=>[(1,.ptr 0 0),(37,.row none 35 (t.Inputs.map bU)),(38,eI .i64 (t.Inputs.length:Int)),(39,eI .i64 x39)]) (fun x39=>[some ⟨91,aQ t⟩]) (round:= ?_)
   intro m4 x39 hr
   rw[jG]at hr
   refine zz ?_
   refine a1N ?_
   refine zk hr ?_ ?_<;>clear hr<;>intro h3 hr<;>refine zz ?_
   ·refine fY (aAA N t x39 (jG N t m4)) [(1,.ptr 0 0),(37,.row none 35 (t.Inputs.map bU)),(38,eI .i64 (t.Inputs.length:Int)),(39,eI .i64 x39)] [some ⟨91,aQ t⟩] ?_
    refine a1L ?_
    replace hr:=aL hr
    obtain⟨x41,h_4,hr⟩:=hr
    refine zz ?_
    refine a1N<|zz ?_
    refine zk hr ?_ ?_<;>clear hr<;>intro h5 hr
    ·exact zE
    replace hr:=aL hr
    obtain⟨res6,hL6,hr⟩:=hr
    refine zz ?_
    exact a1L<|gQ hL6 (fun x50=>[(1,.ptr 0 0),(37,.row none 35 (t.Inputs.map bU)),(38,eI .i64 (t.Inputs.length:Int)),(39,eI .i64 x39),(48,.row none 1 (x41.Witness.map (eL 1 (eI .u8)))),(49,eI .i64 (x41.Witness.length:Int)),(50,eI .i64 x50)]) (fun x50=>[some ⟨91,aQ t⟩])
   exact zE
  obtain⟨res7,hL7,hr⟩:=aL hr
  refine zz ?_
  refine a1L<|gQ hL7 (fun x22=>[(1,.ptr 0 0),(20,.row none 2 (t.Outputs.map b7)),(21,eI .i64 (t.Outputs.length:Int)),(22,eI .i64 x22)]) (fun x22=>[some ⟨91,aQ t⟩]) (round:= ?_)
  intro m7 x22 hr
  rw[iF]at hr
  refine zz ?_
  refine a1N ?_
  refine zk hr ?_ ?_<;>clear hr<;>intro h9 hr<;>refine zz ?_
  ·refine a1N<|a1L ?_
   replace hr:=aL hr
   obtain⟨x24,h_10,hr⟩:=hr
   refine zz ?_
   refine bW (u4 N t x22 (iF N t m7)) (fun x34=>[(1,.ptr 0 0),(20,.row none 2 (t.Outputs.map b7)),(21,eI .i64 (t.Outputs.length:Int)),(22,eI .i64 x22),(34,eB x34)]) (fun x34=>[some ⟨91,aQ t⟩]) ?_
   exact zE
  exact zE
 exact zE
instance :CtC 119 true (bC @aAv):=⟨@aAv⟩
theorem aAk {N t r} (hr:aBa N t=some r):
  Fp 70 [] [aZ t] (.agg (r.map (eI .u8))) []:=
 fV func70 ntmps70 results70
instance :CtC 70 true (bC @aAk):=⟨@aAk⟩
theorem nO {N p l vs r} (hr:rY N p l vs=some r):
  Fp 32 [] [cU p,dD l,eI .u8 vs] (.tup [.sl 0 0 r.1.length 4 true,eI .i64 r.2]) [some ⟨91,r.1.flatMap aQ⟩]:=by
 refine bT func32 ntmps32 results32 fun hR=> ?_
 obtain⟨x23,h_1,hr⟩:=aL hr
 refine zz ?_
 refine sk2 (aBx N) (fun fees l0=>[(8,.sl 0 0 l0.length 4 true),(9,eI .i64 fees)]) (fun fees l0=>[some ⟨91,l0.flatMap aQ⟩]) ?_
 obtain⟨cN,hL2,hr⟩:=aL hr
 refine zz ?_
 refine a1L<|lp4 hL2 (fun dI k l2 l3=>[(2,eI .u8 vs),(3,.ptr 0 0),(4,.ptr 1 0),(8,.sl 2 0 l2.length 4 true),(9,eI .i64 dI),(10,.sl 3 0 l3.length 37 true),(11,eI .u8 k)]) (fun dI k l2 l3=>[some ⟨34,bG p⟩,some ⟨44,bD l⟩,some ⟨91,l2.flatMap aQ⟩,some ⟨80,l3.flatMap aH⟩]) (h0:=(zW 91 [0,1,4,3])) (round:= ?_)
 intro m2 dI k l2 l3 hr
 refine a1N<|zz ?_
 refine zk hr ?_ ?_<;>clear hr<;>intro h2 hr<;>refine zz ?_
 ·refine sk3 (tZ N p l vs k (iO N p l vs m2)) (fun aM1 fA eH=>[(2,eI .u8 vs),(3,.ptr 0 0),(4,.ptr 1 0),(8,.sl 2 0 fA.length 4 true),(9,eI .i64 aM1),(10,.sl 3 0 eH.length 37 true),(11,eI .u8 k)]) (fun aM1 fA eH=>[some ⟨34,bG p⟩,some ⟨44,bD l⟩,some ⟨91,fA.flatMap aQ⟩,some ⟨80,eH.flatMap aH⟩]) ?_
  refine a1L ?_
  replace hr:=aL hr
  obtain⟨res4,hL4,hr⟩:=hr
  refine zz ?_
  refine a1L<|gQ hL4 (fun vi=>[(2,eI .u8 vs),(3,.ptr 0 0),(4,.ptr 1 0),(8,.sl 2 0 l2.length 4 true),(9,eI .i64 dI),(10,.sl 3 0 l3.length 37 true),(11,eI .u8 k),(12,eI .i64 (l3.length:Int)),(13,eI .i64 vi)]) (fun vi=>[some ⟨34,bG p⟩,some ⟨44,bD l⟩,some ⟨91,l2.flatMap aQ⟩,some ⟨80,l3.flatMap aH⟩]) (round:= ?_)
  intro m4 vi hr
  refine a1N<|zz ?_
  refine zk hr ?_ ?_<;>clear hr<;>intro h3 hr<;>refine zz ?_
  ·refine fY (tR N p l vs dI k l2 l3 vi (dE N p l vs dI k l2 l3 m4)) [(2,eI .u8 vs),(3,.ptr 0 0),(4,.ptr 1 0),(8,.sl 2 0 l2.length 4 true),(9,eI .i64 dI),(10,.sl 3 0 l3.length 37 true),(11,eI .u8 k),(12,eI .i64 (l3.length:Int)),(13,eI .i64 vi)] [some ⟨34,bG p⟩,some ⟨44,bD l⟩,some ⟨91,l2.flatMap aQ⟩,some ⟨80,l3.flatMap aH⟩] ?_
   refine a1L ?_
   replace hr:=cE hr
   obtain⟨x46,h_4,x49,h_5,hr⟩:=hr
   refine zz ?_
   refine xw (v:=(aP x49)) (b8 rfl (rV (C:=aH) (K:=37) (fun _=>rfl) rfl h_5 (mU (ds:=(aN (eI .u8) x49.Out.Tx [eI .u32 x49.Out.Index,eI .i64 x49.Output.Value,.row none 1 (x49.Output.Script.map (eI .u8)),eI .i64 x49.Height,eB x49.Coinbase])) rP rfl zl rfl))) ?_
   refine zz ?_
   refine a1N ?_
   refine bW (kG N p l vs dI k l2 l3 vi x46 x49 (dE N p l vs dI k l2 l3 m4)) (fun x63=>[(2,eI .u8 vs),(3,.ptr 0 0),(4,.ptr 1 0),(8,.sl 2 0 l2.length 4 true),(9,eI .i64 dI),(10,.sl 3 0 l3.length 37 true),(11,eI .u8 k),(12,eI .i64 (l3.length:Int)),(13,eI .i64 vi),(14,eI .i64 x46),(15,.ptr 4 0),(63,eB x63)]) (fun x63=>[some ⟨34,bG p⟩,some ⟨44,bD l⟩,some ⟨91,l2.flatMap aQ⟩,some ⟨80,l3.flatMap aH⟩,some ⟨80,aH x49⟩]) ?_ (body:= ?_)
   rotate_left
   ·clear hr
    intro x63 hr
    refine zk hr ?_ ?_<;>clear hr<;>intro h6 hr
    ·exact zE
    replace hr:=aL hr
    obtain⟨x69,h_7,hr⟩:=hr
    refine zz ?_
    refine zc (aEF h_7) [] ?_
    replace hr:=aL hr
    obtain⟨x75,h_8,hr⟩:=hr
    refine zz ?_
    refine a10 (zqf [1,1,1,1,1,0,1,1])<|a10 (zqf [1,1,1,1,1,0,0,1])<|jU aQ 4 [aB.mk x69.1 x69.2.1 x69.2.2.1 x69.2.2.2.1] ?_
    refine zz ?_
    refine bW (kH N p l vs dI k x69 x75 (dE N p l vs dI k l2 l3 m4)) (fun kB=>[(2,eI .u8 vs),(3,.ptr 0 0),(4,.ptr 1 0),(8,.sl 2 0 x75.length 4 true),(9,eI .i64 (a1O.wrap (dI+x69.2.2.2.2))),(10,.sl 3 0 kB.length 37 true),(11,eI .u8 k),(16,.ptr 4 0)]) (fun kB=>[some ⟨34,bG p⟩,some ⟨44,bD l⟩,some ⟨91,x75.flatMap aQ⟩,some ⟨80,kB.flatMap aH⟩,some ⟨91,[eI .u32 x69.1,.row none 35 (x69.2.1.map bU),.row none 2 (x69.2.2.1.map b7),eI .u32 x69.2.2.2.1]⟩]) ?_ (body:= ?_)
    rotate_left
    ·clear hr
     intro kB hr
     replace hr:=cE hr
     obtain⟨x89,h_9,q,h_10,hr⟩:=hr
     refine zz ?_
     refine xp (aAk h_9) ?_
     refine zz ?_
     refine bW (uG N p l vs dI k x69 x75 (dE N p l vs dI k l2 l3 m4)) (fun aQz=>[(2,eI .u8 vs),(3,.ptr 0 0),(4,.ptr 1 0),(8,.sl 2 0 x75.length 4 true),(9,eI .i64 (a1O.wrap (dI+x69.2.2.2.2))),(10,.sl 3 0 aQz.length 37 true),(11,eI .u8 k)]) (fun aQz=>[some ⟨34,bG p⟩,some ⟨44,bD l⟩,some ⟨91,x75.flatMap aQ⟩,some ⟨80,aQz.flatMap aH⟩]) ?_
     replace hr:=aL hr
     obtain⟨res9,hL9,hr⟩:=hr
     refine zz ?_
     refine a1L<|dH hL9 (fun x93 l3_4=>[(2,eI .u8 vs),(3,.ptr 0 0),(4,.ptr 1 0),(8,.sl 2 0 x75.length 4 true),(9,eI .i64 (a1O.wrap (dI+x69.2.2.2.2))),(10,.sl 3 0 l3_4.length 37 true),(11,eI .u8 k),(18,.ptr 4 0),(91,.row none 2 (x69.2.2.1.map b7)),(92,eI .i64 (x69.2.2.1.length:Int)),(93,eI .i64 x93)]) (fun x93 l3_4=>[some ⟨34,bG p⟩,some ⟨44,bD l⟩,some ⟨91,x75.flatMap aQ⟩,some ⟨80,l3_4.flatMap aH⟩,some ⟨26,x89.map (eI .u8)⟩]) (round:= ?_)
     intro m9 x93 l3_4 hr
     refine zz ?_
     refine a1N ?_
     refine zk hr ?_ ?_<;>clear hr<;>intro h11 hr<;>refine zz ?_
     ·refine a1N<|a1L ?_
      replace hr:=cE hr
      obtain⟨x96,h_12,aYi,h_13,hr⟩:=hr
      refine zz ?_
      refine xw (v:=(.agg (aN (eI .u8) x89 [eI .u32 (a1P.wrap x93)]))) (cS rfl (aJF (ps':=[(0,.agg (aN (eI .u8) x89 [])),(1,eI .u32 (a1P.wrap x93))]) (by simp only[dJ (l:=x89) (aU h_10)]<;>rfl) (jC jL aJx (by kernel_rfl)))) ?_
      refine zz ?_
      refine xw (v:=(.agg (aN (eI .u8) x89 [eI .u32 (a1P.wrap x93),eI .i64 x96.Value,.row none 1 (x96.Script.map (eI .u8)),eI .i64 (a1O.wrap (l.Height+1)),eB false]))) (cS rfl (jC rP aRx rfl))<|jU aH 37 [aA.mk (aD.mk x89 (a1P.wrap x93)) x96 (a1O.wrap (l.Height+1)) false] ?_
      exact zE
     exact zE
    rcases a1R (decide (a1O.wrap (x46+1)=(l3.length:Int)))with h14|h14
    ·replace hr:=rQ hr h14
     replace hr:=cE hr
     obtain⟨x82,h_15,x87,h_16,hr⟩:=hr
     refine a1V mixed [] [] [[0,1,2,3,4,5,6,7],[8,9]]<|zz ?_
     refine xw (v:=(.sl 3 0 x82.length 37 true)) (aQl rfl rfl rfl rfl (a1w (l:=l3) rfl aLa rP rfl h_15)) ?_
     refine zz ?_
     refine xw (v:=(.row none 37 ([].map aP))) (yS rfl rfl rfl (a0t (l:=l3) rfl aLa rP rfl rfl (of_decide_eq_true h14) (aXv h_5))) ?_
     refine zz ?_
     refine⟨_,_,Ghost.cutF (t:=82) (C:=aH) (l:=l3) (K:=37) (h':=[some ⟨34,bG p⟩,some ⟨44,bD l⟩,none,some ⟨80,x82.flatMap aH⟩,some ⟨80,aH x49⟩,none,none,some ⟨91,[eI .u32 x69.1,.row none 35 (x69.2.1.map bU),.row none 2 (x69.2.2.1.map b7),eI .u32 x69.2.2.2.1]⟩,some ⟨91,[aB.mk x69.1 x69.2.1 x69.2.2.1 x69.2.2.2.1].flatMap aQ⟩,some ⟨91,x75.flatMap aQ⟩]) (fun _=>rfl) rfl rfl h_15 rfl, ?_⟩
     exact zE
    replace hr:=sP hr h14
    refine a12 (zv 3) ?_
    replace hr:=fK hr
    obtain⟨aWZ,h_17,x86,h_18,aP9,h_19,hr⟩:=hr
    refine a1V mixed [] [] [[0,1,2,3,4,5,6,7,8,9]]<|zz ?_
    refine xw (v:=(.sl 10 0 aP9.length 37 true)) (h':=[some ⟨34,bG p⟩,some ⟨44,bD l⟩,none,none,some ⟨80,aH x49⟩,none,none,some ⟨91,[eI .u32 x69.1,.row none 35 (x69.2.1.map bU),.row none 2 (x69.2.2.1.map b7),eI .u32 x69.2.2.2.1]⟩,some ⟨91,[aB.mk x69.1 x69.2.1 x69.2.2.1 x69.2.2.2.1].flatMap aQ⟩,some ⟨91,x75.flatMap aQ⟩,some ⟨80,aP9.flatMap aH⟩]) (uE rfl rfl (a0m (C:=aH) (K:=37) (fun _=>rfl) aLa rP ⟨rfl,rfl,zl,zl⟩ (aWD (C:=aH)) (aXZ h_18 h14) rfl h_19 rfl rfl)) ?_
    exact zE
   exact zE
  exact zE
 exact zE
instance :CtC 32 false (bC @nO):=⟨@nO⟩
theorem pW {N p height r} (hr:nB N p height=some r):
  Fp 34 [] [cU p,eI .i64 height] (eI .i64 r) []:=by
 refine bT func34 ntmps34 results34 fun hR=> ?_
 unfold nB at hr
 refine zz ?_
 refine a1N ?_
 refine bW (o9 N p height) (fun x13=>[(1,eI .i64 height),(2,.ptr 0 0),(13,eB x13)]) (fun x13=>[some ⟨34,bG p⟩]) ?_ (body:= ?_)
 rotate_left
 ·clear hr
  intro x13 hr
  unfold o9 at hr
  refine zk hr ?_ ?_<;>intro h1 hr<;>refine zz ?_
  ·exact zE
  refine bW (aGi N) (fun vs=>[(5,eI .i64 vs)]) (fun vs=>[]) ?_
  obtain⟨x19,h_2,aBW,hL3,hr⟩:=cE hr
  refine zz ?_
  refine a1L<|dH hL3 (fun sZ vn=>[(5,eI .i64 sZ),(6,eI .i64 vn)]) (fun sZ vn=>[]) (round:= ?_)
  intro m3 sZ vn hr
  rw[jO]at hr
  refine a1N ?_
  refine bW (uK N sZ vn (jO N m3)) (fun x25=>[(5,eI .i64 sZ),(6,eI .i64 vn),(25,eB x25)]) (fun x25=>[]) ?_
  exact zE
 exact zE
instance :CtC 34 true (bC @pW):=⟨@pW⟩
theorem aBA {N r} (hr:aPs N=some r):
  Fp 71 [] [] (cW r) []:=
 fV func71 ntmps71 results71
instance :CtC 71 true (bC @aBA):=⟨@aBA⟩
theorem aA6 {N height value script r} (hr:uZ N height value script=some r):
  Fp 33 [] [eI .i64 height,eI .i64 value,.row none 1 (script.map (eI .u8))] (aZ r) []:=by
 refine bT func33 ntmps33 results33 fun hR=> ?_
 obtain⟨x7,h_1,hr⟩:=aL hr
 refine zz ?_
 refine xp (aBA h_1) ?_
 refine zz ?_
 refine xw (v:=(.agg (aN (eI .u8) x7.Tx [eI .u32 x7.Index,eI .u32 (a1P.wrap height),.row (some true) 1 []]))) (cS rfl (jC aJg aQi rfl))<|jU cP 35 [aT.mk x7 (a1P.wrap height) []] ?_
 refine zz ?_
 refine jU aX 2 [aI.mk value script] ?_
 exact zE
instance :CtC 33 true (bC @aA6):=⟨@aA6⟩
theorem aEx {N t r} (hr:y8 N t=some r):
  Fp 76 [] [aZ t] (.agg (r.map (eI .u8))) []:=
 fV func76 ntmps76 results76
instance :CtC 76 true (bC @aEx):=⟨@aEx⟩
theorem qN {N l r} (hr:nX N l=some r):
  Fp 91 [] [.row none 1 (l.map (eL 1 (eI .u8)))] (.sl 0 0 r.length 1 false) [some ⟨5,r.map (eI .u8)⟩]:=by
 refine bT func91 ntmps91 results91 fun hR=> ?_
 refine zz ?_
 refine bW (aJV N) (fun l0=>[(3,.sl 0 0 l0.length 1 false)]) (fun l0=>[some ⟨5,l0.map (eI .u8)⟩]) ?_
 obtain⟨cN,hL2,hr⟩:=aL hr
 refine zz ?_
 exact a1L<|dH hL2 (fun x8 aO=>[(3,.sl 0 0 aO.length 1 false),(6,.row none 1 (l.map (eL 1 (eI .u8)))),(7,eI .i64 (l.length:Int)),(8,eI .i64 x8)]) (fun x8 aO=>[some ⟨5,aO.map (eI .u8)⟩]) (h0:=(zW 5 [0]))
instance :CtC 91 false (bC @qN):=⟨@qN⟩
theorem aEs {N l vr r} (hr:yR N l vr=some r):
  Fp 171 [] [.agg (l.map (eI .u8)),.agg (vr.map (eI .u8))] (.agg (r.map (eI .u8))) []:=by
 refine bT func171 ntmps171 results171 fun hR=> ?_
 refine zz ?_
 refine a1N ?_
 obtain⟨q,h_1,q_1,h_2,x9,h_3,x10,h_5,q_2,h_7,hr⟩:=aJh hr
 refine a1V mixed [] [91,132] [[0,1,2],[3,4,5,6]]<|zz ?_
 refine⟨_,_,a13 (a13 (zv 3) (zv 0)) (zv 1), ?_⟩
 refine zz ?_
 refine xZ (qN h_3) [] [4] ?_
 refine xZ (jF h_5) [] [5] ?_
 refine zz ?_
 replace hr:=sj hr
 subst hr
 exact zr1 Tryz.results171 fW (zG [])
instance :CtC 171 true (bC @aEs):=⟨@aEs⟩
theorem aBB {N l r} (hr:aBS N l=some r):
  Fp 126 [] [.row none 32 (l.map (eA (eI .u8)))] (.sl 0 0 r.length 1 false) [some ⟨140,r.map (eL 32 (eA (eI .u8)))⟩]:=by
 refine bT func126 ntmps126 results126 fun hR=> ?_
 refine zz ?_
 refine bW (aCi N) (fun l0=>[(3,.sl 0 0 l0.length 1 false)]) (fun l0=>[some ⟨140,l0.map (eL 32 (eA (eI .u8)))⟩]) ?_
 obtain⟨cN,hL2,hr⟩:=aL hr
 refine a1L<|dH hL2 (fun l_1 aO=>[(0,.row none 32 (l_1.map (eA (eI .u8)))),(3,.sl 0 0 aO.length 1 false)]) (fun l_1 aO=>[some ⟨140,aO.map (eL 32 (eA (eI .u8)))⟩]) (round:= ?_)
 intro m2 l_1 aO hr
 refine a1N<|zz ?_
 refine zk hr ?_ ?_<;>clear hr<;>intro h1 hr<;>refine zz ?_
 ·refine a1L ?_
  refine zz ?_
  refine bW (vU N aO (iT N m2)) (fun l1=>[(3,.sl 0 0 aO.length 1 false),(4,.sl 1 0 l1.length 32 true)]) (fun l1=>[some ⟨140,aO.map (eL 32 (eA (eI .u8)))⟩,some ⟨26,l1.flatMap (dQ (eI .u8))⟩]) ?_ (body:= ?_)
  rotate_left
  ·clear hr
   intro l1 hr
   replace hr:=cE hr
   obtain⟨q,h_2,x45,h_3,hr⟩:=hr
   refine zz ?_
   refine a10 (zqf [1,0]) ?_
   exact zE
  replace hr:=aL hr
  obtain⟨res4,hL4,hr⟩:=hr
  refine zz ?_
  refine a1L<|dH hL4 (fun vi bL=>[(0,.row none 32 (l_1.map (eA (eI .u8)))),(3,.sl 0 0 aO.length 1 false),(4,.sl 1 0 bL.length 32 true),(5,eI .i64 vi)]) (fun vi bL=>[some ⟨140,aO.map (eL 32 (eA (eI .u8)))⟩,some ⟨26,bL.flatMap (dQ (eI .u8))⟩]) (h0:=(zW 26 [0,1])) (round:= ?_)
  intro m4 vi bL hr
  refine a1N<|zz ?_
  refine zk hr ?_ ?_<;>clear hr<;>intro h4 hr<;>refine zz ?_
  ·refine bW (kN N l_1 aO vi (dS N l_1 aO m4)) (fun cL=>[(0,.row none 32 (l_1.map (eA (eI .u8)))),(3,.sl 0 0 aO.length 1 false),(4,.sl 1 0 cL.length 32 true),(5,eI .i64 vi)]) (fun cL=>[some ⟨140,aO.map (eL 32 (eA (eI .u8)))⟩,some ⟨26,cL.flatMap (dQ (eI .u8))⟩]) ?_
   refine a1L ?_
   refine zz ?_
   refine zk hr ?_ ?_<;>clear hr<;>intro h5 hr
   ·replace hr:=aOv hr
    obtain⟨x25,h_6,q_1,h_7,x30,h_8,q_2,h_9,x32,h_10,q_3,h_12,hr⟩:=hr
    replace hr:=aL hr
    obtain⟨x34,h_13,hr⟩:=hr
    refine a1V mixed [171] [] [[0,1,2,3,4,5,6,7,8,9,10,11,12,13]]<|zz ?_
    refine xw (v:=(.agg (x25.map (eI .u8)))) (b8 rfl (aJr (E:=(eI .u8)) gZ rfl h_6 (aU h_7))) ?_
    refine zz ?_
    refine xw (v:=(.agg (x30.map (eI .u8)))) (b8 rfl (aJr (E:=(eI .u8)) gZ rfl h_8 (aU h_9)))<|xu (aEs h_10)<|xw (v:=(.sl 2 0 1 32 true)) (h':=[some ⟨140,aO.map (eL 32 (eA (eI .u8)))⟩,some ⟨26,bL.flatMap (dQ (eI .u8))⟩,some ⟨26,[x32].flatMap (dQ (eI .u8))⟩]) (oV rfl (aJL (ps':=[(0,.agg (dQ (eI .u8) x32))]) (by simp only[aA3,dQ,dJ (l:=x32) (aU h_12)]) (aHp (len:=1) (C:=(dQ (eI .u8))) (xs:=[x32]) (K:=32) (fun _=>rfl) (fun _=>rfl) aFd gZ ⟨zl,zl,zl⟩ rfl rfl rfl rfl rfl rfl))) ?_
    exact zE
   replace hr:=fK hr
   obtain⟨x38,h_14,q_4,h_15,x41,h_16,hr⟩:=hr
   refine zz ?_
   refine xw (v:=(.agg (x38.map (eI .u8)))) (b8 rfl (aJr (E:=(eI .u8)) gZ rfl h_14 (aU h_15)))<|xw (v:=(.sl 2 0 1 32 true)) (h':=[some ⟨140,aO.map (eL 32 (eA (eI .u8)))⟩,some ⟨26,bL.flatMap (dQ (eI .u8))⟩,some ⟨26,[x38].flatMap (dQ (eI .u8))⟩]) (oV rfl (aJL (ps':=[(0,.agg (dQ (eI .u8) x38))]) (by simp only[aA3,dQ,dJ (l:=x38) (aU h_15)]) (aHp (len:=1) (C:=(dQ (eI .u8))) (xs:=[x38]) (K:=32) (fun _=>rfl) (fun _=>rfl) aFd gZ ⟨zl,zl,zl⟩ rfl rfl rfl rfl rfl rfl))) ?_
   exact zE
  exact zE
 exact zE
instance :CtC 126 false (bC @aBB):=⟨@aBB⟩
theorem aEy {N l r} (hr:uP N l=some r):
  Fp 77 [] [.row none 32 (l.map (eA (eI .u8)))] (.agg (r.map (eI .u8))) []:=by
 refine bT func77 ntmps77 results77 fun hR=> ?_
 unfold uP at hr
 refine zz ?_
 refine a1N ?_
 refine bW (nA N l) (fun x11=>[(0,.row none 32 (l.map (eA (eI .u8)))),(2,.ptr 0 0),(11,eB x11)]) (fun x11=>[some ⟨26,(a1K 32 0).map (eI .u8)⟩]) ?_ (body:= ?_)
 rotate_left
 ·clear hr
  intro x11 hr
  unfold nA at hr
  refine zk hr ?_ ?_<;>intro h1 hr
  ·exact zE
  obtain⟨x14,h_2,hr⟩:=aL hr
  refine zz ?_
  refine zc (aBB h_2) [] ?_
  obtain⟨x19,h_3,x21,h_4,q,h_5,hr⟩:=fK hr
  refine zz ?_
  refine xw (v:=(.agg (x21.map (eI .u8)))) (b8 rfl (aJr (E:=(eI .u8)) gZ rfl h_4 (aU h_5))) ?_
  exact zE
 exact zE
instance :CtC 77 true (bC @aEy):=⟨@aEy⟩
theorem uW {N l r} (hr:qQ N l=some r):
  Fp 36 [] [.row none 4 (l.map aZ)] (.agg (r.map (eI .u8))) []:=by
 refine bT func36 ntmps36 results36 fun hR=> ?_
 refine zz ?_
 refine bW (aAM N) (fun l1=>[(2,.ptr 0 0),(3,.sl 1 0 l1.length 32 true)]) (fun l1=>[some ⟨26,(a1K 32 0).map (eI .u8)⟩,some ⟨26,l1.flatMap (dQ (eI .u8))⟩]) ?_ (body:= ?_)
 rotate_left
 ·clear hr
  intro l1 hr
  obtain⟨q,h_1,x19,h_2,q_1,h_3,hr⟩:=fK hr
  refine zz ?_
  refine a10 (zqf [1,0])<|xp (aEy h_2) ?_
  exact zE
 obtain⟨cN,hL2,hr⟩:=aL hr
 refine zz ?_
 refine a1L<|dH hL2 (fun x8 bL=>[(2,.ptr 0 0),(3,.sl 1 0 bL.length 32 true),(6,.row none 4 (l.map aZ)),(7,eI .i64 (l.length:Int)),(8,eI .i64 x8)]) (fun x8 bL=>[some ⟨26,(a1K 32 0).map (eI .u8)⟩,some ⟨26,bL.flatMap (dQ (eI .u8))⟩]) (h0:=(zW 26 [0,1])) (round:= ?_)
 intro m2 x8 bL hr
 refine zz ?_
 refine a1N ?_
 refine zk hr ?_ ?_<;>clear hr<;>intro h4 hr<;>refine zz ?_
 ·refine a1N<|a1L ?_
  replace hr:=aA4 hr
  obtain⟨x10,h_5,x14,h_6,q_2,h_7,x16,h_8,hr⟩:=hr
  refine zz ?_
  refine xp (aEx h_6)<|xw (v:=(.sl 3 0 1 32 true)) (h':=[some ⟨26,(a1K 32 0).map (eI .u8)⟩,some ⟨26,bL.flatMap (dQ (eI .u8))⟩,some ⟨91,aQ x10⟩,some ⟨26,[x14].flatMap (dQ (eI .u8))⟩]) (oV rfl (aJL (ps':=[(0,.agg (dQ (eI .u8) x14))]) (by simp only[aA3,dQ,dJ (l:=x14) (aU h_7)]) (aHp (len:=1) (C:=(dQ (eI .u8))) (xs:=[x14]) (K:=32) (fun _=>rfl) (fun _=>rfl) aFd gZ ⟨zl,zl,zl⟩ rfl rfl rfl rfl rfl rfl))) ?_
  exact zE
 exact zE
instance :CtC 36 true (bC @uW):=⟨@uW⟩
theorem wQ {N vs r} (hr:aFM N vs=some r):
  Fp 37 [] [eI .u8 vs] (eI .u32 r) []:=
 fV func37 ntmps37 results37
instance :CtC 37 true (bC @wQ):=⟨@wQ⟩
theorem aGH {N va b r} (hr:aHx N va b=some r):
  Fp 168 [] [.agg (va.map (eI .u64)),.agg (b.map (eI .u64))] (.tup [.agg (r.1.map (eI .u64)),.agg (r.2.map (eI .u64))]) []:=by
 refine bT func168 ntmps168 results168 fun hR=> ?_
 refine zz ?_
 refine bW (aKx N) (fun l2=>[(4,.ptr 0 0),(5,.ptr 1 0),(6,.ptr 2 0)]) (fun l2=>[some ⟨31,(a1K 4 0).map (eI .u64)⟩,some ⟨31,(a1K 4 0).map (eI .u64)⟩,some ⟨245,l2.map (eI .u64)⟩]) ?_ (body:= ?_)
 rotate_left
 ·clear hr
  intro l2 hr
  refine a1N ?_
  obtain⟨q,h_1,x64,h_2,hr⟩:=cE hr
  refine a1V mixed [] [] [[0,1,2]]<|zz ?_
  refine xw (v:=(.sl 2 (a1Z 0*1) x64.length 1 false)) (yS rfl rfl rfl (aZB (E:=(eI .u64)) (l:=l2) aP1 aGz rfl rfl rfl (aU h_1) zl rfl rfl h_2)) ?_
  refine xw (v:=(eI .i64 ((min x64.length (a1K 4 0).length:Nat):Int))) (h':=[some ⟨31,(a1K 4 0).map (eI .u64)⟩,some ⟨31,(cpy (a1K 4 0) x64).map (eI .u64)⟩,some ⟨245,l2.map (eI .u64)⟩]) (aQ9 rfl rfl (aVL (E:=(eI .u64)) (l:=a1K 4 0) rfl aP7 aGz rfl rfl (aYW (l:=l2) rfl (fun _=>rfl) h_2) rfl)) ?_
  refine zz ?_
  refine a1N ?_
  obtain⟨x67,h_3,hr⟩:=aL hr
  refine a1V mixed [] [] [[0,1,2]]<|zz ?_
  refine xw (v:=(.sl 2 (a1Z 4*1) x67.length 1 false)) (yS rfl rfl rfl (aZB (E:=(eI .u64)) (l:=l2) aP1 aGz rfl rfl rfl (aU h_1) zl rfl rfl h_3)) ?_
  refine xw (v:=(eI .i64 ((min x67.length (a1K 4 0).length:Nat):Int))) (h':=[some ⟨31,(cpy (a1K 4 0) x67).map (eI .u64)⟩,some ⟨31,(cpy (a1K 4 0) x64).map (eI .u64)⟩,some ⟨245,l2.map (eI .u64)⟩]) (aQ9 rfl rfl (aVL (E:=(eI .u64)) (l:=a1K 4 0) rfl aP7 aGz rfl rfl (aYW (l:=l2) rfl (fun _=>rfl) h_3) rfl)) ?_
  exact zE
 obtain⟨cN,hL2,hr⟩:=aL hr
 refine zz ?_
 refine a1L<|dH hL2 (fun x15 l4=>[(2,.ptr 0 0),(3,.ptr 1 0),(4,.ptr 2 0),(5,.ptr 3 0),(6,.ptr 4 0),(15,eI .i64 x15)]) (fun x15 l4=>[some ⟨31,va.map (eI .u64)⟩,some ⟨31,b.map (eI .u64)⟩,some ⟨31,(a1K 4 0).map (eI .u64)⟩,some ⟨31,(a1K 4 0).map (eI .u64)⟩,some ⟨245,l4.map (eI .u64)⟩]) (round:= ?_)
 intro m2 x15 l4 hr
 refine zz ?_
 refine a1N ?_
 refine zk hr ?_ ?_<;>clear hr<;>intro h6 hr<;>refine zz ?_
 ·refine bW (aF5 N va b x15 (oO N va b m2)) (fun dR=>[(2,.ptr 0 0),(3,.ptr 1 0),(4,.ptr 2 0),(5,.ptr 3 0),(6,.ptr 4 0),(15,eI .i64 x15)]) (fun dR=>[some ⟨31,va.map (eI .u64)⟩,some ⟨31,b.map (eI .u64)⟩,some ⟨31,(a1K 4 0).map (eI .u64)⟩,some ⟨31,(a1K 4 0).map (eI .u64)⟩,some ⟨245,dR.map (eI .u64)⟩]) ?_
  refine a1L ?_
  refine zz ?_
  refine sk2 (aFN N va b x15 (oO N va b m2)) (fun aFh rO=>[(2,.ptr 0 0),(3,.ptr 1 0),(4,.ptr 2 0),(5,.ptr 3 0),(6,.ptr 4 0),(7,eI .i64 x15),(8,eI .u64 aFh),(15,eI .i64 x15)]) (fun aFh rO=>[some ⟨31,va.map (eI .u64)⟩,some ⟨31,b.map (eI .u64)⟩,some ⟨31,(a1K 4 0).map (eI .u64)⟩,some ⟨31,(a1K 4 0).map (eI .u64)⟩,some ⟨245,rO.map (eI .u64)⟩]) ?_
  replace hr:=aL hr
  obtain⟨res5,hL5,hr⟩:=hr
  refine zz ?_
  refine a1L<|lp3 hL5 (fun carry_1 x18 l4_3=>[(2,.ptr 0 0),(3,.ptr 1 0),(4,.ptr 2 0),(5,.ptr 3 0),(6,.ptr 4 0),(7,eI .i64 x15),(8,eI .u64 carry_1),(15,eI .i64 x15),(18,eI .i64 x18)]) (fun carry_1 x18 l4_3=>[some ⟨31,va.map (eI .u64)⟩,some ⟨31,b.map (eI .u64)⟩,some ⟨31,(a1K 4 0).map (eI .u64)⟩,some ⟨31,(a1K 4 0).map (eI .u64)⟩,some ⟨245,l4_3.map (eI .u64)⟩]) (round:= ?_)
  intro m5 carry_1 x18 l4_3 hr
  refine zz ?_
  refine a1N ?_
  refine zk hr ?_ ?_<;>clear hr<;>intro h8 hr<;>refine zz ?_
  ·refine a1N<|a1L ?_
   refine zz ?_
   refine a1N ?_
   replace hr:=fK hr
   obtain⟨x23,h_9,x26,h_10,x28,h_11,hr⟩:=hr
   refine a1V mixed [207] [] [[0,1,2,3,4,5,6,7,8,9,10,11]]<|zz ?_
   refine xu (wY h_11) ?_
   replace hr:=cE hr
   obtain⟨x35,h_13,x38,h_14,hr⟩:=hr
   refine zz ?_
   refine xp (qY h_14) ?_
   replace hr:=aL hr
   obtain⟨x44,h_15,hr⟩:=hr
   refine zz ?_
   refine xp (qY h_15) ?_
   refine zz ?_
   exact⟨_,_,_,hr,zG [0,1,2,3,4]⟩
  exact zE
 exact zE
instance :CtC 168 true (bC @aGH):=⟨@aGH⟩
theorem aGf {N va b r} (hr:aHb N va b=some r):
  Fp 209 [] [.agg (va.map (eI .u64)),.agg (b.map (eI .u64))] (.tup [.agg (r.1.map (eI .u64)),eB r.2]) []:=by
 refine bT func209 ntmps209 results209 fun hR=> ?_
 refine zz ?_
 refine sk2 (aGB N) (fun borrow l1=>[(4,.ptr 0 0),(6,.ptr 1 0),(7,eI .u64 borrow)]) (fun borrow l1=>[some ⟨31,(a1K 4 0).map (eI .u64)⟩,some ⟨31,l1.map (eI .u64)⟩]) ?_
 obtain⟨cN,hL2,hr⟩:=aL hr
 refine zz ?_
 exact a1L<|lp3 hL2 (fun borrow_1 x9 l3=>[(2,.ptr 0 0),(3,.ptr 1 0),(4,.ptr 2 0),(6,.ptr 3 0),(7,eI .u64 borrow_1),(9,eI .i64 x9)]) (fun borrow_1 x9 l3=>[some ⟨31,va.map (eI .u64)⟩,some ⟨31,b.map (eI .u64)⟩,some ⟨31,(a1K 4 0).map (eI .u64)⟩,some ⟨31,l3.map (eI .u64)⟩])
instance :CtC 209 true (bC @aGf):=⟨@aGf⟩
theorem aF9 {N hi lo b r} (hr:aHi N hi lo b=some r):
  Fp 169 [] [.agg (hi.map (eI .u64)),.agg (lo.map (eI .u64)),.agg (b.map (eI .u64))] (.tup [.agg (r.1.map (eI .u64)),.agg (r.2.1.map (eI .u64)),eB r.2.2]) []:=by
 refine bT func169 ntmps169 results169 fun hR=> ?_
 refine zz ?_
 obtain⟨q,h_1,q_1,h_2,x13,h_3,hr⟩:=fK hr
 refine a1N<|zz ?_
 refine xp (aBw h_3) ?_
 refine zz ?_
 refine zk hr ?_ ?_<;>intro h4 hr
 ·refine a1N<|a14 (cA []) (cA []) mixed<|a1Q (m:=4) [0] ?_
  refine zz ?_
  refine a1Y (m:=2) (L:=lst [0,1,2] 5) (s1:=aG 61 [(6,.ptr 0 0),(7,.ptr 1 0),(8,eB false),(16,.agg ((a1K 4 0).map (eI .u64)))]) (h1:=[some ⟨31,(a1K 4 0).map (eI .u64)⟩,some ⟨31,(a1K 4 0).map (eI .u64)⟩]) ?_ (fun J=> ?_)
  ·refine a1Q (m:=0) [3,4]<|zz ?_
   refine a1U (by decide +kernel) ?_
   refine zz ?_
   replace hr:=sj hr
   subst hr
   exact zr3 Tryz.results169 fW fW fW (zg' [])
  refine a1W (n:=3) [1,2] ⟨?_, ?_,trivial⟩
  ·refine zz ?_
   refine a1Q (m:=2) [2]<|zz ?_
   refine a1S J ?_
   exact(zG [3,4])
  refine zz ?_
  refine a1Q (m:=2) [1]<|zz ?_
  refine a1S J ?_
  exact(zG [3,4])
 refine zz ?_
 refine sk2 (aFO N) (fun l0 l1=>[(6,.ptr 0 0),(7,.ptr 1 0)]) (fun l0 l1=>[some ⟨31,l0.map (eI .u64)⟩,some ⟨31,l1.map (eI .u64)⟩]) ?_ (body:= ?_)
 rotate_left
 ·clear hr
  intro l0 l1 hr
  refine a1N ?_
  obtain⟨q_2,h_5,q_3,h_6,hr⟩:=cE hr
  refine a14 (cA []) (cA []) mixed<|a1Q (m:=4) [0] ?_
  refine zz ?_
  refine a1Y (m:=2) (L:=lst [0,1,2] 5) (s1:=aG 61 [(6,.ptr 0 0),(7,.ptr 1 0),(60,.agg (l1.map (eI .u64)))]) (h1:=[some ⟨31,l0.map (eI .u64)⟩,some ⟨31,l1.map (eI .u64)⟩]) ?_ (fun J=> ?_)
  ·refine a1Q (m:=0) [3,4]<|zz ?_
   refine a1U (by decide +kernel) ?_
   refine zz ?_
   replace hr:=sj hr
   subst hr
   exact zr3 Tryz.results169 fW fW fW (zg' [])
  refine a1W (n:=3) [1,2] ⟨?_, ?_,trivial⟩
  ·refine zz ?_
   refine a1Q (m:=2) [2]<|zz ?_
   refine a1S J ?_
   exact(zG [0,1])
  refine zz ?_
  refine a1Q (m:=2) [1]<|zz ?_
  refine a1S J ?_
  exact(zG [0,1])
 obtain⟨cN,hL2,hr⟩:=aL hr
 refine zz ?_
 refine a1L<|lp3 hL2 (fun vi l2 l3=>[(4,.ptr 0 0),(5,.ptr 1 0),(6,.ptr 2 0),(7,.ptr 3 0),(9,eI .i64 vi)]) (fun vi l2 l3=>[some ⟨31,lo.map (eI .u64)⟩,some ⟨31,b.map (eI .u64)⟩,some ⟨31,l2.map (eI .u64)⟩,some ⟨31,l3.map (eI .u64)⟩]) (round:= ?_)
 intro m2 vi l2 l3 hr
 refine a1N<|zz ?_
 refine zk hr ?_ ?_<;>clear hr<;>intro h7 hr<;>refine zz ?_
 ·refine sk2 (aCz N lo b vi (g7 N lo b m2)) (fun fA eH=>[(4,.ptr 0 0),(5,.ptr 1 0),(6,.ptr 2 0),(7,.ptr 3 0),(9,eI .i64 vi)]) (fun fA eH=>[some ⟨31,lo.map (eI .u64)⟩,some ⟨31,b.map (eI .u64)⟩,some ⟨31,fA.map (eI .u64)⟩,some ⟨31,eH.map (eI .u64)⟩]) ?_ (body:= ?_)
  rotate_left
  ·clear hr
   intro fA eH hr
   refine zz ?_
   exact⟨_,_,_,hr,zG [0,1,2,3]⟩
  refine a1L ?_
  replace hr:=cE hr
  obtain⟨q_4,h_8,x23,h_9,hr⟩:=hr
  refine zz ?_
  refine xp (aCE h_9) ?_
  replace hr:=cE hr
  obtain⟨x27,h_10,q_5,h_11,hr⟩:=hr
  refine zz ?_
  refine xp (aF7 h_10) ?_
  refine zz ?_
  refine bW (xH N lo b vi l2 x23 (g7 N lo b m2)) (fun kB=>[(4,.ptr 0 0),(5,.ptr 1 0),(6,.ptr 2 0),(7,.ptr 3 0),(9,eI .i64 vi),(10,eB x23)]) (fun kB=>[some ⟨31,lo.map (eI .u64)⟩,some ⟨31,b.map (eI .u64)⟩,some ⟨31,l2.map (eI .u64)⟩,some ⟨31,kB.map (eI .u64)⟩]) ?_ (body:= ?_)
  rotate_left
  ·clear hr
   intro kB hr
   refine bW (xQ N lo b vi l2 kB (g7 N lo b m2)) (fun x43=>[(4,.ptr 0 0),(5,.ptr 1 0),(6,.ptr 2 0),(7,.ptr 3 0),(9,eI .i64 vi),(43,eB x43)]) (fun x43=>[some ⟨31,lo.map (eI .u64)⟩,some ⟨31,b.map (eI .u64)⟩,some ⟨31,l2.map (eI .u64)⟩,some ⟨31,kB.map (eI .u64)⟩]) ?_ (body:= ?_)
   rotate_left
   ·clear hr
    intro x43 hr
    refine zk hr ?_ ?_<;>clear hr<;>intro h12 hr
    ·replace hr:=fK hr
     obtain⟨q_6,h_13,x47,h_14,q_7,h_15,hr⟩:=hr
     refine zz ?_
     refine xp (aGf h_14) ?_
     replace hr:=cE hr
     obtain⟨x52,h_16,x56,h_17,hr⟩:=hr
     refine zz ?_
     refine a1V mixed [] [] [[0,1,2,3,4,5,6,7,8,9]]<|zz ?_
     exact⟨_,_,hr,zG [0,1,2,3]⟩
    refine zz ?_
    exact⟨_,_,hr,zG [0,1,2,3]⟩
   rcases a1R x23 with h18|h18
   ·replace hr:=rQ hr h18
    refine xr<|zz ?_
    exact⟨_,hr,zG [0,1,2,3]⟩
   replace hr:=sP hr h18
   replace hr:=cE hr
   obtain⟨q_8,h_19,x41,h_20,hr⟩:=hr
   refine xr<|zz ?_
   refine xCg (v:=(eI .i64 x41)) (h':=[some ⟨31,lo.map (eI .u64)⟩,some ⟨31,b.map (eI .u64)⟩,some ⟨31,l2.map (eI .u64)⟩,some ⟨31,kB.map (eI .u64)⟩]) rfl rfl h18 rfl (Vm.Fn.pure (aBw h_20) zR rfl) ?_
   refine zz ?_
   exact⟨_,hr,zG [0,1,2,3]⟩
  replace hr:=cE hr
  obtain⟨q_9,h_21,x32,h_22,hr⟩:=hr
  refine zz ?_
  refine xp (aCE h_22) ?_
  refine zz ?_
  refine zk hr ?_ ?_<;>clear hr<;>intro h23 hr
  ·replace hr:=aL hr
   obtain⟨x33,h_24,hr⟩:=hr
   refine zz ?_
   exact⟨_,hr,zG [0,1,2,3]⟩
  exact zE
 exact zE
instance :CtC 169 true (bC @aF9):=⟨@aF9⟩
theorem aFY {N t r} (hr:aAB N t=some r):
  Fp 170 [] [.agg (t.map (eI .u64))] (eI .u32 r) []:=by
 refine bT func170 ntmps170 results170 fun hR=> ?_
 refine zz ?_
 obtain⟨q,h_1,x6,h_2,hr⟩:=cE hr
 refine a1N<|zz ?_
 refine xp (uR h_2) ?_
 refine zz ?_
 refine zk hr ?_ ?_<;>intro h3 hr
 ·exact zE
 obtain⟨aQg,hL1,hr⟩:=aL hr
 refine zz ?_
 refine a1L<|gQ hL1 (fun x=>[(1,.ptr 0 0),(3,eI .i64 x)]) (fun x=>[some ⟨31,t.map (eI .u64)⟩]) (round:= ?_)
 intro m1 x hr
 refine fY (pQ N t x (eD N t m1)) [(1,.ptr 0 0),(3,eI .i64 x)] [some ⟨31,t.map (eI .u64)⟩] ?_
 refine a1L ?_
 refine zz ?_
 refine bW (o7 N t x (eD N t m1)) (fun l1=>[(1,.ptr 0 0),(3,eI .i64 x),(4,.ptr 1 0)]) (fun l1=>[some ⟨31,t.map (eI .u64)⟩,some ⟨31,l1.map (eI .u64)⟩]) ?_
 exact zE
instance :CtC 170 true (bC @aFY):=⟨@aFY⟩
theorem aHg {N p kS first last r} (hr:aBy N p kS first last=some r):
  Fp 124 [] [cU p,eI .u32 kS,eI .u32 first,eI .u32 last] (.tup [eI .u32 r.1,eI .i64 r.2]) []:=by
 refine bT func124 ntmps124 results124 fun hR=> ?_
 refine zz ?_
 obtain⟨x20,h_1,hr⟩:=aL hr
 refine a1N<|zz ?_
 refine xp (lF h_1) ?_
 refine zz ?_
 refine zk hr ?_ ?_<;>intro h2 hr
 ·exact zE
 obtain⟨x24,h_3,q,h_4,hr⟩:=cE hr
 refine zz ?_
 refine xp (wJ h_3) ?_
 refine zz ?_
 refine a1N<|zz ?_
 refine zk hr ?_ ?_<;>intro h5 hr<;>refine zz ?_
 ·exact zE
 refine bW (qR N p x24) (fun vK=>[(4,.ptr 0 0),(10,.ptr 1 0),(12,eI .u64 (a1M.wrap ((a1M.wrap p.Window)*(a1M.wrap p.Spacing)))),(13,eI .u64 vK)]) (fun vK=>[some ⟨34,bG p⟩,some ⟨31,x24.1.map (eI .u64)⟩]) ?_ (body:= ?_)
 rotate_left
 ·clear hr
  intro vK hr
  refine zz ?_
  refine xw (v:=(eI .u64 (if(a1M.wrap (a11 (a1M.wrap ((a1M.wrap p.Window)*(a1M.wrap p.Spacing))) 4))>vK then(a1M.wrap (a11 (a1M.wrap ((a1M.wrap p.Window)*(a1M.wrap p.Spacing))) 4))else vK))) (a0B rfl a0i) ?_
  refine zz ?_
  refine xw (v:=(eI .u64 (if(a1M.wrap (4*(a1M.wrap ((a1M.wrap p.Window)*(a1M.wrap p.Spacing)))))<(if(a1M.wrap (a11 (a1M.wrap ((a1M.wrap p.Window)*(a1M.wrap p.Spacing))) 4))>vK then(a1M.wrap (a11 (a1M.wrap ((a1M.wrap p.Window)*(a1M.wrap p.Spacing))) 4))else vK)then(a1M.wrap (4*(a1M.wrap ((a1M.wrap p.Window)*(a1M.wrap p.Spacing)))))else(if(a1M.wrap (a11 (a1M.wrap ((a1M.wrap p.Window)*(a1M.wrap p.Spacing))) 4))>vK then(a1M.wrap (a11 (a1M.wrap ((a1M.wrap p.Window)*(a1M.wrap p.Spacing))) 4))else vK)))) (aP2 rfl aPT) ?_
  refine zz ?_
  refine a1N ?_
  obtain⟨x54,h_6,x55,h_8,q_1,h_10,q_2,h_11,hr⟩:=aA4 hr
  refine a14 (cA [165,168]) (cA []) mixed<|a1Q (m:=4) [0,1,2,3,4,5,6] ?_
  refine zz ?_
  refine xu (kU h_6)<|xu (aGH h_8) ?_
  refine zz ?_
  refine a1Y (m:=1) (L:=lst [0,1,2,3,4,5,6,7,8,9] 11) (s1:=aG 83 [(4,.ptr 0 0),(12,eI .u64 (a1M.wrap ((a1M.wrap p.Window)*(a1M.wrap p.Spacing)))),(14,.ptr 1 0),(15,.ptr 2 0),(57,.agg (x55.2.map (eI .u64)))]) (h1:=[some ⟨34,bG p⟩,some ⟨31,x55.1.map (eI .u64)⟩,some ⟨31,(a1K 4 0).map (eI .u64)⟩]) ?_ (fun J=> ?_)
  ·refine a1Q (m:=0) [10]<|zz ?_
   refine a1U (by decide +kernel) ?_
   refine zz ?_
   refine a1N ?_
   obtain⟨x62,h_12,x63,h_14,q_3,h_16,q_4,h_17,hr⟩:=aA4 hr
   refine a14 (cA [165,169]) (cA []) mixed<|a1Q (m:=5) [0,1,2,3,4,5,6,7,8] ?_
   refine zz ?_
   refine xu (kU h_12)<|xu (aF9 h_14) ?_
   refine zz ?_
   refine a1Y (m:=1) (L:=lst [0,1,2,3,4,5,6,7,8,9,10,11,12] 14) (s1:=aG 83 [(4,.ptr 0 0),(16,.ptr 1 0),(66,eB x63.2.2)]) (h1:=[some ⟨34,bG p⟩,some ⟨31,x63.1.map (eI .u64)⟩]) ?_ (fun J=> ?_)
   ·refine a1Q (m:=0) [13]<|zz ?_
    refine a1U (by decide +kernel) ?_
    refine zz ?_
    refine bW (qO N) (fun l0=>[(16,.ptr 0 0)]) (fun l0=>[some ⟨31,l0.map (eI .u64)⟩]) ?_ (body:= ?_)
    rotate_left
    ·clear hr
     intro l0 hr
     refine bW (qX N) (fun aO=>[(16,.ptr 0 0)]) (fun aO=>[some ⟨31,aO.map (eI .u64)⟩]) ?_
     obtain⟨q_6,h_20,x79,h_21,hr⟩:=cE hr
     refine zz ?_
     refine xp (uR h_21) ?_
     refine zz ?_
     refine zk hr ?_ ?_<;>intro h22 hr
     ·obtain⟨x80,h_23,q_7,h_24,hr⟩:=cE hr
      refine zz ?_
      refine xp (kU h_23) ?_
      refine zz ?_
      exact⟨_,hr,zG [0]⟩
     exact zE
    refine bW (qS N p x63) (fun x75=>[(4,.ptr 0 0),(16,.ptr 1 0),(75,eB x75)]) (fun x75=>[some ⟨34,bG p⟩,some ⟨31,x63.1.map (eI .u64)⟩]) ?_
    exact zE
   refine a1W (n:=4) [9,10] ⟨?_, ?_,trivial⟩
   ·refine zz ?_
    refine a1Q (m:=1) [10,11,12]<|zz ?_
    refine a1S J ?_
    exact(zG [0,3])
   refine zz ?_
   refine a1Q (m:=1) [9,11,12]<|zz ?_
   refine a1S J ?_
   exact(zG [0,4])
  refine a1W (n:=3) [7,8] ⟨?_, ?_,trivial⟩
  ·refine zz ?_
   refine a1Q (m:=1) [8,9]<|zz ?_
   refine a1S J ?_
   exact(zG [0,2,3])
  refine zz ?_
  refine a1Q (m:=1) [7,9]<|zz ?_
  refine a1S J ?_
  exact(zG [0,3,2])
 exact zE
instance :CtC 124 true (bC @aHg):=⟨@aHg⟩
theorem aAG {N p c r} (hr:y0 N p c=some r):
  Fp 73 [] [cU p,fH c] (.tup [eI .u32 r.1,eI .i64 r.2]) []:=by
 refine bT func73 ntmps73 results73 fun hR=> ?_
 unfold y0 at hr
 refine zz ?_
 refine a1N ?_
 refine bW (k6 N p c) (fun x30=>[(2,.ptr 0 0),(3,.ptr 1 0),(30,eB x30)]) (fun x30=>[some ⟨34,bG p⟩,some ⟨51,cF c⟩]) ?_
 exact zE
instance :CtC 73 true (bC @aAG):=⟨@aAG⟩
theorem vW {N l r} (hr:s0 N l=some r):
  Fp 74 [] [.row none 1 (l.map (eI .u32))] (eI .u32 r) []:=by
 refine bT func74 ntmps74 results74 fun hR=> ?_
 unfold s0 at hr
 refine zz ?_
 refine bW (aBP N) (fun l0=>[(3,.sl 0 0 l0.length 1 false)]) (fun l0=>[some ⟨24,l0.map (eI .u32)⟩]) ?_
 obtain⟨cN,hL2,hr⟩:=aL hr
 refine zz ?_
 refine a1L<|dH hL2 (fun x9 aO=>[(3,.sl 0 0 aO.length 1 false),(7,.row none 1 (l.map (eI .u32))),(8,eI .i64 (l.length:Int)),(9,eI .i64 x9)]) (fun x9 aO=>[some ⟨24,aO.map (eI .u32)⟩]) (h0:=(zW 24 [0])) (round:= ?_)
 intro m2 x9 aO hr
 rw[iV]at hr
 refine zz ?_
 refine a1N ?_
 refine zk hr ?_ ?_<;>clear hr<;>intro h3 hr<;>refine zz ?_
 ·refine bW (aCf N l x9 (iV N l m2)) (fun d8=>[(3,.sl 0 0 d8.length 1 false),(7,.row none 1 (l.map (eI .u32))),(8,eI .i64 (l.length:Int)),(9,eI .i64 x9)]) (fun d8=>[some ⟨24,d8.map (eI .u32)⟩]) ?_
  refine a1L ?_
  replace hr:=aL hr
  obtain⟨x11,h_4,hr⟩:=hr
  refine zz ?_
  refine bW (wI N l x9 aO x11 (iV N l m2)) (fun vi=>[(3,.sl 0 0 aO.length 1 false),(5,eI .u32 x11),(6,eI .i64 vi),(7,.row none 1 (l.map (eI .u32))),(8,eI .i64 (l.length:Int)),(9,eI .i64 x9)]) (fun vi=>[some ⟨24,aO.map (eI .u32)⟩]) ?_ (body:= ?_)
  rotate_left
  ·clear hr
   intro vi hr
   unfold wI at hr
   refine a12 (zv 0) ?_
   replace hr:=aA4 hr
   obtain⟨x30,h_5,x35,h_6,x36,h_7,x37,h_8,hr⟩:=hr
   refine a14 (cA []) (cA []) mixed<|a1Q (m:=4) [0,1,2,4,5,6,7,8] ?_
   refine zz ?_
   refine a1Y (m:=2) (L:=lst [0,1,2,3,4,5,6,7,8,9] 12) (s1:=aG 48 [(3,.row none 1 (aO.map (eI .u32))),(7,.row none 1 (l.map (eI .u32))),(8,eI .i64 (l.length:Int)),(9,eI .i64 x9),(30,.row (some false) 1 (x30.map (eI .u32))),(36,.sl 0 0 x36.length 1 false)]) (h1:=[some ⟨24,x36.map (eI .u32)⟩]) ?_ (fun J=> ?_)
   ·refine a1Q (m:=0) [10,11]<|xw (v:=(.sl 1 0 x37.length 1 false)) (h':=[some ⟨24,x36.map (eI .u32)⟩,some ⟨24,x37.map (eI .u32)⟩]) (uE rfl rfl (aYj (E:=(eI .u32)) aTf jA ⟨rfl,rfl,zl⟩ (fun _=>rfl) (aZT rfl rfl) (aX9 h_7) rfl h_8 rfl rfl)) ?_
    refine zz ?_
    refine a1U (by decide +kernel) ?_
    exact zE
   refine a1W (n:=3) [3,9] ⟨?_, ?_,trivial⟩
   ·refine zz ?_
    refine a1Q (m:=2) [9]<|zz ?_
    refine a1S J ?_
    exact(zG [2])
   refine zz ?_
   refine a1Q (m:=2) [3]<|zz ?_
   refine a1S J ?_
   exact(zG [2])
  replace hr:=aL hr
  obtain⟨res5,hL5,hr⟩:=hr
  refine a1L<|gQ hL5 (fun nF=>[(3,.sl 0 0 aO.length 1 false),(5,eI .u32 x11),(6,eI .i64 nF),(7,.row none 1 (l.map (eI .u32))),(8,eI .i64 (l.length:Int)),(9,eI .i64 x9)]) (fun nF=>[some ⟨24,aO.map (eI .u32)⟩]) (round:= ?_)
  intro m5 nF hr
  rw[iY]at hr
  refine a1N ?_
  refine bW (qZ N l x9 aO x11 nF (iY N l x9 aO x11 m5)) (fun x24=>[(3,.sl 0 0 aO.length 1 false),(5,eI .u32 x11),(6,eI .i64 nF),(7,.row none 1 (l.map (eI .u32))),(8,eI .i64 (l.length:Int)),(9,eI .i64 x9),(24,eB x24)]) (fun x24=>[some ⟨24,aO.map (eI .u32)⟩]) ?_
  exact zE
 exact zE
instance :CtC 74 true (bC @vW):=⟨@vW⟩
theorem aEd {N vh r} (hr:wL N vh=some r):
  Fp 125 [] [.agg (vh.map (eI .u8))] (.agg (r.map (eI .u64))) []:=by
 refine bT func125 ntmps125 results125 fun hR=> ?_
 refine zz ?_
 refine bW (xR N) (fun l1=>[(2,.ptr 0 0),(3,.ptr 1 0)]) (fun l1=>[some ⟨31,(a1K 4 0).map (eI .u64)⟩,some ⟨31,l1.map (eI .u64)⟩]) ?_
 obtain⟨cN,hL2,hr⟩:=aL hr
 refine zz ?_
 exact a1L<|dH hL2 (fun x6 l2=>[(1,.ptr 0 0),(2,.ptr 1 0),(3,.ptr 2 0),(6,eI .i64 x6)]) (fun x6 l2=>[some ⟨26,vh.map (eI .u8)⟩,some ⟨31,(a1K 4 0).map (eI .u64)⟩,some ⟨31,l2.map (eI .u64)⟩])
instance :CtC 125 true (bC @aEd):=⟨@aEd⟩
theorem aDF {N vh kS r} (hr:aAq N vh kS=some r):
  Fp 75 [] [.agg (vh.map (eI .u8)),eI .u32 kS] (eB r) []:=by
 refine bT func75 ntmps75 results75 fun hR=> ?_
 obtain⟨x9,h_1,q,h_2,hr⟩:=cE hr
 refine zz ?_
 refine xp (wJ h_1) ?_
 refine zz ?_
 refine bW (aC4 N) (fun x4=>[(4,eB x4)]) (fun x4=>[]) ?_
 exact zE
instance :CtC 75 true (bC @aDF):=⟨@aDF⟩
theorem aBt {N p c nV vby r} (hr:aG4 N p c nV vby=some r):
  Fp 35 [] [cU p,fH c,.agg (nV.map (eI .u8)),eI .u32 vby] (pD r) []:=by
 refine bT func35 ntmps35 results35 fun hR=> ?_
 obtain⟨x15,h_1,hr⟩:=aL hr
 refine zz ?_
 refine xp (aAG h_1) ?_
 refine zz ?_
 refine a1N ?_
 obtain⟨q,h_2,q_1,h_3,x25,h_4,hr⟩:=fK hr
 refine a1V mixed [74] [] [[0,1,2,3,4,5,6,7,8,9,10,11,12,13,14]]<|zz ?_
 refine xu (vW h_4) ?_
 refine zz ?_
 refine xw (v:=(.agg ((eI .u32 p.Version)::(aN (eI .u8) c.Hash (aN (eI .u8) nV [eI .u32 (a1P.wrap ((a1P.wrap (x25+1))+vby)),eI .u32 x15.1,eI .u32 0]))))) (cS rfl (aJF (ps':=[(0,eI .u32 p.Version),(1,.agg (aN (eI .u8) c.Hash [])),(2,.agg (aN (eI .u8) nV [])),(3,eI .u32 (a1P.wrap ((a1P.wrap (x25+1))+vby))),(4,eI .u32 x15.1)]) (by simp only[dJ (l:=c.Hash) (aU h_2),dJ (l:=nV) (aU h_3)]<;>rfl) (jC aED aU3 (by kernel_rfl)))) ?_
 refine zz ?_
 refine bW (aKI N p c nV vby x15 x25) (fun c1=>[(8,.ptr 0 0),(11,.ptr 1 0)]) (fun c1=>[some ⟨28,(eI .u32 0)::(aN (eI .u8) (a1K 32 0) (aN (eI .u8) (a1K 32 0) [eI .u32 0,eI .u32 0,eI .u32 0]))⟩,some ⟨28,(eI .u32 p.Version)::(aN (eI .u8) c.Hash (aN (eI .u8) nV [eI .u32 (a1P.wrap ((a1P.wrap (x25+1))+vby)),eI .u32 x15.1,eI .u32 c1]))⟩]) ?_
 obtain⟨cN,hL2,hr⟩:=aL hr
 refine zz ?_
 exact a1L<|gQ hL2 (fun aCV=>[(8,.ptr 0 0),(9,eI .u32 x15.1),(11,.ptr 1 0)]) (fun aCV=>[some ⟨28,(eI .u32 0)::(aN (eI .u8) (a1K 32 0) (aN (eI .u8) (a1K 32 0) [eI .u32 0,eI .u32 0,eI .u32 0]))⟩,some ⟨28,(eI .u32 p.Version)::(aN (eI .u8) c.Hash (aN (eI .u8) nV [eI .u32 (a1P.wrap ((a1P.wrap (x25+1))+vby)),eI .u32 x15.1,eI .u32 aCV]))⟩])
instance :CtC 35 true (bC @aBt):=⟨@aBt⟩
theorem aEB {N p l c vs r} (hr:tT N p l c vs=some r):
  Fp 10 [] [cU p,dD l,fH c,eI .u8 vs] (dZ r) []:=by
 refine bT func10 ntmps10 results10 fun hR=> ?_
 obtain⟨x16,h_1,hr⟩:=aL hr
 refine zz ?_
 refine zc (nO h_1) [] ?_
 refine zz ?_
 refine a1N ?_
 obtain⟨x26,h_2,x31,h_4,x32,h_6,x35,h_8,hr⟩:=aA4 hr
 refine a14 (cA [20,33,34]) (cA []) mixed<|a1Q (m:=5) [0,1,2,3,4,5,6,7,8,9,10,11,12,13,15] ?_
 refine zz ?_
 refine xu (pW h_2) ?_
 refine zz ?_
 refine xu (lP h_4)<|xu (aA6 h_6) ?_
 refine zz ?_
 refine a1Y (m:=1) (L:=lst [0,1,2,3,4,5,6,7,8,9,10,11,12,13,14,15,16,17,18] 20) (s1:=aG 47 [(3,eI .u8 vs),(4,.ptr 0 0),(6,.ptr 1 0),(8,.ptr 2 0),(11,.ptr 3 0),(36,.agg ((eI .u32 0)::(aN (eI .u8) (a1K 32 0) (aN (eI .u8) (a1K 32 0) [eI .u32 0,eI .u32 0,eI .u32 0,.sl 4 0 x35.length 4 true]))))]) (h1:=[some ⟨34,bG p⟩,some ⟨51,cF c⟩,some ⟨47,(eI .u32 0)::(aN (eI .u8) (a1K 32 0) (aN (eI .u8) (a1K 32 0) [eI .u32 0,eI .u32 0,eI .u32 0,.row (some true) 1 []]))⟩,some ⟨47,(eI .u32 0)::(aN (eI .u8) (a1K 32 0) (aN (eI .u8) (a1K 32 0) [eI .u32 0,eI .u32 0,eI .u32 0,.row (some true) 1 []]))⟩,some ⟨91,x35.flatMap aQ⟩]) ?_ (fun J=> ?_)
 ·refine a1Q (m:=0) [19]<|zz ?_
  refine a1U (by decide +kernel) ?_
  refine zz ?_
  refine a1N ?_
  obtain⟨x41,h_9,x43,h_11,x44,h_13,hr⟩:=fK hr
  refine a1V mixed [35,37] [36] [[0,1,2,3,4,5,6,7,8,9]]<|zz ?_
  refine xZ (uW h_9) [] [4] ?_
  refine zz ?_
  refine xu (wQ h_11)<|xu (aBt h_13) ?_
  exact zE
 refine a1W (n:=4) [14,18] ⟨?_, ?_,trivial⟩
 ·refine jU aQ 4 [x32] ?_
  refine zz ?_
  refine a1W (n:=3) [16,18] ⟨?_, ?_,trivial⟩
  ·refine zz ?_
   refine a1Q (m:=1) [17,18]<|xw (v:=(.agg ((eI .u32 0)::(aN (eI .u8) (a1K 32 0) (aN (eI .u8) (a1K 32 0) [eI .u32 0,eI .u32 0,eI .u32 0,.sl 6 0 x35.length 4 true]))))) (cS rfl (jC aDc aJe rfl)) ?_
   refine zz ?_
   refine a1S J ?_
   exact(zG [0,2,3,7,6])
  refine zz ?_
  refine a1Q (m:=1) [16,17]<|zz ?_
  refine xw (v:=(.agg ((eI .u32 0)::(aN (eI .u8) (a1K 32 0) (aN (eI .u8) (a1K 32 0) [eI .u32 0,eI .u32 0,eI .u32 0,.sl 7 0 x35.length 4 true]))))) (cS rfl (jC aDc aJe rfl)) ?_
  refine zz ?_
  refine a1S J ?_
  exact(zG [0,2,3,6,7])
 refine zz ?_
 refine a1Q (m:=1) [14,16,17]<|jU aQ 4 [x32] ?_
 refine zz ?_
 refine xw (v:=(.agg ((eI .u32 0)::(aN (eI .u8) (a1K 32 0) (aN (eI .u8) (a1K 32 0) [eI .u32 0,eI .u32 0,eI .u32 0,.sl 7 0 x35.length 4 true]))))) (cS rfl (jC aDc aJe rfl)) ?_
 refine zz ?_
 refine a1S J ?_
 exact(zG [0,2,3,5,7])
instance :CtC 10 true (bC @aEB):=⟨@aEB⟩
theorem tX {N va b r} (hr:u2 N va b=some r):
  Fp 104 [] [cW va,cW b] (eI .i64 r) []:=by
 refine bT func104 ntmps104 results104 fun hR=> ?_
 refine zz ?_
 refine fY (aA2 N va b) [(2,.eptr [cW va] 0 0),(3,.eptr [cW b] 0 0)] [] ?_ (body:= ?_)
 rotate_left
 ·clear hr
  intro hr
  refine a1N<|a1L ?_
  refine zz ?_
  refine xw (v:=(eI .u32 va.Index)) (b8 rfl (aOq (lW jA rfl rfl))) ?_
  refine zz ?_
  refine xw (v:=(eI .u32 b.Index)) (b8 rfl (aOq (lW jA rfl rfl))) ?_
  refine zz ?_
  refine zk hr ?_ ?_<;>intro h1 hr<;>refine zz ?_
  ·exact zE
  refine xw (v:=(eI .u32 va.Index)) (b8 rfl (aOq (lW jA rfl rfl))) ?_
  refine zz ?_
  refine xw (v:=(eI .u32 b.Index)) (b8 rfl (aOq (lW jA rfl rfl))) ?_
  exact zE
 refine zz ?_
 refine a12 (zqf [0,1])<|a12 (zqf [0,0]) ?_
 obtain⟨cN,hL2,hr⟩:=aL hr
 refine a1L<|gQ hL2 (fun x6=>[(2,.eptr [cW va] 0 0),(3,.eptr [cW b] 0 0),(6,eI .i64 x6)]) (fun x6=>[]) (round:= ?_)
 intro m2 x6 hr
 refine zz ?_
 refine a1N ?_
 refine zk hr ?_ ?_<;>clear hr<;>intro h3 hr<;>refine zz ?_
 ·refine a1N<|a1L ?_
  refine zz ?_
  refine a1N<|a1N ?_
  replace hr:=cE hr
  obtain⟨x11,h_4,x15,h_5,hr⟩:=hr
  refine a1V mixed [] [] [[0,1,2,3,4,5,6,7,8]]<|zz ?_
  refine xw (v:=(.eptr [cW va] 0 (0+a1Z x6))) (aGp rfl rfl (iaE gZ mF rfl h_4))<|xw (v:=(eI .u8 x11)) (b8 rfl (aNE (E:=(eI .u8)) (l:=va.Tx) (y:=x11) mF rfl h_4)) ?_
  refine zz ?_
  refine xw (v:=(.eptr [cW b] 0 (0+a1Z x6))) (aGp rfl rfl (iaE gZ mF rfl h_5))<|xw (v:=(eI .u8 x15)) (b8 rfl (aNE (E:=(eI .u8)) (l:=b.Tx) (y:=x15) mF rfl h_5)) ?_
  refine zz ?_
  refine zk hr ?_ ?_<;>clear hr<;>intro h6 hr<;>refine zz ?_
  ·exact zE
  refine a1N<|a1V mixed [] [] [[0,1,2,3,4,5,6,7,8]]<|zz ?_
  refine xw (v:=(.eptr [cW va] 0 (0+a1Z x6))) (aGp rfl rfl (iaE gZ mF rfl h_4))<|xw (v:=(eI .u8 x11)) (b8 rfl (aNE (E:=(eI .u8)) (l:=va.Tx) (y:=x11) mF rfl h_4)) ?_
  refine zz ?_
  refine xw (v:=(.eptr [cW b] 0 (0+a1Z x6))) (aGp rfl rfl (iaE gZ mF rfl h_5))<|xw (v:=(eI .u8 x15)) (b8 rfl (aNE (E:=(eI .u8)) (l:=b.Tx) (y:=x15) mF rfl h_5)) ?_
  exact zE
 exact zE
instance :CtC 104 true (bC @tX):=⟨@tX⟩
theorem aH8 {N l r} (hr:aAl N l=some r):
  Fp 63 [] [dD l] (eB r) []:=by
 refine bT func63 ntmps63 results63 fun hR=> ?_
 unfold aAl at hr
 refine zz ?_
 refine a1N ?_
 refine bW (lT N l) (fun x19=>[(1,.ptr 0 0),(19,eB x19)]) (fun x19=>[some ⟨44,bD l⟩]) ?_ (body:= ?_)
 rotate_left
 ·clear hr
  intro x19 hr
  unfold lT at hr
  refine zk hr ?_ ?_<;>intro h1 hr<;>refine zz ?_
  ·exact zE
  refine fY (aH5 N) [] [] ?_
  obtain⟨aBW,hL3,hr⟩:=aL hr
  refine zz ?_
  refine a1L<|dH hL3 (fun sum x23=>[(1,.ptr 0 0),(3,eI .i64 sum),(21,.row none 37 (l.Coins.map aP)),(22,eI .i64 (l.Coins.length:Int)),(23,eI .i64 x23)]) (fun sum x23=>[some ⟨44,bD l⟩]) (round:= ?_)
  intro m3 sum x23 hr
  rw[eP]at hr
  refine zz ?_
  refine a1N ?_
  refine zk hr ?_ ?_<;>clear hr<;>intro h2 hr<;>refine zz ?_
  ·refine a1N<|a1L ?_
   replace hr:=aL hr
   obtain⟨x26,h_3,hr⟩:=hr
   refine zz ?_
   refine a1N ?_
   refine bW (iH N l sum x23 x26 (eP N l m3)) (fun x54=>[(1,.ptr 0 0),(3,eI .i64 sum),(5,.ptr 1 0),(21,.row none 37 (l.Coins.map aP)),(22,eI .i64 (l.Coins.length:Int)),(23,eI .i64 x23),(54,eB x54)]) (fun x54=>[some ⟨44,bD l⟩,some ⟨80,aH x26⟩]) ?_ (body:= ?_)
   rotate_left
   ·clear hr
    intro x54 hr
    unfold iH at hr
    refine zk hr ?_ ?_<;>clear hr<;>intro h4 hr<;>refine zz ?_
    ·exact zE
    refine a1N ?_
    refine bW (oC N l sum x23 x26 (eP N l m3)) (fun x71=>[(1,.ptr 0 0),(3,eI .i64 sum),(5,.ptr 1 0),(21,.row none 37 (l.Coins.map aP)),(22,eI .i64 (l.Coins.length:Int)),(23,eI .i64 x23),(71,eB x71)]) (fun x71=>[some ⟨44,bD l⟩,some ⟨80,aH x26⟩]) ?_
    exact zE
   rcases a1R (decide (0<x23))with h9|h9
   ·replace hr:=rQ hr h9
    replace hr:=cE hr
    obtain⟨x35,h_10,x40,h_11,hr⟩:=hr
    rcases a1R (decide (0≤x40))with h13|h13
    ·replace hr:=rQ hr h13
     refine a1V mixed [104] [] [[0,1,2,3,4,5,6,7,8,9,10,11,12,13,14,15,16,17,18,19,20,21,22,23,24,25,26]]<|zz ?_
     refine xu (tX h_11) ?_
     refine zz ?_
     refine xX rfl<|xX rfl<|xX rfl<|xX rfl<|xX rfl ?_
     refine zz ?_
     exact⟨_,hr,zG [0,1]⟩
    exact zE
   replace hr:=sP hr h9
   rcases a1R (decide (x26.Height<1))with h15|h15
   ·replace hr:=rQ hr h15
    refine a1V mixed [104] [] [[0,1,2,3,4,5,6,7,8,9,10,11,12,13,14,15,16,17,18,19,20,21,22,23,24,25,26]]<|zz ?_
    refine xSg (v:=(.ptr 1 35)) rfl rfl rfl (aRt rfl fP) ?_
    refine xSg (v:=(eI .i64 x26.Height)) rfl rfl rfl (b8 rfl (ldP rfl (lW ti3 rfl rfl))) ?_
    refine xSg (v:=(eB (decide (x26.Height<1)))) rfl rfl rfl (gA rfl rfl (aOz ..)) ?_
    refine zz ?_
    exact⟨_,hr,zG [0,1]⟩
   replace hr:=sP hr h15
   refine a1V mixed [104] [] [[0,1,2,3,4,5,6,7,8,9,10,11,12,13,14,15,16,17,18,19,20,21,22,23,24,25,26]]<|zz ?_
   refine xSg (v:=(.ptr 1 35)) rfl rfl rfl (aRt rfl fP) ?_
   refine xSg (v:=(eI .i64 x26.Height)) rfl rfl rfl (b8 rfl (ldP rfl (lW ti3 rfl rfl))) ?_
   refine xSg (v:=(eB (decide (x26.Height<1)))) rfl rfl rfl (gA rfl rfl (aOz ..)) ?_
   exact zE
  exact zE
 exact zE
instance :CtC 63 true (bC @aH8):=⟨@aH8⟩
end Go.Proofs.YtopdhljncajmpaaGreatDoor
