/- Texts of ours, joined: Wk2. -/
import Derived.Test.YtopdhljncajmpaaGreatDoorQLedgerMoney10
open List renaming replicate → a0F
open Go.Vm.AB renaming block → a0G,seq → a0I,rs → a0Q,ghost → a0X,rd → a0Z
open Go.IntKind renaming u64 → a0H,i64 → a0J,u32 → a0K,max → a0S
open Go.Vm.DrawG renaming ps → a0L,jh → a0N,nil → a0P,fk → a0R,jn → a0T
open Bool renaming eq_false_or_eq_true → a0M
open Int renaming tmod → a0O,toNat → a0U,tdiv → a0W
open Go.Vm.OpsX renaming ghost → a0V
open Go.Vm.Ghost renaming trans → a0Y
set_option linter.unusedVariables false
set_option linter.unusedSimpArgs false
set_option maxRecDepth 20000
set_option maxHeartbeats 8000000
namespace Go.Proofs.YtopdhljncajmpaaGreatDoor
open Go Go.Vm Go.Proofs.Tryz
theorem aKJ {N va r} (hr:aOc N va=some r):
  Fp 160 [] [.agg (va.map (eI .u64))] (.agg (r.map (eI .u64))) []:=by
 refine bR func160 ntmps160 results160 fun hR=> ?_
 obtain⟨x3,h_1,x6,h_2,x9,h_3,x12,h_4,hr⟩:=aAS hr
 refine zz ?_
 refine xw (aI4 rfl (aFj rfl _)) ?_
 refine zz ?_
 refine xw (aI4 rfl (aFj rfl _)) ?_
 refine zz ?_
 refine xw (aI4 rfl (aFj rfl _)) ?_
 refine zz ?_
 refine xw (aI4 rfl (aFj rfl _))<|xw (v:=(.agg ([bits .xor .u64 (a0S .u64) x3,bits .xor .u64 (a0S .u64) x6,bits .xor .u64 (a0S .u64) x9,bits .xor .u64 (a0S .u64) x12].map (eI .u64)))) (cI rfl (aHf aHk aF6 rfl)) ?_
 exact zE
instance :CtC 160 true (aX @aKJ):=⟨@aKJ⟩
theorem aCs {N va vi r} (hr:sW N va vi=some r):
  Fp 204 [] [.agg (va.map (eI .u64)),eI .i64 vi] (eB r) []:=
 fR func204 ntmps204 results204
instance :CtC 204 true (aX @aCs):=⟨@aCs⟩
theorem aJY {N va vn r} (hr:sV N va vn=some r):
  Fp 159 [] [.agg (va.map (eI .u64)),eI .i64 vn] (.agg (r.map (eI .u64))) []:=by
 refine bR func159 ntmps159 results159 fun hR=> ?_
 refine zz ?_
 refine a0I<|zz ?_
 refine zk hr ?_ ?_<;>intro h1 hr
 ·exact zE
 refine zz ?_
 refine a0I<|zz ?_
 refine zk hr ?_ ?_<;>intro h3 hr<;>refine zz ?_
 ·exact zE
 refine bV (aFW N) (fun l1=>[(4,.ptr 0 0),(5,.ptr 1 0)]) (fun l1=>[some ⟨31,(a0F 4 0).map (eI .u64)⟩,some ⟨31,l1.map (eI .u64)⟩]) ?_
 obtain⟨cM,hL2,hr⟩:=aN hr
 refine zz ?_
 refine a0G<|dB hL2 (fun vi l2=>[(1,eI .i64 vn),(2,.ptr 0 0),(4,.ptr 1 0),(5,.ptr 2 0),(6,eI .i64 vi)]) (fun vi l2=>[some ⟨31,va.map (eI .u64)⟩,some ⟨31,(a0F 4 0).map (eI .u64)⟩,some ⟨31,l2.map (eI .u64)⟩]) (round:= ?_)
 intro m2 vi l2 hr
 refine a0I<|zz ?_
 refine zk hr ?_ ?_<;>clear hr<;>intro h5 hr<;>refine zz ?_
 ·refine bV (aBe N va vn vi (oU N va vn m2)) (fun eZ=>[(1,eI .i64 vn),(2,.ptr 0 0),(4,.ptr 1 0),(5,.ptr 2 0),(6,eI .i64 vi)]) (fun eZ=>[some ⟨31,va.map (eI .u64)⟩,some ⟨31,(a0F 4 0).map (eI .u64)⟩,some ⟨31,eZ.map (eI .u64)⟩]) ?_
  exact zE
 exact zE
instance :CtC 159 true (aX @aJY):=⟨@aJY⟩
theorem aCB {N v r} (hr:aDy N v=some r):
  Fp 116 [] [eI .u8 v] (cT r) []:=
 fR func116 ntmps116 results116
instance :CtC 116 true (aX @aCB):=⟨@aCB⟩
theorem uA {N va r} (hr:nE N va=some r):
  Fp 121 [] [.agg (va.map (eI .u64))] (eB r) []:=
 fR func121 ntmps121 results121
instance :CtC 121 true (aX @uA):=⟨@uA⟩
theorem kO {N vn r} (hr:gE N vn=some r):
  Fp 165 [] [eI .u64 vn] (.agg (r.map (eI .u64))) []:=by
 refine bR func165 ntmps165 results165 fun hR=> ?_
 unfold gE at hr
 refine zz ?_
 refine xw (v:=(.agg ([vn,0,0,0].map (eI .u64)))) (cI rfl (aHf aHk aF6 rfl)) ?_
 exact zE
instance :CtC 165 true (aX @kO):=⟨@kO⟩
theorem aKe {N va r} (hr:aDN N va=some r):
  Fp 166 [] [.agg (va.map (eI .u64))] (eI .i64 r) []:=by
 refine bR func166 ntmps166 results166 fun hR=> ?_
 refine zz ?_
 refine fT (aKU N) [] [] ?_
 obtain⟨cM,hL2,hr⟩:=aN hr
 refine zz ?_
 exact a0G<|gQ hL2 (fun vi=>[(1,.ptr 0 0),(3,eI .i64 vi)]) (fun vi=>[some ⟨31,va.map (eI .u64)⟩])
instance :CtC 166 true (aX @aKe):=⟨@aKe⟩
theorem aFI {N va b r} (hr:aDK N va b=some r):
  Fp 206 [] [.agg (va.map (eI .u64)),.agg (b.map (eI .u64))] (.tup [.agg (r.1.map (eI .u64)),eB r.2]) []:=by
 refine bR func206 ntmps206 results206 fun hR=> ?_
 refine zz ?_
 refine sk2 (aGm N) (fun aEW l1=>[(4,.ptr 0 0),(6,.ptr 1 0),(7,eI .u64 aEW)]) (fun aEW l1=>[some ⟨31,(a0F 4 0).map (eI .u64)⟩,some ⟨31,l1.map (eI .u64)⟩]) ?_
 obtain⟨cM,hL2,hr⟩:=aN hr
 refine zz ?_
 exact a0G<|lp3 hL2 (fun carry_1 x9 l3=>[(2,.ptr 0 0),(3,.ptr 1 0),(4,.ptr 2 0),(6,.ptr 3 0),(7,eI .u64 carry_1),(9,eI .i64 x9)]) (fun carry_1 x9 l3=>[some ⟨31,va.map (eI .u64)⟩,some ⟨31,b.map (eI .u64)⟩,some ⟨31,(a0F 4 0).map (eI .u64)⟩,some ⟨31,l3.map (eI .u64)⟩])
instance :CtC 206 true (aX @aFI):=⟨@aFI⟩
theorem aK2 {N va vn r} (hr:aDH N va vn=some r):
  Fp 167 [] [.agg (va.map (eI .u64)),eI .i64 vn] (.agg (r.map (eI .u64))) []:=by
 refine bR func167 ntmps167 results167 fun hR=> ?_
 refine zz ?_
 refine a0I<|zz ?_
 refine zk hr ?_ ?_<;>intro h1 hr<;>refine zz ?_
 ·exact zE
 refine bV (aGb N) (fun l0=>[(2,.ptr 0 0),(4,.ptr 1 0)]) (fun l0=>[some ⟨31,l0.map (eI .u64)⟩,some ⟨31,(a0F 4 0).map (eI .u64)⟩]) ?_
 obtain⟨cM,hL2,hr⟩:=aN hr
 exact a0G<|dB hL2 (fun vn_1 aK=>[(1,eI .i64 vn_1),(2,.ptr 0 0),(4,.ptr 1 0)]) (fun vn_1 aK=>[some ⟨31,aK.map (eI .u64)⟩,some ⟨31,(a0F 4 0).map (eI .u64)⟩])
instance :CtC 167 true (aX @aK2):=⟨@aK2⟩
theorem vV {N kM r} (hr:oD N kM=some r):
  Fp 122 [] [eI .u32 kM] (.tup [.agg (r.1.map (eI .u64)),eI .i64 r.2]) []:=by
 refine bR func122 ntmps122 results122 fun hR=> ?_
 obtain⟨x8,h_1,x13,h_2,q,h_3,hr⟩:=fE hr
 refine zz ?_
 refine xp (kO h_2) ?_
 refine zz ?_
 refine a0I<|zz ?_
 refine zk hr ?_ ?_<;>intro h4 hr<;>refine zz ?_
 ·exact zE
 refine bV (qR N) (fun l1=>[(2,.ptr 0 0),(6,.ptr 1 0)]) (fun l1=>[some ⟨31,(a0F 4 0).map (eI .u64)⟩,some ⟨31,l1.map (eI .u64)⟩]) ?_
 refine zz ?_
 refine zk hr ?_ ?_<;>intro h8 hr
 ·exact zE
 refine a0I ?_
 refine bV (qX N x8 x13) (fun x37=>[(2,.ptr 0 0),(4,eI .i64 (a0J.wrap x8)),(5,.ptr 1 0),(6,.ptr 2 0),(37,eB x37)]) (fun x37=>[some ⟨31,(a0F 4 0).map (eI .u64)⟩,some ⟨31,x13.map (eI .u64)⟩,some ⟨31,x13.map (eI .u64)⟩]) ?_
 exact zE
instance :CtC 122 true (aX @vV):=⟨@vV⟩
theorem aBk {N va b r} (hr:nP N va b=some r):
  Fp 123 [] [.agg (va.map (eI .u64)),.agg (b.map (eI .u64))] (eI .i64 r) []:=by
 refine bR func123 ntmps123 results123 fun hR=> ?_
 refine zz ?_
 refine fT (aKd N) [] [] ?_
 obtain⟨cM,hL2,hr⟩:=aN hr
 refine zz ?_
 exact a0G<|gQ hL2 (fun vi=>[(2,.ptr 0 0),(3,.ptr 1 0),(5,eI .i64 vi)]) (fun vi=>[some ⟨31,va.map (eI .u64)⟩,some ⟨31,b.map (eI .u64)⟩])
instance :CtC 123 true (aX @aBk):=⟨@aBk⟩
theorem k8 {N p r} (hr:i5 N p=some r):
  Fp 72 [] [cT p] (eB r) []:=by
 refine bR func72 ntmps72 results72 fun hR=> ?_
 refine zz ?_
 refine a0I ?_
 obtain⟨q,h_1,x9,h_2,hr⟩:=b8 hr
 obtain⟨h3,hr⟩:=cutF hr
 obtain⟨h4,hr⟩:=cutF hr
 obtain⟨h5,hr⟩:=cutF hr
 obtain⟨h6,hr⟩:=cutF hr
 refine xq ?_
 refine zz ?_
 refine xp (uA h_2) ?_
 refine zz ?_
 obtain⟨h7,hr⟩:=cutF hr
 refine AB.cndF rfl h7 ?_
 refine zz ?_
 refine a0I ?_
 obtain⟨h8,hr⟩:=cutF hr
 obtain⟨h9,hr⟩:=cutF hr
 obtain⟨h10,hr⟩:=cutF hr
 obtain⟨h11,hr⟩:=cutF hr
 obtain⟨h12,hr⟩:=cutF hr
 refine xq ?_
 refine zz ?_
 obtain⟨h13,hr⟩:=cutF hr
 refine AB.cndF rfl h13 ?_
 refine zz ?_
 refine fT (aDd N p) [(1,.ptr 0 0)] [some ⟨34,bE p⟩] ?_
 obtain⟨cM,hL2,hr⟩:=aN hr
 refine zz ?_
 exact a0G<|lp0 hL2 [(1,.ptr 0 0),(59,.row none 33 (p.Checkpoints.map aW)),(60,eI .i64 (p.Checkpoints.length:Int)),(61,eI .i64 0)] [some ⟨34,bE p⟩]
instance :CtC 72 true (aX @k8):=⟨@k8⟩
theorem qJ {N v vn r} (hr:kF N v vn=some r):
  Fp 183 [] [eI .u64 v,eI .i64 vn] (.sl 0 0 r.length 1 false) [some ⟨5,r.map (eI .u8)⟩]:=by
 refine bR func183 ntmps183 results183 fun hR=> ?_
 obtain⟨x8,h_1,hr⟩:=aN hr
 refine zz ?_
 refine xw (v:=(.sl 0 0 x8.length 1 false)) (h':=[some ⟨5,x8.map (eI .u8)⟩]) (aNO rfl rfl (mkS (E:=(eI .u8)) (y:=0) lA oS ⟨zl,rfl,rfl⟩ rfl rfl rfl h_1 rfl rfl)) ?_
 refine zz ?_
 refine bV (aBT N) (fun l0=>[(5,.sl 0 0 l0.length 1 false)]) (fun l0=>[some ⟨5,l0.map (eI .u8)⟩]) ?_
 obtain⟨cM,hL2,hr⟩:=aN hr
 refine zz ?_
 exact a0G<|dB hL2 (fun x11 aK=>[(0,eI .u64 v),(5,.sl 0 0 aK.length 1 false),(10,eI .i64 (x8.length:Int)),(11,eI .i64 x11)]) (fun x11 aK=>[some ⟨5,aK.map (eI .u8)⟩])
instance :CtC 183 false (aX @qJ):=⟨@qJ⟩
theorem iR {N va b r} (hr:eN N va b=some r):
  Fp 138 [] [.row none 1 (va.map (eI .u8)),.row none 1 (b.map (eI .u8))] (.sl 0 0 r.length 1 false) [some ⟨5,r.map (eI .u8)⟩]:=by
 refine bR func138 ntmps138 results138 fun hR=> ?_
 obtain⟨x11,h_1,hr⟩:=aN hr
 refine zz ?_
 refine xw (v:=(.sl 0 0 0 1 false)) (h':=[some ⟨5,x11.map (eI .u8)⟩]) (aNO rfl rfl (mkC (E:=(eI .u8)) (y:=0) lA oS ⟨zl,rfl,rfl⟩ rfl rfl rfl h_1 rfl rfl)) ?_
 obtain⟨x14,h_2,x16,h_3,hr⟩:=b8 hr
 refine zz ?_
 refine xw (v:=(.sl 1 0 x14.length 1 false)) (h':=[none,some ⟨5,x14.map (eI .u8)⟩]) (tP rfl rfl (aXW (E:=(eI .u8)) (Nat.zero_le _) lA oS ⟨rfl,rfl,zl⟩ rfl (aHs (fun _=>rfl)) h_2 rfl rfl)) ?_
 exact zE
instance :CtC 138 false (aX @iR):=⟨@iR⟩
theorem dK {N b vn r} (hr:dV N b vn=some r):
  Fp 133 [] [.row none 1 (b.map (eI .u8)),eI .u32 vn] (.sl 0 0 r.length 1 false) [some ⟨5,r.map (eI .u8)⟩]:=
 fR func133 ntmps133 results133
instance :CtC 133 false (aX @dK):=⟨@dK⟩
theorem e9 {N b vh r} (hr:eX N b vh=some r):
  Fp 134 [] [.row none 1 (b.map (eI .u8)),.agg (vh.map (eI .u8))] (.sl 0 0 r.length 1 false) [some ⟨5,r.map (eI .u8)⟩]:=
 fR func134 ntmps134 results134
instance :CtC 134 false (aX @e9):=⟨@e9⟩
theorem sM {N vh r} (hr:lT N vh=some r):
  Fp 84 [] [oQ vh] (.sl 0 0 r.length 1 false) [some ⟨5,r.map (eI .u8)⟩]:=by
 refine bR func84 ntmps84 results84 fun hR=> ?_
 obtain⟨x8,h_1,hr⟩:=aN hr
 refine zz ?_
 refine zc (dK h_1) [] ?_
 refine zz ?_
 refine a0I ?_
 obtain⟨q,h_2,x12,h_3,q_1,h_5,x15,h_6,hr⟩:=aAS hr
 refine a0Q mixed [] [134] [[0,1,2,3,4,5,6,7]]<|zz ?_
 refine y7 (e9 h_3) [] [1] ?_
 refine zz ?_
 refine y7 (e9 h_6) [] [2] ?_
 refine zz ?_
 refine bV (aA8 N) (fun l0=>[(3,.sl 0 0 l0.length 1 false)]) (fun l0=>[some ⟨5,l0.map (eI .u8)⟩]) ?_
 obtain⟨cM,hL2,hr⟩:=aN hr
 refine zz ?_
 refine a0G<|dB hL2 (fun x24 aK=>[(3,.sl 0 0 aK.length 1 false),(22,.sl 1 0 ([vh.Time,vh.Bits,vh.Nonce].length) 1 false),(23,eI .i64 (3:Int)),(24,eI .i64 x24)]) (fun x24 aK=>[some ⟨5,aK.map (eI .u8)⟩,some ⟨24,[vh.Time,vh.Bits,vh.Nonce].map (eI .u32)⟩]) (round:= ?_)
 intro m2 x24 aK hr
 refine zz ?_
 refine a0I ?_
 refine zk hr ?_ ?_<;>clear hr<;>intro h8 hr<;>refine zz ?_
 ·refine a0I<|a0G ?_
  replace hr:=aN hr
  obtain⟨x26,h_9,hr⟩:=hr
  refine zz ?_
  refine xHp (h':=[some ⟨5,aK.map (eI .u8)⟩,some ⟨24,[vh.Time,vh.Bits,vh.Nonce].map (eI .u32)⟩]) rfl ?_
  replace hr:=aN hr
  obtain⟨x30,h_10,hr⟩:=hr
  refine zz ?_
  refine kX (dK h_10) [] [0] ?_
  refine zz ?_
  exact⟨_,_,hr,zG [2,1]⟩
 exact zE
instance :CtC 84 false (aX @sM):=⟨@sM⟩
theorem aFY {N vn r} (hr:aGH N vn=some r):
  Fp 180 [] [eI .u64 vn] (.sl 0 0 r.length 1 false) [some ⟨5,r.map (eI .u8)⟩]:=by
 refine bR func180 ntmps180 results180 fun hR=> ?_
 refine zz ?_
 refine bV (aGl N vn) (fun l0=>[(0,eI .u64 vn),(3,.sl 0 0 l0.length 1 false)]) (fun l0=>[some ⟨5,l0.map (eI .u8)⟩]) ?_ (body:= ?_)
 rotate_left
 ·clear hr
  intro l0 hr
  refine bV (aKZ N) (fun aK=>[(3,.sl 0 0 aK.length 1 false)]) (fun aK=>[some ⟨5,aK.map (eI .u8)⟩]) ?_
  obtain⟨aBK,hL3,hr⟩:=aN hr
  refine zz ?_
  exact a0G<|dB hL3 (fun vi d9=>[(0,eI .u64 vn),(3,.sl 0 0 d9.length 1 false),(4,eI .i64 vi)]) (fun vi d9=>[some ⟨5,d9.map (eI .u8)⟩])
 obtain⟨res4,hL4,hr⟩:=aN hr
 exact a0G<|gQ hL4 (fun gP=>[(0,eI .u64 vn),(3,.sl 0 0 gP.length 1 false)]) (fun gP=>[some ⟨5,gP.map (eI .u8)⟩])
instance :CtC 180 false (aX @aFY):=⟨@aFY⟩
theorem aAD {N r} (hr:aAk N=some r):
  Fp 181 [] [] (.agg (r.map (eI .u32))) []:=by
 refine bR func181 ntmps181 results181 fun hR=> ?_
 unfold aAk at hr
 refine zz ?_
 refine xw (v:=(.agg ([1779033703,3144134277,1013904242,2773480762,1359893119,2600822924,528734635,1541459225].map (eI .u32)))) (cI rfl (aHf aIx kC rfl)) ?_
 exact zE
instance :CtC 181 true (aX @aAD):=⟨@aAD⟩
theorem kT {N x vn r} (hr:jC N x vn=some r):
  Fp 223 [] [eI .u32 x,eI .i64 vn] (eI .u32 r) []:=by
 refine bR func223 ntmps223 results223 fun hR=> ?_
 obtain⟨x8,h_1,hr⟩:=aN hr
 refine zz ?_
 refine xw (aI4 rfl (aTh ..))<|xp (jT h_1) ?_
 exact zE
instance :CtC 223 true (aX @kT):=⟨@kT⟩
theorem zO {N block r} (hr:yR N block=some r):
  Fp 221 [] [.agg (block.map (eI .u8))] (.agg (r.map (eI .u32))) []:=by
 refine bR func221 ntmps221 results221 fun hR=> ?_
 refine zz ?_
 refine bV (zK N) (fun l1=>[(2,.ptr 0 0),(3,.ptr 1 0)]) (fun l1=>[some ⟨251,(a0F 64 0).map (eI .u32)⟩,some ⟨251,l1.map (eI .u32)⟩]) ?_ (body:= ?_)
 rotate_left
 ·clear hr
  intro l1 hr
  refine bV (zB N) (fun bH=>[(2,.ptr 0 0),(3,.ptr 1 0)]) (fun bH=>[some ⟨251,(a0F 64 0).map (eI .u32)⟩,some ⟨251,bH.map (eI .u32)⟩]) ?_
  obtain⟨aBK,hL3,hr⟩:=aN hr
  refine zz ?_
  exact a0G<|dB hL3 (fun vi cF=>[(2,.ptr 0 0),(3,.ptr 1 0),(5,eI .i64 vi)]) (fun vi cF=>[some ⟨251,(a0F 64 0).map (eI .u32)⟩,some ⟨251,cF.map (eI .u32)⟩])
 obtain⟨res4,hL4,hr⟩:=aN hr
 refine zz ?_
 exact a0G<|dB hL4 (fun mT l2=>[(1,.ptr 0 0),(2,.ptr 1 0),(3,.ptr 2 0),(4,eI .i64 mT)]) (fun mT l2=>[some ⟨223,block.map (eI .u8)⟩,some ⟨251,(a0F 64 0).map (eI .u32)⟩,some ⟨251,l2.map (eI .u32)⟩])
instance :CtC 221 true (aX @zO):=⟨@zO⟩
theorem xJ {N r} (hr:vD N=some r):
  Fp 222 [] [] (.agg (r.map (eI .u32))) []:=by
 refine bR func222 ntmps222 results222 fun hR=> ?_
 unfold vD at hr
 refine zz ?_
 refine xw (v:=(.agg ([1116352408,1899447441,3049323471,3921009573,961987163,1508970993,2453635748,2870763221,3624381080,310598401,607225278,1426881987,1925078388,2162078206,2614888103,3248222580,3835390401,4022224774,264347078,604807628,770255983,1249150122,1555081692,1996064986,2554220882,2821834349,2952996808,3210313671,3336571891,3584528711,113926993,338241895,666307205,773529912,1294757372,1396182291,1695183700,1986661051,2177026350,2456956037,2730485921,2820302411,3259730800,3345764771,3516065817,3600352804,4094571909,275423344,430227734,506948616,659060556,883997877,958139571,1322822218,1537002063,1747873779,1955562222,2024104815,2227730452,2361852424,2428436474,2756734187,3204031479,3329325298].map (eI .u32)))) (cI rfl (aHf aPf kC rfl)) ?_
 exact zE
instance :CtC 222 true (aX @xJ):=⟨@xJ⟩
theorem aEJ {N cS block r} (hr:sS N cS block=some r):
  Fp 182 [] [.agg (cS.map (eI .u32)),.agg (block.map (eI .u8))] (.agg (r.map (eI .u32))) []:=by
 refine bR func182 ntmps182 results182 fun hR=> ?_
 obtain⟨q,h_1,x19,h_2,x20,h_3,q_1,h_4,q_2,h_5,hr⟩:=aIJ hr
 refine zz ?_
 refine xp (zO h_2)<|xp (xJ h_3) ?_
 refine zz ?_
 refine a0I ?_
 obtain⟨x21,h_6,x23,h_7,x25,h_8,x27,h_9,x29,h_10,x31,h_11,hr⟩:=aNP hr
 obtain⟨x33,h_12,x35,h_13,hr⟩:=b8 hr
 refine a0Q mixed [] [] [[0,1,2,3,4,5,6,7,8,9,10,11,12,13,14,15,16,17,18,19,20,21,22,23]]<|zz ?_
 refine sk8 (zM N cS) (fun va b c d ve f g vh=>[(2,.ptr 0 0),(4,.ptr 1 0),(7,eI .u32 va),(8,eI .u32 b),(9,eI .u32 c),(10,eI .u32 d),(11,eI .u32 ve),(12,eI .u32 f),(13,eI .u32 g),(14,eI .u32 vh)]) (fun va b c d ve f g vh=>[some ⟨221,cS.map (eI .u32)⟩,some ⟨221,(a0F 8 0).map (eI .u32)⟩]) ?_ (body:= ?_)
 rotate_left
 ·clear hr
  intro va b c d ve f g vh hr
  obtain⟨aNY,h_14,aKW,h_15,aVr,h_16,aUz,h_17,aUp,h_18,aUQ,h_19,hr⟩:=aNP hr
  obtain⟨aUT,h_20,aUH,h_21,hr⟩:=b8 hr
  refine zz ?_
  refine xw (v:=(.agg ([a0K.wrap (aNY+va),a0K.wrap (aKW+b),a0K.wrap (aVr+c),a0K.wrap (aUz+d),a0K.wrap (aUp+ve),a0K.wrap (aUQ+f),a0K.wrap (aUT+g),a0K.wrap (aUH+vh)].map (eI .u32)))) (cI rfl (aHf aIx kC rfl)) ?_
  refine zz ?_
  replace hr:=sj hr
  subst hr
  exact zr1 Tryz.results182 dO (zG [])
 obtain⟨cM,hL2,hr⟩:=aN hr
 refine zz ?_
 refine a0G<|lp9 hL2 (fun va_1 b_1 c_1 d_1 ve_1 f_1 g_1 vh_1 vi=>[(2,.ptr 0 0),(4,.ptr 1 0),(5,.ptr 2 0),(6,.ptr 3 0),(7,eI .u32 va_1),(8,eI .u32 b_1),(9,eI .u32 c_1),(10,eI .u32 d_1),(11,eI .u32 ve_1),(12,eI .u32 f_1),(13,eI .u32 g_1),(14,eI .u32 vh_1),(15,eI .i64 vi)]) (fun va_1 b_1 c_1 d_1 ve_1 f_1 g_1 vh_1 vi=>[some ⟨221,cS.map (eI .u32)⟩,some ⟨221,(a0F 8 0).map (eI .u32)⟩,some ⟨251,x19.map (eI .u32)⟩,some ⟨251,x20.map (eI .u32)⟩]) (round:= ?_)
 intro m2 va_1 b_1 c_1 d_1 ve_1 f_1 g_1 vh_1 vi hr
 refine a0I<|zz ?_
 refine zk hr ?_ ?_<;>clear hr<;>intro h22 hr<;>refine zz ?_
 ·refine a0I<|a0G<|a0I ?_
  replace hr:=aIJ hr
  obtain⟨x43,h_23,x45,h_25,x48,h_27,x61,h_29,x65,h_30,hr⟩:=hr
  refine a0Q mixed [223] [] [[0,1,2,3,4,5,6,7,8,9,10,11,12,13,14,15,16,17,18,19,20,21,22,23,24,25,26,27]]<|zz ?_
  refine xu (kT h_23) ?_
  refine zz ?_
  refine xu (kT h_25) ?_
  refine zz ?_
  refine xu (kT h_27) ?_
  refine zz ?_
  refine xw (v:=(eI .u32 (bits .xor .u32 (a0S .u32) ve_1))) (aI4 rfl (aFj rfl _)) ?_
  replace hr:=fE hr
  obtain⟨x69,h_31,x71,h_32,x74,h_33,hr⟩:=hr
  refine zz ?_
  refine xp (kT h_31) ?_
  refine zz ?_
  refine xp (kT h_32) ?_
  refine zz ?_
  refine xp (kT h_33) ?_
  refine zz ?_
  exact⟨_,_,_,_,_,_,_,_,_,hr,zG [0,1,2,3]⟩
 exact zE
instance :CtC 182 true (aX @aEJ):=⟨@aEJ⟩
theorem i9 {N b r} (hr:lV N b=some r):
  Fp 132 [] [.row none 1 (b.map (eI .u8))] (.agg (r.map (eI .u8))) []:=by
 refine bR func132 ntmps132 results132 fun hR=> ?_
 obtain⟨x11,h_1,x15,h_2,x16,h_3,hr⟩:=fE hr
 refine zz ?_
 refine zc (aFY h_2) [] ?_
 obtain⟨x17,h_4,q,h_5,hr⟩:=b8 hr
 refine zz ?_
 refine xp (aAD h_4) ?_
 refine zz ?_
 refine bV (aFD N) (fun l1=>[(2,.ptr 0 0),(4,.ptr 1 0)]) (fun l1=>[some ⟨26,(a0F 32 0).map (eI .u8)⟩,some ⟨221,l1.map (eI .u32)⟩]) ?_ (body:= ?_)
 rotate_left
 ·clear hr
  intro l1 hr
  refine zz ?_
  refine bV (aFR N) (fun bH=>[(2,.ptr 0 0),(7,.ptr 1 0)]) (fun bH=>[some ⟨26,(a0F 32 0).map (eI .u8)⟩,some ⟨26,bH.map (eI .u8)⟩]) ?_
  obtain⟨q_2,h_7,aBK,hL3,hr⟩:=b8 hr
  refine zz ?_
  refine a0G<|dB hL3 (fun x34 cF=>[(2,.ptr 0 0),(7,.ptr 1 0),(33,.agg (l1.map (eI .u32))),(34,eI .i64 x34)]) (fun x34 cF=>[some ⟨26,(a0F 32 0).map (eI .u8)⟩,some ⟨26,cF.map (eI .u8)⟩]) (round:= ?_)
  intro m3 x34 cF hr
  refine zz ?_
  refine a0I ?_
  refine zk hr ?_ ?_<;>clear hr<;>intro h8 hr<;>refine zz ?_
  ·refine a0I<|a0G ?_
   replace hr:=aN hr
   obtain⟨x37,h_9,hr⟩:=hr
   refine zz ?_
   refine xw (v:=(eI .u32 x37)) (aXZ rfl rfl (ixA (E:=(eI .u32)) aIx kC rfl rfl h_9)) ?_
   exact zE
  exact zE
 refine zz ?_
 refine a0X (zv 4) ?_
 obtain⟨res4,hL4,hr⟩:=aN hr
 refine a0G<|dB hL4 (fun vi l1_3=>[(2,.ptr 0 0),(3,.row none 1 (x16.map (eI .u8))),(4,.ptr 1 0),(5,eI .i64 vi)]) (fun vi l1_3=>[some ⟨26,(a0F 32 0).map (eI .u8)⟩,some ⟨221,l1_3.map (eI .u32)⟩]) (round:= ?_)
 intro m4 vi l1_3 hr
 refine a0I<|zz ?_
 refine zk hr ?_ ?_<;>clear hr<;>intro h17 hr<;>refine zz ?_
 ·refine a0I<|a0G ?_
  refine zz ?_
  refine a0I ?_
  replace hr:=aN hr
  obtain⟨x28,h_18,hr⟩:=hr
  refine a0Q mixed [] [] [[0,1,2,3,4]]<|zz ?_
  refine xw (v:=(eI .i64 ((min x28.length (a0F 64 0).length:Nat):Int))) (h':=[some ⟨26,(a0F 32 0).map (eI .u8)⟩,some ⟨221,l1_3.map (eI .u32)⟩,some ⟨223,(cpy (a0F 64 0) x28).map (eI .u8)⟩]) (aQu rfl rfl (aU7 (E:=(eI .u8)) (l:=a0F 64 0) rfl lA oS rfl rfl (aHs (fun _=>rfl)) rfl)) ?_
  exact zE
 exact zE
instance :CtC 132 true (aX @i9):=⟨@i9⟩
theorem aGy {N b r} (hr:oY N b=some r):
  Fp 83 [] [.row none 1 (b.map (eI .u8))] (.agg (r.map (eI .u8))) []:=by
 refine bR func83 ntmps83 results83 fun hR=> ?_
 obtain⟨x5,h_1,q,h_2,hr⟩:=b8 hr
 refine zz ?_
 refine xp (i9 h_1) ?_
 obtain⟨x7,h_3,q_1,h_4,hr⟩:=b8 hr
 refine zz ?_
 refine kX (i9 h_3) [] [1] ?_
 refine zz ?_
 replace hr:=sj hr
 subst hr
 exact zr1 Tryz.results83 dO (zG [])
instance :CtC 83 true (aX @aGy):=⟨@aGy⟩
theorem aAy {N vh r} (hr:nI N vh=some r):
  Fp 45 [] [oQ vh] (.agg (r.map (eI .u8))) []:=
 fR func45 ntmps45 results45
instance :CtC 45 true (aX @aAy):=⟨@aAy⟩
theorem aCY {N p r} (hr:lK N p=some r):
  Fp 54 [] [cT p] (.tup [eE r.1,eI .i64 r.2]) []:=
 fR func54 ntmps54 results54
instance :CtC 54 true (aX @aCY):=⟨@aCY⟩
theorem aCT {N p r} (hr:aHp N p=some r):
  Fp 117 [] [cT p] (.tup [hP r.1,eI .i64 r.2]) []:=
 fR func117 ntmps117 results117
instance :CtC 117 true (aX @aCT):=⟨@aCT⟩
theorem aJH {N v r} (hr:aEX N v=some r):
  Fp 68 [] [eI .u8 v] (iJ r) []:=by
 refine bR func68 ntmps68 results68 fun hR=> ?_
 obtain⟨x9,h_1,hr⟩:=aN hr
 refine zz ?_
 refine xp (aCB h_1) ?_
 obtain⟨x12,h_2,hr⟩:=aN hr
 refine zz ?_
 refine xp (aCY h_2) ?_
 obtain⟨x17,h_3,hr⟩:=aN hr
 refine zz ?_
 refine xp (aCT h_3) ?_
 refine zz ?_
 refine mC bI 34 [x12.1] ?_
 refine zz ?_
 refine mC b9 36 [x17.1]<|xw (v:=(.agg ((eI .u32 x9.Genesis.Version)::(aL (eI .u8) x9.Genesis.Prev (aL (eI .u8) x9.Genesis.Root ((eI .u32 x9.Genesis.Time)::((eI .u32 x9.Genesis.Bits)::((eI .u32 x9.Genesis.Nonce)::(dU (eI .u64) x9.Limit [eI .i64 x9.Window,eI .u32 x9.Spacing,eI .u32 x9.Future,eI .u32 x9.Version,.row none 33 (x9.Checkpoints.map aW),eI .i64 x9.Subsidy,eI .i64 x9.Halving,eI .i64 x9.Maturity,.row (some true) 1 [],.sl 4 0 1 34 true,.sl 5 0 1 36 true,.row (some true) 1 []]))))))))) (cI rfl (iM aIV aUo rfl)) ?_
 exact zE
instance :CtC 68 true (aX @aJH):=⟨@aJH⟩
theorem aHA {N script r} (hr:aQt N script=some r):
  Fp 118 [] [.row none 1 (script.map (eI .u8))] (.row none 1 (r.map (eL 1 (eI .u8)))) []:=by
 refine bR func118 ntmps118 results118 fun hR=> ?_
 refine zz ?_
 refine a0I<|zz ?_
 refine zk hr ?_ ?_<;>intro h1 hr
 ·exact zE
 obtain⟨x7,h_2,hr⟩:=aN hr
 refine zz ?_
 refine a0V (zv 0) ?_
 exact zE
instance :CtC 118 true (aX @aHA):=⟨@aHA⟩
theorem n4 {N vj r} (hr:nN N vj=some r):
  Fp 20 [] [eI .u8 vj] (.row none 1 (r.map (eI .u8))) []:=
 fR func20 ntmps20 results20
instance :CtC 20 true (aX @n4):=⟨@n4⟩
theorem aEl {N c vs r} (hr:aE6 N c vs=some r):
  Fp 69 [] [aM c,eI .u8 vs] (.tup [.agg [eI .u32 r.1,.sl 0 0 r.2.1.length 35 true,.sl 1 0 r.2.2.1.length 2 true,eI .u32 r.2.2.2.1],eI .i64 r.2.2.2.2]) [some ⟨97,r.2.1.flatMap fJ⟩,some ⟨78,r.2.2.1.flatMap cK⟩]:=by
 refine bR func69 ntmps69 results69 fun hR=> ?_
 refine zz ?_
 refine xw (v:=(eI .i64 (if c.Output.Value<(a0J.wrap (a0O vs 3))then c.Output.Value else(a0J.wrap (a0O vs 3))))) (aPo rfl aPg) ?_
 refine zz ?_
 refine a0I ?_
 obtain⟨x29,h_1,hr⟩:=aN hr
 refine a0Z (cD [118]) (cD []) mixed<|a0L (m:=4) [0,1,2,3,4,5,6,7,8] ?_
 refine zz ?_
 refine xu (aHA h_1)<|xw (v:=(.agg (aL (eI .u8) c.Out.Tx [eI .u32 c.Out.Index,eI .u32 (a0K.wrap vs),.row none 1 (x29.map (eL 1 (eI .u8)))]))) (cI rfl (iM aKr aSk rfl)) ?_
 refine zz ?_
 refine a0T (m:=1) (L:=lst [0,1,2,3,4,5,6,7,8,9,10,11] 13) (s1:=aG 63 [(1,eI .u8 vs),(4,.ptr 0 0),(6,eI .i64 (if c.Output.Value<(a0J.wrap (a0O vs 3))then c.Output.Value else(a0J.wrap (a0O vs 3)))),(7,eI .i64 (a0J.wrap (c.Output.Value-(if c.Output.Value<(a0J.wrap (a0O vs 3))then c.Output.Value else(a0J.wrap (a0O vs 3)))))),(8,.ptr 1 0),(32,.agg [eI .u32 1,.sl 2 0 1 35 true,.row (some true) 1 [],eI .u32 0])]) (h1:=[some ⟨91,[eI .u32 0,.row (some true) 1 [],.row (some true) 1 [],eI .u32 0]⟩,some ⟨91,[eI .u32 0,.row (some true) 1 [],.row (some true) 1 [],eI .u32 0]⟩,some ⟨97,[bL.mk c.Out (a0K.wrap vs) x29].flatMap fJ⟩]) ?_ (fun J=> ?_)
 ·refine a0L (m:=0) [12]<|zz ?_
  refine a0P (by decide +kernel) ?_
  refine zz ?_
  refine sk2 (uC N c vs x29) (fun first l3=>[(1,eI .u8 vs),(4,.ptr 0 0),(6,eI .i64 (if c.Output.Value<(a0J.wrap (a0O vs 3))then c.Output.Value else(a0J.wrap (a0O vs 3)))),(8,.ptr 1 0),(9,eI .i64 first)]) (fun first l3=>[some ⟨91,[eI .u32 0,.row (some true) 1 [],.row (some true) 1 [],eI .u32 0]⟩,some ⟨91,[eI .u32 1,.sl 2 0 ([bL.mk c.Out (a0K.wrap vs) x29].length) 35 true,.sl 3 0 l3.length 2 true,eI .u32 0]⟩,some ⟨97,[bL.mk c.Out (a0K.wrap vs) x29].flatMap fJ⟩,some ⟨78,l3.flatMap cK⟩]) ?_ (body:= ?_)
  rotate_left
  ·clear hr
   intro first l3 hr
   refine a0I ?_
   obtain⟨x56,h_3,x59,h_5,hr⟩:=b8 hr
   refine a0Q mixed [20] [] [[0,1,2,3,4,5,6,7,8,9,10]]<|zz ?_
   refine xu (n4 h_3) ?_
   refine zz ?_
   refine mC cK 2 [aQ.mk first x56] ?_
   exact zE
  refine zz ?_
  refine zk hr ?_ ?_<;>intro h6 hr
  ·obtain⟨x46,h_7,x49,h_9,hr⟩:=b8 hr
   refine zz ?_
   refine a0Q mixed [20] [] [[0,1,2,3,4,5,6,7,8,9,10,11,12]]<|zz ?_
   refine xu (n4 h_7) ?_
   refine zz ?_
   refine mC cK 2 [aQ.mk (a0J.wrap ((a0J.wrap (c.Output.Value-(if c.Output.Value<(a0J.wrap (a0O vs 3))then c.Output.Value else(a0J.wrap (a0O vs 3)))))-(a0J.wrap (a0W (a0J.wrap (c.Output.Value-(if c.Output.Value<(a0J.wrap (a0O vs 3))then c.Output.Value else(a0J.wrap (a0O vs 3))))) 3)))) x46] ?_
   exact zE
  refine zz ?_
  exact⟨_,_,hr,a0Y (Ghost.virt (fr':=[(1,eI .u8 vs),(4,.ptr 0 0),(6,eI .i64 (if c.Output.Value<(a0J.wrap (a0O vs 3))then c.Output.Value else(a0J.wrap (a0O vs 3)))),(8,.ptr 1 0),(9,eI .i64 (a0J.wrap (c.Output.Value-(if c.Output.Value<(a0J.wrap (a0O vs 3))then c.Output.Value else(a0J.wrap (a0O vs 3))))))]) (h1:=[some ⟨91,[eI .u32 0,.row (some true) 1 [],.row (some true) 1 [],eI .u32 0]⟩,some ⟨91,[eI .u32 1,.sl 2 0 1 35 true,.sl 3 0 0 2 true,eI .u32 0]⟩,some ⟨97,[bL.mk c.Out (a0K.wrap vs) x29].flatMap fJ⟩]) 78 (FLe.same rfl (FLe.same rfl (FLe.same rfl (FLe.same rfl (FLe.same rfl FLe.nil))))) (HLv.live (V.les_refl _ _) rfl (HLv.live (V.les_cons (V.le_refl _ _) (V.les_cons (V.le_refl _ _) (V.les_cons (V.le_virt rfl) (V.les_cons (V.le_refl _ _) V.les_nil)))) rfl (HLv.live (V.les_refl _ _) (tI (fun _=>rfl) _) HLv.nil)))) (zg' [0,1,2,3])⟩
 refine a0R (n:=3) [9,11] ⟨?_, ?_,trivial⟩
 ·refine mC fJ 35 [bL.mk c.Out (a0K.wrap vs) x29] ?_
  refine zz ?_
  refine a0L (m:=1) [10,11]<|zz ?_
  refine a0N J ?_
  exact(zG [1,3,2])
 refine zz ?_
 refine a0L (m:=1) [9,10]<|mC fJ 35 [bL.mk c.Out (a0K.wrap vs) x29] ?_
 refine zz ?_
 refine a0N J ?_
 exact(zG [1,2,3])
instance :CtC 69 false (aX @aEl):=⟨@aEl⟩
theorem iW {N b vn r} (hr:gZ N b vn=some r):
  Fp 161 [] [.row none 1 (b.map (eI .u8)),eI .u64 vn] (.sl 0 0 r.length 1 false) [some ⟨5,r.map (eI .u8)⟩]:=by
 refine bR func161 ntmps161 results161 fun hR=> ?_
 refine zz ?_
 refine a0I<|a0G ?_
 refine zz ?_
 refine zk hr ?_ ?_<;>intro h1 hr
 ·exact zE
 refine zz ?_
 refine zk hr ?_ ?_<;>intro h4 hr
 ·obtain⟨x18,h_5,x19,h_6,x20,h_7,hr⟩:=fE hr
  refine zz ?_
  refine zc (qJ h_5) [] ?_
  refine kX (iR h_6) [] [0,1] ?_
  refine kX (iR h_7) [] [2] ?_
  refine zz ?_
  replace hr:=sj hr
  subst hr
  exact zd1 Tryz.results161 [3]
 refine zz ?_
 refine zk hr ?_ ?_<;>intro h8 hr
 ·obtain⟨x27,h_9,x28,h_10,x29,h_11,hr⟩:=fE hr
  refine zz ?_
  refine zc (qJ h_9) [] ?_
  refine kX (iR h_10) [] [0,1] ?_
  refine kX (iR h_11) [] [2] ?_
  refine zz ?_
  replace hr:=sj hr
  subst hr
  exact zd1 Tryz.results161 [3]
 obtain⟨x33,h_12,x34,h_13,x35,h_14,hr⟩:=fE hr
 refine zz ?_
 refine zc (qJ h_12) [] ?_
 refine kX (iR h_13) [] [0,1] ?_
 refine kX (iR h_14) [] [2] ?_
 refine zz ?_
 replace hr:=sj hr
 subst hr
 exact zd1 Tryz.results161 [3]
instance :CtC 161 false (aX @iW):=⟨@iW⟩
theorem aDi {N o r} (hr:aAf N o=some r):
  Fp 162 [] [cR o] (.sl 0 0 r.length 1 false) [some ⟨5,r.map (eI .u8)⟩]:=by
 refine bR func162 ntmps162 results162 fun hR=> ?_
 refine zz ?_
 refine a0I ?_
 obtain⟨q,h_1,x5,h_2,x8,h_4,hr⟩:=fE hr
 refine a0Q mixed [] [133,134] [[0,1,2,3,4,5,6]]<|zz ?_
 refine zg (e9 h_2) [] ?_
 refine zz ?_
 refine y7 (dK h_4) [] [1] ?_
 refine zz ?_
 replace hr:=sj hr
 subst hr
 exact zd1 Tryz.results162 [2]
instance :CtC 162 false (aX @aDi):=⟨@aDi⟩
theorem wA {N b vn r} (hr:vL N b vn=some r):
  Fp 205 [] [.row none 1 (b.map (eI .u8)),eI .u64 vn] (.sl 0 0 r.length 1 false) [some ⟨5,r.map (eI .u8)⟩]:=
 fR func205 ntmps205 results205
instance :CtC 205 false (aX @wA):=⟨@wA⟩
theorem tS {N b vs r} (hr:mY N b vs=some r):
  Fp 164 [] [.row none 1 (b.map (eI .u8)),.row none 1 (vs.map (eI .u8))] (.sl 0 0 r.length 1 false) [some ⟨5,r.map (eI .u8)⟩]:=
 fR func164 ntmps164 results164
instance :CtC 164 false (aX @tS):=⟨@tS⟩
theorem aFB {N o r} (hr:aA6 N o=some r):
  Fp 163 [] [cH o] (.sl 0 0 r.length 1 false) [some ⟨5,r.map (eI .u8)⟩]:=by
 refine bR func163 ntmps163 results163 fun hR=> ?_
 refine zz ?_
 refine a0I ?_
 obtain⟨x6,h_1,x9,h_3,hr⟩:=b8 hr
 refine a0Q mixed [] [164,205] [[0,1,2,3,4,5,6,7]]<|zz ?_
 refine zg (wA h_1) [] ?_
 refine zz ?_
 refine y7 (tS h_3) [] [1] ?_
 refine zz ?_
 replace hr:=sj hr
 subst hr
 exact zd1 Tryz.results163 [2]
instance :CtC 163 false (aX @aFB):=⟨@aFB⟩
theorem aG4 {N t bD r} (hr:gW N t bD=some r):
  Fp 120 [] [aY t,eB bD] (.sl 0 0 r.length 1 false) [some ⟨5,r.map (eI .u8)⟩]:=by
 refine bR func120 ntmps120 results120 fun hR=> ?_
 obtain⟨x16,h_1,hr⟩:=aN hr
 refine zz ?_
 refine zc (dK h_1) [] ?_
 obtain⟨x22,h_2,hr⟩:=aN hr
 refine zz ?_
 refine kX (iW h_2) [] [1] ?_
 refine zz ?_
 refine bV (vN N t bD) (fun l1=>[(1,eB bD),(2,.ptr 0 0),(5,.sl 1 0 l1.length 1 false)]) (fun l1=>[some ⟨91,aR t⟩,some ⟨5,l1.map (eI .u8)⟩]) ?_ (body:= ?_)
 rotate_left
 ·clear hr
  intro l1 hr
  obtain⟨x44,h_3,hr⟩:=aN hr
  refine zz ?_
  refine kX (iW h_3) [] [1] ?_
  refine zz ?_
  refine bV (vM N t bD) (fun bH=>[(1,eB bD),(2,.ptr 0 0),(5,.sl 1 0 bH.length 1 false)]) (fun bH=>[some ⟨91,aR t⟩,some ⟨5,bH.map (eI .u8)⟩]) ?_ (body:= ?_)
  rotate_left
  ·clear hr
   intro bH hr
   obtain⟨x60,h_4,hr⟩:=aN hr
   refine zz ?_
   refine kX (dK h_4) [] [1] ?_
   refine zz ?_
   refine bV (aBc N) (fun l0=>[(5,.sl 0 0 l0.length 1 false)]) (fun l0=>[some ⟨5,l0.map (eI .u8)⟩]) ?_
   obtain⟨res4,hL4,hr⟩:=aN hr
   refine zz ?_
   refine a0G<|dB hL4 (fun x64 aK=>[(1,eB bD),(5,.sl 0 0 aK.length 1 false),(62,.row none 35 (t.Inputs.map bU)),(63,eI .i64 (t.Inputs.length:Int)),(64,eI .i64 x64)]) (fun x64 aK=>[some ⟨5,aK.map (eI .u8)⟩]) (round:= ?_)
   intro m4 x64 aK hr
   refine zz ?_
   refine a0I ?_
   refine zk hr ?_ ?_<;>clear hr<;>intro h5 hr<;>refine zz ?_
   ·refine bV (aCn N t bD x64 (eW N t bD m4)) (fun d9=>[(1,eB bD),(5,.sl 0 0 d9.length 1 false),(62,.row none 35 (t.Inputs.map bU)),(63,eI .i64 (t.Inputs.length:Int)),(64,eI .i64 x64)]) (fun d9=>[some ⟨5,d9.map (eI .u8)⟩]) ?_
    refine a0G ?_
    replace hr:=aN hr
    obtain⟨x66,h_6,hr⟩:=hr
    refine zz ?_
    refine a0I<|zz ?_
    refine zk hr ?_ ?_<;>clear hr<;>intro h7 hr
    ·exact zE
    replace hr:=aN hr
    obtain⟨x75,h_8,hr⟩:=hr
    refine zz ?_
    refine kX (iW h_8) [] [0] ?_
    replace hr:=aN hr
    obtain⟨res6,hL6,hr⟩:=hr
    refine zz ?_
    exact a0G<|dB hL6 (fun x79 gP=>[(1,eB bD),(5,.sl 0 0 gP.length 1 false),(62,.row none 35 (t.Inputs.map bU)),(63,eI .i64 (t.Inputs.length:Int)),(64,eI .i64 x64),(77,.row none 1 (x66.Witness.map (eL 1 (eI .u8)))),(78,eI .i64 (x66.Witness.length:Int)),(79,eI .i64 x79)]) (fun x79 gP=>[some ⟨5,gP.map (eI .u8)⟩])
   exact zE
  obtain⟨res7,hL7,hr⟩:=aN hr
  refine zz ?_
  exact a0G<|dB hL7 (fun x48 cF=>[(1,eB bD),(2,.ptr 0 0),(5,.sl 1 0 cF.length 1 false),(46,.row none 2 (t.Outputs.map cH)),(47,eI .i64 (t.Outputs.length:Int)),(48,eI .i64 x48)]) (fun x48 cF=>[some ⟨91,aR t⟩,some ⟨5,cF.map (eI .u8)⟩])
 obtain⟨res8,hL8,hr⟩:=aN hr
 refine zz ?_
 refine a0G<|dB hL8 (fun x26 l1_3=>[(1,eB bD),(2,.ptr 0 0),(5,.sl 1 0 l1_3.length 1 false),(24,.row none 35 (t.Inputs.map bU)),(25,eI .i64 (t.Inputs.length:Int)),(26,eI .i64 x26)]) (fun x26 l1_3=>[some ⟨91,aR t⟩,some ⟨5,l1_3.map (eI .u8)⟩]) (round:= ?_)
 intro m8 x26 l1_3 hr
 refine zz ?_
 refine a0I ?_
 refine zk hr ?_ ?_<;>clear hr<;>intro h16 hr<;>refine zz ?_
 ·refine a0I<|a0G ?_
  replace hr:=aAS hr
  obtain⟨x28,h_17,x33,h_18,x34,h_20,x37,h_21,hr⟩:=hr
  refine zz ?_
  refine a0Z (cD []) (cD [133,162]) mixed<|a0L (m:=4) [0,1,2,3,5] ?_
  refine zz ?_
  refine zg (aDi h_18) [] ?_
  refine zz ?_
  refine a0T (m:=2) (L:=lst [0,1,2,3,4,5,6] 9) (s1:=aG 89 [(1,eB bD),(2,.ptr 0 0),(5,.sl 1 0 l1_3.length 1 false),(24,.row none 35 (t.Inputs.map bU)),(25,eI .i64 (t.Inputs.length:Int)),(26,eI .i64 x26),(34,.sl 2 0 x34.length 1 false),(36,eI .u32 x28.Sequence)]) (h1:=[some ⟨91,aR t⟩,none,some ⟨5,x34.map (eI .u8)⟩]) ?_ (fun J=> ?_)
  ·refine a0L (m:=0) [7,8]<|y7 (dK h_21) [] [2] ?_
   refine zz ?_
   refine a0P (by decide +kernel) ?_
   exact zE
  refine a0R (n:=3) [4,6] ⟨?_, ?_,trivial⟩
  ·refine zz ?_
   refine a0L (m:=2) [6]<|zz ?_
   refine a0N J ?_
   exact(zG [0,1,4])
  refine zz ?_
  refine a0L (m:=2) [4]<|zz ?_
  refine a0N J ?_
  exact(zG [0,1,4])
 exact zE
instance :CtC 120 false (aX @aG4):=⟨@aG4⟩
theorem aAj {N t r} (hr:gH N t=some r):
  Fp 119 [] [aY t] (eB r) []:=by
 refine bR func119 ntmps119 results119 fun hR=> ?_
 unfold gH at hr
 refine zz ?_
 refine a0I ?_
 refine bV (pY N t) (fun x18=>[(1,.ptr 0 0),(18,eB x18)]) (fun x18=>[some ⟨91,aR t⟩]) ?_ (body:= ?_)
 rotate_left
 ·clear hr
  intro x18 hr
  unfold pY at hr
  refine zk hr ?_ ?_<;>intro h1 hr<;>refine zz ?_
  ·exact zE
  refine fT (uG N t) [(1,.ptr 0 0)] [some ⟨91,aR t⟩] ?_ (body:= ?_)
  rotate_left
  ·clear hr
   intro hr
   unfold uG at hr
   refine fT (aAB N t) [(1,.ptr 0 0)] [some ⟨91,aR t⟩] ?_
   obtain⟨res4,hL4,hr⟩:=aN hr
   refine zz ?_
   refine a0G<|gQ hL4 (fun x39=>[(1,.ptr 0 0),(37,.row none 35 (t.Inputs.map bU)),(38,eI .i64 (t.Inputs.length:Int)),(39,eI .i64 x39)]) (fun x39=>[some ⟨91,aR t⟩]) (round:= ?_)
   intro m4 x39 hr
   rw[jA]at hr
   refine zz ?_
   refine a0I ?_
   refine zk hr ?_ ?_<;>clear hr<;>intro h3 hr<;>refine zz ?_
   ·refine fT (aAo N t x39 (jA N t m4)) [(1,.ptr 0 0),(37,.row none 35 (t.Inputs.map bU)),(38,eI .i64 (t.Inputs.length:Int)),(39,eI .i64 x39)] [some ⟨91,aR t⟩] ?_
    refine a0G ?_
    replace hr:=aN hr
    obtain⟨x41,h_4,hr⟩:=hr
    refine zz ?_
    refine a0I<|zz ?_
    refine zk hr ?_ ?_<;>clear hr<;>intro h5 hr
    ·exact zE
    replace hr:=aN hr
    obtain⟨res6,hL6,hr⟩:=hr
    refine zz ?_
    exact a0G<|gQ hL6 (fun x50=>[(1,.ptr 0 0),(37,.row none 35 (t.Inputs.map bU)),(38,eI .i64 (t.Inputs.length:Int)),(39,eI .i64 x39),(48,.row none 1 (x41.Witness.map (eL 1 (eI .u8)))),(49,eI .i64 (x41.Witness.length:Int)),(50,eI .i64 x50)]) (fun x50=>[some ⟨91,aR t⟩])
   exact zE
  obtain⟨res7,hL7,hr⟩:=aN hr
  refine zz ?_
  refine a0G<|gQ hL7 (fun x22=>[(1,.ptr 0 0),(20,.row none 2 (t.Outputs.map cH)),(21,eI .i64 (t.Outputs.length:Int)),(22,eI .i64 x22)]) (fun x22=>[some ⟨91,aR t⟩]) (round:= ?_)
  intro m7 x22 hr
  rw[hY]at hr
  refine zz ?_
  refine a0I ?_
  refine zk hr ?_ ?_<;>clear hr<;>intro h9 hr<;>refine zz ?_
  ·refine a0I<|a0G ?_
   replace hr:=aN hr
   obtain⟨x24,h_10,hr⟩:=hr
   refine zz ?_
   refine bV (uJ N t x22 (hY N t m7)) (fun x34=>[(1,.ptr 0 0),(20,.row none 2 (t.Outputs.map cH)),(21,eI .i64 (t.Outputs.length:Int)),(22,eI .i64 x22),(34,eB x34)]) (fun x34=>[some ⟨91,aR t⟩]) ?_
   exact zE
  exact zE
 exact zE
instance :CtC 119 true (aX @aAj):=⟨@aAj⟩
theorem zY {N t r} (hr:aAX N t=some r):
  Fp 70 [] [aY t] (.agg (r.map (eI .u8))) []:=
 fR func70 ntmps70 results70
instance :CtC 70 true (aX @zY):=⟨@zY⟩
theorem sZ {N p l vs r} (hr:rK N p l vs=some r):
  Fp 32 [] [cT p,eE l,eI .u8 vs] (.tup [.sl 0 0 r.1.length 4 true,eI .i64 r.2]) [some ⟨91,r.1.flatMap aR⟩]:=by
 refine bR func32 ntmps32 results32 fun hR=> ?_
 obtain⟨x23,h_1,hr⟩:=aN hr
 refine zz ?_
 refine sk2 (aBl N) (fun fees l0=>[(8,.sl 0 0 l0.length 4 true),(9,eI .i64 fees)]) (fun fees l0=>[some ⟨91,l0.flatMap aR⟩]) ?_
 obtain⟨cM,hL2,hr⟩:=aN hr
 refine zz ?_
 refine a0G<|lp4 hL2 (fun dA k l2 l3=>[(2,eI .u8 vs),(3,.ptr 0 0),(4,.ptr 1 0),(8,.sl 2 0 l2.length 4 true),(9,eI .i64 dA),(10,.sl 3 0 l3.length 37 true),(11,eI .u8 k)]) (fun dA k l2 l3=>[some ⟨34,bE p⟩,some ⟨44,bI l⟩,some ⟨91,l2.flatMap aR⟩,some ⟨80,l3.flatMap aH⟩]) (h0:=(zW 91 [0,1,4,3])) (round:= ?_)
 intro m2 dA k l2 l3 hr
 refine a0I<|zz ?_
 refine zk hr ?_ ?_<;>clear hr<;>intro h2 hr<;>refine zz ?_
 ·refine sk3 (tH N p l vs k (iH N p l vs m2)) (fun aMp eZ eF=>[(2,eI .u8 vs),(3,.ptr 0 0),(4,.ptr 1 0),(8,.sl 2 0 eZ.length 4 true),(9,eI .i64 aMp),(10,.sl 3 0 eF.length 37 true),(11,eI .u8 k)]) (fun aMp eZ eF=>[some ⟨34,bE p⟩,some ⟨44,bI l⟩,some ⟨91,eZ.flatMap aR⟩,some ⟨80,eF.flatMap aH⟩]) ?_
  refine a0G ?_
  replace hr:=aN hr
  obtain⟨res4,hL4,hr⟩:=hr
  refine zz ?_
  refine a0G<|gQ hL4 (fun vi=>[(2,eI .u8 vs),(3,.ptr 0 0),(4,.ptr 1 0),(8,.sl 2 0 l2.length 4 true),(9,eI .i64 dA),(10,.sl 3 0 l3.length 37 true),(11,eI .u8 k),(12,eI .i64 (l3.length:Int)),(13,eI .i64 vi)]) (fun vi=>[some ⟨34,bE p⟩,some ⟨44,bI l⟩,some ⟨91,l2.flatMap aR⟩,some ⟨80,l3.flatMap aH⟩]) (round:= ?_)
  intro m4 vi hr
  refine a0I<|zz ?_
  refine zk hr ?_ ?_<;>clear hr<;>intro h3 hr<;>refine zz ?_
  ·refine fT (s7 N p l vs dA k l2 l3 vi (c6 N p l vs dA k l2 l3 m4)) [(2,eI .u8 vs),(3,.ptr 0 0),(4,.ptr 1 0),(8,.sl 2 0 l2.length 4 true),(9,eI .i64 dA),(10,.sl 3 0 l3.length 37 true),(11,eI .u8 k),(12,eI .i64 (l3.length:Int)),(13,eI .i64 vi)] [some ⟨34,bE p⟩,some ⟨44,bI l⟩,some ⟨91,l2.flatMap aR⟩,some ⟨80,l3.flatMap aH⟩] ?_
   refine a0G ?_
   replace hr:=b8 hr
   obtain⟨x46,h_4,x49,h_5,hr⟩:=hr
   refine zz ?_
   refine xw (v:=(aM x49)) (cP rfl (vF (C:=aH) (K:=37) (fun _=>rfl) rfl h_5 (nJ (ds:=(aL (eI .u8) x49.Out.Tx [eI .u32 x49.Out.Index,eI .i64 x49.Output.Value,.row none 1 (x49.Output.Script.map (eI .u8)),eI .i64 x49.Height,eB x49.Coinbase])) rC rfl zl rfl))) ?_
   refine zz ?_
   refine a0I ?_
   refine bV (j8 N p l vs dA k l2 l3 vi x46 x49 (c6 N p l vs dA k l2 l3 m4)) (fun x63=>[(2,eI .u8 vs),(3,.ptr 0 0),(4,.ptr 1 0),(8,.sl 2 0 l2.length 4 true),(9,eI .i64 dA),(10,.sl 3 0 l3.length 37 true),(11,eI .u8 k),(12,eI .i64 (l3.length:Int)),(13,eI .i64 vi),(14,eI .i64 x46),(15,.ptr 4 0),(63,eB x63)]) (fun x63=>[some ⟨34,bE p⟩,some ⟨44,bI l⟩,some ⟨91,l2.flatMap aR⟩,some ⟨80,l3.flatMap aH⟩,some ⟨80,aH x49⟩]) ?_ (body:= ?_)
   rotate_left
   ·clear hr
    intro x63 hr
    refine zk hr ?_ ?_<;>clear hr<;>intro h6 hr
    ·exact zE
    replace hr:=aN hr
    obtain⟨x69,h_7,hr⟩:=hr
    refine zz ?_
    refine zc (aEl h_7) [] ?_
    replace hr:=aN hr
    obtain⟨x75,h_8,hr⟩:=hr
    refine zz ?_
    refine a0V (zQ [1,1,1,1,1,0,1,1])<|a0V (zQ [1,1,1,1,1,0,0,1])<|mC aR 4 [aD.mk x69.1 x69.2.1 x69.2.2.1 x69.2.2.2.1] ?_
    refine zz ?_
    refine bV (j9 N p l vs dA k x69 x75 (c6 N p l vs dA k l2 l3 m4)) (fun jV=>[(2,eI .u8 vs),(3,.ptr 0 0),(4,.ptr 1 0),(8,.sl 2 0 x75.length 4 true),(9,eI .i64 (a0J.wrap (dA+x69.2.2.2.2))),(10,.sl 3 0 jV.length 37 true),(11,eI .u8 k),(16,.ptr 4 0)]) (fun jV=>[some ⟨34,bE p⟩,some ⟨44,bI l⟩,some ⟨91,x75.flatMap aR⟩,some ⟨80,jV.flatMap aH⟩,some ⟨91,[eI .u32 x69.1,.row none 35 (x69.2.1.map bU),.row none 2 (x69.2.2.1.map cH),eI .u32 x69.2.2.2.1]⟩]) ?_ (body:= ?_)
    rotate_left
    ·clear hr
     intro jV hr
     replace hr:=b8 hr
     obtain⟨x89,h_9,q,h_10,hr⟩:=hr
     refine zz ?_
     refine xp (zY h_9) ?_
     refine zz ?_
     refine bV (tR N p l vs dA k x69 x75 (c6 N p l vs dA k l2 l3 m4)) (fun aPS=>[(2,eI .u8 vs),(3,.ptr 0 0),(4,.ptr 1 0),(8,.sl 2 0 x75.length 4 true),(9,eI .i64 (a0J.wrap (dA+x69.2.2.2.2))),(10,.sl 3 0 aPS.length 37 true),(11,eI .u8 k)]) (fun aPS=>[some ⟨34,bE p⟩,some ⟨44,bI l⟩,some ⟨91,x75.flatMap aR⟩,some ⟨80,aPS.flatMap aH⟩]) ?_
     replace hr:=aN hr
     obtain⟨res9,hL9,hr⟩:=hr
     refine zz ?_
     refine a0G<|dB hL9 (fun x93 l3_4=>[(2,eI .u8 vs),(3,.ptr 0 0),(4,.ptr 1 0),(8,.sl 2 0 x75.length 4 true),(9,eI .i64 (a0J.wrap (dA+x69.2.2.2.2))),(10,.sl 3 0 l3_4.length 37 true),(11,eI .u8 k),(18,.ptr 4 0),(91,.row none 2 (x69.2.2.1.map cH)),(92,eI .i64 (x69.2.2.1.length:Int)),(93,eI .i64 x93)]) (fun x93 l3_4=>[some ⟨34,bE p⟩,some ⟨44,bI l⟩,some ⟨91,x75.flatMap aR⟩,some ⟨80,l3_4.flatMap aH⟩,some ⟨26,x89.map (eI .u8)⟩]) (round:= ?_)
     intro m9 x93 l3_4 hr
     refine zz ?_
     refine a0I ?_
     refine zk hr ?_ ?_<;>clear hr<;>intro h11 hr<;>refine zz ?_
     ·refine a0I<|a0G ?_
      replace hr:=b8 hr
      obtain⟨x96,h_12,aXw,h_13,hr⟩:=hr
      refine zz ?_
      refine xw (v:=(.agg (aL (eI .u8) x89 [eI .u32 (a0K.wrap x93)]))) (cI rfl (aI6 (ps':=[(0,.agg (aL (eI .u8) x89 [])),(1,eI .u32 (a0K.wrap x93))]) (by simp only[dG (l:=x89) (aT h_10)]<;>rfl) (iM lU aIY (by kernel_rfl)))) ?_
      refine zz ?_
      refine xw (v:=(.agg (aL (eI .u8) x89 [eI .u32 (a0K.wrap x93),eI .i64 x96.Value,.row none 1 (x96.Script.map (eI .u8)),eI .i64 (a0J.wrap (l.Height+1)),eB false]))) (cI rfl (iM rC aQU rfl))<|mC aH 37 [aA.mk (aC.mk x89 (a0K.wrap x93)) x96 (a0J.wrap (l.Height+1)) false] ?_
      exact zE
     exact zE
    rcases a0M (decide (a0J.wrap (x46+1)=(l3.length:Int)))with h14|h14
    ·replace hr:=aEp hr h14
     replace hr:=b8 hr
     obtain⟨x82,h_15,x87,h_16,hr⟩:=hr
     refine a0Q mixed [] [] [[0,1,2,3,4,5,6,7],[8,9]]<|zz ?_
     refine xw (v:=(.sl 3 0 x82.length 37 true)) (aPF rfl rfl rfl rfl (a0t (l:=l3) rfl aKH rC rfl h_15)) ?_
     refine zz ?_
     refine xw (v:=(.row none 37 ([].map aM))) (xW rfl rfl rfl (aZr (l:=l3) rfl aKH rC rfl rfl (of_decide_eq_true h14) (aWG h_5))) ?_
     refine zz ?_
     refine⟨_,_,Ghost.cutF (t:=82) (C:=aH) (l:=l3) (K:=37) (h':=[some ⟨34,bE p⟩,some ⟨44,bI l⟩,none,some ⟨80,x82.flatMap aH⟩,some ⟨80,aH x49⟩,none,none,some ⟨91,[eI .u32 x69.1,.row none 35 (x69.2.1.map bU),.row none 2 (x69.2.2.1.map cH),eI .u32 x69.2.2.2.1]⟩,some ⟨91,[aD.mk x69.1 x69.2.1 x69.2.2.1 x69.2.2.2.1].flatMap aR⟩,some ⟨91,x75.flatMap aR⟩]) (fun _=>rfl) rfl rfl h_15 rfl, ?_⟩
     exact zE
    replace hr:=aFE hr h14
    refine a0X (zv 3) ?_
    replace hr:=fE hr
    obtain⟨aWe,h_17,x86,h_18,aPv,h_19,hr⟩:=hr
    refine a0Q mixed [] [] [[0,1,2,3,4,5,6,7,8,9]]<|zz ?_
    refine xw (v:=(.sl 10 0 aPv.length 37 true)) (h':=[some ⟨34,bE p⟩,some ⟨44,bI l⟩,none,none,some ⟨80,aH x49⟩,none,none,some ⟨91,[eI .u32 x69.1,.row none 35 (x69.2.1.map bU),.row none 2 (x69.2.2.1.map cH),eI .u32 x69.2.2.2.1]⟩,some ⟨91,[aD.mk x69.1 x69.2.1 x69.2.2.1 x69.2.2.2.1].flatMap aR⟩,some ⟨91,x75.flatMap aR⟩,some ⟨80,aPv.flatMap aH⟩]) (tP rfl rfl (aZl (C:=aH) (K:=37) (fun _=>rfl) aKH rC ⟨rfl,rfl,zl,zl⟩ (aVT (C:=aH)) (aXb h_18 h14) rfl h_19 rfl rfl)) ?_
    exact zE
   exact zE
  exact zE
 exact zE
instance :CtC 32 false (aX @sZ):=⟨@sZ⟩
theorem t7 {N p height r} (hr:mR N p height=some r):
  Fp 34 [] [cT p,eI .i64 height] (eI .i64 r) []:=by
 refine bR func34 ntmps34 results34 fun hR=> ?_
 unfold mR at hr
 refine zz ?_
 refine a0I ?_
 refine bV (oM N p height) (fun x13=>[(1,eI .i64 height),(2,.ptr 0 0),(13,eB x13)]) (fun x13=>[some ⟨34,bE p⟩]) ?_ (body:= ?_)
 rotate_left
 ·clear hr
  intro x13 hr
  unfold oM at hr
  refine zk hr ?_ ?_<;>intro h1 hr<;>refine zz ?_
  ·exact zE
  refine bV (aFT N) (fun vs=>[(5,eI .i64 vs)]) (fun vs=>[]) ?_
  obtain⟨x19,h_2,aBK,hL3,hr⟩:=b8 hr
  refine zz ?_
  refine a0G<|dB hL3 (fun sI vn=>[(5,eI .i64 sI),(6,eI .i64 vn)]) (fun sI vn=>[]) (round:= ?_)
  intro m3 sI vn hr
  rw[jI]at hr
  refine a0I ?_
  refine bV (tW N sI vn (jI N m3)) (fun x25=>[(5,eI .i64 sI),(6,eI .i64 vn),(25,eB x25)]) (fun x25=>[]) ?_
  exact zE
 exact zE
instance :CtC 34 true (aX @t7):=⟨@t7⟩
theorem aFx {N r} (hr:aON N=some r):
  Fp 71 [] [] (cR r) []:=
 fR func71 ntmps71 results71
instance :CtC 71 true (aX @aFx):=⟨@aFx⟩
theorem aAU {N height value script r} (hr:aEo N height value script=some r):
  Fp 33 [] [eI .i64 height,eI .i64 value,.row none 1 (script.map (eI .u8))] (aY r) []:=by
 refine bR func33 ntmps33 results33 fun hR=> ?_
 obtain⟨x7,h_1,hr⟩:=aN hr
 refine zz ?_
 refine xp (aFx h_1) ?_
 refine zz ?_
 refine xw (v:=(.agg (aL (eI .u8) x7.Tx [eI .u32 x7.Index,eI .u32 (a0K.wrap height),.row (some true) 1 []]))) (cI rfl (iM aKr aSk rfl))<|mC fJ 35 [bL.mk x7 (a0K.wrap height) []] ?_
 refine zz ?_
 refine mC cK 2 [aQ.mk value script] ?_
 exact zE
instance :CtC 33 true (aX @aAU):=⟨@aAU⟩
theorem aEa {N t r} (hr:yM N t=some r):
  Fp 76 [] [aY t] (.agg (r.map (eI .u8))) []:=
 fR func76 ntmps76 results76
instance :CtC 76 true (aX @aEa):=⟨@aEa⟩
theorem qB {N l r} (hr:nL N l=some r):
  Fp 91 [] [.row none 1 (l.map (eL 1 (eI .u8)))] (.sl 0 0 r.length 1 false) [some ⟨5,r.map (eI .u8)⟩]:=by
 refine bR func91 ntmps91 results91 fun hR=> ?_
 refine zz ?_
 refine bV (aJp N) (fun l0=>[(3,.sl 0 0 l0.length 1 false)]) (fun l0=>[some ⟨5,l0.map (eI .u8)⟩]) ?_
 obtain⟨cM,hL2,hr⟩:=aN hr
 refine zz ?_
 exact a0G<|dB hL2 (fun x8 aK=>[(3,.sl 0 0 aK.length 1 false),(6,.row none 1 (l.map (eL 1 (eI .u8)))),(7,eI .i64 (l.length:Int)),(8,eI .i64 x8)]) (fun x8 aK=>[some ⟨5,aK.map (eI .u8)⟩]) (h0:=(zW 5 [0]))
instance :CtC 91 false (aX @qB):=⟨@qB⟩
theorem aD5 {N l vr r} (hr:xV N l vr=some r):
  Fp 171 [] [.agg (l.map (eI .u8)),.agg (vr.map (eI .u8))] (.agg (r.map (eI .u8))) []:=by
 refine bR func171 ntmps171 results171 fun hR=> ?_
 refine zz ?_
 refine a0I ?_
 obtain⟨q,h_1,q_1,h_2,x9,h_3,x10,h_5,q_2,h_7,hr⟩:=aIJ hr
 refine a0Q mixed [] [91,132] [[0,1,2],[3,4,5,6]]<|zz ?_
 refine⟨_,_,a0Y (a0Y (zv 3) (zv 0)) (zv 1), ?_⟩
 refine zz ?_
 refine y7 (qB h_3) [] [4] ?_
 refine y7 (i9 h_5) [] [5] ?_
 refine zz ?_
 replace hr:=sj hr
 subst hr
 exact zr1 Tryz.results171 dO (zG [])
instance :CtC 171 true (aX @aD5):=⟨@aD5⟩
theorem aBo {N l r} (hr:aBF N l=some r):
  Fp 126 [] [.row none 32 (l.map (eA (eI .u8)))] (.sl 0 0 r.length 1 false) [some ⟨140,r.map (eL 32 (eA (eI .u8)))⟩]:=by
 refine bR func126 ntmps126 results126 fun hR=> ?_
 refine zz ?_
 refine bV (aB4 N) (fun l0=>[(3,.sl 0 0 l0.length 1 false)]) (fun l0=>[some ⟨140,l0.map (eL 32 (eA (eI .u8)))⟩]) ?_
 obtain⟨cM,hL2,hr⟩:=aN hr
 refine a0G<|dB hL2 (fun l_1 aK=>[(0,.row none 32 (l_1.map (eA (eI .u8)))),(3,.sl 0 0 aK.length 1 false)]) (fun l_1 aK=>[some ⟨140,aK.map (eL 32 (eA (eI .u8)))⟩]) (round:= ?_)
 intro m2 l_1 aK hr
 refine a0I<|zz ?_
 refine zk hr ?_ ?_<;>clear hr<;>intro h1 hr<;>refine zz ?_
 ·refine a0G ?_
  refine zz ?_
  refine bV (vG N aK (iP N m2)) (fun l1=>[(3,.sl 0 0 aK.length 1 false),(4,.sl 1 0 l1.length 32 true)]) (fun l1=>[some ⟨140,aK.map (eL 32 (eA (eI .u8)))⟩,some ⟨26,l1.flatMap (dN (eI .u8))⟩]) ?_ (body:= ?_)
  rotate_left
  ·clear hr
   intro l1 hr
   replace hr:=b8 hr
   obtain⟨q,h_2,x45,h_3,hr⟩:=hr
   refine zz ?_
   refine a0V (zQ [1,0]) ?_
   exact zE
  replace hr:=aN hr
  obtain⟨res4,hL4,hr⟩:=hr
  refine zz ?_
  refine a0G<|dB hL4 (fun vi bH=>[(0,.row none 32 (l_1.map (eA (eI .u8)))),(3,.sl 0 0 aK.length 1 false),(4,.sl 1 0 bH.length 32 true),(5,eI .i64 vi)]) (fun vi bH=>[some ⟨140,aK.map (eL 32 (eA (eI .u8)))⟩,some ⟨26,bH.flatMap (dN (eI .u8))⟩]) (h0:=(zW 26 [0,1])) (round:= ?_)
  intro m4 vi bH hr
  refine a0I<|zz ?_
  refine zk hr ?_ ?_<;>clear hr<;>intro h4 hr<;>refine zz ?_
  ·refine bV (kG N l_1 aK vi (dR N l_1 aK m4)) (fun cF=>[(0,.row none 32 (l_1.map (eA (eI .u8)))),(3,.sl 0 0 aK.length 1 false),(4,.sl 1 0 cF.length 32 true),(5,eI .i64 vi)]) (fun cF=>[some ⟨140,aK.map (eL 32 (eA (eI .u8)))⟩,some ⟨26,cF.flatMap (dN (eI .u8))⟩]) ?_
   refine a0G ?_
   refine zz ?_
   refine zk hr ?_ ?_<;>clear hr<;>intro h5 hr
   ·replace hr:=aNP hr
    obtain⟨x25,h_6,q_1,h_7,x30,h_8,q_2,h_9,x32,h_10,q_3,h_12,hr⟩:=hr
    replace hr:=aN hr
    obtain⟨x34,h_13,hr⟩:=hr
    refine a0Q mixed [171] [] [[0,1,2,3,4,5,6,7,8,9,10,11,12,13]]<|zz ?_
    refine xw (v:=(.agg (x25.map (eI .u8)))) (cP rfl (aIR (E:=(eI .u8)) iO rfl h_6 (aT h_7))) ?_
    refine zz ?_
    refine xw (v:=(.agg (x30.map (eI .u8)))) (cP rfl (aIR (E:=(eI .u8)) iO rfl h_8 (aT h_9)))<|xu (aD5 h_10)<|xw (v:=(.sl 2 0 1 32 true)) (h':=[some ⟨140,aK.map (eL 32 (eA (eI .u8)))⟩,some ⟨26,bH.flatMap (dN (eI .u8))⟩,some ⟨26,[x32].flatMap (dN (eI .u8))⟩]) (oG rfl (aJc (ps':=[(0,.agg (dN (eI .u8) x32))]) (by simp only[aAO,dN,dG (l:=x32) (aT h_12)]) (aG0 (len:=1) (C:=(dN (eI .u8))) (xs:=[x32]) (K:=32) (fun _=>rfl) (fun _=>rfl) aES iO ⟨zl,zl,zl⟩ rfl rfl rfl rfl rfl rfl))) ?_
    exact zE
   replace hr:=fE hr
   obtain⟨x38,h_14,q_4,h_15,x41,h_16,hr⟩:=hr
   refine zz ?_
   refine xw (v:=(.agg (x38.map (eI .u8)))) (cP rfl (aIR (E:=(eI .u8)) iO rfl h_14 (aT h_15)))<|xw (v:=(.sl 2 0 1 32 true)) (h':=[some ⟨140,aK.map (eL 32 (eA (eI .u8)))⟩,some ⟨26,bH.flatMap (dN (eI .u8))⟩,some ⟨26,[x38].flatMap (dN (eI .u8))⟩]) (oG rfl (aJc (ps':=[(0,.agg (dN (eI .u8) x38))]) (by simp only[aAO,dN,dG (l:=x38) (aT h_15)]) (aG0 (len:=1) (C:=(dN (eI .u8))) (xs:=[x38]) (K:=32) (fun _=>rfl) (fun _=>rfl) aES iO ⟨zl,zl,zl⟩ rfl rfl rfl rfl rfl rfl))) ?_
   exact zE
  exact zE
 exact zE
instance :CtC 126 false (aX @aBo):=⟨@aBo⟩
theorem aEb {N l r} (hr:t8 N l=some r):
  Fp 77 [] [.row none 32 (l.map (eA (eI .u8)))] (.agg (r.map (eI .u8))) []:=by
 refine bR func77 ntmps77 results77 fun hR=> ?_
 unfold t8 at hr
 refine zz ?_
 refine a0I ?_
 refine bV (mQ N l) (fun x11=>[(0,.row none 32 (l.map (eA (eI .u8)))),(2,.ptr 0 0),(11,eB x11)]) (fun x11=>[some ⟨26,(a0F 32 0).map (eI .u8)⟩]) ?_ (body:= ?_)
 rotate_left
 ·clear hr
  intro x11 hr
  unfold mQ at hr
  refine zk hr ?_ ?_<;>intro h1 hr
  ·exact zE
  obtain⟨x14,h_2,hr⟩:=aN hr
  refine zz ?_
  refine zc (aBo h_2) [] ?_
  obtain⟨x19,h_3,x21,h_4,q,h_5,hr⟩:=fE hr
  refine zz ?_
  refine xw (v:=(.agg (x21.map (eI .u8)))) (cP rfl (aIR (E:=(eI .u8)) iO rfl h_4 (aT h_5))) ?_
  exact zE
 exact zE
instance :CtC 77 true (aX @aEb):=⟨@aEb⟩
theorem aD7 {N l r} (hr:tA N l=some r):
  Fp 36 [] [.row none 4 (l.map aY)] (.agg (r.map (eI .u8))) []:=by
 refine bR func36 ntmps36 results36 fun hR=> ?_
 refine zz ?_
 refine bV (aAA N) (fun l1=>[(2,.ptr 0 0),(3,.sl 1 0 l1.length 32 true)]) (fun l1=>[some ⟨26,(a0F 32 0).map (eI .u8)⟩,some ⟨26,l1.flatMap (dN (eI .u8))⟩]) ?_ (body:= ?_)
 rotate_left
 ·clear hr
  intro l1 hr
  obtain⟨q,h_1,x19,h_2,q_1,h_3,hr⟩:=fE hr
  refine zz ?_
  refine a0V (zQ [1,0])<|xp (aEb h_2) ?_
  exact zE
 obtain⟨cM,hL2,hr⟩:=aN hr
 refine zz ?_
 refine a0G<|dB hL2 (fun x8 bH=>[(2,.ptr 0 0),(3,.sl 1 0 bH.length 32 true),(6,.row none 4 (l.map aY)),(7,eI .i64 (l.length:Int)),(8,eI .i64 x8)]) (fun x8 bH=>[some ⟨26,(a0F 32 0).map (eI .u8)⟩,some ⟨26,bH.flatMap (dN (eI .u8))⟩]) (h0:=(zW 26 [0,1])) (round:= ?_)
 intro m2 x8 bH hr
 refine zz ?_
 refine a0I ?_
 refine zk hr ?_ ?_<;>clear hr<;>intro h4 hr<;>refine zz ?_
 ·refine a0I<|a0G ?_
  replace hr:=aAS hr
  obtain⟨x10,h_5,x14,h_6,q_2,h_7,x16,h_8,hr⟩:=hr
  refine zz ?_
  refine xp (aEa h_6)<|xw (v:=(.sl 3 0 1 32 true)) (h':=[some ⟨26,(a0F 32 0).map (eI .u8)⟩,some ⟨26,bH.flatMap (dN (eI .u8))⟩,some ⟨91,aR x10⟩,some ⟨26,[x14].flatMap (dN (eI .u8))⟩]) (oG rfl (aJc (ps':=[(0,.agg (dN (eI .u8) x14))]) (by simp only[aAO,dN,dG (l:=x14) (aT h_7)]) (aG0 (len:=1) (C:=(dN (eI .u8))) (xs:=[x14]) (K:=32) (fun _=>rfl) (fun _=>rfl) aES iO ⟨zl,zl,zl⟩ rfl rfl rfl rfl rfl rfl))) ?_
  exact zE
 exact zE
instance :CtC 36 true (aX @aD7):=⟨@aD7⟩
theorem aCr {N vs r} (hr:aFm N vs=some r):
  Fp 37 [] [eI .u8 vs] (eI .u32 r) []:=
 fR func37 ntmps37 results37
instance :CtC 37 true (aX @aCr):=⟨@aCr⟩
theorem aGe {N va b r} (hr:aG7 N va b=some r):
  Fp 168 [] [.agg (va.map (eI .u64)),.agg (b.map (eI .u64))] (.tup [.agg (r.1.map (eI .u64)),.agg (r.2.map (eI .u64))]) []:=by
 refine bR func168 ntmps168 results168 fun hR=> ?_
 refine zz ?_
 refine bV (aJ0 N) (fun l2=>[(4,.ptr 0 0),(5,.ptr 1 0),(6,.ptr 2 0)]) (fun l2=>[some ⟨31,(a0F 4 0).map (eI .u64)⟩,some ⟨31,(a0F 4 0).map (eI .u64)⟩,some ⟨245,l2.map (eI .u64)⟩]) ?_ (body:= ?_)
 rotate_left
 ·clear hr
  intro l2 hr
  refine a0I ?_
  obtain⟨q,h_1,x64,h_2,hr⟩:=b8 hr
  refine a0Q mixed [] [] [[0,1,2]]<|zz ?_
  refine xw (v:=(.sl 2 (a0U 0*1) x64.length 1 false)) (xW rfl rfl rfl (aYG (E:=(eI .u64)) (l:=l2) aPn aF6 rfl rfl rfl (aT h_1) zl rfl rfl h_2)) ?_
  refine xw (v:=(eI .i64 ((min x64.length (a0F 4 0).length:Nat):Int))) (h':=[some ⟨31,(a0F 4 0).map (eI .u64)⟩,some ⟨31,(cpy (a0F 4 0) x64).map (eI .u64)⟩,some ⟨245,l2.map (eI .u64)⟩]) (aQu rfl rfl (aU7 (E:=(eI .u64)) (l:=a0F 4 0) rfl aPs aF6 rfl rfl (aYb (l:=l2) rfl (fun _=>rfl) h_2) rfl)) ?_
  refine zz ?_
  refine a0I ?_
  obtain⟨x67,h_3,hr⟩:=aN hr
  refine a0Q mixed [] [] [[0,1,2]]<|zz ?_
  refine xw (v:=(.sl 2 (a0U 4*1) x67.length 1 false)) (xW rfl rfl rfl (aYG (E:=(eI .u64)) (l:=l2) aPn aF6 rfl rfl rfl (aT h_1) zl rfl rfl h_3)) ?_
  refine xw (v:=(eI .i64 ((min x67.length (a0F 4 0).length:Nat):Int))) (h':=[some ⟨31,(cpy (a0F 4 0) x67).map (eI .u64)⟩,some ⟨31,(cpy (a0F 4 0) x64).map (eI .u64)⟩,some ⟨245,l2.map (eI .u64)⟩]) (aQu rfl rfl (aU7 (E:=(eI .u64)) (l:=a0F 4 0) rfl aPs aF6 rfl rfl (aYb (l:=l2) rfl (fun _=>rfl) h_3) rfl)) ?_
  exact zE
 obtain⟨cM,hL2,hr⟩:=aN hr
 refine zz ?_
 refine a0G<|dB hL2 (fun x15 l4=>[(2,.ptr 0 0),(3,.ptr 1 0),(4,.ptr 2 0),(5,.ptr 3 0),(6,.ptr 4 0),(15,eI .i64 x15)]) (fun x15 l4=>[some ⟨31,va.map (eI .u64)⟩,some ⟨31,b.map (eI .u64)⟩,some ⟨31,(a0F 4 0).map (eI .u64)⟩,some ⟨31,(a0F 4 0).map (eI .u64)⟩,some ⟨245,l4.map (eI .u64)⟩]) (round:= ?_)
 intro m2 x15 l4 hr
 refine zz ?_
 refine a0I ?_
 refine zk hr ?_ ?_<;>clear hr<;>intro h6 hr<;>refine zz ?_
 ·refine bV (aFG N va b x15 (oB N va b m2)) (fun dQ=>[(2,.ptr 0 0),(3,.ptr 1 0),(4,.ptr 2 0),(5,.ptr 3 0),(6,.ptr 4 0),(15,eI .i64 x15)]) (fun dQ=>[some ⟨31,va.map (eI .u64)⟩,some ⟨31,b.map (eI .u64)⟩,some ⟨31,(a0F 4 0).map (eI .u64)⟩,some ⟨31,(a0F 4 0).map (eI .u64)⟩,some ⟨245,dQ.map (eI .u64)⟩]) ?_
  refine a0G ?_
  refine zz ?_
  refine sk2 (aFn N va b x15 (oB N va b m2)) (fun aEW rB=>[(2,.ptr 0 0),(3,.ptr 1 0),(4,.ptr 2 0),(5,.ptr 3 0),(6,.ptr 4 0),(7,eI .i64 x15),(8,eI .u64 aEW),(15,eI .i64 x15)]) (fun aEW rB=>[some ⟨31,va.map (eI .u64)⟩,some ⟨31,b.map (eI .u64)⟩,some ⟨31,(a0F 4 0).map (eI .u64)⟩,some ⟨31,(a0F 4 0).map (eI .u64)⟩,some ⟨245,rB.map (eI .u64)⟩]) ?_
  replace hr:=aN hr
  obtain⟨res5,hL5,hr⟩:=hr
  refine zz ?_
  refine a0G<|lp3 hL5 (fun carry_1 x18 l4_3=>[(2,.ptr 0 0),(3,.ptr 1 0),(4,.ptr 2 0),(5,.ptr 3 0),(6,.ptr 4 0),(7,eI .i64 x15),(8,eI .u64 carry_1),(15,eI .i64 x15),(18,eI .i64 x18)]) (fun carry_1 x18 l4_3=>[some ⟨31,va.map (eI .u64)⟩,some ⟨31,b.map (eI .u64)⟩,some ⟨31,(a0F 4 0).map (eI .u64)⟩,some ⟨31,(a0F 4 0).map (eI .u64)⟩,some ⟨245,l4_3.map (eI .u64)⟩]) (round:= ?_)
  intro m5 carry_1 x18 l4_3 hr
  refine zz ?_
  refine a0I ?_
  refine zk hr ?_ ?_<;>clear hr<;>intro h8 hr<;>refine zz ?_
  ·refine a0I<|a0G ?_
   refine zz ?_
   refine a0I ?_
   replace hr:=fE hr
   obtain⟨x23,h_9,x26,h_10,x28,h_11,hr⟩:=hr
   refine a0Q mixed [207] [] [[0,1,2,3,4,5,6,7,8,9,10,11]]<|zz ?_
   refine xu (wG h_11) ?_
   replace hr:=b8 hr
   obtain⟨x35,h_13,x38,h_14,hr⟩:=hr
   refine zz ?_
   refine xp (qL h_14) ?_
   replace hr:=aN hr
   obtain⟨x44,h_15,hr⟩:=hr
   refine zz ?_
   refine xp (qL h_15) ?_
   refine zz ?_
   exact⟨_,_,_,hr,zG [0,1,2,3,4]⟩
  exact zE
 exact zE
instance :CtC 168 true (aX @aGe):=⟨@aGe⟩
theorem aFQ {N va b r} (hr:aGJ N va b=some r):
  Fp 209 [] [.agg (va.map (eI .u64)),.agg (b.map (eI .u64))] (.tup [.agg (r.1.map (eI .u64)),eB r.2]) []:=by
 refine bR func209 ntmps209 results209 fun hR=> ?_
 refine zz ?_
 refine sk2 (aF8 N) (fun borrow l1=>[(4,.ptr 0 0),(6,.ptr 1 0),(7,eI .u64 borrow)]) (fun borrow l1=>[some ⟨31,(a0F 4 0).map (eI .u64)⟩,some ⟨31,l1.map (eI .u64)⟩]) ?_
 obtain⟨cM,hL2,hr⟩:=aN hr
 refine zz ?_
 exact a0G<|lp3 hL2 (fun borrow_1 x9 l3=>[(2,.ptr 0 0),(3,.ptr 1 0),(4,.ptr 2 0),(6,.ptr 3 0),(7,eI .u64 borrow_1),(9,eI .i64 x9)]) (fun borrow_1 x9 l3=>[some ⟨31,va.map (eI .u64)⟩,some ⟨31,b.map (eI .u64)⟩,some ⟨31,(a0F 4 0).map (eI .u64)⟩,some ⟨31,l3.map (eI .u64)⟩])
instance :CtC 209 true (aX @aFQ):=⟨@aFQ⟩
theorem aFK {N hi lo b r} (hr:aGS N hi lo b=some r):
  Fp 169 [] [.agg (hi.map (eI .u64)),.agg (lo.map (eI .u64)),.agg (b.map (eI .u64))] (.tup [.agg (r.1.map (eI .u64)),.agg (r.2.1.map (eI .u64)),eB r.2.2]) []:=by
 refine bR func169 ntmps169 results169 fun hR=> ?_
 refine zz ?_
 obtain⟨q,h_1,q_1,h_2,x13,h_3,hr⟩:=fE hr
 refine a0I<|zz ?_
 refine xp (aBk h_3) ?_
 refine zz ?_
 refine zk hr ?_ ?_<;>intro h4 hr
 ·refine a0I<|a0Z (cD []) (cD []) mixed<|a0L (m:=4) [0] ?_
  refine zz ?_
  refine a0T (m:=2) (L:=lst [0,1,2] 5) (s1:=aG 61 [(6,.ptr 0 0),(7,.ptr 1 0),(8,eB false),(16,.agg ((a0F 4 0).map (eI .u64)))]) (h1:=[some ⟨31,(a0F 4 0).map (eI .u64)⟩,some ⟨31,(a0F 4 0).map (eI .u64)⟩]) ?_ (fun J=> ?_)
  ·refine a0L (m:=0) [3,4]<|zz ?_
   refine a0P (by decide +kernel) ?_
   refine zz ?_
   replace hr:=sj hr
   subst hr
   exact zr3 Tryz.results169 dO dO dO (zg' [])
  refine a0R (n:=3) [1,2] ⟨?_, ?_,trivial⟩
  ·refine zz ?_
   refine a0L (m:=2) [2]<|zz ?_
   refine a0N J ?_
   exact(zG [3,4])
  refine zz ?_
  refine a0L (m:=2) [1]<|zz ?_
  refine a0N J ?_
  exact(zG [3,4])
 refine zz ?_
 refine sk2 (aFo N) (fun l0 l1=>[(6,.ptr 0 0),(7,.ptr 1 0)]) (fun l0 l1=>[some ⟨31,l0.map (eI .u64)⟩,some ⟨31,l1.map (eI .u64)⟩]) ?_ (body:= ?_)
 rotate_left
 ·clear hr
  intro l0 l1 hr
  refine a0I ?_
  obtain⟨q_2,h_5,q_3,h_6,hr⟩:=b8 hr
  refine a0Z (cD []) (cD []) mixed<|a0L (m:=4) [0] ?_
  refine zz ?_
  refine a0T (m:=2) (L:=lst [0,1,2] 5) (s1:=aG 61 [(6,.ptr 0 0),(7,.ptr 1 0),(60,.agg (l1.map (eI .u64)))]) (h1:=[some ⟨31,l0.map (eI .u64)⟩,some ⟨31,l1.map (eI .u64)⟩]) ?_ (fun J=> ?_)
  ·refine a0L (m:=0) [3,4]<|zz ?_
   refine a0P (by decide +kernel) ?_
   refine zz ?_
   replace hr:=sj hr
   subst hr
   exact zr3 Tryz.results169 dO dO dO (zg' [])
  refine a0R (n:=3) [1,2] ⟨?_, ?_,trivial⟩
  ·refine zz ?_
   refine a0L (m:=2) [2]<|zz ?_
   refine a0N J ?_
   exact(zG [0,1])
  refine zz ?_
  refine a0L (m:=2) [1]<|zz ?_
  refine a0N J ?_
  exact(zG [0,1])
 obtain⟨cM,hL2,hr⟩:=aN hr
 refine zz ?_
 refine a0G<|lp3 hL2 (fun vi l2 l3=>[(4,.ptr 0 0),(5,.ptr 1 0),(6,.ptr 2 0),(7,.ptr 3 0),(9,eI .i64 vi)]) (fun vi l2 l3=>[some ⟨31,lo.map (eI .u64)⟩,some ⟨31,b.map (eI .u64)⟩,some ⟨31,l2.map (eI .u64)⟩,some ⟨31,l3.map (eI .u64)⟩]) (round:= ?_)
 intro m2 vi l2 l3 hr
 refine a0I<|zz ?_
 refine zk hr ?_ ?_<;>clear hr<;>intro h7 hr<;>refine zz ?_
 ·refine sk2 (aCm N lo b vi (gV N lo b m2)) (fun eZ eF=>[(4,.ptr 0 0),(5,.ptr 1 0),(6,.ptr 2 0),(7,.ptr 3 0),(9,eI .i64 vi)]) (fun eZ eF=>[some ⟨31,lo.map (eI .u64)⟩,some ⟨31,b.map (eI .u64)⟩,some ⟨31,eZ.map (eI .u64)⟩,some ⟨31,eF.map (eI .u64)⟩]) ?_ (body:= ?_)
  rotate_left
  ·clear hr
   intro eZ eF hr
   refine zz ?_
   exact⟨_,_,_,hr,zG [0,1,2,3]⟩
  refine a0G ?_
  replace hr:=b8 hr
  obtain⟨q_4,h_8,x23,h_9,hr⟩:=hr
  refine zz ?_
  refine xp (aCs h_9) ?_
  replace hr:=b8 hr
  obtain⟨x27,h_10,q_5,h_11,hr⟩:=hr
  refine zz ?_
  refine xp (aFI h_10) ?_
  refine zz ?_
  refine bV (wT N lo b vi l2 x23 (gV N lo b m2)) (fun jV=>[(4,.ptr 0 0),(5,.ptr 1 0),(6,.ptr 2 0),(7,.ptr 3 0),(9,eI .i64 vi),(10,eB x23)]) (fun jV=>[some ⟨31,lo.map (eI .u64)⟩,some ⟨31,b.map (eI .u64)⟩,some ⟨31,l2.map (eI .u64)⟩,some ⟨31,jV.map (eI .u64)⟩]) ?_ (body:= ?_)
  rotate_left
  ·clear hr
   intro jV hr
   refine bV (w7 N lo b vi l2 jV (gV N lo b m2)) (fun x43=>[(4,.ptr 0 0),(5,.ptr 1 0),(6,.ptr 2 0),(7,.ptr 3 0),(9,eI .i64 vi),(43,eB x43)]) (fun x43=>[some ⟨31,lo.map (eI .u64)⟩,some ⟨31,b.map (eI .u64)⟩,some ⟨31,l2.map (eI .u64)⟩,some ⟨31,jV.map (eI .u64)⟩]) ?_ (body:= ?_)
   rotate_left
   ·clear hr
    intro x43 hr
    refine zk hr ?_ ?_<;>clear hr<;>intro h12 hr
    ·replace hr:=fE hr
     obtain⟨q_6,h_13,x47,h_14,q_7,h_15,hr⟩:=hr
     refine zz ?_
     refine xp (aFQ h_14) ?_
     replace hr:=b8 hr
     obtain⟨x52,h_16,x56,h_17,hr⟩:=hr
     refine zz ?_
     refine a0Q mixed [] [] [[0,1,2,3,4,5,6,7,8,9]]<|zz ?_
     exact⟨_,_,hr,zG [0,1,2,3]⟩
    refine zz ?_
    exact⟨_,_,hr,zG [0,1,2,3]⟩
   rcases a0M x23 with h18|h18
   ·replace hr:=aEp hr h18
    refine xr<|zz ?_
    exact⟨_,hr,zG [0,1,2,3]⟩
   replace hr:=aFE hr h18
   replace hr:=b8 hr
   obtain⟨q_8,h_19,x41,h_20,hr⟩:=hr
   refine xr<|zz ?_
   refine xCg (v:=(eI .i64 x41)) (h':=[some ⟨31,lo.map (eI .u64)⟩,some ⟨31,b.map (eI .u64)⟩,some ⟨31,l2.map (eI .u64)⟩,some ⟨31,jV.map (eI .u64)⟩]) rfl rfl h18 rfl (Vm.Fn.pure (aBk h_20) zR rfl) ?_
   refine zz ?_
   exact⟨_,hr,zG [0,1,2,3]⟩
  replace hr:=b8 hr
  obtain⟨q_9,h_21,x32,h_22,hr⟩:=hr
  refine zz ?_
  refine xp (aCs h_22) ?_
  refine zz ?_
  refine zk hr ?_ ?_<;>clear hr<;>intro h23 hr
  ·replace hr:=aN hr
   obtain⟨x33,h_24,hr⟩:=hr
   refine zz ?_
   exact⟨_,hr,zG [0,1,2,3]⟩
  exact zE
 exact zE
instance :CtC 169 true (aX @aFK):=⟨@aFK⟩
theorem aFA {N t r} (hr:aAp N t=some r):
  Fp 170 [] [.agg (t.map (eI .u64))] (eI .u32 r) []:=by
 refine bR func170 ntmps170 results170 fun hR=> ?_
 refine zz ?_
 obtain⟨q,h_1,x6,h_2,hr⟩:=b8 hr
 refine a0I<|zz ?_
 refine xp (uA h_2) ?_
 refine zz ?_
 refine zk hr ?_ ?_<;>intro h3 hr
 ·exact zE
 obtain⟨aNq,hL1,hr⟩:=aN hr
 refine zz ?_
 refine a0G<|gQ hL1 (fun x=>[(1,.ptr 0 0),(3,eI .i64 x)]) (fun x=>[some ⟨31,t.map (eI .u64)⟩]) (round:= ?_)
 intro m1 x hr
 refine fT (pE N t x (eD N t m1)) [(1,.ptr 0 0),(3,eI .i64 x)] [some ⟨31,t.map (eI .u64)⟩] ?_
 refine a0G ?_
 refine zz ?_
 refine bV (oK N t x (eD N t m1)) (fun l1=>[(1,.ptr 0 0),(3,eI .i64 x),(4,.ptr 1 0)]) (fun l1=>[some ⟨31,t.map (eI .u64)⟩,some ⟨31,l1.map (eI .u64)⟩]) ?_
 exact zE
instance :CtC 170 true (aX @aFA):=⟨@aFA⟩
theorem aGQ {N p kM first last r} (hr:aBm N p kM first last=some r):
  Fp 124 [] [cT p,eI .u32 kM,eI .u32 first,eI .u32 last] (.tup [eI .u32 r.1,eI .i64 r.2]) []:=by
 refine bR func124 ntmps124 results124 fun hR=> ?_
 refine zz ?_
 obtain⟨x20,h_1,hr⟩:=aN hr
 refine a0I<|zz ?_
 refine xp (k8 h_1) ?_
 refine zz ?_
 refine zk hr ?_ ?_<;>intro h2 hr
 ·exact zE
 obtain⟨x24,h_3,q,h_4,hr⟩:=b8 hr
 refine zz ?_
 refine xp (vV h_3) ?_
 refine zz ?_
 refine a0I<|zz ?_
 refine zk hr ?_ ?_<;>intro h5 hr<;>refine zz ?_
 ·exact zE
 refine bV (qE N p x24) (fun u2=>[(4,.ptr 0 0),(10,.ptr 1 0),(12,eI .u64 (a0H.wrap ((a0H.wrap p.Window)*(a0H.wrap p.Spacing)))),(13,eI .u64 u2)]) (fun u2=>[some ⟨34,bE p⟩,some ⟨31,x24.1.map (eI .u64)⟩]) ?_ (body:= ?_)
 rotate_left
 ·clear hr
  intro u2 hr
  refine zz ?_
  refine xw (v:=(eI .u64 (if(a0H.wrap (a0W (a0H.wrap ((a0H.wrap p.Window)*(a0H.wrap p.Spacing))) 4))>u2 then(a0H.wrap (a0W (a0H.wrap ((a0H.wrap p.Window)*(a0H.wrap p.Spacing))) 4))else u2))) (aZz rfl aZh) ?_
  refine zz ?_
  refine xw (v:=(eI .u64 (if(a0H.wrap (4*(a0H.wrap ((a0H.wrap p.Window)*(a0H.wrap p.Spacing)))))<(if(a0H.wrap (a0W (a0H.wrap ((a0H.wrap p.Window)*(a0H.wrap p.Spacing))) 4))>u2 then(a0H.wrap (a0W (a0H.wrap ((a0H.wrap p.Window)*(a0H.wrap p.Spacing))) 4))else u2)then(a0H.wrap (4*(a0H.wrap ((a0H.wrap p.Window)*(a0H.wrap p.Spacing)))))else(if(a0H.wrap (a0W (a0H.wrap ((a0H.wrap p.Window)*(a0H.wrap p.Spacing))) 4))>u2 then(a0H.wrap (a0W (a0H.wrap ((a0H.wrap p.Window)*(a0H.wrap p.Spacing))) 4))else u2)))) (aPo rfl aPg) ?_
  refine zz ?_
  refine a0I ?_
  obtain⟨x54,h_6,x55,h_8,q_1,h_10,q_2,h_11,hr⟩:=aAS hr
  refine a0Z (cD [165,168]) (cD []) mixed<|a0L (m:=4) [0,1,2,3,4,5,6] ?_
  refine zz ?_
  refine xu (kO h_6)<|xu (aGe h_8) ?_
  refine zz ?_
  refine a0T (m:=1) (L:=lst [0,1,2,3,4,5,6,7,8,9] 11) (s1:=aG 83 [(4,.ptr 0 0),(12,eI .u64 (a0H.wrap ((a0H.wrap p.Window)*(a0H.wrap p.Spacing)))),(14,.ptr 1 0),(15,.ptr 2 0),(57,.agg (x55.2.map (eI .u64)))]) (h1:=[some ⟨34,bE p⟩,some ⟨31,x55.1.map (eI .u64)⟩,some ⟨31,(a0F 4 0).map (eI .u64)⟩]) ?_ (fun J=> ?_)
  ·refine a0L (m:=0) [10]<|zz ?_
   refine a0P (by decide +kernel) ?_
   refine zz ?_
   refine a0I ?_
   obtain⟨x62,h_12,x63,h_14,q_3,h_16,q_4,h_17,hr⟩:=aAS hr
   refine a0Z (cD [165,169]) (cD []) mixed<|a0L (m:=5) [0,1,2,3,4,5,6,7,8] ?_
   refine zz ?_
   refine xu (kO h_12)<|xu (aFK h_14) ?_
   refine zz ?_
   refine a0T (m:=1) (L:=lst [0,1,2,3,4,5,6,7,8,9,10,11,12] 14) (s1:=aG 83 [(4,.ptr 0 0),(16,.ptr 1 0),(66,eB x63.2.2)]) (h1:=[some ⟨34,bE p⟩,some ⟨31,x63.1.map (eI .u64)⟩]) ?_ (fun J=> ?_)
   ·refine a0L (m:=0) [13]<|zz ?_
    refine a0P (by decide +kernel) ?_
    refine zz ?_
    refine bV (qD N) (fun l0=>[(16,.ptr 0 0)]) (fun l0=>[some ⟨31,l0.map (eI .u64)⟩]) ?_ (body:= ?_)
    rotate_left
    ·clear hr
     intro l0 hr
     refine bV (qK N) (fun aK=>[(16,.ptr 0 0)]) (fun aK=>[some ⟨31,aK.map (eI .u64)⟩]) ?_
     obtain⟨q_6,h_20,x79,h_21,hr⟩:=b8 hr
     refine zz ?_
     refine xp (uA h_21) ?_
     refine zz ?_
     refine zk hr ?_ ?_<;>intro h22 hr
     ·obtain⟨x80,h_23,q_7,h_24,hr⟩:=b8 hr
      refine zz ?_
      refine xp (kO h_23) ?_
      refine zz ?_
      exact⟨_,hr,zG [0]⟩
     exact zE
    refine bV (qF N p x63) (fun x75=>[(4,.ptr 0 0),(16,.ptr 1 0),(75,eB x75)]) (fun x75=>[some ⟨34,bE p⟩,some ⟨31,x63.1.map (eI .u64)⟩]) ?_
    exact zE
   refine a0R (n:=4) [9,10] ⟨?_, ?_,trivial⟩
   ·refine zz ?_
    refine a0L (m:=1) [10,11,12]<|zz ?_
    refine a0N J ?_
    exact(zG [0,3])
   refine zz ?_
   refine a0L (m:=1) [9,11,12]<|zz ?_
   refine a0N J ?_
   exact(zG [0,4])
  refine a0R (n:=3) [7,8] ⟨?_, ?_,trivial⟩
  ·refine zz ?_
   refine a0L (m:=1) [8,9]<|zz ?_
   refine a0N J ?_
   exact(zG [0,2,3])
  refine zz ?_
  refine a0L (m:=1) [7,9]<|zz ?_
  refine a0N J ?_
  exact(zG [0,3,2])
 exact zE
instance :CtC 124 true (aX @aGQ):=⟨@aGQ⟩
theorem aAu {N p c r} (hr:yG N p c=some r):
  Fp 73 [] [cT p,hP c] (.tup [eI .u32 r.1,eI .i64 r.2]) []:=by
 refine bR func73 ntmps73 results73 fun hR=> ?_
 unfold yG at hr
 refine zz ?_
 refine a0I ?_
 refine bV (kV N p c) (fun x30=>[(2,.ptr 0 0),(3,.ptr 1 0),(30,eB x30)]) (fun x30=>[some ⟨34,bE p⟩,some ⟨51,b9 c⟩]) ?_
 exact zE
instance :CtC 73 true (aX @aAu):=⟨@aAu⟩
theorem vI {N l r} (hr:sJ N l=some r):
  Fp 74 [] [.row none 1 (l.map (eI .u32))] (eI .u32 r) []:=by
 refine bR func74 ntmps74 results74 fun hR=> ?_
 unfold sJ at hr
 refine zz ?_
 refine bV (aBB N) (fun l0=>[(3,.sl 0 0 l0.length 1 false)]) (fun l0=>[some ⟨24,l0.map (eI .u32)⟩]) ?_
 obtain⟨cM,hL2,hr⟩:=aN hr
 refine zz ?_
 refine a0G<|dB hL2 (fun x9 aK=>[(3,.sl 0 0 aK.length 1 false),(7,.row none 1 (l.map (eI .u32))),(8,eI .i64 (l.length:Int)),(9,eI .i64 x9)]) (fun x9 aK=>[some ⟨24,aK.map (eI .u32)⟩]) (h0:=(zW 24 [0])) (round:= ?_)
 intro m2 x9 aK hr
 rw[iQ]at hr
 refine zz ?_
 refine a0I ?_
 refine zk hr ?_ ?_<;>clear hr<;>intro h3 hr<;>refine zz ?_
 ·refine bV (aB1 N l x9 (iQ N l m2)) (fun d9=>[(3,.sl 0 0 d9.length 1 false),(7,.row none 1 (l.map (eI .u32))),(8,eI .i64 (l.length:Int)),(9,eI .i64 x9)]) (fun d9=>[some ⟨24,d9.map (eI .u32)⟩]) ?_
  refine a0G ?_
  replace hr:=aN hr
  obtain⟨x11,h_4,hr⟩:=hr
  refine zz ?_
  refine bV (vU N l x9 aK x11 (iQ N l m2)) (fun vi=>[(3,.sl 0 0 aK.length 1 false),(5,eI .u32 x11),(6,eI .i64 vi),(7,.row none 1 (l.map (eI .u32))),(8,eI .i64 (l.length:Int)),(9,eI .i64 x9)]) (fun vi=>[some ⟨24,aK.map (eI .u32)⟩]) ?_ (body:= ?_)
  rotate_left
  ·clear hr
   intro vi hr
   unfold vU at hr
   refine a0X (zv 0) ?_
   replace hr:=aAS hr
   obtain⟨x30,h_5,x35,h_6,x36,h_7,x37,h_8,hr⟩:=hr
   refine a0Z (cD []) (cD []) mixed<|a0L (m:=4) [0,1,2,4,5,6,7,8] ?_
   refine zz ?_
   refine a0T (m:=2) (L:=lst [0,1,2,3,4,5,6,7,8,9] 12) (s1:=aG 48 [(3,.row none 1 (aK.map (eI .u32))),(7,.row none 1 (l.map (eI .u32))),(8,eI .i64 (l.length:Int)),(9,eI .i64 x9),(30,.row (some false) 1 (x30.map (eI .u32))),(36,.sl 0 0 x36.length 1 false)]) (h1:=[some ⟨24,x36.map (eI .u32)⟩]) ?_ (fun J=> ?_)
   ·refine a0L (m:=0) [10,11]<|xw (v:=(.sl 1 0 x37.length 1 false)) (h':=[some ⟨24,x36.map (eI .u32)⟩,some ⟨24,x37.map (eI .u32)⟩]) (tP rfl rfl (aXx (E:=(eI .u32)) aSK kC ⟨rfl,rfl,zl⟩ (fun _=>rfl) (aYV rfl rfl) (aXl h_7) rfl h_8 rfl rfl)) ?_
    refine zz ?_
    refine a0P (by decide +kernel) ?_
    exact zE
   refine a0R (n:=3) [3,9] ⟨?_, ?_,trivial⟩
   ·refine zz ?_
    refine a0L (m:=2) [9]<|zz ?_
    refine a0N J ?_
    exact(zG [2])
   refine zz ?_
   refine a0L (m:=2) [3]<|zz ?_
   refine a0N J ?_
   exact(zG [2])
  replace hr:=aN hr
  obtain⟨res5,hL5,hr⟩:=hr
  refine a0G<|gQ hL5 (fun mT=>[(3,.sl 0 0 aK.length 1 false),(5,eI .u32 x11),(6,eI .i64 mT),(7,.row none 1 (l.map (eI .u32))),(8,eI .i64 (l.length:Int)),(9,eI .i64 x9)]) (fun mT=>[some ⟨24,aK.map (eI .u32)⟩]) (round:= ?_)
  intro m5 mT hr
  rw[iS]at hr
  refine a0I ?_
  refine bV (qM N l x9 aK x11 mT (iS N l x9 aK x11 m5)) (fun x24=>[(3,.sl 0 0 aK.length 1 false),(5,eI .u32 x11),(6,eI .i64 mT),(7,.row none 1 (l.map (eI .u32))),(8,eI .i64 (l.length:Int)),(9,eI .i64 x9),(24,eB x24)]) (fun x24=>[some ⟨24,aK.map (eI .u32)⟩]) ?_
  exact zE
 exact zE
instance :CtC 74 true (aX @vI):=⟨@vI⟩
theorem aDO {N vh r} (hr:vX N vh=some r):
  Fp 125 [] [.agg (vh.map (eI .u8))] (.agg (r.map (eI .u64))) []:=by
 refine bR func125 ntmps125 results125 fun hR=> ?_
 refine zz ?_
 refine bV (w8 N) (fun l1=>[(2,.ptr 0 0),(3,.ptr 1 0)]) (fun l1=>[some ⟨31,(a0F 4 0).map (eI .u64)⟩,some ⟨31,l1.map (eI .u64)⟩]) ?_
 obtain⟨cM,hL2,hr⟩:=aN hr
 refine zz ?_
 exact a0G<|dB hL2 (fun x6 l2=>[(1,.ptr 0 0),(2,.ptr 1 0),(3,.ptr 2 0),(6,eI .i64 x6)]) (fun x6 l2=>[some ⟨26,vh.map (eI .u8)⟩,some ⟨31,(a0F 4 0).map (eI .u64)⟩,some ⟨31,l2.map (eI .u64)⟩])
instance :CtC 125 true (aX @aDO):=⟨@aDO⟩
theorem aDj {N vh kM r} (hr:aAd N vh kM=some r):
  Fp 75 [] [.agg (vh.map (eI .u8)),eI .u32 kM] (eB r) []:=by
 refine bR func75 ntmps75 results75 fun hR=> ?_
 obtain⟨x9,h_1,q,h_2,hr⟩:=b8 hr
 refine zz ?_
 refine xp (vV h_1) ?_
 refine zz ?_
 refine bV (aCP N) (fun x4=>[(4,eB x4)]) (fun x4=>[]) ?_
 exact zE
instance :CtC 75 true (aX @aDj):=⟨@aDj⟩
theorem aFr {N p c nH vby r} (hr:aGC N p c nH vby=some r):
  Fp 35 [] [cT p,hP c,.agg (nH.map (eI .u8)),eI .u32 vby] (oQ r) []:=by
 refine bR func35 ntmps35 results35 fun hR=> ?_
 obtain⟨x15,h_1,hr⟩:=aN hr
 refine zz ?_
 refine xp (aAu h_1) ?_
 refine zz ?_
 refine a0I ?_
 obtain⟨q,h_2,q_1,h_3,x25,h_4,hr⟩:=fE hr
 refine a0Q mixed [74] [] [[0,1,2,3,4,5,6,7,8,9,10,11,12,13,14]]<|zz ?_
 refine xu (vI h_4) ?_
 refine zz ?_
 refine xw (v:=(.agg ((eI .u32 p.Version)::(aL (eI .u8) c.Hash (aL (eI .u8) nH [eI .u32 (a0K.wrap ((a0K.wrap (x25+1))+vby)),eI .u32 x15.1,eI .u32 0]))))) (cI rfl (aI6 (ps':=[(0,eI .u32 p.Version),(1,.agg (aL (eI .u8) c.Hash [])),(2,.agg (aL (eI .u8) nH [])),(3,eI .u32 (a0K.wrap ((a0K.wrap (x25+1))+vby))),(4,eI .u32 x15.1)]) (by simp only[dG (l:=c.Hash) (aT h_2),dG (l:=nH) (aT h_3)]<;>rfl) (iM aEj aUs (by kernel_rfl)))) ?_
 refine zz ?_
 refine bV (aKb N p c nH vby x15 x25) (fun c1=>[(8,.ptr 0 0),(11,.ptr 1 0)]) (fun c1=>[some ⟨28,(eI .u32 0)::(aL (eI .u8) (a0F 32 0) (aL (eI .u8) (a0F 32 0) [eI .u32 0,eI .u32 0,eI .u32 0]))⟩,some ⟨28,(eI .u32 p.Version)::(aL (eI .u8) c.Hash (aL (eI .u8) nH [eI .u32 (a0K.wrap ((a0K.wrap (x25+1))+vby)),eI .u32 x15.1,eI .u32 c1]))⟩]) ?_
 obtain⟨cM,hL2,hr⟩:=aN hr
 refine zz ?_
 exact a0G<|gQ hL2 (fun u0=>[(8,.ptr 0 0),(9,eI .u32 x15.1),(11,.ptr 1 0)]) (fun u0=>[some ⟨28,(eI .u32 0)::(aL (eI .u8) (a0F 32 0) (aL (eI .u8) (a0F 32 0) [eI .u32 0,eI .u32 0,eI .u32 0]))⟩,some ⟨28,(eI .u32 p.Version)::(aL (eI .u8) c.Hash (aL (eI .u8) nH [eI .u32 (a0K.wrap ((a0K.wrap (x25+1))+vby)),eI .u32 x15.1,eI .u32 u0]))⟩])
instance :CtC 35 true (aX @aFr):=⟨@aFr⟩
theorem aEf {N p l c vs r} (hr:aEM N p l c vs=some r):
  Fp 10 [] [cT p,eE l,hP c,eI .u8 vs] (dZ r) []:=by
 refine bR func10 ntmps10 results10 fun hR=> ?_
 obtain⟨x16,h_1,hr⟩:=aN hr
 refine zz ?_
 refine zc (sZ h_1) [] ?_
 refine zz ?_
 refine a0I ?_
 obtain⟨x26,h_2,x31,h_4,x32,h_6,x35,h_8,hr⟩:=aAS hr
 refine a0Z (cD [20,33,34]) (cD []) mixed<|a0L (m:=5) [0,1,2,3,4,5,6,7,8,9,10,11,12,13,15] ?_
 refine zz ?_
 refine xu (t7 h_2) ?_
 refine zz ?_
 refine xu (n4 h_4)<|xu (aAU h_6) ?_
 refine zz ?_
 refine a0T (m:=1) (L:=lst [0,1,2,3,4,5,6,7,8,9,10,11,12,13,14,15,16,17,18] 20) (s1:=aG 47 [(3,eI .u8 vs),(4,.ptr 0 0),(6,.ptr 1 0),(8,.ptr 2 0),(11,.ptr 3 0),(36,.agg ((eI .u32 0)::(aL (eI .u8) (a0F 32 0) (aL (eI .u8) (a0F 32 0) [eI .u32 0,eI .u32 0,eI .u32 0,.sl 4 0 x35.length 4 true]))))]) (h1:=[some ⟨34,bE p⟩,some ⟨51,b9 c⟩,some ⟨47,(eI .u32 0)::(aL (eI .u8) (a0F 32 0) (aL (eI .u8) (a0F 32 0) [eI .u32 0,eI .u32 0,eI .u32 0,.row (some true) 1 []]))⟩,some ⟨47,(eI .u32 0)::(aL (eI .u8) (a0F 32 0) (aL (eI .u8) (a0F 32 0) [eI .u32 0,eI .u32 0,eI .u32 0,.row (some true) 1 []]))⟩,some ⟨91,x35.flatMap aR⟩]) ?_ (fun J=> ?_)
 ·refine a0L (m:=0) [19]<|zz ?_
  refine a0P (by decide +kernel) ?_
  refine zz ?_
  refine a0I ?_
  obtain⟨x41,h_9,x43,h_11,x44,h_13,hr⟩:=fE hr
  refine a0Q mixed [35,37] [36] [[0,1,2,3,4,5,6,7,8,9]]<|zz ?_
  refine y7 (aD7 h_9) [] [4] ?_
  refine zz ?_
  refine xu (aCr h_11)<|xu (aFr h_13) ?_
  exact zE
 refine a0R (n:=4) [14,18] ⟨?_, ?_,trivial⟩
 ·refine mC aR 4 [x32] ?_
  refine zz ?_
  refine a0R (n:=3) [16,18] ⟨?_, ?_,trivial⟩
  ·refine zz ?_
   refine a0L (m:=1) [17,18]<|xw (v:=(.agg ((eI .u32 0)::(aL (eI .u8) (a0F 32 0) (aL (eI .u8) (a0F 32 0) [eI .u32 0,eI .u32 0,eI .u32 0,.sl 6 0 x35.length 4 true]))))) (cI rfl (iM aKs aP4 rfl)) ?_
   refine zz ?_
   refine a0N J ?_
   exact(zG [0,2,3,7,6])
  refine zz ?_
  refine a0L (m:=1) [16,17]<|zz ?_
  refine xw (v:=(.agg ((eI .u32 0)::(aL (eI .u8) (a0F 32 0) (aL (eI .u8) (a0F 32 0) [eI .u32 0,eI .u32 0,eI .u32 0,.sl 7 0 x35.length 4 true]))))) (cI rfl (iM aKs aP4 rfl)) ?_
  refine zz ?_
  refine a0N J ?_
  exact(zG [0,2,3,6,7])
 refine zz ?_
 refine a0L (m:=1) [14,16,17]<|mC aR 4 [x32] ?_
 refine zz ?_
 refine xw (v:=(.agg ((eI .u32 0)::(aL (eI .u8) (a0F 32 0) (aL (eI .u8) (a0F 32 0) [eI .u32 0,eI .u32 0,eI .u32 0,.sl 7 0 x35.length 4 true]))))) (cI rfl (iM aKs aP4 rfl)) ?_
 refine zz ?_
 refine a0N J ?_
 exact(zG [0,2,3,5,7])
instance :CtC 10 true (aX @aEf):=⟨@aEf⟩
theorem tF {N va b r} (hr:uH N va b=some r):
  Fp 104 [] [cR va,cR b] (eI .i64 r) []:=by
 refine bR func104 ntmps104 results104 fun hR=> ?_
 refine zz ?_
 refine fT (aAN N va b) [(2,.eptr [cR va] 0 0),(3,.eptr [cR b] 0 0)] [] ?_ (body:= ?_)
 rotate_left
 ·clear hr
  intro hr
  refine a0I<|a0G ?_
  refine zz ?_
  refine xw (v:=(eI .u32 va.Index)) (cP rfl (aNK (tE kC rfl rfl))) ?_
  refine zz ?_
  refine xw (v:=(eI .u32 b.Index)) (cP rfl (aNK (tE kC rfl rfl))) ?_
  refine zz ?_
  refine zk hr ?_ ?_<;>intro h1 hr<;>refine zz ?_
  ·exact zE
  refine xw (v:=(eI .u32 va.Index)) (cP rfl (aNK (tE kC rfl rfl))) ?_
  refine zz ?_
  refine xw (v:=(eI .u32 b.Index)) (cP rfl (aNK (tE kC rfl rfl))) ?_
  exact zE
 refine zz ?_
 refine a0X (zQ [0,1])<|a0X (zQ [0,0]) ?_
 obtain⟨cM,hL2,hr⟩:=aN hr
 refine a0G<|gQ hL2 (fun x6=>[(2,.eptr [cR va] 0 0),(3,.eptr [cR b] 0 0),(6,eI .i64 x6)]) (fun x6=>[]) (round:= ?_)
 intro m2 x6 hr
 refine zz ?_
 refine a0I ?_
 refine zk hr ?_ ?_<;>clear hr<;>intro h3 hr<;>refine zz ?_
 ·refine a0I<|a0G ?_
  refine zz ?_
  refine a0I<|a0I ?_
  replace hr:=b8 hr
  obtain⟨x11,h_4,x15,h_5,hr⟩:=hr
  refine a0Q mixed [] [] [[0,1,2,3,4,5,6,7,8]]<|zz ?_
  refine xw (v:=(.eptr [cR va] 0 (0+a0U x6))) (aIX rfl rfl (iaE iO oS rfl h_4))<|xw (v:=(eI .u8 x11)) (cP rfl (aM0 (E:=(eI .u8)) (l:=va.Tx) (y:=x11) oS rfl h_4)) ?_
  refine zz ?_
  refine xw (v:=(.eptr [cR b] 0 (0+a0U x6))) (aIX rfl rfl (iaE iO oS rfl h_5))<|xw (v:=(eI .u8 x15)) (cP rfl (aM0 (E:=(eI .u8)) (l:=b.Tx) (y:=x15) oS rfl h_5)) ?_
  refine zz ?_
  refine zk hr ?_ ?_<;>clear hr<;>intro h6 hr<;>refine zz ?_
  ·exact zE
  refine a0I<|a0Q mixed [] [] [[0,1,2,3,4,5,6,7,8]]<|zz ?_
  refine xw (v:=(.eptr [cR va] 0 (0+a0U x6))) (aIX rfl rfl (iaE iO oS rfl h_4))<|xw (v:=(eI .u8 x11)) (cP rfl (aM0 (E:=(eI .u8)) (l:=va.Tx) (y:=x11) oS rfl h_4)) ?_
  refine zz ?_
  refine xw (v:=(.eptr [cR b] 0 (0+a0U x6))) (aIX rfl rfl (iaE iO oS rfl h_5))<|xw (v:=(eI .u8 x15)) (cP rfl (aM0 (E:=(eI .u8)) (l:=b.Tx) (y:=x15) oS rfl h_5)) ?_
  exact zE
 exact zE
instance :CtC 104 true (aX @tF):=⟨@tF⟩
theorem aHF {N l r} (hr:z7 N l=some r):
  Fp 63 [] [eE l] (eB r) []:=by
 refine bR func63 ntmps63 results63 fun hR=> ?_
 unfold z7 at hr
 refine zz ?_
 refine a0I ?_
 refine bV (lH N l) (fun x19=>[(1,.ptr 0 0),(19,eB x19)]) (fun x19=>[some ⟨44,bI l⟩]) ?_ (body:= ?_)
 rotate_left
 ·clear hr
  intro x19 hr
  unfold lH at hr
  refine zk hr ?_ ?_<;>intro h1 hr<;>refine zz ?_
  ·exact zE
  refine fT (aHD N) [] [] ?_
  obtain⟨aBK,hL3,hr⟩:=aN hr
  refine zz ?_
  refine a0G<|dB hL3 (fun sum x23=>[(1,.ptr 0 0),(3,eI .i64 sum),(21,.row none 37 (l.Coins.map aM)),(22,eI .i64 (l.Coins.length:Int)),(23,eI .i64 x23)]) (fun sum x23=>[some ⟨44,bI l⟩]) (round:= ?_)
  intro m3 sum x23 hr
  rw[eJ]at hr
  refine zz ?_
  refine a0I ?_
  refine zk hr ?_ ?_<;>clear hr<;>intro h2 hr<;>refine zz ?_
  ·refine a0I<|a0G ?_
   replace hr:=aN hr
   obtain⟨x26,h_3,hr⟩:=hr
   refine zz ?_
   refine a0I ?_
   refine bV (iD N l sum x23 x26 (eJ N l m3)) (fun x54=>[(1,.ptr 0 0),(3,eI .i64 sum),(5,.ptr 1 0),(21,.row none 37 (l.Coins.map aM)),(22,eI .i64 (l.Coins.length:Int)),(23,eI .i64 x23),(54,eB x54)]) (fun x54=>[some ⟨44,bI l⟩,some ⟨80,aH x26⟩]) ?_ (body:= ?_)
   rotate_left
   ·clear hr
    intro x54 hr
    unfold iD at hr
    refine zk hr ?_ ?_<;>clear hr<;>intro h4 hr<;>refine zz ?_
    ·exact zE
    refine a0I ?_
    refine bV (nX N l sum x23 x26 (eJ N l m3)) (fun x71=>[(1,.ptr 0 0),(3,eI .i64 sum),(5,.ptr 1 0),(21,.row none 37 (l.Coins.map aM)),(22,eI .i64 (l.Coins.length:Int)),(23,eI .i64 x23),(71,eB x71)]) (fun x71=>[some ⟨44,bI l⟩,some ⟨80,aH x26⟩]) ?_
    exact zE
   rcases a0M (decide (0<x23))with h9|h9
   ·replace hr:=aEp hr h9
    replace hr:=b8 hr
    obtain⟨x35,h_10,x40,h_11,hr⟩:=hr
    rcases a0M (decide (0≤x40))with h13|h13
    ·replace hr:=aEp hr h13
     refine a0Q mixed [104] [] [[0,1,2,3,4,5,6,7,8,9,10,11,12,13,14,15,16,17,18,19,20,21,22,23,24,25,26]]<|zz ?_
     refine xu (tF h_11) ?_
     refine zz ?_
     refine xX rfl<|xX rfl<|xX rfl<|xX rfl<|xX rfl ?_
     refine zz ?_
     exact⟨_,hr,zG [0,1]⟩
    exact zE
   replace hr:=aFE hr h9
   rcases a0M (decide (x26.Height<1))with h15|h15
   ·replace hr:=aEp hr h15
    refine a0Q mixed [104] [] [[0,1,2,3,4,5,6,7,8,9,10,11,12,13,14,15,16,17,18,19,20,21,22,23,24,25,26]]<|zz ?_
    refine xSg (v:=(.ptr 1 35)) rfl rfl rfl (aQO rfl fP) ?_
    refine xSg (v:=(eI .i64 x26.Height)) rfl rfl rfl (cP rfl (ldP rfl (tE ti3 rfl rfl))) ?_
    refine xSg (v:=(eB (decide (x26.Height<1)))) rfl rfl rfl (jB rfl rfl (aNS ..)) ?_
    refine zz ?_
    exact⟨_,hr,zG [0,1]⟩
   replace hr:=aFE hr h15
   refine a0Q mixed [104] [] [[0,1,2,3,4,5,6,7,8,9,10,11,12,13,14,15,16,17,18,19,20,21,22,23,24,25,26]]<|zz ?_
   refine xSg (v:=(.ptr 1 35)) rfl rfl rfl (aQO rfl fP) ?_
   refine xSg (v:=(eI .i64 x26.Height)) rfl rfl rfl (cP rfl (ldP rfl (tE ti3 rfl rfl))) ?_
   refine xSg (v:=(eB (decide (x26.Height<1)))) rfl rfl rfl (jB rfl rfl (aNS ..)) ?_
   exact zE
  exact zE
 exact zE
instance :CtC 63 true (aX @aHF):=⟨@aHF⟩
end Go.Proofs.YtopdhljncajmpaaGreatDoor
