/- Texts of ours, joined: Wk2. -/
import Derived.Test.YtopdhljncajmpaaGreatDoorQLedgerDisconnects10
open List renaming replicate → a1a
open Go.Vm.AB renaming block → a1b,seq → a1d,rs → a1k,ghost → a1s,rd → a1u
open Go.IntKind renaming u64 → a1c,i64 → a1e,u32 → a1f,max → a1n
open Go.Vm.DrawG renaming ps → a1g,jh → a1i,nil → a1l,fk → a1m,jn → a1o
open Bool renaming eq_false_or_eq_true → a1h
open Int renaming tmod → a1j,toNat → a1p,tdiv → a1r
open Go.Vm.OpsX renaming ghost → a1q
open Go.Vm.Ghost renaming trans → a1t
set_option linter.unusedVariables false
set_option linter.unusedSimpArgs false
set_option maxRecDepth 20000
set_option maxHeartbeats 8000000
namespace Go.Proofs.YtopdhljncajmpaaGreatDoor
open Go Go.Vm Go.Proofs.Tryz
theorem aKH {N va r} (hr:aOp N va=some r):
  Fp 160 [] [.agg (va.map (eI .u64))] (.agg (r.map (eI .u64))) []:=by
 refine bT func160 ntmps160 results160 fun hR=> ?_
 obtain⟨x3,h_1,x6,h_2,x9,h_3,x12,h_4,hr⟩:=aA5 hr
 refine zz ?_
 refine xw (aJa rfl (aFD rfl _)) ?_
 refine zz ?_
 refine xw (aJa rfl (aFD rfl _)) ?_
 refine zz ?_
 refine xw (aJa rfl (aFD rfl _)) ?_
 refine zz ?_
 refine xw (aJa rfl (aFD rfl _))<|xw (v:=(.agg ([bits .xor .u64 (a1n .u64) x3,bits .xor .u64 (a1n .u64) x6,bits .xor .u64 (a1n .u64) x9,bits .xor .u64 (a1n .u64) x12].map (eI .u64)))) (cM rfl (aHq aHw aGp rfl)) ?_
 exact zE
instance :CtC 160 true (bC @aKH):=⟨@aKH⟩
theorem aCv {N va vi r} (hr:tO N va vi=some r):
  Fp 204 [] [.agg (va.map (eI .u64)),eI .i64 vi] (eB r) []:=
 jC func204 ntmps204 results204
instance :CtC 204 true (bC @aCv):=⟨@aCv⟩
theorem aJ2 {N va vn r} (hr:tN N va vn=some r):
  Fp 159 [] [.agg (va.map (eI .u64)),eI .i64 vn] (.agg (r.map (eI .u64))) []:=by
 refine bT func159 ntmps159 results159 fun hR=> ?_
 refine zz ?_
 refine a1d<|zz ?_
 refine zk hr ?_ ?_<;>intro h1 hr
 ·exact zE
 refine zz ?_
 refine a1d<|zz ?_
 refine zk hr ?_ ?_<;>intro h3 hr<;>refine zz ?_
 ·exact zE
 refine bS (aGe N) (fun l1=>[(4,.ptr 0 0),(5,.ptr 1 0)]) (fun l1=>[some ⟨31,(a1a 4 0).map (eI .u64)⟩,some ⟨31,l1.map (eI .u64)⟩]) ?_
 obtain⟨cY,hL2,hr⟩:=aP hr
 refine zz ?_
 refine a1b<|dB hL2 (fun vi l2=>[(1,eI .i64 vn),(2,.ptr 0 0),(4,.ptr 1 0),(5,.ptr 2 0),(6,eI .i64 vi)]) (fun vi l2=>[some ⟨31,va.map (eI .u64)⟩,some ⟨31,(a1a 4 0).map (eI .u64)⟩,some ⟨31,l2.map (eI .u64)⟩]) (round:= ?_)
 intro m2 vi l2 hr
 refine a1d<|zz ?_
 refine zk hr ?_ ?_<;>clear hr<;>intro h5 hr<;>refine zz ?_
 ·refine bS (aBo N va vn vi (pT N va vn m2)) (fun eE=>[(1,eI .i64 vn),(2,.ptr 0 0),(4,.ptr 1 0),(5,.ptr 2 0),(6,eI .i64 vi)]) (fun eE=>[some ⟨31,va.map (eI .u64)⟩,some ⟨31,(a1a 4 0).map (eI .u64)⟩,some ⟨31,eE.map (eI .u64)⟩]) ?_
  exact zE
 exact zE
instance :CtC 159 true (bC @aJ2):=⟨@aJ2⟩
theorem aCI {N v r} (hr:aDM N v=some r):
  Fp 116 [] [eI .u8 v] (cP r) []:=
 jC func116 ntmps116 results116
instance :CtC 116 true (bC @aCI):=⟨@aCI⟩
theorem uT {N va r} (hr:n4 N va=some r):
  Fp 121 [] [.agg (va.map (eI .u64))] (eB r) []:=
 jC func121 ntmps121 results121
instance :CtC 121 true (bC @uT):=⟨@uT⟩
theorem k9 {N vn r} (hr:gW N vn=some r):
  Fp 165 [] [eI .u64 vn] (.agg (r.map (eI .u64))) []:=by
 refine bT func165 ntmps165 results165 fun hR=> ?_
 unfold gW at hr
 refine zz ?_
 refine xw (v:=(.agg ([vn,0,0,0].map (eI .u64)))) (cM rfl (aHq aHw aGp rfl)) ?_
 exact zE
instance :CtC 165 true (bC @k9):=⟨@k9⟩
theorem aKe {N va r} (hr:aDZ N va=some r):
  Fp 166 [] [.agg (va.map (eI .u64))] (eI .i64 r) []:=by
 refine bT func166 ntmps166 results166 fun hR=> ?_
 refine zz ?_
 refine hP (aKQ N) [] [] ?_
 obtain⟨cY,hL2,hr⟩:=aP hr
 refine zz ?_
 exact a1b<|jA hL2 (fun vi=>[(1,.ptr 0 0),(3,eI .i64 vi)]) (fun vi=>[some ⟨31,va.map (eI .u64)⟩])
instance :CtC 166 true (bC @aKe):=⟨@aKe⟩
theorem aFZ {N va b r} (hr:aDW N va b=some r):
  Fp 206 [] [.agg (va.map (eI .u64)),.agg (b.map (eI .u64))] (.tup [.agg (r.1.map (eI .u64)),eB r.2]) []:=by
 refine bT func206 ntmps206 results206 fun hR=> ?_
 refine zz ?_
 refine sk2 (aGH N) (fun aFf l1=>[(4,.ptr 0 0),(6,.ptr 1 0),(7,eI .u64 aFf)]) (fun aFf l1=>[some ⟨31,(a1a 4 0).map (eI .u64)⟩,some ⟨31,l1.map (eI .u64)⟩]) ?_
 obtain⟨cY,hL2,hr⟩:=aP hr
 refine zz ?_
 exact a1b<|lp3 hL2 (fun carry_1 x9 l3=>[(2,.ptr 0 0),(3,.ptr 1 0),(4,.ptr 2 0),(6,.ptr 3 0),(7,eI .u64 carry_1),(9,eI .i64 x9)]) (fun carry_1 x9 l3=>[some ⟨31,va.map (eI .u64)⟩,some ⟨31,b.map (eI .u64)⟩,some ⟨31,(a1a 4 0).map (eI .u64)⟩,some ⟨31,l3.map (eI .u64)⟩])
instance :CtC 206 true (bC @aFZ):=⟨@aFZ⟩
theorem aKZ {N va vn r} (hr:aDU N va vn=some r):
  Fp 167 [] [.agg (va.map (eI .u64)),eI .i64 vn] (.agg (r.map (eI .u64))) []:=by
 refine bT func167 ntmps167 results167 fun hR=> ?_
 refine zz ?_
 refine a1d<|zz ?_
 refine zk hr ?_ ?_<;>intro h1 hr<;>refine zz ?_
 ·exact zE
 refine bS (aGu N) (fun l0=>[(2,.ptr 0 0),(4,.ptr 1 0)]) (fun l0=>[some ⟨31,l0.map (eI .u64)⟩,some ⟨31,(a1a 4 0).map (eI .u64)⟩]) ?_
 obtain⟨cY,hL2,hr⟩:=aP hr
 exact a1b<|dB hL2 (fun vn_1 aR=>[(1,eI .i64 vn_1),(2,.ptr 0 0),(4,.ptr 1 0)]) (fun vn_1 aR=>[some ⟨31,aR.map (eI .u64)⟩,some ⟨31,(a1a 4 0).map (eI .u64)⟩])
instance :CtC 167 true (bC @aKZ):=⟨@aKZ⟩
theorem wO {N k6 r} (hr:o8 N k6=some r):
  Fp 122 [] [eI .u32 k6] (.tup [.agg (r.1.map (eI .u64)),eI .i64 r.2]) []:=by
 refine bT func122 ntmps122 results122 fun hR=> ?_
 obtain⟨x8,h_1,x13,h_2,q,h_3,hr⟩:=gZ hr
 refine zz ?_
 refine xp (k9 h_2) ?_
 refine zz ?_
 refine a1d<|zz ?_
 refine zk hr ?_ ?_<;>intro h4 hr<;>refine zz ?_
 ·exact zE
 refine bS (rK N) (fun l1=>[(2,.ptr 0 0),(6,.ptr 1 0)]) (fun l1=>[some ⟨31,(a1a 4 0).map (eI .u64)⟩,some ⟨31,l1.map (eI .u64)⟩]) ?_
 refine zz ?_
 refine zk hr ?_ ?_<;>intro h8 hr
 ·exact zE
 refine a1d ?_
 refine bS (rO N x8 x13) (fun x37=>[(2,.ptr 0 0),(4,eI .i64 (a1e.wrap x8)),(5,.ptr 1 0),(6,.ptr 2 0),(37,eB x37)]) (fun x37=>[some ⟨31,(a1a 4 0).map (eI .u64)⟩,some ⟨31,x13.map (eI .u64)⟩,some ⟨31,x13.map (eI .u64)⟩]) ?_
 exact zE
instance :CtC 122 true (bC @wO):=⟨@wO⟩
theorem aBs {N va b r} (hr:oF N va b=some r):
  Fp 123 [] [.agg (va.map (eI .u64)),.agg (b.map (eI .u64))] (eI .i64 r) []:=by
 refine bT func123 ntmps123 results123 fun hR=> ?_
 refine zz ?_
 refine hP (aKc N) [] [] ?_
 obtain⟨cY,hL2,hr⟩:=aP hr
 refine zz ?_
 exact a1b<|jA hL2 (fun vi=>[(2,.ptr 0 0),(3,.ptr 1 0),(5,eI .i64 vi)]) (fun vi=>[some ⟨31,va.map (eI .u64)⟩,some ⟨31,b.map (eI .u64)⟩])
instance :CtC 123 true (bC @aBs):=⟨@aBs⟩
theorem lT {N p r} (hr:jM N p=some r):
  Fp 72 [] [cP p] (eB r) []:=by
 refine bT func72 ntmps72 results72 fun hR=> ?_
 refine zz ?_
 refine a1d ?_
 obtain⟨q,h_1,x9,h_2,hr⟩:=bW hr
 obtain⟨h3,hr⟩:=cutF hr
 obtain⟨h4,hr⟩:=cutF hr
 obtain⟨h5,hr⟩:=cutF hr
 obtain⟨h6,hr⟩:=cutF hr
 refine xq ?_
 refine zz ?_
 refine xp (uT h_2) ?_
 refine zz ?_
 obtain⟨h7,hr⟩:=cutF hr
 refine AB.cndF rfl h7 ?_
 refine zz ?_
 refine a1d ?_
 obtain⟨h8,hr⟩:=cutF hr
 obtain⟨h9,hr⟩:=cutF hr
 obtain⟨h10,hr⟩:=cutF hr
 obtain⟨h11,hr⟩:=cutF hr
 obtain⟨h12,hr⟩:=cutF hr
 refine xq ?_
 refine zz ?_
 obtain⟨h13,hr⟩:=cutF hr
 refine AB.cndF rfl h13 ?_
 refine zz ?_
 refine hP (aDo N p) [(1,.ptr 0 0)] [some ⟨34,bD p⟩] ?_
 obtain⟨cY,hL2,hr⟩:=aP hr
 refine zz ?_
 exact a1b<|lp0 hL2 [(1,.ptr 0 0),(59,.row none 33 (p.Checkpoints.map bE)),(60,eI .i64 (p.Checkpoints.length:Int)),(61,eI .i64 0)] [some ⟨34,bD p⟩]
instance :CtC 72 true (bC @lT):=⟨@lT⟩
theorem q9 {N v vn r} (hr:kU N v vn=some r):
  Fp 183 [] [eI .u64 v,eI .i64 vn] (.sl 0 0 r.length 1 false) [some ⟨5,r.map (eI .u8)⟩]:=by
 refine bT func183 ntmps183 results183 fun hR=> ?_
 obtain⟨x8,h_1,hr⟩:=aP hr
 refine zz ?_
 refine xw (v:=(.sl 0 0 x8.length 1 false)) (h':=[some ⟨5,x8.map (eI .u8)⟩]) (aN2 rfl rfl (mkS (E:=(eI .u8)) (y:=0) nQ nF ⟨zl,rfl,rfl⟩ rfl rfl rfl h_1 rfl rfl)) ?_
 refine zz ?_
 refine bS (aB2 N) (fun l0=>[(5,.sl 0 0 l0.length 1 false)]) (fun l0=>[some ⟨5,l0.map (eI .u8)⟩]) ?_
 obtain⟨cY,hL2,hr⟩:=aP hr
 refine zz ?_
 exact a1b<|dB hL2 (fun x11 aR=>[(0,eI .u64 v),(5,.sl 0 0 aR.length 1 false),(10,eI .i64 (x8.length:Int)),(11,eI .i64 x11)]) (fun x11 aR=>[some ⟨5,aR.map (eI .u8)⟩])
instance :CtC 183 false (bC @q9):=⟨@q9⟩
theorem jD {N va b r} (hr:eT N va b=some r):
  Fp 138 [] [.row none 1 (va.map (eI .u8)),.row none 1 (b.map (eI .u8))] (.sl 0 0 r.length 1 false) [some ⟨5,r.map (eI .u8)⟩]:=by
 refine bT func138 ntmps138 results138 fun hR=> ?_
 obtain⟨x11,h_1,hr⟩:=aP hr
 refine zz ?_
 refine xw (v:=(.sl 0 0 0 1 false)) (h':=[some ⟨5,x11.map (eI .u8)⟩]) (aN2 rfl rfl (mkC (E:=(eI .u8)) (y:=0) nQ nF ⟨zl,rfl,rfl⟩ rfl rfl rfl h_1 rfl rfl)) ?_
 obtain⟨x14,h_2,x16,h_3,hr⟩:=bW hr
 refine zz ?_
 refine xw (v:=(.sl 1 0 x14.length 1 false)) (h':=[none,some ⟨5,x14.map (eI .u8)⟩]) (uI rfl rfl (aYu (E:=(eI .u8)) (Nat.zero_le _) nQ nF ⟨rfl,rfl,zl⟩ rfl (aHB (fun _=>rfl)) h_2 rfl rfl)) ?_
 exact zE
instance :CtC 138 false (bC @jD):=⟨@jD⟩
theorem dR {N b vn r} (hr:dY N b vn=some r):
  Fp 133 [] [.row none 1 (b.map (eI .u8)),eI .u32 vn] (.sl 0 0 r.length 1 false) [some ⟨5,r.map (eI .u8)⟩]:=
 jC func133 ntmps133 results133
instance :CtC 133 false (bC @dR):=⟨@dR⟩
theorem fQ {N b vh r} (hr:fG N b vh=some r):
  Fp 134 [] [.row none 1 (b.map (eI .u8)),.agg (vh.map (eI .u8))] (.sl 0 0 r.length 1 false) [some ⟨5,r.map (eI .u8)⟩]:=
 jC func134 ntmps134 results134
instance :CtC 134 false (bC @fQ):=⟨@fQ⟩
theorem tI {N vh r} (hr:mP N vh=some r):
  Fp 84 [] [pO vh] (.sl 0 0 r.length 1 false) [some ⟨5,r.map (eI .u8)⟩]:=by
 refine bT func84 ntmps84 results84 fun hR=> ?_
 obtain⟨x8,h_1,hr⟩:=aP hr
 refine zz ?_
 refine zc (dR h_1) [] ?_
 refine zz ?_
 refine a1d ?_
 obtain⟨q,h_2,x12,h_3,q_1,h_5,x15,h_6,hr⟩:=aA5 hr
 refine a1k mixed [] [134] [[0,1,2,3,4,5,6,7]]<|zz ?_
 refine zgL (fQ h_3) [] [1] ?_
 refine zz ?_
 refine zgL (fQ h_6) [] [2] ?_
 refine zz ?_
 refine bS (aBj N) (fun l0=>[(3,.sl 0 0 l0.length 1 false)]) (fun l0=>[some ⟨5,l0.map (eI .u8)⟩]) ?_
 obtain⟨cY,hL2,hr⟩:=aP hr
 refine zz ?_
 refine a1b<|dB hL2 (fun x24 aR=>[(3,.sl 0 0 aR.length 1 false),(22,.sl 1 0 ([vh.Time,vh.Bits,vh.Nonce].length) 1 false),(23,eI .i64 (3:Int)),(24,eI .i64 x24)]) (fun x24 aR=>[some ⟨5,aR.map (eI .u8)⟩,some ⟨24,[vh.Time,vh.Bits,vh.Nonce].map (eI .u32)⟩]) (round:= ?_)
 intro m2 x24 aR hr
 refine zz ?_
 refine a1d ?_
 refine zk hr ?_ ?_<;>clear hr<;>intro h8 hr<;>refine zz ?_
 ·refine a1d<|a1b ?_
  replace hr:=aP hr
  obtain⟨x26,h_9,hr⟩:=hr
  refine zz ?_
  refine xHp (h':=[some ⟨5,aR.map (eI .u8)⟩,some ⟨24,[vh.Time,vh.Bits,vh.Nonce].map (eI .u32)⟩]) rfl ?_
  replace hr:=aP hr
  obtain⟨x30,h_10,hr⟩:=hr
  refine zz ?_
  refine mL (dR h_10) [] [0] ?_
  refine zz ?_
  exact⟨_,_,hr,zG [2,1]⟩
 exact zE
instance :CtC 84 false (bC @tI):=⟨@tI⟩
theorem aGf {N vn r} (hr:aG1 N vn=some r):
  Fp 180 [] [eI .u64 vn] (.sl 0 0 r.length 1 false) [some ⟨5,r.map (eI .u8)⟩]:=by
 refine bT func180 ntmps180 results180 fun hR=> ?_
 refine zz ?_
 refine bS (aGG N vn) (fun l0=>[(0,eI .u64 vn),(3,.sl 0 0 l0.length 1 false)]) (fun l0=>[some ⟨5,l0.map (eI .u8)⟩]) ?_ (body:= ?_)
 rotate_left
 ·clear hr
  intro l0 hr
  refine bS (aKU N) (fun aR=>[(3,.sl 0 0 aR.length 1 false)]) (fun aR=>[some ⟨5,aR.map (eI .u8)⟩]) ?_
  obtain⟨zX,hL3,hr⟩:=aP hr
  refine zz ?_
  exact a1b<|dB hL3 (fun vi d9=>[(0,eI .u64 vn),(3,.sl 0 0 d9.length 1 false),(4,eI .i64 vi)]) (fun vi d9=>[some ⟨5,d9.map (eI .u8)⟩])
 obtain⟨res4,hL4,hr⟩:=aP hr
 exact a1b<|jA hL4 (fun g8=>[(0,eI .u64 vn),(3,.sl 0 0 g8.length 1 false)]) (fun g8=>[some ⟨5,g8.map (eI .u8)⟩])
instance :CtC 180 false (bC @aGf):=⟨@aGf⟩
theorem aAR {N r} (hr:aAx N=some r):
  Fp 181 [] [] (.agg (r.map (eI .u32))) []:=by
 refine bT func181 ntmps181 results181 fun hR=> ?_
 unfold aAx at hr
 refine zz ?_
 refine xw (v:=(.agg ([1779033703,3144134277,1013904242,2773480762,1359893119,2600822924,528734635,1541459225].map (eI .u32)))) (cM rfl (aHq aIJ jT rfl)) ?_
 exact zE
instance :CtC 181 true (bC @aAR):=⟨@aAR⟩
theorem lC {N x vn r} (hr:jR N x vn=some r):
  Fp 223 [] [eI .u32 x,eI .i64 vn] (eI .u32 r) []:=by
 refine bT func223 ntmps223 results223 fun hR=> ?_
 obtain⟨x8,h_1,hr⟩:=aP hr
 refine zz ?_
 refine xw (aJa rfl (aTD ..))<|xp (kI h_1) ?_
 exact zE
instance :CtC 223 true (bC @lC):=⟨@lC⟩
theorem aAf {N block r} (hr:zC N block=some r):
  Fp 221 [] [.agg (block.map (eI .u8))] (.agg (r.map (eI .u32))) []:=by
 refine bT func221 ntmps221 results221 fun hR=> ?_
 refine zz ?_
 refine bS (aAb N) (fun l1=>[(2,.ptr 0 0),(3,.ptr 1 0)]) (fun l1=>[some ⟨251,(a1a 64 0).map (eI .u32)⟩,some ⟨251,l1.map (eI .u32)⟩]) ?_ (body:= ?_)
 rotate_left
 ·clear hr
  intro l1 hr
  refine bS (zT N) (fun bJ=>[(2,.ptr 0 0),(3,.ptr 1 0)]) (fun bJ=>[some ⟨251,(a1a 64 0).map (eI .u32)⟩,some ⟨251,bJ.map (eI .u32)⟩]) ?_
  obtain⟨zX,hL3,hr⟩:=aP hr
  refine zz ?_
  exact a1b<|dB hL3 (fun vi cE=>[(2,.ptr 0 0),(3,.ptr 1 0),(5,eI .i64 vi)]) (fun vi cE=>[some ⟨251,(a1a 64 0).map (eI .u32)⟩,some ⟨251,cE.map (eI .u32)⟩])
 obtain⟨res4,hL4,hr⟩:=aP hr
 refine zz ?_
 exact a1b<|dB hL4 (fun iV l2=>[(1,.ptr 0 0),(2,.ptr 1 0),(3,.ptr 2 0),(4,eI .i64 iV)]) (fun iV l2=>[some ⟨223,block.map (eI .u8)⟩,some ⟨251,(a1a 64 0).map (eI .u32)⟩,some ⟨251,l2.map (eI .u32)⟩])
instance :CtC 221 true (bC @aAf):=⟨@aAf⟩
theorem yK {N r} (hr:vW N=some r):
  Fp 222 [] [] (.agg (r.map (eI .u32))) []:=by
 refine bT func222 ntmps222 results222 fun hR=> ?_
 unfold vW at hr
 refine zz ?_
 refine xw (v:=(.agg ([1116352408,1899447441,3049323471,3921009573,961987163,1508970993,2453635748,2870763221,3624381080,310598401,607225278,1426881987,1925078388,2162078206,2614888103,3248222580,3835390401,4022224774,264347078,604807628,770255983,1249150122,1555081692,1996064986,2554220882,2821834349,2952996808,3210313671,3336571891,3584528711,113926993,338241895,666307205,773529912,1294757372,1396182291,1695183700,1986661051,2177026350,2456956037,2730485921,2820302411,3259730800,3345764771,3516065817,3600352804,4094571909,275423344,430227734,506948616,659060556,883997877,958139571,1322822218,1537002063,1747873779,1955562222,2024104815,2227730452,2361852424,2428436474,2756734187,3204031479,3329325298].map (eI .u32)))) (cM rfl (aHq aPj jT rfl)) ?_
 exact zE
instance :CtC 222 true (bC @yK):=⟨@yK⟩
theorem aE2 {N cO block r} (hr:tL N cO block=some r):
  Fp 182 [] [.agg (cO.map (eI .u32)),.agg (block.map (eI .u8))] (.agg (r.map (eI .u32))) []:=by
 refine bT func182 ntmps182 results182 fun hR=> ?_
 obtain⟨q,h_1,x19,h_2,x20,h_3,q_1,h_4,q_2,h_5,hr⟩:=aKs hr
 refine zz ?_
 refine xp (aAf h_2)<|xp (yK h_3) ?_
 refine zz ?_
 refine a1d ?_
 obtain⟨x21,h_6,x23,h_7,x25,h_8,x27,h_9,x29,h_10,x31,h_11,hr⟩:=aQI hr
 obtain⟨x33,h_12,x35,h_13,hr⟩:=bW hr
 refine a1k mixed [] [] [[0,1,2,3,4,5,6,7,8,9,10,11,12,13,14,15,16,17,18,19,20,21,22,23]]<|zz ?_
 refine sk8 (aAd N cO) (fun va b c d ve f g vh=>[(2,.ptr 0 0),(4,.ptr 1 0),(7,eI .u32 va),(8,eI .u32 b),(9,eI .u32 c),(10,eI .u32 d),(11,eI .u32 ve),(12,eI .u32 f),(13,eI .u32 g),(14,eI .u32 vh)]) (fun va b c d ve f g vh=>[some ⟨221,cO.map (eI .u32)⟩,some ⟨221,(a1a 8 0).map (eI .u32)⟩]) ?_ (body:= ?_)
 rotate_left
 ·clear hr
  intro va b c d ve f g vh hr
  obtain⟨aCy,h_14,aCl,h_15,aVP,h_16,aUS,h_17,aUK,h_18,z7,h_19,hr⟩:=aQI hr
  obtain⟨aVe,h_20,aUZ,h_21,hr⟩:=bW hr
  refine zz ?_
  refine xw (v:=(.agg ([a1f.wrap (aCy+va),a1f.wrap (aCl+b),a1f.wrap (aVP+c),a1f.wrap (aUS+d),a1f.wrap (aUK+ve),a1f.wrap (z7+f),a1f.wrap (aVe+g),a1f.wrap (aUZ+vh)].map (eI .u32)))) (cM rfl (aHq aIJ jT rfl)) ?_
  refine zz ?_
  replace hr:=sj hr
  subst hr
  exact zr1 Tryz.results182 fA (zG [])
 obtain⟨cY,hL2,hr⟩:=aP hr
 refine zz ?_
 refine a1b<|lp9 hL2 (fun va_1 b_1 c_1 d_1 ve_1 f_1 g_1 vh_1 vi=>[(2,.ptr 0 0),(4,.ptr 1 0),(5,.ptr 2 0),(6,.ptr 3 0),(7,eI .u32 va_1),(8,eI .u32 b_1),(9,eI .u32 c_1),(10,eI .u32 d_1),(11,eI .u32 ve_1),(12,eI .u32 f_1),(13,eI .u32 g_1),(14,eI .u32 vh_1),(15,eI .i64 vi)]) (fun va_1 b_1 c_1 d_1 ve_1 f_1 g_1 vh_1 vi=>[some ⟨221,cO.map (eI .u32)⟩,some ⟨221,(a1a 8 0).map (eI .u32)⟩,some ⟨251,x19.map (eI .u32)⟩,some ⟨251,x20.map (eI .u32)⟩]) (round:= ?_)
 intro m2 va_1 b_1 c_1 d_1 ve_1 f_1 g_1 vh_1 vi hr
 refine a1d<|zz ?_
 refine zk hr ?_ ?_<;>clear hr<;>intro h22 hr<;>refine zz ?_
 ·refine a1d<|a1b<|a1d ?_
  replace hr:=aKs hr
  obtain⟨x43,h_23,x45,h_25,x48,h_27,x61,h_29,x65,h_30,hr⟩:=hr
  refine a1k mixed [223] [] [[0,1,2,3,4,5,6,7,8,9,10,11,12,13,14,15,16,17,18,19,20,21,22,23,24,25,26,27]]<|zz ?_
  refine xu (lC h_23) ?_
  refine zz ?_
  refine xu (lC h_25) ?_
  refine zz ?_
  refine xu (lC h_27) ?_
  refine zz ?_
  refine xw (v:=(eI .u32 (bits .xor .u32 (a1n .u32) ve_1))) (aJa rfl (aFD rfl _)) ?_
  replace hr:=gZ hr
  obtain⟨x69,h_31,x71,h_32,x74,h_33,hr⟩:=hr
  refine zz ?_
  refine xp (lC h_31) ?_
  refine zz ?_
  refine xp (lC h_32) ?_
  refine zz ?_
  refine xp (lC h_33) ?_
  refine zz ?_
  exact⟨_,_,_,_,_,_,_,_,_,hr,zG [0,1,2,3]⟩
 exact zE
instance :CtC 182 true (bC @aE2):=⟨@aE2⟩
theorem jO {N b r} (hr:mS N b=some r):
  Fp 132 [] [.row none 1 (b.map (eI .u8))] (.agg (r.map (eI .u8))) []:=by
 refine bT func132 ntmps132 results132 fun hR=> ?_
 obtain⟨x11,h_1,x15,h_2,x16,h_3,hr⟩:=gZ hr
 refine zz ?_
 refine zc (aGf h_2) [] ?_
 obtain⟨x17,h_4,q,h_5,hr⟩:=bW hr
 refine zz ?_
 refine xp (aAR h_4) ?_
 refine zz ?_
 refine bS (aFV N) (fun l1=>[(2,.ptr 0 0),(4,.ptr 1 0)]) (fun l1=>[some ⟨26,(a1a 32 0).map (eI .u8)⟩,some ⟨221,l1.map (eI .u32)⟩]) ?_ (body:= ?_)
 rotate_left
 ·clear hr
  intro l1 hr
  refine zz ?_
  refine bS (aF9 N) (fun bJ=>[(2,.ptr 0 0),(7,.ptr 1 0)]) (fun bJ=>[some ⟨26,(a1a 32 0).map (eI .u8)⟩,some ⟨26,bJ.map (eI .u8)⟩]) ?_
  obtain⟨q_2,h_7,zX,hL3,hr⟩:=bW hr
  refine zz ?_
  refine a1b<|dB hL3 (fun x34 cE=>[(2,.ptr 0 0),(7,.ptr 1 0),(33,.agg (l1.map (eI .u32))),(34,eI .i64 x34)]) (fun x34 cE=>[some ⟨26,(a1a 32 0).map (eI .u8)⟩,some ⟨26,cE.map (eI .u8)⟩]) (round:= ?_)
  intro m3 x34 cE hr
  refine zz ?_
  refine a1d ?_
  refine zk hr ?_ ?_<;>clear hr<;>intro h8 hr<;>refine zz ?_
  ·refine a1d<|a1b ?_
   replace hr:=aP hr
   obtain⟨x37,h_9,hr⟩:=hr
   refine zz ?_
   refine xw (v:=(eI .u32 x37)) (aYx rfl rfl (ixA (E:=(eI .u32)) aIJ jT rfl rfl h_9)) ?_
   exact zE
  exact zE
 refine zz ?_
 refine a1s (zv 4) ?_
 obtain⟨res4,hL4,hr⟩:=aP hr
 refine a1b<|dB hL4 (fun vi l1_3=>[(2,.ptr 0 0),(3,.row none 1 (x16.map (eI .u8))),(4,.ptr 1 0),(5,eI .i64 vi)]) (fun vi l1_3=>[some ⟨26,(a1a 32 0).map (eI .u8)⟩,some ⟨221,l1_3.map (eI .u32)⟩]) (round:= ?_)
 intro m4 vi l1_3 hr
 refine a1d<|zz ?_
 refine zk hr ?_ ?_<;>clear hr<;>intro h17 hr<;>refine zz ?_
 ·refine a1d<|a1b ?_
  refine zz ?_
  refine a1d ?_
  replace hr:=aP hr
  obtain⟨x28,h_18,hr⟩:=hr
  refine a1k mixed [] [] [[0,1,2,3,4]]<|zz ?_
  refine xw (v:=(eI .i64 ((min x28.length (a1a 64 0).length:Nat):Int))) (h':=[some ⟨26,(a1a 32 0).map (eI .u8)⟩,some ⟨221,l1_3.map (eI .u32)⟩,some ⟨223,(cpy (a1a 64 0) x28).map (eI .u8)⟩]) (aQC rfl rfl (aVu (E:=(eI .u8)) (l:=a1a 64 0) rfl nQ nF rfl rfl (aHB (fun _=>rfl)) rfl)) ?_
  exact zE
 exact zE
instance :CtC 132 true (bC @jO):=⟨@jO⟩
theorem aGS {N b r} (hr:pW N b=some r):
  Fp 83 [] [.row none 1 (b.map (eI .u8))] (.agg (r.map (eI .u8))) []:=by
 refine bT func83 ntmps83 results83 fun hR=> ?_
 obtain⟨x5,h_1,q,h_2,hr⟩:=bW hr
 refine zz ?_
 refine xp (jO h_1) ?_
 obtain⟨x7,h_3,q_1,h_4,hr⟩:=bW hr
 refine zz ?_
 refine mL (jO h_3) [] [1] ?_
 refine zz ?_
 replace hr:=sj hr
 subst hr
 exact zr1 Tryz.results83 fA (zG [])
instance :CtC 83 true (bC @aGS):=⟨@aGS⟩
theorem aAN {N vh r} (hr:mH N vh=some r):
  Fp 45 [] [pO vh] (.agg (r.map (eI .u8))) []:=
 jC func45 ntmps45 results45
instance :CtC 45 true (bC @aAN):=⟨@aAN⟩
theorem aC8 {N p r} (hr:aDA N p=some r):
  Fp 54 [] [cP p] (.tup [cG r.1,eI .i64 r.2]) []:=
 jC func54 ntmps54 results54
instance :CtC 54 true (bC @aC8):=⟨@aC8⟩
theorem aC2 {N p r} (hr:aHy N p=some r):
  Fp 117 [] [cP p] (.tup [gE r.1,eI .i64 r.2]) []:=
 jC func117 ntmps117 results117
instance :CtC 117 true (bC @aC2):=⟨@aC2⟩
theorem aJN {N v r} (hr:aFg N v=some r):
  Fp 68 [] [eI .u8 v] (i5 r) []:=by
 refine bT func68 ntmps68 results68 fun hR=> ?_
 obtain⟨x9,h_1,hr⟩:=aP hr
 refine zz ?_
 refine xp (aCI h_1) ?_
 obtain⟨x12,h_2,hr⟩:=aP hr
 refine zz ?_
 refine xp (aC8 h_2) ?_
 obtain⟨x17,h_3,hr⟩:=aP hr
 refine zz ?_
 refine xp (aC2 h_3) ?_
 refine zz ?_
 refine nC aO 34 [x12.1] ?_
 refine zz ?_
 refine nC cB 36 [x17.1]<|xw (v:=(.agg ((eI .u32 x9.Genesis.Version)::(aN (eI .u8) x9.Genesis.Prev (aN (eI .u8) x9.Genesis.Root ((eI .u32 x9.Genesis.Time)::((eI .u32 x9.Genesis.Bits)::((eI .u32 x9.Genesis.Nonce)::(eU (eI .u64) x9.Limit [eI .i64 x9.Window,eI .u32 x9.Spacing,eI .u32 x9.Future,eI .u32 x9.Version,.row none 33 (x9.Checkpoints.map bE),eI .i64 x9.Subsidy,eI .i64 x9.Halving,eI .i64 x9.Maturity,.row (some true) 1 [],.sl 4 0 1 34 true,.sl 5 0 1 36 true,.row (some true) 1 []]))))))))) (cM rfl (jU aI4 aUJ rfl)) ?_
 exact zE
instance :CtC 68 true (bC @aJN):=⟨@aJN⟩
theorem aHO {N script r} (hr:aQA N script=some r):
  Fp 118 [] [.row none 1 (script.map (eI .u8))] (.row none 1 (r.map (eL 1 (eI .u8)))) []:=by
 refine bT func118 ntmps118 results118 fun hR=> ?_
 refine zz ?_
 refine a1d<|zz ?_
 refine zk hr ?_ ?_<;>intro h1 hr
 ·exact zE
 obtain⟨x7,h_2,hr⟩:=aP hr
 refine zz ?_
 refine a1q (zv 0) ?_
 exact zE
instance :CtC 118 true (bC @aHO):=⟨@aHO⟩
theorem oT {N vj r} (hr:oD N vj=some r):
  Fp 20 [] [eI .u8 vj] (.row none 1 (r.map (eI .u8))) []:=
 jC func20 ntmps20 results20
instance :CtC 20 true (bC @oT):=⟨@oT⟩
theorem aEC {N c vs r} (hr:aFp N c vs=some r):
  Fp 69 [] [aJ c,eI .u8 vs] (.tup [.agg [eI .u32 r.1,.sl 0 0 r.2.1.length 35 true,.sl 1 0 r.2.2.1.length 2 true,eI .u32 r.2.2.2.1],eI .i64 r.2.2.2.2]) [some ⟨97,r.2.1.flatMap fW⟩,some ⟨78,r.2.2.1.flatMap c7⟩]:=by
 refine bT func69 ntmps69 results69 fun hR=> ?_
 refine zz ?_
 refine xw (v:=(eI .i64 (if c.Output.Value<(a1e.wrap (a1j vs 3))then c.Output.Value else(a1e.wrap (a1j vs 3))))) (aPs rfl aPk) ?_
 refine zz ?_
 refine a1d ?_
 obtain⟨x29,h_1,hr⟩:=aP hr
 refine a1u (cD [118]) (cD []) mixed<|a1g (m:=4) [0,1,2,3,4,5,6,7,8] ?_
 refine zz ?_
 refine xu (aHO h_1)<|xw (v:=(.agg (aN (eI .u8) c.Out.Tx [eI .u32 c.Out.Index,eI .u32 (a1f.wrap vs),.row none 1 (x29.map (eL 1 (eI .u8)))]))) (cM rfl (jU aKq aSp rfl)) ?_
 refine zz ?_
 refine a1o (m:=1) (L:=lst [0,1,2,3,4,5,6,7,8,9,10,11] 13) (s1:=aG 63 [(1,eI .u8 vs),(4,.ptr 0 0),(6,eI .i64 (if c.Output.Value<(a1e.wrap (a1j vs 3))then c.Output.Value else(a1e.wrap (a1j vs 3)))),(7,eI .i64 (a1e.wrap (c.Output.Value-(if c.Output.Value<(a1e.wrap (a1j vs 3))then c.Output.Value else(a1e.wrap (a1j vs 3)))))),(8,.ptr 1 0),(32,.agg [eI .u32 1,.sl 2 0 1 35 true,.row (some true) 1 [],eI .u32 0])]) (h1:=[some ⟨91,[eI .u32 0,.row (some true) 1 [],.row (some true) 1 [],eI .u32 0]⟩,some ⟨91,[eI .u32 0,.row (some true) 1 [],.row (some true) 1 [],eI .u32 0]⟩,some ⟨97,[bI.mk c.Out (a1f.wrap vs) x29].flatMap fW⟩]) ?_ (fun J=> ?_)
 ·refine a1g (m:=0) [12]<|zz ?_
  refine a1l (by decide +kernel) ?_
  refine zz ?_
  refine sk2 (uV N c vs x29) (fun first l3=>[(1,eI .u8 vs),(4,.ptr 0 0),(6,eI .i64 (if c.Output.Value<(a1e.wrap (a1j vs 3))then c.Output.Value else(a1e.wrap (a1j vs 3)))),(8,.ptr 1 0),(9,eI .i64 first)]) (fun first l3=>[some ⟨91,[eI .u32 0,.row (some true) 1 [],.row (some true) 1 [],eI .u32 0]⟩,some ⟨91,[eI .u32 1,.sl 2 0 ([bI.mk c.Out (a1f.wrap vs) x29].length) 35 true,.sl 3 0 l3.length 2 true,eI .u32 0]⟩,some ⟨97,[bI.mk c.Out (a1f.wrap vs) x29].flatMap fW⟩,some ⟨78,l3.flatMap c7⟩]) ?_ (body:= ?_)
  rotate_left
  ·clear hr
   intro first l3 hr
   refine a1d ?_
   obtain⟨x56,h_3,x59,h_5,hr⟩:=bW hr
   refine a1k mixed [20] [] [[0,1,2,3,4,5,6,7,8,9,10]]<|zz ?_
   refine xu (oT h_3) ?_
   refine zz ?_
   refine nC c7 2 [aW.mk first x56] ?_
   exact zE
  refine zz ?_
  refine zk hr ?_ ?_<;>intro h6 hr
  ·obtain⟨x46,h_7,x49,h_9,hr⟩:=bW hr
   refine zz ?_
   refine a1k mixed [20] [] [[0,1,2,3,4,5,6,7,8,9,10,11,12]]<|zz ?_
   refine xu (oT h_7) ?_
   refine zz ?_
   refine nC c7 2 [aW.mk (a1e.wrap ((a1e.wrap (c.Output.Value-(if c.Output.Value<(a1e.wrap (a1j vs 3))then c.Output.Value else(a1e.wrap (a1j vs 3)))))-(a1e.wrap (a1r (a1e.wrap (c.Output.Value-(if c.Output.Value<(a1e.wrap (a1j vs 3))then c.Output.Value else(a1e.wrap (a1j vs 3))))) 3)))) x46] ?_
   exact zE
  refine zz ?_
  exact⟨_,_,hr,a1t (Ghost.virt (fr':=[(1,eI .u8 vs),(4,.ptr 0 0),(6,eI .i64 (if c.Output.Value<(a1e.wrap (a1j vs 3))then c.Output.Value else(a1e.wrap (a1j vs 3)))),(8,.ptr 1 0),(9,eI .i64 (a1e.wrap (c.Output.Value-(if c.Output.Value<(a1e.wrap (a1j vs 3))then c.Output.Value else(a1e.wrap (a1j vs 3))))))]) (h1:=[some ⟨91,[eI .u32 0,.row (some true) 1 [],.row (some true) 1 [],eI .u32 0]⟩,some ⟨91,[eI .u32 1,.sl 2 0 1 35 true,.sl 3 0 0 2 true,eI .u32 0]⟩,some ⟨97,[bI.mk c.Out (a1f.wrap vs) x29].flatMap fW⟩]) 78 (FLe.same rfl (FLe.same rfl (FLe.same rfl (FLe.same rfl (FLe.same rfl FLe.nil))))) (HLv.live (V.les_refl _ _) rfl (HLv.live (V.les_cons (V.le_refl _ _) (V.les_cons (V.le_refl _ _) (V.les_cons (V.le_virt rfl) (V.les_cons (V.le_refl _ _) V.les_nil)))) rfl (HLv.live (V.les_refl _ _) (rP (fun _=>rfl) _) HLv.nil)))) (zg' [0,1,2,3])⟩
 refine a1m (n:=3) [9,11] ⟨?_, ?_,trivial⟩
 ·refine nC fW 35 [bI.mk c.Out (a1f.wrap vs) x29] ?_
  refine zz ?_
  refine a1g (m:=1) [10,11]<|zz ?_
  refine a1i J ?_
  exact(zG [1,3,2])
 refine zz ?_
 refine a1g (m:=1) [9,10]<|nC fW 35 [bI.mk c.Out (a1f.wrap vs) x29] ?_
 refine zz ?_
 refine a1i J ?_
 exact(zG [1,2,3])
instance :CtC 69 false (bC @aEC):=⟨@aEC⟩
theorem jJ {N b vn r} (hr:iC N b vn=some r):
  Fp 161 [] [.row none 1 (b.map (eI .u8)),eI .u64 vn] (.sl 0 0 r.length 1 false) [some ⟨5,r.map (eI .u8)⟩]:=by
 refine bT func161 ntmps161 results161 fun hR=> ?_
 refine zz ?_
 refine a1d<|a1b ?_
 refine zz ?_
 refine zk hr ?_ ?_<;>intro h1 hr
 ·exact zE
 refine zz ?_
 refine zk hr ?_ ?_<;>intro h4 hr
 ·obtain⟨x18,h_5,x19,h_6,x20,h_7,hr⟩:=gZ hr
  refine zz ?_
  refine zc (q9 h_5) [] ?_
  refine mL (jD h_6) [] [0,1] ?_
  refine mL (jD h_7) [] [2] ?_
  refine zz ?_
  replace hr:=sj hr
  subst hr
  exact zd1 Tryz.results161 [3]
 refine zz ?_
 refine zk hr ?_ ?_<;>intro h8 hr
 ·obtain⟨x27,h_9,x28,h_10,x29,h_11,hr⟩:=gZ hr
  refine zz ?_
  refine zc (q9 h_9) [] ?_
  refine mL (jD h_10) [] [0,1] ?_
  refine mL (jD h_11) [] [2] ?_
  refine zz ?_
  replace hr:=sj hr
  subst hr
  exact zd1 Tryz.results161 [3]
 obtain⟨x33,h_12,x34,h_13,x35,h_14,hr⟩:=gZ hr
 refine zz ?_
 refine zc (q9 h_12) [] ?_
 refine mL (jD h_13) [] [0,1] ?_
 refine mL (jD h_14) [] [2] ?_
 refine zz ?_
 replace hr:=sj hr
 subst hr
 exact zd1 Tryz.results161 [3]
instance :CtC 161 false (bC @jJ):=⟨@jJ⟩
theorem aDu {N o r} (hr:aAs N o=some r):
  Fp 162 [] [cC o] (.sl 0 0 r.length 1 false) [some ⟨5,r.map (eI .u8)⟩]:=by
 refine bT func162 ntmps162 results162 fun hR=> ?_
 refine zz ?_
 refine a1d ?_
 obtain⟨q,h_1,x5,h_2,x8,h_4,hr⟩:=gZ hr
 refine a1k mixed [] [133,134] [[0,1,2,3,4,5,6]]<|zz ?_
 refine zg (fQ h_2) [] ?_
 refine zz ?_
 refine zgL (dR h_4) [] [1] ?_
 refine zz ?_
 replace hr:=sj hr
 subst hr
 exact zd1 Tryz.results162 [2]
instance :CtC 162 false (bC @aDu):=⟨@aDu⟩
theorem w9 {N b vn r} (hr:wD N b vn=some r):
  Fp 205 [] [.row none 1 (b.map (eI .u8)),eI .u64 vn] (.sl 0 0 r.length 1 false) [some ⟨5,r.map (eI .u8)⟩]:=
 jC func205 ntmps205 results205
instance :CtC 205 false (bC @w9):=⟨@w9⟩
theorem uL {N b vs r} (hr:nT N b vs=some r):
  Fp 164 [] [.row none 1 (b.map (eI .u8)),.row none 1 (vs.map (eI .u8))] (.sl 0 0 r.length 1 false) [some ⟨5,r.map (eI .u8)⟩]:=
 jC func164 ntmps164 results164
instance :CtC 164 false (bC @uL):=⟨@uL⟩
theorem aFT {N o r} (hr:aBh N o=some r):
  Fp 163 [] [cK o] (.sl 0 0 r.length 1 false) [some ⟨5,r.map (eI .u8)⟩]:=by
 refine bT func163 ntmps163 results163 fun hR=> ?_
 refine zz ?_
 refine a1d ?_
 obtain⟨x6,h_1,x9,h_3,hr⟩:=bW hr
 refine a1k mixed [] [164,205] [[0,1,2,3,4,5,6,7]]<|zz ?_
 refine zg (w9 h_1) [] ?_
 refine zz ?_
 refine zgL (uL h_3) [] [1] ?_
 refine zz ?_
 replace hr:=sj hr
 subst hr
 exact zd1 Tryz.results163 [2]
instance :CtC 163 false (bC @aFT):=⟨@aFT⟩
theorem aHh {N t bG r} (hr:iA N t bG=some r):
  Fp 120 [] [aU t,eB bG] (.sl 0 0 r.length 1 false) [some ⟨5,r.map (eI .u8)⟩]:=by
 refine bT func120 ntmps120 results120 fun hR=> ?_
 obtain⟨x16,h_1,hr⟩:=aP hr
 refine zz ?_
 refine zc (dR h_1) [] ?_
 obtain⟨x22,h_2,hr⟩:=aP hr
 refine zz ?_
 refine mL (jJ h_2) [] [1] ?_
 refine zz ?_
 refine bS (wG N t bG) (fun l1=>[(1,eB bG),(2,.ptr 0 0),(5,.sl 1 0 l1.length 1 false)]) (fun l1=>[some ⟨91,aZ t⟩,some ⟨5,l1.map (eI .u8)⟩]) ?_ (body:= ?_)
 rotate_left
 ·clear hr
  intro l1 hr
  obtain⟨x44,h_3,hr⟩:=aP hr
  refine zz ?_
  refine mL (jJ h_3) [] [1] ?_
  refine zz ?_
  refine bS (wE N t bG) (fun bJ=>[(1,eB bG),(2,.ptr 0 0),(5,.sl 1 0 bJ.length 1 false)]) (fun bJ=>[some ⟨91,aZ t⟩,some ⟨5,bJ.map (eI .u8)⟩]) ?_ (body:= ?_)
  rotate_left
  ·clear hr
   intro bJ hr
   obtain⟨x60,h_4,hr⟩:=aP hr
   refine zz ?_
   refine mL (dR h_4) [] [1] ?_
   refine zz ?_
   refine bS (aBm N) (fun l0=>[(5,.sl 0 0 l0.length 1 false)]) (fun l0=>[some ⟨5,l0.map (eI .u8)⟩]) ?_
   obtain⟨res4,hL4,hr⟩:=aP hr
   refine zz ?_
   refine a1b<|dB hL4 (fun x64 aR=>[(1,eB bG),(5,.sl 0 0 aR.length 1 false),(62,.row none 35 (t.Inputs.map bQ)),(63,eI .i64 (t.Inputs.length:Int)),(64,eI .i64 x64)]) (fun x64 aR=>[some ⟨5,aR.map (eI .u8)⟩]) (round:= ?_)
   intro m4 x64 aR hr
   refine zz ?_
   refine a1d ?_
   refine zk hr ?_ ?_<;>clear hr<;>intro h5 hr<;>refine zz ?_
   ·refine bS (aCq N t bG x64 (e9 N t bG m4)) (fun d9=>[(1,eB bG),(5,.sl 0 0 d9.length 1 false),(62,.row none 35 (t.Inputs.map bQ)),(63,eI .i64 (t.Inputs.length:Int)),(64,eI .i64 x64)]) (fun d9=>[some ⟨5,d9.map (eI .u8)⟩]) ?_
    refine a1b ?_
    replace hr:=aP hr
    obtain⟨x66,h_6,hr⟩:=hr
    refine zz ?_
    refine a1d<|zz ?_
    refine zk hr ?_ ?_<;>clear hr<;>intro h7 hr
    ·exact zE
    replace hr:=aP hr
    obtain⟨x75,h_8,hr⟩:=hr
    refine zz ?_
    refine mL (jJ h_8) [] [0] ?_
    replace hr:=aP hr
    obtain⟨res6,hL6,hr⟩:=hr
    refine zz ?_
    exact a1b<|dB hL6 (fun x79 g8=>[(1,eB bG),(5,.sl 0 0 g8.length 1 false),(62,.row none 35 (t.Inputs.map bQ)),(63,eI .i64 (t.Inputs.length:Int)),(64,eI .i64 x64),(77,.row none 1 (x66.Witness.map (eL 1 (eI .u8)))),(78,eI .i64 (x66.Witness.length:Int)),(79,eI .i64 x79)]) (fun x79 g8=>[some ⟨5,g8.map (eI .u8)⟩])
   exact zE
  obtain⟨res7,hL7,hr⟩:=aP hr
  refine zz ?_
  exact a1b<|dB hL7 (fun x48 cE=>[(1,eB bG),(2,.ptr 0 0),(5,.sl 1 0 cE.length 1 false),(46,.row none 2 (t.Outputs.map cK)),(47,eI .i64 (t.Outputs.length:Int)),(48,eI .i64 x48)]) (fun x48 cE=>[some ⟨91,aZ t⟩,some ⟨5,cE.map (eI .u8)⟩])
 obtain⟨res8,hL8,hr⟩:=aP hr
 refine zz ?_
 refine a1b<|dB hL8 (fun x26 l1_3=>[(1,eB bG),(2,.ptr 0 0),(5,.sl 1 0 l1_3.length 1 false),(24,.row none 35 (t.Inputs.map bQ)),(25,eI .i64 (t.Inputs.length:Int)),(26,eI .i64 x26)]) (fun x26 l1_3=>[some ⟨91,aZ t⟩,some ⟨5,l1_3.map (eI .u8)⟩]) (round:= ?_)
 intro m8 x26 l1_3 hr
 refine zz ?_
 refine a1d ?_
 refine zk hr ?_ ?_<;>clear hr<;>intro h16 hr<;>refine zz ?_
 ·refine a1d<|a1b ?_
  replace hr:=aA5 hr
  obtain⟨x28,h_17,x33,h_18,x34,h_20,x37,h_21,hr⟩:=hr
  refine zz ?_
  refine a1u (cD []) (cD [133,162]) mixed<|a1g (m:=4) [0,1,2,3,5] ?_
  refine zz ?_
  refine zg (aDu h_18) [] ?_
  refine zz ?_
  refine a1o (m:=2) (L:=lst [0,1,2,3,4,5,6] 9) (s1:=aG 89 [(1,eB bG),(2,.ptr 0 0),(5,.sl 1 0 l1_3.length 1 false),(24,.row none 35 (t.Inputs.map bQ)),(25,eI .i64 (t.Inputs.length:Int)),(26,eI .i64 x26),(34,.sl 2 0 x34.length 1 false),(36,eI .u32 x28.Sequence)]) (h1:=[some ⟨91,aZ t⟩,none,some ⟨5,x34.map (eI .u8)⟩]) ?_ (fun J=> ?_)
  ·refine a1g (m:=0) [7,8]<|zgL (dR h_21) [] [2] ?_
   refine zz ?_
   refine a1l (by decide +kernel) ?_
   exact zE
  refine a1m (n:=3) [4,6] ⟨?_, ?_,trivial⟩
  ·refine zz ?_
   refine a1g (m:=2) [6]<|zz ?_
   refine a1i J ?_
   exact(zG [0,1,4])
  refine zz ?_
  refine a1g (m:=2) [4]<|zz ?_
  refine a1i J ?_
  exact(zG [0,1,4])
 exact zE
instance :CtC 120 false (bC @aHh):=⟨@aHh⟩
theorem aAw {N t r} (hr:g5 N t=some r):
  Fp 119 [] [aU t] (eB r) []:=by
 refine bT func119 ntmps119 results119 fun hR=> ?_
 unfold g5 at hr
 refine zz ?_
 refine a1d ?_
 refine bS (qP N t) (fun x18=>[(1,.ptr 0 0),(18,eB x18)]) (fun x18=>[some ⟨91,aZ t⟩]) ?_ (body:= ?_)
 rotate_left
 ·clear hr
  intro x18 hr
  unfold qP at hr
  refine zk hr ?_ ?_<;>intro h1 hr<;>refine zz ?_
  ·exact zE
  refine hP (u4 N t) [(1,.ptr 0 0)] [some ⟨91,aZ t⟩] ?_ (body:= ?_)
  rotate_left
  ·clear hr
   intro hr
   unfold u4 at hr
   refine hP (aAQ N t) [(1,.ptr 0 0)] [some ⟨91,aZ t⟩] ?_
   obtain⟨res4,hL4,hr⟩:=aP hr
   refine zz ?_
   refine a1b<|jA hL4 (fun x39=>[(1,.ptr 0 0),(37,.row none 35 (t.Inputs.map bQ)),(38,eI .i64 (t.Inputs.length:Int)),(39,eI .i64 x39)]) (fun x39=>[some ⟨91,aZ t⟩]) (round:= ?_)
   intro m4 x39 hr
   rw[jP]at hr
   refine zz ?_
   refine a1d ?_
   refine zk hr ?_ ?_<;>clear hr<;>intro h3 hr<;>refine zz ?_
   ·refine hP (aAA N t x39 (jP N t m4)) [(1,.ptr 0 0),(37,.row none 35 (t.Inputs.map bQ)),(38,eI .i64 (t.Inputs.length:Int)),(39,eI .i64 x39)] [some ⟨91,aZ t⟩] ?_
    refine a1b ?_
    replace hr:=aP hr
    obtain⟨x41,h_4,hr⟩:=hr
    refine zz ?_
    refine a1d<|zz ?_
    refine zk hr ?_ ?_<;>clear hr<;>intro h5 hr
    ·exact zE
    replace hr:=aP hr
    obtain⟨res6,hL6,hr⟩:=hr
    refine zz ?_
    exact a1b<|jA hL6 (fun x50=>[(1,.ptr 0 0),(37,.row none 35 (t.Inputs.map bQ)),(38,eI .i64 (t.Inputs.length:Int)),(39,eI .i64 x39),(48,.row none 1 (x41.Witness.map (eL 1 (eI .u8)))),(49,eI .i64 (x41.Witness.length:Int)),(50,eI .i64 x50)]) (fun x50=>[some ⟨91,aZ t⟩])
   exact zE
  obtain⟨res7,hL7,hr⟩:=aP hr
  refine zz ?_
  refine a1b<|jA hL7 (fun x22=>[(1,.ptr 0 0),(20,.row none 2 (t.Outputs.map cK)),(21,eI .i64 (t.Outputs.length:Int)),(22,eI .i64 x22)]) (fun x22=>[some ⟨91,aZ t⟩]) (round:= ?_)
  intro m7 x22 hr
  rw[iO]at hr
  refine zz ?_
  refine a1d ?_
  refine zk hr ?_ ?_<;>clear hr<;>intro h9 hr<;>refine zz ?_
  ·refine a1d<|a1b ?_
   replace hr:=aP hr
   obtain⟨x24,h_10,hr⟩:=hr
   refine zz ?_
   refine bS (u7 N t x22 (iO N t m7)) (fun x34=>[(1,.ptr 0 0),(20,.row none 2 (t.Outputs.map cK)),(21,eI .i64 (t.Outputs.length:Int)),(22,eI .i64 x22),(34,eB x34)]) (fun x34=>[some ⟨91,aZ t⟩]) ?_
   exact zE
  exact zE
 exact zE
instance :CtC 119 true (bC @aAw):=⟨@aAw⟩
theorem aAj {N t r} (hr:aBa N t=some r):
  Fp 70 [] [aU t] (.agg (r.map (eI .u8))) []:=
 jC func70 ntmps70 results70
instance :CtC 70 true (bC @aAj):=⟨@aAj⟩
theorem tR {N p l vs r} (hr:r6 N p l vs=some r):
  Fp 32 [] [cP p,cG l,eI .u8 vs] (.tup [.sl 0 0 r.1.length 4 true,eI .i64 r.2]) [some ⟨91,r.1.flatMap aZ⟩]:=by
 refine bT func32 ntmps32 results32 fun hR=> ?_
 obtain⟨x23,h_1,hr⟩:=aP hr
 refine zz ?_
 refine sk2 (aBt N) (fun fees l0=>[(8,.sl 0 0 l0.length 4 true),(9,eI .i64 fees)]) (fun fees l0=>[some ⟨91,l0.flatMap aZ⟩]) ?_
 obtain⟨cY,hL2,hr⟩:=aP hr
 refine zz ?_
 refine a1b<|lp4 hL2 (fun dD k l2 l3=>[(2,eI .u8 vs),(3,.ptr 0 0),(4,.ptr 1 0),(8,.sl 2 0 l2.length 4 true),(9,eI .i64 dD),(10,.sl 3 0 l3.length 37 true),(11,eI .u8 k)]) (fun dD k l2 l3=>[some ⟨34,bD p⟩,some ⟨44,aO l⟩,some ⟨91,l2.flatMap aZ⟩,some ⟨80,l3.flatMap aF⟩]) (h0:=(zW 91 [0,1,4,3])) (round:= ?_)
 intro m2 dD k l2 l3 hr
 refine a1d<|zz ?_
 refine zk hr ?_ ?_<;>clear hr<;>intro h2 hr<;>refine zz ?_
 ·refine sk3 (tY N p l vs k (iY N p l vs m2)) (fun aMB eE dA=>[(2,eI .u8 vs),(3,.ptr 0 0),(4,.ptr 1 0),(8,.sl 2 0 eE.length 4 true),(9,eI .i64 aMB),(10,.sl 3 0 dA.length 37 true),(11,eI .u8 k)]) (fun aMB eE dA=>[some ⟨34,bD p⟩,some ⟨44,aO l⟩,some ⟨91,eE.flatMap aZ⟩,some ⟨80,dA.flatMap aF⟩]) ?_
  refine a1b ?_
  replace hr:=aP hr
  obtain⟨res4,hL4,hr⟩:=hr
  refine zz ?_
  refine a1b<|jA hL4 (fun vi=>[(2,eI .u8 vs),(3,.ptr 0 0),(4,.ptr 1 0),(8,.sl 2 0 l2.length 4 true),(9,eI .i64 dD),(10,.sl 3 0 l3.length 37 true),(11,eI .u8 k),(12,eI .i64 (l3.length:Int)),(13,eI .i64 vi)]) (fun vi=>[some ⟨34,bD p⟩,some ⟨44,aO l⟩,some ⟨91,l2.flatMap aZ⟩,some ⟨80,l3.flatMap aF⟩]) (round:= ?_)
  intro m4 vi hr
  refine a1d<|zz ?_
  refine zk hr ?_ ?_<;>clear hr<;>intro h3 hr<;>refine zz ?_
  ·refine hP (tT N p l vs dD k l2 l3 vi (c6 N p l vs dD k l2 l3 m4)) [(2,eI .u8 vs),(3,.ptr 0 0),(4,.ptr 1 0),(8,.sl 2 0 l2.length 4 true),(9,eI .i64 dD),(10,.sl 3 0 l3.length 37 true),(11,eI .u8 k),(12,eI .i64 (l3.length:Int)),(13,eI .i64 vi)] [some ⟨34,bD p⟩,some ⟨44,aO l⟩,some ⟨91,l2.flatMap aZ⟩,some ⟨80,l3.flatMap aF⟩] ?_
   refine a1b ?_
   replace hr:=bW hr
   obtain⟨x46,h_4,x49,h_5,hr⟩:=hr
   refine zz ?_
   refine xw (v:=(aJ x49)) (cF rfl (yR (C:=aF) (K:=37) (fun _=>rfl) rfl h_5 (qJ (ds:=(aN (eI .u8) x49.Out.Tx [eI .u32 x49.Out.Index,eI .i64 x49.Output.Value,.row none 1 (x49.Output.Script.map (eI .u8)),eI .i64 x49.Height,eB x49.Coinbase])) pR rfl zl rfl))) ?_
   refine zz ?_
   refine a1d ?_
   refine bS (kO N p l vs dD k l2 l3 vi x46 x49 (c6 N p l vs dD k l2 l3 m4)) (fun x63=>[(2,eI .u8 vs),(3,.ptr 0 0),(4,.ptr 1 0),(8,.sl 2 0 l2.length 4 true),(9,eI .i64 dD),(10,.sl 3 0 l3.length 37 true),(11,eI .u8 k),(12,eI .i64 (l3.length:Int)),(13,eI .i64 vi),(14,eI .i64 x46),(15,.ptr 4 0),(63,eB x63)]) (fun x63=>[some ⟨34,bD p⟩,some ⟨44,aO l⟩,some ⟨91,l2.flatMap aZ⟩,some ⟨80,l3.flatMap aF⟩,some ⟨80,aF x49⟩]) ?_ (body:= ?_)
   rotate_left
   ·clear hr
    intro x63 hr
    refine zk hr ?_ ?_<;>clear hr<;>intro h6 hr
    ·exact zE
    replace hr:=aP hr
    obtain⟨x69,h_7,hr⟩:=hr
    refine zz ?_
    refine zc (aEC h_7) [] ?_
    replace hr:=aP hr
    obtain⟨x75,h_8,hr⟩:=hr
    refine zz ?_
    refine a1q (zqf [1,1,1,1,1,0,1,1])<|a1q (zqf [1,1,1,1,1,0,0,1])<|nC aZ 4 [aD.mk x69.1 x69.2.1 x69.2.2.1 x69.2.2.2.1] ?_
    refine zz ?_
    refine bS (kP N p l vs dD k x69 x75 (c6 N p l vs dD k l2 l3 m4)) (fun fN=>[(2,eI .u8 vs),(3,.ptr 0 0),(4,.ptr 1 0),(8,.sl 2 0 x75.length 4 true),(9,eI .i64 (a1e.wrap (dD+x69.2.2.2.2))),(10,.sl 3 0 fN.length 37 true),(11,eI .u8 k),(16,.ptr 4 0)]) (fun fN=>[some ⟨34,bD p⟩,some ⟨44,aO l⟩,some ⟨91,x75.flatMap aZ⟩,some ⟨80,fN.flatMap aF⟩,some ⟨91,[eI .u32 x69.1,.row none 35 (x69.2.1.map bQ),.row none 2 (x69.2.2.1.map cK),eI .u32 x69.2.2.2.1]⟩]) ?_ (body:= ?_)
    rotate_left
    ·clear hr
     intro fN hr
     replace hr:=bW hr
     obtain⟨x89,h_9,q,h_10,hr⟩:=hr
     refine zz ?_
     refine xp (aAj h_9) ?_
     refine zz ?_
     refine bS (uJ N p l vs dD k x69 x75 (c6 N p l vs dD k l2 l3 m4)) (fun iD=>[(2,eI .u8 vs),(3,.ptr 0 0),(4,.ptr 1 0),(8,.sl 2 0 x75.length 4 true),(9,eI .i64 (a1e.wrap (dD+x69.2.2.2.2))),(10,.sl 3 0 iD.length 37 true),(11,eI .u8 k)]) (fun iD=>[some ⟨34,bD p⟩,some ⟨44,aO l⟩,some ⟨91,x75.flatMap aZ⟩,some ⟨80,iD.flatMap aF⟩]) ?_
     replace hr:=aP hr
     obtain⟨res9,hL9,hr⟩:=hr
     refine zz ?_
     refine a1b<|dB hL9 (fun x93 aCH=>[(2,eI .u8 vs),(3,.ptr 0 0),(4,.ptr 1 0),(8,.sl 2 0 x75.length 4 true),(9,eI .i64 (a1e.wrap (dD+x69.2.2.2.2))),(10,.sl 3 0 aCH.length 37 true),(11,eI .u8 k),(18,.ptr 4 0),(91,.row none 2 (x69.2.2.1.map cK)),(92,eI .i64 (x69.2.2.1.length:Int)),(93,eI .i64 x93)]) (fun x93 aCH=>[some ⟨34,bD p⟩,some ⟨44,aO l⟩,some ⟨91,x75.flatMap aZ⟩,some ⟨80,aCH.flatMap aF⟩,some ⟨26,x89.map (eI .u8)⟩]) (round:= ?_)
     intro m9 x93 aCH hr
     refine zz ?_
     refine a1d ?_
     refine zk hr ?_ ?_<;>clear hr<;>intro h11 hr<;>refine zz ?_
     ·refine a1d<|a1b ?_
      replace hr:=bW hr
      obtain⟨x96,h_12,aEj,h_13,hr⟩:=hr
      refine zz ?_
      refine xw (v:=(.agg (aN (eI .u8) x89 [eI .u32 (a1f.wrap x93)]))) (cM rfl (aHI (ps':=[(0,.agg (aN (eI .u8) x89 [])),(1,eI .u32 (a1f.wrap x93))]) (by simp only[dE (l:=x89) (aT h_10)]<;>rfl) (jU g9 aI5 (by kernel_rfl)))) ?_
      refine zz ?_
      refine xw (v:=(.agg (aN (eI .u8) x89 [eI .u32 (a1f.wrap x93),eI .i64 x96.Value,.row none 1 (x96.Script.map (eI .u8)),eI .i64 (a1e.wrap (l.Height+1)),eB false]))) (cM rfl (jU pR aQ2 rfl))<|nC aF 37 [aA.mk (aB.mk x89 (a1f.wrap x93)) x96 (a1e.wrap (l.Height+1)) false] ?_
      exact zE
     exact zE
    rcases a1h (decide (a1e.wrap (x46+1)=(l3.length:Int)))with h14|h14
    ·replace hr:=kJ hr h14
     replace hr:=bW hr
     obtain⟨x82,h_15,x87,h_16,hr⟩:=hr
     refine a1k mixed [] [] [[0,1,2,3,4,5,6,7],[8,9]]<|zz ?_
     refine xw (v:=(.sl 3 0 x82.length 37 true)) (aPH rfl rfl rfl rfl (a01 (l:=l3) rfl aHA pR rfl h_15)) ?_
     refine zz ?_
     refine xw (v:=(.row none 37 ([].map aJ))) (vE rfl rfl rfl (aZT (l:=l3) rfl aHA pR rfl rfl (of_decide_eq_true h14) (aXg h_5))) ?_
     refine zz ?_
     refine⟨_,_,Ghost.cutF (t:=82) (C:=aF) (l:=l3) (K:=37) (h':=[some ⟨34,bD p⟩,some ⟨44,aO l⟩,none,some ⟨80,x82.flatMap aF⟩,some ⟨80,aF x49⟩,none,none,some ⟨91,[eI .u32 x69.1,.row none 35 (x69.2.1.map bQ),.row none 2 (x69.2.2.1.map cK),eI .u32 x69.2.2.2.1]⟩,some ⟨91,[aD.mk x69.1 x69.2.1 x69.2.2.1 x69.2.2.2.1].flatMap aZ⟩,some ⟨91,x75.flatMap aZ⟩]) (fun _=>rfl) rfl rfl h_15 rfl, ?_⟩
     exact zE
    replace hr:=kR hr h14
    refine a1s (zv 3) ?_
    replace hr:=gZ hr
    obtain⟨aWI,h_17,x86,h_18,aPy,h_19,hr⟩:=hr
    refine a1k mixed [] [] [[0,1,2,3,4,5,6,7,8,9]]<|zz ?_
    refine xw (v:=(.sl 10 0 aPy.length 37 true)) (h':=[some ⟨34,bD p⟩,some ⟨44,aO l⟩,none,none,some ⟨80,aF x49⟩,none,none,some ⟨91,[eI .u32 x69.1,.row none 35 (x69.2.1.map bQ),.row none 2 (x69.2.2.1.map cK),eI .u32 x69.2.2.2.1]⟩,some ⟨91,[aD.mk x69.1 x69.2.1 x69.2.2.1 x69.2.2.2.1].flatMap aZ⟩,some ⟨91,x75.flatMap aZ⟩,some ⟨80,aPy.flatMap aF⟩]) (uI rfl rfl (aZL (C:=aF) (K:=37) (fun _=>rfl) aHA pR ⟨rfl,rfl,zl,zl⟩ (aWk (C:=aF)) (aXK h_18 h14) rfl h_19 rfl rfl)) ?_
    exact zE
   exact zE
  exact zE
 exact zE
instance :CtC 32 false (bC @tR):=⟨@tR⟩
theorem uR {N p height r} (hr:nP N p height=some r):
  Fp 34 [] [cP p,eI .i64 height] (eI .i64 r) []:=by
 refine bT func34 ntmps34 results34 fun hR=> ?_
 unfold nP at hr
 refine zz ?_
 refine a1d ?_
 refine bS (pK N p height) (fun x13=>[(1,eI .i64 height),(2,.ptr 0 0),(13,eB x13)]) (fun x13=>[some ⟨34,bD p⟩]) ?_ (body:= ?_)
 rotate_left
 ·clear hr
  intro x13 hr
  unfold pK at hr
  refine zk hr ?_ ?_<;>intro h1 hr<;>refine zz ?_
  ·exact zE
  refine bS (aGb N) (fun vs=>[(5,eI .i64 vs)]) (fun vs=>[]) ?_
  obtain⟨x19,h_2,zX,hL3,hr⟩:=bW hr
  refine zz ?_
  refine a1b<|dB hL3 (fun tD vn=>[(5,eI .i64 tD),(6,eI .i64 vn)]) (fun tD vn=>[]) (round:= ?_)
  intro m3 tD vn hr
  rw[jX]at hr
  refine a1d ?_
  refine bS (uO N tD vn (jX N m3)) (fun x25=>[(5,eI .i64 tD),(6,eI .i64 vn),(25,eB x25)]) (fun x25=>[]) ?_
  exact zE
 exact zE
instance :CtC 34 true (bC @uR):=⟨@uR⟩
theorem aFR {N r} (hr:aOV N=some r):
  Fp 71 [] [] (cC r) []:=
 jC func71 ntmps71 results71
instance :CtC 71 true (bC @aFR):=⟨@aFR⟩
theorem aA7 {N height value script r} (hr:aEG N height value script=some r):
  Fp 33 [] [eI .i64 height,eI .i64 value,.row none 1 (script.map (eI .u8))] (aU r) []:=by
 refine bT func33 ntmps33 results33 fun hR=> ?_
 obtain⟨x7,h_1,hr⟩:=aP hr
 refine zz ?_
 refine xp (aFR h_1) ?_
 refine zz ?_
 refine xw (v:=(.agg (aN (eI .u8) x7.Tx [eI .u32 x7.Index,eI .u32 (a1f.wrap height),.row (some true) 1 []]))) (cM rfl (jU aKq aSp rfl))<|nC fW 35 [bI.mk x7 (a1f.wrap height) []] ?_
 refine zz ?_
 refine nC c7 2 [aW.mk value script] ?_
 exact zE
instance :CtC 33 true (bC @aA7):=⟨@aA7⟩
theorem aEq {N t r} (hr:y9 N t=some r):
  Fp 76 [] [aU t] (.agg (r.map (eI .u8))) []:=
 jC func76 ntmps76 results76
instance :CtC 76 true (bC @aEq):=⟨@aEq⟩
theorem qR {N l r} (hr:oC N l=some r):
  Fp 91 [] [.row none 1 (l.map (eL 1 (eI .u8)))] (.sl 0 0 r.length 1 false) [some ⟨5,r.map (eI .u8)⟩]:=by
 refine bT func91 ntmps91 results91 fun hR=> ?_
 refine zz ?_
 refine bS (aJv N) (fun l0=>[(3,.sl 0 0 l0.length 1 false)]) (fun l0=>[some ⟨5,l0.map (eI .u8)⟩]) ?_
 obtain⟨cY,hL2,hr⟩:=aP hr
 refine zz ?_
 exact a1b<|dB hL2 (fun x8 aR=>[(3,.sl 0 0 aR.length 1 false),(6,.row none 1 (l.map (eL 1 (eI .u8)))),(7,eI .i64 (l.length:Int)),(8,eI .i64 x8)]) (fun x8 aR=>[some ⟨5,aR.map (eI .u8)⟩]) (h0:=(zW 5 [0]))
instance :CtC 91 false (bC @qR):=⟨@qR⟩
theorem aEi {N l vr r} (hr:yU N l vr=some r):
  Fp 171 [] [.agg (l.map (eI .u8)),.agg (vr.map (eI .u8))] (.agg (r.map (eI .u8))) []:=by
 refine bT func171 ntmps171 results171 fun hR=> ?_
 refine zz ?_
 refine a1d ?_
 obtain⟨q,h_1,q_1,h_2,x9,h_3,x10,h_5,q_2,h_7,hr⟩:=aKs hr
 refine a1k mixed [] [91,132] [[0,1,2],[3,4,5,6]]<|zz ?_
 refine⟨_,_,a1t (a1t (zv 3) (zv 0)) (zv 1), ?_⟩
 refine zz ?_
 refine zgL (qR h_3) [] [4] ?_
 refine zgL (jO h_5) [] [5] ?_
 refine zz ?_
 replace hr:=sj hr
 subst hr
 exact zr1 Tryz.results171 fA (zG [])
instance :CtC 171 true (bC @aEi):=⟨@aEi⟩
theorem aBA {N l r} (hr:aBR N l=some r):
  Fp 126 [] [.row none 32 (l.map (eA (eI .u8)))] (.sl 0 0 r.length 1 false) [some ⟨140,r.map (eL 32 (eA (eI .u8)))⟩]:=by
 refine bT func126 ntmps126 results126 fun hR=> ?_
 refine zz ?_
 refine bS (aCb N) (fun l0=>[(3,.sl 0 0 l0.length 1 false)]) (fun l0=>[some ⟨140,l0.map (eL 32 (eA (eI .u8)))⟩]) ?_
 obtain⟨cY,hL2,hr⟩:=aP hr
 refine a1b<|dB hL2 (fun l_1 aR=>[(0,.row none 32 (l_1.map (eA (eI .u8)))),(3,.sl 0 0 aR.length 1 false)]) (fun l_1 aR=>[some ⟨140,aR.map (eL 32 (eA (eI .u8)))⟩]) (round:= ?_)
 intro m2 l_1 aR hr
 refine a1d<|zz ?_
 refine zk hr ?_ ?_<;>clear hr<;>intro h1 hr<;>refine zz ?_
 ·refine a1b ?_
  refine zz ?_
  refine bS (vY N aR (i9 N m2)) (fun l1=>[(3,.sl 0 0 aR.length 1 false),(4,.sl 1 0 l1.length 32 true)]) (fun l1=>[some ⟨140,aR.map (eL 32 (eA (eI .u8)))⟩,some ⟨26,l1.flatMap (dV (eI .u8))⟩]) ?_ (body:= ?_)
  rotate_left
  ·clear hr
   intro l1 hr
   replace hr:=bW hr
   obtain⟨q,h_2,x45,h_3,hr⟩:=hr
   refine zz ?_
   refine a1q (zqf [1,0]) ?_
   exact zE
  replace hr:=aP hr
  obtain⟨res4,hL4,hr⟩:=hr
  refine zz ?_
  refine a1b<|dB hL4 (fun vi bJ=>[(0,.row none 32 (l_1.map (eA (eI .u8)))),(3,.sl 0 0 aR.length 1 false),(4,.sl 1 0 bJ.length 32 true),(5,eI .i64 vi)]) (fun vi bJ=>[some ⟨140,aR.map (eL 32 (eA (eI .u8)))⟩,some ⟨26,bJ.flatMap (dV (eI .u8))⟩]) (h0:=(zW 26 [0,1])) (round:= ?_)
  intro m4 vi bJ hr
  refine a1d<|zz ?_
  refine zk hr ?_ ?_<;>clear hr<;>intro h4 hr<;>refine zz ?_
  ·refine bS (kV N l_1 aR vi (dX N l_1 aR m4)) (fun cE=>[(0,.row none 32 (l_1.map (eA (eI .u8)))),(3,.sl 0 0 aR.length 1 false),(4,.sl 1 0 cE.length 32 true),(5,eI .i64 vi)]) (fun cE=>[some ⟨140,aR.map (eL 32 (eA (eI .u8)))⟩,some ⟨26,cE.flatMap (dV (eI .u8))⟩]) ?_
   refine a1b ?_
   refine zz ?_
   refine zk hr ?_ ?_<;>clear hr<;>intro h5 hr
   ·replace hr:=aQI hr
    obtain⟨x25,h_6,q_1,h_7,x30,h_8,q_2,h_9,x32,h_10,q_3,h_12,hr⟩:=hr
    replace hr:=aP hr
    obtain⟨x34,h_13,hr⟩:=hr
    refine a1k mixed [171] [] [[0,1,2,3,4,5,6,7,8,9,10,11,12,13]]<|zz ?_
    refine xw (v:=(.agg (x25.map (eI .u8)))) (cF rfl (aI1 (E:=(eI .u8)) iH rfl h_6 (aT h_7))) ?_
    refine zz ?_
    refine xw (v:=(.agg (x30.map (eI .u8)))) (cF rfl (aI1 (E:=(eI .u8)) iH rfl h_8 (aT h_9)))<|xu (aEi h_10)<|xw (v:=(.sl 2 0 1 32 true)) (h':=[some ⟨140,aR.map (eL 32 (eA (eI .u8)))⟩,some ⟨26,bJ.flatMap (dV (eI .u8))⟩,some ⟨26,[x32].flatMap (dV (eI .u8))⟩]) (pD rfl (aJj (ps':=[(0,.agg (dV (eI .u8) x32))]) (by simp only[aA2,dV,dE (l:=x32) (aT h_12)]) (aHe (len:=1) (C:=(dV (eI .u8))) (xs:=[x32]) (K:=32) (fun _=>rfl) (fun _=>rfl) aFd iH ⟨zl,zl,zl⟩ rfl rfl rfl rfl rfl rfl))) ?_
    exact zE
   replace hr:=gZ hr
   obtain⟨x38,h_14,q_4,h_15,x41,h_16,hr⟩:=hr
   refine zz ?_
   refine xw (v:=(.agg (x38.map (eI .u8)))) (cF rfl (aI1 (E:=(eI .u8)) iH rfl h_14 (aT h_15)))<|xw (v:=(.sl 2 0 1 32 true)) (h':=[some ⟨140,aR.map (eL 32 (eA (eI .u8)))⟩,some ⟨26,bJ.flatMap (dV (eI .u8))⟩,some ⟨26,[x38].flatMap (dV (eI .u8))⟩]) (pD rfl (aJj (ps':=[(0,.agg (dV (eI .u8) x38))]) (by simp only[aA2,dV,dE (l:=x38) (aT h_15)]) (aHe (len:=1) (C:=(dV (eI .u8))) (xs:=[x38]) (K:=32) (fun _=>rfl) (fun _=>rfl) aFd iH ⟨zl,zl,zl⟩ rfl rfl rfl rfl rfl rfl))) ?_
   exact zE
  exact zE
 exact zE
instance :CtC 126 false (bC @aBA):=⟨@aBA⟩
theorem aEr {N l r} (hr:uS N l=some r):
  Fp 77 [] [.row none 32 (l.map (eA (eI .u8)))] (.agg (r.map (eI .u8))) []:=by
 refine bT func77 ntmps77 results77 fun hR=> ?_
 unfold uS at hr
 refine zz ?_
 refine a1d ?_
 refine bS (nO N l) (fun x11=>[(0,.row none 32 (l.map (eA (eI .u8)))),(2,.ptr 0 0),(11,eB x11)]) (fun x11=>[some ⟨26,(a1a 32 0).map (eI .u8)⟩]) ?_ (body:= ?_)
 rotate_left
 ·clear hr
  intro x11 hr
  unfold nO at hr
  refine zk hr ?_ ?_<;>intro h1 hr
  ·exact zE
  obtain⟨x14,h_2,hr⟩:=aP hr
  refine zz ?_
  refine zc (aBA h_2) [] ?_
  obtain⟨x19,h_3,x21,h_4,q,h_5,hr⟩:=gZ hr
  refine zz ?_
  refine xw (v:=(.agg (x21.map (eI .u8)))) (cF rfl (aI1 (E:=(eI .u8)) iH rfl h_4 (aT h_5))) ?_
  exact zE
 exact zE
instance :CtC 77 true (bC @aEr):=⟨@aEr⟩
theorem aEm {N l r} (hr:tV N l=some r):
  Fp 36 [] [.row none 4 (l.map aU)] (.agg (r.map (eI .u8))) []:=by
 refine bT func36 ntmps36 results36 fun hR=> ?_
 refine zz ?_
 refine bS (aAP N) (fun l1=>[(2,.ptr 0 0),(3,.sl 1 0 l1.length 32 true)]) (fun l1=>[some ⟨26,(a1a 32 0).map (eI .u8)⟩,some ⟨26,l1.flatMap (dV (eI .u8))⟩]) ?_ (body:= ?_)
 rotate_left
 ·clear hr
  intro l1 hr
  obtain⟨q,h_1,x19,h_2,q_1,h_3,hr⟩:=gZ hr
  refine zz ?_
  refine a1q (zqf [1,0])<|xp (aEr h_2) ?_
  exact zE
 obtain⟨cY,hL2,hr⟩:=aP hr
 refine zz ?_
 refine a1b<|dB hL2 (fun x8 bJ=>[(2,.ptr 0 0),(3,.sl 1 0 bJ.length 32 true),(6,.row none 4 (l.map aU)),(7,eI .i64 (l.length:Int)),(8,eI .i64 x8)]) (fun x8 bJ=>[some ⟨26,(a1a 32 0).map (eI .u8)⟩,some ⟨26,bJ.flatMap (dV (eI .u8))⟩]) (h0:=(zW 26 [0,1])) (round:= ?_)
 intro m2 x8 bJ hr
 refine zz ?_
 refine a1d ?_
 refine zk hr ?_ ?_<;>clear hr<;>intro h4 hr<;>refine zz ?_
 ·refine a1d<|a1b ?_
  replace hr:=aA5 hr
  obtain⟨x10,h_5,x14,h_6,q_2,h_7,x16,h_8,hr⟩:=hr
  refine zz ?_
  refine xp (aEq h_6)<|xw (v:=(.sl 3 0 1 32 true)) (h':=[some ⟨26,(a1a 32 0).map (eI .u8)⟩,some ⟨26,bJ.flatMap (dV (eI .u8))⟩,some ⟨91,aZ x10⟩,some ⟨26,[x14].flatMap (dV (eI .u8))⟩]) (pD rfl (aJj (ps':=[(0,.agg (dV (eI .u8) x14))]) (by simp only[aA2,dV,dE (l:=x14) (aT h_7)]) (aHe (len:=1) (C:=(dV (eI .u8))) (xs:=[x14]) (K:=32) (fun _=>rfl) (fun _=>rfl) aFd iH ⟨zl,zl,zl⟩ rfl rfl rfl rfl rfl rfl))) ?_
  exact zE
 exact zE
instance :CtC 36 true (bC @aEm):=⟨@aEm⟩
theorem aCu {N vs r} (hr:aFH N vs=some r):
  Fp 37 [] [eI .u8 vs] (eI .u32 r) []:=
 jC func37 ntmps37 results37
instance :CtC 37 true (bC @aCu):=⟨@aCu⟩
theorem aGz {N va b r} (hr:aHk N va b=some r):
  Fp 168 [] [.agg (va.map (eI .u64)),.agg (b.map (eI .u64))] (.tup [.agg (r.1.map (eI .u64)),.agg (r.2.map (eI .u64))]) []:=by
 refine bT func168 ntmps168 results168 fun hR=> ?_
 refine zz ?_
 refine bS (aJ3 N) (fun l2=>[(4,.ptr 0 0),(5,.ptr 1 0),(6,.ptr 2 0)]) (fun l2=>[some ⟨31,(a1a 4 0).map (eI .u64)⟩,some ⟨31,(a1a 4 0).map (eI .u64)⟩,some ⟨245,l2.map (eI .u64)⟩]) ?_ (body:= ?_)
 rotate_left
 ·clear hr
  intro l2 hr
  refine a1d ?_
  obtain⟨q,h_1,x64,h_2,hr⟩:=bW hr
  refine a1k mixed [] [] [[0,1,2]]<|zz ?_
  refine xw (v:=(.sl 2 (a1p 0*1) x64.length 1 false)) (vE rfl rfl rfl (aZd (E:=(eI .u64)) (l:=l2) aPr aGp rfl rfl rfl (aT h_1) zl rfl rfl h_2)) ?_
  refine xw (v:=(eI .i64 ((min x64.length (a1a 4 0).length:Nat):Int))) (h':=[some ⟨31,(a1a 4 0).map (eI .u64)⟩,some ⟨31,(cpy (a1a 4 0) x64).map (eI .u64)⟩,some ⟨245,l2.map (eI .u64)⟩]) (aQC rfl rfl (aVu (E:=(eI .u64)) (l:=a1a 4 0) rfl aPw aGp rfl rfl (aYH (l:=l2) rfl (fun _=>rfl) h_2) rfl)) ?_
  refine zz ?_
  refine a1d ?_
  obtain⟨x67,h_3,hr⟩:=aP hr
  refine a1k mixed [] [] [[0,1,2]]<|zz ?_
  refine xw (v:=(.sl 2 (a1p 4*1) x67.length 1 false)) (vE rfl rfl rfl (aZd (E:=(eI .u64)) (l:=l2) aPr aGp rfl rfl rfl (aT h_1) zl rfl rfl h_3)) ?_
  refine xw (v:=(eI .i64 ((min x67.length (a1a 4 0).length:Nat):Int))) (h':=[some ⟨31,(cpy (a1a 4 0) x67).map (eI .u64)⟩,some ⟨31,(cpy (a1a 4 0) x64).map (eI .u64)⟩,some ⟨245,l2.map (eI .u64)⟩]) (aQC rfl rfl (aVu (E:=(eI .u64)) (l:=a1a 4 0) rfl aPw aGp rfl rfl (aYH (l:=l2) rfl (fun _=>rfl) h_3) rfl)) ?_
  exact zE
 obtain⟨cY,hL2,hr⟩:=aP hr
 refine zz ?_
 refine a1b<|dB hL2 (fun x15 l4=>[(2,.ptr 0 0),(3,.ptr 1 0),(4,.ptr 2 0),(5,.ptr 3 0),(6,.ptr 4 0),(15,eI .i64 x15)]) (fun x15 l4=>[some ⟨31,va.map (eI .u64)⟩,some ⟨31,b.map (eI .u64)⟩,some ⟨31,(a1a 4 0).map (eI .u64)⟩,some ⟨31,(a1a 4 0).map (eI .u64)⟩,some ⟨245,l4.map (eI .u64)⟩]) (round:= ?_)
 intro m2 x15 l4 hr
 refine zz ?_
 refine a1d ?_
 refine zk hr ?_ ?_<;>clear hr<;>intro h6 hr<;>refine zz ?_
 ·refine bS (aFY N va b x15 (o7 N va b m2)) (fun dN=>[(2,.ptr 0 0),(3,.ptr 1 0),(4,.ptr 2 0),(5,.ptr 3 0),(6,.ptr 4 0),(15,eI .i64 x15)]) (fun dN=>[some ⟨31,va.map (eI .u64)⟩,some ⟨31,b.map (eI .u64)⟩,some ⟨31,(a1a 4 0).map (eI .u64)⟩,some ⟨31,(a1a 4 0).map (eI .u64)⟩,some ⟨245,dN.map (eI .u64)⟩]) ?_
  refine a1b ?_
  refine zz ?_
  refine sk2 (aFI N va b x15 (o7 N va b m2)) (fun aFf mT=>[(2,.ptr 0 0),(3,.ptr 1 0),(4,.ptr 2 0),(5,.ptr 3 0),(6,.ptr 4 0),(7,eI .i64 x15),(8,eI .u64 aFf),(15,eI .i64 x15)]) (fun aFf mT=>[some ⟨31,va.map (eI .u64)⟩,some ⟨31,b.map (eI .u64)⟩,some ⟨31,(a1a 4 0).map (eI .u64)⟩,some ⟨31,(a1a 4 0).map (eI .u64)⟩,some ⟨245,mT.map (eI .u64)⟩]) ?_
  replace hr:=aP hr
  obtain⟨res5,hL5,hr⟩:=hr
  refine zz ?_
  refine a1b<|lp3 hL5 (fun carry_1 x18 iE=>[(2,.ptr 0 0),(3,.ptr 1 0),(4,.ptr 2 0),(5,.ptr 3 0),(6,.ptr 4 0),(7,eI .i64 x15),(8,eI .u64 carry_1),(15,eI .i64 x15),(18,eI .i64 x18)]) (fun carry_1 x18 iE=>[some ⟨31,va.map (eI .u64)⟩,some ⟨31,b.map (eI .u64)⟩,some ⟨31,(a1a 4 0).map (eI .u64)⟩,some ⟨31,(a1a 4 0).map (eI .u64)⟩,some ⟨245,iE.map (eI .u64)⟩]) (round:= ?_)
  intro m5 carry_1 x18 iE hr
  refine zz ?_
  refine a1d ?_
  refine zk hr ?_ ?_<;>clear hr<;>intro h8 hr<;>refine zz ?_
  ·refine a1d<|a1b ?_
   refine zz ?_
   refine a1d ?_
   replace hr:=gZ hr
   obtain⟨x23,h_9,x26,h_10,x28,h_11,hr⟩:=hr
   refine a1k mixed [207] [] [[0,1,2,3,4,5,6,7,8,9,10,11]]<|zz ?_
   refine xu (xD h_11) ?_
   replace hr:=bW hr
   obtain⟨x35,h_13,x38,h_14,hr⟩:=hr
   refine zz ?_
   refine xp (rB h_14) ?_
   replace hr:=aP hr
   obtain⟨x44,h_15,hr⟩:=hr
   refine zz ?_
   refine xp (rB h_15) ?_
   refine zz ?_
   exact⟨_,_,_,hr,zG [0,1,2,3,4]⟩
  exact zE
 exact zE
instance :CtC 168 true (bC @aGz):=⟨@aGz⟩
theorem aF8 {N va b r} (hr:aG2 N va b=some r):
  Fp 209 [] [.agg (va.map (eI .u64)),.agg (b.map (eI .u64))] (.tup [.agg (r.1.map (eI .u64)),eB r.2]) []:=by
 refine bT func209 ntmps209 results209 fun hR=> ?_
 refine zz ?_
 refine sk2 (aGr N) (fun borrow l1=>[(4,.ptr 0 0),(6,.ptr 1 0),(7,eI .u64 borrow)]) (fun borrow l1=>[some ⟨31,(a1a 4 0).map (eI .u64)⟩,some ⟨31,l1.map (eI .u64)⟩]) ?_
 obtain⟨cY,hL2,hr⟩:=aP hr
 refine zz ?_
 exact a1b<|lp3 hL2 (fun borrow_1 x9 l3=>[(2,.ptr 0 0),(3,.ptr 1 0),(4,.ptr 2 0),(6,.ptr 3 0),(7,eI .u64 borrow_1),(9,eI .i64 x9)]) (fun borrow_1 x9 l3=>[some ⟨31,va.map (eI .u64)⟩,some ⟨31,b.map (eI .u64)⟩,some ⟨31,(a1a 4 0).map (eI .u64)⟩,some ⟨31,l3.map (eI .u64)⟩])
instance :CtC 209 true (bC @aF8):=⟨@aF8⟩
theorem aF0 {N hi lo b r} (hr:aG9 N hi lo b=some r):
  Fp 169 [] [.agg (hi.map (eI .u64)),.agg (lo.map (eI .u64)),.agg (b.map (eI .u64))] (.tup [.agg (r.1.map (eI .u64)),.agg (r.2.1.map (eI .u64)),eB r.2.2]) []:=by
 refine bT func169 ntmps169 results169 fun hR=> ?_
 refine zz ?_
 obtain⟨q,h_1,q_1,h_2,x13,h_3,hr⟩:=gZ hr
 refine a1d<|zz ?_
 refine xp (aBs h_3) ?_
 refine zz ?_
 refine zk hr ?_ ?_<;>intro h4 hr
 ·refine a1d<|a1u (cD []) (cD []) mixed<|a1g (m:=4) [0] ?_
  refine zz ?_
  refine a1o (m:=2) (L:=lst [0,1,2] 5) (s1:=aG 61 [(6,.ptr 0 0),(7,.ptr 1 0),(8,eB false),(16,.agg ((a1a 4 0).map (eI .u64)))]) (h1:=[some ⟨31,(a1a 4 0).map (eI .u64)⟩,some ⟨31,(a1a 4 0).map (eI .u64)⟩]) ?_ (fun J=> ?_)
  ·refine a1g (m:=0) [3,4]<|zz ?_
   refine a1l (by decide +kernel) ?_
   refine zz ?_
   replace hr:=sj hr
   subst hr
   exact zr3 Tryz.results169 fA fA fA (zg' [])
  refine a1m (n:=3) [1,2] ⟨?_, ?_,trivial⟩
  ·refine zz ?_
   refine a1g (m:=2) [2]<|zz ?_
   refine a1i J ?_
   exact(zG [3,4])
  refine zz ?_
  refine a1g (m:=2) [1]<|zz ?_
  refine a1i J ?_
  exact(zG [3,4])
 refine zz ?_
 refine sk2 (aFJ N) (fun l0 l1=>[(6,.ptr 0 0),(7,.ptr 1 0)]) (fun l0 l1=>[some ⟨31,l0.map (eI .u64)⟩,some ⟨31,l1.map (eI .u64)⟩]) ?_ (body:= ?_)
 rotate_left
 ·clear hr
  intro l0 l1 hr
  refine a1d ?_
  obtain⟨q_2,h_5,q_3,h_6,hr⟩:=bW hr
  refine a1u (cD []) (cD []) mixed<|a1g (m:=4) [0] ?_
  refine zz ?_
  refine a1o (m:=2) (L:=lst [0,1,2] 5) (s1:=aG 61 [(6,.ptr 0 0),(7,.ptr 1 0),(60,.agg (l1.map (eI .u64)))]) (h1:=[some ⟨31,l0.map (eI .u64)⟩,some ⟨31,l1.map (eI .u64)⟩]) ?_ (fun J=> ?_)
  ·refine a1g (m:=0) [3,4]<|zz ?_
   refine a1l (by decide +kernel) ?_
   refine zz ?_
   replace hr:=sj hr
   subst hr
   exact zr3 Tryz.results169 fA fA fA (zg' [])
  refine a1m (n:=3) [1,2] ⟨?_, ?_,trivial⟩
  ·refine zz ?_
   refine a1g (m:=2) [2]<|zz ?_
   refine a1i J ?_
   exact(zG [0,1])
  refine zz ?_
  refine a1g (m:=2) [1]<|zz ?_
  refine a1i J ?_
  exact(zG [0,1])
 obtain⟨cY,hL2,hr⟩:=aP hr
 refine zz ?_
 refine a1b<|lp3 hL2 (fun vi l2 l3=>[(4,.ptr 0 0),(5,.ptr 1 0),(6,.ptr 2 0),(7,.ptr 3 0),(9,eI .i64 vi)]) (fun vi l2 l3=>[some ⟨31,lo.map (eI .u64)⟩,some ⟨31,b.map (eI .u64)⟩,some ⟨31,l2.map (eI .u64)⟩,some ⟨31,l3.map (eI .u64)⟩]) (round:= ?_)
 intro m2 vi l2 l3 hr
 refine a1d<|zz ?_
 refine zk hr ?_ ?_<;>clear hr<;>intro h7 hr<;>refine zz ?_
 ·refine sk2 (aCp N lo b vi (hY N lo b m2)) (fun eE dA=>[(4,.ptr 0 0),(5,.ptr 1 0),(6,.ptr 2 0),(7,.ptr 3 0),(9,eI .i64 vi)]) (fun eE dA=>[some ⟨31,lo.map (eI .u64)⟩,some ⟨31,b.map (eI .u64)⟩,some ⟨31,eE.map (eI .u64)⟩,some ⟨31,dA.map (eI .u64)⟩]) ?_ (body:= ?_)
  rotate_left
  ·clear hr
   intro eE dA hr
   refine zz ?_
   exact⟨_,_,_,hr,zG [0,1,2,3]⟩
  refine a1b ?_
  replace hr:=bW hr
  obtain⟨q_4,h_8,x23,h_9,hr⟩:=hr
  refine zz ?_
  refine xp (aCv h_9) ?_
  replace hr:=bW hr
  obtain⟨x27,h_10,q_5,h_11,hr⟩:=hr
  refine zz ?_
  refine xp (aFZ h_10) ?_
  refine zz ?_
  refine bS (xM N lo b vi l2 x23 (hY N lo b m2)) (fun fN=>[(4,.ptr 0 0),(5,.ptr 1 0),(6,.ptr 2 0),(7,.ptr 3 0),(9,eI .i64 vi),(10,eB x23)]) (fun fN=>[some ⟨31,lo.map (eI .u64)⟩,some ⟨31,b.map (eI .u64)⟩,some ⟨31,l2.map (eI .u64)⟩,some ⟨31,fN.map (eI .u64)⟩]) ?_ (body:= ?_)
  rotate_left
  ·clear hr
   intro fN hr
   refine bS (xW N lo b vi l2 fN (hY N lo b m2)) (fun x43=>[(4,.ptr 0 0),(5,.ptr 1 0),(6,.ptr 2 0),(7,.ptr 3 0),(9,eI .i64 vi),(43,eB x43)]) (fun x43=>[some ⟨31,lo.map (eI .u64)⟩,some ⟨31,b.map (eI .u64)⟩,some ⟨31,l2.map (eI .u64)⟩,some ⟨31,fN.map (eI .u64)⟩]) ?_ (body:= ?_)
   rotate_left
   ·clear hr
    intro x43 hr
    refine zk hr ?_ ?_<;>clear hr<;>intro h12 hr
    ·replace hr:=gZ hr
     obtain⟨q_6,h_13,x47,h_14,q_7,h_15,hr⟩:=hr
     refine zz ?_
     refine xp (aF8 h_14) ?_
     replace hr:=bW hr
     obtain⟨x52,h_16,x56,h_17,hr⟩:=hr
     refine zz ?_
     refine a1k mixed [] [] [[0,1,2,3,4,5,6,7,8,9]]<|zz ?_
     exact⟨_,_,hr,zG [0,1,2,3]⟩
    refine zz ?_
    exact⟨_,_,hr,zG [0,1,2,3]⟩
   rcases a1h x23 with h18|h18
   ·replace hr:=kJ hr h18
    refine xr<|zz ?_
    exact⟨_,hr,zG [0,1,2,3]⟩
   replace hr:=kR hr h18
   replace hr:=bW hr
   obtain⟨q_8,h_19,x41,h_20,hr⟩:=hr
   refine xr<|zz ?_
   refine xCg (v:=(eI .i64 x41)) (h':=[some ⟨31,lo.map (eI .u64)⟩,some ⟨31,b.map (eI .u64)⟩,some ⟨31,l2.map (eI .u64)⟩,some ⟨31,fN.map (eI .u64)⟩]) rfl rfl h18 rfl (Vm.Fn.pure (aBs h_20) zR rfl) ?_
   refine zz ?_
   exact⟨_,hr,zG [0,1,2,3]⟩
  replace hr:=bW hr
  obtain⟨q_9,h_21,x32,h_22,hr⟩:=hr
  refine zz ?_
  refine xp (aCv h_22) ?_
  refine zz ?_
  refine zk hr ?_ ?_<;>clear hr<;>intro h23 hr
  ·replace hr:=aP hr
   obtain⟨x33,h_24,hr⟩:=hr
   refine zz ?_
   exact⟨_,hr,zG [0,1,2,3]⟩
  exact zE
 exact zE
instance :CtC 169 true (bC @aF0):=⟨@aF0⟩
theorem aFS {N t r} (hr:aAB N t=some r):
  Fp 170 [] [.agg (t.map (eI .u64))] (eI .u32 r) []:=by
 refine bT func170 ntmps170 results170 fun hR=> ?_
 refine zz ?_
 obtain⟨q,h_1,x6,h_2,hr⟩:=bW hr
 refine a1d<|zz ?_
 refine xp (uT h_2) ?_
 refine zz ?_
 refine zk hr ?_ ?_<;>intro h3 hr
 ·exact zE
 obtain⟨aLV,hL1,hr⟩:=aP hr
 refine zz ?_
 refine a1b<|jA hL1 (fun x=>[(1,.ptr 0 0),(3,eI .i64 x)]) (fun x=>[some ⟨31,t.map (eI .u64)⟩]) (round:= ?_)
 intro m1 x hr
 refine hP (qC N t x (eD N t m1)) [(1,.ptr 0 0),(3,eI .i64 x)] [some ⟨31,t.map (eI .u64)⟩] ?_
 refine a1b ?_
 refine zz ?_
 refine bS (pI N t x (eD N t m1)) (fun l1=>[(1,.ptr 0 0),(3,eI .i64 x),(4,.ptr 1 0)]) (fun l1=>[some ⟨31,t.map (eI .u64)⟩,some ⟨31,l1.map (eI .u64)⟩]) ?_
 exact zE
instance :CtC 170 true (bC @aFS):=⟨@aFS⟩
theorem aG7 {N p k6 first last r} (hr:aBu N p k6 first last=some r):
  Fp 124 [] [cP p,eI .u32 k6,eI .u32 first,eI .u32 last] (.tup [eI .u32 r.1,eI .i64 r.2]) []:=by
 refine bT func124 ntmps124 results124 fun hR=> ?_
 refine zz ?_
 obtain⟨x20,h_1,hr⟩:=aP hr
 refine a1d<|zz ?_
 refine xp (lT h_1) ?_
 refine zz ?_
 refine zk hr ?_ ?_<;>intro h2 hr
 ·exact zE
 obtain⟨x24,h_3,q,h_4,hr⟩:=bW hr
 refine zz ?_
 refine xp (wO h_3) ?_
 refine zz ?_
 refine a1d<|zz ?_
 refine zk hr ?_ ?_<;>intro h5 hr<;>refine zz ?_
 ·exact zE
 refine bS (qV N p x24) (fun vP=>[(4,.ptr 0 0),(10,.ptr 1 0),(12,eI .u64 (a1c.wrap ((a1c.wrap p.Window)*(a1c.wrap p.Spacing)))),(13,eI .u64 vP)]) (fun vP=>[some ⟨34,bD p⟩,some ⟨31,x24.1.map (eI .u64)⟩]) ?_ (body:= ?_)
 rotate_left
 ·clear hr
  intro vP hr
  refine zz ?_
  refine xw (v:=(eI .u64 (if(a1c.wrap (a1r (a1c.wrap ((a1c.wrap p.Window)*(a1c.wrap p.Spacing))) 4))>vP then(a1c.wrap (a1r (a1c.wrap ((a1c.wrap p.Window)*(a1c.wrap p.Spacing))) 4))else vP))) (aZ2 rfl aZJ) ?_
  refine zz ?_
  refine xw (v:=(eI .u64 (if(a1c.wrap (4*(a1c.wrap ((a1c.wrap p.Window)*(a1c.wrap p.Spacing)))))<(if(a1c.wrap (a1r (a1c.wrap ((a1c.wrap p.Window)*(a1c.wrap p.Spacing))) 4))>vP then(a1c.wrap (a1r (a1c.wrap ((a1c.wrap p.Window)*(a1c.wrap p.Spacing))) 4))else vP)then(a1c.wrap (4*(a1c.wrap ((a1c.wrap p.Window)*(a1c.wrap p.Spacing)))))else(if(a1c.wrap (a1r (a1c.wrap ((a1c.wrap p.Window)*(a1c.wrap p.Spacing))) 4))>vP then(a1c.wrap (a1r (a1c.wrap ((a1c.wrap p.Window)*(a1c.wrap p.Spacing))) 4))else vP)))) (aPs rfl aPk) ?_
  refine zz ?_
  refine a1d ?_
  obtain⟨x54,h_6,x55,h_8,q_1,h_10,q_2,h_11,hr⟩:=aA5 hr
  refine a1u (cD [165,168]) (cD []) mixed<|a1g (m:=4) [0,1,2,3,4,5,6] ?_
  refine zz ?_
  refine xu (k9 h_6)<|xu (aGz h_8) ?_
  refine zz ?_
  refine a1o (m:=1) (L:=lst [0,1,2,3,4,5,6,7,8,9] 11) (s1:=aG 83 [(4,.ptr 0 0),(12,eI .u64 (a1c.wrap ((a1c.wrap p.Window)*(a1c.wrap p.Spacing)))),(14,.ptr 1 0),(15,.ptr 2 0),(57,.agg (x55.2.map (eI .u64)))]) (h1:=[some ⟨34,bD p⟩,some ⟨31,x55.1.map (eI .u64)⟩,some ⟨31,(a1a 4 0).map (eI .u64)⟩]) ?_ (fun J=> ?_)
  ·refine a1g (m:=0) [10]<|zz ?_
   refine a1l (by decide +kernel) ?_
   refine zz ?_
   refine a1d ?_
   obtain⟨x62,h_12,x63,h_14,q_3,h_16,q_4,h_17,hr⟩:=aA5 hr
   refine a1u (cD [165,169]) (cD []) mixed<|a1g (m:=5) [0,1,2,3,4,5,6,7,8] ?_
   refine zz ?_
   refine xu (k9 h_12)<|xu (aF0 h_14) ?_
   refine zz ?_
   refine a1o (m:=1) (L:=lst [0,1,2,3,4,5,6,7,8,9,10,11,12] 14) (s1:=aG 83 [(4,.ptr 0 0),(16,.ptr 1 0),(66,eB x63.2.2)]) (h1:=[some ⟨34,bD p⟩,some ⟨31,x63.1.map (eI .u64)⟩]) ?_ (fun J=> ?_)
   ·refine a1g (m:=0) [13]<|zz ?_
    refine a1l (by decide +kernel) ?_
    refine zz ?_
    refine bS (qT N) (fun l0=>[(16,.ptr 0 0)]) (fun l0=>[some ⟨31,l0.map (eI .u64)⟩]) ?_ (body:= ?_)
    rotate_left
    ·clear hr
     intro l0 hr
     refine bS (rA N) (fun aR=>[(16,.ptr 0 0)]) (fun aR=>[some ⟨31,aR.map (eI .u64)⟩]) ?_
     obtain⟨q_6,h_20,x79,h_21,hr⟩:=bW hr
     refine zz ?_
     refine xp (uT h_21) ?_
     refine zz ?_
     refine zk hr ?_ ?_<;>intro h22 hr
     ·obtain⟨x80,h_23,q_7,h_24,hr⟩:=bW hr
      refine zz ?_
      refine xp (k9 h_23) ?_
      refine zz ?_
      exact⟨_,hr,zG [0]⟩
     exact zE
    refine bS (qW N p x63) (fun x75=>[(4,.ptr 0 0),(16,.ptr 1 0),(75,eB x75)]) (fun x75=>[some ⟨34,bD p⟩,some ⟨31,x63.1.map (eI .u64)⟩]) ?_
    exact zE
   refine a1m (n:=4) [9,10] ⟨?_, ?_,trivial⟩
   ·refine zz ?_
    refine a1g (m:=1) [10,11,12]<|zz ?_
    refine a1i J ?_
    exact(zG [0,3])
   refine zz ?_
   refine a1g (m:=1) [9,11,12]<|zz ?_
   refine a1i J ?_
   exact(zG [0,4])
  refine a1m (n:=3) [7,8] ⟨?_, ?_,trivial⟩
  ·refine zz ?_
   refine a1g (m:=1) [8,9]<|zz ?_
   refine a1i J ?_
   exact(zG [0,2,3])
  refine zz ?_
  refine a1g (m:=1) [7,9]<|zz ?_
  refine a1i J ?_
  exact(zG [0,3,2])
 exact zE
instance :CtC 124 true (bC @aG7):=⟨@aG7⟩
theorem aAG {N p c r} (hr:y4 N p c=some r):
  Fp 73 [] [cP p,gE c] (.tup [eI .u32 r.1,eI .i64 r.2]) []:=by
 refine bT func73 ntmps73 results73 fun hR=> ?_
 unfold y4 at hr
 refine zz ?_
 refine a1d ?_
 refine bS (lF N p c) (fun x30=>[(2,.ptr 0 0),(3,.ptr 1 0),(30,eB x30)]) (fun x30=>[some ⟨34,bD p⟩,some ⟨51,cB c⟩]) ?_
 exact zE
instance :CtC 73 true (bC @aAG):=⟨@aAG⟩
theorem v7 {N l r} (hr:tF N l=some r):
  Fp 74 [] [.row none 1 (l.map (eI .u32))] (eI .u32 r) []:=by
 refine bT func74 ntmps74 results74 fun hR=> ?_
 unfold tF at hr
 refine zz ?_
 refine bS (aBO N) (fun l0=>[(3,.sl 0 0 l0.length 1 false)]) (fun l0=>[some ⟨24,l0.map (eI .u32)⟩]) ?_
 obtain⟨cY,hL2,hr⟩:=aP hr
 refine zz ?_
 refine a1b<|dB hL2 (fun x9 aR=>[(3,.sl 0 0 aR.length 1 false),(7,.row none 1 (l.map (eI .u32))),(8,eI .i64 (l.length:Int)),(9,eI .i64 x9)]) (fun x9 aR=>[some ⟨24,aR.map (eI .u32)⟩]) (h0:=(zW 24 [0])) (round:= ?_)
 intro m2 x9 aR hr
 rw[jB]at hr
 refine zz ?_
 refine a1d ?_
 refine zk hr ?_ ?_<;>clear hr<;>intro h3 hr<;>refine zz ?_
 ·refine bS (aB8 N l x9 (jB N l m2)) (fun d9=>[(3,.sl 0 0 d9.length 1 false),(7,.row none 1 (l.map (eI .u32))),(8,eI .i64 (l.length:Int)),(9,eI .i64 x9)]) (fun d9=>[some ⟨24,d9.map (eI .u32)⟩]) ?_
  refine a1b ?_
  replace hr:=aP hr
  obtain⟨x11,h_4,hr⟩:=hr
  refine zz ?_
  refine bS (wM N l x9 aR x11 (jB N l m2)) (fun vi=>[(3,.sl 0 0 aR.length 1 false),(5,eI .u32 x11),(6,eI .i64 vi),(7,.row none 1 (l.map (eI .u32))),(8,eI .i64 (l.length:Int)),(9,eI .i64 x9)]) (fun vi=>[some ⟨24,aR.map (eI .u32)⟩]) ?_ (body:= ?_)
  rotate_left
  ·clear hr
   intro vi hr
   unfold wM at hr
   refine a1s (zv 0) ?_
   replace hr:=aA5 hr
   obtain⟨x30,h_5,x35,h_6,x36,h_7,x37,h_8,hr⟩:=hr
   refine a1u (cD []) (cD []) mixed<|a1g (m:=4) [0,1,2,4,5,6,7,8] ?_
   refine zz ?_
   refine a1o (m:=2) (L:=lst [0,1,2,3,4,5,6,7,8,9] 12) (s1:=aG 48 [(3,.row none 1 (aR.map (eI .u32))),(7,.row none 1 (l.map (eI .u32))),(8,eI .i64 (l.length:Int)),(9,eI .i64 x9),(30,.row (some false) 1 (x30.map (eI .u32))),(36,.sl 0 0 x36.length 1 false)]) (h1:=[some ⟨24,x36.map (eI .u32)⟩]) ?_ (fun J=> ?_)
   ·refine a1g (m:=0) [10,11]<|xw (v:=(.sl 1 0 x37.length 1 false)) (h':=[some ⟨24,x36.map (eI .u32)⟩,some ⟨24,x37.map (eI .u32)⟩]) (uI rfl rfl (aX9 (E:=(eI .u32)) aS1 jT ⟨rfl,rfl,zl⟩ (fun _=>rfl) (aZq rfl rfl) (aXW h_7) rfl h_8 rfl rfl)) ?_
    refine zz ?_
    refine a1l (by decide +kernel) ?_
    exact zE
   refine a1m (n:=3) [3,9] ⟨?_, ?_,trivial⟩
   ·refine zz ?_
    refine a1g (m:=2) [9]<|zz ?_
    refine a1i J ?_
    exact(zG [2])
   refine zz ?_
   refine a1g (m:=2) [3]<|zz ?_
   refine a1i J ?_
   exact(zG [2])
  replace hr:=aP hr
  obtain⟨res5,hL5,hr⟩:=hr
  refine a1b<|jA hL5 (fun iV=>[(3,.sl 0 0 aR.length 1 false),(5,eI .u32 x11),(6,eI .i64 iV),(7,.row none 1 (l.map (eI .u32))),(8,eI .i64 (l.length:Int)),(9,eI .i64 x9)]) (fun iV=>[some ⟨24,aR.map (eI .u32)⟩]) (round:= ?_)
  intro m5 iV hr
  rw[jF]at hr
  refine a1d ?_
  refine bS (rD N l x9 aR x11 iV (jF N l x9 aR x11 m5)) (fun x24=>[(3,.sl 0 0 aR.length 1 false),(5,eI .u32 x11),(6,eI .i64 iV),(7,.row none 1 (l.map (eI .u32))),(8,eI .i64 (l.length:Int)),(9,eI .i64 x9),(24,eB x24)]) (fun x24=>[some ⟨24,aR.map (eI .u32)⟩]) ?_
  exact zE
 exact zE
instance :CtC 74 true (bC @v7):=⟨@v7⟩
theorem aD0 {N vh r} (hr:wQ N vh=some r):
  Fp 125 [] [.agg (vh.map (eI .u8))] (.agg (r.map (eI .u64))) []:=by
 refine bT func125 ntmps125 results125 fun hR=> ?_
 refine zz ?_
 refine bS (yA N) (fun l1=>[(2,.ptr 0 0),(3,.ptr 1 0)]) (fun l1=>[some ⟨31,(a1a 4 0).map (eI .u64)⟩,some ⟨31,l1.map (eI .u64)⟩]) ?_
 obtain⟨cY,hL2,hr⟩:=aP hr
 refine zz ?_
 exact a1b<|dB hL2 (fun x6 l2=>[(1,.ptr 0 0),(2,.ptr 1 0),(3,.ptr 2 0),(6,eI .i64 x6)]) (fun x6 l2=>[some ⟨26,vh.map (eI .u8)⟩,some ⟨31,(a1a 4 0).map (eI .u64)⟩,some ⟨31,l2.map (eI .u64)⟩])
instance :CtC 125 true (bC @aD0):=⟨@aD0⟩
theorem aDv {N vh k6 r} (hr:aAp N vh k6=some r):
  Fp 75 [] [.agg (vh.map (eI .u8)),eI .u32 k6] (eB r) []:=by
 refine bT func75 ntmps75 results75 fun hR=> ?_
 obtain⟨x9,h_1,q,h_2,hr⟩:=bW hr
 refine zz ?_
 refine xp (wO h_1) ?_
 refine zz ?_
 refine bS (aCX N) (fun x4=>[(4,eB x4)]) (fun x4=>[]) ?_
 exact zE
instance :CtC 75 true (bC @aDv):=⟨@aDv⟩
theorem aFL {N p c n7 vby r} (hr:aGV N p c n7 vby=some r):
  Fp 35 [] [cP p,gE c,.agg (n7.map (eI .u8)),eI .u32 vby] (pO r) []:=by
 refine bT func35 ntmps35 results35 fun hR=> ?_
 obtain⟨x15,h_1,hr⟩:=aP hr
 refine zz ?_
 refine xp (aAG h_1) ?_
 refine zz ?_
 refine a1d ?_
 obtain⟨q,h_2,q_1,h_3,x25,h_4,hr⟩:=gZ hr
 refine a1k mixed [74] [] [[0,1,2,3,4,5,6,7,8,9,10,11,12,13,14]]<|zz ?_
 refine xu (v7 h_4) ?_
 refine zz ?_
 refine xw (v:=(.agg ((eI .u32 p.Version)::(aN (eI .u8) c.Hash (aN (eI .u8) n7 [eI .u32 (a1f.wrap ((a1f.wrap (x25+1))+vby)),eI .u32 x15.1,eI .u32 0]))))) (cM rfl (aHI (ps':=[(0,eI .u32 p.Version),(1,.agg (aN (eI .u8) c.Hash [])),(2,.agg (aN (eI .u8) n7 [])),(3,eI .u32 (a1f.wrap ((a1f.wrap (x25+1))+vby))),(4,eI .u32 x15.1)]) (by simp only[dE (l:=c.Hash) (aT h_2),dE (l:=n7) (aT h_3)]<;>rfl) (jU aEB aUM (by kernel_rfl)))) ?_
 refine zz ?_
 refine bS (aKa N p c n7 vby x15 x25) (fun c1=>[(8,.ptr 0 0),(11,.ptr 1 0)]) (fun c1=>[some ⟨28,(eI .u32 0)::(aN (eI .u8) (a1a 32 0) (aN (eI .u8) (a1a 32 0) [eI .u32 0,eI .u32 0,eI .u32 0]))⟩,some ⟨28,(eI .u32 p.Version)::(aN (eI .u8) c.Hash (aN (eI .u8) n7 [eI .u32 (a1f.wrap ((a1f.wrap (x25+1))+vby)),eI .u32 x15.1,eI .u32 c1]))⟩]) ?_
 obtain⟨cY,hL2,hr⟩:=aP hr
 refine zz ?_
 exact a1b<|jA hL2 (fun aCO=>[(8,.ptr 0 0),(9,eI .u32 x15.1),(11,.ptr 1 0)]) (fun aCO=>[some ⟨28,(eI .u32 0)::(aN (eI .u8) (a1a 32 0) (aN (eI .u8) (a1a 32 0) [eI .u32 0,eI .u32 0,eI .u32 0]))⟩,some ⟨28,(eI .u32 p.Version)::(aN (eI .u8) c.Hash (aN (eI .u8) n7 [eI .u32 (a1f.wrap ((a1f.wrap (x25+1))+vby)),eI .u32 x15.1,eI .u32 aCO]))⟩])
instance :CtC 35 true (bC @aFL):=⟨@aFL⟩
theorem aEw {N p l c vs r} (hr:aE7 N p l c vs=some r):
  Fp 10 [] [cP p,cG l,gE c,eI .u8 vs] (cW r) []:=by
 refine bT func10 ntmps10 results10 fun hR=> ?_
 obtain⟨x16,h_1,hr⟩:=aP hr
 refine zz ?_
 refine zc (tR h_1) [] ?_
 refine zz ?_
 refine a1d ?_
 obtain⟨x26,h_2,x31,h_4,x32,h_6,x35,h_8,hr⟩:=aA5 hr
 refine a1u (cD [20,33,34]) (cD []) mixed<|a1g (m:=5) [0,1,2,3,4,5,6,7,8,9,10,11,12,13,15] ?_
 refine zz ?_
 refine xu (uR h_2) ?_
 refine zz ?_
 refine xu (oT h_4)<|xu (aA7 h_6) ?_
 refine zz ?_
 refine a1o (m:=1) (L:=lst [0,1,2,3,4,5,6,7,8,9,10,11,12,13,14,15,16,17,18] 20) (s1:=aG 47 [(3,eI .u8 vs),(4,.ptr 0 0),(6,.ptr 1 0),(8,.ptr 2 0),(11,.ptr 3 0),(36,.agg ((eI .u32 0)::(aN (eI .u8) (a1a 32 0) (aN (eI .u8) (a1a 32 0) [eI .u32 0,eI .u32 0,eI .u32 0,.sl 4 0 x35.length 4 true]))))]) (h1:=[some ⟨34,bD p⟩,some ⟨51,cB c⟩,some ⟨47,(eI .u32 0)::(aN (eI .u8) (a1a 32 0) (aN (eI .u8) (a1a 32 0) [eI .u32 0,eI .u32 0,eI .u32 0,.row (some true) 1 []]))⟩,some ⟨47,(eI .u32 0)::(aN (eI .u8) (a1a 32 0) (aN (eI .u8) (a1a 32 0) [eI .u32 0,eI .u32 0,eI .u32 0,.row (some true) 1 []]))⟩,some ⟨91,x35.flatMap aZ⟩]) ?_ (fun J=> ?_)
 ·refine a1g (m:=0) [19]<|zz ?_
  refine a1l (by decide +kernel) ?_
  refine zz ?_
  refine a1d ?_
  obtain⟨x41,h_9,x43,h_11,x44,h_13,hr⟩:=gZ hr
  refine a1k mixed [35,37] [36] [[0,1,2,3,4,5,6,7,8,9]]<|zz ?_
  refine zgL (aEm h_9) [] [4] ?_
  refine zz ?_
  refine xu (aCu h_11)<|xu (aFL h_13) ?_
  exact zE
 refine a1m (n:=4) [14,18] ⟨?_, ?_,trivial⟩
 ·refine nC aZ 4 [x32] ?_
  refine zz ?_
  refine a1m (n:=3) [16,18] ⟨?_, ?_,trivial⟩
  ·refine zz ?_
   refine a1g (m:=1) [17,18]<|xw (v:=(.agg ((eI .u32 0)::(aN (eI .u8) (a1a 32 0) (aN (eI .u8) (a1a 32 0) [eI .u32 0,eI .u32 0,eI .u32 0,.sl 6 0 x35.length 4 true]))))) (cM rfl (jU aKr aQb rfl)) ?_
   refine zz ?_
   refine a1i J ?_
   exact(zG [0,2,3,7,6])
  refine zz ?_
  refine a1g (m:=1) [16,17]<|zz ?_
  refine xw (v:=(.agg ((eI .u32 0)::(aN (eI .u8) (a1a 32 0) (aN (eI .u8) (a1a 32 0) [eI .u32 0,eI .u32 0,eI .u32 0,.sl 7 0 x35.length 4 true]))))) (cM rfl (jU aKr aQb rfl)) ?_
  refine zz ?_
  refine a1i J ?_
  exact(zG [0,2,3,6,7])
 refine zz ?_
 refine a1g (m:=1) [14,16,17]<|nC aZ 4 [x32] ?_
 refine zz ?_
 refine xw (v:=(.agg ((eI .u32 0)::(aN (eI .u8) (a1a 32 0) (aN (eI .u8) (a1a 32 0) [eI .u32 0,eI .u32 0,eI .u32 0,.sl 7 0 x35.length 4 true]))))) (cM rfl (jU aKr aQb rfl)) ?_
 refine zz ?_
 refine a1i J ?_
 exact(zG [0,2,3,5,7])
instance :CtC 10 true (bC @aEw):=⟨@aEw⟩
theorem tX {N va b r} (hr:u5 N va b=some r):
  Fp 104 [] [cC va,cC b] (eI .i64 r) []:=by
 refine bT func104 ntmps104 results104 fun hR=> ?_
 refine zz ?_
 refine hP (aA1 N va b) [(2,.eptr [cC va] 0 0),(3,.eptr [cC b] 0 0)] [] ?_ (body:= ?_)
 rotate_left
 ·clear hr
  intro hr
  refine a1d<|a1b ?_
  refine zz ?_
  refine xw (v:=(eI .u32 va.Index)) (cF rfl (aNW (nY jT rfl rfl))) ?_
  refine zz ?_
  refine xw (v:=(eI .u32 b.Index)) (cF rfl (aNW (nY jT rfl rfl))) ?_
  refine zz ?_
  refine zk hr ?_ ?_<;>intro h1 hr<;>refine zz ?_
  ·exact zE
  refine xw (v:=(eI .u32 va.Index)) (cF rfl (aNW (nY jT rfl rfl))) ?_
  refine zz ?_
  refine xw (v:=(eI .u32 b.Index)) (cF rfl (aNW (nY jT rfl rfl))) ?_
  exact zE
 refine zz ?_
 refine a1s (zqf [0,1])<|a1s (zqf [0,0]) ?_
 obtain⟨cY,hL2,hr⟩:=aP hr
 refine a1b<|jA hL2 (fun x6=>[(2,.eptr [cC va] 0 0),(3,.eptr [cC b] 0 0),(6,eI .i64 x6)]) (fun x6=>[]) (round:= ?_)
 intro m2 x6 hr
 refine zz ?_
 refine a1d ?_
 refine zk hr ?_ ?_<;>clear hr<;>intro h3 hr<;>refine zz ?_
 ·refine a1d<|a1b ?_
  refine zz ?_
  refine a1d<|a1d ?_
  replace hr:=bW hr
  obtain⟨x11,h_4,x15,h_5,hr⟩:=hr
  refine a1k mixed [] [] [[0,1,2,3,4,5,6,7,8]]<|zz ?_
  refine xw (v:=(.eptr [cC va] 0 (0+a1p x6))) (aGg rfl rfl (iaE iH nF rfl h_4))<|xw (v:=(eI .u8 x11)) (cF rfl (aNc (E:=(eI .u8)) (l:=va.Tx) (y:=x11) nF rfl h_4)) ?_
  refine zz ?_
  refine xw (v:=(.eptr [cC b] 0 (0+a1p x6))) (aGg rfl rfl (iaE iH nF rfl h_5))<|xw (v:=(eI .u8 x15)) (cF rfl (aNc (E:=(eI .u8)) (l:=b.Tx) (y:=x15) nF rfl h_5)) ?_
  refine zz ?_
  refine zk hr ?_ ?_<;>clear hr<;>intro h6 hr<;>refine zz ?_
  ·exact zE
  refine a1d<|a1k mixed [] [] [[0,1,2,3,4,5,6,7,8]]<|zz ?_
  refine xw (v:=(.eptr [cC va] 0 (0+a1p x6))) (aGg rfl rfl (iaE iH nF rfl h_4))<|xw (v:=(eI .u8 x11)) (cF rfl (aNc (E:=(eI .u8)) (l:=va.Tx) (y:=x11) nF rfl h_4)) ?_
  refine zz ?_
  refine xw (v:=(.eptr [cC b] 0 (0+a1p x6))) (aGg rfl rfl (iaE iH nF rfl h_5))<|xw (v:=(eI .u8 x15)) (cF rfl (aNc (E:=(eI .u8)) (l:=b.Tx) (y:=x15) nF rfl h_5)) ?_
  exact zE
 exact zE
instance :CtC 104 true (bC @tX):=⟨@tX⟩
theorem aCR {N l r} (hr:rQ N l=some r):
  Fp 63 [] [cG l] (eB r) []:=by
 refine bT func63 ntmps63 results63 fun hR=> ?_
 unfold rQ at hr
 refine zz ?_
 refine a1d ?_
 refine bS (mC N l) (fun x19=>[(1,.ptr 0 0),(19,eB x19)]) (fun x19=>[some ⟨44,aO l⟩]) ?_ (body:= ?_)
 rotate_left
 ·clear hr
  intro x19 hr
  unfold mC at hr
  refine zk hr ?_ ?_<;>intro h1 hr<;>refine zz ?_
  ·exact zE
  refine hP (aHS N) [] [] ?_
  obtain⟨zX,hL3,hr⟩:=aP hr
  refine zz ?_
  refine a1b<|dB hL3 (fun sum x23=>[(1,.ptr 0 0),(3,eI .i64 sum),(21,.row none 37 (l.Coins.map aJ)),(22,eI .i64 (l.Coins.length:Int)),(23,eI .i64 x23)]) (fun sum x23=>[some ⟨44,aO l⟩]) (round:= ?_)
  intro m3 sum x23 hr
  rw[eO]at hr
  refine zz ?_
  refine a1d ?_
  refine zk hr ?_ ?_<;>clear hr<;>intro h2 hr<;>refine zz ?_
  ·refine a1d<|a1b ?_
   replace hr:=aP hr
   obtain⟨x26,h_3,hr⟩:=hr
   refine zz ?_
   refine a1d ?_
   refine bS (iW N l sum x23 x26 (eO N l m3)) (fun x54=>[(1,.ptr 0 0),(3,eI .i64 sum),(5,.ptr 1 0),(21,.row none 37 (l.Coins.map aJ)),(22,eI .i64 (l.Coins.length:Int)),(23,eI .i64 x23),(54,eB x54)]) (fun x54=>[some ⟨44,aO l⟩,some ⟨80,aF x26⟩]) ?_ (body:= ?_)
   rotate_left
   ·clear hr
    intro x54 hr
    unfold iW at hr
    refine zk hr ?_ ?_<;>clear hr<;>intro h4 hr<;>refine zz ?_
    ·exact zE
    refine a1d ?_
    refine bS (oQ N l sum x23 x26 (eO N l m3)) (fun x71=>[(1,.ptr 0 0),(3,eI .i64 sum),(5,.ptr 1 0),(21,.row none 37 (l.Coins.map aJ)),(22,eI .i64 (l.Coins.length:Int)),(23,eI .i64 x23),(71,eB x71)]) (fun x71=>[some ⟨44,aO l⟩,some ⟨80,aF x26⟩]) ?_
    exact zE
   rcases a1h (decide (0<x23))with h9|h9
   ·replace hr:=kJ hr h9
    replace hr:=bW hr
    obtain⟨x35,h_10,x40,h_11,hr⟩:=hr
    rcases a1h (decide (0≤x40))with h13|h13
    ·replace hr:=kJ hr h13
     refine a1k mixed [104] [] [[0,1,2,3,4,5,6,7,8,9,10,11,12,13,14,15,16,17,18,19,20,21,22,23,24,25,26]]<|zz ?_
     refine xu (tX h_11) ?_
     refine zz ?_
     refine xX rfl<|xX rfl<|xX rfl<|xX rfl<|xX rfl ?_
     refine zz ?_
     exact⟨_,hr,zG [0,1]⟩
    exact zE
   replace hr:=kR hr h9
   rcases a1h (decide (x26.Height<1))with h15|h15
   ·replace hr:=kJ hr h15
    refine a1k mixed [104] [] [[0,1,2,3,4,5,6,7,8,9,10,11,12,13,14,15,16,17,18,19,20,21,22,23,24,25,26]]<|zz ?_
    refine xSg (v:=(.ptr 1 35)) rfl rfl rfl (aQZ rfl fP) ?_
    refine xSg (v:=(eI .i64 x26.Height)) rfl rfl rfl (cF rfl (ldP rfl (nY ti3 rfl rfl))) ?_
    refine xSg (v:=(eB (decide (x26.Height<1)))) rfl rfl rfl (eY rfl rfl (aN4 ..)) ?_
    refine zz ?_
    exact⟨_,hr,zG [0,1]⟩
   replace hr:=kR hr h15
   refine a1k mixed [104] [] [[0,1,2,3,4,5,6,7,8,9,10,11,12,13,14,15,16,17,18,19,20,21,22,23,24,25,26]]<|zz ?_
   refine xSg (v:=(.ptr 1 35)) rfl rfl rfl (aQZ rfl fP) ?_
   refine xSg (v:=(eI .i64 x26.Height)) rfl rfl rfl (cF rfl (ldP rfl (nY ti3 rfl rfl))) ?_
   refine xSg (v:=(eB (decide (x26.Height<1)))) rfl rfl rfl (eY rfl rfl (aN4 ..)) ?_
   exact zE
  exact zE
 exact zE
instance :CtC 63 true (bC @aCR):=⟨@aCR⟩
theorem aHm {N t bG r} (hr:sG N t bG=some r):
  Fp 203 [] [aU t,eB bG] (.tup [.sl 0 0 r.1.length 1 false,eI .i64 r.2]) [some ⟨5,r.1.map (eI .u8)⟩]:=by
 refine bT func203 ntmps203 results203 fun hR=> ?_
 refine zz ?_
 obtain⟨x7,h_1,hr⟩:=aP hr
 refine a1d<|zz ?_
 refine xp (aAw h_1) ?_
 refine zz ?_
 refine zk hr ?_ ?_<;>intro h2 hr
 ·refine zz ?_
  replace hr:=sj hr
  subst hr
  exact xZ Tryz.results203 fA fA (zW 5 [1])
 exact zE
instance :CtC 203 false (bC @aHm):=⟨@aHm⟩
theorem aGW {N b r} (hr:aCh N b=some r):
  Fp 155 [] [cW b] (.sl 0 0 r.length 1 false) [some ⟨5,r.map (eI .u8)⟩]:=by
 refine bT func155 ntmps155 results155 fun hR=> ?_
 refine zz ?_
 refine a1d ?_
 obtain⟨x10,h_1,x15,h_3,hr⟩:=bW hr
 refine a1k mixed [] [84,161] [[0,1,2,3,4,5,6,7,8]]<|zz ?_
 refine zg (tI h_1) [] ?_
 refine zz ?_
 refine zgL (jJ h_3) [] [1] ?_
 refine zz ?_
 refine bS (aCs N) (fun l0=>[(3,.sl 0 0 l0.length 1 false)]) (fun l0=>[some ⟨5,l0.map (eI .u8)⟩]) ?_
 obtain⟨cY,hL2,hr⟩:=aP hr
 refine zz ?_
 exact a1b<|dB hL2 (fun x19 aR=>[(3,.sl 0 0 aR.length 1 false),(17,.row none 4 (b.Txs.map aU)),(18,eI .i64 (b.Txs.length:Int)),(19,eI .i64 x19)]) (fun x19 aR=>[some ⟨5,aR.map (eI .u8)⟩])
instance :CtC 155 false (bC @aGW):=⟨@aGW⟩
theorem aEJ {N b r} (hr:zF N b=some r):
  Fp 105 [] [cW b] (eB r) []:=by
 refine bT func105 ntmps105 results105 fun hR=> ?_
 refine zz ?_
 refine a1d<|zz ?_
 refine zk hr ?_ ?_<;>intro h1 hr<;>refine zz ?_
 ·exact zE
 refine hP (aAI N b) [(1,.ptr 0 0)] [some ⟨47,aQ b⟩] ?_
 obtain⟨cY,hL2,hr⟩:=aP hr
 refine zz ?_
 exact a1b<|jA hL2 (fun x12=>[(1,.ptr 0 0),(10,.row none 4 (b.Txs.map aU)),(11,eI .i64 (b.Txs.length:Int)),(12,eI .i64 x12)]) (fun x12=>[some ⟨47,aQ b⟩])
instance :CtC 105 true (bC @aEJ):=⟨@aEJ⟩
theorem aJH {N o r} (hr:rM N o=some r):
  Fp 135 [] [cC o] (eB r) []:=by
 refine bT func135 ntmps135 results135 fun hR=> ?_
 refine zz ?_
 refine xw (v:=(.agg (aN (eI .u8) (a1a 32 0) [eI .u32 4294967295]))) (cM rfl (jU g9 aI5 rfl))<|xw (eY rfl rfl (k7 (d:=9) g9 rfl sH zl vS rfl rfl rfl rfl rfl)) ?_
 exact zE
instance :CtC 135 true (bC @aJH):=⟨@aJH⟩
theorem nS {N t r} (hr:cJ N t=some r):
  Fp 85 [] [aU t] (eB r) []:=by
 refine bT func85 ntmps85 results85 fun hR=> ?_
 unfold cJ at hr
 refine zz ?_
 refine bS (sD N) (fun x2=>[(2,eB x2)]) (fun x2=>[]) ?_
 exact zE
instance :CtC 85 true (bC @nS):=⟨@nS⟩
theorem aDx {N t r} (hr:rU N t=some r):
  Fp 106 [] [aU t] (eI .i64 r) []:=by
 refine bT func106 ntmps106 results106 fun hR=> ?_
 refine zz ?_
 obtain⟨x11,h_1,hr⟩:=aP hr
 refine a1d<|zz ?_
 refine xp (aAw h_1) ?_
 refine zz ?_
 refine zk hr ?_ ?_<;>intro h2 hr<;>refine zz ?_
 ·exact zE
 refine a1d ?_
 refine bS (oW N t) (fun x22=>[(1,.ptr 0 0),(22,eB x22)]) (fun x22=>[some ⟨91,aZ t⟩]) ?_ (body:= ?_)
 rotate_left
 ·clear hr
  intro x22 hr
  refine zk hr ?_ ?_<;>intro h3 hr<;>refine zz ?_
  ·exact zE
  refine bS (sL N t) (fun sum=>[(1,.ptr 0 0),(3,eI .i64 sum)]) (fun sum=>[some ⟨91,aZ t⟩]) ?_ (body:= ?_)
  rotate_left
  ·clear hr
   intro sum hr
   refine a1d ?_
   refine zz ?_
   refine zk hr ?_ ?_<;>intro h4 hr<;>refine zz ?_
   ·exact zE
   refine hP (sO N t) [(1,.ptr 0 0)] [some ⟨91,aZ t⟩] ?_ (body:= ?_)
   rotate_left
   ·clear hr
    intro hr
    refine hP (aIa N) [] [] ?_
    obtain⟨res5,hL5,hr⟩:=aP hr
    refine zz ?_
    refine a1b<|jA hL5 (fun x68=>[(1,.ptr 0 0),(66,.row none 35 (t.Inputs.map bQ)),(67,eI .i64 (t.Inputs.length:Int)),(68,eI .i64 x68)]) (fun x68=>[some ⟨91,aZ t⟩]) (round:= ?_)
    intro m5 x68 hr
    refine zz ?_
    refine a1d ?_
    refine zk hr ?_ ?_<;>clear hr<;>intro h5 hr<;>refine zz ?_
    ·refine a1d<|a1b ?_
     replace hr:=aP hr
     obtain⟨x70,h_6,hr⟩:=hr
     refine zz ?_
     refine bS (oP N t x68 (gQ N t m5)) (fun x79=>[(1,.ptr 0 0),(66,.row none 35 (t.Inputs.map bQ)),(67,eI .i64 (t.Inputs.length:Int)),(68,eI .i64 x68),(79,eB x79)]) (fun x79=>[some ⟨91,aZ t⟩]) ?_
     exact zE
    exact zE
   obtain⟨res7,hL7,hr⟩:=aP hr
   refine zz ?_
   refine a1b<|jA hL7 (fun x43=>[(1,.ptr 0 0),(42,eI .i64 (t.Inputs.length:Int)),(43,eI .i64 x43)]) (fun x43=>[some ⟨91,aZ t⟩]) (round:= ?_)
   intro m7 x43 hr
   refine zz ?_
   refine a1d ?_
   refine zk hr ?_ ?_<;>clear hr<;>intro h11 hr<;>refine zz ?_
   ·refine hP (yY N t x43 (kF N t m7)) [(1,.ptr 0 0),(42,eI .i64 (t.Inputs.length:Int)),(43,eI .i64 x43)] [some ⟨91,aZ t⟩] ?_
    refine a1b ?_
    replace hr:=aP hr
    obtain⟨res9,hL9,hr⟩:=hr
    refine zz ?_
    refine a1b<|jA hL9 (fun k=>[(1,.ptr 0 0),(6,eI .i64 x43),(7,eI .i64 k),(42,eI .i64 (t.Inputs.length:Int)),(43,eI .i64 x43)]) (fun k=>[some ⟨91,aZ t⟩]) (round:= ?_)
    intro m9 k hr
    refine a1d<|zz ?_
    refine zk hr ?_ ?_<;>clear hr<;>intro h12 hr<;>refine zz ?_
    ·refine a1d<|a1b<|a1d ?_
     replace hr:=bW hr
     obtain⟨x54,h_13,x60,h_14,hr⟩:=hr
     refine a1k mixed [] [] [[0,1,2,3,4,5,6,7,8,9,10,11,12]]<|zz ?_
     refine xw (v:=(eB (fR x54.Prev.Tx x60.Prev.Tx ((x54.Prev.Index == x60.Prev.Index)&&true)))) (eY rfl rfl (k7 (d:=9) g9 rfl sH zl vS rfl rfl rfl rfl rfl)) ?_
     exact zE
    exact zE
   exact zE
  obtain⟨res10,hL10,hr⟩:=aP hr
  refine zz ?_
  exact a1b<|dB hL10 (fun gL x26=>[(1,.ptr 0 0),(3,eI .i64 gL),(24,.row none 2 (t.Outputs.map cK)),(25,eI .i64 (t.Outputs.length:Int)),(26,eI .i64 x26)]) (fun gL x26=>[some ⟨91,aZ t⟩])
 exact zE
instance :CtC 106 true (bC @aDx):=⟨@aDx⟩
end Go.Proofs.YtopdhljncajmpaaGreatDoor
