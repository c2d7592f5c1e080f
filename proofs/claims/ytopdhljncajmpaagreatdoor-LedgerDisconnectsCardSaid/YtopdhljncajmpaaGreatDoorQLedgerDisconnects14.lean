/- Texts of ours, joined: Wk4. -/
import Derived.Test.YtopdhljncajmpaaGreatDoorQLedgerDisconnects10
open Go.Vm.AB renaming block → a1a,seq → a1c,cndF → a1e
open List renaming replicate → a1b
open Go.IntKind renaming u32 → a1d
set_option linter.unusedVariables false
set_option linter.unusedSimpArgs false
set_option maxRecDepth 20000
set_option maxHeartbeats 8000000
namespace Go.Proofs.YtopdhljncajmpaaGreatDoor
open Go Go.Vm Go.Proofs.Tryz
theorem aGa {N vn r} (hr:aEL N vn=some r):
  Fp 139 [] [eI .u64 vn] (.agg (r.map (eI .u64))) []:=by
 refine bT func139 ntmps139 results139 fun hR=> ?_
 unfold aEL at hr
 refine zz ?_
 refine xw (v:=(.agg ([vn,0,0,0].map (eI .u64)))) (cM rfl (aHq aHw aGp rfl)) ?_
 exact zE
instance :CtC 139 true (bC @aGa):=⟨@aGa⟩
theorem aD9 {N x r} (hr:aGX N x=some r):
  Fp 187 [] [eI .u64 x] (eI .i64 r) []:=by
 refine bT func187 ntmps187 results187 fun hR=> ?_
 refine zz ?_
 refine a1c<|zz ?_
 obtain⟨h1,hr⟩:=cutF hr
 refine a1e rfl h1 ?_
 refine zz ?_
 refine a1c<|zz ?_
 obtain⟨h2,hr⟩:=aL3 hr
 refine AB.cndT rfl h2 ?_
 obtain⟨x10,h_3,hr⟩:=aP hr
 refine zz ?_
 refine a1c<|zz ?_
 obtain⟨h4,hr⟩:=cutF hr
 refine a1e rfl h4 ?_
 obtain⟨x22,h_5,hr⟩:=aP hr
 refine zz ?_
 refine xw (v:=(eI .u8 x22)) (aYx rfl rfl (ixT ti9 h_5)) ?_
 exact zE
instance :CtC 187 true (bC @aD9):=⟨@aD9⟩
theorem aLz {N va r} (hr:aRa N va=some r):
  Fp 140 [] [.agg (va.map (eI .u64))] (eI .i64 r) []:=by
 refine bT func140 ntmps140 results140 fun hR=> ?_
 refine zz ?_
 obtain⟨aLV,hL1,hr⟩:=aP hr
 refine a1c<|zz ?_
 exact a1a<|jA hL1 (fun vi=>[(1,.ptr 0 0),(3,eI .i64 vi)]) (fun vi=>[some ⟨31,va.map (eI .u64)⟩])
instance :CtC 140 true (bC @aLz):=⟨@aLz⟩
theorem aLw {N va vn r} (hr:aQY N va vn=some r):
  Fp 189 [] [.agg (va.map (eI .u64)),eI .i64 vn] (.agg (r.map (eI .u64))) []:=by
 refine bT func189 ntmps189 results189 fun hR=> ?_
 refine zz ?_
 refine a1c<|zz ?_
 obtain⟨h1,hr⟩:=cutF hr
 refine a1e rfl h1 ?_
 refine zz ?_
 refine a1c<|zz ?_
 obtain⟨h2,hr⟩:=cutF hr
 refine a1e rfl h2 ?_
 refine zz ?_
 refine bS (aLO N) (fun l1=>[(4,.ptr 0 0),(5,.ptr 1 0)]) (fun l1=>[some ⟨31,(a1b 4 0).map (eI .u64)⟩,some ⟨31,l1.map (eI .u64)⟩]) ?_
 obtain⟨cY,hL2,hr⟩:=aP hr
 refine zz ?_
 exact a1a<|dB hL2 (fun vi l2=>[(2,.ptr 0 0),(4,.ptr 1 0),(5,.ptr 2 0),(6,eI .i64 (IntKind.i64.wrap (Int.tdiv vn 64))),(7,eI .i64 (Int.tmod vn 64)),(8,eI .i64 vi)]) (fun vi l2=>[some ⟨31,va.map (eI .u64)⟩,some ⟨31,(a1b 4 0).map (eI .u64)⟩,some ⟨31,l2.map (eI .u64)⟩])
instance :CtC 189 true (bC @aLw):=⟨@aLw⟩
theorem aE3 {N va vn r} (hr:aHW N va vn=some r):
  Fp 141 [] [.agg (va.map (eI .u64)),eI .i64 vn] (.agg (r.map (eI .u64))) []:=
 jC func141 ntmps141 results141
instance :CtC 141 true (bC @aE3):=⟨@aE3⟩
theorem aGt {N k6 r} (hr:aEU N k6=some r):
  Fp 92 [] [eI .u32 k6] (.tup [.agg (r.1.map (eI .u64)),eI .i64 r.2]) []:=
 jC func92 ntmps92 results92
instance :CtC 92 true (bC @aGt):=⟨@aGt⟩
theorem aLv {N va b r} (hr:aIM N va b=some r):
  Fp 93 [] [.agg (va.map (eI .u64)),.agg (b.map (eI .u64))] (eI .i64 r) []:=by
 refine bT func93 ntmps93 results93 fun hR=> ?_
 unfold aIM at hr
 refine zz ?_
 obtain⟨aLV,hL1,hr⟩:=aP hr
 refine a1c<|zz ?_
 refine a1a<|lp0 hL1 [(2,.ptr 0 0),(3,.ptr 1 0),(5,eI .i64 3)] [some ⟨31,va.map (eI .u64)⟩,some ⟨31,b.map (eI .u64)⟩] (round:= ?_)
 intro m1 hr
 rw[aLG]at hr
 exact zE
instance :CtC 93 true (bC @aLv):=⟨@aLv⟩
theorem aE1 {N p r} (hr:oM N p=some r):
  Fp 58 [] [cP p] (eB r) []:=by
 refine bT func58 ntmps58 results58 fun hR=> ?_
 refine zz ?_
 refine a1c ?_
 obtain⟨q,h_1,hr⟩:=aP hr
 obtain⟨h2,hr⟩:=cutF hr
 obtain⟨h3,hr⟩:=cutF hr
 refine xq ?_
 refine zz ?_
 refine xw (v:=(.agg ([0,0,0,0].map (eI .u64)))) (cM rfl (aHq aHw aGp rfl)) ?_
 refine zz ?_
 obtain⟨h4,hr⟩:=cutF hr
 refine a1e rfl h4 ?_
 refine zz ?_
 refine a1c ?_
 obtain⟨h5,hr⟩:=cutF hr
 obtain⟨h6,hr⟩:=cutF hr
 obtain⟨h7,hr⟩:=cutF hr
 refine xq ?_
 refine zz ?_
 obtain⟨h8,hr⟩:=cutF hr
 refine a1e rfl h8 ?_
 refine zz ?_
 refine a1c ?_
 obtain⟨h9,hr⟩:=cutF hr
 obtain⟨h10,hr⟩:=cutF hr
 obtain⟨h11,hr⟩:=cutF hr
 refine xq ?_
 refine zz ?_
 obtain⟨h12,hr⟩:=cutF hr
 refine a1e rfl h12 ?_
 refine zz ?_
 refine hP (zU N p) [(1,.ptr 0 0)] [some ⟨34,bD p⟩] ?_
 obtain⟨cY,hL2,hr⟩:=aP hr
 refine zz ?_
 exact a1a<|lp0 hL2 [(1,.ptr 0 0),(3,eI .i64 0),(59,.row none 33 (p.Checkpoints.map bE)),(60,eI .i64 (p.Checkpoints.length:Int)),(61,eI .i64 0)] [some ⟨34,bD p⟩]
instance :CtC 58 true (bC @aE1):=⟨@aE1⟩
theorem aG3 {N vn cT r} (hr:sS N vn cT=some r):
  Fp 179 [] [eI .u64 vn,eI .i64 cT] (.sl 0 0 r.length 1 false) [some ⟨5,r.map (eI .u8)⟩]:=by
 refine bT func179 ntmps179 results179 fun hR=> ?_
 obtain⟨x8,h_1,hr⟩:=aP hr
 refine zz ?_
 refine xw (v:=(.sl 0 0 x8.length 1 false)) (h':=[some ⟨5,x8.map (eI .u8)⟩]) (aN2 rfl rfl (mkS (E:=(eI .u8)) (y:=0) nQ nF ⟨zl,rfl,rfl⟩ rfl rfl rfl h_1 rfl rfl)) ?_
 refine zz ?_
 refine bS (aBx N) (fun l0=>[(5,.sl 0 0 l0.length 1 false)]) (fun l0=>[some ⟨5,l0.map (eI .u8)⟩]) ?_
 obtain⟨cY,hL2,hr⟩:=aP hr
 refine zz ?_
 exact a1a<|dB hL2 (fun x10 aR=>[(0,eI .u64 vn),(5,.sl 0 0 aR.length 1 false),(9,eI .i64 cT),(10,eI .i64 x10)]) (fun x10 aR=>[some ⟨5,aR.map (eI .u8)⟩])
instance :CtC 179 false (bC @aG3):=⟨@aG3⟩
theorem aGQ {N b vs r} (hr:gF N b vs=some r):
  Fp 178 [] [.row none 1 (b.map (eI .u8)),.row none 1 (vs.map (eI .u8))] (.sl 0 0 r.length 1 false) [some ⟨5,r.map (eI .u8)⟩]:=by
 refine bT func178 ntmps178 results178 fun hR=> ?_
 obtain⟨x11,h_1,hr⟩:=aP hr
 refine zz ?_
 refine xw (v:=(.sl 0 0 0 1 false)) (h':=[some ⟨5,x11.map (eI .u8)⟩]) (aN2 rfl rfl (mkC (E:=(eI .u8)) (y:=0) nQ nF ⟨zl,rfl,rfl⟩ rfl rfl rfl h_1 rfl rfl)) ?_
 obtain⟨x14,h_2,hr⟩:=aP hr
 refine zz ?_
 refine xw (v:=(.sl 1 0 x14.length 1 false)) (h':=[none,some ⟨5,x14.map (eI .u8)⟩]) (uI rfl rfl (aYu (E:=(eI .u8)) (Nat.zero_le _) nQ nF ⟨rfl,rfl,zl⟩ rfl (aHB (fun _=>rfl)) h_2 rfl rfl)) ?_
 exact zE
instance :CtC 178 false (bC @aGQ):=⟨@aGQ⟩
theorem eK {N b vn r} (hr:eP N b vn=some r):
  Fp 130 [] [.row none 1 (b.map (eI .u8)),eI .u32 vn] (.sl 0 0 r.length 1 false) [some ⟨5,r.map (eI .u8)⟩]:=
 jC func130 ntmps130 results130
instance :CtC 130 false (bC @eK):=⟨@eK⟩
theorem lK {N b vh r} (hr:jZ N b vh=some r):
  Fp 131 [] [.row none 1 (b.map (eI .u8)),.agg (vh.map (eI .u8))] (.sl 0 0 r.length 1 false) [some ⟨5,r.map (eI .u8)⟩]:=
 jC func131 ntmps131 results131
instance :CtC 131 false (bC @lK):=⟨@lK⟩
theorem sY {N vh r} (hr:mM N vh=some r):
  Fp 81 [] [pO vh] (.sl 0 0 r.length 1 false) [some ⟨5,r.map (eI .u8)⟩]:=by
 refine bT func81 ntmps81 results81 fun hR=> ?_
 obtain⟨x6,h_1,hr⟩:=aP hr
 refine zz ?_
 refine zc (eK h_1) [] ?_
 obtain⟨q,h_2,x10,h_3,hr⟩:=bW hr
 refine zz ?_
 refine mL (lK h_3) [] [1] ?_
 obtain⟨q_1,h_4,x14,h_5,hr⟩:=bW hr
 refine zz ?_
 refine mL (lK h_5) [] [2] ?_
 obtain⟨x18,h_6,hr⟩:=aP hr
 refine zz ?_
 refine mL (eK h_6) [] [3] ?_
 obtain⟨x22,h_7,hr⟩:=aP hr
 refine zz ?_
 refine mL (eK h_7) [] [4] ?_
 obtain⟨x26,h_8,hr⟩:=aP hr
 refine zz ?_
 refine mL (eK h_8) [] [5] ?_
 refine zz ?_
 replace hr:=sj hr
 subst hr
 exact zd1 Tryz.results81 [6]
instance :CtC 81 false (bC @sY):=⟨@sY⟩
theorem aI8 {N vn r} (hr:aK7 N vn=some r):
  Fp 176 [] [eI .u64 vn] (.sl 0 0 r.length 1 false) [some ⟨5,r.map (eI .u8)⟩]:=by
 refine bT func176 ntmps176 results176 fun hR=> ?_
 obtain⟨x15,h_1,hr⟩:=aP hr
 refine zz ?_
 refine xw (v:=(.sl 0 0 x15.length 1 false)) (h':=[some ⟨5,x15.map (eI .u8)⟩]) (aN2 rfl rfl (mkL (E:=(eI .u8)) (y:=0) nQ nF ⟨zl,rfl,rfl⟩ rfl rfl rfl h_1 rfl rfl)) ?_
 obtain⟨x17,h_2,hr⟩:=aP hr
 refine zz ?_
 refine bS (aNt N) (fun l0=>[(4,.sl 0 0 l0.length 1 false)]) (fun l0=>[some ⟨5,l0.map (eI .u8)⟩]) ?_
 obtain⟨cY,hL2,hr⟩:=aP hr
 refine zz ?_
 exact a1a<|dB hL2 (fun x18 aR=>[(0,eI .u64 vn),(4,.sl 0 0 aR.length 1 false),(18,eI .i64 x18)]) (fun x18 aR=>[some ⟨5,aR.map (eI .u8)⟩])
instance :CtC 176 false (bC @aI8):=⟨@aI8⟩
theorem aJo {N parts r} (hr:aK8 N parts=some r):
  Fp 175 [] [.row none 1 (parts.map (eL 1 (eI .u8)))] (.sl 0 0 r.length 1 false) [some ⟨5,r.map (eI .u8)⟩]:=by
 refine bT func175 ntmps175 results175 fun hR=> ?_
 refine zz ?_
 refine bS (aMJ N) (fun l0=>[(3,.sl 0 0 l0.length 1 false)]) (fun l0=>[some ⟨5,l0.map (eI .u8)⟩]) ?_
 obtain⟨cY,hL2,hr⟩:=aP hr
 refine zz ?_
 exact a1a<|dB hL2 (fun x8 aR=>[(3,.sl 0 0 aR.length 1 false),(6,.row none 1 (parts.map (eL 1 (eI .u8)))),(7,eI .i64 (parts.length:Int)),(8,eI .i64 x8)]) (fun x8 aR=>[some ⟨5,aR.map (eI .u8)⟩]) (h0:=(zW 5 [0]))
instance :CtC 175 false (bC @aJo):=⟨@aJo⟩
theorem oH {N x vn r} (hr:dL N x vn=some r):
  Fp 220 [] [eI .u32 x,eI .i64 vn] (eI .u32 r) []:=by
 refine bT func220 ntmps220 results220 fun hR=> ?_
 obtain⟨x8,h_1,hr⟩:=aP hr
 refine zz ?_
 refine xw (aJa rfl (aTD ..))<|xp (kI h_1) ?_
 exact zE
instance :CtC 220 true (bC @oH):=⟨@oH⟩
theorem aCg {N block r} (hr:tB N block=some r):
  Fp 219 [] [.agg (block.map (eI .u8))] (.agg (r.map (eI .u32))) []:=by
 refine bT func219 ntmps219 results219 fun hR=> ?_
 refine zz ?_
 refine bS (wH N) (fun l1=>[(2,.ptr 0 0),(3,.ptr 1 0)]) (fun l1=>[some ⟨251,(a1b 64 0).map (eI .u32)⟩,some ⟨251,l1.map (eI .u32)⟩]) ?_ (body:= ?_)
 rotate_left
 ·clear hr
  intro l1 hr
  refine bS (vV N) (fun bJ=>[(2,.ptr 0 0),(3,.ptr 1 0)]) (fun bJ=>[some ⟨251,(a1b 64 0).map (eI .u32)⟩,some ⟨251,bJ.map (eI .u32)⟩]) ?_
  obtain⟨zX,hL3,hr⟩:=aP hr
  refine zz ?_
  exact a1a<|dB hL3 (fun vi cE=>[(2,.ptr 0 0),(3,.ptr 1 0),(6,eI .i64 vi)]) (fun vi cE=>[some ⟨251,(a1b 64 0).map (eI .u32)⟩,some ⟨251,cE.map (eI .u32)⟩])
 obtain⟨res4,hL4,hr⟩:=aP hr
 refine zz ?_
 refine a1a<|dB hL4 (fun x9 l2=>[(1,.ptr 0 0),(2,.ptr 1 0),(3,.ptr 2 0),(9,eI .i64 x9)]) (fun x9 l2=>[some ⟨223,block.map (eI .u8)⟩,some ⟨251,(a1b 64 0).map (eI .u32)⟩,some ⟨251,l2.map (eI .u32)⟩]) (round:= ?_)
 intro m4 x9 l2 hr
 refine zz ?_
 refine a1c ?_
 refine zk hr ?_ ?_<;>clear hr<;>intro h18 hr<;>refine zz ?_
 ·refine bS (aBP N block x9 (kZ N block m4)) (fun eE=>[(1,.ptr 0 0),(2,.ptr 1 0),(3,.ptr 2 0),(9,eI .i64 x9)]) (fun eE=>[some ⟨223,block.map (eI .u8)⟩,some ⟨251,(a1b 64 0).map (eI .u32)⟩,some ⟨251,eE.map (eI .u32)⟩]) ?_
  refine a1a ?_
  replace hr:=aP hr
  obtain⟨res6,hL6,hr⟩:=hr
  refine zz ?_
  exact a1a<|dB hL6 (fun x12 aB4=>[(1,.ptr 0 0),(2,.ptr 1 0),(3,.ptr 2 0),(4,eI .i64 x9),(9,eI .i64 x9),(12,eI .i64 x12)]) (fun x12 aB4=>[some ⟨223,block.map (eI .u8)⟩,some ⟨251,(a1b 64 0).map (eI .u32)⟩,some ⟨251,aB4.map (eI .u32)⟩])
 exact zE
instance :CtC 219 true (bC @aCg):=⟨@aCg⟩
theorem aB7 {N cO block r} (hr:mN N cO block=some r):
  Fp 177 [] [.agg (cO.map (eI .u32)),.agg (block.map (eI .u8))] (.agg (r.map (eI .u32))) []:=by
 refine bT func177 ntmps177 results177 fun hR=> ?_
 obtain⟨q,h_1,x18,h_2,q_1,h_3,hr⟩:=gZ hr
 refine zz ?_
 refine xp (aCg h_2) ?_
 refine zz ?_
 refine a1c ?_
 obtain⟨x19,h_4,x21,h_5,x23,h_6,x25,h_7,hr⟩:=aA5 hr
 refine AB.rs mixed [] [] [[0,1,2,3,4,5,6,7,8,9,10,11]]<|zz ?_
 refine a1c ?_
 obtain⟨x27,h_8,x29,h_9,x31,h_10,x33,h_11,hr⟩:=aA5 hr
 refine AB.rs mixed [] [] [[0,1,2,3,4,5,6,7,8,9,10,11]]<|zz ?_
 refine sk8 (vZ N cO) (fun va b c d ve f g vh=>[(2,.ptr 0 0),(4,.ptr 1 0),(6,eI .u32 va),(7,eI .u32 b),(8,eI .u32 c),(9,eI .u32 d),(10,eI .u32 ve),(11,eI .u32 f),(12,eI .u32 g),(13,eI .u32 vh)]) (fun va b c d ve f g vh=>[some ⟨221,cO.map (eI .u32)⟩,some ⟨221,(a1b 8 0).map (eI .u32)⟩]) ?_ (body:= ?_)
 rotate_left
 ·clear hr
  intro va b c d ve f g vh hr
  obtain⟨x98,h_12,aIQ,h_13,aVy,h_14,aU4,h_15,aFP,h_16,aQn,h_17,hr⟩:=aQI hr
  obtain⟨aUP,h_18,aIP,h_19,hr⟩:=bW hr
  refine zz ?_
  refine xw (v:=(.agg ([a1d.wrap (x98+va),a1d.wrap (aIQ+b),a1d.wrap (aVy+c),a1d.wrap (aU4+d),a1d.wrap (aFP+ve),a1d.wrap (aQn+f),a1d.wrap (aUP+g),a1d.wrap (aIP+vh)].map (eI .u32)))) (cM rfl (aHq aIJ jT rfl)) ?_
  refine zz ?_
  replace hr:=sj hr
  subst hr
  exact zr1 Tryz.results177 fA (zG [])
 obtain⟨cY,hL2,hr⟩:=aP hr
 refine zz ?_
 refine a1a<|lp9 hL2 (fun va_1 b_1 c_1 d_1 ve_1 f_1 g_1 vh_1 x35=>[(2,.ptr 0 0),(4,.ptr 1 0),(5,.ptr 2 0),(6,eI .u32 va_1),(7,eI .u32 b_1),(8,eI .u32 c_1),(9,eI .u32 d_1),(10,eI .u32 ve_1),(11,eI .u32 f_1),(12,eI .u32 g_1),(13,eI .u32 vh_1),(35,eI .i64 x35)]) (fun va_1 b_1 c_1 d_1 ve_1 f_1 g_1 vh_1 x35=>[some ⟨221,cO.map (eI .u32)⟩,some ⟨221,(a1b 8 0).map (eI .u32)⟩,some ⟨251,x18.map (eI .u32)⟩]) (round:= ?_)
 intro m2 va_1 b_1 c_1 d_1 ve_1 f_1 g_1 vh_1 x35 hr
 refine zz ?_
 refine a1c ?_
 refine zk hr ?_ ?_<;>clear hr<;>intro h20 hr<;>refine zz ?_
 ·refine a1c<|a1a ?_
  refine zz ?_
  refine a1c ?_
  replace hr:=aKs hr
  obtain⟨x40,h_21,x42,h_23,x45,h_25,x58,h_27,x62,h_28,hr⟩:=hr
  refine AB.rs mixed [220] [] [[0,1,2,3,4,5,6,7,8,9,10,11,12,13,14,15,16,17,18,19,20,21,22,23,24,25,26,27]]<|zz ?_
  refine xu (oH h_21) ?_
  refine zz ?_
  refine xu (oH h_23) ?_
  refine zz ?_
  refine xu (oH h_25) ?_
  refine zz ?_
  refine xw (v:=(eI .u32 (bits .xor .u32 (IntKind.max .u32) ve_1))) (aJa rfl (aFD rfl _)) ?_
  refine zz ?_
  refine xw (v:=(.eptr [.agg (aHD.map (eI .u32))] 0 (Int.toNat x35))) (aGg rfl rfl (iaG aPj jT rfl h_27))<|xw (v:=(eI .u32 x58)) (cF rfl (ldG (E:=(eI .u32)) (y:=x58) jT rfl (fZ h_27))) ?_
  replace hr:=gZ hr
  obtain⟨x66,h_29,x68,h_30,x71,h_31,hr⟩:=hr
  refine zz ?_
  refine xp (oH h_29) ?_
  refine zz ?_
  refine xp (oH h_30) ?_
  refine zz ?_
  refine xp (oH h_31) ?_
  refine zz ?_
  exact⟨_,_,_,_,_,_,_,_,_,hr,zG [0,1,2]⟩
 exact zE
instance :CtC 177 true (bC @aB7):=⟨@aB7⟩
theorem aFu {N b r} (hr:aFE N b=some r):
  Fp 129 [] [.row none 1 (b.map (eI .u8))] (.agg (r.map (eI .u8))) []:=by
 refine bT func129 ntmps129 results129 fun hR=> ?_
 obtain⟨x12,h_1,x14,h_2,hr⟩:=bW hr
 refine zz ?_
 refine zc (aI8 h_1) [] ?_
 refine OpsX.ghost (zv 1) ?_
 refine zz ?_
 refine mL (aJo h_2) [] [2] ?_
 refine zz ?_
 refine xw (v:=(.agg (aAZ.map (eI .u32)))) (cF rfl (aZp (E:=(eI .u32)) (l:=aAZ) aIJ rfl rfl)) ?_
 refine zz ?_
 refine bS (aIS N) (fun l1=>[(2,.ptr 0 0),(4,.ptr 1 0)]) (fun l1=>[some ⟨26,(a1b 32 0).map (eI .u8)⟩,some ⟨221,l1.map (eI .u32)⟩]) ?_ (body:= ?_)
 rotate_left
 ·clear hr
  intro l1 hr
  refine zz ?_
  refine bS (aIK N) (fun bJ=>[(2,.ptr 0 0),(6,.ptr 1 0)]) (fun bJ=>[some ⟨26,(a1b 32 0).map (eI .u8)⟩,some ⟨26,bJ.map (eI .u8)⟩]) ?_
  obtain⟨zX,hL3,hr⟩:=aP hr
  refine zz ?_
  exact a1a<|dB hL3 (fun x31 l2=>[(2,.ptr 0 0),(4,.ptr 1 0),(6,.ptr 2 0),(31,eI .i64 x31)]) (fun x31 l2=>[some ⟨26,(a1b 32 0).map (eI .u8)⟩,some ⟨221,l1.map (eI .u32)⟩,some ⟨26,l2.map (eI .u8)⟩])
 refine zz ?_
 refine AB.ghost (zv 3) ?_
 obtain⟨res4,hL4,hr⟩:=aP hr
 refine a1a<|dB hL4 (fun x19 cE=>[(2,.ptr 0 0),(3,.row none 1 (x14.map (eI .u8))),(4,.ptr 1 0),(18,eI .i64 (IntKind.i64.wrap (Int.tdiv (x14.length:Int) 64))),(19,eI .i64 x19)]) (fun x19 cE=>[some ⟨26,(a1b 32 0).map (eI .u8)⟩,some ⟨221,cE.map (eI .u32)⟩]) (round:= ?_)
 intro m4 x19 cE hr
 refine zz ?_
 refine a1c ?_
 refine zk hr ?_ ?_<;>clear hr<;>intro h8 hr<;>refine zz ?_
 ·refine a1c<|a1a ?_
  replace hr:=aKs hr
  obtain⟨q_1,h_9,x26,h_10,x27,h_11,x29,h_12,q_2,h_14,hr⟩:=hr
  refine zz ?_
  refine AB.rs mixed [177] [] [[0,1,2,3,4,5,6,7,8]]<|zz ?_
  refine xw (v:=(.eptr [.agg (x27.map (eI .u8))] 0 0)) (aZ6 rfl (apR (E:=(eI .u8)) aPg (fun _=>rfl) zl h_11))<|xw (v:=(.agg (x27.map (eI .u8)))) (cF rfl (aZp (E:=(eI .u8)) (l:=x27) aPg rfl (bL h_11)))<|xu (aB7 h_12) ?_
  exact zE
 exact zE
instance :CtC 129 true (bC @aFu):=⟨@aFu⟩
theorem aJJ {N b r} (hr:aCo N b=some r):
  Fp 80 [] [.row none 1 (b.map (eI .u8))] (.agg (r.map (eI .u8))) []:=by
 refine bT func80 ntmps80 results80 fun hR=> ?_
 obtain⟨x5,h_1,q,h_2,hr⟩:=bW hr
 refine zz ?_
 refine xp (aFu h_1) ?_
 obtain⟨x7,h_3,q_1,h_4,hr⟩:=bW hr
 refine zz ?_
 refine mL (aFu h_3) [] [1] ?_
 refine zz ?_
 replace hr:=sj hr
 subst hr
 exact zr1 Tryz.results80 fA (zG [])
instance :CtC 80 true (bC @aJJ):=⟨@aJJ⟩
theorem aAK {N vh r} (hr:y8 N vh=some r):
  Fp 43 [] [pO vh] (.agg (r.map (eI .u8))) []:=
 jC func43 ntmps43 results43
instance :CtC 43 true (bC @aAK):=⟨@aAK⟩
theorem aBL {N p r} (hr:aKd N p=some r):
  Fp 25 [] [cP p] (.tup [cG r.1,eI .i64 r.2]) []:=
 jC func25 ntmps25 results25
instance :CtC 25 true (bC @aBL):=⟨@aBL⟩
theorem aEf {N:Nat}{a b:List Int}{r:Int}(hr:aBp N a b=some r):Vm.Fn Tryz.prog 156 [] [.row none 1 (a.map (eI .u8)),.row none 1 (b.map (eI .u8))] (eI .i64 r) []:=by
 obtain rfl:=Option.some.inj hr
 exact aXI Tryz.func156 (by kernel_rfl) (by kernel_rfl) (by kernel_rfl) (by kernel_rfl) a b
instance :CtC 156 true (bC @aEf):=⟨@aEf⟩
theorem aAY {N va b r} (hr:aEO N va b=some r):
  Fp 112 [] [.row none 1 (va.map (eI .u8)),.row none 1 (b.map (eI .u8))] (eI .i64 r) []:=
 jC func112 ntmps112 results112
instance :CtC 112 true (bC @aAY):=⟨@aAY⟩
theorem qK {N x r} (hr:uM N x=some r):
  Fp 157 [] [eI .u32 x] (eB r) []:=
 jC func157 ntmps157 results157
instance :CtC 157 true (bC @qK):=⟨@qK⟩
theorem tH {N x y r} (hr:yF N x y=some r):
  Fp 113 [] [eI .u32 x,eI .u32 y] (eI .i64 r) []:=by
 refine bT func113 ntmps113 results113 fun hR=> ?_
 obtain⟨x8,h_1,hr⟩:=aP hr
 refine zz ?_
 refine xp (qK h_1) ?_
 obtain⟨x10,h_2,hr⟩:=aP hr
 refine zz ?_
 refine xp (qK h_2) ?_
 refine zz ?_
 refine a1c<|zz ?_
 refine zk hr ?_ ?_<;>intro h3 hr
 ·exact zE
 exact zE
instance :CtC 113 true (bC @tH):=⟨@tH⟩
theorem aEk {N aBn r} (hr:aFl N aBn=some r):
  Fp 111 [] [.row none 1 (aBn.map (eI .i64))] (eI .i64 r) []:=by
 refine bT func111 ntmps111 results111 fun hR=> ?_
 refine zz ?_
 refine hP (aEz N) [(3,eI .i64 0)] [] ?_
 obtain⟨cY,hL2,hr⟩:=aP hr
 refine zz ?_
 exact a1a<|jA hL2 (fun x8=>[(3,eI .i64 0),(6,.row none 1 (aBn.map (eI .i64))),(7,eI .i64 (aBn.length:Int)),(8,eI .i64 x8)]) (fun x8=>[])
instance :CtC 111 true (bC @aEk):=⟨@aEk⟩
theorem aJr {N va b r} (hr:zL N va b=some r):
  Fp 66 [] [cC va,cC b] (eI .i64 r) []:=by
 refine bT func66 ntmps66 results66 fun hR=> ?_
 refine zz ?_
 refine a1c<|AB.ghost (zqf [0,1])<|AB.ghost (zqf [0,0]) ?_
 obtain⟨q,h_1,q_1,h_2,x9,h_3,x14,h_5,x16,h_7,hr⟩:=aKs hr
 refine AB.rs mixed [112,113] [111] [[0,1,2,3,4,5,6,7,8,9,10,11,12]]<|zz ?_
 refine xw (v:=(.row none 1 (va.Tx.map (eI .u8)))) (vE rfl rfl rfl (aUd (E:=(eI .u8)) (l:=va.Tx) iH nF rfl rfl (aT h_1))) ?_
 refine zz ?_
 refine xw (v:=(.row none 1 (b.Tx.map (eI .u8)))) (vE rfl rfl rfl (aUd (E:=(eI .u8)) (l:=b.Tx) iH nF rfl rfl (aT h_2))) ?_
 refine xu (aAY h_3) ?_
 refine zz ?_
 refine xw (v:=(eI .u32 va.Index)) (cF rfl (aNW (nY jT rfl rfl))) ?_
 refine zz ?_
 refine xw (v:=(eI .u32 b.Index)) (cF rfl (aNW (nY jT rfl rfl)))<|xu (tH h_5) ?_
 refine zz ?_
 refine zgL (aEk h_7) [] [2] ?_
 refine zz ?_
 replace hr:=sj hr
 subst hr
 exact zd1 Tryz.results66 []
instance :CtC 66 true (bC @aJr):=⟨@aJr⟩
theorem aBl {N l r} (hr:yB N l=some r):
  Fp 42 [] [.row none 37 (l.map aJ)] (.tup [eI .i64 r.1,eB r.2]) []:=by
 refine bT func42 ntmps42 results42 fun hR=> ?_
 refine zz ?_
 refine bS (aGO N) (fun sum=>[(4,eI .i64 sum)]) (fun sum=>[]) ?_
 obtain⟨cY,hL2,hr⟩:=aP hr
 refine zz ?_
 refine a1a<|dB hL2 (fun gL x10=>[(4,eI .i64 gL),(8,.row none 37 (l.map aJ)),(9,eI .i64 (l.length:Int)),(10,eI .i64 x10)]) (fun gL x10=>[]) (round:= ?_)
 intro m2 gL x10 hr
 refine zz ?_
 refine a1c ?_
 refine zk hr ?_ ?_<;>clear hr<;>intro h1 hr<;>refine zz ?_
 ·refine a1c<|a1a ?_
  replace hr:=aP hr
  obtain⟨x12,h_2,hr⟩:=hr
  refine zz ?_
  refine a1c ?_
  refine bS (wR N l gL x10 x12 (mZ N l m2)) (fun x24=>[(4,eI .i64 gL),(7,eI .i64 x12.Output.Value),(8,.row none 37 (l.map aJ)),(9,eI .i64 (l.length:Int)),(10,eI .i64 x10),(24,eB x24)]) (fun x24=>[]) ?_
  exact zE
 exact zE
instance :CtC 42 true (bC @aBl):=⟨@aBl⟩
theorem wU {N l r} (hr:pP N l=some r):
  Fp 29 [] [cG l] (eB r) []:=by
 refine bT func29 ntmps29 results29 fun hR=> ?_
 unfold pP at hr
 refine zz ?_
 refine a1c ?_
 refine bS (kY N l) (fun x20=>[(1,.ptr 0 0),(20,eB x20)]) (fun x20=>[some ⟨44,aO l⟩]) ?_ (body:= ?_)
 rotate_left
 ·clear hr
  intro x20 hr
  unfold kY at hr
  refine zk hr ?_ ?_<;>intro h1 hr<;>refine zz ?_
  ·exact zE
  refine hP (aBE N l) [(1,.ptr 0 0)] [some ⟨44,aO l⟩] ?_
  obtain⟨zX,hL3,hr⟩:=aP hr
  refine zz ?_
  refine a1a<|jA hL3 (fun x24=>[(1,.ptr 0 0),(22,.row none 37 (l.Coins.map aJ)),(23,eI .i64 (l.Coins.length:Int)),(24,eI .i64 x24)]) (fun x24=>[some ⟨44,aO l⟩]) (round:= ?_)
  intro m3 x24 hr
  rw[fV]at hr
  refine zz ?_
  refine a1c ?_
  refine zk hr ?_ ?_<;>clear hr<;>intro h3 hr<;>refine zz ?_
  ·refine a1c<|a1a ?_
   replace hr:=aP hr
   obtain⟨x27,h_4,hr⟩:=hr
   refine zz ?_
   refine a1c ?_
   refine bS (nA N l x24 x27 (fV N l m3)) (fun x43=>[(1,.ptr 0 0),(4,.ptr 1 0),(22,.row none 37 (l.Coins.map aJ)),(23,eI .i64 (l.Coins.length:Int)),(24,eI .i64 x24),(43,eB x43)]) (fun x43=>[some ⟨44,aO l⟩,some ⟨80,aF x27⟩]) ?_ (body:= ?_)
   rotate_left
   ·clear hr
    intro x43 hr
    unfold nA at hr
    refine zk hr ?_ ?_<;>clear hr<;>intro h5 hr<;>refine zz ?_
    ·exact zE
    refine bS (nN N l x24 (fV N l m3)) (fun x60=>[(1,.ptr 0 0),(22,.row none 37 (l.Coins.map aJ)),(23,eI .i64 (l.Coins.length:Int)),(24,eI .i64 x24),(60,eB x60)]) (fun x60=>[some ⟨44,aO l⟩]) ?_
    exact zE
   exact zE
  exact zE
 exact zE
instance :CtC 29 true (bC @wU):=⟨@wU⟩
theorem aEe {N b vn r} (hr:aCa N b vn=some r):
  Fp 190 [] [.row none 1 (b.map (eI .u8)),eI .u16 vn] (.sl 0 0 r.length 1 false) [some ⟨5,r.map (eI .u8)⟩]:=
 jC func190 ntmps190 results190
instance :CtC 190 false (bC @aEe):=⟨@aEe⟩
theorem xF {N b vn r} (hr:rJ N b vn=some r):
  Fp 191 [] [.row none 1 (b.map (eI .u8)),eI .u64 vn] (.sl 0 0 r.length 1 false) [some ⟨5,r.map (eI .u8)⟩]:=
 jC func191 ntmps191 results191
instance :CtC 191 false (bC @xF):=⟨@xF⟩
theorem jI {N b vn r} (hr:iJ N b vn=some r):
  Fp 142 [] [.row none 1 (b.map (eI .u8)),eI .u64 vn] (.sl 0 0 r.length 1 false) [some ⟨5,r.map (eI .u8)⟩]:=
 jC func142 ntmps142 results142
instance :CtC 142 false (bC @jI):=⟨@jI⟩
theorem aHs {N o r} (hr:aJh N o=some r):
  Fp 211 [] [cC o] (.sl 0 0 r.length 1 false) [some ⟨5,r.map (eI .u8)⟩]:=by
 refine bT func211 ntmps211 results211 fun hR=> ?_
 refine zz ?_
 refine a1c ?_
 obtain⟨q,h_1,x5,h_2,x8,h_4,hr⟩:=gZ hr
 refine AB.rs mixed [] [130,131] [[0,1,2,3,4,5,6]]<|zz ?_
 refine zg (lK h_2) [] ?_
 refine zz ?_
 refine zgL (eK h_4) [] [1] ?_
 refine zz ?_
 replace hr:=sj hr
 subst hr
 exact zd1 Tryz.results211 [2]
instance :CtC 211 false (bC @aHs):=⟨@aHs⟩
theorem oB {N b vs r} (hr:nV N b vs=some r):
  Fp 232 [] [.row none 1 (b.map (eI .u8)),.row none 1 (vs.map (eI .u8))] (.sl 0 0 r.length 1 false) [some ⟨5,r.map (eI .u8)⟩]:=
 jC func232 ntmps232 results232
instance :CtC 232 false (bC @oB):=⟨@oB⟩
theorem aKK {N t bG r} (hr:aEg N t bG=some r):
  Fp 192 [] [aU t,eB bG] (.sl 0 0 r.length 1 false) [some ⟨5,r.map (eI .u8)⟩]:=by
 refine bT func192 ntmps192 results192 fun hR=> ?_
 obtain⟨x16,h_1,hr⟩:=aP hr
 refine zz ?_
 refine zc (eK h_1) [] ?_
 obtain⟨x22,h_2,x23,h_3,hr⟩:=bW hr
 refine zz ?_
 refine zc (jI h_2) [] ?_
 refine zz ?_
 refine bS (aF1 N t bG) (fun l1=>[(1,eB bG),(2,.ptr 0 0),(5,.sl 1 0 l1.length 1 false)]) (fun l1=>[some ⟨91,aZ t⟩,some ⟨5,l1.map (eI .u8)⟩]) ?_ (body:= ?_)
 rotate_left
 ·clear hr
  intro l1 hr
  obtain⟨x47,h_4,x48,h_5,hr⟩:=bW hr
  refine zz ?_
  refine zc (jI h_4) [] ?_
  refine zz ?_
  refine bS (aFO N t bG) (fun bJ=>[(1,eB bG),(2,.ptr 0 0),(5,.sl 1 0 bJ.length 1 false)]) (fun bJ=>[some ⟨91,aZ t⟩,some ⟨5,bJ.map (eI .u8)⟩]) ?_ (body:= ?_)
  rotate_left
  ·clear hr
   intro bJ hr
   obtain⟨x71,h_6,x72,h_7,hr⟩:=bW hr
   refine zz ?_
   refine zc (eK h_6) [] ?_
   refine zz ?_
   refine a1c<|zz ?_
   refine zk hr ?_ ?_<;>intro h8 hr<;>refine zz ?_
   ·exact zE
   refine bS (aJ6 N) (fun l0=>[(5,.sl 0 0 l0.length 1 false)]) (fun l0=>[some ⟨5,l0.map (eI .u8)⟩]) ?_
   obtain⟨res4,hL4,hr⟩:=aP hr
   refine zz ?_
   refine a1a<|dB hL4 (fun x79 aR=>[(5,.sl 0 0 aR.length 1 false),(77,.row none 35 (t.Inputs.map bQ)),(78,eI .i64 (t.Inputs.length:Int)),(79,eI .i64 x79)]) (fun x79 aR=>[some ⟨5,aR.map (eI .u8)⟩]) (round:= ?_)
   intro m4 x79 aR hr
   refine zz ?_
   refine a1c ?_
   refine zk hr ?_ ?_<;>clear hr<;>intro h9 hr<;>refine zz ?_
   ·refine bS (aGv N t x79 (pL N t m4)) (fun d9=>[(5,.sl 0 0 d9.length 1 false),(77,.row none 35 (t.Inputs.map bQ)),(78,eI .i64 (t.Inputs.length:Int)),(79,eI .i64 x79)]) (fun d9=>[some ⟨5,d9.map (eI .u8)⟩]) ?_
    refine a1a ?_
    replace hr:=gZ hr
    obtain⟨x81,h_10,x88,h_11,x89,h_12,hr⟩:=hr
    refine zz ?_
    refine zc (jI h_11) [] ?_
    replace hr:=aP hr
    obtain⟨res6,hL6,hr⟩:=hr
    refine zz ?_
    refine a1a<|dB hL6 (fun x93 g8=>[(5,.sl 0 0 g8.length 1 false),(77,.row none 35 (t.Inputs.map bQ)),(78,eI .i64 (t.Inputs.length:Int)),(79,eI .i64 x79),(91,.row none 1 (x81.Witness.map (eL 1 (eI .u8)))),(92,eI .i64 (x81.Witness.length:Int)),(93,eI .i64 x93)]) (fun x93 g8=>[some ⟨5,g8.map (eI .u8)⟩]) (round:= ?_)
    intro m6 x93 g8 hr
    refine zz ?_
    refine a1c ?_
    refine zk hr ?_ ?_<;>clear hr<;>intro h13 hr<;>refine zz ?_
    ·refine a1c<|a1a ?_
     replace hr:=gZ hr
     obtain⟨x95,h_14,x99,h_15,aCy,h_16,hr⟩:=hr
     refine zz ?_
     refine zc (oB h_15) [] ?_
     refine zz ?_
     exact⟨_,_,hr,zG [2]⟩
    replace hr:=sj hr
    subst hr
    refine zz ?_
    exact⟨_,hr,zG [0]⟩
   replace hr:=sj hr
   subst hr
   refine zz ?_
   exact⟨_,hr,zG [0]⟩
  obtain⟨res7,hL7,hr⟩:=aP hr
  refine zz ?_
  refine a1a<|dB hL7 (fun x52 cE=>[(1,eB bG),(2,.ptr 0 0),(5,.sl 1 0 cE.length 1 false),(50,.row none 2 (t.Outputs.map cK)),(51,eI .i64 (t.Outputs.length:Int)),(52,eI .i64 x52)]) (fun x52 cE=>[some ⟨91,aZ t⟩,some ⟨5,cE.map (eI .u8)⟩]) (round:= ?_)
  intro m7 x52 cE hr
  refine zz ?_
  refine a1c ?_
  refine zk hr ?_ ?_<;>clear hr<;>intro h17 hr<;>refine zz ?_
  ·refine a1c<|a1a ?_
   replace hr:=gZ hr
   obtain⟨x54,h_18,x60,h_19,x61,h_20,hr⟩:=hr
   refine zz ?_
   refine zc (xF h_19) [] ?_
   replace hr:=bW hr
   obtain⟨x65,h_21,x66,h_22,hr⟩:=hr
   refine zz ?_
   refine zc (oB h_21) [] ?_
   refine zz ?_
   exact⟨_,_,hr,zG [0,6]⟩
  exact zE
 obtain⟨res8,hL8,hr⟩:=aP hr
 refine zz ?_
 refine a1a<|dB hL8 (fun x27 l1_3=>[(1,eB bG),(2,.ptr 0 0),(5,.sl 1 0 l1_3.length 1 false),(25,.row none 35 (t.Inputs.map bQ)),(26,eI .i64 (t.Inputs.length:Int)),(27,eI .i64 x27)]) (fun x27 l1_3=>[some ⟨91,aZ t⟩,some ⟨5,l1_3.map (eI .u8)⟩]) (round:= ?_)
 intro m8 x27 l1_3 hr
 refine zz ?_
 refine a1c ?_
 refine zk hr ?_ ?_<;>clear hr<;>intro h23 hr<;>refine zz ?_
 ·refine a1c<|a1a ?_
  replace hr:=gZ hr
  obtain⟨x29,h_24,x34,h_25,x35,h_26,hr⟩:=hr
  refine zz ?_
  refine zc (aHs h_25) [] ?_
  replace hr:=bW hr
  obtain⟨x39,h_27,x40,h_28,hr⟩:=hr
  refine zz ?_
  refine zc (eK h_27) [] ?_
  refine zz ?_
  exact⟨_,_,hr,zG [0,6]⟩
 exact zE
instance :CtC 192 false (bC @aKK):=⟨@aKK⟩
theorem aFk {N t r} (hr:aFz N t=some r):
  Fp 145 [] [aU t] (eB r) []:=by
 refine bT func145 ntmps145 results145 fun hR=> ?_
 unfold aFz at hr
 refine zz ?_
 refine a1c ?_
 refine bS (aB9 N t) (fun x18=>[(1,.ptr 0 0),(18,eB x18)]) (fun x18=>[some ⟨91,aZ t⟩]) ?_ (body:= ?_)
 rotate_left
 ·clear hr
  intro x18 hr
  unfold aB9 at hr
  refine zk hr ?_ ?_<;>intro h1 hr<;>refine zz ?_
  ·exact zE
  refine hP (aFy N t) [(1,.ptr 0 0)] [some ⟨91,aZ t⟩] ?_ (body:= ?_)
  rotate_left
  ·clear hr
   intro hr
   unfold aFy at hr
   refine hP (aI9 N t) [(1,.ptr 0 0)] [some ⟨91,aZ t⟩] ?_
   obtain⟨res4,hL4,hr⟩:=aP hr
   refine zz ?_
   refine a1a<|jA hL4 (fun x39=>[(1,.ptr 0 0),(37,.row none 35 (t.Inputs.map bQ)),(38,eI .i64 (t.Inputs.length:Int)),(39,eI .i64 x39)]) (fun x39=>[some ⟨91,aZ t⟩]) (round:= ?_)
   intro m4 x39 hr
   rw[yQ]at hr
   refine zz ?_
   refine a1c ?_
   refine zk hr ?_ ?_<;>clear hr<;>intro h3 hr<;>refine zz ?_
   ·refine hP (aJd N t x39 (yQ N t m4)) [(1,.ptr 0 0),(37,.row none 35 (t.Inputs.map bQ)),(38,eI .i64 (t.Inputs.length:Int)),(39,eI .i64 x39)] [some ⟨91,aZ t⟩] ?_
    refine a1a ?_
    replace hr:=aP hr
    obtain⟨x41,h_4,hr⟩:=hr
    refine zz ?_
    refine a1c<|zz ?_
    refine zk hr ?_ ?_<;>clear hr<;>intro h5 hr
    ·exact zE
    replace hr:=aP hr
    obtain⟨res6,hL6,hr⟩:=hr
    refine zz ?_
    exact a1a<|jA hL6 (fun x50=>[(1,.ptr 0 0),(37,.row none 35 (t.Inputs.map bQ)),(38,eI .i64 (t.Inputs.length:Int)),(39,eI .i64 x39),(48,.row none 1 (x41.Witness.map (eL 1 (eI .u8)))),(49,eI .i64 (x41.Witness.length:Int)),(50,eI .i64 x50)]) (fun x50=>[some ⟨91,aZ t⟩])
   exact zE
  obtain⟨res7,hL7,hr⟩:=aP hr
  refine zz ?_
  refine a1a<|jA hL7 (fun x22=>[(1,.ptr 0 0),(20,.row none 2 (t.Outputs.map cK)),(21,eI .i64 (t.Outputs.length:Int)),(22,eI .i64 x22)]) (fun x22=>[some ⟨91,aZ t⟩]) (round:= ?_)
  intro m7 x22 hr
  rw[uF]at hr
  refine zz ?_
  refine a1c ?_
  refine zk hr ?_ ?_<;>clear hr<;>intro h9 hr<;>refine zz ?_
  ·refine a1c<|a1a ?_
   replace hr:=aP hr
   obtain⟨x24,h_10,hr⟩:=hr
   refine zz ?_
   refine bS (aFo N t x22 (uF N t m7)) (fun x34=>[(1,.ptr 0 0),(20,.row none 2 (t.Outputs.map cK)),(21,eI .i64 (t.Outputs.length:Int)),(22,eI .i64 x22),(34,eB x34)]) (fun x34=>[some ⟨91,aZ t⟩]) ?_
   exact zE
  exact zE
 exact zE
instance :CtC 145 true (bC @aFk):=⟨@aFk⟩
theorem aGK {N t bG r} (hr:aD7 N t bG=some r):
  Fp 143 [] [aU t,eB bG] (.tup [.sl 0 0 r.1.length 1 false,eI .i64 r.2]) [some ⟨5,r.1.map (eI .u8)⟩]:=by
 refine bT func143 ntmps143 results143 fun hR=> ?_
 refine zz ?_
 obtain⟨x7,h_1,hr⟩:=aP hr
 refine a1c<|zz ?_
 refine xp (aFk h_1) ?_
 refine zz ?_
 refine zk hr ?_ ?_<;>intro h2 hr
 ·refine zz ?_
  replace hr:=sj hr
  subst hr
  exact xZ Tryz.results143 fA fA (zW 5 [1])
 exact zE
instance :CtC 143 false (bC @aGK):=⟨@aGK⟩
theorem aBH {N b r} (hr:aCj N b=some r):
  Fp 94 [] [cW b] (.tup [.sl 0 0 r.1.length 1 false,eI .i64 r.2]) [some ⟨5,r.1.map (eI .u8)⟩]:=by
 refine bT func94 ntmps94 results94 fun hR=> ?_
 refine zz ?_
 refine a1c<|zz ?_
 refine zk hr ?_ ?_<;>intro h1 hr<;>refine zz ?_
 ·replace hr:=sj hr
  subst hr
  exact xZ Tryz.results94 fA fA (zW 5 [1])
 refine a1c ?_
 obtain⟨x15,h_2,x20,h_4,hr⟩:=bW hr
 refine AB.rs mixed [] [81,142] [[0,1,2,3,4,5,6,7,8]]<|zz ?_
 refine zg (sY h_2) [] ?_
 refine zz ?_
 refine zgL (jI h_4) [] [1] ?_
 refine zz ?_
 refine bS (aCr N) (fun l0=>[(4,.sl 0 0 l0.length 1 false)]) (fun l0=>[some ⟨5,l0.map (eI .u8)⟩]) ?_ (body:= ?_)
 rotate_left
 ·clear hr
  intro l0 hr
  refine a1c ?_
  refine zz ?_
  refine zk hr ?_ ?_<;>intro h6 hr<;>refine zz ?_
  ·replace hr:=sj hr
   subst hr
   exact xZ Tryz.results94 fA fA (zW 5 [1])
  exact zE
 obtain⟨cY,hL2,hr⟩:=aP hr
 refine zz ?_
 refine a1a<|dB hL2 (fun x24 aR=>[(4,.sl 0 0 aR.length 1 false),(22,.row none 4 (b.Txs.map aU)),(23,eI .i64 (b.Txs.length:Int)),(24,eI .i64 x24)]) (fun x24 aR=>[some ⟨5,aR.map (eI .u8)⟩]) (round:= ?_)
 intro m2 x24 aR hr
 refine zz ?_
 refine a1c ?_
 refine zk hr ?_ ?_<;>clear hr<;>intro h7 hr<;>refine zz ?_
 ·refine a1c<|a1a ?_
  replace hr:=bW hr
  obtain⟨x26,h_8,x30,h_9,hr⟩:=hr
  refine zz ?_
  refine zc (aGK h_9) [] ?_
  refine zz ?_
  refine a1c<|zz ?_
  refine zk hr ?_ ?_<;>clear hr<;>intro h10 hr
  ·refine zz ?_
   replace hr:=sj hr
   subst hr
   replace hr:=sj hr
   subst hr
   exact xZ Tryz.results94 fA fA (zW 5 [3])
  exact zE
 exact zE
instance :CtC 94 false (bC @aBH):=⟨@aBH⟩
theorem aNp {N o r} (hr:aNA N o=some r):
  Fp 144 [] [cC o] (eB r) []:=by
 refine bT func144 ntmps144 results144 fun hR=> ?_
 refine zz ?_
 refine xw (v:=(.agg (aN (eI .u8) (a1b 32 0) [eI .u32 4294967295]))) (cM rfl (jU g9 aI5 rfl))<|xw (eY rfl rfl (k7 (d:=9) g9 rfl sH zl vS rfl rfl rfl rfl rfl)) ?_
 exact zE
instance :CtC 144 true (bC @aNp):=⟨@aNp⟩
theorem aCD {N t r} (hr:vF N t=some r):
  Fp 95 [] [aU t] (eB r) []:=by
 refine bT func95 ntmps95 results95 fun hR=> ?_
 unfold vF at hr
 refine zz ?_
 refine bS (zI N) (fun x2=>[(2,eB x2)]) (fun x2=>[]) ?_
 exact zE
instance :CtC 95 true (bC @aCD):=⟨@aCD⟩
theorem aHo {N l r} (hr:aIp N l=some r):
  Fp 146 [] [.row none 2 (l.map cK)] (eB r) []:=by
 refine bT func146 ntmps146 results146 fun hR=> ?_
 refine zz ?_
 refine hP (aLP N) [] [] ?_
 obtain⟨cY,hL2,hr⟩:=aP hr
 refine zz ?_
 exact a1a<|dB hL2 (fun sum x8=>[(3,eI .i64 sum),(6,.row none 2 (l.map cK)),(7,eI .i64 (l.length:Int)),(8,eI .i64 x8)]) (fun sum x8=>[])
instance :CtC 146 true (bC @aHo):=⟨@aHo⟩
theorem aLr {N t r} (hr:aIT N t=some r):
  Fp 96 [] [aU t] (eI .i64 r) []:=by
 refine bT func96 ntmps96 results96 fun hR=> ?_
 refine zz ?_
 obtain⟨x7,h_1,hr⟩:=aP hr
 refine a1c<|zz ?_
 refine xp (aFk h_1) ?_
 refine zz ?_
 refine zk hr ?_ ?_<;>intro h2 hr<;>refine zz ?_
 ·exact zE
 refine a1c ?_
 refine bS (aDL N t) (fun x18=>[(1,.ptr 0 0),(18,eB x18)]) (fun x18=>[some ⟨91,aZ t⟩]) ?_ (body:= ?_)
 rotate_left
 ·clear hr
  intro x18 hr
  refine zk hr ?_ ?_<;>intro h3 hr<;>refine zz ?_
  ·exact zE
  obtain⟨x21,h_4,hr⟩:=aP hr
  refine a1c<|zz ?_
  refine xp (aHo h_4) ?_
  refine zz ?_
  refine zk hr ?_ ?_<;>intro h5 hr<;>refine zz ?_
  ·exact zE
  refine bS (aHp N t) (fun l1=>[(1,.ptr 0 0),(3,.mp 1)]) (fun l1=>[some ⟨91,aZ t⟩,some ⟨33000,l1.flatMap uA⟩]) ?_ (body:= ?_)
  rotate_left
  ·clear hr
   intro l1 hr
   refine a1c ?_
   refine bS (aDG N) (fun x46=>[(46,eB x46)]) (fun x46=>[]) ?_
   rcases Bool.eq_false_or_eq_true (mR kH l1 (aB.mk (a1b 32 0) 4294967295) false)with h7|h7
   ·replace hr:=kJ hr h7
    obtain⟨x44,h_8,hr⟩:=aP hr
    refine xr<|zz ?_
    refine xw (v:=(.agg (aN (eI .u8) (a1b 32 0) [eI .u32 4294967295]))) (cM rfl (jU g9 aI5 rfl))<|xlk (aB.mk (a1b 32 0) 4294967295) ?_
    exact zE
   replace hr:=kR hr h7
   refine xr<|zz ?_
   refine xw (v:=(.agg (aN (eI .u8) (a1b 32 0) [eI .u32 4294967295]))) (cM rfl (jU g9 aI5 rfl))<|xlk (aB.mk (a1b 32 0) 4294967295) ?_
   exact zE
  obtain⟨res4,hL4,hr⟩:=aP hr
  refine zz ?_
  refine a1a<|dB hL4 (fun x27 bJ=>[(1,.ptr 0 0),(3,.mp 1),(25,.row none 35 (t.Inputs.map bQ)),(26,eI .i64 (t.Inputs.length:Int)),(27,eI .i64 x27)]) (fun x27 bJ=>[some ⟨91,aZ t⟩,some ⟨33000,bJ.flatMap uA⟩]) (round:= ?_)
  intro m4 x27 bJ hr
  refine zz ?_
  refine a1c ?_
  refine zk hr ?_ ?_<;>clear hr<;>intro h9 hr<;>refine zz ?_
  ·refine a1c<|a1a ?_
   replace hr:=aP hr
   obtain⟨x29,h_10,hr⟩:=hr
   refine zz ?_
   refine a1c<|zz ?_
   refine xlk x29.Prev ?_
   refine zz ?_
   refine zk hr ?_ ?_<;>clear hr<;>intro h11 hr<;>refine zz ?_
   ·exact zE
   refine xup x29.Prev true ?_
   exact zE
  exact zE
 exact zE
instance :CtC 96 true (bC @aLr):=⟨@aLr⟩
theorem aKw {N t bG r} (hr:aDV N t bG=some r):
  Fp 149 [] [aU t,eB bG] (.agg (r.map (eI .u8))) []:=
 jC func149 ntmps149 results149
instance :CtC 149 true (bC @aKw):=⟨@aKw⟩
theorem aIq {N t r} (hr:aNa N t=some r):
  Fp 99 [] [aU t] (.agg (r.map (eI .u8))) []:=
 jC func99 ntmps99 results99
instance :CtC 99 true (bC @aIq):=⟨@aIq⟩
theorem aHZ {N l r} (hr:aHN N l=some r):
  Fp 97 [] [.row none 4 (l.map aU)] (eI .i64 r) []:=by
 refine bT func97 ntmps97 results97 fun hR=> ?_
 refine zz ?_
 refine bS (aCL N l) (fun l0=>[(0,.row none 4 (l.map aU)),(3,.mp 0)]) (fun l0=>[some ⟨32000,l0.flatMap aFb⟩]) ?_ (body:= ?_)
 rotate_left
 ·clear hr
  intro l0 hr
  refine hP (aC6 N l) [(0,.row none 4 (l.map aU))] [] ?_ (body:= ?_)
  rotate_left
  ·clear hr
   intro hr
   refine zz ?_
   refine hP (aCW N) [] [] ?_
   obtain⟨res4,hL4,hr⟩:=aP hr
   refine zz ?_
   refine a1a<|dB hL4 (fun x74 aR=>[(15,.mp 0),(72,.row none 4 (l.map aU)),(73,eI .i64 (l.length:Int)),(74,eI .i64 x74)]) (fun x74 aR=>[some ⟨33000,aR.flatMap uA⟩]) (round:= ?_)
   intro m4 x74 aR hr
   refine zz ?_
   refine a1c ?_
   refine zk hr ?_ ?_<;>clear hr<;>intro h1 hr<;>refine zz ?_
   ·refine bS (aDb N l x74 (mA N l m4)) (fun d9=>[(15,.mp 0),(72,.row none 4 (l.map aU)),(73,eI .i64 (l.length:Int)),(74,eI .i64 x74)]) (fun d9=>[some ⟨33000,d9.flatMap uA⟩]) ?_
    refine a1a ?_
    replace hr:=bW hr
    obtain⟨x76,h_2,res6,hL6,hr⟩:=hr
    refine zz ?_
    refine a1a<|dB hL6 (fun x81 g8=>[(15,.mp 0),(72,.row none 4 (l.map aU)),(73,eI .i64 (l.length:Int)),(74,eI .i64 x74),(79,.row none 35 (x76.Inputs.map bQ)),(80,eI .i64 (x76.Inputs.length:Int)),(81,eI .i64 x81)]) (fun x81 g8=>[some ⟨33000,g8.flatMap uA⟩]) (round:= ?_)
    intro m6 x81 g8 hr
    refine zz ?_
    refine a1c ?_
    refine zk hr ?_ ?_<;>clear hr<;>intro h3 hr<;>refine zz ?_
    ·refine a1c<|a1a ?_
     replace hr:=aP hr
     obtain⟨x83,h_4,hr⟩:=hr
     refine zz ?_
     refine a1c<|zz ?_
     refine xlk x83.Prev ?_
     refine zz ?_
     refine zk hr ?_ ?_<;>clear hr<;>intro h5 hr<;>refine zz ?_
     ·exact zE
     refine xup x83.Prev true ?_
     exact zE
    exact zE
   exact zE
  obtain⟨res7,hL7,hr⟩:=aP hr
  refine zz ?_
  refine a1a<|jA hL7 (fun x43=>[(0,.row none 4 (l.map aU)),(3,.mp 0),(41,.row none 4 (l.map aU)),(42,eI .i64 (l.length:Int)),(43,eI .i64 x43)]) (fun x43=>[some ⟨32000,l0.flatMap aFb⟩]) (round:= ?_)
  intro m7 x43 hr
  refine zz ?_
  refine a1c ?_
  refine zk hr ?_ ?_<;>clear hr<;>intro h6 hr<;>refine zz ?_
  ·refine hP (aCS N l l0 x43 (gP N l l0 m7)) [(0,.row none 4 (l.map aU)),(3,.mp 0),(41,.row none 4 (l.map aU)),(42,eI .i64 (l.length:Int)),(43,eI .i64 x43)] [some ⟨32000,l0.flatMap aFb⟩] ?_
   refine a1a ?_
   replace hr:=bW hr
   obtain⟨x46,h_7,res9,hL9,hr⟩:=hr
   refine zz ?_
   refine a1a<|jA hL9 (fun x51=>[(0,.row none 4 (l.map aU)),(3,.mp 0),(9,eI .i64 x43),(41,.row none 4 (l.map aU)),(42,eI .i64 (l.length:Int)),(43,eI .i64 x43),(49,.row none 35 (x46.Inputs.map bQ)),(50,eI .i64 (x46.Inputs.length:Int)),(51,eI .i64 x51)]) (fun x51=>[some ⟨32000,l0.flatMap aFb⟩]) (round:= ?_)
   intro m9 x51 hr
   refine zz ?_
   refine a1c ?_
   refine zk hr ?_ ?_<;>clear hr<;>intro h8 hr<;>refine zz ?_
   ·refine a1c<|a1a ?_
    replace hr:=bW hr
    obtain⟨x53,h_9,q,h_10,hr⟩:=hr
    refine zz ?_
    refine xlo x53.Prev.Tx (hk:=congrArg V.agg (dE (aT h_10)).symm) ?_
    refine zz ?_
    refine bS (wI N l l0 x43 x46 x51 (kA N l l0 x43 x46 m9)) (fun x68=>[(0,.row none 4 (l.map aU)),(3,.mp 0),(9,eI .i64 x43),(41,.row none 4 (l.map aU)),(42,eI .i64 (l.length:Int)),(43,eI .i64 x43),(49,.row none 35 (x46.Inputs.map bQ)),(50,eI .i64 (x46.Inputs.length:Int)),(51,eI .i64 x51),(68,eB x68)]) (fun x68=>[some ⟨32000,l0.flatMap aFb⟩]) ?_
    exact zE
   exact zE
  exact zE
 obtain⟨res11,hL11,hr⟩:=aP hr
 refine zz ?_
 refine a1a<|dB hL11 (fun x23 l0_4=>[(0,.row none 4 (l.map aU)),(3,.mp 0),(21,.row none 4 (l.map aU)),(22,eI .i64 (l.length:Int)),(23,eI .i64 x23)]) (fun x23 l0_4=>[some ⟨32000,l0_4.flatMap aFb⟩]) (round:= ?_)
 intro m11 x23 l0_4 hr
 refine zz ?_
 refine a1c ?_
 refine zk hr ?_ ?_<;>clear hr<;>intro h13 hr<;>refine zz ?_
 ·refine a1c<|a1a ?_
  replace hr:=gZ hr
  obtain⟨x26,h_14,x29,h_15,q_1,h_16,hr⟩:=hr
  refine zz ?_
  refine xp (aIq h_15) ?_
  refine zz ?_
  refine a1c<|zz ?_
  refine xlo x29 (hk:=congrArg V.agg (dE (aT h_16)).symm) ?_
  refine zz ?_
  refine zk hr ?_ ?_<;>clear hr<;>intro h17 hr<;>refine zz ?_
  ·exact zE
  refine xup x29 x23 (hk:=congrArg V.agg (dE (aT h_16)).symm) ?_
  exact zE
 exact zE
instance :CtC 97 true (bC @aHZ):=⟨@aHZ⟩
theorem aJb {N t r} (hr:aIl N t=some r):
  Fp 147 [] [aU t] (.agg (r.map (eI .u8))) []:=
 jC func147 ntmps147 results147
instance :CtC 147 true (bC @aJb):=⟨@aJb⟩
theorem aCG {N l vr r} (hr:aDI N l vr=some r):
  Fp 233 [] [.agg (l.map (eI .u8)),.agg (vr.map (eI .u8))] (.agg (r.map (eI .u8))) []:=
 jC func233 ntmps233 results233
instance :CtC 233 true (bC @aCG):=⟨@aCG⟩
end Go.Proofs.YtopdhljncajmpaaGreatDoor
