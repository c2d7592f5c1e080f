/- Texts of ours, joined. -/
import Derived.Test.YtopdhljncajmpaaGreatDoorQC11
open Go.Vm.AB renaming block → a1K,seq → a1L,cndF → a1Q,rs → a1U
open List renaming replicate → a1M
open Bool renaming eq_false_or_eq_true → a1N
open Go.IntKind renaming i64 → a1O,u32 → a1T
open Go.Vm.DrawG renaming ps → a1P,jh → a1R,nil → a1V,fk → a1W,jn → a1Y
open Go.Vm.Ghost renaming trans → a1S,virt → a1Z
open Go.Vm.OpsX renaming ghost → a1X
set_option linter.unusedVariables false
set_option linter.unusedSimpArgs false
set_option maxRecDepth 20000
set_option maxHeartbeats 8000000
namespace Go.Proofs.YtopdhljncajmpaaGreatDoor
open Go Go.Vm Go.Proofs.Tryz
theorem aHz {N t bI r} (hr:aBk N t bI=some r):
  Fp 203 [] [aZ t,eB bI] (.tup [.sl 0 0 r.1.length 1 false,eI .i64 r.2]) [some ⟨5,r.1.map (eI .u8)⟩]:=by
 refine bT func203 ntmps203 results203 fun hR=> ?_
 refine zz ?_
 obtain⟨x7,h_1,hr⟩:=aL hr
 refine a1L<|zz ?_
 refine xp (aAv h_1) ?_
 refine zz ?_
 refine zk hr ?_ ?_<;>intro h2 hr
 ·refine zz ?_
  replace hr:=sj hr
  subst hr
  exact zr2 Tryz.results203 fW fW (zW 5 [1])
 exact zE
instance :CtC 203 false (bC @aHz):=⟨@aHz⟩
theorem aG5 {N b r} (hr:aGC N b=some r):
  Fp 155 [] [dZ b] (.sl 0 0 r.length 1 false) [some ⟨5,r.map (eI .u8)⟩]:=by
 refine bT func155 ntmps155 results155 fun hR=> ?_
 refine zz ?_
 refine a1L ?_
 obtain⟨x10,h_1,x15,h_3,hr⟩:=cE hr
 refine a1U mixed [] [84,161] [[0,1,2,3,4,5,6,7,8]]<|zz ?_
 refine zg (s9 h_1) [] ?_
 refine zz ?_
 refine xZ (i5 h_3) [] [1] ?_
 refine zz ?_
 refine bW (aCC N) (fun l0=>[(3,.sl 0 0 l0.length 1 false)]) (fun l0=>[some ⟨5,l0.map (eI .u8)⟩]) ?_
 obtain⟨cN,hL2,hr⟩:=aL hr
 refine zz ?_
 exact a1K<|dH hL2 (fun x19 aO=>[(3,.sl 0 0 aO.length 1 false),(17,.row none 4 (b.Txs.map aZ)),(18,eI .i64 (b.Txs.length:Int)),(19,eI .i64 x19)]) (fun x19 aO=>[some ⟨5,aO.map (eI .u8)⟩])
instance :CtC 155 false (bC @aG5):=⟨@aG5⟩
theorem aEL {N b r} (hr:aFp N b=some r):
  Fp 105 [] [dZ b] (eB r) []:=by
 refine bT func105 ntmps105 results105 fun hR=> ?_
 refine zz ?_
 refine a1L<|zz ?_
 refine zk hr ?_ ?_<;>intro h1 hr<;>refine zz ?_
 ·exact zE
 refine fY (aEI N b) [(1,.ptr 0 0)] [some ⟨47,aY b⟩] ?_
 obtain⟨cN,hL2,hr⟩:=aL hr
 refine zz ?_
 exact a1K<|gQ hL2 (fun x12=>[(1,.ptr 0 0),(10,.row none 4 (b.Txs.map aZ)),(11,eI .i64 (b.Txs.length:Int)),(12,eI .i64 x12)]) (fun x12=>[some ⟨47,aY b⟩])
instance :CtC 105 true (bC @aEL):=⟨@aEL⟩
theorem aJ9 {N o r} (hr:rG N o=some r):
  Fp 135 [] [cW o] (eB r) []:=by
 refine bT func135 ntmps135 results135 fun hR=> ?_
 refine zz ?_
 refine xw (v:=(.agg (aN (eI .u8) (a1M 32 0) [eI .u32 4294967295]))) (cS rfl (jC jL aJx rfl))<|xw (gA rfl rfl (uQ (d:=9) jL rfl aAQ zl aDk rfl rfl rfl rfl rfl)) ?_
 exact zE
instance :CtC 135 true (bC @aJ9):=⟨@aJ9⟩
theorem nK {N t r} (hr:c5 N t=some r):
  Fp 85 [] [aZ t] (eB r) []:=by
 refine bT func85 ntmps85 results85 fun hR=> ?_
 unfold c5 at hr
 refine zz ?_
 refine bW (sA N) (fun x2=>[(2,eB x2)]) (fun x2=>[]) ?_
 exact zE
instance :CtC 85 true (bC @nK):=⟨@nK⟩
theorem aDG {N t r} (hr:rU N t=some r):
  Fp 106 [] [aZ t] (eI .i64 r) []:=by
 refine bT func106 ntmps106 results106 fun hR=> ?_
 refine zz ?_
 obtain⟨x11,h_1,hr⟩:=aL hr
 refine a1L<|zz ?_
 refine xp (aAv h_1) ?_
 refine zz ?_
 refine zk hr ?_ ?_<;>intro h2 hr<;>refine zz ?_
 ·exact zE
 refine a1L ?_
 refine bW (oK N t) (fun x22=>[(1,.ptr 0 0),(22,eB x22)]) (fun x22=>[some ⟨91,aQ t⟩]) ?_ (body:= ?_)
 rotate_left
 ·clear hr
  intro x22 hr
  refine zk hr ?_ ?_<;>intro h3 hr<;>refine zz ?_
  ·exact zE
  refine bW (sH N t) (fun sum=>[(1,.ptr 0 0),(3,eI .i64 sum)]) (fun sum=>[some ⟨91,aQ t⟩]) ?_ (body:= ?_)
  rotate_left
  ·clear hr
   intro sum hr
   refine a1L ?_
   refine zz ?_
   refine zk hr ?_ ?_<;>intro h4 hr<;>refine zz ?_
   ·exact zE
   refine fY (sK N t) [(1,.ptr 0 0)] [some ⟨91,aQ t⟩] ?_ (body:= ?_)
   rotate_left
   ·clear hr
    intro hr
    refine fY (aIy N) [] [] ?_
    obtain⟨res5,hL5,hr⟩:=aL hr
    refine zz ?_
    refine a1K<|gQ hL5 (fun x68=>[(1,.ptr 0 0),(66,.row none 35 (t.Inputs.map bU)),(67,eI .i64 (t.Inputs.length:Int)),(68,eI .i64 x68)]) (fun x68=>[some ⟨91,aQ t⟩]) (round:= ?_)
    intro m5 x68 hr
    refine zz ?_
    refine a1L ?_
    refine zk hr ?_ ?_<;>clear hr<;>intro h5 hr<;>refine zz ?_
    ·refine a1L<|a1K ?_
     replace hr:=aL hr
     obtain⟨x70,h_6,hr⟩:=hr
     refine zz ?_
     refine bW (oB N t x68 (gG N t m5)) (fun x79=>[(1,.ptr 0 0),(66,.row none 35 (t.Inputs.map bU)),(67,eI .i64 (t.Inputs.length:Int)),(68,eI .i64 x68),(79,eB x79)]) (fun x79=>[some ⟨91,aQ t⟩]) ?_
     exact zE
    exact zE
   obtain⟨res7,hL7,hr⟩:=aL hr
   refine zz ?_
   refine a1K<|gQ hL7 (fun x43=>[(1,.ptr 0 0),(42,eI .i64 (t.Inputs.length:Int)),(43,eI .i64 x43)]) (fun x43=>[some ⟨91,aQ t⟩]) (round:= ?_)
   intro m7 x43 hr
   refine zz ?_
   refine a1L ?_
   refine zk hr ?_ ?_<;>clear hr<;>intro h11 hr<;>refine zz ?_
   ·refine fY (yU N t x43 (jZ N t m7)) [(1,.ptr 0 0),(42,eI .i64 (t.Inputs.length:Int)),(43,eI .i64 x43)] [some ⟨91,aQ t⟩] ?_
    refine a1K ?_
    replace hr:=aL hr
    obtain⟨res9,hL9,hr⟩:=hr
    refine zz ?_
    refine a1K<|gQ hL9 (fun k=>[(1,.ptr 0 0),(6,eI .i64 x43),(7,eI .i64 k),(42,eI .i64 (t.Inputs.length:Int)),(43,eI .i64 x43)]) (fun k=>[some ⟨91,aQ t⟩]) (round:= ?_)
    intro m9 k hr
    refine a1L<|zz ?_
    refine zk hr ?_ ?_<;>clear hr<;>intro h12 hr<;>refine zz ?_
    ·refine a1L<|a1K<|a1L ?_
     replace hr:=cE hr
     obtain⟨x54,h_13,x60,h_14,hr⟩:=hr
     refine a1U mixed [] [] [[0,1,2,3,4,5,6,7,8,9,10,11,12]]<|zz ?_
     refine xw (v:=(eB (iU x54.Prev.Tx x60.Prev.Tx ((x54.Prev.Index == x60.Prev.Index)&&true)))) (gA rfl rfl (uQ (d:=9) jL rfl aAQ zl aDk rfl rfl rfl rfl rfl)) ?_
     exact zE
    exact zE
   exact zE
  obtain⟨res10,hL10,hr⟩:=aL hr
  refine zz ?_
  exact a1K<|dH hL10 (fun gB x26=>[(1,.ptr 0 0),(3,eI .i64 gB),(24,.row none 2 (t.Outputs.map b7)),(25,eI .i64 (t.Outputs.length:Int)),(26,eI .i64 x26)]) (fun gB x26=>[some ⟨91,aQ t⟩])
 exact zE
instance :CtC 106 true (bC @aDG):=⟨@aDG⟩
theorem aDn {N ids vid r} (hr:aDR N ids vid=some r):
  Fp 107 [] [.row none 32 (ids.map (eA (eI .u8))),.agg (vid.map (eI .u8))] (eI .i64 r) []:=by
 refine bT func107 ntmps107 results107 fun hR=> ?_
 refine zz ?_
 refine fY (aC1 N) [] [] ?_
 obtain⟨cN,hL2,hr⟩:=aL hr
 refine zz ?_
 refine a1K<|gQ hL2 (fun x8=>[(0,.row none 32 (ids.map (eA (eI .u8)))),(3,.ptr 0 0),(7,eI .i64 (ids.length:Int)),(8,eI .i64 x8)]) (fun x8=>[some ⟨26,vid.map (eI .u8)⟩]) (round:= ?_)
 intro m2 x8 hr
 refine zz ?_
 refine a1L ?_
 refine zk hr ?_ ?_<;>clear hr<;>intro h1 hr<;>refine zz ?_
 ·refine a1L<|a1K ?_
  refine zz ?_
  refine a1L ?_
  replace hr:=fK hr
  obtain⟨x13,h_2,q,h_3,q_1,h_4,hr⟩:=hr
  refine a1U mixed [] [] [[0,1,2,3,4,5]]<|zz ?_
  refine xw (v:=(.agg (x13.map (eI .u8)))) (b8 rfl (aJr (E:=(eI .u8)) gZ rfl h_2 (aU h_3))) ?_
  exact zE
 exact zE
instance :CtC 107 true (bC @aDn):=⟨@aDn⟩
theorem aGt {N b ids r} (hr:aAI N b ids=some r):
  Fp 108 [] [dZ b,.row none 32 (ids.map (eA (eI .u8)))] (eB r) []:=by
 refine bT func108 ntmps108 results108 fun hR=> ?_
 refine zz ?_
 refine fY (aF1 N) [] [] ?_
 obtain⟨cN,hL2,hr⟩:=aL hr
 refine zz ?_
 refine a1K<|gQ hL2 (fun x12=>[(1,.row none 32 (ids.map (eA (eI .u8)))),(10,.row none 4 (b.Txs.map aZ)),(11,eI .i64 (b.Txs.length:Int)),(12,eI .i64 x12)]) (fun x12=>[]) (round:= ?_)
 intro m2 x12 hr
 refine zz ?_
 refine a1L ?_
 refine zk hr ?_ ?_<;>clear hr<;>intro h1 hr<;>refine zz ?_
 ·refine fY (aA1 N b ids x12 (e8 N b ids m2)) [(1,.row none 32 (ids.map (eA (eI .u8)))),(10,.row none 4 (b.Txs.map aZ)),(11,eI .i64 (b.Txs.length:Int)),(12,eI .i64 x12)] [] ?_
  refine a1K ?_
  replace hr:=cE hr
  obtain⟨x15,h_2,res4,hL4,hr⟩:=hr
  refine zz ?_
  exact a1K<|gQ hL4 (fun x20=>[(1,.row none 32 (ids.map (eA (eI .u8)))),(5,eI .i64 x12),(10,.row none 4 (b.Txs.map aZ)),(11,eI .i64 (b.Txs.length:Int)),(12,eI .i64 x12),(18,.row none 35 (x15.Inputs.map bU)),(19,eI .i64 (x15.Inputs.length:Int)),(20,eI .i64 x20)]) (fun x20=>[])
 exact zE
instance :CtC 108 true (bC @aGt):=⟨@aGt⟩
theorem aH6 {N b r} (hr:aDS N b=some r):
  Fp 109 [] [dZ b] (eB r) []:=by
 refine bT func109 ntmps109 results109 fun hR=> ?_
 refine zz ?_
 refine fY (aIn N) [] [] ?_
 obtain⟨cN,hL2,hr⟩:=aL hr
 refine zz ?_
 refine a1K<|dH hL2 (fun x13 l0=>[(3,.sl 0 0 l0.length 33 true),(11,.row none 4 (b.Txs.map aZ)),(12,eI .i64 (b.Txs.length:Int)),(13,eI .i64 x13)]) (fun x13 l0=>[some ⟨76,l0.flatMap cG⟩]) (h0:=(zW 76 [1])) (round:= ?_)
 intro m2 x13 l0 hr
 refine zz ?_
 refine a1L ?_
 refine zk hr ?_ ?_<;>clear hr<;>intro h1 hr<;>refine zz ?_
 ·refine bW (aDr N b x13 (lB N b m2)) (fun aO=>[(3,.sl 0 0 aO.length 33 true),(11,.row none 4 (b.Txs.map aZ)),(12,eI .i64 (b.Txs.length:Int)),(13,eI .i64 x13)]) (fun aO=>[some ⟨76,aO.flatMap cG⟩]) ?_
  refine a1K ?_
  replace hr:=cE hr
  obtain⟨x15,h_2,res4,hL4,hr⟩:=hr
  refine zz ?_
  refine a1K<|dH hL4 (fun x20 d8=>[(3,.sl 0 0 d8.length 33 true),(11,.row none 4 (b.Txs.map aZ)),(12,eI .i64 (b.Txs.length:Int)),(13,eI .i64 x13),(18,.row none 35 (x15.Inputs.map bU)),(19,eI .i64 (x15.Inputs.length:Int)),(20,eI .i64 x20)]) (fun x20 d8=>[some ⟨76,d8.flatMap cG⟩]) (round:= ?_)
  intro m4 x20 d8 hr
  refine zz ?_
  refine a1L ?_
  refine zk hr ?_ ?_<;>clear hr<;>intro h3 hr<;>refine zz ?_
  ·refine bW (aC2 N b x13 x15 x20 (jY N b x13 x15 m4)) (fun gY=>[(3,.sl 0 0 gY.length 33 true),(11,.row none 4 (b.Txs.map aZ)),(12,eI .i64 (b.Txs.length:Int)),(13,eI .i64 x13),(18,.row none 35 (x15.Inputs.map bU)),(19,eI .i64 (x15.Inputs.length:Int)),(20,eI .i64 x20)]) (fun gY=>[some ⟨76,gY.flatMap cG⟩]) ?_
   refine a1K ?_
   replace hr:=aL hr
   obtain⟨x22,h_4,hr⟩:=hr
   refine zz ?_
   refine fY (aDi N b x13 x15 x20 d8 x22 (jY N b x13 x15 m4)) [(3,.sl 0 0 d8.length 33 true),(7,.ptr 1 0),(11,.row none 4 (b.Txs.map aZ)),(12,eI .i64 (b.Txs.length:Int)),(13,eI .i64 x13),(18,.row none 35 (x15.Inputs.map bU)),(19,eI .i64 (x15.Inputs.length:Int)),(20,eI .i64 x20)] [some ⟨76,d8.flatMap cG⟩,some ⟨97,cP x22⟩] ?_ (body:= ?_)
   rotate_left
   ·clear hr
    intro hr
    replace hr:=aL hr
    obtain⟨x39,h_5,hr⟩:=hr
    refine zz ?_
    refine jU cG 33 [x22.Prev] ?_
    exact zE
   replace hr:=aL hr
   obtain⟨res7,hL7,hr⟩:=hr
   refine zz ?_
   refine a1K<|gQ hL7 (fun x26=>[(3,.sl 0 0 d8.length 33 true),(7,.ptr 1 0),(11,.row none 4 (b.Txs.map aZ)),(12,eI .i64 (b.Txs.length:Int)),(13,eI .i64 x13),(18,.row none 35 (x15.Inputs.map bU)),(19,eI .i64 (x15.Inputs.length:Int)),(20,eI .i64 x20),(24,.sl 0 0 d8.length 33 true),(25,eI .i64 (d8.length:Int)),(26,eI .i64 x26)]) (fun x26=>[some ⟨76,d8.flatMap cG⟩,some ⟨97,cP x22⟩]) (round:= ?_)
   intro m7 x26 hr
   refine zz ?_
   refine a1L ?_
   refine zk hr ?_ ?_<;>clear hr<;>intro h6 hr<;>refine zz ?_
   ·refine a1L<|a1K ?_
    replace hr:=aL hr
    obtain⟨x28,h_7,hr⟩:=hr
    refine zz ?_
    refine xw (v:=(cW x28)) (b8 rfl (rV (C:=cG) (K:=33) (fun _=>rfl) rfl h_7 (mU (ds:=(aN (eI .u8) x28.Tx [eI .u32 x28.Index])) jL rfl zl rfl))) ?_
    refine zz ?_
    refine xw (gA rfl rfl (uQ (d:=9) jL rfl aAQ zl aDk rfl rfl rfl rfl rfl)) ?_
    exact zE
   exact zE
  exact zE
 exact zE
instance :CtC 109 true (bC @aH6):=⟨@aH6⟩
theorem aIp {N b r} (hr:iE N b=some r):
  Fp 64 [] [dZ b] (eI .i64 r) []:=by
 refine bT func64 ntmps64 results64 fun hR=> ?_
 refine zz ?_
 obtain⟨x13,h_1,hr⟩:=aL hr
 refine a1L<|zz ?_
 refine xp (aEL h_1) ?_
 refine zz ?_
 refine zk hr ?_ ?_<;>intro h2 hr<;>refine zz ?_
 ·exact zE
 refine a1L<|zz ?_
 refine zk hr ?_ ?_<;>intro h3 hr<;>refine zz ?_
 ·exact zE
 refine fY (sE N b) [(1,.ptr 0 0)] [some ⟨47,aY b⟩] ?_ (body:= ?_)
 rotate_left
 ·clear hr
  intro hr
  refine zz ?_
  refine fY (tE N b) [(1,.ptr 0 0),(5,.row (some true) 1 [])] [some ⟨47,aY b⟩] ?_ (body:= ?_)
  rotate_left
  ·clear hr
   intro hr
   refine bW (tG N b) (fun l1=>[(1,.ptr 0 0),(5,.sl 1 0 l1.length 32 true)]) (fun l1=>[some ⟨47,aY b⟩,some ⟨26,l1.flatMap (dQ (eI .u8))⟩]) ?_
   obtain⟨res4,hL4,hr⟩:=aL hr
   refine zz ?_
   refine a1K<|dH hL4 (fun x49 bL=>[(1,.ptr 0 0),(5,.sl 1 0 bL.length 32 true),(47,.row none 4 (b.Txs.map aZ)),(48,eI .i64 (b.Txs.length:Int)),(49,eI .i64 x49)]) (fun x49 bL=>[some ⟨47,aY b⟩,some ⟨26,bL.flatMap (dQ (eI .u8))⟩]) (h0:=(zW 26 [0,1])) (round:= ?_)
   intro m4 x49 bL hr
   refine zz ?_
   refine a1L ?_
   refine zk hr ?_ ?_<;>clear hr<;>intro h14 hr<;>refine zz ?_
   ·refine a1L<|a1K ?_
    replace hr:=fK hr
    obtain⟨x51,h_15,x54,h_16,q_3,h_17,hr⟩:=hr
    refine zz ?_
    refine xp (aAk h_16) ?_
    refine zz ?_
    replace hr:=cE hr
    obtain⟨q_4,h_18,x57,h_19,hr⟩:=hr
    refine a1L<|zz ?_
    refine kY (aDn h_19) [] [1] ?_
    refine zz ?_
    refine zk hr ?_ ?_<;>clear hr<;>intro h20 hr
    ·exact zE
    replace hr:=aL hr
    obtain⟨x62,h_21,hr⟩:=hr
    refine zz ?_
    refine xw (v:=(.sl 4 0 1 32 true)) (h':=[some ⟨47,aY b⟩,some ⟨26,bL.flatMap (dQ (eI .u8))⟩,some ⟨91,aQ x51⟩,some ⟨26,x54.map (eI .u8)⟩,some ⟨26,[x54].flatMap (dQ (eI .u8))⟩]) (oV rfl (aJL (ps':=[(0,.agg (dQ (eI .u8) x54))]) (by simp only[aA3,dQ,dJ (l:=x54) (aU h_17)]) (aHp (len:=1) (C:=(dQ (eI .u8))) (xs:=[x54]) (K:=32) (fun _=>rfl) (fun _=>rfl) aFd gZ ⟨zl,zl,zl⟩ rfl rfl rfl rfl rfl rfl))) ?_
    exact zE
   exact zE
  obtain⟨res5,hL5,hr⟩:=aL hr
  refine zz ?_
  exact a1K<|gQ hL5 (fun x36=>[(1,.ptr 0 0),(5,.row (some true) 1 []),(34,.row none 4 (b.Txs.map aZ)),(35,eI .i64 (b.Txs.length:Int)),(36,eI .i64 x36)]) (fun x36=>[some ⟨47,aY b⟩])
 obtain⟨res6,hL6,hr⟩:=aL hr
 refine zz ?_
 refine a1K<|gQ hL6 (fun x22=>[(1,.ptr 0 0),(20,.row none 4 (b.Txs.map aZ)),(21,eI .i64 (b.Txs.length:Int)),(22,eI .i64 x22)]) (fun x22=>[some ⟨47,aY b⟩]) (round:= ?_)
 intro m6 x22 hr
 refine zz ?_
 refine a1L ?_
 refine zk hr ?_ ?_<;>clear hr<;>intro h26 hr<;>refine zz ?_
 ·refine a1L<|a1K ?_
  replace hr:=cE hr
  obtain⟨x25,h_27,x28,h_28,hr⟩:=hr
  refine zz ?_
  refine xp (nK h_28) ?_
  refine zz ?_
  refine xw (gA rfl rfl (aRp _ _ ti4 ..)) ?_
  exact zE
 exact zE
instance :CtC 64 true (bC @aIp):=⟨@aIp⟩
theorem aDw {N t height r} (hr:rR N t height=some r):
  Fp 82 [] [aZ t,eI .i64 height] (eB r) []:=by
 refine bT func82 ntmps82 results82 fun hR=> ?_
 refine zz ?_
 refine a1L<|zz ?_
 refine zk hr ?_ ?_<;>intro h1 hr<;>refine zz ?_
 ·exact zE
 refine fY (aCM N) [] [] ?_
 obtain⟨cN,hL2,hr⟩:=aL hr
 refine zz ?_
 exact a1K<|gQ hL2 (fun x15=>[(13,.row none 35 (t.Inputs.map bU)),(14,eI .i64 (t.Inputs.length:Int)),(15,eI .i64 x15)]) (fun x15=>[])
instance :CtC 82 true (bC @aDw):=⟨@aDw⟩
theorem aDf {N p l b r} (hr:nY N p l b=some r):
  Fp 44 [] [cU p,dD l,dZ b] (eI .i64 r) []:=by
 refine bT func44 ntmps44 results44 fun hR=> ?_
 unfold nY at hr
 refine zz ?_
 refine a1L<|a1K ?_
 refine bW (iI N l b) (fun x8=>[(4,.ptr 0 0),(5,.ptr 1 0),(8,eB x8)]) (fun x8=>[some ⟨44,bD l⟩,some ⟨47,aY b⟩]) ?_
 exact zE
instance :CtC 44 true (bC @aDf):=⟨@aDf⟩
theorem aAO {N l o r} (hr:y7 N l o=some r):
  Fp 49 [] [.row none 37 (l.map aP),cW o] (eI .i64 r) []:=by
 refine bT func49 ntmps49 results49 fun hR=> ?_
 refine zz ?_
 refine fY (aEv N) [] [] ?_
 obtain⟨cN,hL2,hr⟩:=aL hr
 refine zz ?_
 refine a1K<|gQ hL2 (fun x8=>[(0,.row none 37 (l.map aP)),(3,.ptr 0 0),(7,eI .i64 (l.length:Int)),(8,eI .i64 x8)]) (fun x8=>[some ⟨76,cG o⟩]) (round:= ?_)
 intro m2 x8 hr
 refine zz ?_
 refine a1L ?_
 refine zk hr ?_ ?_<;>clear hr<;>intro h1 hr<;>refine zz ?_
 ·refine a1L<|a1K ?_
  refine zz ?_
  refine a1L ?_
  replace hr:=aL hr
  obtain⟨x13,h_2,hr⟩:=hr
  refine a1U mixed [] [] [[0,1,2,3,4,5,6]]<|zz ?_
  refine xw (v:=(eB (iU x13.Out.Tx o.Tx ((x13.Out.Index == o.Index)&&true)))) (gA rfl rfl (uQ (d:=9) jL rfl aAQ zl aDk rfl rfl rfl rfl rfl)) ?_
  exact zE
 exact zE
instance :CtC 49 true (bC @aAO):=⟨@aAO⟩
theorem r9 {N c r} (hr:lD N c=some r):
  Fp 57 [] [aP c] (aP r) []:=
 fV func57 ntmps57 results57
instance :CtC 57 true (bC @r9):=⟨@r9⟩
theorem aDo {N p l t height r} (hr:aAg N p l t height=some r):
  Fp 46 [] [cU p,.row none 37 (l.map aP),aZ t,eI .i64 height] (.tup [.sl 0 0 r.1.length 37 true,eI .i64 r.2]) [some ⟨80,r.1.flatMap aH⟩]:=by
 refine bT func46 ntmps46 results46 fun hR=> ?_
 refine zz ?_
 refine bW (aDt N p height) (fun l1=>[(3,eI .i64 height),(4,.ptr 0 0),(10,.sl 1 0 l1.length 37 true)]) (fun l1=>[some ⟨34,bG p⟩,some ⟨80,l1.flatMap aH⟩]) ?_ (body:= ?_)
 rotate_left
 ·clear hr
  intro l1 hr
  refine fY (aIr N l1) [(10,.sl 0 0 l1.length 37 true)] [some ⟨80,l1.flatMap aH⟩] ?_
  obtain⟨aBW,hL3,hr⟩:=aL hr
  refine zz ?_
  refine a1K<|gQ hL3 (fun x40=>[(3,eI .i64 height),(4,.ptr 0 0),(10,.sl 1 0 l1.length 37 true),(38,.sl 1 0 l1.length 37 true),(39,eI .i64 (l1.length:Int)),(40,eI .i64 x40)]) (fun x40=>[some ⟨34,bG p⟩,some ⟨80,l1.flatMap aH⟩]) (round:= ?_)
  intro m3 x40 hr
  refine zz ?_
  refine a1L ?_
  refine zk hr ?_ ?_<;>clear hr<;>intro h1 hr<;>refine zz ?_
  ·refine a1L<|a1K ?_
   replace hr:=aL hr
   obtain⟨x42,h_2,hr⟩:=hr
   refine zz ?_
   refine xw (v:=(aP x42)) (b8 rfl (rV (C:=aH) (K:=37) (fun _=>rfl) rfl h_2 (mU (ds:=(aN (eI .u8) x42.Out.Tx [eI .u32 x42.Out.Index,eI .i64 x42.Output.Value,.row none 1 (x42.Output.Script.map (eI .u8)),eI .i64 x42.Height,eB x42.Coinbase])) rP rfl zl rfl))) ?_
   refine zz ?_
   refine bW (yZ N p height l1 x40 (jR N p height l1 m3)) (fun x54=>[(3,eI .i64 height),(4,.ptr 0 0),(10,.sl 1 0 l1.length 37 true),(38,.sl 1 0 l1.length 37 true),(39,eI .i64 (l1.length:Int)),(40,eI .i64 x40),(54,eB x54)]) (fun x54=>[some ⟨34,bG p⟩,some ⟨80,l1.flatMap aH⟩]) ?_ (body:= ?_)
   rotate_left
   ·clear hr
    intro x54 hr
    refine zk hr ?_ ?_<;>clear hr<;>intro h3 hr<;>refine zz ?_
    ·replace hr:=sj hr
     subst hr
     replace hr:=sj hr
     subst hr
     exact zr2 Tryz.results46 fW fW (zW 80 [2])
    exact zE
   exact zE
  exact zE
 obtain⟨res5,hL5,hr⟩:=aL hr
 refine zz ?_
 refine a1K<|dH hL5 (fun x19 bL=>[(1,.row none 37 (l.map aP)),(3,eI .i64 height),(4,.ptr 0 0),(10,.sl 1 0 bL.length 37 true),(17,.row none 35 (t.Inputs.map bU)),(18,eI .i64 (t.Inputs.length:Int)),(19,eI .i64 x19)]) (fun x19 bL=>[some ⟨34,bG p⟩,some ⟨80,bL.flatMap aH⟩]) (h0:=(zW 80 [0,2])) (round:= ?_)
 intro m5 x19 bL hr
 refine zz ?_
 refine a1L ?_
 refine zk hr ?_ ?_<;>clear hr<;>intro h5 hr<;>refine zz ?_
 ·refine a1L<|a1K ?_
  replace hr:=cE hr
  obtain⟨x21,h_6,x26,h_7,hr⟩:=hr
  refine zz ?_
  refine xp (aAO h_7) ?_
  refine zz ?_
  refine a1L<|zz ?_
  refine zk hr ?_ ?_<;>clear hr<;>intro h8 hr
  ·refine zz ?_
   replace hr:=sj hr
   subst hr
   replace hr:=sj hr
   subst hr
   exact zr2 Tryz.results46 fW fW (zW 80 [3])
  replace hr:=fK hr
  obtain⟨x32,h_9,x34,h_10,x36,h_11,hr⟩:=hr
  refine zz ?_
  refine xp (r9 h_10)<|jU aH 37 [x34] ?_
  exact zE
 exact zE
instance :CtC 46 false (bC @aDo):=⟨@aDo⟩
theorem aFR {N t l r} (hr:tI N t l=some r):
  Fp 86 [] [aZ t,.row none 37 (l.map aP)] (.tup [eI .i64 r.1,eI .i64 r.2]) []:=by
 refine bT func86 ntmps86 results86 fun hR=> ?_
 refine zz ?_
 obtain⟨x14,h_1,hr⟩:=aL hr
 refine a1L<|zz ?_
 refine xp (aDG h_1) ?_
 refine zz ?_
 refine zk hr ?_ ?_<;>intro h2 hr<;>refine zz ?_
 ·exact zE
 refine a1L<|zz ?_
 refine zk hr ?_ ?_<;>intro h3 hr<;>refine zz ?_
 ·exact zE
 refine fY (tC N t l) [(1,.row none 37 (l.map aP)),(2,.ptr 0 0)] [some ⟨91,aQ t⟩] ?_ (body:= ?_)
 rotate_left
 ·clear hr
  intro hr
  refine zz ?_
  refine bW (pO N t) (fun sum=>[(2,.ptr 0 0),(8,eI .i64 sum)]) (fun sum=>[some ⟨91,aQ t⟩]) ?_ (body:= ?_)
  rotate_left
  ·clear hr
   intro sum hr
   refine a1L ?_
   refine zz ?_
   refine zk hr ?_ ?_<;>intro h4 hr<;>refine zz ?_
   ·exact zE
   refine bW (aBn N) (fun gB=>[(8,eI .i64 gB)]) (fun gB=>[]) ?_
   obtain⟨res4,hL4,hr⟩:=aL hr
   refine zz ?_
   exact a1K<|dH hL4 (fun sum_2 x69=>[(8,eI .i64 sum_2),(67,.row none 2 (t.Outputs.map b7)),(68,eI .i64 (t.Outputs.length:Int)),(69,eI .i64 x69)]) (fun sum_2 x69=>[])
  obtain⟨res5,hL5,hr⟩:=aL hr
  refine zz ?_
  refine a1K<|dH hL5 (fun aBv x44=>[(2,.ptr 0 0),(8,eI .i64 aBv),(42,.row none 37 (l.map aP)),(43,eI .i64 (l.length:Int)),(44,eI .i64 x44)]) (fun aBv x44=>[some ⟨91,aQ t⟩]) (round:= ?_)
  intro m5 aBv x44 hr
  refine zz ?_
  refine a1L ?_
  refine zk hr ?_ ?_<;>clear hr<;>intro h8 hr<;>refine zz ?_
  ·refine a1L<|a1K ?_
   replace hr:=aL hr
   obtain⟨x46,h_9,hr⟩:=hr
   refine zz ?_
   refine a1L ?_
   refine bW (sU N t l aBv x44 x46 (f9 N t l m5)) (fun x57=>[(2,.ptr 0 0),(8,eI .i64 aBv),(10,.ptr 1 0),(42,.row none 37 (l.map aP)),(43,eI .i64 (l.length:Int)),(44,eI .i64 x44),(57,eB x57)]) (fun x57=>[some ⟨91,aQ t⟩,some ⟨80,aH x46⟩]) ?_
   exact zE
  exact zE
 obtain⟨res7,hL7,hr⟩:=aL hr
 refine zz ?_
 refine a1K<|gQ hL7 (fun x26=>[(1,.row none 37 (l.map aP)),(2,.ptr 0 0),(25,eI .i64 (l.length:Int)),(26,eI .i64 x26)]) (fun x26=>[some ⟨91,aQ t⟩]) (round:= ?_)
 intro m7 x26 hr
 refine zz ?_
 refine a1L ?_
 refine zk hr ?_ ?_<;>clear hr<;>intro h12 hr<;>refine zz ?_
 ·refine a1L<|a1K ?_
  refine zz ?_
  refine a1L ?_
  replace hr:=cE hr
  obtain⟨x31,h_13,x37,h_14,hr⟩:=hr
  refine a1U mixed [] [] [[0,1,2,3,4,5,6,7,8,9,10,11]]<|zz ?_
  refine xw (v:=(eB (!(iU x31.Out.Tx x37.Prev.Tx ((x31.Out.Index == x37.Prev.Index)&&true))))) (gA rfl rfl (aJu (d:=9) jL rfl aAQ zl aDk rfl rfl rfl rfl rfl)) ?_
  exact zE
 exact zE
instance :CtC 86 true (bC @aFR):=⟨@aFR⟩
theorem aCD {N tag b r} (hr:aCc N tag b=some r):
  Fp 184 [] [eS tag,.row none 1 (b.map (eI .u8))] (.agg (r.map (eI .u8))) []:=by
 refine bT func184 ntmps184 results184 fun hR=> ?_
 obtain⟨x7,h_1,x8,h_2,q,h_3,hr⟩:=fK hr
 refine zz ?_
 refine aYp (i:=1) (h':=[some ⟨26,(a1M 32 0).map (eI .u8)⟩,some ⟨5,x7.map (eI .u8)⟩]) rfl ti9 lI mF h_1 rfl rfl (xOf ?_)
 refine kY (jF h_2) [] [1] ?_
 refine zz ?_
 refine a1L ?_
 obtain⟨x10,h_4,x12,h_5,x14,h_6,x15,h_7,q_1,h_9,hr⟩:=aJh hr
 refine a1U mixed [] [132] [[0,1,2,3,4,5,6,7]]<|zz ?_
 refine xZ (jF h_7) [] [6] ?_
 refine zz ?_
 replace hr:=sj hr
 subst hr
 exact zr1 Tryz.results184 fW (zG [])
instance :CtC 184 true (bC @aCD):=⟨@aCD⟩
theorem aAT {N t vi o r} (hr:u6 N t vi o=some r):
  Fp 136 [] [aZ t,eI .i64 vi,b7 o] (.tup [.agg (r.1.map (eI .u8)),eI .i64 r.2]) []:=by
 refine bT func136 ntmps136 results136 fun hR=> ?_
 unfold u6 at hr
 refine zz ?_
 refine a1L ?_
 refine bW (jJ N t vi o) (fun x29=>[(1,eI .i64 vi),(3,.ptr 0 0),(5,.ptr 1 0),(6,.ptr 2 0),(29,eB x29)]) (fun x29=>[some ⟨91,aQ t⟩,some ⟨78,aX o⟩,some ⟨26,(a1M 32 0).map (eI .u8)⟩]) ?_ (body:= ?_)
 rotate_left
 ·clear hr
  intro x29 hr
  unfold jJ at hr
  refine zk hr ?_ ?_<;>intro h1 hr<;>refine zz ?_
  ·exact zE
  refine a1L ?_
  refine bW (lU N t vi o) (fun x39=>[(1,eI .i64 vi),(3,.ptr 0 0),(5,.ptr 1 0),(6,.ptr 2 0),(39,eB x39)]) (fun x39=>[some ⟨91,aQ t⟩,some ⟨78,aX o⟩,some ⟨26,(a1M 32 0).map (eI .u8)⟩]) ?_ (body:= ?_)
  rotate_left
  ·clear hr
   intro x39 hr
   unfold lU at hr
   refine zk hr ?_ ?_<;>intro h2 hr<;>refine zz ?_
   ·exact zE
   refine sk2 (oT N t vi o) (fun l3 l4=>[(1,eI .i64 vi),(3,.ptr 0 0),(5,.ptr 1 0),(6,.ptr 2 0),(8,.sl 3 0 l3.length 1 false),(9,.sl 4 0 l4.length 1 false),(10,.row (some true) 1 [])]) (fun l3 l4=>[some ⟨91,aQ t⟩,some ⟨78,aX o⟩,some ⟨26,(a1M 32 0).map (eI .u8)⟩,some ⟨5,l3.map (eI .u8)⟩,some ⟨5,l4.map (eI .u8)⟩]) ?_ (body:= ?_)
   rotate_left
   ·clear hr
    intro l3 l4 hr
    unfold oT at hr
    refine bW (pV N t vi o l3 l4) (fun l5=>[(1,eI .i64 vi),(3,.ptr 0 0),(5,.ptr 1 0),(6,.ptr 2 0),(8,.sl 3 0 l3.length 1 false),(9,.sl 4 0 l4.length 1 false),(10,.sl 5 0 l5.length 1 false)]) (fun l5=>[some ⟨91,aQ t⟩,some ⟨78,aX o⟩,some ⟨26,(a1M 32 0).map (eI .u8)⟩,some ⟨5,l3.map (eI .u8)⟩,some ⟨5,l4.map (eI .u8)⟩,some ⟨5,l5.map (eI .u8)⟩]) ?_ (body:= ?_)
    rotate_left
    ·clear hr
     intro l5 hr
     unfold pV at hr
     obtain⟨x72,h_3,hr⟩:=aL hr
     refine zz ?_
     refine zc (dN h_3) [] ?_
     obtain⟨x75,h_4,x76,h_5,hr⟩:=cE hr
     refine zz ?_
     refine kY (jF h_4) [] [3] ?_
     refine kY (fE h_5) [] [6] ?_
     obtain⟨x79,h_6,x80,h_7,hr⟩:=cE hr
     refine zz ?_
     refine kY (jF h_6) [] [4] ?_
     refine kY (fE h_7) [] [7] ?_
     obtain⟨x83,h_8,x84,h_9,hr⟩:=cE hr
     refine zz ?_
     refine kY (jF h_8) [] [5] ?_
     refine kY (fE h_9) [] [8] ?_
     obtain⟨x88,h_10,hr⟩:=aL hr
     refine zz ?_
     refine kY (dN h_10) [] [9] ?_
     obtain⟨x92,h_11,hr⟩:=aL hr
     refine zz ?_
     refine kY (dN h_11) [] [10] ?_
     obtain⟨x95,h_12,x96,h_13,x97,h_14,q,h_15,hr⟩:=aA4 hr
     refine zz ?_
     refine zc (aFZ h_12) [] ?_
     refine zz ?_
     refine kY (aCD h_14) [] [13] ?_
     refine zz ?_
     replace hr:=sj hr
     subst hr
     exact zr2 Tryz.results136 fW fW (zg' [])
    obtain⟨res5,hL5,hr⟩:=aL hr
    refine zz ?_
    exact a1K<|dH hL5 (fun x61 eE=>[(1,eI .i64 vi),(3,.ptr 0 0),(5,.ptr 1 0),(6,.ptr 2 0),(8,.sl 3 0 l3.length 1 false),(9,.sl 4 0 l4.length 1 false),(10,.sl 5 0 eE.length 1 false),(59,.row none 2 (t.Outputs.map b7)),(60,eI .i64 (t.Outputs.length:Int)),(61,eI .i64 x61)]) (fun x61 eE=>[some ⟨91,aQ t⟩,some ⟨78,aX o⟩,some ⟨26,(a1M 32 0).map (eI .u8)⟩,some ⟨5,l3.map (eI .u8)⟩,some ⟨5,l4.map (eI .u8)⟩,some ⟨5,eE.map (eI .u8)⟩]) (h0:=(zW 5 [0,1,2,3,4,5]))
   obtain⟨res6,hL6,hr⟩:=aL hr
   refine zz ?_
   exact a1K<|lp3 hL6 (fun x44 eH dR=>[(1,eI .i64 vi),(3,.ptr 0 0),(5,.ptr 1 0),(6,.ptr 2 0),(8,.sl 3 0 eH.length 1 false),(9,.sl 4 0 dR.length 1 false),(10,.row (some true) 1 []),(42,.row none 35 (t.Inputs.map bU)),(43,eI .i64 (t.Inputs.length:Int)),(44,eI .i64 x44)]) (fun x44 eH dR=>[some ⟨91,aQ t⟩,some ⟨78,aX o⟩,some ⟨26,(a1M 32 0).map (eI .u8)⟩,some ⟨5,eH.map (eI .u8)⟩,some ⟨5,dR.map (eI .u8)⟩]) (h0:=(a1S (a1Z (fr':=[(1,eI .i64 vi),(3,.ptr 0 0),(5,.ptr 1 0),(6,.ptr 2 0),(8,.sl 3 0 0 1 false),(9,.row (some true) 1 []),(10,.row (some true) 1 []),(42,.row none 35 (t.Inputs.map bU)),(43,eI .i64 (t.Inputs.length:Int)),(44,eI .i64 0)]) (h1:=[some ⟨91,aQ t⟩,some ⟨78,aX o⟩,some ⟨26,(a1M 32 0).map (eI .u8)⟩]) 5 (FLe.same rfl (FLe.same rfl (FLe.same rfl (FLe.same rfl (FLe.le rfl (V.le_virt rfl) (FLe.same rfl (FLe.same rfl (FLe.same rfl (FLe.same rfl (FLe.same rfl FLe.nil)))))))))) (HLv.live (V.les_refl _ _) rfl (HLv.live (V.les_refl _ _) rfl (HLv.live (V.les_refl _ _) (all_map (fun _=>rfl) _) HLv.nil)))) (zW 5 [0,1,2,3,4])))
  exact zE
 exact zE
instance :CtC 136 true (bC @aAT):=⟨@aAT⟩
theorem aCU {N o r} (hr:aMn N o=some r):
  Fp 262 [] [kI o] (eI .i64 r) []:=by
 refine bT func262 ntmps262 results262 fun hR=> ?_
 refine zz ?_
 refine a1L<|a1K ?_
 obtain⟨h1,hr⟩:=cutF hr
 refine xq ?_
 refine zz ?_
 obtain⟨h2,hr⟩:=cutF hr
 refine a1Q rfl h2<|a1L ?_
 refine bW (aDI N o) (fun x12=>[(1,.ptr 0 0),(12,eB x12)]) (fun x12=>[some ⟨263,eW o⟩]) ?_ (body:= ?_)
 rotate_left
 ·clear hr
  intro x12 hr
  obtain⟨h3,hr⟩:=cutF hr
  refine a1Q rfl h3 ?_
  obtain⟨h4,hr⟩:=cutF hr
  obtain⟨h5,hr⟩:=cutF hr
  refine xr<|zz ?_
  refine a1Q rfl rfl ?_
  refine zz ?_
  obtain⟨h6,hr⟩:=cutF hr
  refine a1Q rfl h6 ?_
  obtain⟨h7,hr⟩:=cutF hr
  refine xq ?_
  refine zz ?_
  refine a1Q rfl rfl ?_
  exact zE
 exact zE
instance :CtC 262 true (bC @aCU):=⟨@aCU⟩
theorem aGP {N b r} (hr:aO0 N b=some r):
  Fp 246 [] [.row none 1 (b.map (eI .u8))] (.tup [.agg [eI .i64 r.1,.sl 0 0 r.2.1.length 1 false,eI .i64 r.2.2.1,eI .i64 r.2.2.2.1],.row none 1 (r.2.2.2.2.1.map (eI .u8)),eI .i64 r.2.2.2.2.2]) [some ⟨5,r.2.1.map (eI .u8)⟩]:=by
 refine bT func246 ntmps246 results246 fun hR=> ?_
 obtain⟨x8,h_1,hr⟩:=aL hr
 refine zz ?_
 refine a1L ?_
 obtain⟨h2,hr⟩:=cutF hr
 refine xq ?_
 refine zz ?_
 obtain⟨h3,hr⟩:=cutF hr
 refine a1Q rfl h3 ?_
 obtain⟨x22,h_4,hr⟩:=aL hr
 refine zz ?_
 refine sk2 (aGD N x8) (fun b_1 l2=>[(0,.row none 1 (b_1.map (eI .u8))),(2,.ptr 0 0),(5,.ptr 1 0)]) (fun b_1 l2=>[some ⟨263,[eI .i64 0,.row (some true) 1 [],eI .i64 0,eI .i64 0]⟩,some ⟨263,[eI .i64 (a1O.wrap x8),.sl 2 0 l2.length 1 false,eI .i64 0,eI .i64 0]⟩,some ⟨5,l2.map (eI .u8)⟩]) ?_ (body:= ?_)
 rotate_left
 ·clear hr
  intro b_1 l2 hr
  refine a1L ?_
  obtain⟨x76,h_5,hr⟩:=aL hr
  refine a1U mixed [] [262] [[0,1,2,3,4,5,6]]<|zz ?_
  refine xG (v:=(eI .i64 x76)) (h':=[some ⟨263,[eI .i64 0,.row (some true) 1 [],eI .i64 0,eI .i64 0]⟩,some ⟨263,[eI .i64 (a1O.wrap x8),.sl 2 0 l2.length 1 false,eI .i64 0,eI .i64 0]⟩,some ⟨5,l2.map (eI .u8)⟩]) rfl (Vm.Fn.lendR (aCU h_5) [] [2] (by decide) rfl (by decide) Lend.nil (Brw.row (aX7 (iS rfl (iS (aUg (d:=3) rfl rfl (fun _=>rfl)) (iS rfl (iS rfl aLR))))) Brw.nil) rfl rfB.nil rfl zH) ?_
  exact zE
 refine zz ?_
 refine a1K ?_
 refine zz ?_
 refine zk hr ?_ ?_<;>intro h7 hr
 ·refine a1L ?_
  obtain⟨h8,hr⟩:=cutF hr
  obtain⟨x35,h_9,hr⟩:=aL hr
  refine xq ?_
  refine zz ?_
  obtain⟨h10,hr⟩:=cutF hr
  refine a1Q rfl h10 ?_
  obtain⟨x48,h_11,x50,h_12,x53,h_14,hr⟩:=fK hr
  refine zz ?_
  refine AB.rd (cA []) (cA [91]) mixed<|a1P (m:=3) [0,1,2,3,4,5,6,8] ?_
  refine zz ?_
  refine xZ (qN h_12) [] [2] ?_
  refine zz ?_
  refine a1Y (m:=1) (L:=lst [0,1,2,3,4,5,6,7,8,9] 11) (s1:=aG 77 [(0,.row none 1 (x22.map (eI .u8))),(2,.ptr 0 0),(5,.ptr 1 0),(53,.row none 1 (x53.map (eI .u8)))]) (h1:=[some ⟨263,[eI .i64 0,.row (some true) 1 [],eI .i64 0,eI .i64 0]⟩,some ⟨263,[eI .i64 (a1O.wrap x8),.sl 2 0 x50.length 1 false,eI .i64 0,eI .i64 0]⟩,some ⟨5,x50.map (eI .u8)⟩]) ?_ (fun J=> ?_)
  ·refine a1P (m:=0) [10]<|zz ?_
   refine a1V (by decide +kernel) ?_
   exact zE
  refine a1W (n:=2) [7,9] ⟨?_, ?_,trivial⟩
  ·refine zz ?_
   refine a1P (m:=1) [9]<|zz ?_
   refine a1R J ?_
   exact(zG [0,1,3])
  refine zz ?_
  refine a1P (m:=1) [7]<|zz ?_
  refine a1R J ?_
  exact(zG [0,1,3])
 refine zz ?_
 obtain⟨h15,hr⟩:=cutF hr
 refine a1Q rfl h15 ?_
 refine zz ?_
 exact⟨_,_,hr,a1S (a1Z (fr':=[(0,.row none 1 (x22.map (eI .u8))),(2,.ptr 0 0),(5,.ptr 1 0)]) (h1:=[some ⟨263,[eI .i64 0,.row (some true) 1 [],eI .i64 0,eI .i64 0]⟩,some ⟨263,[eI .i64 (a1O.wrap x8),.sl 2 0 0 1 false,eI .i64 0,eI .i64 0]⟩]) 5 (FLe.same rfl (FLe.same rfl (FLe.same rfl FLe.nil))) (HLv.live (V.les_refl _ _) rfl (HLv.live (V.les_cons (V.le_refl _ _) (V.les_cons (V.le_virt rfl) (V.les_cons (V.le_refl _ _) (V.les_cons (V.le_refl _ _) V.les_nil)))) rfl HLv.nil))) (zg' [0,1,2])⟩
instance :CtC 246 false (bC @aGP):=⟨@aGP⟩
theorem aDC {N b r} (hr:aHQ N b=some r):
  Fp 224 [] [.row none 1 (b.map (eI .u8))] (.tup [.sl 0 0 r.1.length 4 true,eI .i64 r.2]) [some ⟨263,r.1.flatMap eW⟩]:=by
 refine bT func224 ntmps224 results224 fun hR=> ?_
 refine zz ?_
 refine a1L<|zz ?_
 refine zk hr ?_ ?_<;>intro h1 hr<;>refine zz ?_
 ·replace hr:=sj hr
  subst hr
  exact zr2 Tryz.results224 fW fW (zW 263 [0])
 refine bW (aIB N) (fun l0=>[(4,.sl 0 0 l0.length 4 true)]) (fun l0=>[some ⟨263,l0.flatMap eW⟩]) ?_
 obtain⟨cN,hL2,hr⟩:=aL hr
 refine a1K<|dH hL2 (fun b_1 aO=>[(0,.row none 1 (b_1.map (eI .u8))),(4,.sl 0 0 aO.length 4 true)]) (fun b_1 aO=>[some ⟨263,aO.flatMap eW⟩]) (h0:=(zW 263 [0])) (round:= ?_)
 intro m2 b_1 aO hr
 refine a1L<|zz ?_
 refine zk hr ?_ ?_<;>clear hr<;>intro h2 hr<;>refine zz ?_
 ·refine a1K ?_
  replace hr:=aL hr
  obtain⟨x16,h_3,hr⟩:=hr
  refine zz ?_
  refine zc (aGP h_3) [] ?_
  refine zz ?_
  refine a1L<|zz ?_
  refine zk hr ?_ ?_<;>clear hr<;>intro h4 hr
  ·refine zz ?_
   replace hr:=sj hr
   subst hr
   replace hr:=sj hr
   subst hr
   exact zr2 Tryz.results224 fW fW (zW 263 [3])
  replace hr:=aL hr
  obtain⟨x26,h_5,hr⟩:=hr
  refine zz ?_
  refine a1X (zqf [1,0,1])<|jU eW 4 [cM.mk x16.1 x16.2.1 x16.2.2.1 x16.2.2.2.1] ?_
  exact zE
 exact zE
instance :CtC 224 false (bC @aDC):=⟨@aDC⟩
theorem aB8 {N l r} (hr:xB N l=some r):
  Fp 225 [] [.row none 4 (l.map kI)] (eB r) []:=by
 refine bT func225 ntmps225 results225 fun hR=> ?_
 refine zz ?_
 refine fY (aHe N) [(3,.row (some true) 1 [])] [] ?_
 obtain⟨cN,hL2,hr⟩:=aL hr
 refine zz ?_
 exact a1K<|gQ hL2 (fun x8=>[(3,.row (some true) 1 []),(6,.row none 4 (l.map kI)),(7,eI .i64 (l.length:Int)),(8,eI .i64 x8)]) (fun x8=>[])
instance :CtC 225 true (bC @aB8):=⟨@aB8⟩
theorem aEG {N vs r} (hr:aBG N vs=some r):
  Fp 226 [] [.row none 1 (vs.map (eL 1 (eI .u8)))] (eB r) []:=by
 refine bT func226 ntmps226 results226 fun hR=> ?_
 refine zz ?_
 refine a1L<|zz ?_
 refine zk hr ?_ ?_<;>intro h1 hr<;>refine zz ?_
 ·exact zE
 refine fY (aKd N) [] [] ?_
 obtain⟨cN,hL2,hr⟩:=aL hr
 refine zz ?_
 exact a1K<|gQ hL2 (fun x10=>[(8,.row none 1 (vs.map (eL 1 (eI .u8)))),(9,eI .i64 (vs.length:Int)),(10,eI .i64 x10)]) (fun x10=>[])
instance :CtC 226 true (bC @aEG):=⟨@aEG⟩
theorem aBJ {N l r} (hr:wX N l=some r):
  Fp 227 [] [.row none 1 (l.map (eL 1 (eI .u8)))] (.sl 0 0 r.length 1 false) [some ⟨22,r.map (eL 1 (eI .u8))⟩]:=by
 refine bT func227 ntmps227 results227 fun hR=> ?_
 obtain⟨x8,h_1,hr⟩:=aL hr
 refine zz ?_
 refine xw (v:=(.sl 0 0 0 1 false)) (h':=[some ⟨22,x8.map (eL 1 (eI .u8))⟩]) (aOu rfl rfl (mkC (E:=(eL 1 (eI .u8))) (y:=([]:List Int)) aMD lI ⟨zl,rfl,rfl⟩ rfl rfl rfl h_1 rfl rfl)) ?_
 refine zz ?_
 refine bW (aG2 N) (fun l0=>[(3,.sl 0 0 l0.length 1 false)]) (fun l0=>[some ⟨22,l0.map (eL 1 (eI .u8))⟩]) ?_
 refine zz ?_
 refine AB.ghost (Ghost.cutM (t:=3) (E:=(eL 1 (eI .u8))) (l:=x8) (x:=[]) (h':=[some ⟨22,[].map (eL 1 (eI .u8))⟩]) rfl rfl a0n rfl) ?_
 obtain⟨cN,hL2,hr⟩:=aL hr
 refine a1K<|dH hL2 (fun x11 aO=>[(3,.sl 0 0 aO.length 1 false),(9,.row none 1 (l.map (eL 1 (eI .u8)))),(10,eI .i64 (l.length:Int)),(11,eI .i64 x11)]) (fun x11 aO=>[some ⟨22,aO.map (eL 1 (eI .u8))⟩]) (round:= ?_)
 intro m2 x11 aO hr
 refine zz ?_
 refine a1L ?_
 refine zk hr ?_ ?_<;>clear hr<;>intro h2 hr<;>refine zz ?_
 ·refine a1L<|a1K ?_
  replace hr:=fK hr
  obtain⟨x13,h_3,x18,h_4,x20,h_5,hr⟩:=hr
  refine zz ?_
  refine kY (qN h_4) [] [1] ?_
  refine a1X (zv 2) ?_
  exact zE
 exact zE
instance :CtC 227 false (bC @aBJ):=⟨@aBJ⟩
theorem aHk {N l r} (hr:aGL N l=some r):
  Fp 228 [] [.row none 2 (l.map aGw)] (eB r) []:=by
 refine bT func228 ntmps228 results228 fun hR=> ?_
 unfold aGL at hr
 refine zz ?_
 refine bW (vX N) (fun x2=>[(2,eB x2)]) (fun x2=>[]) ?_
 exact zE
instance :CtC 228 true (bC @aHk):=⟨@aHk⟩
theorem aIJ {N o r} (hr:aMe N o=some r):
  Fp 229 [] [kI o] (eI .i64 r) []:=
 fV func229 ntmps229 results229
instance :CtC 229 true (bC @aIJ):=⟨@aIJ⟩
theorem aII {N o r} (hr:aL5 N o=some r):
  Fp 230 [] [kI o] (eI .i64 r) []:=by
 refine bT func230 ntmps230 results230 fun hR=> ?_
 refine zz ?_
 refine a1L<|zz ?_
 refine a1K<|a1L ?_
 refine zz ?_
 obtain⟨h1,hr⟩:=cutF hr
 refine a1Q rfl h1 ?_
 refine zz ?_
 obtain⟨h2,hr⟩:=cutF hr
 refine a1Q rfl h2 ?_
 refine zz ?_
 obtain⟨h3,hr⟩:=cutF hr
 refine a1Q rfl h3 ?_
 refine zz ?_
 obtain⟨h4,hr⟩:=cutF hr
 refine a1Q rfl h4 ?_
 refine zz ?_
 obtain⟨h5,hr⟩:=cutF hr
 refine a1Q rfl h5 ?_
 refine zz ?_
 obtain⟨h6,hr⟩:=cutF hr
 refine a1Q rfl h6 ?_
 refine zz ?_
 obtain⟨h7,hr⟩:=cutF hr
 refine a1Q rfl h7 ?_
 refine zz ?_
 obtain⟨h8,hr⟩:=cutF hr
 refine a1Q rfl h8 ?_
 refine zz ?_
 obtain⟨h9,hr⟩:=cutF hr
 refine a1Q rfl h9 ?_
 refine bW (aCX N o) (fun x15=>[(1,.ptr 0 0),(4,eI .i64 o.Code),(15,eB x15)]) (fun x15=>[some ⟨263,eW o⟩]) ?_
 exact zE
instance :CtC 230 true (bC @aII):=⟨@aII⟩
theorem aJ4 {N b r} (hr:aCb N b=some r):
  Fp 186 [] [.row none 1 (b.map (eI .u8))] (eB r) []:=by
 refine bT func186 ntmps186 results186 fun hR=> ?_
 refine zz ?_
 refine fY (aJX N) [] [] ?_
 obtain⟨cN,hL2,hr⟩:=aL hr
 refine zz ?_
 exact a1K<|gQ hL2 (fun x7=>[(5,.row none 1 (b.map (eI .u8))),(6,eI .i64 (b.length:Int)),(7,eI .i64 x7)]) (fun x7=>[])
instance :CtC 186 true (bC @aJ4):=⟨@aJ4⟩
theorem aG7 {N vs nC r} (hr:aKo N vs nC=some r):
  Fp 247 [] [.row none 1 (vs.map (eL 1 (eI .u8))),.row none 1 (nC.map (eI .u8))] (.tup [.sl 0 0 r.1.length 1 false,eI .i64 r.2]) [some ⟨22,r.1.map (eL 1 (eI .u8))⟩]:=by
 refine bT func247 ntmps247 results247 fun hR=> ?_
 refine zz ?_
 refine a1L<|zz ?_
 refine zk hr ?_ ?_<;>intro h1 hr
 ·refine zz ?_
  replace hr:=sj hr
  subst hr
  exact zr2 Tryz.results247 fW fW (zW 22 [0])
 exact zE
instance :CtC 247 false (bC @aG7):=⟨@aG7⟩
theorem aER {N va b r} (hr:q9 N va b=some r):
  Fp 56 [] [.row none 1 (va.map (eI .u8)),.row none 1 (b.map (eI .u8))] (eB r) []:=by
 refine bT func56 ntmps56 results56 fun hR=> ?_
 refine zz ?_
 refine xw (v:=(eS (iL va))) (aGd rfl (aLy lI ti9 mF (aHS (fun _=>rfl)))) ?_
 refine zz ?_
 refine xw (v:=(eS (iL b))) (aGd rfl (aLy lI ti9 mF (aHS (fun _=>rfl))))<|xw (gA rfl rfl (aRj ..)) ?_
 exact zE
instance :CtC 56 true (bC @aER):=⟨@aER⟩
theorem aJ1 {N vn r} (hr:aJn N vn=some r):
  Fp 249 [] [eI .u32 vn] (.sl 0 0 r.length 1 false) [some ⟨5,r.map (eI .u8)⟩]:=by
 refine bT func249 ntmps249 results249 fun hR=> ?_
 refine zz ?_
 refine bW (aKg N) (fun l0=>[(3,.sl 0 0 l0.length 1 false)]) (fun l0=>[some ⟨5,l0.map (eI .u8)⟩]) ?_
 obtain⟨cN,hL2,hr⟩:=aL hr
 exact a1K<|dH hL2 (fun vn_1 aO=>[(0,eI .u32 vn_1),(3,.sl 0 0 aO.length 1 false)]) (fun vn_1 aO=>[some ⟨5,aO.map (eI .u8)⟩]) (h0:=(zW 5 [0]))
instance :CtC 249 false (bC @aJ1):=⟨@aJ1⟩
theorem aIC {N b r} (hr:aDZ N b=some r):
  Fp 248 [] [eB b] (.row none 1 (r.map (eI .u8))) []:=
 fV func248 ntmps248 results248
instance :CtC 248 true (bC @aIC):=⟨@aIC⟩
theorem aKa {N o vs v r} (hr:aCk N o vs v=some r):
  Fp 231 [] [kI o,.row none 1 (vs.map (eL 1 (eI .u8))),aEk v] (.tup [.row none 1 (r.1.map (eL 1 (eI .u8))),eI .i64 r.2]) []:=by
 refine bT func231 ntmps231 results231 fun hR=> ?_
 refine zz ?_
 refine a1L<|zz ?_
 refine a1K ?_
 refine zz ?_
 refine zk hr ?_ ?_<;>intro h1 hr
 ·obtain⟨x25,h_2,x26,h_3,hr⟩:=cE hr
  refine zz ?_
  refine kY (qN h_2) [] [2] ?_
  refine a1X (zv 3) ?_
  exact zE
 exact zE
instance :CtC 231 true (bC @aKa):=⟨@aKa⟩
theorem aKQ {N b stack v r} (hr:yB N b stack v=some r):
  Fp 185 [] [.row none 1 (b.map (eI .u8)),.row none 1 (stack.map (eL 1 (eI .u8))),aEk v] (.tup [.row none 1 (r.1.map (eL 1 (eI .u8))),eI .i64 r.2.1,eI .i64 r.2.2]) []:=by
 refine bT func185 ntmps185 results185 fun hR=> ?_
 obtain⟨x20,h_1,hr⟩:=aL hr
 refine zz ?_
 refine zc (aDC h_1) [] ?_
 refine zz ?_
 refine a1L<|zz ?_
 obtain⟨h2,hr⟩:=cutF hr
 refine a1Q rfl h2 ?_
 refine zz ?_
 obtain⟨x27,h_3,hr⟩:=aL hr
 refine a1L<|zz ?_
 refine kY (aB8 h_3) [] [1] ?_
 refine zz ?_
 obtain⟨h4,hr⟩:=cutF hr
 refine a1Q rfl h4 ?_
 refine zz ?_
 obtain⟨x30,h_5,hr⟩:=aL hr
 refine a1L<|zz ?_
 refine xp (aEG h_5) ?_
 refine zz ?_
 obtain⟨h6,hr⟩:=cutF hr
 refine a1Q rfl h6 ?_
 obtain⟨x32,h_7,hr⟩:=aL hr
 refine zz ?_
 refine zc (aBJ h_7) [] ?_
 refine zz ?_
 refine sk2 (aKM N) (fun vs cost=>[(11,.row none 1 (vs.map (eL 1 (eI .u8)))),(12,eI .i64 cost)]) (fun vs cost=>[]) ?_
 refine zz ?_
 refine AB.ghost (zv 2) ?_
 obtain⟨cN,hL2,hr⟩:=aL hr
 refine a1K<|lp3 hL2 (fun sZ cost_1 x35=>[(5,.ptr 0 0),(11,.row none 1 (sZ.map (eL 1 (eI .u8)))),(12,eI .i64 cost_1),(13,.row (some true) 1 []),(33,.sl 1 0 x20.1.length 4 true),(34,eI .i64 (x20.1.length:Int)),(35,eI .i64 x35)]) (fun sZ cost_1 x35=>[some ⟨191,aBd v⟩,some ⟨263,x20.1.flatMap eW⟩]) (round:= ?_)
 intro m2 sZ cost_1 x35 hr
 refine zz ?_
 refine a1L ?_
 refine zk hr ?_ ?_<;>clear hr<;>intro h8 hr<;>refine zz ?_
 ·refine a1L<|a1K ?_
  replace hr:=aL hr
  obtain⟨x37,h_9,hr⟩:=hr
  refine zz ?_
  refine xw (v:=(kI x37)) (b8 rfl (rV (C:=eW) (K:=4) (fun _=>rfl) rfl h_9 (mU (ds:=[eI .i64 x37.Code,.row none 1 (x37.Data.map (eI .u8)),eI .i64 x37.M,eI .i64 x37.N]) aGX rfl zl rfl))) ?_
  exact zE
 exact zE
instance :CtC 185 true (bC @aKQ):=⟨@aKQ⟩
theorem yC {N b bI v r} (hr:fO N b bI v=some r):
  Fp 137 [] [.row none 1 (b.map (eI .u8)),.row none 1 (bI.map (eL 1 (eI .u8))),aEk v] (eI .i64 r) []:=
 fV func137 ntmps137 results137
instance :CtC 137 true (bC @yC):=⟨@yC⟩
theorem aIA {N t vi c height r} (hr:vE N t vi c height=some r):
  Fp 87 [] [aZ t,eI .i64 vi,aP c,eI .i64 height] (eI .i64 r) []:=by
 refine bT func87 ntmps87 results87 fun hR=> ?_
 obtain⟨x16,h_1,q,h_2,hr⟩:=cE hr
 refine zz ?_
 refine xp (aAT h_1) ?_
 refine zz ?_
 refine a1L<|zz ?_
 refine zk hr ?_ ?_<;>intro h3 hr<;>refine zz ?_
 ·exact zE
 refine a1L<|a1L ?_
 obtain⟨x25,h_4,hr⟩:=aL hr
 refine a1U mixed [] [] [[0,1,2,3,4,5,6,7,8]]<|zz ?_
 refine xw (v:=(eB (!(iU x25.Prev.Tx c.Out.Tx ((x25.Prev.Index == c.Out.Index)&&true))))) (gA rfl rfl (aJu (d:=9) jL rfl aAQ zl aDk rfl rfl rfl rfl rfl)) ?_
 refine zz ?_
 refine zk hr ?_ ?_<;>intro h5 hr<;>refine zz ?_
 ·exact zE
 refine a1L ?_
 refine bW (jT N t vi c height x16) (fun x43=>[(1,eI .i64 vi),(3,eI .i64 height),(4,.ptr 0 0),(6,.ptr 1 0),(9,.ptr 2 0),(43,eB x43)]) (fun x43=>[some ⟨91,aQ t⟩,some ⟨80,aH c⟩,some ⟨26,x16.1.map (eI .u8)⟩]) ?_ (body:= ?_)
 rotate_left
 ·clear hr
  intro x43 hr
  refine zk hr ?_ ?_<;>intro h6 hr<;>refine zz ?_
  ·exact zE
  refine a1L ?_
  obtain⟨x50,h_7,x60,h_8,hr⟩:=cE hr
  refine a1U mixed [137] [] [[0,1,2,3,4,5,6,7,8,9,10,11,12,13,14,15,16,17]]<|zz ?_
  refine xw (v:=(.agg (aN (eI .u8) x16.1 [eI .i64 height,eI .i64 (a1O.wrap (height-c.Height))]))) (cS rfl (aJF (ps':=[(0,.agg (aN (eI .u8) x16.1 [])),(1,eI .i64 height),(2,eI .i64 (a1O.wrap (height-c.Height)))]) (by simp only[dJ (l:=x16.1) (aU h_2)]<;>rfl) (jC aE9 aPZ (by kernel_rfl))))<|xu (yC h_8) ?_
  exact zE
 exact zE
instance :CtC 87 true (bC @aIA):=⟨@aIA⟩
theorem aCS {N t l height r} (hr:kD N t l height=some r):
  Fp 47 [] [aZ t,.row none 37 (l.map aP),eI .i64 height] (.tup [eI .i64 r.1,eI .i64 r.2]) []:=by
 refine bT func47 ntmps47 results47 fun hR=> ?_
 refine zz ?_
 obtain⟨x13,h_1,hr⟩:=aL hr
 refine a1L<|zz ?_
 refine xp (nK h_1) ?_
 refine zz ?_
 refine zk hr ?_ ?_<;>intro h2 hr
 ·exact zE
 obtain⟨x17,h_3,hr⟩:=aL hr
 refine zz ?_
 refine xp (aFR h_3) ?_
 refine zz ?_
 refine a1L<|zz ?_
 refine zk hr ?_ ?_<;>intro h4 hr<;>refine zz ?_
 ·exact zE
 obtain⟨x25,h_5,hr⟩:=aL hr
 refine a1L<|zz ?_
 refine xp (aDw h_5) ?_
 refine zz ?_
 refine zk hr ?_ ?_<;>intro h6 hr<;>refine zz ?_
 ·exact zE
 refine fY (aId N x17) [(8,eI .i64 x17.1)] [] ?_
 obtain⟨cN,hL2,hr⟩:=aL hr
 refine zz ?_
 exact a1K<|gQ hL2 (fun x29=>[(1,.row none 37 (l.map aP)),(2,eI .i64 height),(3,.ptr 0 0),(8,eI .i64 x17.1),(28,eI .i64 (l.length:Int)),(29,eI .i64 x29)]) (fun x29=>[some ⟨91,aQ t⟩])
instance :CtC 47 true (bC @aCS):=⟨@aCS⟩
theorem aAZ {N l vi r} (hr:aAD N l vi=some r):
  Fp 48 [] [.row none 37 (l.map aP),eI .i64 vi] (.sl 0 0 r.length 37 true) [some ⟨80,r.flatMap aH⟩]:=
 fV func48 ntmps48 results48
instance :CtC 48 false (bC @aAZ):=⟨@aAZ⟩
theorem pT {N t height r} (hr:qM N t height=some r):
  Fp 52 [] [aZ t,eI .i64 height] (.sl 0 0 r.length 37 true) [some ⟨80,r.flatMap aH⟩]:=by
 refine bT func52 ntmps52 results52 fun hR=> ?_
 obtain⟨x10,h_1,q,h_2,hr⟩:=cE hr
 refine zz ?_
 refine xp (aAk h_1) ?_
 refine zz ?_
 refine bW (aA0 N) (fun l0=>[(5,.sl 0 0 l0.length 37 true)]) (fun l0=>[some ⟨80,l0.flatMap aH⟩]) ?_
 obtain⟨cN,hL2,hr⟩:=aL hr
 refine zz ?_
 refine a1K<|dH hL2 (fun x14 l1=>[(1,eI .i64 height),(2,.ptr 0 0),(5,.sl 1 0 l1.length 37 true),(6,.ptr 2 0),(12,.row none 2 (t.Outputs.map b7)),(13,eI .i64 (t.Outputs.length:Int)),(14,eI .i64 x14)]) (fun x14 l1=>[some ⟨91,aQ t⟩,some ⟨80,l1.flatMap aH⟩,some ⟨26,x10.map (eI .u8)⟩]) (h0:=(zW 80 [0,2,1])) (round:= ?_)
 intro m2 x14 l1 hr
 refine zz ?_
 refine a1L ?_
 refine zk hr ?_ ?_<;>clear hr<;>intro h3 hr<;>refine zz ?_
 ·refine a1L<|a1K ?_
  replace hr:=fK hr
  obtain⟨x17,h_4,x27,h_5,x30,h_7,hr⟩:=hr
  refine zz ?_
  refine a1U mixed [85] [] [[0,1,2,3,4,5,6,7,8,9,10,11,12]]<|zz ?_
  refine xw (v:=(.agg (aN (eI .u8) x10 [eI .u32 (a1T.wrap x14)]))) (cS rfl (aJF (ps':=[(0,.agg (aN (eI .u8) x10 [])),(1,eI .u32 (a1T.wrap x14))]) (by simp only[dJ (l:=x10) (aU h_2)]<;>rfl) (jC jL aJx (by kernel_rfl)))) ?_
  refine zz ?_
  refine xu (nK h_5)<|xw (v:=(.agg (aN (eI .u8) x10 [eI .u32 (a1T.wrap x14),eI .i64 x17.Value,.row none 1 (x17.Script.map (eI .u8)),eI .i64 height,eB x27]))) (cS rfl (jC rP aRx rfl))<|jU aH 37 [aA.mk (aD.mk x10 (a1T.wrap x14)) x17 height x27] ?_
  exact zE
 exact zE
instance :CtC 52 false (bC @pT):=⟨@pT⟩
theorem aET {N l c r} (hr:y4 N l c=some r):
  Fp 88 [] [.row none 37 (l.map aP),aP c] (.sl 0 0 r.length 37 true) [some ⟨80,r.flatMap aH⟩]:=by
 refine bT func88 ntmps88 results88 fun hR=> ?_
 refine zz ?_
 refine bW (aEV N l c) (fun l1=>[(0,.row none 37 (l.map aP)),(3,.ptr 0 0),(5,.sl 1 0 l1.length 37 true)]) (fun l1=>[some ⟨80,aH c⟩,some ⟨80,l1.flatMap aH⟩]) ?_ (body:= ?_)
 rotate_left
 ·clear hr
  intro l1 hr
  refine a1L ?_
  obtain⟨x31,h_1,x33,h_3,x37,h_4,x38,h_5,hr⟩:=aA4 hr
  refine AB.rd (cA [57]) (cA []) mixed<|a1P (m:=5) [0,1,2,3,5,6] ?_
  refine zz ?_
  refine xu (r9 h_1)<|jU aH 37 [x31] ?_
  refine zz ?_
  refine a1Y (m:=2) (L:=lst [0,1,2,3,4,5,6,7,8] 11) (s1:=aG 39 [(33,.sl 0 0 x33.length 37 true),(37,.row none 37 (x37.map aP))]) (h1:=[some ⟨80,x33.flatMap aH⟩]) ?_ (fun J=> ?_)
  ·refine a1P (m:=0) [9,10]<|zz ?_
   refine a1V (by decide +kernel) ?_
   exact zE
  refine a1W (n:=4) [4,7] ⟨?_, ?_,trivial⟩
  ·refine zz ?_
   refine a1P (m:=2) [7,8]<|zz ?_
   refine a1R J ?_
   exact(zG [3])
  refine zz ?_
  refine a1W (n:=3) [4,8] ⟨?_, ?_,trivial⟩
  ·refine zz ?_
   refine a1P (m:=2) [8]<|zz ?_
   refine a1R J ?_
   exact(zG [3])
  refine zz ?_
  refine a1P (m:=2) [4]<|zz ?_
  refine a1R J ?_
  exact(zG [3])
 obtain⟨cN,hL2,hr⟩:=aL hr
 refine zz ?_
 refine a1K<|dH hL2 (fun x9 bL=>[(0,.row none 37 (l.map aP)),(3,.ptr 0 0),(5,.sl 1 0 bL.length 37 true),(8,eI .i64 (l.length:Int)),(9,eI .i64 x9)]) (fun x9 bL=>[some ⟨80,aH c⟩,some ⟨80,bL.flatMap aH⟩]) (h0:=(zW 80 [0,1])) (round:= ?_)
 intro m2 x9 bL hr
 refine zz ?_
 refine a1L ?_
 refine zk hr ?_ ?_<;>clear hr<;>intro h6 hr<;>refine zz ?_
 ·refine bW (aAJ N l c x9 (nH N l c m2)) (fun cL=>[(0,.row none 37 (l.map aP)),(3,.ptr 0 0),(5,.sl 1 0 cL.length 37 true),(8,eI .i64 (l.length:Int)),(9,eI .i64 x9)]) (fun cL=>[some ⟨80,aH c⟩,some ⟨80,cL.flatMap aH⟩]) ?_
  refine a1K ?_
  refine zz ?_
  refine a1L ?_
  replace hr:=cE hr
  obtain⟨x14,h_7,x19,h_8,hr⟩:=hr
  refine a1U mixed [104] [] [[0,1,2,3,4,5,6,7,8]]<|zz ?_
  refine xu (tX h_8) ?_
  refine zz ?_
  refine zk hr ?_ ?_<;>clear hr<;>intro h10 hr
  ·replace hr:=aL hr
   obtain⟨x27,h_11,hr⟩:=hr
   refine zz ?_
   refine jU aH 37 [x14] ?_
   exact zE
  exact zE
 exact zE
instance :CtC 88 false (bC @aET):=⟨@aET⟩
theorem aLg {N l t height r} (hr:aD8 N l t height=some r):
  Fp 50 [] [.row none 37 (l.map aP),aZ t,eI .i64 height] (.tup [.row none 37 (r.1.map aP),eI .i64 r.2]) []:=by
 refine bT func50 ntmps50 results50 fun hR=> ?_
 refine zz ?_
 refine fY (aBV N l t height) [(0,.row none 37 (l.map aP)),(2,eI .i64 height),(4,.ptr 0 0)] [some ⟨91,aQ t⟩] ?_ (body:= ?_)
 rotate_left
 ·clear hr
  intro hr
  refine bW (aLx N) (fun l_1=>[(0,.row none 37 (l_1.map aP))]) (fun l_1=>[]) ?_
  obtain⟨x28,h_1,hr⟩:=aL hr
  refine zz ?_
  refine zc (pT h_1) [] ?_
  obtain⟨aBW,hL3,hr⟩:=aL hr
  refine zz ?_
  refine a1K<|dH hL3 (fun l_2 x30=>[(0,.row none 37 (l_2.map aP)),(28,.sl 0 0 x28.length 37 true),(29,eI .i64 (x28.length:Int)),(30,eI .i64 x30)]) (fun l_2 x30=>[some ⟨80,x28.flatMap aH⟩]) (round:= ?_)
  intro m3 l_2 x30 hr
  refine zz ?_
  refine a1L ?_
  refine zk hr ?_ ?_<;>clear hr<;>intro h2 hr<;>refine zz ?_
  ·refine a1L<|a1K ?_
   replace hr:=aL hr
   obtain⟨x32,h_3,hr⟩:=hr
   refine zz ?_
   refine xw (v:=(aP x32)) (b8 rfl (rV (C:=aH) (K:=37) (fun _=>rfl) rfl h_3 (mU (ds:=(aN (eI .u8) x32.Out.Tx [eI .u32 x32.Out.Index,eI .i64 x32.Output.Value,.row none 1 (x32.Output.Script.map (eI .u8)),eI .i64 x32.Height,eB x32.Coinbase])) rP rfl zl rfl))) ?_
   replace hr:=aL hr
   obtain⟨x36,h_4,hr⟩:=hr
   refine zz ?_
   refine zc (aET h_4) [] ?_
   refine zz ?_
   exact⟨_,_,hr,a1S (zv 2) (zG [0])⟩
  exact zE
 obtain⟨x14,h_5,hr⟩:=aL hr
 refine zz ?_
 refine zc (pT h_5) [] ?_
 obtain⟨res4,hL4,hr⟩:=aL hr
 refine zz ?_
 refine a1K<|gQ hL4 (fun x16=>[(0,.row none 37 (l.map aP)),(2,eI .i64 height),(4,.ptr 0 0),(14,.sl 1 0 x14.length 37 true),(15,eI .i64 (x14.length:Int)),(16,eI .i64 x16)]) (fun x16=>[some ⟨91,aQ t⟩,some ⟨80,x14.flatMap aH⟩]) (round:= ?_)
 intro m4 x16 hr
 refine zz ?_
 refine a1L ?_
 refine zk hr ?_ ?_<;>clear hr<;>intro h6 hr<;>refine zz ?_
 ·refine a1L<|a1K ?_
  replace hr:=aL hr
  obtain⟨x18,h_7,hr⟩:=hr
  refine zz ?_
  refine xw (v:=(aP x18)) (b8 rfl (rV (C:=aH) (K:=37) (fun _=>rfl) rfl h_7 (mU (ds:=(aN (eI .u8) x18.Out.Tx [eI .u32 x18.Out.Index,eI .i64 x18.Output.Value,.row none 1 (x18.Output.Script.map (eI .u8)),eI .i64 x18.Height,eB x18.Coinbase])) rP rfl zl rfl))) ?_
  exact zE
 exact zE
instance :CtC 50 true (bC @aLg):=⟨@aLg⟩
theorem yT {N l r} (hr:vC N l=some r):
  Fp 51 [] [.row none 37 (l.map aP)] (eI .i64 r) []:=by
 refine bT func51 ntmps51 results51 fun hR=> ?_
 refine zz ?_
 refine bW (aIj N) (fun sum=>[(3,eI .i64 sum)]) (fun sum=>[]) ?_
 obtain⟨cN,hL2,hr⟩:=aL hr
 refine zz ?_
 exact a1K<|dH hL2 (fun gB x8=>[(3,eI .i64 gB),(6,.row none 37 (l.map aP)),(7,eI .i64 (l.length:Int)),(8,eI .i64 x8)]) (fun gB x8=>[])
instance :CtC 51 true (bC @yT):=⟨@yT⟩
theorem uA {N p l b r} (hr:qL N p l b=some r):
  Fp 13 [] [cU p,dD l,dZ b] (.tup [dD r.1,aJw r.2.1,eI .i64 r.2.2]) []:=by
 refine bT func13 ntmps13 results13 fun hR=> ?_
 refine zz ?_
 obtain⟨x25,h_1,hr⟩:=aL hr
 refine a1L<|zz ?_
 refine xp (aDf h_1) ?_
 refine zz ?_
 refine zk hr ?_ ?_<;>intro h2 hr<;>refine zz ?_
 ·exact zE
 refine a1L ?_
 obtain⟨x36,h_3,q,h_5,hr⟩:=cE hr
 refine AB.rd (cA [45]) (cA []) mixed<|a1P (m:=4) [0,1,2,3,4,5,6,7,8,9] ?_
 refine zz ?_
 refine xu (aAK h_3) ?_
 refine zz ?_
 refine xw (v:=(.agg ((eI .i64 (a1O.wrap (l.Height+1)))::(aN (eI .u8) x36 [.row none 37 (l.Coins.map aP)])))) (cS rfl (aJF (ps':=[(0,eI .i64 (a1O.wrap (l.Height+1))),(1,.agg (aN (eI .u8) x36 [])),(2,.row none 37 (l.Coins.map aP))]) (by simp only[dJ (l:=x36) (aU h_5)]<;>rfl) (jC aJl aS3 (by kernel_rfl)))) ?_
 refine zz ?_
 refine a1Y (m:=1) (L:=lst [0,1,2,3,4,5,6,7,8,9,10,11,12] 14) (s1:=aG 153 [(3,.ptr 0 0),(5,.ptr 1 0),(6,.ptr 2 0),(7,.ptr 3 0),(10,.ptr 4 0),(11,.ptr 5 0),(40,.agg [.row (some true) 1 []])]) (h1:=[some ⟨34,bG p⟩,some ⟨47,aY b⟩,some ⟨44,(eI .i64 0)::(aN (eI .u8) (a1M 32 0) [.row (some true) 1 []])⟩,some ⟨54,[.row (some true) 1 []]⟩,some ⟨44,(eI .i64 (a1O.wrap (l.Height+1)))::(aN (eI .u8) x36 [.row none 37 (l.Coins.map aP)])⟩,some ⟨54,[.row (some true) 1 []]⟩]) ?_ (fun J=> ?_)
 ·refine a1P (m:=0) [13]<|zz ?_
  refine a1V (by decide +kernel) ?_
  obtain⟨x44,h_6,hr⟩:=aL hr
  refine zz ?_
  refine xp (pW h_6) ?_
  refine zz ?_
  refine sk3 (uM N l b x36) (fun most c3 l5=>[(5,.ptr 0 0),(6,.ptr 1 0),(7,.ptr 2 0),(10,.ptr 3 0),(11,.ptr 4 0),(12,eI .i64 most)]) (fun most c3 l5=>[some ⟨47,aY b⟩,some ⟨44,(eI .i64 0)::(aN (eI .u8) (a1M 32 0) [.row (some true) 1 []])⟩,some ⟨54,[.row (some true) 1 []]⟩,some ⟨44,(eI .i64 (a1O.wrap (l.Height+1)))::(aN (eI .u8) x36 [.row none 37 (c3.map aP)])⟩,some ⟨54,[.sl 5 0 l5.length 37 true]⟩,some ⟨80,l5.flatMap aH⟩]) ?_ (body:= ?_)
  rotate_left
  ·clear hr
   intro most c3 l5 hr
   refine a1L<|a1K<|a1L ?_
   obtain⟨aZI,h_7,aZc,h_8,aY9,h_10,hr⟩:=fK hr
   refine a1U mixed [] [51,52] [[0,1,2,3,4,5,6,7,8,9,10]]<|zz ?_
   refine zg (pT h_8) [] ?_
   refine xZ (yT h_10) [] [6] ?_
   refine zz ?_
   refine zk hr ?_ ?_<;>intro h12 hr
   ·exact zE
   obtain⟨aYo,h_13,hr⟩:=aL hr
   refine zz ?_
   refine xp (yT h_13) ?_
   refine zz ?_
   refine zk hr ?_ ?_<;>intro h14 hr<;>refine zz ?_
   ·exact zE
   refine zk hr ?_ ?_<;>intro h15 hr<;>refine zz ?_
   ·exact zE
   refine a1L<|AB.rd (cA []) (cA []) mixed<|a1P (m:=4) [0] ?_
   refine zz ?_
   refine a1Y (m:=2) (L:=lst [0,1,2] 5) (s1:=aG 153 [(6,.ptr 0 0),(7,.ptr 1 0),(152,.agg [.sl 2 0 l5.length 37 true])]) (h1:=[some ⟨44,(eI .i64 (a1O.wrap (l.Height+1)))::(aN (eI .u8) x36 [.row none 37 (c3.map aP)])⟩,some ⟨54,[.row (some true) 1 []]⟩,some ⟨80,l5.flatMap aH⟩]) ?_ (fun J=> ?_)
   ·refine a1P (m:=0) [3,4]<|zz ?_
    refine a1V (by decide +kernel) ?_
    exact zE
   refine a1W (n:=3) [1,2] ⟨?_, ?_,trivial⟩
   ·refine zz ?_
    refine a1P (m:=2) [2]<|zz ?_
    refine a1R J ?_
    exact(zG [1,2,5])
   refine zz ?_
   refine a1P (m:=2) [1]<|zz ?_
   refine a1R J ?_
   exact(zG [1,2,5])
  obtain⟨cN,hL2,hr⟩:=aL hr
  refine zz ?_
  refine a1K<|lp4 hL2 (fun oY x48 c4 l6=>[(3,.ptr 0 0),(5,.ptr 1 0),(6,.ptr 2 0),(7,.ptr 3 0),(10,.ptr 4 0),(11,.ptr 5 0),(12,eI .i64 oY),(46,.row none 4 (b.Txs.map aZ)),(47,eI .i64 (b.Txs.length:Int)),(48,eI .i64 x48)]) (fun oY x48 c4 l6=>[some ⟨34,bG p⟩,some ⟨47,aY b⟩,some ⟨44,(eI .i64 0)::(aN (eI .u8) (a1M 32 0) [.row (some true) 1 []])⟩,some ⟨54,[.row (some true) 1 []]⟩,some ⟨44,(eI .i64 (a1O.wrap (l.Height+1)))::(aN (eI .u8) x36 [.row none 37 (c4.map aP)])⟩,some ⟨54,[.sl 6 0 l6.length 37 true]⟩,some ⟨80,l6.flatMap aH⟩]) (h0:=(a1S (a1Z (fr':=[(3,.ptr 0 0),(5,.ptr 1 0),(6,.ptr 2 0),(7,.ptr 3 0),(10,.ptr 4 0),(11,.ptr 5 0),(12,eI .i64 x44),(46,.row none 4 (b.Txs.map aZ)),(47,eI .i64 (b.Txs.length:Int)),(48,eI .i64 0)]) (h1:=[some ⟨34,bG p⟩,some ⟨47,aY b⟩,some ⟨44,(eI .i64 0)::(aN (eI .u8) (a1M 32 0) [.row (some true) 1 []])⟩,some ⟨54,[.row (some true) 1 []]⟩,some ⟨44,(eI .i64 (a1O.wrap (l.Height+1)))::(aN (eI .u8) x36 [.row none 37 (l.Coins.map aP)])⟩,some ⟨54,[.sl 6 0 0 37 true]⟩]) 80 (FLe.same rfl (FLe.same rfl (FLe.same rfl (FLe.same rfl (FLe.same rfl (FLe.same rfl (FLe.same rfl (FLe.same rfl (FLe.same rfl (FLe.same rfl FLe.nil)))))))))) (HLv.live (V.les_refl _ _) rfl (HLv.live (V.les_refl _ _) rfl (HLv.live (V.les_refl _ _) rfl (HLv.live (V.les_refl _ _) rfl (HLv.live (V.les_refl _ _) rfl (HLv.live (V.les_cons (V.le_virt rfl) V.les_nil) rfl HLv.nil))))))) (zg' [0,1,2,3,4,5,6]))) (round:= ?_)
  intro m2 oY x48 c4 l6 hr
  refine zz ?_
  refine a1L ?_
  refine zk hr ?_ ?_<;>clear hr<;>intro h16 hr<;>refine zz ?_
  ·refine a1L<|a1K ?_
   replace hr:=aL hr
   obtain⟨x51,h_17,hr⟩:=hr
   refine zz ?_
   refine sk3 (pR N p l b x36 x48 x51 (iA N p l b x36 m2)) (fun aNO aEt l7=>[(3,.ptr 0 0),(5,.ptr 1 0),(6,.ptr 2 0),(7,.ptr 3 0),(10,.ptr 4 0),(11,.ptr 5 0),(12,eI .i64 aNO),(14,.ptr 6 0),(46,.row none 4 (b.Txs.map aZ)),(47,eI .i64 (b.Txs.length:Int)),(48,eI .i64 x48)]) (fun aNO aEt l7=>[some ⟨34,bG p⟩,some ⟨47,aY b⟩,some ⟨44,(eI .i64 0)::(aN (eI .u8) (a1M 32 0) [.row (some true) 1 []])⟩,some ⟨54,[.row (some true) 1 []]⟩,some ⟨44,(eI .i64 (a1O.wrap (l.Height+1)))::(aN (eI .u8) x36 [.row none 37 (aEt.map aP)])⟩,some ⟨54,[.sl 7 0 l7.length 37 true]⟩,some ⟨91,aQ x51⟩,some ⟨80,l7.flatMap aH⟩]) ?_
   refine zz ?_
   refine zk hr ?_ ?_<;>clear hr<;>intro h20 hr
   ·replace hr:=aL hr
    obtain⟨x62,h_21,hr⟩:=hr
    refine zz ?_
    refine zc (aDo h_21) [] ?_
    refine zz ?_
    refine a1L<|zz ?_
    refine zk hr ?_ ?_<;>clear hr<;>intro h22 hr
    ·exact zE
    replace hr:=aL hr
    obtain⟨x75,h_23,hr⟩:=hr
    refine zz ?_
    refine kY (aCS h_23) [] [8] ?_
    refine zz ?_
    refine a1L<|zz ?_
    refine zk hr ?_ ?_<;>clear hr<;>intro h24 hr<;>refine zz ?_
    ·exact zE
    refine bW (aA9 N p l b x36 oY x48 l6 x51 x62 x75 (iA N p l b x36 m2)) (fun aHR=>[(3,.ptr 0 0),(5,.ptr 1 0),(6,.ptr 2 0),(7,.ptr 3 0),(10,.ptr 4 0),(11,.ptr 5 0),(12,eI .i64 oY),(14,.ptr 6 0),(15,.sl 7 0 x62.1.length 37 true),(17,eI .i64 x75.1),(46,.row none 4 (b.Txs.map aZ)),(47,eI .i64 (b.Txs.length:Int)),(48,eI .i64 x48)]) (fun aHR=>[some ⟨34,bG p⟩,some ⟨47,aY b⟩,some ⟨44,(eI .i64 0)::(aN (eI .u8) (a1M 32 0) [.row (some true) 1 []])⟩,some ⟨54,[.row (some true) 1 []]⟩,some ⟨44,(eI .i64 (a1O.wrap (l.Height+1)))::(aN (eI .u8) x36 [.row none 37 (aHR.map aP)])⟩,some ⟨54,[.sl 8 0 l6.length 37 true]⟩,some ⟨91,aQ x51⟩,some ⟨80,x62.1.flatMap aH⟩,some ⟨80,l6.flatMap aH⟩]) ?_
    replace hr:=aL hr
    obtain⟨res5,hL5,hr⟩:=hr
    refine zz ?_
    refine a1K<|dH hL5 (fun x85 c4_3=>[(3,.ptr 0 0),(5,.ptr 1 0),(6,.ptr 2 0),(7,.ptr 3 0),(10,.ptr 4 0),(11,.ptr 5 0),(12,eI .i64 oY),(14,.ptr 6 0),(15,.sl 7 0 x62.1.length 37 true),(17,eI .i64 x75.1),(46,.row none 4 (b.Txs.map aZ)),(47,eI .i64 (b.Txs.length:Int)),(48,eI .i64 x48),(83,.sl 7 0 x62.1.length 37 true),(84,eI .i64 (x62.1.length:Int)),(85,eI .i64 x85)]) (fun x85 c4_3=>[some ⟨34,bG p⟩,some ⟨47,aY b⟩,some ⟨44,(eI .i64 0)::(aN (eI .u8) (a1M 32 0) [.row (some true) 1 []])⟩,some ⟨54,[.row (some true) 1 []]⟩,some ⟨44,(eI .i64 (a1O.wrap (l.Height+1)))::(aN (eI .u8) x36 [.row none 37 (c4_3.map aP)])⟩,some ⟨54,[.sl 8 0 l6.length 37 true]⟩,some ⟨91,aQ x51⟩,some ⟨80,x62.1.flatMap aH⟩,some ⟨80,l6.flatMap aH⟩]) (round:= ?_)
    intro m5 x85 c4_3 hr
    refine zz ?_
    refine a1L ?_
    refine zk hr ?_ ?_<;>clear hr<;>intro h26 hr<;>refine zz ?_
    ·refine a1L<|a1K ?_
     replace hr:=aL hr
     obtain⟨x87,h_27,hr⟩:=hr
     refine zz ?_
     refine xw (v:=(aP x87)) (b8 rfl (rV (C:=aH) (K:=37) (fun _=>rfl) rfl h_27 (mU (ds:=(aN (eI .u8) x87.Out.Tx [eI .u32 x87.Out.Index,eI .i64 x87.Output.Value,.row none 1 (x87.Output.Script.map (eI .u8)),eI .i64 x87.Height,eB x87.Coinbase])) rP rfl zl rfl))) ?_
     replace hr:=cE hr
     obtain⟨x95,h_28,x96,h_30,hr⟩:=hr
     refine zz ?_
     refine a1U mixed [49] [48] [[0,1,2,3,4,5,6,7,8,9]]<|zz ?_
     refine xu (aAO h_28)<|zg (aAZ h_30) [] ?_
     refine zz ?_
     exact⟨_,_,hr,a1S (zqf [1,1,1,1,1,1,1,1,1,1,0]) (zG [0,1,2,3,4,5,6,7,8])⟩
    exact zE
   exact zE
  exact zE
 refine a1W (n:=3) [10,11] ⟨?_, ?_,trivial⟩
 ·refine zz ?_
  refine a1P (m:=1) [11,12]<|zz ?_
  refine a1R J ?_
  exact(zG [0,2,3,4,5,6])
 refine zz ?_
 refine a1P (m:=1) [10,12]<|zz ?_
 refine a1R J ?_
 exact(zG [0,2,3,4,6,5])
instance :CtC 13 true (bC @uA):=⟨@uA⟩
theorem aEK {N p c r} (hr:aJA N p c=some r):
  Fp 158 [] [cU p,fH c] (eB r) []:=by
 refine bT func158 ntmps158 results158 fun hR=> ?_
 refine zz ?_
 refine bW (qI N) (fun x4=>[(4,eB x4)]) (fun x4=>[]) ?_
 obtain⟨x6,h_1,hr⟩:=aL hr
 rcases a1N x6 with h2|h2
 ·replace hr:=rQ hr h2
  rcases a1N (decide (0≤c.Height))with h3|h3
  ·replace hr:=rQ hr h3
   rcases a1N (decide (c.Height≤16777216))with h4|h4
   ·replace hr:=rQ hr h4
    refine xr<|zz ?_
    refine xp (lF h_1) ?_
    refine zz ?_
    refine xSg (v:=(eI .i64 (if 11<(a1O.wrap (c.Height+1))then 11 else(a1O.wrap (c.Height+1))))) rfl rfl h4 (aP2 rfl aPT) ?_
    refine zz ?_
    exact⟨_,hr,zG []⟩
   replace hr:=sP hr h4
   refine xr<|zz ?_
   refine xp (lF h_1) ?_
   refine zz ?_
   exact⟨_,hr,zG []⟩
  replace hr:=sP hr h3
  refine xr<|zz ?_
  refine xp (lF h_1) ?_
  refine zz ?_
  refine xX rfl<|xX rfl<|xX rfl<|xX rfl<|xX rfl<|xX rfl<|xX rfl<|xX rfl ?_
  refine zz ?_
  exact⟨_,hr,zG []⟩
 replace hr:=sP hr h2
 refine xr<|zz ?_
 refine xp (lF h_1) ?_
 refine zz ?_
 refine xX rfl<|xX rfl<|xX rfl ?_
 refine zz ?_
 refine xX rfl<|xX rfl<|xX rfl<|xX rfl<|xX rfl<|xX rfl<|xX rfl<|xX rfl ?_
 refine zz ?_
 exact⟨_,hr,zG []⟩
instance :CtC 158 true (bC @aEK):=⟨@aEK⟩
theorem uB {N p c vh r} (hr:uU N p c vh=some r):
  Fp 115 [] [cU p,fH c,pD vh] (.tup [fH r.1,eI .i64 r.2]) []:=by
 refine bT func115 ntmps115 results115 fun hR=> ?_
 refine zz ?_
 obtain⟨x11,h_1,hr⟩:=aL hr
 refine a1L<|zz ?_
 refine xp (aEK h_1) ?_
 refine zz ?_
 refine zk hr ?_ ?_<;>intro h2 hr<;>refine zz ?_
 ·exact zE
 refine a1L<|zz ?_
 refine zk hr ?_ ?_<;>intro h3 hr<;>refine zz ?_
 ·exact zE
 refine a1L ?_
 obtain⟨x22,h_4,q,h_6,hr⟩:=cE hr
 refine a1U mixed [45] [] [[0,1,2,3,4,5,6,7,8,9,10,11]]<|zz ?_
 refine xu (aAK h_4) ?_
 refine zz ?_
 refine xw (v:=(.agg ((eI .i64 (a1O.wrap (c.Height+1)))::(aN (eI .u8) x22 [eI .u32 vh.Bits,eI .u32 c.First,.row (some true) 1 []])))) (cS rfl (aJF (ps':=[(0,eI .i64 (a1O.wrap (c.Height+1))),(1,.agg (aN (eI .u8) x22 [])),(2,eI .u32 vh.Bits),(3,eI .u32 c.First)]) (by simp only[dJ (l:=x22) (aU h_6)]<;>rfl) (jC aH2 aVA (by kernel_rfl)))) ?_
 refine zz ?_
 refine bW (pL N c vh x22) (fun c3=>[(4,.ptr 0 0),(5,.ptr 1 0),(6,.ptr 2 0),(8,.ptr 3 0)]) (fun c3=>[some ⟨51,cF c⟩,some ⟨28,sS vh⟩,some ⟨51,(eI .i64 0)::(aN (eI .u8) (a1M 32 0) [eI .u32 0,eI .u32 0,.row (some true) 1 []])⟩,some ⟨51,(eI .i64 (a1O.wrap (c.Height+1)))::(aN (eI .u8) x22 [eI .u32 vh.Bits,eI .u32 c3,.row (some true) 1 []])⟩]) ?_ (body:= ?_)
 rotate_left
 ·clear hr
  intro c3 hr
  refine a1L ?_
  obtain⟨x39,h_7,x43,h_8,hr⟩:=cE hr
  refine AB.rd (cA []) (cA []) mixed<|a1P (m:=5) [0,1,3,4] ?_
  refine zz ?_
  refine a1Y (m:=3) (L:=lst [0,1,2,3,4,5] 9) (s1:=aG 54 [(6,.ptr 0 0),(8,.ptr 1 0),(39,.sl 2 0 x39.length 1 false),(42,.sl 3 0 1 1 false)]) (h1:=[some ⟨51,(eI .i64 0)::(aN (eI .u8) (a1M 32 0) [eI .u32 0,eI .u32 0,.row (some true) 1 []])⟩,some ⟨51,(eI .i64 (a1O.wrap (c.Height+1)))::(aN (eI .u8) x22 [eI .u32 vh.Bits,eI .u32 c3,.row (some true) 1 []])⟩,some ⟨24,x39.map (eI .u32)⟩,some ⟨24,[vh.Time].map (eI .u32)⟩]) ?_ (fun J=> ?_)
  ·refine a1P (m:=0) [6,7,8]<|zz ?_
   refine a1V (by decide +kernel) ?_
   refine zz ?_
   refine bW (tP N c vh x22 c3) (fun c1=>[(6,.ptr 0 0),(8,.ptr 1 0)]) (fun c1=>[some ⟨51,(eI .i64 0)::(aN (eI .u8) (a1M 32 0) [eI .u32 0,eI .u32 0,.row (some true) 1 []])⟩,some ⟨51,(eI .i64 (a1O.wrap (c.Height+1)))::(aN (eI .u8) x22 [eI .u32 vh.Bits,eI .u32 c3,.row none 1 (c1.map (eI .u32))])⟩]) ?_
   refine zz ?_
   refine zk hr ?_ ?_<;>intro h9 hr
   ·obtain⟨x51,h_10,hr⟩:=aL hr
    refine zz ?_
    refine a1X (zqf [1,1,0,1,0]) ?_
    exact zE
   refine zz ?_
   exact⟨_,hr,a1S (zqf [1,1,0,1,0]) (zG [0,1])⟩
  refine a1W (n:=4) [2,5] ⟨?_, ?_,trivial⟩
  ·refine zz ?_
   refine a1P (m:=3) [5]<|zz ?_
   refine a1R J ?_
   exact(zG [2,3,5,6])
  refine zz ?_
  refine a1P (m:=3) [2]<|zz ?_
  refine a1R J ?_
  exact(zG [2,3,6,4])
 exact zE
instance :CtC 115 true (bC @uB):=⟨@uB⟩
theorem aDa {N p c vh now r} (hr:aDJ N p c vh now=some r):
  Fp 114 [] [cU p,fH c,pD vh,eI .u32 now] (eI .i64 r) []:=by
 refine bT func114 ntmps114 results114 fun hR=> ?_
 obtain⟨x18,h_1,hr⟩:=aL hr
 refine zz ?_
 refine xp (uB h_1) ?_
 refine zz ?_
 refine a1L<|zz ?_
 refine zk hr ?_ ?_<;>intro h2 hr<;>refine zz ?_
 ·exact zE
 obtain⟨q,h_3,q_1,h_4,hr⟩:=cE hr
 refine a1L<|zz ?_
 refine zk hr ?_ ?_<;>intro h5 hr<;>refine zz ?_
 ·exact zE
 refine a1L<|zz ?_
 refine zk hr ?_ ?_<;>intro h6 hr
 ·exact zE
 obtain⟨x37,h_7,hr⟩:=aL hr
 refine zz ?_
 refine xp (aAG h_7) ?_
 refine zz ?_
 refine a1L<|zz ?_
 refine zk hr ?_ ?_<;>intro h8 hr<;>refine zz ?_
 ·exact zE
 refine a1L<|a1K ?_
 refine zz ?_
 refine zk hr ?_ ?_<;>intro h9 hr
 ·exact zE
 obtain⟨q_2,h_10,x53,h_11,hr⟩:=cE hr
 refine zz ?_
 refine xp (aDF h_11) ?_
 refine zz ?_
 refine zk hr ?_ ?_<;>intro h12 hr
 ·exact zE
 refine a1L ?_
 obtain⟨x60,h_13,hr⟩:=aL hr
 refine a1U mixed [74] [] [[0,1,2,3,4,5,6]]<|zz ?_
 refine xu (vW h_13) ?_
 refine zz ?_
 refine zk hr ?_ ?_<;>intro h15 hr<;>refine zz ?_
 ·exact zE
 refine zk hr ?_ ?_<;>intro h16 hr<;>refine zz ?_
 ·exact zE
 refine fY (aIz N) [] [] ?_
 obtain⟨cN,hL2,hr⟩:=aL hr
 refine zz ?_
 refine a1K<|gQ hL2 (fun x76=>[(9,.ptr 0 0),(74,.row none 33 (p.Checkpoints.map bB)),(75,eI .i64 (p.Checkpoints.length:Int)),(76,eI .i64 x76)]) (fun x76=>[some ⟨51,cF x18.1⟩]) (round:= ?_)
 intro m2 x76 hr
 refine zz ?_
 refine a1L ?_
 refine zk hr ?_ ?_<;>clear hr<;>intro h17 hr<;>refine zz ?_
 ·refine a1L<|a1K ?_
  replace hr:=aL hr
  obtain⟨x78,h_18,hr⟩:=hr
  refine zz ?_
  refine bW (aC8 N p x18 x76 (oH N p x18 m2)) (fun x91=>[(9,.ptr 0 0),(74,.row none 33 (p.Checkpoints.map bB)),(75,eI .i64 (p.Checkpoints.length:Int)),(76,eI .i64 x76),(91,eB x91)]) (fun x91=>[some ⟨51,cF x18.1⟩]) ?_
  exact zE
 exact zE
instance :CtC 114 true (bC @aDa):=⟨@aDa⟩
theorem aKr {N l vn r} (hr:aKU N l vn=some r):
  Fp 31 [] [.row none 1 (l.map (eI .u8)),eI .i64 vn] (.row none 1 (r.map (eI .u8))) []:=by
 refine bT func31 ntmps31 results31 fun hR=> ?_
 obtain⟨x10,h_1,hr⟩:=aL hr
 refine zz ?_
 refine xw (v:=(eI .i64 (if vn<(l.length:Int)then vn else(l.length:Int)))) (aP2 rfl aPT) ?_
 exact zE
instance :CtC 31 true (bC @aKr):=⟨@aKr⟩
theorem oU {N va b r} (hr:aEH N va b=some r):
  Fp 89 [] [b7 va,b7 b] (eB r) []:=by
 refine bT func89 ntmps89 results89 fun hR=> ?_
 refine zz ?_
 refine bW (uD N) (fun x4=>[(4,eB x4)]) (fun x4=>[]) ?_
 rcases a1N (va.Value == b.Value)with h1|h1
 ·replace hr:=rQ hr h1
  obtain⟨x15,h_2,hr⟩:=aL hr
  refine xr<|zz ?_
  refine xCg (v:=(eB x15)) (h':=[some ⟨78,aX va⟩,some ⟨78,aX b⟩]) rfl rfl h1 rfl (Vm.Fn.pure (aER h_2) rfl rfl) ?_
  refine zz ?_
  exact⟨_,hr,zG []⟩
 replace hr:=sP hr h1
 refine xr<|zz ?_
 exact⟨_,hr,zG []⟩
instance :CtC 89 true (bC @oU):=⟨@oU⟩
theorem aE2 {N va b r} (hr:yO N va b=some r):
  Fp 53 [] [aP va,aP b] (eB r) []:=by
 refine bT func53 ntmps53 results53 fun hR=> ?_
 refine zz ?_
 refine bW (kT N) (fun x4=>[(4,eB x4)]) (fun x4=>[]) ?_
 rcases a1N (iU va.Out.Tx b.Out.Tx ((va.Out.Index == b.Out.Index)&&true))with h1|h1
 ·replace hr:=rQ hr h1
  obtain⟨x15,h_2,hr⟩:=aL hr
  rcases a1N x15 with h3|h3
  ·replace hr:=rQ hr h3
   rcases a1N (va.Height == b.Height)with h4|h4
   ·replace hr:=rQ hr h4
    refine xr<|zz ?_
    refine xw (gA rfl rfl (uQ (d:=9) jL rfl aAQ zl aDk rfl rfl rfl rfl rfl)) ?_
    refine zz ?_
    refine xCg (v:=(eB x15)) (h':=[some ⟨80,aH va⟩,some ⟨80,aH b⟩]) rfl rfl h1 rfl (Vm.Fn.pure (oU h_2) rfl rfl) ?_
    refine zz ?_
    refine xSg rfl rfl h4 (gA rfl rfl (aUX _ _ ti4 ..)) ?_
    refine zz ?_
    exact⟨_,hr,zG []⟩
   replace hr:=sP hr h4
   refine xr<|zz ?_
   refine xw (gA rfl rfl (uQ (d:=9) jL rfl aAQ zl aDk rfl rfl rfl rfl rfl)) ?_
   refine zz ?_
   refine xCg (v:=(eB x15)) (h':=[some ⟨80,aH va⟩,some ⟨80,aH b⟩]) rfl rfl h1 rfl (Vm.Fn.pure (oU h_2) rfl rfl) ?_
   refine zz ?_
   exact⟨_,hr,zG []⟩
  replace hr:=sP hr h3
  refine xr<|zz ?_
  refine xw (gA rfl rfl (uQ (d:=9) jL rfl aAQ zl aDk rfl rfl rfl rfl rfl)) ?_
  refine zz ?_
  refine xCg (v:=(eB x15)) (h':=[some ⟨80,aH va⟩,some ⟨80,aH b⟩]) rfl rfl h1 rfl (Vm.Fn.pure (oU h_2) rfl rfl) ?_
  refine zz ?_
  refine xX rfl<|xX rfl<|xX rfl<|xX rfl<|xX rfl ?_
  refine zz ?_
  exact⟨_,hr,zG []⟩
 replace hr:=sP hr h1
 refine xr<|zz ?_
 refine xw (gA rfl rfl (uQ (d:=9) jL rfl aAQ zl aDk rfl rfl rfl rfl rfl)) ?_
 refine zz ?_
 refine xX rfl<|xX rfl<|xX rfl<|xX rfl<|xX rfl ?_
 refine zz ?_
 refine xX rfl<|xX rfl<|xX rfl<|xX rfl<|xX rfl ?_
 refine zz ?_
 exact⟨_,hr,zG []⟩
instance :CtC 53 true (bC @aE2):=⟨@aE2⟩
theorem rA {N va b r} (hr:qP N va b=some r):
  Fp 15 [] [.row none 37 (va.map aP),.row none 37 (b.map aP)] (eB r) []:=by
 refine bT func15 ntmps15 results15 fun hR=> ?_
 refine zz ?_
 refine a1L<|zz ?_
 refine zk hr ?_ ?_<;>intro h1 hr<;>refine zz ?_
 ·exact zE
 refine fY (xT N) [] [] ?_
 obtain⟨cN,hL2,hr⟩:=aL hr
 refine zz ?_
 exact a1K<|gQ hL2 (fun x13=>[(0,.row none 37 (va.map aP)),(1,.row none 37 (b.map aP)),(12,eI .i64 (va.length:Int)),(13,eI .i64 x13)]) (fun x13=>[])
instance :CtC 15 true (bC @rA):=⟨@rA⟩
theorem aJ5 {N va b r} (hr:aFs N va b=some r):
  Fp 14 [] [dD va,dD b] (eB r) []:=by
 refine bT func14 ntmps14 results14 fun hR=> ?_
 refine zz ?_
 refine bW (u0 N) (fun x4=>[(4,eB x4)]) (fun x4=>[]) ?_
 rcases a1N (va.Height == b.Height)with h1|h1
 ·replace hr:=rQ hr h1
  obtain⟨q,h_2,q_1,h_3,hr⟩:=cE hr
  rcases a1N (va.Tip == b.Tip)with h4|h4
  ·replace hr:=rQ hr h4
   obtain⟨x22,h_5,hr⟩:=aL hr
   refine xr<|zz ?_
   refine xCg (v:=(eB x22)) (h':=[some ⟨44,bD va⟩,some ⟨44,bD b⟩]) rfl rfl h4 rfl (Vm.Fn.pure (rA h_5) rfl rfl) ?_
   exact zE
  replace hr:=sP hr h4
  refine xr<|zz ?_
  exact⟨_,hr,zG []⟩
 replace hr:=sP hr h1
 refine xr<|zz ?_
 refine xX rfl<|xX rfl<|xX rfl<|xX rfl<|xX rfl ?_
 refine zz ?_
 exact⟨_,hr,zG []⟩
end Go.Proofs.YtopdhljncajmpaaGreatDoor
