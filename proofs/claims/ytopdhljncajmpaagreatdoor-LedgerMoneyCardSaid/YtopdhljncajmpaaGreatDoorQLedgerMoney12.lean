/- Texts of ours, joined: Wk2b. -/
import Derived.Test.YtopdhljncajmpaaGreatDoorQLedgerMoney11
open Go.Vm.AB renaming block → a0F,seq → a0G,cndF → a0K,rs → a0Q
open List renaming replicate → a0H
open Go.IntKind renaming i64 → a0I,u32 → a0P
open Go.Vm.DrawG renaming ps → a0J,jh → a0L,fk → a0O,nil → a0R,jn → a0T
open Bool renaming eq_false_or_eq_true → a0M
open Go.Vm.Ghost renaming trans → a0N,virt → a0U
open Go.Vm.OpsX renaming ghost → a0S
set_option linter.unusedVariables false
set_option linter.unusedSimpArgs false
set_option maxRecDepth 20000
set_option maxHeartbeats 8000000
namespace Go.Proofs.YtopdhljncajmpaaGreatDoor
open Go Go.Vm Go.Proofs.Tryz
theorem aG9 {N t bD r} (hr:rT N t bD=some r):
  Fp 203 [] [aY t,eB bD] (.tup [.sl 0 0 r.1.length 1 false,eI .i64 r.2]) [some ⟨5,r.1.map (eI .u8)⟩]:=by
 refine bR func203 ntmps203 results203 fun hR=> ?_
 refine zz ?_
 obtain⟨x7,h_1,hr⟩:=aN hr
 refine a0G<|zz ?_
 refine xp (aAj h_1) ?_
 refine zz ?_
 refine zk hr ?_ ?_<;>intro h2 hr
 ·refine zz ?_
  replace hr:=sj hr
  subst hr
  exact zr2 Tryz.results203 dO dO (zW 5 [1])
 exact zE
instance :CtC 203 false (aX @aG9):=⟨@aG9⟩
theorem aGD {N b r} (hr:aCf N b=some r):
  Fp 155 [] [dZ b] (.sl 0 0 r.length 1 false) [some ⟨5,r.map (eI .u8)⟩]:=by
 refine bR func155 ntmps155 results155 fun hR=> ?_
 refine zz ?_
 refine a0G ?_
 obtain⟨x10,h_1,x15,h_3,hr⟩:=b8 hr
 refine a0Q mixed [] [84,161] [[0,1,2,3,4,5,6,7,8]]<|zz ?_
 refine zg (sM h_1) [] ?_
 refine zz ?_
 refine y7 (iW h_3) [] [1] ?_
 refine zz ?_
 refine bV (aCp N) (fun l0=>[(3,.sl 0 0 l0.length 1 false)]) (fun l0=>[some ⟨5,l0.map (eI .u8)⟩]) ?_
 obtain⟨cM,hL2,hr⟩:=aN hr
 refine zz ?_
 exact a0F<|dB hL2 (fun x19 aK=>[(3,.sl 0 0 aK.length 1 false),(17,.row none 4 (b.Txs.map aY)),(18,eI .i64 (b.Txs.length:Int)),(19,eI .i64 x19)]) (fun x19 aK=>[some ⟨5,aK.map (eI .u8)⟩])
instance :CtC 155 false (aX @aGD):=⟨@aGD⟩
theorem aEs {N b r} (hr:yT N b=some r):
  Fp 105 [] [dZ b] (eB r) []:=by
 refine bR func105 ntmps105 results105 fun hR=> ?_
 refine zz ?_
 refine a0G<|zz ?_
 refine zk hr ?_ ?_<;>intro h1 hr<;>refine zz ?_
 ·exact zE
 refine fT (aAv N b) [(1,.ptr 0 0)] [some ⟨47,bK b⟩] ?_
 obtain⟨cM,hL2,hr⟩:=aN hr
 refine zz ?_
 exact a0F<|gQ hL2 (fun x12=>[(1,.ptr 0 0),(10,.row none 4 (b.Txs.map aY)),(11,eI .i64 (b.Txs.length:Int)),(12,eI .i64 x12)]) (fun x12=>[some ⟨47,bK b⟩])
instance :CtC 105 true (aX @aEs):=⟨@aEs⟩
theorem aJB {N o r} (hr:qU N o=some r):
  Fp 135 [] [cR o] (eB r) []:=by
 refine bR func135 ntmps135 results135 fun hR=> ?_
 refine zz ?_
 refine xw (v:=(.agg (aL (eI .u8) (a0H 32 0) [eI .u32 4294967295]))) (cI rfl (iM lU aIY rfl))<|xw (jB rfl rfl (aGq (d:=9) lU rfl aFp zl aIN rfl rfl rfl rfl rfl)) ?_
 exact zE
instance :CtC 135 true (aX @aJB):=⟨@aJB⟩
theorem mW {N t r} (hr:cV N t=some r):
  Fp 85 [] [aY t] (eB r) []:=by
 refine bR func85 ntmps85 results85 fun hR=> ?_
 unfold cV at hr
 refine zz ?_
 refine bV (rP N) (fun x2=>[(2,eB x2)]) (fun x2=>[]) ?_
 exact zE
instance :CtC 85 true (aX @mW):=⟨@mW⟩
theorem aDk {N t r} (hr:rF N t=some r):
  Fp 106 [] [aY t] (eI .i64 r) []:=by
 refine bR func106 ntmps106 results106 fun hR=> ?_
 refine zz ?_
 obtain⟨x11,h_1,hr⟩:=aN hr
 refine a0G<|zz ?_
 refine xp (aAj h_1) ?_
 refine zz ?_
 refine zk hr ?_ ?_<;>intro h2 hr<;>refine zz ?_
 ·exact zE
 refine a0G ?_
 refine bV (n9 N t) (fun x22=>[(1,.ptr 0 0),(22,eB x22)]) (fun x22=>[some ⟨91,aR t⟩]) ?_ (body:= ?_)
 rotate_left
 ·clear hr
  intro x22 hr
  refine zk hr ?_ ?_<;>intro h3 hr<;>refine zz ?_
  ·exact zE
  refine bV (rY N t) (fun sum=>[(1,.ptr 0 0),(3,eI .i64 sum)]) (fun sum=>[some ⟨91,aR t⟩]) ?_ (body:= ?_)
  rotate_left
  ·clear hr
   intro sum hr
   refine a0G ?_
   refine zz ?_
   refine zk hr ?_ ?_<;>intro h4 hr<;>refine zz ?_
   ·exact zE
   refine fT (r5 N t) [(1,.ptr 0 0)] [some ⟨91,aR t⟩] ?_ (body:= ?_)
   rotate_left
   ·clear hr
    intro hr
    refine fT (aH1 N) [] [] ?_
    obtain⟨res5,hL5,hr⟩:=aN hr
    refine zz ?_
    refine a0F<|gQ hL5 (fun x68=>[(1,.ptr 0 0),(66,.row none 35 (t.Inputs.map bU)),(67,eI .i64 (t.Inputs.length:Int)),(68,eI .i64 x68)]) (fun x68=>[some ⟨91,aR t⟩]) (round:= ?_)
    intro m5 x68 hr
    refine zz ?_
    refine a0G ?_
    refine zk hr ?_ ?_<;>clear hr<;>intro h5 hr<;>refine zz ?_
    ·refine a0G<|a0F ?_
     replace hr:=aN hr
     obtain⟨x70,h_6,hr⟩:=hr
     refine zz ?_
     refine bV (nW N t x68 (gA N t m5)) (fun x79=>[(1,.ptr 0 0),(66,.row none 35 (t.Inputs.map bU)),(67,eI .i64 (t.Inputs.length:Int)),(68,eI .i64 x68),(79,eB x79)]) (fun x79=>[some ⟨91,aR t⟩]) ?_
     exact zE
    exact zE
   obtain⟨res7,hL7,hr⟩:=aN hr
   refine zz ?_
   refine a0F<|gQ hL7 (fun x43=>[(1,.ptr 0 0),(42,eI .i64 (t.Inputs.length:Int)),(43,eI .i64 x43)]) (fun x43=>[some ⟨91,aR t⟩]) (round:= ?_)
   intro m7 x43 hr
   refine zz ?_
   refine a0G ?_
   refine zk hr ?_ ?_<;>clear hr<;>intro h11 hr<;>refine zz ?_
   ·refine fT (yB N t x43 (jP N t m7)) [(1,.ptr 0 0),(42,eI .i64 (t.Inputs.length:Int)),(43,eI .i64 x43)] [some ⟨91,aR t⟩] ?_
    refine a0F ?_
    replace hr:=aN hr
    obtain⟨res9,hL9,hr⟩:=hr
    refine zz ?_
    refine a0F<|gQ hL9 (fun k=>[(1,.ptr 0 0),(6,eI .i64 x43),(7,eI .i64 k),(42,eI .i64 (t.Inputs.length:Int)),(43,eI .i64 x43)]) (fun k=>[some ⟨91,aR t⟩]) (round:= ?_)
    intro m9 k hr
    refine a0G<|zz ?_
    refine zk hr ?_ ?_<;>clear hr<;>intro h12 hr<;>refine zz ?_
    ·refine a0G<|a0F<|a0G ?_
     replace hr:=b8 hr
     obtain⟨x54,h_13,x60,h_14,hr⟩:=hr
     refine a0Q mixed [] [] [[0,1,2,3,4,5,6,7,8,9,10,11,12]]<|zz ?_
     refine xw (v:=(eB (jS x54.Prev.Tx x60.Prev.Tx ((x54.Prev.Index == x60.Prev.Index)&&true)))) (jB rfl rfl (aGq (d:=9) lU rfl aFp zl aIN rfl rfl rfl rfl rfl)) ?_
     exact zE
    exact zE
   exact zE
  obtain⟨res10,hL10,hr⟩:=aN hr
  refine zz ?_
  exact a0F<|dB hL10 (fun fX x26=>[(1,.ptr 0 0),(3,eI .i64 fX),(24,.row none 2 (t.Outputs.map cH)),(25,eI .i64 (t.Outputs.length:Int)),(26,eI .i64 x26)]) (fun fX x26=>[some ⟨91,aR t⟩])
 exact zE
instance :CtC 106 true (aX @aDk):=⟨@aDk⟩
theorem aC3 {N ids vid r} (hr:uQ N ids vid=some r):
  Fp 107 [] [.row none 32 (ids.map (eA (eI .u8))),.agg (vid.map (eI .u8))] (eI .i64 r) []:=by
 refine bR func107 ntmps107 results107 fun hR=> ?_
 refine zz ?_
 refine fT (aCN N) [] [] ?_
 obtain⟨cM,hL2,hr⟩:=aN hr
 refine zz ?_
 refine a0F<|gQ hL2 (fun x8=>[(0,.row none 32 (ids.map (eA (eI .u8)))),(3,.ptr 0 0),(7,eI .i64 (ids.length:Int)),(8,eI .i64 x8)]) (fun x8=>[some ⟨26,vid.map (eI .u8)⟩]) (round:= ?_)
 intro m2 x8 hr
 refine zz ?_
 refine a0G ?_
 refine zk hr ?_ ?_<;>clear hr<;>intro h1 hr<;>refine zz ?_
 ·refine a0G<|a0F ?_
  refine zz ?_
  refine a0G ?_
  replace hr:=fE hr
  obtain⟨x13,h_2,q,h_3,q_1,h_4,hr⟩:=hr
  refine a0Q mixed [] [] [[0,1,2,3,4,5]]<|zz ?_
  refine xw (v:=(.agg (x13.map (eI .u8)))) (cP rfl (aIR (E:=(eI .u8)) iO rfl h_2 (aT h_3))) ?_
  exact zE
 exact zE
instance :CtC 107 true (aX @aC3):=⟨@aC3⟩
theorem aF2 {N b ids r} (hr:qA N b ids=some r):
  Fp 108 [] [dZ b,.row none 32 (ids.map (eA (eI .u8)))] (eB r) []:=by
 refine bR func108 ntmps108 results108 fun hR=> ?_
 refine zz ?_
 refine fT (aFC N) [] [] ?_
 obtain⟨cM,hL2,hr⟩:=aN hr
 refine zz ?_
 refine a0F<|gQ hL2 (fun x12=>[(1,.row none 32 (ids.map (eA (eI .u8)))),(10,.row none 4 (b.Txs.map aY)),(11,eI .i64 (b.Txs.length:Int)),(12,eI .i64 x12)]) (fun x12=>[]) (round:= ?_)
 intro m2 x12 hr
 refine zz ?_
 refine a0G ?_
 refine zk hr ?_ ?_<;>clear hr<;>intro h1 hr<;>refine zz ?_
 ·refine fT (tL N b ids x12 (dH N b ids m2)) [(1,.row none 32 (ids.map (eA (eI .u8)))),(10,.row none 4 (b.Txs.map aY)),(11,eI .i64 (b.Txs.length:Int)),(12,eI .i64 x12)] [] ?_
  refine a0F ?_
  replace hr:=b8 hr
  obtain⟨x15,h_2,res4,hL4,hr⟩:=hr
  refine zz ?_
  exact a0F<|gQ hL4 (fun x20=>[(1,.row none 32 (ids.map (eA (eI .u8)))),(5,eI .i64 x12),(10,.row none 4 (b.Txs.map aY)),(11,eI .i64 (b.Txs.length:Int)),(12,eI .i64 x12),(18,.row none 35 (x15.Inputs.map bU)),(19,eI .i64 (x15.Inputs.length:Int)),(20,eI .i64 x20)]) (fun x20=>[])
 exact zE
instance :CtC 108 true (aX @aF2):=⟨@aF2⟩
theorem aHE {N b r} (hr:uS N b=some r):
  Fp 109 [] [dZ b] (eB r) []:=by
 refine bR func109 ntmps109 results109 fun hR=> ?_
 refine zz ?_
 refine fT (aHR N) [] [] ?_
 obtain⟨cM,hL2,hr⟩:=aN hr
 refine zz ?_
 refine a0F<|dB hL2 (fun x13 l0=>[(3,.sl 0 0 l0.length 33 true),(11,.row none 4 (b.Txs.map aY)),(12,eI .i64 (b.Txs.length:Int)),(13,eI .i64 x13)]) (fun x13 l0=>[some ⟨76,l0.flatMap cA⟩]) (h0:=(zW 76 [1])) (round:= ?_)
 intro m2 x13 l0 hr
 refine zz ?_
 refine a0G ?_
 refine zk hr ?_ ?_<;>clear hr<;>intro h1 hr<;>refine zz ?_
 ·refine bV (yQ N b x13 (fY N b m2)) (fun aK=>[(3,.sl 0 0 aK.length 33 true),(11,.row none 4 (b.Txs.map aY)),(12,eI .i64 (b.Txs.length:Int)),(13,eI .i64 x13)]) (fun aK=>[some ⟨76,aK.flatMap cA⟩]) ?_
  refine a0F ?_
  replace hr:=b8 hr
  obtain⟨x15,h_2,res4,hL4,hr⟩:=hr
  refine zz ?_
  refine a0F<|dB hL4 (fun x20 d9=>[(3,.sl 0 0 d9.length 33 true),(11,.row none 4 (b.Txs.map aY)),(12,eI .i64 (b.Txs.length:Int)),(13,eI .i64 x13),(18,.row none 35 (x15.Inputs.map bU)),(19,eI .i64 (x15.Inputs.length:Int)),(20,eI .i64 x20)]) (fun x20 d9=>[some ⟨76,d9.flatMap cA⟩]) (round:= ?_)
  intro m4 x20 d9 hr
  refine zz ?_
  refine a0G ?_
  refine zk hr ?_ ?_<;>clear hr<;>intro h3 hr<;>refine zz ?_
  ·refine bV (yA N b x13 x15 x20 (fG N b x13 x15 m4)) (fun gP=>[(3,.sl 0 0 gP.length 33 true),(11,.row none 4 (b.Txs.map aY)),(12,eI .i64 (b.Txs.length:Int)),(13,eI .i64 x13),(18,.row none 35 (x15.Inputs.map bU)),(19,eI .i64 (x15.Inputs.length:Int)),(20,eI .i64 x20)]) (fun gP=>[some ⟨76,gP.flatMap cA⟩]) ?_
   refine a0F ?_
   replace hr:=aN hr
   obtain⟨x22,h_4,hr⟩:=hr
   refine zz ?_
   refine fT (yK N b x13 x15 x20 d9 x22 (fG N b x13 x15 m4)) [(3,.sl 0 0 d9.length 33 true),(7,.ptr 1 0),(11,.row none 4 (b.Txs.map aY)),(12,eI .i64 (b.Txs.length:Int)),(13,eI .i64 x13),(18,.row none 35 (x15.Inputs.map bU)),(19,eI .i64 (x15.Inputs.length:Int)),(20,eI .i64 x20)] [some ⟨76,d9.flatMap cA⟩,some ⟨97,fJ x22⟩] ?_ (body:= ?_)
   rotate_left
   ·clear hr
    intro hr
    replace hr:=aN hr
    obtain⟨x39,h_5,hr⟩:=hr
    refine zz ?_
    refine mC cA 33 [x22.Prev] ?_
    exact zE
   replace hr:=aN hr
   obtain⟨res7,hL7,hr⟩:=hr
   refine zz ?_
   refine a0F<|gQ hL7 (fun x26=>[(3,.sl 0 0 d9.length 33 true),(7,.ptr 1 0),(11,.row none 4 (b.Txs.map aY)),(12,eI .i64 (b.Txs.length:Int)),(13,eI .i64 x13),(18,.row none 35 (x15.Inputs.map bU)),(19,eI .i64 (x15.Inputs.length:Int)),(20,eI .i64 x20),(24,.sl 0 0 d9.length 33 true),(25,eI .i64 (d9.length:Int)),(26,eI .i64 x26)]) (fun x26=>[some ⟨76,d9.flatMap cA⟩,some ⟨97,fJ x22⟩]) (round:= ?_)
   intro m7 x26 hr
   refine zz ?_
   refine a0G ?_
   refine zk hr ?_ ?_<;>clear hr<;>intro h6 hr<;>refine zz ?_
   ·refine a0G<|a0F ?_
    replace hr:=aN hr
    obtain⟨x28,h_7,hr⟩:=hr
    refine zz ?_
    refine xw (v:=(cR x28)) (cP rfl (vF (C:=cA) (K:=33) (fun _=>rfl) rfl h_7 (nJ (ds:=(aL (eI .u8) x28.Tx [eI .u32 x28.Index])) lU rfl zl rfl))) ?_
    refine zz ?_
    refine xw (jB rfl rfl (aGq (d:=9) lU rfl aFp zl aIN rfl rfl rfl rfl rfl)) ?_
    exact zE
   exact zE
  exact zE
 exact zE
instance :CtC 109 true (aX @aHE):=⟨@aHE⟩
theorem aHS {N b r} (hr:jW N b=some r):
  Fp 64 [] [dZ b] (eI .i64 r) []:=by
 refine bR func64 ntmps64 results64 fun hR=> ?_
 refine zz ?_
 obtain⟨x13,h_1,hr⟩:=aN hr
 refine a0G<|zz ?_
 refine xp (aEs h_1) ?_
 refine zz ?_
 refine zk hr ?_ ?_<;>intro h2 hr<;>refine zz ?_
 ·exact zE
 refine a0G<|zz ?_
 refine zk hr ?_ ?_<;>intro h3 hr<;>refine zz ?_
 ·exact zE
 refine fT (rV N b) [(1,.ptr 0 0)] [some ⟨47,bK b⟩] ?_ (body:= ?_)
 rotate_left
 ·clear hr
  intro hr
  refine zz ?_
  refine fT (n5 N b) [(1,.ptr 0 0),(5,.row (some true) 1 [])] [some ⟨47,bK b⟩] ?_ (body:= ?_)
  rotate_left
  ·clear hr
   intro hr
   refine bV (sR N b) (fun l1=>[(1,.ptr 0 0),(5,.sl 1 0 l1.length 32 true)]) (fun l1=>[some ⟨47,bK b⟩,some ⟨26,l1.flatMap (dN (eI .u8))⟩]) ?_
   obtain⟨res4,hL4,hr⟩:=aN hr
   refine zz ?_
   refine a0F<|dB hL4 (fun x49 bH=>[(1,.ptr 0 0),(5,.sl 1 0 bH.length 32 true),(47,.row none 4 (b.Txs.map aY)),(48,eI .i64 (b.Txs.length:Int)),(49,eI .i64 x49)]) (fun x49 bH=>[some ⟨47,bK b⟩,some ⟨26,bH.flatMap (dN (eI .u8))⟩]) (h0:=(zW 26 [0,1])) (round:= ?_)
   intro m4 x49 bH hr
   refine zz ?_
   refine a0G ?_
   refine zk hr ?_ ?_<;>clear hr<;>intro h14 hr<;>refine zz ?_
   ·refine a0G<|a0F ?_
    replace hr:=fE hr
    obtain⟨x51,h_15,x54,h_16,q_3,h_17,hr⟩:=hr
    refine zz ?_
    refine xp (zY h_16) ?_
    refine zz ?_
    replace hr:=b8 hr
    obtain⟨q_4,h_18,x57,h_19,hr⟩:=hr
    refine a0G<|zz ?_
    refine kX (aC3 h_19) [] [1] ?_
    refine zz ?_
    refine zk hr ?_ ?_<;>clear hr<;>intro h20 hr
    ·exact zE
    replace hr:=aN hr
    obtain⟨x62,h_21,hr⟩:=hr
    refine zz ?_
    refine xw (v:=(.sl 4 0 1 32 true)) (h':=[some ⟨47,bK b⟩,some ⟨26,bH.flatMap (dN (eI .u8))⟩,some ⟨91,aR x51⟩,some ⟨26,x54.map (eI .u8)⟩,some ⟨26,[x54].flatMap (dN (eI .u8))⟩]) (oG rfl (aJc (ps':=[(0,.agg (dN (eI .u8) x54))]) (by simp only[aAO,dN,dG (l:=x54) (aT h_17)]) (aG0 (len:=1) (C:=(dN (eI .u8))) (xs:=[x54]) (K:=32) (fun _=>rfl) (fun _=>rfl) aES iO ⟨zl,zl,zl⟩ rfl rfl rfl rfl rfl rfl))) ?_
    exact zE
   exact zE
  obtain⟨res5,hL5,hr⟩:=aN hr
  refine zz ?_
  exact a0F<|gQ hL5 (fun x36=>[(1,.ptr 0 0),(5,.row (some true) 1 []),(34,.row none 4 (b.Txs.map aY)),(35,eI .i64 (b.Txs.length:Int)),(36,eI .i64 x36)]) (fun x36=>[some ⟨47,bK b⟩])
 obtain⟨res6,hL6,hr⟩:=aN hr
 refine zz ?_
 refine a0F<|gQ hL6 (fun x22=>[(1,.ptr 0 0),(20,.row none 4 (b.Txs.map aY)),(21,eI .i64 (b.Txs.length:Int)),(22,eI .i64 x22)]) (fun x22=>[some ⟨47,bK b⟩]) (round:= ?_)
 intro m6 x22 hr
 refine zz ?_
 refine a0G ?_
 refine zk hr ?_ ?_<;>clear hr<;>intro h26 hr<;>refine zz ?_
 ·refine a0G<|a0F ?_
  replace hr:=b8 hr
  obtain⟨x25,h_27,x28,h_28,hr⟩:=hr
  refine zz ?_
  refine xp (mW h_28) ?_
  refine zz ?_
  refine xw (jB rfl rfl (aQJ _ _ ti4 ..)) ?_
  exact zE
 exact zE
instance :CtC 64 true (aX @aHS):=⟨@aHS⟩
theorem aDb {N t height r} (hr:rD N t height=some r):
  Fp 82 [] [aY t,eI .i64 height] (eB r) []:=by
 refine bR func82 ntmps82 results82 fun hR=> ?_
 refine zz ?_
 refine a0G<|zz ?_
 refine zk hr ?_ ?_<;>intro h1 hr<;>refine zz ?_
 ·exact zE
 refine fT (aCx N) [] [] ?_
 obtain⟨cM,hL2,hr⟩:=aN hr
 refine zz ?_
 exact a0F<|gQ hL2 (fun x15=>[(13,.row none 35 (t.Inputs.map bU)),(14,eI .i64 (t.Inputs.length:Int)),(15,eI .i64 x15)]) (fun x15=>[])
instance :CtC 82 true (aX @aDb):=⟨@aDb⟩
theorem aCX {N p l b r} (hr:nM N p l b=some r):
  Fp 44 [] [cT p,eE l,dZ b] (eI .i64 r) []:=by
 refine bR func44 ntmps44 results44 fun hR=> ?_
 unfold nM at hr
 refine zz ?_
 refine a0G<|a0F ?_
 refine bV (iE N l b) (fun x8=>[(4,.ptr 0 0),(5,.ptr 1 0),(8,eB x8)]) (fun x8=>[some ⟨44,bI l⟩,some ⟨47,bK b⟩]) ?_
 exact zE
instance :CtC 44 true (aX @aCX):=⟨@aCX⟩
theorem aAC {N l o r} (hr:yL N l o=some r):
  Fp 49 [] [.row none 37 (l.map aM),cR o] (eI .i64 r) []:=by
 refine bR func49 ntmps49 results49 fun hR=> ?_
 refine zz ?_
 refine fT (aD8 N) [] [] ?_
 obtain⟨cM,hL2,hr⟩:=aN hr
 refine zz ?_
 refine a0F<|gQ hL2 (fun x8=>[(0,.row none 37 (l.map aM)),(3,.ptr 0 0),(7,eI .i64 (l.length:Int)),(8,eI .i64 x8)]) (fun x8=>[some ⟨76,cA o⟩]) (round:= ?_)
 intro m2 x8 hr
 refine zz ?_
 refine a0G ?_
 refine zk hr ?_ ?_<;>clear hr<;>intro h1 hr<;>refine zz ?_
 ·refine a0G<|a0F ?_
  refine zz ?_
  refine a0G ?_
  replace hr:=aN hr
  obtain⟨x13,h_2,hr⟩:=hr
  refine a0Q mixed [] [] [[0,1,2,3,4,5,6]]<|zz ?_
  refine xw (v:=(eB (jS x13.Out.Tx o.Tx ((x13.Out.Index == o.Index)&&true)))) (jB rfl rfl (aGq (d:=9) lU rfl aFp zl aIN rfl rfl rfl rfl rfl)) ?_
  exact zE
 exact zE
instance :CtC 49 true (aX @aAC):=⟨@aAC⟩
theorem rO {N c r} (hr:nT N c=some r):
  Fp 57 [] [aM c] (aM r) []:=
 fR func57 ntmps57 results57
instance :CtC 57 true (aX @rO):=⟨@rO⟩
theorem aC4 {N p l t height r} (hr:zP N p l t height=some r):
  Fp 46 [] [cT p,.row none 37 (l.map aM),aY t,eI .i64 height] (.tup [.sl 0 0 r.1.length 37 true,eI .i64 r.2]) [some ⟨80,r.1.flatMap aH⟩]:=by
 refine bR func46 ntmps46 results46 fun hR=> ?_
 refine zz ?_
 refine bV (aC8 N p height) (fun l1=>[(3,eI .i64 height),(4,.ptr 0 0),(10,.sl 1 0 l1.length 37 true)]) (fun l1=>[some ⟨34,bE p⟩,some ⟨80,l1.flatMap aH⟩]) ?_ (body:= ?_)
 rotate_left
 ·clear hr
  intro l1 hr
  refine fT (aHU N l1) [(10,.sl 0 0 l1.length 37 true)] [some ⟨80,l1.flatMap aH⟩] ?_
  obtain⟨aBK,hL3,hr⟩:=aN hr
  refine zz ?_
  refine a0F<|gQ hL3 (fun x40=>[(3,eI .i64 height),(4,.ptr 0 0),(10,.sl 1 0 l1.length 37 true),(38,.sl 1 0 l1.length 37 true),(39,eI .i64 (l1.length:Int)),(40,eI .i64 x40)]) (fun x40=>[some ⟨34,bE p⟩,some ⟨80,l1.flatMap aH⟩]) (round:= ?_)
  intro m3 x40 hr
  refine zz ?_
  refine a0G ?_
  refine zk hr ?_ ?_<;>clear hr<;>intro h1 hr<;>refine zz ?_
  ·refine a0G<|a0F ?_
   replace hr:=aN hr
   obtain⟨x42,h_2,hr⟩:=hr
   refine zz ?_
   refine xw (v:=(aM x42)) (cP rfl (vF (C:=aH) (K:=37) (fun _=>rfl) rfl h_2 (nJ (ds:=(aL (eI .u8) x42.Out.Tx [eI .u32 x42.Out.Index,eI .i64 x42.Output.Value,.row none 1 (x42.Output.Script.map (eI .u8)),eI .i64 x42.Height,eB x42.Coinbase])) rC rfl zl rfl))) ?_
   refine zz ?_
   refine bV (yF N p height l1 x40 (jL N p height l1 m3)) (fun x54=>[(3,eI .i64 height),(4,.ptr 0 0),(10,.sl 1 0 l1.length 37 true),(38,.sl 1 0 l1.length 37 true),(39,eI .i64 (l1.length:Int)),(40,eI .i64 x40),(54,eB x54)]) (fun x54=>[some ⟨34,bE p⟩,some ⟨80,l1.flatMap aH⟩]) ?_ (body:= ?_)
   rotate_left
   ·clear hr
    intro x54 hr
    refine zk hr ?_ ?_<;>clear hr<;>intro h3 hr<;>refine zz ?_
    ·replace hr:=sj hr
     subst hr
     replace hr:=sj hr
     subst hr
     exact zr2 Tryz.results46 dO dO (zW 80 [2])
    exact zE
   exact zE
  exact zE
 obtain⟨res5,hL5,hr⟩:=aN hr
 refine zz ?_
 refine a0F<|dB hL5 (fun x19 bH=>[(1,.row none 37 (l.map aM)),(3,eI .i64 height),(4,.ptr 0 0),(10,.sl 1 0 bH.length 37 true),(17,.row none 35 (t.Inputs.map bU)),(18,eI .i64 (t.Inputs.length:Int)),(19,eI .i64 x19)]) (fun x19 bH=>[some ⟨34,bE p⟩,some ⟨80,bH.flatMap aH⟩]) (h0:=(zW 80 [0,2])) (round:= ?_)
 intro m5 x19 bH hr
 refine zz ?_
 refine a0G ?_
 refine zk hr ?_ ?_<;>clear hr<;>intro h5 hr<;>refine zz ?_
 ·refine a0G<|a0F ?_
  replace hr:=b8 hr
  obtain⟨x21,h_6,x26,h_7,hr⟩:=hr
  refine zz ?_
  refine xp (aAC h_7) ?_
  refine zz ?_
  refine a0G<|zz ?_
  refine zk hr ?_ ?_<;>clear hr<;>intro h8 hr
  ·refine zz ?_
   replace hr:=sj hr
   subst hr
   replace hr:=sj hr
   subst hr
   exact zr2 Tryz.results46 dO dO (zW 80 [3])
  replace hr:=fE hr
  obtain⟨x32,h_9,x34,h_10,x36,h_11,hr⟩:=hr
  refine zz ?_
  refine xp (rO h_10)<|mC aH 37 [x34] ?_
  exact zE
 exact zE
instance :CtC 46 false (aX @aC4):=⟨@aC4⟩
theorem aFs {N t l r} (hr:sT N t l=some r):
  Fp 86 [] [aY t,.row none 37 (l.map aM)] (.tup [eI .i64 r.1,eI .i64 r.2]) []:=by
 refine bR func86 ntmps86 results86 fun hR=> ?_
 refine zz ?_
 obtain⟨x14,h_1,hr⟩:=aN hr
 refine a0G<|zz ?_
 refine xp (aDk h_1) ?_
 refine zz ?_
 refine zk hr ?_ ?_<;>intro h2 hr<;>refine zz ?_
 ·exact zE
 refine a0G<|zz ?_
 refine zk hr ?_ ?_<;>intro h3 hr<;>refine zz ?_
 ·exact zE
 refine fT (sO N t l) [(1,.row none 37 (l.map aM)),(2,.ptr 0 0)] [some ⟨91,aR t⟩] ?_ (body:= ?_)
 rotate_left
 ·clear hr
  intro hr
  refine zz ?_
  refine bV (pC N t) (fun sum=>[(2,.ptr 0 0),(8,eI .i64 sum)]) (fun sum=>[some ⟨91,aR t⟩]) ?_ (body:= ?_)
  rotate_left
  ·clear hr
   intro sum hr
   refine a0G ?_
   refine zz ?_
   refine zk hr ?_ ?_<;>intro h4 hr<;>refine zz ?_
   ·exact zE
   refine bV (aBb N) (fun fX=>[(8,eI .i64 fX)]) (fun fX=>[]) ?_
   obtain⟨res4,hL4,hr⟩:=aN hr
   refine zz ?_
   exact a0F<|dB hL4 (fun sum_2 x69=>[(8,eI .i64 sum_2),(67,.row none 2 (t.Outputs.map cH)),(68,eI .i64 (t.Outputs.length:Int)),(69,eI .i64 x69)]) (fun sum_2 x69=>[])
  obtain⟨res5,hL5,hr⟩:=aN hr
  refine zz ?_
  refine a0F<|dB hL5 (fun aBj x44=>[(2,.ptr 0 0),(8,eI .i64 aBj),(42,.row none 37 (l.map aM)),(43,eI .i64 (l.length:Int)),(44,eI .i64 x44)]) (fun aBj x44=>[some ⟨91,aR t⟩]) (round:= ?_)
  intro m5 aBj x44 hr
  refine zz ?_
  refine a0G ?_
  refine zk hr ?_ ?_<;>clear hr<;>intro h8 hr<;>refine zz ?_
  ·refine a0G<|a0F ?_
   replace hr:=aN hr
   obtain⟨x46,h_9,hr⟩:=hr
   refine zz ?_
   refine a0G ?_
   refine bV (sD N t l aBj x44 x46 (fV N t l m5)) (fun x57=>[(2,.ptr 0 0),(8,eI .i64 aBj),(10,.ptr 1 0),(42,.row none 37 (l.map aM)),(43,eI .i64 (l.length:Int)),(44,eI .i64 x44),(57,eB x57)]) (fun x57=>[some ⟨91,aR t⟩,some ⟨80,aH x46⟩]) ?_
   exact zE
  exact zE
 obtain⟨res7,hL7,hr⟩:=aN hr
 refine zz ?_
 refine a0F<|gQ hL7 (fun x26=>[(1,.row none 37 (l.map aM)),(2,.ptr 0 0),(25,eI .i64 (l.length:Int)),(26,eI .i64 x26)]) (fun x26=>[some ⟨91,aR t⟩]) (round:= ?_)
 intro m7 x26 hr
 refine zz ?_
 refine a0G ?_
 refine zk hr ?_ ?_<;>clear hr<;>intro h12 hr<;>refine zz ?_
 ·refine a0G<|a0F ?_
  refine zz ?_
  refine a0G ?_
  replace hr:=b8 hr
  obtain⟨x31,h_13,x37,h_14,hr⟩:=hr
  refine a0Q mixed [] [] [[0,1,2,3,4,5,6,7,8,9,10,11]]<|zz ?_
  refine xw (v:=(eB (!(jS x31.Out.Tx x37.Prev.Tx ((x31.Out.Index == x37.Prev.Index)&&true))))) (jB rfl rfl (aIU (d:=9) lU rfl aFp zl aIN rfl rfl rfl rfl rfl)) ?_
  exact zE
 exact zE
instance :CtC 86 true (aX @aFs):=⟨@aFs⟩
theorem aCq {N tag b r} (hr:aBZ N tag b=some r):
  Fp 184 [] [eS tag,.row none 1 (b.map (eI .u8))] (.agg (r.map (eI .u8))) []:=by
 refine bR func184 ntmps184 results184 fun hR=> ?_
 obtain⟨x7,h_1,x8,h_2,q,h_3,hr⟩:=fE hr
 refine zz ?_
 refine aXC (i:=1) (h':=[some ⟨26,(a0H 32 0).map (eI .u8)⟩,some ⟨5,x7.map (eI .u8)⟩]) rfl ti9 lA oS h_1 rfl rfl (xOf ?_)
 refine kX (i9 h_2) [] [1] ?_
 refine zz ?_
 refine a0G ?_
 obtain⟨x10,h_4,x12,h_5,x14,h_6,x15,h_7,q_1,h_9,hr⟩:=aIJ hr
 refine a0Q mixed [] [132] [[0,1,2,3,4,5,6,7]]<|zz ?_
 refine y7 (i9 h_7) [] [6] ?_
 refine zz ?_
 replace hr:=sj hr
 subst hr
 exact zr1 Tryz.results184 dO (zG [])
instance :CtC 184 true (aX @aCq):=⟨@aCq⟩
theorem aAG {N t vi o r} (hr:uL N t vi o=some r):
  Fp 136 [] [aY t,eI .i64 vi,cH o] (.tup [.agg (r.1.map (eI .u8)),eI .i64 r.2]) []:=by
 refine bR func136 ntmps136 results136 fun hR=> ?_
 unfold uL at hr
 refine zz ?_
 refine a0G ?_
 refine bV (jE N t vi o) (fun x29=>[(1,eI .i64 vi),(3,.ptr 0 0),(5,.ptr 1 0),(6,.ptr 2 0),(29,eB x29)]) (fun x29=>[some ⟨91,aR t⟩,some ⟨78,cK o⟩,some ⟨26,(a0H 32 0).map (eI .u8)⟩]) ?_ (body:= ?_)
 rotate_left
 ·clear hr
  intro x29 hr
  unfold jE at hr
  refine zk hr ?_ ?_<;>intro h1 hr<;>refine zz ?_
  ·exact zE
  refine a0G ?_
  refine bV (lI N t vi o) (fun x39=>[(1,eI .i64 vi),(3,.ptr 0 0),(5,.ptr 1 0),(6,.ptr 2 0),(39,eB x39)]) (fun x39=>[some ⟨91,aR t⟩,some ⟨78,cK o⟩,some ⟨26,(a0H 32 0).map (eI .u8)⟩]) ?_ (body:= ?_)
  rotate_left
  ·clear hr
   intro x39 hr
   unfold lI at hr
   refine zk hr ?_ ?_<;>intro h2 hr<;>refine zz ?_
   ·exact zE
   refine sk2 (oF N t vi o) (fun l3 l4=>[(1,eI .i64 vi),(3,.ptr 0 0),(5,.ptr 1 0),(6,.ptr 2 0),(8,.sl 3 0 l3.length 1 false),(9,.sl 4 0 l4.length 1 false),(10,.row (some true) 1 [])]) (fun l3 l4=>[some ⟨91,aR t⟩,some ⟨78,cK o⟩,some ⟨26,(a0H 32 0).map (eI .u8)⟩,some ⟨5,l3.map (eI .u8)⟩,some ⟨5,l4.map (eI .u8)⟩]) ?_ (body:= ?_)
   rotate_left
   ·clear hr
    intro l3 l4 hr
    unfold oF at hr
    refine bV (pJ N t vi o l3 l4) (fun l5=>[(1,eI .i64 vi),(3,.ptr 0 0),(5,.ptr 1 0),(6,.ptr 2 0),(8,.sl 3 0 l3.length 1 false),(9,.sl 4 0 l4.length 1 false),(10,.sl 5 0 l5.length 1 false)]) (fun l5=>[some ⟨91,aR t⟩,some ⟨78,cK o⟩,some ⟨26,(a0H 32 0).map (eI .u8)⟩,some ⟨5,l3.map (eI .u8)⟩,some ⟨5,l4.map (eI .u8)⟩,some ⟨5,l5.map (eI .u8)⟩]) ?_ (body:= ?_)
    rotate_left
    ·clear hr
     intro l5 hr
     unfold pJ at hr
     obtain⟨x72,h_3,hr⟩:=aN hr
     refine zz ?_
     refine zc (dK h_3) [] ?_
     obtain⟨x75,h_4,x76,h_5,hr⟩:=b8 hr
     refine zz ?_
     refine kX (i9 h_4) [] [3] ?_
     refine kX (e9 h_5) [] [6] ?_
     obtain⟨x79,h_6,x80,h_7,hr⟩:=b8 hr
     refine zz ?_
     refine kX (i9 h_6) [] [4] ?_
     refine kX (e9 h_7) [] [7] ?_
     obtain⟨x83,h_8,x84,h_9,hr⟩:=b8 hr
     refine zz ?_
     refine kX (i9 h_8) [] [5] ?_
     refine kX (e9 h_9) [] [8] ?_
     obtain⟨x88,h_10,hr⟩:=aN hr
     refine zz ?_
     refine kX (dK h_10) [] [9] ?_
     obtain⟨x92,h_11,hr⟩:=aN hr
     refine zz ?_
     refine kX (dK h_11) [] [10] ?_
     obtain⟨x95,h_12,x96,h_13,x97,h_14,q,h_15,hr⟩:=aAS hr
     refine zz ?_
     refine zc (aFB h_12) [] ?_
     refine zz ?_
     refine kX (aCq h_14) [] [13] ?_
     refine zz ?_
     replace hr:=sj hr
     subst hr
     exact zr2 Tryz.results136 dO dO (zg' [])
    obtain⟨res5,hL5,hr⟩:=aN hr
    refine zz ?_
    exact a0F<|dB hL5 (fun x61 dP=>[(1,eI .i64 vi),(3,.ptr 0 0),(5,.ptr 1 0),(6,.ptr 2 0),(8,.sl 3 0 l3.length 1 false),(9,.sl 4 0 l4.length 1 false),(10,.sl 5 0 dP.length 1 false),(59,.row none 2 (t.Outputs.map cH)),(60,eI .i64 (t.Outputs.length:Int)),(61,eI .i64 x61)]) (fun x61 dP=>[some ⟨91,aR t⟩,some ⟨78,cK o⟩,some ⟨26,(a0H 32 0).map (eI .u8)⟩,some ⟨5,l3.map (eI .u8)⟩,some ⟨5,l4.map (eI .u8)⟩,some ⟨5,dP.map (eI .u8)⟩]) (h0:=(zW 5 [0,1,2,3,4,5]))
   obtain⟨res6,hL6,hr⟩:=aN hr
   refine zz ?_
   exact a0F<|lp3 hL6 (fun x44 eF dQ=>[(1,eI .i64 vi),(3,.ptr 0 0),(5,.ptr 1 0),(6,.ptr 2 0),(8,.sl 3 0 eF.length 1 false),(9,.sl 4 0 dQ.length 1 false),(10,.row (some true) 1 []),(42,.row none 35 (t.Inputs.map bU)),(43,eI .i64 (t.Inputs.length:Int)),(44,eI .i64 x44)]) (fun x44 eF dQ=>[some ⟨91,aR t⟩,some ⟨78,cK o⟩,some ⟨26,(a0H 32 0).map (eI .u8)⟩,some ⟨5,eF.map (eI .u8)⟩,some ⟨5,dQ.map (eI .u8)⟩]) (h0:=(a0N (a0U (fr':=[(1,eI .i64 vi),(3,.ptr 0 0),(5,.ptr 1 0),(6,.ptr 2 0),(8,.sl 3 0 0 1 false),(9,.row (some true) 1 []),(10,.row (some true) 1 []),(42,.row none 35 (t.Inputs.map bU)),(43,eI .i64 (t.Inputs.length:Int)),(44,eI .i64 0)]) (h1:=[some ⟨91,aR t⟩,some ⟨78,cK o⟩,some ⟨26,(a0H 32 0).map (eI .u8)⟩]) 5 (FLe.same rfl (FLe.same rfl (FLe.same rfl (FLe.same rfl (FLe.le rfl (V.le_virt rfl) (FLe.same rfl (FLe.same rfl (FLe.same rfl (FLe.same rfl (FLe.same rfl FLe.nil)))))))))) (HLv.live (V.les_refl _ _) rfl (HLv.live (V.les_refl _ _) rfl (HLv.live (V.les_refl _ _) (all_map (fun _=>rfl) _) HLv.nil)))) (zW 5 [0,1,2,3,4])))
  exact zE
 exact zE
instance :CtC 136 true (aX @aAG):=⟨@aAG⟩
theorem aCF {N o r} (hr:aLL N o=some r):
  Fp 262 [] [kA o] (eI .i64 r) []:=by
 refine bR func262 ntmps262 results262 fun hR=> ?_
 refine zz ?_
 refine a0G<|a0F ?_
 obtain⟨h1,hr⟩:=cutF hr
 refine xq ?_
 refine zz ?_
 obtain⟨h2,hr⟩:=cutF hr
 refine a0K rfl h2<|a0G ?_
 refine bV (aDm N o) (fun x12=>[(1,.ptr 0 0),(12,eB x12)]) (fun x12=>[some ⟨263,eT o⟩]) ?_ (body:= ?_)
 rotate_left
 ·clear hr
  intro x12 hr
  obtain⟨h3,hr⟩:=cutF hr
  refine a0K rfl h3 ?_
  obtain⟨h4,hr⟩:=cutF hr
  obtain⟨h5,hr⟩:=cutF hr
  refine xr<|zz ?_
  refine a0K rfl rfl ?_
  refine zz ?_
  obtain⟨h6,hr⟩:=cutF hr
  refine a0K rfl h6 ?_
  obtain⟨h7,hr⟩:=cutF hr
  refine xq ?_
  refine zz ?_
  refine a0K rfl rfl ?_
  exact zE
 exact zE
instance :CtC 262 true (aX @aCF):=⟨@aCF⟩
theorem aGn {N b r} (hr:aOl N b=some r):
  Fp 246 [] [.row none 1 (b.map (eI .u8))] (.tup [.agg [eI .i64 r.1,.sl 0 0 r.2.1.length 1 false,eI .i64 r.2.2.1,eI .i64 r.2.2.2.1],.row none 1 (r.2.2.2.2.1.map (eI .u8)),eI .i64 r.2.2.2.2.2]) [some ⟨5,r.2.1.map (eI .u8)⟩]:=by
 refine bR func246 ntmps246 results246 fun hR=> ?_
 obtain⟨x8,h_1,hr⟩:=aN hr
 refine zz ?_
 refine a0G ?_
 obtain⟨h2,hr⟩:=cutF hr
 refine xq ?_
 refine zz ?_
 obtain⟨h3,hr⟩:=cutF hr
 refine a0K rfl h3 ?_
 obtain⟨x22,h_4,hr⟩:=aN hr
 refine zz ?_
 refine sk2 (aF9 N x8) (fun b_1 l2=>[(0,.row none 1 (b_1.map (eI .u8))),(2,.ptr 0 0),(5,.ptr 1 0)]) (fun b_1 l2=>[some ⟨263,[eI .i64 0,.row (some true) 1 [],eI .i64 0,eI .i64 0]⟩,some ⟨263,[eI .i64 (a0I.wrap x8),.sl 2 0 l2.length 1 false,eI .i64 0,eI .i64 0]⟩,some ⟨5,l2.map (eI .u8)⟩]) ?_ (body:= ?_)
 rotate_left
 ·clear hr
  intro b_1 l2 hr
  refine a0G ?_
  obtain⟨x76,h_5,hr⟩:=aN hr
  refine a0Q mixed [] [262] [[0,1,2,3,4,5,6]]<|zz ?_
  refine xG (v:=(eI .i64 x76)) (h':=[some ⟨263,[eI .i64 0,.row (some true) 1 [],eI .i64 0,eI .i64 0]⟩,some ⟨263,[eI .i64 (a0I.wrap x8),.sl 2 0 l2.length 1 false,eI .i64 0,eI .i64 0]⟩,some ⟨5,l2.map (eI .u8)⟩]) rfl (Vm.Fn.lendR (aCF h_5) [] [2] (by decide) rfl (by decide) Lend.nil (Brw.row (aXj (aIQ rfl (aIQ (aTF (d:=3) rfl rfl (fun _=>rfl)) (aIQ rfl (aIQ rfl aXc))))) Brw.nil) rfl rfB.nil rfl zH) ?_
  exact zE
 refine zz ?_
 refine a0F ?_
 refine zz ?_
 refine zk hr ?_ ?_<;>intro h7 hr
 ·refine a0G ?_
  obtain⟨h8,hr⟩:=cutF hr
  obtain⟨x35,h_9,hr⟩:=aN hr
  refine xq ?_
  refine zz ?_
  obtain⟨h10,hr⟩:=cutF hr
  refine a0K rfl h10 ?_
  obtain⟨x48,h_11,x50,h_12,x53,h_14,hr⟩:=fE hr
  refine zz ?_
  refine AB.rd (cD []) (cD [91]) mixed<|a0J (m:=3) [0,1,2,3,4,5,6,8] ?_
  refine zz ?_
  refine y7 (qB h_12) [] [2] ?_
  refine zz ?_
  refine a0T (m:=1) (L:=lst [0,1,2,3,4,5,6,7,8,9] 11) (s1:=aG 77 [(0,.row none 1 (x22.map (eI .u8))),(2,.ptr 0 0),(5,.ptr 1 0),(53,.row none 1 (x53.map (eI .u8)))]) (h1:=[some ⟨263,[eI .i64 0,.row (some true) 1 [],eI .i64 0,eI .i64 0]⟩,some ⟨263,[eI .i64 (a0I.wrap x8),.sl 2 0 x50.length 1 false,eI .i64 0,eI .i64 0]⟩,some ⟨5,x50.map (eI .u8)⟩]) ?_ (fun J=> ?_)
  ·refine a0J (m:=0) [10]<|zz ?_
   refine a0R (by decide +kernel) ?_
   exact zE
  refine a0O (n:=2) [7,9] ⟨?_, ?_,trivial⟩
  ·refine zz ?_
   refine a0J (m:=1) [9]<|zz ?_
   refine a0L J ?_
   exact(zG [0,1,3])
  refine zz ?_
  refine a0J (m:=1) [7]<|zz ?_
  refine a0L J ?_
  exact(zG [0,1,3])
 refine zz ?_
 obtain⟨h15,hr⟩:=cutF hr
 refine a0K rfl h15 ?_
 refine zz ?_
 exact⟨_,_,hr,a0N (a0U (fr':=[(0,.row none 1 (x22.map (eI .u8))),(2,.ptr 0 0),(5,.ptr 1 0)]) (h1:=[some ⟨263,[eI .i64 0,.row (some true) 1 [],eI .i64 0,eI .i64 0]⟩,some ⟨263,[eI .i64 (a0I.wrap x8),.sl 2 0 0 1 false,eI .i64 0,eI .i64 0]⟩]) 5 (FLe.same rfl (FLe.same rfl (FLe.same rfl FLe.nil))) (HLv.live (V.les_refl _ _) rfl (HLv.live (V.les_cons (V.le_refl _ _) (V.les_cons (V.le_virt rfl) (V.les_cons (V.le_refl _ _) (V.les_cons (V.le_refl _ _) V.les_nil)))) rfl HLv.nil))) (zg' [0,1,2])⟩
instance :CtC 246 false (aX @aGn):=⟨@aGn⟩
theorem aDh {N b r} (hr:aHr N b=some r):
  Fp 224 [] [.row none 1 (b.map (eI .u8))] (.tup [.sl 0 0 r.1.length 4 true,eI .i64 r.2]) [some ⟨263,r.1.flatMap eT⟩]:=by
 refine bR func224 ntmps224 results224 fun hR=> ?_
 refine zz ?_
 refine a0G<|zz ?_
 refine zk hr ?_ ?_<;>intro h1 hr<;>refine zz ?_
 ·replace hr:=sj hr
  subst hr
  exact zr2 Tryz.results224 dO dO (zW 263 [0])
 refine bV (aH5 N) (fun l0=>[(4,.sl 0 0 l0.length 4 true)]) (fun l0=>[some ⟨263,l0.flatMap eT⟩]) ?_
 obtain⟨cM,hL2,hr⟩:=aN hr
 refine a0F<|dB hL2 (fun b_1 aK=>[(0,.row none 1 (b_1.map (eI .u8))),(4,.sl 0 0 aK.length 4 true)]) (fun b_1 aK=>[some ⟨263,aK.flatMap eT⟩]) (h0:=(zW 263 [0])) (round:= ?_)
 intro m2 b_1 aK hr
 refine a0G<|zz ?_
 refine zk hr ?_ ?_<;>clear hr<;>intro h2 hr<;>refine zz ?_
 ·refine a0F ?_
  replace hr:=aN hr
  obtain⟨x16,h_3,hr⟩:=hr
  refine zz ?_
  refine zc (aGn h_3) [] ?_
  refine zz ?_
  refine a0G<|zz ?_
  refine zk hr ?_ ?_<;>clear hr<;>intro h4 hr
  ·refine zz ?_
   replace hr:=sj hr
   subst hr
   replace hr:=sj hr
   subst hr
   exact zr2 Tryz.results224 dO dO (zW 263 [3])
  replace hr:=aN hr
  obtain⟨x26,h_5,hr⟩:=hr
  refine zz ?_
  refine a0S (zQ [1,0,1])<|mC eT 4 [cG.mk x16.1 x16.2.1 x16.2.2.1 x16.2.2.2.1] ?_
  exact zE
 exact zE
instance :CtC 224 false (aX @aDh):=⟨@aDh⟩
theorem aBV {N l r} (hr:wO N l=some r):
  Fp 225 [] [.row none 4 (l.map kA)] (eB r) []:=by
 refine bR func225 ntmps225 results225 fun hR=> ?_
 refine zz ?_
 refine fT (aGM N) [(3,.row (some true) 1 [])] [] ?_
 obtain⟨cM,hL2,hr⟩:=aN hr
 refine zz ?_
 exact a0F<|gQ hL2 (fun x8=>[(3,.row (some true) 1 []),(6,.row none 4 (l.map kA)),(7,eI .i64 (l.length:Int)),(8,eI .i64 x8)]) (fun x8=>[])
instance :CtC 225 true (aX @aBV):=⟨@aBV⟩
theorem aEm {N vs r} (hr:aBt N vs=some r):
  Fp 226 [] [.row none 1 (vs.map (eL 1 (eI .u8)))] (eB r) []:=by
 refine bR func226 ntmps226 results226 fun hR=> ?_
 refine zz ?_
 refine a0G<|zz ?_
 refine zk hr ?_ ?_<;>intro h1 hr<;>refine zz ?_
 ·exact zE
 refine fT (aJF N) [] [] ?_
 obtain⟨cM,hL2,hr⟩:=aN hr
 refine zz ?_
 exact a0F<|gQ hL2 (fun x10=>[(8,.row none 1 (vs.map (eL 1 (eI .u8)))),(9,eI .i64 (vs.length:Int)),(10,eI .i64 x10)]) (fun x10=>[])
instance :CtC 226 true (aX @aEm):=⟨@aEm⟩
theorem aBw {N l r} (hr:wF N l=some r):
  Fp 227 [] [.row none 1 (l.map (eL 1 (eI .u8)))] (.sl 0 0 r.length 1 false) [some ⟨22,r.map (eL 1 (eI .u8))⟩]:=by
 refine bR func227 ntmps227 results227 fun hR=> ?_
 obtain⟨x8,h_1,hr⟩:=aN hr
 refine zz ?_
 refine xw (v:=(.sl 0 0 0 1 false)) (h':=[some ⟨22,x8.map (eL 1 (eI .u8))⟩]) (aNO rfl rfl (mkC (E:=(eL 1 (eI .u8))) (y:=([]:List Int)) aNH lA ⟨zl,rfl,rfl⟩ rfl rfl rfl h_1 rfl rfl)) ?_
 refine zz ?_
 refine bV (aGA N) (fun l0=>[(3,.sl 0 0 l0.length 1 false)]) (fun l0=>[some ⟨22,l0.map (eL 1 (eI .u8))⟩]) ?_
 refine zz ?_
 refine AB.ghost (Ghost.cutM (t:=3) (E:=(eL 1 (eI .u8))) (l:=x8) (x:=[]) (h':=[some ⟨22,[].map (eL 1 (eI .u8))⟩]) rfl rfl aZm rfl) ?_
 obtain⟨cM,hL2,hr⟩:=aN hr
 refine a0F<|dB hL2 (fun x11 aK=>[(3,.sl 0 0 aK.length 1 false),(9,.row none 1 (l.map (eL 1 (eI .u8)))),(10,eI .i64 (l.length:Int)),(11,eI .i64 x11)]) (fun x11 aK=>[some ⟨22,aK.map (eL 1 (eI .u8))⟩]) (round:= ?_)
 intro m2 x11 aK hr
 refine zz ?_
 refine a0G ?_
 refine zk hr ?_ ?_<;>clear hr<;>intro h2 hr<;>refine zz ?_
 ·refine a0G<|a0F ?_
  replace hr:=fE hr
  obtain⟨x13,h_3,x18,h_4,x20,h_5,hr⟩:=hr
  refine zz ?_
  refine kX (qB h_4) [] [1] ?_
  refine a0S (zv 2) ?_
  exact zE
 exact zE
instance :CtC 227 false (aX @aBw):=⟨@aBw⟩
theorem aGU {N l r} (hr:aGi N l=some r):
  Fp 228 [] [.row none 2 (l.map aF5)] (eB r) []:=by
 refine bR func228 ntmps228 results228 fun hR=> ?_
 unfold aGi at hr
 refine zz ?_
 refine bV (vJ N) (fun x2=>[(2,eB x2)]) (fun x2=>[]) ?_
 exact zE
instance :CtC 228 true (aX @aGU):=⟨@aGU⟩
theorem aIb {N o r} (hr:aLA N o=some r):
  Fp 229 [] [kA o] (eI .i64 r) []:=
 fR func229 ntmps229 results229
instance :CtC 229 true (aX @aIb):=⟨@aIb⟩
theorem aIa {N o r} (hr:aLu N o=some r):
  Fp 230 [] [kA o] (eI .i64 r) []:=by
 refine bR func230 ntmps230 results230 fun hR=> ?_
 refine zz ?_
 refine a0G<|zz ?_
 refine a0F<|a0G ?_
 refine zz ?_
 obtain⟨h1,hr⟩:=cutF hr
 refine a0K rfl h1 ?_
 refine zz ?_
 obtain⟨h2,hr⟩:=cutF hr
 refine a0K rfl h2 ?_
 refine zz ?_
 obtain⟨h3,hr⟩:=cutF hr
 refine a0K rfl h3 ?_
 refine zz ?_
 obtain⟨h4,hr⟩:=cutF hr
 refine a0K rfl h4 ?_
 refine zz ?_
 obtain⟨h5,hr⟩:=cutF hr
 refine a0K rfl h5 ?_
 refine zz ?_
 obtain⟨h6,hr⟩:=cutF hr
 refine a0K rfl h6 ?_
 refine zz ?_
 obtain⟨h7,hr⟩:=cutF hr
 refine a0K rfl h7 ?_
 refine zz ?_
 obtain⟨h8,hr⟩:=cutF hr
 refine a0K rfl h8 ?_
 refine zz ?_
 obtain⟨h9,hr⟩:=cutF hr
 refine a0K rfl h9 ?_
 refine bV (aCI N o) (fun x15=>[(1,.ptr 0 0),(4,eI .i64 o.Code),(15,eB x15)]) (fun x15=>[some ⟨263,eT o⟩]) ?_
 exact zE
instance :CtC 230 true (aX @aIa):=⟨@aIa⟩
theorem aJx {N b r} (hr:aBY N b=some r):
  Fp 186 [] [.row none 1 (b.map (eI .u8))] (eB r) []:=by
 refine bR func186 ntmps186 results186 fun hR=> ?_
 refine zz ?_
 refine fT (aJq N) [] [] ?_
 obtain⟨cM,hL2,hr⟩:=aN hr
 refine zz ?_
 exact a0F<|gQ hL2 (fun x7=>[(5,.row none 1 (b.map (eI .u8))),(6,eI .i64 (b.length:Int)),(7,eI .i64 x7)]) (fun x7=>[])
instance :CtC 186 true (aX @aJx):=⟨@aJx⟩
theorem aGF {N vs mS r} (hr:aJR N vs mS=some r):
  Fp 247 [] [.row none 1 (vs.map (eL 1 (eI .u8))),.row none 1 (mS.map (eI .u8))] (.tup [.sl 0 0 r.1.length 1 false,eI .i64 r.2]) [some ⟨22,r.1.map (eL 1 (eI .u8))⟩]:=by
 refine bR func247 ntmps247 results247 fun hR=> ?_
 refine zz ?_
 refine a0G<|zz ?_
 refine zk hr ?_ ?_<;>intro h1 hr
 ·refine zz ?_
  replace hr:=sj hr
  subst hr
  exact zr2 Tryz.results247 dO dO (zW 22 [0])
 exact zE
instance :CtC 247 false (aX @aGF):=⟨@aGF⟩
theorem aJJ {N va b r} (hr:yJ N va b=some r):
  Fp 56 [] [.row none 1 (va.map (eI .u8)),.row none 1 (b.map (eI .u8))] (eB r) []:=by
 refine bR func56 ntmps56 results56 fun hR=> ?_
 refine zz ?_
 refine xw (v:=(eS (iG va))) (aFN rfl (aK4 lA ti9 oS (aHs (fun _=>rfl)))) ?_
 refine zz ?_
 refine xw (v:=(eS (iG b))) (aFN rfl (aK4 lA ti9 oS (aHs (fun _=>rfl))))<|xw (jB rfl rfl (aQC ..)) ?_
 exact zE
instance :CtC 56 true (aX @aJJ):=⟨@aJJ⟩
theorem aJu {N vn r} (hr:aIM N vn=some r):
  Fp 249 [] [eI .u32 vn] (.sl 0 0 r.length 1 false) [some ⟨5,r.map (eI .u8)⟩]:=by
 refine bR func249 ntmps249 results249 fun hR=> ?_
 refine zz ?_
 refine bV (aJK N) (fun l0=>[(3,.sl 0 0 l0.length 1 false)]) (fun l0=>[some ⟨5,l0.map (eI .u8)⟩]) ?_
 obtain⟨cM,hL2,hr⟩:=aN hr
 exact a0F<|dB hL2 (fun vn_1 aK=>[(0,eI .u32 vn_1),(3,.sl 0 0 aK.length 1 false)]) (fun vn_1 aK=>[some ⟨5,aK.map (eI .u8)⟩]) (h0:=(zW 5 [0]))
instance :CtC 249 false (aX @aJu):=⟨@aJu⟩
theorem aH6 {N b r} (hr:aDB N b=some r):
  Fp 248 [] [eB b] (.row none 1 (r.map (eI .u8))) []:=
 fR func248 ntmps248 results248
instance :CtC 248 true (aX @aH6):=⟨@aH6⟩
theorem aJC {N o vs v r} (hr:aB6 N o vs v=some r):
  Fp 231 [] [kA o,.row none 1 (vs.map (eL 1 (eI .u8))),aDW v] (.tup [.row none 1 (r.1.map (eL 1 (eI .u8))),eI .i64 r.2]) []:=by
 refine bR func231 ntmps231 results231 fun hR=> ?_
 refine zz ?_
 refine a0G<|zz ?_
 refine a0F ?_
 refine zz ?_
 refine zk hr ?_ ?_<;>intro h1 hr
 ·obtain⟨x25,h_2,x26,h_3,hr⟩:=b8 hr
  refine zz ?_
  refine kX (qB h_2) [] [2] ?_
  refine a0S (zv 3) ?_
  exact zE
 exact zE
instance :CtC 231 true (aX @aJC):=⟨@aJC⟩
theorem aKj {N b stack v r} (hr:xE N b stack v=some r):
  Fp 185 [] [.row none 1 (b.map (eI .u8)),.row none 1 (stack.map (eL 1 (eI .u8))),aDW v] (.tup [.row none 1 (r.1.map (eL 1 (eI .u8))),eI .i64 r.2.1,eI .i64 r.2.2]) []:=by
 refine bR func185 ntmps185 results185 fun hR=> ?_
 obtain⟨x20,h_1,hr⟩:=aN hr
 refine zz ?_
 refine zc (aDh h_1) [] ?_
 refine zz ?_
 refine a0G<|zz ?_
 obtain⟨h2,hr⟩:=cutF hr
 refine a0K rfl h2 ?_
 refine zz ?_
 obtain⟨x27,h_3,hr⟩:=aN hr
 refine a0G<|zz ?_
 refine kX (aBV h_3) [] [1] ?_
 refine zz ?_
 obtain⟨h4,hr⟩:=cutF hr
 refine a0K rfl h4 ?_
 refine zz ?_
 obtain⟨x30,h_5,hr⟩:=aN hr
 refine a0G<|zz ?_
 refine xp (aEm h_5) ?_
 refine zz ?_
 obtain⟨h6,hr⟩:=cutF hr
 refine a0K rfl h6 ?_
 obtain⟨x32,h_7,hr⟩:=aN hr
 refine zz ?_
 refine zc (aBw h_7) [] ?_
 refine zz ?_
 refine sk2 (aKf N) (fun vs cost=>[(11,.row none 1 (vs.map (eL 1 (eI .u8)))),(12,eI .i64 cost)]) (fun vs cost=>[]) ?_
 refine zz ?_
 refine AB.ghost (zv 2) ?_
 obtain⟨cM,hL2,hr⟩:=aN hr
 refine a0F<|lp3 hL2 (fun sI cost_1 x35=>[(5,.ptr 0 0),(11,.row none 1 (sI.map (eL 1 (eI .u8)))),(12,eI .i64 cost_1),(13,.row (some true) 1 []),(33,.sl 1 0 x20.1.length 4 true),(34,eI .i64 (x20.1.length:Int)),(35,eI .i64 x35)]) (fun sI cost_1 x35=>[some ⟨191,aAZ v⟩,some ⟨263,x20.1.flatMap eT⟩]) (round:= ?_)
 intro m2 sI cost_1 x35 hr
 refine zz ?_
 refine a0G ?_
 refine zk hr ?_ ?_<;>clear hr<;>intro h8 hr<;>refine zz ?_
 ·refine a0G<|a0F ?_
  replace hr:=aN hr
  obtain⟨x37,h_9,hr⟩:=hr
  refine zz ?_
  refine xw (v:=(kA x37)) (cP rfl (vF (C:=eT) (K:=4) (fun _=>rfl) rfl h_9 (nJ (ds:=[eI .i64 x37.Code,.row none 1 (x37.Data.map (eI .u8)),eI .i64 x37.M,eI .i64 x37.N]) aGw rfl zl rfl))) ?_
  exact zE
 exact zE
instance :CtC 185 true (aX @aKj):=⟨@aKj⟩
theorem xF {N b bD v r} (hr:fM N b bD v=some r):
  Fp 137 [] [.row none 1 (b.map (eI .u8)),.row none 1 (bD.map (eL 1 (eI .u8))),aDW v] (eI .i64 r) []:=
 fR func137 ntmps137 results137
instance :CtC 137 true (aX @xF):=⟨@xF⟩
theorem aH3 {N t vi c height r} (hr:uU N t vi c height=some r):
  Fp 87 [] [aY t,eI .i64 vi,aM c,eI .i64 height] (eI .i64 r) []:=by
 refine bR func87 ntmps87 results87 fun hR=> ?_
 obtain⟨x16,h_1,q,h_2,hr⟩:=b8 hr
 refine zz ?_
 refine xp (aAG h_1) ?_
 refine zz ?_
 refine a0G<|zz ?_
 refine zk hr ?_ ?_<;>intro h3 hr<;>refine zz ?_
 ·exact zE
 refine a0G<|a0G ?_
 obtain⟨x25,h_4,hr⟩:=aN hr
 refine a0Q mixed [] [] [[0,1,2,3,4,5,6,7,8]]<|zz ?_
 refine xw (v:=(eB (!(jS x25.Prev.Tx c.Out.Tx ((x25.Prev.Index == c.Out.Index)&&true))))) (jB rfl rfl (aIU (d:=9) lU rfl aFp zl aIN rfl rfl rfl rfl rfl)) ?_
 refine zz ?_
 refine zk hr ?_ ?_<;>intro h5 hr<;>refine zz ?_
 ·exact zE
 refine a0G ?_
 refine bV (jM N t vi c height x16) (fun x43=>[(1,eI .i64 vi),(3,eI .i64 height),(4,.ptr 0 0),(6,.ptr 1 0),(9,.ptr 2 0),(43,eB x43)]) (fun x43=>[some ⟨91,aR t⟩,some ⟨80,aH c⟩,some ⟨26,x16.1.map (eI .u8)⟩]) ?_ (body:= ?_)
 rotate_left
 ·clear hr
  intro x43 hr
  refine zk hr ?_ ?_<;>intro h6 hr<;>refine zz ?_
  ·exact zE
  refine a0G ?_
  obtain⟨x50,h_7,x60,h_8,hr⟩:=b8 hr
  refine a0Q mixed [137] [] [[0,1,2,3,4,5,6,7,8,9,10,11,12,13,14,15,16,17]]<|zz ?_
  refine xw (v:=(.agg (aL (eI .u8) x16.1 [eI .i64 height,eI .i64 (a0I.wrap (height-c.Height))]))) (cI rfl (aI6 (ps':=[(0,.agg (aL (eI .u8) x16.1 [])),(1,eI .i64 height),(2,eI .i64 (a0I.wrap (height-c.Height)))]) (by simp only[dG (l:=x16.1) (aT h_2)]<;>rfl) (iM aEP aPl (by kernel_rfl))))<|xu (xF h_8) ?_
  exact zE
 exact zE
instance :CtC 87 true (aX @aH3):=⟨@aH3⟩
theorem aCD {N t l height r} (hr:jX N t l height=some r):
  Fp 47 [] [aY t,.row none 37 (l.map aM),eI .i64 height] (.tup [eI .i64 r.1,eI .i64 r.2]) []:=by
 refine bR func47 ntmps47 results47 fun hR=> ?_
 refine zz ?_
 obtain⟨x13,h_1,hr⟩:=aN hr
 refine a0G<|zz ?_
 refine xp (mW h_1) ?_
 refine zz ?_
 refine zk hr ?_ ?_<;>intro h2 hr
 ·exact zE
 obtain⟨x17,h_3,hr⟩:=aN hr
 refine zz ?_
 refine xp (aFs h_3) ?_
 refine zz ?_
 refine a0G<|zz ?_
 refine zk hr ?_ ?_<;>intro h4 hr<;>refine zz ?_
 ·exact zE
 obtain⟨x25,h_5,hr⟩:=aN hr
 refine a0G<|zz ?_
 refine xp (aDb h_5) ?_
 refine zz ?_
 refine zk hr ?_ ?_<;>intro h6 hr<;>refine zz ?_
 ·exact zE
 refine fT (aHJ N x17) [(8,eI .i64 x17.1)] [] ?_
 obtain⟨cM,hL2,hr⟩:=aN hr
 refine zz ?_
 exact a0F<|gQ hL2 (fun x29=>[(1,.row none 37 (l.map aM)),(2,eI .i64 height),(3,.ptr 0 0),(8,eI .i64 x17.1),(28,eI .i64 (l.length:Int)),(29,eI .i64 x29)]) (fun x29=>[some ⟨91,aR t⟩])
instance :CtC 47 true (aX @aCD):=⟨@aCD⟩
theorem aAL {N l vi r} (hr:aAr N l vi=some r):
  Fp 48 [] [.row none 37 (l.map aM),eI .i64 vi] (.sl 0 0 r.length 37 true) [some ⟨80,r.flatMap aH⟩]:=
 fR func48 ntmps48 results48
instance :CtC 48 false (aX @aAL):=⟨@aAL⟩
theorem pH {N t height r} (hr:pZ N t height=some r):
  Fp 52 [] [aY t,eI .i64 height] (.sl 0 0 r.length 37 true) [some ⟨80,r.flatMap aH⟩]:=by
 refine bR func52 ntmps52 results52 fun hR=> ?_
 obtain⟨x10,h_1,q,h_2,hr⟩:=b8 hr
 refine zz ?_
 refine xp (zY h_1) ?_
 refine zz ?_
 refine bV (aAM N) (fun l0=>[(5,.sl 0 0 l0.length 37 true)]) (fun l0=>[some ⟨80,l0.flatMap aH⟩]) ?_
 obtain⟨cM,hL2,hr⟩:=aN hr
 refine zz ?_
 refine a0F<|dB hL2 (fun x14 l1=>[(1,eI .i64 height),(2,.ptr 0 0),(5,.sl 1 0 l1.length 37 true),(6,.ptr 2 0),(12,.row none 2 (t.Outputs.map cH)),(13,eI .i64 (t.Outputs.length:Int)),(14,eI .i64 x14)]) (fun x14 l1=>[some ⟨91,aR t⟩,some ⟨80,l1.flatMap aH⟩,some ⟨26,x10.map (eI .u8)⟩]) (h0:=(zW 80 [0,2,1])) (round:= ?_)
 intro m2 x14 l1 hr
 refine zz ?_
 refine a0G ?_
 refine zk hr ?_ ?_<;>clear hr<;>intro h3 hr<;>refine zz ?_
 ·refine a0G<|a0F ?_
  replace hr:=fE hr
  obtain⟨x17,h_4,x27,h_5,x30,h_7,hr⟩:=hr
  refine zz ?_
  refine a0Q mixed [85] [] [[0,1,2,3,4,5,6,7,8,9,10,11,12]]<|zz ?_
  refine xw (v:=(.agg (aL (eI .u8) x10 [eI .u32 (a0P.wrap x14)]))) (cI rfl (aI6 (ps':=[(0,.agg (aL (eI .u8) x10 [])),(1,eI .u32 (a0P.wrap x14))]) (by simp only[dG (l:=x10) (aT h_2)]<;>rfl) (iM lU aIY (by kernel_rfl)))) ?_
  refine zz ?_
  refine xu (mW h_5)<|xw (v:=(.agg (aL (eI .u8) x10 [eI .u32 (a0P.wrap x14),eI .i64 x17.Value,.row none 1 (x17.Script.map (eI .u8)),eI .i64 height,eB x27]))) (cI rfl (iM rC aQU rfl))<|mC aH 37 [aA.mk (aC.mk x10 (a0P.wrap x14)) x17 height x27] ?_
  exact zE
 exact zE
instance :CtC 52 false (aX @pH):=⟨@pH⟩
theorem aEz {N l c r} (hr:aBI N l c=some r):
  Fp 88 [] [.row none 37 (l.map aM),aM c] (.sl 0 0 r.length 37 true) [some ⟨80,r.flatMap aH⟩]:=by
 refine bR func88 ntmps88 results88 fun hR=> ?_
 refine zz ?_
 refine bV (aEB N l c) (fun l1=>[(0,.row none 37 (l.map aM)),(3,.ptr 0 0),(5,.sl 1 0 l1.length 37 true)]) (fun l1=>[some ⟨80,aH c⟩,some ⟨80,l1.flatMap aH⟩]) ?_ (body:= ?_)
 rotate_left
 ·clear hr
  intro l1 hr
  refine a0G ?_
  obtain⟨x31,h_1,x33,h_3,x37,h_4,x38,h_5,hr⟩:=aAS hr
  refine AB.rd (cD [57]) (cD []) mixed<|a0J (m:=5) [0,1,2,3,5,6] ?_
  refine zz ?_
  refine xu (rO h_1)<|mC aH 37 [x31] ?_
  refine zz ?_
  refine a0T (m:=2) (L:=lst [0,1,2,3,4,5,6,7,8] 11) (s1:=aG 39 [(33,.sl 0 0 x33.length 37 true),(37,.row none 37 (x37.map aM))]) (h1:=[some ⟨80,x33.flatMap aH⟩]) ?_ (fun J=> ?_)
  ·refine a0J (m:=0) [9,10]<|zz ?_
   refine a0R (by decide +kernel) ?_
   exact zE
  refine a0O (n:=4) [4,7] ⟨?_, ?_,trivial⟩
  ·refine zz ?_
   refine a0J (m:=2) [7,8]<|zz ?_
   refine a0L J ?_
   exact(zG [3])
  refine zz ?_
  refine a0O (n:=3) [4,8] ⟨?_, ?_,trivial⟩
  ·refine zz ?_
   refine a0J (m:=2) [8]<|zz ?_
   refine a0L J ?_
   exact(zG [3])
  refine zz ?_
  refine a0J (m:=2) [4]<|zz ?_
  refine a0L J ?_
  exact(zG [3])
 obtain⟨cM,hL2,hr⟩:=aN hr
 refine zz ?_
 refine a0F<|dB hL2 (fun x9 bH=>[(0,.row none 37 (l.map aM)),(3,.ptr 0 0),(5,.sl 1 0 bH.length 37 true),(8,eI .i64 (l.length:Int)),(9,eI .i64 x9)]) (fun x9 bH=>[some ⟨80,aH c⟩,some ⟨80,bH.flatMap aH⟩]) (h0:=(zW 80 [0,1])) (round:= ?_)
 intro m2 x9 bH hr
 refine zz ?_
 refine a0G ?_
 refine zk hr ?_ ?_<;>clear hr<;>intro h6 hr<;>refine zz ?_
 ·refine bV (aAx N l c x9 (mU N l c m2)) (fun cF=>[(0,.row none 37 (l.map aM)),(3,.ptr 0 0),(5,.sl 1 0 cF.length 37 true),(8,eI .i64 (l.length:Int)),(9,eI .i64 x9)]) (fun cF=>[some ⟨80,aH c⟩,some ⟨80,cF.flatMap aH⟩]) ?_
  refine a0F ?_
  refine zz ?_
  refine a0G ?_
  replace hr:=b8 hr
  obtain⟨x14,h_7,x19,h_8,hr⟩:=hr
  refine a0Q mixed [104] [] [[0,1,2,3,4,5,6,7,8]]<|zz ?_
  refine xu (tF h_8) ?_
  refine zz ?_
  refine zk hr ?_ ?_<;>clear hr<;>intro h10 hr
  ·replace hr:=aN hr
   obtain⟨x27,h_11,hr⟩:=hr
   refine zz ?_
   refine mC aH 37 [x14] ?_
   exact zE
  exact zE
 exact zE
instance :CtC 88 false (aX @aEz):=⟨@aEz⟩
theorem aKN {N l t height r} (hr:aDJ N l t height=some r):
  Fp 50 [] [.row none 37 (l.map aM),aY t,eI .i64 height] (.tup [.row none 37 (r.1.map aM),eI .i64 r.2]) []:=by
 refine bR func50 ntmps50 results50 fun hR=> ?_
 refine zz ?_
 refine fT (aBJ N l t height) [(0,.row none 37 (l.map aM)),(2,eI .i64 height),(4,.ptr 0 0)] [some ⟨91,aR t⟩] ?_ (body:= ?_)
 rotate_left
 ·clear hr
  intro hr
  refine bV (aK3 N) (fun l_1=>[(0,.row none 37 (l_1.map aM))]) (fun l_1=>[]) ?_
  obtain⟨x28,h_1,hr⟩:=aN hr
  refine zz ?_
  refine zc (pH h_1) [] ?_
  obtain⟨aBK,hL3,hr⟩:=aN hr
  refine zz ?_
  refine a0F<|dB hL3 (fun l_2 x30=>[(0,.row none 37 (l_2.map aM)),(28,.sl 0 0 x28.length 37 true),(29,eI .i64 (x28.length:Int)),(30,eI .i64 x30)]) (fun l_2 x30=>[some ⟨80,x28.flatMap aH⟩]) (round:= ?_)
  intro m3 l_2 x30 hr
  refine zz ?_
  refine a0G ?_
  refine zk hr ?_ ?_<;>clear hr<;>intro h2 hr<;>refine zz ?_
  ·refine a0G<|a0F ?_
   replace hr:=aN hr
   obtain⟨x32,h_3,hr⟩:=hr
   refine zz ?_
   refine xw (v:=(aM x32)) (cP rfl (vF (C:=aH) (K:=37) (fun _=>rfl) rfl h_3 (nJ (ds:=(aL (eI .u8) x32.Out.Tx [eI .u32 x32.Out.Index,eI .i64 x32.Output.Value,.row none 1 (x32.Output.Script.map (eI .u8)),eI .i64 x32.Height,eB x32.Coinbase])) rC rfl zl rfl))) ?_
   replace hr:=aN hr
   obtain⟨x36,h_4,hr⟩:=hr
   refine zz ?_
   refine zc (aEz h_4) [] ?_
   refine zz ?_
   exact⟨_,_,hr,a0N (zv 2) (zG [0])⟩
  exact zE
 obtain⟨x14,h_5,hr⟩:=aN hr
 refine zz ?_
 refine zc (pH h_5) [] ?_
 obtain⟨res4,hL4,hr⟩:=aN hr
 refine zz ?_
 refine a0F<|gQ hL4 (fun x16=>[(0,.row none 37 (l.map aM)),(2,eI .i64 height),(4,.ptr 0 0),(14,.sl 1 0 x14.length 37 true),(15,eI .i64 (x14.length:Int)),(16,eI .i64 x16)]) (fun x16=>[some ⟨91,aR t⟩,some ⟨80,x14.flatMap aH⟩]) (round:= ?_)
 intro m4 x16 hr
 refine zz ?_
 refine a0G ?_
 refine zk hr ?_ ?_<;>clear hr<;>intro h6 hr<;>refine zz ?_
 ·refine a0G<|a0F ?_
  replace hr:=aN hr
  obtain⟨x18,h_7,hr⟩:=hr
  refine zz ?_
  refine xw (v:=(aM x18)) (cP rfl (vF (C:=aH) (K:=37) (fun _=>rfl) rfl h_7 (nJ (ds:=(aL (eI .u8) x18.Out.Tx [eI .u32 x18.Out.Index,eI .i64 x18.Output.Value,.row none 1 (x18.Output.Script.map (eI .u8)),eI .i64 x18.Height,eB x18.Coinbase])) rC rfl zl rfl))) ?_
  exact zE
 exact zE
instance :CtC 50 true (aX @aKN):=⟨@aKN⟩
theorem xZ {N l r} (hr:uR N l=some r):
  Fp 51 [] [.row none 37 (l.map aM)] (eI .i64 r) []:=by
 refine bR func51 ntmps51 results51 fun hR=> ?_
 refine zz ?_
 refine bV (aHN N) (fun sum=>[(3,eI .i64 sum)]) (fun sum=>[]) ?_
 obtain⟨cM,hL2,hr⟩:=aN hr
 refine zz ?_
 exact a0F<|dB hL2 (fun fX x8=>[(3,eI .i64 fX),(6,.row none 37 (l.map aM)),(7,eI .i64 (l.length:Int)),(8,eI .i64 x8)]) (fun fX x8=>[])
instance :CtC 51 true (aX @xZ):=⟨@xZ⟩
theorem aAQ {N p l b r} (hr:uF N p l b=some r):
  Fp 13 [] [cT p,eE l,dZ b] (.tup [eE r.1,aIW r.2.1,eI .i64 r.2.2]) []:=by
 refine bR func13 ntmps13 results13 fun hR=> ?_
 refine zz ?_
 obtain⟨x25,h_1,hr⟩:=aN hr
 refine a0G<|zz ?_
 refine xp (aCX h_1) ?_
 refine zz ?_
 refine zk hr ?_ ?_<;>intro h2 hr<;>refine zz ?_
 ·exact zE
 refine a0G ?_
 obtain⟨x36,h_3,q,h_5,hr⟩:=b8 hr
 refine AB.rd (cD [45]) (cD []) mixed<|a0J (m:=5) [0,1,2,3,4,5,6,7,8] ?_
 refine zz ?_
 refine xu (aAy h_3) ?_
 refine zz ?_
 refine xw (v:=(.agg ((eI .i64 (a0I.wrap (l.Height+1)))::(aL (eI .u8) x36 [.row none 37 (l.Coins.map aM)])))) (cI rfl (aI6 (ps':=[(0,eI .i64 (a0I.wrap (l.Height+1))),(1,.agg (aL (eI .u8) x36 [])),(2,.row none 37 (l.Coins.map aM))]) (by simp only[dG (l:=x36) (aT h_5)]<;>rfl) (iM aAP aHm (by kernel_rfl)))) ?_
 refine zz ?_
 refine a0T (m:=1) (L:=lst [0,1,2,3,4,5,6,7,8,9,10,11,12] 14) (s1:=aG 153 [(3,.ptr 0 0),(5,.ptr 1 0),(6,.ptr 2 0),(7,.ptr 3 0),(10,.ptr 4 0),(11,.ptr 5 0),(40,.agg [.row (some true) 1 []])]) (h1:=[some ⟨34,bE p⟩,some ⟨47,bK b⟩,some ⟨44,(eI .i64 0)::(aL (eI .u8) (a0H 32 0) [.row (some true) 1 []])⟩,some ⟨54,[.row (some true) 1 []]⟩,some ⟨44,(eI .i64 (a0I.wrap (l.Height+1)))::(aL (eI .u8) x36 [.row none 37 (l.Coins.map aM)])⟩,some ⟨54,[.row (some true) 1 []]⟩]) ?_ (fun J=> ?_)
 ·refine a0J (m:=0) [13]<|zz ?_
  refine a0R (by decide +kernel) ?_
  obtain⟨x44,h_6,hr⟩:=aN hr
  refine zz ?_
  refine xp (t7 h_6) ?_
  refine zz ?_
  refine sk3 (tZ N l b x36) (fun most c3 l5=>[(5,.ptr 0 0),(6,.ptr 1 0),(7,.ptr 2 0),(10,.ptr 3 0),(11,.ptr 4 0),(12,eI .i64 most)]) (fun most c3 l5=>[some ⟨47,bK b⟩,some ⟨44,(eI .i64 0)::(aL (eI .u8) (a0H 32 0) [.row (some true) 1 []])⟩,some ⟨54,[.row (some true) 1 []]⟩,some ⟨44,(eI .i64 (a0I.wrap (l.Height+1)))::(aL (eI .u8) x36 [.row none 37 (c3.map aM)])⟩,some ⟨54,[.sl 5 0 l5.length 37 true]⟩,some ⟨80,l5.flatMap aH⟩]) ?_ (body:= ?_)
  rotate_left
  ·clear hr
   intro most c3 l5 hr
   refine a0G<|a0F<|a0G ?_
   obtain⟨aYN,h_7,aYp,h_8,aYm,h_10,hr⟩:=fE hr
   refine a0Q mixed [] [51,52] [[0,1,2,3,4,5,6,7,8,9,10]]<|zz ?_
   refine zg (pH h_8) [] ?_
   refine y7 (xZ h_10) [] [6] ?_
   refine zz ?_
   refine zk hr ?_ ?_<;>intro h12 hr
   ·exact zE
   obtain⟨aXB,h_13,hr⟩:=aN hr
   refine zz ?_
   refine xp (xZ h_13) ?_
   refine zz ?_
   refine zk hr ?_ ?_<;>intro h14 hr<;>refine zz ?_
   ·exact zE
   refine zk hr ?_ ?_<;>intro h15 hr<;>refine zz ?_
   ·exact zE
   refine a0G<|AB.rd (cD []) (cD []) mixed<|a0J (m:=4) [0] ?_
   refine zz ?_
   refine a0T (m:=2) (L:=lst [0,1,2] 5) (s1:=aG 153 [(6,.ptr 0 0),(7,.ptr 1 0),(152,.agg [.sl 2 0 l5.length 37 true])]) (h1:=[some ⟨44,(eI .i64 (a0I.wrap (l.Height+1)))::(aL (eI .u8) x36 [.row none 37 (c3.map aM)])⟩,some ⟨54,[.row (some true) 1 []]⟩,some ⟨80,l5.flatMap aH⟩]) ?_ (fun J=> ?_)
   ·refine a0J (m:=0) [3,4]<|zz ?_
    refine a0R (by decide +kernel) ?_
    exact zE
   refine a0O (n:=3) [1,2] ⟨?_, ?_,trivial⟩
   ·refine zz ?_
    refine a0J (m:=2) [2]<|zz ?_
    refine a0L J ?_
    exact(zG [1,2,5])
   refine zz ?_
   refine a0J (m:=2) [1]<|zz ?_
   refine a0L J ?_
   exact(zG [1,2,5])
  obtain⟨cM,hL2,hr⟩:=aN hr
  refine zz ?_
  refine a0F<|lp4 hL2 (fun oI x48 c4 l6=>[(3,.ptr 0 0),(5,.ptr 1 0),(6,.ptr 2 0),(7,.ptr 3 0),(10,.ptr 4 0),(11,.ptr 5 0),(12,eI .i64 oI),(46,.row none 4 (b.Txs.map aY)),(47,eI .i64 (b.Txs.length:Int)),(48,eI .i64 x48)]) (fun oI x48 c4 l6=>[some ⟨34,bE p⟩,some ⟨47,bK b⟩,some ⟨44,(eI .i64 0)::(aL (eI .u8) (a0H 32 0) [.row (some true) 1 []])⟩,some ⟨54,[.row (some true) 1 []]⟩,some ⟨44,(eI .i64 (a0I.wrap (l.Height+1)))::(aL (eI .u8) x36 [.row none 37 (c4.map aM)])⟩,some ⟨54,[.sl 6 0 l6.length 37 true]⟩,some ⟨80,l6.flatMap aH⟩]) (h0:=(a0N (a0U (fr':=[(3,.ptr 0 0),(5,.ptr 1 0),(6,.ptr 2 0),(7,.ptr 3 0),(10,.ptr 4 0),(11,.ptr 5 0),(12,eI .i64 x44),(46,.row none 4 (b.Txs.map aY)),(47,eI .i64 (b.Txs.length:Int)),(48,eI .i64 0)]) (h1:=[some ⟨34,bE p⟩,some ⟨47,bK b⟩,some ⟨44,(eI .i64 0)::(aL (eI .u8) (a0H 32 0) [.row (some true) 1 []])⟩,some ⟨54,[.row (some true) 1 []]⟩,some ⟨44,(eI .i64 (a0I.wrap (l.Height+1)))::(aL (eI .u8) x36 [.row none 37 (l.Coins.map aM)])⟩,some ⟨54,[.sl 6 0 0 37 true]⟩]) 80 (FLe.same rfl (FLe.same rfl (FLe.same rfl (FLe.same rfl (FLe.same rfl (FLe.same rfl (FLe.same rfl (FLe.same rfl (FLe.same rfl (FLe.same rfl FLe.nil)))))))))) (HLv.live (V.les_refl _ _) rfl (HLv.live (V.les_refl _ _) rfl (HLv.live (V.les_refl _ _) rfl (HLv.live (V.les_refl _ _) rfl (HLv.live (V.les_refl _ _) rfl (HLv.live (V.les_cons (V.le_virt rfl) V.les_nil) rfl HLv.nil))))))) (zg' [0,1,2,3,4,5,6]))) (round:= ?_)
  intro m2 oI x48 c4 l6 hr
  refine zz ?_
  refine a0G ?_
  refine zk hr ?_ ?_<;>clear hr<;>intro h16 hr<;>refine zz ?_
  ·refine a0G<|a0F ?_
   replace hr:=aN hr
   obtain⟨x51,h_17,hr⟩:=hr
   refine zz ?_
   refine sk3 (pF N p l b x36 x48 x51 (g5 N p l b x36 m2)) (fun aNa aBf l7=>[(3,.ptr 0 0),(5,.ptr 1 0),(6,.ptr 2 0),(7,.ptr 3 0),(10,.ptr 4 0),(11,.ptr 5 0),(12,eI .i64 aNa),(14,.ptr 6 0),(46,.row none 4 (b.Txs.map aY)),(47,eI .i64 (b.Txs.length:Int)),(48,eI .i64 x48)]) (fun aNa aBf l7=>[some ⟨34,bE p⟩,some ⟨47,bK b⟩,some ⟨44,(eI .i64 0)::(aL (eI .u8) (a0H 32 0) [.row (some true) 1 []])⟩,some ⟨54,[.row (some true) 1 []]⟩,some ⟨44,(eI .i64 (a0I.wrap (l.Height+1)))::(aL (eI .u8) x36 [.row none 37 (aBf.map aM)])⟩,some ⟨54,[.sl 7 0 l7.length 37 true]⟩,some ⟨91,aR x51⟩,some ⟨80,l7.flatMap aH⟩]) ?_
   refine zz ?_
   refine zk hr ?_ ?_<;>clear hr<;>intro h20 hr
   ·replace hr:=aN hr
    obtain⟨x62,h_21,hr⟩:=hr
    refine zz ?_
    refine zc (aC4 h_21) [] ?_
    refine zz ?_
    refine a0G<|zz ?_
    refine zk hr ?_ ?_<;>clear hr<;>intro h22 hr
    ·exact zE
    replace hr:=aN hr
    obtain⟨x75,h_23,hr⟩:=hr
    refine zz ?_
    refine kX (aCD h_23) [] [8] ?_
    refine zz ?_
    refine a0G<|zz ?_
    refine zk hr ?_ ?_<;>clear hr<;>intro h24 hr<;>refine zz ?_
    ·exact zE
    refine bV (aAW N p l b x36 oI x48 l6 x51 x62 x75 (g5 N p l b x36 m2)) (fun aEw=>[(3,.ptr 0 0),(5,.ptr 1 0),(6,.ptr 2 0),(7,.ptr 3 0),(10,.ptr 4 0),(11,.ptr 5 0),(12,eI .i64 oI),(14,.ptr 6 0),(15,.sl 7 0 x62.1.length 37 true),(17,eI .i64 x75.1),(46,.row none 4 (b.Txs.map aY)),(47,eI .i64 (b.Txs.length:Int)),(48,eI .i64 x48)]) (fun aEw=>[some ⟨34,bE p⟩,some ⟨47,bK b⟩,some ⟨44,(eI .i64 0)::(aL (eI .u8) (a0H 32 0) [.row (some true) 1 []])⟩,some ⟨54,[.row (some true) 1 []]⟩,some ⟨44,(eI .i64 (a0I.wrap (l.Height+1)))::(aL (eI .u8) x36 [.row none 37 (aEw.map aM)])⟩,some ⟨54,[.sl 8 0 l6.length 37 true]⟩,some ⟨91,aR x51⟩,some ⟨80,x62.1.flatMap aH⟩,some ⟨80,l6.flatMap aH⟩]) ?_
    replace hr:=aN hr
    obtain⟨res5,hL5,hr⟩:=hr
    refine zz ?_
    refine a0F<|dB hL5 (fun x85 c4_3=>[(3,.ptr 0 0),(5,.ptr 1 0),(6,.ptr 2 0),(7,.ptr 3 0),(10,.ptr 4 0),(11,.ptr 5 0),(12,eI .i64 oI),(14,.ptr 6 0),(15,.sl 7 0 x62.1.length 37 true),(17,eI .i64 x75.1),(46,.row none 4 (b.Txs.map aY)),(47,eI .i64 (b.Txs.length:Int)),(48,eI .i64 x48),(83,.sl 7 0 x62.1.length 37 true),(84,eI .i64 (x62.1.length:Int)),(85,eI .i64 x85)]) (fun x85 c4_3=>[some ⟨34,bE p⟩,some ⟨47,bK b⟩,some ⟨44,(eI .i64 0)::(aL (eI .u8) (a0H 32 0) [.row (some true) 1 []])⟩,some ⟨54,[.row (some true) 1 []]⟩,some ⟨44,(eI .i64 (a0I.wrap (l.Height+1)))::(aL (eI .u8) x36 [.row none 37 (c4_3.map aM)])⟩,some ⟨54,[.sl 8 0 l6.length 37 true]⟩,some ⟨91,aR x51⟩,some ⟨80,x62.1.flatMap aH⟩,some ⟨80,l6.flatMap aH⟩]) (round:= ?_)
    intro m5 x85 c4_3 hr
    refine zz ?_
    refine a0G ?_
    refine zk hr ?_ ?_<;>clear hr<;>intro h26 hr<;>refine zz ?_
    ·refine a0G<|a0F ?_
     replace hr:=aN hr
     obtain⟨x87,h_27,hr⟩:=hr
     refine zz ?_
     refine xw (v:=(aM x87)) (cP rfl (vF (C:=aH) (K:=37) (fun _=>rfl) rfl h_27 (nJ (ds:=(aL (eI .u8) x87.Out.Tx [eI .u32 x87.Out.Index,eI .i64 x87.Output.Value,.row none 1 (x87.Output.Script.map (eI .u8)),eI .i64 x87.Height,eB x87.Coinbase])) rC rfl zl rfl))) ?_
     replace hr:=b8 hr
     obtain⟨x95,h_28,x96,h_30,hr⟩:=hr
     refine zz ?_
     refine a0Q mixed [49] [48] [[0,1,2,3,4,5,6,7,8,9]]<|zz ?_
     refine xu (aAC h_28)<|zg (aAL h_30) [] ?_
     refine zz ?_
     exact⟨_,_,hr,a0N (zQ [1,1,1,1,1,1,1,1,1,1,0]) (zG [0,1,2,3,4,5,6,7,8])⟩
    exact zE
   exact zE
  exact zE
 refine a0O (n:=4) [9,10,11] ⟨?_, ?_, ?_,trivial⟩
 ·refine zz ?_
  refine a0O (n:=3) [10,11] ⟨?_, ?_,trivial⟩
  ·refine zz ?_
   refine a0J (m:=1) [11,12]<|zz ?_
   refine a0L J ?_
   exact(zG [0,2,3,4,5,6])
  refine zz ?_
  refine a0J (m:=1) [10,12]<|zz ?_
  refine a0L J ?_
  exact(zG [0,2,3,4,6,5])
 ·refine zz ?_
  refine a0J (m:=3) [11]<|zz ?_
  refine a0O (n:=2) [9,12] ⟨?_, ?_,trivial⟩
  ·refine zz ?_
   refine a0J (m:=1) [12]<|zz ?_
   refine a0L J ?_
   exact(zG [0,2,3,4,5,6])
  refine zz ?_
  refine a0J (m:=1) [9]<|zz ?_
  refine a0L J ?_
  exact(zG [0,2,3,4,5,6])
 refine zz ?_
 refine a0J (m:=3) [10]<|zz ?_
 refine a0O (n:=2) [9,12] ⟨?_, ?_,trivial⟩
 ·refine zz ?_
  refine a0J (m:=1) [12]<|zz ?_
  refine a0L J ?_
  exact(zG [0,2,3,4,6,5])
 refine zz ?_
 refine a0J (m:=1) [9]<|zz ?_
 refine a0L J ?_
 exact(zG [0,2,3,4,6,5])
instance :CtC 13 true (aX @aAQ):=⟨@aAQ⟩
theorem aEr {N p c r} (hr:aI1 N p c=some r):
  Fp 158 [] [cT p,hP c] (eB r) []:=by
 refine bR func158 ntmps158 results158 fun hR=> ?_
 refine zz ?_
 refine bV (pW N) (fun x4=>[(4,eB x4)]) (fun x4=>[]) ?_
 obtain⟨x6,h_1,hr⟩:=aN hr
 rcases a0M x6 with h2|h2
 ·replace hr:=aEp hr h2
  rcases a0M (decide (0≤c.Height))with h3|h3
  ·replace hr:=aEp hr h3
   rcases a0M (decide (c.Height≤16777216))with h4|h4
   ·replace hr:=aEp hr h4
    refine xr<|zz ?_
    refine xp (k8 h_1) ?_
    refine zz ?_
    refine xSg (v:=(eI .i64 (if 11<(a0I.wrap (c.Height+1))then 11 else(a0I.wrap (c.Height+1))))) rfl rfl h4 (aPo rfl aPg) ?_
    refine zz ?_
    exact⟨_,hr,zG []⟩
   replace hr:=aFE hr h4
   refine xr<|zz ?_
   refine xp (k8 h_1) ?_
   refine zz ?_
   exact⟨_,hr,zG []⟩
  replace hr:=aFE hr h3
  refine xr<|zz ?_
  refine xp (k8 h_1) ?_
  refine zz ?_
  refine xX rfl<|xX rfl<|xX rfl<|xX rfl<|xX rfl<|xX rfl<|xX rfl<|xX rfl ?_
  refine zz ?_
  exact⟨_,hr,zG []⟩
 replace hr:=aFE hr h2
 refine xr<|zz ?_
 refine xp (k8 h_1) ?_
 refine zz ?_
 refine xX rfl<|xX rfl<|xX rfl ?_
 refine zz ?_
 refine xX rfl<|xX rfl<|xX rfl<|xX rfl<|xX rfl<|xX rfl<|xX rfl<|xX rfl ?_
 refine zz ?_
 exact⟨_,hr,zG []⟩
instance :CtC 158 true (aX @aEr):=⟨@aEr⟩
theorem tN {N p c vh r} (hr:uB N p c vh=some r):
  Fp 115 [] [cT p,hP c,oQ vh] (.tup [hP r.1,eI .i64 r.2]) []:=by
 refine bR func115 ntmps115 results115 fun hR=> ?_
 refine zz ?_
 obtain⟨x11,h_1,hr⟩:=aN hr
 refine a0G<|zz ?_
 refine xp (aEr h_1) ?_
 refine zz ?_
 refine zk hr ?_ ?_<;>intro h2 hr<;>refine zz ?_
 ·exact zE
 refine a0G<|zz ?_
 refine zk hr ?_ ?_<;>intro h3 hr<;>refine zz ?_
 ·exact zE
 refine a0G ?_
 obtain⟨x22,h_4,q,h_6,hr⟩:=b8 hr
 refine a0Q mixed [45] [] [[0,1,2,3,4,5,6,7,8,9,10,11]]<|zz ?_
 refine xu (aAy h_4) ?_
 refine zz ?_
 refine xw (v:=(.agg ((eI .i64 (a0I.wrap (c.Height+1)))::(aL (eI .u8) x22 [eI .u32 vh.Bits,eI .u32 c.First,.row (some true) 1 []])))) (cI rfl (aI6 (ps':=[(0,eI .i64 (a0I.wrap (c.Height+1))),(1,.agg (aL (eI .u8) x22 [])),(2,eI .u32 vh.Bits),(3,eI .u32 c.First)]) (by simp only[dG (l:=x22) (aT h_6)]<;>rfl) (iM aGp aUX (by kernel_rfl)))) ?_
 refine zz ?_
 refine bV (o8 N c vh x22) (fun c3=>[(4,.ptr 0 0),(5,.ptr 1 0),(6,.ptr 2 0),(8,.ptr 3 0)]) (fun c3=>[some ⟨51,b9 c⟩,some ⟨28,sB vh⟩,some ⟨51,(eI .i64 0)::(aL (eI .u8) (a0H 32 0) [eI .u32 0,eI .u32 0,.row (some true) 1 []])⟩,some ⟨51,(eI .i64 (a0I.wrap (c.Height+1)))::(aL (eI .u8) x22 [eI .u32 vh.Bits,eI .u32 c3,.row (some true) 1 []])⟩]) ?_ (body:= ?_)
 rotate_left
 ·clear hr
  intro c3 hr
  refine a0G ?_
  obtain⟨x39,h_7,x43,h_8,hr⟩:=b8 hr
  refine AB.rd (cD []) (cD []) mixed<|a0J (m:=5) [0,1,3,4] ?_
  refine zz ?_
  refine a0T (m:=3) (L:=lst [0,1,2,3,4,5] 9) (s1:=aG 54 [(6,.ptr 0 0),(8,.ptr 1 0),(39,.sl 2 0 x39.length 1 false),(42,.sl 3 0 1 1 false)]) (h1:=[some ⟨51,(eI .i64 0)::(aL (eI .u8) (a0H 32 0) [eI .u32 0,eI .u32 0,.row (some true) 1 []])⟩,some ⟨51,(eI .i64 (a0I.wrap (c.Height+1)))::(aL (eI .u8) x22 [eI .u32 vh.Bits,eI .u32 c3,.row (some true) 1 []])⟩,some ⟨24,x39.map (eI .u32)⟩,some ⟨24,[vh.Time].map (eI .u32)⟩]) ?_ (fun J=> ?_)
  ·refine a0J (m:=0) [6,7,8]<|zz ?_
   refine a0R (by decide +kernel) ?_
   refine zz ?_
   refine bV (s0 N c vh x22 c3) (fun c1=>[(6,.ptr 0 0),(8,.ptr 1 0)]) (fun c1=>[some ⟨51,(eI .i64 0)::(aL (eI .u8) (a0H 32 0) [eI .u32 0,eI .u32 0,.row (some true) 1 []])⟩,some ⟨51,(eI .i64 (a0I.wrap (c.Height+1)))::(aL (eI .u8) x22 [eI .u32 vh.Bits,eI .u32 c3,.row none 1 (c1.map (eI .u32))])⟩]) ?_
   refine zz ?_
   refine zk hr ?_ ?_<;>intro h9 hr
   ·obtain⟨x51,h_10,hr⟩:=aN hr
    refine zz ?_
    refine a0S (zQ [1,1,0,1,0]) ?_
    exact zE
   refine zz ?_
   exact⟨_,hr,a0N (zQ [1,1,0,1,0]) (zG [0,1])⟩
  refine a0O (n:=4) [2,5] ⟨?_, ?_,trivial⟩
  ·refine zz ?_
   refine a0J (m:=3) [5]<|zz ?_
   refine a0L J ?_
   exact(zG [2,3,5,6])
  refine zz ?_
  refine a0J (m:=3) [2]<|zz ?_
  refine a0L J ?_
  exact(zG [2,3,6,4])
 exact zE
instance :CtC 115 true (aX @tN):=⟨@tN⟩
theorem aCU {N p c vh now r} (hr:aDn N p c vh now=some r):
  Fp 114 [] [cT p,hP c,oQ vh,eI .u32 now] (eI .i64 r) []:=by
 refine bR func114 ntmps114 results114 fun hR=> ?_
 obtain⟨x18,h_1,hr⟩:=aN hr
 refine zz ?_
 refine xp (tN h_1) ?_
 refine zz ?_
 refine a0G<|zz ?_
 refine zk hr ?_ ?_<;>intro h2 hr<;>refine zz ?_
 ·exact zE
 obtain⟨q,h_3,q_1,h_4,hr⟩:=b8 hr
 refine a0G<|zz ?_
 refine zk hr ?_ ?_<;>intro h5 hr<;>refine zz ?_
 ·exact zE
 refine a0G<|zz ?_
 refine zk hr ?_ ?_<;>intro h6 hr
 ·exact zE
 obtain⟨x37,h_7,hr⟩:=aN hr
 refine zz ?_
 refine xp (aAu h_7) ?_
 refine zz ?_
 refine a0G<|zz ?_
 refine zk hr ?_ ?_<;>intro h8 hr<;>refine zz ?_
 ·exact zE
 refine a0G<|a0F ?_
 refine zz ?_
 refine zk hr ?_ ?_<;>intro h9 hr
 ·exact zE
 obtain⟨q_2,h_10,x53,h_11,hr⟩:=b8 hr
 refine zz ?_
 refine xp (aDj h_11) ?_
 refine zz ?_
 refine zk hr ?_ ?_<;>intro h12 hr
 ·exact zE
 refine a0G ?_
 obtain⟨x60,h_13,hr⟩:=aN hr
 refine a0Q mixed [74] [] [[0,1,2,3,4,5,6]]<|zz ?_
 refine xu (vI h_13) ?_
 refine zz ?_
 refine zk hr ?_ ?_<;>intro h15 hr<;>refine zz ?_
 ·exact zE
 refine zk hr ?_ ?_<;>intro h16 hr<;>refine zz ?_
 ·exact zE
 refine fT (aH2 N) [] [] ?_
 obtain⟨cM,hL2,hr⟩:=aN hr
 refine zz ?_
 refine a0F<|gQ hL2 (fun x76=>[(9,.ptr 0 0),(74,.row none 33 (p.Checkpoints.map aW)),(75,eI .i64 (p.Checkpoints.length:Int)),(76,eI .i64 x76)]) (fun x76=>[some ⟨51,b9 x18.1⟩]) (round:= ?_)
 intro m2 x76 hr
 refine zz ?_
 refine a0G ?_
 refine zk hr ?_ ?_<;>clear hr<;>intro h17 hr<;>refine zz ?_
 ·refine a0G<|a0F ?_
  replace hr:=aN hr
  obtain⟨x78,h_18,hr⟩:=hr
  refine zz ?_
  refine bV (aCS N p x18 x76 (n0 N p x18 m2)) (fun x91=>[(9,.ptr 0 0),(74,.row none 33 (p.Checkpoints.map aW)),(75,eI .i64 (p.Checkpoints.length:Int)),(76,eI .i64 x76),(91,eB x91)]) (fun x91=>[some ⟨51,b9 x18.1⟩]) ?_
  exact zE
 exact zE
instance :CtC 114 true (aX @aCU):=⟨@aCU⟩
theorem aJU {N l vn r} (hr:aKm N l vn=some r):
  Fp 31 [] [.row none 1 (l.map (eI .u8)),eI .i64 vn] (.row none 1 (r.map (eI .u8))) []:=by
 refine bR func31 ntmps31 results31 fun hR=> ?_
 obtain⟨x10,h_1,hr⟩:=aN hr
 refine zz ?_
 refine xw (v:=(eI .i64 (if vn<(l.length:Int)then vn else(l.length:Int)))) (aPo rfl aPg) ?_
 exact zE
instance :CtC 31 true (aX @aJU):=⟨@aJU⟩
end Go.Proofs.YtopdhljncajmpaaGreatDoor
