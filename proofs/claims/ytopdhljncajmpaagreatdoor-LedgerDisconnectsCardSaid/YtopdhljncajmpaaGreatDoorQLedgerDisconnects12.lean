/- Texts of ours, joined: Wk2b. -/
import Derived.Test.YtopdhljncajmpaaGreatDoorQLedgerDisconnects11
open Go.Vm.AB renaming block → a1a,seq → a1b,cndF → a1g,rs → a1k
open List renaming replicate → a1c
open Go.IntKind renaming i64 → a1d,u32 → a1j
open Bool renaming eq_false_or_eq_true → a1e
open Go.Vm.DrawG renaming ps → a1f,jh → a1i,nil → a1l,fk → a1m,jn → a1o
open Go.Vm.Ghost renaming trans → a1h,virt → a1p
open Go.Vm.OpsX renaming ghost → a1n
set_option linter.unusedVariables false
set_option linter.unusedSimpArgs false
set_option maxRecDepth 20000
set_option maxHeartbeats 8000000
namespace Go.Proofs.YtopdhljncajmpaaGreatDoor
open Go Go.Vm Go.Proofs.Tryz
theorem aDf {N ids vid r} (hr:vG N ids vid=some r):
  Fp 107 [] [.row none 32 (ids.map (eA (eI .u8))),.agg (vid.map (eI .u8))] (eI .i64 r) []:=by
 refine bT func107 ntmps107 results107 fun hR=> ?_
 refine zz ?_
 refine hP (aCV N) [] [] ?_
 obtain⟨cY,hL2,hr⟩:=aP hr
 refine zz ?_
 refine a1a<|jA hL2 (fun x8=>[(0,.row none 32 (ids.map (eA (eI .u8)))),(3,.ptr 0 0),(7,eI .i64 (ids.length:Int)),(8,eI .i64 x8)]) (fun x8=>[some ⟨26,vid.map (eI .u8)⟩]) (round:= ?_)
 intro m2 x8 hr
 refine zz ?_
 refine a1b ?_
 refine zk hr ?_ ?_<;>clear hr<;>intro h1 hr<;>refine zz ?_
 ·refine a1b<|a1a ?_
  refine zz ?_
  refine a1b ?_
  replace hr:=gZ hr
  obtain⟨x13,h_2,q,h_3,q_1,h_4,hr⟩:=hr
  refine a1k mixed [] [] [[0,1,2,3,4,5]]<|zz ?_
  refine xw (v:=(.agg (x13.map (eI .u8)))) (cF rfl (aI1 (E:=(eI .u8)) iH rfl h_2 (aT h_3))) ?_
  exact zE
 exact zE
instance :CtC 107 true (bC @aDf):=⟨@aDf⟩
theorem aGk {N b ids r} (hr:qQ N b ids=some r):
  Fp 108 [] [cW b,.row none 32 (ids.map (eA (eI .u8)))] (eB r) []:=by
 refine bT func108 ntmps108 results108 fun hR=> ?_
 refine zz ?_
 refine hP (aFU N) [] [] ?_
 obtain⟨cY,hL2,hr⟩:=aP hr
 refine zz ?_
 refine a1a<|jA hL2 (fun x12=>[(1,.row none 32 (ids.map (eA (eI .u8)))),(10,.row none 4 (b.Txs.map aU)),(11,eI .i64 (b.Txs.length:Int)),(12,eI .i64 x12)]) (fun x12=>[]) (round:= ?_)
 intro m2 x12 hr
 refine zz ?_
 refine a1b ?_
 refine zk hr ?_ ?_<;>clear hr<;>intro h1 hr<;>refine zz ?_
 ·refine hP (uB N b ids x12 (dK N b ids m2)) [(1,.row none 32 (ids.map (eA (eI .u8)))),(10,.row none 4 (b.Txs.map aU)),(11,eI .i64 (b.Txs.length:Int)),(12,eI .i64 x12)] [] ?_
  refine a1a ?_
  replace hr:=bW hr
  obtain⟨x15,h_2,res4,hL4,hr⟩:=hr
  refine zz ?_
  exact a1a<|jA hL4 (fun x20=>[(1,.row none 32 (ids.map (eA (eI .u8)))),(5,eI .i64 x12),(10,.row none 4 (b.Txs.map aU)),(11,eI .i64 (b.Txs.length:Int)),(12,eI .i64 x12),(18,.row none 35 (x15.Inputs.map bQ)),(19,eI .i64 (x15.Inputs.length:Int)),(20,eI .i64 x20)]) (fun x20=>[])
 exact zE
instance :CtC 108 true (bC @aGk):=⟨@aGk⟩
theorem aHT {N b r} (hr:vH N b=some r):
  Fp 109 [] [cW b] (eB r) []:=by
 refine bT func109 ntmps109 results109 fun hR=> ?_
 refine zz ?_
 refine hP (aH5 N) [] [] ?_
 obtain⟨cY,hL2,hr⟩:=aP hr
 refine zz ?_
 refine a1a<|dB hL2 (fun x13 l0=>[(3,.sl 0 0 l0.length 33 true),(11,.row none 4 (b.Txs.map aU)),(12,eI .i64 (b.Txs.length:Int)),(13,eI .i64 x13)]) (fun x13 l0=>[some ⟨76,l0.flatMap bP⟩]) (h0:=(zW 76 [1])) (round:= ?_)
 intro m2 x13 l0 hr
 refine zz ?_
 refine a1b ?_
 refine zk hr ?_ ?_<;>clear hr<;>intro h1 hr<;>refine zz ?_
 ·refine bS (zB N b x13 (gO N b m2)) (fun aR=>[(3,.sl 0 0 aR.length 33 true),(11,.row none 4 (b.Txs.map aU)),(12,eI .i64 (b.Txs.length:Int)),(13,eI .i64 x13)]) (fun aR=>[some ⟨76,aR.flatMap bP⟩]) ?_
  refine a1a ?_
  replace hr:=bW hr
  obtain⟨x15,h_2,res4,hL4,hr⟩:=hr
  refine zz ?_
  refine a1a<|dB hL4 (fun x20 d9=>[(3,.sl 0 0 d9.length 33 true),(11,.row none 4 (b.Txs.map aU)),(12,eI .i64 (b.Txs.length:Int)),(13,eI .i64 x13),(18,.row none 35 (x15.Inputs.map bQ)),(19,eI .i64 (x15.Inputs.length:Int)),(20,eI .i64 x20)]) (fun x20 d9=>[some ⟨76,d9.flatMap bP⟩]) (round:= ?_)
  intro m4 x20 d9 hr
  refine zz ?_
  refine a1b ?_
  refine zk hr ?_ ?_<;>clear hr<;>intro h3 hr<;>refine zz ?_
  ·refine bS (yX N b x13 x15 x20 (fU N b x13 x15 m4)) (fun g8=>[(3,.sl 0 0 g8.length 33 true),(11,.row none 4 (b.Txs.map aU)),(12,eI .i64 (b.Txs.length:Int)),(13,eI .i64 x13),(18,.row none 35 (x15.Inputs.map bQ)),(19,eI .i64 (x15.Inputs.length:Int)),(20,eI .i64 x20)]) (fun g8=>[some ⟨76,g8.flatMap bP⟩]) ?_
   refine a1a ?_
   replace hr:=aP hr
   obtain⟨x22,h_4,hr⟩:=hr
   refine zz ?_
   refine hP (y7 N b x13 x15 x20 d9 x22 (fU N b x13 x15 m4)) [(3,.sl 0 0 d9.length 33 true),(7,.ptr 1 0),(11,.row none 4 (b.Txs.map aU)),(12,eI .i64 (b.Txs.length:Int)),(13,eI .i64 x13),(18,.row none 35 (x15.Inputs.map bQ)),(19,eI .i64 (x15.Inputs.length:Int)),(20,eI .i64 x20)] [some ⟨76,d9.flatMap bP⟩,some ⟨97,fW x22⟩] ?_ (body:= ?_)
   rotate_left
   ·clear hr
    intro hr
    replace hr:=aP hr
    obtain⟨x39,h_5,hr⟩:=hr
    refine zz ?_
    refine nC bP 33 [x22.Prev] ?_
    exact zE
   replace hr:=aP hr
   obtain⟨res7,hL7,hr⟩:=hr
   refine zz ?_
   refine a1a<|jA hL7 (fun x26=>[(3,.sl 0 0 d9.length 33 true),(7,.ptr 1 0),(11,.row none 4 (b.Txs.map aU)),(12,eI .i64 (b.Txs.length:Int)),(13,eI .i64 x13),(18,.row none 35 (x15.Inputs.map bQ)),(19,eI .i64 (x15.Inputs.length:Int)),(20,eI .i64 x20),(24,.sl 0 0 d9.length 33 true),(25,eI .i64 (d9.length:Int)),(26,eI .i64 x26)]) (fun x26=>[some ⟨76,d9.flatMap bP⟩,some ⟨97,fW x22⟩]) (round:= ?_)
   intro m7 x26 hr
   refine zz ?_
   refine a1b ?_
   refine zk hr ?_ ?_<;>clear hr<;>intro h6 hr<;>refine zz ?_
   ·refine a1b<|a1a ?_
    replace hr:=aP hr
    obtain⟨x28,h_7,hr⟩:=hr
    refine zz ?_
    refine xw (v:=(cC x28)) (cF rfl (yR (C:=bP) (K:=33) (fun _=>rfl) rfl h_7 (qJ (ds:=(aN (eI .u8) x28.Tx [eI .u32 x28.Index])) g9 rfl zl rfl))) ?_
    refine zz ?_
    refine xw (eY rfl rfl (k7 (d:=9) g9 rfl sH zl vS rfl rfl rfl rfl rfl)) ?_
    exact zE
   exact zE
  exact zE
 exact zE
instance :CtC 109 true (bC @aHT):=⟨@aHT⟩
theorem aC5 {N b r} (hr:fF N b=some r):
  Fp 64 [] [cW b] (eI .i64 r) []:=by
 refine bT func64 ntmps64 results64 fun hR=> ?_
 refine zz ?_
 obtain⟨x13,h_1,hr⟩:=aP hr
 refine a1b<|zz ?_
 refine xp (aEJ h_1) ?_
 refine zz ?_
 refine zk hr ?_ ?_<;>intro h2 hr<;>refine zz ?_
 ·exact zE
 refine a1b<|zz ?_
 refine zk hr ?_ ?_<;>intro h3 hr<;>refine zz ?_
 ·exact zE
 refine hP (oJ N b) [(1,.ptr 0 0)] [some ⟨47,aQ b⟩] ?_ (body:= ?_)
 rotate_left
 ·clear hr
  intro hr
  refine zz ?_
  refine hP (mB N b) [(1,.ptr 0 0),(5,.row (some true) 1 [])] [some ⟨47,aQ b⟩] ?_ (body:= ?_)
  rotate_left
  ·clear hr
   intro hr
   refine bS (oY N b) (fun l1=>[(1,.ptr 0 0),(5,.sl 1 0 l1.length 32 true)]) (fun l1=>[some ⟨47,aQ b⟩,some ⟨26,l1.flatMap (dV (eI .u8))⟩]) ?_
   obtain⟨res4,hL4,hr⟩:=aP hr
   refine zz ?_
   refine a1a<|dB hL4 (fun x49 bJ=>[(1,.ptr 0 0),(5,.sl 1 0 bJ.length 32 true),(47,.row none 4 (b.Txs.map aU)),(48,eI .i64 (b.Txs.length:Int)),(49,eI .i64 x49)]) (fun x49 bJ=>[some ⟨47,aQ b⟩,some ⟨26,bJ.flatMap (dV (eI .u8))⟩]) (h0:=(zW 26 [0,1])) (round:= ?_)
   intro m4 x49 bJ hr
   refine zz ?_
   refine a1b ?_
   refine zk hr ?_ ?_<;>clear hr<;>intro h14 hr<;>refine zz ?_
   ·refine a1b<|a1a ?_
    replace hr:=gZ hr
    obtain⟨x51,h_15,x54,h_16,q_3,h_17,hr⟩:=hr
    refine zz ?_
    refine xp (aAj h_16) ?_
    refine zz ?_
    replace hr:=bW hr
    obtain⟨q_4,h_18,x57,h_19,hr⟩:=hr
    refine a1b<|zz ?_
    refine mL (aDf h_19) [] [1] ?_
    refine zz ?_
    refine zk hr ?_ ?_<;>clear hr<;>intro h20 hr
    ·exact zE
    replace hr:=aP hr
    obtain⟨x62,h_21,hr⟩:=hr
    refine zz ?_
    refine xw (v:=(.sl 4 0 1 32 true)) (h':=[some ⟨47,aQ b⟩,some ⟨26,bJ.flatMap (dV (eI .u8))⟩,some ⟨91,aZ x51⟩,some ⟨26,x54.map (eI .u8)⟩,some ⟨26,[x54].flatMap (dV (eI .u8))⟩]) (pD rfl (aJj (ps':=[(0,.agg (dV (eI .u8) x54))]) (by simp only[aA2,dV,dE (l:=x54) (aT h_17)]) (aHe (len:=1) (C:=(dV (eI .u8))) (xs:=[x54]) (K:=32) (fun _=>rfl) (fun _=>rfl) aFd iH ⟨zl,zl,zl⟩ rfl rfl rfl rfl rfl rfl))) ?_
    exact zE
   exact zE
  obtain⟨res5,hL5,hr⟩:=aP hr
  refine zz ?_
  exact a1a<|jA hL5 (fun x36=>[(1,.ptr 0 0),(5,.row (some true) 1 []),(34,.row none 4 (b.Txs.map aU)),(35,eI .i64 (b.Txs.length:Int)),(36,eI .i64 x36)]) (fun x36=>[some ⟨47,aQ b⟩])
 obtain⟨res6,hL6,hr⟩:=aP hr
 refine zz ?_
 refine a1a<|jA hL6 (fun x22=>[(1,.ptr 0 0),(20,.row none 4 (b.Txs.map aU)),(21,eI .i64 (b.Txs.length:Int)),(22,eI .i64 x22)]) (fun x22=>[some ⟨47,aQ b⟩]) (round:= ?_)
 intro m6 x22 hr
 refine zz ?_
 refine a1b ?_
 refine zk hr ?_ ?_<;>clear hr<;>intro h26 hr<;>refine zz ?_
 ·refine a1b<|a1a ?_
  replace hr:=bW hr
  obtain⟨x25,h_27,x28,h_28,hr⟩:=hr
  refine zz ?_
  refine xp (nS h_28) ?_
  refine zz ?_
  refine xw (eY rfl rfl (aQS _ _ ti4 ..)) ?_
  exact zE
 exact zE
instance :CtC 64 true (bC @aC5):=⟨@aC5⟩
theorem aDm {N t height r} (hr:aAr N t height=some r):
  Fp 82 [] [aU t,eI .i64 height] (eB r) []:=by
 refine bT func82 ntmps82 results82 fun hR=> ?_
 refine zz ?_
 refine a1b<|zz ?_
 refine zk hr ?_ ?_<;>intro h1 hr<;>refine zz ?_
 ·exact zE
 refine hP (aHQ N) [] [] ?_
 obtain⟨cY,hL2,hr⟩:=aP hr
 refine zz ?_
 exact a1a<|jA hL2 (fun x15=>[(13,.row none 35 (t.Inputs.map bQ)),(14,eI .i64 (t.Inputs.length:Int)),(15,eI .i64 x15)]) (fun x15=>[])
instance :CtC 82 true (bC @aDm):=⟨@aDm⟩
theorem aC7 {N p l b r} (hr:aAg N p l b=some r):
  Fp 44 [] [cP p,cG l,cW b] (eI .i64 r) []:=by
 refine bT func44 ntmps44 results44 fun hR=> ?_
 unfold aAg at hr
 refine zz ?_
 refine a1b<|a1a ?_
 refine bS (sZ N l b) (fun x8=>[(4,.ptr 0 0),(5,.ptr 1 0),(8,eB x8)]) (fun x8=>[some ⟨44,aO l⟩,some ⟨47,aQ b⟩]) ?_
 exact zE
instance :CtC 44 true (bC @aC7):=⟨@aC7⟩
theorem lH {N l o r} (hr:kX N l o=some r):
  Fp 49 [] [.row none 37 (l.map aJ),cC o] (eI .i64 r) []:=by
 refine bT func49 ntmps49 results49 fun hR=> ?_
 refine zz ?_
 refine hP (aEo N) [] [] ?_
 obtain⟨cY,hL2,hr⟩:=aP hr
 refine zz ?_
 refine a1a<|jA hL2 (fun x8=>[(0,.row none 37 (l.map aJ)),(3,.ptr 0 0),(7,eI .i64 (l.length:Int)),(8,eI .i64 x8)]) (fun x8=>[some ⟨76,bP o⟩]) (round:= ?_)
 intro m2 x8 hr
 refine zz ?_
 refine a1b ?_
 refine zk hr ?_ ?_<;>clear hr<;>intro h1 hr<;>refine zz ?_
 ·refine a1b<|a1a ?_
  refine zz ?_
  refine a1b ?_
  replace hr:=aP hr
  obtain⟨x13,h_2,hr⟩:=hr
  refine a1k mixed [] [] [[0,1,2,3,4,5,6]]<|zz ?_
  refine xw (v:=(eB (fR x13.Out.Tx o.Tx ((x13.Out.Index == o.Index)&&true)))) (eY rfl rfl (k7 (d:=9) g9 rfl sH zl vS rfl rfl rfl rfl rfl)) ?_
  exact zE
 exact zE
instance :CtC 49 true (bC @lH):=⟨@lH⟩
theorem sC {N c r} (hr:oK N c=some r):
  Fp 57 [] [aJ c] (aJ r) []:=
 jC func57 ntmps57 results57
instance :CtC 57 true (bC @sC):=⟨@sC⟩
theorem aDg {N p l t height r} (hr:aDF N p l t height=some r):
  Fp 46 [] [cP p,.row none 37 (l.map aJ),aU t,eI .i64 height] (.tup [.sl 0 0 r.1.length 37 true,eI .i64 r.2]) [some ⟨80,r.1.flatMap aF⟩]:=by
 refine bT func46 ntmps46 results46 fun hR=> ?_
 refine zz ?_
 refine bS (aDj N p height) (fun l1=>[(3,eI .i64 height),(4,.ptr 0 0),(10,.sl 1 0 l1.length 37 true)]) (fun l1=>[some ⟨34,bD p⟩,some ⟨80,l1.flatMap aF⟩]) ?_ (body:= ?_)
 rotate_left
 ·clear hr
  intro l1 hr
  refine hP (aH6 N l1) [(10,.sl 0 0 l1.length 37 true)] [some ⟨80,l1.flatMap aF⟩] ?_
  obtain⟨zX,hL3,hr⟩:=aP hr
  refine zz ?_
  refine a1a<|jA hL3 (fun x40=>[(3,eI .i64 height),(4,.ptr 0 0),(10,.sl 1 0 l1.length 37 true),(38,.sl 1 0 l1.length 37 true),(39,eI .i64 (l1.length:Int)),(40,eI .i64 x40)]) (fun x40=>[some ⟨34,bD p⟩,some ⟨80,l1.flatMap aF⟩]) (round:= ?_)
  intro m3 x40 hr
  refine zz ?_
  refine a1b ?_
  refine zk hr ?_ ?_<;>clear hr<;>intro h1 hr<;>refine zz ?_
  ·refine a1b<|a1a ?_
   replace hr:=aP hr
   obtain⟨x42,h_2,hr⟩:=hr
   refine zz ?_
   refine xw (v:=(aJ x42)) (cF rfl (yR (C:=aF) (K:=37) (fun _=>rfl) rfl h_2 (qJ (ds:=(aN (eI .u8) x42.Out.Tx [eI .u32 x42.Out.Index,eI .i64 x42.Output.Value,.row none 1 (x42.Output.Script.map (eI .u8)),eI .i64 x42.Height,eB x42.Coinbase])) pR rfl zl rfl))) ?_
   refine zz ?_
   refine bS (sV N p height l1 x40 (kC N p height l1 m3)) (fun x54=>[(3,eI .i64 height),(4,.ptr 0 0),(10,.sl 1 0 l1.length 37 true),(38,.sl 1 0 l1.length 37 true),(39,eI .i64 (l1.length:Int)),(40,eI .i64 x40),(54,eB x54)]) (fun x54=>[some ⟨34,bD p⟩,some ⟨80,l1.flatMap aF⟩]) ?_ (body:= ?_)
   rotate_left
   ·clear hr
    intro x54 hr
    refine zk hr ?_ ?_<;>clear hr<;>intro h3 hr<;>refine zz ?_
    ·replace hr:=sj hr
     subst hr
     replace hr:=sj hr
     subst hr
     exact xZ Tryz.results46 fA fA (zW 80 [2])
    exact zE
   exact zE
  exact zE
 obtain⟨res5,hL5,hr⟩:=aP hr
 refine zz ?_
 refine a1a<|dB hL5 (fun x19 bJ=>[(1,.row none 37 (l.map aJ)),(3,eI .i64 height),(4,.ptr 0 0),(10,.sl 1 0 bJ.length 37 true),(17,.row none 35 (t.Inputs.map bQ)),(18,eI .i64 (t.Inputs.length:Int)),(19,eI .i64 x19)]) (fun x19 bJ=>[some ⟨34,bD p⟩,some ⟨80,bJ.flatMap aF⟩]) (h0:=(zW 80 [0,2])) (round:= ?_)
 intro m5 x19 bJ hr
 refine zz ?_
 refine a1b ?_
 refine zk hr ?_ ?_<;>clear hr<;>intro h5 hr<;>refine zz ?_
 ·refine a1b<|a1a ?_
  replace hr:=bW hr
  obtain⟨x21,h_6,x26,h_7,hr⟩:=hr
  refine zz ?_
  refine xp (lH h_7) ?_
  refine zz ?_
  refine a1b<|zz ?_
  refine zk hr ?_ ?_<;>clear hr<;>intro h8 hr
  ·refine zz ?_
   replace hr:=sj hr
   subst hr
   replace hr:=sj hr
   subst hr
   exact xZ Tryz.results46 fA fA (zW 80 [3])
  replace hr:=gZ hr
  obtain⟨x32,h_9,x34,h_10,x36,h_11,hr⟩:=hr
  refine zz ?_
  refine xp (sC h_10)<|nC aF 37 [x34] ?_
  exact zE
 exact zE
instance :CtC 46 false (bC @aDg):=⟨@aDg⟩
theorem aFM {N t l r} (hr:aGZ N t l=some r):
  Fp 86 [] [aU t,.row none 37 (l.map aJ)] (.tup [eI .i64 r.1,eI .i64 r.2]) []:=by
 refine bT func86 ntmps86 results86 fun hR=> ?_
 refine zz ?_
 obtain⟨x14,h_1,hr⟩:=aP hr
 refine a1b<|zz ?_
 refine xp (aDx h_1) ?_
 refine zz ?_
 refine zk hr ?_ ?_<;>intro h2 hr<;>refine zz ?_
 ·exact zE
 refine a1b<|zz ?_
 refine zk hr ?_ ?_<;>intro h3 hr<;>refine zz ?_
 ·exact zE
 refine hP (aGx N t l) [(1,.row none 37 (l.map aJ)),(2,.ptr 0 0)] [some ⟨91,aZ t⟩] ?_ (body:= ?_)
 rotate_left
 ·clear hr
  intro hr
  refine zz ?_
  refine bS (aGy N t) (fun sum=>[(2,.ptr 0 0),(8,eI .i64 sum)]) (fun sum=>[some ⟨91,aZ t⟩]) ?_ (body:= ?_)
  rotate_left
  ·clear hr
   intro sum hr
   refine a1b ?_
   refine zz ?_
   refine zk hr ?_ ?_<;>intro h4 hr<;>refine zz ?_
   ·exact zE
   refine bS (aFK N) (fun gL=>[(8,eI .i64 gL)]) (fun gL=>[]) ?_
   obtain⟨res4,hL4,hr⟩:=aP hr
   refine zz ?_
   exact a1a<|dB hL4 (fun sum_2 x69=>[(8,eI .i64 sum_2),(67,.row none 2 (t.Outputs.map cK)),(68,eI .i64 (t.Outputs.length:Int)),(69,eI .i64 x69)]) (fun sum_2 x69=>[])
  obtain⟨res5,hL5,hr⟩:=aP hr
  refine zz ?_
  refine a1a<|dB hL5 (fun aBr x44=>[(2,.ptr 0 0),(8,eI .i64 aBr),(42,.row none 37 (l.map aJ)),(43,eI .i64 (l.length:Int)),(44,eI .i64 x44)]) (fun aBr x44=>[some ⟨91,aZ t⟩]) (round:= ?_)
  intro m5 aBr x44 hr
  refine zz ?_
  refine a1b ?_
  refine zk hr ?_ ?_<;>clear hr<;>intro h8 hr<;>refine zz ?_
  ·refine a1b<|a1a ?_
   replace hr:=aP hr
   obtain⟨x46,h_9,hr⟩:=hr
   refine zz ?_
   refine a1b ?_
   refine bS (xR N t l aBr x44 x46 (mW N t l m5)) (fun x57=>[(2,.ptr 0 0),(8,eI .i64 aBr),(10,.ptr 1 0),(42,.row none 37 (l.map aJ)),(43,eI .i64 (l.length:Int)),(44,eI .i64 x44),(57,eB x57)]) (fun x57=>[some ⟨91,aZ t⟩,some ⟨80,aF x46⟩]) ?_
   exact zE
  exact zE
 obtain⟨res7,hL7,hr⟩:=aP hr
 refine zz ?_
 refine a1a<|jA hL7 (fun x26=>[(1,.row none 37 (l.map aJ)),(2,.ptr 0 0),(25,eI .i64 (l.length:Int)),(26,eI .i64 x26)]) (fun x26=>[some ⟨91,aZ t⟩]) (round:= ?_)
 intro m7 x26 hr
 refine zz ?_
 refine a1b ?_
 refine zk hr ?_ ?_<;>clear hr<;>intro h12 hr<;>refine zz ?_
 ·refine a1b<|a1a ?_
  refine zz ?_
  refine a1b ?_
  replace hr:=bW hr
  obtain⟨x31,h_13,x37,h_14,hr⟩:=hr
  refine a1k mixed [] [] [[0,1,2,3,4,5,6,7,8,9,10,11]]<|zz ?_
  refine xw (v:=(eB (!(fR x31.Out.Tx x37.Prev.Tx ((x31.Out.Index == x37.Prev.Index)&&true))))) (eY rfl rfl (aI3 (d:=9) g9 rfl sH zl vS rfl rfl rfl rfl rfl)) ?_
  exact zE
 exact zE
instance :CtC 86 true (bC @aFM):=⟨@aFM⟩
theorem aCt {N tag b r} (hr:aB6 N tag b=some r):
  Fp 184 [] [eS tag,.row none 1 (b.map (eI .u8))] (.agg (r.map (eI .u8))) []:=by
 refine bT func184 ntmps184 results184 fun hR=> ?_
 obtain⟨x7,h_1,x8,h_2,q,h_3,hr⟩:=gZ hr
 refine zz ?_
 refine a0m (i:=1) (h':=[some ⟨26,(a1c 32 0).map (eI .u8)⟩,some ⟨5,x7.map (eI .u8)⟩]) rfl ti9 nQ nF h_1 rfl rfl (xOf ?_)
 refine mL (jO h_2) [] [1] ?_
 refine zz ?_
 refine a1b ?_
 obtain⟨x10,h_4,x12,h_5,x14,h_6,x15,h_7,q_1,h_9,hr⟩:=aKs hr
 refine a1k mixed [] [132] [[0,1,2,3,4,5,6,7]]<|zz ?_
 refine zgL (jO h_7) [] [6] ?_
 refine zz ?_
 replace hr:=sj hr
 subst hr
 exact zr1 Tryz.results184 fA (zG [])
instance :CtC 184 true (bC @aCt):=⟨@aCt⟩
theorem aAX {N t vi o r} (hr:vA N t vi o=some r):
  Fp 136 [] [aU t,eI .i64 vi,cK o] (.tup [.agg (r.1.map (eI .u8)),eI .i64 r.2]) []:=by
 refine bT func136 ntmps136 results136 fun hR=> ?_
 unfold vA at hr
 refine zz ?_
 refine a1b ?_
 refine bS (jS N t vi o) (fun x29=>[(1,eI .i64 vi),(3,.ptr 0 0),(5,.ptr 1 0),(6,.ptr 2 0),(29,eB x29)]) (fun x29=>[some ⟨91,aZ t⟩,some ⟨78,c7 o⟩,some ⟨26,(a1c 32 0).map (eI .u8)⟩]) ?_ (body:= ?_)
 rotate_left
 ·clear hr
  intro x29 hr
  unfold jS at hr
  refine zk hr ?_ ?_<;>intro h1 hr<;>refine zz ?_
  ·exact zE
  refine a1b ?_
  refine bS (mE N t vi o) (fun x39=>[(1,eI .i64 vi),(3,.ptr 0 0),(5,.ptr 1 0),(6,.ptr 2 0),(39,eB x39)]) (fun x39=>[some ⟨91,aZ t⟩,some ⟨78,c7 o⟩,some ⟨26,(a1c 32 0).map (eI .u8)⟩]) ?_ (body:= ?_)
  rotate_left
  ·clear hr
   intro x39 hr
   unfold mE at hr
   refine zk hr ?_ ?_<;>intro h2 hr<;>refine zz ?_
   ·exact zE
   refine sk2 (pA N t vi o) (fun l3 l4=>[(1,eI .i64 vi),(3,.ptr 0 0),(5,.ptr 1 0),(6,.ptr 2 0),(8,.sl 3 0 l3.length 1 false),(9,.sl 4 0 l4.length 1 false),(10,.row (some true) 1 [])]) (fun l3 l4=>[some ⟨91,aZ t⟩,some ⟨78,c7 o⟩,some ⟨26,(a1c 32 0).map (eI .u8)⟩,some ⟨5,l3.map (eI .u8)⟩,some ⟨5,l4.map (eI .u8)⟩]) ?_ (body:= ?_)
   rotate_left
   ·clear hr
    intro l3 l4 hr
    unfold pA at hr
    refine bS (qE N t vi o l3 l4) (fun l5=>[(1,eI .i64 vi),(3,.ptr 0 0),(5,.ptr 1 0),(6,.ptr 2 0),(8,.sl 3 0 l3.length 1 false),(9,.sl 4 0 l4.length 1 false),(10,.sl 5 0 l5.length 1 false)]) (fun l5=>[some ⟨91,aZ t⟩,some ⟨78,c7 o⟩,some ⟨26,(a1c 32 0).map (eI .u8)⟩,some ⟨5,l3.map (eI .u8)⟩,some ⟨5,l4.map (eI .u8)⟩,some ⟨5,l5.map (eI .u8)⟩]) ?_ (body:= ?_)
    rotate_left
    ·clear hr
     intro l5 hr
     unfold qE at hr
     obtain⟨x72,h_3,hr⟩:=aP hr
     refine zz ?_
     refine zc (dR h_3) [] ?_
     obtain⟨x75,h_4,x76,h_5,hr⟩:=bW hr
     refine zz ?_
     refine mL (jO h_4) [] [3] ?_
     refine mL (fQ h_5) [] [6] ?_
     obtain⟨x79,h_6,x80,h_7,hr⟩:=bW hr
     refine zz ?_
     refine mL (jO h_6) [] [4] ?_
     refine mL (fQ h_7) [] [7] ?_
     obtain⟨x83,h_8,x84,h_9,hr⟩:=bW hr
     refine zz ?_
     refine mL (jO h_8) [] [5] ?_
     refine mL (fQ h_9) [] [8] ?_
     obtain⟨x88,h_10,hr⟩:=aP hr
     refine zz ?_
     refine mL (dR h_10) [] [9] ?_
     obtain⟨x92,h_11,hr⟩:=aP hr
     refine zz ?_
     refine mL (dR h_11) [] [10] ?_
     obtain⟨x95,h_12,x96,h_13,x97,h_14,q,h_15,hr⟩:=aA5 hr
     refine zz ?_
     refine zc (aFT h_12) [] ?_
     refine zz ?_
     refine mL (aCt h_14) [] [13] ?_
     refine zz ?_
     replace hr:=sj hr
     subst hr
     exact xZ Tryz.results136 fA fA (zg' [])
    obtain⟨res5,hL5,hr⟩:=aP hr
    refine zz ?_
    exact a1a<|dB hL5 (fun x61 fD=>[(1,eI .i64 vi),(3,.ptr 0 0),(5,.ptr 1 0),(6,.ptr 2 0),(8,.sl 3 0 l3.length 1 false),(9,.sl 4 0 l4.length 1 false),(10,.sl 5 0 fD.length 1 false),(59,.row none 2 (t.Outputs.map cK)),(60,eI .i64 (t.Outputs.length:Int)),(61,eI .i64 x61)]) (fun x61 fD=>[some ⟨91,aZ t⟩,some ⟨78,c7 o⟩,some ⟨26,(a1c 32 0).map (eI .u8)⟩,some ⟨5,l3.map (eI .u8)⟩,some ⟨5,l4.map (eI .u8)⟩,some ⟨5,fD.map (eI .u8)⟩]) (h0:=(zW 5 [0,1,2,3,4,5]))
   obtain⟨res6,hL6,hr⟩:=aP hr
   refine zz ?_
   exact a1a<|lp3 hL6 (fun x44 dA dN=>[(1,eI .i64 vi),(3,.ptr 0 0),(5,.ptr 1 0),(6,.ptr 2 0),(8,.sl 3 0 dA.length 1 false),(9,.sl 4 0 dN.length 1 false),(10,.row (some true) 1 []),(42,.row none 35 (t.Inputs.map bQ)),(43,eI .i64 (t.Inputs.length:Int)),(44,eI .i64 x44)]) (fun x44 dA dN=>[some ⟨91,aZ t⟩,some ⟨78,c7 o⟩,some ⟨26,(a1c 32 0).map (eI .u8)⟩,some ⟨5,dA.map (eI .u8)⟩,some ⟨5,dN.map (eI .u8)⟩]) (h0:=(a1h (a1p (fr':=[(1,eI .i64 vi),(3,.ptr 0 0),(5,.ptr 1 0),(6,.ptr 2 0),(8,.sl 3 0 0 1 false),(9,.row (some true) 1 []),(10,.row (some true) 1 []),(42,.row none 35 (t.Inputs.map bQ)),(43,eI .i64 (t.Inputs.length:Int)),(44,eI .i64 0)]) (h1:=[some ⟨91,aZ t⟩,some ⟨78,c7 o⟩,some ⟨26,(a1c 32 0).map (eI .u8)⟩]) 5 (FLe.same rfl (FLe.same rfl (FLe.same rfl (FLe.same rfl (FLe.le rfl (V.le_virt rfl) (FLe.same rfl (FLe.same rfl (FLe.same rfl (FLe.same rfl (FLe.same rfl FLe.nil)))))))))) (HLv.live (V.les_refl _ _) rfl (HLv.live (V.les_refl _ _) rfl (HLv.live (V.les_refl _ _) (all_map (fun _=>rfl) _) HLv.nil)))) (zW 5 [0,1,2,3,4])))
  exact zE
 exact zE
instance :CtC 136 true (bC @aAX):=⟨@aAX⟩
theorem aCM {N o r} (hr:aLS N o=some r):
  Fp 262 [] [aAV o] (eI .i64 r) []:=by
 refine bT func262 ntmps262 results262 fun hR=> ?_
 refine zz ?_
 refine a1b<|a1a ?_
 obtain⟨h1,hr⟩:=cutF hr
 refine xq ?_
 refine zz ?_
 obtain⟨h2,hr⟩:=cutF hr
 refine a1g rfl h2<|a1b ?_
 refine bS (aDz N o) (fun x12=>[(1,.ptr 0 0),(12,eB x12)]) (fun x12=>[some ⟨263,lQ o⟩]) ?_ (body:= ?_)
 rotate_left
 ·clear hr
  intro x12 hr
  obtain⟨h3,hr⟩:=cutF hr
  refine a1g rfl h3 ?_
  obtain⟨h4,hr⟩:=cutF hr
  obtain⟨h5,hr⟩:=cutF hr
  refine xr<|zz ?_
  refine a1g rfl rfl ?_
  refine zz ?_
  obtain⟨h6,hr⟩:=cutF hr
  refine a1g rfl h6 ?_
  obtain⟨h7,hr⟩:=cutF hr
  refine xq ?_
  refine zz ?_
  refine a1g rfl rfl ?_
  exact zE
 exact zE
instance :CtC 262 true (bC @aCM):=⟨@aCM⟩
theorem aGJ {N b r} (hr:aOw N b=some r):
  Fp 246 [] [.row none 1 (b.map (eI .u8))] (.tup [.agg [eI .i64 r.1,.sl 0 0 r.2.1.length 1 false,eI .i64 r.2.2.1,eI .i64 r.2.2.2.1],.row none 1 (r.2.2.2.2.1.map (eI .u8)),eI .i64 r.2.2.2.2.2]) [some ⟨5,r.2.1.map (eI .u8)⟩]:=by
 refine bT func246 ntmps246 results246 fun hR=> ?_
 obtain⟨x8,h_1,hr⟩:=aP hr
 refine zz ?_
 refine a1b ?_
 obtain⟨h2,hr⟩:=cutF hr
 refine xq ?_
 refine zz ?_
 obtain⟨h3,hr⟩:=cutF hr
 refine a1g rfl h3 ?_
 obtain⟨x22,h_4,hr⟩:=aP hr
 refine zz ?_
 refine sk2 (aGs N x8) (fun b_1 l2=>[(0,.row none 1 (b_1.map (eI .u8))),(2,.ptr 0 0),(5,.ptr 1 0)]) (fun b_1 l2=>[some ⟨263,[eI .i64 0,.row (some true) 1 [],eI .i64 0,eI .i64 0]⟩,some ⟨263,[eI .i64 (a1d.wrap x8),.sl 2 0 l2.length 1 false,eI .i64 0,eI .i64 0]⟩,some ⟨5,l2.map (eI .u8)⟩]) ?_ (body:= ?_)
 rotate_left
 ·clear hr
  intro b_1 l2 hr
  refine a1b ?_
  obtain⟨x76,h_5,hr⟩:=aP hr
  refine a1k mixed [] [262] [[0,1,2,3,4,5,6]]<|zz ?_
  refine xG (v:=(eI .i64 x76)) (h':=[some ⟨263,[eI .i64 0,.row (some true) 1 [],eI .i64 0,eI .i64 0]⟩,some ⟨263,[eI .i64 (a1d.wrap x8),.sl 2 0 l2.length 1 false,eI .i64 0,eI .i64 0]⟩,some ⟨5,l2.map (eI .u8)⟩]) rfl (Vm.Fn.lendR (aCM h_5) [] [2] (by decide) rfl (by decide) Lend.nil (Brw.row (aOa (xY rfl (xY (aT3 (d:=3) rfl rfl (fun _=>rfl)) (xY rfl (xY rfl aN8))))) Brw.nil) rfl rfB.nil rfl zH) ?_
  exact zE
 refine zz ?_
 refine a1a ?_
 refine zz ?_
 refine zk hr ?_ ?_<;>intro h7 hr
 ·refine a1b ?_
  obtain⟨h8,hr⟩:=cutF hr
  obtain⟨x35,h_9,hr⟩:=aP hr
  refine xq ?_
  refine zz ?_
  obtain⟨h10,hr⟩:=cutF hr
  refine a1g rfl h10 ?_
  obtain⟨x48,h_11,x50,h_12,x53,h_14,hr⟩:=gZ hr
  refine zz ?_
  refine AB.rd (cD []) (cD [91]) mixed<|a1f (m:=3) [0,1,2,3,4,5,6,8] ?_
  refine zz ?_
  refine zgL (qR h_12) [] [2] ?_
  refine zz ?_
  refine a1o (m:=1) (L:=lst [0,1,2,3,4,5,6,7,8,9] 11) (s1:=aG 77 [(0,.row none 1 (x22.map (eI .u8))),(2,.ptr 0 0),(5,.ptr 1 0),(53,.row none 1 (x53.map (eI .u8)))]) (h1:=[some ⟨263,[eI .i64 0,.row (some true) 1 [],eI .i64 0,eI .i64 0]⟩,some ⟨263,[eI .i64 (a1d.wrap x8),.sl 2 0 x50.length 1 false,eI .i64 0,eI .i64 0]⟩,some ⟨5,x50.map (eI .u8)⟩]) ?_ (fun J=> ?_)
  ·refine a1f (m:=0) [10]<|zz ?_
   refine a1l (by decide +kernel) ?_
   exact zE
  refine a1m (n:=2) [7,9] ⟨?_, ?_,trivial⟩
  ·refine zz ?_
   refine a1f (m:=1) [9]<|zz ?_
   refine a1i J ?_
   exact(zG [0,1,3])
  refine zz ?_
  refine a1f (m:=1) [7]<|zz ?_
  refine a1i J ?_
  exact(zG [0,1,3])
 refine zz ?_
 obtain⟨h15,hr⟩:=cutF hr
 refine a1g rfl h15 ?_
 refine zz ?_
 exact⟨_,_,hr,a1h (a1p (fr':=[(0,.row none 1 (x22.map (eI .u8))),(2,.ptr 0 0),(5,.ptr 1 0)]) (h1:=[some ⟨263,[eI .i64 0,.row (some true) 1 [],eI .i64 0,eI .i64 0]⟩,some ⟨263,[eI .i64 (a1d.wrap x8),.sl 2 0 0 1 false,eI .i64 0,eI .i64 0]⟩]) 5 (FLe.same rfl (FLe.same rfl (FLe.same rfl FLe.nil))) (HLv.live (V.les_refl _ _) rfl (HLv.live (V.les_cons (V.le_refl _ _) (V.les_cons (V.le_virt rfl) (V.les_cons (V.le_refl _ _) (V.les_cons (V.le_refl _ _) V.les_nil)))) rfl HLv.nil))) (zg' [0,1,2])⟩
instance :CtC 246 false (bC @aGJ):=⟨@aGJ⟩
theorem aDs {N b r} (hr:aHz N b=some r):
  Fp 224 [] [.row none 1 (b.map (eI .u8))] (.tup [.sl 0 0 r.1.length 4 true,eI .i64 r.2]) [some ⟨263,r.1.flatMap lQ⟩]:=by
 refine bT func224 ntmps224 results224 fun hR=> ?_
 refine zz ?_
 refine a1b<|zz ?_
 refine zk hr ?_ ?_<;>intro h1 hr<;>refine zz ?_
 ·replace hr:=sj hr
  subst hr
  exact xZ Tryz.results224 fA fA (zW 263 [0])
 refine bS (aId N) (fun l0=>[(4,.sl 0 0 l0.length 4 true)]) (fun l0=>[some ⟨263,l0.flatMap lQ⟩]) ?_
 obtain⟨cY,hL2,hr⟩:=aP hr
 refine a1a<|dB hL2 (fun b_1 aR=>[(0,.row none 1 (b_1.map (eI .u8))),(4,.sl 0 0 aR.length 4 true)]) (fun b_1 aR=>[some ⟨263,aR.flatMap lQ⟩]) (h0:=(zW 263 [0])) (round:= ?_)
 intro m2 b_1 aR hr
 refine a1b<|zz ?_
 refine zk hr ?_ ?_<;>clear hr<;>intro h2 hr<;>refine zz ?_
 ·refine a1a ?_
  replace hr:=aP hr
  obtain⟨x16,h_3,hr⟩:=hr
  refine zz ?_
  refine zc (aGJ h_3) [] ?_
  refine zz ?_
  refine a1b<|zz ?_
  refine zk hr ?_ ?_<;>clear hr<;>intro h4 hr
  ·refine zz ?_
   replace hr:=sj hr
   subst hr
   replace hr:=sj hr
   subst hr
   exact xZ Tryz.results224 fA fA (zW 263 [3])
  replace hr:=aP hr
  obtain⟨x26,h_5,hr⟩:=hr
  refine zz ?_
  refine a1n (zqf [1,0,1])<|nC lQ 4 [eW.mk x16.1 x16.2.1 x16.2.2.1 x16.2.2.2.1] ?_
  exact zE
 exact zE
instance :CtC 224 false (bC @aDs):=⟨@aDs⟩
theorem aB3 {N l r} (hr:aBK N l=some r):
  Fp 225 [] [.row none 4 (l.map aAV)] (eB r) []:=by
 refine bT func225 ntmps225 results225 fun hR=> ?_
 refine zz ?_
 refine hP (aG4 N) [(3,.row (some true) 1 [])] [] ?_
 obtain⟨cY,hL2,hr⟩:=aP hr
 refine zz ?_
 exact a1a<|jA hL2 (fun x8=>[(3,.row (some true) 1 []),(6,.row none 4 (l.map aAV)),(7,eI .i64 (l.length:Int)),(8,eI .i64 x8)]) (fun x8=>[])
instance :CtC 225 true (bC @aB3):=⟨@aB3⟩
theorem aED {N vs r} (hr:aFa N vs=some r):
  Fp 226 [] [.row none 1 (vs.map (eL 1 (eI .u8)))] (eB r) []:=by
 refine bT func226 ntmps226 results226 fun hR=> ?_
 refine zz ?_
 refine a1b<|zz ?_
 refine zk hr ?_ ?_<;>intro h1 hr<;>refine zz ?_
 ·exact zE
 refine hP (aJL N) [] [] ?_
 obtain⟨cY,hL2,hr⟩:=aP hr
 refine zz ?_
 exact a1a<|jA hL2 (fun x10=>[(8,.row none 1 (vs.map (eL 1 (eI .u8)))),(9,eI .i64 (vs.length:Int)),(10,eI .i64 x10)]) (fun x10=>[])
instance :CtC 226 true (bC @aED):=⟨@aED⟩
theorem aBI {N l r} (hr:aBv N l=some r):
  Fp 227 [] [.row none 1 (l.map (eL 1 (eI .u8)))] (.sl 0 0 r.length 1 false) [some ⟨22,r.map (eL 1 (eI .u8))⟩]:=by
 refine bT func227 ntmps227 results227 fun hR=> ?_
 obtain⟨x8,h_1,hr⟩:=aP hr
 refine zz ?_
 refine xw (v:=(.sl 0 0 0 1 false)) (h':=[some ⟨22,x8.map (eL 1 (eI .u8))⟩]) (aN2 rfl rfl (mkC (E:=(eL 1 (eI .u8))) (y:=([]:List Int)) aP8 nQ ⟨zl,rfl,rfl⟩ rfl rfl rfl h_1 rfl rfl)) ?_
 refine zz ?_
 refine bS (aGT N) (fun l0=>[(3,.sl 0 0 l0.length 1 false)]) (fun l0=>[some ⟨22,l0.map (eL 1 (eI .u8))⟩]) ?_
 refine zz ?_
 refine AB.ghost (Ghost.cutM (t:=3) (E:=(eL 1 (eI .u8))) (l:=x8) (x:=[]) (h':=[some ⟨22,[].map (eL 1 (eI .u8))⟩]) rfl rfl aZM rfl) ?_
 obtain⟨cY,hL2,hr⟩:=aP hr
 refine a1a<|dB hL2 (fun x11 aR=>[(3,.sl 0 0 aR.length 1 false),(9,.row none 1 (l.map (eL 1 (eI .u8)))),(10,eI .i64 (l.length:Int)),(11,eI .i64 x11)]) (fun x11 aR=>[some ⟨22,aR.map (eL 1 (eI .u8))⟩]) (round:= ?_)
 intro m2 x11 aR hr
 refine zz ?_
 refine a1b ?_
 refine zk hr ?_ ?_<;>clear hr<;>intro h2 hr<;>refine zz ?_
 ·refine a1b<|a1a ?_
  replace hr:=gZ hr
  obtain⟨x13,h_3,x18,h_4,x20,h_5,hr⟩:=hr
  refine zz ?_
  refine mL (qR h_4) [] [1] ?_
  refine a1n (zv 2) ?_
  exact zE
 exact zE
instance :CtC 227 false (bC @aBI):=⟨@aBI⟩
theorem aHb {N l r} (hr:aGC N l=some r):
  Fp 228 [] [.row none 2 (l.map aGn)] (eB r) []:=by
 refine bT func228 ntmps228 results228 fun hR=> ?_
 unfold aGC at hr
 refine zz ?_
 refine bS (v8 N) (fun x2=>[(2,eB x2)]) (fun x2=>[]) ?_
 exact zE
instance :CtC 228 true (bC @aHb):=⟨@aHb⟩
theorem aIj {N o r} (hr:aLF N o=some r):
  Fp 229 [] [aAV o] (eI .i64 r) []:=
 jC func229 ntmps229 results229
instance :CtC 229 true (bC @aIj):=⟨@aIj⟩
theorem aIh {N o r} (hr:aLA N o=some r):
  Fp 230 [] [aAV o] (eI .i64 r) []:=by
 refine bT func230 ntmps230 results230 fun hR=> ?_
 refine zz ?_
 refine a1b<|zz ?_
 refine a1a<|a1b ?_
 refine zz ?_
 obtain⟨h1,hr⟩:=cutF hr
 refine a1g rfl h1 ?_
 refine zz ?_
 obtain⟨h2,hr⟩:=cutF hr
 refine a1g rfl h2 ?_
 refine zz ?_
 obtain⟨h3,hr⟩:=cutF hr
 refine a1g rfl h3 ?_
 refine zz ?_
 obtain⟨h4,hr⟩:=cutF hr
 refine a1g rfl h4 ?_
 refine zz ?_
 obtain⟨h5,hr⟩:=cutF hr
 refine a1g rfl h5 ?_
 refine zz ?_
 obtain⟨h6,hr⟩:=cutF hr
 refine a1g rfl h6 ?_
 refine zz ?_
 obtain⟨h7,hr⟩:=cutF hr
 refine a1g rfl h7 ?_
 refine zz ?_
 obtain⟨h8,hr⟩:=cutF hr
 refine a1g rfl h8 ?_
 refine zz ?_
 obtain⟨h9,hr⟩:=cutF hr
 refine a1g rfl h9 ?_
 refine bS (aCQ N o) (fun x15=>[(1,.ptr 0 0),(4,eI .i64 o.Code),(15,eB x15)]) (fun x15=>[some ⟨263,lQ o⟩]) ?_
 exact zE
instance :CtC 230 true (bC @aIh):=⟨@aIh⟩
theorem aJD {N b r} (hr:aFi N b=some r):
  Fp 186 [] [.row none 1 (b.map (eI .u8))] (eB r) []:=by
 refine bT func186 ntmps186 results186 fun hR=> ?_
 refine zz ?_
 refine hP (aJx N) [] [] ?_
 obtain⟨cY,hL2,hr⟩:=aP hr
 refine zz ?_
 exact a1a<|jA hL2 (fun x7=>[(5,.row none 1 (b.map (eI .u8))),(6,eI .i64 (b.length:Int)),(7,eI .i64 x7)]) (fun x7=>[])
instance :CtC 186 true (bC @aJD):=⟨@aJD⟩
theorem aGY {N vs aSA r} (hr:aJV N vs aSA=some r):
  Fp 247 [] [.row none 1 (vs.map (eL 1 (eI .u8))),.row none 1 (aSA.map (eI .u8))] (.tup [.sl 0 0 r.1.length 1 false,eI .i64 r.2]) [some ⟨22,r.1.map (eL 1 (eI .u8))⟩]:=by
 refine bT func247 ntmps247 results247 fun hR=> ?_
 refine zz ?_
 refine a1b<|zz ?_
 refine zk hr ?_ ?_<;>intro h1 hr
 ·refine zz ?_
  replace hr:=sj hr
  subst hr
  exact xZ Tryz.results247 fA fA (zW 22 [0])
 exact zE
instance :CtC 247 false (bC @aGY):=⟨@aGY⟩
theorem aEN {N va b r} (hr:y6 N va b=some r):
  Fp 56 [] [.row none 1 (va.map (eI .u8)),.row none 1 (b.map (eI .u8))] (eB r) []:=by
 refine bT func56 ntmps56 results56 fun hR=> ?_
 refine zz ?_
 refine xw (v:=(eS (gM va))) (aF6 rfl (aK1 nQ ti9 nF (aHB (fun _=>rfl)))) ?_
 refine zz ?_
 refine xw (v:=(eS (gM b))) (aF6 rfl (aK1 nQ ti9 nF (aHB (fun _=>rfl))))<|xw (eY rfl rfl (aQM ..)) ?_
 exact zE
instance :CtC 56 true (bC @aEN):=⟨@aEN⟩
theorem aJC {N vn r} (hr:aIY N vn=some r):
  Fp 249 [] [eI .u32 vn] (.sl 0 0 r.length 1 false) [some ⟨5,r.map (eI .u8)⟩]:=by
 refine bT func249 ntmps249 results249 fun hR=> ?_
 refine zz ?_
 refine bS (aJO N) (fun l0=>[(3,.sl 0 0 l0.length 1 false)]) (fun l0=>[some ⟨5,l0.map (eI .u8)⟩]) ?_
 obtain⟨cY,hL2,hr⟩:=aP hr
 exact a1a<|dB hL2 (fun vn_1 aR=>[(0,eI .u32 vn_1),(3,.sl 0 0 aR.length 1 false)]) (fun vn_1 aR=>[some ⟨5,aR.map (eI .u8)⟩]) (h0:=(zW 5 [0]))
instance :CtC 249 false (bC @aJC):=⟨@aJC⟩
theorem aIe {N b r} (hr:aHJ N b=some r):
  Fp 248 [] [eB b] (.row none 1 (r.map (eI .u8))) []:=
 jC func248 ntmps248 results248
instance :CtC 248 true (bC @aIe):=⟨@aIe⟩
theorem aJI {N o vs v r} (hr:aFn N o vs v=some r):
  Fp 231 [] [aAV o,.row none 1 (vs.map (eL 1 (eI .u8))),aKE v] (.tup [.row none 1 (r.1.map (eL 1 (eI .u8))),eI .i64 r.2]) []:=by
 refine bT func231 ntmps231 results231 fun hR=> ?_
 refine zz ?_
 refine a1b<|zz ?_
 refine a1a ?_
 refine zz ?_
 refine zk hr ?_ ?_<;>intro h1 hr
 ·obtain⟨x25,h_2,x26,h_3,hr⟩:=bW hr
  refine zz ?_
  refine mL (qR h_2) [] [2] ?_
  refine a1n (zv 3) ?_
  exact zE
 exact zE
instance :CtC 231 true (bC @aJI):=⟨@aJI⟩
theorem aKh {N b stack v r} (hr:aEb N b stack v=some r):
  Fp 185 [] [.row none 1 (b.map (eI .u8)),.row none 1 (stack.map (eL 1 (eI .u8))),aKE v] (.tup [.row none 1 (r.1.map (eL 1 (eI .u8))),eI .i64 r.2.1,eI .i64 r.2.2]) []:=by
 refine bT func185 ntmps185 results185 fun hR=> ?_
 obtain⟨x20,h_1,hr⟩:=aP hr
 refine zz ?_
 refine zc (aDs h_1) [] ?_
 refine zz ?_
 refine a1b<|zz ?_
 obtain⟨h2,hr⟩:=cutF hr
 refine a1g rfl h2 ?_
 refine zz ?_
 obtain⟨x27,h_3,hr⟩:=aP hr
 refine a1b<|zz ?_
 refine mL (aB3 h_3) [] [1] ?_
 refine zz ?_
 obtain⟨h4,hr⟩:=cutF hr
 refine a1g rfl h4 ?_
 refine zz ?_
 obtain⟨x30,h_5,hr⟩:=aP hr
 refine a1b<|zz ?_
 refine xp (aED h_5) ?_
 refine zz ?_
 obtain⟨h6,hr⟩:=cutF hr
 refine a1g rfl h6 ?_
 obtain⟨x32,h_7,hr⟩:=aP hr
 refine zz ?_
 refine zc (aBI h_7) [] ?_
 refine zz ?_
 refine sk2 (aKf N) (fun vs cost=>[(11,.row none 1 (vs.map (eL 1 (eI .u8)))),(12,eI .i64 cost)]) (fun vs cost=>[]) ?_
 refine zz ?_
 refine AB.ghost (zv 2) ?_
 obtain⟨cY,hL2,hr⟩:=aP hr
 refine a1a<|lp3 hL2 (fun tD cost_1 x35=>[(5,.ptr 0 0),(11,.row none 1 (tD.map (eL 1 (eI .u8)))),(12,eI .i64 cost_1),(13,.row (some true) 1 []),(33,.sl 1 0 x20.1.length 4 true),(34,eI .i64 (x20.1.length:Int)),(35,eI .i64 x35)]) (fun tD cost_1 x35=>[some ⟨191,aBd v⟩,some ⟨263,x20.1.flatMap lQ⟩]) (round:= ?_)
 intro m2 tD cost_1 x35 hr
 refine zz ?_
 refine a1b ?_
 refine zk hr ?_ ?_<;>clear hr<;>intro h8 hr<;>refine zz ?_
 ·refine a1b<|a1a ?_
  replace hr:=aP hr
  obtain⟨x37,h_9,hr⟩:=hr
  refine zz ?_
  refine xw (v:=(aAV x37)) (cF rfl (yR (C:=lQ) (K:=4) (fun _=>rfl) rfl h_9 (qJ (ds:=[eI .i64 x37.Code,.row none 1 (x37.Data.map (eI .u8)),eI .i64 x37.M,eI .i64 x37.N]) aIr rfl zl rfl))) ?_
  exact zE
 exact zE
instance :CtC 185 true (bC @aKh):=⟨@aKh⟩
theorem yG {N b bG v r} (hr:nJ N b bG v=some r):
  Fp 137 [] [.row none 1 (b.map (eI .u8)),.row none 1 (bG.map (eL 1 (eI .u8))),aKE v] (eI .i64 r) []:=
 jC func137 ntmps137 results137
instance :CtC 137 true (bC @yG):=⟨@yG⟩
theorem aIc {N t vi c height r} (hr:aDP N t vi c height=some r):
  Fp 87 [] [aU t,eI .i64 vi,aJ c,eI .i64 height] (eI .i64 r) []:=by
 refine bT func87 ntmps87 results87 fun hR=> ?_
 obtain⟨x16,h_1,q,h_2,hr⟩:=bW hr
 refine zz ?_
 refine xp (aAX h_1) ?_
 refine zz ?_
 refine a1b<|zz ?_
 refine zk hr ?_ ?_<;>intro h3 hr<;>refine zz ?_
 ·exact zE
 refine a1b<|a1b ?_
 obtain⟨x25,h_4,hr⟩:=aP hr
 refine a1k mixed [] [] [[0,1,2,3,4,5,6,7,8]]<|zz ?_
 refine xw (v:=(eB (!(fR x25.Prev.Tx c.Out.Tx ((x25.Prev.Index == c.Out.Index)&&true))))) (eY rfl rfl (aI3 (d:=9) g9 rfl sH zl vS rfl rfl rfl rfl rfl)) ?_
 refine zz ?_
 refine zk hr ?_ ?_<;>intro h5 hr<;>refine zz ?_
 ·exact zE
 refine a1b ?_
 refine bS (oO N t vi c height x16) (fun x43=>[(1,eI .i64 vi),(3,eI .i64 height),(4,.ptr 0 0),(6,.ptr 1 0),(9,.ptr 2 0),(43,eB x43)]) (fun x43=>[some ⟨91,aZ t⟩,some ⟨80,aF c⟩,some ⟨26,x16.1.map (eI .u8)⟩]) ?_ (body:= ?_)
 rotate_left
 ·clear hr
  intro x43 hr
  refine zk hr ?_ ?_<;>intro h6 hr<;>refine zz ?_
  ·exact zE
  refine a1b ?_
  obtain⟨x50,h_7,x60,h_8,hr⟩:=bW hr
  refine a1k mixed [137] [] [[0,1,2,3,4,5,6,7,8,9,10,11,12,13,14,15,16,17]]<|zz ?_
  refine xw (v:=(.agg (aN (eI .u8) x16.1 [eI .i64 height,eI .i64 (a1d.wrap (height-c.Height))]))) (cM rfl (aHI (ps':=[(0,.agg (aN (eI .u8) x16.1 [])),(1,eI .i64 height),(2,eI .i64 (a1d.wrap (height-c.Height)))]) (by simp only[dE (l:=x16.1) (aT h_2)]<;>rfl) (jU aIF aSJ (by kernel_rfl))))<|xu (yG h_8) ?_
  exact zE
 exact zE
instance :CtC 87 true (bC @aIc):=⟨@aIc⟩
theorem aCK {N t l height r} (hr:aDQ N t l height=some r):
  Fp 47 [] [aU t,.row none 37 (l.map aJ),eI .i64 height] (.tup [eI .i64 r.1,eI .i64 r.2]) []:=by
 refine bT func47 ntmps47 results47 fun hR=> ?_
 refine zz ?_
 obtain⟨x13,h_1,hr⟩:=aP hr
 refine a1b<|zz ?_
 refine xp (nS h_1) ?_
 refine zz ?_
 refine zk hr ?_ ?_<;>intro h2 hr
 ·exact zE
 obtain⟨x17,h_3,hr⟩:=aP hr
 refine zz ?_
 refine xp (aFM h_3) ?_
 refine zz ?_
 refine a1b<|zz ?_
 refine zk hr ?_ ?_<;>intro h4 hr<;>refine zz ?_
 ·exact zE
 obtain⟨x25,h_5,hr⟩:=aP hr
 refine a1b<|zz ?_
 refine xp (aDm h_5) ?_
 refine zz ?_
 refine zk hr ?_ ?_<;>intro h6 hr<;>refine zz ?_
 ·exact zE
 refine hP (aHY N x17) [(8,eI .i64 x17.1)] [] ?_
 obtain⟨cY,hL2,hr⟩:=aP hr
 refine zz ?_
 exact a1a<|jA hL2 (fun x29=>[(1,.row none 37 (l.map aJ)),(2,eI .i64 height),(3,.ptr 0 0),(8,eI .i64 x17.1),(28,eI .i64 (l.length:Int)),(29,eI .i64 x29)]) (fun x29=>[some ⟨91,aZ t⟩])
instance :CtC 47 true (bC @aCK):=⟨@aCK⟩
theorem pN {N l vi r} (hr:lE N l vi=some r):
  Fp 48 [] [.row none 37 (l.map aJ),eI .i64 vi] (.sl 0 0 r.length 37 true) [some ⟨80,r.flatMap aF⟩]:=
 jC func48 ntmps48 results48
instance :CtC 48 false (bC @pN):=⟨@pN⟩
theorem mD {N t height r} (hr:iM N t height=some r):
  Fp 52 [] [aU t,eI .i64 height] (.sl 0 0 r.length 37 true) [some ⟨80,r.flatMap aF⟩]:=by
 refine bT func52 ntmps52 results52 fun hR=> ?_
 obtain⟨x10,h_1,q,h_2,hr⟩:=bW hr
 refine zz ?_
 refine xp (aAj h_1) ?_
 refine zz ?_
 refine bS (aA0 N) (fun l0=>[(5,.sl 0 0 l0.length 37 true)]) (fun l0=>[some ⟨80,l0.flatMap aF⟩]) ?_
 obtain⟨cY,hL2,hr⟩:=aP hr
 refine zz ?_
 refine a1a<|dB hL2 (fun x14 l1=>[(1,eI .i64 height),(2,.ptr 0 0),(5,.sl 1 0 l1.length 37 true),(6,.ptr 2 0),(12,.row none 2 (t.Outputs.map cK)),(13,eI .i64 (t.Outputs.length:Int)),(14,eI .i64 x14)]) (fun x14 l1=>[some ⟨91,aZ t⟩,some ⟨80,l1.flatMap aF⟩,some ⟨26,x10.map (eI .u8)⟩]) (h0:=(zW 80 [0,2,1])) (round:= ?_)
 intro m2 x14 l1 hr
 refine zz ?_
 refine a1b ?_
 refine zk hr ?_ ?_<;>clear hr<;>intro h3 hr<;>refine zz ?_
 ·refine a1b<|a1a ?_
  replace hr:=gZ hr
  obtain⟨x17,h_4,x27,h_5,x30,h_7,hr⟩:=hr
  refine zz ?_
  refine a1k mixed [85] [] [[0,1,2,3,4,5,6,7,8,9,10,11,12]]<|zz ?_
  refine xw (v:=(.agg (aN (eI .u8) x10 [eI .u32 (a1j.wrap x14)]))) (cM rfl (aHI (ps':=[(0,.agg (aN (eI .u8) x10 [])),(1,eI .u32 (a1j.wrap x14))]) (by simp only[dE (l:=x10) (aT h_2)]<;>rfl) (jU g9 aI5 (by kernel_rfl)))) ?_
  refine zz ?_
  refine xu (nS h_5)<|xw (v:=(.agg (aN (eI .u8) x10 [eI .u32 (a1j.wrap x14),eI .i64 x17.Value,.row none 1 (x17.Script.map (eI .u8)),eI .i64 height,eB x27]))) (cM rfl (jU pR aQ2 rfl))<|nC aF 37 [aA.mk (aB.mk x10 (a1j.wrap x14)) x17 height x27] ?_
  exact zE
 exact zE
instance :CtC 52 false (bC @mD):=⟨@mD⟩
theorem aAO {N l c r} (hr:t7 N l c=some r):
  Fp 88 [] [.row none 37 (l.map aJ),aJ c] (.sl 0 0 r.length 37 true) [some ⟨80,r.flatMap aF⟩]:=by
 refine bT func88 ntmps88 results88 fun hR=> ?_
 refine zz ?_
 refine bS (aES N l c) (fun l1=>[(0,.row none 37 (l.map aJ)),(3,.ptr 0 0),(5,.sl 1 0 l1.length 37 true)]) (fun l1=>[some ⟨80,aF c⟩,some ⟨80,l1.flatMap aF⟩]) ?_ (body:= ?_)
 rotate_left
 ·clear hr
  intro l1 hr
  refine a1b ?_
  obtain⟨x31,h_1,x33,h_3,x37,h_4,x38,h_5,hr⟩:=aA5 hr
  refine AB.rd (cD [57]) (cD []) mixed<|a1f (m:=5) [0,1,2,3,5,6] ?_
  refine zz ?_
  refine xu (sC h_1)<|nC aF 37 [x31] ?_
  refine zz ?_
  refine a1o (m:=2) (L:=lst [0,1,2,3,4,5,6,7,8] 11) (s1:=aG 39 [(33,.sl 0 0 x33.length 37 true),(37,.row none 37 (x37.map aJ))]) (h1:=[some ⟨80,x33.flatMap aF⟩]) ?_ (fun J=> ?_)
  ·refine a1f (m:=0) [9,10]<|zz ?_
   refine a1l (by decide +kernel) ?_
   exact zE
  refine a1m (n:=4) [4,7] ⟨?_, ?_,trivial⟩
  ·refine zz ?_
   refine a1f (m:=2) [7,8]<|zz ?_
   refine a1i J ?_
   exact(zG [3])
  refine zz ?_
  refine a1m (n:=3) [4,8] ⟨?_, ?_,trivial⟩
  ·refine zz ?_
   refine a1f (m:=2) [8]<|zz ?_
   refine a1i J ?_
   exact(zG [3])
  refine zz ?_
  refine a1f (m:=2) [4]<|zz ?_
  refine a1i J ?_
  exact(zG [3])
 obtain⟨cY,hL2,hr⟩:=aP hr
 refine zz ?_
 refine a1a<|dB hL2 (fun x9 bJ=>[(0,.row none 37 (l.map aJ)),(3,.ptr 0 0),(5,.sl 1 0 bJ.length 37 true),(8,eI .i64 (l.length:Int)),(9,eI .i64 x9)]) (fun x9 bJ=>[some ⟨80,aF c⟩,some ⟨80,bJ.flatMap aF⟩]) (h0:=(zW 80 [0,1])) (round:= ?_)
 intro m2 x9 bJ hr
 refine zz ?_
 refine a1b ?_
 refine zk hr ?_ ?_<;>clear hr<;>intro h6 hr<;>refine zz ?_
 ·refine bS (aAM N l c x9 (nR N l c m2)) (fun cE=>[(0,.row none 37 (l.map aJ)),(3,.ptr 0 0),(5,.sl 1 0 cE.length 37 true),(8,eI .i64 (l.length:Int)),(9,eI .i64 x9)]) (fun cE=>[some ⟨80,aF c⟩,some ⟨80,cE.flatMap aF⟩]) ?_
  refine a1a ?_
  refine zz ?_
  refine a1b ?_
  replace hr:=bW hr
  obtain⟨x14,h_7,x19,h_8,hr⟩:=hr
  refine a1k mixed [104] [] [[0,1,2,3,4,5,6,7,8]]<|zz ?_
  refine xu (tX h_8) ?_
  refine zz ?_
  refine zk hr ?_ ?_<;>clear hr<;>intro h10 hr
  ·replace hr:=aP hr
   obtain⟨x27,h_11,hr⟩:=hr
   refine zz ?_
   refine nC aF 37 [x14] ?_
   exact zE
  exact zE
 exact zE
instance :CtC 88 false (bC @aAO):=⟨@aAO⟩
theorem aKL {N l t height r} (hr:aGU N l t height=some r):
  Fp 50 [] [.row none 37 (l.map aJ),aU t,eI .i64 height] (.tup [.row none 37 (r.1.map aJ),eI .i64 r.2]) []:=by
 refine bT func50 ntmps50 results50 fun hR=> ?_
 refine zz ?_
 refine hP (aF3 N l t height) [(0,.row none 37 (l.map aJ)),(2,eI .i64 height),(4,.ptr 0 0)] [some ⟨91,aZ t⟩] ?_ (body:= ?_)
 rotate_left
 ·clear hr
  intro hr
  refine bS (aK0 N) (fun l_1=>[(0,.row none 37 (l_1.map aJ))]) (fun l_1=>[]) ?_
  obtain⟨x28,h_1,hr⟩:=aP hr
  refine zz ?_
  refine zc (mD h_1) [] ?_
  obtain⟨zX,hL3,hr⟩:=aP hr
  refine zz ?_
  refine a1a<|dB hL3 (fun l_2 x30=>[(0,.row none 37 (l_2.map aJ)),(28,.sl 0 0 x28.length 37 true),(29,eI .i64 (x28.length:Int)),(30,eI .i64 x30)]) (fun l_2 x30=>[some ⟨80,x28.flatMap aF⟩]) (round:= ?_)
  intro m3 l_2 x30 hr
  refine zz ?_
  refine a1b ?_
  refine zk hr ?_ ?_<;>clear hr<;>intro h2 hr<;>refine zz ?_
  ·refine a1b<|a1a ?_
   replace hr:=aP hr
   obtain⟨x32,h_3,hr⟩:=hr
   refine zz ?_
   refine xw (v:=(aJ x32)) (cF rfl (yR (C:=aF) (K:=37) (fun _=>rfl) rfl h_3 (qJ (ds:=(aN (eI .u8) x32.Out.Tx [eI .u32 x32.Out.Index,eI .i64 x32.Output.Value,.row none 1 (x32.Output.Script.map (eI .u8)),eI .i64 x32.Height,eB x32.Coinbase])) pR rfl zl rfl))) ?_
   replace hr:=aP hr
   obtain⟨x36,h_4,hr⟩:=hr
   refine zz ?_
   refine zc (aAO h_4) [] ?_
   refine zz ?_
   exact⟨_,_,hr,a1h (zv 2) (zG [0])⟩
  exact zE
 obtain⟨x14,h_5,hr⟩:=aP hr
 refine zz ?_
 refine zc (mD h_5) [] ?_
 obtain⟨res4,hL4,hr⟩:=aP hr
 refine zz ?_
 refine a1a<|jA hL4 (fun x16=>[(0,.row none 37 (l.map aJ)),(2,eI .i64 height),(4,.ptr 0 0),(14,.sl 1 0 x14.length 37 true),(15,eI .i64 (x14.length:Int)),(16,eI .i64 x16)]) (fun x16=>[some ⟨91,aZ t⟩,some ⟨80,x14.flatMap aF⟩]) (round:= ?_)
 intro m4 x16 hr
 refine zz ?_
 refine a1b ?_
 refine zk hr ?_ ?_<;>clear hr<;>intro h6 hr<;>refine zz ?_
 ·refine a1b<|a1a ?_
  replace hr:=aP hr
  obtain⟨x18,h_7,hr⟩:=hr
  refine zz ?_
  refine xw (v:=(aJ x18)) (cF rfl (yR (C:=aF) (K:=37) (fun _=>rfl) rfl h_7 (qJ (ds:=(aN (eI .u8) x18.Out.Tx [eI .u32 x18.Out.Index,eI .i64 x18.Output.Value,.row none 1 (x18.Output.Script.map (eI .u8)),eI .i64 x18.Height,eB x18.Coinbase])) pR rfl zl rfl))) ?_
  exact zE
 exact zE
instance :CtC 50 true (bC @aKL):=⟨@aKL⟩
theorem yW {N l r} (hr:aAl N l=some r):
  Fp 51 [] [.row none 37 (l.map aJ)] (eI .i64 r) []:=by
 refine bT func51 ntmps51 results51 fun hR=> ?_
 refine zz ?_
 refine bS (aH2 N) (fun sum=>[(3,eI .i64 sum)]) (fun sum=>[]) ?_
 obtain⟨cY,hL2,hr⟩:=aP hr
 refine zz ?_
 exact a1a<|dB hL2 (fun gL x8=>[(3,eI .i64 gL),(6,.row none 37 (l.map aJ)),(7,eI .i64 (l.length:Int)),(8,eI .i64 x8)]) (fun gL x8=>[])
instance :CtC 51 true (bC @yW):=⟨@yW⟩
theorem aA3 {N p l b r} (hr:aAH N p l b=some r):
  Fp 13 [] [cP p,cG l,cW b] (.tup [cG r.1,rH r.2.1,eI .i64 r.2.2]) []:=by
 refine bT func13 ntmps13 results13 fun hR=> ?_
 refine zz ?_
 obtain⟨x25,h_1,hr⟩:=aP hr
 refine a1b<|zz ?_
 refine xp (aC7 h_1) ?_
 refine zz ?_
 refine zk hr ?_ ?_<;>intro h2 hr<;>refine zz ?_
 ·exact zE
 refine a1b ?_
 obtain⟨x36,h_3,q,h_5,hr⟩:=bW hr
 refine AB.rd (cD [45]) (cD []) mixed<|a1f (m:=4) [0,1,2,3,4,5,6,7,8,9] ?_
 refine zz ?_
 refine xu (aAN h_3) ?_
 refine zz ?_
 refine xw (v:=(.agg ((eI .i64 (a1d.wrap (l.Height+1)))::(aN (eI .u8) x36 [.row none 37 (l.Coins.map aJ)])))) (cM rfl (aHI (ps':=[(0,eI .i64 (a1d.wrap (l.Height+1))),(1,.agg (aN (eI .u8) x36 [])),(2,.row none 37 (l.Coins.map aJ))]) (by simp only[dE (l:=x36) (aT h_5)]<;>rfl) (jU zZ aF5 (by kernel_rfl)))) ?_
 refine zz ?_
 refine a1o (m:=1) (L:=lst [0,1,2,3,4,5,6,7,8,9,10,11,12] 14) (s1:=aG 153 [(3,.ptr 0 0),(5,.ptr 1 0),(6,.ptr 2 0),(7,.ptr 3 0),(10,.ptr 4 0),(11,.ptr 5 0),(40,.agg [.row (some true) 1 []])]) (h1:=[some ⟨34,bD p⟩,some ⟨47,aQ b⟩,some ⟨44,(eI .i64 0)::(aN (eI .u8) (a1c 32 0) [.row (some true) 1 []])⟩,some ⟨54,[.row (some true) 1 []]⟩,some ⟨44,(eI .i64 (a1d.wrap (l.Height+1)))::(aN (eI .u8) x36 [.row none 37 (l.Coins.map aJ)])⟩,some ⟨54,[.row (some true) 1 []]⟩]) ?_ (fun J=> ?_)
 ·refine a1f (m:=0) [13]<|zz ?_
  refine a1l (by decide +kernel) ?_
  obtain⟨x44,h_6,hr⟩:=aP hr
  refine zz ?_
  refine xp (uR h_6) ?_
  refine zz ?_
  refine sk3 (aBb N l b x36) (fun most c3 l5=>[(5,.ptr 0 0),(6,.ptr 1 0),(7,.ptr 2 0),(10,.ptr 3 0),(11,.ptr 4 0),(12,eI .i64 most)]) (fun most c3 l5=>[some ⟨47,aQ b⟩,some ⟨44,(eI .i64 0)::(aN (eI .u8) (a1c 32 0) [.row (some true) 1 []])⟩,some ⟨54,[.row (some true) 1 []]⟩,some ⟨44,(eI .i64 (a1d.wrap (l.Height+1)))::(aN (eI .u8) x36 [.row none 37 (c3.map aJ)])⟩,some ⟨54,[.sl 5 0 l5.length 37 true]⟩,some ⟨80,l5.flatMap aF⟩]) ?_ (body:= ?_)
  rotate_left
  ·clear hr
   intro most c3 l5 hr
   refine a1b<|a1a<|a1b ?_
   obtain⟨aZj,h_7,aYU,h_8,aKz,h_10,hr⟩:=gZ hr
   refine a1k mixed [] [51,52] [[0,1,2,3,4,5,6,7,8,9,10]]<|zz ?_
   refine zg (mD h_8) [] ?_
   refine zgL (yW h_10) [] [6] ?_
   refine zz ?_
   refine zk hr ?_ ?_<;>intro h12 hr
   ·exact zE
   obtain⟨aYd,h_13,hr⟩:=aP hr
   refine zz ?_
   refine xp (yW h_13) ?_
   refine zz ?_
   refine zk hr ?_ ?_<;>intro h14 hr<;>refine zz ?_
   ·exact zE
   refine zk hr ?_ ?_<;>intro h15 hr<;>refine zz ?_
   ·exact zE
   refine a1b<|AB.rd (cD []) (cD []) mixed<|a1f (m:=4) [0] ?_
   refine zz ?_
   refine a1o (m:=2) (L:=lst [0,1,2] 5) (s1:=aG 153 [(6,.ptr 0 0),(7,.ptr 1 0),(152,.agg [.sl 2 0 l5.length 37 true])]) (h1:=[some ⟨44,(eI .i64 (a1d.wrap (l.Height+1)))::(aN (eI .u8) x36 [.row none 37 (c3.map aJ)])⟩,some ⟨54,[.row (some true) 1 []]⟩,some ⟨80,l5.flatMap aF⟩]) ?_ (fun J=> ?_)
   ·refine a1f (m:=0) [3,4]<|zz ?_
    refine a1l (by decide +kernel) ?_
    exact zE
   refine a1m (n:=3) [1,2] ⟨?_, ?_,trivial⟩
   ·refine zz ?_
    refine a1f (m:=2) [2]<|zz ?_
    refine a1i J ?_
    exact(zG [1,2,5])
   refine zz ?_
   refine a1f (m:=2) [1]<|zz ?_
   refine a1i J ?_
   exact(zG [1,2,5])
  obtain⟨cY,hL2,hr⟩:=aP hr
  refine zz ?_
  refine a1a<|lp4 hL2 (fun pF x48 c4 l6=>[(3,.ptr 0 0),(5,.ptr 1 0),(6,.ptr 2 0),(7,.ptr 3 0),(10,.ptr 4 0),(11,.ptr 5 0),(12,eI .i64 pF),(46,.row none 4 (b.Txs.map aU)),(47,eI .i64 (b.Txs.length:Int)),(48,eI .i64 x48)]) (fun pF x48 c4 l6=>[some ⟨34,bD p⟩,some ⟨47,aQ b⟩,some ⟨44,(eI .i64 0)::(aN (eI .u8) (a1c 32 0) [.row (some true) 1 []])⟩,some ⟨54,[.row (some true) 1 []]⟩,some ⟨44,(eI .i64 (a1d.wrap (l.Height+1)))::(aN (eI .u8) x36 [.row none 37 (c4.map aJ)])⟩,some ⟨54,[.sl 6 0 l6.length 37 true]⟩,some ⟨80,l6.flatMap aF⟩]) (h0:=(a1h (a1p (fr':=[(3,.ptr 0 0),(5,.ptr 1 0),(6,.ptr 2 0),(7,.ptr 3 0),(10,.ptr 4 0),(11,.ptr 5 0),(12,eI .i64 x44),(46,.row none 4 (b.Txs.map aU)),(47,eI .i64 (b.Txs.length:Int)),(48,eI .i64 0)]) (h1:=[some ⟨34,bD p⟩,some ⟨47,aQ b⟩,some ⟨44,(eI .i64 0)::(aN (eI .u8) (a1c 32 0) [.row (some true) 1 []])⟩,some ⟨54,[.row (some true) 1 []]⟩,some ⟨44,(eI .i64 (a1d.wrap (l.Height+1)))::(aN (eI .u8) x36 [.row none 37 (l.Coins.map aJ)])⟩,some ⟨54,[.sl 6 0 0 37 true]⟩]) 80 (FLe.same rfl (FLe.same rfl (FLe.same rfl (FLe.same rfl (FLe.same rfl (FLe.same rfl (FLe.same rfl (FLe.same rfl (FLe.same rfl (FLe.same rfl FLe.nil)))))))))) (HLv.live (V.les_refl _ _) rfl (HLv.live (V.les_refl _ _) rfl (HLv.live (V.les_refl _ _) rfl (HLv.live (V.les_refl _ _) rfl (HLv.live (V.les_refl _ _) rfl (HLv.live (V.les_cons (V.le_virt rfl) V.les_nil) rfl HLv.nil))))))) (zg' [0,1,2,3,4,5,6]))) (round:= ?_)
  intro m2 pF x48 c4 l6 hr
  refine zz ?_
  refine a1b ?_
  refine zk hr ?_ ?_<;>clear hr<;>intro h16 hr<;>refine zz ?_
  ·refine a1b<|a1a ?_
   replace hr:=aP hr
   obtain⟨x51,h_17,hr⟩:=hr
   refine zz ?_
   refine sk3 (qD N p l b x36 x48 x51 (fH N p l b x36 m2)) (fun aNn aSr l7=>[(3,.ptr 0 0),(5,.ptr 1 0),(6,.ptr 2 0),(7,.ptr 3 0),(10,.ptr 4 0),(11,.ptr 5 0),(12,eI .i64 aNn),(14,.ptr 6 0),(46,.row none 4 (b.Txs.map aU)),(47,eI .i64 (b.Txs.length:Int)),(48,eI .i64 x48)]) (fun aNn aSr l7=>[some ⟨34,bD p⟩,some ⟨47,aQ b⟩,some ⟨44,(eI .i64 0)::(aN (eI .u8) (a1c 32 0) [.row (some true) 1 []])⟩,some ⟨54,[.row (some true) 1 []]⟩,some ⟨44,(eI .i64 (a1d.wrap (l.Height+1)))::(aN (eI .u8) x36 [.row none 37 (aSr.map aJ)])⟩,some ⟨54,[.sl 7 0 l7.length 37 true]⟩,some ⟨91,aZ x51⟩,some ⟨80,l7.flatMap aF⟩]) ?_
   refine zz ?_
   refine zk hr ?_ ?_<;>clear hr<;>intro h20 hr
   ·replace hr:=aP hr
    obtain⟨x62,h_21,hr⟩:=hr
    refine zz ?_
    refine zc (aDg h_21) [] ?_
    refine zz ?_
    refine a1b<|zz ?_
    refine zk hr ?_ ?_<;>clear hr<;>intro h22 hr
    ·exact zE
    replace hr:=aP hr
    obtain⟨x75,h_23,hr⟩:=hr
    refine zz ?_
    refine mL (aCK h_23) [] [8] ?_
    refine zz ?_
    refine a1b<|zz ?_
    refine zk hr ?_ ?_<;>clear hr<;>intro h24 hr<;>refine zz ?_
    ·exact zE
    refine bS (aA9 N p l b x36 pF x48 l6 x51 x62 x75 (fH N p l b x36 m2)) (fun aSU=>[(3,.ptr 0 0),(5,.ptr 1 0),(6,.ptr 2 0),(7,.ptr 3 0),(10,.ptr 4 0),(11,.ptr 5 0),(12,eI .i64 pF),(14,.ptr 6 0),(15,.sl 7 0 x62.1.length 37 true),(17,eI .i64 x75.1),(46,.row none 4 (b.Txs.map aU)),(47,eI .i64 (b.Txs.length:Int)),(48,eI .i64 x48)]) (fun aSU=>[some ⟨34,bD p⟩,some ⟨47,aQ b⟩,some ⟨44,(eI .i64 0)::(aN (eI .u8) (a1c 32 0) [.row (some true) 1 []])⟩,some ⟨54,[.row (some true) 1 []]⟩,some ⟨44,(eI .i64 (a1d.wrap (l.Height+1)))::(aN (eI .u8) x36 [.row none 37 (aSU.map aJ)])⟩,some ⟨54,[.sl 8 0 l6.length 37 true]⟩,some ⟨91,aZ x51⟩,some ⟨80,x62.1.flatMap aF⟩,some ⟨80,l6.flatMap aF⟩]) ?_
    replace hr:=aP hr
    obtain⟨res5,hL5,hr⟩:=hr
    refine zz ?_
    refine a1a<|dB hL5 (fun x85 c4_3=>[(3,.ptr 0 0),(5,.ptr 1 0),(6,.ptr 2 0),(7,.ptr 3 0),(10,.ptr 4 0),(11,.ptr 5 0),(12,eI .i64 pF),(14,.ptr 6 0),(15,.sl 7 0 x62.1.length 37 true),(17,eI .i64 x75.1),(46,.row none 4 (b.Txs.map aU)),(47,eI .i64 (b.Txs.length:Int)),(48,eI .i64 x48),(83,.sl 7 0 x62.1.length 37 true),(84,eI .i64 (x62.1.length:Int)),(85,eI .i64 x85)]) (fun x85 c4_3=>[some ⟨34,bD p⟩,some ⟨47,aQ b⟩,some ⟨44,(eI .i64 0)::(aN (eI .u8) (a1c 32 0) [.row (some true) 1 []])⟩,some ⟨54,[.row (some true) 1 []]⟩,some ⟨44,(eI .i64 (a1d.wrap (l.Height+1)))::(aN (eI .u8) x36 [.row none 37 (c4_3.map aJ)])⟩,some ⟨54,[.sl 8 0 l6.length 37 true]⟩,some ⟨91,aZ x51⟩,some ⟨80,x62.1.flatMap aF⟩,some ⟨80,l6.flatMap aF⟩]) (round:= ?_)
    intro m5 x85 c4_3 hr
    refine zz ?_
    refine a1b ?_
    refine zk hr ?_ ?_<;>clear hr<;>intro h26 hr<;>refine zz ?_
    ·refine a1b<|a1a ?_
     replace hr:=aP hr
     obtain⟨x87,h_27,hr⟩:=hr
     refine zz ?_
     refine xw (v:=(aJ x87)) (cF rfl (yR (C:=aF) (K:=37) (fun _=>rfl) rfl h_27 (qJ (ds:=(aN (eI .u8) x87.Out.Tx [eI .u32 x87.Out.Index,eI .i64 x87.Output.Value,.row none 1 (x87.Output.Script.map (eI .u8)),eI .i64 x87.Height,eB x87.Coinbase])) pR rfl zl rfl))) ?_
     replace hr:=bW hr
     obtain⟨x95,h_28,x96,h_30,hr⟩:=hr
     refine zz ?_
     refine a1k mixed [49] [48] [[0,1,2,3,4,5,6,7,8,9]]<|zz ?_
     refine xu (lH h_28)<|zg (pN h_30) [] ?_
     refine zz ?_
     exact⟨_,_,hr,a1h (zqf [1,1,1,1,1,1,1,1,1,1,0]) (zG [0,1,2,3,4,5,6,7,8])⟩
    exact zE
   exact zE
  exact zE
 refine a1m (n:=3) [10,11] ⟨?_, ?_,trivial⟩
 ·refine zz ?_
  refine a1f (m:=1) [11,12]<|zz ?_
  refine a1i J ?_
  exact(zG [0,2,3,4,5,6])
 refine zz ?_
 refine a1f (m:=1) [10,12]<|zz ?_
 refine a1i J ?_
 exact(zG [0,2,3,4,6,5])
instance :CtC 13 true (bC @aA3):=⟨@aA3⟩
theorem aEI {N p c r} (hr:aI7 N p c=some r):
  Fp 158 [] [cP p,gE c] (eB r) []:=by
 refine bT func158 ntmps158 results158 fun hR=> ?_
 refine zz ?_
 refine bS (qN N) (fun x4=>[(4,eB x4)]) (fun x4=>[]) ?_
 obtain⟨x6,h_1,hr⟩:=aP hr
 rcases a1e x6 with h2|h2
 ·replace hr:=kJ hr h2
  rcases a1e (decide (0≤c.Height))with h3|h3
  ·replace hr:=kJ hr h3
   rcases a1e (decide (c.Height≤16777216))with h4|h4
   ·replace hr:=kJ hr h4
    refine xr<|zz ?_
    refine xp (lT h_1) ?_
    refine zz ?_
    refine xSg (v:=(eI .i64 (if 11<(a1d.wrap (c.Height+1))then 11 else(a1d.wrap (c.Height+1))))) rfl rfl h4 (aPs rfl aPk) ?_
    refine zz ?_
    exact⟨_,hr,zG []⟩
   replace hr:=kR hr h4
   refine xr<|zz ?_
   refine xp (lT h_1) ?_
   refine zz ?_
   exact⟨_,hr,zG []⟩
  replace hr:=kR hr h3
  refine xr<|zz ?_
  refine xp (lT h_1) ?_
  refine zz ?_
  refine xX rfl<|xX rfl<|xX rfl<|xX rfl<|xX rfl<|xX rfl<|xX rfl<|xX rfl ?_
  refine zz ?_
  exact⟨_,hr,zG []⟩
 replace hr:=kR hr h2
 refine xr<|zz ?_
 refine xp (lT h_1) ?_
 refine zz ?_
 refine xX rfl<|xX rfl<|xX rfl ?_
 refine zz ?_
 refine xX rfl<|xX rfl<|xX rfl<|xX rfl<|xX rfl<|xX rfl<|xX rfl<|xX rfl ?_
 refine zz ?_
 exact⟨_,hr,zG []⟩
instance :CtC 158 true (bC @aEI):=⟨@aEI⟩
theorem uE {N p c vh r} (hr:uU N p c vh=some r):
  Fp 115 [] [cP p,gE c,pO vh] (.tup [gE r.1,eI .i64 r.2]) []:=by
 refine bT func115 ntmps115 results115 fun hR=> ?_
 refine zz ?_
 obtain⟨x11,h_1,hr⟩:=aP hr
 refine a1b<|zz ?_
 refine xp (aEI h_1) ?_
 refine zz ?_
 refine zk hr ?_ ?_<;>intro h2 hr<;>refine zz ?_
 ·exact zE
 refine a1b<|zz ?_
 refine zk hr ?_ ?_<;>intro h3 hr<;>refine zz ?_
 ·exact zE
 refine a1b ?_
 obtain⟨x22,h_4,q,h_6,hr⟩:=bW hr
 refine a1k mixed [45] [] [[0,1,2,3,4,5,6,7,8,9,10,11]]<|zz ?_
 refine xu (aAN h_4) ?_
 refine zz ?_
 refine xw (v:=(.agg ((eI .i64 (a1d.wrap (c.Height+1)))::(aN (eI .u8) x22 [eI .u32 vh.Bits,eI .u32 c.First,.row (some true) 1 []])))) (cM rfl (aHI (ps':=[(0,eI .i64 (a1d.wrap (c.Height+1))),(1,.agg (aN (eI .u8) x22 [])),(2,eI .u32 vh.Bits),(3,eI .u32 c.First)]) (by simp only[dE (l:=x22) (aT h_6)]<;>rfl) (jU aHP aVk (by kernel_rfl)))) ?_
 refine zz ?_
 refine bS (pY N c vh x22) (fun c3=>[(4,.ptr 0 0),(5,.ptr 1 0),(6,.ptr 2 0),(8,.ptr 3 0)]) (fun c3=>[some ⟨51,cB c⟩,some ⟨28,sW vh⟩,some ⟨51,(eI .i64 0)::(aN (eI .u8) (a1c 32 0) [eI .u32 0,eI .u32 0,.row (some true) 1 []])⟩,some ⟨51,(eI .i64 (a1d.wrap (c.Height+1)))::(aN (eI .u8) x22 [eI .u32 vh.Bits,eI .u32 c3,.row (some true) 1 []])⟩]) ?_ (body:= ?_)
 rotate_left
 ·clear hr
  intro c3 hr
  refine a1b ?_
  obtain⟨x39,h_7,x43,h_8,hr⟩:=bW hr
  refine AB.rd (cD []) (cD []) mixed<|a1f (m:=5) [0,1,3,4] ?_
  refine zz ?_
  refine a1o (m:=3) (L:=lst [0,1,2,3,4,5] 9) (s1:=aG 54 [(6,.ptr 0 0),(8,.ptr 1 0),(39,.sl 2 0 x39.length 1 false),(42,.sl 3 0 1 1 false)]) (h1:=[some ⟨51,(eI .i64 0)::(aN (eI .u8) (a1c 32 0) [eI .u32 0,eI .u32 0,.row (some true) 1 []])⟩,some ⟨51,(eI .i64 (a1d.wrap (c.Height+1)))::(aN (eI .u8) x22 [eI .u32 vh.Bits,eI .u32 c3,.row (some true) 1 []])⟩,some ⟨24,x39.map (eI .u32)⟩,some ⟨24,[vh.Time].map (eI .u32)⟩]) ?_ (fun J=> ?_)
  ·refine a1f (m:=0) [6,7,8]<|zz ?_
   refine a1l (by decide +kernel) ?_
   refine zz ?_
   refine bS (tS N c vh x22 c3) (fun c1=>[(6,.ptr 0 0),(8,.ptr 1 0)]) (fun c1=>[some ⟨51,(eI .i64 0)::(aN (eI .u8) (a1c 32 0) [eI .u32 0,eI .u32 0,.row (some true) 1 []])⟩,some ⟨51,(eI .i64 (a1d.wrap (c.Height+1)))::(aN (eI .u8) x22 [eI .u32 vh.Bits,eI .u32 c3,.row none 1 (c1.map (eI .u32))])⟩]) ?_
   refine zz ?_
   refine zk hr ?_ ?_<;>intro h9 hr
   ·obtain⟨x51,h_10,hr⟩:=aP hr
    refine zz ?_
    refine a1n (zqf [1,1,0,1,0]) ?_
    exact zE
   refine zz ?_
   exact⟨_,hr,a1h (zqf [1,1,0,1,0]) (zG [0,1])⟩
  refine a1m (n:=4) [2,5] ⟨?_, ?_,trivial⟩
  ·refine zz ?_
   refine a1f (m:=3) [5]<|zz ?_
   refine a1i J ?_
   exact(zG [2,3,5,6])
  refine zz ?_
  refine a1f (m:=3) [2]<|zz ?_
  refine a1i J ?_
  exact(zG [2,3,6,4])
 exact zE
instance :CtC 115 true (bC @uE):=⟨@uE⟩
theorem aC4 {N p c vh now r} (hr:aDB N p c vh now=some r):
  Fp 114 [] [cP p,gE c,pO vh,eI .u32 now] (eI .i64 r) []:=by
 refine bT func114 ntmps114 results114 fun hR=> ?_
 obtain⟨x18,h_1,hr⟩:=aP hr
 refine zz ?_
 refine xp (uE h_1) ?_
 refine zz ?_
 refine a1b<|zz ?_
 refine zk hr ?_ ?_<;>intro h2 hr<;>refine zz ?_
 ·exact zE
 obtain⟨q,h_3,q_1,h_4,hr⟩:=bW hr
 refine a1b<|zz ?_
 refine zk hr ?_ ?_<;>intro h5 hr<;>refine zz ?_
 ·exact zE
 refine a1b<|zz ?_
 refine zk hr ?_ ?_<;>intro h6 hr
 ·exact zE
 obtain⟨x37,h_7,hr⟩:=aP hr
 refine zz ?_
 refine xp (aAG h_7) ?_
 refine zz ?_
 refine a1b<|zz ?_
 refine zk hr ?_ ?_<;>intro h8 hr<;>refine zz ?_
 ·exact zE
 refine a1b<|a1a ?_
 refine zz ?_
 refine zk hr ?_ ?_<;>intro h9 hr
 ·exact zE
 obtain⟨q_2,h_10,x53,h_11,hr⟩:=bW hr
 refine zz ?_
 refine xp (aDv h_11) ?_
 refine zz ?_
 refine zk hr ?_ ?_<;>intro h12 hr
 ·exact zE
 refine a1b ?_
 obtain⟨x60,h_13,hr⟩:=aP hr
 refine a1k mixed [74] [] [[0,1,2,3,4,5,6]]<|zz ?_
 refine xu (v7 h_13) ?_
 refine zz ?_
 refine zk hr ?_ ?_<;>intro h15 hr<;>refine zz ?_
 ·exact zE
 refine zk hr ?_ ?_<;>intro h16 hr<;>refine zz ?_
 ·exact zE
 refine hP (aIb N) [] [] ?_
 obtain⟨cY,hL2,hr⟩:=aP hr
 refine zz ?_
 refine a1a<|jA hL2 (fun x76=>[(9,.ptr 0 0),(74,.row none 33 (p.Checkpoints.map bE)),(75,eI .i64 (p.Checkpoints.length:Int)),(76,eI .i64 x76)]) (fun x76=>[some ⟨51,cB x18.1⟩]) (round:= ?_)
 intro m2 x76 hr
 refine zz ?_
 refine a1b ?_
 refine zk hr ?_ ?_<;>clear hr<;>intro h17 hr<;>refine zz ?_
 ·refine a1b<|a1a ?_
  replace hr:=aP hr
  obtain⟨x78,h_18,hr⟩:=hr
  refine zz ?_
  refine bS (aC1 N p x18 x76 (oS N p x18 m2)) (fun x91=>[(9,.ptr 0 0),(74,.row none 33 (p.Checkpoints.map bE)),(75,eI .i64 (p.Checkpoints.length:Int)),(76,eI .i64 x76),(91,eB x91)]) (fun x91=>[some ⟨51,cB x18.1⟩]) ?_
  exact zE
 exact zE
instance :CtC 114 true (bC @aC4):=⟨@aC4⟩
theorem aJY {N l vn r} (hr:aKl N l vn=some r):
  Fp 31 [] [.row none 1 (l.map (eI .u8)),eI .i64 vn] (.row none 1 (r.map (eI .u8))) []:=by
 refine bT func31 ntmps31 results31 fun hR=> ?_
 obtain⟨x10,h_1,hr⟩:=aP hr
 refine zz ?_
 refine xw (v:=(eI .i64 (if vn<(l.length:Int)then vn else(l.length:Int)))) (aPs rfl aPk) ?_
 exact zE
instance :CtC 31 true (bC @aJY):=⟨@aJY⟩
theorem pC {N va b r} (hr:aEF N va b=some r):
  Fp 89 [] [cK va,cK b] (eB r) []:=by
 refine bT func89 ntmps89 results89 fun hR=> ?_
 refine zz ?_
 refine bS (uH N) (fun x4=>[(4,eB x4)]) (fun x4=>[]) ?_
 rcases a1e (va.Value == b.Value)with h1|h1
 ·replace hr:=kJ hr h1
  obtain⟨x15,h_2,hr⟩:=aP hr
  refine xr<|zz ?_
  refine xCg (v:=(eB x15)) (h':=[some ⟨78,c7 va⟩,some ⟨78,c7 b⟩]) rfl rfl h1 rfl (Vm.Fn.pure (aEN h_2) rfl rfl) ?_
  refine zz ?_
  exact⟨_,hr,zG []⟩
 replace hr:=kR hr h1
 refine xr<|zz ?_
 exact⟨_,hr,zG []⟩
instance :CtC 89 true (bC @pC):=⟨@pC⟩
theorem z6 {N va b r} (hr:oL N va b=some r):
  Fp 53 [] [aJ va,aJ b] (eB r) []:=by
 refine bT func53 ntmps53 results53 fun hR=> ?_
 refine zz ?_
 refine bS (k8 N) (fun x4=>[(4,eB x4)]) (fun x4=>[]) ?_
 rcases a1e (fR va.Out.Tx b.Out.Tx ((va.Out.Index == b.Out.Index)&&true))with h1|h1
 ·replace hr:=kJ hr h1
  obtain⟨x15,h_2,hr⟩:=aP hr
  rcases a1e x15 with h3|h3
  ·replace hr:=kJ hr h3
   rcases a1e (va.Height == b.Height)with h4|h4
   ·replace hr:=kJ hr h4
    refine xr<|zz ?_
    refine xw (eY rfl rfl (k7 (d:=9) g9 rfl sH zl vS rfl rfl rfl rfl rfl)) ?_
    refine zz ?_
    refine xCg (v:=(eB x15)) (h':=[some ⟨80,aF va⟩,some ⟨80,aF b⟩]) rfl rfl h1 rfl (Vm.Fn.pure (pC h_2) rfl rfl) ?_
    refine zz ?_
    refine xSg rfl rfl h4 (eY rfl rfl (aPU _ _ ti4 ..)) ?_
    refine zz ?_
    exact⟨_,hr,zG []⟩
   replace hr:=kR hr h4
   refine xr<|zz ?_
   refine xw (eY rfl rfl (k7 (d:=9) g9 rfl sH zl vS rfl rfl rfl rfl rfl)) ?_
   refine zz ?_
   refine xCg (v:=(eB x15)) (h':=[some ⟨80,aF va⟩,some ⟨80,aF b⟩]) rfl rfl h1 rfl (Vm.Fn.pure (pC h_2) rfl rfl) ?_
   refine zz ?_
   exact⟨_,hr,zG []⟩
  replace hr:=kR hr h3
  refine xr<|zz ?_
  refine xw (eY rfl rfl (k7 (d:=9) g9 rfl sH zl vS rfl rfl rfl rfl rfl)) ?_
  refine zz ?_
  refine xCg (v:=(eB x15)) (h':=[some ⟨80,aF va⟩,some ⟨80,aF b⟩]) rfl rfl h1 rfl (Vm.Fn.pure (pC h_2) rfl rfl) ?_
  refine zz ?_
  refine xX rfl<|xX rfl<|xX rfl<|xX rfl<|xX rfl ?_
  refine zz ?_
  exact⟨_,hr,zG []⟩
 replace hr:=kR hr h1
 refine xr<|zz ?_
 refine xw (eY rfl rfl (k7 (d:=9) g9 rfl sH zl vS rfl rfl rfl rfl rfl)) ?_
 refine zz ?_
 refine xX rfl<|xX rfl<|xX rfl<|xX rfl<|xX rfl ?_
 refine zz ?_
 refine xX rfl<|xX rfl<|xX rfl<|xX rfl<|xX rfl ?_
 refine zz ?_
 exact⟨_,hr,zG []⟩
instance :CtC 53 true (bC @z6):=⟨@z6⟩
theorem aJP {N l b u coins r} (hr:aIU N l b u coins=some r):
  Fp 110 [] [cG l,cW b,rH u,.row none 37 (coins.map aJ)] (.tup [.row none 37 (r.1.map aJ),eB r.2]) []:=by
 refine bT func110 ntmps110 results110 fun hR=> ?_
 refine zz ?_
 refine bS (aER N l u coins) (fun l2=>[(3,.row none 37 (coins.map aJ)),(4,.ptr 0 0),(6,.ptr 1 0),(10,.sl 2 0 l2.length 37 true)]) (fun l2=>[some ⟨44,aO l⟩,some ⟨54,bK u⟩,some ⟨80,l2.flatMap aF⟩]) ?_ (body:= ?_)
 rotate_left
 ·clear hr
  intro l2 hr
  refine bS (aJy N) (fun tM=>[(3,.row none 37 (tM.map aJ))]) (fun tM=>[]) ?_
  obtain⟨zX,hL3,hr⟩:=aP hr
  refine zz ?_
  refine a1a<|dB hL3 (fun jH x32=>[(3,.row none 37 (jH.map aJ)),(4,.ptr 0 0),(10,.sl 1 0 l2.length 37 true),(30,.row none 37 (u.Spent.map aJ)),(31,eI .i64 (u.Spent.length:Int)),(32,eI .i64 x32)]) (fun jH x32=>[some ⟨44,aO l⟩,some ⟨80,l2.flatMap aF⟩]) (round:= ?_)
  intro m3 jH x32 hr
  refine zz ?_
  refine a1b ?_
  refine zk hr ?_ ?_<;>clear hr<;>intro h1 hr<;>refine zz ?_
  ·refine bS (aAD N l u l2 x32 (gB N l u l2 m3)) (fun gT=>[(3,.row none 37 (gT.map aJ)),(4,.ptr 0 0),(10,.sl 1 0 l2.length 37 true),(30,.row none 37 (u.Spent.map aJ)),(31,eI .i64 (u.Spent.length:Int)),(32,eI .i64 x32)]) (fun gT=>[some ⟨44,aO l⟩,some ⟨80,l2.flatMap aF⟩]) ?_
   refine a1a ?_
   replace hr:=aP hr
   obtain⟨x34,h_2,hr⟩:=hr
   refine zz ?_
   replace hr:=aP hr
   obtain⟨x39,h_3,hr⟩:=hr
   refine a1b<|zz ?_
   refine mL (lH h_3) [] [1] ?_
   refine zz ?_
   refine zk hr ?_ ?_<;>clear hr<;>intro h4 hr<;>refine zz ?_
   ·exact zE
   refine a1b ?_
   refine bS (u3 N l u l2 jH x32 x34 (gB N l u l2 m3)) (fun x58=>[(3,.row none 37 (jH.map aJ)),(4,.ptr 0 0),(10,.sl 1 0 l2.length 37 true),(14,.ptr 2 0),(30,.row none 37 (u.Spent.map aJ)),(31,eI .i64 (u.Spent.length:Int)),(32,eI .i64 x32),(58,eB x58)]) (fun x58=>[some ⟨44,aO l⟩,some ⟨80,l2.flatMap aF⟩,some ⟨80,aF x34⟩]) ?_ (body:= ?_)
   rotate_left
   ·clear hr
    intro x58 hr
    refine zk hr ?_ ?_<;>clear hr<;>intro h5 hr
    ·exact zE
    replace hr:=aP hr
    obtain⟨x61,h_6,hr⟩:=hr
    refine zz ?_
    refine zc (aAO h_6) [] ?_
    refine zz ?_
    exact⟨_,hr,a1h (zv 3) (zG [0,1])⟩
   exact zE
  exact zE
 obtain⟨res6,hL6,hr⟩:=aP hr
 refine zz ?_
 exact a1a<|dB hL6 (fun x18 eE=>[(3,.row none 37 (coins.map aJ)),(4,.ptr 0 0),(6,.ptr 1 0),(10,.sl 2 0 eE.length 37 true),(16,.row none 4 (b.Txs.map aU)),(17,eI .i64 (b.Txs.length:Int)),(18,eI .i64 x18)]) (fun x18 eE=>[some ⟨44,aO l⟩,some ⟨54,bK u⟩,some ⟨80,eE.flatMap aF⟩]) (h0:=(zW 80 [0,2,3]))
instance :CtC 110 true (bC @aJP):=⟨@aJP⟩
theorem aB5 {N l b u r} (hr:aCe N l b u=some r):
  Fp 65 [] [cG l,cW b,rH u] (.tup [.row none 37 (r.1.map aJ),eB r.2]) []:=by
 refine bT func65 ntmps65 results65 fun hR=> ?_
 refine zz ?_
 refine bS (aCk N l b u) (fun l3=>[(3,.ptr 0 0),(4,.ptr 1 0),(5,.ptr 2 0),(8,.row none 37 (l.Coins.map aJ)),(10,.sl 3 0 l3.length 33 true)]) (fun l3=>[some ⟨44,aO l⟩,some ⟨47,aQ b⟩,some ⟨54,bK u⟩,some ⟨76,l3.flatMap bP⟩]) ?_ (body:= ?_)
 rotate_left
 ·clear hr
  intro l3 hr
  refine a1b ?_
  refine zz ?_
  refine zk hr ?_ ?_<;>intro h1 hr<;>refine zz ?_
  ·exact zE
  refine hP (aBz N l b u) [(3,.ptr 0 0),(4,.ptr 1 0),(5,.ptr 2 0),(8,.row none 37 (l.Coins.map aJ))] [some ⟨44,aO l⟩,some ⟨47,aQ b⟩,some ⟨54,bK u⟩] ?_ (body:= ?_)
  rotate_left
  ·clear hr
   intro hr
   refine bS (aBJ N l b u) (fun coins=>[(3,.ptr 0 0),(4,.ptr 1 0),(5,.ptr 2 0),(8,.row none 37 (coins.map aJ))]) (fun coins=>[some ⟨44,aO l⟩,some ⟨47,aQ b⟩,some ⟨54,bK u⟩]) ?_
   obtain⟨res4,hL4,hr⟩:=aP hr
   refine zz ?_
   refine a1a<|dB hL4 (fun tM x69=>[(3,.ptr 0 0),(4,.ptr 1 0),(5,.ptr 2 0),(8,.row none 37 (tM.map aJ)),(67,.row none 4 (b.Txs.map aU)),(68,eI .i64 (b.Txs.length:Int)),(69,eI .i64 x69)]) (fun tM x69=>[some ⟨44,aO l⟩,some ⟨47,aQ b⟩,some ⟨54,bK u⟩]) (round:= ?_)
   intro m4 tM x69 hr
   refine zz ?_
   refine a1b ?_
   refine zk hr ?_ ?_<;>clear hr<;>intro h3 hr<;>refine zz ?_
   ·refine bS (aBT N l b u x69 (kN N l b u m4)) (fun jH=>[(3,.ptr 0 0),(4,.ptr 1 0),(5,.ptr 2 0),(8,.row none 37 (jH.map aJ)),(67,.row none 4 (b.Txs.map aU)),(68,eI .i64 (b.Txs.length:Int)),(69,eI .i64 x69)]) (fun jH=>[some ⟨44,aO l⟩,some ⟨47,aQ b⟩,some ⟨54,bK u⟩]) ?_
    refine a1a ?_
    replace hr:=bW hr
    obtain⟨x71,h_4,x76,h_5,hr⟩:=hr
    refine zz ?_
    refine zc (mD h_5) [] ?_
    replace hr:=aP hr
    obtain⟨res6,hL6,hr⟩:=hr
    refine zz ?_
    refine a1a<|dB hL6 (fun gT x78=>[(3,.ptr 0 0),(4,.ptr 1 0),(5,.ptr 2 0),(8,.row none 37 (gT.map aJ)),(67,.row none 4 (b.Txs.map aU)),(68,eI .i64 (b.Txs.length:Int)),(69,eI .i64 x69),(76,.sl 3 0 x76.length 37 true),(77,eI .i64 (x76.length:Int)),(78,eI .i64 x78)]) (fun gT x78=>[some ⟨44,aO l⟩,some ⟨47,aQ b⟩,some ⟨54,bK u⟩,some ⟨80,x76.flatMap aF⟩]) (round:= ?_)
    intro m6 gT x78 hr
    refine zz ?_
    refine a1b ?_
    refine zk hr ?_ ?_<;>clear hr<;>intro h6 hr<;>refine zz ?_
    ·refine bS (rC N l b u x69 x76 x78 (eR N l b u x69 x76 m6)) (fun aLb=>[(3,.ptr 0 0),(4,.ptr 1 0),(5,.ptr 2 0),(8,.row none 37 (aLb.map aJ)),(67,.row none 4 (b.Txs.map aU)),(68,eI .i64 (b.Txs.length:Int)),(69,eI .i64 x69),(76,.sl 3 0 x76.length 37 true),(77,eI .i64 (x76.length:Int)),(78,eI .i64 x78)]) (fun aLb=>[some ⟨44,aO l⟩,some ⟨47,aQ b⟩,some ⟨54,bK u⟩,some ⟨80,x76.flatMap aF⟩]) ?_
     refine a1a ?_
     replace hr:=aP hr
     obtain⟨x80,h_7,hr⟩:=hr
     refine zz ?_
     refine xw (v:=(aJ x80)) (cF rfl (yR (C:=aF) (K:=37) (fun _=>rfl) rfl h_7 (qJ (ds:=(aN (eI .u8) x80.Out.Tx [eI .u32 x80.Out.Index,eI .i64 x80.Output.Value,.row none 1 (x80.Output.Script.map (eI .u8)),eI .i64 x80.Height,eB x80.Coinbase])) pR rfl zl rfl))) ?_
     refine zz ?_
     replace hr:=aP hr
     obtain⟨x86,h_8,hr⟩:=hr
     refine a1b<|zz ?_
     refine xp (lH h_8) ?_
     refine zz ?_
     refine zk hr ?_ ?_<;>clear hr<;>intro h9 hr
     ·refine a1b<|a1b ?_
      replace hr:=bW hr
      obtain⟨x92,h_10,x95,h_11,hr⟩:=hr
      refine a1k mixed [53] [] [[0,1,2,3,4,5,6,7]]<|zz ?_
      refine xu (z6 h_11) ?_
      refine zz ?_
      refine zk hr ?_ ?_<;>clear hr<;>intro h13 hr<;>refine zz ?_
      ·exact zE
      refine bS (wW N l b u x69 x76 x78 (eR N l b u x69 x76 m6)) (fun aLi=>[(3,.ptr 0 0),(4,.ptr 1 0),(5,.ptr 2 0),(8,.row none 37 (aLi.map aJ)),(67,.row none 4 (b.Txs.map aU)),(68,eI .i64 (b.Txs.length:Int)),(69,eI .i64 x69),(76,.sl 3 0 x76.length 37 true),(77,eI .i64 (x76.length:Int)),(78,eI .i64 x78)]) (fun aLi=>[some ⟨44,aO l⟩,some ⟨47,aQ b⟩,some ⟨54,bK u⟩,some ⟨80,x76.flatMap aF⟩]) ?_
      replace hr:=aP hr
      obtain⟨aCy,h_14,hr⟩:=hr
      refine zz ?_
      refine xp (lH h_14) ?_
      refine zz ?_
      refine zk hr ?_ ?_<;>clear hr<;>intro h15 hr
      ·replace hr:=aP hr
       obtain⟨aSM,h_16,hr⟩:=hr
       refine zz ?_
       refine zc (pN h_16) [] ?_
       refine zz ?_
       exact⟨_,hr,a1h (zv 5) (zG [0,1,2,3])⟩
      exact zE
     refine zz ?_
     replace hr:=aP hr
     obtain⟨aEj,h_17,hr⟩:=hr
     refine a1b<|zz ?_
     refine xp (lH h_17) ?_
     refine zz ?_
     refine bS (wT N l b u x69 x76 gT x78 aEj (eR N l b u x69 x76 m6)) (fun z7=>[(3,.ptr 0 0),(4,.ptr 1 0),(5,.ptr 2 0),(8,.row none 37 (gT.map aJ)),(9,eI .i64 aEj),(67,.row none 4 (b.Txs.map aU)),(68,eI .i64 (b.Txs.length:Int)),(69,eI .i64 x69),(76,.sl 3 0 x76.length 37 true),(77,eI .i64 (x76.length:Int)),(78,eI .i64 x78),(120,eB z7)]) (fun z7=>[some ⟨44,aO l⟩,some ⟨47,aQ b⟩,some ⟨54,bK u⟩,some ⟨80,x76.flatMap aF⟩]) ?_ (body:= ?_)
     rotate_left
     ·clear hr
      intro z7 hr
      refine zk hr ?_ ?_<;>clear hr<;>intro h18 hr
      ·exact zE
      replace hr:=aP hr
      obtain⟨aJe,h_19,hr⟩:=hr
      refine zz ?_
      refine zc (pN h_19) [] ?_
      refine zz ?_
      exact⟨_,hr,a1h (zv 4) (zG [0,1,2,3])⟩
     exact zE
    exact zE
   exact zE
  obtain⟨res10,hL10,hr⟩:=aP hr
  refine zz ?_
  refine a1a<|jA hL10 (fun x51=>[(3,.ptr 0 0),(4,.ptr 1 0),(5,.ptr 2 0),(8,.row none 37 (l.Coins.map aJ)),(10,.sl 3 0 l3.length 33 true),(50,eI .i64 (l3.length:Int)),(51,eI .i64 x51)]) (fun x51=>[some ⟨44,aO l⟩,some ⟨47,aQ b⟩,some ⟨54,bK u⟩,some ⟨76,l3.flatMap bP⟩]) (round:= ?_)
  intro m10 x51 hr
  refine zz ?_
  refine a1b ?_
  refine zk hr ?_ ?_<;>clear hr<;>intro h24 hr<;>refine zz ?_
  ·refine a1b<|a1a ?_
   refine zz ?_
   refine a1b ?_
   replace hr:=bW hr
   obtain⟨x57,h_25,x62,h_26,hr⟩:=hr
   refine a1k mixed [] [] [[0,1,2,3,4,5,6,7,8,9,10]]<|zz ?_
   refine xw (v:=(cC x62)) (cF rfl (yR (C:=bP) (K:=33) (fun _=>rfl) rfl h_26 (qJ (ds:=(aN (eI .u8) x62.Tx [eI .u32 x62.Index])) g9 rfl zl rfl)))<|xw (v:=(eB (!(fR x57.Out.Tx x62.Tx ((x57.Out.Index == x62.Index)&&true))))) (eY rfl rfl (aI3 (d:=9) g9 rfl sH zl vS rfl rfl rfl rfl rfl)) ?_
   exact zE
  exact zE
 obtain⟨x23,h_28,res11,hL11,hr⟩:=bW hr
 refine zz ?_
 refine a1a<|dB hL11 (fun x25 dA=>[(3,.ptr 0 0),(4,.ptr 1 0),(5,.ptr 2 0),(8,.row none 37 (l.Coins.map aJ)),(10,.sl 3 0 dA.length 33 true),(23,.row none 4 (x23.map aU)),(24,eI .i64 (x23.length:Int)),(25,eI .i64 x25)]) (fun x25 dA=>[some ⟨44,aO l⟩,some ⟨47,aQ b⟩,some ⟨54,bK u⟩,some ⟨76,dA.flatMap bP⟩]) (h0:=(zW 76 [0,1,2,3])) (round:= ?_)
 intro m11 x25 dA hr
 refine zz ?_
 refine a1b ?_
 refine zk hr ?_ ?_<;>clear hr<;>intro h29 hr<;>refine zz ?_
 ·refine bS (aAS N l b u x23 x25 (lV N l b u x23 m11)) (fun fN=>[(3,.ptr 0 0),(4,.ptr 1 0),(5,.ptr 2 0),(8,.row none 37 (l.Coins.map aJ)),(10,.sl 3 0 fN.length 33 true),(23,.row none 4 (x23.map aU)),(24,eI .i64 (x23.length:Int)),(25,eI .i64 x25)]) (fun fN=>[some ⟨44,aO l⟩,some ⟨47,aQ b⟩,some ⟨54,bK u⟩,some ⟨76,fN.flatMap bP⟩]) ?_
  refine a1a ?_
  replace hr:=bW hr
  obtain⟨x27,h_30,res13,hL13,hr⟩:=hr
  refine zz ?_
  refine a1a<|dB hL13 (fun x32 iD=>[(3,.ptr 0 0),(4,.ptr 1 0),(5,.ptr 2 0),(8,.row none 37 (l.Coins.map aJ)),(10,.sl 3 0 iD.length 33 true),(23,.row none 4 (x23.map aU)),(24,eI .i64 (x23.length:Int)),(25,eI .i64 x25),(30,.row none 35 (x27.Inputs.map bQ)),(31,eI .i64 (x27.Inputs.length:Int)),(32,eI .i64 x32)]) (fun x32 iD=>[some ⟨44,aO l⟩,some ⟨47,aQ b⟩,some ⟨54,bK u⟩,some ⟨76,iD.flatMap bP⟩]) (round:= ?_)
  intro m13 x32 iD hr
  refine zz ?_
  refine a1b ?_
  refine zk hr ?_ ?_<;>clear hr<;>intro h31 hr<;>refine zz ?_
  ·refine a1b<|a1a ?_
   replace hr:=bW hr
   obtain⟨x34,h_32,x40,h_33,hr⟩:=hr
   refine zz ?_
   refine nC bP 33 [x34.Prev] ?_
   exact zE
  exact zE
 exact zE
instance :CtC 65 true (bC @aB5):=⟨@aB5⟩
theorem vR {N l b u r} (hr:t6 N l b u=some r):
  Fp 28 [] [cG l,cW b,rH u] (.tup [cG r.1,eI .i64 r.2]) []:=by
 refine bT func28 ntmps28 results28 fun hR=> ?_
 refine zz ?_
 obtain⟨x13,h_1,hr⟩:=aP hr
 refine a1b<|zz ?_
 refine xp (aCR h_1) ?_
 refine zz ?_
 refine zk hr ?_ ?_<;>intro h2 hr<;>refine zz ?_
 ·exact zE
 refine a1b ?_
 refine bS (lJ N l b u) (fun x26=>[(3,.ptr 0 0),(4,.ptr 1 0),(5,.ptr 2 0),(6,.ptr 3 0),(26,eB x26)]) (fun x26=>[some ⟨44,aO l⟩,some ⟨47,aQ b⟩,some ⟨54,bK u⟩,some ⟨44,(eI .i64 0)::(aN (eI .u8) (a1c 32 0) [.row (some true) 1 []])⟩]) ?_ (body:= ?_)
 rotate_left
 ·clear hr
  intro x26 hr
  refine zk hr ?_ ?_<;>intro h3 hr<;>refine zz ?_
  ·exact zE
  obtain⟨x29,h_4,hr⟩:=aP hr
  refine a1b<|zz ?_
  refine xp (aC5 h_4) ?_
  refine zz ?_
  refine zk hr ?_ ?_<;>intro h5 hr
  ·exact zE
  obtain⟨x38,h_6,hr⟩:=aP hr
  refine zz ?_
  refine xp (aB5 h_6) ?_
  obtain⟨q,h_7,hr⟩:=aP hr
  refine zz ?_
  refine xw (v:=(.agg ((eI .i64 (a1d.wrap (l.Height-1)))::(aN (eI .u8) b.Header.Prev [.row none 37 (x38.1.map aJ)])))) (cM rfl (aHI (ps':=[(0,eI .i64 (a1d.wrap (l.Height-1))),(1,.agg (aN (eI .u8) b.Header.Prev [])),(2,.row none 37 (x38.1.map aJ))]) (by simp only[dE (l:=b.Header.Prev) (aT h_7)]<;>rfl) (jU zZ aF5 (by kernel_rfl)))) ?_
  refine zz ?_
  refine a1b ?_
  refine bS (qG N l b x38) (fun x55=>[(6,.ptr 0 0),(11,.ptr 1 0),(55,eB x55)]) (fun x55=>[some ⟨44,(eI .i64 0)::(aN (eI .u8) (a1c 32 0) [.row (some true) 1 []])⟩,some ⟨44,(eI .i64 (a1d.wrap (l.Height-1)))::(aN (eI .u8) b.Header.Prev [.row none 37 (x38.1.map aJ)])⟩]) ?_
  exact zE
 exact zE
instance :CtC 28 true (bC @vR):=⟨@vR⟩
theorem xT {N va b r} (hr:aBq N va b=some r):
  Fp 15 [] [.row none 37 (va.map aJ),.row none 37 (b.map aJ)] (eB r) []:=by
 refine bT func15 ntmps15 results15 fun hR=> ?_
 refine zz ?_
 refine a1b<|zz ?_
 refine zk hr ?_ ?_<;>intro h1 hr<;>refine zz ?_
 ·exact zE
 refine hP (yC N) [] [] ?_
 obtain⟨cY,hL2,hr⟩:=aP hr
 refine zz ?_
 exact a1a<|jA hL2 (fun x13=>[(0,.row none 37 (va.map aJ)),(1,.row none 37 (b.map aJ)),(12,eI .i64 (va.length:Int)),(13,eI .i64 x13)]) (fun x13=>[])
instance :CtC 15 true (bC @xT):=⟨@xT⟩
theorem aEt {N va b r} (hr:aFq N va b=some r):
  Fp 14 [] [cG va,cG b] (eB r) []:=by
 refine bT func14 ntmps14 results14 fun hR=> ?_
 refine zz ?_
 refine bS (u1 N) (fun x4=>[(4,eB x4)]) (fun x4=>[]) ?_
 rcases a1e (va.Height == b.Height)with h1|h1
 ·replace hr:=kJ hr h1
  obtain⟨q,h_2,q_1,h_3,hr⟩:=bW hr
  rcases a1e (va.Tip == b.Tip)with h4|h4
  ·replace hr:=kJ hr h4
   obtain⟨x22,h_5,hr⟩:=aP hr
   refine xr<|zz ?_
   refine xCg (v:=(eB x22)) (h':=[some ⟨44,aO va⟩,some ⟨44,aO b⟩]) rfl rfl h4 rfl (Vm.Fn.pure (xT h_5) rfl rfl) ?_
   exact zE
  replace hr:=kR hr h4
  refine xr<|zz ?_
  exact⟨_,hr,zG []⟩
 replace hr:=kR hr h1
 refine xr<|zz ?_
 refine xX rfl<|xX rfl<|xX rfl<|xX rfl<|xX rfl ?_
 refine zz ?_
 exact⟨_,hr,zG []⟩
instance :CtC 14 true (bC @aEt):=⟨@aEt⟩
end Go.Proofs.YtopdhljncajmpaaGreatDoor
