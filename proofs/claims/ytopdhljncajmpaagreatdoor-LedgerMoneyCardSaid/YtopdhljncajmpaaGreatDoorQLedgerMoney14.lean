/- Texts of ours, joined: Wk4. -/
import Derived.Test.YtopdhljncajmpaaGreatDoorQLedgerMoney10
open Go.Vm.AB renaming block → a0F,seq → a0H,cndF → a0J,rs → a0L
open List renaming replicate → a0G
open Go.IntKind renaming u32 → a0I
open Go.Vm.OpsX renaming ghost → a0K
set_option linter.unusedVariables false
set_option linter.unusedSimpArgs false
set_option maxRecDepth 20000
set_option maxHeartbeats 8000000
namespace Go.Proofs.YtopdhljncajmpaaGreatDoor
open Go Go.Vm Go.Proofs.Tryz
theorem aFS {N vn r} (hr:aEu N vn=some r):
  Fp 139 [] [eI .u64 vn] (.agg (r.map (eI .u64))) []:=by
 refine bR func139 ntmps139 results139 fun hR=> ?_
 unfold aEu at hr
 refine zz ?_
 refine xw (v:=(.agg ([vn,0,0,0].map (eI .u64)))) (cI rfl (aHf aHk aF6 rfl)) ?_
 exact zE
instance :CtC 139 true (aX @aFS):=⟨@aFS⟩
theorem aDX {N x r} (hr:aGE N x=some r):
  Fp 187 [] [eI .u64 x] (eI .i64 r) []:=by
 refine bR func187 ntmps187 results187 fun hR=> ?_
 refine zz ?_
 refine a0H<|zz ?_
 obtain⟨h1,hr⟩:=cutF hr
 refine a0J rfl h1 ?_
 refine zz ?_
 refine a0H<|zz ?_
 obtain⟨h2,hr⟩:=aJ8 hr
 refine AB.cndT rfl h2 ?_
 obtain⟨x10,h_3,hr⟩:=aN hr
 refine zz ?_
 refine a0H<|zz ?_
 obtain⟨h4,hr⟩:=cutF hr
 refine a0J rfl h4 ?_
 obtain⟨x22,h_5,hr⟩:=aN hr
 refine zz ?_
 refine xw (v:=(eI .u8 x22)) (aXZ rfl rfl (ixT ti9 h_5)) ?_
 exact zE
instance :CtC 187 true (aX @aDX):=⟨@aDX⟩
theorem aLt {N va r} (hr:aQ4 N va=some r):
  Fp 140 [] [.agg (va.map (eI .u64))] (eI .i64 r) []:=by
 refine bR func140 ntmps140 results140 fun hR=> ?_
 refine zz ?_
 obtain⟨aNq,hL1,hr⟩:=aN hr
 refine a0H<|zz ?_
 exact a0F<|gQ hL1 (fun vi=>[(1,.ptr 0 0),(3,eI .i64 vi)]) (fun vi=>[some ⟨31,va.map (eI .u64)⟩])
instance :CtC 140 true (aX @aLt):=⟨@aLt⟩
theorem aLo {N va vn r} (hr:aQN N va vn=some r):
  Fp 189 [] [.agg (va.map (eI .u64)),eI .i64 vn] (.agg (r.map (eI .u64))) []:=by
 refine bR func189 ntmps189 results189 fun hR=> ?_
 refine zz ?_
 refine a0H<|zz ?_
 obtain⟨h1,hr⟩:=cutF hr
 refine a0J rfl h1 ?_
 refine zz ?_
 refine a0H<|zz ?_
 obtain⟨h2,hr⟩:=cutF hr
 refine a0J rfl h2 ?_
 refine zz ?_
 refine bV (aLI N) (fun l1=>[(4,.ptr 0 0),(5,.ptr 1 0)]) (fun l1=>[some ⟨31,(a0G 4 0).map (eI .u64)⟩,some ⟨31,l1.map (eI .u64)⟩]) ?_
 obtain⟨cM,hL2,hr⟩:=aN hr
 refine zz ?_
 exact a0F<|dB hL2 (fun vi l2=>[(2,.ptr 0 0),(4,.ptr 1 0),(5,.ptr 2 0),(6,eI .i64 (IntKind.i64.wrap (Int.tdiv vn 64))),(7,eI .i64 (Int.tmod vn 64)),(8,eI .i64 vi)]) (fun vi l2=>[some ⟨31,va.map (eI .u64)⟩,some ⟨31,(a0G 4 0).map (eI .u64)⟩,some ⟨31,l2.map (eI .u64)⟩])
instance :CtC 189 true (aX @aLo):=⟨@aLo⟩
theorem aEK {N va vn r} (hr:aHH N va vn=some r):
  Fp 141 [] [.agg (va.map (eI .u64)),eI .i64 vn] (.agg (r.map (eI .u64))) []:=
 fR func141 ntmps141 results141
instance :CtC 141 true (aX @aEK):=⟨@aEK⟩
theorem aGa {N kM r} (hr:aED N kM=some r):
  Fp 92 [] [eI .u32 kM] (.tup [.agg (r.1.map (eI .u64)),eI .i64 r.2]) []:=
 fR func92 ntmps92 results92
instance :CtC 92 true (aX @aGa):=⟨@aGa⟩
theorem aLn {N va b r} (hr:aIB N va b=some r):
  Fp 93 [] [.agg (va.map (eI .u64)),.agg (b.map (eI .u64))] (eI .i64 r) []:=by
 refine bR func93 ntmps93 results93 fun hR=> ?_
 unfold aIB at hr
 refine zz ?_
 obtain⟨aNq,hL1,hr⟩:=aN hr
 refine a0H<|zz ?_
 refine a0F<|lp0 hL1 [(2,.ptr 0 0),(3,.ptr 1 0),(5,eI .i64 3)] [some ⟨31,va.map (eI .u64)⟩,some ⟨31,b.map (eI .u64)⟩] (round:= ?_)
 intro m1 hr
 rw[aLB]at hr
 exact zE
instance :CtC 93 true (aX @aLn):=⟨@aLn⟩
theorem aEH {N p r} (hr:nV N p=some r):
  Fp 58 [] [cT p] (eB r) []:=by
 refine bR func58 ntmps58 results58 fun hR=> ?_
 refine zz ?_
 refine a0H ?_
 obtain⟨q,h_1,hr⟩:=aN hr
 obtain⟨h2,hr⟩:=cutF hr
 obtain⟨h3,hr⟩:=cutF hr
 refine xq ?_
 refine zz ?_
 refine xw (v:=(.agg ([0,0,0,0].map (eI .u64)))) (cI rfl (aHf aHk aF6 rfl)) ?_
 refine zz ?_
 obtain⟨h4,hr⟩:=cutF hr
 refine a0J rfl h4 ?_
 refine zz ?_
 refine a0H ?_
 obtain⟨h5,hr⟩:=cutF hr
 obtain⟨h6,hr⟩:=cutF hr
 obtain⟨h7,hr⟩:=cutF hr
 refine xq ?_
 refine zz ?_
 obtain⟨h8,hr⟩:=cutF hr
 refine a0J rfl h8 ?_
 refine zz ?_
 refine a0H ?_
 obtain⟨h9,hr⟩:=cutF hr
 obtain⟨h10,hr⟩:=cutF hr
 obtain⟨h11,hr⟩:=cutF hr
 refine xq ?_
 refine zz ?_
 obtain⟨h12,hr⟩:=cutF hr
 refine a0J rfl h12 ?_
 refine zz ?_
 refine fT (zC N p) [(1,.ptr 0 0)] [some ⟨34,bE p⟩] ?_
 obtain⟨cM,hL2,hr⟩:=aN hr
 refine zz ?_
 exact a0F<|lp0 hL2 [(1,.ptr 0 0),(3,eI .i64 0),(59,.row none 33 (p.Checkpoints.map aW)),(60,eI .i64 (p.Checkpoints.length:Int)),(61,eI .i64 0)] [some ⟨34,bE p⟩]
instance :CtC 58 true (aX @aEH):=⟨@aEH⟩
theorem aGK {N vn cW r} (hr:r9 N vn cW=some r):
  Fp 179 [] [eI .u64 vn,eI .i64 cW] (.sl 0 0 r.length 1 false) [some ⟨5,r.map (eI .u8)⟩]:=by
 refine bR func179 ntmps179 results179 fun hR=> ?_
 obtain⟨x8,h_1,hr⟩:=aN hr
 refine zz ?_
 refine xw (v:=(.sl 0 0 x8.length 1 false)) (h':=[some ⟨5,x8.map (eI .u8)⟩]) (aNO rfl rfl (mkS (E:=(eI .u8)) (y:=0) lA oS ⟨zl,rfl,rfl⟩ rfl rfl rfl h_1 rfl rfl)) ?_
 refine zz ?_
 refine bV (aBn N) (fun l0=>[(5,.sl 0 0 l0.length 1 false)]) (fun l0=>[some ⟨5,l0.map (eI .u8)⟩]) ?_
 obtain⟨cM,hL2,hr⟩:=aN hr
 refine zz ?_
 exact a0F<|dB hL2 (fun x10 aK=>[(0,eI .u64 vn),(5,.sl 0 0 aK.length 1 false),(9,eI .i64 cW),(10,eI .i64 x10)]) (fun x10 aK=>[some ⟨5,aK.map (eI .u8)⟩])
instance :CtC 179 false (aX @aGK):=⟨@aGK⟩
theorem aGx {N b vs r} (hr:fS N b vs=some r):
  Fp 178 [] [.row none 1 (b.map (eI .u8)),.row none 1 (vs.map (eI .u8))] (.sl 0 0 r.length 1 false) [some ⟨5,r.map (eI .u8)⟩]:=by
 refine bR func178 ntmps178 results178 fun hR=> ?_
 obtain⟨x11,h_1,hr⟩:=aN hr
 refine zz ?_
 refine xw (v:=(.sl 0 0 0 1 false)) (h':=[some ⟨5,x11.map (eI .u8)⟩]) (aNO rfl rfl (mkC (E:=(eI .u8)) (y:=0) lA oS ⟨zl,rfl,rfl⟩ rfl rfl rfl h_1 rfl rfl)) ?_
 obtain⟨x14,h_2,hr⟩:=aN hr
 refine zz ?_
 refine xw (v:=(.sl 1 0 x14.length 1 false)) (h':=[none,some ⟨5,x14.map (eI .u8)⟩]) (tP rfl rfl (aXW (E:=(eI .u8)) (Nat.zero_le _) lA oS ⟨rfl,rfl,zl⟩ rfl (aHs (fun _=>rfl)) h_2 rfl rfl)) ?_
 exact zE
instance :CtC 178 false (aX @aGx):=⟨@aGx⟩
theorem dM {N b vn r} (hr:dS N b vn=some r):
  Fp 130 [] [.row none 1 (b.map (eI .u8)),eI .u32 vn] (.sl 0 0 r.length 1 false) [some ⟨5,r.map (eI .u8)⟩]:=
 fR func130 ntmps130 results130
instance :CtC 130 false (aX @dM):=⟨@dM⟩
theorem kY {N b vh r} (hr:jJ N b vh=some r):
  Fp 131 [] [.row none 1 (b.map (eI .u8)),.agg (vh.map (eI .u8))] (.sl 0 0 r.length 1 false) [some ⟨5,r.map (eI .u8)⟩]:=
 fR func131 ntmps131 results131
instance :CtC 131 false (aX @kY):=⟨@kY⟩
theorem sC {N vh r} (hr:lQ N vh=some r):
  Fp 81 [] [oQ vh] (.sl 0 0 r.length 1 false) [some ⟨5,r.map (eI .u8)⟩]:=by
 refine bR func81 ntmps81 results81 fun hR=> ?_
 obtain⟨x6,h_1,hr⟩:=aN hr
 refine zz ?_
 refine zc (dM h_1) [] ?_
 obtain⟨q,h_2,x10,h_3,hr⟩:=b8 hr
 refine zz ?_
 refine kX (kY h_3) [] [1] ?_
 obtain⟨q_1,h_4,x14,h_5,hr⟩:=b8 hr
 refine zz ?_
 refine kX (kY h_5) [] [2] ?_
 obtain⟨x18,h_6,hr⟩:=aN hr
 refine zz ?_
 refine kX (dM h_6) [] [3] ?_
 obtain⟨x22,h_7,hr⟩:=aN hr
 refine zz ?_
 refine kX (dM h_7) [] [4] ?_
 obtain⟨x26,h_8,hr⟩:=aN hr
 refine zz ?_
 refine kX (dM h_8) [] [5] ?_
 refine zz ?_
 replace hr:=sj hr
 subst hr
 exact zd1 Tryz.results81 [6]
instance :CtC 81 false (aX @sC):=⟨@sC⟩
theorem aI2 {N vn r} (hr:aLa N vn=some r):
  Fp 176 [] [eI .u64 vn] (.sl 0 0 r.length 1 false) [some ⟨5,r.map (eI .u8)⟩]:=by
 refine bR func176 ntmps176 results176 fun hR=> ?_
 obtain⟨x15,h_1,hr⟩:=aN hr
 refine zz ?_
 refine xw (v:=(.sl 0 0 x15.length 1 false)) (h':=[some ⟨5,x15.map (eI .u8)⟩]) (aNO rfl rfl (mkL (E:=(eI .u8)) (y:=0) lA oS ⟨zl,rfl,rfl⟩ rfl rfl rfl h_1 rfl rfl)) ?_
 obtain⟨x17,h_2,hr⟩:=aN hr
 refine zz ?_
 refine bV (aNg N) (fun l0=>[(4,.sl 0 0 l0.length 1 false)]) (fun l0=>[some ⟨5,l0.map (eI .u8)⟩]) ?_
 obtain⟨cM,hL2,hr⟩:=aN hr
 refine zz ?_
 exact a0F<|dB hL2 (fun x18 aK=>[(0,eI .u64 vn),(4,.sl 0 0 aK.length 1 false),(18,eI .i64 x18)]) (fun x18 aK=>[some ⟨5,aK.map (eI .u8)⟩])
instance :CtC 176 false (aX @aI2):=⟨@aI2⟩
theorem aFc {N parts r} (hr:aHT N parts=some r):
  Fp 175 [] [.row none 1 (parts.map (eL 1 (eI .u8)))] (.sl 0 0 r.length 1 false) [some ⟨5,r.map (eI .u8)⟩]:=by
 refine bR func175 ntmps175 results175 fun hR=> ?_
 refine zz ?_
 refine bV (aMx N) (fun l0=>[(3,.sl 0 0 l0.length 1 false)]) (fun l0=>[some ⟨5,l0.map (eI .u8)⟩]) ?_
 obtain⟨cM,hL2,hr⟩:=aN hr
 refine zz ?_
 exact a0F<|dB hL2 (fun x8 aK=>[(3,.sl 0 0 aK.length 1 false),(6,.row none 1 (parts.map (eL 1 (eI .u8)))),(7,eI .i64 (parts.length:Int)),(8,eI .i64 x8)]) (fun x8 aK=>[some ⟨5,aK.map (eI .u8)⟩]) (h0:=(zW 5 [0]))
instance :CtC 175 false (aX @aFc):=⟨@aFc⟩
theorem nR {N x vn r} (hr:dI N x vn=some r):
  Fp 220 [] [eI .u32 x,eI .i64 vn] (eI .u32 r) []:=by
 refine bR func220 ntmps220 results220 fun hR=> ?_
 obtain⟨x8,h_1,hr⟩:=aN hr
 refine zz ?_
 refine xw (aI4 rfl (aTh ..))<|xp (jT h_1) ?_
 exact zE
instance :CtC 220 true (aX @nR):=⟨@nR⟩
theorem aCe {N block r} (hr:sG N block=some r):
  Fp 219 [] [.agg (block.map (eI .u8))] (.agg (r.map (eI .u32))) []:=by
 refine bR func219 ntmps219 results219 fun hR=> ?_
 refine zz ?_
 refine bV (vO N) (fun l1=>[(2,.ptr 0 0),(3,.ptr 1 0)]) (fun l1=>[some ⟨251,(a0G 64 0).map (eI .u32)⟩,some ⟨251,l1.map (eI .u32)⟩]) ?_ (body:= ?_)
 rotate_left
 ·clear hr
  intro l1 hr
  refine bV (vC N) (fun bH=>[(2,.ptr 0 0),(3,.ptr 1 0)]) (fun bH=>[some ⟨251,(a0G 64 0).map (eI .u32)⟩,some ⟨251,bH.map (eI .u32)⟩]) ?_
  obtain⟨aBK,hL3,hr⟩:=aN hr
  refine zz ?_
  exact a0F<|dB hL3 (fun vi cF=>[(2,.ptr 0 0),(3,.ptr 1 0),(6,eI .i64 vi)]) (fun vi cF=>[some ⟨251,(a0G 64 0).map (eI .u32)⟩,some ⟨251,cF.map (eI .u32)⟩])
 obtain⟨res4,hL4,hr⟩:=aN hr
 refine zz ?_
 refine a0F<|dB hL4 (fun x9 l2=>[(1,.ptr 0 0),(2,.ptr 1 0),(3,.ptr 2 0),(9,eI .i64 x9)]) (fun x9 l2=>[some ⟨223,block.map (eI .u8)⟩,some ⟨251,(a0G 64 0).map (eI .u32)⟩,some ⟨251,l2.map (eI .u32)⟩]) (round:= ?_)
 intro m4 x9 l2 hr
 refine zz ?_
 refine a0H ?_
 refine zk hr ?_ ?_<;>clear hr<;>intro h18 hr<;>refine zz ?_
 ·refine bV (aBC N block x9 (kK N block m4)) (fun eZ=>[(1,.ptr 0 0),(2,.ptr 1 0),(3,.ptr 2 0),(9,eI .i64 x9)]) (fun eZ=>[some ⟨223,block.map (eI .u8)⟩,some ⟨251,(a0G 64 0).map (eI .u32)⟩,some ⟨251,eZ.map (eI .u32)⟩]) ?_
  refine a0F ?_
  replace hr:=aN hr
  obtain⟨res6,hL6,hr⟩:=hr
  refine zz ?_
  exact a0F<|dB hL6 (fun x12 aBW=>[(1,.ptr 0 0),(2,.ptr 1 0),(3,.ptr 2 0),(4,eI .i64 x9),(9,eI .i64 x9),(12,eI .i64 x12)]) (fun x12 aBW=>[some ⟨223,block.map (eI .u8)⟩,some ⟨251,(a0G 64 0).map (eI .u32)⟩,some ⟨251,aBW.map (eI .u32)⟩])
 exact zE
instance :CtC 219 true (aX @aCe):=⟨@aCe⟩
theorem aB0 {N cS block r} (hr:lR N cS block=some r):
  Fp 177 [] [.agg (cS.map (eI .u32)),.agg (block.map (eI .u8))] (.agg (r.map (eI .u32))) []:=by
 refine bR func177 ntmps177 results177 fun hR=> ?_
 obtain⟨q,h_1,x18,h_2,q_1,h_3,hr⟩:=fE hr
 refine zz ?_
 refine xp (aCe h_2) ?_
 refine zz ?_
 refine a0H ?_
 obtain⟨x19,h_4,x21,h_5,x23,h_6,x25,h_7,hr⟩:=aAS hr
 refine a0L mixed [] [] [[0,1,2,3,4,5,6,7,8,9,10,11]]<|zz ?_
 refine a0H ?_
 obtain⟨x27,h_8,x29,h_9,x31,h_10,x33,h_11,hr⟩:=aAS hr
 refine a0L mixed [] [] [[0,1,2,3,4,5,6,7,8,9,10,11]]<|zz ?_
 refine sk8 (vH N cS) (fun va b c d ve f g vh=>[(2,.ptr 0 0),(4,.ptr 1 0),(6,eI .u32 va),(7,eI .u32 b),(8,eI .u32 c),(9,eI .u32 d),(10,eI .u32 ve),(11,eI .u32 f),(12,eI .u32 g),(13,eI .u32 vh)]) (fun va b c d ve f g vh=>[some ⟨221,cS.map (eI .u32)⟩,some ⟨221,(a0G 8 0).map (eI .u32)⟩]) ?_ (body:= ?_)
 rotate_left
 ·clear hr
  intro va b c d ve f g vh hr
  obtain⟨x98,h_12,aIG,h_13,aVd,h_14,aUN,h_15,aFu,h_16,aUE,h_17,hr⟩:=aNP hr
  obtain⟨aUw,h_18,aUv,h_19,hr⟩:=b8 hr
  refine zz ?_
  refine xw (v:=(.agg ([a0I.wrap (x98+va),a0I.wrap (aIG+b),a0I.wrap (aVd+c),a0I.wrap (aUN+d),a0I.wrap (aFu+ve),a0I.wrap (aUE+f),a0I.wrap (aUw+g),a0I.wrap (aUv+vh)].map (eI .u32)))) (cI rfl (aHf aIx kC rfl)) ?_
  refine zz ?_
  replace hr:=sj hr
  subst hr
  exact zr1 Tryz.results177 dO (zG [])
 obtain⟨cM,hL2,hr⟩:=aN hr
 refine zz ?_
 refine a0F<|lp9 hL2 (fun va_1 b_1 c_1 d_1 ve_1 f_1 g_1 vh_1 x35=>[(2,.ptr 0 0),(4,.ptr 1 0),(5,.ptr 2 0),(6,eI .u32 va_1),(7,eI .u32 b_1),(8,eI .u32 c_1),(9,eI .u32 d_1),(10,eI .u32 ve_1),(11,eI .u32 f_1),(12,eI .u32 g_1),(13,eI .u32 vh_1),(35,eI .i64 x35)]) (fun va_1 b_1 c_1 d_1 ve_1 f_1 g_1 vh_1 x35=>[some ⟨221,cS.map (eI .u32)⟩,some ⟨221,(a0G 8 0).map (eI .u32)⟩,some ⟨251,x18.map (eI .u32)⟩]) (round:= ?_)
 intro m2 va_1 b_1 c_1 d_1 ve_1 f_1 g_1 vh_1 x35 hr
 refine zz ?_
 refine a0H ?_
 refine zk hr ?_ ?_<;>clear hr<;>intro h20 hr<;>refine zz ?_
 ·refine a0H<|a0F ?_
  refine zz ?_
  refine a0H ?_
  replace hr:=aIJ hr
  obtain⟨x40,h_21,x42,h_23,x45,h_25,x58,h_27,x62,h_28,hr⟩:=hr
  refine a0L mixed [220] [] [[0,1,2,3,4,5,6,7,8,9,10,11,12,13,14,15,16,17,18,19,20,21,22,23,24,25,26,27]]<|zz ?_
  refine xu (nR h_21) ?_
  refine zz ?_
  refine xu (nR h_23) ?_
  refine zz ?_
  refine xu (nR h_25) ?_
  refine zz ?_
  refine xw (v:=(eI .u32 (bits .xor .u32 (IntKind.max .u32) ve_1))) (aI4 rfl (aFj rfl _)) ?_
  refine zz ?_
  refine xw (v:=(.eptr [.agg (aHu.map (eI .u32))] 0 (Int.toNat x35))) (aIX rfl rfl (iaG aPf kC rfl h_27))<|xw (v:=(eI .u32 x58)) (cP rfl (ldG (E:=(eI .u32)) (y:=x58) kC rfl (fO h_27))) ?_
  replace hr:=fE hr
  obtain⟨x66,h_29,x68,h_30,x71,h_31,hr⟩:=hr
  refine zz ?_
  refine xp (nR h_29) ?_
  refine zz ?_
  refine xp (nR h_30) ?_
  refine zz ?_
  refine xp (nR h_31) ?_
  refine zz ?_
  exact⟨_,_,_,_,_,_,_,_,_,hr,zG [0,1,2]⟩
 exact zE
instance :CtC 177 true (aX @aB0):=⟨@aB0⟩
theorem y4 {N b r} (hr:yD N b=some r):
  Fp 129 [] [.row none 1 (b.map (eI .u8))] (.agg (r.map (eI .u8))) []:=by
 refine bR func129 ntmps129 results129 fun hR=> ?_
 obtain⟨x12,h_1,x14,h_2,hr⟩:=b8 hr
 refine zz ?_
 refine zc (aI2 h_1) [] ?_
 refine a0K (zv 1) ?_
 refine zz ?_
 refine kX (aFc h_2) [] [2] ?_
 refine zz ?_
 refine xw (v:=(.agg (aAJ.map (eI .u32)))) (cP rfl (aYU (E:=(eI .u32)) (l:=aAJ) aIx rfl rfl)) ?_
 refine zz ?_
 refine bV (aII N) (fun l1=>[(2,.ptr 0 0),(4,.ptr 1 0)]) (fun l1=>[some ⟨26,(a0G 32 0).map (eI .u8)⟩,some ⟨221,l1.map (eI .u32)⟩]) ?_ (body:= ?_)
 rotate_left
 ·clear hr
  intro l1 hr
  refine zz ?_
  refine bV (aIy N) (fun bH=>[(2,.ptr 0 0),(6,.ptr 1 0)]) (fun bH=>[some ⟨26,(a0G 32 0).map (eI .u8)⟩,some ⟨26,bH.map (eI .u8)⟩]) ?_
  obtain⟨aBK,hL3,hr⟩:=aN hr
  refine zz ?_
  exact a0F<|dB hL3 (fun x31 l2=>[(2,.ptr 0 0),(4,.ptr 1 0),(6,.ptr 2 0),(31,eI .i64 x31)]) (fun x31 l2=>[some ⟨26,(a0G 32 0).map (eI .u8)⟩,some ⟨221,l1.map (eI .u32)⟩,some ⟨26,l2.map (eI .u8)⟩])
 refine zz ?_
 refine AB.ghost (zv 3) ?_
 obtain⟨res4,hL4,hr⟩:=aN hr
 refine a0F<|dB hL4 (fun x19 cF=>[(2,.ptr 0 0),(3,.row none 1 (x14.map (eI .u8))),(4,.ptr 1 0),(18,eI .i64 (IntKind.i64.wrap (Int.tdiv (x14.length:Int) 64))),(19,eI .i64 x19)]) (fun x19 cF=>[some ⟨26,(a0G 32 0).map (eI .u8)⟩,some ⟨221,cF.map (eI .u32)⟩]) (round:= ?_)
 intro m4 x19 cF hr
 refine zz ?_
 refine a0H ?_
 refine zk hr ?_ ?_<;>clear hr<;>intro h8 hr<;>refine zz ?_
 ·refine a0H<|a0F ?_
  replace hr:=aIJ hr
  obtain⟨q_1,h_9,x26,h_10,x27,h_11,x29,h_12,q_2,h_14,hr⟩:=hr
  refine zz ?_
  refine a0L mixed [177] [] [[0,1,2,3,4,5,6,7,8]]<|zz ?_
  refine xw (v:=(.eptr [.agg (x27.map (eI .u8))] 0 0)) (aZF rfl (apR (E:=(eI .u8)) aPc (fun _=>rfl) zl h_11))<|xw (v:=(.agg (x27.map (eI .u8)))) (cP rfl (aYU (E:=(eI .u8)) (l:=x27) aPc rfl (bN h_11)))<|xu (aB0 h_12) ?_
  exact zE
 exact zE
instance :CtC 129 true (aX @y4):=⟨@y4⟩
theorem aJD {N b r} (hr:aCj N b=some r):
  Fp 80 [] [.row none 1 (b.map (eI .u8))] (.agg (r.map (eI .u8))) []:=by
 refine bR func80 ntmps80 results80 fun hR=> ?_
 obtain⟨x5,h_1,q,h_2,hr⟩:=b8 hr
 refine zz ?_
 refine xp (y4 h_1) ?_
 obtain⟨x7,h_3,q_1,h_4,hr⟩:=b8 hr
 refine zz ?_
 refine kX (y4 h_3) [] [1] ?_
 refine zz ?_
 replace hr:=sj hr
 subst hr
 exact zr1 Tryz.results80 dO (zG [])
instance :CtC 80 true (aX @aJD):=⟨@aJD⟩
theorem aEx {N vh r} (hr:aBX N vh=some r):
  Fp 43 [] [oQ vh] (.agg (r.map (eI .u8))) []:=
 fR func43 ntmps43 results43
instance :CtC 43 true (aX @aEx):=⟨@aEx⟩
theorem vK {N p r} (hr:r8 N p=some r):
  Fp 25 [] [cT p] (.tup [eE r.1,eI .i64 r.2]) []:=
 fR func25 ntmps25 results25
instance :CtC 25 true (aX @vK):=⟨@vK⟩
theorem aD2 {N:Nat}{a b:List Int}{r:Int}(hr:aBg N a b=some r):Vm.Fn Tryz.prog 156 [] [.row none 1 (a.map (eI .u8)),.row none 1 (b.map (eI .u8))] (eI .i64 r) []:=by
 obtain rfl:=Option.some.inj hr
 exact aW9 Tryz.func156 (by kernel_rfl) (by kernel_rfl) (by kernel_rfl) (by kernel_rfl) a b
instance :CtC 156 true (aX @aD2):=⟨@aD2⟩
theorem aAH {N va b r} (hr:aEy N va b=some r):
  Fp 112 [] [.row none 1 (va.map (eI .u8)),.row none 1 (b.map (eI .u8))] (eI .i64 r) []:=
 fR func112 ntmps112 results112
instance :CtC 112 true (aX @aAH):=⟨@aAH⟩
theorem pQ {N x r} (hr:tU N x=some r):
  Fp 157 [] [eI .u32 x] (eB r) []:=
 fR func157 ntmps157 results157
instance :CtC 157 true (aX @pQ):=⟨@pQ⟩
theorem sL {N x y r} (hr:xD N x y=some r):
  Fp 113 [] [eI .u32 x,eI .u32 y] (eI .i64 r) []:=by
 refine bR func113 ntmps113 results113 fun hR=> ?_
 obtain⟨x8,h_1,hr⟩:=aN hr
 refine zz ?_
 refine xp (pQ h_1) ?_
 obtain⟨x10,h_2,hr⟩:=aN hr
 refine zz ?_
 refine xp (pQ h_2) ?_
 refine zz ?_
 refine a0H<|zz ?_
 refine zk hr ?_ ?_<;>intro h3 hr
 ·exact zE
 exact zE
instance :CtC 113 true (aX @sL):=⟨@sL⟩
theorem aD6 {N aBd r} (hr:aE3 N aBd=some r):
  Fp 111 [] [.row none 1 (aBd.map (eI .i64))] (eI .i64 r) []:=by
 refine bR func111 ntmps111 results111 fun hR=> ?_
 refine zz ?_
 refine fT (aEh N) [(3,eI .i64 0)] [] ?_
 obtain⟨cM,hL2,hr⟩:=aN hr
 refine zz ?_
 exact a0F<|gQ hL2 (fun x8=>[(3,eI .i64 0),(6,.row none 1 (aBd.map (eI .i64))),(7,eI .i64 (aBd.length:Int)),(8,eI .i64 x8)]) (fun x8=>[])
instance :CtC 111 true (aX @aD6):=⟨@aD6⟩
theorem aJk {N va b r} (hr:aCl N va b=some r):
  Fp 66 [] [cR va,cR b] (eI .i64 r) []:=by
 refine bR func66 ntmps66 results66 fun hR=> ?_
 refine zz ?_
 refine a0H<|AB.ghost (zQ [0,1])<|AB.ghost (zQ [0,0]) ?_
 obtain⟨q,h_1,q_1,h_2,x9,h_3,x14,h_5,x16,h_7,hr⟩:=aIJ hr
 refine a0L mixed [112,113] [111] [[0,1,2,3,4,5,6,7,8,9,10,11,12]]<|zz ?_
 refine xw (v:=(.row none 1 (va.Tx.map (eI .u8)))) (xW rfl rfl rfl (aTO (E:=(eI .u8)) (l:=va.Tx) iO oS rfl rfl (aT h_1))) ?_
 refine zz ?_
 refine xw (v:=(.row none 1 (b.Tx.map (eI .u8)))) (xW rfl rfl rfl (aTO (E:=(eI .u8)) (l:=b.Tx) iO oS rfl rfl (aT h_2))) ?_
 refine xu (aAH h_3) ?_
 refine zz ?_
 refine xw (v:=(eI .u32 va.Index)) (cP rfl (aNK (tE kC rfl rfl))) ?_
 refine zz ?_
 refine xw (v:=(eI .u32 b.Index)) (cP rfl (aNK (tE kC rfl rfl)))<|xu (sL h_5) ?_
 refine zz ?_
 refine y7 (aD6 h_7) [] [2] ?_
 refine zz ?_
 replace hr:=sj hr
 subst hr
 exact zd1 Tryz.results66 []
instance :CtC 66 true (aX @aJk):=⟨@aJk⟩
theorem aBa {N l r} (hr:oZ N l=some r):
  Fp 42 [] [.row none 37 (l.map aM)] (.tup [eI .i64 r.1,eB r.2]) []:=by
 refine bR func42 ntmps42 results42 fun hR=> ?_
 refine zz ?_
 refine bV (aGt N) (fun sum=>[(4,eI .i64 sum)]) (fun sum=>[]) ?_
 obtain⟨cM,hL2,hr⟩:=aN hr
 refine zz ?_
 refine a0F<|dB hL2 (fun fX x10=>[(4,eI .i64 fX),(8,.row none 37 (l.map aM)),(9,eI .i64 (l.length:Int)),(10,eI .i64 x10)]) (fun fX x10=>[]) (round:= ?_)
 intro m2 fX x10 hr
 refine zz ?_
 refine a0H ?_
 refine zk hr ?_ ?_<;>clear hr<;>intro h1 hr<;>refine zz ?_
 ·refine a0H<|a0F ?_
  replace hr:=aN hr
  obtain⟨x12,h_2,hr⟩:=hr
  refine zz ?_
  refine a0H ?_
  refine bV (vY N l fX x10 x12 (l8 N l m2)) (fun x24=>[(4,eI .i64 fX),(7,eI .i64 x12.Output.Value),(8,.row none 37 (l.map aM)),(9,eI .i64 (l.length:Int)),(10,eI .i64 x10),(24,eB x24)]) (fun x24=>[]) ?_
  exact zE
 exact zE
instance :CtC 42 true (aX @aBa):=⟨@aBa⟩
theorem aG2 {N l r} (hr:wY N l=some r):
  Fp 29 [] [eE l] (eB r) []:=by
 refine bR func29 ntmps29 results29 fun hR=> ?_
 unfold wY at hr
 refine zz ?_
 refine a0H ?_
 refine bV (kI N l) (fun x20=>[(1,.ptr 0 0),(20,eB x20)]) (fun x20=>[some ⟨44,bI l⟩]) ?_ (body:= ?_)
 rotate_left
 ·clear hr
  intro x20 hr
  unfold kI at hr
  refine zk hr ?_ ?_<;>intro h1 hr<;>refine zz ?_
  ·exact zE
  refine fT (aBr N l) [(1,.ptr 0 0)] [some ⟨44,bI l⟩] ?_
  obtain⟨aBK,hL3,hr⟩:=aN hr
  refine zz ?_
  refine a0F<|gQ hL3 (fun x24=>[(1,.ptr 0 0),(22,.row none 37 (l.Coins.map aM)),(23,eI .i64 (l.Coins.length:Int)),(24,eI .i64 x24)]) (fun x24=>[some ⟨44,bI l⟩]) (round:= ?_)
  intro m3 x24 hr
  rw[fH]at hr
  refine zz ?_
  refine a0H ?_
  refine zk hr ?_ ?_<;>clear hr<;>intro h3 hr<;>refine zz ?_
  ·refine a0H<|a0F ?_
   replace hr:=aN hr
   obtain⟨x27,h_4,hr⟩:=hr
   refine zz ?_
   refine a0H ?_
   refine bV (mA N l x24 x27 (fH N l m3)) (fun x43=>[(1,.ptr 0 0),(4,.ptr 1 0),(22,.row none 37 (l.Coins.map aM)),(23,eI .i64 (l.Coins.length:Int)),(24,eI .i64 x24),(43,eB x43)]) (fun x43=>[some ⟨44,bI l⟩,some ⟨80,aH x27⟩]) ?_ (body:= ?_)
   rotate_left
   ·clear hr
    intro x43 hr
    unfold mA at hr
    refine zk hr ?_ ?_<;>clear hr<;>intro h5 hr<;>refine zz ?_
    ·exact zE
    refine bV (mO N l x24 (fH N l m3)) (fun x60=>[(1,.ptr 0 0),(22,.row none 37 (l.Coins.map aM)),(23,eI .i64 (l.Coins.length:Int)),(24,eI .i64 x24),(60,eB x60)]) (fun x60=>[some ⟨44,bI l⟩]) ?_
    exact zE
   exact zE
  exact zE
 exact zE
instance :CtC 29 true (aX @aG2):=⟨@aG2⟩
theorem aD1 {N b vn r} (hr:aB3 N b vn=some r):
  Fp 190 [] [.row none 1 (b.map (eI .u8)),eI .u16 vn] (.sl 0 0 r.length 1 false) [some ⟨5,r.map (eI .u8)⟩]:=
 fR func190 ntmps190 results190
instance :CtC 190 false (aX @aD1):=⟨@aD1⟩
theorem qI {N b vn r} (hr:mK N b vn=some r):
  Fp 191 [] [.row none 1 (b.map (eI .u8)),eI .u64 vn] (.sl 0 0 r.length 1 false) [some ⟨5,r.map (eI .u8)⟩]:=
 fR func191 ntmps191 results191
instance :CtC 191 false (aX @qI):=⟨@qI⟩
theorem iU {N b vn r} (hr:g9 N b vn=some r):
  Fp 142 [] [.row none 1 (b.map (eI .u8)),eI .u64 vn] (.sl 0 0 r.length 1 false) [some ⟨5,r.map (eI .u8)⟩]:=
 fR func142 ntmps142 results142
instance :CtC 142 false (aX @iU):=⟨@iU⟩
theorem aHh {N o r} (hr:aGf N o=some r):
  Fp 211 [] [cR o] (.sl 0 0 r.length 1 false) [some ⟨5,r.map (eI .u8)⟩]:=by
 refine bR func211 ntmps211 results211 fun hR=> ?_
 refine zz ?_
 refine a0H ?_
 obtain⟨q,h_1,x5,h_2,x8,h_4,hr⟩:=fE hr
 refine a0L mixed [] [130,131] [[0,1,2,3,4,5,6]]<|zz ?_
 refine zg (kY h_2) [] ?_
 refine zz ?_
 refine y7 (dM h_4) [] [1] ?_
 refine zz ?_
 replace hr:=sj hr
 subst hr
 exact zd1 Tryz.results211 [2]
instance :CtC 211 false (aX @aHh):=⟨@aHh⟩
theorem kL {N b vs r} (hr:kQ N b vs=some r):
  Fp 232 [] [.row none 1 (b.map (eI .u8)),.row none 1 (vs.map (eI .u8))] (.sl 0 0 r.length 1 false) [some ⟨5,r.map (eI .u8)⟩]:=
 fR func232 ntmps232 results232
instance :CtC 232 false (aX @kL):=⟨@kL⟩
theorem aKM {N t bD r} (hr:aD3 N t bD=some r):
  Fp 192 [] [aY t,eB bD] (.sl 0 0 r.length 1 false) [some ⟨5,r.map (eI .u8)⟩]:=by
 refine bR func192 ntmps192 results192 fun hR=> ?_
 obtain⟨x16,h_1,hr⟩:=aN hr
 refine zz ?_
 refine zc (dM h_1) [] ?_
 obtain⟨x22,h_2,x23,h_3,hr⟩:=b8 hr
 refine zz ?_
 refine zc (iU h_2) [] ?_
 refine zz ?_
 refine bV (aFL N t bD) (fun l1=>[(1,eB bD),(2,.ptr 0 0),(5,.sl 1 0 l1.length 1 false)]) (fun l1=>[some ⟨91,aR t⟩,some ⟨5,l1.map (eI .u8)⟩]) ?_ (body:= ?_)
 rotate_left
 ·clear hr
  intro l1 hr
  obtain⟨x47,h_4,x48,h_5,hr⟩:=b8 hr
  refine zz ?_
  refine zc (iU h_4) [] ?_
  refine zz ?_
  refine bV (aFt N t bD) (fun bH=>[(1,eB bD),(2,.ptr 0 0),(5,.sl 1 0 bH.length 1 false)]) (fun bH=>[some ⟨91,aR t⟩,some ⟨5,bH.map (eI .u8)⟩]) ?_ (body:= ?_)
  rotate_left
  ·clear hr
   intro bH hr
   obtain⟨x71,h_6,x72,h_7,hr⟩:=b8 hr
   refine zz ?_
   refine zc (dM h_6) [] ?_
   refine zz ?_
   refine a0H<|zz ?_
   refine zk hr ?_ ?_<;>intro h8 hr<;>refine zz ?_
   ·exact zE
   refine bV (aJ4 N) (fun l0=>[(5,.sl 0 0 l0.length 1 false)]) (fun l0=>[some ⟨5,l0.map (eI .u8)⟩]) ?_
   obtain⟨res4,hL4,hr⟩:=aN hr
   refine zz ?_
   refine a0F<|dB hL4 (fun x79 aK=>[(5,.sl 0 0 aK.length 1 false),(77,.row none 35 (t.Inputs.map bU)),(78,eI .i64 (t.Inputs.length:Int)),(79,eI .i64 x79)]) (fun x79 aK=>[some ⟨5,aK.map (eI .u8)⟩]) (round:= ?_)
   intro m4 x79 aK hr
   refine zz ?_
   refine a0H ?_
   refine zk hr ?_ ?_<;>clear hr<;>intro h9 hr<;>refine zz ?_
   ·refine bV (aGc N t x79 (oO N t m4)) (fun d9=>[(5,.sl 0 0 d9.length 1 false),(77,.row none 35 (t.Inputs.map bU)),(78,eI .i64 (t.Inputs.length:Int)),(79,eI .i64 x79)]) (fun d9=>[some ⟨5,d9.map (eI .u8)⟩]) ?_
    refine a0F ?_
    replace hr:=fE hr
    obtain⟨x81,h_10,x88,h_11,x89,h_12,hr⟩:=hr
    refine zz ?_
    refine zc (iU h_11) [] ?_
    replace hr:=aN hr
    obtain⟨res6,hL6,hr⟩:=hr
    refine zz ?_
    refine a0F<|dB hL6 (fun x93 gP=>[(5,.sl 0 0 gP.length 1 false),(77,.row none 35 (t.Inputs.map bU)),(78,eI .i64 (t.Inputs.length:Int)),(79,eI .i64 x79),(91,.row none 1 (x81.Witness.map (eL 1 (eI .u8)))),(92,eI .i64 (x81.Witness.length:Int)),(93,eI .i64 x93)]) (fun x93 gP=>[some ⟨5,gP.map (eI .u8)⟩]) (round:= ?_)
    intro m6 x93 gP hr
    refine zz ?_
    refine a0H ?_
    refine zk hr ?_ ?_<;>clear hr<;>intro h13 hr<;>refine zz ?_
    ·refine a0H<|a0F ?_
     replace hr:=fE hr
     obtain⟨x95,h_14,x99,h_15,aNY,h_16,hr⟩:=hr
     refine zz ?_
     refine zc (kL h_15) [] ?_
     refine zz ?_
     exact⟨_,_,hr,zG [2]⟩
    replace hr:=sj hr
    subst hr
    refine zz ?_
    exact⟨_,hr,zG [0]⟩
   replace hr:=sj hr
   subst hr
   refine zz ?_
   exact⟨_,hr,zG [0]⟩
  obtain⟨res7,hL7,hr⟩:=aN hr
  refine zz ?_
  refine a0F<|dB hL7 (fun x52 cF=>[(1,eB bD),(2,.ptr 0 0),(5,.sl 1 0 cF.length 1 false),(50,.row none 2 (t.Outputs.map cH)),(51,eI .i64 (t.Outputs.length:Int)),(52,eI .i64 x52)]) (fun x52 cF=>[some ⟨91,aR t⟩,some ⟨5,cF.map (eI .u8)⟩]) (round:= ?_)
  intro m7 x52 cF hr
  refine zz ?_
  refine a0H ?_
  refine zk hr ?_ ?_<;>clear hr<;>intro h17 hr<;>refine zz ?_
  ·refine a0H<|a0F ?_
   replace hr:=fE hr
   obtain⟨x54,h_18,x60,h_19,x61,h_20,hr⟩:=hr
   refine zz ?_
   refine zc (qI h_19) [] ?_
   replace hr:=b8 hr
   obtain⟨x65,h_21,x66,h_22,hr⟩:=hr
   refine zz ?_
   refine zc (kL h_21) [] ?_
   refine zz ?_
   exact⟨_,_,hr,zG [0,6]⟩
  exact zE
 obtain⟨res8,hL8,hr⟩:=aN hr
 refine zz ?_
 refine a0F<|dB hL8 (fun x27 l1_3=>[(1,eB bD),(2,.ptr 0 0),(5,.sl 1 0 l1_3.length 1 false),(25,.row none 35 (t.Inputs.map bU)),(26,eI .i64 (t.Inputs.length:Int)),(27,eI .i64 x27)]) (fun x27 l1_3=>[some ⟨91,aR t⟩,some ⟨5,l1_3.map (eI .u8)⟩]) (round:= ?_)
 intro m8 x27 l1_3 hr
 refine zz ?_
 refine a0H ?_
 refine zk hr ?_ ?_<;>clear hr<;>intro h23 hr<;>refine zz ?_
 ·refine a0H<|a0F ?_
  replace hr:=fE hr
  obtain⟨x29,h_24,x34,h_25,x35,h_26,hr⟩:=hr
  refine zz ?_
  refine zc (aHh h_25) [] ?_
  replace hr:=b8 hr
  obtain⟨x39,h_27,x40,h_28,hr⟩:=hr
  refine zz ?_
  refine zc (dM h_27) [] ?_
  refine zz ?_
  exact⟨_,_,hr,zG [0,6]⟩
 exact zE
instance :CtC 192 false (aX @aKM):=⟨@aKM⟩
theorem aE2 {N t r} (hr:aFg N t=some r):
  Fp 145 [] [aY t] (eB r) []:=by
 refine bR func145 ntmps145 results145 fun hR=> ?_
 unfold aFg at hr
 refine zz ?_
 refine a0H ?_
 refine bV (aB2 N t) (fun x18=>[(1,.ptr 0 0),(18,eB x18)]) (fun x18=>[some ⟨91,aR t⟩]) ?_ (body:= ?_)
 rotate_left
 ·clear hr
  intro x18 hr
  unfold aB2 at hr
  refine zk hr ?_ ?_<;>intro h1 hr<;>refine zz ?_
  ·exact zE
  refine fT (aFf N t) [(1,.ptr 0 0)] [some ⟨91,aR t⟩] ?_ (body:= ?_)
  rotate_left
  ·clear hr
   intro hr
   unfold aFf at hr
   refine fT (aI3 N t) [(1,.ptr 0 0)] [some ⟨91,aR t⟩] ?_
   obtain⟨res4,hL4,hr⟩:=aN hr
   refine zz ?_
   refine a0F<|gQ hL4 (fun x39=>[(1,.ptr 0 0),(37,.row none 35 (t.Inputs.map bU)),(38,eI .i64 (t.Inputs.length:Int)),(39,eI .i64 x39)]) (fun x39=>[some ⟨91,aR t⟩]) (round:= ?_)
   intro m4 x39 hr
   rw[xR]at hr
   refine zz ?_
   refine a0H ?_
   refine zk hr ?_ ?_<;>clear hr<;>intro h3 hr<;>refine zz ?_
   ·refine fT (aI8 N t x39 (xR N t m4)) [(1,.ptr 0 0),(37,.row none 35 (t.Inputs.map bU)),(38,eI .i64 (t.Inputs.length:Int)),(39,eI .i64 x39)] [some ⟨91,aR t⟩] ?_
    refine a0F ?_
    replace hr:=aN hr
    obtain⟨x41,h_4,hr⟩:=hr
    refine zz ?_
    refine a0H<|zz ?_
    refine zk hr ?_ ?_<;>clear hr<;>intro h5 hr
    ·exact zE
    replace hr:=aN hr
    obtain⟨res6,hL6,hr⟩:=hr
    refine zz ?_
    exact a0F<|gQ hL6 (fun x50=>[(1,.ptr 0 0),(37,.row none 35 (t.Inputs.map bU)),(38,eI .i64 (t.Inputs.length:Int)),(39,eI .i64 x39),(48,.row none 1 (x41.Witness.map (eL 1 (eI .u8)))),(49,eI .i64 (x41.Witness.length:Int)),(50,eI .i64 x50)]) (fun x50=>[some ⟨91,aR t⟩])
   exact zE
  obtain⟨res7,hL7,hr⟩:=aN hr
  refine zz ?_
  refine a0F<|gQ hL7 (fun x22=>[(1,.ptr 0 0),(20,.row none 2 (t.Outputs.map cH)),(21,eI .i64 (t.Outputs.length:Int)),(22,eI .i64 x22)]) (fun x22=>[some ⟨91,aR t⟩]) (round:= ?_)
  intro m7 x22 hr
  rw[tO]at hr
  refine zz ?_
  refine a0H ?_
  refine zk hr ?_ ?_<;>clear hr<;>intro h9 hr<;>refine zz ?_
  ·refine a0H<|a0F ?_
   replace hr:=aN hr
   obtain⟨x24,h_10,hr⟩:=hr
   refine zz ?_
   refine bV (aE5 N t x22 (tO N t m7)) (fun x34=>[(1,.ptr 0 0),(20,.row none 2 (t.Outputs.map cH)),(21,eI .i64 (t.Outputs.length:Int)),(22,eI .i64 x22),(34,eB x34)]) (fun x34=>[some ⟨91,aR t⟩]) ?_
   exact zE
  exact zE
 exact zE
instance :CtC 145 true (aX @aE2):=⟨@aE2⟩
theorem aGo {N t bD r} (hr:aA5 N t bD=some r):
  Fp 143 [] [aY t,eB bD] (.tup [.sl 0 0 r.1.length 1 false,eI .i64 r.2]) [some ⟨5,r.1.map (eI .u8)⟩]:=by
 refine bR func143 ntmps143 results143 fun hR=> ?_
 refine zz ?_
 obtain⟨x7,h_1,hr⟩:=aN hr
 refine a0H<|zz ?_
 refine xp (aE2 h_1) ?_
 refine zz ?_
 refine zk hr ?_ ?_<;>intro h2 hr
 ·refine zz ?_
  replace hr:=sj hr
  subst hr
  exact zr2 Tryz.results143 dO dO (zW 5 [1])
 exact zE
instance :CtC 143 false (aX @aGo):=⟨@aGo⟩
theorem aBv {N b r} (hr:aCh N b=some r):
  Fp 94 [] [dZ b] (.tup [.sl 0 0 r.1.length 1 false,eI .i64 r.2]) [some ⟨5,r.1.map (eI .u8)⟩]:=by
 refine bR func94 ntmps94 results94 fun hR=> ?_
 refine zz ?_
 refine a0H<|zz ?_
 refine zk hr ?_ ?_<;>intro h1 hr<;>refine zz ?_
 ·replace hr:=sj hr
  subst hr
  exact zr2 Tryz.results94 dO dO (zW 5 [1])
 refine a0H ?_
 obtain⟨x15,h_2,x20,h_4,hr⟩:=b8 hr
 refine a0L mixed [] [81,142] [[0,1,2,3,4,5,6,7,8]]<|zz ?_
 refine zg (sC h_2) [] ?_
 refine zz ?_
 refine y7 (iU h_4) [] [1] ?_
 refine zz ?_
 refine bV (aCo N) (fun l0=>[(4,.sl 0 0 l0.length 1 false)]) (fun l0=>[some ⟨5,l0.map (eI .u8)⟩]) ?_ (body:= ?_)
 rotate_left
 ·clear hr
  intro l0 hr
  refine a0H ?_
  refine zz ?_
  refine zk hr ?_ ?_<;>intro h6 hr<;>refine zz ?_
  ·replace hr:=sj hr
   subst hr
   exact zr2 Tryz.results94 dO dO (zW 5 [1])
  exact zE
 obtain⟨cM,hL2,hr⟩:=aN hr
 refine zz ?_
 refine a0F<|dB hL2 (fun x24 aK=>[(4,.sl 0 0 aK.length 1 false),(22,.row none 4 (b.Txs.map aY)),(23,eI .i64 (b.Txs.length:Int)),(24,eI .i64 x24)]) (fun x24 aK=>[some ⟨5,aK.map (eI .u8)⟩]) (round:= ?_)
 intro m2 x24 aK hr
 refine zz ?_
 refine a0H ?_
 refine zk hr ?_ ?_<;>clear hr<;>intro h7 hr<;>refine zz ?_
 ·refine a0H<|a0F ?_
  replace hr:=b8 hr
  obtain⟨x26,h_8,x30,h_9,hr⟩:=hr
  refine zz ?_
  refine zc (aGo h_9) [] ?_
  refine zz ?_
  refine a0H<|zz ?_
  refine zk hr ?_ ?_<;>clear hr<;>intro h10 hr
  ·refine zz ?_
   replace hr:=sj hr
   subst hr
   replace hr:=sj hr
   subst hr
   exact zr2 Tryz.results94 dO dO (zW 5 [3])
  exact zE
 exact zE
instance :CtC 94 false (aX @aBv):=⟨@aBv⟩
theorem aNc {N o r} (hr:aNn N o=some r):
  Fp 144 [] [cR o] (eB r) []:=by
 refine bR func144 ntmps144 results144 fun hR=> ?_
 refine zz ?_
 refine xw (v:=(.agg (aL (eI .u8) (a0G 32 0) [eI .u32 4294967295]))) (cI rfl (iM lU aIY rfl))<|xw (jB rfl rfl (aGq (d:=9) lU rfl aFp zl aIN rfl rfl rfl rfl rfl)) ?_
 exact zE
instance :CtC 144 true (aX @aNc):=⟨@aNc⟩
theorem xO {N t r} (hr:qZ N t=some r):
  Fp 95 [] [aY t] (eB r) []:=by
 refine bR func95 ntmps95 results95 fun hR=> ?_
 unfold qZ at hr
 refine zz ?_
 refine bV (yU N) (fun x2=>[(2,eB x2)]) (fun x2=>[]) ?_
 exact zE
instance :CtC 95 true (aX @xO):=⟨@xO⟩
theorem aHb {N l r} (hr:aIi N l=some r):
  Fp 146 [] [.row none 2 (l.map cH)] (eB r) []:=by
 refine bR func146 ntmps146 results146 fun hR=> ?_
 refine zz ?_
 refine fT (aLJ N) [] [] ?_
 obtain⟨cM,hL2,hr⟩:=aN hr
 refine zz ?_
 exact a0F<|dB hL2 (fun sum x8=>[(3,eI .i64 sum),(6,.row none 2 (l.map cH)),(7,eI .i64 (l.length:Int)),(8,eI .i64 x8)]) (fun sum x8=>[])
instance :CtC 146 true (aX @aHb):=⟨@aHb⟩
theorem aHc {N t r} (hr:aFM N t=some r):
  Fp 96 [] [aY t] (eI .i64 r) []:=by
 refine bR func96 ntmps96 results96 fun hR=> ?_
 refine zz ?_
 obtain⟨x7,h_1,hr⟩:=aN hr
 refine a0H<|zz ?_
 refine xp (aE2 h_1) ?_
 refine zz ?_
 refine zk hr ?_ ?_<;>intro h2 hr<;>refine zz ?_
 ·exact zE
 refine a0H ?_
 refine bV (aDx N t) (fun x18=>[(1,.ptr 0 0),(18,eB x18)]) (fun x18=>[some ⟨91,aR t⟩]) ?_ (body:= ?_)
 rotate_left
 ·clear hr
  intro x18 hr
  refine zk hr ?_ ?_<;>intro h3 hr<;>refine zz ?_
  ·exact zE
  obtain⟨x21,h_4,hr⟩:=aN hr
  refine a0H<|zz ?_
  refine xp (aHb h_4) ?_
  refine zz ?_
  refine zk hr ?_ ?_<;>intro h5 hr<;>refine zz ?_
  ·exact zE
  refine bV (aHe N t) (fun l1=>[(1,.ptr 0 0),(3,.mp 1)]) (fun l1=>[some ⟨91,aR t⟩,some ⟨33000,l1.flatMap aGL⟩]) ?_ (body:= ?_)
  rotate_left
  ·clear hr
   intro l1 hr
   refine a0H ?_
   refine bV (aDs N) (fun x46=>[(46,eB x46)]) (fun x46=>[]) ?_
   rcases Bool.eq_false_or_eq_true (oP tG l1 (aC.mk (a0G 32 0) 4294967295) false)with h7|h7
   ·replace hr:=aEp hr h7
    obtain⟨x44,h_8,hr⟩:=aN hr
    refine xr<|zz ?_
    refine xw (v:=(.agg (aL (eI .u8) (a0G 32 0) [eI .u32 4294967295]))) (cI rfl (iM lU aIY rfl))<|xlk (aC.mk (a0G 32 0) 4294967295) ?_
    exact zE
   replace hr:=aFE hr h7
   refine xr<|zz ?_
   refine xw (v:=(.agg (aL (eI .u8) (a0G 32 0) [eI .u32 4294967295]))) (cI rfl (iM lU aIY rfl))<|xlk (aC.mk (a0G 32 0) 4294967295) ?_
   exact zE
  obtain⟨res4,hL4,hr⟩:=aN hr
  refine zz ?_
  refine a0F<|dB hL4 (fun x27 bH=>[(1,.ptr 0 0),(3,.mp 1),(25,.row none 35 (t.Inputs.map bU)),(26,eI .i64 (t.Inputs.length:Int)),(27,eI .i64 x27)]) (fun x27 bH=>[some ⟨91,aR t⟩,some ⟨33000,bH.flatMap aGL⟩]) (round:= ?_)
  intro m4 x27 bH hr
  refine zz ?_
  refine a0H ?_
  refine zk hr ?_ ?_<;>clear hr<;>intro h9 hr<;>refine zz ?_
  ·refine a0H<|a0F ?_
   replace hr:=aN hr
   obtain⟨x29,h_10,hr⟩:=hr
   refine zz ?_
   refine a0H<|zz ?_
   refine xlk x29.Prev ?_
   refine zz ?_
   refine zk hr ?_ ?_<;>clear hr<;>intro h11 hr<;>refine zz ?_
   ·exact zE
   refine xup x29.Prev true ?_
   exact zE
  exact zE
 exact zE
instance :CtC 96 true (aX @aHc):=⟨@aHc⟩
theorem aKx {N t bD r} (hr:aDI N t bD=some r):
  Fp 149 [] [aY t,eB bD] (.agg (r.map (eI .u8))) []:=
 fR func149 ntmps149 results149
instance :CtC 149 true (aX @aKx):=⟨@aKx⟩
theorem aIj {N t r} (hr:aMY N t=some r):
  Fp 99 [] [aY t] (.agg (r.map (eI .u8))) []:=
 fR func99 ntmps99 results99
instance :CtC 99 true (aX @aIj):=⟨@aIj⟩
theorem aHK {N l r} (hr:aHz N l=some r):
  Fp 97 [] [.row none 4 (l.map aY)] (eI .i64 r) []:=by
 refine bR func97 ntmps97 results97 fun hR=> ?_
 refine zz ?_
 refine bV (aCE N l) (fun l0=>[(0,.row none 4 (l.map aY)),(3,.mp 0)]) (fun l0=>[some ⟨32000,l0.flatMap aEQ⟩]) ?_ (body:= ?_)
 rotate_left
 ·clear hr
  intro l0 hr
  refine fT (aCW N l) [(0,.row none 4 (l.map aY))] [] ?_ (body:= ?_)
  rotate_left
  ·clear hr
   intro hr
   refine zz ?_
   refine fT (aCO N) [] [] ?_
   obtain⟨res4,hL4,hr⟩:=aN hr
   refine zz ?_
   refine a0F<|dB hL4 (fun x74 aK=>[(15,.mp 0),(72,.row none 4 (l.map aY)),(73,eI .i64 (l.length:Int)),(74,eI .i64 x74)]) (fun x74 aK=>[some ⟨33000,aK.flatMap aGL⟩]) (round:= ?_)
   intro m4 x74 aK hr
   refine zz ?_
   refine a0H ?_
   refine zk hr ?_ ?_<;>clear hr<;>intro h1 hr<;>refine zz ?_
   ·refine bV (aC0 N l x74 (lF N l m4)) (fun d9=>[(15,.mp 0),(72,.row none 4 (l.map aY)),(73,eI .i64 (l.length:Int)),(74,eI .i64 x74)]) (fun d9=>[some ⟨33000,d9.flatMap aGL⟩]) ?_
    refine a0F ?_
    replace hr:=b8 hr
    obtain⟨x76,h_2,res6,hL6,hr⟩:=hr
    refine zz ?_
    refine a0F<|dB hL6 (fun x81 gP=>[(15,.mp 0),(72,.row none 4 (l.map aY)),(73,eI .i64 (l.length:Int)),(74,eI .i64 x74),(79,.row none 35 (x76.Inputs.map bU)),(80,eI .i64 (x76.Inputs.length:Int)),(81,eI .i64 x81)]) (fun x81 gP=>[some ⟨33000,gP.flatMap aGL⟩]) (round:= ?_)
    intro m6 x81 gP hr
    refine zz ?_
    refine a0H ?_
    refine zk hr ?_ ?_<;>clear hr<;>intro h3 hr<;>refine zz ?_
    ·refine a0H<|a0F ?_
     replace hr:=aN hr
     obtain⟨x83,h_4,hr⟩:=hr
     refine zz ?_
     refine a0H<|zz ?_
     refine xlk x83.Prev ?_
     refine zz ?_
     refine zk hr ?_ ?_<;>clear hr<;>intro h5 hr<;>refine zz ?_
     ·exact zE
     refine xup x83.Prev true ?_
     exact zE
    exact zE
   exact zE
  obtain⟨res7,hL7,hr⟩:=aN hr
  refine zz ?_
  refine a0F<|gQ hL7 (fun x43=>[(0,.row none 4 (l.map aY)),(3,.mp 0),(41,.row none 4 (l.map aY)),(42,eI .i64 (l.length:Int)),(43,eI .i64 x43)]) (fun x43=>[some ⟨32000,l0.flatMap aEQ⟩]) (round:= ?_)
  intro m7 x43 hr
  refine zz ?_
  refine a0H ?_
  refine zk hr ?_ ?_<;>clear hr<;>intro h6 hr<;>refine zz ?_
  ·refine fT (aCK N l l0 x43 (fZ N l l0 m7)) [(0,.row none 4 (l.map aY)),(3,.mp 0),(41,.row none 4 (l.map aY)),(42,eI .i64 (l.length:Int)),(43,eI .i64 x43)] [some ⟨32000,l0.flatMap aEQ⟩] ?_
   refine a0F ?_
   replace hr:=b8 hr
   obtain⟨x46,h_7,res9,hL9,hr⟩:=hr
   refine zz ?_
   refine a0F<|gQ hL9 (fun x51=>[(0,.row none 4 (l.map aY)),(3,.mp 0),(9,eI .i64 x43),(41,.row none 4 (l.map aY)),(42,eI .i64 (l.length:Int)),(43,eI .i64 x43),(49,.row none 35 (x46.Inputs.map bU)),(50,eI .i64 (x46.Inputs.length:Int)),(51,eI .i64 x51)]) (fun x51=>[some ⟨32000,l0.flatMap aEQ⟩]) (round:= ?_)
   intro m9 x51 hr
   refine zz ?_
   refine a0H ?_
   refine zk hr ?_ ?_<;>clear hr<;>intro h8 hr<;>refine zz ?_
   ·refine a0H<|a0F ?_
    replace hr:=b8 hr
    obtain⟨x53,h_9,q,h_10,hr⟩:=hr
    refine zz ?_
    refine xlo x53.Prev.Tx (hk:=congrArg V.agg (dG (aT h_10)).symm) ?_
    refine zz ?_
    refine bV (vP N l l0 x43 x46 x51 (jK N l l0 x43 x46 m9)) (fun x68=>[(0,.row none 4 (l.map aY)),(3,.mp 0),(9,eI .i64 x43),(41,.row none 4 (l.map aY)),(42,eI .i64 (l.length:Int)),(43,eI .i64 x43),(49,.row none 35 (x46.Inputs.map bU)),(50,eI .i64 (x46.Inputs.length:Int)),(51,eI .i64 x51),(68,eB x68)]) (fun x68=>[some ⟨32000,l0.flatMap aEQ⟩]) ?_
    exact zE
   exact zE
  exact zE
 obtain⟨res11,hL11,hr⟩:=aN hr
 refine zz ?_
 refine a0F<|dB hL11 (fun x23 l0_4=>[(0,.row none 4 (l.map aY)),(3,.mp 0),(21,.row none 4 (l.map aY)),(22,eI .i64 (l.length:Int)),(23,eI .i64 x23)]) (fun x23 l0_4=>[some ⟨32000,l0_4.flatMap aEQ⟩]) (round:= ?_)
 intro m11 x23 l0_4 hr
 refine zz ?_
 refine a0H ?_
 refine zk hr ?_ ?_<;>clear hr<;>intro h13 hr<;>refine zz ?_
 ·refine a0H<|a0F ?_
  replace hr:=fE hr
  obtain⟨x26,h_14,x29,h_15,q_1,h_16,hr⟩:=hr
  refine zz ?_
  refine xp (aIj h_15) ?_
  refine zz ?_
  refine a0H<|zz ?_
  refine xlo x29 (hk:=congrArg V.agg (dG (aT h_16)).symm) ?_
  refine zz ?_
  refine zk hr ?_ ?_<;>clear hr<;>intro h17 hr<;>refine zz ?_
  ·exact zE
  refine xup x29 x23 (hk:=congrArg V.agg (dG (aT h_16)).symm) ?_
  exact zE
 exact zE
instance :CtC 97 true (aX @aHK):=⟨@aHK⟩
theorem aI5 {N t r} (hr:aIe N t=some r):
  Fp 147 [] [aY t] (.agg (r.map (eI .u8))) []:=
 fR func147 ntmps147 results147
instance :CtC 147 true (aX @aI5):=⟨@aI5⟩
theorem aCA {N l vr r} (hr:aDu N l vr=some r):
  Fp 233 [] [.agg (l.map (eI .u8)),.agg (vr.map (eI .u8))] (.agg (r.map (eI .u8))) []:=
 fR func233 ntmps233 results233
instance :CtC 233 true (aX @aCA):=⟨@aCA⟩
theorem aAY {N l r} (hr:aEA N l=some r):
  Fp 193 [] [.row none 32 (l.map (eA (eI .u8)))] (.sl 0 0 r.length 1 false) [some ⟨140,r.map (eL 32 (eA (eI .u8)))⟩]:=by
 refine bR func193 ntmps193 results193 fun hR=> ?_
 refine zz ?_
 refine bV (aAF N) (fun l0=>[(3,.sl 0 0 l0.length 1 false)]) (fun l0=>[some ⟨140,l0.map (eL 32 (eA (eI .u8)))⟩]) ?_
 obtain⟨cM,hL2,hr⟩:=aN hr
 refine a0F<|dB hL2 (fun l_1 aK=>[(0,.row none 32 (l_1.map (eA (eI .u8)))),(3,.sl 0 0 aK.length 1 false)]) (fun l_1 aK=>[some ⟨140,aK.map (eL 32 (eA (eI .u8)))⟩]) (round:= ?_)
 intro m2 l_1 aK hr
 refine a0H<|zz ?_
 refine zk hr ?_ ?_<;>clear hr<;>intro h1 hr<;>refine zz ?_
 ·refine a0F ?_
  refine zz ?_
  refine bV (aAT N aK (oA N m2)) (fun l1=>[(3,.sl 0 0 aK.length 1 false),(4,.sl 1 0 l1.length 32 true)]) (fun l1=>[some ⟨140,aK.map (eL 32 (eA (eI .u8)))⟩,some ⟨26,l1.flatMap (dN (eI .u8))⟩]) ?_ (body:= ?_)
  rotate_left
  ·clear hr
   intro l1 hr
   replace hr:=b8 hr
   obtain⟨q,h_2,x45,h_3,hr⟩:=hr
   refine zz ?_
   refine a0K (zQ [1,0]) ?_
   exact zE
  replace hr:=aN hr
  obtain⟨res4,hL4,hr⟩:=hr
  refine zz ?_
  refine a0F<|dB hL4 (fun vi bH=>[(0,.row none 32 (l_1.map (eA (eI .u8)))),(3,.sl 0 0 aK.length 1 false),(4,.sl 1 0 bH.length 32 true),(5,eI .i64 vi)]) (fun vi bH=>[some ⟨140,aK.map (eL 32 (eA (eI .u8)))⟩,some ⟨26,bH.flatMap (dN (eI .u8))⟩]) (h0:=(zW 26 [0,1])) (round:= ?_)
  intro m4 vi bH hr
  refine a0H<|zz ?_
  refine zk hr ?_ ?_<;>clear hr<;>intro h4 hr<;>refine zz ?_
  ·refine bV (tX N l_1 aK vi (k9 N l_1 aK m4)) (fun cF=>[(0,.row none 32 (l_1.map (eA (eI .u8)))),(3,.sl 0 0 aK.length 1 false),(4,.sl 1 0 cF.length 32 true),(5,eI .i64 vi)]) (fun cF=>[some ⟨140,aK.map (eL 32 (eA (eI .u8)))⟩,some ⟨26,cF.flatMap (dN (eI .u8))⟩]) ?_
   refine a0F ?_
   refine zz ?_
   refine zk hr ?_ ?_<;>clear hr<;>intro h5 hr
   ·replace hr:=aNP hr
    obtain⟨x25,h_6,q_1,h_7,x30,h_8,q_2,h_9,x32,h_10,q_3,h_12,hr⟩:=hr
    replace hr:=aN hr
    obtain⟨x34,h_13,hr⟩:=hr
    refine a0L mixed [233] [] [[0,1,2,3,4,5,6,7,8,9,10,11,12,13]]<|zz ?_
    refine xw (v:=(.agg (x25.map (eI .u8)))) (cP rfl (aIR (E:=(eI .u8)) iO rfl h_6 (aT h_7))) ?_
    refine zz ?_
    refine xw (v:=(.agg (x30.map (eI .u8)))) (cP rfl (aIR (E:=(eI .u8)) iO rfl h_8 (aT h_9)))<|xu (aCA h_10)<|xw (v:=(.sl 2 0 1 32 true)) (h':=[some ⟨140,aK.map (eL 32 (eA (eI .u8)))⟩,some ⟨26,bH.flatMap (dN (eI .u8))⟩,some ⟨26,[x32].flatMap (dN (eI .u8))⟩]) (oG rfl (aJc (ps':=[(0,.agg (dN (eI .u8) x32))]) (by simp only[aAO,dN,dG (l:=x32) (aT h_12)]) (aG0 (len:=1) (C:=(dN (eI .u8))) (xs:=[x32]) (K:=32) (fun _=>rfl) (fun _=>rfl) aES iO ⟨zl,zl,zl⟩ rfl rfl rfl rfl rfl rfl))) ?_
    exact zE
   replace hr:=fE hr
   obtain⟨x38,h_14,q_4,h_15,x41,h_16,hr⟩:=hr
   refine zz ?_
   refine xw (v:=(.agg (x38.map (eI .u8)))) (cP rfl (aIR (E:=(eI .u8)) iO rfl h_14 (aT h_15)))<|xw (v:=(.sl 2 0 1 32 true)) (h':=[some ⟨140,aK.map (eL 32 (eA (eI .u8)))⟩,some ⟨26,bH.flatMap (dN (eI .u8))⟩,some ⟨26,[x38].flatMap (dN (eI .u8))⟩]) (oG rfl (aJc (ps':=[(0,.agg (dN (eI .u8) x38))]) (by simp only[aAO,dN,dG (l:=x38) (aT h_15)]) (aG0 (len:=1) (C:=(dN (eI .u8))) (xs:=[x38]) (K:=32) (fun _=>rfl) (fun _=>rfl) aES iO ⟨zl,zl,zl⟩ rfl rfl rfl rfl rfl rfl))) ?_
   exact zE
  exact zE
 exact zE
instance :CtC 193 false (aX @aAY):=⟨@aAY⟩
theorem aDf {N l r} (hr:zS N l=some r):
  Fp 148 [] [.row none 32 (l.map (eA (eI .u8)))] (.agg (r.map (eI .u8))) []:=by
 refine bR func148 ntmps148 results148 fun hR=> ?_
 unfold zS at hr
 refine zz ?_
 refine a0H ?_
 refine bV (sF N l) (fun x11=>[(0,.row none 32 (l.map (eA (eI .u8)))),(2,.ptr 0 0),(11,eB x11)]) (fun x11=>[some ⟨26,(a0G 32 0).map (eI .u8)⟩]) ?_ (body:= ?_)
 rotate_left
 ·clear hr
  intro x11 hr
  unfold sF at hr
  refine zk hr ?_ ?_<;>intro h1 hr
  ·exact zE
  obtain⟨x14,h_2,hr⟩:=aN hr
  refine zz ?_
  refine zc (aAY h_2) [] ?_
  obtain⟨x19,h_3,x21,h_4,q,h_5,hr⟩:=fE hr
  refine zz ?_
  refine xw (v:=(.agg (x21.map (eI .u8)))) (cP rfl (aIR (E:=(eI .u8)) iO rfl h_4 (aT h_5))) ?_
  exact zE
 exact zE
instance :CtC 148 true (aX @aDf):=⟨@aDf⟩
theorem aJr {N l r} (hr:aEO N l=some r):
  Fp 98 [] [.row none 4 (l.map aY)] (.agg (r.map (eI .u8))) []:=by
 refine bR func98 ntmps98 results98 fun hR=> ?_
 refine zz ?_
 refine bV (aD4 N) (fun l1=>[(2,.ptr 0 0),(3,.sl 1 0 l1.length 32 true)]) (fun l1=>[some ⟨26,(a0G 32 0).map (eI .u8)⟩,some ⟨26,l1.flatMap (dN (eI .u8))⟩]) ?_ (body:= ?_)
 rotate_left
 ·clear hr
  intro l1 hr
  obtain⟨q,h_1,x19,h_2,q_1,h_3,hr⟩:=fE hr
  refine zz ?_
  refine a0K (zQ [1,0])<|xp (aDf h_2) ?_
  exact zE
 obtain⟨cM,hL2,hr⟩:=aN hr
 refine zz ?_
 refine a0F<|dB hL2 (fun x8 bH=>[(2,.ptr 0 0),(3,.sl 1 0 bH.length 32 true),(6,.row none 4 (l.map aY)),(7,eI .i64 (l.length:Int)),(8,eI .i64 x8)]) (fun x8 bH=>[some ⟨26,(a0G 32 0).map (eI .u8)⟩,some ⟨26,bH.flatMap (dN (eI .u8))⟩]) (h0:=(zW 26 [0,1])) (round:= ?_)
 intro m2 x8 bH hr
 refine zz ?_
 refine a0H ?_
 refine zk hr ?_ ?_<;>clear hr<;>intro h4 hr<;>refine zz ?_
 ·refine a0H<|a0F ?_
  replace hr:=aAS hr
  obtain⟨x10,h_5,x14,h_6,q_2,h_7,x16,h_8,hr⟩:=hr
  refine zz ?_
  refine xp (aI5 h_6)<|xw (v:=(.sl 3 0 1 32 true)) (h':=[some ⟨26,(a0G 32 0).map (eI .u8)⟩,some ⟨26,bH.flatMap (dN (eI .u8))⟩,some ⟨91,aR x10⟩,some ⟨26,[x14].flatMap (dN (eI .u8))⟩]) (oG rfl (aJc (ps':=[(0,.agg (dN (eI .u8) x14))]) (by simp only[aAO,dN,dG (l:=x14) (aT h_7)]) (aG0 (len:=1) (C:=(dN (eI .u8))) (xs:=[x14]) (K:=32) (fun _=>rfl) (fun _=>rfl) aES iO ⟨zl,zl,zl⟩ rfl rfl rfl rfl rfl rfl))) ?_
  exact zE
 exact zE
instance :CtC 98 true (aX @aJr):=⟨@aJr⟩
theorem aHC {N b r} (hr:aDG N b=some r):
  Fp 59 [] [dZ b] (eI .i64 r) []:=by
 refine bR func59 ntmps59 results59 fun hR=> ?_
 refine zz ?_
 obtain⟨x13,h_1,hr⟩:=aN hr
 refine a0H<|zz ?_
 refine zc (aBv h_1) [] ?_
 refine zz ?_
 refine zk hr ?_ ?_<;>intro h2 hr<;>refine zz ?_
 ·exact zE
 refine a0H<|zz ?_
 refine zk hr ?_ ?_<;>intro h3 hr<;>refine zz ?_
 ·exact zE
 refine fT (aCZ N b) [(1,.ptr 0 0)] [some ⟨47,bK b⟩] ?_ (body:= ?_)
 rotate_left
 ·clear hr
  intro hr
  refine fT (yW N b) [(1,.ptr 0 0)] [some ⟨47,bK b⟩] ?_
  obtain⟨aBK,hL3,hr⟩:=aN hr
  refine zz ?_
  exact a0F<|gQ hL3 (fun x40=>[(1,.ptr 0 0),(38,.row none 4 (b.Txs.map aY)),(39,eI .i64 (b.Txs.length:Int)),(40,eI .i64 x40)]) (fun x40=>[some ⟨47,bK b⟩])
 obtain⟨res4,hL4,hr⟩:=aN hr
 refine zz ?_
 refine a0F<|gQ hL4 (fun x26=>[(1,.ptr 0 0),(24,.row none 4 (b.Txs.map aY)),(25,eI .i64 (b.Txs.length:Int)),(26,eI .i64 x26)]) (fun x26=>[some ⟨47,bK b⟩]) (round:= ?_)
 intro m4 x26 hr
 refine zz ?_
 refine a0H ?_
 refine zk hr ?_ ?_<;>clear hr<;>intro h15 hr<;>refine zz ?_
 ·refine a0H<|a0F ?_
  replace hr:=b8 hr
  obtain⟨x29,h_16,x32,h_17,hr⟩:=hr
  refine zz ?_
  refine xp (xO h_17) ?_
  refine zz ?_
  refine xw (jB rfl rfl (aQJ _ _ ti4 ..)) ?_
  exact zE
 exact zE
instance :CtC 59 true (aX @aHC):=⟨@aHC⟩
theorem aHd {N t height r} (hr:aFJ N t height=some r):
  Fp 78 [] [aY t,eI .i64 height] (eB r) []:=by
 refine bR func78 ntmps78 results78 fun hR=> ?_
 refine zz ?_
 refine a0H<|zz ?_
 refine zk hr ?_ ?_<;>intro h1 hr<;>refine zz ?_
 ·exact zE
 refine fT (aHn N) [] [] ?_
 obtain⟨cM,hL2,hr⟩:=aN hr
 refine zz ?_
 exact a0F<|gQ hL2 (fun x15=>[(13,.row none 35 (t.Inputs.map bU)),(14,eI .i64 (t.Inputs.length:Int)),(15,eI .i64 x15)]) (fun x15=>[])
instance :CtC 78 true (aX @aHd):=⟨@aHd⟩
theorem aC2 {N p l b r} (hr:zV N p l b=some r):
  Fp 38 [] [cT p,eE l,dZ b] (eI .i64 r) []:=by
 refine bR func38 ntmps38 results38 fun hR=> ?_
 unfold zV at hr
 refine zz ?_
 refine a0H ?_
 refine bV (sE N l b) (fun x15=>[(4,.ptr 0 0),(5,.ptr 1 0),(15,eB x15)]) (fun x15=>[some ⟨44,bI l⟩,some ⟨47,bK b⟩]) ?_
 exact zE
instance :CtC 38 true (aX @aC2):=⟨@aC2⟩
theorem aFz {N l r} (hr:aGV N l=some r):
  Fp 172 [] [.row none 37 (l.map aM)] (.tup [eI .i64 r.1,eB r.2]) []:=by
 refine bR func172 ntmps172 results172 fun hR=> ?_
 refine zz ?_
 refine bV (aKR N) (fun aPj=>[(4,eI .i64 aPj)]) (fun aPj=>[]) ?_
 obtain⟨cM,hL2,hr⟩:=aN hr
 refine zz ?_
 refine a0F<|dB hL2 (fun pV x9=>[(4,eI .i64 pV),(7,.row none 37 (l.map aM)),(8,eI .i64 (l.length:Int)),(9,eI .i64 x9)]) (fun pV x9=>[]) (round:= ?_)
 intro m2 pV x9 hr
 refine zz ?_
 refine a0H ?_
 refine zk hr ?_ ?_<;>clear hr<;>intro h1 hr<;>refine zz ?_
 ·refine a0H<|a0F ?_
  replace hr:=aN hr
  obtain⟨x11,h_2,hr⟩:=hr
  refine zz ?_
  refine a0H ?_
  refine bV (aBU N l pV x9 x11 (lP N l m2)) (fun x24=>[(4,eI .i64 pV),(6,.ptr 0 0),(7,.row none 37 (l.map aM)),(8,eI .i64 (l.length:Int)),(9,eI .i64 x9),(24,eB x24)]) (fun x24=>[some ⟨80,aH x11⟩]) ?_
  exact zE
 exact zE
instance :CtC 172 true (aX @aFz):=⟨@aFz⟩
theorem aFy {N t l r} (hr:aGI N t l=some r):
  Fp 127 [] [aY t,.row none 37 (l.map aM)] (.tup [eI .i64 r.1,eI .i64 r.2]) []:=by
 refine bR func127 ntmps127 results127 fun hR=> ?_
 refine zz ?_
 obtain⟨x14,h_1,hr⟩:=aN hr
 refine a0H<|zz ?_
 refine xp (aHc h_1) ?_
 refine zz ?_
 refine zk hr ?_ ?_<;>intro h2 hr<;>refine zz ?_
 ·exact zE
 refine a0H<|zz ?_
 refine zk hr ?_ ?_<;>intro h3 hr<;>refine zz ?_
 ·exact zE
 refine fT (aBi N t l) [(1,.row none 37 (l.map aM)),(2,.ptr 0 0)] [some ⟨91,aR t⟩] ?_ (body:= ?_)
 rotate_left
 ·clear hr
  intro hr
  obtain⟨x43,h_4,hr⟩:=aN hr
  refine zz ?_
  refine xp (aFz h_4) ?_
  refine zz ?_
  refine a0H<|zz ?_
  refine zk hr ?_ ?_<;>intro h5 hr<;>refine zz ?_
  ·exact zE
  refine bV (aJ7 N) (fun fee=>[(9,eI .i64 fee)]) (fun fee=>[]) ?_
  obtain⟨aBK,hL3,hr⟩:=aN hr
  refine zz ?_
  exact a0F<|dB hL3 (fun fee_1 x51=>[(9,eI .i64 fee_1),(49,.row none 2 (t.Outputs.map cH)),(50,eI .i64 (t.Outputs.length:Int)),(51,eI .i64 x51)]) (fun fee_1 x51=>[])
 obtain⟨res4,hL4,hr⟩:=aN hr
 refine zz ?_
 refine a0F<|gQ hL4 (fun x26=>[(1,.row none 37 (l.map aM)),(2,.ptr 0 0),(24,.row none 37 (l.map aM)),(25,eI .i64 (l.length:Int)),(26,eI .i64 x26)]) (fun x26=>[some ⟨91,aR t⟩]) (round:= ?_)
 intro m4 x26 hr
 refine zz ?_
 refine a0H ?_
 refine zk hr ?_ ?_<;>clear hr<;>intro h9 hr<;>refine zz ?_
 ·refine a0H<|a0F ?_
  replace hr:=aN hr
  obtain⟨x29,h_10,hr⟩:=hr
  refine zz ?_
  refine a0H ?_
  replace hr:=aN hr
  obtain⟨x36,h_11,hr⟩:=hr
  refine a0L mixed [] [] [[0,1,2,3,4,5,6,7,8]]<|zz ?_
  refine xw (v:=(eB (!(jS x29.Out.Tx x36.Prev.Tx ((x29.Out.Index == x36.Prev.Index)&&true))))) (jB rfl rfl (aIU (d:=9) lU rfl aFp zl aIN rfl rfl rfl rfl rfl)) ?_
  exact zE
 exact zE
instance :CtC 127 true (aX @aFy):=⟨@aFy⟩
end Go.Proofs.YtopdhljncajmpaaGreatDoor
