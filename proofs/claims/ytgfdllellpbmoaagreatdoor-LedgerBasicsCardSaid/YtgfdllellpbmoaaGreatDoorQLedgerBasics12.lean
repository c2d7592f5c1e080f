/- Texts of ours, joined: Sane, Wk4. -/
import Derived.Test.YtgfdllellpbmoaaGreatDoorQLedgerBasics11
open Bool renaming eq_false_or_eq_true → aYV,and_eq_true → aYY
open Nat renaming eq_of_beq_eq_true → aYW,beq → aYZ
open Option renaming map_eq_some_iff → aYX
open Go.Vm.AB renaming seq_g → aY0
namespace Go.Proofs.YtgfdllellpbmoaaGreatDoor
open Go Go.Vm
set_option maxRecDepth 100000
theorem aRE : ∀{es:List V}{b:List Int},u8s es=some b→es=b.map (eI .u8)
 | [],b,h=>by simp only[u8s,Option.some.injEq]at h;subst h;rfl
 |x::l,b,h=>by
  unfold u8s at h
  split at h
  ·rename_i h0;cases h0
  ·rename_i n l' h0
   injection h0 with h0 h1
   subst h0 h1
   simp only[aYX]at h
   obtain⟨b',hb,rfl⟩:=h
   rw[aRE hb];rfl
  cases h
theorem aGb {f:FuncId}{h:Hp}{xs:List V}{v:V}(hp:PFn Tryz.prog f xs v)(hc:xs.all aDS=true):aVZ Tryz.prog nF f h xs (v,none):=⟨aED hp hc,fun h=>by cases h⟩
theorem aUu :mK 100000 wp=some true:=by kernel_rfl
theorem aXG {nl:Option Bool}{es:List V}:V.les wZ [.row nl 1 es] [.row none 1 es]:=by
 unfold V.les;exact⟨by unfold V.le;exact⟨.inl rfl,rfl,.inl rfl⟩,by unfold V.les;trivial⟩
theorem aTZ :pG Tryz.prog nF lB:=by
 intro f h xs r hr
 unfold lB at hr
 cases h1:aYZ f 61 with
 |true=>
  obtain rfl:=aYW h1
  rw[h1,cond_true]at hr
  cases h2:eqH h hL&&tH xs [.ptr 6 0] with
  |false=>rw[h2]at hr;cases hr
  |true=>
   rw[h2,cond_true]at hr
   simp only[aYY]at h2
   obtain rfl:=aC8 _ _ h2.1
   obtain rfl:=pZ _ _ h2.2
   injection hr with hr
   subst hr
   exact⟨rfl,aU3⟩
 |false=>
  rw[h1,cond_false]at hr
  cases h2:aYZ f 17 with
  |true=>
   obtain rfl:=aYW h2
   rw[h2,cond_true]at hr
   cases h3:tH xs cA with
   |false=>rw[h3]at hr;cases hr
   |true=>
    rw[h3,cond_true]at hr
    obtain rfl:=pZ _ _ h3
    injection hr with hr
    subst hr
    exact aGb (aEB (aGD (v:=0) (l:=[0]) aUE)) (by kernel_rfl)
  |false=>
   rw[h2,cond_false]at hr
   cases h3:aYZ f 22 with
   |true=>
    obtain rfl:=aYW h3
    rw[h3,cond_true]at hr
    cases h4:tH xs [aP] with
    |false=>rw[h4]at hr;cases hr
    |true=>
     rw[h4,cond_true]at hr
     obtain rfl:=pZ _ _ h4
     injection hr with hr
     subst hr
     exact aGb (aEB (s7 (p:=wp) aUu)) (by kernel_rfl)
   |false=>
    rw[h3,cond_false]at hr
    cases h4:aYZ f 39 with
    |false=>rw[h4]at hr;cases hr
    |true=>
     obtain rfl:=aYW h4
     rw[h4,cond_true]at hr
     split at hr
     ·simp only[Option.bind_eq_some_iff,aYX]at hr
      obtain⟨b,hb,q,hq,rfl⟩:=hr
      obtain rfl:=aRE hb
      exact aGb (aEB (Fn.argsLe (aGH hq) aXG)) rfl
     cases hr
theorem aHR {O:uF}{f:FuncId}{xs:List V}{v:V}(hO:pG Tryz.prog nF O)(h:aOy O f xs=some v):PFn Tryz.prog f xs v:=
 aG9 (aIZ hO (fun _ _ c _ _=>aEg _ _ c) mixed NF) (fun _ _ c _ _=>aEg _ _ c) mixed h
theorem aNY {O:uF}{f:FuncId}{xs:List V}{v:V}(hO:pG Tryz.prog nF O)(hp:PFn Tryz.prog f xs v)(hc:xs.all aDS=true):pG Tryz.prog nF (aN9 O f xs v):=by
 intro g h ys r hr
 unfold aN9 at hr
 cases h1:aYZ g f&&tH ys xs with
 |false=>rw[h1,cond_false]at hr;exact hO g h ys r hr
 |true=>
  rw[h1,cond_true]at hr
  simp only[aYY]at h1
  obtain rfl:=aYW h1.1
  obtain rfl:=pZ _ _ h1.2
  injection hr with hr
  subst hr
  exact aGb hp hc
theorem aUr :pG Tryz.prog nF o1:=aNY aTZ (aHR aTZ aXT) (by kernel_rfl)
theorem aUi :pG Tryz.prog nF o2:=aNY aUr (aHR aUr aYL) (by kernel_rfl)
theorem aXC :pG Tryz.prog nF o3:=aNY aUi (aHR aUi aX3) (by kernel_rfl)
theorem aUT :PFn Tryz.prog 4 [] (eB true):=aHR aXC aYw
end Go.Proofs.YtgfdllellpbmoaaGreatDoor
set_option linter.unusedVariables false
set_option linter.unusedSimpArgs false
set_option maxRecDepth 20000
set_option maxHeartbeats 8000000
namespace Go.Proofs.YtgfdllellpbmoaaGreatDoor
open Go Go.Vm
theorem aMk {N:Nat}{r:Bool}(hr:aFB N=some r):Vm.Fn Tryz.prog 4 [] [] (eB r) []:=by
 obtain rfl:=Option.some.inj hr
 exact aED aUT rfl
theorem aFl {N p l height o v eV r} (hr:kM N p l height o v eV=some r):
  Vm.Fn Tryz.prog 3 [] [(cY p),(dO l),(eI .i64 height),(cG o),(eI .u8 v),(.row none 1 (eV.map (eI .u8)))] (eB r) []:=by
 refine zf Tryz.func3 Tryz.ntmps3 ?_
 unfold kM at hr
 refine zz ?_
 refine AB.seq ?_
 obtain⟨cW,h_1,hr⟩:=aA hr
 refine zz ?_
 refine xp (aMk h_1) ?_
 refine zz ?_
 refine zk hr ?_ ?_<;>intro h2 hr
 ·refine zz ?_
  obtain rfl:=sj hr
  exact aX Tryz.results3 []
 refine zz ?_
 refine AB.seq ?_
 refine aY0 fun K1 hK1 hG1=> ?_
 have J1: ∀cO,gB N p l height o v eV cO=some r→K1 (aD 117 [(2,(eI .i64 height)),(4,(eI .u8 v)),(5,(.row none 1 (eV.map (eI .u8)))),(6,(.ptr 0 0)),(7,(.ptr 1 0)),(9,(.ptr 2 0)),(31,(eB cO))]) [some ⟨32,aT p⟩,some ⟨35,aN l⟩,some ⟨37,cC o⟩]:=by
  intro cO hr
  unfold gB at hr
  refine hK1 ?_
  refine zk hr ?_ ?_<;>intro h3 hr
  ·refine zz ?_
   obtain rfl:=sj hr
   exact aX Tryz.results3 []
  obtain⟨fB,h_4,hr⟩:=aA hr
  refine zz ?_
  refine xp (aJB h_4) ?_
  obtain⟨x39,h_5,hr⟩:=aA hr
  refine zz ?_
  refine xp (aFh h_5) ?_
  refine zz ?_
  refine AB.seq ?_
  refine aY0 fun K2 hK2 hG2=> ?_
  have J2: ∀x75,d9 N height v eV x75=some r→K2 (aD 117 [(2,(eI .i64 height)),(4,(eI .u8 v)),(5,(.row none 1 (eV.map (eI .u8)))),(75,(eB x75))]) []:=by
   intro x75 hr
   unfold d9 at hr
   refine hK2 ?_
   refine zk hr ?_ ?_<;>intro h6 hr
   ·refine zz ?_
    obtain rfl:=sj hr
    exact aX Tryz.results3 []
   obtain⟨x78,h_7,hr⟩:=aA hr
   refine zz ?_
   refine xp (aKz h_7) ?_
   obtain⟨x85,h_8,hr⟩:=aA hr
   refine zz ?_
   refine aY0 fun K3 hK3 hG3=> ?_
   have J3:oA N height x78 x85=some r→K3 (aD 117 [(2,(eI .i64 height)),(17,(.ptr 0 0)),(18,(.ptr 1 0))]) [some ⟨54,fG x78⟩,some ⟨35,aN x85⟩]:=by
    intro hr
    unfold oA at hr
    refine hK3 ?_
    refine aY0 fun K4 hK4 hG4=> ?_
    have J4: ∀cH,kU N cH=some r→K4 (aD 117 [(12,(eB cH))]) []:=by
     intro cH hr
     unfold kU at hr
     refine hK4<|zz ?_
     obtain rfl:=sj hr
     exact aX Tryz.results3 []
    obtain⟨aK8,h_9,hr⟩:=aA hr
    rcases aYV aK8 with h11|h11
    ·replace hr:=bY hr h11
     obtain⟨aIr,h_12,hr⟩:=aA hr
     obtain⟨aIu,h_14,hr⟩:=aA hr
     refine AB.rs mixed [10,12,13] [] [[0,1,2,3,4,5,6,7,8,9,10,11,12,13,14,15]]<|zz ?_
     refine xu (oK h_9) ?_
     refine zz ?_
     refine xu (zY h_12) ?_
     refine zz ?_
     refine xu (qX h_14) ?_
     refine zz ?_
     exact hG4 (zG []) (J4 (aIr == aIu) hr)
    replace hr:=bX hr h11
    refine AB.rs mixed [10,12,13] [] [[0,1,2,3,4,5,6,7,8,9,10,11,12,13,14,15]]<|zz ?_
    refine xu (oK h_9) ?_
    refine zz ?_
    exact hG4 (zG []) (J4 false hr)
   obtain⟨res5,hL5,hr⟩:=aA hr
   refine zz ?_
   refine AB.block<|AB.loopM (fun m s h=> ∃x90,fX N height x78 x85 m x90=some res5∧Ghost 0 s h (aD 117 [(2,(eI .i64 height)),(17,(.ptr 0 0)),(18,(.ptr 1 0)),(88,(.row none 37 (x85.Coins.map aR))),(89,(eI .i64 (x85.Coins.length:Int))),(90,(eI .i64 x90))]) [some ⟨54,fG x78⟩,some ⟨35,aN x85⟩]) ⟨0,hL5,(zG [0,1])⟩ ?_
   rintro m5 s h ⟨x90,hr5,hg⟩
   refine AB.ghost hg ?_
   clear hg hL5
   rw[fX]at hr5
   refine zz ?_
   refine AB.seq ?_
   refine zk hr5 ?_ ?_<;>intro h16 hr5
   ·refine zz ?_
    refine AB.seq<|AB.block ?_
    obtain⟨x93,h_17,hr5⟩:=aA hr5
    obtain⟨x98,h_18,hr5⟩:=aA hr5
    refine zz ?_
    refine xp (aFc h_18) ?_
    refine zz ?_
    refine zk hr5 ?_ ?_<;>intro h19 hr5
    ·refine zz ?_
     obtain rfl:=sj hr5
     obtain rfl:=sj hr
     exact aX Tryz.results3 []
    refine zz ?_
    exact⟨IntKind.i64.wrap (x90+1),hr5,(zG [0,1])⟩
   refine zz ?_
   obtain rfl:=sj hr5
   refine zz ?_
   exact hG3 (zG [0,1]) (J3 hr)
  rcases aYV (fB.2 != x39.2)with h20|h20
  ·replace hr:=bY hr h20
   refine AB.rs mixed [9,10,11,12,13,14,15] [] [[0,1,2,3,4,5,6,7,8,9,10,11,12,13,14,15,16,17,18,19,20,21,22,23,24,25,26,27,28,29,30,31,32,33]]<|zz ?_
   refine xX rfl<|xX rfl<|xX rfl<|xX rfl<|xX rfl ?_
   refine zz ?_
   refine xX rfl<|xX rfl<|xX rfl<|xX rfl<|xX rfl<|xX rfl<|xX rfl ?_
   refine zz ?_
   refine xX rfl<|xX rfl<|xX rfl<|xX rfl<|xX rfl<|xX rfl<|xX rfl ?_
   refine zz ?_
   exact hG2 (zG []) (J2 true hr)
  replace hr:=bX hr h20
  obtain⟨x48,h_21,hr⟩:=aA hr
  rcases aYV (!x48)with h23|h23
  ·replace hr:=bY hr h23
   refine AB.rs mixed [9,10,11,12,13,14,15] [] [[0,1,2,3,4,5,6,7,8,9,10,11,12,13,14,15,16,17,18,19,20,21,22,23,24,25,26,27,28,29,30,31,32,33]]<|zz ?_
   refine xu (aAt h_21) ?_
   refine zz ?_
   refine xX rfl<|xX rfl<|xX rfl<|xX rfl<|xX rfl<|xX rfl<|xX rfl ?_
   refine zz ?_
   refine xX rfl<|xX rfl<|xX rfl<|xX rfl<|xX rfl<|xX rfl<|xX rfl ?_
   refine zz ?_
   exact hG2 (zG []) (J2 true hr)
  replace hr:=bX hr h23
  obtain⟨x53,h_24,hr⟩:=aA hr
  obtain⟨x55,h_26,hr⟩:=aA hr
  rcases aYV (x53 != x55)with h28|h28
  ·replace hr:=bY hr h28
   refine AB.rs mixed [9,10,11,12,13,14,15] [] [[0,1,2,3,4,5,6,7,8,9,10,11,12,13,14,15,16,17,18,19,20,21,22,23,24,25,26,27,28,29,30,31,32,33]]<|zz ?_
   refine xu (aAt h_21) ?_
   refine zz ?_
   refine xu (oK h_24) ?_
   refine zz ?_
   refine xu (tN h_26)<|xSg (v:=(eB (x53 != x55))) rfl rfl h23 (jF rfl rfl (aGi _ _ ti4 ..)) ?_
   refine zz ?_
   refine xX rfl<|xX rfl<|xX rfl<|xX rfl<|xX rfl<|xX rfl<|xX rfl ?_
   refine zz ?_
   exact hG2 (zG []) (J2 true hr)
  replace hr:=bX hr h28
  obtain⟨x61,h_29,hr⟩:=aA hr
  obtain⟨x64,h_31,hr⟩:=aA hr
  rcases aYV (x61 != x64)with h33|h33
  ·replace hr:=bY hr h33
   refine AB.rs mixed [9,10,11,12,13,14,15] [] [[0,1,2,3,4,5,6,7,8,9,10,11,12,13,14,15,16,17,18,19,20,21,22,23,24,25,26,27,28,29,30,31,32,33]]<|zz ?_
   refine xu (aAt h_21) ?_
   refine zz ?_
   refine xu (oK h_24) ?_
   refine zz ?_
   refine xu (tN h_26)<|xSg (v:=(eB (x53 != x55))) rfl rfl h23 (jF rfl rfl (aGi _ _ ti4 ..)) ?_
   refine zz ?_
   refine xu (zY h_29) ?_
   refine zz ?_
   refine xu (qX h_31) ?_
   refine zz ?_
   exact hG2 (zG []) (J2 true hr)
  replace hr:=bX hr h33
  obtain⟨x70,h_34,hr⟩:=aA hr
  obtain⟨x73,h_36,hr⟩:=aA hr
  refine AB.rs mixed [9,10,11,12,13,14,15] [] [[0,1,2,3,4,5,6,7,8,9,10,11,12,13,14,15,16,17,18,19,20,21,22,23,24,25,26,27,28,29,30,31,32,33]]<|zz ?_
  refine xu (aAt h_21) ?_
  refine zz ?_
  refine xu (oK h_24) ?_
  refine zz ?_
  refine xu (tN h_26)<|xSg (v:=(eB (x53 != x55))) rfl rfl h23 (jF rfl rfl (aGi _ _ ti4 ..)) ?_
  refine zz ?_
  refine xu (zY h_29) ?_
  refine zz ?_
  refine xu (qX h_31) ?_
  refine zz ?_
  refine xu (aFc h_34) ?_
  refine zz ?_
  refine xu (aMg h_36) ?_
  refine zz ?_
  exact hG2 (zG []) (J2 (x70 != x73) hr)
 obtain⟨dL,h_38,hr⟩:=aA hr
 rcases aYV (!dL)with h39|h39
 ·replace hr:=bY hr h39
  refine xr<|zz ?_
  refine xp (aFe h_38) ?_
  refine zz ?_
  exact hG1 (zG [0,1,2]) (J1 true hr)
 replace hr:=bX hr h39
 obtain⟨x29,h_40,hr⟩:=aA hr
 refine xr<|zz ?_
 refine xp (aFe h_38) ?_
 refine zz ?_
 refine xCg (v:=(eB x29)) (h':=[some ⟨32,aT p⟩,some ⟨35,aN l⟩,some ⟨37,cC o⟩]) rfl rfl h39 rfl (Vm.Fn.pure (aMn h_40) rfl rfl) ?_
 refine zz ?_
 exact hG1 (zG [0,1,2]) (J1 (!x29) hr)
end Go.Proofs.YtgfdllellpbmoaaGreatDoor
