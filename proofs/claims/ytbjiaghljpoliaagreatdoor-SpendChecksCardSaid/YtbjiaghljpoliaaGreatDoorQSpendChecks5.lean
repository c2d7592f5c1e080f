/- Texts of ours, joined: PlainVH, PlainVI, PlainC4, PlainC5, PlainC6, PlainC7, PlainK1, PlainK2, PlainK3, PlainK4, PlainK5, PlainK6, PlainK7, PlainK8, PlainK9, PlainK10, PlainSC, PlainY4, PlainYI, PlainY3, PlainXK, PlainYC, TyF. -/
import Derived.Test.YtbjiaghljpoliaaGreatDoorQSpendChecks4
open Option renaming bind_some → aXj
open Bool renaming false_eq_true → aXk,not_true → aXs,true_eq_false → aXv,true_and → aXz,false_and → aXB,and_eq_true → aXF,not_false → aXM,not_eq_true' → aXO
open List renaming drop_eq_getElem_cons → aXl,drop_eq_nil_of_le → aXo,drop_zero → aXp,take_of_length_le → aXq,getElem_mem → aXr,getElem?_eq_getElem → aXt,length_cons → aXu,getElem?_append_right → aXw,getD_eq_getElem?_getD → aXx,mem_of_mem_drop → aXy,replicate → aXA,length_replicate → aXC,mem_of_mem_take → aXD,length_take → aXG,length_drop → aXH,append_nil → aXI,take_append_drop → aXJ,set_append_right → aXK,all_eq_true → aXP,drop_left' → aXR,take_left' → aXS
open Go.IntKind renaming i64 → aXm,wrap_u32 → aXQ
open Int renaming toNat_natCast → aXn
open Nat renaming le_refl → aXE,le_of_ble_eq_true → aXL,add_sub_cancel → aXN
set_option linter.unusedSimpArgs false
set_option linter.unusedVariables false
set_option linter.unusedSectionVars false
namespace Go.Proofs.YtbjiaghljpoliaaGreatDoor
open Go Go.Vm
def aAe (b:List Int):Nat×Nat×Int:=if b.length≠64 then(0,0,8)else if lT (b.take 32)<gQ∧lT (b.drop 32)<gQ then(lT (b.take 32),lT (b.drop 32),0)else(0,0,5)
def aKy (N:Nat)(m key sig:List Int):Int:=
 if key.length≠32 then 60 else if okN (lT key)=false then 60 else if sig.length=0 then 0 else
 if(aAe sig).2.2≠0 then 61 else if aIp N (lT key) m (aAe sig).1 (aAe sig).2.1=true then 0 else 61
theorem aOs (b:List Int):(aAe b).1<115792089237316195423570985008687907853269984665640564039457584007913129639936∧(aAe b).2.1<115792089237316195423570985008687907853269984665640564039457584007913129639936:=by
 unfold aAe
 split
 ·exact⟨by decide +kernel,by decide +kernel⟩
 split
 ·exact⟨tR _,tR _⟩
 exact⟨by decide +kernel,by decide +kernel⟩
theorem aKE :aXA 4 (0:Int)=U 0:=by decide +kernel
section
variable {N:Nat}(hN:70000≤N)
include hN
theorem aFb {h:List Int}(hl:h.length=32)(hb:Byt h):fV N h=some (U (lT h)):=by
 have:=aHQ hN (lT h)
 rwa[aEW hl hb]at this
theorem aRw {b:List Int}(hb:Byt b):tP N b=some (U (aAe b).1,U (aAe b).2.1,(aAe b).2.2):=by
 unfold tP aAe
 by_cases hl:b.length=64
 ·rw[show(((b.length:Nat):Int) != 64)=false by rw[hl];rfl,if_neg (show¬b.length≠64 from fun h=>h hl)]
  have e1:sub b 0 32=some (b.take 32):=by unfold sub;rw[if_pos ⟨by omega,by omega,by omega⟩];simp
  have e2:sub b 32 (b.length:Int)=some (b.drop 32):=by
   unfold sub;rw[if_pos ⟨by omega,by omega,by omega⟩,aXn,aXq (aXE _)];rfl
  have l1:(b.take 32).length=32:=by simp;omega
  have l2:(b.drop 32).length=32:=by simp;omega
  have a1:tV 32 (b.take 32)=some (b.take 32):=by unfold tV;rw[if_pos (by omega),aXq (by omega)]
  have a2:tV 32 (b.drop 32)=some (b.drop 32):=by unfold tV;rw[if_pos (by omega),aXq (by omega)]
  have b1:Byt (b.take 32):=fun x hx=>hb x (aXD hx)
  have b2:Byt (b.drop 32):=fun x hx=>hb x (aXy hx)
  have n1:=tR (b.take 32)
  have n2:=tR (b.drop 32)
  have f1:=aFb hN l1 b1
  have f2:=aFb hN l2 b2
  generalize lT (b.take 32)=e at *
  generalize lT (b.drop 32)=s at *
  rw[if_neg (show¬(false=true) by decide),e1,aXj,a1,aXj,f1,aXj,e2,aXj,a2,aXj,f2,aXj,bW,aXj,bW,aXj,xT hN n1,aXj,xT hN n2,aXj,
   show decide (e<57896044618658097711785492504343953926634992332820282019728792003956564801911)=decide (e<gQ)from rfl,show decide (s<57896044618658097711785492504343953926634992332820282019728792003956564801911)=decide (s<gQ)from rfl]
  by_cases h1:e<gQ
  ·by_cases h2:s<gQ
   ·rw[decide_eq_true h1,decide_eq_true h2,if_pos (show e<gQ∧s<gQ from⟨h1,h2⟩)];rfl
   rw[decide_eq_true h1,decide_eq_false h2,if_neg (show¬(e<gQ∧s<gQ)from fun h=>h2 h.2),←aKE];rfl
  rw[decide_eq_false h1,if_neg (show¬(e<gQ∧s<gQ)from fun h=>h1 h.1),←aKE];rfl
 rw[show(((b.length:Nat):Int) != 64)=true by simp;omega,if_pos rfl,if_pos (show b.length≠64 from hl),←aKE]
theorem aU8 {m:List Int}(hm:m.length=32)(hmb:Byt m){key sig:List Int}(hk:Byt key)(hs:Byt sig):vJ N m key sig=aKy N m key sig:=by
 have key0:dM N m 0 0 [] [] 0 key sig=some (aKy N m key sig):=by
  have hJ: ∀t,g7 N m 0 0 [] [] 0 t=some (if t=true then 61 else 0):=fun t=>by cases t<;>rfl
  unfold dM aKy
  by_cases hl:key.length=32
  ·have a1:tV 32 key=some key:=by unfold tV;rw[if_pos (by omega),aXq (by omega)]
   have hd:=aOs sig
   have f1:=aFb hN hl hk
   have n1:=tR key
   have hdec:=aRw hN hs
   rw[show(((key.length:Nat):Int) != 32)=false by rw[hl];rfl,if_neg (show¬key.length≠32 from fun h=>h hl)]
   generalize aAe sig=D at *
   obtain⟨e,s,er⟩:=D
   generalize lT key=p at *
   have hval:=aN2 hN n1
   have hver:=aR0 hN n1 hd.1 hd.2 hm hmb
   dsimp only at hd hdec hver
   rw[if_neg (show¬(false=true) by decide),a1,aXj,f1,aXj,bW,aXj,hval,aXj]
   cases hv:okN p with
   |false=>rfl
   |true=>
    simp only[aXs,aXk,if_false,aXv]
    by_cases h0:sig.length=0
    ·rw[if_pos h0,show(((sig.length:Nat):Int) == 0)=true by rw[h0];rfl]
     rfl
    rw[if_neg h0,show(((sig.length:Nat):Int) == 0)=false by simp;intro h;exact h0 (by rw[h];rfl),hdec]
    simp only[aXk,if_false,aXj]
    by_cases h1:er=0
    ·rw[if_neg (show¬er≠0 from fun h=>h h1),show(er != 0)=false by simpa using h1]
     simp only[aXk,if_false,dG hm,aXj,hver,hJ]
     cases aIp N p m e s<;>rfl
    rw[if_pos h1,show(er != 0)=true by simpa using h1]
    rfl
  rw[show(((key.length:Nat):Int) != 32)=true by simp;omega,if_pos rfl,if_pos (show key.length≠32 from hl)]
 unfold vJ
 rw[key0]
 rfl
end
section
variable {N:Nat}(hN:70000≤N)
include hN
theorem aF4 {a:Nat}(ha:a<115792089237316195423570985008687907853269984665640564039457584007913129639936):qL N (U a)=some (decide (a<gQ)):=by
 unfold qL
 rw[bW,aXj,aHv N hN,aXj,aNt,aAN hN ha (show(57896044618658097711785492504343953926634992332820282019728792003956564801911:Nat)<115792089237316195423570985008687907853269984665640564039457584007913129639936 by decide),aXj,aLW]
theorem aPL {p:Nat}(hp:p<115792089237316195423570985008687907853269984665640564039457584007913129639936):xR N (U p)=some (aNn p):=by
 have he:=aMw hN hp aCT
 unfold xR aNn
 rw[bW,aXj,aHx hp,aXj]
 by_cases h0:p=0
 ·rw[decide_eq_true h0,aXs,aXB,if_neg (show¬(false=true) by decide)];rfl
 rw[decide_eq_false h0,if_pos (show(!false)=true from rfl),aHC N hN,aXj,aNt,aAN hN hp (show(115792089237316195423570985008687907853269984665640564039457584007913129603823:Nat)<115792089237316195423570985008687907853269984665640564039457584007913129639936 by decide),aXj,aLW]
 by_cases h1:p<gP
 ·rw[if_pos (decide_eq_true (show p<115792089237316195423570985008687907853269984665640564039457584007913129603823 from h1)),aHv N hN,aXj,show u3 N (U p) (U 57896044618658097711785492504343953926634992332820282019728792003956564801911)=_ from he,aXj,show aEK N=some (U 1)from rfl,aXj,bW,aXj,bW,aXj,aBv (aHE _) (by decide +kernel),decide_eq_true h1,aXM,aXz,aXz]
  rfl
 rw[if_neg (show¬decide (p<115792089237316195423570985008687907853269984665640564039457584007913129603823)=true from fun h=>h1 (of_decide_eq_true h)),decide_eq_false h1,aXB,Bool.and_false]
 rfl
theorem aM3 {p:Nat}(hp:p<115792089237316195423570985008687907853269984665640564039457584007913129639936):v7 N (U p)=some (okN p):=by
 unfold v7 okN
 rw[bW,aXj,show gW N 1=some (U 1)from rfl,aXj,bW,aXj,aBv hp (by decide +kernel)]
 by_cases h1:p=1
 ·rw[decide_eq_true h1,aXs,aXB,if_neg (show¬(false=true) by decide)];rfl
 rw[decide_eq_false h1,if_pos (show(!false)=true from rfl),aPL hN hp,aXj,aXM,aXz]
 rfl
theorem aUt {a b:Nat}(ha:a<115792089237316195423570985008687907853269984665640564039457584007913129639936)(hb:b<115792089237316195423570985008687907853269984665640564039457584007913129639936):aC5 N (U a) (U b)=some (U (a*b%gP)):=by
 unfold aC5
 rw[bW,aXj,bW,aXj,aHC N hN,aXj,aHj hN (show(115792089237316195423570985008687907853269984665640564039457584007913129603823:Nat)<115792089237316195423570985008687907853269984665640564039457584007913129639936 by decide) (by decide) ha hb,aXj,bW,aXj]
theorem aQx {p e s:Nat}(hp:p<115792089237316195423570985008687907853269984665640564039457584007913129639936)(he4:e<115792089237316195423570985008687907853269984665640564039457584007913129639936)(hs4:s<115792089237316195423570985008687907853269984665640564039457584007913129639936){m:List Int}(hm:m.length=32)(hb:Byt m):
  yP N (U p) m (U e) (U s)=some (aIp N p m e s):=by
 have hJt:nA N (U p) m (U e) (U s) true=some false:=rfl
 unfold yP aIp
 rw[bW,aXj,aM3 hN hp,aXj]
 cases okN p with
 |false=>
  rw[if_pos (show(!false)=true from rfl),hJt]
  simp
 |true=>
  rw[if_neg (show¬(!true)=true by decide),bW,aXj,aF4 hN he4,aXj]
  by_cases h1:e<gQ
  ·rw[decide_eq_true h1,if_neg (show¬(!true)=true by decide),bW,aXj,aF4 hN hs4,aXj]
   by_cases h2:s<gQ
   ·have hd:(gQ+115792089237316195423570985008687907853269984665640564039457584007913129639936-e)%115792089237316195423570985008687907853269984665640564039457584007913129639936=gQ-e:=by
     have:=aCT
     revert h1 this
     generalize gQ=Q
     intro h1 this
     omega
    have hd4:gQ-e<115792089237316195423570985008687907853269984665640564039457584007913129639936:=Nat.lt_of_le_of_lt (Nat.sub_le _ _) aCT
    have hch:=aNf hN (4^s%gP*(p^(gQ-e)%gP)%gP) p hm hb
    have hcl:=aOe N (4^s%gP*(p^(gQ-e)%gP)%gP) p m
    rw[decide_eq_true h2]
    unfold nA
    rw[if_neg (show¬(!true)=true by decide),aHv N hN,aXj,bW,aXj,aJx hN (show gQ<_ from aCT) he4,aXj,hd]
    dsimp only
    rw[bW,aXj,bW,aXj,aRj hN hs4,aXj,bW,aXj,aMw hN hp hd4,aXj,aUt hN (aHE _) (aHE _),aXj,bW,aXj,dG hm,aXj,hch,aXj,bW,aXj,aBv he4 (Nat.lt_trans hcl aCT)]
    rfl
   rw[decide_eq_false h2]
   exact hJt
  rw[decide_eq_false h1]
  exact hJt
theorem aED {h:List Int}(hl:h.length=32)(hb:Byt h):i7 N h=some (U (lT h)):=by
 have:=aHg hN (lT h)
 rwa[aEW hl hb]at this
theorem aPE {b:List Int}(hb:Byt b):xZ N b=some (U (aAe b).1,U (aAe b).2.1,(aAe b).2.2):=by
 unfold xZ aAe
 by_cases hl:b.length=64
 ·rw[show(((b.length:Nat):Int) != 64)=false by rw[hl];rfl,if_neg (show¬b.length≠64 from fun h=>h hl)]
  have e1:sub b 0 32=some (b.take 32):=by unfold sub;rw[if_pos ⟨by omega,by omega,by omega⟩];simp
  have e2:sub b 32 (b.length:Int)=some (b.drop 32):=by
   unfold sub;rw[if_pos ⟨by omega,by omega,by omega⟩,aXn,aXq (aXE _)];rfl
  have l1:(b.take 32).length=32:=by simp;omega
  have l2:(b.drop 32).length=32:=by simp;omega
  have c1:nT (aXA 32 0) (b.take 32)=b.take 32:=aKB (by rw[aXC,l1])
  have c2:nT (aXA 32 0) (b.drop 32)=b.drop 32:=aKB (by rw[aXC,l2])
  have b1:Byt (b.take 32):=fun x hx=>hb x (aXD hx)
  have b2:Byt (b.drop 32):=fun x hx=>hb x (aXy hx)
  have n1:=tR (b.take 32)
  have n2:=tR (b.drop 32)
  have f1:=aED hN l1 b1
  have f2:=aED hN l2 b2
  have a1:=dG l1
  have a2:=dG l2
  generalize lT (b.take 32)=e at *
  generalize lT (b.drop 32)=s at *
  rw[if_neg (show¬(false=true) by decide),e1,aXj,e2,aXj,c1,c2,a1,aXj,f1,aXj,a2,aXj,f2,aXj,bW,aXj,bW,aXj,aF4 hN n1,aXj,aF4 hN n2,aXj]
  by_cases h1:e<gQ
  ·by_cases h2:s<gQ
   ·rw[decide_eq_true h1,decide_eq_true h2,if_pos (show e<gQ∧s<gQ from⟨h1,h2⟩)];rfl
   rw[decide_eq_true h1,decide_eq_false h2,if_neg (show¬(e<gQ∧s<gQ)from fun h=>h2 h.2),←aKE];rfl
  rw[decide_eq_false h1,if_neg (show¬(e<gQ∧s<gQ)from fun h=>h1 h.1),←aKE];rfl
 rw[show(((b.length:Nat):Int) != 64)=true by simp;omega,if_pos rfl,if_pos (show b.length≠64 from hl),←aKE]
theorem aPu {m:List Int}(hm:m.length=32)(hmb:Byt m){key sig:List Int}(hk:Byt key)(hs:Byt sig):rU N sig key m=some (decide (0<sig.length)&&decide (aKy N m key sig=0),aKy N m key sig):=by
 unfold rU aKy
 by_cases hl:key.length=32
 ·have c1:nT (aXA 32 0) key=key:=aKB (by rw[aXC,hl])
  have hd:=aOs sig
  have f1:=aED hN hl hk
  have n1:=tR key
  have hdec:=aPE hN hs
  have a1:=dG hl
  rw[show(((key.length:Nat):Int) != 32)=false by rw[hl];rfl,if_neg (show¬key.length≠32 from fun h=>h hl)]
  generalize aAe sig=D at *
  obtain⟨e,s,er⟩:=D
  generalize lT key=p at *
  have hval:=aM3 hN n1
  have hver:=aQx hN n1 hd.1 hd.2 hm hmb
  dsimp only at hd hdec hver
  rw[if_neg (show¬(false=true) by decide),c1,a1,aXj,f1,aXj,bW,aXj,hval,aXj]
  cases hv:okN p with
  |false=>simp
  |true=>
   rw[if_neg (show¬(!true)=true by decide),if_neg (show¬(true=false) by decide)]
   by_cases h0:sig.length=0
   ·rw[if_pos h0,show(((sig.length:Nat):Int) == 0)=true by rw[h0];rfl]
    simp[h0]
   rw[if_neg h0,show(((sig.length:Nat):Int) == 0)=false by simp;intro h;exact h0 (by rw[h];rfl),hdec,if_neg (show¬(false=true) by decide),aXj]
   dsimp only
   by_cases h1:er=0
   ·rw[if_neg (show¬er≠0 from fun h=>h h1),show(er != 0)=false by simpa using h1,if_neg (show¬(false=true) by decide),dG hm,aXj,hver,aXj]
    rw[decide_eq_true (show 0<sig.length by omega)]
    cases aIp N p m e s<;>rfl
   rw[if_pos h1,show(er != 0)=true by simpa using h1,if_pos rfl]
   simp[s7]
 rw[show(((key.length:Nat):Int) != 32)=true by simp;omega,if_pos rfl,if_pos (show key.length≠32 from hl)]
 simp
end
def eqE (a b:List Int):Bool:=(sY a).toList == (sY b).toList
def zA (N:Nat)(m:List Int)(h a:Int)(o:aX)(st:List (List Int)):Int×List (List Int):=
 if o.Code=1 then aCJ st o.Data
 else if o.Code=2 then aCJ st (fY st 1)
 else if o.Code=3 then(0,st.take (st.length-1))
 else if o.Code=4 then(0,(st.set (st.length-1) (fY st 2)).set (st.length-2) (fY st 1))
 else if o.Code=5 then(0,st.take (st.length-2)++[aCN (eqE (fY st 1) (fY st 2))])
 else if o.Code=6 then(0,st.take (st.length-1)++[aCN (!sJ (fY st 1))])
 else if o.Code=7 then(if sJ (fY st 1)then(0,st.take (st.length-1))else(84,st))
 else if o.Code=8 then(0,st.take (st.length-1)++[sha256 N (fY st 1)])
 else if o.Code=9 then aCJ st (aFD N ((fY st 1).length:Nat))
 else if o.Code=10 then v6 N m st 1 1
 else if o.Code=11 then v6 N m st o.M o.N.toNat
 else if o.Code=12 then(aON N (fY st 1) h,st)
 else if o.Code=13 then(aON N (fY st 1) a,st)
 else if o.Code=17 then(84,st)
 else(0,st)
def nU (o:aX):Int:=
 if o.Code=1∨o.Code=15∨o.Code=16∨o.Code=17 then 0 else if o.Code=4∨o.Code=5∨o.Code=10 then 2 else if o.Code=11 then 2*o.N else 1
def pC (o:aX):Int:=if o.Code=8 then 6 else if o.Code=10 then 21 else if o.Code=11 then 1+20*o.N else 1
theorem kN {x y:Int}(h:x≠y):(x == y)=false:=by simpa using h
theorem aMg (N:Nat){o:aX}(ho:VOp o):yW N o.Code o.Data o.M o.N=some (pC o):=by
 unfold yW pC
 by_cases h8:o.Code=8
 ·rw[h8];rfl
 rw[kN h8,if_neg h8]
 by_cases h10:o.Code=10
 ·rw[h10];rfl
 rw[kN h10,if_neg h10]
 by_cases h11:o.Code=11
 ·have:=ho.multi h11
  rw[if_pos h11,h11,cN (a:=20*o.N) (by omega) (by omega),cN (by omega) (by omega)];rfl
 rw[kN h11,if_neg h11];rfl
theorem aKU {o:aX}(ho:VOp o):1≤pC o∧pC o≤301:=by
 unfold pC
 by_cases h11:o.Code=11
 ·have:=ho.multi h11
  rw[if_neg (by omega),if_neg (by omega),if_pos h11];omega
 rw[if_neg h11]
 split
 ·omega
 split<;>omega
theorem aRQ (N:Nat){o:aX}(ho:VOp o):yZ N o.Code o.Data o.M o.N=some (nU o):=by
 unfold yZ nU mY pO
 by_cases h11:o.Code=11
 ·have:=ho.multi h11
  simp only[h11]
  rw[cN (a:=2*o.N) (by omega) (by omega)]
  simp
 by_cases h1:o.Code=1
 ·simp[h1]
 by_cases h15:o.Code=15
 ·simp[h15]
 by_cases h16:o.Code=16
 ·simp[h16]
 by_cases h17:o.Code=17
 ·simp[h17]
 by_cases h4:o.Code=4
 ·simp[h4]
 by_cases h5:o.Code=5
 ·simp[h5]
 by_cases h10:o.Code=10
 ·simp[h10]
 simp[h1,h15,h16,h17,h4,h5,h10,h11]
section
variable {N:Nat}(hN:70000≤N){m:List Int}(hm:m.length=32)(hb:Byt m)
include hN hm hb
theorem aIr {st:List (List Int)}(hs:WS st){x:List Int}(hx:Byt x∧x.length≤520):WS (aCJ st x).2:=by
 unfold aCJ
 by_cases h:64≤st.length
 ·rw[if_pos h];exact hs
 rw[if_neg h];exact hs.push (by omega) hx
theorem aJJ {st:List (List Int)}(hs:WS st)(fO:Int){n:Nat}(h1:1≤n)(hn:2*n≤st.length):WS (v6 N m st fO n).2:=by
 unfold v6
 split
 ·have:=hs.len
  exact(hs.take _).push (by simp;omega) (aH3 _)
 exact hs
theorem aQL {h a:Int}{o:aX}(ho:VOp o){st:List (List Int)}(hs:WS st)(hn:nU o≤(st.length:Int)):WS (zA N m h a o st).2:=by
 have hl:=hs.len
 have rep: ∀(k:Nat)(x:List Int),1≤k→k≤st.length→(Byt x∧x.length≤520)→WS (st.take (st.length-k)++[x]):=fun k x h1 hk hx=>(hs.take _).push (by simp;omega) hx
 unfold zA
 unfold nU at hn
 by_cases h1:o.Code=1
 ·rw[if_pos h1]
  exact aIr hN hm hb hs ⟨ho.data.1,by have:=ho.data.2;omega⟩
 rw[if_neg h1]
 by_cases h2:o.Code=2
 ·simp[h2]at hn
  have:=t8 hs (k:=1) (by omega) (by omega)
  rw[if_pos h2]
  exact aIr hN hm hb hs ⟨this.1,this.2.1⟩
 rw[if_neg h2]
 by_cases h3:o.Code=3
 ·rw[if_pos h3];exact hs.take _
 rw[if_neg h3]
 by_cases h4:o.Code=4
 ·simp[h4]at hn
  have q1:=t8 hs (k:=1) (by omega) (by omega)
  have q2:=t8 hs (k:=2) (by omega) (by omega)
  rw[if_pos h4]
  exact(hs.set _ ⟨q2.1,q2.2.1⟩).set _ ⟨q1.1,q1.2.1⟩
 rw[if_neg h4]
 by_cases h5:o.Code=5
 ·simp[h5]at hn
  rw[if_pos h5]
  exact rep 2 _ (by omega) (by omega) (aH3 _)
 rw[if_neg h5]
 by_cases h6:o.Code=6
 ·simp[h6]at hn
  rw[if_pos h6]
  exact rep 1 _ (by omega) (by omega) (aH3 _)
 rw[if_neg h6]
 by_cases h7:o.Code=7
 ·rw[if_pos h7]
  cases sJ (fY st 1)
  ·exact hs
  exact hs.take _
 rw[if_neg h7]
 by_cases h8:o.Code=8
 ·simp[h8]at hn
  rw[if_pos h8]
  exact rep 1 _ (by omega) (by omega) ⟨qA _ _,by rw[fA];omega⟩
 rw[if_neg h8]
 by_cases h9:o.Code=9
 ·simp[h9]at hn
  have:=t8 hs (k:=1) (by omega) (by omega)
  rw[if_pos h9]
  exact aIr hN hm hb hs (aKm hN (n:=(fY st 1).length) (by omega)).2
 rw[if_neg h9]
 by_cases h10:o.Code=10
 ·simp[h10]at hn
  rw[if_pos h10]
  exact aJJ hN hm hb hs _ (by omega) (by omega)
 rw[if_neg h10]
 by_cases h11:o.Code=11
 ·have:=ho.multi h11
  simp[h11]at hn
  rw[if_pos h11]
  exact aJJ hN hm hb hs _ (by omega) (by omega)
 rw[if_neg h11]
 by_cases h12:o.Code=12
 ·rw[if_pos h12];exact hs
 rw[if_neg h12]
 by_cases h13:o.Code=13
 ·rw[if_pos h13];exact hs
 rw[if_neg h13]
 by_cases h17:o.Code=17
 ·rw[if_pos h17];exact hs
 rw[if_neg h17];exact hs
theorem aQE {h a:Int}{o:aX}(ho:VOp o){st:List (List Int)}(hs:WS st)(hn:nU o≤(st.length:Int))(br:List aO)(c:Int):
  mU N m h a st br c o.Code o.Data o.M o.N=some ((zA N m h a o st).1,m,h,a,(zA N m h a o st).2,br,c):=by
 have hl:=hs.len
 have top:1≤st.length→cV N m h a st br c=some (fY st 1):=fun h1=>by
  unfold cV
  rw[show((st.length:Nat):Int)-1=((st.length:Nat):Int)-((1:Nat):Int)from rfl,(t8 hs (k:=1) (by omega) h1).2.2];rfl
 have len1:1≤st.length→(fY st 1).length≤520∧Byt (fY st 1):=fun h1=>⟨(t8 hs (k:=1) (by omega) h1).2.1,(t8 hs (k:=1) (by omega) h1).1⟩
 have rep1: ∀x,1≤st.length→dP N m h a st br c 1 x=some (m,h,a,st.take (st.length-1)++[x],br,c):=fun x h1=>aFC (k:=1) hl h1 x
 have rep2: ∀x,2≤st.length→dP N m h a st br c 2 x=some (m,h,a,st.take (st.length-2)++[x],br,c):=fun x h1=>aFC (k:=2) hl h1 x
 have drp:1≤st.length→eR N m h a st br c 1=some (m,h,a,st.take (st.length-1),br,c):=fun h1=>aJV (k:=1) hl h1
 have i2:2≤st.length→bU st (aXm.wrap (((st.length:Nat):Int)-2))=some (fY st 2):=fun h2=>(t8 hs (k:=2) (by omega) h2).2.2
 have i1':1≤st.length→bU st (aXm.wrap (((st.length:Nat):Int)-1))=some (fY st 1):=fun h2=>(t8 hs (k:=1) (by omega) h2).2.2
 unfold zA mU
 unfold nU at hn
 by_cases h1:o.Code=1
 ·rw[if_pos h1,h1,aKq];rfl
 rw[if_neg h1,kN h1]
 by_cases h2:o.Code=2
 ·simp[h2]at hn
  rw[if_pos h2,h2,top (by omega)]
  simp only[aXj,aKq];rfl
 rw[if_neg h2,kN h2]
 by_cases h3:o.Code=3
 ·simp[h3]at hn
  rw[if_pos h3,h3,drp (by omega)];rfl
 rw[if_neg h3,kN h3]
 by_cases h4:o.Code=4
 ·simp[h4]at hn
  rw[if_pos h4,h4,i2 (by omega),i1' (by omega)]
  have e1:aXm.wrap (((st.length:Nat):Int)-1)=((st.length-1:Nat):Int):=by rw[cN (by omega) (by omega)];omega
  have e2:aXm.wrap (((st.length:Nat):Int)-2)=((st.length-2:Nat):Int):=by rw[cN (by omega) (by omega)];omega
  simp only[e1,e2,aXn,aXj]
  rw[bZ _ (show st.length-2<(st.set (st.length-1) (fY st 2)).length by rw[List.length_set];omega)]
  rfl
 rw[if_neg h4,kN h4]
 by_cases h5:o.Code=5
 ·simp[h5]at hn
  rw[if_pos h5,h5,top (by omega),i2 (by omega)]
  simp only[aXj,aCO,aHA hN,rep2 _ (show 2≤st.length by omega)]
  rfl
 rw[if_neg h5,kN h5]
 by_cases h6:o.Code=6
 ·simp[h6]at hn
  rw[if_pos h6,h6,top (by omega)]
  simp only[aXj,aCA hN (show(fY st 1).length≤60000 by have:=(len1 (by omega)).1;omega),aHA hN,rep1 _ (show 1≤st.length by omega)]
  rfl
 rw[if_neg h6,kN h6]
 by_cases h7:o.Code=7
 ·simp[h7]at hn
  rw[if_pos h7,h7,top (by omega)]
  simp only[aXj,aCA hN (show(fY st 1).length≤60000 by have:=(len1 (by omega)).1;omega),drp (show 1≤st.length by omega)]
  cases sJ (fY st 1)<;>rfl
 rw[if_neg h7,kN h7]
 by_cases h8:o.Code=8
 ·simp[h8]at hn
  rw[if_pos h8,h8,top (by omega)]
  simp only[aXj,aJi N hN _ (len1 (by omega)).2 (show(fY st 1).length≤1000000 by have:=(len1 (by omega)).1;omega),dG (fA N (fY st 1)),rep1 _ (show 1≤st.length by omega)]
  rfl
 rw[if_neg h8,kN h8]
 by_cases h9:o.Code=9
 ·simp[h9]at hn
  have:=(len1 (by omega)).1
  rw[if_pos h9,h9,top (by omega)]
  simp only[aXj,aHD _ (show(fY st 1).length<4294967296 by omega),(aKm hN (show(fY st 1).length<4294967296 by omega)).1,aKq]
  rfl
 rw[if_neg h9,kN h9]
 by_cases h10:o.Code=10
 ·simp[h10]at hn
  have:=aK6 hN hm hb (h:=h) (a:=a) hs (br:=br) (c:=c) (fO:=1) (n:=1) (by omega) (by omega)
  rw[show((1:Nat):Int)=1 from rfl]at this
  rw[if_pos h10,h10,this];rfl
 rw[if_neg h10,kN h10]
 by_cases h11:o.Code=11
 ·have hM:=ho.multi h11
  simp[h11]at hn
  have:=aK6 hN hm hb (h:=h) (a:=a) hs (br:=br) (c:=c) (fO:=o.M) (n:=o.N.toNat) (by omega) (by omega)
  rw[show((o.N.toNat:Nat):Int)=o.N by omega]at this
  rw[if_pos h11,h11,this];rfl
 rw[if_neg h11,kN h11]
 by_cases h12:o.Code=12
 ·simp[h12]at hn
  rw[if_pos h12,h12,top (by omega)]
  simp only[aXj,aJI hN];rfl
 rw[if_neg h12,kN h12]
 by_cases h13:o.Code=13
 ·simp[h13]at hn
  rw[if_pos h13,h13,top (by omega)]
  simp only[aXj,aJI hN];rfl
 rw[if_neg h13,kN h13]
 by_cases h17:o.Code=17
 ·rw[if_pos h17,h17];rfl
 rw[if_neg h17,kN h17];rfl
end
structure St where
 st:List (List Int)
 br:List aO
 c:Int
def vL (br:List aO):aO:=br.getD (br.length-1) ⟨true,true⟩
def aEj (o:aX)(br:List aO):Bool:=if o.Code=15∨o.Code=16 then(vL br).outer else(vL br).outer&&(vL br).taken
def aF5 (N:Nat)(m:List Int)(h a:Int)(o:aX)(k:Bool)(s:St):Int×St:=
 if o.Code=14 then(0,⟨if k then s.st.take (s.st.length-1)else s.st,s.br++[⟨k,k&&sJ (fY s.st 1)⟩],s.c⟩)
 else if o.Code=15 then(0,⟨s.st,s.br.set (s.br.length-1) ⟨(vL s.br).outer,!(vL s.br).taken⟩,s.c⟩)
 else if o.Code=16 then(0,⟨s.st,s.br.take (s.br.length-1),s.c⟩)
 else if k then((zA N m h a o s.st).1,⟨(zA N m h a o s.st).2,s.br,s.c⟩)else(0,s)
def tC (N:Nat)(m:List Int)(h a:Int)(o:aX)(s:St):Int×St:=
 if aEj o s.br then
  (if 500<s.c+pC o then(83,s)else if(s.st.length:Int)<nU o then(81,s)else aF5 N m h a o true ⟨s.st,s.br,s.c+pC o⟩)
 else aF5 N m h a o false s
def mJ (N:Nat)(m:List Int)(h a:Int):List aX→St→Int×St
 | [],s=>(0,s)
 |o::r,s=>if(tC N m h a o s).1=0 then mJ N m h a r (tC N m h a o s).2 else tC N m h a o s
def oW :List aX→List Bool→Option (List Bool)
 | [],l=>some l
 |o::r,l=>
  if o.Code=14 then oW r (l++[false])
  else if o.Code=15 then(if l=[]then none else if l.getD (l.length-1) true=true then none else oW r (l.set (l.length-1) true))
  else if o.Code=16 then(if l=[]then none else oW r (l.take (l.length-1)))
  else oW r l
theorem aB5 {n:Nat}(h1:1≤n)(h2:n≤100000):aXm.wrap ((n:Int)-1)=((n-1:Nat):Int):=by rw[cN (by omega) (by omega)];omega
theorem pM {α:Type}{l:List α}:l=[]↔l.length=0:=by cases l<;>simp
def aSz :Option (List Bool)→LR (List Bool) Bool
 |none=> .ret false
 |some l=> .brk l
theorem aKZ (N:Nat)(l:List aX)(hl:l.length≤1000): ∀(f j:Nat)(op:List Bool),l.length-j<f→j≤l.length→op.length≤j→d8 N l f (j:Int) op=some (aSz (oW (l.drop j) op))
 |0,j,op,hf,_,_=>by omega
 |f+1,j,op,hf,hj,ho=>by
  rw[d8]
  by_cases h:j<l.length
  ·rw[dT h,if_pos rfl,bZ l h,aXl h]
   simp only[aXj,oW,lF,rA,i1 (show j≤100000 by omega)]
   have ih:=fun op' (ho':op'.length≤j+1)=>aKZ N l hl f (j+1) op' (by omega) (by omega) ho'
   by_cases h14:l[j].Code=14
   ·have:=jO
    rw[if_pos h14,h14,aBk (by simp;omega)]
    exact ih _ (by simp;omega)
   rw[if_neg h14,kN h14]
   by_cases h15:l[j].Code=15
   ·rw[if_pos h15,h15]
    by_cases h0:op=[]
    ·rw[if_pos h0,h0];rfl
    have h0':1≤op.length:=by have:=mt pM.2 h0;omega
    rw[if_neg h0,aB5 h0' (by omega),show decide ((((op.length-1:Nat)):Int)<0)=false from decide_eq_false (by omega),bZ op (show op.length-1<op.length by omega),show op.getD (op.length-1) true=op[op.length-1] by simp[show op.length-1<op.length by omega]]
    cases hh:op[op.length-1]
    ·simp only[aXk,if_false,aXj,aXn,show((15:Int) == 14)=false from rfl,show((15:Int) == 15)=true from rfl,if_true]
     exact ih _ (by simp;omega)
    rfl
   rw[if_neg h15,kN h15]
   by_cases h16:l[j].Code=16
   ·rw[if_pos h16,h16]
    by_cases h0:op=[]
    ·rw[if_pos h0,h0];rfl
    have h0':1≤op.length:=by have:=mt pM.2 h0;omega
    have e:sub op 0 ((op.length-1:Nat):Int)=some (op.take (op.length-1)):=by
     unfold sub;rw[if_pos ⟨by omega,by omega,by omega⟩];simp
    rw[if_neg h0,aB5 h0' (by omega),show decide ((((op.length-1:Nat)):Int)<0)=false from decide_eq_false (by omega),e]
    exact ih _ (by simp;omega)
   rw[if_neg h16,kN h16]
   exact ih _ (by omega)
  rw[dF h,aXo (by omega)];rfl
def zS (l:List aX):Bool:=match oW l []with|none=>false|some q=>(q.length:Int) == 0
theorem aQh {N:Nat}(hN:70000≤N){l:List aX}(hl:l.length≤1000):vV N l=some (zS l):=by
 have:=aKZ N l hl N 0 [] (by omega) (by omega) (by simp)
 rw[aXp,show((0:Nat):Int)=0 from rfl]at this
 unfold vV zS
 rw[this]
 cases oW l []<;>rfl
section
variable {N:Nat}(hN:70000≤N){m:List Int}(hm:m.length=32)(hb:Byt m)
include hN hm hb
theorem aSF {h a:Int}{o:aX}(ho:VOp o){s:St}(hs:WS s.st)(hbr:s.br.length≤1000)(hc:0≤s.c∧s.c≤500)(h15:o.Code=15∨o.Code=16→s.br≠ []):
  ∃s',i0 N m h a s.st s.br s.c o.Code o.Data o.M o.N=some ((tC N m h a o s).1,m,h,a,s'.st,s'.br,s'.c)∧((tC N m h a o s).1=0→s'=(tC N m h a o s).2∧WS s'.st∧s.c≤s'.c∧s'.c≤500∧((o.Code=14→s'.br.length=s.br.length+1)∧(o.Code=16→s'.br.length=s.br.length-1)∧(o.Code≠14→o.Code≠16→s'.br.length=s.br.length))):=by
 have hp:=aKU ho
 have hbody: ∀(k:Bool)(c:Int),s.c≤c→c≤500→(k=true→nU o≤(s.st.length:Int))→ ∃s',iS N m h a s.st s.br o.Code o.Data o.M o.N k c=some ((aF5 N m h a o k ⟨s.st,s.br,c⟩).1,m,h,a,s'.st,s'.br,s'.c)∧s'=(aF5 N m h a o k ⟨s.st,s.br,c⟩).2∧WS s'.st∧s.c≤s'.c∧s'.c≤500∧((o.Code=14→s'.br.length=s.br.length+1)∧(o.Code=16→s'.br.length=s.br.length-1)∧(o.Code≠14→o.Code≠16→s'.br.length=s.br.length)):=by
  intro k c hc1 hc2 hk
  refine⟨_, ?_,rfl, ?_⟩
  all_goals unfold aF5
  ·unfold iS
   by_cases h14:o.Code=14
   ·rw[if_pos h14,h14]
    have:=jO
    cases k with
    |false=>
     simp only[aXk,if_false,show((14:Int) == 14)=true from rfl,if_true]
     rw[aBk (by simp;omega)];rfl
    |true=>
     have hn:=hk rfl
     unfold nU at hn
     simp[h14]at hn
     have q:=t8 hs (k:=1) (by omega) (by omega)
     have top:cV N m h a s.st s.br c=some (fY s.st 1):=by
      unfold cV
      rw[show((s.st.length:Nat):Int)-1=((s.st.length:Nat):Int)-((1:Nat):Int)from rfl,q.2.2];rfl
     simp only[show((14:Int) == 14)=true from rfl,if_true,top,aXj,aCA hN (show(fY s.st 1).length≤60000 by omega)]
     rw[aBk (by simp;omega)]
     simp only[aXj,kS,if_true]
     rw[show eR N m h a s.st (s.br++[⟨true,sJ (fY s.st 1)⟩]) c 1=_ from aJV (k:=1) hs.len (by omega)]
     rfl
   rw[if_neg h14,kN h14]
   by_cases h15':o.Code=15
   ·have h0:=h15 (.inl h15')
    have h0':1≤s.br.length:=by have:=mt pM.2 h0;omega
    rw[if_pos h15',h15',aB5 h0' (by omega),bZ s.br (show s.br.length-1<s.br.length by omega)]
    simp only[show vL s.br=s.br[s.br.length-1] by simp[vL,show s.br.length-1<s.br.length by omega],aXn]
    rfl
   rw[if_neg h15',kN h15']
   by_cases h16:o.Code=16
   ·have h0:=h15 (.inr h16)
    have h0':1≤s.br.length:=by have:=mt pM.2 h0;omega
    have e:sub s.br 0 ((s.br.length-1:Nat):Int)=some (s.br.take (s.br.length-1)):=by
     unfold sub;rw[if_pos ⟨by omega,by omega,by omega⟩];simp
    rw[if_pos h16,h16,aB5 h0' (by omega),e];rfl
   rw[if_neg h16,kN h16]
   cases k with
   |true=>simp only[aXk,if_false,if_true,aQE hN hm hb ho hs (hk rfl),aXj]
   |false=>rfl
  by_cases h14:o.Code=14
  ·simp only[if_pos h14]
   refine⟨?_,hc1,hc2,fun _=>by simp,fun h=>by omega,fun h=>absurd h14 h⟩
   cases k
   ·exact hs
   exact hs.take _
  simp only[if_neg h14]
  by_cases h15':o.Code=15
  ·simp only[if_pos h15']
   exact⟨hs,hc1,hc2,fun h=>by omega,fun h=>by omega,fun _ _=>by simp⟩
  simp only[if_neg h15']
  by_cases h16:o.Code=16
  ·simp only[if_pos h16]
   exact⟨hs,hc1,hc2,fun h=>by omega,fun h=>by simp,fun _ h=>by omega⟩
  simp only[if_neg h16]
  cases k with
  |true=>exact⟨aQL hN hm hb ho hs (hk rfl),hc1,hc2,fun h=>by omega,fun h=>by omega,fun _ _=>rfl⟩
  |false=>exact⟨hs,hc1,hc2,fun h=>by omega,fun h=>by omega,fun _ _=>rfl⟩
 have hJ:i0 N m h a s.st s.br s.c o.Code o.Data o.M o.N=iR N m h a s.st s.br s.c o.Code o.Data o.M o.N (aEj o s.br):=by
  unfold i0 pI aEj
  by_cases h0:s.br=[]
  ·have: ¬(o.Code=15∨o.Code=16):=fun h=>h15 h h0
   rw[h0,if_neg this]
   simp only[iU,kN (fun h=>this (.inl h)),kN (fun h=>this (.inr h))]
   rfl
  have h0':1≤s.br.length:=by have:=mt pM.2 h0;omega
  rw[show(((s.br.length:Nat):Int) == 0)=false from kN (by omega),aB5 h0' (by omega),bZ s.br (show s.br.length-1<s.br.length by omega),show vL s.br=s.br[s.br.length-1] by simp[vL,show s.br.length-1<s.br.length by omega]]
  simp only[iU,aB5 h0' (show s.br.length≤100000 by omega),bZ s.br (show s.br.length-1<s.br.length by omega),jT,aXj,aXk,if_false]
  by_cases h15':o.Code=15
  ·rw[if_pos (show o.Code=15∨o.Code=16 from .inl h15'),h15']
   cases s.br[s.br.length-1].outer<;>rfl
  by_cases h16:o.Code=16
  ·rw[if_pos (show o.Code=15∨o.Code=16 from .inr h16),h16]
   cases s.br[s.br.length-1].outer<;>rfl
  rw[if_neg (show¬(o.Code=15∨o.Code=16) by omega),kN h15',kN h16]
  cases s.br[s.br.length-1].outer<;>rfl
 rw[hJ]
 unfold iR tC
 cases aEj o s.br with
 |false=>
  obtain⟨s',h1,h2⟩:=hbody false s.c (Int.le_refl _) hc.2 (fun h=>by cases h)
  exact⟨s',h1,fun _=>h2⟩
 |true=>
  simp only[if_true,aMg N ho,aRQ N ho,aXj]
  rw[cN (a:=s.c+pC o) (by omega) (by omega)]
  by_cases h5:500<s.c+pC o
  ·rw[decide_eq_true h5,if_pos h5]
   exact⟨⟨s.st,s.br,s.c+pC o⟩,rfl,fun h=>by cases h⟩
  rw[decide_eq_false h5,if_neg h5]
  simp only[aXk,if_false]
  by_cases h6:(s.st.length:Int)<nU o
  ·rw[decide_eq_true h6,if_pos h6]
   exact⟨⟨s.st,s.br,s.c+pC o⟩,rfl,fun h=>by cases h⟩
  rw[decide_eq_false h6,if_neg h6]
  obtain⟨s',h1,h2⟩:=hbody true (s.c+pC o) (by omega) (by omega) (fun _=>by omega)
  exact⟨s',h1,fun _=>h2⟩
end
theorem aLb {o:aX}{r:List aX}{l q:List Bool}(h:oW (o::r) l=some q):(o.Code=15∨o.Code=16→l≠ [])∧ ∃l',oW r l'=some q∧(o.Code=14→l'.length=l.length+1)∧(o.Code=16→l'.length=l.length-1)∧(o.Code≠14→o.Code≠16→l'.length=l.length):=by
 simp only[oW]at h
 by_cases h14:o.Code=14
 ·rw[if_pos h14]at h
  exact⟨fun h=>by omega,_,h,fun _=>by simp,fun h=>by omega,fun h=>absurd h14 h⟩
 rw[if_neg h14]at h
 by_cases h15:o.Code=15
 ·rw[if_pos h15]at h
  by_cases h0:l=[]
  ·rw[if_pos h0]at h;cases h
  rw[if_neg h0]at h
  by_cases h1:l.getD (l.length-1) true=true
  ·rw[if_pos h1]at h;cases h
  rw[if_neg h1]at h
  exact⟨fun _=>h0,_,h,fun h=>by omega,fun h=>by omega,fun _ _=>by simp⟩
 rw[if_neg h15]at h
 by_cases h16:o.Code=16
 ·rw[if_pos h16]at h
  by_cases h0:l=[]
  ·rw[if_pos h0]at h;cases h
  rw[if_neg h0]at h
  exact⟨fun _=>h0,_,h,fun h=>by omega,fun h=>by simp,fun _ h=>by omega⟩
 rw[if_neg h16]at h
 exact⟨fun h=>by omega,_,h,fun h=>by omega,fun h=>by omega,fun _ _=>rfl⟩
structure OkS (s:St):Prop where
 ws:WS s.st
 c:0≤s.c∧s.c≤500
def aSa (m:List Int)(h a:Int)(x:Int×St):LR ((List Int)×Int×Int×Int×(List (List Int))×(List aO)) ((List (List Int))×Int×Int):=
 if x.1=0 then .brk (m,h,a,x.2.c,x.2.st,x.2.br)else .ret ([],0,x.1)
section
variable {N:Nat}(hN:70000≤N){m:List Int}(hm:m.length=32)(hb:Byt m)
include hN hm hb
theorem aIB {h a:Int}{o:aX}{r:List aX}(ho:VOp o){s:St}(hs:OkS s){l q:List Bool}(hl:s.br.length=l.length)(hn:oW (o::r) l=some q)(hbr:s.br.length≤1000):
  ∃s',i0 N m h a s.st s.br s.c o.Code o.Data o.M o.N=some ((tC N m h a o s).1,m,h,a,s'.st,s'.br,s'.c)∧((tC N m h a o s).1=0→s'=(tC N m h a o s).2∧OkS s'∧s.c≤s'.c∧s'.br.length≤s.br.length+1∧ ∃l',s'.br.length=l'.length∧oW r l'=some q):=by
 obtain⟨n1,l',n2,n3,n4,n5⟩:=aLb hn
 obtain⟨s',h1,h2⟩:=aSF hN hm hb (h:=h) (a:=a) ho hs.ws hbr hs.c (fun h e=>n1 h (pM.2 (by rw[←hl,e];rfl)))
 refine⟨s',h1,fun he=> ?_⟩
 obtain⟨e,g1,g2,g3,g4,g5,g6⟩:=h2 he
 have hc:=hs.c
 refine⟨e,⟨g1,by omega,g3⟩,g2, ?_,l', ?_,n2⟩
 ·by_cases h14:o.Code=14
  ·rw[g4 h14];omega
  by_cases h16:o.Code=16
  ·rw[g5 h16];omega
  rw[g6 h14 h16];omega
 by_cases h14:o.Code=14
 ·rw[g4 h14,n3 h14,hl]
 by_cases h16:o.Code=16
 ·rw[g5 h16,n4 h16,hl]
 rw[g6 h14 h16,n5 h14 h16,hl]
theorem aN8 {h a:Int}: ∀(r:List aX)(s:St)(l q:List Bool),(∀o∈r,VOp o)→OkS s→s.br.length=l.length→oW r l=some q→s.br.length+r.length≤1000→(mJ N m h a r s).1=0→OkS (mJ N m h a r s).2∧s.c≤(mJ N m h a r s).2.c∧(mJ N m h a r s).2.br.length=q.length
 | [],s,l,q,_,hs,hl,hn,_,_=>by
  injection hn with hn
  exact⟨hs,Int.le_refl _,hn▸hl⟩
 |o::r,s,l,q,hv,hs,hl,hn,hlen,he=>by
  simp only[aXu]at hlen
  obtain⟨s',h1,h2⟩:=aIB hN hm hb (h:=h) (a:=a) (hv o (by simp)) hs hl hn (by omega)
  simp only[mJ]at he⊢
  by_cases h0:(tC N m h a o s).1=0
  ·simp only[if_pos h0]at he⊢
   obtain⟨e,g1,g2,g3,l',g4,g5⟩:=h2 h0
   rw[←e]at he⊢
   obtain⟨k1,k2,k3⟩:=aN8 r s' l' q (fun o ho=>hv o (by simp[ho])) g1 g4 g5 (by omega) he
   exact⟨k1,by omega,k3⟩
  rw[if_neg h0]at he
  exact absurd he h0
theorem aMy {h a:Int}(ops:List aX)(e:Int)(hv: ∀o∈ops,VOp o)(ho:ops.length≤600): ∀(f j:Nat)(s:St)(l q:List Bool),ops.length-j<f→j≤ops.length→OkS s→s.br.length=l.length→oW (ops.drop j) l=some q→s.br.length≤j→
  nL N (ops,e) f (j:Int) m h a s.c s.st s.br=some (aSa m h a (mJ N m h a (ops.drop j) s))
 |0,j,s,l,q,hf,_,_,_,_,_=>by omega
 |f+1,j,s,l,q,hf,hj,hs,hl,hn,hbr=>by
  rw[nL]
  by_cases hlt:j<ops.length
  ·rw[aXl hlt]at hn⊢
   obtain⟨s',h1,h2⟩:=aIB hN hm hb (h:=h) (a:=a) (hv _ (aXr hlt)) hs hl hn (by omega)
   rw[dT hlt,if_pos rfl,bZ ops hlt]
   simp only[aXj,h1,mJ]
   by_cases h0:(tC N m h a ops[j] s).1=0
   ·obtain⟨e',g1,g2,g3,l',g4,g5⟩:=h2 h0
    rw[h0,if_pos rfl,←e',show((0:Int) != 0)=false from rfl,i1 (by omega)]
    exact aMy ops e hv ho f (j+1) s' l' q (by omega) (by omega) g1 g4 g5 (by omega)
   rw[if_neg h0,show((tC N m h a ops[j] s).1 != 0)=true by simpa using h0]
   simp only[if_true,aSa,if_neg h0]
  rw[dF hlt,aXo (by omega)];rfl
end
section
variable {N:Nat}(hN:70000≤N)
include hN
theorem aKV {st:List (List Int)}(hl:st.length≤1000)(h: ∀x∈st,x.length≤520):sA N st=some st:=by
 have lp: ∀(f j:Nat)(acc:List (List Int)),st.length-j<f→j≤st.length→acc.length≤j→lE N st f (j:Int) acc=some (acc++st.drop j):=by
  intro f
  induction f with
  |zero=>intro j acc hf;omega
  |succ f ih=>
   intro j acc hf hj ha
   rw[lE]
   by_cases hlt:j<st.length
   ·have hx:=h _ (aXr hlt)
    rw[dT hlt,if_pos rfl,bZ st hlt]
    simp only[aXj]
    rw[aU1 hN [st[j]] (by simp) (by simp;omega)]
    simp only[aXj,List.flatten_cons,List.flatten_nil,aXI]
    rw[aBD (by simp;omega)]
    simp only[aXj,i1 (show j≤100000 by omega)]
    rw[ih (j+1) _ (by omega) (by omega) (by simp;omega),aXl hlt,List.append_assoc]
    rfl
   rw[dF hlt,aXo (by omega),aXI];rfl
 have:=lp N 0 [] (by omega) (by omega) (by simp)
 rw[show((0:Nat):Int)=0 from rfl]at this
 simp only[sA,this,aXj,u4,List.nil_append,aXp]
def aAj (st:List (List Int)):Bool:= !decide (64<st.length)&&st.all fun x=> !decide (520<(x.length:Int))
theorem aOC (st:List (List Int)):uN N st=some (aAj st):=by
 unfold uN aAj
 by_cases hl:64<st.length
 ·rw[show decide ((64:Int)<((st.length:Nat):Int))=true from decide_eq_true (by omega),decide_eq_true hl];rfl
 have:=jU (f:=iX N st) (xs:=st) (p:=fun x=> !decide (520<(x.length:Int))) (r:=false) (fun m j hj=>by
  rw[iX,dT hj,if_pos rfl,bZ st hj]
  simp only[aXj,i1 (show j≤100000 by omega)]
  cases decide (520<((st[j].length:Nat):Int))<;>rfl) (fun m j hj=>by rw[iX,dF (by omega)];rfl) N 0 (by omega) (by omega)
 rw[show((0:Nat):Int)=0 from rfl,aXp]at this
 rw[show decide ((64:Int)<((st.length:Nat):Int))=false from decide_eq_false (by omega),decide_eq_false hl,this]
 cases st.all fun x=> !decide (520<(x.length:Int))<;>rfl
end
theorem aG1 {st:List (List Int)}(hb: ∀x∈st,Byt x):aAj st=true↔WS st:=by
 unfold aAj
 constructor
 ·intro h
  simp only[aXF,aXP,aXO,decide_eq_false_iff_not]at h
  exact⟨by omega,fun x hx=>⟨hb x hx,by have:=h.2 x hx;omega⟩⟩
 intro h
 simp only[aXF,aXP,aXO,decide_eq_false_iff_not]
 exact⟨by have:=h.len;omega,fun x hx=>by have:=(h.it x hx).2;omega⟩
def aA0 (N:Nat)(b:List Int)(st:List (List Int))(m:List Int)(h a:Int):List (List Int)×Int×Int:=
 if(cM b).2≠0 then([],0,(cM b).2)else if zS (cM b).1=false then([],0,86)else if aAj st=false then([],0,4)
 else if(mJ N m h a (cM b).1 ⟨st,[],0⟩).1=0 then((mJ N m h a (cM b).1 ⟨st,[],0⟩).2.st,(mJ N m h a (cM b).1 ⟨st,[],0⟩).2.c,0)else([],0,(mJ N m h a (cM b).1 ⟨st,[],0⟩).1)
theorem aIv {l:List aX}:zS l=true↔oW l []=some []:=by
 unfold zS
 cases oW l [] with
 |none=>simp
 |some q=>cases q<;>simp;omega
section
variable {N:Nat}(hN:70000≤N){m:List Int}(hm:m.length=32)(hb:Byt m)
include hN hm hb
theorem aOi {b:List Int}(hbb:Byt b){st:List (List Int)}(h a:Int)(hp:(cM b).2=0)(hn:zS (cM b).1=true)(hw:WS st)(he:(mJ N m h a (cM b).1 ⟨st,[],0⟩).1=0):OkS (mJ N m h a (cM b).1 ⟨st,[],0⟩).2∧(mJ N m h a (cM b).1 ⟨st,[],0⟩).2.br=[]:=by
 obtain⟨p1,p2,_⟩:=aEN hbb hp
 obtain⟨g1,_,g3⟩:=aN8 hN hm hb (h:=h) (a:=a) (cM b).1 ⟨st,[],0⟩ [] [] p1 ⟨hw,by simp⟩ rfl (aIv.1 hn) (by simp;omega) he
 exact⟨g1,pM.2 g3⟩
theorem aQr {b:List Int}(hbb:Byt b){st:List (List Int)}(hst: ∀x∈st,Byt x)(h a:Int):aBJ N b st m h a=some (aA0 N b st m h a):=by
 unfold aBJ aA0
 rw[aQM hN hbb]
 simp only[aXj]
 by_cases hp:(cM b).2=0
 ·obtain⟨p1,p2,_⟩:=aEN hbb hp
  rw[if_neg (by simpa using hp),hp,aQh hN (by omega),aOC hN]
  simp only[aXj,show((0:Int) != 0)=false from rfl,aXk,if_false]
  cases hn:zS (cM b).1 with
  |false=>rfl
  |true=>
   cases hB:aAj st with
   |false=>rfl
   |true=>
    have hw:=(aG1 hst).1 hB
    have hl:=hw.len
    have lp:=aMy hN hm hb (h:=h) (a:=a) (cM b).1 (cM b).2 p1 (by omega) N 0 ⟨st,[],0⟩ [] [] (by omega) (by omega) ⟨hw,by simp⟩ rfl (aIv.1 hn) (by simp)
    rw[show((0:Nat):Int)=0 from rfl,aXp]at lp
    simp only[aXs,aXk,aXv,if_false,aKV hN (show st.length≤1000 by omega) (fun x hx=>(hw.it x hx).2),aXj]
    rw[show(nL N (cM b) N 0 m h a 0 st [])=_ from lp]
    simp only[aXj,aSa]
    by_cases he:(mJ N m h a (cM b).1 ⟨st,[],0⟩).1=0
    ·obtain⟨g1,_⟩:=aOi hN hm hb hbb h a hp hn hw he
     have gl:=g1.ws.len
     rw[if_pos he,if_pos he]
     simp only[aAO,aKV hN (show(mJ N m h a (cM b).1 ⟨st,[],0⟩).2.st.length≤1000 by omega) (fun x hx=>(g1.ws.it x hx).2),aXj]
     rfl
    rw[if_neg he,if_neg he];rfl
 rw[if_pos hp,show((cM b).2 != 0)=true by simpa using hp];rfl
end
def aRA (r:List (List Int)×Int×Int):Int:=if r.2.2≠0 then r.2.2 else if r.1.length≠1 then 81 else if sJ (r.1.getD 0 [])then 0 else 84
section
variable {N:Nat}(hN:70000≤N){m:List Int}(hm:m.length=32)(hb:Byt m)
include hN hm hb
theorem aT9 {b:List Int}(hbb:Byt b){st:List (List Int)}(hst: ∀x∈st,Byt x){h a:Int}(h0:(aA0 N b st m h a).2.2=0):(cM b).2=0∧zS (cM b).1=true∧WS st∧(mJ N m h a (cM b).1 ⟨st,[],0⟩).1=0∧OkS (mJ N m h a (cM b).1 ⟨st,[],0⟩).2∧(mJ N m h a (cM b).1 ⟨st,[],0⟩).2.br=[]∧aA0 N b st m h a=((mJ N m h a (cM b).1 ⟨st,[],0⟩).2.st,(mJ N m h a (cM b).1 ⟨st,[],0⟩).2.c,0):=by
 unfold aA0 at h0⊢
 by_cases hp:(cM b).2≠0
 ·rw[if_pos hp]at h0;exact absurd h0 hp
 simp only[if_neg hp]at h0⊢
 by_cases hn:zS (cM b).1=false
 ·rw[if_pos hn]at h0;cases h0
 simp only[if_neg hn]at h0⊢
 by_cases hB:aAj st=false
 ·rw[if_pos hB]at h0;cases h0
 simp only[if_neg hB]at h0⊢
 by_cases he:(mJ N m h a (cM b).1 ⟨st,[],0⟩).1=0
 ·have hn':zS (cM b).1=true:=by simpa using hn
  have hw:=(aG1 hst).1 (by simpa using hB)
  have hp':(cM b).2=0:=by simpa using hp
  obtain⟨g1,g2⟩:=aOi hN hm hb hbb h a hp' hn' hw he
  rw[if_pos he]
  exact⟨hp',hn',hw,he,g1,g2,rfl⟩
 rw[if_neg he]at h0;exact absurd h0 he
theorem aQc {b:List Int}(hbb:Byt b){st:List (List Int)}(hst: ∀x∈st,Byt x)(h a:Int):n7 N b st m h a=some (aRA (aA0 N b st m h a)):=by
 unfold n7 aRA
 rw[aQr hN hm hb hbb hst]
 simp only[aXj]
 by_cases h0:(aA0 N b st m h a).2.2=0
 ·obtain⟨_,_,_,_,g,_,e⟩:=aT9 hN hm hb hbb hst h0
  rw[if_neg (show¬(aA0 N b st m h a).2.2≠0 from fun h=>h h0),show((aA0 N b st m h a).2.2 != 0)=false by simpa using h0]
  simp only[aXk,if_false]
  have hw: ∀x∈(aA0 N b st m h a).1,x.length≤520:=fun x hx=>by rw[e]at hx;exact(g.ws.it x hx).2
  generalize (aA0 N b st m h a).1=l at hw⊢
  match l with
  | []=>rfl
  | [x]=>
   have hx:=hw x (by simp)
   simp only[aFZ,aXj,aCA hN (show x.length≤60000 by omega)]
   show(if(!sJ x)=true then some 84 else some 0)=some (if sJ x=true then 0 else 84)
   cases sJ x<;>rfl
  |x::y::r=>
   have e1:((((x::y::r).length:Nat):Int) != 1)=true:=by simp;omega
   have e2:(x::y::r).length≠1:=by simp
   rw[e1,if_pos e2];rfl
 rw[if_pos h0,show((aA0 N b st m h a).2.2 != 0)=true by simpa using h0];rfl
end
theorem aOl (N:Nat)(b:List Int): ∀(m:Nat)(x:Int),pX N b m x=g8 N b m x
 |0,_=>rfl
 |m+1,x=>by simp only[pX,g8,aOl N b m]
theorem aIA (N:Nat)(b:List Int):qE N b=kZ N b:=by
 unfold qE kZ
 rw[aOl]
 rfl
theorem aPH (N:Nat)(b:List Int): ∀(m:Nat)(v x:Int),mN N b m v x=iL N b m v x
 |0,_,_=>rfl
 |m+1,v,x=>by simp only[mN,iL,aPH N b m]
theorem aUP (N:Nat)(b:List Int)(t:Bool):l9 N b t=gG N b t:=by
 unfold l9 gG
 rw[aPH]
 rfl
theorem aSE (N:Nat)(b:List Int):yA N b=k8 N b:=by
 unfold yA k8
 simp only[aUP]
theorem aJz (N:Nat)(b:List Int)(now:Int):uY N b now=nG N b now:=by
 unfold uY nG
 rw[aSE]
theorem aOf (N:Nat): ∀(m n:Nat)(acc:List Int),n<4294967296→pQ N m (n:Int) acc=fF N m (n:Int) acc
 |0,_,_,_=>rfl
 |m+1,n,acc,hn=>by
  have h1:shr .u32 (n:Int) 8=some ((n/256:Nat):Int):=by
   rw[show(8:Int)=((8:Nat):Int)from rfl,aBc (k:= .u32) _ _ (show n<2^32 by omega)]
  have h2:IntKind.u32.wrap (Int.tdiv (n:Int) 256)=((n/256:Nat):Int):=by
   rw[show(256:Int)=((256:Nat):Int)from rfl,tJ,aXQ]
   omega
  simp only[pQ,fF,h1,h2,aXj,aOf N m (n/256) _ (show n/256<4294967296 by omega)]
theorem aH5 (N:Nat){n:Nat}(hn:n<4294967296):vG N (n:Int)=iQ N (n:Int):=by
 unfold vG iQ
 rw[aOf N N n [] hn]
 rfl
theorem aPI (N:Nat)(v:Bool):oN N v=lV N v:=by
 unfold oN lV
 rw[show(1:Int)=((1:Nat):Int)from rfl,show(0:Int)=((0:Nat):Int)from rfl,aH5 N (by omega),aH5 N (by omega)]
section
variable {N:Nat}(hN:70000≤N)
theorem aPg (N:Nat){st:List (List Int)}(hl:st.length≤1000)(x:List Int):o4 N st x=some (if 64≤st.length then([],4)else(st++[x],0)):=by
 unfold o4
 by_cases h:64≤st.length
 ·rw[if_pos (decide_eq_true (show(64:Int)≤(st.length:Int) by omega)),if_pos h]
 have e:sub st 0 (st.length:Int)=some st:=by
  unfold sub;rw[if_pos ⟨by omega,by omega,by omega⟩];simp
 rw[if_neg (show¬decide ((64:Int)≤(st.length:Int))=true by simp;omega),if_neg h,e,aXj,aBD (by simp;omega),aXj]
include hN
theorem aQ1 (st:List (List Int)):aCe N st=some (!aAj st):=by
 unfold aCe aAj
 by_cases hl:64<st.length
 ·rw[if_pos (decide_eq_true (show(64:Int)<(st.length:Int) by omega)),decide_eq_true hl];rfl
 rw[if_neg (show¬decide ((64:Int)<(st.length:Int))=true by simp;omega),decide_eq_false hl]
 have:=jU (f:=nK N st) (xs:=st) (p:=fun x=> !decide (520<(x.length:Int))) (r:=true) (fun m j hj=>by
  rw[nK,dT hj,if_pos rfl,bZ st hj,aXj,i1 (show j≤100000 by omega)]
  cases decide (520<((st[j].length:Nat):Int))<;>rfl) (fun m j hj=>by rw[nK,dF (by omega)];rfl) N 0 (by omega) (by omega)
 rw[show((0:Nat):Int)=0 from rfl,aXp]at this
 rw[this,aXj]
 cases st.all fun x=> !decide (520<(x.length:Int))<;>rfl
theorem aOT {l:List (List Int)}(hn:l.length≤64)(hx: ∀x∈l,x.length≤520):xJ N l=some l:=by
 have key: ∀(f j:Nat)(acc:List (List Int)),l.length-j<f→j≤l.length→acc.length=j→kQ N l f (j:Int) acc=some (acc++l.drop j):=by
  intro f
  induction f with
  |zero=>intro j acc hf _ _;omega
  |succ f ih=>
   intro j acc hf hj ha
   rw[kQ]
   by_cases h:j<l.length
   ·have hj':=hx _ (aXr h)
    rw[dT h,if_pos rfl,bZ l h,aXj,aLO hN _ (by simp) (by simp;omega),aXj,aBD (by simp;omega),aXj,i1 (by omega),ih (j+1) _ (by omega) (by omega) (by simp[ha]),aXl h]
    simp
   rw[dF h,aXo (by omega),aXI]
   rfl
 have hk:=key N 0 [] (by omega) (by omega) rfl
 unfold xJ
 rw[aFm (by have:=jO;omega),aXj,show kQ N l N 0 []=_ from hk,aXj]
 rfl
end
theorem aNJ (N:Nat){d:List Int}(hl:d.length≤255):oX N 1 d 0 0=some 0:=by
 have h255:decide ((255:Int)<(d.length:Int))=false:=decide_eq_false (by omega)
 unfold oX n6 oG iO iT
 rw[h255]
 cases decide ((0:Int)<(d.length:Int))<;>rfl
theorem aNE (N:Nat){x:Int}(h:1≤x∧x≤17)(h11:x≠11):oX N x [] 0 0=some 0:=by
 unfold oX n6 oG iO iT
 rw[decide_eq_false (show¬x<1 by omega),decide_eq_false (show¬17<x by omega),show(x == 11)=false by simpa using h11]
 rfl
theorem aMB (N:Nat)(m n:Int):oX N 11 [] m n=some (if yH m n=true then 0 else 5):=by
 have hJ:iO N 11 [] m n false=some (if yH m n=true then 0 else 5):=by
  unfold iO iT yH
  by_cases h1:n<1
  ·rw[decide_eq_true h1,decide_eq_false (show¬1≤n by omega)];rfl
  rw[decide_eq_false h1,decide_eq_true (show 1≤n by omega)]
  by_cases h2:15<n
  ·rw[decide_eq_true h2,decide_eq_false (show¬n≤15 by omega)];rfl
  rw[decide_eq_false h2,decide_eq_true (show n≤15 by omega)]
  by_cases h3:m<1
  ·rw[decide_eq_true h3,decide_eq_false (show¬1≤m by omega)];rfl
  rw[decide_eq_false h3,decide_eq_true (show 1≤m by omega)]
  by_cases h4:n<m
  ·rw[decide_eq_true h4,decide_eq_false (show¬m≤n by omega)];rfl
  rw[decide_eq_false h4,decide_eq_true (show m≤n by omega)];rfl
 unfold oX n6 oG
 rw[show((11:Int) != 11)=false from rfl,hJ]
 cases m != 0<;>cases n != 0<;>rfl
theorem aT1 {N:Nat}(hN:70000≤N){x:Int}{r:List Int}(hb:Byt (x::r))(hl:r.length≤100000):
  ∃y,aC2 N (x::r)=some y∧y.2.2.2.2.2=(eZ x r).2.2∧((eZ x r).2.2=0→y=((eZ x r).1.Code,(eZ x r).1.Data,(eZ x r).1.M,(eZ x r).1.N,(eZ x r).2.1,0)):=by
 have hx:=hb x (by simp)
 have wx:aXm.wrap x=x:=cN (by omega) (by omega)
 unfold aC2 eZ
 rw[aFZ,aXj,wx]
 by_cases h0:x<1∨17<x
 ·rw[if_pos h0]
  refine⟨(0,[],0,0,[],80), ?_,rfl,fun h=>by cases h⟩
  rcases h0 with h|h
  ·rw[decide_eq_true h];rfl
  rw[decide_eq_false (show¬x<1 by omega),decide_eq_true h];rfl
 rw[if_neg h0,decide_eq_false (show¬x<1 by omega),decide_eq_false (show¬17<x by omega)]
 rw[if_neg (show¬(false=true) by decide)]
 unfold xW
 rw[if_neg (show¬(false=true) by decide),aUY,aXj,wx]
 by_cases h1:x=1
 ·subst h1
  rw[if_pos (show((1:Int) == 1)=true from rfl),if_pos rfl]
  match r,hb,hl with
  | [],_,_=>exact⟨(0,[],0,0,[],1),rfl,rfl,fun h=>by cases h⟩
  |n::r',hb,hl=>
   have hn:=hb n (by simp)
   have wn:aXm.wrap n=n:=cN (by omega) (by omega)
   have hl':r'.length≤100000:=by simp at hl;omega
   rw[if_neg (show¬((((n::r').length:Nat):Int) == 0)=true by simp;omega),aFZ,aXj,wn,show(((n::r').length:Nat):Int)-1=(r'.length:Int) by simp,cN (a:=(r'.length:Int)) (by omega) (by omega)]
   dsimp only
   unfold yQ
   by_cases h2:(r'.length:Int)<n
   ·rw[decide_eq_true h2,if_pos rfl,if_pos h2]
    exact⟨(0,[],0,0,[],1),rfl,rfl,fun h=>by cases h⟩
   rw[decide_eq_false h2,if_neg (show¬(false=true) by decide),if_neg h2,aFZ,aXj,wn,cN (a:=1+n) (by omega) (by omega)]
   have e1:sub (n::r') 1 (1+n)=some (r'.take n.toNat):=by
    unfold sub
    rw[if_pos ⟨by omega,by omega,by rw[aXu];omega⟩,show(1+n).toNat=n.toNat+1 by omega]
    rfl
   have e2:sub (n::r') (1+n) (((n::r').length:Nat):Int)=some (r'.drop n.toNat):=by
    unfold sub
    rw[if_pos ⟨by omega,by rw[aXu];omega,by omega⟩,aXn,aXq (aXE _),show(1+n).toNat=n.toNat+1 by omega]
    rfl
   have hlt:(r'.take n.toNat).length≤255:=by rw[aXG];omega
   rw[e1,aXj,aLO hN _ (by simp) (by simp;omega),aXj,e2,aXj]
   unfold o5
   rw[show aXm.wrap 1=1 by decide +kernel,show[r'.take n.toNat].flatten=r'.take n.toNat by simp,aNJ N hlt,aXj]
   exact⟨_,rfl,rfl,fun _=>rfl⟩
 rw[if_neg (show¬(x == 1)=true by simpa using h1),if_neg h1]
 by_cases h2:x=11
 ·subst h2
  rw[if_pos (show((11:Int) == 11)=true from rfl),if_pos rfl]
  match r,hb,hl with
  | [],_,_=>exact⟨(0,[],0,0,[],1),rfl,rfl,fun h=>by cases h⟩
  | [_],_,_=>exact⟨(0,[],0,0,[],1),rfl,rfl,fun h=>by cases h⟩
  |m::n::r',hb,hl=>
   have hm:=hb m (by simp)
   have hn:=hb n (by simp)
   rw[if_neg (show¬decide ((((m::n::r').length:Nat):Int)<2)=true by simp;omega),aFZ,aXj,aU6,aXj,aU5,aXj,cN (a:=m) (by omega) (by omega),cN (a:=n) (by omega) (by omega)]
   dsimp only
   unfold o5
   rw[show aXm.wrap 11=11 by decide +kernel,aMB,aXj]
   by_cases h3:yH m n=true
   ·rw[if_pos h3,if_pos h3]
    exact⟨_,rfl,rfl,fun _=>rfl⟩
   rw[if_neg h3,if_neg h3]
   exact⟨_,rfl,rfl,fun h=>by cases h⟩
 rw[if_neg (show¬(x == 11)=true by simpa using h2),if_neg h2]
 unfold o5
 rw[wx,aNE N (by omega) h2,aXj]
 exact⟨_,rfl,rfl,fun _=>rfl⟩
theorem aHR {N:Nat}(hN:70000≤N): ∀(m:Nat)(b:List Int)(acc:List aX),b.length<m→Byt b→b.length≤100000→acc.length+b.length≤200000→oD N m b acc=some (kH m b acc)
 |0,b,acc,hm,_,_,_=>by omega
 |m+1,[],acc,_,_,_,_=>rfl
 |m+1,x::r,acc,hm,hb,hl,ha=>by
  simp only[aXu]at hm hl ha
  obtain⟨y,h1,h2,h3⟩:=aT1 hN hb (by omega)
  rw[oD,if_pos (decide_eq_true (show(0:Int)<(((x::r).length:Nat):Int) by rw[aXu];omega)),h1,aXj,h2,kH]
  by_cases he:(eZ x r).2.2=0
  ·obtain⟨g1,g2,g3,_⟩:=aFW hb he
   have hy:=h3 he
   subst hy
   rw[if_pos he,he,if_neg (show¬((0:Int) != 0)=true by decide)]
   have hlim:=jO
   rw[aBk (by simp;omega),aXj]
   dsimp only
   exact aHR hN m _ _ (by omega) g2 (by omega) (by simp;omega)
  rw[if_neg he,if_pos (show((eZ x r).2.2 != 0)=true by simpa using he)]
theorem aQz {N:Nat}(hN:70000≤N){b:List Int}(hb:Byt b):aAy N b=some (cM b):=by
 unfold aAy cM
 by_cases h:520<b.length
 ·rw[if_pos (decide_eq_true (show(520:Int)<(b.length:Int) by omega)),if_pos h]
 rw[if_neg (show¬decide ((520:Int)<(b.length:Int))=true by simp;omega),if_neg h,aHR hN N b [] (by omega) hb (by omega) (by simp;omega),aXj,aCQ N (b.length+1) b [] hb (by omega) (by omega)]
 cases kH (b.length+1) b []<;>rfl
theorem aPC (N:Nat){o:aX}(ho:VOp o):aCL N o.Code o.Data o.M o.N=some (pC o):=by
 rw[←aMg N ho]
 rfl
theorem aP3 (N:Nat){o:aX}(ho:VOp o)(hc:1≤o.Code∧o.Code≤17):aAq N o.Code o.Data o.M o.N=some (nU o):=by
 unfold aAq fW qW nU
 by_cases h11:o.Code=11
 ·have:=ho.multi h11
  simp only[h11]
  rw[cN (a:=2*o.N) (by omega) (by omega)]
  simp
 obtain⟨c,hcc⟩: ∃c,c=o.Code:=⟨_,rfl⟩
 rw[←hcc]at hc h11⊢
 rcases(show c=1∨c=2∨c=3∨c=4∨c=5∨c=6∨c=7∨c=8∨c=9∨c=10∨c=12∨c=13∨c=14∨c=15∨c=16∨c=17 by omega)with h|h|h|h|h|h|h|h|h|h|h|h|h|h|h|h<;>subst h<;>simp
theorem aIH (N:Nat)(l:List aX)(hl:l.length≤1000): ∀(f j:Nat)(op:List Bool),l.length-j<f→j≤l.length→op.length≤j→eP N l f (j:Int) op=some (aSz (oW (l.drop j) op))
 |0,j,op,hf,_,_=>by omega
 |f+1,j,op,hf,hj,ho=>by
  rw[eP]
  by_cases h:j<l.length
  ·rw[dT h,if_pos rfl,bZ l h,aXl h]
   simp only[aXj,oW,mV,sW,i1 (show j≤100000 by omega)]
   have ih:=fun op' (ho':op'.length≤j+1)=>aIH N l hl f (j+1) op' (by omega) (by omega) ho'
   by_cases h14:l[j].Code=14
   ·have:=jO
    rw[if_pos h14,h14,aBk (by simp;omega)]
    exact ih _ (by simp;omega)
   rw[if_neg h14,kN h14]
   by_cases h15:l[j].Code=15
   ·rw[if_pos h15,h15]
    by_cases h0:op=[]
    ·rw[if_pos h0,h0];rfl
    have h0':1≤op.length:=by have:=mt pM.2 h0;omega
    rw[if_neg h0,aB5 h0' (by omega),show((op.length:Int) == 0)=false from kN (by omega),bZ op (show op.length-1<op.length by omega),show op.getD (op.length-1) true=op[op.length-1] by simp[show op.length-1<op.length by omega]]
    cases hh:op[op.length-1]
    ·simp only[aXk,if_false,aXj,aXn,show((15:Int) == 14)=false from rfl,show((15:Int) == 15)=true from rfl,if_true]
     exact ih _ (by simp;omega)
    rfl
   rw[if_neg h15,kN h15]
   by_cases h16:l[j].Code=16
   ·rw[if_pos h16,h16]
    by_cases h0:op=[]
    ·rw[if_pos h0,h0];rfl
    have h0':1≤op.length:=by have:=mt pM.2 h0;omega
    have e:sub op 0 ((op.length-1:Nat):Int)=some (op.take (op.length-1)):=by
     unfold sub;rw[if_pos ⟨by omega,by omega,by omega⟩];simp
    rw[if_neg h0,aB5 h0' (by omega),show((op.length:Int) == 0)=false from kN (by omega),e]
    exact ih _ (by simp;omega)
   rw[if_neg h16,kN h16]
   exact ih _ (by omega)
  rw[dF h,aXo (by omega)];rfl
theorem aPp {N:Nat}(hN:70000≤N){l:List aX}(hl:l.length≤1000):y6 N l=some (zS l):=by
 have:=aIH N l hl N 0 [] (by omega) (by omega) (by simp)
 rw[show((0:Nat):Int)=0 from rfl,aXp]at this
 unfold y6 zS
 rw[this,aXj]
 cases oW l []<;>rfl
section
variable {N:Nat}(hN:70000≤N){m:List Int}(hm:m.length=32)(hb:Byt m)
include hN hm hb
theorem aK9 {key sig:List Int}(hk:Byt key)(hs:Byt sig):rU N sig key m=some (decide (0<sig.length)&&decide (vJ N m key sig=0),vJ N m key sig):=by
 rw[aU8 hN hm hb hk hs]
 exact aPu hN hm hb hk hs
theorem aFa (c:Int)(d:List Int)(M:Int)(n:Nat)(hn:n≤100)(ks ss:List (List Int))(hk:ks.length=n)(hs:ss.length=n)(bk: ∀x∈ks,Byt x)(bs: ∀x∈ss,Byt x): ∀(f j cnt:Nat),n-j<f→j≤n→cnt≤j→
  kE N c d M (n:Int) (ss++ks) m f (cnt:Int) (j:Int)=some (if(rI N m (ks.drop j) (ss.drop j) (cnt:Int)).1=0 then .brk (rI N m (ks.drop j) (ss.drop j) (cnt:Int)).2 else .ret (false,(rI N m (ks.drop j) (ss.drop j) (cnt:Int)).1))
 |0,j,cnt,hf,_,_=>by omega
 |f+1,j,cnt,hf,hj,hc=>by
  rw[kE]
  by_cases h:j<n
  ·have h1:j<ks.length:=by omega
   have h2:j<ss.length:=by omega
   have e1:bU (ss++ks) (j:Int)=some ss[j]:=by rw[aFq,List.getElem?_append_left h2,aXt h2]
   have e2:bU (ss++ks) (aXm.wrap ((n:Int)+(j:Int)))=some ks[j]:=by
    rw[show(n:Int)+(j:Int)=((n+j:Nat):Int) by omega,cN (by omega) (by omega),aFq,aXw (by omega),hs,Nat.add_sub_cancel_left,aXt h1]
   have hsg:=aK9 hN hm hb (bk _ (aXr h1)) (bs _ (aXr h2))
   rw[dT h,if_pos rfl,e1,aXj,e2,aXj,dG hm,aXj,hsg,aXj,aXl h1,aXl h2,rI]
   dsimp only
   by_cases hv:vJ N m ks[j] ss[j]=0
   ·rw[hv]
    simp only[show((0:Int) != 0)=false from rfl,aXk,if_false,decide_true,Bool.and_true]
    unfold uB
    rw[i1 (show j≤100000 by omega)]
    by_cases hp:0<ss[j].length
    ·rw[if_pos (decide_eq_true hp),i1 (show cnt≤100000 by omega),if_pos (decide_eq_true (show(0:Int)<(ss[j].length:Int) by omega)),aFa c d M n hn ks ss hk hs bk bs f (j+1) (cnt+1) (by omega) (by omega) (by omega)]
     rfl
    rw[if_neg (show¬decide (0<ss[j].length)=true by simpa using hp),if_neg (show¬decide ((0:Int)<(ss[j].length:Int))=true by rw[decide_eq_true_iff];omega),aFa c d M n hn ks ss hk hs bk bs f (j+1) cnt (by omega) (by omega) (by omega)]
   rw[show(vJ N m ks[j] ss[j] != 0)=true by simpa using hv]
   simp only[if_true]
   rw[if_neg hv]
  rw[dF h,aXo (by omega)]
  simp[rI]
theorem aQB (c:Int)(d:List Int)(M:Int)(n:Nat)(hn:n≤100)(ks ss:List (List Int))(hk:ks.length=n)(hs:ss.length=n)(bk: ∀x∈ks,Byt x)(bs: ∀x∈ss,Byt x):
  aAz N c d M (n:Int) (ss++ks) m=some (if(rI N m ks ss 0).1=0 then(decide (M≤(rI N m ks ss 0).2),0)else(false,(rI N m ks ss 0).1)):=by
 have:=aFa hN hm hb c d M n hn ks ss hk hs bk bs N 0 0 (by omega) (by omega) (by omega)
 rw[show((0:Nat):Int)=0 from rfl,aXp,aXp]at this
 unfold aAz
 rw[this,aXj]
 by_cases h:(rI N m ks ss 0).1=0
 ·rw[if_pos h,if_pos h];rfl
 rw[if_neg h,if_neg h]
end
theorem aIk {α:Type}{st:List α}{k:Nat}(hk:k≤st.length)(hl:st.length≤1000):sub st 0 (aXm.wrap ((st.length:Int)-(k:Int)))=some (st.take (st.length-k)):=by
 rw[show(st.length:Int)-(k:Int)=((st.length-k:Nat):Int) by omega,cN (by omega) (by omega)]
 unfold sub
 rw[if_pos ⟨by omega,by omega,by omega⟩,aXn]
 rfl
theorem aOr {α:Type}{st:List α}(h:2≤st.length): ∃l x y,st=l++[x,y]:=by
 have hd:(st.drop (st.length-2)).length=2:=by rw[aXH];omega
 match hm:st.drop (st.length-2),hd with
 | [x,y],_=>exact⟨st.take (st.length-2),x,y,by rw[←hm,aXJ]⟩
theorem aOj (l:List (List Int))(x y:List Int):fY (l++[x,y]) 1=y∧fY (l++[x,y]) 2=x∧(l++[x,y]).take ((l++[x,y]).length-2)=l∧(l++[x,y]).length=l.length+2:=by
 have hlen:(l++[x,y]).length=l.length+2:=by simp
 refine⟨?_, ?_, ?_,hlen⟩
 ·unfold fY
  rw[hlen,aXx,aXw (by omega),show l.length+2-1-l.length=1 by omega]
  rfl
 ·unfold fY
  rw[hlen,aXx,aXw (by omega),show l.length+2-2-l.length=0 by omega]
  rfl
 rw[hlen,aXN,List.take_left]
theorem aTn {st:List (List Int)}(h:2≤st.length):(st.set (st.length-1) (fY st 2)).set (st.length-2) (fY st 1)=st.take (st.length-2)++[fY st 1,fY st 2]:=by
 obtain⟨l,x,y,rfl⟩:=aOr h
 obtain⟨e1,e2,e3,e4⟩:=aOj l x y
 rw[e1,e2,e3,e4,show l.length+2-1=l.length+1 by omega,aXN,aXK _ _ (by omega),show l.length+1-l.length=1 by omega,aXK _ _ (by omega),Nat.sub_self]
 rfl
theorem aO4 {x:Int}{r:List Int}(he:(eZ x r).2.2=0):1≤(eZ x r).1.Code∧(eZ x r).1.Code≤17:=by
 unfold eZ at he⊢
 by_cases h0:x<1∨17<x
 ·rw[if_pos h0]at he;cases he
 rw[if_neg h0]at he⊢
 by_cases h1:x=1
 ·rw[if_pos h1]at he⊢
  match r with
  | []=>cases he
  |n::r'=>
   by_cases h2:(r'.length:Int)<n
   ·simp only[if_pos h2]at he;cases he
   simp only[if_neg h2];decide
 rw[if_neg h1]at he⊢
 by_cases h2:x=11
 ·rw[if_pos h2]at he⊢
  match r with
  | []=>cases he
  | [_]=>cases he
  |m::n::r'=>
   by_cases h3:yH m n=true
   ·simp only[if_pos h3];decide
   simp only[if_neg h3]at he;cases he
 rw[if_neg h2]
 dsimp only
 omega
def aNs (y:List (List Int)×Int)(z:Int×List (List Int)):Prop:=y.2=z.1∧(z.1=0→y.1=z.2)
theorem aTf (N:Nat)(m:List Int)(l:List (List Int))(x y:List Int):v6 N m (l++[x,y]) 1 1=if vJ N m y x=0 then(0,l++[aCN (decide (0<x.length))])else(vJ N m y x,l++[x,y]):=by
 have e1:(l++[x,y]).drop ((l++[x,y]).length-1)=[y]:=by
  rw[show l++[x,y]=(l++[x])++[y] by simp]
  exact aXR (by simp)
 have e0:(l++[x,y]).take ((l++[x,y]).length-1)=l++[x]:=by
  rw[show l++[x,y]=(l++[x])++[y] by simp]
  exact aXS (by simp)
 have e2:(l++[x]).drop ((l++[x,y]).length-2*1)=[x]:=aXR (by simp)
 have e3:(l++[x,y]).take ((l++[x,y]).length-2*1)=l:=aXS (by simp)
 unfold v6
 rw[e0,e1,e2,e3]
 by_cases hv:vJ N m y x=0
 ·have hs:rI N m [y] [x] 0=(0,if decide ((0:Int)<(x.length:Int))then 0+1 else 0):=by
   rw[rI,hv]
   rfl
  rw[hs,if_pos rfl,if_pos hv]
  dsimp only
  by_cases hp:0<x.length
  ·rw[if_pos (decide_eq_true (show(0:Int)<(x.length:Int) by omega)),decide_eq_true hp];rfl
  rw[if_neg (show¬decide ((0:Int)<(x.length:Int))=true by rw[decide_eq_true_iff];omega),decide_eq_false hp];rfl
 have hs:rI N m [y] [x] 0=(vJ N m y x,0):=by
  rw[rI,if_pos (show(vJ N m y x != 0)=true by simpa using hv)]
 rw[hs,if_neg hv,if_neg hv]
section
variable {N:Nat}(hN:70000≤N){m:List Int}(hm:m.length=32)(hb:Byt m)
include hN hm hb
theorem aRD {h a:Int}{o:aX}(ho:VOp o)(hc:1≤o.Code∧o.Code≤17)(h14:o.Code≠14)(h15:o.Code≠15)(h16:o.Code≠16){st:List (List Int)}(hs:WS st)(hn:nU o≤(st.length:Int)):
  ∃y,aBx N o.Code o.Data o.M o.N st m h a=some y∧aNs y (zA N m h a o st):=by
 have hl:=hs.len
 have hd:=ho.data
 have hpush: ∀x:List Int,∃y,o4 N st x=some y∧aNs y (aCJ st x):=fun x=>by
  refine⟨_,aPg N (by omega) x, ?_⟩
  unfold aCJ aNs
  by_cases h64:64≤st.length
  ·rw[if_pos h64,if_pos h64];exact⟨rfl,fun h=>by cases h⟩
  rw[if_neg h64,if_neg h64];exact⟨rfl,fun _=>rfl⟩
 have hflag: ∀v,oN N v=some (aCN v):=fun v=>by rw[aPI,aHA hN]
 have htrue: ∀x:List Int,x.length≤520→qE N x=some (sJ x):=fun x hx=>by rw[aIA,aCA hN (by omega)]
 have hst: ∀x∈st,Byt x:=fun x hx=>(hs.it x hx).1
 unfold aBx zA
 unfold nU at hn
 by_cases c1:o.Code=1
 ·obtain⟨y,h1,h2⟩:=hpush o.Data
  rw[if_pos c1,if_pos (show(o.Code == 1)=true by simpa using c1),aLO hN _ (by simp) (by simp;omega),aXj,show[o.Data].flatten=o.Data by simp,h1,aXj]
  exact⟨_,rfl,h2⟩
 rw[if_neg c1,if_neg (show¬(o.Code == 1)=true by simpa using c1)]
 have g1:o.Code≠17→1≤st.length:=fun h17=>by
  rw[if_neg (show¬(o.Code=1∨o.Code=15∨o.Code=16∨o.Code=17) by omega)]at hn
  split at hn
  ·omega
  split at hn
  ·rename_i h11
   have:=ho.multi h11
   omega
  omega
 have g2:(o.Code=4∨o.Code=5∨o.Code=10)→2≤st.length:=fun h2=>by
  rw[if_neg (show¬(o.Code=1∨o.Code=15∨o.Code=16∨o.Code=17) by omega),if_pos h2]at hn
  omega
 have i1':o.Code≠17→Byt (fY st 1)∧(fY st 1).length≤520∧bU st (aXm.wrap ((st.length:Int)-1))=some (fY st 1):=fun h17=>t8 hs (k:=1) (by omega) (g1 h17)
 have i2':(o.Code=4∨o.Code=5∨o.Code=10)→Byt (fY st 2)∧(fY st 2).length≤520∧bU st (aXm.wrap ((st.length:Int)-2))=some (fY st 2):=fun h2=>t8 hs (k:=2) (by omega) (g2 h2)
 have t1:o.Code≠17→sub st 0 (aXm.wrap ((st.length:Int)-1))=some (st.take (st.length-1)):=fun h17=>aIk (k:=1) (g1 h17) (by omega)
 have t2:(o.Code=4∨o.Code=5∨o.Code=10)→sub st 0 (aXm.wrap ((st.length:Int)-2))=some (st.take (st.length-2)):=fun h2=>aIk (k:=2) (g2 h2) (by omega)
 by_cases c2:o.Code=2
 ·obtain⟨y,h1,h2⟩:=hpush (fY st 1)
  rw[if_pos c2,if_pos (show(o.Code == 2)=true by simpa using c2),(i1' (by omega)).2.2,aXj,h1,aXj]
  exact⟨_,rfl,h2⟩
 rw[if_neg c2,if_neg (show¬(o.Code == 2)=true by simpa using c2)]
 by_cases c3:o.Code=3
 ·rw[if_pos c3,if_pos (show(o.Code == 3)=true by simpa using c3),t1 (by omega),aXj]
  exact⟨_,rfl,rfl,fun _=>rfl⟩
 rw[if_neg c3,if_neg (show¬(o.Code == 3)=true by simpa using c3)]
 by_cases c4:o.Code=4
 ·rw[if_pos c4,if_pos (show(o.Code == 4)=true by simpa using c4),t2 (.inl c4),aXj,(i1' (by omega)).2.2,aXj,(i2' (.inl c4)).2.2,aXj,aBD (by simp;omega),aXj,aTn (g2 (.inl c4))]
  exact⟨_,rfl,rfl,fun _=>rfl⟩
 rw[if_neg c4,if_neg (show¬(o.Code == 4)=true by simpa using c4)]
 by_cases c5:o.Code=5
 ·rw[if_pos c5,if_pos (show(o.Code == 5)=true by simpa using c5),t2 (.inr (.inl c5)),aXj,(i2' (.inr (.inl c5))).2.2,aXj,(i1' (by omega)).2.2,aXj]
  unfold aDQ
  rw[aXj,hflag,aXj,aBD (by simp;omega),aXj]
  refine⟨_,rfl,rfl,fun _=> ?_⟩
  unfold eqE
  rw[show((sY (fY st 2)).toList == (sY (fY st 1)).toList)=((sY (fY st 1)).toList == (sY (fY st 2)).toList)from Bool.beq_comm]
 rw[if_neg c5,if_neg (show¬(o.Code == 5)=true by simpa using c5)]
 by_cases c6:o.Code=6
 ·rw[if_pos c6,if_pos (show(o.Code == 6)=true by simpa using c6),t1 (by omega),aXj,(i1' (by omega)).2.2,aXj,htrue _ (i1' (by omega)).2.1,aXj,hflag,aXj,aBD (by simp;omega),aXj]
  exact⟨_,rfl,rfl,fun _=>rfl⟩
 rw[if_neg c6,if_neg (show¬(o.Code == 6)=true by simpa using c6)]
 by_cases c7:o.Code=7
 ·rw[if_pos c7,if_pos (show(o.Code == 7)=true by simpa using c7),(i1' (by omega)).2.2,aXj,htrue _ (i1' (by omega)).2.1,aXj]
  cases sJ (fY st 1) with
  |false=>exact⟨_,rfl,rfl,fun h=>by cases h⟩
  |true=>
   rw[if_neg (show¬(!true)=true by decide),t1 (by omega),aXj]
   exact⟨_,rfl,rfl,fun _=>rfl⟩
 rw[if_neg c7,if_neg (show¬(o.Code == 7)=true by simpa using c7)]
 by_cases c8:o.Code=8
 ·rw[if_pos c8,if_pos (show(o.Code == 8)=true by simpa using c8),(i1' (by omega)).2.2,aXj,aDT N hN _ (i1' (by omega)).1 (by have:=(i1' (by omega)).2.1;omega),aXj,dG (fA N _),aXj,t1 (by omega),aXj,aBD (by simp;omega),aXj]
  exact⟨_,rfl,rfl,fun _=>rfl⟩
 rw[if_neg c8,if_neg (show¬(o.Code == 8)=true by simpa using c8)]
 by_cases c9:o.Code=9
 ·have hi:=(i1' (by omega)).2.1
  obtain⟨y,h1,h2⟩:=hpush (aFD N ((fY st 1).length:Nat))
  rw[if_pos c9,if_pos (show(o.Code == 9)=true by simpa using c9),(i1' (by omega)).2.2,aXj,show IntKind.u32.wrap ((fY st 1).length:Int)=((fY st 1).length:Int) by rw[aXQ];omega,aH5 N (by omega),(aKm hN (by omega)).1,aXj,h1,aXj]
  exact⟨_,rfl,h2⟩
 rw[if_neg c9,if_neg (show¬(o.Code == 9)=true by simpa using c9)]
 by_cases c10:o.Code=10
 ·have b1:=(i1' (by omega)).1
  have b2:=(i2' (.inr (.inr c10))).1
  rw[if_pos c10,if_pos (show(o.Code == 10)=true by simpa using c10),(i2' (.inr (.inr c10))).2.2,aXj,(i1' (by omega)).2.2,aXj,dG hm,aXj,aK9 hN hm hb b1 b2,aXj,t2 (.inr (.inr c10)),aXj,hflag,aXj,aBD (by simp;omega),aXj]
  obtain⟨l,x,y,rfl⟩:=aOr (g2 (.inr (.inr c10)))
  obtain⟨e1,e2,e3,e4⟩:=aOj l x y
  rw[e1,e2,e3,aTf]
  by_cases hv:vJ N m y x=0
  ·rw[if_pos hv,hv]
   exact⟨_,rfl,rfl,fun _=>by simp⟩
  rw[if_neg hv]
  exact⟨_,rfl,rfl,fun h=>absurd h hv⟩
 rw[if_neg c10,if_neg (show¬(o.Code == 10)=true by simpa using c10)]
 by_cases c11:o.Code=11
 ·obtain⟨m1,m2,m3⟩:=ho.multi c11
  rw[if_neg (show¬(o.Code=1∨o.Code=15∨o.Code=16∨o.Code=17) by omega),if_neg (show¬(o.Code=4∨o.Code=5∨o.Code=10) by omega),if_pos c11]at hn
  obtain⟨n,hnn⟩: ∃n:Nat,o.N=n:=⟨o.N.toNat,by omega⟩
  rw[hnn]at hn m2 m3⊢
  have hw:aXm.wrap (2*(n:Int))=((2*n:Nat):Int):=by rw[cN (by omega) (by omega)];omega
  have hw2:aXm.wrap ((st.length:Int)-((2*n:Nat):Int))=((st.length-2*n:Nat):Int):=by
   rw[cN (by omega) (by omega)];omega
  have es:sub st ((st.length-2*n:Nat):Int) (st.length:Int)=some (st.drop (st.length-2*n)):=by
   unfold sub
   rw[if_pos ⟨by omega,by omega,by omega⟩,aXn,aXn,aXq (aXE _)]
  have et:sub st 0 ((st.length-2*n:Nat):Int)=some (st.take (st.length-2*n)):=by
   unfold sub
   rw[if_pos ⟨by omega,by omega,by omega⟩,aXn]
   rfl
  have key: ∀k j:Nat,j≤k→k≤st.length→st.drop j=(st.take k).drop j++st.drop k:=by
   intro k j h1 h2
   have:=congrArg (List.drop j) (aXJ k st).symm
   rw[List.drop_append_of_le_length (by rw[aXG];omega)]at this
   exact this
  have ed:=key (st.length-n) (st.length-2*n) (by omega) (by omega)
  have hmu:=aQB hN hm hb o.Code o.Data o.M n (by omega) (st.drop (st.length-n)) ((st.take (st.length-n)).drop (st.length-2*n)) (by rw[aXH];omega) (by rw[aXH,aXG];omega) (fun x hx=>hst x (aXy hx)) (fun x hx=>hst x (aXD (aXy hx)))
  rw[if_pos c11,if_pos (show(o.Code == 11)=true by simpa using c11),hw,hw2,es,aXj,dG hm,aXj,ed,hmu,aXj,et,aXj,hflag,aXj,aBD (by simp;omega),aXj]
  unfold v6
  rw[aXn]
  by_cases hv:(rI N m (st.drop (st.length-n)) ((st.take (st.length-n)).drop (st.length-2*n)) 0).1=0
  ·rw[if_pos hv,if_pos hv]
   exact⟨_,rfl,rfl,fun _=>rfl⟩
  rw[if_neg hv,if_neg hv]
  exact⟨_,rfl,rfl,fun h=>absurd h hv⟩
 rw[if_neg c11,if_neg (show¬(o.Code == 11)=true by simpa using c11)]
 by_cases c12:o.Code=12
 ·rw[if_pos c12,if_pos (show(o.Code == 12)=true by simpa using c12),(i1' (by omega)).2.2,aXj,aJz,aJI hN,aXj]
  exact⟨_,rfl,rfl,fun _=>rfl⟩
 rw[if_neg c12,if_neg (show¬(o.Code == 12)=true by simpa using c12)]
 by_cases c13:o.Code=13
 ·rw[if_pos c13,if_pos (show(o.Code == 13)=true by simpa using c13),(i1' (by omega)).2.2,aXj,aJz,aJI hN,aXj]
  exact⟨_,rfl,rfl,fun _=>rfl⟩
 rw[if_neg c13,if_neg (show¬(o.Code == 13)=true by simpa using c13),if_pos (show o.Code=17 by omega)]
 exact⟨_,rfl,rfl,fun h=>by cases h⟩
end
def uA (br:List aO):List bC:=br.map fun b=>⟨b.outer,b.taken⟩
theorem aD2 (br:List aO):(uA br).length=br.length:=by simp[uA]
theorem aHG {br:List aO}(h:br≠ [])(hl:br.length≤1000):bU (uA br) (aXm.wrap (((uA br).length:Int)-1))=some ⟨(vL br).outer,(vL br).taken⟩:=by
 have h0:1≤br.length:=by have:=mt pM.2 h;omega
 rw[aD2,aB5 h0 (by omega),aFq]
 unfold uA vL
 rw[List.getElem?_map,aXt (show br.length-1<br.length by omega),aXx,aXt (show br.length-1<br.length by omega)]
 rfl
theorem aOQ (N:Nat){br:List aO}(hl:br.length≤1000):xP N (uA br)=some ((vL br).outer&&(vL br).taken):=by
 unfold xP pG
 by_cases h:br=[]
 ·subst h;rfl
 have h0:1≤br.length:=by have:=mt pM.2 h;omega
 rw[if_neg (show¬(((uA br).length:Int) == 0)=true by rw[aD2];simp;intro e;exact h e),aHG h hl,aXj]
 dsimp only
 cases (vL br).outer<;>rfl
theorem aT4 {br:List aO}(i:Nat)(b:aO):(uA br).set i ⟨b.outer,b.taken⟩=uA (br.set i b):=by
 unfold uA
 rw[List.map_set]
theorem aRo {br:List aO}(i:Nat):(uA br).take i=uA (br.take i):=by
 unfold uA
 rw[List.map_take]
theorem aMf {br:List aO}(b:aO):uA br++[⟨b.outer,b.taken⟩]=uA (br++[b]):=by simp[uA]
abbrev aRu :=(List (List Int))→Int→Int→(List bC)→Option (LR ((List (List Int))×Int) ((List (List Int))×Int×Int))
def aCK (rec:aRu)(j:Int)(x:Int×St):Option (LR ((List (List Int))×Int) ((List (List Int))×Int×Int)):=
 if x.1=0 then rec x.2.st x.2.c (aXm.wrap (j+1)) (uA x.2.br)else some (.ret ([],0,x.1))
section
variable {N:Nat}(hN:70000≤N){m:List Int}(hm:m.length=32)(hb:Byt m)
include hN hm hb
theorem aNu {h a:Int}{o:aX}(ho:VOp o)(hc:1≤o.Code∧o.Code≤17){st:List (List Int)}(hs:WS st){br:List aO}(hbr:br.length≤1000)(h15:o.Code=15∨o.Code=16→br≠ [])(k:Bool)(c:Int)(hk:k=true→nU o≤(st.length:Int))(bT:List aX×Int)(j:Int)(rec:aRu):
  uP N m h a bT st j (uA br) o k rec c=aCK rec j (aF5 N m h a o k ⟨st,br,c⟩):=by
 have hl:=hs.len
 unfold uP aF5
 by_cases c14:o.Code=14
 ·rw[if_pos c14,if_pos (show(o.Code == 14)=true by simpa using c14)]
  have happ: ∀x,eD 2 (uA br) [x]=some (uA br++[x]):=fun x=>aBk (by have:=jO;rw[aD2];simp;omega)
  cases k with
  |true=>
   have hn:=hk rfl
   unfold nU at hn
   rw[if_neg (by omega),if_neg (by omega),if_neg (by omega)]at hn
   have q:=t8 hs (k:=1) (by omega) (by omega)
   have q2:bU st (aXm.wrap ((st.length:Int)-1))=some (fY st 1):=q.2.2
   have t1:sub st 0 (aXm.wrap ((st.length:Int)-1))=some (st.take (st.length-1)):=aIk (k:=1) (by omega) (by omega)
   rw[if_pos rfl,q2,aXj,aIA,aCA hN (by have:=q.2.1;omega),aXj,t1,aXj]
   unfold uX iM aCK
   rw[happ,aXj,if_pos rfl,←aMf]
   rfl
  |false=>
   rw[if_neg (show¬(false=true) by decide)]
   unfold uX iM aCK
   rw[happ,aXj,if_pos rfl,←aMf]
   rfl
 rw[if_neg c14,if_neg (show¬(o.Code == 14)=true by simpa using c14)]
 by_cases c15:o.Code=15
 ·have h0:=h15 (.inl c15)
  have h0':1≤br.length:=by have:=mt pM.2 h0;omega
  rw[if_pos c15,if_pos (show(o.Code == 15)=true by simpa using c15),aHG h0 hbr,aXj,aD2,aB5 h0' (by omega),aXn]
  unfold iM aCK
  rw[if_pos rfl,←aT4]
 rw[if_neg c15,if_neg (show¬(o.Code == 15)=true by simpa using c15)]
 by_cases c16:o.Code=16
 ·have h0:=h15 (.inr c16)
  have h0':1≤br.length:=by have:=mt pM.2 h0;omega
  have e:sub (uA br) 0 (aXm.wrap (((uA br).length:Int)-1))=some (uA (br.take (br.length-1))):=by
   rw[aD2,aB5 h0' (by omega),←aRo]
   unfold sub
   rw[if_pos ⟨by omega,by omega,by rw[aD2];omega⟩]
   simp
  rw[if_pos c16,if_pos (show(o.Code == 16)=true by simpa using c16),e,aXj]
  unfold iM aCK
  rw[if_pos rfl]
 rw[if_neg c16,if_neg (show¬(o.Code == 16)=true by simpa using c16)]
 cases k with
 |false=>
  rw[if_neg (show¬(false=true) by decide),if_neg (show¬(false=true) by decide)]
  unfold iM aCK
  rw[if_pos rfl]
 |true=>
  obtain⟨y,h1,h2,h3⟩:=aRD hN hm hb (h:=h) (a:=a) ho hc c14 c15 c16 hs (hk rfl)
  rw[if_pos rfl,if_pos rfl,h1,aXj,h2]
  unfold aCK
  dsimp only
  by_cases he:(zA N m h a o st).1=0
  ·rw[if_pos he,he,if_neg (show¬((0:Int) != 0)=true by decide),h3 he]
   rfl
  rw[if_neg he,if_pos (show((zA N m h a o st).1 != 0)=true by simpa using he)]
end
section
variable {N:Nat}(hN:70000≤N){m:List Int}(hm:m.length=32)(hb:Byt m)
include hN hm hb
theorem aP6 {h a:Int}{o:aX}(ho:VOp o)(hc:1≤o.Code∧o.Code≤17){s:St}(hs:OkS s)(hbr:s.br.length≤1000)(h15:o.Code=15∨o.Code=16→s.br≠ [])(bT:List aX×Int)(j:Int)(rec:aRu):
  uU N m h a bT s.st s.c j (uA s.br) o rec (aEj o s.br)=aCK rec j (tC N m h a o s):=by
 have hp:=aKU ho
 have hcc:=hs.c
 unfold uU tC
 cases aEj o s.br with
 |false=>
  rw[if_neg (show¬(false=true) by decide),if_neg (show¬(false=true) by decide)]
  exact aNu hN hm hb ho hc hs.ws hbr h15 false s.c (fun h=>by cases h) bT j rec
 |true=>
  rw[if_pos rfl,if_pos rfl,aPC N ho,aXj,cN (a:=s.c+pC o) (by omega) (by omega)]
  by_cases h5:500<s.c+pC o
  ·rw[if_pos (decide_eq_true h5),if_pos h5]
   rfl
  rw[if_neg (show¬decide (500<s.c+pC o)=true by simpa using h5),if_neg h5,aP3 N ho hc,aXj]
  by_cases h6:(s.st.length:Int)<nU o
  ·rw[if_pos (decide_eq_true h6),if_pos h6]
   rfl
  rw[if_neg (show¬decide ((s.st.length:Int)<nU o)=true by simpa using h6),if_neg h6]
  exact aNu hN hm hb ho hc hs.ws hbr h15 true (s.c+pC o) (fun _=>by omega) bT j rec
theorem aKP {h a:Int}(ops:List aX)(e:Int)(hv: ∀o∈ops,VOp o∧1≤o.Code∧o.Code≤17)(ho:ops.length≤600): ∀(f j:Nat)(s:St)(l q:List Bool),ops.length-j<f→j≤ops.length→OkS s→s.br.length=l.length→oW (ops.drop j) l=some q→s.br.length≤j→
  dZ N m h a (ops,e) f s.st s.c (j:Int) (uA s.br)=some (if(mJ N m h a (ops.drop j) s).1=0 then .brk ((mJ N m h a (ops.drop j) s).2.st,(mJ N m h a (ops.drop j) s).2.c)else .ret ([],0,(mJ N m h a (ops.drop j) s).1))
 |0,j,s,l,q,hf,_,_,_,_,_=>by omega
 |f+1,j,s,l,q,hf,hj,hs,hl,hn,hbj=>by
  rw[dZ]
  dsimp only
  by_cases h':j<ops.length
  ·have hvo:=hv _ (aXr h')
   rw[aXl h']at hn⊢
   have h15:ops[j].Code=15∨ops[j].Code=16→s.br≠ []:=fun hc=>by
    intro hnil
    exact(aLb hn).1 hc (pM.2 (by rw[←hl,hnil];rfl))
   have ht:=aP6 hN hm hb (h:=h) (a:=a) hvo.1 hvo.2 hs (by omega) h15 (ops,e) (j:Int) (dZ N m h a (ops,e) f)
   rw[dT h',if_pos rfl,bZ ops h',aXj,aOQ N (by omega),aXj]
   have hJ:(if(ops[j].Code == 15)=true then rE N m h a (ops,e) s.st s.c (j:Int) (uA s.br) ops[j] ((vL s.br).outer&&(vL s.br).taken) (dZ N m h a (ops,e) f) true else rE N m h a (ops,e) s.st s.c (j:Int) (uA s.br) ops[j] ((vL s.br).outer&&(vL s.br).taken) (dZ N m h a (ops,e) f) (ops[j].Code == 16))=aCK (dZ N m h a (ops,e) f) (j:Int) (tC N m h a ops[j] s):=by
    rw[←ht]
    unfold rE aEj
    by_cases c15:ops[j].Code=15
    ·rw[if_pos (show(ops[j].Code == 15)=true by simpa using c15),if_pos rfl,aHG (h15 (.inl c15)) (by omega),aXj,if_pos (show ops[j].Code=15∨ops[j].Code=16 from .inl c15)]
    rw[if_neg (show¬(ops[j].Code == 15)=true by simpa using c15)]
    by_cases c16:ops[j].Code=16
    ·rw[if_pos (show(ops[j].Code == 16)=true by simpa using c16),aHG (h15 (.inr c16)) (by omega),aXj,if_pos (show ops[j].Code=15∨ops[j].Code=16 from .inr c16)]
    rw[if_neg (show¬(ops[j].Code == 16)=true by simpa using c16),if_neg (show¬(ops[j].Code=15∨ops[j].Code=16) by omega)]
   rw[hJ]
   obtain⟨s',k1,k2⟩:=aIB hN hm hb (h:=h) (a:=a) hvo.1 hs hl hn (by omega)
   unfold aCK
   rw[mJ]
   by_cases h0:(tC N m h a ops[j] s).1=0
   ·obtain⟨es,g1,g2,g3,l',g4,g5⟩:=k2 h0
    rw[if_pos h0,if_pos h0,i1 (by omega),←es]
    exact aKP ops e hv ho f (j+1) s' l' q (by omega) (by omega) g1 g4 g5 (by omega)
   rw[if_neg h0,if_neg h0,if_neg h0]
  rw[dF h',aXo (by omega)]
  rfl
end
theorem aHZ : ∀(k:Nat)(b:List Int)(acc l:List aX),(∀o∈acc,1≤o.Code∧o.Code≤17)→kH k b acc= .brk l→ ∀o∈l,1≤o.Code∧o.Code≤17
 |0,_,_,_,hv,h=>by
  injection h with h
  subst h
  exact hv
 |k+1,[],acc,l,hv,h=>by
  injection h with h
  subst h
  exact hv
 |k+1,x::r,acc,l,hv,h=>by
  simp only[kH]at h
  by_cases he:(eZ x r).2.2=0
  ·rw[if_pos he]at h
   exact aHZ k _ _ l (fun o ho=>by
    rcases List.mem_append.1 ho with g|g
    ·exact hv o g
    rw[List.mem_singleton.1 g];exact aO4 he) h
  rw[if_neg he]at h;cases h
theorem aNY {b:List Int}(hb:Byt b)(h:(cM b).2=0): ∀o∈(cM b).1,1≤o.Code∧o.Code≤17:=by
 obtain⟨_,_,_,p⟩:=aEN hb h
 exact aHZ _ b [] _ (by simp) p
section
variable {N:Nat}(hN:70000≤N){m:List Int}(hm:m.length=32)(hb:Byt m)
include hN hm hb
theorem aTa {b:List Int}(hbb:Byt b){st:List (List Int)}(hst: ∀x∈st,Byt x)(h a:Int):aDa N b st m h a=some (aA0 N b st m h a):=by
 unfold aDa aA0
 rw[aQz hN hbb]
 simp only[aXj]
 by_cases hp:(cM b).2=0
 ·obtain⟨p1,p2,_⟩:=aEN hbb hp
  rw[if_neg (by simpa using hp),hp,aPp hN (by omega),aQ1 hN]
  simp only[aXj,show((0:Int) != 0)=false from rfl,aXk,if_false]
  cases hn:zS (cM b).1 with
  |false=>rfl
  |true=>
   cases hB:aAj st with
   |false=>rfl
   |true=>
    have hw:=(aG1 hst).1 hB
    have hl:=hw.len
    have lp:=aKP hN hm hb (h:=h) (a:=a) (cM b).1 (cM b).2 (fun o ho=>⟨p1 o ho,aNY hbb hp o ho⟩) (by omega) N 0 ⟨st,[],0⟩ [] [] (by omega) (by omega) ⟨hw,by simp⟩ rfl (aIv.1 hn) (by simp)
    rw[show((0:Nat):Int)=0 from rfl,aXp]at lp
    simp only[aXs,aXk,aXv,if_false,aOT hN hl (fun x hx=>(hw.it x hx).2),aXj]
    rw[show(dZ N m h a (cM b) N st 0 0 [])=_ from lp]
    by_cases he:(mJ N m h a (cM b).1 ⟨st,[],0⟩).1=0
    ·rw[if_pos he,if_pos he];rfl
    rw[if_neg he,if_neg he];rfl
 rw[if_pos hp,show((cM b).2 != 0)=true by simpa using hp];rfl
theorem aTC {b:List Int}(hbb:Byt b){st:List (List Int)}(hst: ∀x∈st,Byt x)(h a:Int):sM N b st m h a=some (aRA (aA0 N b st m h a)):=by
 rw[←aQc hN hm hb hbb hst]
 unfold sM n7
 rw[aTa hN hm hb hbb hst,aQr hN hm hb hbb hst]
 simp only[aIA]
end
end Go.Proofs.YtbjiaghljpoliaaGreatDoor
set_option maxRecDepth 4000
namespace Go.Proofs.YtbjiaghljpoliaaGreatDoor
open Go Go.Vm
theorem aQ5 (N:Nat)(v:Int)(ins:List aG)(outs:List aF)(lock i oV:Int)(oS:List Int):Byt (aD3 N v ins outs lock i oV oS).1:=by
 have hz:Byt aJl:=by intro x hx;simp[aJl]at hx;omega
 unfold aD3
 split
 ·split
  ·exact hz
  exact aGe _ _ _
 exact hz
theorem aQS (N:Nat)(hN:70000≤N)(v:Int)(ins:List aG)(outs:List aF)(lock h:Int)(hn:ins.length≤1000):aEu N v ins outs lock h=some (decide (aXm.wrap lock≤h) || ins.all fun x=> !(x.Sequence != 4294967295)):=by
 unfold aEu
 cases decide (aXm.wrap lock≤h) with
 |true=>rfl
 |false=>
  have:=jU (f:=qO N ins) (xs:=ins) (p:=fun x=> !(x.Sequence != 4294967295)) (r:=false) (fun m j hj=>by
   rw[qO,dT hj,if_pos rfl,bZ ins hj]
   simp only[aXj,i1 (show j≤100000 by omega)]
   cases ins[j].Sequence != 4294967295<;>rfl) (fun m j hj=>by rw[qO,dF (by omega)];rfl) N 0 (by omega) (by omega)
  rw[show((0:Nat):Int)=0 from rfl,aXp]at this
  rw[this]
  cases ins.all fun x=> !(x.Sequence != 4294967295)<;>rfl
theorem aP4 {N:Nat}{v:Int}{ins:List aG}{outs:List aF}{lock i oV:Int}{oS:List Int}(h:(aD3 N v ins outs lock i oV oS).2=0):0≤i∧i<(ins.length:Int):=by
 unfold aD3 at h
 split at h
 ·split at h
  ·cases h
  rename_i h2
  simp only[Bool.or_eq_true,decide_eq_true_eq,not_or,Int.not_lt,Int.not_le]at h2
  exact h2
 cases h
section
variable (N:Nat)(hN:70000≤N){v:Int}{ins:List aG}{outs:List aF}{lock:Int}(K:aAd ins outs)(B:aMi ins outs)(W: ∀x∈ins,∀w∈x.Witness,Byt w)
include hN K B W
theorem aP8 (i h:Int)(oT:List Int)(oI oV:Int){oS:List Int}(hS:Byt oS)(cH:Int)(cB:Bool): ∃r,aAk N v ins outs lock i oT oI oV oS cH cB h=some r∧aAn N v ins outs lock i oT oI oV oS cH cB h=some r:=by
 have hl:=aSh N (v:=v) (ins:=ins) (outs:=outs) (lock:=lock) (i:=i) (oV:=oV) (oS:=oS)
 have hb:=aQ5 N v ins outs lock i oV oS
 have hz:=aP4 (N:=N) (v:=v) (ins:=ins) (outs:=outs) (lock:=lock) (i:=i) (oV:=oV) (oS:=oS)
 unfold aAk aAn
 rw[aO8 N hN K B hS,aNF N hN K B hS]
 simp only[aXj,dG hl]
 generalize aD3 N v ins outs lock i oV oS=M at hl hb hz⊢
 by_cases h0:M.2=0
 ·obtain⟨z1,z2⟩:=hz h0
  obtain⟨k,rfl⟩: ∃k:Nat,i=(k:Int):=⟨i.toNat,by omega⟩
  have hk:k<ins.length:=by omega
  rw[show(M.2 != 0)=false by simpa using h0]
  simp only[aXk,if_false,bZ ins hk,aXj]
  cases ha:lS ins[k].Prev.Tx oT ((ins[k].Prev.Index == oI)&&true) with
  |false=>exact⟨101,rfl,rfl⟩
  |true=>
   simp only[aXs,aXk,if_false]
   by_cases h1:cH<0
   ·rw[decide_eq_true h1]
    refine⟨102,rfl, ?_⟩
    cases decide (16777216<h)<;>rfl
   rw[decide_eq_false h1]
   by_cases h2:h<cH
   ·rw[decide_eq_true h2]
    refine⟨102,rfl, ?_⟩
    cases decide (16777216<h)<;>rfl
   rw[decide_eq_false h2]
   by_cases h3:16777216<h
   ·rw[decide_eq_true h3]
    exact⟨102,rfl,rfl⟩
   rw[decide_eq_false h3]
   simp only[aXk,if_false,qS,qT,bZ ins hk,aXj]
   rw[aQc hN hl hb hS (W _ (aXr hk)),aTC hN hl hb hS (W _ (aXr hk))]
   exact⟨_,rfl,rfl⟩
 rw[show(M.2 != 0)=true by simpa using h0]
 exact⟨M.2,rfl,rfl⟩
end
def NN :Nat:=70000
theorem aO0 :70000≤NN:=aXE _
theorem aTv :aDL NN=some true:=by decide +kernel
theorem aNG (N:Nat)(v:Int)(ins:List aG)(outs:List aF)(lock:Int)(hn:outs.length≤64)(h0: ∀o∈outs,0≤o.Value)(m:Nat): ∀(j:Nat)(s:Int),outs.length-j<m→j≤outs.length→0≤s→s≤(j:Int)*2100000000000000→
  mM N v ins outs lock m s (j:Int)=some (if((outs.drop j).all fun o=>decide (o.Value≤2100000000000000))=true then .brk (s+wI (outs.drop j))else .ret 90):=by
 induction m with
 |zero=>intro j s hm _ _ _;omega
 |succ m ih=>
  intro j s hm hj hs hs2
  rw[mM]
  by_cases h:j<outs.length
  ·have hv:=h0 _ (aXr h)
   rw[dT h,if_pos rfl,bZ outs h,aXj,aXl h,aHa,List.all_cons]
   by_cases hc:2100000000000000<outs[j].Value
   ·rw[decide_eq_true hc,if_pos rfl,decide_eq_false (by omega: ¬outs[j].Value≤2100000000000000)];rfl
   rw[decide_eq_false hc,decide_eq_true (by omega:outs[j].Value≤2100000000000000),cN (a:=s+outs[j].Value) (by omega) (by omega)]
   simp only[aXk,if_false,i1 (show j≤100000 by omega),aXz]
   rw[ih (j+1) _ (by omega) (by omega) (by omega) (by omega),Int.add_assoc]
  rw[dF h,aXo (by omega)]
  simp[wI]
theorem aSI (N:Nat)(hN:70000≤N)(v:Int)(ins:List aG)(outs:List aF)(lock:Int)(j:Nat)(hj:j<ins.length)(hn:ins.length≤100):kB N v ins outs lock (j:Int) N 0=some (if nd ins j=true then .brk ()else .ret 91):=by
 have:=aC3 (f:=kB N v ins outs lock (j:Int)) (n:=j) (p:=fun k=> !qd ins j k) (r:=91) (fun m k hk=>by
   have hk':k<ins.length:=by omega
   rw[kB,dT hk,if_pos rfl,bZ ins hj,bZ ins hk']
   simp only[Option.bind_some,i1 (show k≤100000 by omega)]
   have:qd ins j k=(lS ins[j].Prev.Tx ins[k].Prev.Tx ((ins[j].Prev.Index == ins[k].Prev.Index)&&true)):=by
    simp only[qd,List.getElem?_eq_getElem hj,List.getElem?_eq_getElem hk',vA]
   rw[this]
   cases lS ins[j].Prev.Tx ins[k].Prev.Tx ((ins[j].Prev.Index == ins[k].Prev.Index)&&true)<;>rfl) (fun m k hk=>by rw[kB,dF (by omega)];rfl) N 0 (by omega) (by omega)
 rw[show((0:Nat):Int)=0 from rfl,Nat.sub_zero]at this
 exact this
theorem aPJ (N:Nat)(hN:70000≤N)(v:Int)(ins:List aG)(outs:List aF)(lock:Int)(hn:ins.length≤100):iV N v ins outs lock N 0=some (if(List.range' 0 ins.length).all (nd ins)=true then .brk ()else .ret 91):=by
 have:=aC3 (f:=iV N v ins outs lock) (n:=ins.length) (p:=nd ins) (r:=91) (fun m j hj=>by
   rw[iV,dT hj,if_pos rfl,aSI N hN v ins outs lock j hj hn]
   simp only[aXj,z9,i1 (show j≤100000 by omega)]
   cases nd ins j<;>rfl) (fun m j hj=>by rw[iV,dF (by omega)];rfl) N 0 (by omega) (by omega)
 rw[show((0:Nat):Int)=0 from rfl,Nat.sub_zero]at this
 exact this
theorem aGU (N:Nat)(v:Int)(ins:List aG)(outs:List aF)(lock:Int):qU N v ins outs lock=some (cbB ins):=by
 unfold qU cbB
 match ins with
 | []=>rfl
 | [x]=>rfl
 |x::y::l=>
  have e:(((x::y::l).length:Int) == 1)=false:=by
   simp only[aXu,beq_eq_false_iff_ne];omega
  rw[e]
  rfl
theorem aPW (N:Nat)(hN:70000≤N){v:Int}{ins:List aG}{outs:List aF}{lock:Int}(K:aAd ins outs):aAH N v ins outs lock=some (chk v ins outs lock):=by
 unfold aAH chk
 rw[aNg N hN K]
 cases hf:aBj v ins outs lock with
 |false=>rfl
 |true=>
  obtain⟨n1,n2,h0⟩:=aJg hf
  simp only[aXj,aXs,aXk,if_false,aUR,uR,aXv]
  cases hi:ins.length == 0 with
  |true=>rfl
  |false=>
   cases ho:outs.length == 0 with
   |true=>rfl
   |false=>
    have hl:=aNG N v ins outs lock n2 h0 N 0 0 (by omega) (by omega) (by omega) (by omega)
    rw[show((0:Nat):Int)=0 from rfl,aXp,Int.zero_add]at hl
    simp only[aXk,if_false,Bool.or_self,hl,aXj]
    cases ha:(outs.all fun o=>decide (o.Value≤2100000000000000)) with
    |false=>
     have:=aMz h0 ha
     simp only[aXk,if_false,this,not_false_eq_true,if_true]
    |true=>
     simp only[if_true,zK]
     by_cases hm:wI outs≤2100000000000000
     ·simp only[hm,not_true_eq_false,if_false,decide_eq_false (show¬2100000000000000<wI outs by omega),aXk,aPJ N hN v ins outs lock (by omega),aXj]
      cases hd:(List.range' 0 ins.length).all (nd ins) with
      |false=>rfl
      |true=>
       have l5:=jU (f:=iW N v ins outs lock) (xs:=ins) (p:=fun x=> !(aAX x.Prev&& !cbB ins)) (r:=92) (fun m j hj=>by
         rw[iW,dT hj,if_pos rfl,bZ ins hj]
         simp only[aXj,aBS,aGU N v ins outs lock,uS,i1 (show j≤100000 by omega)]
         show(if aAX ins[j].Prev=true then _ else _)=_
         cases aAX ins[j].Prev<;>cases cbB ins<;>rfl) (fun m j hj=>by rw[iW,dF (by omega)];rfl) N 0 (by omega) (by omega)
       rw[show((0:Nat):Int)=0 from rfl,aXp]at l5
       simp only[if_true,zQ,l5,aXj,aXv,if_false]
       have e:(ins.all fun x=> !(aAX x.Prev&& !cbB ins))= !((ins.any fun x=>aAX x.Prev)&& !cbB ins):=by
        cases cbB ins with
        |true=>simp
        |false=>
         simp only[aXM,Bool.and_true]
         rw[Bool.eq_iff_iff]
         simp
       rw[e]
       cases ((ins.any fun x=>aAX x.Prev)&& !cbB ins)<;>rfl
     simp only[hm,not_false_eq_true,if_true,decide_eq_true (show 2100000000000000<wI outs by omega)]
theorem aOK (N:Nat)(v:Int)(ins:List aG)(outs:List aF)(lock:Int)(l:List bA)(hn:l.length≤70)(m:Nat): ∀(j:Nat)(s:Int),l.length-j<m→j≤l.length→0≤s→s≤(j:Int)*2100000000000000→
  mF N v ins outs lock l m s (j:Int)=some (if(l.drop j).all mdC=true then .brk (s+tS (l.drop j))else .ret (0,90)):=by
 induction m with
 |zero=>intro j s hm _ _ _;omega
 |succ m ih=>
  intro j s hm hj hs hs2
  rw[mF]
  by_cases h:j<l.length
  ·rw[dT h,if_pos rfl,bZ l h,aXj,aXl h,aEU,List.all_cons]
   simp only[yN]
   by_cases hv:l[j].Output.Value<0
   ·have e:mdC l[j]=false:=by simp[mdC,hv]
    simp only[e,decide_eq_true hv,if_true,aXB,aXk,if_false]
   rw[decide_eq_false hv]
   simp only[aXk,if_false]
   by_cases hc:2100000000000000<l[j].Output.Value
   ·have e:mdC l[j]=false:=by simp[mdC,hc]
    simp only[e,decide_eq_true hc,if_true,aXB,aXk,if_false]
   have e:mdC l[j]=true:=by simp[mdC];omega
   rw[decide_eq_false hc,e,cN (a:=s+l[j].Output.Value) (by omega) (by omega)]
   simp only[aXk,if_false,i1 (show j≤100000 by omega),aXz]
   rw[ih (j+1) _ (by omega) (by omega) (by omega) (by omega),Int.add_assoc]
  rw[dF h,aXo (by omega)]
  simp[tS]
section
variable (N:Nat)(hN:70000≤N){v:Int}{ins:List aG}{outs:List aF}{lock:Int}(K:aAd ins outs){l:List bA}(hl:l.length≤70)
include hN K hl
theorem aTW :aDh N v ins outs lock l=some (aL5 v ins outs lock l):=by
 have k1:=K.ni
 have k2:=K.no
 unfold aDh aL5
 rw[aPW N hN K,Option.bind_some,aSp]
 by_cases hc:chk v ins outs lock=0
 ·simp only[hc,bne_self_eq_false,Bool.false_eq_true,if_false,ne_eq,not_true_eq_false]
  by_cases hn:l.length=ins.length
  ·simp only[hn,not_true_eq_false,decide_false,Bool.false_eq_true,if_false]
   have:=aC3 (f:=pD N v ins outs lock l) (n:=l.length) (p:=mtc l ins) (r:=(0,101)) (fun m k hk=>by
     have hk':k<ins.length:=by omega
     rw[pD,dT hk,if_pos rfl,bZ l hk,bZ ins hk',aQt hk hk']
     simp only[Option.bind_some,i1 (show k≤100000 by omega)]
     cases lS l[k].Out.Tx ins[k].Prev.Tx ((l[k].Out.Index == ins[k].Prev.Index)&&true)<;>rfl) (fun m k hk=>by rw[pD,dF (by omega)];rfl) N 0 (by omega) (by omega)
   rw[show((0:Nat):Int)=0 from rfl,Nat.sub_zero]at this
   rw[this,hn]
   cases (List.range' 0 ins.length).all (mtc l ins) with
   |false=>rfl
   |true=>
    have hs:=aOK N v ins outs lock l hl N 0 0 (by omega) (by omega) (by omega) (by omega)
    rw[show((0:Nat):Int)=0 from rfl,List.drop_zero,Int.zero_add]at hs
    simp only[if_true,Option.bind_some,aBn,hs,Bool.true_eq_false,if_false]
    by_cases hm:l.all mdC=true
    ·rw[if_pos hm]
     simp only[aBw]
     by_cases hz:tS l≤2100000000000000
     ·rw[decide_eq_false (by omega)]
      simp only[Bool.false_eq_true,if_false]
      rw[if_neg (show¬ ¬(l.all nnC=true∧tS l≤2100000000000000)from fun h=>h ⟨aSn hm,hz⟩)]
      have hf:=aGD (f:=o9 N outs) (xs:=outs) (g:=fun s o=>IntKind.i64.wrap (s-o.Value)) (fun m s j hj=>by
        rw[o9,dT hj,if_pos rfl,bZ outs hj]
        simp only[Option.bind_some,i1 (show j≤100000 by omega)]) (fun m s j hj=>by rw[o9,dF (by omega)];rfl) N (tS l) 0 (by omega) (by omega)
      rw[show((0:Nat):Int)=0 from rfl,List.drop_zero]at hf
      simp only[Bool.false_eq_true,if_false,hf,Option.bind_some,aBo]
      by_cases hx:outs.foldl (fun s o=>IntKind.i64.wrap (s-o.Value)) (tS l)<0
      ·rw[decide_eq_true hx,if_pos rfl,if_pos hx]
      rw[decide_eq_false hx,if_neg hx];rfl
     rw[decide_eq_true (by omega),if_pos rfl,if_pos (fun h=>hz h.2)]
    rw[if_neg hm,if_pos (fun h=>hm (aSr h.1 h.2))]
  simp only[hn,not_false_eq_true,decide_true,if_true]
 have:(chk v ins outs lock != 0)=true:=by simpa using hc
 simp only[this,hc,if_true,ne_eq,not_false_eq_true]
end
theorem aMV (N:Nat)(hN:70000≤N)(n:Nat)(hn:n≤1000)(l:List bA):aBI N l (n:Int)=some (aLQ n l):=by
 unfold aBI aLQ
 rw[nle]
 by_cases h:l.length≤n
 ·rw[decide_eq_true h]
  simp only[aXs,aXk,if_false,aXz]
  have:=jU (f:=nM N l) (xs:=l) (p:=fun c=>decide (c.Output.Script.length≤600)) (r:=false) (fun m j hj=>by
    rw[nM,dT hj,if_pos rfl,bZ l hj]
    simp only[aXj,show(600:Int)=((600:Nat):Int)from rfl,nle,i1 (show j≤100000 by omega)]
    cases decide (l[j].Output.Script.length≤600)<;>rfl) (fun m j hj=>by rw[nM,dF (by omega)];rfl) N 0 (by omega) (by omega)
  rw[show((0:Nat):Int)=0 from rfl,aXp]at this
  rw[this]
  cases l.all fun c=>decide (c.Output.Script.length≤600)<;>rfl
 rw[decide_eq_false h];rfl
theorem aQa (N:Nat)(hN:70000≤N)(v:Int)(ins:List aG)(outs:List aF)(lock h:Int)(hn:ins.length≤1000):aAp N v ins outs lock h=some (decide (aXm.wrap lock≤h) || ins.all fun x=> !(x.Sequence != 4294967295)):=by
 unfold aAp
 cases decide (aXm.wrap lock≤h) with
 |true=>rfl
 |false=>
  have:=jU (f:=lJ N ins) (xs:=ins) (p:=fun x=> !(x.Sequence != 4294967295)) (r:=false) (fun m j hj=>by
   rw[lJ,dT hj,if_pos rfl,bZ ins hj]
   simp only[aXj,i1 (show j≤100000 by omega)]
   cases ins[j].Sequence != 4294967295<;>rfl) (fun m j hj=>by rw[lJ,dF (by omega)];rfl) N 0 (by omega) (by omega)
  rw[show((0:Nat):Int)=0 from rfl,aXp]at this
  rw[this]
  cases ins.all fun x=> !(x.Sequence != 4294967295)<;>rfl
section
variable (N:Nat)(hN:70000≤N){v:Int}{ins:List aG}{outs:List aF}{lock:Int}(K:aAd ins outs)(B:aMi ins outs)(W: ∀x∈ins,∀w∈x.Witness,Byt w)
include hN K B W
theorem aHV {l:List bA}(hl:l.length≤70)(hc: ∀c∈l,Byt c.Output.Script)(h:Int)(x:Int×Int): ∀(m j:Nat),l.length-j<m→j≤l.length→
  ∃r,oE N v ins outs lock l h x m (j:Int)=some r∧nX N v ins outs lock l h x m (j:Int)=some r
 |0,j,h1,_=>by omega
 |m+1,j,h1,h2=>by
  rw[oE,nX]
  by_cases hj:j<l.length
  ·rw[dT hj,if_pos rfl,if_pos rfl,bZ l hj]
   simp only[aXj]
   obtain⟨r,e1,e2⟩:=aP8 N hN (v:=v) (lock:=lock) K B W j h l[j].Out.Tx l[j].Out.Index l[j].Output.Value (hc _ (aXr hj)) l[j].Height l[j].Coinbase
   rw[e1,e2]
   simp only[aXj,i1 (show j≤100000 by omega)]
   cases r != 0 with
   |true=>exact⟨_,rfl,rfl⟩
   |false=>
    simp only[aXk,if_false]
    exact aHV hl hc h x m (j+1) (by omega) (by omega)
  rw[dF (by omega)];exact⟨_,rfl,rfl⟩
theorem aPF {l:List bA}(hl:l.length≤70)(hc: ∀c∈l,Byt c.Output.Script)(h:Int): ∃r,aAh N v ins outs lock l h=some r∧aAE N v ins outs lock l h=some r:=by
 have k1:=K.ni
 unfold aAh aAE
 rw[aHX,aGU,aXj,aXj]
 cases cbB ins with
 |true=>exact⟨_,rfl,rfl⟩
 |false=>
  rw[aVh N hN K hl,aTW N hN K hl]
  simp only[aXk,if_false,aXj]
  generalize aL5 v ins outs lock l=F
  cases F.2 != 0 with
  |true=>exact⟨_,rfl,rfl⟩
  |false=>
   simp only[aXk,if_false]
   rw[aQS N hN _ _ _ _ _ (by omega),aQa N hN _ _ _ _ _ (by omega)]
   simp only[aXj]
   cases (decide (aXm.wrap lock≤h) || ins.all fun x=> !(x.Sequence != 4294967295)) with
   |false=>exact⟨_,rfl,rfl⟩
   |true=>
    obtain⟨r,e1,e2⟩:=aHV N hN K B W (v:=v) (lock:=lock) hl hc h F N 0 (by omega) (by omega)
    rw[show((0:Nat):Int)=0 from rfl]at e1 e2
    simp only[aXs,aXk,if_false,e1,e2,aXj]
    cases r with
    |ret v=>exact⟨_,rfl,rfl⟩
    |brk u=>exact⟨_,rfl,rfl⟩
end
theorem aH8 (v:Int)(ins:List aG)(outs:List aF)(lock:Int)(l:List bA)(h:Int)(ht: ∀x∈ins,x.Prev.Tx.length=32)(B:aMi ins outs)(W: ∀x∈ins,∀w∈x.Witness,Byt w)(hc: ∀c∈l,Byt c.Output.Script):pY NN v ins outs lock l h=some true:=by
 unfold pY
 rw[aTv]
 simp only[aXj,aXs,aXk,if_false,aQg NN aO0]
 cases hk:aI5 ins outs with
 |false=>rfl
 |true=>
  rw[show(70:Int)=((70:Nat):Int)from rfl,aMV NN aO0 70 (by omega)]
  simp only[aXs,aXk,if_false,l8,aXj]
  cases hq:aLQ 70 l with
  |false=>rfl
  |true=>
   have hl:l.length≤70:=by
    simp only[aLQ,aXF,decide_eq_true_eq]at hq;exact hq.1
   obtain⟨r,e1,e2⟩:=aPF NN aO0 (v:=v) (lock:=lock) (aTH hk ht) B W hl hc h
   simp only[aXs,aXk,if_false,e1,e2,aXj,beq_self_eq_true,if_true,mD]
theorem mixed :Tryz.prog.follows .mixedOrders=true:=by kernel_rfl
theorem dep :2≤Tryz.prog.depth:=aXL (by kernel_rfl)
instance :DepC Tryz.prog:=⟨dep⟩
instance :TiC Tryz.prog 2 ⟨.int .i64,1,8,.int .i64 0⟩:=⟨ti2⟩
instance :NoA Tryz.prog 2:=⟨trivial⟩
instance :TiC Tryz.prog 3 ⟨.int .i64,1,8,.int .i64 0⟩:=⟨dS⟩
instance :NoA Tryz.prog 3:=⟨trivial⟩
instance :TiC Tryz.prog 4 ⟨.bool,1,1,.bool false⟩:=⟨ti4⟩
instance :NoA Tryz.prog 4:=⟨trivial⟩
instance :TiC Tryz.prog 5 ⟨.int .u8,1,1,.int .u8 0⟩:=⟨dO⟩
instance :NoA Tryz.prog 5:=⟨trivial⟩
instance :TiC Tryz.prog 9 ⟨.string,1,16,.string .empty⟩:=⟨ti9⟩
instance :NoA Tryz.prog 9:=⟨trivial⟩
instance :TiC Tryz.prog 12 ⟨.int .u64,1,8,.int .u64 0⟩:=⟨aWq⟩
instance :NoA Tryz.prog 12:=⟨trivial⟩
instance :TiC Tryz.prog 21 ⟨.int .i32,1,4,.int .i32 0⟩:=⟨aWd⟩
instance :NoA Tryz.prog 21:=⟨trivial⟩
instance :TiC Tryz.prog 22 ⟨.int .u32,1,4,.int .u32 0⟩:=⟨wM⟩
instance :NoA Tryz.prog 22:=⟨trivial⟩
instance :TiC Tryz.prog 23 ⟨.slice 48,1,24,.slice none 0 0⟩:=⟨aOw⟩
instance :NoA Tryz.prog 23:=⟨trivial⟩
instance :TiC Tryz.prog 24 ⟨.slice 33,1,24,.slice none 0 0⟩:=⟨aPe⟩
instance :NoA Tryz.prog 24:=⟨trivial⟩
instance :TiC Tryz.prog 25 ⟨.struct #[{name:= "Version",type:=22,offset:=0,embedded:=false,tag:= "",pkgPath:= "",byteOffset:=0},{name:= "Inputs",type:=23,offset:=1,embedded:=false,tag:= "",pkgPath:= "",byteOffset:=8},{name:= "Outputs",type:=24,offset:=2,embedded:=false,tag:= "",pkgPath:= "",byteOffset:=32},{name:= "Lock",type:=22,offset:=3,embedded:=false,tag:= "",pkgPath:= "",byteOffset:=56}],4,64,.agg #[.int .u32 0,.slice none 0 0,.slice none 0 0,.int .u32 0]⟩:=⟨aWP⟩
instance :NoA Tryz.prog 25:=⟨trivial⟩
instance :TiC Tryz.prog 26 ⟨.struct #[{name:= "Version",type:=22,offset:=0,embedded:=false,tag:= "",pkgPath:= "",byteOffset:=0},{name:= "Inputs",type:=23,offset:=1,embedded:=false,tag:= "",pkgPath:= "",byteOffset:=8},{name:= "Outputs",type:=24,offset:=2,embedded:=false,tag:= "",pkgPath:= "",byteOffset:=32},{name:= "Lock",type:=22,offset:=3,embedded:=false,tag:= "",pkgPath:= "",byteOffset:=56}],4,64,.agg #[.int .u32 0,.slice none 0 0,.slice none 0 0,.int .u32 0]⟩:=⟨aFG⟩
instance :NoA Tryz.prog 26:=⟨trivial⟩
instance :TiC Tryz.prog 27 ⟨.array 32 5,32,32,.agg #[.int .u8 0,.int .u8 0,.int .u8 0,.int .u8 0,.int .u8 0,.int .u8 0,.int .u8 0,.int .u8 0,.int .u8 0,.int .u8 0,.int .u8 0,.int .u8 0,.int .u8 0,.int .u8 0,.int .u8 0,.int .u8 0,.int .u8 0,.int .u8 0,.int .u8 0,.int .u8 0,.int .u8 0,.int .u8 0,.int .u8 0,.int .u8 0,.int .u8 0,.int .u8 0,.int .u8 0,.int .u8 0,.int .u8 0,.int .u8 0,.int .u8 0,.int .u8 0]⟩:=⟨aWm⟩
instance :TiC Tryz.prog 28 ⟨.array 32 5,32,32,.agg #[.int .u8 0,.int .u8 0,.int .u8 0,.int .u8 0,.int .u8 0,.int .u8 0,.int .u8 0,.int .u8 0,.int .u8 0,.int .u8 0,.int .u8 0,.int .u8 0,.int .u8 0,.int .u8 0,.int .u8 0,.int .u8 0,.int .u8 0,.int .u8 0,.int .u8 0,.int .u8 0,.int .u8 0,.int .u8 0,.int .u8 0,.int .u8 0,.int .u8 0,.int .u8 0,.int .u8 0,.int .u8 0,.int .u8 0,.int .u8 0,.int .u8 0,.int .u8 0]⟩:=⟨wJ⟩
instance :TiC Tryz.prog 29 ⟨.struct #[{name:= "Tx",type:=28,offset:=0,embedded:=false,tag:= "",pkgPath:= "",byteOffset:=0},{name:= "Index",type:=22,offset:=32,embedded:=false,tag:= "",pkgPath:= "",byteOffset:=32}],33,36,.agg #[.int .u8 0,.int .u8 0,.int .u8 0,.int .u8 0,.int .u8 0,.int .u8 0,.int .u8 0,.int .u8 0,.int .u8 0,.int .u8 0,.int .u8 0,.int .u8 0,.int .u8 0,.int .u8 0,.int .u8 0,.int .u8 0,.int .u8 0,.int .u8 0,.int .u8 0,.int .u8 0,.int .u8 0,.int .u8 0,.int .u8 0,.int .u8 0,.int .u8 0,.int .u8 0,.int .u8 0,.int .u8 0,.int .u8 0,.int .u8 0,.int .u8 0,.int .u8 0,.int .u32 0]⟩:=⟨aWV⟩
instance :TiC Tryz.prog 30 ⟨.struct #[{name:= "Tx",type:=28,offset:=0,embedded:=false,tag:= "",pkgPath:= "",byteOffset:=0},{name:= "Index",type:=22,offset:=32,embedded:=false,tag:= "",pkgPath:= "",byteOffset:=32}],33,36,.agg #[.int .u8 0,.int .u8 0,.int .u8 0,.int .u8 0,.int .u8 0,.int .u8 0,.int .u8 0,.int .u8 0,.int .u8 0,.int .u8 0,.int .u8 0,.int .u8 0,.int .u8 0,.int .u8 0,.int .u8 0,.int .u8 0,.int .u8 0,.int .u8 0,.int .u8 0,.int .u8 0,.int .u8 0,.int .u8 0,.int .u8 0,.int .u8 0,.int .u8 0,.int .u8 0,.int .u8 0,.int .u8 0,.int .u8 0,.int .u8 0,.int .u8 0,.int .u8 0,.int .u32 0]⟩:=⟨pF⟩
instance :TiC Tryz.prog 31 ⟨.slice 5,1,24,.slice none 0 0⟩:=⟨dB⟩
instance :NoA Tryz.prog 31:=⟨trivial⟩
instance :TiC Tryz.prog 32 ⟨.struct #[{name:= "Value",type:=2,offset:=0,embedded:=false,tag:= "",pkgPath:= "",byteOffset:=0},{name:= "Script",type:=31,offset:=1,embedded:=false,tag:= "",pkgPath:= "",byteOffset:=8}],2,32,.agg #[.int .i64 0,.slice none 0 0]⟩:=⟨aXb⟩
instance :NoA Tryz.prog 32:=⟨trivial⟩
instance :TiC Tryz.prog 33 ⟨.struct #[{name:= "Value",type:=2,offset:=0,embedded:=false,tag:= "",pkgPath:= "",byteOffset:=0},{name:= "Script",type:=31,offset:=1,embedded:=false,tag:= "",pkgPath:= "",byteOffset:=8}],2,32,.agg #[.int .i64 0,.slice none 0 0]⟩:=⟨aGE⟩
instance :NoA Tryz.prog 33:=⟨trivial⟩
instance :TiC Tryz.prog 34 ⟨.struct #[{name:= "Out",type:=30,offset:=0,embedded:=false,tag:= "",pkgPath:= "",byteOffset:=0},{name:= "Output",type:=33,offset:=33,embedded:=false,tag:= "",pkgPath:= "",byteOffset:=40},{name:= "Height",type:=3,offset:=35,embedded:=false,tag:= "",pkgPath:= "",byteOffset:=72},{name:= "Coinbase",type:=4,offset:=36,embedded:=false,tag:= "",pkgPath:= "",byteOffset:=80}],37,88,.agg #[.int .u8 0,.int .u8 0,.int .u8 0,.int .u8 0,.int .u8 0,.int .u8 0,.int .u8 0,.int .u8 0,.int .u8 0,.int .u8 0,.int .u8 0,.int .u8 0,.int .u8 0,.int .u8 0,.int .u8 0,.int .u8 0,.int .u8 0,.int .u8 0,.int .u8 0,.int .u8 0,.int .u8 0,.int .u8 0,.int .u8 0,.int .u8 0,.int .u8 0,.int .u8 0,.int .u8 0,.int .u8 0,.int .u8 0,.int .u8 0,.int .u8 0,.int .u8 0,.int .u32 0,.int .i64 0,.slice none 0 0,.int .i64 0,.bool false]⟩:=⟨aWW⟩
instance :TiC Tryz.prog 35 ⟨.struct #[{name:= "Out",type:=30,offset:=0,embedded:=false,tag:= "",pkgPath:= "",byteOffset:=0},{name:= "Output",type:=33,offset:=33,embedded:=false,tag:= "",pkgPath:= "",byteOffset:=40},{name:= "Height",type:=3,offset:=35,embedded:=false,tag:= "",pkgPath:= "",byteOffset:=72},{name:= "Coinbase",type:=4,offset:=36,embedded:=false,tag:= "",pkgPath:= "",byteOffset:=80}],37,88,.agg #[.int .u8 0,.int .u8 0,.int .u8 0,.int .u8 0,.int .u8 0,.int .u8 0,.int .u8 0,.int .u8 0,.int .u8 0,.int .u8 0,.int .u8 0,.int .u8 0,.int .u8 0,.int .u8 0,.int .u8 0,.int .u8 0,.int .u8 0,.int .u8 0,.int .u8 0,.int .u8 0,.int .u8 0,.int .u8 0,.int .u8 0,.int .u8 0,.int .u8 0,.int .u8 0,.int .u8 0,.int .u8 0,.int .u8 0,.int .u8 0,.int .u8 0,.int .u8 0,.int .u32 0,.int .i64 0,.slice none 0 0,.int .i64 0,.bool false]⟩:=⟨aA7⟩
instance :TiC Tryz.prog 38 ⟨.int .i64,1,8,.int .i64 0⟩:=⟨aWY⟩
instance :NoA Tryz.prog 38:=⟨trivial⟩
instance :TiC Tryz.prog 41 ⟨.slice 35,1,24,.slice none 0 0⟩:=⟨aUo⟩
instance :NoA Tryz.prog 41:=⟨trivial⟩
instance :TiC Tryz.prog 46 ⟨.slice 31,1,24,.slice none 0 0⟩:=⟨aB8⟩
instance :NoA Tryz.prog 46:=⟨trivial⟩
instance :TiC Tryz.prog 47 ⟨.struct #[{name:= "Prev",type:=30,offset:=0,embedded:=false,tag:= "",pkgPath:= "",byteOffset:=0},{name:= "Sequence",type:=22,offset:=33,embedded:=false,tag:= "",pkgPath:= "",byteOffset:=36},{name:= "Witness",type:=46,offset:=34,embedded:=false,tag:= "",pkgPath:= "",byteOffset:=40}],35,64,.agg #[.int .u8 0,.int .u8 0,.int .u8 0,.int .u8 0,.int .u8 0,.int .u8 0,.int .u8 0,.int .u8 0,.int .u8 0,.int .u8 0,.int .u8 0,.int .u8 0,.int .u8 0,.int .u8 0,.int .u8 0,.int .u8 0,.int .u8 0,.int .u8 0,.int .u8 0,.int .u8 0,.int .u8 0,.int .u8 0,.int .u8 0,.int .u8 0,.int .u8 0,.int .u8 0,.int .u8 0,.int .u8 0,.int .u8 0,.int .u8 0,.int .u8 0,.int .u8 0,.int .u32 0,.int .u32 0,.slice none 0 0]⟩:=⟨aWI⟩
instance :TiC Tryz.prog 48 ⟨.struct #[{name:= "Prev",type:=30,offset:=0,embedded:=false,tag:= "",pkgPath:= "",byteOffset:=0},{name:= "Sequence",type:=22,offset:=33,embedded:=false,tag:= "",pkgPath:= "",byteOffset:=36},{name:= "Witness",type:=46,offset:=34,embedded:=false,tag:= "",pkgPath:= "",byteOffset:=40}],35,64,.agg #[.int .u8 0,.int .u8 0,.int .u8 0,.int .u8 0,.int .u8 0,.int .u8 0,.int .u8 0,.int .u8 0,.int .u8 0,.int .u8 0,.int .u8 0,.int .u8 0,.int .u8 0,.int .u8 0,.int .u8 0,.int .u8 0,.int .u8 0,.int .u8 0,.int .u8 0,.int .u8 0,.int .u8 0,.int .u8 0,.int .u8 0,.int .u8 0,.int .u8 0,.int .u8 0,.int .u8 0,.int .u8 0,.int .u8 0,.int .u8 0,.int .u8 0,.int .u8 0,.int .u32 0,.int .u32 0,.slice none 0 0]⟩:=⟨rG⟩
instance :TiC Tryz.prog 53 ⟨.struct #[{name:= "Message",type:=28,offset:=0,embedded:=false,tag:= "",pkgPath:= "",byteOffset:=0},{name:= "Height",type:=3,offset:=32,embedded:=false,tag:= "",pkgPath:= "",byteOffset:=32},{name:= "Age",type:=3,offset:=33,embedded:=false,tag:= "",pkgPath:= "",byteOffset:=40}],34,48,.agg #[.int .u8 0,.int .u8 0,.int .u8 0,.int .u8 0,.int .u8 0,.int .u8 0,.int .u8 0,.int .u8 0,.int .u8 0,.int .u8 0,.int .u8 0,.int .u8 0,.int .u8 0,.int .u8 0,.int .u8 0,.int .u8 0,.int .u8 0,.int .u8 0,.int .u8 0,.int .u8 0,.int .u8 0,.int .u8 0,.int .u8 0,.int .u8 0,.int .u8 0,.int .u8 0,.int .u8 0,.int .u8 0,.int .u8 0,.int .u8 0,.int .u8 0,.int .u8 0,.int .i64 0,.int .i64 0]⟩:=⟨aWJ⟩
instance :TiC Tryz.prog 54 ⟨.struct #[{name:= "Message",type:=28,offset:=0,embedded:=false,tag:= "",pkgPath:= "",byteOffset:=0},{name:= "Height",type:=3,offset:=32,embedded:=false,tag:= "",pkgPath:= "",byteOffset:=32},{name:= "Age",type:=3,offset:=33,embedded:=false,tag:= "",pkgPath:= "",byteOffset:=40}],34,48,.agg #[.int .u8 0,.int .u8 0,.int .u8 0,.int .u8 0,.int .u8 0,.int .u8 0,.int .u8 0,.int .u8 0,.int .u8 0,.int .u8 0,.int .u8 0,.int .u8 0,.int .u8 0,.int .u8 0,.int .u8 0,.int .u8 0,.int .u8 0,.int .u8 0,.int .u8 0,.int .u8 0,.int .u8 0,.int .u8 0,.int .u8 0,.int .u8 0,.int .u8 0,.int .u8 0,.int .u8 0,.int .u8 0,.int .u8 0,.int .u8 0,.int .u8 0,.int .u8 0,.int .i64 0,.int .i64 0]⟩:=⟨aCy⟩
instance :TiC Tryz.prog 74 ⟨.map 30 4,1,8,.map none⟩:=⟨aWi⟩
instance :NoA Tryz.prog 74:=⟨trivial⟩
instance :TiC Tryz.prog 78 ⟨.int .u64,1,8,.int .u64 0⟩:=⟨nQ⟩
instance :NoA Tryz.prog 78:=⟨trivial⟩
instance :TiC Tryz.prog 80 ⟨.slice 90,1,24,.slice none 0 0⟩:=⟨aQ7⟩
instance :NoA Tryz.prog 80:=⟨trivial⟩
instance :TiC Tryz.prog 86 ⟨.slice 113,1,24,.slice none 0 0⟩:=⟨aKa⟩
instance :NoA Tryz.prog 86:=⟨trivial⟩
instance :TiC Tryz.prog 87 ⟨.struct #[{name:= "Env",type:=54,offset:=0,embedded:=true,tag:= "",pkgPath:= "",byteOffset:=0},{name:= "stack",type:=46,offset:=34,embedded:=false,tag:= "",pkgPath:= "lightclient/script",byteOffset:=48},{name:= "branches",type:=86,offset:=35,embedded:=false,tag:= "",pkgPath:= "lightclient/script",byteOffset:=72},{name:= "cost",type:=3,offset:=36,embedded:=false,tag:= "",pkgPath:= "lightclient/script",byteOffset:=96}],37,104,.agg #[.int .u8 0,.int .u8 0,.int .u8 0,.int .u8 0,.int .u8 0,.int .u8 0,.int .u8 0,.int .u8 0,.int .u8 0,.int .u8 0,.int .u8 0,.int .u8 0,.int .u8 0,.int .u8 0,.int .u8 0,.int .u8 0,.int .u8 0,.int .u8 0,.int .u8 0,.int .u8 0,.int .u8 0,.int .u8 0,.int .u8 0,.int .u8 0,.int .u8 0,.int .u8 0,.int .u8 0,.int .u8 0,.int .u8 0,.int .u8 0,.int .u8 0,.int .u8 0,.int .i64 0,.int .i64 0,.slice none 0 0,.slice none 0 0,.int .i64 0]⟩:=⟨aWA⟩
instance :TiC Tryz.prog 88 ⟨.struct #[{name:= "Env",type:=54,offset:=0,embedded:=true,tag:= "",pkgPath:= "",byteOffset:=0},{name:= "stack",type:=46,offset:=34,embedded:=false,tag:= "",pkgPath:= "lightclient/script",byteOffset:=48},{name:= "branches",type:=86,offset:=35,embedded:=false,tag:= "",pkgPath:= "lightclient/script",byteOffset:=72},{name:= "cost",type:=3,offset:=36,embedded:=false,tag:= "",pkgPath:= "lightclient/script",byteOffset:=96}],37,104,.agg #[.int .u8 0,.int .u8 0,.int .u8 0,.int .u8 0,.int .u8 0,.int .u8 0,.int .u8 0,.int .u8 0,.int .u8 0,.int .u8 0,.int .u8 0,.int .u8 0,.int .u8 0,.int .u8 0,.int .u8 0,.int .u8 0,.int .u8 0,.int .u8 0,.int .u8 0,.int .u8 0,.int .u8 0,.int .u8 0,.int .u8 0,.int .u8 0,.int .u8 0,.int .u8 0,.int .u8 0,.int .u8 0,.int .u8 0,.int .u8 0,.int .u8 0,.int .u8 0,.int .i64 0,.int .i64 0,.slice none 0 0,.slice none 0 0,.int .i64 0]⟩:=⟨aBX⟩
instance :TiC Tryz.prog 89 ⟨.struct #[{name:= "Code",type:=3,offset:=0,embedded:=false,tag:= "",pkgPath:= "",byteOffset:=0},{name:= "Data",type:=31,offset:=1,embedded:=false,tag:= "",pkgPath:= "",byteOffset:=8},{name:= "M",type:=3,offset:=2,embedded:=false,tag:= "",pkgPath:= "",byteOffset:=32},{name:= "N",type:=3,offset:=3,embedded:=false,tag:= "",pkgPath:= "",byteOffset:=40}],4,48,.agg #[.int .i64 0,.slice none 0 0,.int .i64 0,.int .i64 0]⟩:=⟨aWS⟩
instance :NoA Tryz.prog 89:=⟨trivial⟩
instance :TiC Tryz.prog 90 ⟨.struct #[{name:= "Code",type:=3,offset:=0,embedded:=false,tag:= "",pkgPath:= "",byteOffset:=0},{name:= "Data",type:=31,offset:=1,embedded:=false,tag:= "",pkgPath:= "",byteOffset:=8},{name:= "M",type:=3,offset:=2,embedded:=false,tag:= "",pkgPath:= "",byteOffset:=32},{name:= "N",type:=3,offset:=3,embedded:=false,tag:= "",pkgPath:= "",byteOffset:=40}],4,48,.agg #[.int .i64 0,.slice none 0 0,.int .i64 0,.int .i64 0]⟩:=⟨aCr⟩
instance :NoA Tryz.prog 90:=⟨trivial⟩
instance :TiC Tryz.prog 95 ⟨.array 8 22,8,32,.agg #[.int .u32 0,.int .u32 0,.int .u32 0,.int .u32 0,.int .u32 0,.int .u32 0,.int .u32 0,.int .u32 0]⟩:=⟨aJ6⟩
instance :TiC Tryz.prog 97 ⟨.array 64 5,64,64,.agg #[.int .u8 0,.int .u8 0,.int .u8 0,.int .u8 0,.int .u8 0,.int .u8 0,.int .u8 0,.int .u8 0,.int .u8 0,.int .u8 0,.int .u8 0,.int .u8 0,.int .u8 0,.int .u8 0,.int .u8 0,.int .u8 0,.int .u8 0,.int .u8 0,.int .u8 0,.int .u8 0,.int .u8 0,.int .u8 0,.int .u8 0,.int .u8 0,.int .u8 0,.int .u8 0,.int .u8 0,.int .u8 0,.int .u8 0,.int .u8 0,.int .u8 0,.int .u8 0,.int .u8 0,.int .u8 0,.int .u8 0,.int .u8 0,.int .u8 0,.int .u8 0,.int .u8 0,.int .u8 0,.int .u8 0,.int .u8 0,.int .u8 0,.int .u8 0,.int .u8 0,.int .u8 0,.int .u8 0,.int .u8 0,.int .u8 0,.int .u8 0,.int .u8 0,.int .u8 0,.int .u8 0,.int .u8 0,.int .u8 0,.int .u8 0,.int .u8 0,.int .u8 0,.int .u8 0,.int .u8 0,.int .u8 0,.int .u8 0,.int .u8 0,.int .u8 0]⟩:=⟨aRe⟩
instance :TiC Tryz.prog 99 ⟨.int .u64,1,8,.int .u64 0⟩:=⟨aW2⟩
instance :NoA Tryz.prog 99:=⟨trivial⟩
instance :TiC Tryz.prog 100 ⟨.slice 103,1,24,.slice none 0 0⟩:=⟨aPa⟩
instance :NoA Tryz.prog 100:=⟨trivial⟩
instance :TiC Tryz.prog 102 ⟨.struct #[{name:= "reached",type:=4,offset:=0,embedded:=false,tag:= "",pkgPath:= "lightclient/lightclientref08",byteOffset:=0},{name:= "done",type:=4,offset:=1,embedded:=false,tag:= "",pkgPath:= "lightclient/lightclientref08",byteOffset:=1}],2,2,.agg #[.bool false,.bool false]⟩:=⟨aVK⟩
instance :NoA Tryz.prog 102:=⟨trivial⟩
instance :TiC Tryz.prog 103 ⟨.struct #[{name:= "reached",type:=4,offset:=0,embedded:=false,tag:= "",pkgPath:= "lightclient/lightclientref08",byteOffset:=0},{name:= "done",type:=4,offset:=1,embedded:=false,tag:= "",pkgPath:= "lightclient/lightclientref08",byteOffset:=1}],2,2,.agg #[.bool false,.bool false]⟩:=⟨aFI⟩
instance :NoA Tryz.prog 103:=⟨trivial⟩
instance :TiC Tryz.prog 110 ⟨.slice 4,1,24,.slice none 0 0⟩:=⟨aOD⟩
instance :NoA Tryz.prog 110:=⟨trivial⟩
instance :TiC Tryz.prog 111 ⟨.pointer 88,1,8,.pointer none⟩:=⟨aVl⟩
instance :NoA Tryz.prog 111:=⟨trivial⟩
instance :TiC Tryz.prog 112 ⟨.struct #[{name:= "outer",type:=4,offset:=0,embedded:=false,tag:= "",pkgPath:= "lightclient/script",byteOffset:=0},{name:= "taken",type:=4,offset:=1,embedded:=false,tag:= "",pkgPath:= "lightclient/script",byteOffset:=1}],2,2,.agg #[.bool false,.bool false]⟩:=⟨aVv⟩
instance :NoA Tryz.prog 112:=⟨trivial⟩
instance :TiC Tryz.prog 113 ⟨.struct #[{name:= "outer",type:=4,offset:=0,embedded:=false,tag:= "",pkgPath:= "lightclient/script",byteOffset:=0},{name:= "taken",type:=4,offset:=1,embedded:=false,tag:= "",pkgPath:= "lightclient/script",byteOffset:=1}],2,2,.agg #[.bool false,.bool false]⟩:=⟨aDR⟩
instance :NoA Tryz.prog 113:=⟨trivial⟩
instance :TiC Tryz.prog 116 ⟨.array 64 22,64,256,.agg #[.int .u32 0,.int .u32 0,.int .u32 0,.int .u32 0,.int .u32 0,.int .u32 0,.int .u32 0,.int .u32 0,.int .u32 0,.int .u32 0,.int .u32 0,.int .u32 0,.int .u32 0,.int .u32 0,.int .u32 0,.int .u32 0,.int .u32 0,.int .u32 0,.int .u32 0,.int .u32 0,.int .u32 0,.int .u32 0,.int .u32 0,.int .u32 0,.int .u32 0,.int .u32 0,.int .u32 0,.int .u32 0,.int .u32 0,.int .u32 0,.int .u32 0,.int .u32 0,.int .u32 0,.int .u32 0,.int .u32 0,.int .u32 0,.int .u32 0,.int .u32 0,.int .u32 0,.int .u32 0,.int .u32 0,.int .u32 0,.int .u32 0,.int .u32 0,.int .u32 0,.int .u32 0,.int .u32 0,.int .u32 0,.int .u32 0,.int .u32 0,.int .u32 0,.int .u32 0,.int .u32 0,.int .u32 0,.int .u32 0,.int .u32 0,.int .u32 0,.int .u32 0,.int .u32 0,.int .u32 0,.int .u32 0,.int .u32 0,.int .u32 0,.int .u32 0]⟩:=⟨aPf⟩
instance :TiC Tryz.prog 128 ⟨.int .u16,1,2,.int .u16 0⟩:=⟨aVr⟩
instance :NoA Tryz.prog 128:=⟨trivial⟩
instance :TiC Tryz.prog 134 ⟨.array 4 78,4,32,.agg #[.int .u64 0,.int .u64 0,.int .u64 0,.int .u64 0]⟩:=⟨aVC⟩
instance :TiC Tryz.prog 135 ⟨.array 4 78,4,32,.agg #[.int .u64 0,.int .u64 0,.int .u64 0,.int .u64 0]⟩:=⟨b8⟩
instance :TiC Tryz.prog 138 ⟨.struct #[{name:= "E",type:=135,offset:=0,embedded:=false,tag:= "",pkgPath:= "",byteOffset:=0},{name:= "S",type:=135,offset:=4,embedded:=false,tag:= "",pkgPath:= "",byteOffset:=32}],8,64,.agg #[.int .u64 0,.int .u64 0,.int .u64 0,.int .u64 0,.int .u64 0,.int .u64 0,.int .u64 0,.int .u64 0]⟩:=⟨aVx⟩
instance :TiC Tryz.prog 139 ⟨.struct #[{name:= "E",type:=135,offset:=0,embedded:=false,tag:= "",pkgPath:= "",byteOffset:=0},{name:= "S",type:=135,offset:=4,embedded:=false,tag:= "",pkgPath:= "",byteOffset:=32}],8,64,.agg #[.int .u64 0,.int .u64 0,.int .u64 0,.int .u64 0,.int .u64 0,.int .u64 0,.int .u64 0,.int .u64 0]⟩:=⟨sB⟩
instance :TiC Tryz.prog 167 ⟨.array 8 78,8,64,.agg #[.int .u64 0,.int .u64 0,.int .u64 0,.int .u64 0,.int .u64 0,.int .u64 0,.int .u64 0,.int .u64 0]⟩:=⟨aHs⟩
instance :TiC Tryz.prog 169 ⟨.slice 78,1,24,.slice none 0 0⟩:=⟨aOR⟩
instance :NoA Tryz.prog 169:=⟨trivial⟩
instance :TiC Tryz.prog 171 ⟨.slice 28,1,24,.slice none 0 0⟩:=⟨aSw⟩
instance :NoA Tryz.prog 171:=⟨trivial⟩
instance :TiC Tryz.prog 184 ⟨.pointer 5,1,8,.pointer none⟩:=⟨aVZ⟩
instance :NoA Tryz.prog 184:=⟨trivial⟩
theorem aS4 (b off:Nat):aR Tryz.prog 26 (.ptr b off) 0=some (.ptr b (off+0)):=by simp[aR,aFG,wM]
theorem aSQ (es:List V)(i off:Nat):aR Tryz.prog 26 (.eptr es i off) 0=some (.eptr es i (off+0)):=by simp[aR,aFG,wM]
instance :FaC Tryz.prog 26 0 0:=⟨aS4,aSQ⟩
theorem aT3 (b off:Nat):aR Tryz.prog 26 (.ptr b off) 1=some (.ptr b (off+1)):=by simp[aR,aFG,aOw]
theorem aSZ (es:List V)(i off:Nat):aR Tryz.prog 26 (.eptr es i off) 1=some (.eptr es i (off+1)):=by simp[aR,aFG,aOw]
instance :FaC Tryz.prog 26 1 1:=⟨aT3,aSZ⟩
theorem aT0 (b off:Nat):aR Tryz.prog 26 (.ptr b off) 2=some (.ptr b (off+2)):=by simp[aR,aFG,aPe]
theorem aSR (es:List V)(i off:Nat):aR Tryz.prog 26 (.eptr es i off) 2=some (.eptr es i (off+2)):=by simp[aR,aFG,aPe]
instance :FaC Tryz.prog 26 2 2:=⟨aT0,aSR⟩
theorem aTs (b off:Nat):aR Tryz.prog 26 (.ptr b off) 3=some (.ptr b (off+3)):=by simp[aR,aFG,wM]
theorem aTA (es:List V)(i off:Nat):aR Tryz.prog 26 (.eptr es i off) 3=some (.eptr es i (off+3)):=by simp[aR,aFG,wM]
instance :FaC Tryz.prog 26 3 3:=⟨aTs,aTA⟩
theorem aSS (b off:Nat):aR Tryz.prog 30 (.ptr b off) 0=some (.ptr b (off+0)):=by simp[aR,pF,wJ]
theorem aTE (es:List V)(i off:Nat):aR Tryz.prog 30 (.eptr es i off) 0=some (.eptr es i (off+0)):=by simp[aR,pF,wJ]
instance :FaC Tryz.prog 30 0 0:=⟨aSS,aTE⟩
theorem aTL (b off:Nat):aR Tryz.prog 30 (.ptr b off) 1=some (.ptr b (off+32)):=by simp[aR,pF,wM]
theorem aTU (es:List V)(i off:Nat):aR Tryz.prog 30 (.eptr es i off) 1=some (.eptr es i (off+32)):=by simp[aR,pF,wM]
instance :FaC Tryz.prog 30 1 32:=⟨aTL,aTU⟩
theorem aTg (b off:Nat):aR Tryz.prog 33 (.ptr b off) 0=some (.ptr b (off+0)):=by simp[aR,aGE,ti2]
theorem aTe (es:List V)(i off:Nat):aR Tryz.prog 33 (.eptr es i off) 0=some (.eptr es i (off+0)):=by simp[aR,aGE,ti2]
instance :FaC Tryz.prog 33 0 0:=⟨aTg,aTe⟩
theorem aT2 (b off:Nat):aR Tryz.prog 33 (.ptr b off) 1=some (.ptr b (off+1)):=by simp[aR,aGE,dB]
theorem aS9 (es:List V)(i off:Nat):aR Tryz.prog 33 (.eptr es i off) 1=some (.eptr es i (off+1)):=by simp[aR,aGE,dB]
instance :FaC Tryz.prog 33 1 1:=⟨aT2,aS9⟩
theorem aSY (b off:Nat):aR Tryz.prog 35 (.ptr b off) 0=some (.ptr b (off+0)):=by simp[aR,aA7,pF]
theorem aSC (es:List V)(i off:Nat):aR Tryz.prog 35 (.eptr es i off) 0=some (.eptr es i (off+0)):=by simp[aR,aA7,pF]
instance :FaC Tryz.prog 35 0 0:=⟨aSY,aSC⟩
theorem aTD (b off:Nat):aR Tryz.prog 35 (.ptr b off) 1=some (.ptr b (off+33)):=by simp[aR,aA7,aGE]
theorem aS1 (es:List V)(i off:Nat):aR Tryz.prog 35 (.eptr es i off) 1=some (.eptr es i (off+33)):=by simp[aR,aA7,aGE]
instance :FaC Tryz.prog 35 1 33:=⟨aTD,aS1⟩
theorem aTu (b off:Nat):aR Tryz.prog 35 (.ptr b off) 2=some (.ptr b (off+35)):=by simp[aR,aA7,dS]
theorem aTR (es:List V)(i off:Nat):aR Tryz.prog 35 (.eptr es i off) 2=some (.eptr es i (off+35)):=by simp[aR,aA7,dS]
instance :FaC Tryz.prog 35 2 35:=⟨aTu,aTR⟩
theorem aOv (b off:Nat):aR Tryz.prog 48 (.ptr b off) 0=some (.ptr b (off+0)):=by simp[aR,rG,pF]
theorem aTc (es:List V)(i off:Nat):aR Tryz.prog 48 (.eptr es i off) 0=some (.eptr es i (off+0)):=by simp[aR,rG,pF]
instance :FaC Tryz.prog 48 0 0:=⟨aOv,aTc⟩
theorem aOm (b off:Nat):aR Tryz.prog 48 (.ptr b off) 1=some (.ptr b (off+33)):=by simp[aR,rG,wM]
theorem aTj (es:List V)(i off:Nat):aR Tryz.prog 48 (.eptr es i off) 1=some (.eptr es i (off+33)):=by simp[aR,rG,wM]
instance :FaC Tryz.prog 48 1 33:=⟨aOm,aTj⟩
theorem aS5 (b off:Nat):aR Tryz.prog 48 (.ptr b off) 2=some (.ptr b (off+34)):=by simp[aR,rG,aB8]
theorem aTp (es:List V)(i off:Nat):aR Tryz.prog 48 (.eptr es i off) 2=some (.eptr es i (off+34)):=by simp[aR,rG,aB8]
instance :FaC Tryz.prog 48 2 34:=⟨aS5,aTp⟩
theorem aSP (b off:Nat):aR Tryz.prog 54 (.ptr b off) 0=some (.ptr b (off+0)):=by simp[aR,aCy,wJ]
theorem aSG (es:List V)(i off:Nat):aR Tryz.prog 54 (.eptr es i off) 0=some (.eptr es i (off+0)):=by simp[aR,aCy,wJ]
instance :FaC Tryz.prog 54 0 0:=⟨aSP,aSG⟩
theorem aTZ (b off:Nat):aR Tryz.prog 54 (.ptr b off) 1=some (.ptr b (off+32)):=by simp[aR,aCy,dS]
theorem aTQ (es:List V)(i off:Nat):aR Tryz.prog 54 (.eptr es i off) 1=some (.eptr es i (off+32)):=by simp[aR,aCy,dS]
instance :FaC Tryz.prog 54 1 32:=⟨aTZ,aTQ⟩
theorem aTK (b off:Nat):aR Tryz.prog 54 (.ptr b off) 2=some (.ptr b (off+33)):=by simp[aR,aCy,dS]
theorem aT7 (es:List V)(i off:Nat):aR Tryz.prog 54 (.eptr es i off) 2=some (.eptr es i (off+33)):=by simp[aR,aCy,dS]
instance :FaC Tryz.prog 54 2 33:=⟨aTK,aT7⟩
theorem aTl (b off:Nat):aR Tryz.prog 88 (.ptr b off) 0=some (.ptr b (off+0)):=by simp[aR,aBX,aCy]
theorem aTV (es:List V)(i off:Nat):aR Tryz.prog 88 (.eptr es i off) 0=some (.eptr es i (off+0)):=by simp[aR,aBX,aCy]
instance :FaC Tryz.prog 88 0 0:=⟨aTl,aTV⟩
theorem aTS (b off:Nat):aR Tryz.prog 88 (.ptr b off) 1=some (.ptr b (off+34)):=by simp[aR,aBX,aB8]
theorem aSB (es:List V)(i off:Nat):aR Tryz.prog 88 (.eptr es i off) 1=some (.eptr es i (off+34)):=by simp[aR,aBX,aB8]
instance :FaC Tryz.prog 88 1 34:=⟨aTS,aSB⟩
theorem aTq (b off:Nat):aR Tryz.prog 88 (.ptr b off) 2=some (.ptr b (off+35)):=by simp[aR,aBX,aKa]
theorem aTG (es:List V)(i off:Nat):aR Tryz.prog 88 (.eptr es i off) 2=some (.eptr es i (off+35)):=by simp[aR,aBX,aKa]
instance :FaC Tryz.prog 88 2 35:=⟨aTq,aTG⟩
theorem aTF (b off:Nat):aR Tryz.prog 88 (.ptr b off) 3=some (.ptr b (off+36)):=by simp[aR,aBX,dS]
theorem aSN (es:List V)(i off:Nat):aR Tryz.prog 88 (.eptr es i off) 3=some (.eptr es i (off+36)):=by simp[aR,aBX,dS]
instance :FaC Tryz.prog 88 3 36:=⟨aTF,aSN⟩
theorem aN7 (b off:Nat):aR Tryz.prog 90 (.ptr b off) 0=some (.ptr b (off+0)):=by simp[aR,aCr,dS]
theorem aTO (es:List V)(i off:Nat):aR Tryz.prog 90 (.eptr es i off) 0=some (.eptr es i (off+0)):=by simp[aR,aCr,dS]
instance :FaC Tryz.prog 90 0 0:=⟨aN7,aTO⟩
theorem aJU (b off:Nat):aR Tryz.prog 90 (.ptr b off) 1=some (.ptr b (off+1)):=by simp[aR,aCr,dB]
theorem aSX (es:List V)(i off:Nat):aR Tryz.prog 90 (.eptr es i off) 1=some (.eptr es i (off+1)):=by simp[aR,aCr,dB]
instance :FaC Tryz.prog 90 1 1:=⟨aJU,aSX⟩
theorem aJ0 (b off:Nat):aR Tryz.prog 90 (.ptr b off) 2=some (.ptr b (off+2)):=by simp[aR,aCr,dS]
theorem aTT (es:List V)(i off:Nat):aR Tryz.prog 90 (.eptr es i off) 2=some (.eptr es i (off+2)):=by simp[aR,aCr,dS]
instance :FaC Tryz.prog 90 2 2:=⟨aJ0,aTT⟩
theorem j8 (b off:Nat):aR Tryz.prog 90 (.ptr b off) 3=some (.ptr b (off+3)):=by simp[aR,aCr,dS]
theorem aTJ (es:List V)(i off:Nat):aR Tryz.prog 90 (.eptr es i off) 3=some (.eptr es i (off+3)):=by simp[aR,aCr,dS]
instance :FaC Tryz.prog 90 3 3:=⟨j8,aTJ⟩
theorem aR6 (b off:Nat):aR Tryz.prog 103 (.ptr b off) 0=some (.ptr b (off+0)):=by simp[aR,aFI,ti4]
theorem aQI (es:List V)(i off:Nat):aR Tryz.prog 103 (.eptr es i off) 0=some (.eptr es i (off+0)):=by simp[aR,aFI,ti4]
instance :FaC Tryz.prog 103 0 0:=⟨aR6,aQI⟩
theorem aRR (b off:Nat):aR Tryz.prog 103 (.ptr b off) 1=some (.ptr b (off+1)):=by simp[aR,aFI,ti4]
theorem aSf (es:List V)(i off:Nat):aR Tryz.prog 103 (.eptr es i off) 1=some (.eptr es i (off+1)):=by simp[aR,aFI,ti4]
instance :FaC Tryz.prog 103 1 1:=⟨aRR,aSf⟩
theorem aRJ (b off:Nat):aR Tryz.prog 113 (.ptr b off) 0=some (.ptr b (off+0)):=by simp[aR,aDR,ti4]
theorem aQH (es:List V)(i off:Nat):aR Tryz.prog 113 (.eptr es i off) 0=some (.eptr es i (off+0)):=by simp[aR,aDR,ti4]
instance :FaC Tryz.prog 113 0 0:=⟨aRJ,aQH⟩
theorem aQ6 (b off:Nat):aR Tryz.prog 113 (.ptr b off) 1=some (.ptr b (off+1)):=by simp[aR,aDR,ti4]
theorem aR3 (es:List V)(i off:Nat):aR Tryz.prog 113 (.eptr es i off) 1=some (.eptr es i (off+1)):=by simp[aR,aDR,ti4]
instance :FaC Tryz.prog 113 1 1:=⟨aQ6,aR3⟩
theorem aR2 (b off:Nat):aR Tryz.prog 139 (.ptr b off) 0=some (.ptr b (off+0)):=by simp[aR,sB,b8]
theorem aQQ (es:List V)(i off:Nat):aR Tryz.prog 139 (.eptr es i off) 0=some (.eptr es i (off+0)):=by simp[aR,sB,b8]
instance :FaC Tryz.prog 139 0 0:=⟨aR2,aQQ⟩
theorem aQV (b off:Nat):aR Tryz.prog 139 (.ptr b off) 1=some (.ptr b (off+4)):=by simp[aR,sB,b8]
theorem aQX (es:List V)(i off:Nat):aR Tryz.prog 139 (.eptr es i off) 1=some (.eptr es i (off+4)):=by simp[aR,sB,b8]
instance :FaC Tryz.prog 139 1 4:=⟨aQV,aQX⟩
theorem aW8 :lD Tryz.prog 26=some #[(0,1),(1,1),(2,1),(3,1)]:=by kernel_rfl
instance :PlC Tryz.prog 26 #[(0,1),(1,1),(2,1),(3,1)]:=⟨aW8⟩
theorem aIz :lD Tryz.prog 30=some #[(0,32),(32,1)]:=by kernel_rfl
instance :PlC Tryz.prog 30 #[(0,32),(32,1)]:=⟨aIz⟩
theorem aXd :lD Tryz.prog 33=some #[(0,1),(1,1)]:=by kernel_rfl
instance :PlC Tryz.prog 33 #[(0,1),(1,1)]:=⟨aXd⟩
theorem aRW :lD Tryz.prog 35=some #[(0,33),(33,2),(35,1),(36,1)]:=by kernel_rfl
instance :PlC Tryz.prog 35 #[(0,33),(33,2),(35,1),(36,1)]:=⟨aRW⟩
theorem aRI :lD Tryz.prog 48=some #[(0,33),(33,1),(34,1)]:=by kernel_rfl
instance :PlC Tryz.prog 48 #[(0,33),(33,1),(34,1)]:=⟨aRI⟩
theorem aRS :lD Tryz.prog 54=some #[(0,32),(32,1),(33,1)]:=by kernel_rfl
instance :PlC Tryz.prog 54 #[(0,32),(32,1),(33,1)]:=⟨aRS⟩
theorem aRZ :lD Tryz.prog 88=some #[(0,34),(34,1),(35,1),(36,1)]:=by kernel_rfl
instance :PlC Tryz.prog 88 #[(0,34),(34,1),(35,1),(36,1)]:=⟨aRZ⟩
theorem aW5 :lD Tryz.prog 90=some #[(0,1),(1,1),(2,1),(3,1)]:=by kernel_rfl
instance :PlC Tryz.prog 90 #[(0,1),(1,1),(2,1),(3,1)]:=⟨aW5⟩
theorem aVJ :lD Tryz.prog 103=some #[(0,1),(1,1)]:=by kernel_rfl
instance :PlC Tryz.prog 103 #[(0,1),(1,1)]:=⟨aVJ⟩
theorem aVP :lD Tryz.prog 113=some #[(0,1),(1,1)]:=by kernel_rfl
instance :PlC Tryz.prog 113 #[(0,1),(1,1)]:=⟨aVP⟩
theorem aGb :lD Tryz.prog 139=some #[(0,4),(4,4)]:=by kernel_rfl
instance :PlC Tryz.prog 139 #[(0,4),(4,4)]:=⟨aGb⟩
theorem aG0 :aAF Tryz.prog 9 30=some ((aXA 32 ([.int .u8])).flatten++[.int .u32]):=by kernel_rfl
theorem aH1 :Tryz.prog.eqGuardType Tryz.prog.depth 30=false:=by kernel_rfl
noncomputable def aFY :MT:=(wQ Tryz.prog 74).getD default
theorem aMF :wQ Tryz.prog 74=some aFY:=by kernel_rfl
theorem aMX :aFY.code=33000:=by kernel_rfl
theorem aOG :oK aFY.dk=33:=by kernel_rfl
theorem aPi :oK aFY.de=0:=by kernel_rfl
theorem aR7 :ofValue aFY.de.zero=(eB false):=by kernel_rfl
theorem aV0 :aFY.kt=30:=by kernel_rfl
theorem aOV :aEG Tryz.prog aFY.kt (fun a:aV=> .agg (aWe (fU a)).toArray) vA:=by
 rw[aV0];exact aO2 (d:=9) pF rfl aG0 (aXL rfl) (fun _=>rfl) (fun _ _=>rfl)
theorem zH {p:Prop} (h:p:=by(simp only[kR,fE,j7,r5,Blk.rn,V.rns,V.rn,sg,List.map_cons,List.map_nil,Option.map_some,Option.map_none,List.drop_succ_cons,List.drop_zero,List.drop_nil,List.set_cons_zero,List.set_cons_succ,List.cons_append,List.nil_append,List.append_nil,kF,kI,yO,xM,eK,eH,fX,gF,fM,fJ,q7,gZ,gY,jM,jY,dX,dY,cF,cG,uI,uF,rN,rP,rH,uL,rS,List.getElem?_cons_zero,List.getElem?_cons_succ,List.getElem?_nil,List.length_cons,List.length_nil,Nat.reduceAdd,Nat.reduceSub,Nat.add_zero,Nat.zero_add,Nat.sub_self,Nat.sub_zero]<;>rfl)):p:=h
theorem zB {f:FuncId}{hs hs' hb hb':Hp}{args xs:List V}{r v:V}(hc:Vm.Fn Tryz.prog f hs args r hs')(ρ:List Nat) (hnd:ρ.Nodup:=by decide) (hlt:ρ.all (fun b=>Nat.blt b hb.length)=true:=by rfl)
  (hl:Lend (sg ρ hb.length) hb ρ hs:=by repeat (first|exact Lend.nil|refine Lend.cons rfl rfl ?_|refine Lend.cons rfl (qR (fun _=>rfl) _) ?_|refine Lend.cons rfl (iG (fun _=>rfl) _) ?_)) (hx:V.rns (sg ρ hb.length) args=xs:=by first|rfl|(simp only[V.rn,V.rns,kF,kI]<;>rfl)) (hr:r.rn (sg ρ hb.length)=v:=by first|rfl|(simp only[V.rn,V.rns,kF,kI]<;>rfl)) (hh:kR hb ρ hs'=hb':=by(simp only[kR,fE,j7,r5,Blk.rn,V.rns,V.rn,sg,List.map_cons,List.map_nil,Option.map_some,Option.map_none,List.drop_succ_cons,List.drop_zero,List.drop_nil,List.set_cons_zero,List.set_cons_succ,List.cons_append,List.nil_append,List.append_nil,kF,kI,yO,xM,eK,eH,fX,gF,fM,fJ,q7,gZ,gY,jM,jY,dX,dY,cF,cG,uI,uF,rN,rP,rH,uL,rS,List.getElem?_cons_zero,List.getElem?_cons_succ,List.getElem?_nil,List.length_cons,List.length_nil,Nat.reduceAdd,Nat.reduceSub,Nat.add_zero,Nat.zero_add,Nat.sub_self,Nat.sub_zero]<;>rfl)):Vm.Fn Tryz.prog f hb xs v hb':=Vm.Fn.lendB hc ρ hnd hlt hl hx hr hh
theorem zL {f:FuncId}{hs hs' hb hb':Hp}{args xs:List V}{r v:V}(hc:Vm.Fn Tryz.prog f hs args r hs')(ρ β:List Nat) (hnd:ρ.Nodup:=by decide) (hlt:ρ.all (fun b=>Nat.blt b hb.length)=true:=by rfl) (hdis: ∀b∈β,b∉ρ:=by decide)
  (hl:Lend (sg ρ hb.length) hb ρ hs:=by repeat (first|exact Lend.nil|refine Lend.cons rfl rfl ?_|refine Lend.cons rfl (qR (fun _=>rfl) _) ?_|refine Lend.cons rfl (iG (fun _=>rfl) _) ?_))
  (hx:Brw (sg ρ hb.length) (only β hb) xs args:=by repeat (first|exact Brw.nil|refine Brw.same rfl ?_|refine Brw.row (aKC rfl rfl (fun _=>rfl)) ?_|refine Brw.same (by simp only[V.rn,V.rns,kF,kI]) ?_))
  (hrf:r.rf=true:=by first|rfl|simp[V.rf,V.rfs,aMD,aMm]) (hrb:rfB hs':=by repeat (first|exact rfB.nil|refine rfB.dead ?_|refine rfB.live rfl ?_|refine rfB.live (aDU (fun _=>rfl) _) ?_|refine rfB.live (rfs_flat (fun _=>rfl) _) ?_))
  (hr:r.rn (sg ρ hb.length)=v:=by first|rfl|(simp only[V.rn,V.rns,kF,kI]<;>rfl)) (hh:kR hb ρ hs'=hb':=by simp only[kR,fE,j7,r5,Blk.rn,V.rns,V.rn,sg,List.map_cons,List.map_nil,Option.map_some,Option.map_none,List.drop_succ_cons,List.drop_zero,List.drop_nil,List.set_cons_zero,List.set_cons_succ,List.cons_append,List.nil_append,List.append_nil,kF,kI,yO,xM,eK,eH,fX,gF,fM,fJ,q7,gZ,gY,jM,jY,dX,dY,cF,cG,uI,uF,rN,rP,rH,uL,rS,List.getElem?_cons_zero,List.getElem?_cons_succ,List.getElem?_nil,List.length_cons,List.length_nil,Nat.reduceAdd,Nat.reduceSub,Nat.add_zero,Nat.zero_add,Nat.sub_self,Nat.sub_zero]):Vm.Fn Tryz.prog f hb xs v hb':=Vm.Fn.lendR hc ρ β hnd hlt hdis hl hx hrf hrb hr hh
theorem zc {f:FuncId}{hb:Hp}{args xs:List V}{r:V}{N n t:Nat}{ops:Array Oper}{l:List Oper}{fr:List (Nat×V)}{K:List V→Hp→Prop}{ty:TypeId}{pos:String}{aft:Array Edge}{ws:List Operand}{ts:Array TypeId}{hs hs' hb':Hp}{v:V}(hc:Vm.Fn Tryz.prog f hs args r hs')(ρ:List Nat)(k:OpsX Tryz.prog N none ops l (aI n ((t,v)::fr)) hb' K) (hw:t5 n fr ws=some xs:=by rfl) (hnd:ρ.Nodup:=by decide) (hlt:ρ.all (fun b=>Nat.blt b hb.length)=true:=by rfl) (hl:Lend (sg ρ hb.length) hb ρ hs:=by repeat (first|exact Lend.nil|refine Lend.cons rfl rfl ?_|refine Lend.cons rfl (qR (fun _=>rfl) _) ?_|refine Lend.cons rfl (iG (fun _=>rfl) _) ?_)) (hx:V.les noN xs (V.rns (sg ρ hb.length) args):=by repeat (first|exact V.les_refl _ _|exact V.les_nil|apply V.les_cons|exact V.le_refl _ _|exact V.le_nil|exact V.le_row|exact V.le_arr (fun _=>rfl)|apply V.le_agg)) (hr:r.rn (sg ρ hb.length)=v:=by(simp only[kR,fE,j7,r5,Blk.rn,V.rns,V.rn,sg,List.map_cons,List.map_nil,Option.map_some,Option.map_none,List.drop_succ_cons,List.drop_zero,List.drop_nil,List.set_cons_zero,List.set_cons_succ,List.cons_append,List.nil_append,List.append_nil,kF,kI,yO,xM,eK,eH,fX,gF,fM,fJ,q7,gZ,gY,jM,jY,dX,dY,cF,cG,uI,uF,rN,rP,rH,uL,rS,List.getElem?_cons_zero,List.getElem?_cons_succ,List.getElem?_nil,List.length_cons,List.length_nil,Nat.reduceAdd,Nat.reduceSub,Nat.add_zero,Nat.zero_add,Nat.sub_self,Nat.sub_zero]<;>rfl)) (hh:kR hb ρ hs'=hb':=by(simp only[kR,fE,j7,r5,Blk.rn,V.rns,V.rn,sg,List.map_cons,List.map_nil,Option.map_some,Option.map_none,List.drop_succ_cons,List.drop_zero,List.drop_nil,List.set_cons_zero,List.set_cons_succ,List.cons_append,List.nil_append,List.append_nil,kF,kI,yO,xM,eK,eH,fX,gF,fM,fJ,q7,gZ,gY,jM,jY,dX,dY,cF,cG,uI,uF,rN,rP,rH,uL,rS,List.getElem?_cons_zero,List.getElem?_cons_succ,List.getElem?_nil,List.length_cons,List.length_nil,Nat.reduceAdd,Nat.reduceSub,Nat.add_zero,Nat.zero_add,Nat.sub_self,Nat.sub_zero]<;>rfl)):OpsX Tryz.prog N none ops (⟨some t,.call ⟨.value (.func f),ws.toArray,ts⟩,ty,pos,aft,none⟩::l) (aI n fr) hb K:=xC hw (Vm.Fn.argsLe (Vm.Fn.lendB hc ρ hnd hlt hl rfl hr hh) hx) k
theorem jI {f:FuncId}{hb:Hp}{args xs:List V}{r:V}{N n t:Nat}{ops:Array Oper}{l:List Oper}{fr:List (Nat×V)}{K:List V→Hp→Prop}{ty:TypeId}{pos:String}{aft:Array Edge}{ws:List Operand}{ts:Array TypeId}{hs hs' hb':Hp}{v:V}(hc:Vm.Fn Tryz.prog f hs args r hs')(ρ β:List Nat)(k:OpsX Tryz.prog N none ops l (aI n ((t,v)::fr)) hb' K) (hw:t5 n fr ws=some xs:=by rfl) (hnd:ρ.Nodup:=by decide) (hlt:ρ.all (fun b=>Nat.blt b hb.length)=true:=by rfl) (hdis: ∀b∈β,b∉ρ:=by decide) (hl:Lend (sg ρ hb.length) hb ρ hs:=by repeat (first|exact Lend.nil|refine Lend.cons rfl rfl ?_|refine Lend.cons rfl (qR (fun _=>rfl) _) ?_|refine Lend.cons rfl (iG (fun _=>rfl) _) ?_)) (hx:Brw (sg ρ hb.length) (only β hb) xs args:=by repeat (first|exact Brw.nil|refine Brw.same rfl ?_|refine Brw.row (aKC (by first|exact rfl|(simp only[b7,b6];done)|exact bH (by assumption)|exact cP (by assumption)) rfl (fun _=>rfl)) ?_|refine Brw.row (aFA (fun _=>rfl) zl (by first|exact rfl|(simp only[b7,b6];done)|exact bH (by assumption)|exact cP (by assumption)) rfl (fun _=>rfl)) ?_|refine Brw.same (by simp only[V.rn,V.rns,kF,kI]) ?_|refine Brw.le V.le_nil ?_|refine Brw.le V.le_row ?_)) (hrf:r.rf=true:=by first|rfl|simp[V.rf,V.rfs,aMD,aMm]) (hrb:rfB hs':=by repeat (first|exact rfB.nil|refine rfB.dead ?_|refine rfB.live rfl ?_|refine rfB.live (aDU (fun _=>rfl) _) ?_|refine rfB.live (rfs_flat (fun _=>rfl) _) ?_)) (hr:r.rn (sg ρ hb.length)=v:=by(simp only[kR,fE,j7,r5,Blk.rn,V.rns,V.rn,sg,List.map_cons,List.map_nil,Option.map_some,Option.map_none,List.drop_succ_cons,List.drop_zero,List.drop_nil,List.set_cons_zero,List.set_cons_succ,List.cons_append,List.nil_append,List.append_nil,kF,kI,yO,xM,eK,eH,fX,gF,fM,fJ,q7,gZ,gY,jM,jY,dX,dY,cF,cG,uI,uF,rN,rP,rH,uL,rS,List.getElem?_cons_zero,List.getElem?_cons_succ,List.getElem?_nil,List.length_cons,List.length_nil,Nat.reduceAdd,Nat.reduceSub,Nat.add_zero,Nat.zero_add,Nat.sub_self,Nat.sub_zero]<;>rfl)) (hh:kR hb ρ hs'=hb':=by(simp only[kR,fE,j7,r5,Blk.rn,V.rns,V.rn,sg,List.map_cons,List.map_nil,Option.map_some,Option.map_none,List.drop_succ_cons,List.drop_zero,List.drop_nil,List.set_cons_zero,List.set_cons_succ,List.cons_append,List.nil_append,List.append_nil,kF,kI,yO,xM,eK,eH,fX,gF,fM,fJ,q7,gZ,gY,jM,jY,dX,dY,cF,cG,uI,uF,rN,rP,rH,uL,rS,List.getElem?_cons_zero,List.getElem?_cons_succ,List.getElem?_nil,List.length_cons,List.length_nil,Nat.reduceAdd,Nat.reduceSub,Nat.add_zero,Nat.zero_add,Nat.sub_self,Nat.sub_zero]<;>rfl)):OpsX Tryz.prog N none ops (⟨some t,.call ⟨.value (.func f),ws.toArray,ts⟩,ty,pos,aft,none⟩::l) (aI n fr) hb K:=xC hw (Vm.Fn.lendR hc ρ β hnd hlt hdis hl hx hrf hrb hr hh) k
theorem zg {f:FuncId}{hb:Hp}{args xs:List V}{r:V}{N n t:Nat}{ops:Array Oper}{l:List Oper}{fr:List (Nat×V)}{K:List V→Hp→Prop}{ty:TypeId}{pos:String}{aft:Array Edge}{ws:List Operand}{ts:Array TypeId}{hs hs' hb':Hp}{v:V}{F G:List Nat}{gd:Option (Nat×Bool)}(hc:Vm.Fn Tryz.prog f hs args r hs')(ρ:List Nat)(k:OpsX Tryz.prog N (some (F,G)) ops l (aI n ((t,v)::fr)) hb' K) (hw:t5 n fr ws=some xs:=by rfl) (hnd:ρ.Nodup:=by decide) (hlt:ρ.all (fun b=>Nat.blt b hb.length)=true:=by rfl) (hl:Lend (sg ρ hb.length) hb ρ hs:=by repeat (first|exact Lend.nil|refine Lend.cons rfl rfl ?_|refine Lend.cons rfl (qR (fun _=>rfl) _) ?_|refine Lend.cons rfl (iG (fun _=>rfl) _) ?_)) (hx:V.les noN xs (V.rns (sg ρ hb.length) args):=by repeat (first|exact V.les_refl _ _|exact V.les_nil|apply V.les_cons|exact V.le_refl _ _|exact V.le_nil|exact V.le_row|exact V.le_arr (fun _=>rfl)|apply V.le_agg)) (hr:r.rn (sg ρ hb.length)=v:=by(simp only[kR,fE,j7,r5,Blk.rn,V.rns,V.rn,sg,List.map_cons,List.map_nil,Option.map_some,Option.map_none,List.drop_succ_cons,List.drop_zero,List.drop_nil,List.set_cons_zero,List.set_cons_succ,List.cons_append,List.nil_append,List.append_nil,kF,kI,yO,xM,eK,eH,fX,gF,fM,fJ,q7,gZ,gY,jM,jY,dX,dY,cF,cG,uI,uF,rN,rP,rH,uL,rS,List.getElem?_cons_zero,List.getElem?_cons_succ,List.getElem?_nil,List.length_cons,List.length_nil,Nat.reduceAdd,Nat.reduceSub,Nat.add_zero,Nat.zero_add,Nat.sub_self,Nat.sub_zero]<;>rfl)) (hh:kR hb ρ hs'=hb':=by(simp only[kR,fE,j7,r5,Blk.rn,V.rns,V.rn,sg,List.map_cons,List.map_nil,Option.map_some,Option.map_none,List.drop_succ_cons,List.drop_zero,List.drop_nil,List.set_cons_zero,List.set_cons_succ,List.cons_append,List.nil_append,List.append_nil,kF,kI,yO,xM,eK,eH,fX,gF,fM,fJ,q7,gZ,gY,jM,jY,dX,dY,cF,cG,uI,uF,rN,rP,rH,uL,rS,List.getElem?_cons_zero,List.getElem?_cons_succ,List.getElem?_nil,List.length_cons,List.length_nil,Nat.reduceAdd,Nat.reduceSub,Nat.add_zero,Nat.zero_add,Nat.sub_self,Nat.sub_zero]<;>rfl)) (hF:fQ F f=false:=by rfl) (hG:fQ G f=true→ ∃news,hb'=hb++news:=by first|exact(fun _=>⟨_,rfl⟩)|exact(fun _=>⟨[],(List.append_nil _).symm⟩)|exact(fun h=>absurd h (by decide))) (hg:Gd ops n fr gd:=by exact gD):OpsX Tryz.prog N (some (F,G)) ops (⟨some t,.call ⟨.value (.func f),ws.toArray,ts⟩,ty,pos,aft,gd⟩::l) (aI n fr) hb K:=xG hw (Vm.Fn.argsLe (Vm.Fn.lendB hc ρ hnd hlt hl rfl hr hh) hx) k hF hG hg
theorem zgL {f:FuncId}{hb:Hp}{args xs:List V}{r:V}{N n t:Nat}{ops:Array Oper}{l:List Oper}{fr:List (Nat×V)}{K:List V→Hp→Prop}{ty:TypeId}{pos:String}{aft:Array Edge}{ws:List Operand}{ts:Array TypeId}{hs hs' hb':Hp}{v:V}{F G:List Nat}{gd:Option (Nat×Bool)}(hc:Vm.Fn Tryz.prog f hs args r hs')(ρ β:List Nat)(k:OpsX Tryz.prog N (some (F,G)) ops l (aI n ((t,v)::fr)) hb' K) (hw:t5 n fr ws=some xs:=by rfl) (hnd:ρ.Nodup:=by decide) (hlt:ρ.all (fun b=>Nat.blt b hb.length)=true:=by rfl) (hdis: ∀b∈β,b∉ρ:=by decide) (hl:Lend (sg ρ hb.length) hb ρ hs:=by repeat (first|exact Lend.nil|refine Lend.cons rfl rfl ?_|refine Lend.cons rfl (qR (fun _=>rfl) _) ?_|refine Lend.cons rfl (iG (fun _=>rfl) _) ?_)) (hx:Brw (sg ρ hb.length) (only β hb) xs args:=by repeat (first|exact Brw.nil|refine Brw.same rfl ?_|refine Brw.row (aKC (by first|exact rfl|(simp only[b7,b6];done)|exact bH (by assumption)|exact cP (by assumption)) rfl (fun _=>rfl)) ?_|refine Brw.row (aFA (fun _=>rfl) zl (by first|exact rfl|(simp only[b7,b6];done)|exact bH (by assumption)|exact cP (by assumption)) rfl (fun _=>rfl)) ?_|refine Brw.same (by simp only[V.rn,V.rns,kF,kI]) ?_|refine Brw.le V.le_nil ?_|refine Brw.le V.le_row ?_)) (hrf:r.rf=true:=by first|rfl|simp[V.rf,V.rfs,aMD,aMm]) (hrb:rfB hs':=by repeat (first|exact rfB.nil|refine rfB.dead ?_|refine rfB.live rfl ?_|refine rfB.live (aDU (fun _=>rfl) _) ?_|refine rfB.live (rfs_flat (fun _=>rfl) _) ?_)) (hr:r.rn (sg ρ hb.length)=v:=by(simp only[kR,fE,j7,r5,Blk.rn,V.rns,V.rn,sg,List.map_cons,List.map_nil,Option.map_some,Option.map_none,List.drop_succ_cons,List.drop_zero,List.drop_nil,List.set_cons_zero,List.set_cons_succ,List.cons_append,List.nil_append,List.append_nil,kF,kI,yO,xM,eK,eH,fX,gF,fM,fJ,q7,gZ,gY,jM,jY,dX,dY,cF,cG,uI,uF,rN,rP,rH,uL,rS,List.getElem?_cons_zero,List.getElem?_cons_succ,List.getElem?_nil,List.length_cons,List.length_nil,Nat.reduceAdd,Nat.reduceSub,Nat.add_zero,Nat.zero_add,Nat.sub_self,Nat.sub_zero]<;>rfl)) (hh:kR hb ρ hs'=hb':=by(simp only[kR,fE,j7,r5,Blk.rn,V.rns,V.rn,sg,List.map_cons,List.map_nil,Option.map_some,Option.map_none,List.drop_succ_cons,List.drop_zero,List.drop_nil,List.set_cons_zero,List.set_cons_succ,List.cons_append,List.nil_append,List.append_nil,kF,kI,yO,xM,eK,eH,fX,gF,fM,fJ,q7,gZ,gY,jM,jY,dX,dY,cF,cG,uI,uF,rN,rP,rH,uL,rS,List.getElem?_cons_zero,List.getElem?_cons_succ,List.getElem?_nil,List.length_cons,List.length_nil,Nat.reduceAdd,Nat.reduceSub,Nat.add_zero,Nat.zero_add,Nat.sub_self,Nat.sub_zero]<;>rfl)) (hF:fQ F f=false:=by rfl) (hG:fQ G f=true→ ∃news,hb'=hb++news:=by first|exact(fun _=>⟨_,rfl⟩)|exact(fun _=>⟨[],(List.append_nil _).symm⟩)|exact(fun h=>absurd h (by decide))) (hg:Gd ops n fr gd:=by exact gD):OpsX Tryz.prog N (some (F,G)) ops (⟨some t,.call ⟨.value (.func f),ws.toArray,ts⟩,ty,pos,aft,gd⟩::l) (aI n fr) hb K:=xG hw (Vm.Fn.lendR hc ρ β hnd hlt hdis hl hx hrf hrb hr hh) k hF hG hg
theorem xp {f:FuncId}{hb:Hp}{args xs:List V}{r:V}{N n t:Nat}{ops:Array Oper}{l:List Oper}{fr:List (Nat×V)}{K:List V→Hp→Prop}{ty:TypeId}{pos:String}{aft:Array Edge}{ws:List Operand}{ts:Array TypeId}(hc:Vm.Fn Tryz.prog f [] args r [])(k:OpsX Tryz.prog N none ops l (aI n ((t,r)::fr)) hb K) (hw:t5 n fr ws=some xs:=by rfl) (hx:V.les noN xs args:=by repeat (first|exact V.les_refl _ _|exact V.les_nil|apply V.les_cons|exact V.le_refl _ _|exact V.le_nil|exact V.le_row|exact V.le_arr (fun _=>rfl)|apply V.le_agg)) (ha:V.rns (sg [] hb.length) args=args:=by first|rfl|(simp only[V.rn,V.rns,kF,kI]<;>rfl)) (hr:r.rn (sg [] hb.length)=r:=by first|rfl|(simp only[V.rn,V.rns,kF,kI]<;>rfl)):OpsX Tryz.prog N none ops (⟨some t,.call ⟨.value (.func f),ws.toArray,ts⟩,ty,pos,aft,none⟩::l) (aI n fr) hb K:=xC hw (Vm.Fn.argsLe (Vm.Fn.pure hc ha hr) hx) k
theorem xu {f:FuncId}{hb:Hp}{args xs:List V}{r:V}{N n t:Nat}{ops:Array Oper}{l:List Oper}{fr:List (Nat×V)}{K:List V→Hp→Prop}{ty:TypeId}{pos:String}{aft:Array Edge}{ws:List Operand}{ts:Array TypeId}{F G:List Nat}{gd:Option (Nat×Bool)}(hc:Vm.Fn Tryz.prog f [] args r [])(k:OpsX Tryz.prog N (some (F,G)) ops l (aI n ((t,r)::fr)) hb K) (hw:t5 n fr ws=some xs:=by rfl) (hx:V.les noN xs args:=by repeat (first|exact V.les_refl _ _|exact V.les_nil|apply V.les_cons|exact V.le_refl _ _|exact V.le_nil|exact V.le_row|exact V.le_arr (fun _=>rfl)|apply V.le_agg)) (ha: ∀L,V.rns (sg [] L) args=args:=by(intro L;first|rfl|(simp only[V.rn,V.rns,kF,kI]<;>rfl))) (hr: ∀L,r.rn (sg [] L)=r:=by(intro L;first|rfl|(simp only[V.rn,V.rns,kF,kI]<;>rfl))) (hG:fQ G f=false:=by rfl) (hg:Gd ops n fr gd:=by exact gD):OpsX Tryz.prog N (some (F,G)) ops (⟨some t,.call ⟨.value (.func f),ws.toArray,ts⟩,ty,pos,aft,gd⟩::l) (aI n fr) hb K:=xU hw (fun _=>Vm.Fn.argsLe (Vm.Fn.pure hc (ha _) (hr _)) hx) k hG hg
end Go.Proofs.YtbjiaghljpoliaaGreatDoor
