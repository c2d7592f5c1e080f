/- Texts of ours, joined: PlainU4, PlainV1, PlainV2, PlainV3, PlainN1, PlainH1, PlainH2, PlainC1, PlainN2, PlainV4, PlainV5, PlainR1, PlainV6, PlainVG, PlainC2, PlainC3, PlainVH, PlainVI, PlainC4, PlainC5, PlainC6, PlainC7, PlainK1, PlainK2, PlainK3, PlainK4, PlainK5, PlainK6, PlainK7, PlainK8, PlainK9, PlainK10, PlainK11, PlainK12. -/
import Derived.Test.YtnllpckhipmpgaaGreatDoorQScriptOps3
open Option renaming bind_some → aQr,bind_eq_some_iff → aQT
open Bool renaming false_eq_true → aQs,not_true → aQI,true_and → aQM,and_eq_true → aRk,true_eq_false → aRr,not_false → aRt,not_eq_true' → aRu,false_and → aRE
open Int renaming toNat_natCast → aQt,tdiv → aRC,tmod → aRD
open Go.IntKind renaming i64 → aQu,u8 → aQJ,u32 → aQL,u64 → aRb,wrap_u32 → aRQ,wrap_u8 → aRS
open List renaming replicate → aQv,take_of_length_le → aQw,drop_eq_getElem_cons → aQx,getElem?_eq_getElem → aQz,drop_zero → aQA,drop_eq_nil_of_le → aQB,getElem_mem → aQD,length_cons → aQE,length_set → aQF,getD_eq_getElem?_getD → aQG,nil_append → aQO,mem_of_mem_take → aQP,mem_of_mem_drop → aQQ,append_assoc → aQR,append_nil → aQS,length_append → aQU,mem_singleton → aQV,length_replicate → aQZ,flatten_cons → aQ0,getElem?_append_right → aQ1,range'_succ → aQ2,getElem?_replicate → aQ5,mem_append → aQ6,getElem?_set_self → aQ9,range → aRa,set_append_right → aRe,all_eq_true → aRf,flatten_nil → aRh,not_mem_nil → aRi,drop_append_of_le_length → aRj,mem_cons → aRl,range' → aRo,foldl_cons → aRp,replicate_succ → aRq,mem_or_eq_of_mem_set → aRs,cons_append → aRv,length_take → aRw,length_drop → aRx,mem_map → aRy,range_zero → aRz,take_append_drop → aRB,set_set → aRO,map_nil → aRP,drop_left' → aRT,take_left' → aRU
open Nat renaming mod_lt → aQy,mod_eq_of_lt → aQC,le_refl → aQH,lt_of_lt_of_le → aQK,two_pow_add_eq_or_of_lt → aQN,mul_comm → aQW,div_lt_iff_lt_mul → aQX,sub_zero → aQY,pow_succ → aQ3,lt_of_le_of_lt → aQ4,testBit_eq_decide_div_mod_eq → aQ7,div_div_eq_div_mul → aQ8,pow_zero → aRc,add_zero → aRd,div_eq_of_lt → aRg,pow_add → aRm,add_le_add_left → aRn,lt_trans → aRA,pow_pos → aRF,div_one → aRG,add_assoc → aRH,mod_eq_sub_mod → aRI,add_sub_cancel → aRJ,le_trans → aRK,zero_add → aRL,sub_self → aRM,add_comm → aRN,mul_one → aRR
set_option linter.unusedSimpArgs false
set_option linter.unusedVariables false
set_option linter.unusedSectionVars false
set_option maxRecDepth 20000
namespace Go.Proofs.YtnllpckhipmpgaaGreatDoor
open Go Go.Vm
theorem aMX :((aRa 256).all fun y=>match gM 0 (y:Int) 0 with|some v=>decide (0≤v∧v≤8∧y<2^v.toNat)|none=>false)=true:=by decide +kernel
theorem aJW (z:Int):aQu.wrap (0+aQu.wrap z)=aQu.wrap z:=by simp only[IntKind.wrap_i64];omega
theorem aNY {N x:Nat}(hx:x<256){n:Nat}(hn:n≤1000): ∃t:Nat,t≤8∧x<2^t∧gM N (x:Int) (n:Int)=some ((n+t:Nat):Int):=by
 have h:=aRf.1 aMX x (by simpa using hx)
 unfold gM at h⊢
 generalize hs:aJh _ (aQJ.wrap (x:Int))=s at h⊢
 cases s with
 |none=>simp at h
 |some z=>
  simp only[aQr,aJW,decide_eq_true_eq]at h⊢
  generalize aQu.wrap z=w at *
  obtain⟨h1,h2,h3⟩:=h
  clear hs
  refine⟨w.toNat, ?_,h3, ?_⟩<;>clear h3
  ·omega
  rw[b5 (by omega) (by omega)]
  congr 1;omega
theorem aHb {x k t:Nat}(h:x/2^k<2^t):x<2^(k+t):=by
 rw[aRm,aQW]
 exact(aQX (aRF (by omega))).1 h
theorem aLR (a b:Nat):decide ((a:Int)≤(b:Int))=decide (a≤b):=by
 by_cases h:a≤b
 ·rw[decide_eq_true h,decide_eq_true (by omega)]
 rw[decide_eq_false h,decide_eq_false (by omega)]
theorem aB1 {N x:Nat}(hx:x<18446744073709551616): ∃n:Nat,n≤64∧x<2^n∧oC N (x:Int)=some (n:Int):=by
 have j2: ∀(x n:Nat),x<65536→n≤100→ ∃t:Nat,t≤16∧x<2^t∧i5 N (x:Int) (n:Int)=some ((n+t:Nat):Int):=by
  intro x n hx hn
  unfold i5
  rw[show(256:Int)=((256:Nat):Int)from rfl,aLR]
  by_cases h:256≤x
  ·rw[decide_eq_true h,if_pos rfl,show shr .u64 (x:Int) 8=some ((x/256:Nat):Int)from u5 x 8 (aQK hx (by decide)),aQr,b5 (a:=(n:Int)+8) (by omega) (by omega),show(n:Int)+8=((n+8:Nat):Int) by omega]
   obtain⟨t,h1,h2,h3⟩:=aNY (N:=N) (show x/256<256 by omega) (show n+8≤1000 by omega)
   exact⟨8+t,aRn h1 8,aHb (k:=8) h2,by rw[h3,aRH]⟩
  rw[decide_eq_false h]
  obtain⟨t,h1,h2,h3⟩:=aNY (N:=N) (show x<256 by omega) (show n≤1000 by omega)
  exact⟨t,aRK h1 (by decide),h2,h3⟩
 have j1: ∀(x n:Nat),x<4294967296→n≤50→ ∃t:Nat,t≤32∧x<2^t∧i8 N (x:Int) (n:Int)=some ((n+t:Nat):Int):=by
  intro x n hx hn
  unfold i8
  rw[show(65536:Int)=((65536:Nat):Int)from rfl,aLR]
  by_cases h:65536≤x
  ·rw[decide_eq_true h,if_pos rfl,show shr .u64 (x:Int) 16=some ((x/65536:Nat):Int)from u5 x 16 (aQK hx (by decide)),aQr,b5 (a:=(n:Int)+16) (by omega) (by omega),show(n:Int)+16=((n+16:Nat):Int) by omega]
   obtain⟨t,h1,h2,h3⟩:=j2 (x/65536) (n+16) (by omega) (by omega)
   exact⟨16+t,aRn h1 16,aHb (k:=16) h2,by rw[h3,aRH]⟩
  rw[decide_eq_false h]
  obtain⟨t,h1,h2,h3⟩:=j2 x n (by omega) (by omega)
  exact⟨t,aRK h1 (by decide),h2,h3⟩
 unfold oC
 rw[show(4294967296:Int)=((4294967296:Nat):Int)from rfl,aLR]
 by_cases h:4294967296≤x
 ·rw[decide_eq_true h,if_pos rfl,show shr .u64 (x:Int) 32=some ((x/4294967296:Nat):Int)from u5 x 32 hx,aQr]
  obtain⟨t,h1,h2,h3⟩:=j1 (x/4294967296) 32 (by omega) (by omega)
  exact⟨32+t,aRn h1 32,aHb (k:=32) h2,h3⟩
 rw[decide_eq_false h]
 obtain⟨t,h1,h2,h3⟩:=j1 x 0 (by omega) (by omega)
 exact⟨t,aRK h1 (by decide),h2,by rw[aRL]at h3;exact h3⟩
theorem aO8 {N:Nat}(hN:70000≤N){e:Nat}(he:e<115792089237316195423570985008687907853269984665640564039457584007913129639936): ∃n:Nat,n≤256∧e<2^n∧aAx N (U e)=some (n:Int):=by
 obtain⟨a0,a1,a2,a3,x0,x1,x2,x3,ea,va⟩:=v6 he
 unfold vl at va
 obtain⟨n0,l0,p0,f0⟩:=aB1 (N:=N) x0
 obtain⟨n1,l1,p1,f1⟩:=aB1 (N:=N) x1
 obtain⟨n2,l2,p2,f2⟩:=aB1 (N:=N) x2
 obtain⟨n3,l3,p3,f3⟩:=aB1 (N:=N) x3
 rw[ea]
 obtain⟨m,hm⟩:=rJ (fun q=>oZ N (w4 a0 a1 a2 a3) q 3) hN
 unfold aAx
 rw[hm]
 simp only[oZ,a40,a41,a42,a43,i32,i21,i10,i0m,show decide ((0:Int)≤3)=true from rfl,show decide ((0:Int)≤2)=true from rfl,show decide ((0:Int)≤1)=true from rfl,show decide ((0:Int)≤0)=true from rfl,show decide ((0:Int)≤ -1)=false from rfl,if_true,aQs,if_false,aQr,yG,f0,f1,f2,f3]
 have nz: ∀x:Nat,(((x:Nat):Int) != 0)= !decide (x=0):=fun x=>by
  by_cases h:x=0
  ·subst h;rfl
  rw[decide_eq_false h];simp;omega
 rw[nz,nz,nz,nz]
 have wr: ∀(i n:Nat),i≤3→n≤64→aQu.wrap (aQu.wrap (64*(i:Int))+(n:Int))=((64*i+n:Nat):Int):=fun i n hi hn=>by
  rw[b5 (a:=64*(i:Int)) (by omega) (by omega),b5 (by omega) (by omega)];omega
 have q3:=wr 3 n3 (by omega) l3
 have q2:=wr 2 n2 (by omega) l2
 have q1:=wr 1 n1 (by omega) l1
 have q0:=wr 0 n0 (by omega) l0
 have pw: ∀i n:Nat,2^(64*i+n)=2^(64*i)*2^n:=fun i n=>aRm _ _ _
 by_cases h3:a3=0
 ·rw[decide_eq_true h3]
  by_cases h2:a2=0
  ·rw[decide_eq_true h2]
   by_cases h1:a1=0
   ·rw[decide_eq_true h1]
    by_cases h0:a0=0
    ·rw[decide_eq_true h0]
     exact⟨0,by omega,by simp;omega,rfl⟩
    rw[decide_eq_false h0]
    refine⟨64*0+n0,by omega, ?_, ?_⟩
    ·rw[show 64*0+n0=n0 by omega];omega
    rw[←q0];rfl
   rw[decide_eq_false h1]
   refine⟨64*1+n1,by omega, ?_, ?_⟩
   ·rw[pw,show 2^(64*1)=18446744073709551616 from rfl]
    generalize 2^n1=z at *
    omega
   rw[←q1];rfl
  rw[decide_eq_false h2]
  refine⟨64*2+n2,by omega, ?_, ?_⟩
  ·rw[pw,show 2^(64*2)=340282366920938463463374607431768211456 from rfl]
   generalize 2^n2=z at *
   omega
  rw[←q2];rfl
 rw[decide_eq_false h3]
 refine⟨64*3+n3,by omega, ?_, ?_⟩
 ·rw[pw,show 2^(64*3)=6277101735386680763835789423207666416102355444464034512896 from rfl]
  generalize 2^n3=z at *
  omega
 rw[←q3];rfl
theorem aGL (N:Nat):nN N=some (U 115792089237316195423570985008687907853269984665640564039457584007913129603823):=by unfold nN;decide +kernel
theorem aAt (N:Nat):l9 N=some (U 57896044618658097711785492504343953926634992332820282019728792003956564801911):=by unfold l9;decide +kernel
theorem aIX {N:Nat}(hN:70000≤N){a b:Nat}(ha:a<115792089237316195423570985008687907853269984665640564039457584007913129639936)(hb:b<115792089237316195423570985008687907853269984665640564039457584007913129639936):sA N (U a) (U b)=some (U (a*b%115792089237316195423570985008687907853269984665640564039457584007913129603823)):=by
 simp only[sA,bA,aGL,aQr,aKC (b:=115792089237316195423570985008687907853269984665640564039457584007913129603823) hN (by decide) (by decide) ha hb]
theorem aLV {e:Nat}(he:e<115792089237316195423570985008687907853269984665640564039457584007913129639936){j:Nat}(hj:j<256): ∃x y:Nat,bB 4 (U e) ((j/64:Nat):Int)=some (x:Int)∧shr .u64 (x:Int) ((j%64:Nat):Int)=some (y:Int)∧(bits .and .u64 (y:Int) 1 == 1)=decide (e/2^j%2=1):=by
 have hx:bB 4 (U e) ((j/64:Nat):Int)=some ((e/2^(64*(j/64))%18446744073709551616:Nat):Int):=by
  have h4:j/64<4:=by omega
  unfold U
  generalize j/64=k at *
  match k,h4 with
  |0,_=>rw[show 2^(64*0)=1 from rfl,aRG];rfl
  |1,_=>rfl
  |2,_=>rfl
  |3,_=>rfl
 refine⟨_,_,hx,u5 _ _ (show e/2^(64*(j/64))%18446744073709551616<2^64 by omega), ?_⟩
 have hlt:e/2^(64*(j/64))%18446744073709551616/2^(j%64)<2^64:=aQ4 (Nat.div_le_self _ _) (show e/2^(64*(j/64))%18446744073709551616<2^64 by omega)
 rw[show(1:Int)=((1:Nat):Int)from rfl,aCt (k:= .u64) rfl _ 1 hlt (by decide),Nat.and_one_is_mod]
 have key:e/2^(64*(j/64))%18446744073709551616/2^(j%64)%2=e/2^j%2:=by
  have h1:(e/2^(64*(j/64))%2^64).testBit (j%64)=(e/2^(64*(j/64))).testBit (j%64):=by
   rw[Nat.testBit_mod_two_pow,decide_eq_true (aQy _ (by omega)),aQM]
  rw[Nat.testBit_div_two_pow,show j%64+64*(j/64)=j by omega]at h1
  rw[aQ7,aQ7,decide_eq_decide]at h1
  have h2:e/2^(64*(j/64))%2^64/2^(j%64)%2=e/2^j%2:=by
   generalize e/2^(64*(j/64))%2^64/2^(j%64)=u at *
   generalize e/2^j=w at *
   omega
  exact h2
 rw[key]
 generalize e/2^j%2=u
 by_cases h:u=1
 ·subst h;rfl
 rw[decide_eq_false h];simp;omega
theorem aHQ (a p e:Nat):(a^(e/2)%p)*(a^(e/2)%p)%p*(if e%2=1 then a else 1)%p=a^e%p:=by
 have h:a^e=a^(e/2)*a^(e/2)*(if e%2=1 then a else 1):=by
  rw[←aRm]
  split
  ·rename_i h1
   rw[←aQ3];congr 1;omega
  rw[aRR];congr 1;omega
 rw[h,←Nat.mul_mod,Nat.mod_mul_mod]
section
variable {N:Nat}(hN:70000≤N)
include hN
theorem aDL {a e n:Nat}(ha:a<115792089237316195423570985008687907853269984665640564039457584007913129639936)(he:e<115792089237316195423570985008687907853269984665640564039457584007913129639936)(hn:n≤256): ∀(m j:Nat),n-j<m→j≤n→jR N (U a) (U e) (n:Int) m (j:Int) (U (a^(e/2^(n-j))%115792089237316195423570985008687907853269984665640564039457584007913129603823))=some (U (a^e%115792089237316195423570985008687907853269984665640564039457584007913129603823))
 |0,j,hm,_=>by omega
 |m+1,j,hm,hj=>by
  rw[jR]
  by_cases h:j<n
  ·rw[dT h,if_pos rfl]
   have hp:a^(e/2^(n-j))%115792089237316195423570985008687907853269984665640564039457584007913129603823<115792089237316195423570985008687907853269984665640564039457584007913129639936:=aQK (aQy _ (by omega)) (by omega)
   obtain⟨x,y,b1,b2,b3⟩:=aLV he (show n-1-j<256 by omega)
   rw[b5 (a:=(n:Int)-1) (by omega) (by omega),b5 (a:=(n:Int)-1-(j:Int)) (by omega) (by omega),show(n:Int)-1-(j:Int)=((n-1-j:Nat):Int) by omega,show(64:Int)=((64:Nat):Int)from rfl,oV,qJ,b5 (a:=(((n-1-j)/64:Nat):Int)) (by omega) (by omega)]
   simp only[bA,aIX hN hp hp,aQr,b1,b2,b3]
   have hdiv:e/2^(n-(j+1))/2=e/2^(n-j):=by rw[aQ8,show 2^(n-(j+1))*2=2^(n-j) by rw[←aQ3];congr 1;omega]
   have key:=aHQ a 115792089237316195423570985008687907853269984665640564039457584007913129603823 (e/2^(n-(j+1)))
   rw[hdiv]at key
   have hlt2:(a^(e/2^(n-j))%115792089237316195423570985008687907853269984665640564039457584007913129603823)*(a^(e/2^(n-j))%115792089237316195423570985008687907853269984665640564039457584007913129603823)%115792089237316195423570985008687907853269984665640564039457584007913129603823<115792089237316195423570985008687907853269984665640564039457584007913129639936:=aQK (aQy _ (by omega)) (by omega)
   rw[show n-1-j=n-(j+1) by omega]
   by_cases hb:e/2^(n-(j+1))%2=1
   ·rw[decide_eq_true hb,if_pos rfl,aIX hN hlt2 ha]
    rw[if_pos hb]at key
    simp only[aQr,bA,pE,i1 (show j≤100000 by omega),key]
    exact aDL ha he hn m (j+1) (by omega) (by omega)
   rw[decide_eq_false hb]
   rw[if_neg hb,aRR,Nat.mod_mod]at key
   simp only[aQs,if_false,pE,i1 (show j≤100000 by omega),key]
   exact aDL ha he hn m (j+1) (by omega) (by omega)
  obtain rfl:j=n:=by omega
  rw[dF h,aRM,aRc,aRG]
  rfl
theorem aCY {a e:Nat}(ha:a<115792089237316195423570985008687907853269984665640564039457584007913129639936)(he:e<115792089237316195423570985008687907853269984665640564039457584007913129639936):rT N (U a) (U e)=some (U (a^e%115792089237316195423570985008687907853269984665640564039457584007913129603823)):=by
 obtain⟨n,h1,h2,h3⟩:=aO8 hN he
 have h4:=aDL hN ha he h1 N 0 (by omega) (by omega)
 rw[aQY,aRg h2,aRc,show 1%115792089237316195423570985008687907853269984665640564039457584007913129603823=1 from rfl,show((0:Nat):Int)=0 from rfl]at h4
 have hU1:([1,0,0,0]:List Int)=U 1:=by decide +kernel
 simp only[rT,d6,hU1,bA,h3,aQr,h4,v5]
end
theorem aJR {k:Nat}(h:k≤1):((k:Int) == 1)=((k:Int) != 0):=by
 rcases(by omega:k=0∨k=1)with rfl|rfl<;>rfl
theorem aJ6 (N:Nat)(a b:List Int): ∀(m:Nat)(c x:Int)(l:List Int),nA N a b m c x l=iW N a b m c x l
 |0,_,_,_=>rfl
 |m+1,c,x,l=>by simp only[nA,iW,aJ6 N a b m]
theorem aKn (N:Nat)(a b:List Int): ∀(m:Nat)(c x:Int)(l:List Int),mO N a b m c x l=iP N a b m c x l
 |0,_,_,_=>rfl
 |m+1,c,x,l=>by simp only[mO,iP,aKn N a b m]
theorem aKl (N:Nat)(a b:List Int): ∀(m:Nat)(x:Int),mP N a b m x=kU N a b m x
 |0,_=>rfl
 |m+1,x=>by simp only[mP,kU,aKl N a b m]
theorem aHd (N:Nat)(a b:List Int):oK N a b=lS N a b:=by
 unfold oK lS
 rw[aKl]
 rfl
theorem aMt {N:Nat}(hN:70000≤N){a0 a1 a2 a3 b0 b1 b2 b3:Nat}(ha0:a0<18446744073709551616)(ha1:a1<18446744073709551616)(ha2:a2<18446744073709551616)(ha3:a3<18446744073709551616)(hb0:b0<18446744073709551616)(hb1:b1<18446744073709551616)(hb2:b2<18446744073709551616)(hb3:b3<18446744073709551616):
  sY N (w4 a0 a1 a2 a3) (w4 b0 b1 b2 b3)=sS N (w4 a0 a1 a2 a3) (w4 b0 b1 b2 b3):=by
 obtain⟨s0,k0,e0,f0,g0,l0⟩:=oU ha0 hb0 (Nat.zero_le 1)
 obtain⟨s1,k1,e1,f1,g1,l1⟩:=oU ha1 hb1 l0
 obtain⟨s2,k2,e2,f2,g2,l2⟩:=oU ha2 hb2 l1
 obtain⟨s3,k3,e3,f3,g3,l3⟩:=oU ha3 hb3 l2
 obtain⟨m,hm⟩:=rJ (fun q=>iW N (w4 a0 a1 a2 a3) (w4 b0 b1 b2 b3) q 0 0 (aQv 4 0)) hN
 unfold sY sS
 rw[aJ6,hm]
 have e0':pA (a0:Int) (b0:Int) 0=some ((s0:Int),(k0:Int)):=e0
 simp only[iW,cV,a40,a41,a42,a43,q40,q41,q42,q43,t40,t41,t42,t43,r40,i01,i12,i23,i34,d04,d14,d24,d34,d44,if_true,aQs,if_false,aQr,e0',e1,e2,e3,t9,wH,aJR l3]
theorem aJL {N:Nat}(hN:70000≤N){a b:Nat}(ha:a<115792089237316195423570985008687907853269984665640564039457584007913129639936)(hb:b<115792089237316195423570985008687907853269984665640564039457584007913129639936):sY N (U a) (U b)=some (U ((a+b)%115792089237316195423570985008687907853269984665640564039457584007913129639936),decide (115792089237316195423570985008687907853269984665640564039457584007913129639936≤a+b)):=by
 obtain⟨a0,a1,a2,a3,x0,x1,x2,x3,ea,va⟩:=v6 ha
 obtain⟨b0,b1,b2,b3,y0,y1,y2,y3,eb,vb⟩:=v6 hb
 rw[←aLX hN ha hb,ea,eb]
 exact aMt hN x0 x1 x2 x3 y0 y1 y2 y3
theorem aMN {N:Nat}(hN:70000≤N){a0 a1 a2 a3 b0 b1 b2 b3:Nat}(ha0:a0<18446744073709551616)(ha1:a1<18446744073709551616)(ha2:a2<18446744073709551616)(ha3:a3<18446744073709551616)(hb0:b0<18446744073709551616)(hb1:b1<18446744073709551616)(hb2:b2<18446744073709551616)(hb3:b3<18446744073709551616):
  n7 N (w4 a0 a1 a2 a3) (w4 b0 b1 b2 b3)=o5 N (w4 a0 a1 a2 a3) (w4 b0 b1 b2 b3):=by
 obtain⟨s0,k0,e0,f0,g0,l0⟩:=sE ha0 hb0 (Nat.zero_le 1)
 obtain⟨s1,k1,e1,f1,g1,l1⟩:=sE ha1 hb1 l0
 obtain⟨s2,k2,e2,f2,g2,l2⟩:=sE ha2 hb2 l1
 obtain⟨s3,k3,e3,f3,g3,l3⟩:=sE ha3 hb3 l2
 obtain⟨m,hm⟩:=rJ (fun q=>iP N (w4 a0 a1 a2 a3) (w4 b0 b1 b2 b3) q 0 0 (aQv 4 0)) hN
 unfold n7 o5
 rw[aKn,hm]
 have e0':aBA (a0:Int) (b0:Int) 0=some ((s0:Int),(k0:Int)):=e0
 simp only[iP,nZ,a40,a41,a42,a43,q40,q41,q42,q43,t40,t41,t42,t43,r40,i01,i12,i23,i34,d04,d14,d24,d34,d44,if_true,aQs,if_false,aQr,e0',e1,e2,e3,uB,vP,aJR l3]
theorem aEH {N:Nat}(hN:70000≤N){a b:Nat}(ha:a<115792089237316195423570985008687907853269984665640564039457584007913129639936)(hb:b<115792089237316195423570985008687907853269984665640564039457584007913129639936):n7 N (U a) (U b)=some (U ((a+115792089237316195423570985008687907853269984665640564039457584007913129639936-b)%115792089237316195423570985008687907853269984665640564039457584007913129639936),decide (a<b)):=by
 obtain⟨a0,a1,a2,a3,x0,x1,x2,x3,ea,va⟩:=v6 ha
 obtain⟨b0,b1,b2,b3,y0,y1,y2,y3,eb,vb⟩:=v6 hb
 rw[←aC2 hN ha hb,ea,eb]
 exact aMN hN x0 x1 x2 x3 y0 y1 y2 y3
theorem aEK {N e:Nat}(he:e<115792089237316195423570985008687907853269984665640564039457584007913129639936){j:Nat}(hj:j<256):k7 N (U e) (j:Int)=some (decide (e/2^j%2=1)):=by
 obtain⟨x,y,h1,h2,h3⟩:=aLV he hj
 have hd:aRC (j:Int) 64=((j/64:Nat):Int):=oV j 64
 have hm:aRD (j:Int) 64=((j%64:Nat):Int):=qJ j 64
 unfold k7
 rw[hd,hm,b5 (by omega) (by omega),h1]
 simp only[aQr,h2,h3]
theorem aDb {N n:Nat}(hn:n<115792089237316195423570985008687907853269984665640564039457584007913129639936):oL N (U n)=some (decide (n=0)):=by
 unfold oL
 rw[bA]
 simp only[aQr]
 rw[←tV,wG hn (by omega)]
theorem aFL {N e:Nat}(he:e<115792089237316195423570985008687907853269984665640564039457584007913129639936): ∀(f k:Nat),k<f→k≤256→e<2^k→ ∃n:Nat,n≤256∧e<2^n∧((nD N (U e) f ((k:Int)-1)).bind fun q=>match q with | .ret v=>some v | .brk _=>wI N)=some (n:Int)
 |f+1,0,_,_,h=>by
  refine⟨0,by omega,h, ?_⟩
  rfl
 |f+1,k+1,hf,hk,h=>by
  unfold nD
  rw[show(((k+1:Nat):Int)-1)=(k:Int) by omega,if_pos (decide_eq_true (by omega)),bA]
  simp only[aQr]
  rw[aEK he (by omega)]
  simp only[aQr]
  by_cases hb:e/2^k%2=1
  ·rw[if_pos (decide_eq_true hb)]
   refine⟨k+1,by omega,h, ?_⟩
   simp only[aQr]
   rw[b5 (by omega) (by omega)]
   rfl
  rw[if_neg (by simpa using hb),b5 (by omega) (by omega)]
  refine aFL he f k (by omega) (by omega) ?_
  have h1:e/2^k<2:=by
   rw[aQX (aRF (by omega))]
   rw[aQ3]at h
   omega
  have h2:e/2^k=0:=by revert h1 hb;generalize e/2^k=q;intro h1 hb;omega
  exact(Nat.div_eq_zero_iff.1 h2).resolve_left (by have:=aRF (n:=k) (show 0<2 by omega);omega)
theorem aNG {N e:Nat}(hN:70000≤N)(he:e<115792089237316195423570985008687907853269984665640564039457584007913129639936): ∃n:Nat,n≤256∧e<2^n∧aAK N (U e)=some (n:Int):=by
 obtain⟨n,h1,h2,h3⟩:=aFL (N:=N) he N 256 (by omega) (by omega) (by rw[aBc];exact he)
 exact⟨n,h1,h2,h3⟩
theorem aJk (x y c:Int):pA x y c=pA y x c:=by
 unfold pA
 rw[aRN x.toNat y.toNat]
theorem aII (N:Nat)(a b:List Int)(i:Int): ∀(m:Nat)(c x:Int)(l:List Int),mV N a b i m c x l=cD N a b i m c x l
 |0,_,_,_=>rfl
 |m+1,c,x,l=>by
  unfold mV cD
  simp only[aII N a b i m,cV]
  split
  ·refine congrArg _ (funext fun p=>congrArg _ (funext fun q=>congrArg _ (funext fun r=>congrArg _ (funext fun t=> ?_))))
   rw[aJk t r.2 0]
  rfl
theorem aIM (N:Nat)(a b:List Int): ∀(m:Nat)(x:Int)(l:List Int),jP N a b m x l=iT N a b m x l
 |0,_,_=>rfl
 |m+1,x,l=>by
  unfold jP iT
  simp only[aII,vT,wL,t0,tW,aIM N a b m]
theorem aMH (N:Nat)(l:List Int):r3 N l=t3 N l:=by
 by_cases h:l.length=8
 ·match l,h with
  | [a,b,c,d,e,f,g,h],_=>rfl
 unfold r3 t3
 simp only[aS,if_neg h,Option.bind_none]
theorem aQg (N:Nat)(a b:List Int):yL N a b=uV N a b:=by
 unfold yL uV
 rw[aIM]
 exact congrArg _ (funext fun l=>aMH N l)
theorem aOm {n:Nat}(h2:n%2=0)(hn:n<115792089237316195423570985008687907853269984665640564039457584007913129639936): ∃x:Int,bB 4 (U n) 0=some x∧(U n).set (Int.toNat 0) (bits .or .u64 x 1)=U (n+1):=by
 refine⟨_,rfl, ?_⟩
 have h1:bits .or .u64 ((n%18446744073709551616:Nat):Int) 1=(((n+1)%18446744073709551616:Nat):Int):=by
  rw[show(1:Int)=((1:Nat):Int)from rfl,uH (k:= .u64) rfl _ 1 (show n%18446744073709551616<2^64 by omega) (by decide)]
  congr 1
  have h3:n%18446744073709551616=2*(n%18446744073709551616/2):=by omega
  rw[h3,show 2*(n%18446744073709551616/2) ||| 1=2*(n%18446744073709551616/2)+1 from by
   have:=aQN (i:=1) (b:=1) (by decide) (n%18446744073709551616/2)
   simpa using this.symm]
  omega
 show[bits .or .u64 ((n%18446744073709551616:Nat):Int) 1,((n/18446744073709551616%18446744073709551616:Nat):Int),((n/340282366920938463463374607431768211456%18446744073709551616:Nat):Int),((n/6277101735386680763835789423207666416102355444464034512896%18446744073709551616:Nat):Int)]=U (n+1)
 rw[h1]
 unfold U w4
 rw[show(n+1)/18446744073709551616=n/18446744073709551616 by omega,show(n+1)/340282366920938463463374607431768211456=n/340282366920938463463374607431768211456 by omega,show(n+1)/6277101735386680763835789423207666416102355444464034512896=n/6277101735386680763835789423207666416102355444464034512896 by omega]
section
variable {N:Nat}(hN:70000≤N){b:Nat}(hb:b<115792089237316195423570985008687907853269984665640564039457584007913129639936)(hb0:0<b)
include hN hb hb0
theorem aQb {q:List Int}(hq:q.length=4){k:Nat}(hk:k<256): ∃x y:Int,bB 4 q (aQu.wrap (aRC (k:Int) 64))=some x∧shl .u64 1 (aRD (k:Int) 64)=some y:=by
 have hd:aRC (k:Int) 64=((k/64:Nat):Int):=oV k 64
 have hm:aRD (k:Int) 64=((k%64:Nat):Int):=qJ k 64
 rw[hd,hm,b5 (by omega) (by omega)]
 refine⟨q[k/64]'(by omega),_, ?_,aBf (k:= .u64) rfl 1 (k%64)⟩
 unfold bB
 rw[if_pos (show((k/64:Nat):Int)<((4:Nat):Int) by omega)]
 exact dP q (by omega)
theorem aFX {lo:Nat}(hlo:lo<115792089237316195423570985008687907853269984665640564039457584007913129639936): ∀(f k r:Nat)(q:List Int),k<f→k≤256→r<b→q.length=4→ ∃q',q'.length=4∧dX N (U lo) (U b) f ((k:Int)-1) q (U r)=some (q',U ((r*2^k+lo%2^k)%b))
 |f+1,0,r,q,_,_,hr,hq=>by
  refine⟨q,hq, ?_⟩
  rw[show(r*2^0+lo%2^0)%b=r by rw[aRc,Nat.mod_one];simpa using aQC hr]
  rfl
 |f+1,k+1,r,q,hf,hk,hr,hq=>by
  have key: ∀t:Nat,t≤1→lo/2^k%2=t→ ∀q1:List Int,q1.length=4→ ∃q',q'.length=4∧dX N (U lo) (U b) f ((k:Int)-1) q1 (U ((2*r+t)%b))=some (q',U ((r*2^(k+1)+lo%2^(k+1))%b)):=by
   intro t ht hbit q1 hq1
   obtain⟨q',h1,h2⟩:=aFX hlo f k ((2*r+t)%b) q1 (by omega) (by omega) (aQy _ hb0) hq1
   refine⟨q',h1, ?_⟩
   rw[h2,aDM,show lo%2^(k+1)=t*2^k+lo%2^k from by rw[aQ3,Nat.mod_mul,hbit,aRN,aQW],show r*2^(k+1)+(t*2^k+lo%2^k)=(2*r+t)*2^k+lo%2^k from by rw[aQ3,Nat.add_mul,aQW (2^k) 2,←Nat.mul_assoc,aQW r 2,aRH]]
  have hr4:r<115792089237316195423570985008687907853269984665640564039457584007913129639936:=by omega
  have fin: ∀t:Nat,t≤1→lo/2^k%2=t→ ∃q',q'.length=4∧pV N (U lo) (U b) (k:Int) q (decide (r/2^255%2=1)) (dX N (U lo) (U b) f) (U ((2*r+t)%115792089237316195423570985008687907853269984665640564039457584007913129639936))=some (q',U ((r*2^(k+1)+lo%2^(k+1))%b)):=by
   intro t ht hbit
   have hx:(2*r+t)%115792089237316195423570985008687907853269984665640564039457584007913129639936<115792089237316195423570985008687907853269984665640564039457584007913129639936:=aQy _ (by omega)
   obtain⟨y,z,e1,e2⟩:=aQb hN hb hb0 hq (show k<256 by omega)
   have sub: ∀(h:115792089237316195423570985008687907853269984665640564039457584007913129639936≤2*r+t∨b≤2*r+t),∃q',q'.length=4∧m8 N (U lo) (U b) (k:Int) q (U ((2*r+t)%115792089237316195423570985008687907853269984665640564039457584007913129639936)) (dX N (U lo) (U b) f) true=some (q',U ((r*2^(k+1)+lo%2^(k+1))%b)):=by
    intro h
    have hb2:b≤2*r+t:=by omega
    have hm:(2*r+t)%b=2*r+t-b:=by rw[aRI hb2,aQC (by omega)]
    have hs:((2*r+t)%115792089237316195423570985008687907853269984665640564039457584007913129639936+115792089237316195423570985008687907853269984665640564039457584007913129639936-b)%115792089237316195423570985008687907853269984665640564039457584007913129639936=(2*r+t)%b:=by rw[hm];omega
    unfold m8
    rw[if_pos rfl,bA,aQr,aEH hN hx hb,aQr,hs]
    simp only[bA,aQr,e1,e2,pM]
    rw[b5 (by omega) (by omega)]
    exact key t ht hbit _ (by rw[aQF];exact hq)
   unfold pV
   by_cases ho:r/2^255%2=1
   ·rw[if_pos (decide_eq_true ho)]
    exact sub (.inl (by omega))
   rw[if_neg (by simpa using ho),bA,aQr,aHd,uO hN hx hb,aQr,aEy]
   have hnw:2*r+t<115792089237316195423570985008687907853269984665640564039457584007913129639936:=by omega
   by_cases hc:b≤(2*r+t)%115792089237316195423570985008687907853269984665640564039457584007913129639936
   ·rw[decide_eq_true hc]
    exact sub (.inr (by omega))
   rw[decide_eq_false hc]
   rw[aQC hnw]at hc⊢
   unfold m8
   simp only[aQs,if_false,pM]
   rw[b5 (by omega) (by omega)]
   have:=key t ht hbit q hq
   rwa[aQC (show 2*r+t<b by omega)]at this
  have h255:k7 N (U r) 255=some (decide (r/2^255%2=1)):=aEK (j:=255) hr4 (by omega)
  unfold dX
  rw[show(((k+1:Nat):Int)-1)=(k:Int) by omega,if_pos (decide_eq_true (by omega)),bA,aQr,h255,aQr,aJL hN hr4 hr4,aQr]
  simp only[bA,aQr]
  rw[aEK hlo (show k<256 by omega),aQr,show r+r=2*r by omega]
  by_cases hbit:lo/2^k%2=1
  ·rw[if_pos (decide_eq_true hbit)]
   obtain⟨x,h1,h2⟩:=aOm (n:=2*r%115792089237316195423570985008687907853269984665640564039457584007913129639936) (by omega) (by omega)
   rw[h1,aQr,h2,show 2*r%115792089237316195423570985008687907853269984665640564039457584007913129639936+1=(2*r+1)%115792089237316195423570985008687907853269984665640564039457584007913129639936 by omega]
   exact fin 1 (by omega) hbit
  rw[if_neg (by simpa using hbit)]
  exact fin 0 (by omega) (by omega)
theorem aJG {hi lo:Nat}(hh:hi<b)(hl:lo<115792089237316195423570985008687907853269984665640564039457584007913129639936): ∃q',q'.length=4∧u9 N (U hi) (U lo) (U b)=some (q',U ((hi*115792089237316195423570985008687907853269984665640564039457584007913129639936+lo)%b),true):=by
 obtain⟨q',h1,h2⟩:=aFX hN hb hb0 hl N 256 hi (aQv 4 0) (by omega) (by omega) hh rfl
 refine⟨q',h1, ?_⟩
 rw[aBc,aQC hl]at h2
 unfold u9
 rw[bA,aQr,bA,aQr,aHd,uO hN hb (by omega),aQr,aL5,decide_eq_false (by omega)]
 simp only[aQs,if_false]
 rw[show dX N (U lo) (U b) N 255 (aQv 4 0) (U hi)=_ from h2,aQr]
 simp only[wA,tL h1,bA,aQr]
theorem yI {a:Nat}(ha:a<115792089237316195423570985008687907853269984665640564039457584007913129639936):jZ N (U a) (U b)=some (U (a%b)):=by
 obtain⟨q',h1,h2⟩:=aJG hN hb hb0 (hi:=0) hb0 ha
 rw[Nat.zero_mul,aRL]at h2
 unfold jZ
 rw[bA,aQr,bA,aQr,←tV,h2,aQr]
 simp only[tL h1,bA,aQr]
theorem aCO {x y:Nat}(hx:x<115792089237316195423570985008687907853269984665640564039457584007913129639936)(hy:y<115792089237316195423570985008687907853269984665640564039457584007913129639936):mK N (U x) (U y) (U b)=some (U (x*y%b)):=by
 have hxb:x%b<b:=aQy _ hb0
 have hyb:y%b<b:=aQy _ hb0
 have hp:x%b*(y%b)/115792089237316195423570985008687907853269984665640564039457584007913129639936<b:=by
  rw[aQX (by omega)]
  exact aQK (Nat.mul_lt_mul_of_lt_of_lt hxb hyb) (Nat.mul_le_mul_left _ (by omega))
 obtain⟨q',h1,h2⟩:=aJG hN hb hb0 hp (aQy (x%b*(y%b)) (show 0<115792089237316195423570985008687907853269984665640564039457584007913129639936 by omega))
 rw[aQW (x%b*(y%b)/_),Nat.div_add_mod,←Nat.mul_mod]at h2
 unfold mK
 rw[bA,aQr,aDb hb,aQr,decide_eq_false (by omega)]
 simp only[aQs,if_false,bA,aQr,yI hN hb hb0 hx,yI hN hb hb0 hy,aQg,aL4 hN (show x%b<115792089237316195423570985008687907853269984665640564039457584007913129639936 by omega) (show y%b<115792089237316195423570985008687907853269984665640564039457584007913129639936 by omega),h2,tL h1]
theorem aKu {x y:Nat}(hx:x<115792089237316195423570985008687907853269984665640564039457584007913129639936)(hy:y<115792089237316195423570985008687907853269984665640564039457584007913129639936):r4 N (U x) (U y) (U b)=some (U ((x+y)%b)):=by
 have hxb:x%b<b:=aQy _ hb0
 have hyb:y%b<b:=aQy _ hb0
 have hs:=Nat.add_mod x y b
 unfold r4
 rw[bA,aQr,aDb hb,aQr,decide_eq_false (by omega)]
 simp only[aQs,if_false,bA,aQr,yI hN hb hb0 hx,yI hN hb hb0 hy,aJL hN (show x%b<115792089237316195423570985008687907853269984665640564039457584007913129639936 by omega) (show y%b<115792089237316195423570985008687907853269984665640564039457584007913129639936 by omega)]
 have sub:b≤x%b+y%b→jG N (U b) (U ((x%b+y%b)%115792089237316195423570985008687907853269984665640564039457584007913129639936),decide (115792089237316195423570985008687907853269984665640564039457584007913129639936≤x%b+y%b)) true=some (U ((x+y)%b)):=by
  intro h
  have hm:(x+y)%b=x%b+y%b-b:=by rw[hs,aRI h,aQC (by omega)]
  unfold jG
  rw[if_pos rfl,aEH hN (aQy _ (by omega)) hb,aQr]
  simp only[bA,aQr,lE]
  rw[hm]
  congr 2
  omega
 by_cases ho:115792089237316195423570985008687907853269984665640564039457584007913129639936≤x%b+y%b
 ·rw[if_pos (decide_eq_true ho)]
  exact sub (by omega)
 rw[if_neg (by simpa using ho),aHd,uO hN (aQy _ (by omega)) hb,aQr,aEy]
 by_cases hc:b≤(x%b+y%b)%115792089237316195423570985008687907853269984665640564039457584007913129639936
 ·rw[decide_eq_true hc]
  exact sub (by omega)
 rw[decide_eq_false hc]
 unfold jG
 simp only[aQs,if_false,bA,aQr,lE]
 rw[hs,aQC (show x%b+y%b<115792089237316195423570985008687907853269984665640564039457584007913129639936 by omega),aQC (show x%b+y%b<b by omega)]
end
section
variable {N:Nat}(hN:70000≤N){b:Nat}(hb:b<115792089237316195423570985008687907853269984665640564039457584007913129639936)(hb0:0<b)
include hN hb hb0
theorem aFQ {a e:Nat}(ha:a<115792089237316195423570985008687907853269984665640564039457584007913129639936)(he:e<115792089237316195423570985008687907853269984665640564039457584007913129639936): ∀(f k:Nat),k<f→k≤256→fO N (U a) (U e) (U b) f ((k:Int)-1) (U (a^(e/2^k)%b))=some (U (a^e%b))
 |f+1,0,_,_=>by rw[aRc,aRG];rfl
 |f+1,k+1,hf,hk=>by
  have ih:=aFQ ha he f k (by omega) (by omega)
  have hs:=aHQ a b (e/2^k)
  have hd:e/2^(k+1)=e/2^k/2:=by rw[aQ3,aQ8]
  rw[hd]
  generalize hT:a^(e/2^k/2)%b=T at *
  have hTb:T<b:=hT▸aQy _ hb0
  have hTT:T*T%b<b:=aQy _ hb0
  unfold fO
  rw[show(((k+1:Nat):Int)-1)=(k:Int) by omega,if_pos (decide_eq_true (by omega)),bA,aQr,aCO hN hb hb0 (show T<115792089237316195423570985008687907853269984665640564039457584007913129639936 by omega) (show T<115792089237316195423570985008687907853269984665640564039457584007913129639936 by omega),aQr,bA,aQr,aEK he (show k<256 by omega),aQr]
  by_cases hbit:e/2^k%2=1
  ·rw[if_pos hbit]at hs
   rw[if_pos (decide_eq_true hbit),bA,aQr,aCO hN hb hb0 (show T*T%b<115792089237316195423570985008687907853269984665640564039457584007913129639936 by omega) ha,aQr,bA,aQr,hs]
   unfold lF
   rw[b5 (by omega) (by omega)]
   exact ih
  rw[if_neg hbit,aRR,Nat.mod_mod]at hs
  rw[if_neg (by simpa using hbit),hs]
  unfold lF
  rw[b5 (by omega) (by omega)]
  exact ih
theorem aJT {a e:Nat}(ha:a<115792089237316195423570985008687907853269984665640564039457584007913129639936)(he:e<115792089237316195423570985008687907853269984665640564039457584007913129639936):sX N (U a) (U e) (U b)=some (U (a^e%b)):=by
 obtain⟨n,h1,h2,h3⟩:=aNG hN he
 have hl:=aFQ hN hb hb0 ha he N n (by omega) h1
 rw[aRg h2,aRc]at hl
 unfold sX
 rw[bA,aQr,aDb hb,aQr,decide_eq_false (by omega)]
 simp only[aQs,if_false]
 rw[show eT N 1=some (U 1)from rfl,aQr,yI hN hb hb0 (by omega),aQr,bA,aQr,bA,aQr,h3,aQr,b5 (by omega) (by omega),hl,aQr]
 rfl
end
section
variable {N:Nat}(hN:70000≤N)
theorem aCZ (N:Nat)(hN:70000≤N):j9 N=some (U 115792089237316195423570985008687907853269984665640564039457584007913129603823):=by
 unfold j9
 rw[show eT N 36113=some (U 36113)from rfl,aQr,←tV,aEH hN (by omega) (by omega),aQr,bA,aQr]
theorem aHi (N:Nat)(va:List Int)(n:Int): ∀(f f':Nat)(i:Int)(l r:List Int),f≤f'→gE 0 va n f i l=some r→gE N va n f' i l=some r
 |0,_,_,_,_,_,h=>by cases h
 |f+1,0,_,_,_,hf,_=>by omega
 |f+1,f'+1,i,l,r,hf,h=>by
  have ih:=aHi N va n f f'
  unfold gE at h⊢
  split at h
  ·rename_i hc
   rw[if_pos hc]
   obtain⟨q,h1,h⟩:=aQT.1 h
   obtain⟨x,h2,h⟩:=aQT.1 h
   rw[h1,aQr,show k7 N va (aQu.wrap (i+n))=some x from h2,aQr]
   split at h
   ·rename_i hx
    rw[if_pos hx]
    obtain⟨y,h3,h⟩:=aQT.1 h
    obtain⟨z,h4,h⟩:=aQT.1 h
    rw[h3,aQr,h4,aQr]
    exact ih _ _ _ (by omega) h
   rename_i hx
   rw[if_neg hx]
   exact ih _ _ _ (by omega) h
  rename_i hc
  rw[if_neg hc]
  exact h
theorem aNC :gE 0 (U 115792089237316195423570985008687907853269984665640564039457584007913129603823) 1 300 0 (aQv 4 0)=some (U 57896044618658097711785492504343953926634992332820282019728792003956564801911):=by decide +kernel
theorem aC7 (N:Nat)(hN:70000≤N):l8 N=some (U 57896044618658097711785492504343953926634992332820282019728792003956564801911):=by
 unfold l8
 rw[aCZ N hN,aQr]
 unfold aAJ
 rw[if_neg (by decide),if_neg (by decide),aHi N _ 1 300 N 0 _ _ (by omega) aNC,aQr]
 rfl
include hN
theorem aG1 {a e:Nat}(ha:a<115792089237316195423570985008687907853269984665640564039457584007913129639936)(he:e<115792089237316195423570985008687907853269984665640564039457584007913129639936):qA N (U a) (U e)=some (U (a^e%115792089237316195423570985008687907853269984665640564039457584007913129603823)):=by
 unfold qA
 rw[bA,aQr,bA,aQr,aCZ N hN,aQr,aJT hN (by omega) (by omega) ha he,aQr,bA,aQr]
theorem aKN {e:Nat}(he:e<115792089237316195423570985008687907853269984665640564039457584007913129639936):uD N (U e)=some (U (4^e%115792089237316195423570985008687907853269984665640564039457584007913129603823)):=by
 unfold uD
 rw[show eT N 4=some (U 4)from rfl,aQr,bA,aQr,aG1 hN (by omega) he,aQr,bA,aQr]
theorem aGX {a b:Nat}(ha:a<115792089237316195423570985008687907853269984665640564039457584007913129639936)(hb:b<115792089237316195423570985008687907853269984665640564039457584007913129639936):oG N (U a) (U b)=some (U ((a+b)%57896044618658097711785492504343953926634992332820282019728792003956564801911)):=by
 unfold oG
 rw[bA,aQr,bA,aQr,aC7 N hN,aQr,aKu hN (by omega) (by omega) ha hb,aQr,bA,aQr]
end
abbrev gP :Nat:=115792089237316195423570985008687907853269984665640564039457584007913129603823
abbrev gQ :Nat:=57896044618658097711785492504343953926634992332820282019728792003956564801911
theorem cO {α:Type}{n:Nat}{l:List α}{i:Nat}(h:i<n)(hl:i<l.length):bB n l (i:Int)=some l[i]:=by
 unfold bB;rw[if_pos (by omega),dP l hl]
theorem cK {α:Type}{n:Nat}{l:List α}(h:l.length=n):aS n l=some l:=by unfold aS;rw[if_pos h]
theorem uK (N:Nat)(x n s:Int)(hs:bits .and .u64 (aRb.wrap (aQu.wrap (0-n))) 31=s)(h0:0≤s)(h1:s≤32): ∃y,cM N x n=some y:=by
 unfold cM iR
 rw[hs,uW (a:=32-s) (by omega) (by omega)]
 unfold shl shr
 rw[if_neg (by omega),if_neg (by omega)]
 exact⟨_,rfl⟩
def rv (N:Nat)(x n:Int):Int:=(cM N x n).getD 0
theorem yE {N:Nat}{x n:Int}(h: ∃y,cM N x n=some y):cM N x n=some (rv N x n):=by obtain⟨y,h⟩:=h;simp[rv,h]
theorem rv2 (N:Nat)(x:Int):cM N x 2=some (rv N x 2):=yE (uK N x 2 30 (by decide +kernel) (by omega) (by omega))
theorem rv6 (N:Nat)(x:Int):cM N x 6=some (rv N x 6):=yE (uK N x 6 26 (by decide +kernel) (by omega) (by omega))
theorem rv7 (N:Nat)(x:Int):cM N x 7=some (rv N x 7):=yE (uK N x 7 25 (by decide +kernel) (by omega) (by omega))
theorem aP6 (N:Nat)(x:Int):cM N x 11=some (rv N x 11):=yE (uK N x 11 21 (by decide +kernel) (by omega) (by omega))
theorem aPS (N:Nat)(x:Int):cM N x 13=some (rv N x 13):=yE (uK N x 13 19 (by decide +kernel) (by omega) (by omega))
theorem aP5 (N:Nat)(x:Int):cM N x 17=some (rv N x 17):=yE (uK N x 17 15 (by decide +kernel) (by omega) (by omega))
theorem aPi (N:Nat)(x:Int):cM N x 18=some (rv N x 18):=yE (uK N x 18 14 (by decide +kernel) (by omega) (by omega))
theorem aPh (N:Nat)(x:Int):cM N x 19=some (rv N x 19):=yE (uK N x 19 13 (by decide +kernel) (by omega) (by omega))
theorem aP1 (N:Nat)(x:Int):cM N x 22=some (rv N x 22):=yE (uK N x 22 10 (by decide +kernel) (by omega) (by omega))
theorem aQj (N:Nat)(x:Int):cM N x 25=some (rv N x 25):=yE (uK N x 25 7 (by decide +kernel) (by omega) (by omega))
theorem aP9 (x:Int):shr .u32 x 3=some (x.fdiv (2^(min (3:Int).toNat 32))):=by unfold shr;rw[if_neg (by omega)];rfl
theorem aOP (x:Int):shr .u32 x 10=some (x.fdiv (2^(min (10:Int).toNat 32))):=by unfold shr;rw[if_neg (by omega)];rfl
theorem sL3 (N:Nat): ∀(m j:Nat)(l:List Int),l.length=64→16≤j→j≤64→64-j<m→ ∃r,fS N m (j:Int) l=some r∧r.length=64
 |0,j,l,_,_,_,hm=>by omega
 |m+1,j,l,hl,h1,h2,hm=>by
  rw[fS]
  by_cases h:j<64
  ·rw[show decide ((j:Int)<64)=true from decide_eq_true (by omega),if_pos rfl]
   rw[b5 (a:=(j:Int)-15) (by omega) (by omega),show(j:Int)-15=((j-15:Nat):Int) by omega,cO (show j-15<64 by omega) (by omega)]
   rw[b5 (a:=(j:Int)-2) (by omega) (by omega),show(j:Int)-2=((j-2:Nat):Int) by omega,cO (show j-2<64 by omega) (by omega)]
   rw[b5 (a:=(j:Int)-16) (by omega) (by omega),show(j:Int)-16=((j-16:Nat):Int) by omega,cO (show j-16<64 by omega) (by omega)]
   rw[b5 (a:=(j:Int)-7) (by omega) (by omega),show(j:Int)-7=((j-7:Nat):Int) by omega,cO (show j-7<64 by omega) (by omega)]
   rw[cO h (by omega)]
   simp only[aQr,rv7,aPi,aP5,aPh,aP9,aOP,i1 (show j≤100000 by omega)]
   exact sL3 N m (j+1) _ (by rw[aQF];exact hl) (by omega) (by omega) (by omega)
  rw[show decide ((j:Int)<64)=false from decide_eq_false (by omega)]
  exact⟨l,rfl,hl⟩
theorem cL2 (N:Nat)(st w:List Int)(hw:w.length=64): ∀(m j:Nat)(a b c d e f g h:Int),j≤64→64-j<m→ ∃r,fP N st w m a b c d e f g h (j:Int)=some r
 |0,j,_,_,_,_,_,_,_,_,_,hm=>by omega
 |m+1,j,a,b,c,d,e,f,g,h,hj,hm=>by
  rw[fP]
  by_cases h1:j<64
  ·rw[show decide ((j:Int)<64)=true from decide_eq_true (by omega),if_pos rfl,cO h1 (show j<aA3.length from h1),cO h1 (by omega)]
   simp only[aQr,rv2,rv6,aP6,aPS,aP1,aQj,i1 (show j≤100000 by omega)]
   exact cL2 N st w hw m (j+1) _ _ _ _ _ _ _ _ (by omega) (by omega)
  rw[show decide ((j:Int)<64)=false from decide_eq_false (by omega)]
  exact⟨_,rfl⟩
def wd (b:List Nat)(i:Nat):Nat:=((b.getD (4*i) 0*256+b.getD (4*i+1) 0)*256+b.getD (4*i+2) 0)*256+b.getD (4*i+3) 0
theorem u4 {b:List Nat}(h: ∀x∈b,x<256)(i:Nat):b.getD i 0<256:=by
 rw[aQG]
 rcases Nat.lt_or_ge i b.length with hi|hi
 ·rw[aQz hi];exact h _ (aQD hi)
 rw[List.getElem?_eq_none hi];simp
theorem aEd (a b k:Nat)(h:b<2^k):a*2^k ||| b=a*2^k+b:=by
 rw[aQW,←aQN h]
theorem orU (a b:Nat)(ha:a<4294967296)(hb:b<4294967296):bits .or .u32 (a:Int) (b:Int)=((a ||| b:Nat):Int):=uH rfl a b ha hb
theorem aNA (a b:Nat):shl .u32 (a:Int) (b:Int)=some ((a*2^b%4294967296:Nat):Int):=aBf rfl a b
theorem aCR {b:List Nat}{i:Nat}(hl:b.length=64)(hi:i<64):bB 64 (iN b) (i:Int)=some ((b.getD i 0:Nat):Int):=by
 rw[cO hi (by rw[aEq];omega)]
 have h1:i<b.length:=by omega
 simp[iN,h1]
theorem aC4 (n:Nat)(h:n<4294967296):aQL.wrap (n:Int)=n:=aP0 (by omega) (by omega)
def aBL (b:List Nat)(j:Nat)(l:List Int):List Int:=(aRo j (16-j)).foldl (fun l i=>l.set i ((wd b i:Nat):Int)) l
theorem aJM (b:List Nat)(j:Nat)(l:List Int):(aBL b j l).length=l.length:=by
 unfold aBL
 generalize aRo j (16-j)=r
 induction r generalizing l with
 |nil=>rfl
 |cons x r ih=>rw[aRp,ih,aQF]
section
variable (N:Nat)(b:List Nat)(hl:b.length=64)(hb: ∀x∈b,x<256)
include hl hb
theorem sL6 (i:Nat)(hi:i<16)(m j:Nat)(hj:j<4)(l:List Int)(hll:l.length=64)(v:Nat)(hv:v<16777216)(hli:l[i]? =some (v:Int)):
  dH N (iN b) (i:Int) (m+1) (j:Int) l=dH N (iN b) (i:Int) m ((j+1:Nat):Int) (l.set i ((v*256+b.getD (4*i+j) 0:Nat):Int)):=by
 have hil:i<l.length:=by omega
 have hbl:=u4 hb (4*i+j)
 rw[dH,show decide ((j:Int)<4)=true from decide_eq_true (by omega),if_pos rfl,cO (show i<64 by omega) hil]
 rw[aQz hil]at hli
 rw[Option.some.inj hli,b5 (a:=4*(i:Int)) (by omega) (by omega),b5 (a:=4*(i:Int)+(j:Int)) (by omega) (by omega),show 4*(i:Int)+(j:Int)=((4*i+j:Nat):Int) by omega,aCR hl (by omega)]
 rw[show(8:Int)=((8:Nat):Int)from rfl]
 simp only[aQr,aNA,aQt,i1 (show j≤100000 by omega)]
 rw[aC4 _ (by omega),orU _ _ (aQy _ (by omega)) (by omega),aQC (by omega),aEd _ _ 8 (by omega)]
theorem aNr (i:Nat)(hi:i<16)(l:List Int)(hll:l.length=64)(hli:l[i]? =some 0)(hN:10≤N):dH N (iN b) (i:Int) N 0 l=some (l.set i ((wd b i:Nat):Int)):=by
 have g0:=u4 hb (4*i)
 have g1:=u4 hb (4*i+1)
 have g2:=u4 hb (4*i+2)
 have hil:i<l.length:=by omega
 obtain⟨m,hm⟩: ∃m,N=m+5:=⟨N-5,by omega⟩
 have hfu: ∀k,dH N (iN b) (i:Int) N k l=dH N (iN b) (i:Int) (m+1+1+1+1+1) k l:=fun k=>by
  have:N=m+1+1+1+1+1:=by omega
  exact congrArg (fun q=>dH N (iN b) (i:Int) q k l) this
 rw[hfu,show(0:Int)=((0:Nat):Int)from rfl,sL6 N b hl hb i hi _ 0 (by omega) l hll 0 (by omega) hli]
 rw[sL6 N b hl hb i hi _ 1 (by omega) _ (by rw[aQF];exact hll) (0*256+b.getD (4*i+0) 0) (by simp only[aRd];omega) (aQ9 hil),aRO]
 rw[sL6 N b hl hb i hi _ 2 (by omega) _ (by rw[aQF];exact hll) _ (by simp only[aRd];omega) (aQ9 hil),aRO]
 rw[sL6 N b hl hb i hi _ 3 (by omega) _ (by rw[aQF];exact hll) _ (by simp only[aRd];omega) (aQ9 hil),aRO]
 rw[dH]
 simp only[Nat.reduceAdd,show decide (((4:Nat):Int)<4)=false from rfl,aQs,if_false,wd,Nat.zero_mul,aRL,aRd]
omit hl hb in
theorem aFw {f:Nat→Int→List Int→Option (List Int)}(hs: ∀(m j:Nat) (l:List Int),j<16→l.length=64→l[j]? =some 0→f (m+1) (j:Int) l=f m ((j+1:Nat):Int) (l.set j ((wd b j:Nat):Int)))(he: ∀m l,f (m+1) 16 l=some l):
  ∀(m j:Nat)(l:List Int),16-j<m→j≤16→l.length=64→(∀i,j≤i→i<64→l[i]? =some 0)→f m (j:Int) l=some (aBL b j l)
 |0,j,l,hm,_,_,_=>by omega
 |m+1,j,l,hm,hj,hll,hz=>by
  by_cases h:j<16
  ·rw[hs m j l h hll (hz j (aQH _) (by omega)),aFw hs he m (j+1) _ (by omega) (by omega) (by rw[aQF];exact hll) (fun i h1 h2=>by rw[List.getElem?_set_ne (by omega)];exact hz i (by omega) h2)]
   unfold aBL
   rw[show 16-j=(16-(j+1))+1 by omega,aQ2,aRp]
  obtain rfl:j=16:=by omega
  exact he m l
theorem sL4 (hN:70000≤N):eX N (iN b) N 0 (aQv 64 0)=some (aBL b 0 (aQv 64 0)):=by
 refine aFw b (f:=eX N (iN b)) (fun m j l hj hll hz=> ?_) (fun m l=>by rw[eX];rfl) N 0 _ (by omega) (by omega) (by simp) (fun i _ hi=>by rw[aQ5,if_pos hi])
 rw[eX,show decide ((j:Int)<16)=true from decide_eq_true (by omega),if_pos rfl,aNr N b hl hb j hj l hll hz (by omega)]
 simp only[aQr,rK,i1 (show j≤100000 by omega)]
end
section
variable (N:Nat)(hN:70000≤N)(b:List Nat)(hl:b.length=64)(hb: ∀x∈b,x<256)
include hN hl hb
theorem aL6 : ∃w,mT N (iN b)=some w∧w.length=64:=by
 obtain⟨w,h1,h2⟩:=sL3 N N 16 (aBL b 0 (aQv 64 0)) (by rw[aJM];simp) (by omega) (by omega) (by omega)
 rw[show((16:Nat):Int)=16 from rfl]at h1
 refine⟨w, ?_,h2⟩
 simp only[mT,sL4 N b hl hb hN,aQr,oP,h1,n9,cK h2]
theorem aLO (st:List Int)(hst:st.length=8): ∃r,jW N st (iN b)=some r∧r.length=8:=by
 obtain⟨w,h1,h2⟩:=aL6 N hN b hl hb
 have hbl:(iN b).length=64:=by rw[aEq];exact hl
 have a0:bB 8 st 0=some st[0]:=cO (i:=0) (by omega) (by omega)
 have a1:bB 8 st 1=some st[1]:=cO (i:=1) (by omega) (by omega)
 have a2:bB 8 st 2=some st[2]:=cO (i:=2) (by omega) (by omega)
 have a3:bB 8 st 3=some st[3]:=cO (i:=3) (by omega) (by omega)
 have a4:bB 8 st 4=some st[4]:=cO (i:=4) (by omega) (by omega)
 have a5:bB 8 st 5=some st[5]:=cO (i:=5) (by omega) (by omega)
 have a6:bB 8 st 6=some st[6]:=cO (i:=6) (by omega) (by omega)
 have a7:bB 8 st 7=some st[7]:=cO (i:=7) (by omega) (by omega)
 obtain⟨r,hr⟩:=cL2 N st w h2 N 0 st[0] st[1] st[2] st[3] st[4] st[5] st[6] st[7] (by omega) (by omega)
 rw[show((0:Nat):Int)=0 from rfl]at hr
 refine⟨[aQL.wrap (st[0]+r.1),aQL.wrap (st[1]+r.2.1),aQL.wrap (st[2]+r.2.2.1),aQL.wrap (st[3]+r.2.2.2.1),aQL.wrap (st[4]+r.2.2.2.2.1),aQL.wrap (st[5]+r.2.2.2.2.2.1),aQL.wrap (st[6]+r.2.2.2.2.2.2.1),aQL.wrap (st[7]+r.2.2.2.2.2.2.2)], ?_,rfl⟩
 simp only[jW,cK hbl,h1,cK h2,a0,a1,a2,a3,a4,a5,a6,a7,aQr,hr,n6]
end
def beG (n i:Nat):Int:=aQJ.wrap ((aRb.wrap (8*(n:Int))).fdiv (2^(56-8*i)))
def u7 (n:Nat):Nat:=(64-(n+9)%64)%64
def sO (n:Nat):List Int:=(128::aQv (u7 n) 0)++(aRo 0 8).map (beG n)
theorem aHW (n:Nat):(sO n).length=9+u7 n:=by simp[sO];omega
theorem aDX (x:Int):0≤aQJ.wrap x∧aQJ.wrap x<256:=by rw[aRS];omega
theorem aHt (n:Nat):Byt (sO n):=by
 intro x hx
 simp only[sO,aQ6,aRl,List.mem_replicate,aRy]at hx
 rcases hx with(rfl|⟨_,rfl⟩)|⟨i,_,rfl⟩
 ·omega
 ·omega
 exact aDX _
theorem aJs (a:Int)(s:Nat)(h:s≤64):shr .u64 a (s:Int)=some (a.fdiv (2^s)):=by
 unfold shr
 rw[if_neg (by omega),aQt,show min s aRb.bits=s from Nat.min_eq_left h]
theorem aHP (N n:Nat): ∀(k m:Nat)(acc:List Int),k≤8→k<m→acc.length+k≤1000→oD N (n:Int) m ((8-k:Nat):Int) acc=some (acc++(aRo (8-k) k).map (beG n))
 |0,m,acc,_,hm,_=>by
  obtain⟨m,rfl⟩: ∃q,m=q+1:=⟨m-1,by omega⟩
  rw[oD,show decide (((8-0:Nat):Int)<8)=false from rfl];simp
 |k+1,m,acc,hk,hm,ha=>by
  obtain⟨m,rfl⟩: ∃q,m=q+1:=⟨m-1,by omega⟩
  rw[oD,show decide (((8-(k+1):Nat):Int)<8)=true from decide_eq_true (by omega),if_pos rfl]
  rw[b5 (a:=8*((8-(k+1):Nat):Int)) (by omega) (by omega),b5 (a:=56-8*((8-(k+1):Nat):Int)) (by omega) (by omega),show 56-8*((8-(k+1):Nat):Int)=((56-8*(8-(k+1)):Nat):Int) by omega,aJs _ _ (by omega)]
  simp only[aQr]
  rw[tU (by simp;omega)]
  simp only[aQr,i1 (show 8-(k+1)≤100000 by omega)]
  rw[show 8-(k+1)+1=8-k by omega,aHP N n k m _ (by omega) (by omega) (by simp;omega),aQ2,List.map_cons,show 8-(k+1)+1=8-k by omega,aQR]
  rfl
theorem aPG (z:Nat):(aQv (1+z) (0:Int)).set 0 128=128::aQv z 0:=by rw[aRN,aRq];rfl
theorem aPg (N:Nat)(hN:70000≤N)(n:Nat)(hn:n≤1000000000):aBi N (n:Int)=some (sO n):=by
 have hz:u7 n<64:=aQy _ (by omega)
 have hlim:=kQ
 unfold aBi
 rw[uW (a:=(n:Int)+9) (by omega) (by omega),show(n:Int)+9=((n+9:Nat):Int) by omega,show(64:Int)=((64:Nat):Int)from rfl,qJ]
 have h1:(n+9)%64<64:=aQy _ (by omega)
 rw[uW (a:=((64:Nat):Int)-(((n+9)%64:Nat):Int)) (by omega) (by omega),show((64:Nat):Int)-(((n+9)%64:Nat):Int)=((64-(n+9)%64:Nat):Int) by omega,qJ]
 rw[show((64-(n+9)%64)%64:Nat)=u7 n from rfl,uW (a:=1+((u7 n:Nat):Int)) (by omega) (by omega),uW (a:=9+((u7 n:Nat):Int)) (by omega) (by omega)]
 have hm:mkl 1 (0:Int) (1+((u7 n:Nat):Int)) (9+((u7 n:Nat):Int))=some (aQv (1+u7 n) 0):=by
  unfold mkl
  rw[if_pos ⟨by omega,by omega,by omega⟩,show(1+((u7 n:Nat):Int)).toNat=1+u7 n by omega]
 have h0:bS (aQv (1+u7 n) (0:Int)) 0=some 0:=by
  rw[show(0:Int)=((0:Nat):Int)from rfl,aBj,aQ5,if_pos (by omega)]
 simp only[hm,aQr,h0,Int.toNat_zero,aPG]
 have:=aHP N n 8 N (128::aQv (u7 n) 0) (by omega) (by omega) (by simp;omega)
 rw[show((8-8:Nat):Int)=0 from rfl]at this
 rw[this];rfl
theorem aBZ {f:Nat→Int→List Int→Option (List Int)}(l:List (List Int))(hn:l.length≤1000)(ht:l.flatten.length≤50000000)
  (hs: ∀m j acc (hj:j<l.length),acc.length+l[j].length≤50000000→f (m+1) (j:Int) acc=f m ((j+1:Nat):Int) (acc++l[j])) (he: ∀m j acc,l.length≤j→f (m+1) (j:Int) acc=some acc) (N:Nat) (hN:70000≤N):
  f N 0 []=some l.flatten:=by
 have hfl:l.flatMap id=l.flatten:=by simp
 have:=aGf (f:=f) (xs:=l) (g:=id) (B:=50000000) (by omega) hs he N 0 [] (by omega) (by omega) (by rw[aQA,hfl];simpa using ht)
 rw[aQA,hfl]at this
 simpa using this
theorem aOt (N:Nat)(hN:70000≤N)(l:List (List Int))(hn:l.length≤1000)(ht:l.flatten.length≤50000000):aAa N l=some l.flatten:=by
 have:=aBZ (f:=oB N l) l hn ht (fun m j acc hj hB=>by
  rw[oB,dT hj,if_pos rfl,dP l hj,aQr,tU (by omega)]
  simp only[aQr,i1 (show j≤100000 by omega)]) (fun m j acc hj=>by rw[oB,dF (by omega)];rfl) N hN
 unfold aAa
 rw[this];rfl
def cmp (N:Nat)(st blk:List Int):List Int:=(jW N st blk).getD []
def rG (msg:List Int)(i:Nat):List Int:=(msg.drop (64*i)).take 64
theorem aBM {l:List Int}(h:Byt l)(k:Nat):Byt (l.take k):=fun x hx=>h x (aQP hx)
theorem aBD {l:List Int}(h:Byt l)(k:Nat):Byt (l.drop k):=fun x hx=>h x (aQQ hx)
theorem aJF (N:Nat)(hN:70000≤N)(st blk:List Int)(hst:st.length=8)(hb:Byt blk)(hl:blk.length=64):jW N st blk=some (cmp N st blk)∧(cmp N st blk).length=8:=by
 obtain⟨b,rfl,h2⟩:=aID hb
 obtain⟨r,h3,h4⟩:=aLO N hN b (by rw[aEq]at hl;exact hl) h2 st hst
 have:cmp N st (iN b)=r:=by simp[cmp,h3]
 rw[this];exact⟨h3,h4⟩
def uI (N:Nat)(msg st:List Int)(j k:Nat):List Int:=(aRo j k).foldl (fun s i=>cmp N s (rG msg i)) st
section
variable (N:Nat)(hN:70000≤N)(msg:List Int)(hb:Byt msg)(hl:msg.length≤2000000)
include hN hb hl
theorem aDT : ∀(m j:Nat)(st:List Int),msg.length/64-j<m→j≤msg.length/64→st.length=8→qO N msg m (j:Int) st=some (uI N msg st j (msg.length/64-j))∧(uI N msg st j (msg.length/64-j)).length=8
 |0,j,st,hm,_,_=>by omega
 |m+1,j,st,hm,hj,hst=>by
  rw[qO,show(64:Int)=((64:Nat):Int)from rfl,oV,b5 (a:=((msg.length/64:Nat):Int)) (by omega) (by omega)]
  by_cases h:j<msg.length/64
  ·have hlen:(rG msg j).length=64:=by simp[rG];omega
   obtain⟨c1,c2⟩:=aJF N hN st (rG msg j) hst (aBM (aBD hb _) _) hlen
   rw[dT h,if_pos rfl,cK hst,b5 (a:=((64:Nat):Int)*(j:Int)) (by omega) (by omega)]
   have e1:sub msg (((64:Nat):Int)*(j:Int)) (msg.length:Int)=some (msg.drop (64*j)):=by
    unfold sub
    rw[if_pos ⟨by omega,by omega,by omega⟩,show(((64:Nat):Int)*(j:Int)).toNat=64*j by omega,aQt,aQw (aQH _)]
   have e2:nQ 64 (msg.drop (64*j))=some (rG msg j):=by unfold nQ;rw[if_pos (by simp;omega)];rfl
   simp only[e1,e2,c1,cK c2,aQr,i1 (show j≤100000 by omega)]
   obtain⟨i1',i2'⟩:=aDT m (j+1) _ (by omega) (by omega) c2
   have er:uI N msg st j (msg.length/64-j)=uI N msg (cmp N st (rG msg j)) (j+1) (msg.length/64-(j+1)):=by
    unfold uI
    rw[show msg.length/64-j=(msg.length/64-(j+1))+1 by omega,aQ2,aRp]
   rw[er]
   exact⟨i1',i2'⟩
  rw[dF h,show msg.length/64-j=0 by omega]
  exact⟨rfl,hst⟩
end
def sN (st:List Int)(i:Nat):Int:=aQJ.wrap ((st.getD (i/4) 0).fdiv (2^(24-8*(i%4))))
def aBT (st:List Int):List Int:=(aRa 32).map (sN st)
theorem aDR (st:List Int):(aBT st).length=32:=by simp[aBT]
theorem aLv (st:List Int):Byt (aBT st):=by
 intro x hx
 simp only[aBT,aRy]at hx
 obtain⟨i,_,rfl⟩:=hx
 exact aDX _
theorem vA (g:Nat→Int)(w j:Nat)(hj:j<w):((aRa j).map g++aQv (w-j) 0).set j (g j)=(aRa (j+1)).map g++aQv (w-(j+1)) 0:=by
 rw[aRe _ _ (by simp),show w-j=(w-(j+1))+1 by omega,aRq,List.range_succ,List.map_append,aQR]
 simp
theorem aGB (a:Int)(s:Nat)(h:s≤32):shr .u32 a (s:Int)=some (a.fdiv (2^s)):=by
 unfold shr
 rw[if_neg (by omega),aQt,show min s aQL.bits=s from Nat.min_eq_left h]
theorem aOp {st:List Int}(hst:st.length=8){i:Nat}(h:i<8):bB 8 st (i:Int)=some (st.getD i 0):=by
 have:i<st.length:=by omega
 rw[cO h this];simp[this]
section
variable (N:Nat)(hN:70000≤N)(st:List Int)(hst:st.length=8)
include hN hst
theorem aHF : ∀(m j:Nat),32-j<m→j≤32→qL N st m (j:Int) ((aRa j).map (sN st)++aQv (32-j) 0)=some (aBT st)
 |0,j,hm,_=>by omega
 |m+1,j,hm,hj=>by
  rw[qL]
  by_cases h:j<32
  ·rw[show decide ((j:Int)<32)=true from decide_eq_true (by omega),if_pos rfl,show(4:Int)=((4:Nat):Int)from rfl,oV,qJ,b5 (a:=((j/4:Nat):Int)) (by omega) (by omega),aOp hst (by omega)]
   rw[b5 (a:=((j%4:Nat):Int)*8) (by omega) (by omega),b5 (a:=24-((j%4:Nat):Int)*8) (by omega) (by omega),show 24-((j%4:Nat):Int)*8=((24-8*(j%4):Nat):Int) by omega]
   simp only[aQr]
   rw[aGB _ _ (by omega),cO h (by simp;omega)]
   simp only[aQr,aQt,i1 (show j≤100000 by omega)]
   have:=vA (sN st) 32 j h
   rw[show aQJ.wrap ((st.getD (j/4) 0).fdiv (2^(24-8*(j%4))))=sN st j from rfl,this]
   exact aHF m (j+1) (by omega) (by omega)
  obtain rfl:j=32:=by omega
  rw[show decide (((32:Nat):Int)<32)=false from rfl]
  simp[aBT]
end
def sha256 (N:Nat)(b:List Int):List Int:=aBT (uI N (b++sO b.length) tQ 0 ((b++sO b.length).length/64))
theorem n8 (N:Nat)(b:List Int):(sha256 N b).length=32:=aDR _
theorem tI (N:Nat)(b:List Int):Byt (sha256 N b):=aLv _
theorem aG4 (N:Nat)(hN:70000≤N)(b:List Int)(hb:Byt b)(hl:b.length≤1000000):wU N b=some (sha256 N b):=by
 have hz:u7 b.length<64:=aQy _ (by omega)
 have hpl:=aHW b.length
 have hmb:Byt (b++sO b.length):=hb.append (aHt _)
 have hml:(b++sO b.length).length≤2000000:=by rw[aQU];omega
 obtain⟨s1,s2⟩:=aDT N hN _ hmb hml N 0 tQ (by omega) (by omega) rfl
 rw[show((0:Nat):Int)=0 from rfl,aQY]at s1
 rw[aQY]at s2
 have hw:aRb.wrap (b.length:Int)=(b.length:Int):=uW (by omega) (by omega)
 have o:=aHF N hN (uI N (b++sO b.length) tQ 0 ((b++sO b.length).length/64)) s2 N 0 (by omega) (by omega)
 simp only[aRz,aRP,aQO,aQY]at o
 rw[show((0:Nat):Int)=0 from rfl]at o
 simp only[wU,hw,aPg N hN b.length (by omega),aQr]
 rw[aOt N hN [b,sO b.length] (by simp) (by simp;omega)]
 simp only[aQr,aQ0,aRh,aQS,s1,zM,o,zP,cK (aDR _)]
 rfl
theorem aDw (s:ByteArray):Byt (d9 s):=by
 intro x hx
 unfold d9 at hx
 simp only[aRy]at hx
 obtain⟨b,_,rfl⟩:=hx
 have:=b.toNat_lt
 omega
def aAD (N:Nat)(tag:ByteArray)(b:List Int):List Int:=sha256 N (sha256 N (d9 tag)++(sha256 N (d9 tag)++b))
theorem aBz (N:Nat)(tag:ByteArray)(b:List Int):(aAD N tag b).length=32:=n8 _ _
theorem aEa (N:Nat)(tag:ByteArray)(b:List Int):Byt (aAD N tag b):=tI _ _
theorem aF4 (N:Nat)(hN:70000≤N)(tag:ByteArray)(ht:tag.size≤1000)(b:List Int)(hb:Byt b)(hl:b.length≤900000):wF N tag b=some (aAD N tag b):=by
 have hlim:=kQ
 have hs:stb tag=some (d9 tag):=by unfold stb;rw[if_pos (by omega)]
 have s1:=aG4 N hN (d9 tag) (aDw tag) (by rw[tX];omega)
 have l1:=n8 N (d9 tag)
 have t1:=aG4 N hN (sha256 N (d9 tag)++(sha256 N (d9 tag)++b)) ((tI _ _).append ((tI _ _).append hb)) (by simp only[aQU,l1];omega)
 simp only[wF,hs,s1,aQr,cK l1]
 rw[aOt N hN _ (by simp) (by simp[l1];omega)]
 simp only[aQr,aQ0,aRh,aQS,t1,cK (n8 N _)]
 rfl
theorem aOO (op:BinOp)(a b:Int):0≤bits op .u64 a b∧bits op .u64 a b<18446744073709551616:=by
 unfold bits
 rw[IntKind.wrap_u64]
 omega
theorem Wd.set {l:List Int}(h:Wd l)(i:Nat){x:Int}(hx:0≤x∧x<18446744073709551616):Wd (l.set i x):=
 ⟨by rw[aQF];exact h.1,fun y hy=>(aRs hy).elim (h.2 y) (fun e=>e▸hx)⟩
section
variable {N:Nat}(hN:70000≤N)
include hN
theorem aIH {h:List Int}(hl:h.length=32): ∀(m j:Nat)(l:List Int),32-j<m→j≤32→Wd l→ ∃r,eN N h m (j:Int) l=some r∧Wd r
 |0,j,l,hm,_,_=>by omega
 |m+1,j,l,hm,hj,hw=>by
  rw[eN]
  by_cases hh:j<32
  ·have h4:=hw.1
   rw[show decide ((j:Int)<32)=true from decide_eq_true (by omega),if_pos rfl,cO hh (by omega),show(8:Int)=((8:Nat):Int)from rfl,oV,b5 (a:=((j/8:Nat):Int)) (by omega) (by omega),b5 (a:=3-((j/8:Nat):Int)) (by omega) (by omega),show 3-((j/8:Nat):Int)=((3-j/8:Nat):Int) by omega,cO (show 3-j/8<4 by omega) (by omega)]
   obtain⟨y,hy⟩: ∃y,shl .u64 l[3-j/8] ((8:Nat):Int)=some y:=by unfold shl;rw[if_neg (by omega)];exact⟨_,rfl⟩
   simp only[aQr,hy,i1 (show j≤100000 by omega)]
   exact aIH hl m (j+1) _ (by omega) (by omega) (hw.set _ (aOO _ _ _))
  rw[show decide ((j:Int)<32)=false from decide_eq_false (by omega)]
  exact⟨l,rfl,hw⟩
theorem vC {h:List Int}(hl:h.length=32): ∃n,n<115792089237316195423570985008687907853269984665640564039457584007913129639936∧eD N h=some (U n):=by
 obtain⟨r,h1,h2⟩:=aIH hN hl N 0 (aQv 4 0) (by omega) (by omega) ⟨by simp,fun x hx=>by have:=List.eq_of_mem_replicate hx;omega⟩
 rw[show((0:Nat):Int)=0 from rfl]at h1
 obtain⟨n,hn,rfl⟩:=h2.ex
 exact⟨n,hn,by simp only[eD,cK hl,aQr,h1,lX,bA]⟩
def byG (n i:Nat):Int:=aQJ.wrap (((U n).getD (3-i/8) 0).fdiv (2^(56-8*(i%8))))
def fW (n:Nat):List Int:=(aRa 32).map (byG n)
omit hN in
theorem fY (n:Nat):(fW n).length=32:=by simp[fW]
omit hN in
theorem aAb (n:Nat):Byt (fW n):=by
 intro x hx
 simp only[fW,aRy]at hx
 obtain⟨i,_,rfl⟩:=hx
 exact aDX _
theorem aIu (n:Nat): ∀(m j:Nat),32-j<m→j≤32→iX N (U n) m (j:Int) ((aRa j).map (byG n)++aQv (32-j) 0)=some (fW n)
 |0,j,hm,_=>by omega
 |m+1,j,hm,hj=>by
  rw[iX]
  by_cases h:j<32
  ·have hg:bB 4 (U n) ((3-j/8:Nat):Int)=some ((U n).getD (3-j/8) 0):=by
    have:3-j/8<(U n).length:=by rw[aOM];omega
    rw[cO (show 3-j/8<4 by omega) this];simp[this]
   rw[show decide ((j:Int)<32)=true from decide_eq_true (by omega),if_pos rfl,show(8:Int)=((8:Nat):Int)from rfl,oV,qJ,b5 (a:=((j/8:Nat):Int)) (by omega) (by omega),b5 (a:=3-((j/8:Nat):Int)) (by omega) (by omega),show 3-((j/8:Nat):Int)=((3-j/8:Nat):Int) by omega,hg]
   rw[b5 (a:=((j%8:Nat):Int)*((8:Nat):Int)) (by omega) (by omega),b5 (a:=56-((j%8:Nat):Int)*((8:Nat):Int)) (by omega) (by omega),show 56-((j%8:Nat):Int)*((8:Nat):Int)=((56-8*(j%8):Nat):Int) by omega]
   simp only[aQr]
   rw[aJs _ _ (by omega),cO h (by simp;omega)]
   simp only[aQr,aQt,i1 (show j≤100000 by omega)]
   have:=vA (byG n) 32 j h
   rw[show aQJ.wrap (((U n).getD (3-j/8) 0).fdiv (2^(56-8*(j%8))))=byG n j from rfl,this]
   exact aIu n m (j+1) (by omega) (by omega)
  obtain rfl:j=32:=by omega
  rw[show decide (((32:Nat):Int)<32)=false from rfl]
  simp[fW]
theorem aFG (n:Nat):qN N (U n)=some (fW n):=by
 have:=aIu hN n N 0 (by omega) (by omega)
 simp only[aRz,aRP,aQO,aQY]at this
 rw[show((0:Nat):Int)=0 from rfl]at this
 simp only[qN,this,aQr,uP,cK (fY n)]
theorem grow (l:List (List Int))(hn:l.length≤1000)(h32: ∀x∈l,x.length=32):uZ N l=some l.flatten:=by
 have hfl:l.flatten.length≤l.length*32:=by
  clear hn
  induction l with
  |nil=>simp
  |cons x l ih=>
   have h1:=h32 x (by simp)
   have h2:=ih (fun y hy=>h32 y (by simp[hy]))
   simp only[aQ0,aQU,aQE];omega
 have:=aBZ (f:=mC N l) l hn (by omega) (fun m j acc hj hB=>by
  rw[mC,dT hj,if_pos rfl,dP l hj,aQr,cK (h32 _ (aQD hj)),aQr,tU (by omega)]
  simp only[aQr,i1 (show j≤100000 by omega)]) (fun m j acc hj=>by rw[mC,dF (by omega)];rfl) N hN
 unfold uZ
 rw[this];rfl
theorem aJy {h:List Int}(hl:h.length=32): ∃n,n<57896044618658097711785492504343953926634992332820282019728792003956564801911∧nB N h=some (U n):=by
 obtain⟨n,h1,h2⟩:=vC hN hl
 refine⟨(n+0)%57896044618658097711785492504343953926634992332820282019728792003956564801911,aQy _ (by decide), ?_⟩
 rw[show nB N h=((aS 32 h).bind fun q=>(eD N h).bind fun x4=>(lM N x4 [0,0,0,0]).bind fun x6=>(aS 4 x6).bind fun q_1=>some x6)from rfl]
 simp only[cK hl,aQr,h2,←tV,lM,bA,aAt,aGV (b:=57896044618658097711785492504343953926634992332820282019728792003956564801911) hN (by decide) (by decide) h1 (show(0:Nat)<115792089237316195423570985008687907853269984665640564039457584007913129639936 by decide)]
def vO :ByteArray:=⟨#[108,105,103,104,116,99,108,105,101,110,116,47,99,104,97,108,108,101,110,103,101]⟩
theorem aHE {r p:Nat}{m:List Int}(hm:m.length=32)(hb:Byt m): ∃n,n<57896044618658097711785492504343953926634992332820282019728792003956564801911∧kP N (U r) (U p) m=some (U n):=by
 obtain⟨n,h1,h2⟩:=aJy hN (aBz N vO (fW r++(fW p++m)))
 refine⟨n,h1, ?_⟩
 have hrow:uZ N [fW r,fW p,m]=some (fW r++(fW p++m)):=by
  rw[grow hN _ (by simp) (fun x hx=>by
   simp only[aRl,aRi,or_false]at hx
   rcases hx with rfl|rfl|rfl
   ·exact fY _
   ·exact fY _
   exact hm)]
  simp
 have ht:=aF4 N hN vO (by decide) (fW r++(fW p++m)) ((aAb _).append ((aAb _).append hb)) (by simp[fY,hm])
 simp only[kP,bA,aFG hN,cK hm,cK (fY _),hrow,aQr]
 rw[show(⟨#[108,105,103,104,116,99,108,105,101,110,116,47,99,104,97,108,108,101,110,103,101]⟩:ByteArray)=vO from rfl,ht]
 simp only[aQr,h2,bA]
theorem sW {a:Nat}(ha:a<115792089237316195423570985008687907853269984665640564039457584007913129639936):mA N (U a)=some (decide (a<57896044618658097711785492504343953926634992332820282019728792003956564801911)):=by
 simp only[mA,bA,aAt,aQr,uO hN ha (show(57896044618658097711785492504343953926634992332820282019728792003956564801911:Nat)<115792089237316195423570985008687907853269984665640564039457584007913129639936 by decide),aGD]
theorem aLW :([1,0,0,0]:List Int)=U 1:=by decide +kernel
theorem aJK {a:Nat}(ha:a<115792089237316195423570985008687907853269984665640564039457584007913129639936): ∃v,mS N (U a)=some v:=by
 have hJ: ∀t,∃v,jI N (U a) t=some v:=by
  intro t
  cases t with
  |true=>exact⟨_,rfl⟩
  |false=>
   simp only[jI,aQs,if_false,bA,aAt,aQr,aCY hN ha (show(57896044618658097711785492504343953926634992332820282019728792003956564801911:Nat)<115792089237316195423570985008687907853269984665640564039457584007913129639936 by decide),d6,aLW hN]
   exact⟨_,rfl⟩
 simp only[mS,bA,aQr,aGL,uO hN ha (show(115792089237316195423570985008687907853269984665640564039457584007913129603823:Nat)<115792089237316195423570985008687907853269984665640564039457584007913129639936 by decide)]
 split
 ·exact hJ _
 exact hJ _
theorem aGO {a:Nat}(ha:a<115792089237316195423570985008687907853269984665640564039457584007913129639936): ∃v,nX N (U a)=some v:=by
 obtain⟨v,hv⟩:=aJK hN ha
 simp only[nX,bA,d6,aLW hN,aQr,hv]
 split<;>exact⟨_,rfl⟩
theorem aKb {p e s:Nat}{m:List Int}(hp:p<115792089237316195423570985008687907853269984665640564039457584007913129639936)(he:e<115792089237316195423570985008687907853269984665640564039457584007913129639936)(hs:s<115792089237316195423570985008687907853269984665640564039457584007913129639936)(hm:m.length=32)(hb:Byt m): ∃v,oX N (U p) m (U e) (U s)=some v:=by
 obtain⟨v,hv⟩:=aGO hN hp
 have hq:(57896044618658097711785492504343953926634992332820282019728792003956564801911:Nat)<115792089237316195423570985008687907853269984665640564039457584007913129639936:=by decide
 have hJ: ∀t,∃v,g8 N (U p) m (U e) (U s) t=some v:=by
  intro t
  cases t with
  |true=>exact⟨_,rfl⟩
  |false=>
   have hd:(57896044618658097711785492504343953926634992332820282019728792003956564801911+115792089237316195423570985008687907853269984665640564039457584007913129639936-e)%115792089237316195423570985008687907853269984665640564039457584007913129639936<115792089237316195423570985008687907853269984665640564039457584007913129639936:=aQy _ (by decide)
   have h4:([4,0,0,0]:List Int)=U 4:=by decide +kernel
   have hx: ∀z:Nat,z%115792089237316195423570985008687907853269984665640564039457584007913129603823<115792089237316195423570985008687907853269984665640564039457584007913129639936:=fun z=>aRA (aQy z (by decide)) (by decide)
   simp only[g8,aQs,if_false,bA,aAt,aQr,aC2 hN hq he,q6,d6,h4,aCY hN (show(4:Nat)<115792089237316195423570985008687907853269984665640564039457584007913129639936 by decide) hs,aCY hN hp hd,aIX hN (hx _) (hx _),cK hm]
   obtain⟨n,_,hn⟩:=aHE hN (r:=4^s%115792089237316195423570985008687907853269984665640564039457584007913129603823*(p^((57896044618658097711785492504343953926634992332820282019728792003956564801911+115792089237316195423570985008687907853269984665640564039457584007913129639936-e)%115792089237316195423570985008687907853269984665640564039457584007913129639936)%115792089237316195423570985008687907853269984665640564039457584007913129603823)%115792089237316195423570985008687907853269984665640564039457584007913129603823) (p:=p) hm hb
   rw[hn]
   exact⟨_,rfl⟩
 simp only[oX,bA,aQr,sW hN he,sW hN hs,hv]
 split
 ·exact hJ _
 split
 ·exact hJ _
 exact hJ _
theorem aKq {b:List Int}: ∃e s r,e<115792089237316195423570985008687907853269984665640564039457584007913129639936∧s<115792089237316195423570985008687907853269984665640564039457584007913129639936∧oY N b=some (U e,U s,r):=by
 have h0:aQv 4 (0:Int)=U 0:=by decide +kernel
 unfold oY
 by_cases hl:b.length=64
 ·rw[show(((b.length:Nat):Int) != 64)=false by rw[hl];rfl]
  have e1:sub b 0 32=some (b.take 32):=by unfold sub;rw[if_pos ⟨by omega,by omega,by omega⟩];simp
  have e2:sub b 32 (b.length:Int)=some (b.drop 32):=by
   unfold sub;rw[if_pos ⟨by omega,by omega,by omega⟩,aQt,aQw (aQH _)];rfl
  have l1:(b.take 32).length=32:=by simp;omega
  have l2:(b.drop 32).length=32:=by simp;omega
  have a1:nQ 32 (b.take 32)=some (b.take 32):=by unfold nQ;rw[if_pos (by omega),aQw (by omega)]
  have a2:nQ 32 (b.drop 32)=some (b.drop 32):=by unfold nQ;rw[if_pos (by omega),aQw (by omega)]
  obtain⟨e,h1,h2⟩:=vC hN l1
  obtain⟨s,h3,h4⟩:=vC hN l2
  have hJ: ∀t,∃e' s' r,e'<115792089237316195423570985008687907853269984665640564039457584007913129639936∧s'<115792089237316195423570985008687907853269984665640564039457584007913129639936∧mF N (U e) (U s) t=some (U e',U s',r):=by
   intro t
   cases t with
   |true=>exact⟨0,0,5,by decide,by decide,by unfold mF;rw[h0];rfl⟩
   |false=>exact⟨e,s,0,h1,h3,rfl⟩
  simp only[aQs,if_false,e1,e2,a1,a2,h2,h4,aQr,bA,sW hN h1,sW hN h3]
  split
  ·exact hJ _
  exact hJ _
 rw[show(((b.length:Nat):Int) != 64)=true by simp;omega,if_pos rfl,h0]
 exact⟨0,0,8,by decide,by decide,rfl⟩
theorem aJ8 {m:List Int}(hm:m.length=32)(hb:Byt m)(h a:Int)(st:List (List Int))(br:List aG)(c:Int)(key sig:List Int): ∃e,cE N m h a st br c key sig=some e:=by
 have hJ: ∀t,∃e,eP N m h a st br c t=some e:=fun t=>by cases t<;>exact⟨_,rfl⟩
 unfold cE
 by_cases hl:key.length=32
 ·rw[show(((key.length:Nat):Int) != 32)=false by rw[hl];rfl]
  have a1:nQ 32 key=some key:=by unfold nQ;rw[if_pos (by omega),aQw (by omega)]
  obtain⟨p,h1,h2⟩:=vC hN hl
  obtain⟨v,hv⟩:=aGO hN h1
  simp only[aQs,if_false,a1,h2,aQr,bA,hv]
  split
  ·exact⟨_,rfl⟩
  split
  ·exact⟨_,rfl⟩
  obtain⟨e,s,r,h3,h4,h5⟩:=aKq hN (b:=sig)
  simp only[h5,aQr]
  split
  ·exact hJ _
  obtain⟨w,hw⟩:=aKb hN h1 h3 h4 hm hb
  simp only[cK hm,aQr,hw]
  exact hJ _
 rw[show(((key.length:Nat):Int) != 32)=true by simp;omega]
 exact⟨_,rfl⟩
end
def rD (n w:Nat):Nat:=n/18446744073709551616^(3-w)%18446744073709551616
theorem aI4 (n:Nat):U n=[(rD n 3:Int),(rD n 2:Int),(rD n 1:Int),(rD n 0:Int)]:=by
 simp only[U,w4,rD,aRM,aRc,aRG]
theorem aD8 (n w:Nat):rD n w<18446744073709551616:=aQy _ (by decide)
def pJ (n w j:Nat):Nat:=rD n w/2^(64-8*min 8 (j-8*w))
def stF (n j:Nat):List Int:=[(pJ n 3 j:Int),(pJ n 2 j:Int),(pJ n 1 j:Int),(pJ n 0 j:Int)]
theorem aMk (n j w:Nat)(hw:w<4):(stF n j)[3-w]? =some ((pJ n w j:Nat):Int):=by
 match w,hw with
 |0,_=>rfl
 |1,_=>rfl
 |2,_=>rfl
 |3,_=>rfl
theorem aE7 (n i:Nat)(hi:i<32):byG n i=((rD n (i/8)/2^(56-8*(i%8))%256:Nat):Int):=by
 have h:(U n).getD (3-i/8) 0=((rD n (i/8):Nat):Int):=by
  rw[aI4]
  have:i/8<4:=by omega
  generalize i/8=w at this
  match w,this with
  |0,_=>rfl
  |1,_=>rfl
  |2,_=>rfl
  |3,_=>rfl
 unfold byG
 rw[h,show((2:Int)^(56-8*(i%8)))=((2^(56-8*(i%8)):Nat):Int) by simp,Int.fdiv_eq_ediv_of_nonneg _ (Int.natCast_nonneg _),←Int.natCast_ediv,aRS]
 generalize rD n (i/8)/2^(56-8*(i%8))=y
 omega
theorem aFe {n w r:Nat}(hr:r<8):pJ n w (8*w+r+1)=2^8*pJ n w (8*w+r)+rD n w/2^(56-8*r)%256∧pJ n w (8*w+r)<2^56:=by
 have e1:64-8*min 8 (8*w+r+1-8*w)=56-8*r:=by omega
 have e2:64-8*min 8 (8*w+r-8*w)=(56-8*r)+8:=by omega
 unfold pJ
 rw[e1,e2,aRm,←aQ8]
 have hu:=aD8 n w
 have hd:rD n w/2^(56-8*r)≤rD n w:=Nat.div_le_self _ _
 generalize rD n w/2^(56-8*r)=y at hd
 have:(2:Nat)^8=256:=rfl
 have h56:(2:Nat)^56=72057594037927936:=rfl
 rw[this,h56]
 omega
theorem kR {n w w' r:Nat}(hr:r<8)(hne:w'≠w):pJ n w' (8*w+r+1)=pJ n w' (8*w+r):=by
 unfold pJ
 rw[show min 8 (8*w+r+1-8*w')=min 8 (8*w+r-8*w') by omega]
theorem aMg {n w r:Nat}(hw:w<4)(hr:r<8):(stF n (8*w+r)).set (3-w) ((2^8*pJ n w (8*w+r)+rD n w/2^(56-8*r)%256:Nat):Int)=stF n (8*w+r+1):=by
 rw[←(aFe hr).1]
 match w,hw with
 |0,_=>simp only[stF];rw[kR (w':=1) hr (by decide),kR (w':=2) hr (by decide),kR (w':=3) hr (by decide)];rfl
 |1,_=>simp only[stF];rw[kR (w':=0) hr (by decide),kR (w':=2) hr (by decide),kR (w':=3) hr (by decide)];rfl
 |2,_=>simp only[stF];rw[kR (w':=1) hr (by decide),kR (w':=0) hr (by decide),kR (w':=3) hr (by decide)];rfl
 |3,_=>simp only[stF];rw[kR (w':=1) hr (by decide),kR (w':=2) hr (by decide),kR (w':=0) hr (by decide)];rfl
theorem aPI (n:Nat):stF n 0=[0,0,0,0]:=by
 have h: ∀w,pJ n w 0=0:=fun w=>by
  unfold pJ
  rw[show 64-8*min 8 (0-8*w)=64 by omega]
  exact aRg (by have:=aD8 n w;exact this)
 simp only[stF,h];rfl
theorem aO4 (n:Nat):stF n 32=U n:=by
 have h: ∀w,w<4→pJ n w 32=rD n w:=fun w hw=>by
  unfold pJ
  rw[show 64-8*min 8 (32-8*w)=0 by omega]
  simp
 rw[aI4];simp only[stF];rw[h 0 (by decide),h 1 (by decide),h 2 (by decide),h 3 (by decide)]
section
variable {N:Nat}(hN:70000≤N)
include hN
theorem aHT (n:Nat): ∀(m j:Nat),32-j<m→j≤32→eN N (fW n) m (j:Int) (stF n j)=some (U n)
 |0,j,hm,_=>by omega
 |m+1,j,hm,hj=>by
  rw[eN]
  by_cases hh:j<32
  ·have hb:bB 32 (fW n) (j:Int)=some (byG n j):=by
    rw[cO hh (by rw[fY];exact hh)];simp[fW]
   have hw:j/8<4:=by omega
   have hr:j%8<8:=by omega
   have hg:bB 4 (stF n j) ((3-j/8:Nat):Int)=some ((pJ n (j/8) j:Nat):Int):=by
    rw[cO (show 3-j/8<4 by omega) (by simp[stF];omega)]
    have:=aMk n j (j/8) hw
    rw[aQz (by simp[stF];omega)]at this
    exact this
   rw[show decide ((j:Int)<32)=true from decide_eq_true (by omega),if_pos rfl,hb,show(8:Int)=((8:Nat):Int)from rfl,oV,b5 (a:=((j/8:Nat):Int)) (by omega) (by omega),b5 (a:=3-((j/8:Nat):Int)) (by omega) (by omega),show 3-((j/8:Nat):Int)=((3-j/8:Nat):Int) by omega]
   simp only[aQr,hg]
   have ej:j=8*(j/8)+j%8:=by omega
   obtain⟨p1,p2⟩:=aFe (n:=n) (w:=j/8) hr
   rw[←ej]at p1 p2
   have hs:shl .u64 ((pJ n (j/8) j:Nat):Int) ((8:Nat):Int)=some ((2^8*pJ n (j/8) j:Nat):Int):=by
    unfold shl
    rw[if_neg (by omega),show min (Int.toNat ((8:Nat):Int)) aRb.bits=8 from rfl,show((pJ n (j/8) j:Nat):Int)*2^8=((2^8*pJ n (j/8) j:Nat):Int) by rw[aQW];simp,uW (by omega) (by omega)]
   rw[hs]
   simp only[aQr]
   have hbt:rD n (j/8)/2^(56-8*(j%8))%256<2^8:=aQy _ (by decide)
   rw[aE7 n j hh,uW (by omega) (by have:=hbt;omega),uH rfl _ _ (by show _<2^64;omega) (by show _<2^64;omega),←aQN hbt]
   have:=aMg (n:=n) hw hr
   rw[←ej]at this
   rw[aQt,this,i1 (show j≤100000 by omega)]
   exact aHT n m (j+1) (by omega) (by omega)
  obtain rfl:j=32:=by omega
  rw[show decide (((32:Nat):Int)<32)=false from rfl,aO4]
  rfl
theorem aDu (n:Nat):eD N (fW n)=some (U n):=by
 have:=aHT hN n N 0 (by omega) (by omega)
 rw[aPI,show((0:Nat):Int)=0 from rfl]at this
 simp only[eD,cK (fY n),aQr,r40,this,lX,bA]
end
theorem aLY : ∀j<32,aQu.wrap (aRC (aQu.wrap (31-((j:Nat):Int))) 8)=aQu.wrap (3-aQu.wrap (aRC ((j:Nat):Int) 8))∧aQu.wrap (8*(aRD (aQu.wrap (31-((j:Nat):Int))) 8))=aQu.wrap (56-aQu.wrap (aRD ((j:Nat):Int) 8*8)):=by decide +kernel
theorem aJZ (N:Nat)(a:List Int): ∀(m j:Nat)(l:List Int),j≤32→i6 N a m (j:Int) l=iX N a m (j:Int) l
 |0,_,_,_=>rfl
 |m+1,j,l,hj=>by
  unfold i6 iX
  by_cases h:j<32
  ·have hw:aQu.wrap ((j:Int)+1)=((j+1:Nat):Int):=by rw[b5 (by omega) (by omega)];omega
   rw[(aLY j h).1,(aLY j h).2,hw]
   simp only[aJZ N a m (j+1) _ (by omega)]
  rw[if_neg (by simp;omega),if_neg (by simp;omega)]
theorem aK9 (N:Nat)(hN:70000≤N)(n:Nat):uM N (U n)=some (fW n):=by
 have h:=aFG hN n
 unfold qN at h
 unfold uM
 rw[show i6 N (U n) N 0 (aQv 32 0)=_ from aJZ N (U n) N 0 _ (by omega)]
 exact h
theorem aKa (N:Nat)(hN:70000≤N)(n:Nat):pN N (U n)=some (fW n):=by
 unfold pN
 rw[bA,aQr,aK9 N hN,aQr,tL (fY n),aQr]
def wP (n w j:Nat):Nat:=2^(64-8*min 8 (j-8*w))*pJ n w j
def stQ (n j:Nat):List Int:=[(wP n 3 j:Int),(wP n 2 j:Int),(wP n 1 j:Int),(wP n 0 j:Int)]
theorem aMa (n j w:Nat)(hw:w<4):(stQ n j)[3-w]? =some ((wP n w j:Nat):Int):=by
 match w,hw with
 |0,_=>rfl
 |1,_=>rfl
 |2,_=>rfl
 |3,_=>rfl
theorem aO6 (n w j:Nat):wP n w j<2^64:=aQ4 (Nat.mul_div_le _ _) (aD8 n w)
theorem aMJ {n w r:Nat}(hr:r<8):wP n w (8*w+r+1)=2^(64-8*r)*pJ n w (8*w+r)+2^(56-8*r)*(rD n w/2^(56-8*r)%256)∧wP n w (8*w+r)=2^(64-8*r)*pJ n w (8*w+r):=by
 have e1:64-8*min 8 (8*w+r+1-8*w)=56-8*r:=by omega
 have e2:64-8*min 8 (8*w+r-8*w)=64-8*r:=by omega
 unfold wP
 rw[e1,e2,(aFe hr).1,Nat.mul_add,←Nat.mul_assoc,←aRm,show 56-8*r+8=64-8*r by omega]
 exact⟨rfl,rfl⟩
theorem lU {n w w' r:Nat}(hr:r<8)(hne:w'≠w):wP n w' (8*w+r+1)=wP n w' (8*w+r):=by
 unfold wP
 rw[kR hr hne,show min 8 (8*w+r+1-8*w')=min 8 (8*w+r-8*w') by omega]
theorem aLu {n w r:Nat}(hw:w<4)(hr:r<8):(stQ n (8*w+r)).set (3-w) ((wP n w (8*w+r+1):Nat):Int)=stQ n (8*w+r+1):=by
 match w,hw with
 |0,_=>simp only[stQ];rw[lU (w':=1) hr (by decide),lU (w':=2) hr (by decide),lU (w':=3) hr (by decide)];rfl
 |1,_=>simp only[stQ];rw[lU (w':=0) hr (by decide),lU (w':=2) hr (by decide),lU (w':=3) hr (by decide)];rfl
 |2,_=>simp only[stQ];rw[lU (w':=1) hr (by decide),lU (w':=0) hr (by decide),lU (w':=3) hr (by decide)];rfl
 |3,_=>simp only[stQ];rw[lU (w':=1) hr (by decide),lU (w':=2) hr (by decide),lU (w':=0) hr (by decide)];rfl
theorem aOF (n:Nat):stQ n 0=[0,0,0,0]:=by
 have h: ∀w,wP n w 0=0:=fun w=>by
  unfold wP pJ
  rw[show 64-8*min 8 (0-8*w)=64 by omega,aRg (by have:=aD8 n w;exact this)]
 simp only[stQ,h];rfl
theorem aOy (n:Nat):stQ n 32=U n:=by
 have h: ∀w,w<4→wP n w 32=rD n w:=fun w hw=>by
  unfold wP pJ
  rw[show 64-8*min 8 (32-8*w)=0 by omega]
  simp
 rw[aI4];simp only[stQ];rw[h 0 (by decide),h 1 (by decide),h 2 (by decide),h 3 (by decide)]
section
variable {N:Nat}(hN:70000≤N)
include hN
theorem aGQ (n:Nat): ∀(m j:Nat),32-j<m→j≤32→gL N (fW n) m (j:Int) (stQ n j)=some (U n)
 |0,j,hm,_=>by omega
 |m+1,j,hm,hj=>by
  rw[gL]
  by_cases hh:j<32
  ·have hb:bB 32 (fW n) (j:Int)=some (byG n j):=by
    rw[cO hh (by rw[fY];exact hh)];simp[fW]
   have hw:j/8<4:=by omega
   have hr:j%8<8:=by omega
   have hg:bB 4 (stQ n j) ((3-j/8:Nat):Int)=some ((wP n (j/8) j:Nat):Int):=by
    rw[cO (show 3-j/8<4 by omega) (by simp[stQ];omega)]
    have:=aMa n j (j/8) hw
    rw[aQz (by simp[stQ];omega)]at this
    exact this
   have i1':aQu.wrap (aRC (aQu.wrap (31-(j:Int))) 8)=((3-j/8:Nat):Int):=by
    rw[show 31-(j:Int)=((31-j:Nat):Int) by omega,b5 (a:=((31-j:Nat):Int)) (by omega) (by omega),show(8:Int)=((8:Nat):Int)from rfl,oV,b5 (by omega) (by omega),show(31-j)/8=3-j/8 by omega]
   have i2':aQu.wrap (8*(aRD (aQu.wrap (31-(j:Int))) 8))=((56-8*(j%8):Nat):Int):=by
    rw[show 31-(j:Int)=((31-j:Nat):Int) by omega,b5 (a:=((31-j:Nat):Int)) (by omega) (by omega),show(aRD ((31-j:Nat):Int) 8)=(((31-j)%8:Nat):Int)from qJ _ 8,b5 (by omega) (by omega)]
    omega
   rw[show decide ((j:Int)<32)=true from decide_eq_true (by omega),if_pos rfl,i1',i2',hg,aQr,hb,aQr]
   have ej:j=8*(j/8)+j%8:=by omega
   obtain⟨p1,p2⟩:=aMJ (n:=n) (w:=j/8) hr
   rw[←ej]at p1 p2
   have hbt:rD n (j/8)/2^(56-8*(j%8))%256<256:=aQy _ (by decide)
   rw[aE7 n j hh,uW (by omega) (by omega),aBf (k:= .u64) rfl,aQr]
   have hlt:2^(56-8*(j%8))*(rD n (j/8)/2^(56-8*(j%8))%256)<2^(64-8*(j%8)):=by
    have h8:2^(64-8*(j%8))=2^(56-8*(j%8))*256:=by rw[show 64-8*(j%8)=56-8*(j%8)+8 by omega,aRm]
    rw[h8]
    exact(Nat.mul_lt_mul_left (aRF (by omega))).2 hbt
   have hle:2^(64-8*(j%8))≤2^64:=Nat.pow_le_pow_right (by omega) (by omega)
   have hval:rD n (j/8)/2^(56-8*(j%8))%256*2^(56-8*(j%8))%2^aRb.bits=2^(56-8*(j%8))*(rD n (j/8)/2^(56-8*(j%8))%256):=by
    rw[aQW]
    exact aQC (aQK hlt hle)
   rw[hval,uH (k:= .u64) rfl _ _ (aO6 n (j/8) j) (aQK hlt hle),p2,←aQN hlt,←p1]
   have:=aLu (n:=n) hw hr
   rw[←ej]at this
   rw[aQt,this,i1 (show j≤100000 by omega)]
   exact aGQ n m (j+1) (by omega) (by omega)
  obtain rfl:j=32:=by omega
  rw[show decide (((32:Nat):Int)<32)=false from rfl,aOy]
  rfl
theorem aCe (n:Nat):fT N (fW n)=some (U n):=by
 have:=aGQ hN n N 0 (by omega) (by omega)
 rw[aOF,show((0:Nat):Int)=0 from rfl]at this
 simp only[fT,aQr,r40,this,nW,bA]
theorem aJU {n:Nat}(hn:n<115792089237316195423570985008687907853269984665640564039457584007913129639936):sD N (fW n)=some (U (n%57896044618658097711785492504343953926634992332820282019728792003956564801911)):=by
 unfold sD
 rw[tL (fY n),aQr,aCe hN,aQr,←tV,aGX hN hn (by omega),aQr,bA,aQr,aRd]
theorem aKz {n:Nat}(hn:n<115792089237316195423570985008687907853269984665640564039457584007913129639936):nB N (fW n)=some (U (n%57896044618658097711785492504343953926634992332820282019728792003956564801911)):=by
 unfold nB lM
 rw[tL (fY n),aQr,aDu hN,aQr,←tV,bA,aQr,bA,aQr,aAt,aQr,aGV hN (by omega) (by omega) hn (by omega),aQr,bA,aQr,aQr,bA,aQr,aRd]
end
section
variable (N:Nat)(b:List Nat)(hl:b.length=64)(hb: ∀x∈b,x<256)
include hl hb
theorem aP4 (hN:70000≤N):eO N (iN b) N 0 (aQv 64 0)=some (aBL b 0 (aQv 64 0)):=by
 refine aFw b (f:=eO N (iN b)) (fun m j l hj hll hz=> ?_) (fun m l=>by rw[eO];rfl) N 0 _ (by omega) (by omega) (by simp) (fun i _ hi=>by rw[aQ5,if_pos hi])
 have g0:=u4 hb (4*j)
 have g1:=u4 hb (4*j+1)
 have g2:=u4 hb (4*j+2)
 have g3:=u4 hb (4*j+3)
 rw[eO,show decide ((j:Int)<16)=true from decide_eq_true (by omega),if_pos rfl]
 rw[b5 (a:=4*(j:Int)) (by omega) (by omega),b5 (a:=4*(j:Int)+1) (by omega) (by omega),b5 (a:=4*(j:Int)+2) (by omega) (by omega),b5 (a:=4*(j:Int)+3) (by omega) (by omega)]
 rw[show 4*(j:Int)=((4*j:Nat):Int) by omega,show((4*j:Nat):Int)+1=((4*j+1:Nat):Int) by omega,show((4*j:Nat):Int)+2=((4*j+2:Nat):Int) by omega,show((4*j:Nat):Int)+3=((4*j+3:Nat):Int) by omega]
 rw[aCR hl (by omega),aCR hl (by omega),aCR hl (by omega),aCR hl (by omega),cO (show j<64 by omega) (by omega)]
 rw[show(24:Int)=((24:Nat):Int)from rfl,show(16:Int)=((16:Nat):Int)from rfl,show(8:Int)=((8:Nat):Int)from rfl]
 simp only[aQr,aQt,i1 (show j≤100000 by omega),aC4 _ (show b.getD (4*j) 0<4294967296 by omega),aC4 _ (show b.getD (4*j+1) 0<4294967296 by omega),aC4 _ (show b.getD (4*j+2) 0<4294967296 by omega),aC4 _ (show b.getD (4*j+3) 0<4294967296 by omega),aNA]
 congr 2
 unfold wd
 generalize b.getD (4*j) 0=a0 at *
 generalize b.getD (4*j+1) 0=a1 at *
 generalize b.getD (4*j+2) 0=a2 at *
 generalize b.getD (4*j+3) 0=a3 at *
 rw[aQC (show a0*2^24<4294967296 by omega),aQC (show a1*2^16<4294967296 by omega),aQC (show a2*2^8<4294967296 by omega)]
 rw[orU _ _ (by omega) (by omega),aEd a0 _ 24 (by omega)]
 rw[show a0*2^24+a1*2^16=(a0*2^8+a1)*2^16 by omega,orU _ _ (by omega) (by omega),aEd _ (a2*2^8) 16 (by omega)]
 rw[show(a0*2^8+a1)*2^16+a2*2^8=((a0*2^8+a1)*2^8+a2)*2^8 by omega,orU _ _ (by omega) (by omega),aEd _ a3 8 (by omega)]
end
theorem aFT (N:Nat)(x n:Int):gZ N x n=cM N x n:=rfl
theorem aIA (N:Nat): ∀(m:Nat)(i:Int)(l:List Int),iF N m i l=fS N m i l
 |0,_,_=>rfl
 |m+1,i,l=>by simp only[iF,fS,aFT,aIA N m]
theorem aHY (N:Nat)(st w:List Int): ∀(m:Nat)(a b c d e f g h i:Int),iC N st w aA3 m a b c d e f g h i=fP N st w m a b c d e f g h i
 |0,_,_,_,_,_,_,_,_,_=>rfl
 |m+1,a,b,c,d,e,f,g,h,i=>by simp only[iC,fP,aFT,aHY N st w m]
section
variable (N:Nat)(hN:70000≤N)(b:List Nat)(hl:b.length=64)(hb: ∀x∈b,x<256)
include hN hl hb
theorem aJl :pG N (iN b)=mT N (iN b):=by
 simp only[pG,mT,aP4 N b hl hb hN,sL4 N b hl hb hN,aQr,pC,oP,aIA,pB,n9]
theorem aGo (st:List Int):mH N st (iN b)=jW N st (iN b):=by
 obtain⟨w,h1,h2⟩:=aL6 N hN b hl hb
 have hK:rI N=some aA3:=rfl
 have hKl:aS 64 aA3=some aA3:=rfl
 simp only[mH,jW,aJl N hN b hl hb,h1,hK,hKl,aQr,aHY,o7,n6]
end
theorem aFI (N n:Nat): ∀(k m:Nat)(acc:List Int),k≤8→k<m→acc.length+k≤1000→lA N (n:Int) m ((k:Int)-1) acc=some (acc++(aRo (8-k) k).map (beG n))
 |0,m,acc,_,hm,_=>by
  obtain⟨m,rfl⟩: ∃q,m=q+1:=⟨m-1,by omega⟩
  rw[lA,show decide ((0:Int)≤((0:Nat):Int)-1)=false from rfl];simp
 |k+1,m,acc,hk,hm,ha=>by
  obtain⟨m,rfl⟩: ∃q,m=q+1:=⟨m-1,by omega⟩
  rw[lA,show decide ((0:Int)≤((k+1:Nat):Int)-1)=true from decide_eq_true (by omega),if_pos rfl]
  rw[b5 (a:=8*(((k+1:Nat):Int)-1)) (by omega) (by omega),show 8*(((k+1:Nat):Int)-1)=((56-8*(8-(k+1)):Nat):Int) by omega,aJs _ _ (by omega)]
  simp only[aQr]
  rw[tU (by simp;omega)]
  simp only[aQr]
  rw[b5 (a:=((k+1:Nat):Int)-1-1) (by omega) (by omega),show((k+1:Nat):Int)-1-1=(k:Int)-1 by omega,aFI N n k m _ (by omega) (by omega) (by simp;omega),aQ2,List.map_cons,show 8-(k+1)+1=8-k by omega,aQR]
  rfl
theorem aFU (N n:Nat)(hn:n≤1000000000): ∀(z m:Nat)(l:List Int),z<64→z<m→l.length+z≤1000→(n+l.length+8+z)%64=0→mW N (n:Int) m l=some (l++aQv z 0)
 |z,0,l,_,hm,_,_=>by omega
 |z,m+1,l,hz,hm,hl,he=>by
  rw[mW,uW (a:=(l.length:Int)) (by omega) (by omega),uW (a:=(n:Int)+(l.length:Int)) (by omega) (by omega),uW (a:=(n:Int)+(l.length:Int)+8) (by omega) (by omega)]
  rw[show(n:Int)+(l.length:Int)+8=((n+l.length+8:Nat):Int) by omega,show(64:Int)=((64:Nat):Int)from rfl,qJ]
  match z with
  |0=>
   rw[show(n+l.length+8)%64=0 by simpa using he]
   simp
  |z+1=>
   have hne:(n+l.length+8)%64≠0:=by omega
   rw[show((((n+l.length+8)%64:Nat):Int) != 0)=true by simp;omega,if_pos rfl,tU (by simp;omega)]
   simp only[aQr]
   rw[aFU N n hn z m _ (by omega) (by omega) (by simp;omega) (by simp;omega),aRq,aQR]
   rfl
theorem aQd (N:Nat)(hN:70000≤N)(n:Nat)(hn:n≤1000000000):yS N (n:Int)=some (sO n):=by
 have hz:u7 n<64:=aQy _ (by omega)
 have h2:(n+1+8+u7 n)%64=0:=by unfold u7;omega
 unfold yS
 rw[aFU N n hn (u7 n) N [128] hz (by omega) (by simp;omega) (by simpa using h2)]
 simp only[aQr,vD]
 have:=aFI N n 8 N ([128]++aQv (u7 n) 0) (by omega) (by omega) (by simp;omega)
 rw[show((8:Nat):Int)-1=7 from rfl]at this
 rw[this];rfl
section
variable (N:Nat)(hN:70000≤N)(msg:List Int)(hb:Byt msg)(hl:msg.length≤2000000)
include hN hb hl
theorem aGh : ∀(m j:Nat)(st:List Int),msg.length/64-j<m→j≤msg.length/64→st.length=8→mQ N msg m ((64*j:Nat):Int) st=some (uI N msg st j (msg.length/64-j))
 |0,j,st,hm,_,_=>by omega
 |m+1,j,st,hm,hj,hst=>by
  rw[mQ,b5 (a:=((64*j:Nat):Int)+64) (by omega) (by omega)]
  by_cases h:j<msg.length/64
  ·have hlen:(rG msg j).length=64:=by simp[rG];omega
   obtain⟨c1,c2⟩:=aJF N hN st (rG msg j) hst (aBM (aBD hb _) _) hlen
   have c3:mH N st (rG msg j)=some (cmp N st (rG msg j)):=by
    obtain⟨bn,e1,e2⟩:=aID (aBM (aBD hb (64*j)) 64)
    have e3:rG msg j=iN bn:=e1
    rw[e3]at c1 hlen⊢
    rw[aGo N hN bn (by rw[aEq]at hlen;exact hlen) e2]
    exact c1
   rw[show decide (((64*j:Nat):Int)+64≤(msg.length:Int))=true from decide_eq_true (by omega),if_pos rfl]
   have e1:sub msg ((64*j:Nat):Int) (msg.length:Int)=some (msg.drop (64*j)):=by
    unfold sub
    rw[if_pos ⟨by omega,by omega,by omega⟩,aQt,aQt,aQw (aQH _)]
   have e2:kL (aQv 64 (0:Int)) (msg.drop (64*j))=rG msg j:=by
    unfold kL rG
    rw[aQZ,show List.drop (msg.drop (64*j)).length (aQv 64 (0:Int))=[]from aQB (by simp;omega),aQS]
   simp only[e1,e2,aQr,cK hst,cK hlen,c3,cK c2]
   rw[show((64*j:Nat):Int)+64=((64*(j+1):Nat):Int) by omega,aGh m (j+1) _ (by omega) (by omega) c2]
   unfold uI
   rw[show msg.length/64-j=(msg.length/64-(j+1))+1 by omega,aQ2,aRp]
  rw[show decide (((64*j:Nat):Int)+64≤(msg.length:Int))=false from decide_eq_false (by omega),show msg.length/64-j=0 by omega]
  rfl
end
section
variable (N:Nat)(hN:70000≤N)(st:List Int)(hst:st.length=8)
include hN hst
theorem aF8 : ∀(m j:Nat),8-j<m→j≤8→mL N st m (j:Int) ((aRa (4*j)).map (sN st)++aQv (32-4*j) 0)=some (aBT st)
 |0,j,hm,_=>by omega
 |m+1,j,hm,hj=>by
  rw[mL]
  by_cases h:j<8
  ·rw[show decide ((j:Int)<8)=true from decide_eq_true (by omega),if_pos rfl,aOp hst h]
   rw[b5 (a:=4*(j:Int)) (by omega) (by omega),b5 (a:=4*(j:Int)+1) (by omega) (by omega),b5 (a:=4*(j:Int)+2) (by omega) (by omega),b5 (a:=4*(j:Int)+3) (by omega) (by omega)]
   rw[show 4*(j:Int)=((4*j:Nat):Int) by omega,show((4*j:Nat):Int)+1=((4*j+1:Nat):Int) by omega,show((4*j:Nat):Int)+2=((4*j+2:Nat):Int) by omega,show((4*j:Nat):Int)+3=((4*j+3:Nat):Int) by omega]
   rw[show(24:Int)=((24:Nat):Int)from rfl,show(16:Int)=((16:Nat):Int)from rfl]
   simp only[aQr,aQt,i1 (show j≤100000 by omega)]
   rw[show(8:Int)=((8:Nat):Int)from rfl,aGB _ 24 (by omega),aGB _ 16 (by omega),aGB _ 8 (by omega)]
   simp only[aQr]
   have o0:aQJ.wrap ((st.getD j 0).fdiv (2^24))=sN st (4*j):=by unfold sN;rw[show 4*j/4=j by omega,show 4*j%4=0 by omega]
   have o1:aQJ.wrap ((st.getD j 0).fdiv (2^16))=sN st (4*j+1):=by unfold sN;rw[show(4*j+1)/4=j by omega,show(4*j+1)%4=1 by omega]
   have o2:aQJ.wrap ((st.getD j 0).fdiv (2^8))=sN st (4*j+2):=by unfold sN;rw[show(4*j+2)/4=j by omega,show(4*j+2)%4=2 by omega]
   have o3:aQJ.wrap (st.getD j 0)=sN st (4*j+3):=by
    unfold sN;rw[show(4*j+3)/4=j by omega,show(4*j+3)%4=3 by omega]
    congr 1
    generalize st.getD j 0=x
    simp
   rw[o0,o1,o2,o3,vA (sN st) 32 (4*j) (by omega),vA (sN st) 32 (4*j+1) (by omega),vA (sN st) 32 (4*j+2) (by omega),vA (sN st) 32 (4*j+3) (by omega)]
   rw[cO (show 4*j<32 by omega) (by simp;omega),cO (show 4*j+1<32 by omega) (by simp;omega),cO (show 4*j+2<32 by omega) (by simp;omega),cO (show 4*j+3<32 by omega) (by simp;omega)]
   simp only[aQr]
   exact aF8 m (j+1) (by omega) (by omega)
  obtain rfl:j=8:=by omega
  rw[show decide (((8:Nat):Int)<8)=false from rfl]
  simp[aBT]
end
theorem aE4 (N:Nat)(hN:70000≤N)(b:List Int)(hb:Byt b)(hl:b.length≤1000000):rW N b=some (sha256 N b):=by
 have hz:u7 b.length<64:=aQy _ (by omega)
 have hpl:=aHW b.length
 have hmb:Byt (b++sO b.length):=hb.append (aHt _)
 have hml:(b++sO b.length).length≤2000000:=by rw[aQU];omega
 obtain⟨s1,s2⟩:=aDT N hN _ hmb hml N 0 tQ (by omega) (by omega) rfl
 have s3:=aGh N hN _ hmb hml N 0 tQ (by omega) (by omega) rfl
 rw[aQY]at s2
 rw[show((64*0:Nat):Int)=0 from rfl,aQY]at s3
 have hw:aRb.wrap (b.length:Int)=(b.length:Int):=uW (by omega) (by omega)
 have o:=aF8 N hN (uI N (b++sO b.length) tQ 0 ((b++sO b.length).length/64)) s2 N 0 (by omega) (by omega)
 simp only[Nat.mul_zero,aRz,aRP,aQO,aQY]at o
 rw[show((0:Nat):Int)=0 from rfl]at o
 have hI:uT N=some tQ:=rfl
 have hIa:aS 8 tQ=some tQ:=rfl
 simp only[rW]
 rw[tU (by simp;omega)]
 simp only[aQr,aQO,hw,aQd N hN b.length (by omega)]
 rw[tU (by omega)]
 simp only[aQr,hI,hIa,s3,wM,cK s2,o,vH,cK (aDR _)]
 rfl
theorem aIS (N:Nat)(hN:70000≤N)(tag:ByteArray)(ht:tag.size≤1000)(b:List Int)(hb:Byt b)(hl:b.length≤900000):sG N tag b=some (aAD N tag b):=by
 have hlim:=kQ
 have hs:stb tag=some (d9 tag):=by unfold stb;rw[if_pos (by omega)]
 have s2:=aE4 N hN (d9 tag) (aDw tag) (by rw[tX];omega)
 have l1:=n8 N (d9 tag)
 have t2:=aE4 N hN (sha256 N (d9 tag)++(sha256 N (d9 tag)++b)) ((tI _ _).append ((tI _ _).append hb)) (by simp only[aQU,l1];omega)
 simp only[sG,hs,s2,aQr,cK l1]
 rw[tU (by simp[l1])]
 simp only[aQr,aQO]
 rw[tU (by simp[l1])]
 simp only[aQr]
 rw[tU (by simp[l1];omega)]
 simp only[aQr,aQR,t2,cK (n8 N _)]
 rfl
def uS (f:Nat→Nat)(w:Nat):Nat:=f (8*w)*72057594037927936+f (8*w+1)*281474976710656+f (8*w+2)*1099511627776+f (8*w+3)*4294967296+f (8*w+4)*16777216+f (8*w+5)*65536+f (8*w+6)*256+f (8*w+7)
theorem qK {f:Nat→Nat}(hf: ∀i,f i<256)(w:Nat):uS f w<18446744073709551616∧ ∀r,r<8→uS f w/2^(56-8*r)%256=f (8*w+r):=by
 have h0:=hf (8*w)
 have h1:=hf (8*w+1)
 have h2:=hf (8*w+2)
 have h3:=hf (8*w+3)
 have h4:=hf (8*w+4)
 have h5:=hf (8*w+5)
 have h6:=hf (8*w+6)
 have h7:=hf (8*w+7)
 unfold uS
 refine⟨by omega,fun r hr=> ?_⟩
 match r,hr with
 |0,_=>show _/72057594037927936%256=f (8*w);omega
 |1,_=>show _/281474976710656%256=_;omega
 |2,_=>show _/1099511627776%256=_;omega
 |3,_=>show _/4294967296%256=_;omega
 |4,_=>show _/16777216%256=_;omega
 |5,_=>show _/65536%256=_;omega
 |6,_=>show _/256%256=_;omega
 |7,_=>show _/1%256=_;omega
def byF (h:List Int)(i:Nat):Nat:=((h.getD i 0).toNat)%256
def jD (h:List Int):Nat:=vl (uS (byF h) 3) (uS (byF h) 2) (uS (byF h) 1) (uS (byF h) 0)
theorem v8 (h:List Int)(i:Nat):byF h i<256:=aQy _ (by decide)
theorem o4 (h:List Int):jD h<115792089237316195423570985008687907853269984665640564039457584007913129639936:=
 aCX (qK (v8 h) 3).1 (qK (v8 h) 2).1 (qK (v8 h) 1).1 (qK (v8 h) 0).1
theorem aAM {h:List Int}(hl:h.length=32)(hb:Byt h):fW (jD h)=h:=by
 have hw: ∀w,w<4→rD (jD h) w=uS (byF h) w:=by
  have e:=aI4 (jD h)
  rw[show U (jD h)=w4 (uS (byF h) 3) (uS (byF h) 2) (uS (byF h) 1) (uS (byF h) 0)from(aDF (qK (v8 h) 3).1 (qK (v8 h) 2).1 (qK (v8 h) 1).1 (qK (v8 h) 0).1).symm]at e
  simp only[w4,List.cons.injEq,Int.natCast_inj,and_true]at e
  obtain⟨e3,e2,e1,e0⟩:=e
  intro w hw
  match w,hw with
  |0,_=>exact e0.symm
  |1,_=>exact e1.symm
  |2,_=>exact e2.symm
  |3,_=>exact e3.symm
 refine List.ext_getElem (by rw[fY,hl]) fun i h1 h2=> ?_
 rw[fY]at h1
 have hg:(fW (jD h))[i]'(by rw[fY];exact h1)=byG (jD h) i:=by simp[fW]
 rw[hg,aE7 _ i h1,hw (i/8) (by omega),(qK (v8 h) (i/8)).2 (i%8) (by omega),show 8*(i/8)+i%8=i by omega]
 have hx:=hb h[i] (aQD h2)
 unfold byF
 rw[aQG,aQz h2,Option.getD_some]
 omega
theorem yA :gQ<115792089237316195423570985008687907853269984665640564039457584007913129639936:=by decide +kernel
theorem aC0 (a:Nat):a%gP<115792089237316195423570985008687907853269984665640564039457584007913129639936:=aRA (aQy _ (by decide +kernel)) (by decide +kernel)
section
variable {N:Nat}(hN:70000≤N)
include hN
theorem aEI (l:List (List Int))(hn:l.length≤1000)(ht:l.flatten.length≤40000000):k5 N l=some l.flatten:=by
 have:=aBZ (f:=kG N l) l hn (by omega) (fun m j acc hj hB=>by
  rw[kG,dT hj,if_pos rfl,dP l hj,aQr]
  unfold wJ
  rw[show((acc.length:Int)+(l[j].length:Int))=((acc.length+l[j].length:Nat):Int) by omega,b5 (by omega) (by omega),aJ5 (by have:=kQ;omega),aQr,List.take_zero,tU (by simp;omega),aQr,aQO,tU (by omega)]
  simp only[aQr,i1 (show j≤100000 by omega)]) (fun m j acc hj=>by rw[kG,dF (by omega)];rfl) N hN
 unfold k5
 rw[this];rfl
def aI5 (N r p:Nat)(m:List Int):Nat:=jD (aAD N vO (fW r++(fW p++m)))%gQ
omit hN in
theorem aIy (N r p:Nat)(m:List Int):aI5 N r p m<gQ:=aQy _ (by decide)
theorem aH3 (r p:Nat){m:List Int}(hm:m.length=32)(hb:Byt m):kP N (U r) (U p) m=some (U (aI5 N r p m)):=by
 have hs:=aKz hN (o4 (aAD N vO (fW r++(fW p++m))))
 rw[aAM (aBz N vO _) (aEa N vO _)]at hs
 have hrow:uZ N [fW r,fW p,m]=some (fW r++(fW p++m)):=by
  rw[grow hN _ (by simp) (fun x hx=>by
   simp only[aRl,aRi,or_false]at hx
   rcases hx with rfl|rfl|rfl
   ·exact fY _
   ·exact fY _
   exact hm)]
  simp
 have ht:=aF4 N hN vO (by decide) (fW r++(fW p++m)) ((aAb _).append ((aAb _).append hb)) (by simp[fY,hm])
 simp only[kP,bA,aFG hN,cK hm,cK (fY _),hrow,aQr]
 rw[show(⟨#[108,105,103,104,116,99,108,105,101,110,116,47,99,104,97,108,108,101,110,103,101]⟩:ByteArray)=vO from rfl,ht]
 simp only[aQr,hs,bA]
 rfl
theorem aHk (r p:Nat){m:List Int}(hm:m.length=32)(hb:Byt m):oJ N (U r) (U p) m=some (U (aI5 N r p m)):=by
 have hs:=aJU hN (o4 (aAD N vO (fW r++(fW p++m))))
 rw[aAM (aBz N vO _) (aEa N vO _)]at hs
 have hrow:k5 N [fW r,fW p,m]=some (fW r++(fW p++m)):=by
  rw[aEI hN _ (by simp) (by simp[fY,hm])]
  simp
 have ht:=aIS N hN vO (by decide) (fW r++(fW p++m)) ((aAb _).append ((aAb _).append hb)) (by simp[fY,hm])
 simp only[oJ,bA,aKa N hN,cK hm,hrow,aQr]
 rw[show(⟨#[108,105,103,104,116,99,108,105,101,110,116,47,99,104,97,108,108,101,110,103,101]⟩:ByteArray)=vO from rfl,ht]
 simp only[aQr,hs,bA]
 rfl
end
def aGZ (p:Nat):Bool:= !decide (p=0)&&(decide (p<gP)&&decide (p^gQ%gP=1))
def okN (p:Nat):Bool:= !decide (p=1)&&aGZ p
def aDC (N p:Nat)(m:List Int)(e s:Nat):Bool:=decide (e<gQ)&&(decide (s<gQ)&&(okN p&&decide (e=aI5 N (4^s%gP*(p^(gQ-e)%gP)%gP) p m)))
section
variable {N:Nat}(hN:70000≤N)
include hN
theorem aLS {p:Nat}(hp:p<115792089237316195423570985008687907853269984665640564039457584007913129639936):mS N (U p)=some (aGZ p):=by
 have he:=aCY hN hp yA
 have hz:(U p == [0,0,0,0])=decide (p=0):=by
  rw[←tV,wG hp (by decide +kernel)]
 unfold mS aGZ
 rw[bA,aQr,hz]
 by_cases h0:p=0
 ·rw[decide_eq_true h0];rfl
 rw[decide_eq_false h0]
 simp only[aQs,if_false,aRt,aQM]
 rw[aGL,aQr,uO hN hp (by decide +kernel),aQr,aEy]
 by_cases h1:p<gP
 ·rw[decide_eq_false (Nat.not_le.2 h1),decide_eq_true h1]
  unfold jI
  simp only[aQs,if_false,aQM]
  rw[bA,aQr,aAt,aQr,he,aQr,show d6 N 1=some (U 1)from rfl]
  simp only[aQr,bA]
  rw[wG (aC0 _) (by decide +kernel)]
 rw[decide_eq_true (Nat.not_lt.1 h1),decide_eq_false h1]
 rfl
theorem aIF {p:Nat}(hp:p<115792089237316195423570985008687907853269984665640564039457584007913129639936):nX N (U p)=some (okN p):=by
 unfold nX okN
 rw[bA,aQr,show d6 N 1=some (U 1)from rfl,aQr,bA,aQr,wG hp (by decide +kernel)]
 by_cases h1:p=1
 ·rw[decide_eq_true h1];rfl
 rw[decide_eq_false h1]
 simp only[aRt,if_true,aQM]
 rw[aLS hN hp,aQr]
 rfl
theorem aKW {e:Nat}(he:e<115792089237316195423570985008687907853269984665640564039457584007913129639936):q6 N (U e)=some (U (4^e%gP)):=by
 unfold q6
 rw[show d6 N 4=some (U 4)from rfl,aQr,bA,aQr,aCY hN (by decide +kernel) he,aQr,bA,aQr]
theorem aLP {p e s:Nat}(hp:p<115792089237316195423570985008687907853269984665640564039457584007913129639936)(he4:e<115792089237316195423570985008687907853269984665640564039457584007913129639936)(hs4:s<115792089237316195423570985008687907853269984665640564039457584007913129639936){m:List Int}(hm:m.length=32)(hb:Byt m):
  oX N (U p) m (U e) (U s)=some (aDC N p m e s):=by
 have hJt:g8 N (U p) m (U e) (U s) true=some false:=rfl
 unfold oX aDC
 rw[bA,aQr,sW hN he4,aQr,show decide (e<57896044618658097711785492504343953926634992332820282019728792003956564801911)=decide (e<gQ)from rfl]
 by_cases h1:e<gQ
 ·rw[decide_eq_true h1]
  simp only[aQI,aQs,if_false,aQM]
  rw[bA,aQr,sW hN hs4,aQr,show decide (s<57896044618658097711785492504343953926634992332820282019728792003956564801911)=decide (s<gQ)from rfl]
  by_cases h2:s<gQ
  ·rw[decide_eq_true h2]
   simp only[aQI,aQs,if_false,aQM]
   rw[bA,aQr,aIF hN hp,aQr]
   cases okN p with
   |false=>exact hJt
   |true=>
    have hd:(gQ+115792089237316195423570985008687907853269984665640564039457584007913129639936-e)%115792089237316195423570985008687907853269984665640564039457584007913129639936=gQ-e:=by
     have:=yA
     revert h1 this
     generalize gQ=Q
     intro h1 this
     omega
    have hd4:gQ-e<115792089237316195423570985008687907853269984665640564039457584007913129639936:=aQ4 (Nat.sub_le _ _) yA
    have hch:=aH3 hN (4^s%gP*(p^(gQ-e)%gP)%gP) p hm hb
    have hcl:=aIy N (4^s%gP*(p^(gQ-e)%gP)%gP) p m
    unfold g8
    simp only[aQI,aQs,if_false,aQM]
    rw[aAt,aQr,bA,aQr,aC2 hN (show gQ<_ from yA) he4,aQr,hd]
    simp only[bA,aQr]
    rw[aKW hN hs4,aQr,aCY hN hp hd4,aQr,aIX hN (aC0 _) (aC0 _),aQr,bA,aQr,cK hm,aQr,hch,aQr,bA,aQr,wG he4 (aRA hcl yA)]
  rw[decide_eq_false h2]
  exact hJt
 rw[decide_eq_false h1]
 exact hJt
end
theorem aOo {N:Nat}(hN:70000≤N)(l:List (List Int))(hn:l.length≤1000)(ht:l.flatten.length≤50000000):qH N l=some l.flatten:=by
 have:=aBZ (f:=kE N l) l hn ht (fun m j acc hj hB=>by
  rw[kE,dT hj,if_pos rfl,dP l hj,aQr,tU (by omega)]
  simp only[aQr,i1 (show j≤100000 by omega)]) (fun m j acc hj=>by rw[kE,dF (by omega)];rfl) N hN
 unfold qH
 rw[this];rfl
def sU (m n:Int):Bool:=decide (1≤n)&&decide (n≤15)&&decide (1≤m)&&decide (m≤n)
theorem aKV (N:Nat)(m n:Int):pT N m n=some (sU m n):=by
 unfold pT sU iE
 cases decide (1≤n)<;>cases decide (n≤15)<;>cases decide (1≤m)<;>rfl
def dN (x:Int)(r:List Int):aK×List Int×Int:=
 if x<1∨17<x then(⟨0,[],0,0⟩,[],80)
 else if x=1 then
  match r with
  | []=>(⟨0,[],0,0⟩,[],1)
  |n::r'=>if(r'.length:Int)<n then(⟨0,[],0,0⟩,[],1)else(⟨1,r'.take n.toNat,0,0⟩,r'.drop n.toNat,0)
 else if x=11 then
  match r with
  |m::n::r'=>if sU m n=true then(⟨11,[],m,n⟩,r',0)else(⟨0,[],0,0⟩,[],5)
  |_=>(⟨0,[],0,0⟩,[],1)
 else(⟨x,[],0,0⟩,r,0)
theorem aCp {α:Type}(x:α)(l:List α):bS (x::l) 0=some x:=rfl
theorem aNJ {α:Type}(x y:α)(l:List α):bS (x::y::l) 1=some y:=rfl
theorem aNP {α:Type}(x:α)(l:List α):sub (x::l) 1 (((x::l).length:Nat):Int)=some l:=by
 unfold sub
 rw[if_pos ⟨by omega,by simp;omega,by omega⟩,aQt,aQw (aQH _)];rfl
theorem aOx {α:Type}(x y:α)(l:List α):sub (x::y::l) 2 (((x::y::l).length:Nat):Int)=some l:=by
 unfold sub
 rw[if_pos ⟨by omega,by simp;omega,by omega⟩,aQt,aQw (aQH _)];rfl
theorem aNb {N:Nat}(hN:70000≤N){x:Int}{r:List Int}(hb:Byt (x::r))(hl:r.length≤100000):
  t6 N (x::r)=some ((dN x r).1.Code,(dN x r).1.Data,(dN x r).1.M,(dN x r).1.N,(dN x r).2.1,(dN x r).2.2):=by
 have hx:=hb x (by simp)
 have wx:aQu.wrap x=x:=b5 (by omega) (by omega)
 have hk:sR N x=some (decide (1≤x)&&decide (x≤17)):=by
  unfold sR oO
  cases decide (1≤x)<;>rfl
 unfold t6 dN
 simp only[aCp,aQr,wx,hk,aNP]
 by_cases h0:x<1∨17<x
 ·rw[if_pos h0]
  have:(decide (1≤x)&&decide (x≤17))=false:=by
   rcases h0 with h|h
   ·rw[decide_eq_false (by omega)];rfl
   rw[decide_eq_false (show¬x≤17 by omega),Bool.and_false]
  rw[this];rfl
 rw[if_neg h0,show(decide (1≤x)&&decide (x≤17))=true by rw[decide_eq_true (by omega),decide_eq_true (by omega)];rfl]
 simp only[aQI,aQs,if_false]
 by_cases h1:x=1
 ·subst h1
  rw[if_pos rfl,show((1:Int) == 1)=true from rfl,if_pos rfl]
  match r,hb,hl with
  | [],_,_=>rfl
  |n::r',hb,hl=>
   have hn:=hb n (by simp)
   have wn:aQu.wrap n=n:=b5 (by omega) (by omega)
   rw[show((((n::r').length:Nat):Int) == 0)=false by simp;omega]
   simp only[aQs,if_false,aCp,aQr,wn]
   have hl':r'.length+1≤100000:=by simpa using hl
   rw[show(((n::r').length:Nat):Int)-1=((r'.length:Nat):Int) by simp,b5 (a:=((r'.length:Nat):Int)) (by omega) (by omega)]
   by_cases h2:(r'.length:Int)<n
   ·rw[decide_eq_true h2,if_pos h2];rfl
   rw[decide_eq_false h2,if_neg h2]
   have e1:sub (n::r') 1 (aQu.wrap (1+n))=some (r'.take n.toNat):=by
    rw[b5 (by omega) (by omega)]
    unfold sub
    rw[if_pos ⟨by omega,by omega,by simp;omega⟩,show(1+n).toNat=n.toNat+1 by omega];rfl
   have e2:sub (n::r') (aQu.wrap (1+n)) (((n::r').length:Nat):Int)=some (r'.drop n.toNat):=by
    rw[b5 (by omega) (by omega)]
    unfold sub
    rw[if_pos ⟨by omega,by simp;omega,by omega⟩,show(1+n).toNat=n.toNat+1 by omega,aQt,aQw (aQH _)];rfl
   have e3:qH N [r'.take n.toNat]=some (r'.take n.toNat):=by
    rw[aOo hN _ (by simp) (by simp;omega)];simp
   simp only[pI,aQs,if_false,aCp,aQr,wn,e1,e2,e3,kT]
   rfl
 rw[if_neg h1,show(x == 1)=false by simpa using h1]
 simp only[aQs,if_false]
 by_cases h2:x=11
 ·subst h2
  rw[if_pos rfl,show((11:Int) == 11)=true from rfl,if_pos rfl]
  match r,hb,hl with
  | [],_,_=>rfl
  | [m],_,_=>rfl
  |m::n::r',hb,hl=>
   have hm:=hb m (by simp)
   have hn:=hb n (by simp)
   have wm:aQu.wrap m=m:=b5 (by omega) (by omega)
   have wn:aQu.wrap n=n:=b5 (by omega) (by omega)
   rw[show decide ((((m::n::r').length:Nat):Int)<2)=false from decide_eq_false (by simp;omega)]
   simp only[aQs,if_false,aCp,aNJ,aQr,wm,wn,aOx,aKV]
   cases hr:sU m n with
   |false=>rfl
   |true=>rfl
 rw[if_neg h2,show(x == 11)=false by simpa using h2]
 simp only[aQs,if_false,kT,wx]
structure vL (o:aK):Prop where
 data:Byt o.Data∧o.Data.length≤255
 multi:o.Code=11→1≤o.M∧o.M≤o.N∧o.N≤15
theorem aB0 {x:Int}{r:List Int}(hb:Byt (x::r))(he:(dN x r).2.2=0):vL (dN x r).1∧Byt (dN x r).2.1∧(dN x r).2.1.length≤r.length∧ ∀t,dN x (r++t)=((dN x r).1,(dN x r).2.1++t,0):=by
 have hr:Byt r:=fun y hy=>hb y (by simp[hy])
 unfold dN at he⊢
 by_cases h0:x<1∨17<x
 ·rw[if_pos h0]at he;cases he
 simp only[if_neg h0]at he⊢
 by_cases h1:x=1
 ·subst h1
  simp only[if_true]at he⊢
  match r,hr,he with
  | [],_,he=>cases he
  |n::r',hr,he=>
   simp only at he⊢
   by_cases h2:(r'.length:Int)<n
   ·rw[if_pos h2]at he;cases he
   simp only[if_neg h2]at he⊢
   have hn:=hr n (by simp)
   have hr':Byt r':=fun y hy=>hr y (by simp[hy])
   refine⟨⟨⟨aBM hr' _,by simp;omega⟩,fun h=>by simp at h⟩,aBD hr' _,by simp;omega,fun t=> ?_⟩
   simp only[aRv]
   rw[if_neg (by simp;omega),List.take_append_of_le_length (by omega),aRj (by omega)]
 simp only[if_neg h1]at he⊢
 by_cases h2:x=11
 ·subst h2
  simp only[if_true]at he⊢
  match r,hr,he with
  | [],_,he=>cases he
  | [_],_,he=>cases he
  |m::n::r',hr,he=>
   simp only[aRv]at he⊢
   by_cases h3:sU m n=true
   ·simp only[if_pos h3]at he⊢
    refine⟨⟨⟨fun y hy=>by simp at hy,by simp⟩,fun _=> ?_⟩,fun y hy=>hr y (by simp[hy]),by simp;omega,fun t=>trivial⟩
    simp only[sU,aRk,decide_eq_true_eq]at h3
    exact⟨h3.1.2,h3.2,h3.1.1.2⟩
   rw[if_neg h3]at he;cases he
 simp only[if_neg h2]at he⊢
 exact⟨⟨⟨fun y hy=>by simp at hy,by simp⟩,fun h=>absurd h h2⟩,hr,aQH _,fun t=>trivial⟩
def hZ :Nat→List Int→List aK→LR (List aK) (List aK×Int)
 |0,_,acc=> .brk acc
 |_+1,[],acc=> .brk acc
 |k+1,x::r,acc=>if(dN x r).2.2=0 then hZ k (dN x r).2.1 (acc++[(dN x r).1])else .ret ([],(dN x r).2.2)
theorem aDY {N:Nat}(hN:70000≤N): ∀(m:Nat)(b:List Int)(acc:List aK),b.length<m→Byt b→b.length≤100000→acc.length+b.length≤200000→jH N m b acc=some (hZ m b acc)
 |0,b,acc,hm,_,_,_=>by omega
 |m+1,[],acc,_,_,_,_=>rfl
 |m+1,x::r,acc,hm,hb,hl,ha=>by
  simp only[aQE]at hm hl ha
  rw[jH,show decide ((0:Int)<(((x::r).length:Nat):Int))=true from decide_eq_true (by rw[aQE];omega),if_pos rfl,aNb hN hb (by omega)]
  simp only[aQr,hZ]
  by_cases he:(dN x r).2.2=0
  ·obtain⟨h1,h2,h3,_⟩:=aB0 hb he
   rw[if_pos he,he,show((0:Int) != 0)=false from rfl]
   have hlim:=kQ
   simp only[aQs,if_false]
   rw[vX (by simp;omega)]
   simp only[aQr]
   exact aDY hN m _ _ (by omega) h2 (by omega) (by simp;omega)
  rw[if_neg he,show((dN x r).2.2 != 0)=true by simpa using he]
  rfl
theorem xR : ∀(k k':Nat)(b:List Int)(acc:List aK),Byt b→b.length<k→b.length<k'→hZ k b acc=hZ k' b acc
 |0,_,b,_,_,hk,_=>by omega
 |k+1,0,b,_,_,_,hk=>by omega
 |k+1,k'+1,[],acc,_,_,_=>rfl
 |k+1,k'+1,x::r,acc,hb,h1,h2=>by
  simp only[aQE]at h1 h2
  simp only[hZ]
  by_cases he:(dN x r).2.2=0
  ·obtain⟨_,h4,h3,_⟩:=aB0 hb he
   rw[if_pos he,if_pos he]
   exact xR k k' _ _ h4 (by omega) (by omega)
  rw[if_neg he,if_neg he]
theorem aGd : ∀(k:Nat)(b:List Int)(acc l:List aK),Byt b→b.length<k→(∀o∈acc,vL o)→hZ k b acc= .brk l→(∀o∈l,vL o)∧l.length≤acc.length+b.length∧ ∀(t:List Int)(k':Nat),Byt t→b.length+t.length<k'→hZ k' (b++t) acc=hZ (t.length+1) t l
 |0,b,_,_,_,hk,_,_=>by omega
 |k+1,[],acc,l,_,_,hv,h=>by
  injection h with h
  subst h
  refine⟨hv,by simp,fun t k' ht hk=> ?_⟩
  rw[aQO]
  exact xR _ _ _ _ ht (by simpa using hk) (by omega)
 |k+1,x::r,acc,l,hb,hk,hv,h=>by
  simp only[aQE]at hk
  simp only[hZ]at h
  by_cases he:(dN x r).2.2=0
  ·obtain⟨h1,h4,h3,h5⟩:=aB0 hb he
   rw[if_pos he]at h
   obtain⟨g1,g2,g3⟩:=aGd k _ _ l h4 (by omega) (fun o ho=>(aQ6.1 ho).elim (hv o) (fun hh=>by simp only[aQV]at hh;exact hh▸h1)) h
   refine⟨g1,by simp at g2 ⊢; omega,fun t k' ht hk'=> ?_⟩
   obtain⟨k',rfl⟩: ∃q,k'=q+1:=⟨k'-1,by omega⟩
   simp only[aQE]at hk'
   rw[aRv,hZ,h5 t]
   simp only[if_true]
   exact g3 t k' ht (by omega)
  rw[if_neg he]at h;cases h
def bU (b:List Int):List aK×Int:=if 520<b.length then([],4)else match hZ (b.length+1) b []with | .ret v=>v | .brk l=>(l,0)
theorem aLj {N:Nat}(hN:70000≤N){b:List Int}(hb:Byt b):rN N b=some (bU b):=by
 unfold rN bU
 by_cases h:520<b.length
 ·rw[show decide ((520:Int)<((b.length:Nat):Int))=true from decide_eq_true (by omega),if_pos rfl,if_pos h]
 rw[show decide ((520:Int)<((b.length:Nat):Int))=false from decide_eq_false (by omega),if_neg h,aDY hN N b [] (by omega) hb (by omega) (by simp;omega),xR N (b.length+1) b [] hb (by omega) (by omega)]
 cases hZ (b.length+1) b []<;>rfl
theorem aEl : ∀(k:Nat)(b:List Int)(acc:List aK)(v:List aK×Int),hZ k b acc= .ret v→v.1=[]∧v.2≠0
 |0,_,_,_,h=>by cases h
 |k+1,[],_,_,h=>by cases h
 |k+1,x::r,acc,v,h=>by
  simp only[hZ]at h
  by_cases he:(dN x r).2.2=0
  ·rw[if_pos he]at h;exact aEl k _ _ v h
  rw[if_neg he]at h;injection h with h;subst h;exact⟨rfl,he⟩
theorem aAQ {b:List Int}(hb:Byt b)(h:(bU b).2=0):(∀o∈(bU b).1,vL o)∧(bU b).1.length≤520∧b.length≤520∧hZ (b.length+1) b []= .brk (bU b).1:=by
 unfold bU at h⊢
 by_cases hl:520<b.length
 ·rw[if_pos hl]at h;cases h
 simp only[if_neg hl]at h⊢
 cases hp:hZ (b.length+1) b [] with
 |ret v=>rw[hp]at h;exact absurd h (aEl _ _ _ _ hp).2
 |brk l=>
  obtain⟨g1,g2,_⟩:=aGd _ b [] l hb (by omega) (by simp) hp
  exact⟨g1,by simp at g2;show l.length≤520;omega,by omega,rfl⟩
def yB (v:Bool):List Int:=if v then [1]else []
theorem aDK (v:Bool):Byt (yB v)∧(yB v).length≤520:=by
 cases v
 ·exact⟨fun x hx=>by simp[yB]at hx,by decide⟩
 exact⟨fun x hx=>by simp[yB]at hx;omega,by decide⟩
theorem aF2 (N:Nat): ∀(m k n:Nat)(acc:List Int),n<256^k→k<m→k≤10→acc.length+k≤1000→Byt acc→n<4294967296→ ∃r,dR N m (n:Int) acc=some r∧Byt r∧r.length≤acc.length+k
 |0,k,n,acc,_,hm,_,_,_,_=>by omega
 |m+1,k,n,acc,hn,hm,hk,ha,hb,h32=>by
  rw[dR]
  by_cases h:0<n
  ·match k,hn with
   |0,hn=>simp at hn;omega
   |k+1,hn=>
    rw[show decide ((0:Int)<(n:Int))=true from decide_eq_true (by omega),if_pos rfl,tU (by simp;omega)]
    simp only[aQr]
    rw[show shr .u32 (n:Int) 8=some ((n/256:Nat):Int)from u5 n 8 h32,aQr]
    rw[aQ3]at hn
    obtain⟨r,h1,h2,h3⟩:=aF2 N m k (n/256) (acc++[aQJ.wrap (n:Int)]) ((aQX (by omega)).2 hn) (by omega) (by omega) (by simp;omega) (hb.append (fun x hx=>by simp only[aQV]at hx;exact hx▸aDX _)) (by omega)
    exact⟨r,h1,h2,by simp at h3;omega⟩
  rw[show decide ((0:Int)<(n:Int))=false from decide_eq_false (by omega)]
  exact⟨acc,rfl,hb,by omega⟩
def aBQ (N:Nat)(n:Int):List Int:=(eU N n).getD []
section
variable {N:Nat}(hN:70000≤N)
include hN
theorem aFh {n:Nat}(h:n<4294967296):eU N (n:Int)=some (aBQ N n)∧Byt (aBQ N n)∧(aBQ N n).length≤520:=by
 obtain⟨r,h1,h2,h3⟩:=aF2 N N 4 n [] (by simpa using h) (by omega) (by omega) (by simp) (fun x hx=>by simp at hx) h
 have:eU N (n:Int)=some r:=by simp only[eU,h1,aQr,s7]
 rw[show aBQ N n=r by simp[aBQ,this]]
 exact⟨this,h2,by simp at h3;omega⟩
theorem aDa (v:Bool):jF N v=some (yB v):=by
 obtain⟨m,hm⟩:=rJ (fun q=>dR N q 1 []) hN
 obtain⟨m',hm'⟩:=rJ (fun q=>dR N q 0 []) hN
 cases v with
 |false=>
  simp only[jF,aQs,if_false,eU,hm']
  rfl
 |true=>
  simp only[jF,if_true,eU,hm]
  rw[dR,show decide ((0:Int)<1)=true from rfl,if_pos rfl,tU (by simp)]
  simp only[aQr]
  rw[show shr .u32 1 8=some 0 from by decide +kernel,aQr,dR]
  rfl
def aHI (N:Nat)(b:List Int):Int×Int:=(gO N b).getD (0,0)
theorem aOe (b:List Int):gO N b=some (aHI N b):=by
 have hloop:b.length≤4→ ∀(m j:Nat)(v:Int),b.length-j<m→j≤b.length→ ∃r,eY N b m v (j:Int)=some r:=by
  intro hl m
  induction m with
  |zero=>intro j v hm _;omega
  |succ m ih=>
   intro j v hm hj
   rw[eY]
   by_cases h:j<b.length
   ·obtain⟨y,hy⟩: ∃y,shl .u32 (aQL.wrap b[j]) (aQu.wrap (8*(j:Int)))=some y:=by
     rw[b5 (by omega) (by omega)];unfold shl;rw[if_neg (by omega)];exact⟨_,rfl⟩
    rw[dT h,if_pos rfl,dP b h]
    simp only[aQr,hy,i1 (show j≤100000 by omega)]
    exact ih (j+1) _ (by omega) (by omega)
   rw[dF h];exact⟨v,rfl⟩
 have hJ:b.length≤4→ ∀t,∃r,eH N b t=some r:=by
  intro hl t
  cases t with
  |true=>exact⟨_,rfl⟩
  |false=>
   obtain⟨r,hr⟩:=hloop hl N 0 0 (by omega) (by omega)
   rw[show((0:Nat):Int)=0 from rfl]at hr
   simp only[eH,aQs,if_false,hr,aQr,qR]
   exact⟨_,rfl⟩
 have: ∃r,gO N b=some r:=by
  unfold gO
  by_cases h:4<b.length
  ·rw[show decide ((4:Int)<((b.length:Nat):Int))=true from decide_eq_true (by omega)]
   exact⟨_,rfl⟩
  rw[show decide ((4:Int)<((b.length:Nat):Int))=false from decide_eq_false (by omega)]
  simp only[aQs,if_false]
  by_cases h2:0<b.length
  ·rw[show decide ((0:Int)<((b.length:Nat):Int))=true from decide_eq_true (by omega),if_pos rfl,b5 (by omega) (by omega),show((b.length:Nat):Int)-1=((b.length-1:Nat):Int) by omega,dP b (by omega)]
   exact hJ (by omega) _
  rw[show decide ((0:Int)<((b.length:Nat):Int))=false from decide_eq_false (by omega)]
  show∃r,eH N b false=some r
  exact hJ (by omega) _
 obtain⟨r,hr⟩:=this
 simp[aHI,hr]
def aIR (N:Nat)(eJ:List Int)(now:Int):Int:=if(aHI N eJ).2 != 0 then(aHI N eJ).2 else if decide (now<aQu.wrap (aHI N eJ).1)then 85 else 0
theorem aEb (eJ:List Int)(now:Int):j8 N eJ now=some (aIR N eJ now):=by
 simp only[j8,aOe hN,aQr,aIR]
 split
 ·rfl
 split<;>rfl
def tZ (b:List Int):Bool:=b.any (· != 0)
theorem aAr {b:List Int}(hl:b.length≤60000):jL N b=some (tZ b):=by
 have:=xF (f:=eV N b) (xs:=b) (p:=fun x=> !(x != 0)) (r:=true) (fun m j hj=>by
   rw[eV,dT hj,if_pos rfl,dP b hj]
   simp only[aQr,i1 (show j≤100000 by omega)]
   cases b[j] != 0<;>rfl) (fun m j hj=>by rw[eV,dF (by omega)];rfl) N 0 (by omega) (by omega)
 rw[show((0:Nat):Int)=0 from rfl,aQA]at this
 unfold jL tZ
 rw[this,List.any_eq_not_all_not]
 cases b.all fun x=> !(x != 0)<;>rfl
end
structure WS (st:List (List Int)):Prop where
 len:st.length≤64
 it: ∀x∈st,Byt x∧x.length≤520
theorem WS.push {st:List (List Int)}(h:WS st)(hl:st.length<64){x:List Int}(hx:Byt x∧x.length≤520):WS (st++[x]):=
 ⟨by simp;omega,fun y hy=>(aQ6.1 hy).elim (h.it y) (fun e=>by simp only[aQV]at e;exact e▸hx)⟩
theorem WS.take {st:List (List Int)}(h:WS st)(k:Nat):WS (st.take k):=⟨by have:=h.len;simp;omega,fun y hy=>h.it y (aQP hy)⟩
theorem WS.set {st:List (List Int)}(h:WS st)(i:Nat){x:List Int}(hx:Byt x∧x.length≤520):WS (st.set i x):=⟨by rw[aQF];exact h.len,fun y hy=>(aRs hy).elim (h.it y) (fun e=>e▸hx)⟩
def eF (st:List (List Int))(k:Nat):List Int:=st.getD (st.length-k) []
theorem pQ {st:List (List Int)}(h:WS st){k:Nat}(h1:1≤k)(hk:k≤st.length):Byt (eF st k)∧(eF st k).length≤520∧bS st (aQu.wrap (((st.length:Nat):Int)-(k:Int)))=some (eF st k):=by
 have hl:=h.len
 have hlt:st.length-k<st.length:=by omega
 have e:eF st k=st[st.length-k]:=by simp[eF,hlt]
 rw[b5 (by omega) (by omega),show((st.length:Nat):Int)-(k:Int)=((st.length-k:Nat):Int) by omega,dP st hlt,e]
 exact⟨(h.it _ (aQD hlt)).1,(h.it _ (aQD hlt)).2,rfl⟩
theorem aE5 {N:Nat}{m:List Int}{h a:Int}{st:List (List Int)}{br:List aG}{c:Int}(hs:st.length≤64){k:Nat}(hk:k≤st.length):dI N m h a st br c (k:Int)=some (m,h,a,st.take (st.length-k),br,c):=by
 unfold dI
 rw[b5 (by omega) (by omega),show((st.length:Nat):Int)-(k:Int)=((st.length-k:Nat):Int) by omega]
 have:sub st 0 ((st.length-k:Nat):Int)=some (st.take (st.length-k)):=by
  unfold sub;rw[if_pos ⟨by omega,by omega,by omega⟩];simp
 rw[this];rfl
theorem vM {l m:List (List Int)}(h:l.length+m.length≤1000000):eM 24 l m=some (l++m):=by
 have:=kQ
 exact vX (by omega)
theorem aBr {N:Nat}{m:List Int}{h a:Int}{st:List (List Int)}{br:List aG}{c:Int}(hs:st.length≤64){k:Nat}(hk:k≤st.length)(x:List Int):cJ N m h a st br c (k:Int) x=some (m,h,a,st.take (st.length-k)++[x],br,c):=by
 unfold cJ
 rw[aE5 hs hk,aQr,vM (by simp;omega)];rfl
def yD (st:List (List Int))(x:List Int):Int×List (List Int):=if 64≤st.length then(4,st)else(0,st++[x])
theorem aFB {N:Nat}{m:List Int}{h a:Int}{st:List (List Int)}{br:List aG}{c:Int}(x:List Int):fL N m h a st br c x=some ((yD st x).1,m,h,a,(yD st x).2,br,c):=by
 unfold fL yD
 by_cases hl:64≤st.length
 ·rw[show decide ((64:Int)≤((st.length:Nat):Int))=true from decide_eq_true (by omega),if_pos rfl,if_pos hl]
 rw[show decide ((64:Int)≤((st.length:Nat):Int))=false from decide_eq_false (by omega),if_neg hl,vM (by simp;omega)];rfl
def qE (N:Nat)(m key sig:List Int):Int:=(cE N m 0 0 [] [] 0 key sig).getD 0
theorem aOd {N:Nat}(hN:70000≤N){m:List Int}(hm:m.length=32)(hb:Byt m)(h a:Int)(st:List (List Int))(br:List aG)(c:Int)(key sig:List Int):cE N m h a st br c key sig=some (qE N m key sig):=by
 obtain⟨e,he⟩:=aJ8 hN hm hb 0 0 [] [] 0 key sig
 have h1:cE N m h a st br c key sig=cE N m 0 0 [] [] 0 key sig:=rfl
 rw[h1,show qE N m key sig=e by simp[qE,he],he]
def mI (N:Nat)(m:List Int):List (List Int)→List (List Int)→Int→Int×Int
 |k::ks,s::ss,c=>if qE N m k s != 0 then(qE N m k s,0)else mI N m ks ss (if decide (0<(s.length:Int))then c+1 else c)
 |_,_,c=>(0,c)
def q5 (N:Nat)(m:List Int)(st:List (List Int))(dS:Int)(n:Nat):Int×List (List Int):=
 if(mI N m (st.drop (st.length-n)) ((st.take (st.length-n)).drop (st.length-2*n)) 0).1=0 then(0,st.take (st.length-2*n)++[yB (decide (dS≤(mI N m (st.drop (st.length-n)) ((st.take (st.length-n)).drop (st.length-2*n)) 0).2))])
 else((mI N m (st.drop (st.length-n)) ((st.take (st.length-n)).drop (st.length-2*n)) 0).1,st)
section
variable {N:Nat}(hN:70000≤N){m:List Int}(hm:m.length=32)(hb:Byt m)
include hN hm hb
theorem aDP (h a:Int)(st:List (List Int))(br:List aG)(c dS:Int)(n:Nat)(hn:n≤100)(ks ss:List (List Int))(hk:ks.length=n)(hs:ss.length=n): ∀(f j:Nat)(cnt:Int),n-j<f→j≤n→0≤cnt→cnt≤j→
  cL N m h a st br c dS (n:Int) ks ss f cnt (j:Int)=some (if(mI N m (ks.drop j) (ss.drop j) cnt).1=0 then .brk (mI N m (ks.drop j) (ss.drop j) cnt).2 else .ret ((mI N m (ks.drop j) (ss.drop j) cnt).1,m,h,a,st,br,c))
 |0,j,cnt,hf,_,_,_=>by omega
 |f+1,j,cnt,hf,hj,h0,h1=>by
  rw[cL]
  by_cases hjn:j<n
  ·rw[dT hjn,if_pos rfl,dP ks (by omega),dP ss (by omega)]
   simp only[aQr,aOd hN hm hb]
   rw[aQx (show j<ks.length by omega),aQx (show j<ss.length by omega),mI]
   cases hv:qE N m ks[j] ss[j] != 0 with
   |true=>
    have hv':qE N m ks[j] ss[j]≠0:=by simpa using hv
    simp only[if_true,if_neg hv']
   |false=>
    simp only[aQs,if_false,gB,i1 (show j≤100000 by omega)]
    cases hl:decide (0<((ss[j].length:Nat):Int)) with
    |true=>
     simp only[if_true]
     rw[b5 (a:=cnt+1) (by omega) (by omega)]
     exact aDP h a st br c dS n hn ks ss hk hs f (j+1) _ (by omega) (by omega) (by omega) (by omega)
    |false=>
     simp only[aQs,if_false]
     exact aDP h a st br c dS n hn ks ss hk hs f (j+1) _ (by omega) (by omega) (by omega) (by omega)
  rw[dF hjn,aQB (by omega)]
  rfl
theorem aFY {h a:Int}{st:List (List Int)}(hs:WS st){br:List aG}{c dS:Int}{n:Nat}(h1:1≤n)(hn:2*n≤st.length):fX N m h a st br c dS (n:Int)=some ((q5 N m st dS n).1,m,h,a,(q5 N m st dS n).2,br,c):=by
 have hl:=hs.len
 have e1:rA st (aQu.wrap (((st.length:Nat):Int)-(n:Int))) ((st.length:Nat):Int)=some (st.drop (st.length-n)):=by
  rw[b5 (by omega) (by omega),show((st.length:Nat):Int)-(n:Int)=((st.length-n:Nat):Int) by omega]
  unfold rA
  rw[if_pos ⟨by omega,by omega,by omega⟩,aQt,aQt,aQw (aQH _)]
 have e2:rA st (aQu.wrap (((st.length:Nat):Int)-(aQu.wrap (2*(n:Int))))) (aQu.wrap (((st.length:Nat):Int)-(n:Int)))=some ((st.take (st.length-n)).drop (st.length-2*n)):=by
  rw[b5 (a:=2*(n:Int)) (by omega) (by omega),b5 (a:=((st.length:Nat):Int)-(n:Int)) (by omega) (by omega),b5 (by omega) (by omega),show((st.length:Nat):Int)-(n:Int)=((st.length-n:Nat):Int) by omega,show((st.length:Nat):Int)-2*(n:Int)=((st.length-2*n:Nat):Int) by omega]
  unfold rA
  rw[if_pos ⟨by omega,by omega,by omega⟩,aQt,aQt]
 have lp:=aDP hN hm hb h a st br c dS n (by omega) (st.drop (st.length-n)) ((st.take (st.length-n)).drop (st.length-2*n)) (by simp;omega) (by simp;omega) N 0 0 (by omega) (by omega) (by omega) (by omega)
 rw[aQA,aQA,show((0:Nat):Int)=0 from rfl]at lp
 simp only[fX,e1,e2,lp,aQr]
 unfold q5
 by_cases hz:(mI N m (st.drop (st.length-n)) ((st.take (st.length-n)).drop (st.length-2*n)) 0).1=0
 ·rw[if_pos hz,if_pos hz]
  simp only[j5,aDa hN,aQr]
  rw[b5 (a:=2*(n:Int)) (by omega) (by omega),show 2*(n:Int)=((2*n:Nat):Int) by omega,aBr hl hn]
  rfl
 rw[if_neg hz,if_neg hz]
end
def tT (b:List Int):Nat×Nat×Int:=if b.length≠64 then(0,0,8)else if jD (b.take 32)<gQ∧jD (b.drop 32)<gQ then(jD (b.take 32),jD (b.drop 32),0)else(0,0,5)
def aE0 (N:Nat)(m key sig:List Int):Int:=
 if key.length≠32 then 60 else if okN (jD key)=false then 60 else if sig.length=0 then 0 else
 if(tT sig).2.2≠0 then 61 else if aDC N (jD key) m (tT sig).1 (tT sig).2.1=true then 0 else 61
theorem aIx (b:List Int):(tT b).1<115792089237316195423570985008687907853269984665640564039457584007913129639936∧(tT b).2.1<115792089237316195423570985008687907853269984665640564039457584007913129639936:=by
 unfold tT
 split
 ·exact⟨by decide +kernel,by decide +kernel⟩
 split
 ·exact⟨o4 _,o4 _⟩
 exact⟨by decide +kernel,by decide +kernel⟩
theorem aFv :aQv 4 (0:Int)=U 0:=by decide +kernel
section
variable {N:Nat}(hN:70000≤N)
include hN
theorem aA0 {h:List Int}(hl:h.length=32)(hb:Byt h):eD N h=some (U (jD h)):=by
 have:=aDu hN (jD h)
 rwa[aAM hl hb]at this
theorem aLL {b:List Int}(hb:Byt b):oY N b=some (U (tT b).1,U (tT b).2.1,(tT b).2.2):=by
 unfold oY tT
 by_cases hl:b.length=64
 ·rw[show(((b.length:Nat):Int) != 64)=false by rw[hl];rfl,if_neg (show¬b.length≠64 from fun h=>h hl)]
  have e1:sub b 0 32=some (b.take 32):=by unfold sub;rw[if_pos ⟨by omega,by omega,by omega⟩];simp
  have e2:sub b 32 (b.length:Int)=some (b.drop 32):=by
   unfold sub;rw[if_pos ⟨by omega,by omega,by omega⟩,aQt,aQw (aQH _)];rfl
  have l1:(b.take 32).length=32:=by simp;omega
  have l2:(b.drop 32).length=32:=by simp;omega
  have a1:nQ 32 (b.take 32)=some (b.take 32):=by unfold nQ;rw[if_pos (by omega),aQw (by omega)]
  have a2:nQ 32 (b.drop 32)=some (b.drop 32):=by unfold nQ;rw[if_pos (by omega),aQw (by omega)]
  have b1:Byt (b.take 32):=fun x hx=>hb x (aQP hx)
  have b2:Byt (b.drop 32):=fun x hx=>hb x (aQQ hx)
  have n1:=o4 (b.take 32)
  have n2:=o4 (b.drop 32)
  have f1:=aA0 hN l1 b1
  have f2:=aA0 hN l2 b2
  generalize jD (b.take 32)=e at *
  generalize jD (b.drop 32)=s at *
  rw[if_neg (show¬(false=true) by decide),e1,aQr,a1,aQr,f1,aQr,e2,aQr,a2,aQr,f2,aQr,bA,aQr,bA,aQr,sW hN n1,aQr,sW hN n2,aQr,
   show decide (e<57896044618658097711785492504343953926634992332820282019728792003956564801911)=decide (e<gQ)from rfl,show decide (s<57896044618658097711785492504343953926634992332820282019728792003956564801911)=decide (s<gQ)from rfl]
  by_cases h1:e<gQ
  ·by_cases h2:s<gQ
   ·rw[decide_eq_true h1,decide_eq_true h2,if_pos (show e<gQ∧s<gQ from⟨h1,h2⟩)];rfl
   rw[decide_eq_true h1,decide_eq_false h2,if_neg (show¬(e<gQ∧s<gQ)from fun h=>h2 h.2),←aFv];rfl
  rw[decide_eq_false h1,if_neg (show¬(e<gQ∧s<gQ)from fun h=>h1 h.1),←aFv];rfl
 rw[show(((b.length:Nat):Int) != 64)=true by simp;omega,if_pos rfl,if_pos (show b.length≠64 from hl),←aFv]
theorem aN0 {m:List Int}(hm:m.length=32)(hmb:Byt m){key sig:List Int}(hk:Byt key)(hs:Byt sig):qE N m key sig=aE0 N m key sig:=by
 have key0:cE N m 0 0 [] [] 0 key sig=some (aE0 N m key sig):=by
  have hJ: ∀t,eP N m 0 0 [] [] 0 t=some (if t=true then 61 else 0):=fun t=>by cases t<;>rfl
  unfold cE aE0
  by_cases hl:key.length=32
  ·have a1:nQ 32 key=some key:=by unfold nQ;rw[if_pos (by omega),aQw (by omega)]
   have hd:=aIx sig
   have f1:=aA0 hN hl hk
   have n1:=o4 key
   have hdec:=aLL hN hs
   rw[show(((key.length:Nat):Int) != 32)=false by rw[hl];rfl,if_neg (show¬key.length≠32 from fun h=>h hl)]
   generalize tT sig=D at *
   obtain⟨e,s,er⟩:=D
   generalize jD key=p at *
   have hval:=aIF hN n1
   have hver:=aLP hN n1 hd.1 hd.2 hm hmb
   dsimp only at hd hdec hver
   rw[if_neg (show¬(false=true) by decide),a1,aQr,f1,aQr,bA,aQr,hval,aQr]
   cases hv:okN p with
   |false=>rfl
   |true=>
    simp only[aQI,aQs,if_false,aRr]
    by_cases h0:sig.length=0
    ·rw[if_pos h0,show(((sig.length:Nat):Int) == 0)=true by rw[h0];rfl]
     rfl
    rw[if_neg h0,show(((sig.length:Nat):Int) == 0)=false by simp;intro h;exact h0 (by rw[h];rfl),hdec]
    simp only[aQs,if_false,aQr]
    by_cases h1:er=0
    ·rw[if_neg (show¬er≠0 from fun h=>h h1),show(er != 0)=false by simpa using h1]
     simp only[aQs,if_false,cK hm,aQr,hver,hJ]
     cases aDC N p m e s<;>rfl
    rw[if_pos h1,show(er != 0)=true by simpa using h1]
    rfl
  rw[show(((key.length:Nat):Int) != 32)=true by simp;omega,if_pos rfl,if_pos (show key.length≠32 from hl)]
 unfold qE
 rw[key0]
 rfl
end
section
variable {N:Nat}(hN:70000≤N)
include hN
theorem aBI {a:Nat}(ha:a<115792089237316195423570985008687907853269984665640564039457584007913129639936):l7 N (U a)=some (decide (a<gQ)):=by
 unfold l7
 rw[bA,aQr,aC7 N hN,aQr,aHd,uO hN ha (show(57896044618658097711785492504343953926634992332820282019728792003956564801911:Nat)<115792089237316195423570985008687907853269984665640564039457584007913129639936 by decide),aQr,aGD]
theorem aJO {p:Nat}(hp:p<115792089237316195423570985008687907853269984665640564039457584007913129639936):rM N (U p)=some (aGZ p):=by
 have he:=aG1 hN hp yA
 unfold rM aGZ
 rw[bA,aQr,aDb hp,aQr]
 by_cases h0:p=0
 ·rw[decide_eq_true h0,aQI,aRE,if_neg (show¬(false=true) by decide)];rfl
 rw[decide_eq_false h0,if_pos (show(!false)=true from rfl),aCZ N hN,aQr,aHd,uO hN hp (show(115792089237316195423570985008687907853269984665640564039457584007913129603823:Nat)<115792089237316195423570985008687907853269984665640564039457584007913129639936 by decide),aQr,aGD]
 by_cases h1:p<gP
 ·rw[if_pos (decide_eq_true (show p<115792089237316195423570985008687907853269984665640564039457584007913129603823 from h1)),aC7 N hN,aQr,show qA N (U p) (U 57896044618658097711785492504343953926634992332820282019728792003956564801911)=_ from he,aQr,show aAL N=some (U 1)from rfl,aQr,bA,aQr,bA,aQr,wG (aC0 _) (by decide +kernel),decide_eq_true h1,aRt,aQM,aQM]
  rfl
 rw[if_neg (show¬decide (p<115792089237316195423570985008687907853269984665640564039457584007913129603823)=true from fun h=>h1 (of_decide_eq_true h)),decide_eq_false h1,aRE,Bool.and_false]
 rfl
theorem aGW {p:Nat}(hp:p<115792089237316195423570985008687907853269984665640564039457584007913129639936):qX N (U p)=some (okN p):=by
 unfold qX okN
 rw[bA,aQr,show eT N 1=some (U 1)from rfl,aQr,bA,aQr,wG hp (by decide +kernel)]
 by_cases h1:p=1
 ·rw[decide_eq_true h1,aQI,aRE,if_neg (show¬(false=true) by decide)];rfl
 rw[decide_eq_false h1,if_pos (show(!false)=true from rfl),aJO hN hp,aQr,aRt,aQM]
 rfl
theorem aN1 {a b:Nat}(ha:a<115792089237316195423570985008687907853269984665640564039457584007913129639936)(hb:b<115792089237316195423570985008687907853269984665640564039457584007913129639936):yJ N (U a) (U b)=some (U (a*b%gP)):=by
 unfold yJ
 rw[bA,aQr,bA,aQr,aCZ N hN,aQr,aCO hN (show(115792089237316195423570985008687907853269984665640564039457584007913129603823:Nat)<115792089237316195423570985008687907853269984665640564039457584007913129639936 by decide) (by decide) ha hb,aQr,bA,aQr]
theorem aJ0 {p e s:Nat}(hp:p<115792089237316195423570985008687907853269984665640564039457584007913129639936)(he4:e<115792089237316195423570985008687907853269984665640564039457584007913129639936)(hs4:s<115792089237316195423570985008687907853269984665640564039457584007913129639936){m:List Int}(hm:m.length=32)(hb:Byt m):
  sJ N (U p) m (U e) (U s)=some (aDC N p m e s):=by
 have hJt:jO N (U p) m (U e) (U s) true=some false:=rfl
 unfold sJ aDC
 rw[bA,aQr,aGW hN hp,aQr]
 cases okN p with
 |false=>
  rw[if_pos (show(!false)=true from rfl),hJt]
  simp
 |true=>
  rw[if_neg (show¬(!true)=true by decide),bA,aQr,aBI hN he4,aQr]
  by_cases h1:e<gQ
  ·rw[decide_eq_true h1,if_neg (show¬(!true)=true by decide),bA,aQr,aBI hN hs4,aQr]
   by_cases h2:s<gQ
   ·have hd:(gQ+115792089237316195423570985008687907853269984665640564039457584007913129639936-e)%115792089237316195423570985008687907853269984665640564039457584007913129639936=gQ-e:=by
     have:=yA
     revert h1 this
     generalize gQ=Q
     intro h1 this
     omega
    have hd4:gQ-e<115792089237316195423570985008687907853269984665640564039457584007913129639936:=aQ4 (Nat.sub_le _ _) yA
    have hch:=aHk hN (4^s%gP*(p^(gQ-e)%gP)%gP) p hm hb
    have hcl:=aIy N (4^s%gP*(p^(gQ-e)%gP)%gP) p m
    rw[decide_eq_true h2]
    unfold jO
    rw[if_neg (show¬(!true)=true by decide),aC7 N hN,aQr,bA,aQr,aEH hN (show gQ<_ from yA) he4,aQr,hd]
    dsimp only
    rw[bA,aQr,bA,aQr,aKN hN hs4,aQr,bA,aQr,aG1 hN hp hd4,aQr,aN1 hN (aC0 _) (aC0 _),aQr,bA,aQr,cK hm,aQr,hch,aQr,bA,aQr,wG he4 (aRA hcl yA)]
    rfl
   rw[decide_eq_false h2]
   exact hJt
  rw[decide_eq_false h1]
  exact hJt
theorem aAn {h:List Int}(hl:h.length=32)(hb:Byt h):fT N h=some (U (jD h)):=by
 have:=aCe hN (jD h)
 rwa[aAM hl hb]at this
theorem aJ3 {b:List Int}(hb:Byt b):sC N b=some (U (tT b).1,U (tT b).2.1,(tT b).2.2):=by
 unfold sC tT
 by_cases hl:b.length=64
 ·rw[show(((b.length:Nat):Int) != 64)=false by rw[hl];rfl,if_neg (show¬b.length≠64 from fun h=>h hl)]
  have e1:sub b 0 32=some (b.take 32):=by unfold sub;rw[if_pos ⟨by omega,by omega,by omega⟩];simp
  have e2:sub b 32 (b.length:Int)=some (b.drop 32):=by
   unfold sub;rw[if_pos ⟨by omega,by omega,by omega⟩,aQt,aQw (aQH _)];rfl
  have l1:(b.take 32).length=32:=by simp;omega
  have l2:(b.drop 32).length=32:=by simp;omega
  have c1:kL (aQv 32 0) (b.take 32)=b.take 32:=aFd (by rw[aQZ,l1])
  have c2:kL (aQv 32 0) (b.drop 32)=b.drop 32:=aFd (by rw[aQZ,l2])
  have b1:Byt (b.take 32):=fun x hx=>hb x (aQP hx)
  have b2:Byt (b.drop 32):=fun x hx=>hb x (aQQ hx)
  have n1:=o4 (b.take 32)
  have n2:=o4 (b.drop 32)
  have f1:=aAn hN l1 b1
  have f2:=aAn hN l2 b2
  have a1:=cK l1
  have a2:=cK l2
  generalize jD (b.take 32)=e at *
  generalize jD (b.drop 32)=s at *
  rw[if_neg (show¬(false=true) by decide),e1,aQr,e2,aQr,c1,c2,a1,aQr,f1,aQr,a2,aQr,f2,aQr,bA,aQr,bA,aQr,aBI hN n1,aQr,aBI hN n2,aQr]
  by_cases h1:e<gQ
  ·by_cases h2:s<gQ
   ·rw[decide_eq_true h1,decide_eq_true h2,if_pos (show e<gQ∧s<gQ from⟨h1,h2⟩)];rfl
   rw[decide_eq_true h1,decide_eq_false h2,if_neg (show¬(e<gQ∧s<gQ)from fun h=>h2 h.2),←aFv];rfl
  rw[decide_eq_false h1,if_neg (show¬(e<gQ∧s<gQ)from fun h=>h1 h.1),←aFv];rfl
 rw[show(((b.length:Nat):Int) != 64)=true by simp;omega,if_pos rfl,if_pos (show b.length≠64 from hl),←aFv]
theorem aKr {m:List Int}(hm:m.length=32)(hmb:Byt m){key sig:List Int}(hk:Byt key)(hs:Byt sig):m7 N sig key m=some (decide (0<sig.length)&&decide (aE0 N m key sig=0),aE0 N m key sig):=by
 unfold m7 aE0
 by_cases hl:key.length=32
 ·have c1:kL (aQv 32 0) key=key:=aFd (by rw[aQZ,hl])
  have hd:=aIx sig
  have f1:=aAn hN hl hk
  have n1:=o4 key
  have hdec:=aJ3 hN hs
  have a1:=cK hl
  rw[show(((key.length:Nat):Int) != 32)=false by rw[hl];rfl,if_neg (show¬key.length≠32 from fun h=>h hl)]
  generalize tT sig=D at *
  obtain⟨e,s,er⟩:=D
  generalize jD key=p at *
  have hval:=aGW hN n1
  have hver:=aJ0 hN n1 hd.1 hd.2 hm hmb
  dsimp only at hd hdec hver
  rw[if_neg (show¬(false=true) by decide),c1,a1,aQr,f1,aQr,bA,aQr,hval,aQr]
  cases hv:okN p with
  |false=>simp
  |true=>
   rw[if_neg (show¬(!true)=true by decide),if_neg (show¬(true=false) by decide)]
   by_cases h0:sig.length=0
   ·rw[if_pos h0,show(((sig.length:Nat):Int) == 0)=true by rw[h0];rfl]
    simp[h0]
   rw[if_neg h0,show(((sig.length:Nat):Int) == 0)=false by simp;intro h;exact h0 (by rw[h];rfl),hdec,if_neg (show¬(false=true) by decide),aQr]
   dsimp only
   by_cases h1:er=0
   ·rw[if_neg (show¬er≠0 from fun h=>h h1),show(er != 0)=false by simpa using h1,if_neg (show¬(false=true) by decide),cK hm,aQr,hver,aQr]
    rw[decide_eq_true (show 0<sig.length by omega)]
    cases aDC N p m e s<;>rfl
   rw[if_pos h1,show(er != 0)=true by simpa using h1,if_pos rfl]
   simp[oQ]
 rw[show(((key.length:Nat):Int) != 32)=true by simp;omega,if_pos rfl,if_pos (show key.length≠32 from hl)]
 simp
end
def eqE (a b:List Int):Bool:=(nP a).toList == (nP b).toList
def sB (N:Nat)(m:List Int)(h a:Int)(o:aK)(st:List (List Int)):Int×List (List Int):=
 if o.Code=1 then yD st o.Data
 else if o.Code=2 then yD st (eF st 1)
 else if o.Code=3 then(0,st.take (st.length-1))
 else if o.Code=4 then(0,(st.set (st.length-1) (eF st 2)).set (st.length-2) (eF st 1))
 else if o.Code=5 then(0,st.take (st.length-2)++[yB (eqE (eF st 1) (eF st 2))])
 else if o.Code=6 then(0,st.take (st.length-1)++[yB (!tZ (eF st 1))])
 else if o.Code=7 then(if tZ (eF st 1)then(0,st.take (st.length-1))else(84,st))
 else if o.Code=8 then(0,st.take (st.length-1)++[sha256 N (eF st 1)])
 else if o.Code=9 then yD st (aBQ N ((eF st 1).length:Nat))
 else if o.Code=10 then q5 N m st 1 1
 else if o.Code=11 then q5 N m st o.M o.N.toNat
 else if o.Code=12 then(aIR N (eF st 1) h,st)
 else if o.Code=13 then(aIR N (eF st 1) a,st)
 else if o.Code=17 then(84,st)
 else(0,st)
def kI (o:aK):Int:=
 if o.Code=1∨o.Code=15∨o.Code=16∨o.Code=17 then 0 else if o.Code=4∨o.Code=5∨o.Code=10 then 2 else if o.Code=11 then 2*o.N else 1
def k8 (o:aK):Int:=if o.Code=8 then 6 else if o.Code=10 then 21 else if o.Code=11 then 1+20*o.N else 1
theorem iD {x y:Int}(h:x≠y):(x == y)=false:=by simpa using h
theorem aGT (N:Nat){o:aK}(ho:vL o):sV N o.Code o.Data o.M o.N=some (k8 o):=by
 unfold sV k8
 by_cases h8:o.Code=8
 ·rw[h8];rfl
 rw[iD h8,if_neg h8]
 by_cases h10:o.Code=10
 ·rw[h10];rfl
 rw[iD h10,if_neg h10]
 by_cases h11:o.Code=11
 ·have:=ho.multi h11
  rw[if_pos h11,h11,b5 (a:=20*o.N) (by omega) (by omega),b5 (by omega) (by omega)];rfl
 rw[iD h11,if_neg h11];rfl
theorem aFV {o:aK}(ho:vL o):1≤k8 o∧k8 o≤301:=by
 unfold k8
 by_cases h11:o.Code=11
 ·have:=ho.multi h11
  rw[if_neg (by omega),if_neg (by omega),if_pos h11];omega
 rw[if_neg h11]
 split
 ·omega
 split<;>omega
theorem aLC (N:Nat){o:aK}(ho:vL o):rY N o.Code o.Data o.M o.N=some (kI o):=by
 unfold rY kI jM lG
 by_cases h11:o.Code=11
 ·have:=ho.multi h11
  simp only[h11]
  rw[b5 (a:=2*o.N) (by omega) (by omega)]
  simp
 by_cases h1:o.Code=1
 ·simp[h1]
 by_cases h15:o.Code=15
 ·simp[h15]
 by_cases h16:o.Code=16
 ·simp[h16]
 by_cases h17:o.Code=17
 ·simp[h17]
 by_cases h4:o.Code=4
 ·simp[h4]
 by_cases h5:o.Code=5
 ·simp[h5]
 by_cases h10:o.Code=10
 ·simp[h10]
 simp[h1,h15,h16,h17,h4,h5,h10,h11]
section
variable {N:Nat}(hN:70000≤N){m:List Int}(hm:m.length=32)(hb:Byt m)
include hN hm hb
theorem aDN {st:List (List Int)}(hs:WS st){x:List Int}(hx:Byt x∧x.length≤520):WS (yD st x).2:=by
 unfold yD
 by_cases h:64≤st.length
 ·rw[if_pos h];exact hs
 rw[if_neg h];exact hs.push (by omega) hx
theorem aD0 {st:List (List Int)}(hs:WS st)(dS:Int){n:Nat}(h1:1≤n)(hn:2*n≤st.length):WS (q5 N m st dS n).2:=by
 unfold q5
 split
 ·have:=hs.len
  exact(hs.take _).push (by simp;omega) (aDK _)
 exact hs
theorem aKH {h a:Int}{o:aK}(ho:vL o){st:List (List Int)}(hs:WS st)(hn:kI o≤(st.length:Int)):WS (sB N m h a o st).2:=by
 have hl:=hs.len
 have rep: ∀(k:Nat)(x:List Int),1≤k→k≤st.length→(Byt x∧x.length≤520)→WS (st.take (st.length-k)++[x]):=fun k x h1 hk hx=>(hs.take _).push (by simp;omega) hx
 unfold sB
 unfold kI at hn
 by_cases h1:o.Code=1
 ·rw[if_pos h1]
  exact aDN hN hm hb hs ⟨ho.data.1,by have:=ho.data.2;omega⟩
 rw[if_neg h1]
 by_cases h2:o.Code=2
 ·simp[h2]at hn
  have:=pQ hs (k:=1) (by omega) (by omega)
  rw[if_pos h2]
  exact aDN hN hm hb hs ⟨this.1,this.2.1⟩
 rw[if_neg h2]
 by_cases h3:o.Code=3
 ·rw[if_pos h3];exact hs.take _
 rw[if_neg h3]
 by_cases h4:o.Code=4
 ·simp[h4]at hn
  have q1:=pQ hs (k:=1) (by omega) (by omega)
  have q2:=pQ hs (k:=2) (by omega) (by omega)
  rw[if_pos h4]
  exact(hs.set _ ⟨q2.1,q2.2.1⟩).set _ ⟨q1.1,q1.2.1⟩
 rw[if_neg h4]
 by_cases h5:o.Code=5
 ·simp[h5]at hn
  rw[if_pos h5]
  exact rep 2 _ (by omega) (by omega) (aDK _)
 rw[if_neg h5]
 by_cases h6:o.Code=6
 ·simp[h6]at hn
  rw[if_pos h6]
  exact rep 1 _ (by omega) (by omega) (aDK _)
 rw[if_neg h6]
 by_cases h7:o.Code=7
 ·rw[if_pos h7]
  cases tZ (eF st 1)
  ·exact hs
  exact hs.take _
 rw[if_neg h7]
 by_cases h8:o.Code=8
 ·simp[h8]at hn
  rw[if_pos h8]
  exact rep 1 _ (by omega) (by omega) ⟨tI _ _,by rw[n8];omega⟩
 rw[if_neg h8]
 by_cases h9:o.Code=9
 ·simp[h9]at hn
  have:=pQ hs (k:=1) (by omega) (by omega)
  rw[if_pos h9]
  exact aDN hN hm hb hs (aFh hN (n:=(eF st 1).length) (by omega)).2
 rw[if_neg h9]
 by_cases h10:o.Code=10
 ·simp[h10]at hn
  rw[if_pos h10]
  exact aD0 hN hm hb hs _ (by omega) (by omega)
 rw[if_neg h10]
 by_cases h11:o.Code=11
 ·have:=ho.multi h11
  simp[h11]at hn
  rw[if_pos h11]
  exact aD0 hN hm hb hs _ (by omega) (by omega)
 rw[if_neg h11]
 by_cases h12:o.Code=12
 ·rw[if_pos h12];exact hs
 rw[if_neg h12]
 by_cases h13:o.Code=13
 ·rw[if_pos h13];exact hs
 rw[if_neg h13]
 by_cases h17:o.Code=17
 ·rw[if_pos h17];exact hs
 rw[if_neg h17];exact hs
theorem aKJ {h a:Int}{o:aK}(ho:vL o){st:List (List Int)}(hs:WS st)(hn:kI o≤(st.length:Int))(br:List aG)(c:Int):
  jT N m h a st br c o.Code o.Data o.M o.N=some ((sB N m h a o st).1,m,h,a,(sB N m h a o st).2,br,c):=by
 have hl:=hs.len
 have top:1≤st.length→bZ N m h a st br c=some (eF st 1):=fun h1=>by
  unfold bZ
  rw[show((st.length:Nat):Int)-1=((st.length:Nat):Int)-((1:Nat):Int)from rfl,(pQ hs (k:=1) (by omega) h1).2.2];rfl
 have len1:1≤st.length→(eF st 1).length≤520∧Byt (eF st 1):=fun h1=>⟨(pQ hs (k:=1) (by omega) h1).2.1,(pQ hs (k:=1) (by omega) h1).1⟩
 have rep1: ∀x,1≤st.length→cJ N m h a st br c 1 x=some (m,h,a,st.take (st.length-1)++[x],br,c):=fun x h1=>aBr (k:=1) hl h1 x
 have rep2: ∀x,2≤st.length→cJ N m h a st br c 2 x=some (m,h,a,st.take (st.length-2)++[x],br,c):=fun x h1=>aBr (k:=2) hl h1 x
 have drp:1≤st.length→dI N m h a st br c 1=some (m,h,a,st.take (st.length-1),br,c):=fun h1=>aE5 (k:=1) hl h1
 have i2:2≤st.length→bS st (aQu.wrap (((st.length:Nat):Int)-2))=some (eF st 2):=fun h2=>(pQ hs (k:=2) (by omega) h2).2.2
 have i1':1≤st.length→bS st (aQu.wrap (((st.length:Nat):Int)-1))=some (eF st 1):=fun h2=>(pQ hs (k:=1) (by omega) h2).2.2
 unfold sB jT
 unfold kI at hn
 by_cases h1:o.Code=1
 ·rw[if_pos h1,h1,aFB];rfl
 rw[if_neg h1,iD h1]
 by_cases h2:o.Code=2
 ·simp[h2]at hn
  rw[if_pos h2,h2,top (by omega)]
  simp only[aQr,aFB];rfl
 rw[if_neg h2,iD h2]
 by_cases h3:o.Code=3
 ·simp[h3]at hn
  rw[if_pos h3,h3,drp (by omega)];rfl
 rw[if_neg h3,iD h3]
 by_cases h4:o.Code=4
 ·simp[h4]at hn
  rw[if_pos h4,h4,i2 (by omega),i1' (by omega)]
  have e1:aQu.wrap (((st.length:Nat):Int)-1)=((st.length-1:Nat):Int):=by rw[b5 (by omega) (by omega)];omega
  have e2:aQu.wrap (((st.length:Nat):Int)-2)=((st.length-2:Nat):Int):=by rw[b5 (by omega) (by omega)];omega
  simp only[e1,e2,aQt,aQr]
  rw[dP _ (show st.length-2<(st.set (st.length-1) (eF st 2)).length by rw[aQF];omega)]
  rfl
 rw[if_neg h4,iD h4]
 by_cases h5:o.Code=5
 ·simp[h5]at hn
  rw[if_pos h5,h5,top (by omega),i2 (by omega)]
  simp only[aQr,yF,aDa hN,rep2 _ (show 2≤st.length by omega)]
  rfl
 rw[if_neg h5,iD h5]
 by_cases h6:o.Code=6
 ·simp[h6]at hn
  rw[if_pos h6,h6,top (by omega)]
  simp only[aQr,aAr hN (show(eF st 1).length≤60000 by have:=(len1 (by omega)).1;omega),aDa hN,rep1 _ (show 1≤st.length by omega)]
  rfl
 rw[if_neg h6,iD h6]
 by_cases h7:o.Code=7
 ·simp[h7]at hn
  rw[if_pos h7,h7,top (by omega)]
  simp only[aQr,aAr hN (show(eF st 1).length≤60000 by have:=(len1 (by omega)).1;omega),drp (show 1≤st.length by omega)]
  cases tZ (eF st 1)<;>rfl
 rw[if_neg h7,iD h7]
 by_cases h8:o.Code=8
 ·simp[h8]at hn
  rw[if_pos h8,h8,top (by omega)]
  simp only[aQr,aG4 N hN _ (len1 (by omega)).2 (show(eF st 1).length≤1000000 by have:=(len1 (by omega)).1;omega),cK (n8 N (eF st 1)),rep1 _ (show 1≤st.length by omega)]
  rfl
 rw[if_neg h8,iD h8]
 by_cases h9:o.Code=9
 ·simp[h9]at hn
  have:=(len1 (by omega)).1
  rw[if_pos h9,h9,top (by omega)]
  simp only[aQr,aC4 _ (show(eF st 1).length<4294967296 by omega),(aFh hN (show(eF st 1).length<4294967296 by omega)).1,aFB]
  rfl
 rw[if_neg h9,iD h9]
 by_cases h10:o.Code=10
 ·simp[h10]at hn
  have:=aFY hN hm hb (h:=h) (a:=a) hs (br:=br) (c:=c) (dS:=1) (n:=1) (by omega) (by omega)
  rw[show((1:Nat):Int)=1 from rfl]at this
  rw[if_pos h10,h10,this];rfl
 rw[if_neg h10,iD h10]
 by_cases h11:o.Code=11
 ·have hM:=ho.multi h11
  simp[h11]at hn
  have:=aFY hN hm hb (h:=h) (a:=a) hs (br:=br) (c:=c) (dS:=o.M) (n:=o.N.toNat) (by omega) (by omega)
  rw[show((o.N.toNat:Nat):Int)=o.N by omega]at this
  rw[if_pos h11,h11,this];rfl
 rw[if_neg h11,iD h11]
 by_cases h12:o.Code=12
 ·simp[h12]at hn
  rw[if_pos h12,h12,top (by omega)]
  simp only[aQr,aEb hN];rfl
 rw[if_neg h12,iD h12]
 by_cases h13:o.Code=13
 ·simp[h13]at hn
  rw[if_pos h13,h13,top (by omega)]
  simp only[aQr,aEb hN];rfl
 rw[if_neg h13,iD h13]
 by_cases h17:o.Code=17
 ·rw[if_pos h17,h17];rfl
 rw[if_neg h17,iD h17];rfl
end
structure St where
 st:List (List Int)
 br:List aG
 c:Int
def qQ (br:List aG):aG:=br.getD (br.length-1) ⟨true,true⟩
def aAf (o:aK)(br:List aG):Bool:=if o.Code=15∨o.Code=16 then(qQ br).outer else(qQ br).outer&&(qQ br).taken
def aBH (N:Nat)(m:List Int)(h a:Int)(o:aK)(k:Bool)(s:St):Int×St:=
 if o.Code=14 then(0,⟨if k then s.st.take (s.st.length-1)else s.st,s.br++[⟨k,k&&tZ (eF s.st 1)⟩],s.c⟩)
 else if o.Code=15 then(0,⟨s.st,s.br.set (s.br.length-1) ⟨(qQ s.br).outer,!(qQ s.br).taken⟩,s.c⟩)
 else if o.Code=16 then(0,⟨s.st,s.br.take (s.br.length-1),s.c⟩)
 else if k then((sB N m h a o s.st).1,⟨(sB N m h a o s.st).2,s.br,s.c⟩)else(0,s)
def oM (N:Nat)(m:List Int)(h a:Int)(o:aK)(s:St):Int×St:=
 if aAf o s.br then
  (if 500<s.c+k8 o then(83,s)else if(s.st.length:Int)<kI o then(81,s)else aBH N m h a o true ⟨s.st,s.br,s.c+k8 o⟩)
 else aBH N m h a o false s
def jX (N:Nat)(m:List Int)(h a:Int):List aK→St→Int×St
 | [],s=>(0,s)
 |o::r,s=>if(oM N m h a o s).1=0 then jX N m h a r (oM N m h a o s).2 else oM N m h a o s
def kW :List aK→List Bool→Option (List Bool)
 | [],l=>some l
 |o::r,l=>
  if o.Code=14 then kW r (l++[false])
  else if o.Code=15 then(if l=[]then none else if l.getD (l.length-1) true=true then none else kW r (l.set (l.length-1) true))
  else if o.Code=16 then(if l=[]then none else kW r (l.take (l.length-1)))
  else kW r l
theorem vW {n:Nat}(h1:1≤n)(h2:n≤100000):aQu.wrap ((n:Int)-1)=((n-1:Nat):Int):=by rw[b5 (by omega) (by omega)];omega
theorem lJ {α:Type}{l:List α}:l=[]↔l.length=0:=by cases l<;>simp
def aL0 :Option (List Bool)→LR (List Bool) Bool
 |none=> .ret false
 |some l=> .brk l
theorem aF6 (N:Nat)(l:List aK)(hl:l.length≤1000): ∀(f j:Nat)(op:List Bool),l.length-j<f→j≤l.length→op.length≤j→cY N l f (j:Int) op=some (aL0 (kW (l.drop j) op))
 |0,j,op,hf,_,_=>by omega
 |f+1,j,op,hf,hj,ho=>by
  rw[cY]
  by_cases h:j<l.length
  ·rw[dT h,if_pos rfl,dP l h,aQx h]
   simp only[aQr,kW,i3,mR,i1 (show j≤100000 by omega)]
   have ih:=fun op' (ho':op'.length≤j+1)=>aF6 N l hl f (j+1) op' (by omega) (by omega) ho'
   by_cases h14:l[j].Code=14
   ·have:=kQ
    rw[if_pos h14,h14,vX (by simp;omega)]
    exact ih _ (by simp;omega)
   rw[if_neg h14,iD h14]
   by_cases h15:l[j].Code=15
   ·rw[if_pos h15,h15]
    by_cases h0:op=[]
    ·rw[if_pos h0,h0];rfl
    have h0':1≤op.length:=by have:=mt lJ.2 h0;omega
    rw[if_neg h0,vW h0' (by omega),show decide ((((op.length-1:Nat)):Int)<0)=false from decide_eq_false (by omega),dP op (show op.length-1<op.length by omega),show op.getD (op.length-1) true=op[op.length-1] by simp[show op.length-1<op.length by omega]]
    cases hh:op[op.length-1]
    ·simp only[aQs,if_false,aQr,aQt,show((15:Int) == 14)=false from rfl,show((15:Int) == 15)=true from rfl,if_true]
     exact ih _ (by simp;omega)
    rfl
   rw[if_neg h15,iD h15]
   by_cases h16:l[j].Code=16
   ·rw[if_pos h16,h16]
    by_cases h0:op=[]
    ·rw[if_pos h0,h0];rfl
    have h0':1≤op.length:=by have:=mt lJ.2 h0;omega
    have e:sub op 0 ((op.length-1:Nat):Int)=some (op.take (op.length-1)):=by
     unfold sub;rw[if_pos ⟨by omega,by omega,by omega⟩];simp
    rw[if_neg h0,vW h0' (by omega),show decide ((((op.length-1:Nat)):Int)<0)=false from decide_eq_false (by omega),e]
    exact ih _ (by simp;omega)
   rw[if_neg h16,iD h16]
   exact ih _ (by omega)
  rw[dF h,aQB (by omega)];rfl
def tC (l:List aK):Bool:=match kW l []with|none=>false|some q=>(q.length:Int) == 0
theorem aKw {N:Nat}(hN:70000≤N){l:List aK}(hl:l.length≤1000):qU N l=some (tC l):=by
 have:=aF6 N l hl N 0 [] (by omega) (by omega) (by simp)
 rw[aQA,show((0:Nat):Int)=0 from rfl]at this
 unfold qU tC
 rw[this]
 cases kW l []<;>rfl
section
variable {N:Nat}(hN:70000≤N){m:List Int}(hm:m.length=32)(hb:Byt m)
include hN hm hb
theorem aMT {h a:Int}{o:aK}(ho:vL o){s:St}(hs:WS s.st)(hbr:s.br.length≤1000)(hc:0≤s.c∧s.c≤500)(h15:o.Code=15∨o.Code=16→s.br≠ []):
  ∃s',fN N m h a s.st s.br s.c o.Code o.Data o.M o.N=some ((oM N m h a o s).1,m,h,a,s'.st,s'.br,s'.c)∧((oM N m h a o s).1=0→s'=(oM N m h a o s).2∧WS s'.st∧s.c≤s'.c∧s'.c≤500∧((o.Code=14→s'.br.length=s.br.length+1)∧(o.Code=16→s'.br.length=s.br.length-1)∧(o.Code≠14→o.Code≠16→s'.br.length=s.br.length))):=by
 have hp:=aFV ho
 have hbody: ∀(k:Bool)(c:Int),s.c≤c→c≤500→(k=true→kI o≤(s.st.length:Int))→ ∃s',fH N m h a s.st s.br o.Code o.Data o.M o.N k c=some ((aBH N m h a o k ⟨s.st,s.br,c⟩).1,m,h,a,s'.st,s'.br,s'.c)∧s'=(aBH N m h a o k ⟨s.st,s.br,c⟩).2∧WS s'.st∧s.c≤s'.c∧s'.c≤500∧((o.Code=14→s'.br.length=s.br.length+1)∧(o.Code=16→s'.br.length=s.br.length-1)∧(o.Code≠14→o.Code≠16→s'.br.length=s.br.length)):=by
  intro k c hc1 hc2 hk
  refine⟨_, ?_,rfl, ?_⟩
  all_goals unfold aBH
  ·unfold fH
   by_cases h14:o.Code=14
   ·rw[if_pos h14,h14]
    have:=kQ
    cases k with
    |false=>
     simp only[aQs,if_false,show((14:Int) == 14)=true from rfl,if_true]
     rw[vX (by simp;omega)];rfl
    |true=>
     have hn:=hk rfl
     unfold kI at hn
     simp[h14]at hn
     have q:=pQ hs (k:=1) (by omega) (by omega)
     have top:bZ N m h a s.st s.br c=some (eF s.st 1):=by
      unfold bZ
      rw[show((s.st.length:Nat):Int)-1=((s.st.length:Nat):Int)-((1:Nat):Int)from rfl,q.2.2];rfl
     simp only[show((14:Int) == 14)=true from rfl,if_true,top,aQr,aAr hN (show(eF s.st 1).length≤60000 by omega)]
     rw[vX (by simp;omega)]
     simp only[aQr,iS,if_true]
     rw[show dI N m h a s.st (s.br++[⟨true,tZ (eF s.st 1)⟩]) c 1=_ from aE5 (k:=1) hs.len (by omega)]
     rfl
   rw[if_neg h14,iD h14]
   by_cases h15':o.Code=15
   ·have h0:=h15 (.inl h15')
    have h0':1≤s.br.length:=by have:=mt lJ.2 h0;omega
    rw[if_pos h15',h15',vW h0' (by omega),dP s.br (show s.br.length-1<s.br.length by omega)]
    simp only[show qQ s.br=s.br[s.br.length-1] by simp[qQ,show s.br.length-1<s.br.length by omega],aQt]
    rfl
   rw[if_neg h15',iD h15']
   by_cases h16:o.Code=16
   ·have h0:=h15 (.inr h16)
    have h0':1≤s.br.length:=by have:=mt lJ.2 h0;omega
    have e:sub s.br 0 ((s.br.length-1:Nat):Int)=some (s.br.take (s.br.length-1)):=by
     unfold sub;rw[if_pos ⟨by omega,by omega,by omega⟩];simp
    rw[if_pos h16,h16,vW h0' (by omega),e];rfl
   rw[if_neg h16,iD h16]
   cases k with
   |true=>simp only[aQs,if_false,if_true,aKJ hN hm hb ho hs (hk rfl),aQr]
   |false=>rfl
  by_cases h14:o.Code=14
  ·simp only[if_pos h14]
   refine⟨?_,hc1,hc2,fun _=>by simp,fun h=>by omega,fun h=>absurd h14 h⟩
   cases k
   ·exact hs
   exact hs.take _
  simp only[if_neg h14]
  by_cases h15':o.Code=15
  ·simp only[if_pos h15']
   exact⟨hs,hc1,hc2,fun h=>by omega,fun h=>by omega,fun _ _=>by simp⟩
  simp only[if_neg h15']
  by_cases h16:o.Code=16
  ·simp only[if_pos h16]
   exact⟨hs,hc1,hc2,fun h=>by omega,fun h=>by simp,fun _ h=>by omega⟩
  simp only[if_neg h16]
  cases k with
  |true=>exact⟨aKH hN hm hb ho hs (hk rfl),hc1,hc2,fun h=>by omega,fun h=>by omega,fun _ _=>rfl⟩
  |false=>exact⟨hs,hc1,hc2,fun h=>by omega,fun h=>by omega,fun _ _=>rfl⟩
 have hJ:fN N m h a s.st s.br s.c o.Code o.Data o.M o.N=fE N m h a s.st s.br s.c o.Code o.Data o.M o.N (aAf o s.br):=by
  unfold fN lN aAf
  by_cases h0:s.br=[]
  ·have: ¬(o.Code=15∨o.Code=16):=fun h=>h15 h h0
   rw[h0,if_neg this]
   simp only[fG,iD (fun h=>this (.inl h)),iD (fun h=>this (.inr h))]
   rfl
  have h0':1≤s.br.length:=by have:=mt lJ.2 h0;omega
  rw[show(((s.br.length:Nat):Int) == 0)=false from iD (by omega),vW h0' (by omega),dP s.br (show s.br.length-1<s.br.length by omega),show qQ s.br=s.br[s.br.length-1] by simp[qQ,show s.br.length-1<s.br.length by omega]]
  simp only[fG,vW h0' (show s.br.length≤100000 by omega),dP s.br (show s.br.length-1<s.br.length by omega),gF,aQr,aQs,if_false]
  by_cases h15':o.Code=15
  ·rw[if_pos (show o.Code=15∨o.Code=16 from .inl h15'),h15']
   cases s.br[s.br.length-1].outer<;>rfl
  by_cases h16:o.Code=16
  ·rw[if_pos (show o.Code=15∨o.Code=16 from .inr h16),h16]
   cases s.br[s.br.length-1].outer<;>rfl
  rw[if_neg (show¬(o.Code=15∨o.Code=16) by omega),iD h15',iD h16]
  cases s.br[s.br.length-1].outer<;>rfl
 rw[hJ]
 unfold fE oM
 cases aAf o s.br with
 |false=>
  obtain⟨s',h1,h2⟩:=hbody false s.c (Int.le_refl _) hc.2 (fun h=>by cases h)
  exact⟨s',h1,fun _=>h2⟩
 |true=>
  simp only[if_true,aGT N ho,aLC N ho,aQr]
  rw[b5 (a:=s.c+k8 o) (by omega) (by omega)]
  by_cases h5:500<s.c+k8 o
  ·rw[decide_eq_true h5,if_pos h5]
   exact⟨⟨s.st,s.br,s.c+k8 o⟩,rfl,fun h=>by cases h⟩
  rw[decide_eq_false h5,if_neg h5]
  simp only[aQs,if_false]
  by_cases h6:(s.st.length:Int)<kI o
  ·rw[decide_eq_true h6,if_pos h6]
   exact⟨⟨s.st,s.br,s.c+k8 o⟩,rfl,fun h=>by cases h⟩
  rw[decide_eq_false h6,if_neg h6]
  obtain⟨s',h1,h2⟩:=hbody true (s.c+k8 o) (by omega) (by omega) (fun _=>by omega)
  exact⟨s',h1,fun _=>h2⟩
end
theorem aF5 {o:aK}{r:List aK}{l q:List Bool}(h:kW (o::r) l=some q):(o.Code=15∨o.Code=16→l≠ [])∧ ∃l',kW r l'=some q∧(o.Code=14→l'.length=l.length+1)∧(o.Code=16→l'.length=l.length-1)∧(o.Code≠14→o.Code≠16→l'.length=l.length):=by
 simp only[kW]at h
 by_cases h14:o.Code=14
 ·rw[if_pos h14]at h
  exact⟨fun h=>by omega,_,h,fun _=>by simp,fun h=>by omega,fun h=>absurd h14 h⟩
 rw[if_neg h14]at h
 by_cases h15:o.Code=15
 ·rw[if_pos h15]at h
  by_cases h0:l=[]
  ·rw[if_pos h0]at h;cases h
  rw[if_neg h0]at h
  by_cases h1:l.getD (l.length-1) true=true
  ·rw[if_pos h1]at h;cases h
  rw[if_neg h1]at h
  exact⟨fun _=>h0,_,h,fun h=>by omega,fun h=>by omega,fun _ _=>by simp⟩
 rw[if_neg h15]at h
 by_cases h16:o.Code=16
 ·rw[if_pos h16]at h
  by_cases h0:l=[]
  ·rw[if_pos h0]at h;cases h
  rw[if_neg h0]at h
  exact⟨fun _=>h0,_,h,fun h=>by omega,fun h=>by simp,fun _ h=>by omega⟩
 rw[if_neg h16]at h
 exact⟨fun h=>by omega,_,h,fun h=>by omega,fun h=>by omega,fun _ _=>rfl⟩
structure OkS (s:St):Prop where
 ws:WS s.st
 c:0≤s.c∧s.c≤500
def aKO (m:List Int)(h a:Int)(x:Int×St):LR ((List Int)×Int×Int×Int×(List (List Int))×(List aG)) ((List (List Int))×Int×Int):=
 if x.1=0 then .brk (m,h,a,x.2.c,x.2.st,x.2.br)else .ret ([],0,x.1)
section
variable {N:Nat}(hN:70000≤N){m:List Int}(hm:m.length=32)(hb:Byt m)
include hN hm hb
theorem aDV {h a:Int}{o:aK}{r:List aK}(ho:vL o){s:St}(hs:OkS s){l q:List Bool}(hl:s.br.length=l.length)(hn:kW (o::r) l=some q)(hbr:s.br.length≤1000):
  ∃s',fN N m h a s.st s.br s.c o.Code o.Data o.M o.N=some ((oM N m h a o s).1,m,h,a,s'.st,s'.br,s'.c)∧((oM N m h a o s).1=0→s'=(oM N m h a o s).2∧OkS s'∧s.c≤s'.c∧s'.br.length≤s.br.length+1∧ ∃l',s'.br.length=l'.length∧kW r l'=some q):=by
 obtain⟨n1,l',n2,n3,n4,n5⟩:=aF5 hn
 obtain⟨s',h1,h2⟩:=aMT hN hm hb (h:=h) (a:=a) ho hs.ws hbr hs.c (fun h e=>n1 h (lJ.2 (by rw[←hl,e];rfl)))
 refine⟨s',h1,fun he=> ?_⟩
 obtain⟨e,g1,g2,g3,g4,g5,g6⟩:=h2 he
 have hc:=hs.c
 refine⟨e,⟨g1,by omega,g3⟩,g2, ?_,l', ?_,n2⟩
 ·by_cases h14:o.Code=14
  ·rw[g4 h14];omega
  by_cases h16:o.Code=16
  ·rw[g5 h16];omega
  rw[g6 h14 h16];omega
 by_cases h14:o.Code=14
 ·rw[g4 h14,n3 h14,hl]
 by_cases h16:o.Code=16
 ·rw[g5 h16,n4 h16,hl]
 rw[g6 h14 h16,n5 h14 h16,hl]
theorem aIB {h a:Int}: ∀(r:List aK)(s:St)(l q:List Bool),(∀o∈r,vL o)→OkS s→s.br.length=l.length→kW r l=some q→s.br.length+r.length≤1000→(jX N m h a r s).1=0→OkS (jX N m h a r s).2∧s.c≤(jX N m h a r s).2.c∧(jX N m h a r s).2.br.length=q.length
 | [],s,l,q,_,hs,hl,hn,_,_=>by
  injection hn with hn
  exact⟨hs,Int.le_refl _,hn▸hl⟩
 |o::r,s,l,q,hv,hs,hl,hn,hlen,he=>by
  simp only[aQE]at hlen
  obtain⟨s',h1,h2⟩:=aDV hN hm hb (h:=h) (a:=a) (hv o (by simp)) hs hl hn (by omega)
  simp only[jX]at he⊢
  by_cases h0:(oM N m h a o s).1=0
  ·simp only[if_pos h0]at he⊢
   obtain⟨e,g1,g2,g3,l',g4,g5⟩:=h2 h0
   rw[←e]at he⊢
   obtain⟨k1,k2,k3⟩:=aIB r s' l' q (fun o ho=>hv o (by simp[ho])) g1 g4 g5 (by omega) he
   exact⟨k1,by omega,k3⟩
  rw[if_neg h0]at he
  exact absurd he h0
theorem aGS {h a:Int}(ops:List aK)(e:Int)(hv: ∀o∈ops,vL o)(ho:ops.length≤600): ∀(f j:Nat)(s:St)(l q:List Bool),ops.length-j<f→j≤ops.length→OkS s→s.br.length=l.length→kW (ops.drop j) l=some q→s.br.length≤j→
  kD N (ops,e) f (j:Int) m h a s.c s.st s.br=some (aKO m h a (jX N m h a (ops.drop j) s))
 |0,j,s,l,q,hf,_,_,_,_,_=>by omega
 |f+1,j,s,l,q,hf,hj,hs,hl,hn,hbr=>by
  rw[kD]
  by_cases hlt:j<ops.length
  ·rw[aQx hlt]at hn⊢
   obtain⟨s',h1,h2⟩:=aDV hN hm hb (h:=h) (a:=a) (hv _ (aQD hlt)) hs hl hn (by omega)
   rw[dT hlt,if_pos rfl,dP ops hlt]
   simp only[aQr,h1,jX]
   by_cases h0:(oM N m h a ops[j] s).1=0
   ·obtain⟨e',g1,g2,g3,l',g4,g5⟩:=h2 h0
    rw[h0,if_pos rfl,←e',show((0:Int) != 0)=false from rfl,i1 (by omega)]
    exact aGS ops e hv ho f (j+1) s' l' q (by omega) (by omega) g1 g4 g5 (by omega)
   rw[if_neg h0,show((oM N m h a ops[j] s).1 != 0)=true by simpa using h0]
   simp only[if_true,aKO,if_neg h0]
  rw[dF hlt,aQB (by omega)];rfl
end
section
variable {N:Nat}(hN:70000≤N)
include hN
theorem aF3 {st:List (List Int)}(hl:st.length≤1000)(h: ∀x∈st,x.length≤520):nI N st=some st:=by
 have lp: ∀(f j:Nat)(acc:List (List Int)),st.length-j<f→j≤st.length→acc.length≤j→i0 N st f (j:Int) acc=some (acc++st.drop j):=by
  intro f
  induction f with
  |zero=>intro j acc hf;omega
  |succ f ih=>
   intro j acc hf hj ha
   rw[i0]
   by_cases hlt:j<st.length
   ·have hx:=h _ (aQD hlt)
    rw[dT hlt,if_pos rfl,dP st hlt]
    simp only[aQr]
    rw[aOo hN [st[j]] (by simp) (by simp;omega)]
    simp only[aQr,aQ0,aRh,aQS]
    rw[vM (by simp;omega)]
    simp only[aQr,i1 (show j≤100000 by omega)]
    rw[ih (j+1) _ (by omega) (by omega) (by simp;omega),aQx hlt,aQR]
    rfl
   rw[dF hlt,aQB (by omega),aQS];rfl
 have:=lp N 0 [] (by omega) (by omega) (by simp)
 rw[show((0:Nat):Int)=0 from rfl]at this
 simp only[nI,this,aQr,qF,aQO,aQA]
def t5 (st:List (List Int)):Bool:= !decide (64<st.length)&&st.all fun x=> !decide (520<(x.length:Int))
theorem aIP (st:List (List Int)):pO N st=some (t5 st):=by
 unfold pO t5
 by_cases hl:64<st.length
 ·rw[show decide ((64:Int)<((st.length:Nat):Int))=true from decide_eq_true (by omega),decide_eq_true hl];rfl
 have:=xF (f:=fJ N st) (xs:=st) (p:=fun x=> !decide (520<(x.length:Int))) (r:=false) (fun m j hj=>by
  rw[fJ,dT hj,if_pos rfl,dP st hj]
  simp only[aQr,i1 (show j≤100000 by omega)]
  cases decide (520<((st[j].length:Nat):Int))<;>rfl) (fun m j hj=>by rw[fJ,dF (by omega)];rfl) N 0 (by omega) (by omega)
 rw[show((0:Nat):Int)=0 from rfl,aQA]at this
 rw[show decide ((64:Int)<((st.length:Nat):Int))=false from decide_eq_false (by omega),decide_eq_false hl,this]
 cases st.all fun x=> !decide (520<(x.length:Int))<;>rfl
end
theorem aCT {st:List (List Int)}(hb: ∀x∈st,Byt x):t5 st=true↔WS st:=by
 unfold t5
 constructor
 ·intro h
  simp only[aRk,aRf,aRu,decide_eq_false_iff_not]at h
  exact⟨by omega,fun x hx=>⟨hb x hx,by have:=h.2 x hx;omega⟩⟩
 intro h
 simp only[aRk,aRf,aRu,decide_eq_false_iff_not]
 exact⟨by have:=h.len;omega,fun x hx=>by have:=(h.it x hx).2;omega⟩
def yX (N:Nat)(b:List Int)(st:List (List Int))(m:List Int)(h a:Int):List (List Int)×Int×Int:=
 if(bU b).2≠0 then([],0,(bU b).2)else if tC (bU b).1=false then([],0,86)else if t5 st=false then([],0,4)
 else if(jX N m h a (bU b).1 ⟨st,[],0⟩).1=0 then((jX N m h a (bU b).1 ⟨st,[],0⟩).2.st,(jX N m h a (bU b).1 ⟨st,[],0⟩).2.c,0)else([],0,(jX N m h a (bU b).1 ⟨st,[],0⟩).1)
theorem aDG {l:List aK}:tC l=true↔kW l []=some []:=by
 unfold tC
 cases kW l [] with
 |none=>simp
 |some q=>cases q<;>simp;omega
section
variable {N:Nat}(hN:70000≤N){m:List Int}(hm:m.length=32)(hb:Byt m)
include hN hm hb
theorem aIv {b:List Int}(hbb:Byt b){st:List (List Int)}(h a:Int)(hp:(bU b).2=0)(hn:tC (bU b).1=true)(hw:WS st)(he:(jX N m h a (bU b).1 ⟨st,[],0⟩).1=0):OkS (jX N m h a (bU b).1 ⟨st,[],0⟩).2∧(jX N m h a (bU b).1 ⟨st,[],0⟩).2.br=[]:=by
 obtain⟨p1,p2,_⟩:=aAQ hbb hp
 obtain⟨g1,_,g3⟩:=aIB hN hm hb (h:=h) (a:=a) (bU b).1 ⟨st,[],0⟩ [] [] p1 ⟨hw,by simp⟩ rfl (aDG.1 hn) (by simp;omega) he
 exact⟨g1,lJ.2 g3⟩
theorem aN6 {b:List Int}(hbb:Byt b){st:List (List Int)}(hst: ∀x∈st,Byt x)(h a:Int):tB N b st m h a=some (yX N b st m h a):=by
 unfold tB yX
 rw[aLj hN hbb]
 simp only[aQr]
 by_cases hp:(bU b).2=0
 ·obtain⟨p1,p2,_⟩:=aAQ hbb hp
  rw[if_neg (by simpa using hp),hp,aKw hN (by omega),aIP hN]
  simp only[aQr,show((0:Int) != 0)=false from rfl,aQs,if_false]
  cases hn:tC (bU b).1 with
  |false=>rfl
  |true=>
   cases hB:t5 st with
   |false=>rfl
   |true=>
    have hw:=(aCT hst).1 hB
    have hl:=hw.len
    have lp:=aGS hN hm hb (h:=h) (a:=a) (bU b).1 (bU b).2 p1 (by omega) N 0 ⟨st,[],0⟩ [] [] (by omega) (by omega) ⟨hw,by simp⟩ rfl (aDG.1 hn) (by simp)
    rw[show((0:Nat):Int)=0 from rfl,aQA]at lp
    simp only[aQI,aQs,aRr,if_false,aF3 hN (show st.length≤1000 by omega) (fun x hx=>(hw.it x hx).2),aQr]
    rw[show(kD N (bU b) N 0 m h a 0 st [])=_ from lp]
    simp only[aQr,aKO]
    by_cases he:(jX N m h a (bU b).1 ⟨st,[],0⟩).1=0
    ·obtain⟨g1,_⟩:=aIv hN hm hb hbb h a hp hn hw he
     have gl:=g1.ws.len
     rw[if_pos he,if_pos he]
     simp only[uQ,aF3 hN (show(jX N m h a (bU b).1 ⟨st,[],0⟩).2.st.length≤1000 by omega) (fun x hx=>(g1.ws.it x hx).2),aQr]
     rfl
    rw[if_neg he,if_neg he];rfl
 rw[if_pos hp,show((bU b).2 != 0)=true by simpa using hp];rfl
end
section
variable {N:Nat}(hN:70000≤N){m:List Int}(hm:m.length=32)(hb:Byt m)
include hN hm hb
theorem aMP {b:List Int}(hbb:Byt b){st:List (List Int)}(hst: ∀x∈st,Byt x){h a:Int}(h0:(yX N b st m h a).2.2=0):(bU b).2=0∧tC (bU b).1=true∧WS st∧(jX N m h a (bU b).1 ⟨st,[],0⟩).1=0∧OkS (jX N m h a (bU b).1 ⟨st,[],0⟩).2∧(jX N m h a (bU b).1 ⟨st,[],0⟩).2.br=[]∧yX N b st m h a=((jX N m h a (bU b).1 ⟨st,[],0⟩).2.st,(jX N m h a (bU b).1 ⟨st,[],0⟩).2.c,0):=by
 unfold yX at h0⊢
 by_cases hp:(bU b).2≠0
 ·rw[if_pos hp]at h0;exact absurd h0 hp
 simp only[if_neg hp]at h0⊢
 by_cases hn:tC (bU b).1=false
 ·rw[if_pos hn]at h0;cases h0
 simp only[if_neg hn]at h0⊢
 by_cases hB:t5 st=false
 ·rw[if_pos hB]at h0;cases h0
 simp only[if_neg hB]at h0⊢
 by_cases he:(jX N m h a (bU b).1 ⟨st,[],0⟩).1=0
 ·have hn':tC (bU b).1=true:=by simpa using hn
  have hw:=(aCT hst).1 (by simpa using hB)
  have hp':(bU b).2=0:=by simpa using hp
  obtain⟨g1,g2⟩:=aIv hN hm hb hbb h a hp' hn' hw he
  rw[if_pos he]
  exact⟨hp',hn',hw,he,g1,g2,rfl⟩
 rw[if_neg he]at h0;exact absurd h0 he
end
theorem aIC (N:Nat)(b:List Int): ∀(m:Nat)(x:Int),lP N b m x=eV N b m x
 |0,_=>rfl
 |m+1,x=>by simp only[lP,eV,aIC N b m]
theorem aG2 (N:Nat)(b:List Int):nY N b=jL N b:=by
 unfold nY jL
 rw[aIC]
 rfl
theorem aJv (N:Nat)(b:List Int): ∀(m:Nat)(v x:Int),jY N b m v x=eY N b m v x
 |0,_,_=>rfl
 |m+1,v,x=>by simp only[jY,eY,aJv N b m]
theorem aN3 (N:Nat)(b:List Int)(t:Bool):jK N b t=eH N b t:=by
 unfold jK eH
 rw[aJv]
 rfl
theorem aM6 (N:Nat)(b:List Int):sT N b=gO N b:=by
 unfold sT gO
 simp only[aN3]
theorem aER (N:Nat)(b:List Int)(now:Int):pF N b now=j8 N b now:=by
 unfold pF j8
 rw[aM6]
theorem aIo (N:Nat): ∀(m n:Nat)(acc:List Int),n<4294967296→lR N m (n:Int) acc=dR N m (n:Int) acc
 |0,_,_,_=>rfl
 |m+1,n,acc,hn=>by
  have h1:shr .u32 (n:Int) 8=some ((n/256:Nat):Int):=by
   rw[show(8:Int)=((8:Nat):Int)from rfl,u5 (k:= .u32) _ _ (show n<2^32 by omega)]
  have h2:aQL.wrap (aRC (n:Int) 256)=((n/256:Nat):Int):=by
   rw[show(256:Int)=((256:Nat):Int)from rfl,oV,aRQ]
   omega
  simp only[lR,dR,h1,h2,aQr,aIo N m (n/256) _ (show n/256<4294967296 by omega)]
theorem aDx (N:Nat){n:Nat}(hn:n<4294967296):qC N (n:Int)=eU N (n:Int):=by
 unfold qC eU
 rw[aIo N N n [] hn]
 rfl
theorem aKi (N:Nat)(v:Bool):kV N v=jF N v:=by
 unfold kV jF
 rw[show(1:Int)=((1:Nat):Int)from rfl,show(0:Int)=((0:Nat):Int)from rfl,aDx N (by omega),aDx N (by omega)]
section
variable {N:Nat}(hN:70000≤N)
theorem aJf (N:Nat){st:List (List Int)}(hl:st.length≤1000)(x:List Int):lD N st x=some (if 64≤st.length then([],4)else(st++[x],0)):=by
 unfold lD
 by_cases h:64≤st.length
 ·rw[if_pos (decide_eq_true (show(64:Int)≤(st.length:Int) by omega)),if_pos h]
 have e:sub st 0 (st.length:Int)=some st:=by
  unfold sub;rw[if_pos ⟨by omega,by omega,by omega⟩];simp
 rw[if_neg (show¬decide ((64:Int)≤(st.length:Int))=true by simp;omega),if_neg h,e,aQr,vM (by simp;omega),aQr]
include hN
theorem aKR (st:List (List Int)):vV N st=some (!t5 st):=by
 unfold vV t5
 by_cases hl:64<st.length
 ·rw[if_pos (decide_eq_true (show(64:Int)<(st.length:Int) by omega)),decide_eq_true hl];rfl
 rw[if_neg (show¬decide ((64:Int)<(st.length:Int))=true by simp;omega),decide_eq_false hl]
 have:=xF (f:=kA N st) (xs:=st) (p:=fun x=> !decide (520<(x.length:Int))) (r:=true) (fun m j hj=>by
  rw[kA,dT hj,if_pos rfl,dP st hj,aQr,i1 (show j≤100000 by omega)]
  cases decide (520<((st[j].length:Nat):Int))<;>rfl) (fun m j hj=>by rw[kA,dF (by omega)];rfl) N 0 (by omega) (by omega)
 rw[show((0:Nat):Int)=0 from rfl,aQA]at this
 rw[this,aQr]
 cases st.all fun x=> !decide (520<(x.length:Int))<;>rfl
theorem aI1 {l:List (List Int)}(hn:l.length≤64)(hx: ∀x∈l,x.length≤520):rL N l=some l:=by
 have key: ∀(f j:Nat)(acc:List (List Int)),l.length-j<f→j≤l.length→acc.length=j→iK N l f (j:Int) acc=some (acc++l.drop j):=by
  intro f
  induction f with
  |zero=>intro j acc hf _ _;omega
  |succ f ih=>
   intro j acc hf hj ha
   rw[iK]
   by_cases h:j<l.length
   ·have hj':=hx _ (aQD h)
    rw[dT h,if_pos rfl,dP l h,aQr,aEI hN _ (by simp) (by simp;omega),aQr,vM (by simp;omega),aQr,i1 (by omega),ih (j+1) _ (by omega) (by omega) (by simp[ha]),aQx h]
    simp
   rw[dF h,aQB (by omega),aQS]
   rfl
 have hk:=key N 0 [] (by omega) (by omega) rfl
 unfold rL
 rw[aJ5 (by have:=kQ;omega),aQr,show iK N l N 0 []=_ from hk,aQr]
 rfl
end
theorem aH5 (N:Nat){d:List Int}(hl:d.length≤255):gT N 1 d 0 0=some 0:=by
 have h255:decide ((255:Int)<(d.length:Int))=false:=decide_eq_false (by omega)
 unfold gT hH hY d7 eR
 rw[h255]
 cases decide ((0:Int)<(d.length:Int))<;>rfl
theorem aH4 (N:Nat){x:Int}(h:1≤x∧x≤17)(h11:x≠11):gT N x [] 0 0=some 0:=by
 unfold gT hH hY d7 eR
 rw[decide_eq_false (show¬x<1 by omega),decide_eq_false (show¬17<x by omega),show(x == 11)=false by simpa using h11]
 rfl
theorem aHR (N:Nat)(m n:Int):gT N 11 [] m n=some (if sU m n=true then 0 else 5):=by
 have hJ:d7 N 11 [] m n false=some (if sU m n=true then 0 else 5):=by
  unfold d7 eR sU
  by_cases h1:n<1
  ·rw[decide_eq_true h1,decide_eq_false (show¬1≤n by omega)];rfl
  rw[decide_eq_false h1,decide_eq_true (show 1≤n by omega)]
  by_cases h2:15<n
  ·rw[decide_eq_true h2,decide_eq_false (show¬n≤15 by omega)];rfl
  rw[decide_eq_false h2,decide_eq_true (show n≤15 by omega)]
  by_cases h3:m<1
  ·rw[decide_eq_true h3,decide_eq_false (show¬1≤m by omega)];rfl
  rw[decide_eq_false h3,decide_eq_true (show 1≤m by omega)]
  by_cases h4:n<m
  ·rw[decide_eq_true h4,decide_eq_false (show¬m≤n by omega)];rfl
  rw[decide_eq_false h4,decide_eq_true (show m≤n by omega)];rfl
 unfold gT hH hY
 rw[show((11:Int) != 11)=false from rfl,hJ]
 cases m != 0<;>cases n != 0<;>rfl
theorem aM5 {N:Nat}(hN:70000≤N){x:Int}{r:List Int}(hb:Byt (x::r))(hl:r.length≤100000):
  ∃y,yQ N (x::r)=some y∧y.2.2.2.2.2=(dN x r).2.2∧((dN x r).2.2=0→y=((dN x r).1.Code,(dN x r).1.Data,(dN x r).1.M,(dN x r).1.N,(dN x r).2.1,0)):=by
 have hx:=hb x (by simp)
 have wx:aQu.wrap x=x:=b5 (by omega) (by omega)
 unfold yQ dN
 rw[aCp,aQr,wx]
 by_cases h0:x<1∨17<x
 ·rw[if_pos h0]
  refine⟨(0,[],0,0,[],80), ?_,rfl,fun h=>by cases h⟩
  rcases h0 with h|h
  ·rw[decide_eq_true h];rfl
  rw[decide_eq_false (show¬x<1 by omega),decide_eq_true h];rfl
 rw[if_neg h0,decide_eq_false (show¬x<1 by omega),decide_eq_false (show¬17<x by omega)]
 rw[if_neg (show¬(false=true) by decide)]
 unfold r6
 rw[if_neg (show¬(false=true) by decide),aNP,aQr,wx]
 by_cases h1:x=1
 ·subst h1
  rw[if_pos (show((1:Int) == 1)=true from rfl),if_pos rfl]
  match r,hb,hl with
  | [],_,_=>exact⟨(0,[],0,0,[],1),rfl,rfl,fun h=>by cases h⟩
  |n::r',hb,hl=>
   have hn:=hb n (by simp)
   have wn:aQu.wrap n=n:=b5 (by omega) (by omega)
   have hl':r'.length≤100000:=by simp at hl;omega
   rw[if_neg (show¬((((n::r').length:Nat):Int) == 0)=true by simp;omega),aCp,aQr,wn,show(((n::r').length:Nat):Int)-1=(r'.length:Int) by simp,b5 (a:=(r'.length:Int)) (by omega) (by omega)]
   dsimp only
   unfold r9
   by_cases h2:(r'.length:Int)<n
   ·rw[decide_eq_true h2,if_pos rfl,if_pos h2]
    exact⟨(0,[],0,0,[],1),rfl,rfl,fun h=>by cases h⟩
   rw[decide_eq_false h2,if_neg (show¬(false=true) by decide),if_neg h2,aCp,aQr,wn,b5 (a:=1+n) (by omega) (by omega)]
   have e1:sub (n::r') 1 (1+n)=some (r'.take n.toNat):=by
    unfold sub
    rw[if_pos ⟨by omega,by omega,by rw[aQE];omega⟩,show(1+n).toNat=n.toNat+1 by omega]
    rfl
   have e2:sub (n::r') (1+n) (((n::r').length:Nat):Int)=some (r'.drop n.toNat):=by
    unfold sub
    rw[if_pos ⟨by omega,by rw[aQE];omega,by omega⟩,aQt,aQw (aQH _),show(1+n).toNat=n.toNat+1 by omega]
    rfl
   have hlt:(r'.take n.toNat).length≤255:=by rw[aRw];omega
   rw[e1,aQr,aEI hN _ (by simp) (by simp;omega),aQr,e2,aQr]
   unfold lB
   rw[show aQu.wrap 1=1 by decide +kernel,show[r'.take n.toNat].flatten=r'.take n.toNat by simp,aH5 N hlt,aQr]
   exact⟨_,rfl,rfl,fun _=>rfl⟩
 rw[if_neg (show¬(x == 1)=true by simpa using h1),if_neg h1]
 by_cases h2:x=11
 ·subst h2
  rw[if_pos (show((11:Int) == 11)=true from rfl),if_pos rfl]
  match r,hb,hl with
  | [],_,_=>exact⟨(0,[],0,0,[],1),rfl,rfl,fun h=>by cases h⟩
  | [_],_,_=>exact⟨(0,[],0,0,[],1),rfl,rfl,fun h=>by cases h⟩
  |m::n::r',hb,hl=>
   have hm:=hb m (by simp)
   have hn:=hb n (by simp)
   rw[if_neg (show¬decide ((((m::n::r').length:Nat):Int)<2)=true by simp;omega),aCp,aQr,aNJ,aQr,aOx,aQr,b5 (a:=m) (by omega) (by omega),b5 (a:=n) (by omega) (by omega)]
   dsimp only
   unfold lB
   rw[show aQu.wrap 11=11 by decide +kernel,aHR,aQr]
   by_cases h3:sU m n=true
   ·rw[if_pos h3,if_pos h3]
    exact⟨_,rfl,rfl,fun _=>rfl⟩
   rw[if_neg h3,if_neg h3]
   exact⟨_,rfl,rfl,fun h=>by cases h⟩
 rw[if_neg (show¬(x == 11)=true by simpa using h2),if_neg h2]
 unfold lB
 rw[wx,aH4 N (by omega) h2,aQr]
 exact⟨_,rfl,rfl,fun _=>rfl⟩
theorem aDr {N:Nat}(hN:70000≤N): ∀(m:Nat)(b:List Int)(acc:List aK),b.length<m→Byt b→b.length≤100000→acc.length+b.length≤200000→kM N m b acc=some (hZ m b acc)
 |0,b,acc,hm,_,_,_=>by omega
 |m+1,[],acc,_,_,_,_=>rfl
 |m+1,x::r,acc,hm,hb,hl,ha=>by
  simp only[aQE]at hm hl ha
  obtain⟨y,h1,h2,h3⟩:=aM5 hN hb (by omega)
  rw[kM,if_pos (decide_eq_true (show(0:Int)<(((x::r).length:Nat):Int) by rw[aQE];omega)),h1,aQr,h2,hZ]
  by_cases he:(dN x r).2.2=0
  ·obtain⟨g1,g2,g3,_⟩:=aB0 hb he
   have hy:=h3 he
   subst hy
   rw[if_pos he,he,if_neg (show¬((0:Int) != 0)=true by decide)]
   have hlim:=kQ
   rw[vX (by simp;omega),aQr]
   dsimp only
   exact aDr hN m _ _ (by omega) g2 (by omega) (by simp;omega)
  rw[if_neg he,if_pos (show((dN x r).2.2 != 0)=true by simpa using he)]
theorem aJz {N:Nat}(hN:70000≤N){b:List Int}(hb:Byt b):uJ N b=some (bU b):=by
 unfold uJ bU
 by_cases h:520<b.length
 ·rw[if_pos (decide_eq_true (show(520:Int)<(b.length:Int) by omega)),if_pos h]
 rw[if_neg (show¬decide ((520:Int)<(b.length:Int))=true by simp;omega),if_neg h,aDr hN N b [] (by omega) hb (by omega) (by simp;omega),aQr,xR N (b.length+1) b [] hb (by omega) (by omega)]
 cases hZ (b.length+1) b []<;>rfl
theorem aJ7 (N:Nat){o:aK}(ho:vL o):xZ N o.Code o.Data o.M o.N=some (k8 o):=by
 rw[←aGT N ho]
 rfl
theorem aJN (N:Nat){o:aK}(ho:vL o)(hc:1≤o.Code∧o.Code≤17):t7 N o.Code o.Data o.M o.N=some (kI o):=by
 unfold t7 d8 mD kI
 by_cases h11:o.Code=11
 ·have:=ho.multi h11
  simp only[h11]
  rw[b5 (a:=2*o.N) (by omega) (by omega)]
  simp
 obtain⟨c,hcc⟩: ∃c,c=o.Code:=⟨_,rfl⟩
 rw[←hcc]at hc h11⊢
 rcases(show c=1∨c=2∨c=3∨c=4∨c=5∨c=6∨c=7∨c=8∨c=9∨c=10∨c=12∨c=13∨c=14∨c=15∨c=16∨c=17 by omega)with h|h|h|h|h|h|h|h|h|h|h|h|h|h|h|h<;>subst h<;>simp
theorem aEA (N:Nat)(l:List aK)(hl:l.length≤1000): ∀(f j:Nat)(op:List Bool),l.length-j<f→j≤l.length→op.length≤j→dE N l f (j:Int) op=some (aL0 (kW (l.drop j) op))
 |0,j,op,hf,_,_=>by omega
 |f+1,j,op,hf,hj,ho=>by
  rw[dE]
  by_cases h:j<l.length
  ·rw[dT h,if_pos rfl,dP l h,aQx h]
   simp only[aQr,kW,jN,oI,i1 (show j≤100000 by omega)]
   have ih:=fun op' (ho':op'.length≤j+1)=>aEA N l hl f (j+1) op' (by omega) (by omega) ho'
   by_cases h14:l[j].Code=14
   ·have:=kQ
    rw[if_pos h14,h14,vX (by simp;omega)]
    exact ih _ (by simp;omega)
   rw[if_neg h14,iD h14]
   by_cases h15:l[j].Code=15
   ·rw[if_pos h15,h15]
    by_cases h0:op=[]
    ·rw[if_pos h0,h0];rfl
    have h0':1≤op.length:=by have:=mt lJ.2 h0;omega
    rw[if_neg h0,vW h0' (by omega),show((op.length:Int) == 0)=false from iD (by omega),dP op (show op.length-1<op.length by omega),show op.getD (op.length-1) true=op[op.length-1] by simp[show op.length-1<op.length by omega]]
    cases hh:op[op.length-1]
    ·simp only[aQs,if_false,aQr,aQt,show((15:Int) == 14)=false from rfl,show((15:Int) == 15)=true from rfl,if_true]
     exact ih _ (by simp;omega)
    rfl
   rw[if_neg h15,iD h15]
   by_cases h16:l[j].Code=16
   ·rw[if_pos h16,h16]
    by_cases h0:op=[]
    ·rw[if_pos h0,h0];rfl
    have h0':1≤op.length:=by have:=mt lJ.2 h0;omega
    have e:sub op 0 ((op.length-1:Nat):Int)=some (op.take (op.length-1)):=by
     unfold sub;rw[if_pos ⟨by omega,by omega,by omega⟩];simp
    rw[if_neg h0,vW h0' (by omega),show((op.length:Int) == 0)=false from iD (by omega),e]
    exact ih _ (by simp;omega)
   rw[if_neg h16,iD h16]
   exact ih _ (by omega)
  rw[dF h,aQB (by omega)];rfl
theorem aJg {N:Nat}(hN:70000≤N){l:List aK}(hl:l.length≤1000):sF N l=some (tC l):=by
 have:=aEA N l hl N 0 [] (by omega) (by omega) (by simp)
 rw[show((0:Nat):Int)=0 from rfl,aQA]at this
 unfold sF tC
 rw[this,aQr]
 cases kW l []<;>rfl
section
variable {N:Nat}(hN:70000≤N){m:List Int}(hm:m.length=32)(hb:Byt m)
include hN hm hb
theorem aGj {key sig:List Int}(hk:Byt key)(hs:Byt sig):m7 N sig key m=some (decide (0<sig.length)&&decide (qE N m key sig=0),qE N m key sig):=by
 rw[aN0 hN hm hb hk hs]
 exact aKr hN hm hb hk hs
theorem aAX (c:Int)(d:List Int)(M:Int)(n:Nat)(hn:n≤100)(ks ss:List (List Int))(hk:ks.length=n)(hs:ss.length=n)(bk: ∀x∈ks,Byt x)(bs: ∀x∈ss,Byt x): ∀(f j cnt:Nat),n-j<f→j≤n→cnt≤j→
  g7 N c d M (n:Int) (ss++ks) m f (cnt:Int) (j:Int)=some (if(mI N m (ks.drop j) (ss.drop j) (cnt:Int)).1=0 then .brk (mI N m (ks.drop j) (ss.drop j) (cnt:Int)).2 else .ret (false,(mI N m (ks.drop j) (ss.drop j) (cnt:Int)).1))
 |0,j,cnt,hf,_,_=>by omega
 |f+1,j,cnt,hf,hj,hc=>by
  rw[g7]
  by_cases h:j<n
  ·have h1:j<ks.length:=by omega
   have h2:j<ss.length:=by omega
   have e1:bS (ss++ks) (j:Int)=some ss[j]:=by rw[aBj,List.getElem?_append_left h2,aQz h2]
   have e2:bS (ss++ks) (aQu.wrap ((n:Int)+(j:Int)))=some ks[j]:=by
    rw[show(n:Int)+(j:Int)=((n+j:Nat):Int) by omega,b5 (by omega) (by omega),aBj,aQ1 (by omega),hs,Nat.add_sub_cancel_left,aQz h1]
   have hsg:=aGj hN hm hb (bk _ (aQD h1)) (bs _ (aQD h2))
   rw[dT h,if_pos rfl,e1,aQr,e2,aQr,cK hm,aQr,hsg,aQr,aQx h1,aQx h2,mI]
   dsimp only
   by_cases hv:qE N m ks[j] ss[j]=0
   ·rw[hv]
    simp only[show((0:Int) != 0)=false from rfl,aQs,if_false,decide_true,Bool.and_true]
    unfold pX
    rw[i1 (show j≤100000 by omega)]
    by_cases hp:0<ss[j].length
    ·rw[if_pos (decide_eq_true hp),i1 (show cnt≤100000 by omega),if_pos (decide_eq_true (show(0:Int)<(ss[j].length:Int) by omega)),aAX c d M n hn ks ss hk hs bk bs f (j+1) (cnt+1) (by omega) (by omega) (by omega)]
     rfl
    rw[if_neg (show¬decide (0<ss[j].length)=true by simpa using hp),if_neg (show¬decide ((0:Int)<(ss[j].length:Int))=true by rw[decide_eq_true_iff];omega),aAX c d M n hn ks ss hk hs bk bs f (j+1) cnt (by omega) (by omega) (by omega)]
   rw[show(qE N m ks[j] ss[j] != 0)=true by simpa using hv]
   simp only[if_true]
   rw[if_neg hv]
  rw[dF h,aQB (by omega)]
  simp[mI]
theorem aJx (c:Int)(d:List Int)(M:Int)(n:Nat)(hn:n≤100)(ks ss:List (List Int))(hk:ks.length=n)(hs:ss.length=n)(bk: ∀x∈ks,Byt x)(bs: ∀x∈ss,Byt x):
  uL N c d M (n:Int) (ss++ks) m=some (if(mI N m ks ss 0).1=0 then(decide (M≤(mI N m ks ss 0).2),0)else(false,(mI N m ks ss 0).1)):=by
 have:=aAX hN hm hb c d M n hn ks ss hk hs bk bs N 0 0 (by omega) (by omega) (by omega)
 rw[show((0:Nat):Int)=0 from rfl,aQA,aQA]at this
 unfold uL
 rw[this,aQr]
 by_cases h:(mI N m ks ss 0).1=0
 ·rw[if_pos h,if_pos h];rfl
 rw[if_neg h,if_neg h]
end
theorem aDH {α:Type}{st:List α}{k:Nat}(hk:k≤st.length)(hl:st.length≤1000):sub st 0 (aQu.wrap ((st.length:Int)-(k:Int)))=some (st.take (st.length-k)):=by
 rw[show(st.length:Int)-(k:Int)=((st.length-k:Nat):Int) by omega,b5 (by omega) (by omega)]
 unfold sub
 rw[if_pos ⟨by omega,by omega,by omega⟩,aQt]
 rfl
theorem aIs {α:Type}{st:List α}(h:2≤st.length): ∃l x y,st=l++[x,y]:=by
 have hd:(st.drop (st.length-2)).length=2:=by rw[aRx];omega
 match hm:st.drop (st.length-2),hd with
 | [x,y],_=>exact⟨st.take (st.length-2),x,y,by rw[←hm,aRB]⟩
theorem aIG (l:List (List Int))(x y:List Int):eF (l++[x,y]) 1=y∧eF (l++[x,y]) 2=x∧(l++[x,y]).take ((l++[x,y]).length-2)=l∧(l++[x,y]).length=l.length+2:=by
 have hlen:(l++[x,y]).length=l.length+2:=by simp
 refine⟨?_, ?_, ?_,hlen⟩
 ·unfold eF
  rw[hlen,aQG,aQ1 (by omega),show l.length+2-1-l.length=1 by omega]
  rfl
 ·unfold eF
  rw[hlen,aQG,aQ1 (by omega),show l.length+2-2-l.length=0 by omega]
  rfl
 rw[hlen,aRJ,List.take_left]
theorem aMW {st:List (List Int)}(h:2≤st.length):(st.set (st.length-1) (eF st 2)).set (st.length-2) (eF st 1)=st.take (st.length-2)++[eF st 1,eF st 2]:=by
 obtain⟨l,x,y,rfl⟩:=aIs h
 obtain⟨e1,e2,e3,e4⟩:=aIG l x y
 rw[e1,e2,e3,e4,show l.length+2-1=l.length+1 by omega,aRJ,aRe _ _ (by omega),show l.length+1-l.length=1 by omega,aRe _ _ (by omega),aRM]
 rfl
theorem aJc {x:Int}{r:List Int}(he:(dN x r).2.2=0):1≤(dN x r).1.Code∧(dN x r).1.Code≤17:=by
 unfold dN at he⊢
 by_cases h0:x<1∨17<x
 ·rw[if_pos h0]at he;cases he
 rw[if_neg h0]at he⊢
 by_cases h1:x=1
 ·rw[if_pos h1]at he⊢
  match r with
  | []=>cases he
  |n::r'=>
   by_cases h2:(r'.length:Int)<n
   ·simp only[if_pos h2]at he;cases he
   simp only[if_neg h2];decide
 rw[if_neg h1]at he⊢
 by_cases h2:x=11
 ·rw[if_pos h2]at he⊢
  match r with
  | []=>cases he
  | [_]=>cases he
  |m::n::r'=>
   by_cases h3:sU m n=true
   ·simp only[if_pos h3];decide
   simp only[if_neg h3]at he;cases he
 rw[if_neg h2]
 dsimp only
 omega
def aHA (y:List (List Int)×Int)(z:Int×List (List Int)):Prop:=y.2=z.1∧(z.1=0→y.1=z.2)
theorem aMc (N:Nat)(m:List Int)(l:List (List Int))(x y:List Int):q5 N m (l++[x,y]) 1 1=if qE N m y x=0 then(0,l++[yB (decide (0<x.length))])else(qE N m y x,l++[x,y]):=by
 have e1:(l++[x,y]).drop ((l++[x,y]).length-1)=[y]:=by
  rw[show l++[x,y]=(l++[x])++[y] by simp]
  exact aRT (by simp)
 have e0:(l++[x,y]).take ((l++[x,y]).length-1)=l++[x]:=by
  rw[show l++[x,y]=(l++[x])++[y] by simp]
  exact aRU (by simp)
 have e2:(l++[x]).drop ((l++[x,y]).length-2*1)=[x]:=aRT (by simp)
 have e3:(l++[x,y]).take ((l++[x,y]).length-2*1)=l:=aRU (by simp)
 unfold q5
 rw[e0,e1,e2,e3]
 by_cases hv:qE N m y x=0
 ·have hs:mI N m [y] [x] 0=(0,if decide ((0:Int)<(x.length:Int))then 0+1 else 0):=by
   rw[mI,hv]
   rfl
  rw[hs,if_pos rfl,if_pos hv]
  dsimp only
  by_cases hp:0<x.length
  ·rw[if_pos (decide_eq_true (show(0:Int)<(x.length:Int) by omega)),decide_eq_true hp];rfl
  rw[if_neg (show¬decide ((0:Int)<(x.length:Int))=true by rw[decide_eq_true_iff];omega),decide_eq_false hp];rfl
 have hs:mI N m [y] [x] 0=(qE N m y x,0):=by
  rw[mI,if_pos (show(qE N m y x != 0)=true by simpa using hv)]
 rw[hs,if_neg hv,if_neg hv]
section
variable {N:Nat}(hN:70000≤N){m:List Int}(hm:m.length=32)(hb:Byt m)
include hN hm hb
theorem aLc {h a:Int}{o:aK}(ho:vL o)(hc:1≤o.Code∧o.Code≤17)(h14:o.Code≠14)(h15:o.Code≠15)(h16:o.Code≠16){st:List (List Int)}(hs:WS st)(hn:kI o≤(st.length:Int)):
  ∃y,vR N o.Code o.Data o.M o.N st m h a=some y∧aHA y (sB N m h a o st):=by
 have hl:=hs.len
 have hd:=ho.data
 have hpush: ∀x:List Int,∃y,lD N st x=some y∧aHA y (yD st x):=fun x=>by
  refine⟨_,aJf N (by omega) x, ?_⟩
  unfold yD aHA
  by_cases h64:64≤st.length
  ·rw[if_pos h64,if_pos h64];exact⟨rfl,fun h=>by cases h⟩
  rw[if_neg h64,if_neg h64];exact⟨rfl,fun _=>rfl⟩
 have hflag: ∀v,kV N v=some (yB v):=fun v=>by rw[aKi,aDa hN]
 have htrue: ∀x:List Int,x.length≤520→nY N x=some (tZ x):=fun x hx=>by rw[aG2,aAr hN (by omega)]
 have hst: ∀x∈st,Byt x:=fun x hx=>(hs.it x hx).1
 unfold vR sB
 unfold kI at hn
 by_cases c1:o.Code=1
 ·obtain⟨y,h1,h2⟩:=hpush o.Data
  rw[if_pos c1,if_pos (show(o.Code == 1)=true by simpa using c1),aEI hN _ (by simp) (by simp;omega),aQr,show[o.Data].flatten=o.Data by simp,h1,aQr]
  exact⟨_,rfl,h2⟩
 rw[if_neg c1,if_neg (show¬(o.Code == 1)=true by simpa using c1)]
 have g1:o.Code≠17→1≤st.length:=fun h17=>by
  rw[if_neg (show¬(o.Code=1∨o.Code=15∨o.Code=16∨o.Code=17) by omega)]at hn
  split at hn
  ·omega
  split at hn
  ·rename_i h11
   have:=ho.multi h11
   omega
  omega
 have g2:(o.Code=4∨o.Code=5∨o.Code=10)→2≤st.length:=fun h2=>by
  rw[if_neg (show¬(o.Code=1∨o.Code=15∨o.Code=16∨o.Code=17) by omega),if_pos h2]at hn
  omega
 have i1':o.Code≠17→Byt (eF st 1)∧(eF st 1).length≤520∧bS st (aQu.wrap ((st.length:Int)-1))=some (eF st 1):=fun h17=>pQ hs (k:=1) (by omega) (g1 h17)
 have i2':(o.Code=4∨o.Code=5∨o.Code=10)→Byt (eF st 2)∧(eF st 2).length≤520∧bS st (aQu.wrap ((st.length:Int)-2))=some (eF st 2):=fun h2=>pQ hs (k:=2) (by omega) (g2 h2)
 have t1:o.Code≠17→sub st 0 (aQu.wrap ((st.length:Int)-1))=some (st.take (st.length-1)):=fun h17=>aDH (k:=1) (g1 h17) (by omega)
 have t2:(o.Code=4∨o.Code=5∨o.Code=10)→sub st 0 (aQu.wrap ((st.length:Int)-2))=some (st.take (st.length-2)):=fun h2=>aDH (k:=2) (g2 h2) (by omega)
 by_cases c2:o.Code=2
 ·obtain⟨y,h1,h2⟩:=hpush (eF st 1)
  rw[if_pos c2,if_pos (show(o.Code == 2)=true by simpa using c2),(i1' (by omega)).2.2,aQr,h1,aQr]
  exact⟨_,rfl,h2⟩
 rw[if_neg c2,if_neg (show¬(o.Code == 2)=true by simpa using c2)]
 by_cases c3:o.Code=3
 ·rw[if_pos c3,if_pos (show(o.Code == 3)=true by simpa using c3),t1 (by omega),aQr]
  exact⟨_,rfl,rfl,fun _=>rfl⟩
 rw[if_neg c3,if_neg (show¬(o.Code == 3)=true by simpa using c3)]
 by_cases c4:o.Code=4
 ·rw[if_pos c4,if_pos (show(o.Code == 4)=true by simpa using c4),t2 (.inl c4),aQr,(i1' (by omega)).2.2,aQr,(i2' (.inl c4)).2.2,aQr,vM (by simp;omega),aQr,aMW (g2 (.inl c4))]
  exact⟨_,rfl,rfl,fun _=>rfl⟩
 rw[if_neg c4,if_neg (show¬(o.Code == 4)=true by simpa using c4)]
 by_cases c5:o.Code=5
 ·rw[if_pos c5,if_pos (show(o.Code == 5)=true by simpa using c5),t2 (.inr (.inl c5)),aQr,(i2' (.inr (.inl c5))).2.2,aQr,(i1' (by omega)).2.2,aQr]
  unfold tF
  rw[aQr,hflag,aQr,vM (by simp;omega),aQr]
  refine⟨_,rfl,rfl,fun _=> ?_⟩
  unfold eqE
  rw[show((nP (eF st 2)).toList == (nP (eF st 1)).toList)=((nP (eF st 1)).toList == (nP (eF st 2)).toList)from Bool.beq_comm]
 rw[if_neg c5,if_neg (show¬(o.Code == 5)=true by simpa using c5)]
 by_cases c6:o.Code=6
 ·rw[if_pos c6,if_pos (show(o.Code == 6)=true by simpa using c6),t1 (by omega),aQr,(i1' (by omega)).2.2,aQr,htrue _ (i1' (by omega)).2.1,aQr,hflag,aQr,vM (by simp;omega),aQr]
  exact⟨_,rfl,rfl,fun _=>rfl⟩
 rw[if_neg c6,if_neg (show¬(o.Code == 6)=true by simpa using c6)]
 by_cases c7:o.Code=7
 ·rw[if_pos c7,if_pos (show(o.Code == 7)=true by simpa using c7),(i1' (by omega)).2.2,aQr,htrue _ (i1' (by omega)).2.1,aQr]
  cases tZ (eF st 1) with
  |false=>exact⟨_,rfl,rfl,fun h=>by cases h⟩
  |true=>
   rw[if_neg (show¬(!true)=true by decide),t1 (by omega),aQr]
   exact⟨_,rfl,rfl,fun _=>rfl⟩
 rw[if_neg c7,if_neg (show¬(o.Code == 7)=true by simpa using c7)]
 by_cases c8:o.Code=8
 ·rw[if_pos c8,if_pos (show(o.Code == 8)=true by simpa using c8),(i1' (by omega)).2.2,aQr,aE4 N hN _ (i1' (by omega)).1 (by have:=(i1' (by omega)).2.1;omega),aQr,cK (n8 N _),aQr,t1 (by omega),aQr,vM (by simp;omega),aQr]
  exact⟨_,rfl,rfl,fun _=>rfl⟩
 rw[if_neg c8,if_neg (show¬(o.Code == 8)=true by simpa using c8)]
 by_cases c9:o.Code=9
 ·have hi:=(i1' (by omega)).2.1
  obtain⟨y,h1,h2⟩:=hpush (aBQ N ((eF st 1).length:Nat))
  rw[if_pos c9,if_pos (show(o.Code == 9)=true by simpa using c9),(i1' (by omega)).2.2,aQr,show aQL.wrap ((eF st 1).length:Int)=((eF st 1).length:Int) by rw[aRQ];omega,aDx N (by omega),(aFh hN (by omega)).1,aQr,h1,aQr]
  exact⟨_,rfl,h2⟩
 rw[if_neg c9,if_neg (show¬(o.Code == 9)=true by simpa using c9)]
 by_cases c10:o.Code=10
 ·have b1:=(i1' (by omega)).1
  have b2:=(i2' (.inr (.inr c10))).1
  rw[if_pos c10,if_pos (show(o.Code == 10)=true by simpa using c10),(i2' (.inr (.inr c10))).2.2,aQr,(i1' (by omega)).2.2,aQr,cK hm,aQr,aGj hN hm hb b1 b2,aQr,t2 (.inr (.inr c10)),aQr,hflag,aQr,vM (by simp;omega),aQr]
  obtain⟨l,x,y,rfl⟩:=aIs (g2 (.inr (.inr c10)))
  obtain⟨e1,e2,e3,e4⟩:=aIG l x y
  rw[e1,e2,e3,aMc]
  by_cases hv:qE N m y x=0
  ·rw[if_pos hv,hv]
   exact⟨_,rfl,rfl,fun _=>by simp⟩
  rw[if_neg hv]
  exact⟨_,rfl,rfl,fun h=>absurd h hv⟩
 rw[if_neg c10,if_neg (show¬(o.Code == 10)=true by simpa using c10)]
 by_cases c11:o.Code=11
 ·obtain⟨m1,m2,m3⟩:=ho.multi c11
  rw[if_neg (show¬(o.Code=1∨o.Code=15∨o.Code=16∨o.Code=17) by omega),if_neg (show¬(o.Code=4∨o.Code=5∨o.Code=10) by omega),if_pos c11]at hn
  obtain⟨n,hnn⟩: ∃n:Nat,o.N=n:=⟨o.N.toNat,by omega⟩
  rw[hnn]at hn m2 m3⊢
  have hw:aQu.wrap (2*(n:Int))=((2*n:Nat):Int):=by rw[b5 (by omega) (by omega)];omega
  have hw2:aQu.wrap ((st.length:Int)-((2*n:Nat):Int))=((st.length-2*n:Nat):Int):=by
   rw[b5 (by omega) (by omega)];omega
  have es:sub st ((st.length-2*n:Nat):Int) (st.length:Int)=some (st.drop (st.length-2*n)):=by
   unfold sub
   rw[if_pos ⟨by omega,by omega,by omega⟩,aQt,aQt,aQw (aQH _)]
  have et:sub st 0 ((st.length-2*n:Nat):Int)=some (st.take (st.length-2*n)):=by
   unfold sub
   rw[if_pos ⟨by omega,by omega,by omega⟩,aQt]
   rfl
  have key: ∀k j:Nat,j≤k→k≤st.length→st.drop j=(st.take k).drop j++st.drop k:=by
   intro k j h1 h2
   have:=congrArg (List.drop j) (aRB k st).symm
   rw[aRj (by rw[aRw];omega)]at this
   exact this
  have ed:=key (st.length-n) (st.length-2*n) (by omega) (by omega)
  have hmu:=aJx hN hm hb o.Code o.Data o.M n (by omega) (st.drop (st.length-n)) ((st.take (st.length-n)).drop (st.length-2*n)) (by rw[aRx];omega) (by rw[aRx,aRw];omega) (fun x hx=>hst x (aQQ hx)) (fun x hx=>hst x (aQP (aQQ hx)))
  rw[if_pos c11,if_pos (show(o.Code == 11)=true by simpa using c11),hw,hw2,es,aQr,cK hm,aQr,ed,hmu,aQr,et,aQr,hflag,aQr,vM (by simp;omega),aQr]
  unfold q5
  rw[aQt]
  by_cases hv:(mI N m (st.drop (st.length-n)) ((st.take (st.length-n)).drop (st.length-2*n)) 0).1=0
  ·rw[if_pos hv,if_pos hv]
   exact⟨_,rfl,rfl,fun _=>rfl⟩
  rw[if_neg hv,if_neg hv]
  exact⟨_,rfl,rfl,fun h=>absurd h hv⟩
 rw[if_neg c11,if_neg (show¬(o.Code == 11)=true by simpa using c11)]
 by_cases c12:o.Code=12
 ·rw[if_pos c12,if_pos (show(o.Code == 12)=true by simpa using c12),(i1' (by omega)).2.2,aQr,aER,aEb hN,aQr]
  exact⟨_,rfl,rfl,fun _=>rfl⟩
 rw[if_neg c12,if_neg (show¬(o.Code == 12)=true by simpa using c12)]
 by_cases c13:o.Code=13
 ·rw[if_pos c13,if_pos (show(o.Code == 13)=true by simpa using c13),(i1' (by omega)).2.2,aQr,aER,aEb hN,aQr]
  exact⟨_,rfl,rfl,fun _=>rfl⟩
 rw[if_neg c13,if_neg (show¬(o.Code == 13)=true by simpa using c13),if_pos (show o.Code=17 by omega)]
 exact⟨_,rfl,rfl,fun h=>by cases h⟩
end
def pL (br:List aG):List aR:=br.map fun b=>⟨b.outer,b.taken⟩
theorem z9 (br:List aG):(pL br).length=br.length:=by simp[pL]
theorem aCV {br:List aG}(h:br≠ [])(hl:br.length≤1000):bS (pL br) (aQu.wrap (((pL br).length:Int)-1))=some ⟨(qQ br).outer,(qQ br).taken⟩:=by
 have h0:1≤br.length:=by have:=mt lJ.2 h;omega
 rw[z9,vW h0 (by omega),aBj]
 unfold pL qQ
 rw[List.getElem?_map,aQz (show br.length-1<br.length by omega),aQG,aQz (show br.length-1<br.length by omega)]
 rfl
theorem aI0 (N:Nat){br:List aG}(hl:br.length≤1000):sI N (pL br)=some ((qQ br).outer&&(qQ br).taken):=by
 unfold sI lL
 by_cases h:br=[]
 ·subst h;rfl
 have h0:1≤br.length:=by have:=mt lJ.2 h;omega
 rw[if_neg (show¬(((pL br).length:Int) == 0)=true by rw[z9];simp;intro e;exact h e),aCV h hl,aQr]
 dsimp only
 cases (qQ br).outer<;>rfl
theorem aNa {br:List aG}(i:Nat)(b:aG):(pL br).set i ⟨b.outer,b.taken⟩=pL (br.set i b):=by
 unfold pL
 rw[List.map_set]
theorem aKy {br:List aG}(i:Nat):(pL br).take i=pL (br.take i):=by
 unfold pL
 rw[List.map_take]
theorem aGY {br:List aG}(b:aG):pL br++[⟨b.outer,b.taken⟩]=pL (br++[b]):=by simp[pL]
abbrev aLz :=(List (List Int))→Int→Int→(List aR)→Option (LR ((List (List Int))×Int) ((List (List Int))×Int×Int))
def yC (rec:aLz)(j:Int)(x:Int×St):Option (LR ((List (List Int))×Int) ((List (List Int))×Int×Int)):=
 if x.1=0 then rec x.2.st x.2.c (aQu.wrap (j+1)) (pL x.2.br)else some (.ret ([],0,x.1))
section
variable {N:Nat}(hN:70000≤N){m:List Int}(hm:m.length=32)(hb:Byt m)
include hN hm hb
theorem aHc {h a:Int}{o:aK}(ho:vL o)(hc:1≤o.Code∧o.Code≤17){st:List (List Int)}(hs:WS st){br:List aG}(hbr:br.length≤1000)(h15:o.Code=15∨o.Code=16→br≠ [])(k:Bool)(c:Int)(hk:k=true→kI o≤(st.length:Int))(bI:List aK×Int)(j:Int)(rec:aLz):
  pH N m h a bI st j (pL br) o k rec c=yC rec j (aBH N m h a o k ⟨st,br,c⟩):=by
 have hl:=hs.len
 unfold pH aBH
 by_cases c14:o.Code=14
 ·rw[if_pos c14,if_pos (show(o.Code == 14)=true by simpa using c14)]
  have happ: ∀x,eM 2 (pL br) [x]=some (pL br++[x]):=fun x=>vX (by have:=kQ;rw[z9];simp;omega)
  cases k with
  |true=>
   have hn:=hk rfl
   unfold kI at hn
   rw[if_neg (by omega),if_neg (by omega),if_neg (by omega)]at hn
   have q:=pQ hs (k:=1) (by omega) (by omega)
   have q2:bS st (aQu.wrap ((st.length:Int)-1))=some (eF st 1):=q.2.2
   have t1:sub st 0 (aQu.wrap ((st.length:Int)-1))=some (st.take (st.length-1)):=aDH (k:=1) (by omega) (by omega)
   rw[if_pos rfl,q2,aQr,aG2,aAr hN (by have:=q.2.1;omega),aQr,t1,aQr]
   unfold pK fC yC
   rw[happ,aQr,if_pos rfl,←aGY]
   rfl
  |false=>
   rw[if_neg (show¬(false=true) by decide)]
   unfold pK fC yC
   rw[happ,aQr,if_pos rfl,←aGY]
   rfl
 rw[if_neg c14,if_neg (show¬(o.Code == 14)=true by simpa using c14)]
 by_cases c15:o.Code=15
 ·have h0:=h15 (.inl c15)
  have h0':1≤br.length:=by have:=mt lJ.2 h0;omega
  rw[if_pos c15,if_pos (show(o.Code == 15)=true by simpa using c15),aCV h0 hbr,aQr,z9,vW h0' (by omega),aQt]
  unfold fC yC
  rw[if_pos rfl,←aNa]
 rw[if_neg c15,if_neg (show¬(o.Code == 15)=true by simpa using c15)]
 by_cases c16:o.Code=16
 ·have h0:=h15 (.inr c16)
  have h0':1≤br.length:=by have:=mt lJ.2 h0;omega
  have e:sub (pL br) 0 (aQu.wrap (((pL br).length:Int)-1))=some (pL (br.take (br.length-1))):=by
   rw[z9,vW h0' (by omega),←aKy]
   unfold sub
   rw[if_pos ⟨by omega,by omega,by rw[z9];omega⟩]
   simp
  rw[if_pos c16,if_pos (show(o.Code == 16)=true by simpa using c16),e,aQr]
  unfold fC yC
  rw[if_pos rfl]
 rw[if_neg c16,if_neg (show¬(o.Code == 16)=true by simpa using c16)]
 cases k with
 |false=>
  rw[if_neg (show¬(false=true) by decide),if_neg (show¬(false=true) by decide)]
  unfold fC yC
  rw[if_pos rfl]
 |true=>
  obtain⟨y,h1,h2,h3⟩:=aLc hN hm hb (h:=h) (a:=a) ho hc c14 c15 c16 hs (hk rfl)
  rw[if_pos rfl,if_pos rfl,h1,aQr,h2]
  unfold yC
  dsimp only
  by_cases he:(sB N m h a o st).1=0
  ·rw[if_pos he,he,if_neg (show¬((0:Int) != 0)=true by decide),h3 he]
   rfl
  rw[if_neg he,if_pos (show((sB N m h a o st).1 != 0)=true by simpa using he)]
end
section
variable {N:Nat}(hN:70000≤N){m:List Int}(hm:m.length=32)(hb:Byt m)
include hN hm hb
theorem aJA {h a:Int}{o:aK}(ho:vL o)(hc:1≤o.Code∧o.Code≤17){s:St}(hs:OkS s)(hbr:s.br.length≤1000)(h15:o.Code=15∨o.Code=16→s.br≠ [])(bI:List aK×Int)(j:Int)(rec:aLz):
  pW N m h a bI s.st s.c j (pL s.br) o rec (aAf o s.br)=yC rec j (oM N m h a o s):=by
 have hp:=aFV ho
 have hcc:=hs.c
 unfold pW oM
 cases aAf o s.br with
 |false=>
  rw[if_neg (show¬(false=true) by decide),if_neg (show¬(false=true) by decide)]
  exact aHc hN hm hb ho hc hs.ws hbr h15 false s.c (fun h=>by cases h) bI j rec
 |true=>
  rw[if_pos rfl,if_pos rfl,aJ7 N ho,aQr,b5 (a:=s.c+k8 o) (by omega) (by omega)]
  by_cases h5:500<s.c+k8 o
  ·rw[if_pos (decide_eq_true h5),if_pos h5]
   rfl
  rw[if_neg (show¬decide (500<s.c+k8 o)=true by simpa using h5),if_neg h5,aJN N ho hc,aQr]
  by_cases h6:(s.st.length:Int)<kI o
  ·rw[if_pos (decide_eq_true h6),if_pos h6]
   rfl
  rw[if_neg (show¬decide ((s.st.length:Int)<kI o)=true by simpa using h6),if_neg h6]
  exact aHc hN hm hb ho hc hs.ws hbr h15 true (s.c+k8 o) (fun _=>by omega) bI j rec
theorem aGi {h a:Int}(ops:List aK)(e:Int)(hv: ∀o∈ops,vL o∧1≤o.Code∧o.Code≤17)(ho:ops.length≤600): ∀(f j:Nat)(s:St)(l q:List Bool),ops.length-j<f→j≤ops.length→OkS s→s.br.length=l.length→kW (ops.drop j) l=some q→s.br.length≤j→
  cS N m h a (ops,e) f s.st s.c (j:Int) (pL s.br)=some (if(jX N m h a (ops.drop j) s).1=0 then .brk ((jX N m h a (ops.drop j) s).2.st,(jX N m h a (ops.drop j) s).2.c)else .ret ([],0,(jX N m h a (ops.drop j) s).1))
 |0,j,s,l,q,hf,_,_,_,_,_=>by omega
 |f+1,j,s,l,q,hf,hj,hs,hl,hn,hbj=>by
  rw[cS]
  dsimp only
  by_cases h':j<ops.length
  ·have hvo:=hv _ (aQD h')
   rw[aQx h']at hn⊢
   have h15:ops[j].Code=15∨ops[j].Code=16→s.br≠ []:=fun hc=>by
    intro hnil
    exact(aF5 hn).1 hc (lJ.2 (by rw[←hl,hnil];rfl))
   have ht:=aJA hN hm hb (h:=h) (a:=a) hvo.1 hvo.2 hs (by omega) h15 (ops,e) (j:Int) (cS N m h a (ops,e) f)
   rw[dT h',if_pos rfl,dP ops h',aQr,aI0 N (by omega),aQr]
   have hJ:(if(ops[j].Code == 15)=true then mN N m h a (ops,e) s.st s.c (j:Int) (pL s.br) ops[j] ((qQ s.br).outer&&(qQ s.br).taken) (cS N m h a (ops,e) f) true else mN N m h a (ops,e) s.st s.c (j:Int) (pL s.br) ops[j] ((qQ s.br).outer&&(qQ s.br).taken) (cS N m h a (ops,e) f) (ops[j].Code == 16))=yC (cS N m h a (ops,e) f) (j:Int) (oM N m h a ops[j] s):=by
    rw[←ht]
    unfold mN aAf
    by_cases c15:ops[j].Code=15
    ·rw[if_pos (show(ops[j].Code == 15)=true by simpa using c15),if_pos rfl,aCV (h15 (.inl c15)) (by omega),aQr,if_pos (show ops[j].Code=15∨ops[j].Code=16 from .inl c15)]
    rw[if_neg (show¬(ops[j].Code == 15)=true by simpa using c15)]
    by_cases c16:ops[j].Code=16
    ·rw[if_pos (show(ops[j].Code == 16)=true by simpa using c16),aCV (h15 (.inr c16)) (by omega),aQr,if_pos (show ops[j].Code=15∨ops[j].Code=16 from .inr c16)]
    rw[if_neg (show¬(ops[j].Code == 16)=true by simpa using c16),if_neg (show¬(ops[j].Code=15∨ops[j].Code=16) by omega)]
   rw[hJ]
   obtain⟨s',k1,k2⟩:=aDV hN hm hb (h:=h) (a:=a) hvo.1 hs hl hn (by omega)
   unfold yC
   rw[jX]
   by_cases h0:(oM N m h a ops[j] s).1=0
   ·obtain⟨es,g1,g2,g3,l',g4,g5⟩:=k2 h0
    rw[if_pos h0,if_pos h0,i1 (by omega),←es]
    exact aGi ops e hv ho f (j+1) s' l' q (by omega) (by omega) g1 g4 g5 (by omega)
   rw[if_neg h0,if_neg h0,if_neg h0]
  rw[dF h',aQB (by omega)]
  rfl
end
theorem aDn : ∀(k:Nat)(b:List Int)(acc l:List aK),(∀o∈acc,1≤o.Code∧o.Code≤17)→hZ k b acc= .brk l→ ∀o∈l,1≤o.Code∧o.Code≤17
 |0,_,_,_,hv,h=>by
  injection h with h
  subst h
  exact hv
 |k+1,[],acc,l,hv,h=>by
  injection h with h
  subst h
  exact hv
 |k+1,x::r,acc,l,hv,h=>by
  simp only[hZ]at h
  by_cases he:(dN x r).2.2=0
  ·rw[if_pos he]at h
   exact aDn k _ _ l (fun o ho=>by
    rcases aQ6.1 ho with g|g
    ·exact hv o g
    rw[aQV.1 g];exact aJc he) h
  rw[if_neg he]at h;cases h
theorem aH9 {b:List Int}(hb:Byt b)(h:(bU b).2=0): ∀o∈(bU b).1,1≤o.Code∧o.Code≤17:=by
 obtain⟨_,_,_,p⟩:=aAQ hb h
 exact aDn _ b [] _ (by simp) p
section
variable {N:Nat}(hN:70000≤N){m:List Int}(hm:m.length=32)(hb:Byt m)
include hN hm hb
theorem aMe {b:List Int}(hbb:Byt b){st:List (List Int)}(hst: ∀x∈st,Byt x)(h a:Int):yK N b st m h a=some (yX N b st m h a):=by
 unfold yK yX
 rw[aJz hN hbb]
 simp only[aQr]
 by_cases hp:(bU b).2=0
 ·obtain⟨p1,p2,_⟩:=aAQ hbb hp
  rw[if_neg (by simpa using hp),hp,aJg hN (by omega),aKR hN]
  simp only[aQr,show((0:Int) != 0)=false from rfl,aQs,if_false]
  cases hn:tC (bU b).1 with
  |false=>rfl
  |true=>
   cases hB:t5 st with
   |false=>rfl
   |true=>
    have hw:=(aCT hst).1 hB
    have hl:=hw.len
    have lp:=aGi hN hm hb (h:=h) (a:=a) (bU b).1 (bU b).2 (fun o ho=>⟨p1 o ho,aH9 hbb hp o ho⟩) (by omega) N 0 ⟨st,[],0⟩ [] [] (by omega) (by omega) ⟨hw,by simp⟩ rfl (aDG.1 hn) (by simp)
    rw[show((0:Nat):Int)=0 from rfl,aQA]at lp
    simp only[aQI,aQs,aRr,if_false,aI1 hN hl (fun x hx=>(hw.it x hx).2),aQr]
    rw[show(cS N m h a (bU b) N st 0 0 [])=_ from lp]
    by_cases he:(jX N m h a (bU b).1 ⟨st,[],0⟩).1=0
    ·rw[if_pos he,if_pos he];rfl
    rw[if_neg he,if_neg he];rfl
 rw[if_pos hp,show((bU b).2 != 0)=true by simpa using hp];rfl
end
theorem aJq {N:Nat}(hN:70000≤N){l:List (List Int)}(hl:l.length≤1000):oA N l l=some true:=by
 have lp: ∀(f j:Nat),l.length-j<f→j≤l.length→fZ N l l f (j:Int)=some (.brk ()):=by
  intro f
  induction f with
  |zero=>intro j hf;omega
  |succ f ih=>
   intro j hf hj
   rw[fZ]
   by_cases hlt:j<l.length
   ·rw[dT hlt,if_pos rfl,dP l hlt]
    simp only[aQr,tF,beq_self_eq_true,aQI,aQs,if_false,i1 (show j≤100000 by omega)]
    exact ih (j+1) (by omega) (by omega)
   rw[dF hlt];rfl
 have:=lp N 0 (by omega) (by omega)
 rw[show((0:Nat):Int)=0 from rfl]at this
 unfold oA
 rw[if_neg (by simp),this]
 rfl
def NN :Nat:=70000
theorem aBJ :70000≤NN:=aQH _
theorem aKs :zO NN=some true:=by decide +kernel
theorem aLw {N:Nat}(hN:70000≤N)(l:List (List Int)):vG N l 70 600=some (!decide (70<l.length)&&l.all fun x=> !decide (600<(x.length:Int))):=by
 unfold vG
 by_cases hl:70<l.length
 ·rw[show decide ((70:Int)<((l.length:Nat):Int))=true from decide_eq_true (by omega),decide_eq_true hl];rfl
 have:=xF (f:=kB N l 600) (xs:=l) (p:=fun x=> !decide (600<(x.length:Int))) (r:=false) (fun m j hj=>by
  rw[kB,dT hj,if_pos rfl,dP l hj]
  simp only[aQr,i1 (show j≤100000 by omega)]
  cases decide (600<((l[j].length:Nat):Int))<;>rfl) (fun m j hj=>by rw[kB,dF (by omega)];rfl) N 0 (by omega) (by omega)
 rw[show((0:Nat):Int)=0 from rfl,aQA]at this
 rw[show decide ((70:Int)<((l.length:Nat):Int))=false from decide_eq_false (by omega),decide_eq_false hl,this]
 cases l.all fun x=> !decide (600<(x.length:Int))<;>rfl
theorem aLk {N:Nat}(hN:70000≤N){m:List Int}(hm:m.length=32)(hmb:Byt m){b:List Int}(hbb:Byt b){st:List (List Int)}(hst: ∀x∈st,Byt x)(h a:Int):(yX N b st m h a).1.length≤64∧(yX N b st m h a).2.1≤500:=by
 by_cases h0:(yX N b st m h a).2.2=0
 ·obtain⟨_,_,_,_,g,_,e⟩:=aMP hN hm hmb hbb hst h0
  rw[e]
  exact⟨g.ws.len,g.c.2⟩
 unfold yX at h0⊢
 split
 ·simp
 split
 ·simp
 split
 ·simp
 split
 ·rename_i h1 h2 h3 h4
  rw[if_neg h1,if_neg h2,if_neg h3,if_pos h4]at h0
  exact absurd rfl h0
 simp
theorem u8b (x:Int):0≤aQJ.wrap x∧aQJ.wrap x<256:=by
 rw[aEi rfl]
 show 0≤x%256∧x%256<256
 omega
theorem aIm (N:Nat)(c:Int)(d:List Int)(m n:Int): ∃v,gT N c d m n=some v:=by
 have j3: ∀t,∃v,eR N t=some v:=fun t=>by cases t<;>exact⟨_,rfl⟩
 have j2: ∀t,∃v,d7 N c d m n t=some v:=fun t=>by
  unfold d7
  split
  ·exact⟨_,rfl⟩
  split
  ·exact⟨_,rfl⟩
  split
  ·split
   ·exact j3 _
   split
   ·exact j3 _
   split
   ·exact j3 _
   exact j3 _
  exact j3 _
 have j4: ∀t,∃v,hY N c d m n t=some v:=fun t=>by
  unfold hY
  split
  ·exact j2 _
  split
  ·exact j2 _
  split
  ·exact j2 _
  exact j2 _
 have j1: ∀t,∃v,hH N c d m n t=some v:=fun t=>by
  unfold hH
  split
  ·exact⟨_,rfl⟩
  split
  ·exact j4 _
  exact j4 _
 unfold gT
 split
 ·exact j1 _
 exact j1 _
section
variable {N:Nat}(hN:70000≤N)
include hN
theorem aJB {c:Int}{d:List Int}(m n:Int)(hd:Byt d)(hl:d.length≤300): ∃e,s6 N c d m n=some e∧Byt e∧e.length≤302:=by
 unfold s6
 split
 ·rw[aEI hN _ (by simp) (by simp;omega),aQr]
  refine⟨_,rfl, ?_,by simp;omega⟩
  intro x hx
  simp only[aQ0,aRh,aQS,aQ6,aRl,aRi,or_false]at hx
  rcases hx with(h|h)|h
  ·subst h;omega
  ·subst h;exact u8b _
  exact hd x h
 split
 ·refine⟨_,rfl, ?_,by simp⟩
  intro x hx
  simp only[aRl,aRi,or_false]at hx
  rcases hx with h|h|h
  ·subst h;omega
  ·subst h;exact u8b _
  subst h;exact u8b _
 refine⟨_,rfl, ?_,by simp⟩
 intro x hx
 rw[aQV.1 hx]
 exact u8b _
theorem aL8 (l:List aK)(hn:l.length≤1000)(hb: ∀o∈l,Byt o.Data∧o.Data.length≤300): ∀(f j:Nat)(acc:List Int),l.length-j<f→j≤l.length→Byt acc→acc.length≤520→ ∃q,iH N l f (j:Int) acc=some q∧match q with | .ret v=>v=([],4) | .brk b=>Byt b
 |0,j,acc,hf,_,_,_=>by omega
 |f+1,j,acc,hf,hj,ha,hal=>by
  rw[iH]
  by_cases h:j<l.length
  ·obtain⟨h1,h2⟩:=hb l[j] (aQD h)
   obtain⟨e,g1,g2,g3⟩:=aJB hN (c:=l[j].Code) l[j].M l[j].N h1 h2
   rw[dT h,if_pos rfl,dP l h,aQr,g1,aQr,tU (by omega),aQr]
   by_cases h5:(520:Int)<((acc++e).length:Int)
   ·rw[if_pos (decide_eq_true h5)]
    exact⟨_,rfl,rfl⟩
   rw[if_neg (by simpa using h5),i1 (show j≤100000 by omega)]
   exact aL8 l hn hb f (j+1) _ (by omega) (by omega) (ha.append g2) (by omega)
  rw[dF h]
  exact⟨_,rfl,ha⟩
theorem aL1 (l:List aK)(hn:l.length≤1000): ∀(f j:Nat),l.length-j<f→j≤l.length→ ∃q,iJ N l f (j:Int)=some q∧match q with | .ret v=>v.1=[]∧v.2≠0 | .brk _=>True
 |0,j,hf,_=>by omega
 |f+1,j,hf,hj=>by
  rw[iJ]
  by_cases h:j<l.length
  ·obtain⟨v,g⟩:=aIm N l[j].Code l[j].Data l[j].M l[j].N
   rw[dT h,if_pos rfl,dP l h,aQr,g,aQr]
   by_cases h5:v=0
   ·rw[if_neg (by simpa using h5),i1 (show j≤100000 by omega)]
    exact aL1 l hn f (j+1) (by omega) (by omega)
   rw[if_pos (by simpa using h5)]
   exact⟨_,rfl,rfl,h5⟩
  rw[dF h]
  exact⟨_,rfl,trivial⟩
theorem aKp {l:List aK}(hn:l.length≤1000)(hb: ∀o∈l,Byt o.Data∧o.Data.length≤300): ∃r,pU N l=some r∧Byt r.1:=by
 obtain⟨q,g,k⟩:=aL1 hN l hn N 0 (by omega) (by omega)
 rw[show((0:Nat):Int)=0 from rfl]at g
 unfold pU
 rw[g,aQr]
 match q,k with
 | .ret v,k=>exact⟨v,rfl,by rw[k.1];intro x hx;cases hx⟩
 | .brk _,_=>
  obtain⟨q,g,k⟩:=aL8 hN l hn hb N 0 [] (by omega) (by omega) (fun x hx=>by cases hx) (by simp)
  rw[show((0:Nat):Int)=0 from rfl]at g
  show∃r,lW N l=some r∧Byt r.1
  unfold lW
  rw[g,aQr]
  match q,k with
  | .ret v,k=>exact⟨v,rfl,by rw[k];intro x hx;cases hx⟩
  | .brk b,k=>exact⟨(b,0),rfl,k⟩
theorem aLx (l:List aK):aAu N l 40=some (!decide (40<l.length)&&l.all fun o=> !decide (300<(o.Data.length:Int))):=by
 unfold aAu
 by_cases hl:40<l.length
 ·rw[show decide ((40:Int)<((l.length:Nat):Int))=true from decide_eq_true (by omega),decide_eq_true hl];rfl
 have:=xF (f:=l6 N l) (xs:=l) (p:=fun o=> !decide (300<(o.Data.length:Int))) (r:=false) (fun m j hj=>by
  rw[l6,dT hj,if_pos rfl,dP l hj]
  simp only[aQr,i1 (show j≤100000 by omega)]
  cases decide (300<((l[j].Data.length:Nat):Int))<;>rfl) (fun m j hj=>by rw[l6,dF (by omega)];rfl) N 0 (by omega) (by omega)
 rw[show((0:Nat):Int)=0 from rfl,aQA]at this
 rw[show decide ((40:Int)<((l.length:Nat):Int))=false from decide_eq_false (by omega),decide_eq_false hl,this]
 cases l.all fun o=> !decide (300<(o.Data.length:Int))<;>rfl
end
theorem aFb (l:List aK)(w:List (List Int))(m:List Int)(h a:Int)(hl: ∀o∈l,Byt o.Data)(hw: ∀x∈w,Byt x)(hm:m.length=32)(hmb:Byt m):nO NN l w m h a=some true:=by
 have hJ:gJ NN l w m h a true=some true:=rfl
 unfold nO
 rw[aKs,aLx aBJ]
 simp only[aQr,aQI,aQs,if_false]
 cases hk:(!decide (40<l.length)&&l.all fun o=> !decide (300<(o.Data.length:Int))) with
 |false=>exact hJ
 |true=>
  simp only[aRk,aRf,aRu,decide_eq_false_iff_not]at hk
  obtain⟨r,g,hr⟩:=aKp aBJ (l:=l) (by omega) (fun o ho=>⟨hl o ho,by have:=hk.2 o ho;omega⟩)
  have hR:gJ NN l w m h a false=some true:=by
   obtain⟨e1,e2⟩:=aLk aBJ hm hmb hr hw h a
   unfold gJ
   rw[if_neg (show¬(false=true) by decide),g,aQr]
   split
   ·rfl
   simp only[aN6 aBJ hm hmb hr hw,aMe aBJ hm hmb hr hw,aQr,beq_self_eq_true,if_true,aJq aBJ (show(yX NN r.1 w m h a).1.length≤1000 by omega)]
   rw[if_pos (decide_eq_true e2)]
   exact congrArg some (decide_eq_true (by omega))
  rw[if_neg (by decide),aLw aBJ]
  simp only[aQr]
  cases (!(!decide (70<w.length)&&w.all fun x=> !decide (600<(x.length:Int))))
  ·exact hR
  exact hJ
end Go.Proofs.YtnllpckhipmpgaaGreatDoor
