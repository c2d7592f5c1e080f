/- Texts of ours, joined: PlainU2, PlainU3, PlainU4, PlainV1, PlainL1, PlainL5, PlainL6, PlainV2, PlainL7, PlainL8, PlainL9, PlainL10, PlainL11, PlainL12, PlainL13, PlainL14, PlainL15, TyF. -/
import Derived.Test.YtgfdllellpbmoaaGreatDoorQLedgerBasics4
open Option renaming bind_some → aYV
open Go.IntKind renaming i64 → aYW,u64 → aZj,wrap_u64 → aZs,wrap_u8 → aZT,u8 → aZU
open List renaming getElem_mem → aYX,length_append → aYY,replicate → aYZ,mem_singleton → aY1,mem_append → aY4,eq_of_mem_replicate → aY8,drop_zero → aZa,take_succ_eq_append_getElem → aZe,pairwise_cons → aZi,nil_append → aZp,mem_cons → aZq,length_cons → aZu,drop_eq_nil_of_le → aZy,take_length → aZD,mem_of_mem_take → aZE,drop_eq_getElem_cons → aZM,pairwise_iff_getElem → aZN,filter_cons_of_pos → aZQ,filter_append → aZX,append_assoc → aZ0,all_eq_true → aZ4,length_nil → aZ7
open Bool renaming false_eq_true → aY0,true_and → aY6,and_eq_true → aZg,not_true → aZP
open Nat renaming div_le_self → aY2,pow_le_pow_right → aY3,lt_of_le_of_lt → aY5,eq_zero_or_pos → aY7,mul_le_mul_right → aY9,testBit_eq_decide_div_mod_eq → aZd,le_trans → aZf,lt_of_lt_of_le → aZh,zero_le → aZk,pow_add → aZl,div_lt_iff_lt_mul → aZm,pow_pos → aZn,pow_zero → aZo,mul_le_mul → aZr,mod_eq_of_lt → aZt,mod_lt → aZv,mul_assoc → aZw,add_mul → aZz,mul_left_comm → aZA,le_refl → aZB,and_two_pow_sub_one_eq_mod → aZC,add_le_add_left → aZG,testBit_two_pow → aZH,lt_or_ge → aZJ,pow_succ → aZK,zero_mul → aZL,mul_add → aZO,div_div_eq_div_mul → aZR,mul_comm → aZS,pos_of_ne_zero → aZW,le_pred_of_lt → aZY,lt_trichotomy → aZZ,zero_mod → aZ2,add_comm → aZ3,div_eq_of_lt → aZ5,zero_testBit → aZ6
open Int renaming toNat_natCast → aZb,tmod → aZc,tdiv → aZx,toNat → aZF,fdiv_eq_ediv_of_nonneg → aZI,le_refl → aZV
open List.Pairwise renaming nil → aZ1
set_option linter.unusedSimpArgs false
set_option linter.unusedVariables false
set_option linter.unusedSectionVars false
namespace Go.Proofs.YtgfdllellpbmoaaGreatDoor
open Go Go.Vm
theorem um {a b:Nat}(h:a*b<18446744073709551616):aZj.wrap ((a:Int)*(b:Int))=((a*b:Nat):Int):=by rw[←Int.natCast_mul,aCm (by omega) (by omega)]
theorem up {a b:Nat}(h:a+b<18446744073709551616):aZj.wrap ((a:Int)+(b:Int))=((a+b:Nat):Int):=by rw[←Int.natCast_add,aCm (by omega) (by omega)]
theorem aQb {x:Nat}(h:x<18446744073709551616):bits .and .u64 (x:Int) 4294967295=((x%4294967296:Nat):Int):=by
 rw[show(4294967295:Int)=((4294967295:Nat):Int)from rfl,aCb (k:= .u64) rfl x _ (show x<2^64 from h) (by decide),show 4294967295=2^32-1 from rfl,aZC]
theorem aHt {x:Nat}(h:x<18446744073709551616):shr .u64 (x:Int) 32=some ((x/4294967296:Nat):Int):=pT x 32 h
theorem aSr {N x y:Nat}(hx:x<18446744073709551616)(hy:y<18446744073709551616): ∃h l:Nat,lK N (x:Int) (y:Int)=some ((h:Int),(l:Int))∧x*y=l+18446744073709551616*h∧l<18446744073709551616∧h<18446744073709551616:=by
 have x0:x%4294967296≤4294967295:=by omega
 have y0:y%4294967296≤4294967295:=by omega
 have x1:x/4294967296≤4294967295:=by omega
 have y1:y/4294967296≤4294967295:=by omega
 have ex:x=4294967296*(x/4294967296)+x%4294967296:=by omega
 have ey:y=4294967296*(y/4294967296)+y%4294967296:=by omega
 have lo:aZj.wrap ((x:Int)*(y:Int))=((x*y%18446744073709551616:Nat):Int):=by rw[←Int.natCast_mul,aZs];omega
 unfold lK
 rw[aQb hx,aQb hy,aHt hx,aHt hy,lo]
 simp only[aYV]
 generalize x/4294967296=u1 at *
 generalize x%4294967296=u0 at *
 generalize y/4294967296=v1 at *
 generalize y%4294967296=v0 at *
 have p00:=aZr x0 y0
 have p10:=aZr x1 y0
 have p01:=aZr x0 y1
 have p11:=aZr x1 y1
 have hxy:x*y=18446744073709551616*(u1*v1)+4294967296*(u1*v0)+4294967296*(u0*v1)+u0*v0:=by
  rw[ex,ey,aZz,aZO,aZO,Nat.mul_mul_mul_comm,aZw 4294967296 u1 v0,aZA u0 4294967296 v1]
  omega
 rw[um (a:=u0) (b:=v0) (by omega),um (a:=u1) (b:=v0) (by omega),um (a:=u0) (b:=v1) (by omega),um (a:=u1) (b:=v1) (by omega)]
 clear ex ey lo
 generalize u0*v0=q00 at *
 generalize u1*v0=q10 at *
 generalize u0*v1=q01 at *
 generalize u1*v1=q11 at *
 rw[aHt (x:=q00) (by omega)]
 simp only[aYV]
 rw[up (a:=q10) (by omega),aHt (x:=q10+q00/4294967296) (by omega),aQb (x:=q10+q00/4294967296) (by omega)]
 simp only[aYV]
 rw[up (a:=(q10+q00/4294967296)%4294967296) (by omega),aHt (x:=(q10+q00/4294967296)%4294967296+q01) (by omega)]
 simp only[aYV]
 rw[up (a:=q11) (by omega),up (a:=q11+(q10+q00/4294967296)/4294967296) (by omega)]
 exact⟨_,_,rfl,by omega,by omega,by omega⟩
theorem s8 {N A b w c:Nat}(hA:A<18446744073709551616)(hb:b<18446744073709551616)(hw:w<18446744073709551616)(hc:c<18446744073709551616): ∃h l s k s' k' d:Nat,lK N (A:Int) (b:Int)=some ((h:Int),(l:Int))∧sT (l:Int) (w:Int) 0=some ((s:Int),(k:Int))∧sT (s:Int) (c:Int) 0=some ((s':Int),(k':Int))∧
  aZj.wrap (aZj.wrap ((h:Int)+(k:Int))+(k':Int))=(d:Int)∧A*b+w+c=s'+18446744073709551616*d∧s'<18446744073709551616∧d<18446744073709551616:=by
 obtain⟨h,l,e1,f1,l1,h1⟩:=aSr (N:=N) hA hb
 obtain⟨s,k,e2,f2,l2,h2⟩:=sJ l1 hw (aZk 1)
 obtain⟨s',k',e3,f3,l3,h3⟩:=sJ l2 hc (aZk 1)
 have hP:=aZr (aZY hA) (aZY hb)
 simp only[Nat.pred_eq_sub_one,Nat.reduceSub,Nat.reduceMul]at hP
 have hd:h+k+k'<18446744073709551616:=by omega
 refine⟨h,l,s,k,s',k',h+k+k',e1,e2,e3, ?_,by omega,l3,hd⟩
 rw[up (by omega),up (by omega)]
theorem q80 (a b c d e f g h:Int):bK 8 [a,b,c,d,e,f,g,h] 0=some a:=rfl
theorem q81 (a b c d e f g h:Int):bK 8 [a,b,c,d,e,f,g,h] 1=some b:=rfl
theorem q82 (a b c d e f g h:Int):bK 8 [a,b,c,d,e,f,g,h] 2=some c:=rfl
theorem q83 (a b c d e f g h:Int):bK 8 [a,b,c,d,e,f,g,h] 3=some d:=rfl
theorem q84 (a b c d e f g h:Int):bK 8 [a,b,c,d,e,f,g,h] 4=some e:=rfl
theorem q85 (a b c d e f g h:Int):bK 8 [a,b,c,d,e,f,g,h] 5=some f:=rfl
theorem q86 (a b c d e f g h:Int):bK 8 [a,b,c,d,e,f,g,h] 6=some g:=rfl
theorem q87 (a b c d e f g h:Int):bK 8 [a,b,c,d,e,f,g,h] 7=some h:=rfl
theorem t80 (a b c d e f g h x:Int):[a,b,c,d,e,f,g,h].set (aZF 0) x=[x,b,c,d,e,f,g,h]:=rfl
theorem t81 (a b c d e f g h x:Int):[a,b,c,d,e,f,g,h].set (aZF 1) x=[a,x,c,d,e,f,g,h]:=rfl
theorem t82 (a b c d e f g h x:Int):[a,b,c,d,e,f,g,h].set (aZF 2) x=[a,b,x,d,e,f,g,h]:=rfl
theorem t83 (a b c d e f g h x:Int):[a,b,c,d,e,f,g,h].set (aZF 3) x=[a,b,c,x,e,f,g,h]:=rfl
theorem t84 (a b c d e f g h x:Int):[a,b,c,d,e,f,g,h].set (aZF 4) x=[a,b,c,d,x,f,g,h]:=rfl
theorem t85 (a b c d e f g h x:Int):[a,b,c,d,e,f,g,h].set (aZF 5) x=[a,b,c,d,e,x,g,h]:=rfl
theorem t86 (a b c d e f g h x:Int):[a,b,c,d,e,f,g,h].set (aZF 6) x=[a,b,c,d,e,f,x,h]:=rfl
theorem t87 (a b c d e f g h x:Int):[a,b,c,d,e,f,g,h].set (aZF 7) x=[a,b,c,d,e,f,g,x]:=rfl
theorem x00 :aYW.wrap (0+0)=0:=by decide +kernel
theorem x01 :aYW.wrap (0+1)=1:=by decide +kernel
theorem x02 :aYW.wrap (0+2)=2:=by decide +kernel
theorem x03 :aYW.wrap (0+3)=3:=by decide +kernel
theorem x04 :aYW.wrap (0+4)=4:=by decide +kernel
theorem bQ :aYW.wrap (1+0)=1:=by decide +kernel
theorem b8 :aYW.wrap (1+1)=2:=by decide +kernel
theorem cH :aYW.wrap (1+2)=3:=by decide +kernel
theorem cB :aYW.wrap (1+3)=4:=by decide +kernel
theorem bZ :aYW.wrap (1+4)=5:=by decide +kernel
theorem b6 :aYW.wrap (2+0)=2:=by decide +kernel
theorem cW :aYW.wrap (2+1)=3:=by decide +kernel
theorem bW :aYW.wrap (2+2)=4:=by decide +kernel
theorem eQ :aYW.wrap (2+3)=5:=by decide +kernel
theorem dL :aYW.wrap (2+4)=6:=by decide +kernel
theorem fA :aYW.wrap (3+0)=3:=by decide +kernel
theorem cO :aYW.wrap (3+1)=4:=by decide +kernel
theorem g6 :aYW.wrap (3+2)=5:=by decide +kernel
theorem nY :aYW.wrap (3+3)=6:=by decide +kernel
theorem fB :aYW.wrap (3+4)=7:=by decide +kernel
theorem aYG {N:Nat}(hN:70000≤N){va:List Int}{A b0 b1 b2 b3 w0 w1 w2 w3 w4' w5 w6 w7:Nat}(hA:bK 4 va 0=some (A:Int))(gA:A<18446744073709551616)(g0:b0<18446744073709551616)(g1:b1<18446744073709551616)(g2:b2<18446744073709551616)(g3:b3<18446744073709551616)(h0:w0<18446744073709551616)(h1:w1<18446744073709551616)(h2:w2<18446744073709551616)(h3:w3<18446744073709551616):
  ∃s0 s1 s2 s3 c:Nat,dV N va (w4 b0 b1 b2 b3) 0 N 0 0 [(w0:Int),(w1:Int),(w2:Int),(w3:Int),(w4':Int),(w5:Int),(w6:Int),(w7:Int)]=some ((c:Int),[(s0:Int),(s1:Int),(s2:Int),(s3:Int),(w4':Int),(w5:Int),(w6:Int),(w7:Int)])∧vl w0 w1 w2 w3+(A*b0+18446744073709551616*(A*b1)+340282366920938463463374607431768211456*(A*b2)+6277101735386680763835789423207666416102355444464034512896*(A*b3))=vl s0 s1 s2 s3+115792089237316195423570985008687907853269984665640564039457584007913129639936*c∧s0<18446744073709551616∧s1<18446744073709551616∧s2<18446744073709551616∧s3<18446744073709551616∧c<18446744073709551616:=by
 obtain⟨hh0,ll0,ss0,kk0,s0,jj0,c0,e0,f0,m0,n0,v0,y0,z0⟩:=s8 (N:=N) gA g0 h0 (show(0:Nat)<18446744073709551616 by omega)
 obtain⟨hh1,ll1,ss1,kk1,s1,jj1,c1,e1,f1,m1,n1,v1,y1,z1⟩:=s8 (N:=N) gA g1 h1 z0
 obtain⟨hh2,ll2,ss2,kk2,s2,jj2,c2,e2,f2,m2,n2,v2,y2,z2⟩:=s8 (N:=N) gA g2 h2 z1
 obtain⟨hh3,ll3,ss3,kk3,s3,jj3,c3,e3,f3,m3,n3,v3,y3,z3⟩:=s8 (N:=N) gA g3 h3 z2
 refine⟨s0,s1,s2,s3,c3, ?_,by unfold vl;omega,y0,y1,y2,y3,z3⟩
 obtain⟨m,hm⟩:=sS (fun q=>dV N va (w4 b0 b1 b2 b3) 0 q 0 0 [(w0:Int),(w1:Int),(w2:Int),(w3:Int),(w4':Int),(w5:Int),(w6:Int),(w7:Int)]) hN
 rw[hm]
 have m0':sT (ss0:Int) 0 0=some ((s0:Int),(jj0:Int)):=m0
 simp only[dV,dX,hA,a40,a41,a42,a43,q80,q81,q82,q83,q84,q85,q86,q87,t80,t81,t82,t83,t84,t85,t86,t87,i01,i12,i23,i34,d04,d14,d24,d34,d44,x00,x01,x02,x03,x04,bQ,b8,cH,cB,bZ,b6,cW,bW,eQ,dL,fA,cO,g6,nY,fB,if_true,aY0,if_false,aYV,e0,e1,e2,e3,f0,f1,f2,f3,m0',m1,m2,m3,n0,n1,n2,n3]
theorem aXW {N:Nat}(hN:70000≤N){va:List Int}{A b0 b1 b2 b3 w0 w1 w2 w3 w4' w5 w6 w7:Nat}(hA:bK 4 va 1=some (A:Int))(gA:A<18446744073709551616)(g0:b0<18446744073709551616)(g1:b1<18446744073709551616)(g2:b2<18446744073709551616)(g3:b3<18446744073709551616)(h0:w1<18446744073709551616)(h1:w2<18446744073709551616)(h2:w3<18446744073709551616)(h3:w4'<18446744073709551616):
  ∃s0 s1 s2 s3 c:Nat,dV N va (w4 b0 b1 b2 b3) 1 N 0 0 [(w0:Int),(w1:Int),(w2:Int),(w3:Int),(w4':Int),(w5:Int),(w6:Int),(w7:Int)]=some ((c:Int),[(w0:Int),(s0:Int),(s1:Int),(s2:Int),(s3:Int),(w5:Int),(w6:Int),(w7:Int)])∧vl w1 w2 w3 w4'+(A*b0+18446744073709551616*(A*b1)+340282366920938463463374607431768211456*(A*b2)+6277101735386680763835789423207666416102355444464034512896*(A*b3))=vl s0 s1 s2 s3+115792089237316195423570985008687907853269984665640564039457584007913129639936*c∧s0<18446744073709551616∧s1<18446744073709551616∧s2<18446744073709551616∧s3<18446744073709551616∧c<18446744073709551616:=by
 obtain⟨hh0,ll0,ss0,kk0,s0,jj0,c0,e0,f0,m0,n0,v0,y0,z0⟩:=s8 (N:=N) gA g0 h0 (show(0:Nat)<18446744073709551616 by omega)
 obtain⟨hh1,ll1,ss1,kk1,s1,jj1,c1,e1,f1,m1,n1,v1,y1,z1⟩:=s8 (N:=N) gA g1 h1 z0
 obtain⟨hh2,ll2,ss2,kk2,s2,jj2,c2,e2,f2,m2,n2,v2,y2,z2⟩:=s8 (N:=N) gA g2 h2 z1
 obtain⟨hh3,ll3,ss3,kk3,s3,jj3,c3,e3,f3,m3,n3,v3,y3,z3⟩:=s8 (N:=N) gA g3 h3 z2
 refine⟨s0,s1,s2,s3,c3, ?_,by unfold vl;omega,y0,y1,y2,y3,z3⟩
 obtain⟨m,hm⟩:=sS (fun q=>dV N va (w4 b0 b1 b2 b3) 1 q 0 0 [(w0:Int),(w1:Int),(w2:Int),(w3:Int),(w4':Int),(w5:Int),(w6:Int),(w7:Int)]) hN
 rw[hm]
 have m0':sT (ss0:Int) 0 0=some ((s0:Int),(jj0:Int)):=m0
 simp only[dV,dX,hA,a40,a41,a42,a43,q80,q81,q82,q83,q84,q85,q86,q87,t80,t81,t82,t83,t84,t85,t86,t87,i01,i12,i23,i34,d04,d14,d24,d34,d44,x00,x01,x02,x03,x04,bQ,b8,cH,cB,bZ,b6,cW,bW,eQ,dL,fA,cO,g6,nY,fB,if_true,aY0,if_false,aYV,e0,e1,e2,e3,f0,f1,f2,f3,m0',m1,m2,m3,n0,n1,n2,n3]
theorem aYr {N:Nat}(hN:70000≤N){va:List Int}{A b0 b1 b2 b3 w0 w1 w2 w3 w4' w5 w6 w7:Nat}(hA:bK 4 va 2=some (A:Int))(gA:A<18446744073709551616)(g0:b0<18446744073709551616)(g1:b1<18446744073709551616)(g2:b2<18446744073709551616)(g3:b3<18446744073709551616)(h0:w2<18446744073709551616)(h1:w3<18446744073709551616)(h2:w4'<18446744073709551616)(h3:w5<18446744073709551616):
  ∃s0 s1 s2 s3 c:Nat,dV N va (w4 b0 b1 b2 b3) 2 N 0 0 [(w0:Int),(w1:Int),(w2:Int),(w3:Int),(w4':Int),(w5:Int),(w6:Int),(w7:Int)]=some ((c:Int),[(w0:Int),(w1:Int),(s0:Int),(s1:Int),(s2:Int),(s3:Int),(w6:Int),(w7:Int)])∧vl w2 w3 w4' w5+(A*b0+18446744073709551616*(A*b1)+340282366920938463463374607431768211456*(A*b2)+6277101735386680763835789423207666416102355444464034512896*(A*b3))=vl s0 s1 s2 s3+115792089237316195423570985008687907853269984665640564039457584007913129639936*c∧s0<18446744073709551616∧s1<18446744073709551616∧s2<18446744073709551616∧s3<18446744073709551616∧c<18446744073709551616:=by
 obtain⟨hh0,ll0,ss0,kk0,s0,jj0,c0,e0,f0,m0,n0,v0,y0,z0⟩:=s8 (N:=N) gA g0 h0 (show(0:Nat)<18446744073709551616 by omega)
 obtain⟨hh1,ll1,ss1,kk1,s1,jj1,c1,e1,f1,m1,n1,v1,y1,z1⟩:=s8 (N:=N) gA g1 h1 z0
 obtain⟨hh2,ll2,ss2,kk2,s2,jj2,c2,e2,f2,m2,n2,v2,y2,z2⟩:=s8 (N:=N) gA g2 h2 z1
 obtain⟨hh3,ll3,ss3,kk3,s3,jj3,c3,e3,f3,m3,n3,v3,y3,z3⟩:=s8 (N:=N) gA g3 h3 z2
 refine⟨s0,s1,s2,s3,c3, ?_,by unfold vl;omega,y0,y1,y2,y3,z3⟩
 obtain⟨m,hm⟩:=sS (fun q=>dV N va (w4 b0 b1 b2 b3) 2 q 0 0 [(w0:Int),(w1:Int),(w2:Int),(w3:Int),(w4':Int),(w5:Int),(w6:Int),(w7:Int)]) hN
 rw[hm]
 have m0':sT (ss0:Int) 0 0=some ((s0:Int),(jj0:Int)):=m0
 simp only[dV,dX,hA,a40,a41,a42,a43,q80,q81,q82,q83,q84,q85,q86,q87,t80,t81,t82,t83,t84,t85,t86,t87,i01,i12,i23,i34,d04,d14,d24,d34,d44,x00,x01,x02,x03,x04,bQ,b8,cH,cB,bZ,b6,cW,bW,eQ,dL,fA,cO,g6,nY,fB,if_true,aY0,if_false,aYV,e0,e1,e2,e3,f0,f1,f2,f3,m0',m1,m2,m3,n0,n1,n2,n3]
theorem aYi {N:Nat}(hN:70000≤N){va:List Int}{A b0 b1 b2 b3 w0 w1 w2 w3 w4' w5 w6 w7:Nat}(hA:bK 4 va 3=some (A:Int))(gA:A<18446744073709551616)(g0:b0<18446744073709551616)(g1:b1<18446744073709551616)(g2:b2<18446744073709551616)(g3:b3<18446744073709551616)(h0:w3<18446744073709551616)(h1:w4'<18446744073709551616)(h2:w5<18446744073709551616)(h3:w6<18446744073709551616):
  ∃s0 s1 s2 s3 c:Nat,dV N va (w4 b0 b1 b2 b3) 3 N 0 0 [(w0:Int),(w1:Int),(w2:Int),(w3:Int),(w4':Int),(w5:Int),(w6:Int),(w7:Int)]=some ((c:Int),[(w0:Int),(w1:Int),(w2:Int),(s0:Int),(s1:Int),(s2:Int),(s3:Int),(w7:Int)])∧vl w3 w4' w5 w6+(A*b0+18446744073709551616*(A*b1)+340282366920938463463374607431768211456*(A*b2)+6277101735386680763835789423207666416102355444464034512896*(A*b3))=vl s0 s1 s2 s3+115792089237316195423570985008687907853269984665640564039457584007913129639936*c∧s0<18446744073709551616∧s1<18446744073709551616∧s2<18446744073709551616∧s3<18446744073709551616∧c<18446744073709551616:=by
 obtain⟨hh0,ll0,ss0,kk0,s0,jj0,c0,e0,f0,m0,n0,v0,y0,z0⟩:=s8 (N:=N) gA g0 h0 (show(0:Nat)<18446744073709551616 by omega)
 obtain⟨hh1,ll1,ss1,kk1,s1,jj1,c1,e1,f1,m1,n1,v1,y1,z1⟩:=s8 (N:=N) gA g1 h1 z0
 obtain⟨hh2,ll2,ss2,kk2,s2,jj2,c2,e2,f2,m2,n2,v2,y2,z2⟩:=s8 (N:=N) gA g2 h2 z1
 obtain⟨hh3,ll3,ss3,kk3,s3,jj3,c3,e3,f3,m3,n3,v3,y3,z3⟩:=s8 (N:=N) gA g3 h3 z2
 refine⟨s0,s1,s2,s3,c3, ?_,by unfold vl;omega,y0,y1,y2,y3,z3⟩
 obtain⟨m,hm⟩:=sS (fun q=>dV N va (w4 b0 b1 b2 b3) 3 q 0 0 [(w0:Int),(w1:Int),(w2:Int),(w3:Int),(w4':Int),(w5:Int),(w6:Int),(w7:Int)]) hN
 rw[hm]
 have m0':sT (ss0:Int) 0 0=some ((s0:Int),(jj0:Int)):=m0
 simp only[dV,dX,hA,a40,a41,a42,a43,q80,q81,q82,q83,q84,q85,q86,q87,t80,t81,t82,t83,t84,t85,t86,t87,i01,i12,i23,i34,d04,d14,d24,d34,d44,x00,x01,x02,x03,x04,bQ,b8,cH,cB,bZ,b6,cW,bW,eQ,dL,fA,cO,g6,nY,fB,if_true,aY0,if_false,aYV,e0,e1,e2,e3,f0,f1,f2,f3,m0',m1,m2,m3,n0,n1,n2,n3]
theorem aVF (A b0 b1 b2 b3:Nat):A*vl b0 b1 b2 b3=A*b0+18446744073709551616*(A*b1)+340282366920938463463374607431768211456*(A*b2)+6277101735386680763835789423207666416102355444464034512896*(A*b3):=by
 unfold vl
 rw[aZO,aZO,aZO,aZA A 18446744073709551616 b1,aZA A 340282366920938463463374607431768211456 b2,aZA A 6277101735386680763835789423207666416102355444464034512896 b3]
theorem aXJ {N:Nat}(hN:70000≤N){a b:Nat}(ha:a<115792089237316195423570985008687907853269984665640564039457584007913129639936)(hb:b<115792089237316195423570985008687907853269984665640564039457584007913129639936):aGg N (U a) (U b)=some (U (a*b/115792089237316195423570985008687907853269984665640564039457584007913129639936),U (a*b%115792089237316195423570985008687907853269984665640564039457584007913129639936)):=by
 obtain⟨a0,a1,a2,a3,x0,x1,x2,x3,ea,va⟩:=aDx ha
 obtain⟨b0,b1,b2,b3,y0,y1,y2,y3,eb,vb⟩:=aDx hb
 have zW:(0:Nat)<18446744073709551616:=by omega
 obtain⟨s00,s01,s02,s03,c0,e0,f0,g00,g01,g02,g03,h0⟩:=aYG (N:=N) hN (w0:=0) (w1:=0) (w2:=0) (w3:=0) (w4':=0) (w5:=0) (w6:=0) (w7:=0) (a40 a0 a1 a2 a3) x0 y0 y1 y2 y3 zW zW zW zW
 obtain⟨s10,s11,s12,s13,c1,e1,f1,g10,g11,g12,g13,h1⟩:=aXW (N:=N) hN (w0:=s00) (w5:=0) (w6:=0) (w7:=0) (a41 a0 a1 a2 a3) x1 y0 y1 y2 y3 g01 g02 g03 h0
 obtain⟨s20,s21,s22,s23,c2,e2,f2,g20,g21,g22,g23,h2⟩:=aYr (N:=N) hN (w0:=s00) (w1:=s10) (w6:=0) (w7:=0) (a42 a0 a1 a2 a3) x2 y0 y1 y2 y3 g11 g12 g13 h1
 obtain⟨s30,s31,s32,s33,c3,e3,f3,g30,g31,g32,g33,h3⟩:=aYi (N:=N) hN (w0:=s00) (w1:=s10) (w2:=s20) (w7:=0) (a43 a0 a1 a2 a3) x3 y0 y1 y2 y3 g21 g22 g23 h2
 rw[←aVF]at f0 f1 f2 f3
 rw[←vb]at f0 f1 f2 f3
 have hab:a*b=a0*b+18446744073709551616*(a1*b)+340282366920938463463374607431768211456*(a2*b)+6277101735386680763835789423207666416102355444464034512896*(a3*b):=by
  rw[va];unfold vl
  rw[aZz,aZz,aZz,aZw,aZw,aZw]
 have k1:=aMY g00 g10 g20 g30
 have hsum:a*b=vl s00 s10 s20 s30+115792089237316195423570985008687907853269984665640564039457584007913129639936*vl s31 s32 s33 c3:=by
  rw[hab]
  unfold vl at *
  omega
 rw[ea,eb,show a*b/115792089237316195423570985008687907853269984665640564039457584007913129639936=vl s31 s32 s33 c3 by omega,show a*b%115792089237316195423570985008687907853269984665640564039457584007913129639936=vl s00 s10 s20 s30 by omega,←aE1 g00 g10 g20 g30,←aE1 g31 g32 g33 h3]
 obtain⟨m,hm⟩:=sS (fun q=>vT N (w4 a0 a1 a2 a3) (w4 b0 b1 b2 b3) q 0 (aYZ 8 0)) hN
 unfold aGg
 rw[hm]
 have e0':dV N (w4 a0 a1 a2 a3) (w4 b0 b1 b2 b3) 0 N 0 0 [0,0,0,0,0,0,0,0]=some ((c0:Int),[(s00:Int),(s01:Int),(s02:Int),(s03:Int),0,0,0,0]):=e0
 have e1':dV N (w4 a0 a1 a2 a3) (w4 b0 b1 b2 b3) 1 N 0 0 [(s00:Int),(s01:Int),(s02:Int),(s03:Int),(c0:Int),0,0,0]=some ((c1:Int),[(s00:Int),(s10:Int),(s11:Int),(s12:Int),(s13:Int),0,0,0]):=e1
 have e2':dV N (w4 a0 a1 a2 a3) (w4 b0 b1 b2 b3) 2 N 0 0 [(s00:Int),(s10:Int),(s11:Int),(s12:Int),(s13:Int),(c1:Int),0,0]=some ((c2:Int),[(s00:Int),(s10:Int),(s20:Int),(s21:Int),(s22:Int),(s23:Int),0,0]):=e2
 have e3':dV N (w4 a0 a1 a2 a3) (w4 b0 b1 b2 b3) 3 N 0 0 [(s00:Int),(s10:Int),(s20:Int),(s21:Int),(s22:Int),(s23:Int),(c2:Int),0]=some ((c3:Int),[(s00:Int),(s10:Int),(s20:Int),(s30:Int),(s31:Int),(s32:Int),(s33:Int),0]):=e3
 simp only[vT,aEM,aEN,show aYZ 8 (0:Int)=[0,0,0,0,0,0,0,0]from rfl,e0',e1',e2',e3',q84,q85,q86,q87,t84,t85,t86,t87,i01,i12,i23,i34,d04,d14,d24,d34,d44,x04,bZ,dL,fB,if_true,aY0,if_false,aYV]
 rfl
theorem aJC :(2:Nat)^256=115792089237316195423570985008687907853269984665640564039457584007913129639936:=by decide +kernel
theorem aUe (a b:Nat):decide ((if a<b then(-1:Int)else if b<a then 1 else 0)≤0)=decide (a≤b):=by
 by_cases h:a<b
 ·rw[if_pos h,decide_eq_true (show a≤b by omega)];rfl
 rw[if_neg h]
 by_cases h2:b<a
 ·rw[if_pos h2,decide_eq_false (show¬a≤b by omega)];rfl
 rw[if_neg h2,decide_eq_true (show a≤b by omega)];rfl
end Go.Proofs.YtgfdllellpbmoaaGreatDoor
set_option maxRecDepth 20000
namespace Go.Proofs.YtgfdllellpbmoaaGreatDoor
open Go Go.Vm
theorem aRy (z:Int):aYW.wrap (0+aYW.wrap z)=aYW.wrap z:=by simp only[IntKind.wrap_i64];omega
theorem aVG {x k t:Nat}(h:x/2^k<2^t):x<2^(k+t):=by
 rw[aZl,aZS]
 exact(aZm (aZn (by omega))).1 h
theorem aS0 (a b:Nat):decide ((a:Int)≤(b:Int))=decide (a≤b):=by
 by_cases h:a≤b
 ·rw[decide_eq_true h,decide_eq_true (by omega)]
 rw[decide_eq_false h,decide_eq_false (by omega)]
theorem aXp {e:Nat}(he:e<115792089237316195423570985008687907853269984665640564039457584007913129639936){j:Nat}(hj:j<256): ∃x y:Nat,bK 4 (U e) ((j/64:Nat):Int)=some (x:Int)∧shr .u64 (x:Int) ((j%64:Nat):Int)=some (y:Int)∧(bits .and .u64 (y:Int) 1 == 1)=decide (e/2^j%2=1):=by
 have hx:bK 4 (U e) ((j/64:Nat):Int)=some ((e/2^(64*(j/64))%18446744073709551616:Nat):Int):=by
  have h4:j/64<4:=by omega
  unfold U
  generalize j/64=k at *
  match k,h4 with
  |0,_=>rw[show 2^(64*0)=1 from rfl,Nat.div_one];rfl
  |1,_=>rfl
  |2,_=>rfl
  |3,_=>rfl
 refine⟨_,_,hx,pT _ _ (show e/2^(64*(j/64))%18446744073709551616<2^64 by omega), ?_⟩
 have hlt:e/2^(64*(j/64))%18446744073709551616/2^(j%64)<2^64:=aY5 (aY2 _ _) (show e/2^(64*(j/64))%18446744073709551616<2^64 by omega)
 rw[show(1:Int)=((1:Nat):Int)from rfl,aCb (k:= .u64) rfl _ 1 hlt (by decide),Nat.and_one_is_mod]
 have key:e/2^(64*(j/64))%18446744073709551616/2^(j%64)%2=e/2^j%2:=by
  have h1:(e/2^(64*(j/64))%2^64).testBit (j%64)=(e/2^(64*(j/64))).testBit (j%64):=by
   rw[Nat.testBit_mod_two_pow,decide_eq_true (aZv _ (by omega)),aY6]
  rw[Nat.testBit_div_two_pow,show j%64+64*(j/64)=j by omega]at h1
  rw[aZd,aZd,decide_eq_decide]at h1
  have h2:e/2^(64*(j/64))%2^64/2^(j%64)%2=e/2^j%2:=by
   generalize e/2^(64*(j/64))%2^64/2^(j%64)=u at *
   generalize e/2^j=w at *
   omega
  exact h2
 rw[key]
 generalize e/2^j%2=u
 by_cases h:u=1
 ·subst h;rfl
 rw[decide_eq_false h];simp;omega
theorem aRA {k:Nat}(h:k≤1):((k:Int) == 1)=((k:Int) != 0):=by
 rcases(by omega:k=0∨k=1)with rfl|rfl<;>rfl
theorem aRa (N:Nat)(a b:List Int): ∀(m:Nat)(c x:Int)(l:List Int),tT N a b m c x l=pO N a b m c x l
 |0,_,_,_=>rfl
 |m+1,c,x,l=>by simp only[tT,pO,aRa N a b m]
theorem aRJ (N:Nat)(a b:List Int): ∀(m:Nat)(c x:Int)(l:List Int),tP N a b m c x l=pK N a b m c x l
 |0,_,_,_=>rfl
 |m+1,c,x,l=>by simp only[tP,pK,aRJ N a b m]
theorem aRS (N:Nat)(a b:List Int): ∀(m:Nat)(x:Int),uE N a b m x=pM N a b m x
 |0,_=>rfl
 |m+1,x=>by simp only[uE,pM,aRS N a b m]
theorem aLh (N:Nat)(a b:List Int):iJ N a b=aAL N a b:=by
 unfold iJ aAL
 rw[aRS]
 rfl
theorem aUP {N:Nat}(hN:70000≤N){a0 a1 a2 a3 b0 b1 b2 b3:Nat}(ha0:a0<18446744073709551616)(ha1:a1<18446744073709551616)(ha2:a2<18446744073709551616)(ha3:a3<18446744073709551616)(hb0:b0<18446744073709551616)(hb1:b1<18446744073709551616)(hb2:b2<18446744073709551616)(hb3:b3<18446744073709551616):
  xP N (w4 a0 a1 a2 a3) (w4 b0 b1 b2 b3)=aEs N (w4 a0 a1 a2 a3) (w4 b0 b1 b2 b3):=by
 obtain⟨s0,k0,e0,f0,g0,l0⟩:=sJ ha0 hb0 (aZk 1)
 obtain⟨s1,k1,e1,f1,g1,l1⟩:=sJ ha1 hb1 l0
 obtain⟨s2,k2,e2,f2,g2,l2⟩:=sJ ha2 hb2 l1
 obtain⟨s3,k3,e3,f3,g3,l3⟩:=sJ ha3 hb3 l2
 obtain⟨m,hm⟩:=sS (fun q=>pO N (w4 a0 a1 a2 a3) (w4 b0 b1 b2 b3) q 0 0 (aYZ 4 0)) hN
 unfold xP aEs
 rw[aRa,hm]
 have e0':sT (a0:Int) (b0:Int) 0=some ((s0:Int),(k0:Int)):=e0
 simp only[pO,dX,a40,a41,a42,a43,q40,q41,q42,q43,t40,t41,t42,t43,r40,i01,i12,i23,i34,d04,d14,d24,d34,d44,if_true,aY0,if_false,aYV,e0',e1,e2,e3,aEI,aCa,aRA l3]
theorem aRu {N:Nat}(hN:70000≤N){a b:Nat}(ha:a<115792089237316195423570985008687907853269984665640564039457584007913129639936)(hb:b<115792089237316195423570985008687907853269984665640564039457584007913129639936):xP N (U a) (U b)=some (U ((a+b)%115792089237316195423570985008687907853269984665640564039457584007913129639936),decide (115792089237316195423570985008687907853269984665640564039457584007913129639936≤a+b)):=by
 obtain⟨a0,a1,a2,a3,x0,x1,x2,x3,ea,va⟩:=aDx ha
 obtain⟨b0,b1,b2,b3,y0,y1,y2,y3,eb,vb⟩:=aDx hb
 rw[←aXm hN ha hb,ea,eb]
 exact aUP hN x0 x1 x2 x3 y0 y1 y2 y3
theorem aVs {N:Nat}(hN:70000≤N){a0 a1 a2 a3 b0 b1 b2 b3:Nat}(ha0:a0<18446744073709551616)(ha1:a1<18446744073709551616)(ha2:a2<18446744073709551616)(ha3:a3<18446744073709551616)(hb0:b0<18446744073709551616)(hb1:b1<18446744073709551616)(hb2:b2<18446744073709551616)(hb3:b3<18446744073709551616):
  aAT N (w4 a0 a1 a2 a3) (w4 b0 b1 b2 b3)=aD6 N (w4 a0 a1 a2 a3) (w4 b0 b1 b2 b3):=by
 obtain⟨s0,k0,e0,f0,g0,l0⟩:=yM ha0 hb0 (aZk 1)
 obtain⟨s1,k1,e1,f1,g1,l1⟩:=yM ha1 hb1 l0
 obtain⟨s2,k2,e2,f2,g2,l2⟩:=yM ha2 hb2 l1
 obtain⟨s3,k3,e3,f3,g3,l3⟩:=yM ha3 hb3 l2
 obtain⟨m,hm⟩:=sS (fun q=>pK N (w4 a0 a1 a2 a3) (w4 b0 b1 b2 b3) q 0 0 (aYZ 4 0)) hN
 unfold aAT aD6
 rw[aRJ,hm]
 have e0':aFQ (a0:Int) (b0:Int) 0=some ((s0:Int),(k0:Int)):=e0
 simp only[pK,sG,a40,a41,a42,a43,q40,q41,q42,q43,t40,t41,t42,t43,r40,i01,i12,i23,i34,d04,d14,d24,d34,d44,if_true,aY0,if_false,aYV,e0',e1,e2,e3,aEQ,aBS,aRA l3]
theorem aV5 {N:Nat}(hN:70000≤N){a b:Nat}(ha:a<115792089237316195423570985008687907853269984665640564039457584007913129639936)(hb:b<115792089237316195423570985008687907853269984665640564039457584007913129639936):aAT N (U a) (U b)=some (U ((a+115792089237316195423570985008687907853269984665640564039457584007913129639936-b)%115792089237316195423570985008687907853269984665640564039457584007913129639936),decide (a<b)):=by
 obtain⟨a0,a1,a2,a3,x0,x1,x2,x3,ea,va⟩:=aDx ha
 obtain⟨b0,b1,b2,b3,y0,y1,y2,y3,eb,vb⟩:=aDx hb
 rw[←aXu hN ha hb,ea,eb]
 exact aVs hN x0 x1 x2 x3 y0 y1 y2 y3
theorem aJg {N e:Nat}(he:e<115792089237316195423570985008687907853269984665640564039457584007913129639936){j:Nat}(hj:j<256):r7 N (U e) (j:Int)=some (decide (e/2^j%2=1)):=by
 obtain⟨x,y,h1,h2,h3⟩:=aXp he hj
 have hd:aZx (j:Int) 64=((j/64:Nat):Int):=iG j 64
 have hm:aZc (j:Int) 64=((j%64:Nat):Int):=gP j 64
 unfold r7
 rw[hd,hm,cL (by omega) (by omega),h1]
 simp only[aYV,h2,h3]
theorem aFg {N n:Nat}(hn:n<115792089237316195423570985008687907853269984665640564039457584007913129639936):pH N (U n)=some (decide (n=0)):=by
 unfold pH
 rw[fW]
 simp only[aYV]
 rw[←aN0,aQA hn (by omega)]
def IsLen (e n:Nat):Prop:=e<2^n∧(0<n→2^(n-1)≤e)
theorem IsLen.uniq {e n m:Nat}(h:IsLen e n)(k:IsLen e m):n=m:=by
 obtain⟨h1,h2⟩:=h
 obtain⟨k1,k2⟩:=k
 rcases aZZ n m with hl|hl|hl
 ·have:=k2 (by omega)
  have h3:=aY3 (show 0<2 by omega) (show n≤m-1 by omega)
  omega
 ·exact hl
 have:=h2 (by omega)
 have h3:=aY3 (show 0<2 by omega) (show m≤n-1 by omega)
 omega
theorem aR9 :((List.range 256).all fun y=>match iP 0 (y:Int) 0 with|some v=>decide (0≤v∧v≤8∧y<2^v.toNat∧(v=0∨2^(v.toNat-1)≤y))|none=>false)=true:=by decide +kernel
theorem aUj {N x:Nat}(hx:x<256){n:Nat}(hn:n≤1000): ∃t:Nat,t≤8∧IsLen x t∧iP N (x:Int) (n:Int)=some ((n+t:Nat):Int):=by
 have h:=aZ4.1 aR9 x (by simpa using hx)
 unfold iP at h⊢
 generalize hs:aQo _ (aZU.wrap (x:Int))=s at h⊢
 cases s with
 |none=>simp at h
 |some z=>
  simp only[aYV,aRy,decide_eq_true_eq]at h⊢
  generalize aYW.wrap z=w at *
  obtain⟨h1,h2,h3,h4⟩:=h
  clear hs
  refine⟨w.toNat,by clear h3 h4;omega,⟨h3,fun hp=>h4.resolve_left (by clear h3 h4;omega)⟩, ?_⟩
  clear h3 h4
  rw[cL (by omega) (by omega)]
  congr 1;omega
theorem IsLen.shift {x k t:Nat}(h:IsLen (x/2^k) t)(hp:0<x/2^k):IsLen x (k+t):=by
 obtain⟨h1,h2⟩:=h
 refine⟨aVG h1,fun _=> ?_⟩
 have ht:0<t:=by
  rcases aY7 t with h0|h0
  ·subst h0;simp only[aZo]at h1;omega
  exact h0
 have h3:=h2 ht
 rw[show k+t-1=(t-1)+k by omega,aZl]
 exact(Nat.le_div_iff_mul_le (aZn (by omega))).1 h3
theorem aSj {N x:Nat}(hx:x<18446744073709551616): ∃n:Nat,n≤64∧IsLen x n∧rN N (x:Int)=some (n:Int):=by
 have j2: ∀(x n:Nat),x<65536→n≤100→ ∃t:Nat,t≤16∧IsLen x t∧kK N (x:Int) (n:Int)=some ((n+t:Nat):Int):=by
  intro x n hx hn
  unfold kK
  rw[show(256:Int)=((256:Nat):Int)from rfl,aS0]
  by_cases h:256≤x
  ·rw[decide_eq_true h,if_pos rfl,show shr .u64 (x:Int) 8=some ((x/256:Nat):Int)from pT x 8 (aZh hx (by decide)),aYV,cL (a:=(n:Int)+8) (by omega) (by omega),show(n:Int)+8=((n+8:Nat):Int) by omega]
   obtain⟨t,h1,h2,h3⟩:=aUj (N:=N) (show x/256<256 by omega) (show n+8≤1000 by omega)
   exact⟨8+t,aZG h1 8,IsLen.shift (k:=8) h2 (show 0<x/256 by omega),by rw[h3,Nat.add_assoc]⟩
  rw[decide_eq_false h]
  obtain⟨t,h1,h2,h3⟩:=aUj (N:=N) (show x<256 by omega) (show n≤1000 by omega)
  exact⟨t,aZf h1 (by decide),h2,h3⟩
 have j1: ∀(x n:Nat),x<4294967296→n≤50→ ∃t:Nat,t≤32∧IsLen x t∧kR N (x:Int) (n:Int)=some ((n+t:Nat):Int):=by
  intro x n hx hn
  unfold kR
  rw[show(65536:Int)=((65536:Nat):Int)from rfl,aS0]
  by_cases h:65536≤x
  ·rw[decide_eq_true h,if_pos rfl,show shr .u64 (x:Int) 16=some ((x/65536:Nat):Int)from pT x 16 (aZh hx (by decide)),aYV,cL (a:=(n:Int)+16) (by omega) (by omega),show(n:Int)+16=((n+16:Nat):Int) by omega]
   obtain⟨t,h1,h2,h3⟩:=j2 (x/65536) (n+16) (by omega) (by omega)
   exact⟨16+t,aZG h1 16,IsLen.shift (k:=16) h2 (show 0<x/65536 by omega),by rw[h3,Nat.add_assoc]⟩
  rw[decide_eq_false h]
  obtain⟨t,h1,h2,h3⟩:=j2 x n (by omega) (by omega)
  exact⟨t,aZf h1 (by decide),h2,h3⟩
 unfold rN
 rw[show(4294967296:Int)=((4294967296:Nat):Int)from rfl,aS0]
 by_cases h:4294967296≤x
 ·rw[decide_eq_true h,if_pos rfl,show shr .u64 (x:Int) 32=some ((x/4294967296:Nat):Int)from pT x 32 hx,aYV]
  obtain⟨t,h1,h2,h3⟩:=j1 (x/4294967296) 32 (by omega) (by omega)
  exact⟨32+t,aZG h1 32,IsLen.shift (k:=32) h2 (show 0<x/4294967296 by omega),h3⟩
 rw[decide_eq_false h]
 obtain⟨t,h1,h2,h3⟩:=j1 x 0 (by omega) (by omega)
 exact⟨t,aZf h1 (by decide),h2,by rw[Nat.zero_add]at h3;exact h3⟩
theorem aJV {x:Nat}(hx:x<18446744073709551616):U x=w4 x 0 0 0:=by
 rw[aE1 hx (by decide) (by decide) (by decide)]
 unfold vl
 simp
theorem aWa {N:Nat}(hN:70000≤N){x:Nat}(hx:x<18446744073709551616): ∃n:Nat,n≤64∧IsLen x n∧aEo N (U x)=some (n:Int):=by
 obtain⟨n,l,p,f⟩:=aSj (N:=N) hx
 rw[aJV hx]
 obtain⟨m,hm⟩:=sS (fun q=>vQ N (w4 x 0 0 0) q 3) hN
 unfold aEo
 rw[hm]
 have hz:(((0:Nat):Int) != 0)=false:=rfl
 simp only[vQ,a40,a41,a42,a43,i32,i21,i10,i0m,show decide ((0:Int)≤3)=true from rfl,show decide ((0:Int)≤2)=true from rfl,show decide ((0:Int)≤1)=true from rfl,show decide ((0:Int)≤0)=true from rfl,show decide ((0:Int)≤ -1)=false from rfl,if_true,aY0,if_false,aYV,aCU,f,hz]
 by_cases h:x=0
 ·subst h
  obtain rfl:n=0:=IsLen.uniq p ⟨by decide,fun h=>absurd h (by omega)⟩
  exact⟨0,by omega,p,rfl⟩
 have hx0:((x:Int) != 0)=true:=by simp;omega
 rw[hx0]
 refine⟨n,l,p, ?_⟩
 simp only[if_true,aYV]
 rw[cL (a:=64*(0:Int)) (by omega) (by omega),cL (by omega) (by omega)]
 congr 1;omega
theorem aJE {N e:Nat}(he:e<115792089237316195423570985008687907853269984665640564039457584007913129639936): ∀(f k:Nat),k<f→k≤256→e<2^k→ ∃n:Nat,n≤256∧IsLen e n∧((t6 N (U e) f ((k:Int)-1)).bind fun q=>match q with | .ret v=>some v | .brk _=>aBY N)=some (n:Int)
 |f+1,0,_,_,h=>⟨0,by omega,⟨h,fun h=>absurd h (by omega)⟩,rfl⟩
 |f+1,k+1,hf,hk,h=>by
  unfold t6
  rw[show(((k+1:Nat):Int)-1)=(k:Int) by omega,if_pos (decide_eq_true (by omega)),fW]
  simp only[aYV]
  rw[aJg he (by omega)]
  simp only[aYV]
  by_cases hb:e/2^k%2=1
  ·rw[if_pos (decide_eq_true hb)]
   refine⟨k+1,by omega,⟨h,fun _=> ?_⟩, ?_⟩
   ·rw[Nat.add_sub_cancel]
    rcases aZJ e (2^k)with hl|hl
    ·rw[aZ5 hl]at hb;omega
    exact hl
   simp only[aYV]
   rw[cL (by omega) (by omega)]
   rfl
  rw[if_neg (by simpa using hb),cL (by omega) (by omega)]
  refine aJE he f k (by omega) (by omega) ?_
  have h1:e/2^k<2:=by
   rw[aZm (aZn (by omega))]
   rw[aZK]at h
   omega
  have h2:e/2^k=0:=by revert h1 hb;generalize e/2^k=q;intro h1 hb;omega
  exact(Nat.div_eq_zero_iff.1 h2).resolve_left (by have:=aZn (n:=k) (show 0<2 by omega);omega)
theorem aPo {N e:Nat}(hN:70000≤N)(he:e<115792089237316195423570985008687907853269984665640564039457584007913129639936): ∃n:Nat,n≤256∧IsLen e n∧aC0 N (U e)=some (n:Int):=by
 obtain⟨n,h1,h2,h3⟩:=aJE (N:=N) he N 256 (by omega) (by omega) (by rw[aJC];exact he)
 exact⟨n,h1,h2,h3⟩
theorem aLV {N:Nat}(hN:70000≤N): ∀(n m a:Nat),n<m→n≤1000→a<115792089237316195423570985008687907853269984665640564039457584007913129639936→qK N m (n:Int) (U a)=some (U (a*2^n%115792089237316195423570985008687907853269984665640564039457584007913129639936))
 |0,m+1,a,_,_,ha=>by
  unfold qK
  rw[if_neg (by simp),aZo,Nat.mul_one,aZt ha]
 |n+1,m+1,a,hm,hn,ha=>by
  unfold qK
  rw[if_pos (decide_eq_true (by omega)),fW]
  simp only[aYV]
  rw[aRu hN ha ha]
  simp only[aYV,fW]
  rw[cL (by omega) (by omega),show((n+1:Nat):Int)-1=(n:Int) by omega,aLV hN n m _ (by omega) (by omega) (aZv _ (by decide)),Nat.mod_mul_mod]
  congr 3
  rw[aZK]
  generalize 2^n=p
  rw[aZz,aZS p 2,←aZw,Nat.mul_two,aZz]
theorem aN4 {N:Nat}(hN:70000≤N){a n:Nat}(hn:n<256)(ha:a<115792089237316195423570985008687907853269984665640564039457584007913129639936):xK N (U a) (n:Int)=some (U (a*2^n%115792089237316195423570985008687907853269984665640564039457584007913129639936)):=by
 unfold xK
 rw[if_neg (by simp;omega),aLV hN n N a (by omega) (by omega) ha]
 simp only[aYV,aBX,fW]
theorem aUM {x r:Nat}(hr:r<64)(hx:x<18446744073709551616):x*2^r=x*2^r%18446744073709551616+18446744073709551616*(x/2^(64-r)):=by
 have h1:x*2^r/18446744073709551616=x/2^(64-r):=by
  have e:18446744073709551616=2^(64-r)*2^r:=by rw[←aZl,show 64-r+r=64 by omega]
  rw[e]
  exact Nat.mul_div_mul_right _ _ (aZn (by omega))
 have:=Nat.div_add_mod (x*2^r) 18446744073709551616
 rw[h1]at this
 omega
theorem or0 {y:Nat}(hy:y<18446744073709551616):bits .or .u64 0 (y:Int)=(y:Int):=by
 rw[show(0:Int)=((0:Nat):Int)from rfl,aCK (k:= .u64) rfl 0 y (by decide) hy,Nat.zero_or]
theorem aPR (r:Nat):shl .u64 0 (r:Int)=some 0:=by
 have:=aCt (k:= .u64) rfl 0 r
 rw[aZL,aZ2]at this
 exact this
theorem aP4 (r:Nat):shr .u64 0 (r:Int)=some 0:=by
 have:=pT (k:= .u64) 0 r (by decide)
 rw[Nat.zero_div]at this
 exact this
theorem s00 :aYW.wrap (0-0)=0:=by decide +kernel
theorem s10 :aYW.wrap (1-0)=1:=by decide +kernel
theorem s20 :aYW.wrap (2-0)=2:=by decide +kernel
theorem s30 :aYW.wrap (3-0)=3:=by decide +kernel
theorem s11 :aYW.wrap (1-1)=0:=by decide +kernel
theorem s22 :aYW.wrap (2-2)=0:=by decide +kernel
theorem s33 :aYW.wrap (3-3)=0:=by decide +kernel
theorem s32 :aYW.wrap (3-2)=1:=by decide +kernel
theorem l00 :decide ((0:Int)<0)=false:=rfl
theorem l01 :decide ((0:Int)<1)=true:=rfl
theorem l02 :decide ((0:Int)<2)=true:=rfl
theorem l03 :decide ((0:Int)<3)=true:=rfl
theorem l11 :decide ((1:Int)<1)=false:=rfl
theorem l12 :decide ((1:Int)<2)=true:=rfl
theorem l13 :decide ((1:Int)<3)=true:=rfl
theorem l22 :decide ((2:Int)<2)=false:=rfl
theorem l23 :decide ((2:Int)<3)=true:=rfl
theorem l33 :decide ((3:Int)<3)=false:=rfl
theorem aCW {x:Nat}(hx:x<18446744073709551616):U x=[(x:Int),0,0,0]:=by rw[aJV hx];rfl
section
variable {N:Nat}(hN:70000≤N){x r:Nat}(hr:r<64)(hx:x<18446744073709551616)
include hN hr hx
theorem aVM :mX N (U x) ((64*0+r:Nat):Int)=some (w4 (x*2^r%18446744073709551616) (x/2^(64-r)) 0 0):=by
 have hd:aYW.wrap (aZx ((64*0+r:Nat):Int) 64)=0:=by rw[show(64:Int)=((64:Nat):Int)from rfl,iG,show(64*0+r)/64=0 by omega];decide +kernel
 have hm:aZc ((64*0+r:Nat):Int) 64=(r:Int):=by rw[show(64:Int)=((64:Nat):Int)from rfl,gP,show(64*0+r)%64=r by omega]
 have hk:aYW.wrap (64-(r:Int))=((64-r:Nat):Int):=by rw[cL (by omega) (by omega)];omega
 have e1:shl .u64 (x:Int) (r:Int)=some ((x*2^r%18446744073709551616:Nat):Int):=aCt rfl x r
 have e2:shr .u64 (x:Int) ((64-r:Nat):Int)=some ((x/2^(64-r):Nat):Int):=pT x (64-r) hx
 have e3:bits .or .u64 0 ((x/2^(64-r):Nat):Int)=((x/2^(64-r):Nat):Int):=or0 (aY5 (aY2 _ _) hx)
 have e4:bits .or .u64 0 0=0:=by decide +kernel
 obtain⟨m,hm5⟩:=sS (fun q=>gH N [(x:Int),0,0,0] ((64*0+r:Nat):Int) q 0 (aYZ 4 0)) hN
 rw[aCW hx]
 unfold mX
 rw[if_neg (by simp),if_neg (by simp;omega),hd,hm5]
 simp only[gH,pL,hd,hm,hk,s00,s10,s20,s30,s11,i10,i21,i32,i01,i12,i23,i34,l00,l01,l02,l03,d04,d14,d24,d34,d44,q40,q41,q42,q43,t40,t41,t42,t43,r40,e1,e2,e3,e4,aPR,aP4,if_true,aY0,if_false,aYV]
 rfl
theorem aWT :mX N (U x) ((64*1+r:Nat):Int)=some (w4 0 (x*2^r%18446744073709551616) (x/2^(64-r)) 0):=by
 have hd:aYW.wrap (aZx ((64*1+r:Nat):Int) 64)=1:=by rw[show(64:Int)=((64:Nat):Int)from rfl,iG,show(64*1+r)/64=1 by omega];decide +kernel
 have hm:aZc ((64*1+r:Nat):Int) 64=(r:Int):=by rw[show(64:Int)=((64:Nat):Int)from rfl,gP,show(64*1+r)%64=r by omega]
 have hk:aYW.wrap (64-(r:Int))=((64-r:Nat):Int):=by rw[cL (by omega) (by omega)];omega
 have e1:shl .u64 (x:Int) (r:Int)=some ((x*2^r%18446744073709551616:Nat):Int):=aCt rfl x r
 have e2:shr .u64 (x:Int) ((64-r:Nat):Int)=some ((x/2^(64-r):Nat):Int):=pT x (64-r) hx
 have e3:bits .or .u64 0 ((x/2^(64-r):Nat):Int)=((x/2^(64-r):Nat):Int):=or0 (aY5 (aY2 _ _) hx)
 have e4:bits .or .u64 0 0=0:=by decide +kernel
 obtain⟨m,hm5⟩:=sS (fun q=>gH N [(x:Int),0,0,0] ((64*1+r:Nat):Int) q 1 (aYZ 4 0)) hN
 rw[aCW hx]
 unfold mX
 rw[if_neg (by simp;omega),if_neg (by simp;omega),hd,hm5]
 simp only[gH,pL,hd,hm,hk,s11,i21,i32,i10,i12,i23,i34,l11,l12,l13,d14,d24,d34,d44,q40,q41,q42,q43,t40,t41,t42,t43,r40,e1,e2,e3,e4,aPR,aP4,if_true,aY0,if_false,aYV]
 rfl
theorem aWF :mX N (U x) ((64*2+r:Nat):Int)=some (w4 0 0 (x*2^r%18446744073709551616) (x/2^(64-r))):=by
 have hd:aYW.wrap (aZx ((64*2+r:Nat):Int) 64)=2:=by rw[show(64:Int)=((64:Nat):Int)from rfl,iG,show(64*2+r)/64=2 by omega];decide +kernel
 have hm:aZc ((64*2+r:Nat):Int) 64=(r:Int):=by rw[show(64:Int)=((64:Nat):Int)from rfl,gP,show(64*2+r)%64=r by omega]
 have hk:aYW.wrap (64-(r:Int))=((64-r:Nat):Int):=by rw[cL (by omega) (by omega)];omega
 have e1:shl .u64 (x:Int) (r:Int)=some ((x*2^r%18446744073709551616:Nat):Int):=aCt rfl x r
 have e2:shr .u64 (x:Int) ((64-r:Nat):Int)=some ((x/2^(64-r):Nat):Int):=pT x (64-r) hx
 have e3:bits .or .u64 0 ((x/2^(64-r):Nat):Int)=((x/2^(64-r):Nat):Int):=or0 (aY5 (aY2 _ _) hx)
 have e4:bits .or .u64 0 0=0:=by decide +kernel
 obtain⟨m,hm5⟩:=sS (fun q=>gH N [(x:Int),0,0,0] ((64*2+r:Nat):Int) q 2 (aYZ 4 0)) hN
 rw[aCW hx]
 unfold mX
 rw[if_neg (by simp;omega),if_neg (by simp;omega),hd,hm5]
 simp only[gH,pL,hd,hm,hk,s22,s32,i10,i23,i34,l22,l23,d24,d34,d44,q40,q41,q42,q43,t40,t41,t42,t43,r40,e1,e2,e3,e4,aPR,aP4,if_true,aY0,if_false,aYV]
 rfl
theorem aW3 :mX N (U x) ((64*3+r:Nat):Int)=some (w4 0 0 0 (x*2^r%18446744073709551616)):=by
 have hd:aYW.wrap (aZx ((64*3+r:Nat):Int) 64)=3:=by rw[show(64:Int)=((64:Nat):Int)from rfl,iG,show(64*3+r)/64=3 by omega];decide +kernel
 have hm:aZc ((64*3+r:Nat):Int) 64=(r:Int):=by rw[show(64:Int)=((64:Nat):Int)from rfl,gP,show(64*3+r)%64=r by omega]
 have e1:shl .u64 (x:Int) (r:Int)=some ((x*2^r%18446744073709551616:Nat):Int):=aCt rfl x r
 obtain⟨m,hm5⟩:=sS (fun q=>gH N [(x:Int),0,0,0] ((64*3+r:Nat):Int) q 3 (aYZ 4 0)) hN
 rw[aCW hx]
 unfold mX
 rw[if_neg (by simp;omega),if_neg (by simp;omega),hd,hm5]
 simp only[gH,pL,hd,hm,s33,i34,l33,d34,d44,q40,q41,q42,q43,t40,t41,t42,t43,r40,e1,if_true,aY0,if_false,aYV]
 rfl
end
set_option maxHeartbeats 2000000 in
theorem aRp {N:Nat}(hN:70000≤N){x n:Nat}(hn:n<256)(hx:x<18446744073709551616):mX N (U x) (n:Int)=some (U (x*2^n%115792089237316195423570985008687907853269984665640564039457584007913129639936)):=by
 obtain⟨r,hr,s,hs,rfl⟩: ∃r,r<64∧ ∃s,s<4∧n=64*s+r:=⟨n%64,by omega,n/64,by omega,by omega⟩
 have h2:=aUM hr hx
 have h3:x/2^(64-r)<18446744073709551616:=aY5 (aY2 _ _) hx
 have h4:x*2^r%18446744073709551616<18446744073709551616:=aZv _ (by decide)
 have h5:x*2^(64*s+r)=x*2^r*2^(64*s):=by rw[aZl,aZS (2^(64*s)),aZw]
 have hcases:s=0∨s=1∨s=2∨s=3:=by omega
 clear hs hn
 rcases hcases with rfl|rfl|rfl|rfl
 ·rw[aVM hN hr hx,aE1 h4 h3 (by decide) (by decide),h5]
  refine congrArg some (congrArg U ?_)
  clear h5 hx hr
  unfold vl
  generalize x*2^r=y at *; generalize x/2^(64-r)=h at *
  rw[show 2^(64*0)=1 from rfl];omega
 ·rw[aWT hN hr hx,aE1 (by decide) h4 h3 (by decide),h5]
  refine congrArg some (congrArg U ?_)
  clear h5 hx hr
  unfold vl
  generalize x*2^r=y at *; generalize x/2^(64-r)=h at *
  rw[show 2^(64*1)=18446744073709551616 from rfl];omega
 ·rw[aWF hN hr hx,aE1 (by decide) (by decide) h4 h3,h5]
  refine congrArg some (congrArg U ?_)
  clear h5 hx hr
  unfold vl
  generalize x*2^r=y at *; generalize x/2^(64-r)=h at *
  rw[show 2^(64*2)=340282366920938463463374607431768211456 from rfl];omega
 rw[aW3 hN hr hx,aE1 (by decide) (by decide) (by decide) h4,h5]
 refine congrArg some (congrArg U ?_)
 clear h5 hx hr
 unfold vl
 generalize x*2^r=y at *; generalize x/2^(64-r)=h at *
 rw[show 2^(64*3)=6277101735386680763835789423207666416102355444464034512896 from rfl];omega
theorem aWy {N:Nat}(hN:70000≤N){x n:Nat}(h0:0<n)(hn:n<64)(hx:x<18446744073709551616):aDX N (U x) (n:Int)=some (U (x/2^n)):=by
 have hd:aYW.wrap (aZx (n:Int) 64)=0:=by rw[show(64:Int)=((64:Nat):Int)from rfl,iG,show n/64=0 by omega];decide +kernel
 have hm:aZc (n:Int) 64=(n:Int):=by rw[show(64:Int)=((64:Nat):Int)from rfl,gP,show n%64=n by omega]
 have hk:aYW.wrap (64-(n:Int))=((64-n:Nat):Int):=by rw[cL (by omega) (by omega)];omega
 have e1:shr .u64 (x:Int) (n:Int)=some ((x/2^n:Nat):Int):=pT x n hx
 have hq:x/2^n<18446744073709551616:=aY5 (aY2 _ _) hx
 have e3:bits .or .u64 ((x/2^n:Nat):Int) 0=((x/2^n:Nat):Int):=by rw[show(0:Int)=((0:Nat):Int)from rfl,aCK (k:= .u64) rfl _ 0 hq (by decide),Nat.or_zero]
 have e4:bits .or .u64 0 0=0:=by decide +kernel
 have w40:aYW.wrap (4-0)=4:=by decide +kernel
 have a00:aYW.wrap (0+0)=0:=by decide +kernel
 have a10:aYW.wrap (1+0)=1:=by decide +kernel
 have a20:aYW.wrap (2+0)=2:=by decide +kernel
 have a30:aYW.wrap (3+0)=3:=by decide +kernel
 obtain⟨m,hm5⟩:=sS (fun q=>pN N [(x:Int),0,0,0] (n:Int) q 0 (aYZ 4 0)) hN
 rw[aCW hx,aCW hq]
 unfold aDX
 rw[if_neg (by simp),if_neg (by simp;omega),hm5]
 simp only[pN,aAe,aCS,hd,hm,hk,w40,a00,a10,a20,a30,i01,i12,i23,i34,l03,l13,l23,l33,d04,d14,d24,d34,d44,q40,q41,q42,q43,t40,t41,t42,t43,r40,e1,e3,e4,aPR,aP4,if_true,aY0,if_false,aYV]
 rfl
theorem aXD {v i:Nat}(hi:i<256)(hv:v<2^i): ∃w:Nat,bK 4 (U v) ((i/64:Nat):Int)=some (w:Int)∧(U v).set (i/64) (bits .or .u64 (w:Int) ((2^(i%64):Nat):Int))=U (v+2^i):=by
 obtain⟨c,hc,k,hk,rfl⟩: ∃c,c<64∧ ∃k,k<4∧i=64*k+c:=⟨i%64,by omega,i/64,by omega,by omega⟩
 rw[show(64*k+c)/64=k by omega,show(64*k+c)%64=c by omega]
 have hY:2^c≤9223372036854775808:=by
  have:=aY3 (show 0<2 by omega) (show c≤63 by omega)
  exact aZf this (by decide)
 have hpk:2^(64*k+c)=2^(64*k)*2^c:=aZl _ _ _
 rw[hpk]at hv⊢
 have key: ∀w:Nat,w<2^c→bits .or .u64 (w:Int) ((2^c:Nat):Int)=((w+2^c:Nat):Int):=fun w hw=>by
  rw[aCK (k:= .u64) rfl w (2^c) (show w<2^64 by omega) (show 2^c<2^64 by omega)]
  have:=Nat.two_pow_add_eq_or_of_lt hw 1
  rw[Nat.mul_one]at this
  rw[Nat.or_comm,←this,aZ3]
 match k,hk with
 |0,_=>
  rw[show 2^(64*0)=1 from rfl]at *
  refine⟨v%18446744073709551616,rfl, ?_⟩
  rw[key _ (by omega)]
  unfold U
  show w4 _ _ _ _=_
  congr 1
  all_goals (generalize 2^c=Y at *; omega)
 |1,_=>
  rw[show 2^(64*1)=18446744073709551616 from rfl]at *
  refine⟨v/18446744073709551616%18446744073709551616,rfl, ?_⟩
  rw[key _ (by omega)]
  unfold U
  show w4 _ _ _ _=_
  congr 1
  all_goals (generalize 2^c=Y at *; omega)
 |2,_=>
  rw[show 2^(64*2)=340282366920938463463374607431768211456 from rfl]at *
  refine⟨v/340282366920938463463374607431768211456%18446744073709551616,rfl, ?_⟩
  rw[key _ (by omega)]
  unfold U
  show w4 _ _ _ _=_
  congr 1
  all_goals (generalize 2^c=Y at *; omega)
 |3,_=>
  rw[show 2^(64*3)=6277101735386680763835789423207666416102355444464034512896 from rfl]at *
  refine⟨v/6277101735386680763835789423207666416102355444464034512896%18446744073709551616,rfl, ?_⟩
  rw[key _ (by omega)]
  unfold U
  show w4 _ _ _ _=_
  congr 1
  all_goals (generalize 2^c=Y at *; omega)
theorem aUN (q i:Nat):q%2^(i+1)=q%2^i+(if q/2^i%2=1 then 2^i else 0):=by
 have h:=Nat.mod_mul (a:=2^i) (b:=2) (x:=q)
 rw[aZK,h]
 have:q/2^i%2=0∨q/2^i%2=1:=by omega
 rcases this with h|h<;>rw[h]<;>simp
theorem aHj {N a n:Nat}(h0:0<n)(ha:a<115792089237316195423570985008687907853269984665640564039457584007913129639936): ∀(m i:Nat),256-n-i<m→i+n≤256→nV N (U a) (n:Int) m (i:Int) (U (a/2^n%2^i))=some (U (a/2^n%2^(256-n)))
 |m+1,i,hm,hi=>by
  unfold nV
  rw[cL (a:=(i:Int)+(n:Int)) (by omega) (by omega),show(i:Int)+(n:Int)=((i+n:Nat):Int) by omega]
  by_cases hl:i+n<256
  ·rw[if_pos (decide_eq_true (by omega)),fW]
   simp only[aYV]
   rw[aJg ha hl]
   simp only[aYV]
   have hb:a/2^(i+n)=a/2^n/2^i:=by rw[aZR,←aZl,aZ3 n i]
   have hs:=aUN (a/2^n) i
   rw[hb]
   have nx:aYW.wrap ((i:Int)+1)=((i+1:Nat):Int):=by rw[cL (by omega) (by omega)];omega
   by_cases hbit:a/2^n/2^i%2=1
   ·rw[if_pos (decide_eq_true hbit)]
    rw[if_pos hbit]at hs
    obtain⟨w,hw,hset⟩:=aXD (show i<256 by omega) (aZv (a/2^n) (aZn (n:=i) (show 0<2 by omega)))
    have hd:aYW.wrap (aZx (i:Int) 64)=((i/64:Nat):Int):=by rw[show(64:Int)=((64:Nat):Int)from rfl,iG,cL (by omega) (by omega)]
    have hmo:aZc (i:Int) 64=((i%64:Nat):Int):=by rw[show(64:Int)=((64:Nat):Int)from rfl,gP]
    have e1:shl .u64 1 ((i%64:Nat):Int)=some ((2^(i%64):Nat):Int):=by
     have:shl .u64 ((1:Nat):Int) ((i%64:Nat):Int)=some ((1*2^(i%64)%2^64:Nat):Int):=aCt (k:= .u64) rfl 1 (i%64)
     rw[Nat.one_mul,aZt (Nat.pow_lt_pow_right (by omega) (show i%64<64 by omega))]at this
     exact this
    rw[hd,hw,hmo,e1]
    simp only[aYV,tG,nx]
    rw[aZb,hset,←hs]
    exact aHj h0 ha m (i+1) (by omega) (by omega)
   rw[if_neg (by simpa using hbit)]
   rw[if_neg hbit]at hs
   have hs2:a/2^n%2^(i+1)=a/2^n%2^i:=hs
   simp only[tG,nx]
   rw[←hs2]
   exact aHj h0 ha m (i+1) (by omega) (by omega)
  rw[if_neg (by simp;omega),show 256-n=i by omega]
theorem aJt {N:Nat}(hN:70000≤N){a n:Nat}(h0:0<n)(hn:n<256)(ha:a<115792089237316195423570985008687907853269984665640564039457584007913129639936):mC N (U a) (n:Int)=some (U (a/2^n)):=by
 have L:=aHj (N:=N) h0 ha N 0 (by omega) (by omega)
 rw[show((0:Nat):Int)=0 from rfl]at L
 unfold mC
 rw[if_neg (by simp;omega),if_neg (by simp;omega),show aYZ 4 (0:Int)=U (a/2^n%2^0) by rw[aZo,Nat.mod_one];rfl,L]
 simp only[aYV,aBG,fW]
 rw[aZt]
 rw[aZm (aZn (by omega)),←aZl,show 256-n+n=256 by omega,aJC]
 exact ha
abbrev oS :Nat:=115792089237316195423570985008687907853269984665640564039457584007913129639936
noncomputable def pJ (b:Nat):Nat:=
 if 8388608≤b%16777216 then 0 else if b/16777216<3 then b%16777216/2^(8*(3-b/16777216))else if b%16777216*2^(8*(b/16777216-3))<oS then b%16777216*2^(8*(b/16777216-3))else 0
theorem aKR (b:Nat):pJ b<oS:=by
 unfold pJ
 split
 ·decide
 split
 ·have:=aY2 (b%16777216) (2^(8*(3-b/16777216)))
  generalize b%16777216/2^(8*(3-b/16777216))=q at *
  have h2:b%16777216<16777216:=aZv _ (by decide)
  unfold oS
  omega
 split
 ·assumption
 decide
theorem aTP {b:Nat}(hb:b<4294967296):bits .and .u32 (b:Int) 16777215=((b%16777216:Nat):Int):=by
 rw[show(16777215:Int)=((16777215:Nat):Int)from rfl,aCb (k:= .u32) rfl b 16777215 hb (by decide)]
 congr 1
 exact aZC b 24
theorem aU5 (b i:Nat):b &&& 2^i=if b.testBit i=true then 2^i else 0:=by
 apply Nat.eq_of_testBit_eq
 intro j
 rw[Nat.testBit_and,aZH]
 by_cases h:i=j
 ·subst h
  rw[decide_eq_true rfl,Bool.and_true]
  cases hb:b.testBit i
  ·rw[if_neg (by simp),aZ6]
  rw[if_pos rfl,aZH,decide_eq_true rfl]
 rw[decide_eq_false h,Bool.and_false]
 split
 ·rw[aZH,decide_eq_false h]
 rw[aZ6]
theorem aTS {b:Nat}(hb:b<4294967296):(bits .and .u32 (b:Int) 8388608 != 0)=decide (8388608≤b%16777216):=by
 have ht:b.testBit 23=decide (8388608≤b%16777216):=by
  rw[aZd]
  apply decide_eq_decide.2
  rw[show 2^23=8388608 from rfl]
  omega
 rw[show(8388608:Int)=((8388608:Nat):Int)from rfl,aCb (k:= .u32) rfl b 8388608 hb (by decide),show(8388608:Nat)=2^23 from rfl,aU5,ht]
 by_cases h:8388608≤b%16777216
 ·rw[decide_eq_true h,if_pos rfl];rfl
 rw[decide_eq_false h,if_neg (by simp)];rfl
theorem aOo {m L k:Nat}(h:IsLen m L)(hm:0<m):(256<L+k)= ¬(m*2^k<oS):=by
 obtain⟨h1,h2⟩:=h
 have hL:0<L:=by
  rcases aY7 L with h0|h0
  ·subst h0;simp only[aZo]at h1;omega
  exact h0
 have h3:=h2 hL
 apply propext
 constructor
 ·intro hh hlt
  have a1:2^(L-1)*2^k≤m*2^k:=aY9 _ h3
  rw[←aZl]at a1
  have a2:=aY3 (show 0<2 by omega) (show 256≤L-1+k by omega)
  rw[aJC]at a2
  unfold oS at hlt
  omega
 intro hh
 rcases aZJ 256 (L+k)with hl|hl
 ·exact hl
 exfalso
 apply hh
 have a1:m*2^k<2^L*2^k:=Nat.mul_lt_mul_of_pos_right h1 (aZn (by omega))
 rw[←aZl]at a1
 have a2:=aY3 (show 0<2 by omega) hl
 rw[aJC]at a2
 unfold oS
 omega
theorem aTv {t:Nat}(ht:t<oS):(if(U t == [0,0,0,0])=true then(some ([0,0,0,0],120):Option (List Int×Int))else some (U t,0))=some (U t,if t=0 then 120 else 0):=by
 rw[←aN0,aQA ht (by decide)]
 by_cases h:t=0
 ·subst h;rfl
 rw[if_neg (by simpa using h),if_neg h]
section
variable {N:Nat}(hN:70000≤N){b:Nat}(hb:b<4294967296)
include hN hb
theorem aSx :vJ N (b:Int)=some (U (pJ b),if pJ b=0 then 120 else 0):=by
 have hx:b/16777216<256:=by omega
 have hm0:b%16777216<16777216:=aZv _ (by decide)
 have hw:aZj.wrap ((b%16777216:Nat):Int)=((b%16777216:Nat):Int):=by rw[aZs];omega
 have hsh:shr .u32 (b:Int) 24=some ((b/16777216:Nat):Int):=pT b 24 hb
 unfold vJ pJ
 rw[aTP hb,hw,hsh,aTS hb]
 generalize b%16777216=m at *
 generalize b/16777216=x at *
 have hm64:m<18446744073709551616:=by omega
 simp only[aAA,aYV]
 rw[←aCW hm64,fW]
 simp only[aYV]
 by_cases h8:8388608≤m
 ·rw[if_pos (decide_eq_true h8),if_pos h8]
  rfl
 rw[if_neg (by simpa using h8),if_neg h8]
 obtain⟨L,hL,hlen,e1⟩:=aWa hN hm64
 have hwx:aYW.wrap (8*aYW.wrap (aYW.wrap (x:Int)-3))=8*((x:Int)-3):=by
  rw[cL (a:=(x:Int)) (by omega) (by omega),cL (a:=(x:Int)-3) (by omega) (by omega),cL (by omega) (by omega)]
 rw[e1]
 simp only[aYV,qV,hwx]
 rw[cL (a:=(L:Int)+8*((x:Int)-3)) (by omega) (by omega)]
 by_cases h3:x<3
 ·rw[if_neg (by simp;omega),if_pos h3]
  unfold pU
  rw[if_pos (decide_eq_true (by omega)),fW]
  simp only[aYV]
  rw[cL (a:=0-8*((x:Int)-3)) (by omega) (by omega),show(0-8*((x:Int)-3))=((8*(3-x):Nat):Int) by omega,aWy hN (by omega) (by omega) hm64]
  simp only[aYV,fW]
  refine aTv ?_
  have:=aY2 m (2^(8*(3-x)))
  generalize m/2^(8*(3-x))=q at *
  unfold oS
  omega
 rw[if_neg h3]
 have hk:8*((x:Int)-3)=((8*(x-3):Nat):Int):=by omega
 rw[hk]
 by_cases hm:m=0
 ·subst hm
  obtain rfl:L=0:=IsLen.uniq hlen ⟨by decide,fun h=>absurd h (by omega)⟩
  rw[aZL,if_pos (show 0<oS by decide)]
  by_cases hbig:256<8*(x-3)
  ·rw[if_pos (by simp;omega)]
   rfl
  rw[if_neg (by simp;omega)]
  unfold pU
  rw[if_neg (by simp;omega),fW]
  simp only[aYV]
  by_cases h256:8*(x-3)=256
  ·rw[h256]
   unfold mX
   rw[if_neg (by simp),if_pos (by decide)]
   rfl
  rw[aRp hN (by omega) (by decide),aZL,aZ2]
  rfl
 have ho:=aOo (k:=8*(x-3)) hlen (aZW hm)
 by_cases hov:m*2^(8*(x-3))<oS
 ·have h6: ¬256<L+8*(x-3):=by rw[ho];exact fun h=>h hov
  rw[if_neg (by simp;omega),if_pos hov]
  unfold pU
  rw[if_neg (by simp;omega),fW]
  simp only[aYV]
  have hL1:0<L:=by
   rcases aY7 L with h0|h0
   ·subst h0;have:=hlen.1;simp only[aZo]at this;omega
   exact h0
  rw[aRp hN (by omega) hm64,aZt hov]
  simp only[aYV,fW]
  exact aTv hov
 have h6:256<L+8*(x-3):=by rw[ho];exact hov
 rw[if_pos (by simp;omega),if_neg hov]
 rfl
theorem aGV :qC N (b:Int)=some (U (pJ b),if pJ b=0 then 120 else 0):=by
 have hx:b/16777216<256:=by omega
 have hm0:b%16777216<16777216:=aZv _ (by decide)
 have hw:aZj.wrap ((b%16777216:Nat):Int)=((b%16777216:Nat):Int):=by rw[aZs];omega
 have hsh:shr .u32 (b:Int) 24=some ((b/16777216:Nat):Int):=pT b 24 hb
 have rres: ∀t:Nat,t<oS→oJ N (U t)=some (U t,if t=0 then 120 else 0):=fun t ht=>by
  unfold oJ
  rw[fW]
  simp only[aYV]
  rw[aFg ht]
  simp only[aYV]
  by_cases h:t=0
  ·subst h;rfl
  rw[if_neg (by simpa using h),if_neg h]
 unfold qC pJ
 rw[aTP hb,hw,hsh,aTS hb]
 generalize b%16777216=m at *
 generalize b/16777216=x at *
 have hm64:m<18446744073709551616:=by omega
 have hmB:m<oS:=by unfold oS;omega
 simp only[gZ,aYV]
 rw[←aCW hm64,fW]
 simp only[aYV]
 by_cases h8:8388608≤m
 ·rw[if_pos (decide_eq_true h8),if_pos h8]
  rfl
 rw[if_neg (by simpa using h8),if_neg h8]
 obtain⟨L,hL,hlen,e1⟩:=aPo hN hmB
 have hwx:aYW.wrap (8*aYW.wrap (aYW.wrap (x:Int)-3))=8*((x:Int)-3):=by
  rw[cL (a:=(x:Int)) (by omega) (by omega),cL (a:=(x:Int)-3) (by omega) (by omega),cL (by omega) (by omega)]
 have hwy:aYW.wrap (8*aYW.wrap (3-aYW.wrap (x:Int)))=8*(3-(x:Int)):=by
  rw[cL (a:=(x:Int)) (by omega) (by omega),cL (a:=3-(x:Int)) (by omega) (by omega),cL (by omega) (by omega)]
 have hxx:aYW.wrap (x:Int)=(x:Int):=cL (by omega) (by omega)
 by_cases h3:x<3
 ·rw[if_pos (by rw[hxx];exact decide_eq_true (by omega)),if_pos h3,hwy,show 8*(3-(x:Int))=((8*(3-x):Nat):Int) by omega,aJt hN (by omega) (by omega) hmB]
  simp only[aYV,fW]
  refine rres _ ?_
  have:=aY2 m (2^(8*(3-x)))
  generalize m/2^(8*(3-x))=q at *
  unfold oS
  omega
 rw[if_neg (by rw[hxx];simp;omega),if_neg h3,aFg hmB]
 simp only[aYV,hwx]
 have hk:8*((x:Int)-3)=((8*(x-3):Nat):Int):=by omega
 rw[hk]
 by_cases hm:m=0
 ·subst hm
  rw[aZL,if_pos (show 0<oS by decide),if_neg (by simp)]
  unfold oL
  simp only[aY0,if_false,hwx,hk]
  by_cases h256:256≤8*(x-3)
  ·unfold xK
   rw[if_pos (by simp;omega)]
   exact rres 0 (by decide)
  rw[aN4 hN (by omega) (by decide),aZL,aZ2]
  simp only[aYV,fW]
  exact rres 0 (by decide)
 have ho:=aOo (k:=8*(x-3)) hlen (aZW hm)
 rw[if_pos (by simpa using hm),e1]
 simp only[aYV]
 rw[cL (a:=(L:Int)+((8*(x-3):Nat):Int)) (by omega) (by omega)]
 unfold oL
 by_cases hov:m*2^(8*(x-3))<oS
 ·have h6: ¬256<L+8*(x-3):=by rw[ho];exact fun h=>h hov
  have hL1:0<L:=by
   rcases aY7 L with h0|h0
   ·subst h0;have:=hlen.1;simp only[aZo]at this;omega
   exact h0
  rw[if_neg (by simp;omega),if_pos hov,hwx,hk,aN4 hN (by omega) hmB,aZt hov]
  simp only[aYV,fW]
  exact rres _ hov
 have h6:256<L+8*(x-3):=by rw[ho];exact hov
 rw[if_pos (by simp;omega),if_neg hov]
 rfl
end
end Go.Proofs.YtgfdllellpbmoaaGreatDoor
set_option maxRecDepth 4000
namespace Go.Proofs.YtgfdllellpbmoaaGreatDoor
open Go Go.Vm
theorem aJM {h:Int}: ∀{cs:List aC}{p:Option aI},(∀c∈cs,OkO c.Out)→(∀q,p=some q→OkO q)→mE h p cs=true→
  (∀(i k:Nat)(hi:i<cs.length)(hk:k<cs.length),i<k→d7 cs[i].Out cs[k].Out<0)∧ ∀q,p=some q→ ∀(k:Nat)(hk:k<cs.length),d7 q cs[k].Out<0
 | [],_,_,_,_=>⟨fun i _ hi=>absurd hi (by simp),fun _ _ k hk=>absurd hk (by simp)⟩
 |c::cs,p,hok,hp,hs=>by
  have hc:=hok c (by simp)
  have hs':mE h (some c.Out) cs=true∧ ∀q,p=some q→d7 q c.Out<0:=by
   cases p with
   |none=>simp only[mE,aZg]at hs;exact⟨hs.2,fun q e=>by cases e⟩
   |some q=>simp only[mE,aZg,decide_eq_true_eq]at hs;exact⟨hs.2.2,fun q' e=>by injection e with e;subst e;exact hs.1⟩
  obtain⟨h1,h2⟩:=aJM (fun d hd=>hok d (by simp[hd])) (fun q e=>by injection e with e;subst e;exact hc) hs'.1
  have hall: ∀q,p=some q→ ∀(k:Nat)(hk:k<(c::cs).length),d7 q (c::cs)[k].Out<0:=fun q e k hk=>by
   cases k with
   |zero=>exact hs'.2 q e
   |succ k=>
    have hk':k<cs.length:=by simpa using hk
    exact aBz (hp q e).1 hc.1 (hok _ (by simp[aYX hk'])).1 (hs'.2 q e) (h2 _ rfl k hk')
  refine⟨fun i k hi hk hik=> ?_,hall⟩
  cases i with
  |zero=>
   cases k with
   |zero=>omega
   |succ k=>exact h2 _ rfl k (by simpa using hk)
  |succ i=>
   cases k with
   |zero=>omega
   |succ k=>exact h1 i k (by simpa using hi) (by simpa using hk) (by omega)
def fI (o:aI):Int→List aC→Int
 |_,[]=> -1
 |j,c::cs=>if d7 c.Out o=0 then j else fI o (j+1) cs
theorem eqP {a b:aI}(ha:a.Tx.length=32)(hb:b.Tx.length=32):sX a.Tx b.Tx ((a.Index == b.Index)&&true)=decide (d7 a b=0):=by
 rw[aRf ha hb,Bool.and_true]
 by_cases h:d7 a b=0
 ·obtain rfl:=aHf ha hb h
  rw[decide_eq_true h];simp
 rw[decide_eq_false h]
 rw[Bool.and_eq_false_iff]
 by_cases ht:a.Tx=b.Tx
 ·refine .inr ?_
  rw[beq_eq_false_iff_ne]
  intro hi
  apply h
  obtain⟨t,i⟩:=a
  obtain⟨t',i'⟩:=b
  simp only at ht hi
  subst ht hi
  exact aGW _
 exact .inl (by rw[beq_eq_false_iff_ne];exact ht)
section
variable {N:Nat}(hN:70000≤N){cs:List aC}(hn:cs.length≤1000)(hok: ∀c∈cs,OkO c.Out){o:aI}(ho:OkO o)
include hN hn hok ho
theorem aJ6 : ∀(m j:Nat),cs.length-j<m→j≤cs.length→((rF N cs o m (j:Int)).bind fun q=>match q with | .ret v=>some v | .brk _=>aAr N)=some (fI o (j:Int) (cs.drop j))
 |m+1,j,hm,hj=>by
  unfold rF
  by_cases hl:j<cs.length
  ·have o1:=hok _ (aYX hl)
   rw[if_pos (dT hl),bF _ hl,aZM hl]
   simp only[aYV,fI]
   rw[eqP o1.1 ho.1]
   by_cases hc:d7 cs[j].Out o=0
   ·rw[if_pos (decide_eq_true hc),if_pos hc];rfl
   rw[if_neg (by simpa using hc),if_neg hc,i1 (by omega),aJ6 m (j+1) (by omega) (by omega)]
   rw[show((j+1:Nat):Int)=(j:Int)+1 by omega]
  rw[if_neg (by simp;omega),aZy (by omega)]
  rfl
theorem aT6 :rZ N cs o=some (fI o 0 cs):=by
 have:=aJ6 hN hn hok ho N 0 (by omega) (by omega)
 rw[show((0:Nat):Int)=0 from rfl,aZa]at this
 exact this
theorem aKX : ∀(m i j:Nat),j-i<m→i≤j→j≤cs.length→(∀(k:Nat)(hk:k<cs.length),k<i→d7 cs[k].Out o<0)→(∀(k:Nat)(hk:k<cs.length),j≤k→0≤d7 cs[k].Out o)→
  (∀(i k:Nat)(hi:i<cs.length)(hk:k<cs.length),i<k→d7 cs[i].Out cs[k].Out<0)→
  ∃r:Nat,bN N cs o m (i:Int) (j:Int)=some (r:Int)∧r≤cs.length∧(∀(k:Nat)(hk:k<cs.length),k<r→d7 cs[k].Out o<0)∧ ∀(k:Nat)(hk:k<cs.length),r≤k→0≤d7 cs[k].Out o
 |m+1,i,j,hm,hij,hj,hlo,hhi,hst=>by
  unfold bN
  by_cases hl:i<j
  ·rw[if_pos (decide_eq_true (by omega)),cL (by omega) (by omega),show(i:Int)+(j:Int)=((i+j:Nat):Int) by omega,aCm (by omega) (by omega),show shr .u64 ((i+j:Nat):Int) 1=some (((i+j)/2:Nat):Int)from pT (i+j) 1 (show i+j<2^64 by omega)]
   simp only[aYV]
   have hh:(i+j)/2<cs.length:=by omega
   rw[cL (a:=(((i+j)/2:Nat):Int)) (by omega) (by omega),bF _ hh]
   have o1:=hok _ (aYX hh)
   simp only[aYV,pR]
   rw[aIt hN o1.1 ho.1 o1.2 ho.2]
   simp only[aYV]
   by_cases hc:d7 cs[(i+j)/2].Out o<0
   ·rw[if_pos (decide_eq_true hc),i1 (by omega)]
    refine aKX m ((i+j)/2+1) j (by omega) (by omega) hj (fun k hk hki=> ?_) hhi hst
    by_cases he:k=(i+j)/2
    ·subst he;exact hc
    exact aBz (hok _ (aYX hk)).1 o1.1 ho.1 (hst k _ hk hh (by omega)) hc
   rw[if_neg (by simpa using hc)]
   refine aKX m i ((i+j)/2) (by omega) (by omega) (by omega) hlo (fun k hk hki=> ?_) hst
   by_cases he:k=(i+j)/2
   ·subst he;omega
   by_cases hlt:d7 cs[k].Out o<0
   ·exact absurd (aBz o1.1 (hok _ (aYX hk)).1 ho.1 (hst _ k hh hk (by omega)) hlt) hc
   omega
  rw[if_neg (by simp;omega)]
  obtain rfl:i=j:=by omega
  exact⟨i,rfl,hj,hlo,hhi⟩
omit hN hn hok ho in
theorem aPO : ∀{cs:List aC}{r:Nat}(j:Int)(hr:r<cs.length),(∀(k:Nat)(hk:k<cs.length),k<r→d7 cs[k].Out o≠0)→d7 cs[r].Out o=0→fI o j cs=j+r
 |c::cs,0,j,_,_,h0=>by
  unfold fI
  rw[if_pos (show d7 c.Out o=0 from h0)];omega
 |c::cs,r+1,j,hr,hne,h0=>by
  unfold fI
  rw[if_neg (show¬d7 c.Out o=0 from hne 0 (by simp) (by omega)),aPO (j+1) (by simpa using hr) (fun k hk hkr=>hne (k+1) (by simpa using hk) (by omega)) (by simpa using h0)]
  omega
omit hN hn hok ho in
theorem aKE : ∀{cs:List aC}(j:Int),(∀(k:Nat)(hk:k<cs.length),d7 cs[k].Out o≠0)→fI o j cs= -1
 | [],_,_=>rfl
 |c::cs,j,h=>by
  unfold fI
  rw[if_neg (show¬d7 c.Out o=0 from h 0 (by simp)),aKE (j+1) (fun k hk=>h (k+1) (by simpa using hk))]
theorem aWA (l:aF)(hl:l.Coins=cs)(hs:mE l.Height none cs=true):xJ N l o=some (fI o 0 cs):=by
 obtain⟨hst,_⟩:=aJM hok (fun q e=>by cases e) hs
 obtain⟨r,h1,h2,h3,h4⟩:=aKX hN hn hok ho N 0 cs.length (by omega) (by omega) (aZB _) (fun k _ h=>by omega) (fun k hk h=>by omega) hst
 unfold xJ dD
 rw[hl,show(0:Int)=((0:Nat):Int)from rfl,h1]
 simp only[aYV,cS,cF]
 by_cases hr:r<cs.length
 ·have o1:=hok _ (aYX hr)
  rw[if_pos (dT hr),bF _ hr]
  simp only[aYV,pR]
  rw[aIt hN o1.1 ho.1 o1.2 ho.2]
  simp only[aYV]
  by_cases h0:d7 cs[r].Out o=0
  ·rw[h0,aPO _ hr (fun k hk hkr=>by have:=h3 k hk hkr;omega) h0]
   simp
  have hpos:=h4 r hr (aZB _)
  rw[aKE _ (fun k hk=> ?_)]
  ·simp[h0]
  intro he
  rcases aZZ k r with hk1|hk1|hk1
  ·have:=h3 k hk hk1;omega
  ·subst hk1;exact h0 he
  have e2:=aHf (hok _ (aYX hk)).1 ho.1 he
  have:=hst r k hr hk hk1
  rw[e2]at this
  omega
 rw[if_neg (by simp;omega),aKE _ (fun k hk=>by have:=h3 k hk (by omega);omega)]
 simp
end
theorem aUo {N:Nat}(hN:70000≤N){l:aF}(hn:l.Coins.length≤1000)(hok: ∀c∈l.Coins,OkO c.Out){o:aI}(ho:OkO o):vS N l o=some (if yN l=true then fI o 0 l.Coins else -1):=by
 unfold vS
 rw[aNK hN hn hok]
 simp only[aYV]
 cases hs:yN l with
 |false=>rfl
 |true=>
  have hs':mE l.Height none l.Coins=true:=by
   simp only[yN,aZg]at hs
   exact hs.2.2.1
  rw[if_neg (by simp),aWA hN hn hok ho l rfl hs']
  rfl
theorem aXd {N:Nat}(hN:70000≤N){l:aF}(hn:l.Coins.length≤1000)(hok: ∀c∈l.Coins,OkO c.Out){o:aI}(ho:OkO o):aBb N l o=some (if yN l=true then fI o 0 l.Coins else -1):=by
 unfold aBb
 rw[aNb hN hn hok]
 simp only[aYV]
 cases yN l with
 |false=>rfl
 |true=>
  rw[if_neg (by simp),aT6 hN hn hok ho]
  rfl
def zZ :Int→List e9→Bool
 |_,[]=>true
 |b,c::cs=>decide (b<c.Height)&&(decide (c.Height≤16777216)&&zZ c.Height cs)
theorem aLw {b:Int}{l:List e9}{j:Nat}(hj:j<l.length):zZ b (l.drop j)=(decide (b<l[j].Height)&&(decide (l[j].Height≤16777216)&&zZ l[j].Height (l.drop (j+1)))):=by
 rw[aZM hj];rfl
def pvH (l:List e9)(j:Nat):Int:=match j with
 |0=>0
 |k+1=>((l[k]?).map (·.Height)).getD 0
theorem aIM {l:List e9}{j:Nat}(h:j<l.length):pvH l (j+1)=l[j].Height:=by simp[pvH,h]
noncomputable def aAa (p:aJ)(b L:Nat):Bool:=decide (L≠0)&&(decide (1≤p.Window∧p.Window≤4096∧1≤p.Spacing∧p.Spacing≤1048576∧0≤p.Subsidy∧p.Subsidy≤2100000000000000∧1≤p.Halving∧p.Halving≤16777216∧0≤p.Maturity∧p.Maturity≤16777216)&&(zZ 0 p.Checkpoints&&(decide (pJ b≠0)&&decide (pJ b≤L))))
section
variable {N:Nat}(hN:70000≤N){p:aJ}{b L:Nat}(hb:b<4294967296)(eb:p.Genesis.Bits=(b:Int))(hL:L<oS)(eL:p.Limit=U L)(hc:p.Checkpoints.length≤1000)
include hN hb eb hL eL hc
theorem aL4 : ∀(m j:Nat)(before:Int),p.Checkpoints.length-j<m→j≤p.Checkpoints.length→g8 N p m before (j:Int)=some (if zZ before (p.Checkpoints.drop j)=true then .brk ()else .ret false)
 |m+1,j,before,hm,hj=>by
  unfold g8
  by_cases hl:j<p.Checkpoints.length
  ·rw[if_pos (dT hl),bF _ hl,aLw hl]
   simp only[aYV]
   unfold pA
   rw[i1 (by omega),aL4 m (j+1) _ (by omega) (by omega)]
   by_cases h1:before<p.Checkpoints[j].Height
   ·rw[if_neg (by simp;omega),decide_eq_true h1]
    by_cases h2:p.Checkpoints[j].Height≤16777216
    ·rw[if_neg (by simp;omega),decide_eq_true h2];simp
    rw[if_pos (decide_eq_true (by omega)),decide_eq_false h2];rfl
   rw[if_pos (decide_eq_true (by omega)),decide_eq_false h1];rfl
  rw[if_neg (by simp;omega),aZy (by omega)]
  rfl
theorem aRP :mK N p=some (aAa p b L):=by
 have body:fT N p false=some (zZ 0 p.Checkpoints&&(decide (pJ b≠0)&&decide (pJ b≤L))):=by
  have hl:=aL4 hN hb eb hL eL hc N 0 0 (by omega) (by omega)
  rw[show((0:Nat):Int)=0 from rfl,aZa]at hl
  unfold fT
  rw[if_neg (by simp),hl]
  cases zZ 0 p.Checkpoints
  ·rfl
  simp only[if_true,aYV,aY6]
  unfold tB o9
  rw[eb,aSx hN hb]
  simp only[aYV,fW]
  by_cases h0:pJ b=0
  ·rw[if_pos h0,h0]
   rfl
  rw[if_neg h0,if_pos (by rfl),eL,fW]
  simp only[aYV]
  rw[aFV hN (aKR b) hL]
  simp only[aYV]
  rw[aUe,decide_eq_true h0,aY6]
 have top: ∀b2,fT N p b2=some (!b2&&(zZ 0 p.Checkpoints&&(decide (pJ b≠0)&&decide (pJ b≤L)))):=fun b2=>by
  cases b2
  ·rw[body];rfl
  rfl
 have nf: ¬(1≤p.Window∧p.Window≤4096∧1≤p.Spacing∧p.Spacing≤1048576∧0≤p.Subsidy∧p.Subsidy≤2100000000000000∧1≤p.Halving∧p.Halving≤16777216∧0≤p.Maturity∧p.Maturity≤16777216)→decide (1≤p.Window∧p.Window≤4096∧1≤p.Spacing∧p.Spacing≤1048576∧0≤p.Subsidy∧p.Subsidy≤2100000000000000∧1≤p.Halving∧p.Halving≤16777216∧0≤p.Maturity∧p.Maturity≤16777216)=false:=fun h=>decide_eq_false h
 unfold mK aAa
 rw[eL,fW]
 simp only[aYV]
 rw[←aN0,aQA hL (by decide)]
 by_cases h0:L=0
 ·rw[if_pos (decide_eq_true h0),decide_eq_false (fun h=>h h0)];rfl
 rw[if_neg (by simpa using h0),decide_eq_true (show L≠0 from h0),aY6]
 generalize hX:(zZ 0 p.Checkpoints&&(decide (pJ b≠0)&&decide (pJ b≤L)))=X at *
 unfold lV jC
 simp only[top]
 by_cases c1:1≤p.Window
 ·rw[if_neg (by simp;omega)]
  by_cases c2:p.Window≤4096
  ·rw[if_neg (by simp;omega)]
   by_cases c3:1≤p.Spacing
   ·rw[if_neg (by simp;omega)]
    by_cases c4:p.Spacing≤1048576
    ·rw[if_neg (by simp;omega)]
     by_cases c5:0≤p.Subsidy
     ·rw[if_neg (by simp;omega)]
      by_cases c6:p.Subsidy≤2100000000000000
      ·rw[if_neg (by simp;omega)]
       by_cases c7:1≤p.Halving
       ·rw[if_neg (by simp;omega)]
        by_cases c8:p.Halving≤16777216
        ·rw[if_neg (by simp;omega)]
         by_cases c9:0≤p.Maturity
         ·rw[if_neg (by simp;omega)]
          by_cases c10:p.Maturity≤16777216
          ·rw[decide_eq_false (show¬16777216<p.Maturity by omega),decide_eq_true (by omega)];rfl
          rw[decide_eq_true (show 16777216<p.Maturity by omega),decide_eq_false (by omega)];rfl
         rw[if_pos (decide_eq_true (by omega)),decide_eq_false (by omega)];rfl
        rw[if_pos (decide_eq_true (by omega)),decide_eq_false (by omega)];rfl
       rw[if_pos (decide_eq_true (by omega)),decide_eq_false (by omega)];rfl
      rw[if_pos (decide_eq_true (by omega)),decide_eq_false (by omega)];rfl
     rw[if_pos (decide_eq_true (by omega)),nf (by omega)];simp
    rw[if_pos (decide_eq_true (by omega)),nf (by omega)];simp
   rw[if_pos (decide_eq_true (by omega)),nf (by omega)];simp
  rw[if_pos (decide_eq_true (by omega)),decide_eq_false (by omega)];rfl
 rw[if_pos (decide_eq_true (by omega)),nf (by omega)];simp
theorem aLS : ∀(m j:Nat),p.Checkpoints.length-j<m→j≤p.Checkpoints.length→0≤pvH p.Checkpoints j→fJ N p m (j:Int)=some (if zZ (pvH p.Checkpoints j) (p.Checkpoints.drop j)=true then .brk ()else .ret false)
 |m+1,j,hm,hj,hp=>by
  unfold fJ
  by_cases hl:j<p.Checkpoints.length
  ·have nx: ∀(h1:1≤p.Checkpoints[j].Height),fJ N p m ((j+1:Nat):Int)=some (if zZ p.Checkpoints[j].Height (p.Checkpoints.drop (j+1))=true then .brk ()else .ret false):=fun h1=>by
    have:=aLS m (j+1) (by omega) (by omega) (by rw[aIM hl];omega)
    rw[aIM hl]at this
    exact this
   rw[if_pos (dT hl),bF _ hl,aLw hl]
   simp only[aYV]
   unfold mR
   rw[i1 (by omega)]
   by_cases h1:1≤p.Checkpoints[j].Height
   ·rw[if_neg (by simp;omega),nx h1]
    by_cases h2:p.Checkpoints[j].Height≤16777216
    ·rw[if_neg (by simp;omega),decide_eq_true h2]
     cases j with
     |zero=>
      rw[if_neg (by simp),show pvH p.Checkpoints 0=0 from rfl,decide_eq_true (show(0:Int)<p.Checkpoints[0].Height by omega)]
      simp
     |succ k=>
      rw[if_pos (decide_eq_true (by omega)),cL (by omega) (by omega),show((k+1:Nat):Int)-1=(k:Int) by omega,bF _ (show k<p.Checkpoints.length by omega),aIM (show k<p.Checkpoints.length by omega)]
      simp only[aYV]
      by_cases h3:p.Checkpoints[k].Height<p.Checkpoints[k+1].Height
      ·rw[decide_eq_false (show¬p.Checkpoints[k+1].Height≤p.Checkpoints[k].Height by omega),decide_eq_true h3]
       simp
      rw[decide_eq_true (show p.Checkpoints[k+1].Height≤p.Checkpoints[k].Height by omega),decide_eq_false h3]
      simp
    rw[if_pos (decide_eq_true (by omega)),decide_eq_false h2]
    simp
   rw[if_pos (decide_eq_true (by omega)),decide_eq_false (show¬pvH p.Checkpoints j<p.Checkpoints[j].Height by omega)]
   simp
  rw[if_neg (by simp;omega),aZy (by omega)]
  rfl
theorem aNz :iT N p=some (aAa p b L):=by
 have body:f9 N p false=some (zZ 0 p.Checkpoints&&(decide (pJ b≠0)&&decide (pJ b≤L))):=by
  have hl:fJ N p N 0=some (if zZ 0 p.Checkpoints=true then .brk ()else .ret false):=by
   exact aLS hN hb eb hL eL hc N 0 (by omega) (by omega) (aZV 0)
  unfold f9
  rw[if_neg (by simp),hl]
  cases zZ 0 p.Checkpoints
  ·rfl
  simp only[if_true,aYV,aY6]
  unfold zA uA
  rw[eb,aGV hN hb]
  simp only[aYV,fW]
  by_cases h0:pJ b=0
  ·rw[if_pos h0,h0]
   rfl
  rw[if_neg h0,if_pos (by rfl),eL,fW]
  simp only[aYV]
  rw[aLh,aFV hN (aKR b) hL]
  simp only[aYV]
  rw[aUe,decide_eq_true h0,aY6]
 have top: ∀b2,f9 N p b2=some (!b2&&(zZ 0 p.Checkpoints&&(decide (pJ b≠0)&&decide (pJ b≤L)))):=fun b2=>by
  cases b2
  ·rw[body];rfl
  rfl
 have nf: ¬(1≤p.Window∧p.Window≤4096∧1≤p.Spacing∧p.Spacing≤1048576∧0≤p.Subsidy∧p.Subsidy≤2100000000000000∧1≤p.Halving∧p.Halving≤16777216∧0≤p.Maturity∧p.Maturity≤16777216)→decide (1≤p.Window∧p.Window≤4096∧1≤p.Spacing∧p.Spacing≤1048576∧0≤p.Subsidy∧p.Subsidy≤2100000000000000∧1≤p.Halving∧p.Halving≤16777216∧0≤p.Maturity∧p.Maturity≤16777216)=false:=fun h=>decide_eq_false h
 unfold iT aAa
 rw[eL,fW]
 simp only[aYV]
 rw[aFg hL]
 simp only[aYV]
 by_cases h0:L=0
 ·rw[if_pos (decide_eq_true h0),decide_eq_false (fun h=>h h0)];rfl
 rw[if_neg (by simpa using h0),decide_eq_true (show L≠0 from h0),aY6]
 generalize hX:(zZ 0 p.Checkpoints&&(decide (pJ b≠0)&&decide (pJ b≤L)))=X at *
 unfold kX
 simp only[top]
 by_cases c1:1≤p.Window
 ·rw[if_neg (by simp;omega)]
  by_cases c2:p.Window≤4096
  ·rw[if_neg (by simp;omega)]
   by_cases c3:1≤p.Spacing
   ·rw[if_neg (by simp;omega)]
    by_cases c4:p.Spacing≤1048576
    ·rw[if_neg (by simp;omega)]
     by_cases c5:0≤p.Subsidy
     ·rw[if_neg (by simp;omega)]
      by_cases c6:p.Subsidy≤2100000000000000
      ·rw[if_neg (by simp;omega)]
       by_cases c7:1≤p.Halving
       ·rw[if_neg (by simp;omega)]
        by_cases c8:p.Halving≤16777216
        ·rw[if_neg (by simp;omega)]
         by_cases c9:0≤p.Maturity
         ·rw[if_neg (by simp;omega)]
          by_cases c10:p.Maturity≤16777216
          ·rw[decide_eq_false (show¬16777216<p.Maturity by omega),decide_eq_true (by omega)];rfl
          rw[decide_eq_true (show 16777216<p.Maturity by omega),decide_eq_false (by omega)];rfl
         rw[if_pos (decide_eq_true (by omega)),decide_eq_false (by omega)];rfl
        rw[if_pos (decide_eq_true (by omega)),decide_eq_false (by omega)];rfl
       rw[if_pos (decide_eq_true (by omega)),decide_eq_false (by omega)];rfl
      rw[if_pos (decide_eq_true (by omega)),decide_eq_false (by omega)];rfl
     rw[if_pos (decide_eq_true (by omega)),decide_eq_false (by omega)];rfl
    rw[decide_eq_true (show 1048576<p.Spacing by omega),nf (by omega)];simp
   rw[if_pos (decide_eq_true (by omega)),nf (by omega)];simp
  rw[if_pos (decide_eq_true (by omega)),nf (by omega)];simp
 rw[if_pos (decide_eq_true (by omega)),nf (by omega)];simp
def aNI (p:aJ)(b L:Nat)(h:Int):Nat:=if 0≤h then p.Subsidy.toNat/2^(h.toNat/p.Halving.toNat)else 0
end
theorem aSI (s n:Nat):s/2/2^n=s/2^(n+1):=by rw[aZR,aZK,aZS]
theorem aLm {N:Nat}: ∀(m k s n:Nat),k<m→s<2^k→k≤60→n≤9223372036854775807→iO N m (s:Int) (n:Int)=some ((s/2^n:Nat):Int)
 |m+1,k,s,n,hk,hs,h60,hn=>by
  unfold iO qU
  have hs2:s<9223372036854775808:=aZh hs (aZf (aY3 (by omega) (show k≤63 by omega)) (by decide))
  cases n with
  |zero=>rw[if_neg (by simp),if_neg (by simp),aZo,Nat.div_one]
  |succ n=>
   rw[if_pos (decide_eq_true (by omega))]
   by_cases h0:s=0
   ·subst h0
    rw[if_neg (by simp),Nat.zero_div]
   have hk1:0<k:=by
    rcases aY7 k with hz|hz
    ·subst hz;simp only[aZo]at hs;omega
    exact hz
   rw[if_pos (decide_eq_true (by omega)),show(2:Int)=((2:Nat):Int)from rfl,iG,cL (by omega) (by omega),cL (by omega) (by omega),show((n+1:Nat):Int)-1=(n:Int) by omega,aLm m (k-1) (s/2) n (by omega) ?_ (by omega) (by omega),aSI]
   have:2^k=2^(k-1)*2:=by rw[←aZK];congr 1;omega
   omega
section
variable {N:Nat}(hN:70000≤N){p:aJ}{b L:Nat}(hb:b<4294967296)(eb:p.Genesis.Bits=(b:Int))(hL:L<oS)(eL:p.Limit=U L)(hc:p.Checkpoints.length≤1000){h:Int}(hh: -9223372036854775808≤h∧h≤9223372036854775807)
include hN hb eb hL eL hc hh
theorem aIi (hv:aAa p b L=true):0≤p.Subsidy∧p.Subsidy≤2100000000000000∧1≤p.Halving∧p.Halving≤16777216:=by
 simp only[aAa,aZg,decide_eq_true_eq]at hv
 omega
theorem aNn :qA N p h=some (if aAa p b L=true then((aNI p b L h:Nat):Int)else 0):=by
 unfold qA
 rw[aRP hN hb eb hL eL hc]
 simp only[aYV]
 cases hv:aAa p b L with
 |false=>rfl
 |true=>
  obtain⟨f1,f2,f3,f4⟩:=aIi hN hb eb hL eL hc hh hv
  rw[if_neg (by simp),if_pos rfl]
  unfold o7 aNI
  by_cases h0:0≤h
  ·rw[if_neg (by simp;omega),if_pos h0]
   obtain⟨n,rfl⟩: ∃n:Nat,h=(n:Int):=⟨h.toNat,by omega⟩
   obtain⟨s,hs⟩: ∃s:Nat,p.Subsidy=(s:Int):=⟨p.Subsidy.toNat,by omega⟩
   obtain⟨g,hg⟩: ∃g:Nat,p.Halving=(g:Int):=⟨p.Halving.toNat,by omega⟩
   rw[hs]at f1 f2 ⊢; rw[hg]at f3 f4⊢
   have hq:quo .i64 (n:Int) (g:Int)=some ((n/g:Nat):Int):=by
    unfold quo
    rw[if_neg (by omega),iG]
    have le:=aY2 n g
    generalize n/g=e at le⊢
    rw[cL (by omega) (by omega)]
   rw[hq]
   simp only[aYV,aZb]
   generalize n/g=e
   unfold shr
   rw[if_neg (by omega),aZb]
   simp only[aYV]
   congr 1
   have h64:(aYW).bits=64:=rfl
   rw[h64]
   by_cases he:e≤64
   ·rw[Nat.min_eq_left he]
    show Int.fdiv (s:Int) (2^e)=_
    rw[aZI _ (by exact Int.pow_nonneg (by omega))]
    norm_cast
   rw[Nat.min_eq_right (by omega)]
   have z1:s/2^e=0:=aZ5 (aZh (show s<2^64 by omega) (aY3 (by omega) (by omega)))
   rw[z1]
   show Int.fdiv (s:Int) (2^64)=_
   rw[aZI _ (by decide)]
   omega
  rw[if_pos (decide_eq_true (by omega)),if_neg h0]
  rfl
theorem aII :j9 N p h=some (if aAa p b L=true then((aNI p b L h:Nat):Int)else 0):=by
 unfold j9
 rw[aNz hN hb eb hL eL hc]
 simp only[aYV]
 cases hv:aAa p b L with
 |false=>rfl
 |true=>
  obtain⟨f1,f2,f3,f4⟩:=aIi hN hb eb hL eL hc hh hv
  rw[if_neg (by simp),if_pos rfl]
  unfold qH aNI
  by_cases h0:0≤h
  ·rw[if_neg (by simp;omega),if_pos h0]
   obtain⟨n,rfl⟩: ∃n:Nat,h=(n:Int):=⟨h.toNat,by omega⟩
   obtain⟨s,hs⟩: ∃s:Nat,p.Subsidy=(s:Int):=⟨p.Subsidy.toNat,by omega⟩
   obtain⟨g,hg⟩: ∃g:Nat,p.Halving=(g:Int):=⟨p.Halving.toNat,by omega⟩
   rw[hs]at f1 f2 ⊢; rw[hg]at f3 f4⊢
   have hq:quo .i64 (n:Int) (g:Int)=some ((n/g:Nat):Int):=by
    unfold quo
    rw[if_neg (by omega),iG]
    have le:=aY2 n g
    generalize n/g=e at le⊢
    rw[cL (by omega) (by omega)]
   have le:=aY2 n g
   rw[hq]
   simp only[aYV,aZb]
   generalize n/g=e at le⊢
   rw[aLm N 51 s e (by omega) (by omega) (by omega) (by omega)]
   rfl
  rw[if_pos (decide_eq_true (by omega)),if_neg h0]
  rfl
end
structure aLd (ins:List bL)(outs:List bA):Prop where
 ni:ins.length≤70
 no:outs.length≤70
 wit: ∀x∈ins,x.Witness.length≤40∧ ∀w∈x.Witness,w.length≤600
 scr: ∀o∈outs,o.Script.length≤600
 tx: ∀x∈ins,x.Prev.Tx.length=32
def inB (x:bL):List Int:=(x.Prev.Tx++sM x.Prev.Index)++sM x.Sequence
def itB (w:List Int):List Int:=szB w.length++w
def wiB (x:bL):List Int:=szB x.Witness.length++x.Witness.flatMap itB
def aD9 (v:Int)(ins:List bL)(outs:List bA)(lock:Int)(wit:Bool):List Int:=
 ((((sM v++szB ins.length)++ins.flatMap inB)++szB outs.length)++outs.flatMap aDj)++sM lock++(if wit then ins.flatMap wiB else [])
theorem aDT {α:Type}{g:α→List Int}{c:Nat}: ∀(l:List α),(∀x∈l,(g x).length≤c)→(l.flatMap g).length≤l.length*c
 | [],_=>by simp
 |x::l,h=>by
  have h1:=h x (by simp)
  have h2:=aDT l (fun y hy=>h y (by simp[hy]))
  rw[List.flatMap_cons,aYY,aZu,aZz,Nat.one_mul];omega
theorem aRe {w:List Int}(h:w.length≤600):(itB w).length≤605:=by have:=vN w.length;simp only[itB,aYY];omega
theorem aWC {x:bL}(h:x.Witness.length≤40∧ ∀w∈x.Witness,w.length≤600):(wiB x).length≤24205:=by
 have h1:=vN x.Witness.length
 have h2:=aDT (g:=itB) (c:=605) x.Witness (fun w hw=>aRe (h.2 w hw))
 have h3:=aY9 605 h.1
 simp only[wiB,aYY];omega
theorem aPe {x:bL}(h:x.Prev.Tx.length=32):(inB x).length=40:=by simp[inB,cQ,h]
theorem aKP {o:bA}(h:o.Script.length≤600):(aDj o).length≤613:=by
 have:=vN o.Script.length
 simp only[aDj,aYY,aNc];omega
theorem aK2 {ins:List bL}{outs:List bA}(K:aLd ins outs):(ins.flatMap inB).length≤2800:=by
 have:=aDT (g:=inB) (c:=40) ins (fun x hx=>Nat.le_of_eq (aPe (K.tx x hx)))
 have:=aY9 40 K.ni
 omega
theorem aI0 {ins:List bL}{outs:List bA}(K:aLd ins outs):(outs.flatMap aDj).length≤42910:=by
 have:=aDT (g:=aDj) (c:=613) outs (fun x hx=>aKP (K.scr x hx))
 have:=aY9 613 K.no
 omega
theorem aVk {ins:List bL}{outs:List bA}(K:aLd ins outs):(ins.flatMap wiB).length≤1694350:=by
 have:=aDT (g:=wiB) (c:=24205) ins (fun x hx=>aWC (K.wit x hx))
 have:=aY9 24205 K.ni
 omega
theorem nle (a b:Nat):decide ((a:Int)<(b:Int))= !decide (b≤a):=by
 by_cases h:a<b
 ·rw[decide_eq_true (by omega),decide_eq_false (by omega)];rfl
 rw[decide_eq_false (by omega),decide_eq_true (by omega)];rfl
theorem dle (n:Nat):decide ((n:Int)≤20000)=decide (n≤20000):=by
 by_cases h:n≤20000
 ·rw[decide_eq_true h,decide_eq_true (by omega)]
 rw[decide_eq_false h,decide_eq_false (by omega)]
def aQk (o:bA):Bool:= !decide (o.Value<0)&&decide (o.Script.length≤520)
def aQt (x:bL):Bool:=decide (x.Witness.length≤32)&&x.Witness.all fun w=>decide (w.length≤520)
def aIF (v:Int)(ins:List bL)(outs:List bA)(lock:Int):Bool:=
 decide (ins.length≤64)&&decide (outs.length≤64)&&outs.all aQk&&ins.all aQt&&decide ((aD9 v ins outs lock true).length≤20000)
section
variable (N:Nat)(hN:70000≤N){t:aG}(K:aLd t.Inputs t.Outputs)
include hN K
theorem rL8 (b:Bool)(acc:List Int)(h:acc.length≤100000):jK N t b N 0 acc=some (acc++t.Inputs.flatMap inB):=by
 have hn:=K.ni
 have hl:=aK2 K
 refine aAU (f:=jK N t b) (xs:=t.Inputs) (g:=inB) (B:=200000) (by omega) (fun m j acc hj hB=> ?_) (fun m j acc hj=> ?_) N 0 acc (by omega) (by omega) (by rw[aZa];omega)
 ·have ht:=K.tx _ (aYX hj)
  rw[aPe ht]at hB
  rw[jK,dT hj,if_pos rfl,bF t.Inputs hj]
  simp only[aYV,aQ5 N hN _ ht]
  rw[v9 (by simp[cQ];omega)]
  simp only[aYV]
  rw[aBU N hN (acc++(t.Inputs[j].Prev.Tx++sM t.Inputs[j].Prev.Index)) _ (by simp[cQ];omega)]
  simp only[aYV,i1 (show j≤100000 by omega),inB,aZ0]
 rw[jK,dF (by omega)];rfl
theorem rL7 (b:Bool)(acc:List Int)(h:acc.length≤100000):jH N t b N 0 acc=some (acc++t.Outputs.flatMap aDj):=by
 have hn:=K.no
 have hl:=aI0 K
 refine aAU (f:=jH N t b) (xs:=t.Outputs) (g:=aDj) (B:=200000) (by omega) (fun m j acc hj hB=> ?_) (fun m j acc hj=> ?_) N 0 acc (by omega) (by omega) (by rw[aZa];omega)
 ·have ht:=K.scr _ (aYX hj)
  rw[jH,dT hj,if_pos rfl,bF t.Outputs hj]
  simp only[aYV,aSC N hN _ ht]
  rw[v9 (by omega)]
  simp only[aYV,i1 (show j≤100000 by omega)]
 rw[jH,dF (by omega)];rfl
theorem rL6 (b:Bool)(x:Int)(w:bL)(hw:w.Witness.length≤40∧ ∀z∈w.Witness,z.length≤600)(acc:List Int)(h:acc.length≤5000000):jI N t b x w N 0 acc=some (acc++w.Witness.flatMap itB):=by
 have hl:=aDT (g:=itB) (c:=605) w.Witness (fun z hz=>aRe (hw.2 z hz))
 have:=aY9 605 hw.1
 refine aAU (f:=jI N t b x w) (xs:=w.Witness) (g:=itB) (B:=6000000) (by omega) (fun m j acc hj hB=> ?_) (fun m j acc hj=> ?_) N 0 acc (by omega) (by omega) (by rw[aZa];omega)
 ·have ht:=hw.2 _ (aYX hj)
  rw[jI,dT hj,if_pos rfl,bF w.Witness hj]
  simp only[aYV]
  rw[aQ2 N hN acc _ (show w.Witness[j].length≤1000000 by omega) (by omega)]
  simp only[aYV,i1 (show j≤100000 by omega),itB]
 rw[jI,dF (by omega)];rfl
theorem rL4 (acc:List Int)(h:acc.length≤1000000):d8 N t true N 0 acc=some (acc++t.Inputs.flatMap wiB):=by
 have hn:=K.ni
 have hl:=aVk K
 refine aAU (f:=d8 N t true) (xs:=t.Inputs) (g:=wiB) (B:=4000000) (by omega) (fun m j acc hj hB=> ?_) (fun m j acc hj=> ?_) N 0 acc (by omega) (by omega) (by rw[aZa];omega)
 ·have ht:=K.wit _ (aYX hj)
  have hs:=vN t.Inputs[j].Witness.length
  rw[d8,dT hj,if_pos rfl,bF t.Inputs hj]
  simp only[aYV,aZP,aY0,if_false]
  rw[aF4 N hN acc _ (show t.Inputs[j].Witness.length≤1000000 by omega) (by omega)]
  simp only[aYV]
  rw[rL6 N hN K _ _ _ ht _ (by rw[aYY];omega)]
  simp only[aYV,w8,i1 (show j≤100000 by omega),wiB,aZ0]
 rw[d8,dF (by omega)];rfl
theorem aFZ :jN N t true=some (aD9 t.Version t.Inputs t.Outputs t.Lock true):=by
 have hn:=K.ni
 have ho:=K.no
 have h1:=vN t.Inputs.length
 have h2:=vN t.Outputs.length
 have h3:=aK2 K
 have h4:=aI0 K
 simp only[jN,aBU N hN [] _ (by simp),aYV,aZp]
 rw[aF4 N hN (sM t.Version) _ (show t.Inputs.length≤1000000 by omega) (by rw[cQ];omega)]
 simp only[aYV]
 rw[rL8 N hN K _ _ (by rw[aYY,cQ];omega)]
 simp only[aYV,rV]
 rw[aF4 N hN _ _ (show t.Outputs.length≤1000000 by omega) (by simp only[aYY,cQ];omega)]
 simp only[aYV]
 rw[rL7 N hN K _ _ (by simp only[aYY,cQ];omega)]
 simp only[aYV,rU]
 rw[aBU N hN _ _ (by simp only[aYY,cQ];omega)]
 simp only[aYV]
 rw[rL4 N hN K _ (by simp only[aYY,cQ];omega)]
 rfl
end
theorem aGh (N:Nat)(hN:70000≤N){t:aG}(K:aLd t.Inputs t.Outputs):k8 N t=some (aIF t.Version t.Inputs t.Outputs t.Lock):=by
 have k1:=K.ni
 have k2:=K.no
 unfold k8 aIF
 rw[show(64:Int)=((64:Nat):Int)from rfl,nle,nle]
 by_cases h:t.Inputs.length≤64
 ·rw[decide_eq_true h]
  simp only[aZP,aY0,if_false,aY6,u9]
  by_cases h2:t.Outputs.length≤64
  ·rw[decide_eq_true h2]
   simp only[aZP,aY0,if_false,aY6]
   have l7:=aF6 (f:=kB N t) (xs:=t.Outputs) (p:=aQk) (r:=false) (fun m j hj=>by
     rw[kB,dT hj,if_pos rfl,bF t.Outputs hj]
     simp only[aYV,show(520:Int)=((520:Nat):Int)from rfl,nle,i1 (show j≤100000 by omega),vF]
     rw[show aQk t.Outputs[j]=(!decide (t.Outputs[j].Value<0)&&decide (t.Outputs[j].Script.length≤520))from rfl]
     cases decide (t.Outputs[j].Value<0)<;>cases decide (t.Outputs[j].Script.length≤520)<;>rfl) (fun m j hj=>by rw[kB,dF (by omega)];rfl) N 0 (by omega) (by omega)
   have l6: ∀(x:Int)(w:bL),w.Witness.length≤32→mB N t x w N 0=some (if(w.Witness.all fun w=>decide (w.length≤520))=true then .brk ()else .ret false):=fun x w hw=>by
    have:=aF6 (f:=mB N t x w) (xs:=w.Witness) (p:=fun w=>decide (w.length≤520)) (r:=false) (fun m j hj=>by
     rw[mB,dT hj,if_pos rfl,bF w.Witness hj]
     simp only[aYV,show(520:Int)=((520:Nat):Int)from rfl,nle,i1 (show j≤100000 by omega)]
     cases decide (w.Witness[j].length≤520)<;>rfl) (fun m j hj=>by rw[mB,dF (by omega)];rfl) N 0 (by omega) (by omega)
    rw[show((0:Nat):Int)=0 from rfl,aZa]at this
    exact this
   have l4:=aF6 (f:=mA N t) (xs:=t.Inputs) (p:=aQt) (r:=false) (fun m j hj=>by
     rw[mA,dT hj,if_pos rfl,bF t.Inputs hj]
     simp only[aYV,show(32:Int)=((32:Nat):Int)from rfl,nle,i1 (show j≤100000 by omega)]
     rw[show aQt t.Inputs[j]=(decide (t.Inputs[j].Witness.length≤32)&&t.Inputs[j].Witness.all fun w=>decide (w.length≤520))from rfl]
     by_cases hw:t.Inputs[j].Witness.length≤32
     ·rw[decide_eq_true hw]
      simp only[aZP,aY0,if_false,aY6,l6 _ _ hw,aYV,aAp]
      cases t.Inputs[j].Witness.all fun w=>decide (w.length≤520)
      ·rfl
      simp only[if_true,i1 (show j≤100000 by omega)]
     rw[decide_eq_false hw];rfl) (fun m j hj=>by rw[mA,dF (by omega)];rfl) N 0 (by omega) (by omega)
   rw[show((0:Nat):Int)=0 from rfl,aZa]at l7 l4
   rw[l7]
   cases t.Outputs.all aQk
   ·rfl
   simp only[aYV,if_true,aAB,l4,aY6]
   cases t.Inputs.all aQt
   ·rfl
   simp only[aYV,if_true,aAE,aFZ N hN K,aY6]
   rw[dle]
  rw[decide_eq_false h2];rfl
 rw[decide_eq_false h];rfl
structure aWv (t:aG):Prop where
 prev: ∀x∈t.Inputs,Byt x.Prev.Tx
 wit: ∀x∈t.Inputs,∀w∈x.Witness,Byt w
 scr: ∀o∈t.Outputs,Byt o.Script
structure TxK (t:aG):Prop where
 k:aLd t.Inputs t.Outputs
 b:aWv t
theorem aCE (w:Nat)(v:Int):Byt (aBr w v):=by
 intro x hx
 simp only[aBr,List.mem_map]at hx
 obtain⟨i,_,rfl⟩:=hx
 exact aDg _
theorem aCD (n:Nat):Byt (szB n):=by
 unfold szB
 split
 ·exact aCE _ _
 split
 ·intro x hx
  rcases aZq.1 hx with rfl|h
  ·omega
  exact aCE _ _ x h
 intro x hx
 rcases aZq.1 hx with rfl|h
 ·omega
 exact aCE _ _ x h
theorem aFN {α:Type}{g:α→List Int}{l:List α}(h: ∀x∈l,Byt (g x)):Byt (l.flatMap g):=by
 intro y hy
 obtain⟨x,hx,hy⟩:=List.mem_flatMap.1 hy
 exact h x hx y hy
theorem aHW :Byt []:=fun _ h=>by cases h
theorem aOD {t:aG}(B:aWv t)(w:Bool):Byt (aD9 t.Version t.Inputs t.Outputs t.Lock w):=by
 unfold aD9
 refine Byt.append (Byt.append (Byt.append (Byt.append (Byt.append (Byt.append (mH _) (aCD _)) (aFN fun x hx=> ?_)) (aCD _)) (aFN fun o ho=> ?_)) (mH _)) ?_
 ·exact((B.prev x hx).append (mH _)).append (mH _)
 ·exact(aCE _ _).append ((aCD _).append (B.scr o ho))
 cases w
 ·exact aHW
 exact aFN fun x hx=>(aCD _).append (aFN fun z hz=>(aCD _).append (B.wit x hx z hz))
section
variable (N:Nat)(hN:70000≤N){t:aG}(T:TxK t)
include hN T
theorem aYz (acc:List Int):d8 N t false N 0 acc=some acc:=by
 obtain⟨m,hm⟩: ∃m,N=m+1:=⟨N-1,by omega⟩
 rw[show d8 N t false N 0 acc=d8 N t false (m+1) 0 acc by rw[←hm]]
 unfold d8
 by_cases h:0<t.Inputs.length
 ·rw[if_pos (decide_eq_true (by omega)),show(0:Int)=((0:Nat):Int)from rfl,bF _ h]
  rfl
 rw[if_neg fun hq=>h (by have:=of_decide_eq_true hq;omega)]
theorem aRq :jN N t false=some (aD9 t.Version t.Inputs t.Outputs t.Lock false):=by
 have K:=T.k
 have hn:=K.ni
 have ho:=K.no
 have h1:=vN t.Inputs.length
 have h2:=vN t.Outputs.length
 have h3:=aK2 K
 have h4:=aI0 K
 simp only[jN,aBU N hN [] _ (by simp),aYV,aZp]
 rw[aF4 N hN (sM t.Version) _ (show t.Inputs.length≤1000000 by omega) (by rw[cQ];omega)]
 simp only[aYV]
 rw[rL8 N hN K _ _ (by rw[aYY,cQ];omega)]
 simp only[aYV,rV]
 rw[aF4 N hN _ _ (show t.Outputs.length≤1000000 by omega) (by simp only[aYY,cQ];omega)]
 simp only[aYV]
 rw[rL7 N hN K _ _ (by simp only[aYY,cQ];omega)]
 simp only[aYV,rU]
 rw[aBU N hN _ _ (by simp only[aYY,cQ];omega)]
 simp only[aYV]
 rw[aYz N hN T]
 simp[wD,aD9]
theorem aNd (h:aIF t.Version t.Inputs t.Outputs t.Lock=true)(w:Bool):(aD9 t.Version t.Inputs t.Outputs t.Lock w).length≤20000:=by
 have h1:(aD9 t.Version t.Inputs t.Outputs t.Lock true).length≤20000:=by
  simp only[aIF,aZg,decide_eq_true_eq]at h
  omega
 cases w
 ·refine aZf ?_ h1
  unfold aD9
  simp
 exact h1
def kD (h:List Int):Prop:=h.length=32∧Byt h
omit hN T in
theorem aPW :kD [0,0,0,0,0,0,0,0,0,0,0,0,0,0,0,0,0,0,0,0,0,0,0,0,0,0,0,0,0,0,0,0]:=⟨rfl,by intro x hx;simp at hx;omega⟩
omit hN T in
theorem aNi (N:Nat)(b:List Int):kD (dbl N b):=⟨aE9 N b,aUV N b⟩
theorem aOx : ∃h,kD h∧aAQ N t=some h:=by
 unfold aAQ
 rw[aGh N hN T.k]
 simp only[aYV]
 cases hf:aIF t.Version t.Inputs t.Outputs t.Lock with
 |false=>exact⟨_,aPW,rfl⟩
 |true=>
  refine⟨dbl N (aD9 t.Version t.Inputs t.Outputs t.Lock false),aNi _ _, ?_⟩
  have:=aNd N hN T hf false
  rw[if_neg (by simp),aRq N hN T]
  simp only[aYV]
  rw[aKr N hN _ (aOD T.b false) (by omega)]
  simp only[aYV,bS (aE9 N _)]
theorem aSM : ∃h,kD h∧aBE N t=some h:=by
 unfold aBE
 rw[aGh N hN T.k]
 simp only[aYV]
 cases hf:aIF t.Version t.Inputs t.Outputs t.Lock with
 |false=>exact⟨_,aPW,rfl⟩
 |true=>
  refine⟨dbl N (aD9 t.Version t.Inputs t.Outputs t.Lock true),aNi _ _, ?_⟩
  have:=aNd N hN T hf true
  rw[if_neg (by simp),aFZ N hN T.k]
  simp only[aYV]
  rw[aKr N hN _ (aOD T.b true) (by omega)]
  simp only[aYV,bS (aE9 N _)]
end
theorem aQw (x y c:Int):sT x y c=sT y x c:=by
 unfold sT
 rw[aZ3 x.toNat y.toNat]
theorem aPw (N:Nat)(a b:List Int)(i:Int): ∀(m:Nat)(c x:Int)(l:List Int),tE N a b i m c x l=dV N a b i m c x l
 |0,_,_,_=>rfl
 |m+1,c,x,l=>by
  unfold tE dV
  simp only[aPw N a b i m,dX]
  split
  ·refine congrArg _ (funext fun p=>congrArg _ (funext fun q=>congrArg _ (funext fun r=>congrArg _ (funext fun t=> ?_))))
   rw[aQw t r.2 0]
  rfl
theorem aPp (N:Nat)(a b:List Int): ∀(m:Nat)(x:Int)(l:List Int),nP N a b m x l=vT N a b m x l
 |0,_,_=>rfl
 |m+1,x,l=>by
  unfold nP vT
  simp only[aPw,aA2,aBo,aEM,aEN,aPp N a b m]
theorem aU0 (N:Nat)(l:List Int):xI N l=aEH N l:=by
 by_cases h:l.length=8
 ·match l,h with
  | [a,b,c,d,e,f,g,h],_=>rfl
 unfold xI aEH
 simp only[bH,if_neg h,Option.bind_none]
theorem aYm (N:Nat)(a b:List Int):aAZ N a b=aGg N a b:=by
 unfold aAZ aGg
 rw[aPp]
 exact congrArg _ (funext fun l=>aU0 N l)
def Ok {α:Type}(x:Option α)(Q:α→Prop):Prop:= ∃r,x=some r∧Q r
theorem Ok.pure {α:Type}{Q:α→Prop}{a:α}(h:Q a):Ok (some a) Q:=⟨a,rfl,h⟩
theorem Ok.bind {α β:Type}{x:Option α}{P:α→Prop}{k:α→Option β}{Q:β→Prop}(h:Ok x P)(g: ∀a,P a→Ok (k a) Q):Ok (x.bind k) Q:=by
 obtain⟨a,rfl,ha⟩:=h
 exact g a ha
theorem Ok.eq {α β:Type}{x:Option α}{a:α}{k:α→Option β}{Q:β→Prop}(h:x=some a)(g:Ok (k a) Q):Ok (x.bind k) Q:=by
 rw[h];exact g
theorem Ok.ite {α:Type}{c:Prop} [Decidable c] {x y:Option α} {Q:α→Prop} (h1:c→Ok x Q) (h2: ¬c→Ok y Q):Ok (if c then x else y) Q:=by
 by_cases h:c
 ·rw[if_pos h];exact h1 h
 rw[if_neg h];exact h2 h
theorem Ok.mono {α:Type}{x:Option α}{P Q:α→Prop}(h:Ok x P)(g: ∀a,P a→Q a):Ok x Q:=by
 obtain⟨a,e,ha⟩:=h
 exact⟨a,e,g a ha⟩
def lrP {α β:Type}(R:β→Prop)(P:α→Prop):LR α β→Prop
 | .ret v=>R v
 | .brk s=>P s
theorem Ok.lr {α β δ:Type}{x:Option (LR α β)}{K:LR α β→Option δ}{R:β→Prop}{P:α→Prop}{Q:δ→Prop}(h:Ok x (lrP R P))(g1: ∀v,R v→Ok (K (.ret v)) Q)(g2: ∀s,P s→Ok (K (.brk s)) Q):Ok (x.bind K) Q:=by
 obtain⟨q,rfl,hq⟩:=h
 cases q with
 |ret v=>exact g1 v hq
 |brk s=>exact g2 s hq
theorem lp {σ ρ:Type}{f:Nat→Nat→σ→Option ρ}{Q:ρ→Prop}(I:Nat→σ→Prop)(n:Nat)
  (step: ∀m j s,j<n→I j s→(∀s',I (j+1) s'→Ok (f m (j+1) s') Q)→Ok (f (m+1) j s) Q)
  (fin: ∀m s,I n s→Ok (f (m+1) n s) Q): ∀(m j:Nat)(s:σ),n-j<m→j≤n→I j s→Ok (f m j s) Q
 |0,_,_,hm,_,_=>by omega
 |m+1,j,s,hm,hj,hI=>by
  by_cases h:j<n
  ·exact step m j s h hI fun s' hs'=>lp I n step fin m (j+1) s' (by omega) (by omega) hs'
  obtain rfl:j=n:=by omega
  exact fin m s hI
theorem hH {α:Type}{by_:Nat}{l m:List α}(hb:by_≤200)(h:l.length+m.length≤1000000):cZ by_ l m=some (l++m):=by
 refine aRF (aZf (aZr h hb) ?_)
 decide
theorem aET {α:Type}{l:List α}{a b:Nat}(h1:a≤b)(h2:b≤l.length):sub l (a:Int) (b:Int)=some ((l.take b).drop a):=by
 unfold sub
 rw[if_pos ⟨by omega,by omega,by omega⟩,aZb,aZb]
theorem aPT (op:BinOp)(a b:Int):0≤bits op .u64 a b∧bits op .u64 a b<18446744073709551616:=by
 unfold bits
 rw[aZs]
 omega
theorem aU9 (op:BinOp)(a b:Int):0≤bits op .u32 a b∧bits op .u32 a b<4294967296:=by
 unfold bits
 rw[IntKind.wrap_u32]
 omega
theorem Wd.set {l:List Int}(h:Wd l)(i:Nat){x:Int}(hx:0≤x∧x<18446744073709551616):Wd (l.set i x):=
 ⟨by rw[List.length_set];exact h.1,fun y hy=>(List.mem_or_eq_of_mem_set hy).elim (h.2 y) (fun e=>e▸hx)⟩
theorem Wd0 :Wd (aYZ 4 0):=⟨rfl,fun x hx=>by have:=aY8 hx;omega⟩
def wP (x:Int):Prop:=0≤x∧x<4294967296
theorem aI1 {k:IntKind}{a:Int}(b:Nat): ∃y,shl k a (b:Int)=some y:=by
 unfold shl;rw[if_neg (by omega)];exact⟨_,rfl⟩
section
variable {N:Nat}(hN:70000≤N)
include hN
theorem aWb {h:List Int}(hl:h.length=32):Ok (sA N h) Wd:=by
 unfold sA
 refine Ok.bind (P:=Wd) ?_ fun r hr=> ?_
 ·refine lp (f:=fun m j l=>iL N h m (j:Int) l) (fun _ l=>Wd l) 32 (fun m j l hj hw ih=> ?_) (fun m l hw=> ?_) N 0 _ (by omega) (by omega) Wd0
  ·unfold iL
   have e1:aYW.wrap (aZx (aYW.wrap (31-(j:Int))) 8)=((3-j/8:Nat):Int):=by
    rw[show 31-(j:Int)=((31-j:Nat):Int) by omega,cL (a:=((31-j:Nat):Int)) (by omega) (by omega),show(8:Int)=((8:Nat):Int)from rfl,iG,cL (by omega) (by omega)]
    omega
   have e2:aYW.wrap (8*(aZc (aYW.wrap (31-(j:Int))) 8))=((8*((31-j)%8):Nat):Int):=by
    rw[show 31-(j:Int)=((31-j:Nat):Int) by omega,cL (a:=((31-j:Nat):Int)) (by omega) (by omega),show aZc ((31-j:Nat):Int) 8=(((31-j)%8:Nat):Int)from gP _ 8,cL (by omega) (by omega)]
    omega
   rw[if_pos (decide_eq_true (by omega)),e1,e2,eE (show 3-j/8<4 by omega) (by have:=hw.1;omega),eE hj (by omega),i1 (by omega)]
   obtain⟨y,hy⟩:=aI1 (k:= .u64) (a:=aZj.wrap h[j]) (8*((31-j)%8))
   simp only[aYV,hy]
   exact ih _ (hw.set _ (aPT _ _ _))
  unfold iL
  exact Ok.pure hw
 unfold r8
 exact Ok.eq (bS hr.1) (Ok.pure hr)
theorem aLr {h:List Int}(hl:h.length=32){b:Int}(hb:wP b):Ok (vU N h b) fun _=>True:=by
 obtain⟨n,rfl⟩: ∃n:Nat,b=(n:Int):=⟨b.toNat,by have:=hb.1;omega⟩
 unfold vU
 refine Ok.eq (aGV hN (show n<4294967296 by have:=hb.2;omega)) (Ok.eq (fW _) ?_)
 refine Ok.ite (fun _=>Ok.eq (bS hl) (Ok.bind (aWb hN hl) fun r hr=> ?_)) (fun _=>Ok.pure trivial)
 obtain⟨k,hk,rfl⟩:=hr.ex
 refine Ok.eq (x:=iJ N _ _) (by rw[aLh,aFV hN hk (aKR n)]) ?_
 exact Ok.pure trivial
theorem aUF {hi lo b:List Int}(h1:Wd hi)(h2:Wd lo)(h3:Wd b):Ok (aDc N hi lo b) fun r=>Wd r.1∧Wd r.2.1:=by
 obtain⟨x,hx,rfl⟩:=h1.ex
 obtain⟨y,hy,rfl⟩:=h2.ex
 obtain⟨z,hz,rfl⟩:=h3.ex
 unfold aDc
 refine Ok.eq (fW _) (Ok.eq (fW _) (Ok.eq (x:=iJ N _ _) (by rw[aLh,aFV hN hz hx]) ?_))
 refine Ok.ite (fun _=>Ok.pure ⟨Wd0,Wd0⟩) (fun _=> ?_)
 refine Ok.bind (P:=fun r=>Wd r.1∧Wd r.2) ?_ fun r hr=> ?_
 ·have:=lp (f:=fun m j (s:List Int×List Int)=>fV N (U y) (U z) m (255-(j:Int)) s.1 s.2) (Q:=fun r=>Wd r.1∧Wd r.2) (fun _ s=>Wd s.1∧Wd s.2) 256 (fun m j s hj hw ih=> ?_) (fun m s hw=> ?_) N 0 (aYZ 4 0,U x) (by omega) (by omega) ⟨Wd0,aGf x⟩
  ·exact this
  ·obtain⟨l2,l3⟩:=s
   obtain⟨hw2,hw3⟩:Wd l2∧Wd l3:=hw
   obtain⟨r,hr,rfl⟩:=hw3.ex
   have n1:aYW.wrap (255-(j:Int)-1)=255-((j+1:Nat):Int):=by rw[cL (by omega) (by omega)];omega
   obtain⟨k,hk,ek⟩: ∃k:Nat,k<256∧255-(j:Int)=(k:Int):=⟨255-j,by omega,by omega⟩
   have j5: ∀(t:Bool)(l3':List Int),Wd l3'→Ok (tY N (U y) (U z) (255-(j:Int)) l2 l3' (fV N (U y) (U z) m) t) fun r=>Wd r.1∧Wd r.2:=by
    intro t l3' hw'
    obtain⟨q,hq,rfl⟩:=hw'.ex
    unfold tY yL
    rw[n1]
    refine Ok.ite (fun _=> ?_) (fun _=>ih (l2,U q) ⟨hw2,hw'⟩)
    refine Ok.eq (fW _) (Ok.eq (aV5 hN hq hz) (Ok.eq (fW _) ?_))
    have d1:aZx (255-(j:Int)) 64=((k/64:Nat):Int):=by rw[ek];exact iG k 64
    have d2:aZc (255-(j:Int)) 64=((k%64:Nat):Int):=by rw[ek];exact gP k 64
    rw[d1,d2,cL (by omega) (by omega),eE (show k/64<4 by omega) (by have:=hw2.1;omega)]
    obtain⟨v,hv⟩:=aI1 (k:= .u64) (a:=1) (k%64)
    simp only[aYV,hv]
    exact ih (l2.set _ _,U _) ⟨hw2.set _ (aPT _ _ _),aGf _⟩
   have j4: ∀(t:Bool)(l3':List Int),Wd l3'→Ok (tV N (U y) (U z) (255-(j:Int)) l2 t (fV N (U y) (U z) m) l3') fun r=>Wd r.1∧Wd r.2:=by
    intro t l3' hw'
    have hw'':=hw'
    obtain⟨q,hq,rfl⟩:=hw''.ex
    unfold tV
    refine Ok.ite (fun _=>j5 _ _ hw') (fun _=> ?_)
    exact Ok.eq (fW _) (Ok.eq (x:=iJ N _ _) (by rw[aLh,aFV hN hq hz]) (j5 _ _ hw'))
   unfold fV
   rw[if_pos (decide_eq_true (by omega))]
   refine Ok.eq (fW _) (Ok.eq (aJg (j:=255) hr (by omega)) (Ok.eq (aRu hN hr hr) (Ok.eq (fW _) (Ok.eq (fW _) ?_))))
   refine Ok.eq (x:=r7 N (U y) (255-(j:Int))) (by rw[ek,aJg hy hk]) ?_
   refine Ok.ite (fun _=> ?_) (fun _=>j4 _ _ (aGf _))
   refine Ok.eq (x:=bK 4 _ 0) rfl ?_
   exact j4 _ _ ((aGf _).set _ (aPT _ _ _))
  unfold fV
  exact Ok.pure hw
 unfold aA3
 exact Ok.eq (bS hr.1.1) (Ok.eq (bS hr.2.1) (Ok.pure hr))
omit hN in
theorem aS3 {a b:Nat}(h:a≤b):(2:Nat)^a≤2^b:=aY3 (by omega) h
theorem aOZ {t:List Int}(ht:Wd t):Ok (u6 N t) wP:=by
 obtain⟨t,h,rfl⟩:=ht.ex
 unfold u6
 refine Ok.eq (fW _) (Ok.eq (aFg h) (Ok.ite (fun _=>Ok.pure ⟨by decide,by decide⟩) fun _=> ?_))
 have j3: ∀(m j u:Nat),1≤j→j≤33→u<oS→(23<256→(j<33→Ok (dR N (U t) m ((j+1:Nat):Int)) (lrP wP fun _=>False)))→(j=33→u<2^16)→Ok (mO N (U t) (j:Int) (dR N (U t) m) (U u)) (lrP wP fun _=>False):=by
  intro m j u h1 h2 hu ih h33
  obtain⟨n,hn,hlen,e⟩:=aPo hN hu
  unfold mO nA
  refine Ok.eq (fW _) (Ok.eq e ?_)
  refine Ok.ite (fun _=> ?_) (fun hq=> ?_)
  ·obtain⟨y,hy⟩:=aI1 (k:= .u32) (a:=IntKind.u32.wrap (j:Int)) 24
   refine Ok.eq hy (Ok.eq (x:=bK 4 _ 0) rfl (Ok.pure ?_))
   exact aU9 _ _ _
  have hq': ¬n≤23:=fun hc=>hq (decide_eq_true (by omega))
  rw[i1 (by omega)]
  refine ih (by omega) ?_
  rcases aZJ j 33 with hlt|hge
  ·exact hlt
  exfalso
  have:=h33 (by omega)
  have h5:=hlen.2 (by omega)
  have h6:2^16≤2^(n-1):=aS3 (by omega)
  omega
 have body: ∀(m j:Nat),1≤j→j≤33→(j<33→Ok (dR N (U t) m ((j+1:Nat):Int)) (lrP wP fun _=>False))→Ok (dR N (U t) (m+1) (j:Int)) (lrP wP fun _=>False):=by
  intro m j h1 h2 ih
  unfold dR
  refine Ok.ite (fun hc=> ?_) (fun hc=> ?_)
  ·have hc':j≤3:=by have:=of_decide_eq_true hc;omega
   have e:aYW.wrap (8*(aYW.wrap (3-(j:Int))))=((8*(3-j):Nat):Int):=by
    rw[cL (a:=3-(j:Int)) (by omega) (by omega),cL (by omega) (by omega)];omega
   rw[e]
   refine Ok.eq (aN4 hN (show 8*(3-j)<256 by omega) h) (Ok.eq (fW _) ?_)
   have hm:t*2^(8*(3-j))%oS<oS:=aZv _ (by decide)
   have k: ∀r,Ok (mC N (U (t*2^(8*(3-j))%oS)) ((8*(3-j):Nat):Int)) r→Ok (mC N (U (t*2^(8*(3-j))%oS)) ((8*(3-j):Nat):Int)) r:=fun _ h=>h
   have hs: ∃u,u<oS∧mC N (U (t*2^(8*(3-j))%oS)) ((8*(3-j):Nat):Int)=some (U u):=by
    by_cases h0:8*(3-j)=0
    ·refine⟨_,hm, ?_⟩
     unfold mC
     rw[if_pos (decide_eq_true (by omega)),fW,aYV]
    exact⟨_,aY5 (aY2 _ _) hm,aJt hN (by omega) (by omega) hm⟩
   obtain⟨u,hu,e2⟩:=hs
   refine Ok.eq e2 (Ok.eq (x:=iJ N _ _) (by rw[aLh,aFV hN hu h]) ?_)
   refine Ok.ite (fun _=> ?_) (fun _=> ?_)
   ·unfold nA
    rw[i1 (by omega)]
    exact ih (by omega)
   exact j3 m j _ h1 h2 hm (fun _=>ih) (fun he=>by omega)
  have hc':3<j:=by
   rcases aZJ 3 j with hl|hl
   ·exact hl
   exact absurd (decide_eq_true (show(j:Int)≤3 by omega)) hc
  have e:aYW.wrap (8*(aYW.wrap ((j:Int)-3)))=((8*(j-3):Nat):Int):=by
   rw[cL (a:=(j:Int)-3) (by omega) (by omega),cL (by omega) (by omega)];omega
  rw[e]
  refine Ok.eq (aJt hN (by omega) (by omega) h) (Ok.eq (fW _) ?_)
  refine j3 m j _ h1 h2 (aY5 (aY2 _ _) h) (fun _=>ih) (fun he=> ?_)
  subst he
  rw[aZm (aZn (by omega))]
  exact aZh h (by decide)
 refine Ok.lr (R:=wP) (P:=fun _=>False) ?_ (fun _ h=>Ok.pure h) (fun _ h=>h.elim)
 have:=lp (f:=fun m j (_:Unit)=>dR N (U t) m ((j+1:Nat):Int)) (Q:=lrP wP fun _=>False) (fun _ _=>True) 32
  (fun m j _ hj _ ih=>body m (j+1) (by omega) (by omega) (fun _=>ih () trivial)) (fun m _ _=>body m 33 (by omega) (by omega) (fun h=>by omega)) N 0 () (by omega) (by omega) trivial
 exact this
end
structure PK (p:aJ):Prop where
 gb:wP p.Genesis.Bits
 lim:Wd p.Limit
 chk:p.Checkpoints=[]
 sub:p.Subsidy=1000
 win:1≤p.Window∧p.Window≤4096
 spc:1≤p.Spacing∧p.Spacing≤1048576
 gp:kD p.Genesis.Prev
 gr:kD p.Genesis.Root
structure aP6 (c:aU):Prop where
 h:kD c.Hash
 b:wP c.Bits
 t:c.Times.length≤100
 hh:0≤c.Height∧c.Height≤1000
structure HdK (h:bT):Prop where
 p:kD h.Prev
 r:kD h.Root
 b:wP h.Bits
def U64r (x:Int):Prop:=0≤x∧x<18446744073709551616
theorem aQm (x:Int):U64r (aZj.wrap x):=by unfold U64r;rw[aZs];omega
theorem wd1 {x:Int}(h:U64r x):Wd [x,0,0,0]:=⟨rfl,fun y hy=>by simp at hy;rcases hy with rfl|rfl|rfl|rfl<;>first|exact h|decide⟩
theorem w0 :wP 0:=⟨by decide,by decide⟩
theorem U64r.ite {c:Prop} [Decidable c] {a b:Int} (h1:U64r a) (h2:U64r b):U64r (if c then a else b):=by split<;>assumption
section
variable {N:Nat}(hN:70000≤N)
include hN
theorem aEr {h:bT}(H:HdK h):Ok (nJ N h) kD:=⟨_,aQQ N hN h H.p.1 H.r.1 H.p.2 H.r.2,aNi _ _⟩
theorem aA0 {p:aJ}(P:PK p):Ok (iT N p) fun _=>True:=by
 obtain⟨L,hL,eL⟩:=P.lim.ex
 have hb:=P.gb
 have hc:p.Checkpoints.length≤1000:=by rw[P.chk];simp
 exact⟨_,aNz hN (b:=p.Genesis.Bits.toNat) (L:=L) (by have:=hb.2;omega) (by have:=hb.1;omega) hL eL hc,trivial⟩
theorem aM3 {p:aJ}(P:PK p){h:Int}(hh: -9223372036854775808≤h∧h≤9223372036854775807):Ok (j9 N p h) fun s=>0≤s∧s≤1000:=by
 obtain⟨L,hL,eL⟩:=P.lim.ex
 have hb:=P.gb
 have hc:p.Checkpoints.length≤1000:=by rw[P.chk];simp
 refine⟨_,aII hN (b:=p.Genesis.Bits.toNat) (L:=L) (by have:=hb.2;omega) (by have:=hb.1;omega) hL eL hc hh, ?_⟩
 split
 ·unfold aNI
  rw[P.sub]
  split
  ·have:=aY2 (1000:Int).toNat (2^(h.toNat/p.Halving.toNat))
   have e:(1000:Int).toNat=1000:=rfl
   rw[e]at this⊢
   generalize 1000/2^(h.toNat/p.Halving.toNat)=z at this⊢
   omega
  omega
 omega
theorem aVd {a b:List Int}(h1:Wd a)(h2:Wd b):Ok (aAZ N a b) fun r=>Wd r.1∧Wd r.2:=by
 obtain⟨x,hx,rfl⟩:=h1.ex
 obtain⟨y,hy,rfl⟩:=h2.ex
 exact⟨_,by rw[aYm,aXJ hN hx hy],aGf _,aGf _⟩
theorem aQs {p:aJ}(P:PK p){vb first last:Int}(hb:wP vb):Ok (xM N p vb first last) fun r=>wP r.1:=by
 have j3: ∀l,Wd l→Ok (oC N l) fun r=>wP r.1:=fun l hl=>by
  unfold oC
  exact Ok.eq (bS hl.1) (Ok.bind (aOZ hN hl) fun r hr=>Ok.pure hr)
 have j2: ∀l,Wd l→Ok (n4 N l) fun r=>wP r.1:=fun l hl=>by
  unfold n4
  have hl':=hl
  obtain⟨x,hx,rfl⟩:=hl'.ex
  refine Ok.eq (fW _) (Ok.eq (aFg hx) (Ok.ite (fun _=> ?_) (fun _=>j3 _ hl)))
  exact Ok.eq (x:=gZ N 1) rfl (Ok.eq (x:=bH 4 _) rfl (j3 _ (wd1 ⟨by decide,by decide⟩)))
 have j4: ∀(q:List Int×List Int×Bool)(t:Bool),Wd q.1→Ok (n8 N p q t) fun r=>wP r.1:=fun q t hq=>by
  unfold n8
  exact Ok.ite (fun _=>Ok.eq (bS P.lim.1) (j2 _ P.lim)) (fun _=>j2 _ hq)
 have j1: ∀(q:List Int×Int)(vZ:Int),Wd q.1→U64r vZ→Ok (n6 N p q vZ) fun r=>wP r.1:=fun q vZ hq hs=>by
  unfold n6
  refine Ok.eq (x:=gZ N _) rfl (Ok.bind (aVd hN hq (wd1 ?_)) fun r hr=> ?_)
  ·exact U64r.ite (aQm _) (U64r.ite (aQm _) hs)
  refine Ok.eq (bS hr.1.1) (Ok.eq (bS hr.2.1) (Ok.eq (x:=gZ N _) rfl (Ok.bind (aUF hN hr.1 hr.2 (wd1 (aQm _))) fun d hd=> ?_)))
  refine Ok.eq (bS hd.1.1) (Ok.eq (bS hd.2.1) (Ok.ite (fun _=>j4 _ _ hd.1) fun _=> ?_))
  obtain⟨x,hx,ex⟩:=hd.1.ex
  obtain⟨y,hy,ey⟩:=P.lim.ex
  exact Ok.eq (bS P.lim.1) (Ok.eq (x:=iJ N _ _) (by rw[aLh,ex,ey,aFV hN hx hy]) (j4 _ _ hd.1))
 unfold xM
 refine Ok.bind (aA0 hN P) fun t _=>Ok.ite (fun _=>Ok.pure w0) fun _=> ?_
 obtain⟨n,rfl⟩: ∃n:Nat,vb=(n:Int):=⟨vb.toNat,by have:=hb.1;omega⟩
 refine Ok.eq (aGV hN (show n<4294967296 by have:=hb.2;omega)) (Ok.eq (fW _) (Ok.ite (fun _=>Ok.pure w0) fun _=> ?_))
 exact Ok.ite (fun _=>j1 _ _ (aGf _) (aQm _)) (fun _=>j1 _ _ (aGf _) ⟨by decide,by decide⟩)
theorem aOC {p:aJ}{c:aU}(P:PK p)(C:aP6 c):Ok (yY N p c) fun r=>wP r.1:=by
 have j1: ∀t:Bool,(t=false→0<c.Times.length)→Ok (kA N p c t) fun r=>wP r.1:=fun t ht=>by
  unfold kA
  refine Ok.ite (fun _=>Ok.pure w0) (fun hf=> ?_)
  have h0:=ht (by cases t;rfl;exact absurd rfl hf)
  have hw:=P.win
  have hr: ∃y,rem (aYW.wrap (c.Height+1)) p.Window=some y:=by
   unfold rem;rw[if_neg (by omega)];exact⟨_,rfl⟩
  obtain⟨y,hy⟩:=hr
  refine Ok.eq hy (Ok.ite (fun _=>Ok.pure C.b) fun _=> ?_)
  have hl:=C.t
  rw[cL (by omega) (by omega),show(c.Times.length:Int)-1=((c.Times.length-1:Nat):Int) by omega]
  exact Ok.eq (bF _ (by omega)) (Ok.bind (aQs hN P C.b) fun r hr=>Ok.pure hr)
 unfold yY
 refine Ok.bind (aA0 hN P) fun t _=> ?_
 refine Ok.ite (fun _=>j1 _ (by simp)) fun _=>Ok.ite (fun _=>j1 _ (by simp)) fun _=>Ok.ite (fun _=>j1 _ (by simp)) fun _=>Ok.ite (fun _=>j1 _ (by simp)) fun h=>j1 _ (fun _=> ?_)
 rcases aY7 c.Times.length with h0|h0
 ·exact absurd (by rw[h0];rfl) h
 exact h0
theorem aJw {l:List Int}(hl:l.length≤1000):Ok (t7 N l) fun _=>True:=by
 unfold t7
 refine Ok.bind (P:=fun r=>r.length≤1000) ?_ fun r hr=> ?_
 ·refine lp (f:=fun m j s=>iA N l m (j:Int) s) (fun j s=>s.length=j) l.length (fun m j s hj hs ih=> ?_) (fun m s hs=> ?_) N 0 [] (by omega) (by omega) rfl
  ·unfold iA
   rw[if_pos (dT hj)]
   refine Ok.eq (bF _ hj) (Ok.bind (P:=fun v=> ∃k:Nat,v=(k:Int)∧k≤s.length) ?_ fun v hv=> ?_)
   ·refine lp (f:=fun m i (_:Unit)=>iC N l (j:Int) s l[j] m (i:Int)) (fun _ _=>True) s.length (fun m i _ hi _ ih=> ?_) (fun m _ _=> ?_) N 0 () (by omega) (by omega) trivial
    ·unfold iC oF
     rw[if_pos (dT hi),i1 (by omega)]
     exact Ok.eq (bF _ hi) (Ok.ite (fun _=>ih () trivial) fun _=>Ok.pure ⟨i,rfl,by omega⟩)
    unfold iC oF
    rw[if_neg (by simp)]
    exact Ok.ite (fun h=>by cases h) fun _=>Ok.pure ⟨s.length,rfl,by omega⟩
   obtain⟨k,rfl,hk⟩:=hv
   unfold wU wQ
   rw[i1 (by omega)]
   refine Ok.eq (aET (a:=0) (aZk k) hk) (Ok.eq (aET hk (aZB _)) (Ok.eq (hH (by omega) (by simp;omega)) (Ok.eq (hH (by omega) (by simp;omega)) (ih _ ?_))))
   simp
   omega
  unfold iA
  rw[if_neg (by simp)]
  exact Ok.pure (by omega)
 unfold wK
 refine Ok.ite (fun _=>Ok.pure trivial) (fun h=> ?_)
 have h0:0<r.length:=by
  rcases aY7 r.length with h0|h0
  ·exact absurd (by rw[h0];rfl) h
  exact h0
 rw[show aZx (r.length:Int) 2=((r.length/2:Nat):Int)from iG _ 2,cL (by omega) (by omega)]
 exact Ok.eq (bF _ (by omega)) (Ok.pure trivial)
theorem aTr {p:aJ}{c:aU}{oV:List Int}{vby:Int}(P:PK p)(C:aP6 c)(R:kD oV):Ok (aCY N p c oV vby) HdK:=by
 unfold aCY
 refine Ok.bind (aOC hN P C) fun x hx=>Ok.eq (bS C.h.1) (Ok.eq (bS R.1) (Ok.bind (aJw hN (by have:=C.t;omega)) fun y _=> ?_))
 have hd: ∀n t,HdK (bT.mk p.Version c.Hash oV t x.1 n):=fun n t=>⟨C.h,R,hx⟩
 refine Ok.lr (R:=HdK) (P:=fun _=>True) ?_ (fun v hv=>Ok.pure hv) fun s _=>Ok.pure (hd _ _)
 refine lp (f:=fun m j (_:Unit)=>qJ N p c oV vby x y m (j:Int)) (fun _ _=>True) 20000 (fun m j _ hj _ ih=> ?_) (fun m _ _=> ?_) N 0 () (by omega) (by omega) trivial
 ·unfold qJ
  rw[if_pos (decide_eq_true (by omega))]
  refine Ok.bind (aEr hN (hd _ _)) fun h hh=>Ok.bind (aLr hN hh.1 hx) fun t _=>Ok.ite (fun _=>Ok.pure (hd _ _)) fun _=> ?_
  rw[aWX (by omega) (by omega)]
  exact ih () trivial
 unfold qJ
 rw[if_neg (by decide)]
 exact Ok.pure trivial
end
def ScrK (s:List Int):Prop:= ∃k:Nat,1≤k∧k≤6∧s=[1,1,(k:Int),5]
def aQF (o:bA):Prop:=ScrK o.Script∧0≤o.Value∧o.Value≤2000
structure uP (c:aC):Prop where
 o:OkO c.Out
 p:aQF c.Output
structure InM (x:bL):Prop where
 p:OkO x.Prev
 w:x.Witness=[]∨ ∃k:Nat,1≤k∧k≤6∧x.Witness=[[(k:Int)]]
structure TxM (t:aG):Prop where
 i: ∃x,t.Inputs=[x]∧InM x
 n:t.Outputs.length≤2
 o: ∀o∈t.Outputs,aQF o
theorem ScrK.len {s:List Int}(h:ScrK s):s.length=4:=by obtain⟨k,_,_,rfl⟩:=h;rfl
theorem ScrK.byt {s:List Int}(h:ScrK s):Byt s:=by
 obtain⟨k,h1,h2,rfl⟩:=h
 intro x hx
 simp at hx
 omega
theorem InM.wit {x:bL}(h:InM x):x.Witness.length≤1∧ ∀w∈x.Witness,w.length=1∧Byt w:=by
 rcases h.w with e|⟨k,h1,h2,e⟩
 ·rw[e];exact⟨by simp,fun w hw=>by simp at hw⟩
 rw[e]
 refine⟨by simp,fun w hw=> ?_⟩
 simp at hw
 subst hw
 refine⟨rfl,fun x hx=> ?_⟩
 simp at hx
 omega
theorem TxM.k {t:aG}(T:TxM t):TxK t:=by
 obtain⟨x,hi,hx⟩:=T.i
 have hw:=hx.wit
 have hn:=T.n
 refine⟨⟨by rw[hi];simp,by omega,fun y hy=> ?_,fun o ho=>by rw[(T.o o ho).1.len];omega,fun y hy=> ?_⟩,⟨fun y hy=> ?_,fun y hy w h=> ?_,fun o ho=>(T.o o ho).1.byt⟩⟩
 all_goals
  rw[hi]at hy
  obtain rfl:=aY1.1 hy
 ·exact⟨by omega,fun w h=>by have:=(hw.2 w h).1;omega⟩
 ·exact hx.p.1
 ·exact hx.p.2
 exact(hw.2 w h).2
def TxQ (j:Nat)(s:Int×List aG×List aC):Prop:=
 (0≤s.1∧s.1≤2*(j:Int))∧(s.2.1.length≤j∧ ∀t∈s.2.1,TxM t)∧s.2.2.length≤500+2*j∧ ∀c∈s.2.2,uP c
section
variable {N:Nat}(hN:70000≤N)
include hN
theorem aFO {v:Int}(h:0≤v∧v<256):Ok (vL N v) ScrK:=by
 refine⟨_,rfl,1+v.toNat%6,by omega,by omega, ?_⟩
 obtain⟨n,rfl⟩: ∃n:Nat,v=(n:Int):=⟨v.toNat,by omega⟩
 rw[show aZc (n:Int) 6=((n%6:Nat):Int)from gP n 6,aZb]
 rw[show aZU.wrap (1+((n%6:Nat):Int))=1+((n%6:Nat):Int) by rw[aZT];omega]
 simp
theorem aQP {c:aC}(C:uP c){vs:Int}(h:0≤vs∧vs<256):Ok (aBR N c vs) fun r=>TxM (aG.mk r.1 r.2.1 r.2.2.1 r.2.2.2.1)∧0≤r.2.2.2.2∧r.2.2.2.2≤2:=by
 obtain⟨F,hF⟩: ∃F,F=(if c.Output.Value<aYW.wrap (aZc vs 3)then c.Output.Value else aYW.wrap (aZc vs 3)):=⟨_,rfl⟩
 obtain⟨hs,hv⟩:=C.p
 obtain⟨n,rfl⟩: ∃n:Nat,vs=(n:Int):=⟨vs.toNat,by omega⟩
 have hF':0≤F∧F≤2∧F≤c.Output.Value:=by
  rw[show aZc (n:Int) 3=((n%3:Nat):Int)from gP n 3,cL (by omega) (by omega)]at hF
  split at hF<;>omega
 obtain⟨k,k1,k2,ek⟩:=hs
 have j1: ∀(first:Int)(l:List bA),0≤first→first≤2000→l.length≤1→(∀o∈l,aQF o)→Ok (rG N c (n:Int) [[(k:Int)]] first l) fun r=>TxM (aG.mk r.1 r.2.1 r.2.2.1 r.2.2.2.1)∧0≤r.2.2.2.2∧r.2.2.2.2≤2:=by
  intro first l f0 f1 hl ho
  unfold rG
  rw[←hF]
  refine Ok.bind (aFO hN (aDg _)) fun s hs=>Ok.eq (hH (by omega) (by simp;omega)) (Ok.pure ⟨⟨⟨_,rfl,C.o,.inr ⟨k,k1,k2,rfl⟩⟩,by simp;omega,fun o h=> ?_⟩,hF'.1,hF'.2.1⟩)
  rcases aY4.1 h with h|h
  ·exact ho o h
  obtain rfl:=aY1.1 h
  exact⟨hs,f0,f1⟩
 unfold aBR
 refine Ok.eq (a:=[[(k:Int)]]) (by rw[ek];rfl) ?_
 rw[←hF,cL (a:=c.Output.Value-F) (by omega) (by omega)]
 obtain⟨m,hm⟩: ∃m:Nat,c.Output.Value-F=(m:Int):=⟨(c.Output.Value-F).toNat,by omega⟩
 rw[hm,show aZx (m:Int) 3=((m/3:Nat):Int)from iG m 3,cL (a:=((m/3:Nat):Int)) (by omega) (by omega),cL (by omega) (by omega)]
 refine Ok.ite (fun _=> ?_) (fun _=>j1 _ _ (by omega) (by omega) (by simp) (fun o h=>by simp at h))
 refine Ok.bind (aFO hN (aDg _)) fun s hs=>Ok.eq (hH (by omega) (by simp)) (j1 _ _ (by omega) (by omega) (by simp) (fun o h=> ?_))
 rw[aZp]at h
 obtain rfl:=aY1.1 h
 exact⟨hs,by simp only;omega,by simp only;omega⟩
theorem aVl {p:aJ}{l:aF}(hn:l.Coins.length≤500)(hc: ∀c∈l.Coins,uP c){vs:Int}(h:0≤vs∧vs<256):
  Ok (o8 N p l vs) fun r=>r.1.length≤3∧(∀t∈r.1,TxM t)∧0≤r.2∧r.2≤6:=by
 obtain⟨v,rfl⟩: ∃v:Nat,vs=(v:Int):=⟨vs.toNat,by omega⟩
 unfold o8
 refine Ok.eq (hH (by omega) (by simp;omega)) (Ok.bind (P:=fun r=>(0≤r.1∧r.1≤6)∧r.2.length≤3∧ ∀t∈r.2,TxM t) ?_ fun r hr=>Ok.pure ⟨hr.2.1,hr.2.2,hr.1⟩)
 rw[aZp]
 have:=lp (f:=fun m j (s:Int×List aG×List aC)=>fM N p l (v:Int) m s.1 (j:Int) s.2.1 s.2.2) (Q:=fun r=>(0≤r.1∧r.1≤6)∧r.2.length≤3∧ ∀t∈r.2,TxM t)
  TxQ (v%4) (fun m j s hj hs ih=> ?_) (fun m s hs=> ?_) N 0 (0,[],l.Coins) (by omega) (by omega) ⟨⟨by simp,by simp⟩,⟨by simp,by simp⟩,by simpa using hn,hc⟩
 ·exact this
 ·obtain⟨fees,l2,l3⟩:=s
  obtain⟨⟨f0,f1⟩,⟨n2,t2⟩,n3,c3⟩:(0≤fees∧fees≤2*j)∧(l2.length≤j∧ ∀t∈l2,TxM t)∧l3.length≤500+2*j∧ ∀c∈l3,uP c:=hs
  unfold fM
  rw[show aZc (v:Int) 4=((v%4:Nat):Int)from gP v 4,if_pos (dT hj)]
  refine Ok.bind (P:=TxQ (j+1)) ?_ fun s hs=> ?_
  ·have j7: ∀(x:Int×List bL×List bA×Int×Int)(txs:List aG)(cs:List aC)(rec:Int→Option (Int×List aG×List aC)),TxM (aG.mk x.1 x.2.1 x.2.2.1 x.2.2.2.1)→0≤x.2.2.2.2→x.2.2.2.2≤2→(txs.length≤j+1∧ ∀t∈txs,TxM t)→cs.length≤500+2*j→(∀c∈cs,uP c)→
     Ok (iX N p l (v:Int) fees (j:Int) x txs rec cs) (TxQ (j+1)):=by
    intro x txs cs rec T g0 g1 ht hcs hcm
    unfold iX
    obtain⟨id,hid,eid⟩:=aOx N hN T.k
    refine Ok.eq eid (Ok.eq (bS hid.1) (Ok.bind (P:=fun r=>r.length≤cs.length+x.2.2.1.length∧ ∀c∈r,uP c) ?_ fun r hr=> ?_))
    ·have ho:=T.n
     refine lp (f:=fun m i r=>gR N p l (v:Int) fees (j:Int) x txs id m (i:Int) r) (fun i r=>r.length≤cs.length+i∧ ∀c∈r,uP c) x.2.2.1.length (fun m i r hi hr ih=> ?_) (fun m r hr=> ?_) N 0 cs (by simp only at ho;omega) (by omega) ⟨by omega,hcm⟩
     ·unfold gR
      rw[if_pos (dT hi)]
      simp only at ho
      refine Ok.eq (bF _ hi) (Ok.eq (hH (by omega) (by have:=hr.1;simp;omega)) ?_)
      rw[i1 (by omega)]
      refine ih _ ⟨by have:=hr.1;simp;omega,fun c hc=> ?_⟩
      rcases aY4.1 hc with hc|hc
      ·exact hr.2 c hc
      obtain rfl:=aY1.1 hc
      exact⟨hid,T.o _ (aYX hi)⟩
     unfold gR
     rw[if_neg (by simp)]
     exact Ok.pure hr
    unfold pI
    have ho:=T.n
    simp only at ho
    rw[cL (by omega) (by omega)]
    exact Ok.pure ⟨⟨by simp only;omega,by simp only;omega⟩,ht,by have:=hr.1;simp only;omega,hr.2⟩
   refine lp (f:=fun m i (_:Unit)=>cU N p l (v:Int) fees (j:Int) l2 l3 m (i:Int)) (fun _ _=>True) l3.length (fun m i _ hi _ ih=> ?_) (fun m _ _=> ?_) N 0 () (by omega) (by omega) trivial
   ·have j6: ∀(a:Nat)(ha:a<l3.length)(t:Bool),Ok (iW N p l (v:Int) fees (j:Int) l2 l3 (i:Int) (a:Int) l3[a] (cU N p l (v:Int) fees (j:Int) l2 l3 m) t) (TxQ (j+1)):=by
     intro a ha t
     unfold iW pC
     rw[i1 (by omega)]
     refine Ok.ite (fun _=>ih () trivial) fun _=>Ok.bind (aQP hN (c3 _ (aYX ha)) (aDg _)) fun x hx=>Ok.eq (hH (by omega) (by simp;omega)) ?_
     have ht:(l2++[aG.mk x.1 x.2.1 x.2.2.1 x.2.2.2.1]).length≤j+1∧ ∀t∈l2++[aG.mk x.1 x.2.1 x.2.2.1 x.2.2.2.1],TxM t:=by
      refine⟨by simp;omega,fun t ht=> ?_⟩
      rcases aY4.1 ht with ht|ht
      ·exact t2 t ht
      obtain rfl:=aY1.1 ht
      exact hx.1
     refine Ok.ite (fun _=> ?_) (fun _=> ?_)
     ·refine Ok.eq (aET (a:=0) (aZk a) (by omega)) (Ok.eq (hH (by omega) (by simp;omega)) (j7 _ _ _ _ hx.1 hx.2.1 hx.2.2 ht (by simp;omega) fun c hc=>c3 c ?_))
      simp at hc
      exact aZE hc
     rw[i1 (by omega)]
     refine Ok.eq (aET (a:=0) (aZk a) (by omega)) (Ok.eq (aET (show a+1≤l3.length by omega) (aZB _)) (Ok.eq (hH (by omega) (by simp;omega)) (j7 _ _ _ _ hx.1 hx.2.1 hx.2.2 ht (by simp;omega) fun c hc=>c3 c ?_)))
     simp at hc
     rcases hc with hc|hc
     ·exact aZE hc
     exact List.mem_of_mem_drop hc
    unfold cU
    rw[if_pos (dT hi),show aZx (v:Int) 4=((v/4:Nat):Int)from iG v 4]
    have e:aYW.wrap (aYW.wrap (aYW.wrap (aZU.wrap ((v/4:Nat):Int))+aYW.wrap (j:Int))+(i:Int))=((v/4+j+i:Nat):Int):=by
     rw[show aZU.wrap ((v/4:Nat):Int)=((v/4:Nat):Int) by rw[aZT];omega,cL (a:=((v/4:Nat):Int)) (by omega) (by omega),cL (a:=(j:Int)) (by omega) (by omega),cL (a:=((v/4:Nat):Int)+(j:Int)) (by omega) (by omega),cL (by omega) (by omega)]
     omega
    have ha:(v/4+j+i)%l3.length<l3.length:=aZv _ (by omega)
    rw[e]
    refine Ok.eq (a:=(((v/4+j+i)%l3.length:Nat):Int)) (by unfold rem;rw[if_neg (by omega),gP]) (Ok.eq (bF _ ha) ?_)
    exact Ok.ite (fun _=>j6 _ ha _) (fun _=>j6 _ ha _)
   unfold cU
   rw[if_neg (by simp)]
   exact Ok.pure ⟨⟨f0,by simp only;omega⟩,⟨by simp only;omega,t2⟩,by simp only;omega,c3⟩
  unfold pF
  rw[show aZU.wrap ((j:Int)+1)=((j+1:Nat):Int) by rw[aZT];omega]
  exact ih (s.1,s.2.1,s.2.2) hs
 unfold fM
 rw[show aZc (v:Int) 4=((v%4:Nat):Int)from gP v 4,if_neg (by simp)]
 exact Ok.pure ⟨⟨hs.1.1,by have:=hs.1.2;simp only;omega⟩,by have:=hs.2.1.1;simp only;omega,hs.2.1.2⟩
end
def aSv (l:List aG):Prop:=l.length≤4∧ ∀t∈l,TxM t
structure aIK (b:aV):Prop where
 h:HdK b.Header
 t:aSv b.Txs
 n:0<b.Txs.length
structure aVI (l:aF):Prop where
 n:l.Coins.length≤500
 c: ∀c∈l.Coins,uP c
 h:0≤l.Height∧l.Height≤1000
 t:kD l.Tip
theorem lpU {ρ:Type}{f:Nat→Nat→Option ρ}{Q:ρ→Prop}(n:Nat)(step: ∀m j,j<n→Ok (f m (j+1)) Q→Ok (f (m+1) j) Q)(fin: ∀m,Ok (f (m+1) n) Q): ∀(m j:Nat),n-j<m→j≤n→Ok (f m j) Q:=
 fun m j h1 h2=>lp (f:=fun m j (_:Unit)=>f m j) (fun _ _=>True) n (fun m j _ hj _ ih=>step m j hj (ih () trivial)) (fun m _ _=>fin m) m j () h1 h2 trivial
theorem aH1 {l:List (List Int)}(h: ∀x∈l,kD x):aHu 32 l=some l:=by
 unfold aHu
 rw[if_pos]
 rw[aZ4]
 intro x hx
 simpa using (h x hx).1
section
variable {N:Nat}(hN:70000≤N)
include hN
theorem aN2 {ls:List (List Int)}(h:ls.length≤100)(hx: ∀x∈ls,x.length≤1000):nN N ls=some ls.flatten:=by
 have:Ok (nN N ls) fun r=>r=ls.flatten:=by
  unfold nN
  refine Ok.bind (P:=fun r=>r=ls.flatten) ?_ fun r hr=> ?_
  ·refine lp (f:=fun m j s=>o5 N ls m (j:Int) s) (fun j s=>s=(ls.take j).flatten∧s.length≤j*1000) ls.length (fun m j s hj hs ih=> ?_) (fun m s hs=> ?_) N 0 [] (by omega) (by omega) ⟨by simp,by simp⟩
   ·unfold o5
    rw[if_pos (dT hj),i1 (by omega)]
    have hl:=hx _ (aYX hj)
    refine Ok.eq (bF _ hj) (Ok.eq (nZ N s _ (by omega)) (ih _ ⟨?_,by rw[aYY];omega⟩))
    rw[aZe hj,List.flatten_append,←hs.1]
    simp
   unfold o5
   rw[if_neg (by simp)]
   refine Ok.pure ?_
   rw[hs.1,aZD]
  exact Ok.pure hr
 obtain⟨r,h1,rfl⟩:=this
 exact h1
theorem aSS {l r:List Int}(h1:kD l)(h2:kD r):Ok (aBh N l r) kD:=by
 unfold aBh
 refine Ok.eq (bS h1.1) (Ok.eq (bS h2.1) (Ok.eq (aN2 hN (by simp) (fun x hx=> ?_)) ?_))
 ·simp at hx
  rcases hx with rfl|rfl|rfl
  ·simp
  ·rw[h1.1];omega
  rw[h2.1];omega
 refine Ok.eq (aAV N hN _ ?_ ?_) (Ok.eq (bS (eT _ _)) (Ok.pure ⟨eT _ _,pE _ _⟩))
 ·intro x hx
  simp at hx
  rcases hx with rfl|hx|hx
  ·omega
  ·exact h1.2 x hx
  exact h2.2 x hx
 simp[h1.1,h2.1]
def LvK (x:List (List Int)):Prop:=0<x.length∧ ∀h∈x,kD h
theorem aRo {l:List (List Int)}(hl:l.length≤4)(hh: ∀h∈l,kD h):Ok (aCc N l) kD:=by
 have j1: ∀t:Bool,(t=false→0<l.length)→Ok (rH N l t) kD:=by
  intro t ht
  unfold rH
  refine Ok.ite (fun _=>Ok.pure aPW) fun hf=> ?_
  have h0:=ht (by cases t;rfl;exact absurd rfl hf)
  refine Ok.bind (P:=fun r=>(0<r.length∧r.length≤100)∧ ∀x∈r,LvK x) ?_ fun r hr=> ?_
  ·unfold aBs
   refine Ok.bind (P:=fun r=>(0<r.length∧r.length≤100)∧ ∀x∈r,LvK x) ?_ fun r hr=>Ok.pure hr
   have:=lp (f:=fun m j (s:List (List Int)×List (List (List Int)))=>jD N m s.1 s.2) (Q:=fun r=>(0<r.length∧r.length≤100)∧ ∀x∈r,LvK x)
    (fun j s=>(LvK s.1∧s.1.length+j≤4)∧(0<s.2.length∧s.2.length≤j+1)∧ ∀x∈s.2,LvK x) 3 (fun m j s hj hs ih=> ?_) (fun m s hs=> ?_) N 0 (l,[l]) (by omega) (by omega) ⟨⟨⟨h0,hh⟩,by simp only;omega⟩,by simp,fun x hx=>by simp at hx;subst hx;exact⟨h0,hh⟩⟩
   ·exact this
   ·obtain⟨l1,l0⟩:=s
    obtain⟨⟨k1,k2⟩,k3,k4⟩:(LvK l1∧l1.length+j≤4)∧(0<l0.length∧l0.length≤j+1)∧ ∀x∈l0,LvK x:=hs
    unfold jD
    refine Ok.ite (fun hc=> ?_) (fun _=>Ok.pure ⟨⟨k3.1,by simp only;omega⟩,k4⟩)
    have hc':1<l1.length:=by have h9:(1:Int)<(l1.length:Int):=of_decide_eq_true hc;omega
    refine Ok.bind (P:=fun r=>r.length=(l1.length+1)/2∧ ∀h∈r,kD h) ?_ fun r hr=> ?_
    ·refine lp (f:=fun m i s=>gE N l1 l0 m ((2*i:Nat):Int) s) (fun i s=>s.length=i∧ ∀h∈s,kD h) ((l1.length+1)/2) (fun m i s hi hs ih=> ?_) (fun m s hs=> ?_) N 0 [] (by omega) (by omega) ⟨rfl,by simp⟩
     ·have add: ∀x,kD x→Ok (oD N l1 l0 ((2*i:Nat):Int) (gE N l1 l0 m) (s++[x])) fun r=>r.length=(l1.length+1)/2∧ ∀h∈r,kD h:=by
       intro x hx
       unfold oD
       rw[cL (by omega) (by omega),show((2*i:Nat):Int)+2=((2*(i+1):Nat):Int) by omega]
       refine ih _ ⟨by simp[hs.1],fun h hh=> ?_⟩
       rcases aY4.1 hh with hh|hh
       ·exact hs.2 h hh
       obtain rfl:=aY1.1 hh;exact hx
      have a1:=k1.2 _ (aYX (show 2*i<l1.length by omega))
      unfold gE
      rw[if_pos (dT (show 2*i<l1.length by omega)),i1 (by omega)]
      refine Ok.ite (fun hc2=> ?_) (fun _=> ?_)
      ·have hc3:2*i+1<l1.length:=by have:=of_decide_eq_true hc2;omega
       have a2:=k1.2 _ (aYX hc3)
       exact Ok.eq (bF _ (show 2*i<l1.length by omega)) (Ok.eq (bS a1.1) (Ok.eq (bF _ hc3) (Ok.eq (bS a2.1) (Ok.bind (aSS hN a1 a2) fun x hx=>Ok.eq (bS hx.1) (Ok.eq (hH (by omega) (by simp;omega)) (add x hx))))))
      exact Ok.eq (bF _ (show 2*i<l1.length by omega)) (Ok.eq (bS a1.1) (Ok.eq (hH (by omega) (by simp;omega)) (add _ a1)))
     unfold gE
     rw[if_neg (by simp;omega)]
     exact Ok.pure hs
    unfold wH
    refine Ok.eq (aH1 hr.2) (Ok.eq (hH (by omega) (by simp;omega)) (ih (r,l0++[r]) ⟨⟨⟨by rw[hr.1];omega,hr.2⟩,by simp only;omega⟩,by simp;omega,fun x hx=> ?_⟩))
    rcases aY4.1 hx with hx|hx
    ·exact k4 x hx
    obtain rfl:=aY1.1 hx
    exact⟨by rw[hr.1];omega,hr.2⟩
   unfold jD
   rw[if_neg (by have:=hs.1.2;simp;omega)]
   exact Ok.pure ⟨⟨hs.2.1.1,by have:=hs.2.1.2;omega⟩,hs.2.2⟩
  rw[cL (by omega) (by omega),show(r.length:Int)-1=((r.length-1:Nat):Int) by omega]
  have a:=hr.2 _ (aYX (show r.length-1<r.length by omega))
  have b:=a.2 _ (aYX a.1)
  exact Ok.eq (bF _ (by omega)) (Ok.eq (bF (i:=0) _ a.1) (Ok.eq (bS b.1) (Ok.pure b)))
 unfold aCc
 refine Ok.ite (fun _=>j1 _ (by simp)) fun h=>j1 _ fun _=> ?_
 rcases aY7 l.length with h0|h0
 ·exact absurd (by rw[h0];rfl) h
 exact h0
theorem aNJ {l:List aG}(T:aSv l):Ok (yR N l) kD:=by
 have hn:=T.1
 unfold yR
 refine Ok.bind (P:=fun r=>r.length=l.length∧ ∀h∈r,kD h) ?_ fun r hr=> ?_
 ·refine lp (f:=fun m j s=>oW N l m (j:Int) s) (fun j s=>s.length=j∧ ∀h∈s,kD h) l.length (fun m j s hj hs ih=> ?_) (fun m s hs=> ?_) N 0 [] (by omega) (by omega) ⟨rfl,by simp⟩
  ·unfold oW
   rw[if_pos (dT hj),i1 (by omega)]
   obtain⟨h,hh,e⟩:=aSM N hN (T.2 _ (aYX hj)).k
   refine Ok.eq (bF _ hj) (Ok.eq e (Ok.eq (bS hh.1) (Ok.eq (hH (by omega) (by simp;omega)) (ih _ ⟨by simp[hs.1],fun x hx=> ?_⟩))))
   rcases aY4.1 hx with hx|hx
   ·exact hs.2 x hx
   obtain rfl:=aY1.1 hx;exact hh
  unfold oW
  rw[if_neg (by simp)]
  exact Ok.pure hs
 unfold aAD
 exact Ok.eq (aH1 hr.2) (Ok.bind (aRo hN (by omega) hr.2) fun x hx=>Ok.eq (bS hx.1) (Ok.pure hx))
theorem aQU {p:aJ}{l:aF}{c:aU}(P:PK p)(L:aVI l)(C:aP6 c){vs:Int}(h:0≤vs∧vs<256):Ok (aBd N p l c vs) aIK:=by
 have hh:=L.h
 unfold aBd
 refine Ok.bind (aVl hN L.n L.c h) fun r hr=> ?_
 rw[cL (a:=l.Height+1) (by omega) (by omega)]
 refine Ok.bind (aM3 hN P (by omega)) fun s hs=>Ok.bind (aFO hN (aDg _)) fun sc hsc=> ?_
 rw[cL (a:=s+r.2) (by omega) (by omega)]
 refine Ok.eq (x:=aAx N _ _ _) rfl (Ok.eq (hH (by omega) (by simp;omega)) ?_)
 have T:aSv ([aG.mk 1 [(bL.mk (aI.mk (aYZ 32 0) 4294967295) (IntKind.u32.wrap (l.Height+1)) [])] [(bA.mk (s+r.2) sc)] 0]++r.1):=by
  refine⟨by simp;omega,fun t ht=> ?_⟩
  rcases aY4.1 ht with ht|ht
  ·obtain rfl:=aY1.1 ht
   refine⟨⟨_,rfl,⟨by simp,fun x hx=> ?_⟩,.inl rfl⟩,by simp,fun o ho=> ?_⟩
   ·have:=aY8 hx;omega
   obtain rfl:=aY1.1 ho
   exact⟨hsc,by simp only;omega,by simp only;omega⟩
  exact hr.2.1 t ht
 exact Ok.bind (aNJ hN T) fun oV hroot=>Ok.eq (x:=aA1 N vs) rfl (Ok.bind (aTr hN P C hroot) fun hd hhd=>Ok.pure ⟨hhd,T,by simp⟩)
theorem aHE {t:aG}(T:TxM t):Ok (k8 N t) fun _=>True:=⟨_,aGh N hN T.k.k,trivial⟩
theorem aPY {t:aG}(T:TxM t):Ok (xA N t true) fun r=>r.1.length≤20000:=by
 unfold xA
 refine Ok.eq (aGh N hN T.k.k) ?_
 cases hf:aIF t.Version t.Inputs t.Outputs t.Lock with
 |false=>exact Ok.pure (by simp)
 |true=>exact Ok.eq (aFZ N hN T.k.k) (Ok.pure (aNd N hN T.k hf true))
theorem aQx {b:aV}(B:aIK b):Ok (aBN N b) fun _=>True:=by
 have hn:=B.t.1
 unfold aBN
 refine Ok.ite (fun _=>Ok.pure trivial) fun _=>Ok.lr (R:=fun _=>True) (P:=fun _=>True) ?_ (fun v _=>Ok.pure trivial) fun _ _=> ?_
 ·refine lpU (f:=fun m j=>oQ N b m (j:Int)) b.Txs.length (fun m j hj ih=> ?_) (fun m=> ?_) N 0 (by omega) (by omega)
  ·unfold oQ
   rw[if_pos (dT hj),i1 (by omega)]
   exact Ok.eq (bF _ hj) (Ok.bind (aHE hN (B.t.2 _ (aYX hj))) fun t _=>Ok.ite (fun _=>Ok.pure trivial) fun _=>ih)
  unfold oQ
  rw[if_neg (by simp)]
  exact Ok.pure trivial
 unfold aAy
 refine Ok.bind (P:=fun _=>True) ?_ fun r _=>Ok.pure trivial
 unfold aBT
 refine Ok.eq (aPC N hN b.Header B.h.p.1 B.h.r.1) (Ok.eq (aF4 N hN _ _ (show b.Txs.length≤1000000 by omega) (by rw[aHQ B.h.p.1 B.h.r.1];omega)) ?_)
 refine Ok.bind (P:=fun _=>True) ?_ fun r _=>Ok.pure trivial
 have hz:=vN b.Txs.length
 refine lp (f:=fun m j s=>lI N b m (j:Int) s) (fun j s=>s.length≤100+j*20000) b.Txs.length (fun m j s hj hs ih=> ?_) (fun m s hs=> ?_) N 0 _ (by omega) (by omega) (by rw[aYY,aHQ B.h.p.1 B.h.r.1];omega)
 ·unfold lI
  rw[if_pos (dT hj),i1 (by omega)]
  exact Ok.eq (bF _ hj) (Ok.bind (aPY hN (B.t.2 _ (aYX hj))) fun r hr=>Ok.eq (hH (by omega) (by omega)) (ih _ (by rw[aYY];omega)))
 unfold lI
 rw[if_neg (by simp)]
 exact Ok.pure trivial
theorem aBP {t:aG}:Ok (kY N t) fun _=>True:=by
 unfold kY
 refine Ok.ite (fun h=> ?_) fun _=>Ok.pure trivial
 have h1:(t.Inputs.length:Int)=1:=by simpa using h
 exact Ok.eq (bF (i:=0) _ (by omega)) (Ok.eq (x:=zO N _) rfl (Ok.pure trivial))
theorem aJL {t:aG}(T:TxM t):Ok (vX N t) fun _=>True:=by
 obtain⟨x,hi,_⟩:=T.i
 have hni:t.Inputs.length=1:=by rw[hi];rfl
 have hno:=T.n
 unfold vX
 refine Ok.bind (aHE hN T) fun f _=>Ok.ite (fun _=>Ok.pure trivial) fun _=> ?_
 have j3:Ok (tO N t) fun _=>True:=by
  unfold tO
  refine Ok.lr (R:=fun _=>True) (P:=fun _=>True) ?_ (fun v _=>Ok.pure trivial) fun _ _=>Ok.pure trivial
  refine lpU (f:=fun m j=>gY N t m (j:Int)) t.Inputs.length (fun m j hj ih=> ?_) (fun m=> ?_) N 0 (by omega) (by omega)
  ·have j6: ∀b:Bool,Ok (pV N t (j:Int) (gY N t m) b) (lrP (fun _=>True) fun _=>True):=fun b=>by
    unfold pV
    rw[i1 (by omega)]
    exact Ok.ite (fun _=>Ok.pure trivial) fun _=>ih
   unfold gY
   rw[if_pos (dT hj)]
   exact Ok.eq (bF _ hj) (Ok.eq (x:=zO N _) rfl (Ok.ite (fun _=>Ok.bind (aBP hN) fun c _=>j6 _) fun _=>j6 _))
  unfold gY
  rw[if_neg (by simp)]
  exact Ok.pure trivial
 have j2: ∀s,Ok (tI N t s) fun _=>True:=fun s=>by
  unfold tI
  refine Ok.ite (fun _=>Ok.pure trivial) fun _=>Ok.lr (R:=fun _=>True) (P:=fun _=>True) ?_ (fun v _=>Ok.pure trivial) fun _ _=>j3
  refine lpU (f:=fun m j=>kW N t m (j:Int)) t.Inputs.length (fun m j hj ih=> ?_) (fun m=> ?_) N 0 (by omega) (by omega)
  ·unfold kW yU
   rw[if_pos (dT hj),i1 (by omega)]
   refine Ok.lr (R:=fun _=>True) (P:=fun _=>True) ?_ (fun v _=>Ok.pure trivial) fun _ _=>ih
   refine lpU (f:=fun m i=>nE N t (j:Int) m (i:Int)) j (fun m i hi ih=> ?_) (fun m=> ?_) N 0 (by omega) (by omega)
   ·unfold nE
    rw[if_pos (dT hi),i1 (by omega)]
    exact Ok.eq (bF _ hj) (Ok.eq (bF _ (show i<t.Inputs.length by omega)) (Ok.ite (fun _=>Ok.pure trivial) fun _=>ih))
   unfold nE
   rw[if_neg (by simp)]
   exact Ok.pure trivial
  unfold kW
  rw[if_neg (by simp)]
  exact Ok.pure trivial
 have j1: ∀b,Ok (pY N t b) fun _=>True:=fun b=>by
  unfold pY
  refine Ok.ite (fun _=>Ok.pure trivial) fun _=>Ok.lr (R:=fun _=>True) (P:=fun _=>True) ?_ (fun v _=>Ok.pure trivial) fun _ _=>j2 _
  refine lp (f:=fun m j s=>lQ N t m s (j:Int)) (fun _ _=>True) t.Outputs.length (fun m j s hj _ ih=> ?_) (fun m s _=> ?_) N 0 0 (by omega) (by omega) trivial
  ·unfold lQ
   rw[if_pos (dT hj),i1 (by omega)]
   exact Ok.eq (bF _ hj) (Ok.ite (fun _=>Ok.pure trivial) fun _=>ih _ trivial)
  unfold lQ
  rw[if_neg (by simp)]
  exact Ok.pure trivial
 exact Ok.ite (fun _=>j1 _) fun _=>j1 _
theorem aLH {ids:List (List Int)}{id:List Int}(h: ∀x∈ids,kD x)(hn:ids.length≤1000)(hi:id.length=32):Ok (vP N ids id) fun _=>True:=by
 unfold vP
 refine Ok.lr (R:=fun _=>True) (P:=fun _=>True) ?_ (fun v _=>Ok.pure trivial) fun _ _=>Ok.pure trivial
 refine lpU (f:=fun m j=>mY N ids id m (j:Int)) ids.length (fun m j hj ih=> ?_) (fun m=> ?_) N 0 (by omega) (by omega)
 ·unfold mY
  rw[if_pos (dT hj),i1 (by omega)]
  exact Ok.eq (bF _ hj) (Ok.eq (bS (h _ (aYX hj)).1) (Ok.eq (bS hi) (Ok.ite (fun _=>Ok.pure trivial) fun _=>ih)))
 unfold mY
 rw[if_neg (by simp)]
 exact Ok.pure trivial
theorem aPb {b:aV}(B:aIK b){ids:List (List Int)}(h: ∀x∈ids,kD x)(hn:ids.length≤1000):Ok (vC N b ids) fun _=>True:=by
 have hb:=B.t.1
 unfold vC
 refine Ok.lr (R:=fun _=>True) (P:=fun _=>True) ?_ (fun v _=>Ok.pure trivial) fun _ _=>Ok.pure trivial
 refine lpU (f:=fun m j=>iK N b ids m (j:Int)) b.Txs.length (fun m j hj ih=> ?_) (fun m=> ?_) N 0 (by omega) (by omega)
 ·unfold iK uQ
  rw[if_pos (dT hj),i1 (by omega)]
  have T:=B.t.2 _ (aYX hj)
  refine Ok.eq (bF _ hj) (Ok.lr (R:=fun _=>True) (P:=fun _=>True) ?_ (fun v _=>Ok.pure trivial) fun _ _=>ih)
  generalize b.Txs[j]=t at T
  obtain⟨x,hi,hx⟩:=T.i
  have hni:t.Inputs.length=1:=by rw[hi];rfl
  refine lpU (f:=fun m i=>kH N b ids (j:Int) t m (i:Int)) t.Inputs.length (fun m i hi2 ih=> ?_) (fun m=> ?_) N 0 (by omega) (by omega)
  ·unfold kH
   rw[if_pos (dT hi2),i1 (by omega)]
   have hm:t.Inputs[i]=x:=(show∀y∈t.Inputs,y=x by rw[hi];simp) _ (aYX hi2)
   refine Ok.eq (bF _ hi2) ?_
   rw[hm]
   exact Ok.eq (bS hx.p.1) (Ok.bind (aLH hN h hn hx.p.1) fun k _=>Ok.ite (fun _=>Ok.pure trivial) fun _=>ih)
  unfold kH
  rw[if_neg (by simp)]
  exact Ok.pure trivial
 unfold iK
 rw[if_neg (by simp)]
 exact Ok.pure trivial
theorem aQR {b:aV}(B:aIK b):Ok (aAf N b) fun _=>True:=by
 have hb:=B.t.1
 unfold aAf
 refine Ok.lr (R:=fun _=>True) (P:=fun _=>True) ?_ (fun v _=>Ok.pure trivial) fun _ _=>Ok.pure trivial
 refine lp (f:=fun m j s=>kN N b m (j:Int) s) (fun j s=>s.length≤j) b.Txs.length (fun m j s hj hs ih=> ?_) (fun m s _=> ?_) N 0 [] (by omega) (by omega) (by simp)
 ·unfold kN zK
  rw[if_pos (dT hj),i1 (by omega)]
  have T:=B.t.2 _ (aYX hj)
  refine Ok.eq (bF _ hj) (Ok.lr (R:=fun _=>True) (P:=fun s=>s.length≤j+1) ?_ (fun v _=>Ok.pure trivial) fun s hs=>ih _ hs)
  generalize b.Txs[j]=t at T
  obtain⟨x,hi,hx⟩:=T.i
  have hni:t.Inputs.length=1:=by rw[hi];rfl
  refine lp (f:=fun m i s=>i6 N b (j:Int) t m (i:Int) s) (fun i s=>s.length≤j+i) t.Inputs.length (fun m i s hi2 hs ih=> ?_) (fun m s hs=> ?_) N 0 s (by omega) (by omega) (by omega)
  ·unfold i6 zD yT
   rw[if_pos (dT hi2),i1 (by omega)]
   refine Ok.eq (bF _ hi2) (Ok.lr (R:=fun _=>True) (P:=fun _=>True) ?_ (fun v _=>Ok.pure trivial) fun _ _=>Ok.eq (hH (by omega) (by simp;omega)) (ih _ (by simp;omega)))
   refine lpU (f:=fun m k=>mS N b (j:Int) t (i:Int) s t.Inputs[i] m (k:Int)) s.length (fun m k hk ih=> ?_) (fun m=> ?_) N 0 (by omega) (by omega)
   ·unfold mS
    rw[if_pos (dT hk),i1 (by omega)]
    exact Ok.eq (bF _ hk) (Ok.ite (fun _=>Ok.pure trivial) fun _=>ih)
   unfold mS
   rw[if_neg (by simp)]
   exact Ok.pure trivial
  unfold i6
  rw[if_neg (by simp)]
  exact Ok.pure (show s.length≤j+1 by omega)
 unfold kN
 rw[if_neg (by simp)]
 exact Ok.pure trivial
theorem aO4 {b:aV}(B:aIK b):Ok (aAb N b) fun _=>True:=by
 have hb:=B.t.1
 have j3: ∀ids:List (List Int),(∀x∈ids,kD x)→ids.length≤1000→Ok (uD N b ids) fun _=>True:=fun ids h hn=>by
  unfold uD
  exact Ok.eq (aH1 h) (Ok.bind (aPb hN B h hn) fun t _=>Ok.ite (fun _=>Ok.pure trivial) fun _=>Ok.bind (aQR hN B) fun t _=>Ok.ite (fun _=>Ok.pure trivial) fun _=>Ok.bind (aNJ hN B.t) fun r hr=>Ok.eq (bS B.h.r.1) (Ok.eq (bS hr.1) (Ok.ite (fun _=>Ok.pure trivial) fun _=>Ok.pure trivial)))
 have j2:Ok (uC N b) fun _=>True:=by
  unfold uC
  refine Ok.lr (R:=fun _=>True) (P:=fun s=>s.length≤4∧ ∀x∈s,kD x) ?_ (fun v _=>Ok.pure trivial) fun s hs=>j3 s hs.2 (by omega)
  refine lp (f:=fun m j s=>mJ N b m (j:Int) s) (fun j s=>s.length≤j∧ ∀x∈s,kD x) b.Txs.length (fun m j s hj hs ih=> ?_) (fun m s hs=> ?_) N 0 [] (by omega) (by omega) ⟨by simp,by simp⟩
  ·unfold mJ
   rw[if_pos (dT hj),i1 (by omega)]
   obtain⟨h,hh,e⟩:=aOx N hN (B.t.2 _ (aYX hj)).k
   refine Ok.eq (bF _ hj) (Ok.eq e (Ok.eq (bS hh.1) (Ok.eq (aH1 hs.2) (Ok.bind (aLH hN hs.2 (by omega) hh.1) fun k _=>Ok.ite (fun _=>Ok.pure trivial) fun _=>Ok.eq (hH (by omega) (by simp;omega)) (ih _ ⟨by simp;omega,fun x hx=> ?_⟩)))))
   rcases aY4.1 hx with hx|hx
   ·exact hs.2 x hx
   obtain rfl:=aY1.1 hx;exact hh
  unfold mJ
  rw[if_neg (by simp)]
  exact Ok.pure (show s.length≤4∧ ∀x∈s,kD x from⟨by omega,hs.2⟩)
 have j1:Ok (tF N b) fun _=>True:=by
  unfold tF
  refine Ok.lr (R:=fun _=>True) (P:=fun _=>True) ?_ (fun v _=>Ok.pure trivial) fun _ _=>j2
  refine lpU (f:=fun m j=>mT N b m (j:Int)) b.Txs.length (fun m j hj ih=> ?_) (fun m=> ?_) N 0 (by omega) (by omega)
  ·unfold mT
   rw[if_pos (dT hj),i1 (by omega)]
   exact Ok.eq (bF _ hj) (Ok.bind (aJL hN (B.t.2 _ (aYX hj))) fun e _=>Ok.ite (fun _=>Ok.pure trivial) fun _=>ih)
  unfold mT
  rw[if_neg (by simp)]
  exact Ok.pure trivial
 unfold aAb
 refine Ok.bind (aQx hN B) fun f _=>Ok.ite (fun _=>Ok.pure trivial) fun _=>Ok.ite (fun _=>Ok.pure trivial) fun _=> ?_
 refine Ok.lr (R:=fun _=>True) (P:=fun _=>True) ?_ (fun v _=>Ok.pure trivial) fun _ _=>j1
 refine lpU (f:=fun m j=>mZ N b m (j:Int)) b.Txs.length (fun m j hj ih=> ?_) (fun m=> ?_) N 0 (by omega) (by omega)
 ·unfold mZ
  rw[if_pos (dT hj),i1 (by omega)]
  exact Ok.eq (bF _ hj) (Ok.bind (aBP hN) fun e _=>Ok.ite (fun _=>Ok.pure trivial) fun _=>ih)
 unfold mZ
 rw[if_neg (by simp)]
 exact Ok.pure trivial
end
def aDZ (k:Int):List cM:=[⟨1,[k],0,0⟩,⟨5,[],0,0⟩]
theorem aRY (M:Nat)(k k':Int)(v:fD): ∃t:Bool,aBK (M+100) ⟨5,[],0,0⟩ [[k'],[k]] v=some ([if t then [1]else []],0):=by
 refine⟨(zS [k']).toList == (zS [k]).toList, ?_⟩
 have h:zC (M+100) [k'] [k]=some ((zS [k']).toList == (zS [k]).toList):=rfl
 generalize ((zS [k']).toList == (zS [k]).toList)=t at h⊢
 show((zC (M+100) [k'] [k]).bind fun x84=>(sO (M+100) x84).bind fun x85=>(cZ 24 [] [x85]).bind fun x87=>some (x87,0))=_
 rw[h]
 cases t<;>rfl
theorem aRt (M:Nat)(k k':Int)(v:fD):e7 (M+100) v (aDZ k,0) (M+100) [[k']] 0 0 []=(aBK (M+100) ⟨5,[],0,0⟩ [[k'],[k]] v).bind fun aFE=>
  if aFE.2 != 0 then some (.ret ([],0,aFE.2))else jU (M+100) v (aDZ k,0) 1 (e7 (M+100) v (aDZ k,0) (M+98)) aFE.1 2 []:=by rfl
theorem aVw (M:Nat)(k:Int)(v:fD)(t:Bool):jU (M+100) v (aDZ k,0) 1 (e7 (M+100) v (aDZ k,0) (M+98)) [if t then [1]else []] 2 []=some (.brk ([if t then [1]else []],2)):=by rfl
theorem aQ7 (M:Nat)(k:Int):aCQ (M+100) [1,1,k,5]=some (aDZ k,0):=by rfl
theorem aSP (M:Nat)(k:Int):xT (M+100) (aDZ k)=some true:=by rfl
theorem aTo (M:Nat)(k:Int):aBi (M+100) [[k]]=some false:=by rfl
theorem aPU (M:Nat)(k:Int):xO (M+100) [[k]]=some [[k]]:=by rfl
theorem aTm (M:Nat)(k:Int)(v:fD):aAX (M+100) [1,1,k,5] [] v=some ([],0,81):=by rfl
theorem aSO (M:Nat)(t:Bool):rX (M+100) (if t then [1]else [])=some t:=by cases t<;>rfl
theorem aU2 (M:Nat)(k:Int)(w:List (List Int))(hw:w=[]∨ ∃k':Int,w=[[k']])(v:fD):Ok (lP (M+100) [1,1,k,5] w v) fun _=>True:=by
 rcases hw with rfl|⟨k',rfl⟩
 ·unfold lP
  rw[aTm]
  exact Ok.pure trivial
 obtain⟨t,ht⟩:=aRY M k k' v
 have e:aAX (M+100) [1,1,k,5] [[k']] v=some ([if t then [1]else []],2,0):=by
  unfold aAX
  rw[aQ7]
  show((xT (M+100) (aDZ k)).bind fun x27=>_)=_
  rw[aSP]
  show((aBi (M+100) [[k']]).bind fun fA=>_)=_
  rw[aTo]
  show((xO (M+100) [[k']]).bind fun g6=>_)=_
  rw[aPU]
  show((e7 (M+100) v (aDZ k,0) (M+100) [[k']] 0 0 []).bind fun q=>_)=_
  rw[aRt,ht]
  show((jU (M+100) v (aDZ k,0) 1 (e7 (M+100) v (aDZ k,0) (M+98)) [if t then [1]else []] 2 []).bind fun q=>_)=_
  rw[aVw]
  rfl
 unfold lP
 rw[e]
 show Ok ((rX (M+100) (if t then [1]else [])).bind fun fA=>_) _
 rw[aSO]
 cases t<;>exact Ok.pure trivial
theorem aEe {t:aG}(T:TxM t): ∃x,t.Inputs=[x]∧InM x∧t.Inputs.length=1:=by
 obtain⟨x,hi,hx⟩:=T.i
 exact⟨x,hi,hx,by rw[hi];rfl⟩
theorem aOz {t:aG}{x:bL}(h:t.Inputs=[x]){i:Nat}(hi:i<t.Inputs.length):t.Inputs[i]=x:=(show∀y∈t.Inputs,y=x by rw[h];simp) _ (aYX hi)
section
variable {N:Nat}(hN:70000≤N)
include hN
theorem aLn {t:aG}(T:TxM t){h:Int}:Ok (vV N t h) fun _=>True:=by
 obtain⟨x,hi,hx,hl⟩:=aEe T
 unfold vV
 refine Ok.ite (fun _=>Ok.pure trivial) fun _=>Ok.lr (R:=fun _=>True) (P:=fun _=>True) ?_ (fun v _=>Ok.pure trivial) fun _ _=>Ok.pure trivial
 refine lpU (f:=fun m j=>mV N t m (j:Int)) t.Inputs.length (fun m j hj ih=> ?_) (fun m=> ?_) N 0 (by omega) (by omega)
 ·unfold mV
  rw[if_pos (dT hj),i1 (by omega)]
  exact Ok.eq (bF _ hj) (Ok.ite (fun _=>Ok.pure trivial) fun _=>ih)
 unfold mV
 rw[if_neg (by simp)]
 exact Ok.pure trivial
theorem aVm {k:Nat}{w:List (List Int)}(hw:w=[]∨ ∃k':Nat,1≤k'∧k'≤6∧w=[[(k':Int)]])(v:fD):Ok (lP N [1,1,(k:Int),5] w v) fun _=>True:=by
 obtain⟨M,rfl⟩: ∃M,N=M+100:=⟨N-100,by omega⟩
 refine aU2 M k w ?_ v
 rcases hw with h|⟨k',_,_,h⟩
 ·exact .inl h
 exact .inr ⟨_,h⟩
theorem aOV {t:aG}(T:TxM t){i:Int}{o:bA}(O:aQF o):Ok (vG N t i o) fun r=>r.1.length=32:=by
 obtain⟨x,hi,hx,hl⟩:=aEe T
 have hno:=T.n
 have z:([0,0,0,0,0,0,0,0,0,0,0,0,0,0,0,0,0,0,0,0,0,0,0,0,0,0,0,0,0,0,0,0]:List Int).length=32:=rfl
 have j4: ∀a b c:List Int,(Byt a∧a.length≤10000)→(Byt b∧b.length≤10000)→(Byt c∧c.length≤10000)→Ok (qW N t i o a b c) fun r=>r.1.length=32:=by
  intro a b c ha hb hc
  have ho:(aDj o).length≤613:=aKP (by have:=O.1.len;omega)
  have hob:Byt (aDj o):=(aCE _ _).append ((aCD _).append O.1.byt)
  unfold qW
  rw[aBU N hN [] t.Version (by simp)]
  simp only[aYV,aZp]
  rw[aAV N hN a ha.1 (by omega)]
  simp only[aYV]
  rw[aJm N hN _ _ (eT _ _) (by rw[cQ];omega)]
  simp only[aYV]
  rw[aAV N hN b hb.1 (by omega)]
  simp only[aYV]
  rw[aJm N hN _ _ (eT _ _) (by simp only[aYY,cQ,eT];omega)]
  simp only[aYV]
  rw[aAV N hN c hc.1 (by omega)]
  simp only[aYV]
  rw[aJm N hN _ _ (eT _ _) (by simp only[aYY,cQ,eT];omega)]
  simp only[aYV]
  rw[aBU N hN _ _ (by simp only[aYY,cQ,eT];omega)]
  simp only[aYV]
  rw[aBU N hN _ _ (by simp only[aYY,cQ,eT];omega)]
  simp only[aYV]
  rw[aSC N hN o (by have:=O.1.len;omega)]
  simp only[aYV]
  rw[v9 (by simp only[aYY,cQ,eT];omega)]
  simp only[aYV]
  rw[aQI N hN _ (by decide) _ ?_ (by simp only[aYY,cQ,eT];omega)]
  ·exact Ok.eq (bS (aJ9 _ _ _)) (Ok.pure (aJ9 _ _ _))
  exact Byt.append (Byt.append (Byt.append (Byt.append (Byt.append (Byt.append (mH _) (pE _ _)) (pE _ _)) (pE _ _)) (mH _)) (mH _)) hob
 have j3: ∀a b:List Int,(Byt a∧a.length≤10000)→(Byt b∧b.length≤10000)→Ok (qD N t i o a b) fun r=>r.1.length=32:=by
  intro a b ha hb
  unfold qD
  refine Ok.bind (P:=fun c=>Byt c∧c.length≤10000) ?_ fun c hc=>j4 a b c ha hb hc
  refine lp (f:=fun m j s=>kJ N t i o a b m (j:Int) s) (fun j s=>Byt s∧s.length≤613*j) t.Outputs.length (fun m j s hj hs ih=> ?_) (fun m s hs=> ?_) N 0 [] (by omega) (by omega) ⟨aHW,by simp⟩
  ·unfold kJ
   have O2:=T.o _ (aYX hj)
   have h2:(aDj t.Outputs[j]).length≤613:=aKP (by have:=O2.1.len;omega)
   have hb2:Byt (aDj t.Outputs[j]):=(aCE _ _).append ((aCD _).append O2.1.byt)
   rw[if_pos (dT hj),i1 (by omega)]
   exact Ok.eq (bF _ hj) (Ok.eq (aSC N hN _ (by have:=O2.1.len;omega)) (Ok.eq (v9 (by omega)) (ih _ ⟨hs.1.append hb2,by rw[aYY];omega⟩)))
  unfold kJ
  rw[if_neg (by simp)]
  exact Ok.pure ⟨hs.1,by omega⟩
 have j2: ∀b,Ok (nI N t i o b) fun r=>r.1.length=32:=by
  intro b
  unfold nI
  refine Ok.ite (fun _=>Ok.pure z) fun _=> ?_
  refine Ok.bind (P:=fun s=>(Byt s.1∧s.1.length≤10000)∧Byt s.2∧s.2.length≤10000) ?_ fun s hs=>j3 _ _ hs.1 hs.2
  have:=lp (f:=fun m j (s:List Int×List Int)=>kG N t i o m (j:Int) s.1 s.2) (Q:=fun s=>(Byt s.1∧s.1.length≤10000)∧Byt s.2∧s.2.length≤10000) (fun j s=>(Byt s.1∧s.1.length≤40*j)∧Byt s.2∧s.2.length≤40*j) t.Inputs.length (fun m j s hj hs ih=> ?_) (fun m s hs=> ?_) N 0 ([],[]) (by omega) (by omega) ⟨⟨aHW,by simp⟩,aHW,by simp⟩
  ·exact this
  ·unfold kG
   rw[if_pos (dT hj),i1 (by omega)]
   refine Ok.eq (bF _ hj) ?_
   rw[aOz hi hj]
   refine Ok.eq (aQ5 N hN _ hx.p.1) (Ok.eq (v9 ?_) (Ok.eq (aBU N hN _ _ (by have:=hs.2.2;omega)) (ih (_,_) ⟨⟨hs.1.1.append (hx.p.2.append (mH _)), ?_⟩,hs.2.1.append (mH _), ?_⟩)))
   ·have:=hs.1.2;simp only[aYY,cQ,hx.p.1];omega
   ·have:=hs.1.2;simp only[aYY,cQ,hx.p.1];omega
   have:=hs.2.2;simp only[aYY,cQ];omega
  unfold kG
  rw[if_neg (by simp)]
  exact Ok.pure ⟨⟨hs.1.1,by have:=hs.1.2;simp only;omega⟩,hs.2.1,by have:=hs.2.2;simp only;omega⟩
 have j1: ∀b,Ok (kE N t i o b) fun r=>r.1.length=32:=by
  intro b
  unfold kE
  exact Ok.ite (fun _=>Ok.pure z) fun _=>Ok.ite (fun _=>j2 _) fun _=>j2 _
 unfold vG
 exact Ok.bind (aHE hN T) fun f _=>Ok.ite (fun _=>j1 _) fun _=>Ok.ite (fun _=>j1 _) fun _=>j1 _
theorem aRv {t:aG}(T:TxM t){i:Nat}(hi:i<t.Inputs.length){c:aC}(C:uP c){h:Int}:Ok (aAj N t (i:Int) c h) fun _=>True:=by
 obtain⟨x,hx,hm,hl⟩:=aEe T
 have g:=aOz hx hi
 obtain⟨k,_,_,ek⟩:=C.p.1
 have j1: ∀(q:List Int×Int)(b:Bool),Ok (mM N t (i:Int) c h q b) fun _=>True:=by
  intro q b
  unfold mM
  refine Ok.ite (fun _=>Ok.pure trivial) fun _=>Ok.eq (bF _ hi) ?_
  rw[g,ek]
  exact Ok.bind (aVm hN hm.w _) fun e _=>Ok.pure trivial
 unfold aAj
 refine Ok.bind (aOV hN T C.p) fun q hq=>Ok.eq (bS hq) (Ok.ite (fun _=>Ok.pure trivial) fun _=>Ok.eq (bF _ hi) (Ok.ite (fun _=>Ok.pure trivial) fun _=> ?_))
 exact Ok.ite (fun _=>j1 _ _) fun _=>Ok.ite (fun _=>j1 _ _) fun _=>j1 _ _
theorem aUG {t:aG}(T:TxM t){l:List aC}:Ok (aC2 N t l) fun r=>r.2=0→l.length=t.Inputs.length:=by
 obtain⟨x,hx,hm,hl⟩:=aEe T
 have hno:=T.n
 unfold aC2
 refine Ok.bind (aJL hN T) fun e _=>Ok.ite (fun he=>Ok.pure fun h0=> ?_) fun _=>Ok.ite (fun _=>Ok.pure fun h0=> ?_) fun hne=> ?_
 ·have h0:e=0:=h0
  rw[h0]at he
  exact absurd he (by decide)
 ·exact absurd h0 (by decide)
 have hlen:l.length=t.Inputs.length:=by
  have:(l.length:Int)=(t.Inputs.length:Int):=by simpa using hne
  omega
 refine Ok.lr (R:=fun _=>True) (P:=fun _=>True) ?_ (fun v _=>Ok.pure fun _=>hlen) fun _ _=> ?_
 ·refine lpU (f:=fun m j=>qG N t l m (j:Int)) l.length (fun m j hj ih=> ?_) (fun m=> ?_) N 0 (by omega) (by omega)
  ·unfold qG
   rw[if_pos (dT hj),i1 (by omega)]
   exact Ok.eq (bF _ hj) (Ok.eq (bF _ (show j<t.Inputs.length by omega)) (Ok.ite (fun _=>Ok.pure trivial) fun _=>ih))
  unfold qG
  rw[if_neg (by simp)]
  exact Ok.pure trivial
 unfold aB2
 refine Ok.lr (R:=fun _=>True) (P:=fun _=>True) ?_ (fun v _=>Ok.pure fun _=>hlen) fun s _=> ?_
 ·refine lp (f:=fun m j s=>jW N t l m s (j:Int)) (fun _ _=>True) l.length (fun m j s hj _ ih=> ?_) (fun m s _=> ?_) N 0 0 (by omega) (by omega) trivial
  ·have j6: ∀b,Ok (tX N t l s (j:Int) l[j] (jW N t l m) b) (lrP (fun _=>True) fun _=>True):=fun b=>by
    unfold tX
    rw[i1 (by omega)]
    exact Ok.ite (fun _=>Ok.pure trivial) fun _=>ih _ trivial
   unfold jW
   rw[if_pos (dT hj)]
   exact Ok.eq (bF _ hj) (Ok.ite (fun _=>j6 _) fun _=>j6 _)
  unfold jW
  rw[if_neg (by simp)]
  exact Ok.pure trivial
 unfold aB3
 refine Ok.ite (fun _=>Ok.pure fun _=>hlen) fun _=>Ok.bind (P:=fun _=>True) ?_ fun s _=> ?_
 ·refine lp (f:=fun m j s=>qS N t m s (j:Int)) (fun _ _=>True) t.Outputs.length (fun m j s hj _ ih=> ?_) (fun m s _=> ?_) N 0 s (by omega) (by omega) trivial
  ·unfold qS
   rw[if_pos (dT hj),i1 (by omega)]
   exact Ok.eq (bF _ hj) (ih _ trivial)
  unfold qS
  rw[if_neg (by simp)]
  exact Ok.pure trivial
 unfold aA5
 exact Ok.ite (fun _=>Ok.pure fun _=>hlen) fun _=>Ok.pure fun _=>hlen
theorem aOS {t:aG}(T:TxM t){l:List aC}(hc: ∀c∈l,uP c){h:Int}:Ok (aAk N t l h) fun _=>True:=by
 obtain⟨x,hx,hm,hl⟩:=aEe T
 unfold aAk
 refine Ok.bind (aBP hN) fun b _=>Ok.ite (fun _=>Ok.pure trivial) fun _=>Ok.bind (aUG hN T) fun q hq=>Ok.ite (fun _=>Ok.pure trivial) fun hne=> ?_
 have hlen:=hq (by simpa using hne)
 refine Ok.bind (aLn hN T) fun f _=>Ok.ite (fun _=>Ok.pure trivial) fun _=> ?_
 refine Ok.lr (R:=fun _=>True) (P:=fun _=>True) ?_ (fun v _=>Ok.pure trivial) fun _ _=>Ok.pure trivial
 refine lpU (f:=fun m j=>mN N t l h q m (j:Int)) l.length (fun m j hj ih=> ?_) (fun m=> ?_) N 0 (by omega) (by omega)
 ·unfold mN
  rw[if_pos (dT hj),i1 (by omega)]
  exact Ok.eq (bF _ hj) (Ok.bind (aRv hN T (by omega) (hc _ (aYX hj))) fun e _=>Ok.ite (fun _=>Ok.pure trivial) fun _=>ih)
 unfold mN
 rw[if_neg (by simp)]
 exact Ok.pure trivial
end
def Srt (cs:List aC):Prop:=cs.Pairwise fun a b=>d7 a.Out b.Out<0
structure aUk (h:Int)(c:aC):Prop where
 m:uP c
 h:1≤c.Height∧c.Height≤h
structure CsK (h:Int)(n:Nat)(cs:List aC):Prop where
 n:cs.length≤n
 c: ∀c∈cs,aUk h c
 s:Srt cs
theorem CsK.ok {h:Int}{n:Nat}{cs:List aC}(K:CsK h n cs): ∀c∈cs,OkO c.Out:=fun c hc=>(K.c c hc).m.o
theorem aLU : ∀{l m:List Int},iY m l= - iY l m
 | [],[]=>rfl
 | [],_::_=>rfl
 |_::_,[]=>rfl
 |a::l,b::m=>by
  unfold iY
  by_cases h1:a<b
  ·rw[if_pos h1,if_neg (by omega),if_pos h1];rfl
  by_cases h2:b<a
  ·rw[if_pos h2,if_neg h1,if_pos h2]
  rw[if_neg h2,if_neg h1,if_neg h1,if_neg h2];exact aLU
theorem aRO (a b:aI):d7 b a= - d7 a b:=aLU
theorem aF8 (o:aI): ∀(cs:List aC)(j:Int),(fI o j cs= -1∧ ∀c∈cs,d7 c.Out o≠0)∨ ∃(k:Nat)(h:k<cs.length),fI o j cs=j+k∧d7 cs[k].Out o=0
 | [],j=> .inl ⟨rfl,by simp⟩
 |c::cs,j=>by
  unfold fI
  by_cases h:d7 c.Out o=0
  ·rw[if_pos h]
   exact .inr ⟨0,by simp,by omega,h⟩
  rw[if_neg h]
  rcases aF8 o cs (j+1)with⟨h1,h2⟩|⟨k,hk,h1,h2⟩
  ·exact .inl ⟨h1,fun d hd=>by rcases aZq.1 hd with rfl|hd;exact h;exact h2 d hd⟩
  exact .inr ⟨k+1,by simpa using hk,by rw[h1];omega,by simpa using h2⟩
def aCC (c:aC):List aC→List aC
 | []=>[c]
 |d::ds=>if d7 d.Out c.Out<0 then d::aCC c ds else c::d::ds
theorem aGj {c x:aC}: ∀{l:List aC},x∈aCC c l↔x=c∨x∈l
 | []=>by simp[aCC]
 |d::ds=>by
  unfold aCC
  split
  ·rw[aZq,aGj (l:=ds),aZq]
   constructor
   ·rintro(h|h|h)
    ·exact .inr (.inl h)
    ·exact .inl h
    exact .inr (.inr h)
   rintro(h|h|h)
   ·exact .inr (.inl h)
   ·exact .inl h
   exact .inr (.inr h)
  simp
theorem aNm {c:aC}: ∀{l:List aC},(aCC c l).length=l.length+1
 | []=>rfl
 |d::ds=>by
  unfold aCC
  split
  ·simp[aNm (l:=ds)]
  simp
theorem aNx {c:aC}(hc:OkO c.Out): ∀{l:List aC},(∀d∈l,OkO d.Out)→Srt l→(∀d∈l,d7 d.Out c.Out≠0)→Srt (aCC c l)
 | [],_,_,_=>by simp[aCC,Srt]
 |d::ds,hok,hs,hne=>by
  have hd:=hok d (by simp)
  obtain⟨h1,h2⟩:=aZi.1 hs
  unfold aCC
  split
  ·rename_i hlt
   refine aZi.2 ⟨fun x hx=> ?_,aNx hc (fun e he=>hok e (by simp[he])) h2 (fun e he=>hne e (by simp[he]))⟩
   rcases aGj.1 hx with rfl|hx
   ·exact hlt
   exact h1 x hx
  rename_i hge
  have hlt:d7 c.Out d.Out<0:=by
   have:=hne d (by simp)
   rw[aRO d.Out c.Out]
   omega
  refine aZi.2 ⟨fun x hx=> ?_,hs⟩
  rcases aZq.1 hx with rfl|hx
  ·exact hlt
  exact aBz hc.1 hd.1 (hok x (by simp[hx])).1 hlt (h1 x hx)
def ltB (c d:aC):Bool:=decide (d7 d.Out c.Out<0)
theorem aJD {c:aC}(hc:OkO c.Out): ∀{l:List aC},(∀d∈l,OkO d.Out)→Srt l→(l.filter (ltB c)).length≤l.length∧l.filter (ltB c)++[c]++l.drop (l.filter (ltB c)).length=aCC c l
 | [],_,_=>⟨by simp,rfl⟩
 |d::ds,hok,hs=>by
  have hd:=hok d (by simp)
  obtain⟨h1,h2⟩:=aZi.1 hs
  obtain⟨i1,i2⟩:=aJD hc (l:=ds) (fun e he=>hok e (by simp[he])) h2
  refine⟨List.length_filter_le _ _, ?_⟩
  unfold aCC
  by_cases h:d7 d.Out c.Out<0
  ·rw[if_pos h,aZQ (by exact decide_eq_true h),aZu,List.drop_succ_cons,←i2]
   simp
  have he:(d::ds).filter (ltB c)=[]:=by
   rw[List.filter_eq_nil_iff]
   intro x hx
   rcases aZq.1 hx with rfl|hx
   ·simpa[ltB]using h
   intro hq
   exact h (aBz hd.1 (hok x (by simp[hx])).1 hc.1 (h1 x hx) (of_decide_eq_true hq))
  rw[if_neg h,he]
  simp
section
variable {N:Nat}(hN:70000≤N)
include hN
theorem aOs {c:aC}(C:uP c):pS N c=some c:=by
 unfold pS
 rw[aN2 hN (by simp) (fun x hx=>by simp at hx;subst hx;have:=C.p.1.len;omega)]
 simp
theorem aRW {h:Int}{n:Nat}{cs:List aC}(K:CsK h n cs)(hn:n≤900){c:aC}(C:uP c):yZ N cs c=some (aCC c cs):=by
 have hk:=K.n
 have:Ok (yZ N cs c) fun r=>r=aCC c cs:=by
  unfold yZ
  refine Ok.bind (P:=fun r=>r=cs.filter (ltB c)) ?_ fun r hr=> ?_
  ·refine lp (f:=fun m j s=>kC N cs c m (j:Int) s) (fun j s=>s=(cs.take j).filter (ltB c)∧s.length≤j) cs.length (fun m j s hj hs ih=> ?_) (fun m s hs=> ?_) N 0 [] (by omega) (by omega) ⟨by simp,by simp⟩
   ·unfold kC vD
    rw[if_pos (dT hj),i1 (by omega)]
    have o1:=K.ok _ (aYX hj)
    refine Ok.eq (bF _ hj) (Ok.eq (aM1 hN o1.1 C.o.1) (Ok.ite (fun hc=> ?_) fun hc=> ?_))
    ·refine Ok.eq (hH (by omega) (by simp;omega)) (ih _ ⟨?_,by simp;omega⟩)
     rw[aZe hj,aZX,←hs.1,aZQ (by exact hc)]
     rfl
    refine ih _ ⟨?_,by omega⟩
    rw[aZe hj,aZX,←hs.1,List.filter_cons_of_neg (by exact hc)]
    simp
   unfold kC
   rw[if_neg (by simp)]
   refine Ok.pure ?_
   rw[hs.1,aZD]
  subst hr
  obtain⟨h1,h2⟩:=aJD C.o K.ok K.s
  unfold aAF
  refine Ok.eq (aOs hN C) (Ok.eq (hH (by omega) (by simp only[aZu,aZ7];omega)) (Ok.eq (aET h1 (aZB _)) (Ok.eq (hH (by omega) ?_) (Ok.pure ?_))))
  ·simp only[aYY,aZu,aZ7,List.length_drop,List.length_take];omega
  rw[aZD];exact h2
 obtain⟨r,e,rfl⟩:=this
 exact e
theorem aJb {h:Int}{n:Nat}{cs:List aC}(K:CsK h n cs)(hn:n≤900){o:aI}(ho:OkO o):rZ N cs o=some (fI o 0 cs):=
 aT6 hN (by have:=K.n;omega) K.ok ho
theorem aOH {h:Int}{n:Nat}{cs:List aC}(K:CsK h n cs)(hn:n≤900){k:Nat}(hk:k<cs.length):Ok (u7 N cs (k:Int)) (CsK h n):=by
 have hl:=K.n
 unfold u7
 rw[i1 (by omega)]
 refine Ok.eq (aET (a:=0) (aZk k) (by omega)) (Ok.eq (hH (by omega) (by simp;omega)) (Ok.eq (aET (show k+1≤cs.length by omega) (aZB _)) (Ok.eq (hH (by omega) (by simp;omega)) (Ok.pure ?_))))
 have e:[]++(cs.take k).drop 0++(cs.take cs.length).drop (k+1)=cs.eraseIdx k:=by
  rw[List.eraseIdx_eq_take_drop_succ,aZD];simp
 rw[e]
 have sl:=List.eraseIdx_sublist cs k
 exact⟨aZf sl.length_le hl,fun c hc=>K.c c (sl.subset hc),List.Pairwise.sublist sl K.s⟩
structure aT2 (h:Int)(r:List aC):Prop where
 n:r.length≤2
 c: ∀c∈r,uP c∧c.Height=h
 d:r.Pairwise fun a b=>a.Out.Index≠b.Out.Index
theorem aND {t:aG}(T:TxM t){h:Int}:Ok (oY N t h) (aT2 h):=by
 have hno:=T.n
 obtain⟨id,hid,e⟩:=aOx N hN T.k
 unfold oY
 refine Ok.eq e (Ok.eq (bS hid.1) (Ok.bind (P:=aT2 h) ?_ fun r hr=>Ok.pure hr))
 refine lp (f:=fun m j s=>kI N t h id m (j:Int) s) (fun j s=>s.length=j∧(∀c∈s,(uP c∧c.Height=h)∧c.Out.Index<j)∧s.Pairwise fun a b=>a.Out.Index≠b.Out.Index) t.Outputs.length (fun m j s hj hs ih=> ?_) (fun m s hs=> ?_) N 0 [] (by omega) (by omega) ⟨rfl,by simp,aZ1⟩
 ·obtain⟨h1,h2,h3⟩:=hs
  unfold kI
  rw[if_pos (dT hj),i1 (by omega),aHO j (by omega)]
  refine Ok.eq (bF _ hj) (Ok.bind (aBP hN) fun cb _=>Ok.eq (hH (by omega) (by simp;omega)) (ih _ ⟨by simp[h1],fun c hc=> ?_, ?_⟩))
  ·rcases aY4.1 hc with hc|hc
   ·exact⟨(h2 c hc).1,by have:=(h2 c hc).2;omega⟩
   obtain rfl:=aY1.1 hc
   exact⟨⟨⟨hid,T.o _ (aYX hj)⟩,rfl⟩,by simp only;omega⟩
  refine List.pairwise_append.2 ⟨h3,List.pairwise_singleton _ _,fun a ha b hb=> ?_⟩
  obtain rfl:=aY1.1 hb
  have:=(h2 a ha).2
  simp only
  omega
 unfold kI
 rw[if_neg (by simp)]
 exact Ok.pure ⟨by omega,fun c hc=>(hs.2.1 c hc).1,hs.2.2⟩
theorem aU7 {h:Int}{n:Nat}{cs:List aC}(K:CsK h n cs)(hn:n≤800)(h1:1≤h){t:aG}(T:TxM t):Ok (aCX N cs t h) fun r=>r.2=0→CsK h (n+2) r.1:=by
 have hk:=K.n
 obtain⟨outs,e,O⟩:=aND hN T (h:=h)
 have ho:=O.n
 unfold aCX
 refine Ok.eq e (Ok.lr (R:=fun v=>v.2≠0) (P:=fun _=> ∀o∈outs,∀c∈cs,d7 c.Out o.Out≠0) ?_ (fun v hv=>Ok.pure fun h0=>absurd h0 hv) fun _ hnf=> ?_)
 ·refine lp (f:=fun m j (_:Unit)=>qL N cs t h outs m (j:Int)) (fun j _=> ∀i,(hi:i<outs.length)→i<j→ ∀c∈cs,d7 c.Out outs[i].Out≠0) outs.length (fun m j _ hj hs ih=> ?_) (fun m _ hs=> ?_) N 0 () (by omega) (by omega) (fun i _ h=>by omega)
  ·unfold qL
   rw[if_pos (dT hj),i1 (by omega)]
   refine Ok.eq (bF _ hj) (Ok.eq (aJb hN K (by omega) (O.c _ (aYX hj)).1.o) (Ok.ite (fun _=>Ok.pure (show(91:Int)≠0 by decide)) fun hneg=>ih () fun i hi hij=> ?_))
   by_cases hij':i<j
   ·exact hs i hi hij'
   obtain rfl:i=j:=by omega
   rcases aF8 outs[i].Out cs 0 with⟨_,h2⟩|⟨k,hk,h2,_⟩
   ·exact h2
   exfalso
   apply hneg
   rw[h2]
   exact decide_eq_true (by omega)
  unfold qL
  rw[if_neg (by simp)]
  refine Ok.pure fun o ho2 c hc=> ?_
  obtain⟨i,hi,rfl⟩:=List.getElem_of_mem ho2
  exact hs i hi hi c hc
 unfold aBu
 refine Ok.eq e (Ok.bind (P:=fun r=>CsK h (n+2) r) ?_ fun r hr=>Ok.pure fun _=>hr)
 refine lp (f:=fun m j s=>qI N outs m s (j:Int)) (fun j s=>CsK h (n+j) s∧ ∀c∈s,c∈cs∨ ∃(i:Nat)(hi:i<outs.length),i<j∧c=outs[i]) outs.length (fun m j s hj hs ih=> ?_) (fun m s hs=> ?_) N 0 cs (by omega) (by omega) ⟨K,fun c hc=> .inl hc⟩
 ·unfold qI
  rw[if_pos (dT hj),i1 (by omega)]
  have oj:=O.c _ (aYX hj)
  refine Ok.eq (bF _ hj) (Ok.eq (aRW hN hs.1 (by omega) oj.1) (ih _ ⟨⟨by rw[aNm];have:=hs.1.n;omega,fun c hc=> ?_,aNx oj.1.o hs.1.ok hs.1.s fun d hd=> ?_⟩,fun c hc=> ?_⟩))
  ·rcases aGj.1 hc with rfl|hc
   ·exact⟨oj.1,by have:=oj.2;omega⟩
   exact hs.1.c c hc
  ·rcases hs.2 d hd with hd2|⟨i,hi,hij,rfl⟩
   ·exact hnf _ (aYX hj) d hd2
   intro h0
   have e2:=aHf (O.c _ (aYX hi)).1.o.1 oj.1.o.1 h0
   have:=aZN.1 O.d i j hi hj hij
   rw[e2]at this
   exact this rfl
  rcases aGj.1 hc with rfl|hc
  ·exact .inr ⟨j,hj,by omega,rfl⟩
  rcases hs.2 c hc with h2|⟨i,hi,hij,e3⟩
  ·exact .inl h2
  exact .inr ⟨i,hi,by omega,e3⟩
 unfold qI
 rw[if_neg (by simp)]
 exact Ok.pure ⟨by have:=hs.1.n;omega,hs.1.c,hs.1.s⟩
theorem aQ3 {p:aJ}{h:Int}{n:Nat}{cs:List aC}(K:CsK h n cs)(hn:n≤800){t:aG}(T:TxM t):Ok (z9 N p cs t h) fun r=>r.2=0→ ∃c∈cs,r.1=[c]:=by
 obtain⟨x,hx,hm,hl⟩:=aEe T
 unfold z9
 refine Ok.lr (R:=fun v=>v.2≠0) (P:=fun s=> ∃c∈cs,s=[c]) ?_ (fun v hv=>Ok.pure fun h0=>absurd h0 hv) fun s hs=> ?_
 ·refine lp (f:=fun m j s=>mU N p cs t h m (j:Int) s) (fun j s=>(j=0∧s=[])∨(j=1∧ ∃c∈cs,s=[c])) t.Inputs.length (fun m j s hj hs ih=> ?_) (fun m s hs=> ?_) N 0 [] (by omega) (by omega) (.inl ⟨rfl,rfl⟩)
  ·unfold mU
   rw[if_pos (dT hj),i1 (by omega)]
   have hs':s=[]:=by
    rcases hs with⟨_,h⟩|⟨h,_⟩
    ·exact h
    omega
   refine Ok.eq (bF _ hj) ?_
   rw[aOz hx hj]
   refine Ok.eq (aJb hN K (by omega) hm.p) (Ok.ite (fun _=>Ok.pure (show(101:Int)≠0 by decide)) fun hneg=> ?_)
   rcases aF8 x.Prev cs 0 with⟨h2,_⟩|⟨k,hk,h2,_⟩
   ·exfalso
    apply hneg
    rw[h2]
    rfl
   rw[h2,show(0:Int)+(k:Int)=(k:Int) by omega]
   refine Ok.eq (bF _ hk) (Ok.eq (aOs hN (K.c _ (aYX hk)).m) (Ok.eq (hH (by omega) (by rw[hs'];simp)) (ih _ (.inr ⟨by omega,_,aYX hk,by rw[hs'];rfl⟩))))
  unfold mU
  rw[if_neg (by simp)]
  rcases hs with⟨h0,_⟩|⟨_,h⟩
  ·omega
  exact Ok.pure h
 unfold zM
 obtain⟨c,hc,rfl⟩:=hs
 refine Ok.lr (R:=fun v=>v.2≠0) (P:=fun _=>True) ?_ (fun v hv=>Ok.pure fun h0=>absurd h0 hv) fun _ _=>Ok.pure fun _=>⟨c,hc,rfl⟩
 refine lpU (f:=fun m j=>gW N p h [c] m (j:Int)) 1 (fun m j hj ih=> ?_) (fun m=> ?_) N 0 (by omega) (by omega)
 ·have j4: ∀b,Ok (pW N p h [c] (j:Int) (gW N p h [c] m) b) (lrP (fun v=>v.2≠0) fun _=>True):=fun b=>by
   unfold pW
   rw[i1 (by omega)]
   exact Ok.ite (fun _=>Ok.pure (show(230:Int)≠0 by decide)) fun _=>ih
  unfold gW
  rw[if_pos (dT (show j< [c].length from hj))]
  exact Ok.eq (bF _ (show j< [c].length from hj)) (Ok.ite (fun _=>j4 _) fun _=>j4 _)
 unfold gW
 rw[if_neg (by simp)]
 exact Ok.pure trivial
theorem aLW {l:List aC}(hl:l.length≤1000):Ok (vR N l) fun _=>True:=by
 unfold vR
 refine Ok.bind (P:=fun _=>True) ?_ fun _ _=>Ok.pure trivial
 refine lp (f:=fun m j s=>mL N l m s (j:Int)) (fun _ _=>True) l.length (fun m j s hj _ ih=> ?_) (fun m s _=> ?_) N 0 0 (by omega) (by omega) trivial
 ·unfold mL
  rw[if_pos (dT hj),i1 (by omega)]
  exact Ok.eq (bF _ hj) (ih _ trivial)
 unfold mL
 rw[if_neg (by simp)]
 exact Ok.pure trivial
end
structure LedK (n:Nat)(l:aF):Prop where
 t:kD l.Tip
 h:0≤l.Height∧l.Height≤n
 c:CsK l.Height (8*n) l.Coins
structure CtxJ (n:Nat)(c:aU):Prop where
 h:kD c.Hash
 b:wP c.Bits
 t:c.Times.length≤n+1
 hh:0≤c.Height∧c.Height≤n
theorem CsK.up {h k:Int}{n m:Nat}{cs:List aC}(K:CsK h n cs)(h1:h≤k)(h2:n≤m):CsK k m cs:=
 ⟨aZf K.n h2,fun c hc=>⟨(K.c c hc).m,by have:=(K.c c hc).h;omega⟩,K.s⟩
theorem LedK.up {n m:Nat}{l:aF}(L:LedK n l)(h:n≤m):LedK m l:=⟨L.t,by have:=L.h;omega,L.c.up (by omega) (by omega)⟩
theorem CtxJ.up {n m:Nat}{c:aU}(C:CtxJ n c)(h:n≤m):CtxJ m c:=⟨C.h,C.b,by have:=C.t;omega,by have:=C.hh;omega⟩
theorem LedK.m {n:Nat}{l:aF}(L:LedK n l)(h:n≤50):aVI l:=⟨by have:=L.c.n;omega,fun c hc=>(L.c.c c hc).m,by have:=L.h;omega,L.t⟩
theorem CtxJ.k {n:Nat}{c:aU}(C:CtxJ n c)(h:n≤50):aP6 c:=⟨C.h,C.b,by have:=C.t;omega,by have:=C.hh;omega⟩
theorem aQ4 {h:Int}: ∀{cs:List aC}{p:Option aI},(∀c∈cs,aUk h c)→Srt cs→(∀q,p=some q→ ∀c∈cs,d7 q c.Out<0)→mE h p cs=true
 | [],p,_,_,_=>by cases p<;>rfl
 |c::cs,p,hc,hs,hp=>by
  obtain⟨h1,h2⟩:=aZi.1 hs
  have k:=hc c (by simp)
  have rest:mE h (some c.Out) cs=true:=aQ4 (fun d hd=>hc d (by simp[hd])) h2 (fun q e d hd=>by injection e with e;subst e;exact h1 d hd)
  have cb:aEC h c=true:=by
   unfold aEC
   have:=k.m.p.1.len
   have:=k.h
   simp only[aZg,decide_eq_true_eq]
   omega
  cases p with
  |none=>simp only[mE,cb,rest];rfl
  |some q=>simp only[mE,cb,rest,decide_eq_true (hp q rfl c (by simp))];rfl
theorem aRg : ∀{cs:List aC}{s:Int},(∀c∈cs,0≤c.Output.Value∧c.Output.Value≤2000)→s+2000*cs.length≤2100000000000000→v7 s cs=true
 | [],_,_,_=>rfl
 |c::cs,s,hc,hs=>by
  have k:=hc c (by simp)
  rw[aZu]at hs
  have:=aRg (cs:=cs) (s:=s+c.Output.Value) (fun d hd=>hc d (by simp[hd])) (by omega)
  unfold v7
  rw[this,decide_eq_true k.1,decide_eq_true (show c.Output.Value≤2100000000000000-s by omega)]
  rfl
theorem LedK.sound {n:Nat}{l:aF}(L:LedK n l)(h:n≤50):yN l=true:=by
 have hh:=L.h
 have hn:=L.c.n
 unfold yN
 rw[aQ4 L.c.c L.c.s (fun q e=>by cases e),aRg (fun c hc=>(L.c.c c hc).m.p.2) (by omega),decide_eq_true hh.1,decide_eq_true (show l.Height≤16777216 by omega)]
 rfl
section
variable {N:Nat}(hN:70000≤N)
include hN
theorem aRd {p:aJ}{l:aF}{b:aV}{n:Nat}(P:PK p)(L:LedK n l)(hn:n≤50)(B:aIK b):Ok (z6 N p l b) fun _=>True:=by
 have j1: ∀t,Ok (pX N l b t) fun _=>True:=fun t=>by
  unfold pX
  have T:=B.t.2 _ (aYX B.n)
  obtain⟨x,hx,hm,hl⟩:=aEe T
  refine Ok.ite (fun _=>Ok.pure trivial) fun _=>Ok.ite (fun _=>Ok.pure trivial) fun _=>Ok.eq (bS B.h.p.1) (Ok.eq (bS L.t.1) (Ok.ite (fun _=>Ok.pure trivial) fun _=>Ok.bind (aO4 hN B) fun e _=>Ok.ite (fun _=>Ok.pure trivial) fun _=> ?_))
  exact Ok.eq (bF (i:=0) _ B.n) (Ok.eq (bF (i:=0) _ (by omega)) (Ok.ite (fun _=>Ok.pure trivial) fun _=>Ok.bind (aLn hN T) fun f _=>Ok.ite (fun _=>Ok.pure trivial) fun _=>Ok.pure trivial))
 unfold z6
 exact Ok.bind (aA0 hN P) fun t _=>Ok.ite (fun _=>j1 _) fun _=>Ok.eq (aNb hN (by have:=L.c.n;omega) L.c.ok) (j1 _)
theorem aOJ {p:aJ}{l:aF}{b:aV}{n:Nat}(P:PK p)(L:LedK n l)(hn:n≤50)(B:aIK b):Ok (vB N p l b) fun r=>r.2.2=0→LedK (n+1) r.1:=by
 have hh:=L.h
 have hb:=B.t.1
 have hw:aYW.wrap (l.Height+1)=l.Height+1:=cL (by omega) (by omega)
 unfold vB
 rw[hw]
 refine Ok.bind (aRd hN P L hn B) fun e _=>Ok.ite (fun he=>Ok.pure fun h0=>absurd h0 (by simpa using he)) fun _=>Ok.bind (aEr hN B.h) fun hs hhs=>Ok.eq (bS hhs.1) (Ok.bind (aM3 hN P (by omega)) fun sb _=> ?_)
 refine Ok.lr (R:=fun v=>v.2.2≠0) (P:=fun s=>CsK (l.Height+1) (8*n+8) s.2.1) ?_ (fun v hv=>Ok.pure fun h0=>absurd h0 hv) fun s hs2=> ?_
 ·have:=lp (f:=fun m j (s:Int×List aC×List aC)=>eH N p l b hs m s.1 (j:Int) s.2.1 s.2.2) (Q:=lrP (fun v=>v.2.2≠0) fun s=>CsK (l.Height+1) (8*n+8) s.2.1)
   (fun j s=>CsK (l.Height+1) (8*n+2*j) s.2.1∧s.2.2.length≤j) b.Txs.length (fun m j s hj hs' ih=> ?_) (fun m s hs'=> ?_) N 0 (sb,l.Coins,[]) (by omega) (by omega) ⟨L.c.up (by omega) (by omega),by simp⟩
  ·exact this
  ·obtain⟨most,c4,l6⟩:=s
   obtain⟨K,hl6⟩:CsK (l.Height+1) (8*n+2*j) c4∧l6.length≤j:=hs'
   have T:=B.t.2 _ (aYX hj)
   have j3: ∀(mo:Int)(c u:List aC),CsK (l.Height+1) (8*n+2*j) c→u.length≤j+1→Ok (nD N p l b hs (j:Int) b.Txs[j] (eH N p l b hs m) mo c u) (lrP (fun v=>v.2.2≠0) fun s=>CsK (l.Height+1) (8*n+8) s.2.1):=by
    intro mo c u hc hu
    unfold nD
    rw[hw,i1 (by omega)]
    refine Ok.bind (aU7 hN hc (by omega) (by omega) T) fun r hr=>Ok.ite (fun he=>Ok.pure (show r.2≠0 by simpa using he)) fun he=> ?_
    exact ih (mo,r.1,u) ⟨(hr (by simpa using he)).up (aZV _) (by omega),hu⟩
   show Ok (eH N p l b hs (m+1) most (j:Int) c4 l6) _
   unfold eH
   rw[if_pos (dT hj),hw]
   refine Ok.eq (bF _ hj) (Ok.ite (fun _=> ?_) fun _=>j3 _ _ _ K (by omega))
   refine Ok.bind (aQ3 hN K (by omega) T) fun r hr=>Ok.ite (fun he=>Ok.pure (show r.2≠0 by simpa using he)) fun he=> ?_
   obtain⟨c,hc,ec⟩:=hr (by simpa using he)
   refine Ok.bind (aOS hN T (l:=r.1) (fun d hd=>by rw[ec]at hd;obtain rfl:=aY1.1 hd;exact(K.c _ hc).m)) fun q _=>Ok.ite (fun he2=>Ok.pure (show q.2≠0 by simpa using he2)) fun _=> ?_
   have hrl:r.1.length=1:=by rw[ec];rfl
   refine Ok.bind (P:=fun c'=>CsK (l.Height+1) (8*n+2*j) c') ?_ fun c' hc'=> ?_
   ·refine lp (f:=fun m i s=>kF N p l b hs most (j:Int) l6 b.Txs[j] r q m (i:Int) s) (fun i s=>(i=0∧s=c4)∨(i=1∧CsK (l.Height+1) (8*n+2*j) s)) r.1.length (fun m i s hi hs2 ih=> ?_) (fun m s hs2=> ?_) N 0 c4 (by omega) (by omega) (.inl ⟨rfl,rfl⟩)
    ·have hs3:s=c4:=by
      rcases hs2 with⟨_,h⟩|⟨h,_⟩
      ·exact h
      omega
     subst hs3
     unfold kF
     rw[if_pos (dT hi),i1 (by omega)]
     have hg:r.1[i]=c:=(show∀y∈r.1,y=c by rw[ec];simp) _ (aYX hi)
     refine Ok.eq (bF _ hi) ?_
     rw[hg]
     refine Ok.eq (aJb hN K (by omega) (K.ok c hc)) ?_
     rcases aF8 c.Out s 0 with⟨_,h2⟩|⟨k,hk,h2,_⟩
     ·exact absurd (aGW _) (h2 c hc)
     rw[h2,show(0:Int)+(k:Int)=(k:Int) by omega]
     exact Ok.bind (aOH hN K (by omega) hk) fun s' hs'=>ih _ (.inr ⟨by omega,hs'⟩)
    unfold kF
    rw[if_neg (by simp)]
    rcases hs2 with⟨h,_⟩|⟨_,h⟩
    ·omega
    exact Ok.pure h
   unfold uY
   exact Ok.eq (hH (by omega) (by omega)) (j3 _ _ _ hc' (by rw[aYY];omega))
  unfold eH
  rw[if_neg (by simp)]
  exact Ok.pure (show CsK (l.Height+1) (8*n+8) s.2.1 from hs'.1.up (aZV _) (by omega))
 unfold u4
 rw[hw]
 have T:=B.t.2 _ (aYX B.n)
 have nz: ∀(l':aF)(u:cD)(k:Int),k≠0→Ok (some (l',u,k)) fun r=>r.2.2=0→LedK (n+1) r.1:=fun l' u k hk=>Ok.pure fun h0=>absurd h0 hk
 refine Ok.eq (bF (i:=0) _ B.n) (Ok.bind (aND hN T) fun o ho=>Ok.bind (aLW hN (by have:=ho.n;omega)) fun t1 _=>Ok.ite (fun _=>nz _ _ _ (by decide)) fun _=>Ok.bind (aLW hN (by have:=hs2.n;omega)) fun t2 _=>Ok.ite (fun _=>nz _ _ _ (by decide)) fun _=>Ok.ite (fun _=>nz _ _ _ (by decide)) fun _=>Ok.pure fun _=> ?_)
 exact⟨hhs,by simp only;omega,hs2.up (aZV _) (by omega)⟩
theorem aPq {p:aJ}{c:aU}{h:bT}{n:Nat}(P:PK p)(C:CtxJ n c)(hn:n≤50)(H:HdK h):Ok (rE N p c h) fun r=>CtxJ (n+1) r.1:=by
 have z:CtxJ (n+1) (aU.mk 0 (aYZ 32 0) 0 0 []):=⟨⟨rfl,fun x hx=>by have:=aY8 hx;omega⟩,w0,by simp,by simp only;omega⟩
 have ct:=C.t
 have chh:=C.hh
 unfold rE
 refine Ok.bind (P:=fun _=>True) ?_ fun f _=>Ok.ite (fun _=>Ok.pure z) fun _=>Ok.ite (fun _=>Ok.pure z) fun _=>Ok.bind (aEr hN H) fun hs hhs=>Ok.eq (bS hhs.1) ?_
 ·unfold aDJ oU
  exact Ok.bind (aA0 hN P) fun t _=>Ok.ite (fun _=>Ok.ite (fun _=>Ok.ite (fun _=>Ok.pure trivial) fun _=>Ok.pure trivial) fun _=>Ok.pure trivial) fun _=>Ok.pure trivial
 have j1: ∀f,Ok (mW N c h hs f) fun r=>CtxJ (n+1) r.1:=fun f=>by
  unfold mW qE
  rw[cL (by omega) (by omega)]
  refine Ok.eq (hH (by omega) (by simp;omega)) (Ok.eq (hH (by omega) (by simp;omega)) (Ok.ite (fun hc=> ?_) fun _=>Ok.pure ⟨hhs,H.b,by simp;omega,by simp only;omega⟩))
  have hc':=of_decide_eq_true hc
  refine Ok.eq (aET (a:=1) (by simp at hc'⊢) (aZB _)) (Ok.pure ⟨hhs,H.b,by simp;omega,by simp only;omega⟩)
 have hw:=P.win
 have hr: ∃y,rem (aYW.wrap (c.Height+1)) p.Window=some y:=by
  unfold rem;rw[if_neg (by omega)];exact⟨_,rfl⟩
 obtain⟨y,hy⟩:=hr
 exact Ok.eq hy (Ok.ite (fun _=>j1 _) fun _=>j1 _)
theorem aOY {p:aJ}{c:aU}{h:bT}{n:Nat}{now:Int}(P:PK p)(C:CtxJ n c)(hn:n≤50)(H:HdK h):Ok (z5 N p c h now) fun _=>True:=by
 unfold z5
 refine Ok.bind (aPq hN P C hn H) fun a ha=>Ok.ite (fun _=>Ok.pure trivial) fun _=>Ok.eq (bS H.p.1) (Ok.eq (bS C.h.1) (Ok.ite (fun _=>Ok.pure trivial) fun _=>Ok.ite (fun _=>Ok.pure trivial) fun _=>Ok.bind (aOC hN P (C.k hn)) fun q _=>Ok.ite (fun _=>Ok.pure trivial) fun _=>Ok.ite (fun _=>Ok.pure trivial) fun _=>Ok.eq (bS ha.h.1) (Ok.bind (aLr hN ha.h.1 H.b) fun m _=>Ok.ite (fun _=>Ok.pure trivial) fun _=>Ok.bind (aJw hN (by have:=C.t;omega)) fun md _=>Ok.ite (fun _=>Ok.pure trivial) fun _=>Ok.ite (fun _=>Ok.pure trivial) fun _=> ?_)))
 refine Ok.lr (R:=fun _=>True) (P:=fun _=>True) ?_ (fun v _=>Ok.pure trivial) fun _ _=>Ok.pure trivial
 refine lpU (f:=fun m j=>kV N p a m (j:Int)) 0 (fun m j hj ih=>absurd hj (by omega)) (fun m=> ?_) N 0 (by omega) (by omega)
 unfold kV
 rw[if_neg (by rw[P.chk];simp)]
 exact Ok.pure trivial
theorem aP3 {v:Int}(h:0≤v∧v<256):Ok (aAi N v) PK:=by
 unfold aAi
 have e:aEy N [0,0,0,0]=some (U 115792089237316195423570985008687907853269984665640564039457584007913129639935):=rfl
 have e1: ∀x∈aYZ 32 (0:Int),0≤x∧x<256:=fun x hx=>by have:=aY8 hx;omega
 refine Ok.eq e (Ok.eq (aJt hN (n:=1) (by omega) (by omega) (by decide)) (Ok.eq (fW _) (Ok.pure ⟨⟨show(0:Int)≤545259519 by decide,show(545259519:Int)<4294967296 by decide⟩,aGf _,rfl,rfl, ?_,⟨show(1:Int)≤5 by decide,show(5:Int)≤1048576 by decide⟩,⟨rfl,e1⟩,⟨rfl,e1⟩⟩)))
 obtain⟨n,rfl⟩: ∃n:Nat,v=(n:Int):=⟨v.toNat,by omega⟩
 simp only
 rw[show aZc (n:Int) 5=((n%5:Nat):Int)from gP n 5,cL (a:=((n%5:Nat):Int)) (by omega) (by omega),cL (by omega) (by omega)]
 omega
structure z8 (j:Nat)(w:aW):Prop where
 p:PK w.Params
 b:w.Blocks.length≤j
 u:w.Undos.length≤j
 ln:0<w.Ledgers.length∧w.Ledgers.length≤j+1
 l: ∀l∈w.Ledgers,LedK j l
 cn:0<w.Contexts.length∧w.Contexts.length≤j+1
 c: ∀c∈w.Contexts,CtxJ j c
theorem aRK {v:Int}(h:0≤v∧v<256):Ok (aBA N v) (z8 0):=by
 have zH:kD (aYZ 32 (0:Int)):=⟨rfl,fun x hx=>by have:=aY8 hx;omega⟩
 have zc:CsK 0 (8*0) []:=⟨by simp,by simp,aZ1⟩
 unfold aBA
 refine Ok.bind (aP3 hN h) fun p P=> ?_
 have G:HdK p.Genesis:=⟨P.gp,P.gr,P.gb⟩
 refine Ok.bind (P:=fun r=>LedK 0 r.1) ?_ fun l L=>Ok.bind (P:=fun r=>CtxJ 0 r.1) ?_ fun c C=>Ok.pure ⟨P,by simp,by simp,by simp,fun x hx=> ?_,by simp,fun x hx=> ?_⟩
 ·unfold sH
  exact Ok.bind (aA0 hN P) fun t _=>Ok.ite (fun _=>Ok.pure ⟨zH,by simp,zc⟩) fun _=>Ok.bind (aEr hN G) fun x hx=>Ok.eq (bS hx.1) (Ok.pure ⟨hx,by simp,zc⟩)
 ·unfold aCN
  exact Ok.bind (aA0 hN P) fun t _=>Ok.ite (fun _=>Ok.pure ⟨zH,w0,by simp,by simp⟩) fun _=>Ok.bind (aEr hN G) fun x hx=>Ok.eq (bS hx.1) (Ok.pure ⟨hx,P.gb,by simp,by simp⟩)
 ·obtain rfl:=aY1.1 hx;exact L
 obtain rfl:=aY1.1 hx;exact C
theorem aSy {w:aW}(W:z8 0 w){l:List Int}(hl:l.length≤8)(hs:Byt l):Ok (aCZ N w l) (z8 l.length):=by
 have wb:=W.b
 have wu:=W.u
 have wl:=W.ln
 have wc:=W.cn
 unfold aCZ
 refine Ok.eq (hH (by omega) (by simp;omega)) (Ok.eq (hH (by omega) (by simp;omega)) (Ok.eq (hH (by omega) (by simp;omega)) (Ok.eq (hH (by omega) (by simp;omega)) ?_)))
 refine Ok.bind (P:=fun s=>z8 l.length (aW.mk w.Params s.1 s.2.1 s.2.2.1 s.2.2.2)) ?_ fun s hs=>Ok.pure hs
 simp only[aZp]
 have:=lp (f:=fun m j (s:List aV×List aF×List aU×List cD)=>iH N w l m (j:Int) s.1 s.2.1 s.2.2.1 s.2.2.2) (Q:=fun s=>z8 l.length (aW.mk w.Params s.1 s.2.1 s.2.2.1 s.2.2.2))
  (fun j s=>z8 j (aW.mk w.Params s.1 s.2.1 s.2.2.1 s.2.2.2)) l.length (fun m j s hj hs' ih=> ?_) (fun m s hs'=> ?_) N 0 (w.Blocks,w.Ledgers,w.Contexts,w.Undos) (by omega) (by omega) W
 ·exact this
 ·obtain⟨l2,l3,l4,l5⟩:=s
  obtain⟨P,b,u,ln,lk,cn,ck⟩:z8 j (aW.mk w.Params l2 l3 l4 l5):=hs'
  simp only at P b u ln lk cn ck
  unfold iH
  rw[if_pos (dT hj),cL (a:=(l3.length:Int)-1) (by omega) (by omega),cL (a:=(l4.length:Int)-1) (by omega) (by omega),show(l3.length:Int)-1=((l3.length-1:Nat):Int) by omega,show(l4.length:Int)-1=((l4.length-1:Nat):Int) by omega]
  have L:=lk _ (aYX (show l3.length-1<l3.length by omega))
  have C:=ck _ (aYX (show l4.length-1<l4.length by omega))
  refine Ok.eq (bF _ hj) (Ok.eq (bF _ (show l3.length-1<l3.length by omega)) (Ok.eq (bF _ (show l4.length-1<l4.length by omega)) ?_))
  generalize l3[l3.length-1]=at_ at L
  generalize l4[l4.length-1]=c at C
  refine Ok.bind (aQU hN P (L.m (by omega)) (C.k (by omega)) (hs _ (aYX hj))) fun b' B=>Ok.bind (aOJ hN P L (by omega) B) fun r hr=> ?_
  have j4: ∀t:Bool,(t=false→r.2.2=0)→Ok (t8 N w l (j:Int) l2 l3 l4 l5 c b' r (iH N w l m) t) fun s=>z8 l.length (aW.mk w.Params s.1 s.2.1 s.2.2.1 s.2.2.2):=by
   intro t ht
   unfold t8 xE
   rw[i1 (by omega)]
   refine Ok.ite (fun _=>ih (l2,l3,l4,l5) ⟨P,by simp only;omega,by simp only;omega,by simp only;omega,fun x hx=>(lk x hx).up (by omega),by simp only;omega,fun x hx=>(ck x hx).up (by omega)⟩) fun hf=> ?_
   have L2:=hr (ht (by cases t;rfl;exact absurd rfl hf))
   refine Ok.bind (aPq hN P C (by omega) B.h) fun a A=>Ok.eq (hH (by omega) (by simp;omega)) (Ok.eq (hH (by omega) (by simp;omega)) (Ok.eq (hH (by omega) (by simp;omega)) (Ok.eq (hH (by omega) (by simp;omega)) ?_)))
   refine ih (_,_,_,_) ⟨P,by simp;omega,by simp;omega,by simp;omega,fun x hx=> ?_,by simp;omega,fun x hx=> ?_⟩
   ·rcases aY4.1 hx with hx|hx
    ·exact(lk x hx).up (by omega)
    obtain rfl:=aY1.1 hx;exact L2
   rcases aY4.1 hx with hx|hx
   ·exact(ck x hx).up (by omega)
   obtain rfl:=aY1.1 hx;exact A
  exact Ok.ite (fun _=>j4 _ (by simp)) fun hne=>Ok.bind (aOY hN P C (by omega) B.h) fun e _=>j4 _ (fun _=>by simpa using hne)
 unfold iH
 rw[if_neg (by simp)]
 exact Ok.pure hs'
theorem aQ1 {v:Int}(h:0≤v∧v<256){eV:List Int}(hs:Byt eV):Ok (z7 N v eV) fun w=> ∃j,j≤8∧z8 j w:=by
 unfold z7
 obtain⟨k,hk,h8,e⟩: ∃k:Nat,k≤eV.length∧k≤8∧(if(8:Int)<(eV.length:Int)then 8 else(eV.length:Int))=(k:Int):=by
  by_cases h8:8<eV.length
  ·exact⟨8,by omega,by omega,by rw[if_pos (by omega)];rfl⟩
  exact⟨eV.length,by omega,by omega,by rw[if_neg (by omega)]⟩
 refine Ok.bind (P:=fun s=>s.length≤8∧Byt s) ?_ fun s hs'=> ?_
 ·unfold aEA
  rw[e]
  refine Ok.eq (aET (a:=0) (aZk k) hk) (Ok.pure ⟨by simp;omega,fun x hx=> ?_⟩)
  rw[aZa]at hx
  exact hs x (aZE hx)
 refine Ok.bind (P:=fun w=> ∃j,j≤8∧z8 j w) ?_ fun w hw=>Ok.pure hw
 unfold aB5
 refine Ok.bind (aRK hN h) fun w W=>Ok.bind (aSy hN W hs'.1 hs'.2) fun w' W'=>Ok.pure ⟨_,hs'.1,W'⟩
end
section
variable {N:Nat}(hN:70000≤N)
include hN
theorem aNw {l:List aC}:Ok (aBk N l 12) fun b=>b=true→l.length≤12:=by
 unfold aBk
 refine Ok.ite (fun _=>Ok.pure fun h=>by cases h) fun h=> ?_
 have hl:l.length≤12:=by
  rcases aZJ 12 l.length with h2|h2
  ·exact absurd (decide_eq_true (show(12:Int)<(l.length:Int) by omega)) h
  exact h2
 refine Ok.lr (R:=fun _=>True) (P:=fun _=>True) ?_ (fun v _=>Ok.pure fun _=>hl) fun _ _=>Ok.pure fun _=>hl
 refine lpU (f:=fun m j=>oZ N l m (j:Int)) l.length (fun m j hj ih=> ?_) (fun m=> ?_) N 0 (by omega) (by omega)
 ·unfold oZ
  rw[if_pos (dT hj),i1 (by omega)]
  exact Ok.eq (bF _ hj) (Ok.ite (fun _=>Ok.pure trivial) fun _=>ih)
 unfold oZ
 rw[if_neg (by simp)]
 exact Ok.pure trivial
theorem aR1 {p:aJ}(hb:wP p.Genesis.Bits)(hL:Wd p.Limit)(hc:p.Checkpoints.length≤8)(hp:kD p.Genesis.Prev)(hr:kD p.Genesis.Root):
  ∃q:aF×Int,xQ N p=some q∧sH N p=some q∧q.1.Tip.length=32∧q.1.Coins=[]:=by
 obtain⟨L,hL',eL⟩:=hL.ex
 have v1:=aRP hN (b:=p.Genesis.Bits.toNat) (L:=L) (by have:=hb.2;omega) (by have:=hb.1;omega) hL' eL (by omega)
 have v2:=aNz hN (b:=p.Genesis.Bits.toNat) (L:=L) (by have:=hb.2;omega) (by have:=hb.1;omega) hL' eL (by omega)
 unfold xQ sH
 rw[v1,v2,aWJ N hN p.Genesis hp.1 hr.1 hp.2 hr.2,aQQ N hN p.Genesis hp.1 hr.1 hp.2 hr.2]
 simp only[aYV]
 split
 ·exact⟨_,rfl,rfl,rfl,rfl⟩
 rw[bS (aNi N _).1]
 exact⟨_,rfl,rfl,(aNi N _).1,rfl⟩
theorem aRL {l:aF}(h:l.Tip.length=32)(hc:l.Coins=[]):aBV N l l=some true:=by
 obtain⟨m,rfl⟩: ∃m,N=m+1:=⟨N-1,by omega⟩
 unfold aBV
 rw[if_pos (by simp),bS h]
 simp only[aYV,beq_self_eq_true,if_true]
 rw[hc]
 rfl
theorem aQM {p:aJ}{l:aF}{height:Int}{o:aI}{v:Int}{eV:List Int}(hb:wP p.Genesis.Bits)(hL:Wd p.Limit)(hp:kD p.Genesis.Prev)(hr:kD p.Genesis.Root)(hl: ∀c∈l.Coins,OkO c.Out)(hh: -9223372036854775808≤height∧height≤9223372036854775807)(ho:OkO o)(hv:0≤v∧v<256)(hs:Byt eV):
  Ok (kM N p l height o v eV) fun b=>b=true:=by
 have j2:Ok (d9 N height v eV false) fun b=>b=true:=by
  unfold d9
  refine Ok.ite (fun h=>by cases h) fun _=>Ok.bind (aQ1 hN hv hs) fun w hw=> ?_
  obtain⟨j,hj,W⟩:=hw
  have ln:=W.ln
  rw[cL (by omega) (by omega),show(w.Ledgers.length:Int)-1=((w.Ledgers.length-1:Nat):Int) by omega]
  have L:=W.l _ (aYX (show w.Ledgers.length-1<w.Ledgers.length by omega))
  refine Ok.eq (bF _ (show w.Ledgers.length-1<w.Ledgers.length by omega)) ?_
  generalize w.Ledgers[w.Ledgers.length-1]=at_ at L
  have hn:=L.c.n
  have snd:=L.sound (by omega)
  refine Ok.lr (R:=fun _=>False) (P:=fun _=>True) ?_ (fun _ h=>h.elim) fun _ _=> ?_
  ·refine lpU (f:=fun m i=>fX N height w at_ m (i:Int)) at_.Coins.length (fun m i hi ih=> ?_) (fun m=> ?_) N 0 (by omega) (by omega)
   ·unfold fX
    rw[if_pos (dT hi),i1 (by omega)]
    have oi:=L.c.ok _ (aYX hi)
    refine Ok.eq (bF _ hi) (Ok.eq (aUo hN (by omega) L.c.ok oi) ?_)
    rw[if_pos snd,aPO 0 hi (fun k hk hki=>by have:=aZN.1 L.c.s k i hk hi hki;omega) (aGW _)]
    refine Ok.ite (fun h=> ?_) fun _=>ih
    exact absurd h (by simp)
   unfold fX
   rw[if_neg (by simp)]
   exact Ok.pure trivial
  unfold oA kU
  obtain⟨LM,hLM,eLM⟩:=W.p.lim.ex
  have hgb:=W.p.gb
  have hck:w.Params.Checkpoints.length≤1000:=by rw[W.p.chk];simp
  have h100: -9223372036854775808≤aZc height 100∧aZc height 100≤9223372036854775807:=by
   have h1:=Int.tmod_lt_of_pos height (show(0:Int)<100 by omega)
   have h2:=Int.lt_tmod_of_pos height (show(0:Int)<100 by omega)
   omega
  refine Ok.eq (aNK hN (by omega) L.c.ok) ?_
  rw[snd]
  refine Ok.ite (fun _=> ?_) fun h=>absurd rfl h
  refine Ok.eq (aNn hN (b:=w.Params.Genesis.Bits.toNat) (L:=LM) (by have:=hgb.2;omega) (by have:=hgb.1;omega) hLM eLM hck h100) (Ok.eq (aII hN (b:=w.Params.Genesis.Bits.toNat) (L:=LM) (by have:=hgb.2;omega) (by have:=hgb.1;omega) hLM eLM hck h100) (Ok.pure ?_))
  simp
 have j1:p.Checkpoints.length≤8→ ∀t:Bool,(t=false→l.Coins.length≤12)→Ok (gB N p l height o v eV t) fun b=>b=true:=by
  intro hck t ht
  unfold gB
  refine Ok.ite (fun _=>Ok.pure rfl) fun hf=> ?_
  have hn:=ht (by cases t;rfl;exact absurd rfl hf)
  obtain⟨q,e1,e2,q1,q2⟩:=aR1 hN hb hL hck hp hr
  refine Ok.eq e1 (Ok.eq e2 (Ok.ite (fun h=>absurd h (by simp)) fun _=>Ok.eq (aRL hN q1 q2) (Ok.ite (fun h=>absurd h (by simp)) fun _=> ?_)))
  refine Ok.eq (aNK hN (by omega) hl) (Ok.eq (aNb hN (by omega) hl) (Ok.ite (fun h=>absurd h (by simp)) fun _=> ?_))
  obtain⟨LM,hLM,eLM⟩:=hL.ex
  refine Ok.eq (aNn hN (b:=p.Genesis.Bits.toNat) (L:=LM) (by have:=hb.2;omega) (by have:=hb.1;omega) hLM eLM (by omega) hh) (Ok.eq (aII hN (b:=p.Genesis.Bits.toNat) (L:=LM) (by have:=hb.2;omega) (by have:=hb.1;omega) hLM eLM (by omega) hh) (Ok.ite (fun h=>absurd h (by simp)) fun _=> ?_))
  refine Ok.eq (aUo hN (by omega) hl ho) (Ok.eq (aXd hN (by omega) hl ho) ?_)
  simp only[bne_self_eq_false]
  exact j2
 unfold kM
 refine Ok.eq (x:=aFB N) rfl (Ok.ite (fun h=>absurd h (by simp)) fun _=> ?_)
 unfold aCH
 refine Ok.eq rfl (Ok.ite (fun h=> ?_) fun h=> ?_)
 ·unfold gB
  exact Ok.pure rfl
 have hck:p.Checkpoints.length≤8:=by
  have:decide ((p.Checkpoints.length:Int)≤8)=true:=by simpa using h
  have:=of_decide_eq_true this
  omega
 refine Ok.bind (aNw hN) fun b hb2=>j1 hck _ fun hf=>hb2 ?_
 cases b
 ·cases hf
 rfl
end
theorem aH3 {N:Nat}(hN:70000≤N){p:aJ}{l:aF}{height:Int}{o:aI}{v:Int}{eV:List Int}(hb:wP p.Genesis.Bits)(hL:Wd p.Limit)(hp:kD p.Genesis.Prev)(hr:kD p.Genesis.Root)(hl: ∀c∈l.Coins,OkO c.Out)(hh: -9223372036854775808≤height∧height≤9223372036854775807)(ho:OkO o)(hv:0≤v∧v<256)(hs:Byt eV):kM N p l height o v eV=some true:=by
 obtain⟨b,e,rfl⟩:=aQM hN hb hL hp hr hl hh ho hv hs
 exact e
theorem mixed :Tryz.prog.follows .mixedOrders=true:=by kernel_rfl
theorem dep :2≤Tryz.prog.depth:=Nat.le_of_ble_eq_true (by kernel_rfl)
instance :DepC Tryz.prog:=⟨dep⟩
noncomputable def E1 :Env Tryz.prog:={O:=fun _ _ _=>none,F:=aX9,ok:=fun _ _ _ _ _ hh=>(by cases hh),still:=fun _ _ _ _ _ _ hh=>(by cases hh),mixed:=mixed}
instance :TiC Tryz.prog 2 (tv ti2):=⟨ti2⟩
instance :TiC Tryz.prog 3 (tv ti3):=⟨ti3⟩
instance :TiC Tryz.prog 4 (tv ti4):=⟨ti4⟩
instance :TiC Tryz.prog 5 (tv sP):=⟨sP⟩
instance :TiC Tryz.prog 9 (tv ti9):=⟨ti9⟩
instance :TiC Tryz.prog 12 (tv aVE):=⟨aVE⟩
instance :TiC Tryz.prog 21 (tv aWS):=⟨aWS⟩
instance :TiC Tryz.prog 22 (tv lH):=⟨lH⟩
instance :TiC Tryz.prog 23 (tv aWM):=⟨aWM⟩
instance :TiC Tryz.prog 24 (tv lD):=⟨lD⟩
instance :TiC Tryz.prog 25 (tv aW1):=⟨aW1⟩
instance :TiC Tryz.prog 26 (tv aCy):=⟨aCy⟩
instance :TiC Tryz.prog 27 (tv rD):=⟨rD⟩
instance :TiC Tryz.prog 28 (tv aWr):=⟨aWr⟩
instance :TiC Tryz.prog 29 (tv sN):=⟨sN⟩
instance :TiC Tryz.prog 30 (tv aTc):=⟨aTc⟩
instance :TiC Tryz.prog 31 (tv aWe):=⟨aWe⟩
instance :TiC Tryz.prog 32 (tv aAO):=⟨aAO⟩
instance :TiC Tryz.prog 33 (tv aIT):=⟨aIT⟩
instance :TiC Tryz.prog 34 (tv aWN):=⟨aWN⟩
instance :TiC Tryz.prog 35 (tv uV):=⟨uV⟩
instance :TiC Tryz.prog 36 (tv aVR):=⟨aVR⟩
instance :TiC Tryz.prog 37 (tv rB):=⟨rB⟩
instance :TiC Tryz.prog 38 (tv z4):=⟨z4⟩
instance :TiC Tryz.prog 42 (tv aWH):=⟨aWH⟩
instance :TiC Tryz.prog 49 (tv aTd):=⟨aTd⟩
instance :TiC Tryz.prog 50 (tv aSa):=⟨aSa⟩
instance :TiC Tryz.prog 51 (tv aTt):=⟨aTt⟩
instance :TiC Tryz.prog 52 (tv aR7):=⟨aR7⟩
instance :TiC Tryz.prog 53 (tv aVS):=⟨aVS⟩
instance :TiC Tryz.prog 54 (tv aGe):=⟨aGe⟩
instance :TiC Tryz.prog 56 (tv aVT):=⟨aVT⟩
instance :NoA Tryz.prog 56:=⟨trivial⟩
instance :TiC Tryz.prog 57 (tv aM2):=⟨aM2⟩
instance :NoA Tryz.prog 57:=⟨trivial⟩
instance :TiC Tryz.prog 58 (tv aWR):=⟨aWR⟩
instance :TiC Tryz.prog 59 (tv yA):=⟨yA⟩
instance :TiC Tryz.prog 65 (tv aP9):=⟨aP9⟩
instance :TiC Tryz.prog 76 (tv aSH):=⟨aSH⟩
instance :TiC Tryz.prog 77 (tv aVD):=⟨aVD⟩
instance :TiC Tryz.prog 78 (tv aG4):=⟨aG4⟩
instance :TiC Tryz.prog 79 (tv aVV):=⟨aVV⟩
instance :NoA Tryz.prog 79:=⟨trivial⟩
instance :TiC Tryz.prog 80 (tv aSR):=⟨aSR⟩
instance :NoA Tryz.prog 80:=⟨trivial⟩
instance :TiC Tryz.prog 83 (tv aWn):=⟨aWn⟩
instance :TiC Tryz.prog 85 (tv aVX):=⟨aVX⟩
instance :TiC Tryz.prog 86 (tv aNt):=⟨aNt⟩
instance :TiC Tryz.prog 100 (tv aME):=⟨aME⟩
instance :TiC Tryz.prog 101 (tv aTA):=⟨aTA⟩
instance :TiC Tryz.prog 102 (tv bI):=⟨bI⟩
instance :TiC Tryz.prog 110 (tv aTI):=⟨aTI⟩
instance :TiC Tryz.prog 111 (tv aTV):=⟨aTV⟩
instance :TiC Tryz.prog 112 (tv aTQ):=⟨aTQ⟩
instance :TiC Tryz.prog 113 (tv aUl):=⟨aUl⟩
instance :TiC Tryz.prog 114 (tv aQf):=⟨aQf⟩
instance :TiC Tryz.prog 115 (tv aQj):=⟨aQj⟩
instance :TiC Tryz.prog 116 (tv aTx):=⟨aTx⟩
instance :NoA Tryz.prog 116:=⟨trivial⟩
instance :TiC Tryz.prog 117 (tv aHZ):=⟨aHZ⟩
instance :NoA Tryz.prog 117:=⟨trivial⟩
instance :TiC Tryz.prog 123 (tv aUa):=⟨aUa⟩
instance :TiC Tryz.prog 129 (tv aUq):=⟨aUq⟩
instance :TiC Tryz.prog 151 (tv aTW):=⟨aTW⟩
instance :TiC Tryz.prog 152 (tv aEE):=⟨aEE⟩
instance :TiC Tryz.prog 160 (tv aFR):=⟨aFR⟩
instance :TiC Tryz.prog 162 (tv aMU):=⟨aMU⟩
instance :TiC Tryz.prog 175 (tv aHS):=⟨aHS⟩
instance :TiC Tryz.prog 188 (tv aMH):=⟨aMH⟩
instance :TiC Tryz.prog 196 (tv aTE):=⟨aTE⟩
instance :TiC Tryz.prog 205 (tv aTH):=⟨aTH⟩
instance :TiC Tryz.prog 206 (tv aHP):=⟨aHP⟩
instance :TiC Tryz.prog 215 (tv aTU):=⟨aTU⟩
instance :TiC Tryz.prog 216 (tv aT0):=⟨aT0⟩
instance :TiC Tryz.prog 224 (tv aT7):=⟨aT7⟩
instance :TiC Tryz.prog 229 (tv aMR):=⟨aMR⟩
instance :TiC Tryz.prog 231 (tv aMG):=⟨aMG⟩
instance :TiC Tryz.prog 233 (tv aTy):=⟨aTy⟩
instance :TiC Tryz.prog 236 (tv aUg):=⟨aUg⟩
instance :TiC Tryz.prog 243 (tv aT9):=⟨aT9⟩
instance :TiC Tryz.prog 249 (tv aQl):=⟨aQl⟩
instance :TiC Tryz.prog 250 (tv aUs):=⟨aUs⟩
instance :NoA Tryz.prog 250:=⟨trivial⟩
instance :TiC Tryz.prog 251 (tv aFP):=⟨aFP⟩
instance :NoA Tryz.prog 251:=⟨trivial⟩
instance :TiC Tryz.prog 253 (tv aT5):=⟨aT5⟩
instance :NoA Tryz.prog 253:=⟨trivial⟩
instance :TiC Tryz.prog 254 (tv aJ5):=⟨aJ5⟩
instance :NoA Tryz.prog 254:=⟨trivial⟩
instance :TiC Tryz.prog 258 (tv aTF):=⟨aTF⟩
instance :TiC Tryz.prog 259 (tv aUc):=⟨aUc⟩
instance :TiC Tryz.prog 260 (tv aT8):=⟨aT8⟩
instance :TiC Tryz.prog 262 (tv aTK):=⟨aTK⟩
instance :TiC Tryz.prog 266 (tv aTw):=⟨aTw⟩
instance :TiC Tryz.prog 270 (tv aQn):=⟨aQn⟩
instance :TiC Tryz.prog 277 (tv aTB):=⟨aTB⟩
instance :TiC Tryz.prog 278 (tv aTY):=⟨aTY⟩
instance :NoA Tryz.prog 278:=⟨trivial⟩
instance :TiC Tryz.prog 279 (tv aTC):=⟨aTC⟩
instance :NoA Tryz.prog 279:=⟨trivial⟩
instance :TiC Tryz.prog 282 (tv aTM):=⟨aTM⟩
instance :TiC Tryz.prog 285 (tv aTL):=⟨aTL⟩
instance :TiC Tryz.prog 286 (tv aKa):=⟨aKa⟩
instance :TiC Tryz.prog 316 (tv aUh):=⟨aUh⟩
instance :FaC Tryz.prog 26 0 0:=fH aCy rfl lH rfl rfl
instance :FaC Tryz.prog 26 1 1:=fH aCy rfl lD rfl rfl
instance :FaC Tryz.prog 26 2 33:=fH aCy rfl lD rfl rfl
instance :FaC Tryz.prog 26 3 65:=fH aCy rfl lH rfl rfl
instance :FaC Tryz.prog 26 4 66:=fH aCy rfl lH rfl rfl
instance :FaC Tryz.prog 26 5 67:=fH aCy rfl lH rfl rfl
instance :FaC Tryz.prog 32 0 0:=fH aAO rfl aCy rfl rfl
instance :FaC Tryz.prog 32 1 68:=fH aAO rfl sN rfl rfl
instance :FaC Tryz.prog 32 2 72:=fH aAO rfl ti3 rfl rfl
instance :FaC Tryz.prog 32 3 73:=fH aAO rfl lH rfl rfl
instance :FaC Tryz.prog 32 4 74:=fH aAO rfl lH rfl rfl
instance :FaC Tryz.prog 32 5 75:=fH aAO rfl lH rfl rfl
instance :FaC Tryz.prog 32 6 76:=fH aAO rfl aTc rfl rfl
instance :FaC Tryz.prog 32 7 77:=fH aAO rfl ti2 rfl rfl
instance :FaC Tryz.prog 32 8 78:=fH aAO rfl ti3 rfl rfl
instance :FaC Tryz.prog 32 9 79:=fH aAO rfl ti3 rfl rfl
instance :FaC Tryz.prog 35 0 0:=fH uV rfl ti3 rfl rfl
instance :FaC Tryz.prog 35 1 1:=fH uV rfl lD rfl rfl
instance :FaC Tryz.prog 35 2 33:=fH uV rfl aIT rfl rfl
instance :FaC Tryz.prog 37 0 0:=fH rB rfl lD rfl rfl
instance :FaC Tryz.prog 37 1 32:=fH rB rfl lH rfl rfl
instance :FaC Tryz.prog 54 0 0:=fH aGe rfl aAO rfl rfl
instance :FaC Tryz.prog 54 1 80:=fH aGe rfl aTd rfl rfl
instance :FaC Tryz.prog 54 2 81:=fH aGe rfl aSa rfl rfl
instance :FaC Tryz.prog 54 3 82:=fH aGe rfl aTt rfl rfl
instance :FaC Tryz.prog 54 4 83:=fH aGe rfl aR7 rfl rfl
instance :FaC Tryz.prog 57 0 0:=fH aM2 rfl ti2 rfl rfl
instance :FaC Tryz.prog 57 1 1:=fH aM2 rfl z4 rfl rfl
instance :FaC Tryz.prog 59 0 0:=fH yA rfl rB rfl rfl
instance :FaC Tryz.prog 59 1 33:=fH yA rfl aM2 rfl rfl
instance :FaC Tryz.prog 59 2 35:=fH yA rfl ti3 rfl rfl
instance :FaC Tryz.prog 59 3 36:=fH yA rfl ti4 rfl rfl
instance :FaC Tryz.prog 78 0 0:=fH aG4 rfl aCy rfl rfl
instance :FaC Tryz.prog 78 1 68:=fH aG4 rfl aSH rfl rfl
instance :FaC Tryz.prog 80 0 0:=fH aSR rfl aIT rfl rfl
instance :FaC Tryz.prog 86 0 0:=fH aNt rfl ti3 rfl rfl
instance :FaC Tryz.prog 86 1 1:=fH aNt rfl lD rfl rfl
instance :FaC Tryz.prog 102 0 0:=fH bI rfl ti3 rfl rfl
instance :FaC Tryz.prog 102 1 1:=fH bI rfl lD rfl rfl
instance :FaC Tryz.prog 102 2 33:=fH bI rfl lH rfl rfl
instance :FaC Tryz.prog 102 3 34:=fH bI rfl lH rfl rfl
instance :FaC Tryz.prog 102 4 35:=fH bI rfl aME rfl rfl
instance :FaC Tryz.prog 117 0 0:=fH aHZ rfl lH rfl rfl
instance :FaC Tryz.prog 117 1 1:=fH aHZ rfl aQf rfl rfl
instance :FaC Tryz.prog 117 2 2:=fH aHZ rfl aQj rfl rfl
instance :FaC Tryz.prog 117 3 3:=fH aHZ rfl lH rfl rfl
instance :FaC Tryz.prog 152 0 0:=fH aEE rfl rB rfl rfl
instance :FaC Tryz.prog 152 1 33:=fH aEE rfl lH rfl rfl
instance :FaC Tryz.prog 152 2 34:=fH aEE rfl aP9 rfl rfl
instance :FaC Tryz.prog 206 0 0:=fH aHP rfl lD rfl rfl
instance :FaC Tryz.prog 206 1 32:=fH aHP rfl ti3 rfl rfl
instance :FaC Tryz.prog 206 2 33:=fH aHP rfl ti3 rfl rfl
instance :FaC Tryz.prog 251 0 0:=fH aFP rfl ti3 rfl rfl
instance :FaC Tryz.prog 251 1 1:=fH aFP rfl z4 rfl rfl
instance :FaC Tryz.prog 251 2 2:=fH aFP rfl ti3 rfl rfl
instance :FaC Tryz.prog 251 3 3:=fH aFP rfl ti3 rfl rfl
instance :FaC Tryz.prog 254 0 0:=fH aJ5 rfl ti4 rfl rfl
instance :FaC Tryz.prog 254 1 1:=fH aJ5 rfl ti4 rfl rfl
instance :FaC Tryz.prog 286 0 0:=fH aKa rfl sN rfl rfl
instance :FaC Tryz.prog 286 1 4:=fH aKa rfl sN rfl rfl
theorem aPS :fO Tryz.prog 26=some #[(0,1),(1,32),(33,32),(65,1),(66,1),(67,1)]:=by kernel_rfl
instance :PlC Tryz.prog 26 (pv aPS):=⟨aPS⟩
theorem aSU :fO Tryz.prog 32=some #[(0,68),(68,4),(72,1),(73,1),(74,1),(75,1),(76,1),(77,1),(78,1),(79,1)]:=by kernel_rfl
instance :PlC Tryz.prog 32 (pv aSU):=⟨aSU⟩
theorem aB8 :fO Tryz.prog 35=some #[(0,1),(1,32),(33,1)]:=by kernel_rfl
instance :PlC Tryz.prog 35 (pv aB8):=⟨aB8⟩
theorem aKA :fO Tryz.prog 37=some #[(0,32),(32,1)]:=by kernel_rfl
instance :PlC Tryz.prog 37 (pv aKA):=⟨aKA⟩
theorem aSY :fO Tryz.prog 54=some #[(0,80),(80,1),(81,1),(82,1),(83,1)]:=by kernel_rfl
instance :PlC Tryz.prog 54 (pv aSY):=⟨aSY⟩
theorem aV8 :fO Tryz.prog 57=some #[(0,1),(1,1)]:=by kernel_rfl
instance :PlC Tryz.prog 57 (pv aV8):=⟨aV8⟩
theorem aQa :fO Tryz.prog 59=some #[(0,33),(33,2),(35,1),(36,1)]:=by kernel_rfl
instance :PlC Tryz.prog 59 (pv aQa):=⟨aQa⟩
theorem aOa :fO Tryz.prog 78=some #[(0,68),(68,1)]:=by kernel_rfl
instance :PlC Tryz.prog 78 (pv aOa):=⟨aOa⟩
theorem aWW :fO Tryz.prog 80=some #[(0,1)]:=by kernel_rfl
instance :PlC Tryz.prog 80 (pv aWW):=⟨aWW⟩
theorem aGn :fO Tryz.prog 102=some #[(0,1),(1,32),(33,1),(34,1),(35,1)]:=by kernel_rfl
instance :PlC Tryz.prog 102 (pv aGn):=⟨aGn⟩
theorem aUb :fO Tryz.prog 117=some #[(0,1),(1,1),(2,1),(3,1)]:=by kernel_rfl
instance :PlC Tryz.prog 117 (pv aUb):=⟨aUb⟩
theorem aMT :fO Tryz.prog 152=some #[(0,33),(33,1),(34,1)]:=by kernel_rfl
instance :PlC Tryz.prog 152 (pv aMT):=⟨aMT⟩
theorem aPV :fO Tryz.prog 206=some #[(0,32),(32,1),(33,1)]:=by kernel_rfl
instance :PlC Tryz.prog 206 (pv aPV):=⟨aPV⟩
theorem aT4 :fO Tryz.prog 251=some #[(0,1),(1,1),(2,1),(3,1)]:=by kernel_rfl
instance :PlC Tryz.prog 251 (pv aT4):=⟨aT4⟩
theorem aTR :fO Tryz.prog 254=some #[(0,1),(1,1)]:=by kernel_rfl
instance :PlC Tryz.prog 254 (pv aTR):=⟨aTR⟩
theorem aUf :fO Tryz.prog 286=some #[(0,4),(4,4)]:=by kernel_rfl
instance :PlC Tryz.prog 286 (pv aUf):=⟨aUf⟩
instance :ZrA Tryz.prog 26 ((eI .u32 0)::(aK (eI .u8) (aYZ 32 0) (aK (eI .u8) (aYZ 32 0) [(eI .u32 0),(eI .u32 0),(eI .u32 0)]))):=zrA aCy
instance :ZrA Tryz.prog 32 ((eI .u32 0)::(aK (eI .u8) (aYZ 32 0) (aK (eI .u8) (aYZ 32 0) ((eI .u32 0)::((eI .u32 0)::((eI .u32 0)::(jQ (eI .u64) (aYZ 4 0) [(eI .i64 0),(eI .u32 0),(eI .u32 0),(eI .u32 0),(.row (some true) 1 []),(eI .i64 0),(eI .i64 0),(eI .i64 0)]))))))):=zrA aAO
instance :ZrA Tryz.prog 35 ((eI .i64 0)::(aK (eI .u8) (aYZ 32 0) [(.row (some true) 1 [])])):=zrA uV
instance :ZrA Tryz.prog 37 (aK (eI .u8) (aYZ 32 0) [(eI .u32 0)]):=zrA rB
instance :ZrA Tryz.prog 54 ((eI .u32 0)::(aK (eI .u8) (aYZ 32 0) (aK (eI .u8) (aYZ 32 0) ((eI .u32 0)::((eI .u32 0)::((eI .u32 0)::(jQ (eI .u64) (aYZ 4 0) [(eI .i64 0),(eI .u32 0),(eI .u32 0),(eI .u32 0),(.row (some true) 1 []),(eI .i64 0),(eI .i64 0),(eI .i64 0),(.row (some true) 1 []),(.row (some true) 1 []),(.row (some true) 1 []),(.row (some true) 1 [])]))))))):=zrA aGe
instance :ZrA Tryz.prog 59 (aK (eI .u8) (aYZ 32 0) [(eI .u32 0),(eI .i64 0),(.row (some true) 1 []),(eI .i64 0),(eB false)]):=zrA yA
instance :ZrA Tryz.prog 78 ((eI .u32 0)::(aK (eI .u8) (aYZ 32 0) (aK (eI .u8) (aYZ 32 0) [(eI .u32 0),(eI .u32 0),(eI .u32 0),(.row (some true) 1 [])]))):=zrA aG4
instance :ZrA Tryz.prog 86 ((eI .i64 0)::(aK (eI .u8) (aYZ 32 0) [])):=zrA aNt
instance :ZrA Tryz.prog 102 ((eI .i64 0)::(aK (eI .u8) (aYZ 32 0) [(eI .u32 0),(eI .u32 0),(.row (some true) 1 [])])):=zrA bI
instance :ZrA Tryz.prog 152 (aK (eI .u8) (aYZ 32 0) [(eI .u32 0),(eI .u32 0),(.row (some true) 1 [])]):=zrA aEE
instance :ZrA Tryz.prog 286 (jQ (eI .u64) (aYZ 4 0) (jQ (eI .u64) (aYZ 4 0) [])):=zrA aKa
theorem aE2 :aB1 Tryz.prog 9 37=some ((aYZ 32 ([.int .u8])).flatten++[.int .u32]):=by kernel_rfl
theorem aEX :Tryz.prog.eqGuardType Tryz.prog.depth 37=false:=by kernel_rfl
theorem zH {p:Prop} (h:p:=by(simp only[uB,kT,aIg,rnH,Blk.rn,V.rns,V.rn,sg,List.map_cons,List.map_nil,Option.map_some,Option.map_none,List.drop_succ_cons,List.drop_zero,List.drop_nil,List.set_cons_zero,List.set_cons_succ,List.cons_append,List.nil_append,List.append_nil,aDb,aC9,aVU,aWs,aIq,aIn,aFC,aFD,aIU,aI4,aHy,aHH,aI7,aIy,aLb,aKD,aI6,aIl,aH6,aH4,aJj,aJv,aOg,aN5,aJx,aJl,aLg,aKx,aC1,aDa,aN7,aNu,aCG,aCp,aGK,aGL,aMe,aMa,aPt,aPd,aNF,aOm,aOe,aVv,aTh,List.getElem?_cons_zero,List.getElem?_cons_succ,List.getElem?_nil,List.length_cons,List.length_nil,Nat.reduceAdd,Nat.reduceSub,Nat.add_zero,Nat.zero_add,Nat.sub_self,Nat.sub_zero]<;>rfl)):p:=h
theorem zc {f:FuncId}{hb:Hp}{args xs:List V}{r:V}{N n t:Nat}{ops:Array Oper}{l:List Oper}{fr:List (Nat×V)}{K:List V→Hp→Prop}{ty:TypeId}{pos:String}{aft:Array Edge}{ws:List Operand}{ts:Array TypeId}{hs hs' hb':Hp}{v:V}(hc:Vm.Fn Tryz.prog f hs args r hs')(ρ:List Nat)(k:OpsX Tryz.prog N none ops l (aD n ((t,v)::fr)) hb' K) (hw:pD n fr ws=some xs:=by rfl) (hnd:ρ.Nodup:=by decide) (hlt:ρ.all (fun b=>Nat.blt b hb.length)=true:=by rfl) (hl:Lend (sg ρ hb.length) hb ρ hs:=by repeat (first|exact Lend.nil|refine Lend.cons rfl rfl ?_|refine Lend.cons rfl (tU (fun _=>rfl) _) ?_|refine Lend.cons rfl (eG (fun _=>rfl) _) ?_)) (hx:V.les wZ xs (V.rns (sg ρ hb.length) args):=by repeat (first|exact V.les_refl _ _|exact V.les_nil|apply V.les_cons|exact V.le_refl _ _|exact V.le_nil|exact V.le_row|exact V.le_arr (fun _=>rfl)|apply V.le_agg)) (hr:r.rn (sg ρ hb.length)=v:=by exact zH) (hh:uB hb ρ hs'=hb':=by exact zH):OpsX Tryz.prog N none ops (⟨some t,.call ⟨.value (.func f),ws.toArray,ts⟩,ty,pos,aft,none⟩::l) (aD n fr) hb K:=xC hw (Vm.Fn.argsLe (Vm.Fn.lendB hc ρ hnd hlt hl rfl hr hh) hx) k
theorem gV {f:FuncId}{hb:Hp}{args xs:List V}{r:V}{N n t:Nat}{ops:Array Oper}{l:List Oper}{fr:List (Nat×V)}{K:List V→Hp→Prop}{ty:TypeId}{pos:String}{aft:Array Edge}{ws:List Operand}{ts:Array TypeId}{hs hs' hb':Hp}{v:V}(hc:Vm.Fn Tryz.prog f hs args r hs')(ρ β:List Nat)(k:OpsX Tryz.prog N none ops l (aD n ((t,v)::fr)) hb' K) (hw:pD n fr ws=some xs:=by rfl) (hnd:ρ.Nodup:=by decide) (hlt:ρ.all (fun b=>Nat.blt b hb.length)=true:=by rfl) (hdis: ∀b∈β,b∉ρ:=by decide) (hl:Lend (sg ρ hb.length) hb ρ hs:=by repeat (first|exact Lend.nil|refine Lend.cons rfl rfl ?_|refine Lend.cons rfl (tU (fun _=>rfl) _) ?_|refine Lend.cons rfl (eG (fun _=>rfl) _) ?_)) (hx:Brw (sg ρ hb.length) (only β hb) xs args:=by repeat (first|exact Brw.nil|refine Brw.same rfl ?_|refine Brw.row (aPh (by first|exact rfl|(simp only[dA,dB];done)|exact bP (by assumption)|exact cV (by assumption)) rfl (fun _=>rfl)) ?_|refine Brw.row (aNP (fun _=>rfl) zl (by first|exact rfl|(simp only[dA,dB];done)|exact bP (by assumption)|exact cV (by assumption)) rfl (fun _=>rfl)) ?_|refine Brw.row (aLY (fun _=>rfl) zl (fun x hx=>gO (aIW (by assumption) x hx)) (by first|exact rfl|(simp only[dA,dB];done)|exact bP (by assumption)|exact cV (by assumption)) rfl (fun _=>rfl)) ?_|refine Brw.same (by simp only[V.rn,V.rns,aDb,aC9]) ?_|refine Brw.le V.le_nil ?_|refine Brw.le V.le_row ?_)) (hrf:r.rf=true:=by first|rfl|simp[V.rf,V.rfs,aQT,aRN]) (hrb:rfB hs':=by repeat (first|exact rfB.nil|refine rfB.dead ?_|refine rfB.live rfl ?_|refine rfB.live (aFm (fun _=>rfl) _) ?_|refine rfB.live (aI8 (fun _=>rfl) _) ?_)) (hr:r.rn (sg ρ hb.length)=v:=by exact zH) (hh:uB hb ρ hs'=hb':=by exact zH):OpsX Tryz.prog N none ops (⟨some t,.call ⟨.value (.func f),ws.toArray,ts⟩,ty,pos,aft,none⟩::l) (aD n fr) hb K:=xC hw (Vm.Fn.lendR hc ρ β hnd hlt hdis hl hx hrf hrb hr hh) k
theorem zg {f:FuncId}{hb:Hp}{args xs:List V}{r:V}{N n t:Nat}{ops:Array Oper}{l:List Oper}{fr:List (Nat×V)}{K:List V→Hp→Prop}{ty:TypeId}{pos:String}{aft:Array Edge}{ws:List Operand}{ts:Array TypeId}{hs hs' hb':Hp}{v:V}{F G:List Nat}{gd:Option (Nat×Bool)}(hc:Vm.Fn Tryz.prog f hs args r hs')(ρ:List Nat)(k:OpsX Tryz.prog N (some (F,G)) ops l (aD n ((t,v)::fr)) hb' K) (hw:pD n fr ws=some xs:=by rfl) (hnd:ρ.Nodup:=by decide) (hlt:ρ.all (fun b=>Nat.blt b hb.length)=true:=by rfl) (hl:Lend (sg ρ hb.length) hb ρ hs:=by repeat (first|exact Lend.nil|refine Lend.cons rfl rfl ?_|refine Lend.cons rfl (tU (fun _=>rfl) _) ?_|refine Lend.cons rfl (eG (fun _=>rfl) _) ?_)) (hx:V.les wZ xs (V.rns (sg ρ hb.length) args):=by repeat (first|exact V.les_refl _ _|exact V.les_nil|apply V.les_cons|exact V.le_refl _ _|exact V.le_nil|exact V.le_row|exact V.le_arr (fun _=>rfl)|apply V.le_agg)) (hr:r.rn (sg ρ hb.length)=v:=by exact zH) (hh:uB hb ρ hs'=hb':=by exact zH) (hF:cT F f=false:=by rfl) (hG:cT G f=true→ ∃news,hb'=hb++news:=by first|exact(fun _=>⟨_,rfl⟩)|exact(fun _=>⟨[],(List.append_nil _).symm⟩)|exact(fun h=>absurd h (by decide))) (hg:Gd ops n fr gd:=by exact gD):OpsX Tryz.prog N (some (F,G)) ops (⟨some t,.call ⟨.value (.func f),ws.toArray,ts⟩,ty,pos,aft,gd⟩::l) (aD n fr) hb K:=xG hw (Vm.Fn.argsLe (Vm.Fn.lendB hc ρ hnd hlt hl rfl hr hh) hx) k hF hG hg
theorem zgL {f:FuncId}{hb:Hp}{args xs:List V}{r:V}{N n t:Nat}{ops:Array Oper}{l:List Oper}{fr:List (Nat×V)}{K:List V→Hp→Prop}{ty:TypeId}{pos:String}{aft:Array Edge}{ws:List Operand}{ts:Array TypeId}{hs hs' hb':Hp}{v:V}{F G:List Nat}{gd:Option (Nat×Bool)}(hc:Vm.Fn Tryz.prog f hs args r hs')(ρ β:List Nat)(k:OpsX Tryz.prog N (some (F,G)) ops l (aD n ((t,v)::fr)) hb' K) (hw:pD n fr ws=some xs:=by rfl) (hnd:ρ.Nodup:=by decide) (hlt:ρ.all (fun b=>Nat.blt b hb.length)=true:=by rfl) (hdis: ∀b∈β,b∉ρ:=by decide) (hl:Lend (sg ρ hb.length) hb ρ hs:=by repeat (first|exact Lend.nil|refine Lend.cons rfl rfl ?_|refine Lend.cons rfl (tU (fun _=>rfl) _) ?_|refine Lend.cons rfl (eG (fun _=>rfl) _) ?_)) (hx:Brw (sg ρ hb.length) (only β hb) xs args:=by repeat (first|exact Brw.nil|refine Brw.same rfl ?_|refine Brw.row (aPh (by first|exact rfl|(simp only[dA,dB];done)|exact bP (by assumption)|exact cV (by assumption)) rfl (fun _=>rfl)) ?_|refine Brw.row (aNP (fun _=>rfl) zl (by first|exact rfl|(simp only[dA,dB];done)|exact bP (by assumption)|exact cV (by assumption)) rfl (fun _=>rfl)) ?_|refine Brw.row (aLY (fun _=>rfl) zl (fun x hx=>gO (aIW (by assumption) x hx)) (by first|exact rfl|(simp only[dA,dB];done)|exact bP (by assumption)|exact cV (by assumption)) rfl (fun _=>rfl)) ?_|refine Brw.same (by simp only[V.rn,V.rns,aDb,aC9]) ?_|refine Brw.le V.le_nil ?_|refine Brw.le V.le_row ?_)) (hrf:r.rf=true:=by first|rfl|simp[V.rf,V.rfs,aQT,aRN]) (hrb:rfB hs':=by repeat (first|exact rfB.nil|refine rfB.dead ?_|refine rfB.live rfl ?_|refine rfB.live (aFm (fun _=>rfl) _) ?_|refine rfB.live (aI8 (fun _=>rfl) _) ?_)) (hr:r.rn (sg ρ hb.length)=v:=by exact zH) (hh:uB hb ρ hs'=hb':=by exact zH) (hF:cT F f=false:=by rfl) (hG:cT G f=true→ ∃news,hb'=hb++news:=by first|exact(fun _=>⟨_,rfl⟩)|exact(fun _=>⟨[],(List.append_nil _).symm⟩)|exact(fun h=>absurd h (by decide))) (hg:Gd ops n fr gd:=by exact gD):OpsX Tryz.prog N (some (F,G)) ops (⟨some t,.call ⟨.value (.func f),ws.toArray,ts⟩,ty,pos,aft,gd⟩::l) (aD n fr) hb K:=xG hw (Vm.Fn.lendR hc ρ β hnd hlt hdis hl hx hrf hrb hr hh) k hF hG hg
theorem xp {f:FuncId}{hb:Hp}{args xs:List V}{r:V}{N n t:Nat}{ops:Array Oper}{l:List Oper}{fr:List (Nat×V)}{K:List V→Hp→Prop}{ty:TypeId}{pos:String}{aft:Array Edge}{ws:List Operand}{ts:Array TypeId}(hc:Vm.Fn Tryz.prog f [] args r [])(k:OpsX Tryz.prog N none ops l (aD n ((t,r)::fr)) hb K) (hw:pD n fr ws=some xs:=by rfl) (hx:V.les wZ xs args:=by repeat (first|exact V.les_refl _ _|exact V.les_nil|apply V.les_cons|exact V.le_refl _ _|exact V.le_nil|exact V.le_row|exact V.le_arr (fun _=>rfl)|apply V.le_agg)) (ha:V.rns (sg [] hb.length) args=args:=by first|rfl|(simp only[V.rn,V.rns,aDb,aC9]<;>rfl)) (hr:r.rn (sg [] hb.length)=r:=by first|rfl|(simp only[V.rn,V.rns,aDb,aC9]<;>rfl)):OpsX Tryz.prog N none ops (⟨some t,.call ⟨.value (.func f),ws.toArray,ts⟩,ty,pos,aft,none⟩::l) (aD n fr) hb K:=xC hw (Vm.Fn.argsLe (Vm.Fn.pure hc ha hr) hx) k
theorem xu {f:FuncId}{hb:Hp}{args xs:List V}{r:V}{N n t:Nat}{ops:Array Oper}{l:List Oper}{fr:List (Nat×V)}{K:List V→Hp→Prop}{ty:TypeId}{pos:String}{aft:Array Edge}{ws:List Operand}{ts:Array TypeId}{F G:List Nat}{gd:Option (Nat×Bool)}(hc:Vm.Fn Tryz.prog f [] args r [])(k:OpsX Tryz.prog N (some (F,G)) ops l (aD n ((t,r)::fr)) hb K) (hw:pD n fr ws=some xs:=by rfl) (hx:V.les wZ xs args:=by repeat (first|exact V.les_refl _ _|exact V.les_nil|apply V.les_cons|exact V.le_refl _ _|exact V.le_nil|exact V.le_row|exact V.le_arr (fun _=>rfl)|apply V.le_agg)) (ha: ∀L,V.rns (sg [] L) args=args:=by(intro L;first|rfl|(simp only[V.rn,V.rns,aDb,aC9]<;>rfl))) (hr: ∀L,r.rn (sg [] L)=r:=by(intro L;first|rfl|(simp only[V.rn,V.rns,aDb,aC9]<;>rfl))) (hG:cT G f=false:=by rfl) (hg:Gd ops n fr gd:=by exact gD):OpsX Tryz.prog N (some (F,G)) ops (⟨some t,.call ⟨.value (.func f),ws.toArray,ts⟩,ty,pos,aft,gd⟩::l) (aD n fr) hb K:=xU hw (fun _=>Vm.Fn.argsLe (Vm.Fn.pure hc (ha _) (hr _)) hx) k hG hg
end Go.Proofs.YtgfdllellpbmoaaGreatDoor
