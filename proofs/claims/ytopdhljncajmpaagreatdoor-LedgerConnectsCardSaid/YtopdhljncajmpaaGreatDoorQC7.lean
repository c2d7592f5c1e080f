/- Texts of ours, joined. -/
import Derived.Test.YtopdhljncajmpaaGreatDoorQC6
open Option renaming bind_some → a1K
open List renaming getElem_mem → a1L,getElem?_eq_getElem → a1M,drop_zero → a1O,drop_eq_getElem_cons → a1P,mem_singleton → a1Q,drop_eq_nil_of_le → a1R,mem_of_getElem? → a1S,length_set → a1T,length_singleton → a1V,mem_map → a1W,mem_append → a1X,mem_of_mem_take → a1Y,replicate → a1Z,any_eq_false → a11,getElem?_set → a12,nil_append → a15,length_map → a16,range → a17
open Go.IntKind renaming i64 → a1N
open Bool renaming false_eq_true → a1U
open Nat renaming le_refl → a10,zero_le → a14
open Int renaming le_refl → a13
set_option linter.unusedSimpArgs false
set_option linter.unusedVariables false
set_option linter.unusedSectionVars false
set_option maxRecDepth 4000
namespace Go.Proofs.YtopdhljncajmpaaGreatDoor
open Go Go.Vm
theorem aT0 {h:Int}(h1:1≤h): ∀(os:List aA)(n:Nat)(cs:List aA),(∀c∈os,CoinM c∧c.Height=h)→(os.Pairwise fun a b=>a.Out≠b.Out)→CsK h n cs→(os.any fun c=>xA cs c.Out)=false→ ∀i,CsK h (n+i) (aGx cs (os.take i))
 | [],n,cs,_,_,K,_,i=>by rw[List.take_nil];exact K.up (a13 _) (by omega)
 |o::os,n,cs,ho,hp,K,ha,0=>K
 |o::os,n,cs,ho,hp,K,ha,i+1=>by
  obtain⟨p1,p2⟩:=List.pairwise_cons.1 hp
  rw[List.any_cons,Bool.or_eq_false_iff]at ha
  have O:=ho o (by simp)
  have:=aT0 h1 os (n+1) (k9 o cs) (fun c hc=>ho c (by simp[hc])) p2 (aWU K h1 O.1 O.2 ha.1) (by
   rw[a11]at ha⊢
   intro c hc
   rw[aRy K.ok O.1.o (ho c (by simp[hc])).1.o (p1 c hc)]
   exact ha.2 c hc) i
  rw[show n+(i+1)=n+1+i by omega]
  exact this
section
variable {N:Nat}(hN:70000≤N){p:aK}{h:Int}{n:Nat}{cs:List aA}(K:CsK h n cs)(hn:n≤800)(h1:1≤h){l:List (aD×aA)}(R:MapR l cs){t:aB}(T:TxM t)
include hN K hn h1 R T
theorem aZ1 (hq:TxP t){cb:Bool}(hcb:c5 N t=some cb){sp:List aA}{f:Int}: ∃r,uO N p h l sp f t cb=some r∧
  ((r.1≠0∧aD8 N cs t h=some ([],r.1))∨(r.1=0∧aD8 N cs t h=some (aGx cs (mT N t h cb),0)∧MapR r.2 (aGx cs (mT N t h cb))∧CsK h (n+2) (aGx cs (mT N t h cb)))):=by
 have hno:=T.n
 have hos: ∀c∈mT N t h cb,CoinM c∧c.Height=h:=fun c hc=>aSn hN hq hc
 have hp:(mT N t h cb).Pairwise fun a b=>a.Out≠b.Out:=aRN _ _
 have hl:(mT N t h cb).length≤2:=by unfold mT;rw[aKt];exact hno
 unfold uO aD8
 rw[aUK hN T,aMz hN T hcb]
 simp only[a1K]
 have l4:=xM (f:=xJ N cs t h (mT N t h cb)) (xs:=mT N t h cb) (p:=fun c=> !xA cs c.Out) (r:=([],91)) (fun m j hj=>by
  rw[xJ,dT hj,if_pos rfl,bE _ hj]
  simp only[a1K,aM0 hN K (show n≤900 by omega) (hos _ (a1L hj)).1.o,i1 (show j≤100000 by omega)]
  rw[show decide (0≤fI (mT N t h cb)[j].Out 0 cs)=xA cs (mT N t h cb)[j].Out from rfl]
  cases xA cs (mT N t h cb)[j].Out<;>rfl) (fun m j hj=>by rw[xJ,dF (by omega)];rfl) N 0 (by omega) (by omega)
 rw[show((0:Nat):Int)=0 from rfl,a1O,List.all_eq_not_any_not]at l4
 simp only[Bool.not_not]at l4
 obtain⟨r,e1,e2⟩:=aPx hN (p:=p) (hh:=h) (sp:=sp) (f:=f) h1 (by omega) hos hp (cs:=cs) N 0 n l cs (by omega) (by omega) R K (fun c hc=>rfl)
 rw[show((0:Nat):Int)=0 from rfl]at e1
 rw[a1O]at e2
 rw[e1,l4]
 cases ha:(mT N t h cb).any fun c=>xA cs c.Out with
 |true=>
  rw[ha,if_pos rfl]at e2
  obtain⟨l',rfl⟩:=e2
  exact⟨_,rfl,.inl ⟨show(91:Int)≠0 by decide,rfl⟩⟩
 |false=>
  rw[ha,if_neg (by simp)]at e2
  obtain⟨l',rfl,R',K'⟩:=e2
  have Ks:=aT0 h1 _ n cs hos hp K ha
  have l3:=aPy hN h1 (show(mT N t h cb).length≤10 by omega) hos N 0 n cs (by omega) (by omega) (by omega) (by rw[a1O];exact K') (fun i=>by rw[a1O];exact Ks i)
  rw[show((0:Nat):Int)=0 from rfl,a1O]at l3
  refine⟨_,rfl,.inr ⟨rfl, ?_,R',K'.up (a13 _) (by omega)⟩⟩
  show aBV N cs t h=_
  unfold aBV
  rw[aMz hN T hcb]
  simp only[a1K]
  rw[l3]
  rfl
def aNo (p:aK)(h:Int)(c:aA):Bool:=c.Coinbase&&decide (a1N.wrap (h-c.Height)<p.Maturity)
theorem pL5 {sp:List aA}{f:Int}{c:aA}:fD N p h l sp f t [c] N 0=some (if aNo p h c=true then .ret (230,l,sp,f)else .brk ()):=by
 obtain⟨m,rfl⟩: ∃m,N=m+2:=⟨N-2,by omega⟩
 have e1:fD (m+2) p h l sp f t [c] (m+1) 1=some (.brk ()):=by unfold fD;rfl
 rw[fD,if_pos (show decide ((0:Int)<(([c].length:Nat):Int))=true from rfl),show aW [c] 0=some c from rfl]
 have hy:aNo p h c=(c.Coinbase&&decide (a1N.wrap (h-c.Height)<p.Maturity)):=rfl
 simp only[a1K,qB,show a1N.wrap (0+1)=1 from rfl,e1]
 rw[hy]
 generalize c.Coinbase=b1
 generalize decide (a1N.wrap (h-c.Height)<p.Maturity)=b2
 cases b1<;>cases b2<;>rfl
theorem rL3 {c:aA}:jR N p h [c] N 0=some (if aNo p h c=true then .ret ([],230)else .brk ()):=by
 obtain⟨m,rfl⟩: ∃m,N=m+2:=⟨N-2,by omega⟩
 have e1:jR (m+2) p h [c] (m+1) 1=some (.brk ()):=by unfold jR;rfl
 rw[jR,if_pos (show decide ((0:Int)<(([c].length:Nat):Int))=true from rfl),show aW [c] 0=some c from rfl]
 have hy:aNo p h c=(c.Coinbase&&decide (a1N.wrap (h-c.Height)<p.Maturity)):=rfl
 simp only[a1K,yZ,show a1N.wrap (0+1)=1 from rfl,e1]
 rw[hy]
 generalize c.Coinbase=b1
 generalize decide (a1N.wrap (h-c.Height)<p.Maturity)=b2
 cases b1<;>cases b2<;>rfl
theorem pL4 {f:Int}{q:Int×Int}{sp:List aA}(hs:sp.length≤1000){c:aA}(C:CoinM c):i6 N p h f [c] q N 0 l sp=some (aMU iW l c.Out,sp++[c]):=by
 obtain⟨m,rfl⟩: ∃m,N=m+2:=⟨N-2,by omega⟩
 have e1: ∀a b,i6 (m+2) p h f [c] q (m+1) 1 a b=some (a,b):=fun a b=>by unfold i6;rfl
 have e2:jI (m+2) c=some c:=by
  unfold jI dM
  rw[eF (by omega) (by have:=C.p.1.len;simp;omega)]
  rfl
 rw[i6,if_pos (show decide ((0:Int)<(([c].length:Nat):Int))=true from rfl),show aW [c] 0=some c from rfl]
 simp only[a1K,e2]
 rw[eF (by omega) (by simp;omega)]
 simp only[a1K,show a1N.wrap (0+1)=1 from rfl,e1]
theorem a0a {sp:List aA}(hs:sp.length≤1000){f:Int}: ∃r,t6 N p h l sp f t=some r∧
  ((r.1≠0∧aAg N p cs t h=some ([],r.1))∨
   ∃(k i:Nat)(hk:k<cs.length)(q:Int×Int),aAg N p cs t h=some ([cs[k]],0)∧kD N t [cs[k]] h=some q∧MapR (l.eraseIdx i) (cs.eraseIdx k)∧fI cs[k].Out 0 cs=(k:Int)∧
    ((q.2≠0∧r.1=q.2)∨(q.2=0∧r=(0,l.eraseIdx i,sp++[cs[k]],a1N.wrap (f+q.1))))):=by
 obtain⟨x,hi,hx,hl⟩:=xW T
 have hcs:=K.n
 have hp7:iZ N p h l sp f t N 0 []=some (if tW iW l x.Prev=true then .brk [pC iW l x.Prev (aA.mk (aD.mk (a1Z 32 0) 0) (aI.mk 0 []) 0 false)]else .ret (101,l,sp,f)):=by
  obtain⟨m,rfl⟩: ∃m,N=m+2:=⟨N-2,by omega⟩
  have e1: ∀a,iZ (m+2) p h l sp f t (m+1) 1 a=some (.brk a):=fun a=>by unfold iZ;rw[hi];rfl
  rw[iZ,hi]
  simp only[a1V]
  rw[if_pos (show decide ((0:Int)<((1:Nat):Int))=true from rfl),show aW [x] 0=some x from rfl]
  simp only[a1K,show a1N.wrap (0+1)=1 from rfl]
  cases tW iW l x.Prev
  ·rfl
  simp only[Bool.not_true,a1U,if_false,if_true]
  rw[eF (by omega) (by simp)]
  simp only[a1K,e1]
  rfl
 have hr5: ∀(kk:Int),fI x.Prev 0 cs=kk→oF N p cs t h N 0 []=if decide (kk<0)then some (.ret ([],101))else(aW cs kk).bind fun c=>(lD N c).bind fun c=>some (.brk [c]):=by
  intro kk hkk
  have hf:=aM0 hN K (show n≤900 by omega) hx.p
  obtain⟨m,rfl⟩: ∃m,N=m+2:=⟨N-2,by omega⟩
  have e1: ∀a,oF (m+2) p cs t h (m+1) 1 a=some (.brk a):=fun a=>by unfold oF;rw[hi];rfl
  rw[oF,hi]
  simp only[a1V]
  rw[if_pos (show decide ((0:Int)<((1:Nat):Int))=true from rfl),show aW [x] 0=some x from rfl]
  simp only[a1K,show a1N.wrap (0+1)=1 from rfl,hf,hkk]
  refine gW rfl (eO rfl fun c=>eO rfl fun d=> ?_)
  rw[eF (by omega) (by simp)]
  simp only[a1K,e1]
  rfl
 unfold t6 aAg
 rw[hp7]
 rcases aNR K R hx.p with⟨f1,f2,f3⟩|⟨k,hk,i,hi',f1,f2,f3,f4⟩
 ·rw[hr5 _ f1,show tW iW l x.Prev=false by unfold tW;rw[f2];rfl]
  exact⟨_,rfl,.inl ⟨show(101:Int)≠0 by decide,rfl⟩⟩
 have C:=(K.c _ (a1L hk)).m
 rw[hr5 _ f1,show tW iW l x.Prev=true by unfold tW;rw[f2];rfl,if_pos rfl,if_neg (by simp),bE _ hk]
 rw[show pC iW l x.Prev (aA.mk (aD.mk (a1Z 32 0) 0) (aI.mk 0 []) 0 false)=cs[k] by unfold pC;rw[f2];simp[hi',f3]]
 simp only[a1K,aVT hN C]
 unfold vN aDt
 rw[pL5 hN K hn h1 R T,rL3 hN K hn h1 R T]
 cases aNo p h cs[k] with
 |true=>exact⟨_,rfl,.inl ⟨show(230:Int)≠0 by decide,rfl⟩⟩
 |false=>
  obtain⟨q,eq,_⟩:=aRU hN T (l:=[cs[k]]) (fun d hd=>by obtain rfl:=a1Q.1 hd;exact C) (h:=h)
  simp only[a1K,a1U,if_false]
  unfold vJ vP
  rw[aTC hN T C,eq]
  simp only[a1K]
  have fk:fI cs[k].Out 0 cs=(k:Int):=by rw[f4];exact f1
  by_cases h0:q.2=0
  ·rw[if_neg (by simp[h0]),pL4 hN K hn h1 R T hs C]
   have hd:aMU iW l cs[k].Out=l.eraseIdx i:=by unfold aMU;rw[f4,f2]
   rw[hd]
   exact⟨_,rfl,.inr ⟨k,i,hk,q,rfl,eq,MapR.del K R hk hi' f3,fk,.inr ⟨h0,rfl⟩⟩⟩
  rw[if_pos (by simpa using h0)]
  exact⟨_,rfl,.inr ⟨k,i,hk,q,rfl,eq,MapR.del K R hk hi' f3,fk,.inl ⟨h0,rfl⟩⟩⟩
end
section
variable {N:Nat}(hN:70000≤N)
include hN
theorem aVO {t:aB}(T:TxM t){c:aA}(C:CoinM c){h:Int}{q:Int×Int}(e:kD N t [c] h=some q)(h0:q.2=0):0≤q.1∧q.1+lQ t.Outputs=c.Output.Value:=by
 obtain⟨x,hi,hx,hl⟩:=xW T
 have hno:=T.n
 have hv:=C.p.2
 have F:Ok (tI N t [c]) fun r=>r.2=0→0≤r.1∧r.1+lQ t.Outputs=c.Output.Value:=by
  unfold tI
  rw[aLD hN T]
  refine Ok.ite (fun he=>Ok.pure fun h0=> ?_) fun _=>Ok.ite (fun _=>Ok.pure fun h0=>absurd h0 (by decide)) fun _=> ?_
  ·have h0:aQW t=0:=h0
   rw[h0]at he
   exact absurd he (by decide)
  refine Ok.lr (R:=fun v=>v.2≠0) (P:=fun _=>True) ?_ (fun v hv=>Ok.pure fun h0=>absurd h0 hv) fun _ _=> ?_
  ·refine lpU (f:=fun m j=>i8 N t [c] m (j:Int)) 1 (fun m j hj ih=> ?_) (fun m=> ?_) N 0 (by omega) (by omega)
   ·unfold i8
    rw[if_pos (dT (show j< [c].length from hj)),i1 (by omega)]
    exact Ok.eq (bE _ (show j< [c].length from hj)) (Ok.eq (bE _ (show j<t.Inputs.length by omega)) (Ok.ite (fun _=>Ok.pure (show(101:Int)≠0 by decide)) fun _=>ih))
   unfold i8
   rw[if_neg (by simp)]
   exact Ok.pure trivial
  unfold tC
  rw[aZM hN C]
  show Ok (pO N t c.Output.Value) _
  unfold pO
  rw[if_neg (by simp only[decide_eq_true_eq];omega)]
  refine Ok.bind (P:=fun s=>s+lQ t.Outputs=c.Output.Value) ?_ fun s hs=> ?_
  ·refine(lp (f:=fun m j s=>jE N t m s (j:Int)) (fun j s=>s-lQ (t.Outputs.drop j)=c.Output.Value-lQ t.Outputs∧ -4000*(j:Int)≤s∧s≤3000+10*(j:Int)) (Q:=fun s=>s+lQ t.Outputs=c.Output.Value) t.Outputs.length (fun m j s hj hs ih=> ?_) (fun m s hs=> ?_) N 0 c.Output.Value (by omega) (by omega) ⟨by rw[a1O],by omega,by omega⟩)
   ·have ho:=(T.o _ (a1L hj)).2
    unfold jE
    rw[if_pos (dT hj),i1 (by omega)]
    refine Ok.eq (bE _ hj) ?_
    rw[w64 (by omega) (by omega)]
    refine ih _ ⟨?_,by omega,by omega⟩
    have:=hs.1
    rw[a1P hj]at this
    simp only[lQ]at this
    omega
   unfold jE
   rw[if_neg (by simp)]
   have:=hs.1
   rw[a1R (a10 _)]at this
   simp only[lQ]at this
   exact Ok.pure (by omega)
  unfold aBn
  exact Ok.ite (fun _=>Ok.pure fun h0=>absurd h0 (by decide)) fun hge=>Ok.pure fun _=>⟨by simpa using hge,hs⟩
 have G:Ok (kD N t [c] h) fun r=>r.2=0→0≤r.1∧r.1+lQ t.Outputs=c.Output.Value:=by
  unfold kD
  refine Ok.bind (aCn hN) fun b _=>Ok.ite (fun _=>Ok.pure fun h0=>absurd h0 (by decide)) fun _=>Ok.bind F fun r hr=>Ok.ite (fun he=>Ok.pure fun h0=>absurd h0 (by simpa using he)) fun he=>Ok.bind (aKz hN T) fun _ _=>Ok.ite (fun _=>Ok.pure fun h0=>absurd h0 (by decide)) fun _=> ?_
  have hr':=hr (by simpa using he)
  refine Ok.lr (R:=fun v=>v.2≠0) (P:=fun _=>True) ?_ (fun v hv=>Ok.pure fun h0=>absurd h0 hv) fun _ _=>Ok.pure fun _=>hr'
  refine lpU (f:=fun m j=>gF N t [c] h r m (j:Int)) 1 (fun m j hj ih=> ?_) (fun m=> ?_) N 0 (by omega) (by omega)
  ·unfold gF
   rw[if_pos (dT (show j< [c].length from hj)),i1 (by omega)]
   obtain rfl:j=0:=by omega
   exact Ok.eq (bE [c] (i:=0) (by simp)) (Ok.bind (aPg hN T (i:=0) (by omega) C) fun e _=>Ok.ite (fun he=>Ok.pure (show e≠0 by simpa using he)) fun _=>ih)
  unfold gF
  rw[if_neg (by simp)]
  exact Ok.pure trivial
 obtain⟨r,e2,hr⟩:=G
 rw[e]at e2
 injection e2 with e2
 subst e2
 exact hr h0
theorem aPm {l:List aA}(hl:l.length≤1000)(hc: ∀c∈l,CoinM c):vC N l=some (uN l):=by
 have:Ok (vC N l) fun r=>r=uN l:=by
  unfold vC
  refine Ok.bind (P:=fun r=>r=uN l) ?_ fun _ h=>Ok.pure h
  refine lp (f:=fun m j s=>sM N l m s (j:Int)) (fun j s=>s+uN (l.drop j)=uN l∧0≤s∧s≤3000*(j:Int)) l.length (fun m j s hj hs ih=> ?_) (fun m s hs=> ?_) N 0 0 (by omega) (by omega) ⟨by rw[a1O];omega,by omega,by omega⟩
  ·have hv:=(hc _ (a1L hj)).p.2
   unfold sM
   rw[if_pos (dT hj),i1 (by omega)]
   refine Ok.eq (bE _ hj) ?_
   rw[w64 (by omega) (by omega)]
   refine ih _ ⟨?_,by omega,by omega⟩
   have:=hs.1
   rw[a1P hj]at this
   simp only[uN]at this
   omega
  unfold sM
  rw[if_neg (by simp)]
  have:=hs.1
  rw[a1R (a10 _)]at this
  simp only[uN]at this
  exact Ok.pure (by omega)
 obtain⟨r,e,rfl⟩:=this
 exact e
theorem aTF {l:List aA}(hl:l.length≤1000)(hc: ∀c∈l,CoinM c):pJ N l=some (uN l,true):=by
 have T:=aKG hN (l:=aF.mk 0 [] l) hl hl N 0 0 (by omega) (by omega) (by omega) (by omega)
 rw[show((0:Nat):Int)=0 from rfl,a1O,aTY (fun c h=>(hc c h).p.2) (by omega),if_pos rfl,Int.zero_add]at T
 unfold pJ
 rw[T]
 rfl
end
def c4 (l:List aB)(j:Nat):Bool:=match l[j]? with
 |some t=>(qD (pv t) aEW) != ((j:Int) == 0)
 |none=>false
def aHs (c:aA):aD×aA:=(c.Out,c)
section
variable {N:Nat}(hN:70000≤N){b:aJ}(B:aGc b)
include hN B
theorem aQU :Ok (iE N b) fun _=>True:=by
 have hb:=B.t.1
 have j3:Ok (tG N b (eK N b.Txs)) fun _=>True:=by
  unfold tG
  exact Ok.eq (aIF (yQ _ _)) (Ok.eq (aZV hN B) (Ok.ite (fun _=>Ok.pure trivial) fun _=>Ok.eq (aYS hN B) (Ok.ite (fun _=>Ok.pure trivial) fun _=>Ok.bind (aMF hN B.t) fun r hr=>Ok.eq (aV B.h.r.1) (Ok.eq (aV hr.1) (Ok.ite (fun _=>Ok.pure trivial) fun _=>Ok.pure trivial)))))
 have j1:Ok (sE N b) fun _=>True:=by
  unfold sE
  refine Ok.lr (R:=fun _=>True) (P:=fun _=>True) ?_ (fun v _=>Ok.pure trivial) fun _ _=> ?_
  ·refine lpU (f:=fun m j=>jW N b m (j:Int)) b.Txs.length (fun m j hj ih=> ?_) (fun m=> ?_) N 0 (by omega) (by omega)
   ·unfold jW
    rw[if_pos (dT hj),i1 (by omega)]
    exact Ok.eq (bE _ hj) (Ok.eq (aLD hN (B.t.2 _ (a1L hj))) (Ok.ite (fun _=>Ok.pure trivial) fun _=>ih))
   unfold jW
   rw[if_neg (by simp)]
   exact Ok.pure trivial
  unfold tE
  rw[aZp hN B]
  cases (a17 b.Txs.length).any (c1 N b.Txs)
  ·exact j3
  exact Ok.pure trivial
 unfold iE
 refine Ok.eq (aLQ hN B) (Ok.ite (fun _=>Ok.pure trivial) fun _=>Ok.ite (fun _=>Ok.pure trivial) fun _=> ?_)
 refine Ok.lr (R:=fun _=>True) (P:=fun _=>True) ?_ (fun v _=>Ok.pure trivial) fun _ _=>j1
 refine lpU (f:=fun m j=>dX N b m (j:Int)) b.Txs.length (fun m j hj ih=> ?_) (fun m=> ?_) N 0 (by omega) (by omega)
 ·unfold dX
  rw[if_pos (dT hj),i1 (by omega)]
  exact Ok.eq (bE _ hj) (Ok.bind (aCn hN) fun e _=>Ok.ite (fun _=>Ok.pure trivial) fun _=>ih)
 unfold dX
 rw[if_neg (by simp)]
 exact Ok.pure trivial
theorem aUY {p:aK}{l:aF}{n:Nat}(P:PK p)(L:LedK n l)(hn:n≤50):Ok (nY N p l b) fun _=>True:=by
 have j1: ∀t,Ok (iI N l b t) fun _=>True:=fun t=>by
  unfold iI
  have T:=B.t.2 _ (a1L B.n)
  obtain⟨x,hx,hm,hl⟩:=xW T
  refine Ok.ite (fun _=>Ok.pure trivial) fun _=>Ok.ite (fun _=>Ok.pure trivial) fun _=>Ok.eq (aV B.h.p.1) (Ok.eq (aV L.t.1) (Ok.ite (fun _=>Ok.pure trivial) fun _=>Ok.bind (aQU hN B) fun e _=>Ok.ite (fun _=>Ok.pure trivial) fun _=> ?_))
  exact Ok.eq (bE (i:=0) _ B.n) (Ok.eq (bE (i:=0) _ (by omega)) (Ok.ite (fun _=>Ok.pure trivial) fun _=>Ok.bind (aKz hN T) fun f _=>Ok.ite (fun _=>Ok.pure trivial) fun _=>Ok.pure trivial))
 unfold nY
 exact Ok.bind (yI hN P) fun t _=>Ok.ite (fun _=>j1 _) fun _=>Ok.eq (aQo hN (by have:=L.c.n;omega) L.c.ok) (j1 _)
theorem a0W (h:iE N b=some 0): ∀t∈b.Txs,∀o∈t.Outputs,0≤o.Value:=by
 have hf:aKS b=true:=by
  unfold iE at h
  rw[aLQ hN B]at h
  cases hb:aKS b with
  |true=>rfl
  |false=>
   rw[hb]at h
   simp only[a1K]at h
   cases h
 intro t ht
 simp only[aKS,Bool.and_eq_true,List.all_eq_true]at hf
 exact fun o ho=>aOr (hf.1 t ht) ho
theorem a1i (h:iE N b=some 0): ∀j (hj:j<b.Txs.length),c5 N b.Txs[j]=some ((j:Int) == 0):=by
 have hb:=B.t.1
 have l6:dX N b N 0=some (if(a17 b.Txs.length).any (c4 b.Txs)=true then .ret 111 else .brk ()):=by
  refine aME (f:=fun m j (_:Unit)=>dX N b m j) (fun _=>()) (c4 b.Txs) 111 () (fun m j hj=> ?_) (fun m=> ?_) (by omega)
  ·obtain⟨x,hi,hx⟩:=(B.t.2 _ (a1L hj)).i
   show dX N b (m+1) (j:Int)=if c4 b.Txs j=true then some (.ret 111)else dX N b m ((j+1:Nat):Int)
   rw[dX,if_pos (dT hj),bE _ hj,show c4 b.Txs j=((qD x.Prev aEW) != ((j:Int) == 0)) by unfold c4;rw[a1M hj];simp only[aD3 hN B hi]]
   simp only[a1K,aNF hN hi hx.p.1,i1 (show j≤100000 by omega)]
  show dX N b (m+1) (b.Txs.length:Int)=_
  rw[dX,if_neg (by simp)]
 unfold iE at h
 rw[aLQ hN B,l6]at h
 intro j hj
 obtain⟨x,hi,hx⟩:=(B.t.2 _ (a1L hj)).i
 rw[aNF hN hi hx.p.1]
 cases ha:(a17 b.Txs.length).any (c4 b.Txs) with
 |true=>
  rw[ha]at h
  simp only[a1K]at h
  split at h
  ·cases h
  split at h
  ·cases h
  cases h
 |false=>
  rw[a11]at ha
  have:=ha j (List.mem_range.2 hj)
  unfold c4 at this
  rw[a1M hj]at this
  simp only[aD3 hN B hi,bne_iff_ne,ne_eq,Decidable.not_not]at this
  rw[this]
end
section
variable {N:Nat}(hN:70000≤N){p:aK}{l:aF}{b:aJ}{n:Nat}(P:PK p)(L:LedK n l)(hn:n≤50)(B:aGc b)
include hN P L hn B
theorem aZk :aAj N p l b=nY N p l b:=by
 have hh:=L.h
 have hc:=L.c.n
 have T:=B.t.2 _ (a1L B.n)
 obtain⟨x,hx,hm,hl⟩:=xW T
 have j1: ∀t,sV N l b t=iI N l b t:=fun t=>by
  unfold sV iI
  rw[aUz hN B]
  refine gW rfl (gW rfl (eO rfl fun _=>eO rfl fun _=>gW rfl (eO rfl fun _=>gW rfl ?_)))
  rw[show aW b.Txs 0=some (b.Txs[0]'B.n)from bE (i:=0) _ B.n]
  simp only[a1K,aSG]
  rw[show aW (b.Txs[0]'B.n).Inputs 0=some x by rw[hx];rfl]
  simp only[a1K]
  have hs:=hm.s
  unfold tJ at hs
  rw[w64 (a:=l.Height+1) (by omega) (by omega),w64 (a:=x.Sequence) (by omega) (by omega),show IntKind.u32.wrap (l.Height+1)=l.Height+1 by rw[IntKind.wrap_u32];omega]
 unfold aAj nY
 rw[aUy hN P,aQV hN P,aYO hN (by omega) L.c.ok,aQo hN (by omega) L.c.ok]
 simp only[j1]
theorem aTP :nJ N p l b N 0 []=some (l.Coins.map aHs):=by
 have hc:=L.c.n
 have go: ∀(m j:Nat),l.Coins.length-j<m→j≤l.Coins.length→nJ N p l b m (j:Int) ((l.Coins.take j).map aHs)=some (l.Coins.map aHs):=by
  intro m
  induction m with
  |zero=>intro j h _;omega
  |succ m ih=>
   intro j h hj
   rw[nJ]
   by_cases h':j<l.Coins.length
   ·have C:=(L.c.c _ (a1L h')).m
    have hf:kA iW ((l.Coins.take j).map aHs) l.Coins[j].Out=none:=by
     unfold kA
     rw[List.findIdx?_eq_none_iff]
     intro e he
     obtain⟨d,hd,rfl⟩:=a1W.1 he
     obtain⟨i,hi,rfl⟩:=List.getElem_of_mem hd
     rw[List.length_take]at hi
     rw[List.getElem_take]
     have:=List.pairwise_iff_getElem.1 L.c.s i j (by omega) h' (by omega)
     refine(eqP C.o.1 (L.c.ok _ (a1L (show i<l.Coins.length by omega))).1).trans (decide_eq_false ?_)
     rw[mH];omega
    rw[if_pos (dT h'),bE _ h']
    simp only[a1K,i1 (show j≤100000 by omega)]
    rw[show aAa iW ((l.Coins.take j).map aHs) l.Coins[j].Out l.Coins[j]=(l.Coins.take (j+1)).map aHs by unfold aAa;rw[hf,List.take_succ_eq_append_getElem h',List.map_append];rfl]
    exact ih (j+1) (by omega) (by omega)
   rw[if_neg (by simp;omega),List.take_of_length_le (by omega)]
 have:=go N 0 (by omega) (by omega)
 rw[List.take_zero]at this
 exact this
structure SmK (r:aF×bH×Int):Prop where
 t:r.1.Tip.length=32
 c: ∀c∈r.1.Coins,c.Out.Tx.length=32
 n:r.1.Coins.length≤1000
 u: ∀c∈r.2.1.Spent,c.Out.Tx.length=32
 k:r.2.1.Spent.length≤1000
omit hN P L hn B in
theorem smZ (e:Int):SmK (aF.mk 0 (a1Z 32 0) [],bH.mk [],e):=⟨by simp,by simp,by simp,by simp,by simp⟩
structure St (n:Nat)(l:aF)(j:Nat)(f:Int)(m:List (aD×aA))(sp cs:List aA):Prop where
 r:MapR m cs
 k:CsK (l.Height+1) (8*n+2*j) cs
 s:sp.length≤j∧ ∀c∈sp,c.Out.Tx.length=32
 ff:0≤f∧f≤3000*(j:Int)
theorem aO8 (hp: ∀t∈b.Txs,∀o∈t.Outputs,0≤o.Value)(hcb: ∀j (hj:j<b.Txs.length),c5 N b.Txs[j]=some ((j:Int) == 0)){hs:List Int}{S0:Int}(hS:0≤S0∧S0≤1000): ∀(m j:Nat)(f:Int)(mp:List (aD×aA))(sp cs:List aA),b.Txs.length-j<m→j≤b.Txs.length→St n l j f mp sp cs→
  ∃x y,iQ N p l b m (j:Int) f mp sp=some x∧iA N p l b hs m (S0+f) (j:Int) cs sp=some y∧
   ((∃v,x= .ret v∧y= .ret v∧v.2.2≠0∧SmK v)∨ ∃f' mp' sp' cs',x= .brk (f',mp',sp')∧y= .brk (S0+f',cs',sp')∧St n l b.Txs.length f' mp' sp' cs')
 |0,j,_,_,_,_,h,_,_=>by omega
 |m+1,j,f,mp,sp,cs,hm,hj,S=>by
  have hh:=L.h
  have hb:=B.t.1
  have hw:a1N.wrap (l.Height+1)=l.Height+1:=w64 (by omega) (by omega)
  have ss:=S.s.1
  have sf:=S.ff
  rw[iQ,iA]
  by_cases h':j<b.Txs.length
  ·have T:=B.t.2 _ (a1L h')
   have hcj:=hcb j h'
   rw[if_pos (dT h'),if_pos (dT h'),bE _ h',hw]
   simp only[a1K]
   have add:TxP b.Txs[j]→ ∀(f1:Int)(mp1:List (aD×aA))(sp1 cs1:List aA),MapR mp1 cs1→CsK (l.Height+1) (8*n+2*j) cs1→(sp1.length≤j+1∧ ∀c∈sp1,c.Out.Tx.length=32)→(0≤f1∧f1≤3000*((j+1:Nat):Int))→
     ∃x y,nM N p l b (j:Int) b.Txs[j] (iQ N p l b m) f1 mp1 sp1=some x∧pR N p l b hs (j:Int) b.Txs[j] (iA N p l b hs m) (S0+f1) cs1 sp1=some y∧
      ((∃v,x= .ret v∧y= .ret v∧v.2.2≠0∧SmK v)∨ ∃f' mp' sp' cs',x= .brk (f',mp',sp')∧y= .brk (S0+f',cs',sp')∧St n l b.Txs.length f' mp' sp' cs'):=by
    intro TP f1 mp1 sp1 cs1 R1 K1 s1 hf1
    obtain⟨r,e1,e2⟩:=aZ1 hN (p:=p) K1 (by omega) (by omega) R1 T TP hcj (sp:=sp1) (f:=f1)
    unfold nM pR
    rw[hw,e1]
    rcases e2 with⟨r0,e2⟩|⟨r0,e2,R2,K2⟩
    ·rw[e2]
     simp only[a1K]
     rw[if_pos (by simpa using r0),if_pos (by simpa using r0)]
     exact⟨_,_,rfl,rfl,.inl ⟨_,rfl,rfl,r0,smZ _⟩⟩
    rw[e2]
    simp only[a1K]
    rw[if_neg (by simp[r0]),if_neg (by simp),i1 (by omega)]
    exact aO8 hp hcb hS m (j+1) f1 r.2 sp1 _ (by omega) (by omega) ⟨R2,by rw[show 8*n+2*(j+1)=8*n+2*j+2 by omega];exact K2,s1,hf1⟩
   by_cases h0:0<j
   ·rw[if_pos (decide_eq_true (by omega)),if_pos (decide_eq_true (by omega))]
    obtain⟨r,e1,e2⟩:=a0a hN (p:=p) S.k (by omega) (by omega) S.r T (sp:=sp) (by omega) (f:=f)
    rw[e1]
    simp only[a1K]
    rcases e2 with⟨r0,e2⟩|⟨k,i,hk,q,e2,eq,R2,fk,h2⟩
    ·rw[e2]
     simp only[a1K]
     rw[if_pos (by simpa using r0),if_pos (by simpa using r0)]
     exact⟨_,_,rfl,rfl,.inl ⟨_,rfl,rfl,r0,smZ _⟩⟩
    have C:=(S.k.c _ (a1L hk)).m
    rw[e2]
    simp only[a1K]
    rw[if_neg (by simp: ¬(((0:Int) != 0)=true)),eq]
    simp only[a1K]
    rcases h2 with⟨q0,r1⟩|⟨q0,rfl⟩
    ·rw[if_pos (by rw[r1];simpa using q0),if_pos (by simpa using q0),r1]
     exact⟨_,_,rfl,rfl,.inl ⟨_,rfl,rfl,q0,smZ _⟩⟩
    rw[if_neg (by simp),if_neg (by simp[q0])]
    have fv:=aVO hN T C eq q0
    have vb:=aXm (hp _ (a1L h'))
    have cv:=C.p.2
    have TP:TxP b.Txs[j]:=⟨T,fun o ho=>⟨(T.o o ho).1,hp _ (a1L h') o ho,by have:=vb.2 o ho;omega⟩⟩
    have hno:=T.n
    have l5:hJ N p l b hs (S0+f) (j:Int) sp b.Txs[j] ([cs[k]],0) q N 0 cs=some (cs.eraseIdx k):=by
     have hfd:=aM0 hN S.k (show 8*n+2*j≤900 by omega) C.o
     have hkn:=S.k.n
     have hwo:aAD N cs (k:Int)=some (cs.eraseIdx k):=by
      unfold aAD
      rw[i1 (by omega),show(0:Int)=((0:Nat):Int)from rfl,aGm (a:=0) (a14 k) (by omega)]
      simp only[a1K]
      rw[eF (by omega) (by simp;omega)]
      simp only[a1K]
      rw[aGm (show k+1≤cs.length by omega) (a10 _)]
      simp only[a1K]
      rw[eF (by omega) (by simp;omega)]
      simp only[a1K]
      rw[List.eraseIdx_eq_take_drop_succ,List.take_length];simp
     obtain⟨M,hM⟩: ∃M,N=M+2:=⟨N-2,by omega⟩
     have e1: ∀a,hJ N p l b hs (S0+f) (j:Int) sp b.Txs[j] ([cs[k]],0) q (M+1) 1 a=some a:=fun a=>by unfold hJ;rfl
     rw[show hJ N p l b hs (S0+f) (j:Int) sp b.Txs[j] ([cs[k]],0) q N 0 cs=hJ N p l b hs (S0+f) (j:Int) sp b.Txs[j] ([cs[k]],0) q (M+2) 0 cs by rw[←hM]]
     rw[hJ,if_pos (show decide ((0:Int)<(((([cs[k]],0):List aA×Int).1.length:Nat):Int))=true from rfl),show aW (([cs[k]],0):List aA×Int).1 0=some cs[k]from rfl]
     simp only[a1K,hfd,fk,hwo,show a1N.wrap (0+1)=1 from rfl,e1]
    rw[l5]
    simp only[a1K]
    unfold aA9
    rw[eF (by omega) (by simp;omega)]
    simp only[a1K]
    rw[w64 (a:=f+q.1) (by omega) (by omega),w64 (a:=S0+f+q.1) (by omega) (by omega),show S0+f+q.1=S0+(f+q.1) by omega]
    refine add TP (f+q.1) (mp.eraseIdx i) (sp++[cs[k]]) (cs.eraseIdx k) R2 (CsK.del S.k S.r) ⟨by simp;omega,fun c hc=> ?_⟩ (by omega)
    rcases a1X.1 hc with hc|hc
    ·exact S.s.2 c hc
    obtain rfl:=a1Q.1 hc;exact C.o.1
   obtain rfl:j=0:=by omega
   rw[if_neg (by simp),if_neg (by simp)]
   exact add ⟨T,fun o ho=>⟨(T.o o ho).1,hp _ (a1L h') o ho,B.z _ (a1M h') o ho⟩⟩ f mp sp cs S.r S.k ⟨by omega,S.s.2⟩ (by omega)
  obtain rfl:j=b.Txs.length:=by omega
  rw[if_neg (by simp),if_neg (by simp)]
  exact⟨_,_,rfl,rfl,.inr ⟨_,_,_,_,rfl,rfl,S⟩⟩
theorem aOK : ∃r s,sN N p l b=some r∧qL N p l b=some r∧oL N p (l.Height+1)=some s∧(0≤s∧s≤1000)∧(r.2.2=0→LedK (n+1) r.1)∧SmK r:=by
 have hh:=L.h
 have hc:=L.c.n
 have hb:=B.t.1
 have hw:a1N.wrap (l.Height+1)=l.Height+1:=w64 (by omega) (by omega)
 obtain⟨s,sa,rs,hS⟩:=aT9 hN P (h:=l.Height+1) (by omega)
 unfold sN qL
 rw[aZk hN P L hn B,hw]
 obtain⟨e,he,_⟩:=aUY hN B P L hn
 rw[he]
 simp only[a1K]
 by_cases h0:e=0
 ·subst h0
  rw[if_neg (by simp),if_neg (by simp),aTP hN P L hn B,aTu N hN b.Header B.h.p.1 B.h.r.1 B.h.p.2 B.h.r.2,rs]
  simp only[a1K,aV (vB N _)]
  have hck0:iE N b=some 0:=by
   obtain⟨ce,hce,_⟩:=aQU hN B
   unfold nY at he
   obtain⟨t,ht,_⟩:=yI hN P
   rw[ht,aQo hN (by omega) L.c.ok]at he
   simp only[a1K]at he
   have j1: ∀t,iI N l b t=some 0→iE N b=some 0:=fun t hj=>by
    unfold iI at hj
    rw[hce]at hj⊢
    split at hj
    ·cases hj
    split at hj
    ·cases hj
    rw[aV B.h.p.1,aV L.t.1]at hj
    simp only[a1K]at hj
    split at hj
    ·cases hj
    split at hj
    ·rename_i hne
     injection hj with hj
     rw[hj]at hne
     exact absurd hne (by decide)
    rename_i hne
    exact congrArg some (by simpa using hne)
   split at he
   ·exact j1 _ he
   exact j1 _ he
  have hcb:=a1i hN B hck0
  have hp:=a0W hN B hck0
  have R0:MapR (l.Coins.map aHs) l.Coins:=⟨fun e he=>by obtain⟨c,_,rfl⟩:=a1W.1 he;rfl,by rw[List.map_map,show(Prod.snd∘aHs)=id from rfl,List.map_id]⟩
  obtain⟨x,y,ex,ey,hxy⟩:=aO8 hN P L hn B hp hcb (hs:=dbl N (hdB b.Header)) hS N 0 0 _ [] l.Coins (by omega) (by omega) ⟨R0,L.c.up (by omega) (by omega),⟨by simp,by simp⟩,by simp⟩
  rw[show((0:Nat):Int)=0 from rfl]at ex ey
  rw[Int.add_zero]at ey
  unfold zU
  rw[ex,ey]
  simp only[a1K]
  rcases hxy with⟨v,rfl,rfl,hv,hm⟩|⟨f,mp,sp,cs,rfl,rfl,S⟩
  ·exact⟨v,s,rfl,rfl,sa,hS,fun h0=>absurd h0 hv,hm⟩
  have hbn:=B.n
  have T:=B.t.2 _ (a1L B.n)
  have hno:=T.n
  have sf:=S.ff
  have sk:=S.k.n
  have cm: ∀c∈cs,CoinM c:=fun c hc=>(S.k.c c hc).m
  have vb:=aZS cm
  have TP:TxP b.Txs[0]:=⟨T,fun o ho=>⟨(T.o o ho).1,hp _ (a1L B.n) o ho,B.z _ (a1M B.n) o ho⟩⟩
  have ob:=aYX TP.p
  have l4:iR N p l b f mp sp b.Txs[0] N 0 0=some (lQ b.Txs[0].Outputs):=by
   have:Ok (iR N p l b f mp sp b.Txs[0] N 0 ((0:Nat):Int)) fun r=>r=lQ b.Txs[0].Outputs:=by
    refine lp (f:=fun m j s=>iR N p l b f mp sp b.Txs[0] m s (j:Int)) (fun j s=>s+lQ (b.Txs[0].Outputs.drop j)=lQ b.Txs[0].Outputs∧0≤s∧s≤3000*(j:Int)) b.Txs[0].Outputs.length (fun m j s hj hs ih=> ?_) (fun m s hs=> ?_) N 0 0 (by omega) (by omega) ⟨by rw[a1O];omega,by omega,by omega⟩
    ·have ho:=(TP.p _ (a1L hj)).2
     unfold iR
     rw[if_pos (dT hj),i1 (by omega)]
     refine Ok.eq (bE _ hj) ?_
     rw[w64 (by omega) (by omega)]
     refine ih _ ⟨?_,by omega,by omega⟩
     have:=hs.1
     rw[a1P hj]at this
     simp only[lQ]at this
     omega
    unfold iR
    rw[if_neg (by simp)]
    have:=hs.1
    rw[a1R (a10 _)]at this
    simp only[lQ]at this
    exact Ok.pure (by omega)
   obtain⟨r,e,rfl⟩:=this
   exact e
  show∃r s',sC N p l b f mp sp=some r∧uM N l b (dbl N (hdB b.Header)) (s+f) cs sp=some r∧_
  unfold sC zX uM nL
  have hcb0:c5 N b.Txs[0]=some true:=hcb 0 B.n
  have om: ∀c∈mT N b.Txs[0] (l.Height+1) true,CoinM c:=fun c hc=>(aSn hN TP hc).1
  rw[show aW b.Txs 0=some b.Txs[0]from bE (i:=0) _ B.n,hw]
  simp only[a1K]
  rw[aMz hN T hcb0,l4]
  simp only[a1K]
  rw[aPm hN (by unfold mT;rw[aKt];omega) om,sa]
  simp only[a1K]
  unfold mT
  rw[aPc,w64 (a:=s+f) (by omega) (by omega)]
  by_cases hm:s+f<lQ b.Txs[0].Outputs
  ·rw[if_pos (decide_eq_true hm),if_pos (decide_eq_true hm)]
   exact⟨_,s,rfl,rfl,rfl,hS,fun h0=>absurd h0 (by decide),smZ _⟩
  rw[if_pos (show∀e∈mp,e.2.Output.Script.length≤100000 from fun e he=>by have:=(cm e.2 (S.r.p.mem_iff.1 (List.mem_map_of_mem he))).p.1.len;omega),if_neg (by simpa using hm),if_neg (by simpa using hm),aRw S.k (by omega) S.r.p,aPm hN (by omega) cm]
  simp only[a1K]
  rw[aTF hN (by omega) cm]
  simp only[a1K]
  rw[if_neg (by simp),if_neg (by simp only[decide_eq_true_eq];omega),if_neg (by simp only[decide_eq_true_eq];omega),if_neg (by simp only[decide_eq_true_eq];omega),aZv N hN b.Header B.h.p.1 B.h.r.1 B.h.p.2 B.h.r.2]
  simp only[a1K,aV (vB N _)]
  exact⟨_,s,rfl,rfl,rfl,hS,fun _=>⟨aQw N _,by simp only;omega,S.k.up (a13 _) (by omega)⟩,⟨vB N _,fun c hc=>(cm c hc).o.1,by simp only;omega,S.s.2,by have:=S.s.1;simp only;omega⟩⟩
 rw[if_pos (by simpa using h0),if_pos (by simpa using h0)]
 exact⟨_,s,rfl,rfl,sa,hS,fun h=>absurd h h0,smZ _⟩
end
section
variable {N:Nat}(hN:70000≤N)
include hN
theorem aUQ {p:aK}{l:aF}{b:aJ}{n:Nat}(P:PK p)(L:LedK n l)(hn:n≤50)(B:aGc b):Ok (qL N p l b) fun r=>r.2.2=0→LedK (n+1) r.1:=by
 obtain⟨r,s,h1,h2,_,_,h3,_⟩:=aOK hN P L hn B
 exact⟨r,h2,h3⟩
theorem aW5 {w:aR}(W:uT 0 w){l:List Int}(hl:l.length≤8)(hs:Byt l):Ok (aEa N w l) (uT l.length):=by
 have wb:=W.b
 have wu:=W.u
 have wl:=W.ln
 have wc:=W.cn
 unfold aEa
 refine Ok.eq (eF (by omega) (by simp;omega)) (Ok.eq (eF (by omega) (by simp;omega)) (Ok.eq (eF (by omega) (by simp;omega)) (Ok.eq (eF (by omega) (by simp;omega)) ?_)))
 refine Ok.bind (P:=fun s=>uT l.length (aR.mk w.Params s.1 s.2.1 s.2.2.1 s.2.2.2)) ?_ fun s hs=>Ok.pure hs
 simp only[a15]
 have:=lp (f:=fun m j (s:List aJ×List aF×List bA×List bH)=>g9 N w l m (j:Int) s.1 s.2.1 s.2.2.1 s.2.2.2) (Q:=fun s=>uT l.length (aR.mk w.Params s.1 s.2.1 s.2.2.1 s.2.2.2))
  (fun j s=>uT j (aR.mk w.Params s.1 s.2.1 s.2.2.1 s.2.2.2)) l.length (fun m j s hj hs' ih=> ?_) (fun m s hs'=> ?_) N 0 (w.Blocks,w.Ledgers,w.Contexts,w.Undos) (by omega) (by omega) W
 ·exact this
 ·obtain⟨l2,l3,l4,l5⟩:=s
  obtain⟨P,b,u,ln,lk,cn,ck⟩:uT j (aR.mk w.Params l2 l3 l4 l5):=hs'
  simp only at P b u ln lk cn ck
  unfold g9
  rw[if_pos (dT hj),w64 (a:=(l3.length:Int)-1) (by omega) (by omega),w64 (a:=(l4.length:Int)-1) (by omega) (by omega),show(l3.length:Int)-1=((l3.length-1:Nat):Int) by omega,show(l4.length:Int)-1=((l4.length-1:Nat):Int) by omega]
  have L:=lk _ (a1L (show l3.length-1<l3.length by omega))
  have C:=ck _ (a1L (show l4.length-1<l4.length by omega))
  refine Ok.eq (bE _ hj) (Ok.eq (bE _ (show l3.length-1<l3.length by omega)) (Ok.eq (bE _ (show l4.length-1<l4.length by omega)) ?_))
  generalize l3[l3.length-1]=at_ at L
  generalize l4[l4.length-1]=c at C
  refine Ok.bind (aOO hN P (L.m (by omega)) (C.k (by omega)) (hs _ (a1L hj))) fun b' B=>Ok.bind (aUQ hN P L (by omega) B.k) fun r hr=> ?_
  have j4: ∀t:Bool,(t=false→r.2.2=0)→Ok (s7 N w l (j:Int) l2 l3 l4 l5 c b' r (g9 N w l m) t) fun s=>uT l.length (aR.mk w.Params s.1 s.2.1 s.2.2.1 s.2.2.2):=by
   intro t ht
   unfold s7 wR
   rw[i1 (by omega)]
   refine Ok.ite (fun _=>ih (l2,l3,l4,l5) ⟨P,by simp only;omega,by simp only;omega,by simp only;omega,fun x hx=>(lk x hx).up (by omega),by simp only;omega,fun x hx=>(ck x hx).up (by omega)⟩) fun hf=> ?_
   have L2:=hr (ht (by cases t;rfl;exact absurd rfl hf))
   refine Ok.bind (aSk hN P C (by omega) B.k.h) fun a A=>Ok.eq (eF (by omega) (by simp;omega)) (Ok.eq (eF (by omega) (by simp;omega)) (Ok.eq (eF (by omega) (by simp;omega)) (Ok.eq (eF (by omega) (by simp;omega)) ?_)))
   refine ih (_,_,_,_) ⟨P,by simp;omega,by simp;omega,by simp;omega,fun x hx=> ?_,by simp;omega,fun x hx=> ?_⟩
   ·rcases a1X.1 hx with hx|hx
    ·exact(lk x hx).up (by omega)
    obtain rfl:=a1Q.1 hx;exact L2
   rcases a1X.1 hx with hx|hx
   ·exact(ck x hx).up (by omega)
   obtain rfl:=a1Q.1 hx;exact A
  exact Ok.ite (fun _=>j4 _ (by simp)) fun hne=>Ok.bind (aRY hN P C (by omega) B.k.h) fun e _=>j4 _ (fun _=>by simpa using hne)
 unfold g9
 rw[if_neg (by simp)]
 exact Ok.pure hs'
theorem aVu {v:Int}(h:0≤v∧v<256){mP:List Int}(hs:Byt mP):Ok (aDK N v mP) fun w=> ∃j,j≤8∧uT j w:=by
 unfold aDK
 obtain⟨k,hk,h8,e⟩: ∃k:Nat,k≤mP.length∧k≤8∧(if(8:Int)<(mP.length:Int)then 8 else(mP.length:Int))=(k:Int):=by
  by_cases h8:8<mP.length
  ·exact⟨8,by omega,by omega,by rw[if_pos (by omega)];rfl⟩
  exact⟨mP.length,by omega,by omega,by rw[if_neg (by omega)]⟩
 refine Ok.bind (P:=fun s=>s.length≤8∧Byt s) ?_ fun s hs'=> ?_
 ·unfold aKU
  rw[e]
  refine Ok.eq (aGm (a:=0) (a14 k) hk) (Ok.pure ⟨by simp;omega,fun x hx=> ?_⟩)
  rw[a1O]at hx
  exact hs x (a1Y hx)
 refine Ok.bind (P:=fun w=> ∃j,j≤8∧uT j w) ?_ fun w hw=>Ok.pure hw
 unfold zN
 refine Ok.bind (aUq hN h) fun w W=>Ok.bind (aW5 hN W hs'.1 hs'.2) fun w' W'=>Ok.pure ⟨_,hs'.1,W'⟩
end
theorem aC6 {α:Type}{P:α→Prop}{l:List α}{k:Nat}{c:α}(hl: ∀x∈l,P x)(hc:P c): ∀x∈l.set k c,P x:=fun x hx=>by
 rcases List.mem_or_eq_of_mem_set hx with h|h
 ·exact hl x h
 rw[h];exact hc
theorem aZi {i n:Nat}(hi:i<256)(hn:0<n):rem (a1N.wrap (i:Int)) (n:Int)=some ((i%n:Nat):Int):=by
 unfold rem
 rw[if_neg (by omega),w64 (by omega) (by omega)]
 rfl
section
variable {N:Nat}(hN:70000≤N)
include hN
theorem a0N {a:aA}(h:a.Out.Tx.length=32):yO N a a=some true:=by
 unfold yO kT aEH uD q9
 rw[eqP h h]
 simp[wV]
theorem aUe {l:List aA}(hc: ∀c∈l,c.Out.Tx.length=32)(hn:l.length≤1000):qP N l l=some true:=by
 have l2:j8 N l l N 0=some (.brk ()):=by
  have:=xM (f:=j8 N l l) (xs:=l) (p:=fun _=>true) (r:=false) (fun m i hi=>by
   rw[j8,dT hi,if_pos rfl,bE _ hi]
   simp only[a1K,a0N hN (hc _ (a1L hi)),i1 (show i≤100000 by omega)]
   rfl) (fun m i hi=>by rw[j8,dF (by omega)];rfl) N 0 (by omega) (by omega)
  rw[show((0:Nat):Int)=0 from rfl,a1O]at this
  rw[this,if_pos (by simp)]
 unfold qP
 rw[l2]
 simp[xT]
theorem aYZ {a:aF}(ht:a.Tip.length=32)(hc: ∀c∈a.Coins,c.Out.Tx.length=32)(hn:a.Coins.length≤1000):aFs N a a=some true:=by
 unfold aFs
 rw[aUe hN hc hn,aV ht]
 simp[u0]
theorem aQB {t:aB}(T:TxM t)(hn:0<t.Outputs.length){f:aI→aI}(hf: ∀o∈t.Outputs,aTl (f o)):Ok (aJM t f) fun u=>TxM u∧ ∀B:Int,(∀o∈t.Outputs,o.Value≤B∧(f o).Value≤B)→ ∀o∈u.Outputs,o.Value≤B:=by
 unfold aJM
 exact Ok.eq (bE (i:=0) _ hn) (Ok.pure ⟨⟨T.i,by simp only[a1T];exact T.n,aC6 T.o (hf _ (a1L hn))⟩,fun B h=>aC6 (P:=fun o=>o.Value≤B) (fun o ho=>(h o ho).1) (h _ (a1L hn)).2⟩)
theorem aOk {t:aB}(T:TxM t){f:aT→aT}(hf: ∀x,InM x→InM (f x)):Ok (aLr t f) fun u=>TxM u∧u.Outputs=t.Outputs:=by
 obtain⟨x,hi,hx⟩:=T.i
 unfold aLr
 rw[hi]
 exact Ok.eq (a:=x) rfl (Ok.pure ⟨⟨⟨f x,rfl,hf x hx⟩,T.n,T.o⟩,rfl⟩)
theorem aV8 {w:aR}{j:Nat}(hj:j≤8)(W:uT j w){b:aJ}(B:aVi b){x:Nat}(hx:x<b.Txs.length){what k:Nat}(hk:k<256){f:List (Bool×aB)}(hf: ∀e∈f,e.2∈b.Txs)(hfl:f.length=b.Txs.length)(h0: ∀e,f[0]? =some e→ ∀o∈e.2.Outputs,o.Value≤2000):
  Ok (aLN w f (x:Int) b.Txs[x] (what:Int) (k:Int)) fun m=>(m.length≤4∧0<m.length)∧(∀e∈m,TxM e.2)∧ ∀e,m[0]? =some e→ ∀o∈e.2.Outputs,o.Value≤3000:=by
 have T:=B.k.t
 have hn:=B.k.n
 have hl:=T.1
 have hm:=a1L hx
 have X:=T.2 _ hm
 have F: ∀e∈f,TxM e.2:=fun e he=>T.2 _ (hf e he)
 have val: ∀(t:aB),t∈b.Txs→ ∀d:Int,-4≤d→d≤255→ ∀o∈t.Outputs,aTl (aI.mk (a1N.wrap (o.Value+d)) o.Script):=fun t ht d h1 h2 o ho=>by
  have q:=(B.p t ht).p o ho
  have q2:=q.2
  exact⟨q.1,by simp only;rw[w64 (by omega) (by omega)];omega,by simp only;rw[w64 (by omega) (by omega)];omega⟩
 have Za: ∀t∈b.Txs,∀o∈t.Outputs,o.Value≤3000:=fun t ht o ho=>((B.p t ht).p o ho).2.2
 have Zf: ∀e∈f,∀o∈e.2.Outputs,o.Value≤3000:=fun e he=>Za _ (hf e he)
 have S: ∀{x':Nat}{u:aB}{m:Bool},TxM u→(x'=0→ ∀o∈u.Outputs,o.Value≤3000)→Ok (some (f.set x' (m,u))) fun m=>(m.length≤4∧0<m.length)∧(∀e∈m,TxM e.2)∧ ∀e,m[0]? =some e→ ∀o∈e.2.Outputs,o.Value≤3000:=fun{x'} {u} {m} h hz=>Ok.pure ⟨⟨by rw[a1T];omega,by rw[a1T];omega⟩,aC6 (P:=fun e:Bool×aB=>TxM e.2) F h,fun e he o ho=>by
  rw[a12]at he
  split at he
  ·rename_i h0
   rw[if_pos (by omega)]at he
   injection he with he
   rw[←he]at ho
   exact hz h0 o ho
  have:=h0 e he o ho;omega⟩
 have P0:Ok (some f) fun m=>(m.length≤4∧0<m.length)∧(∀e∈m,TxM e.2)∧ ∀e,m[0]? =some e→ ∀o∈e.2.Outputs,o.Value≤3000:=Ok.pure ⟨⟨by omega,by omega⟩,F,fun e he=>Zf e (a1S he)⟩
 unfold aLN
 refine Ok.ite (fun _=> ?_) fun _=>Ok.ite (fun _=> ?_) fun _=>Ok.ite (fun _=> ?_) fun _=>Ok.ite (fun _=> ?_) fun _=>Ok.ite (fun _=> ?_) fun _=>Ok.ite (fun _=> ?_) fun _=>Ok.ite (fun _=> ?_) fun _=>Ok.ite (fun _=> ?_) fun _=>P0
 ·refine Ok.bind (aQB hN X (B.g _ hm) (fun o ho=> ?_)) fun u U=>S U.1 fun h0'=>U.2 3000 fun o ho=> ?_
  rotate_left
  ·have h0x:x=0:=by simpa using h0'
   subst h0x
   have z:=B.c _ (a1M hx) o ho
   have q:=((B.p _ hm).p o ho).2
   refine⟨by omega, ?_⟩
   rw[show Int.tmod (k:Int) 9=((k%9:Nat):Int)from jK k 9,w64 (a:=((k%9:Nat):Int)) (by omega) (by omega),w64 (a:=((k%9:Nat):Int)-4) (by omega) (by omega)]
   simp only;rw[w64 (by omega) (by omega)];omega
  rw[show Int.tmod (k:Int) 9=((k%9:Nat):Int)from jK k 9,w64 (a:=((k%9:Nat):Int)) (by omega) (by omega),w64 (a:=((k%9:Nat):Int)-4) (by omega) (by omega)]
  exact val _ hm _ (by omega) (by omega) o ho
 ·exact Ok.bind (aOk hN X fun y hy=>⟨hy.p,.inr ⟨k,by omega,rfl⟩,hy.s⟩) fun u U=>S U.1 fun _=>by rw[U.2];exact Za _ hm
 ·exact Ok.bind (aOk hN X fun y hy=>⟨hy.p,hy.w,aUF _⟩) fun u U=>S U.1 fun _=>by rw[U.2];exact Za _ hm
 ·exact S ⟨X.i,X.n,X.o⟩ fun _ o ho=>Za _ hm o ho
 ·have hf0:0<f.length:=by omega
  have hm0:=hf _ (a1L hf0)
  refine Ok.eq (bE (i:=0) _ hf0) (Ok.bind (aQB hN (F _ (a1L hf0)) (B.g _ hm0) (fun o ho=> ?_)) fun u U=>S U.1 fun _=>U.2 3000 fun o ho=> ?_)
  rotate_left
  ·have z:=h0 _ (a1M hf0) o ho
   have q:=((B.p _ hm0).p o ho).2
   refine⟨by omega, ?_⟩
   rw[w64 (a:=(k:Int)) (by omega) (by omega)]
   simp only;rw[w64 (by omega) (by omega)];omega
  rw[w64 (a:=(k:Int)) (by omega) (by omega)]
  exact val _ hm0 _ (by omega) (by omega) o ho
 ·have hln:=W.ln
  rw[show a1N.wrap ((w.Ledgers.length:Int)-1)=((w.Ledgers.length-1:Nat):Int) by rw[w64 (by omega) (by omega)];omega]
  have hg:w.Ledgers.length-1<w.Ledgers.length:=by omega
  have L:=W.l _ (a1L hg)
  have hcn:=L.c.n
  refine Ok.eq (bE _ hg) (Ok.ite (fun _=>Ok.ite (fun h=> ?_) fun _=>P0) fun _=>P0)
  have hc0:0<(w.Ledgers[w.Ledgers.length-1]'hg).Coins.length:=by simp at h;omega
  have hy:k%(w.Ledgers[w.Ledgers.length-1]'hg).Coins.length<(w.Ledgers[w.Ledgers.length-1]'hg).Coins.length:=Nat.mod_lt _ hc0
  have C:=(L.c.c _ (a1L hy)).m.o
  exact Ok.eq (aZi hk hc0) (Ok.eq (bE _ hy) (Ok.eq (aV C.1) (Ok.bind (aOk hN X fun y hy'=>⟨C,hy'.w,hy'.s⟩) fun u U=>S U.1 fun _=>by rw[U.2];exact Za _ hm)))
 ·rw[i1 (by omega)]
  have tk: ∀e∈(f.take (x+1)).drop 0,e∈f:=fun e he=>by rw[a1O]at he;exact a1Y he
  exact⟨_,aGm (a:=0) (a14 (x+1)) (by omega),⟨by simp;omega,by simp;omega⟩,fun e he=>F e (tk e he),fun e he=>Zf e (tk e (a1S he))⟩
 rw[show a1N.wrap ((f.length:Int)-1)=((f.length-1:Nat):Int) by rw[w64 (by omega) (by omega)];omega]
 have hg:f.length-1<f.length:=by omega
 have Q: ∀e∈(f.set (x:Int).toNat f[f.length-1]).set ((f.length-1:Nat):Int).toNat (false,b.Txs[x]),e.2∈b.Txs:=aC6 (P:=fun e:Bool×aB=>e.2∈b.Txs) (aC6 (P:=fun e:Bool×aB=>e.2∈b.Txs) hf (hf _ (a1L hg))) hm
 exact Ok.eq (bE _ hg) (Ok.pure ⟨⟨by simp;omega,by simp;omega⟩,fun e he=>T.2 _ (Q e he),fun e he=>Za _ (Q e (a1S he))⟩)
omit hN in
theorem aTT {l:List aB}{x:Nat}(hx:x<l.length): ∃m,(fs0 l)[x]? =some (m,l[x]):=by
 cases l with
 |nil=>simp at hx
 |cons t ts=>
  cases x with
  |zero=>exact⟨_,rfl⟩
  |succ x=>
   have h:x<ts.length:=by simpa using hx
   exact⟨false,by simp[fs0,h]⟩
theorem aUw {w:aR}{j:Nat}(hj:j≤8)(W:uT j w){b:aJ}(B:aVi b){what i k:Nat}(hi:i<256)(hk:k<256):
  Ok (oP N w b (what:Int) (i:Int) (k:Int)) fun q=>aGc q.1∧aGc q.2.1:=by
 have hn:=B.k.n
 have hl:=B.k.t.1
 have hx:i%b.Txs.length<b.Txs.length:=Nat.mod_lt _ hn
 have X:=B.k.t.2 _ (a1L hx)
 obtain⟨y,hy,_⟩:=X.i
 have hno:=X.n
 obtain⟨m0,hm0⟩:=aTT hx
 have f0:(fs0 b.Txs).length=b.Txs.length:=by cases b.Txs<;>simp[fs0]
 have fm: ∀e∈fs0 b.Txs,e.2∈b.Txs:=fun e he=>by
  cases hb:b.Txs with
  |nil=>rw[hb]at he;cases he
  |cons t ts=>
   rw[hb]at he
   simp only[fs0,List.mem_cons,a1W]at he
   rcases he with rfl|⟨u,hu,rfl⟩
   ·simp
   simp[hu]
 unfold oP
 refine Ok.eq (eF (by omega) (by simp;omega)) ?_
 rw[a15,f0]
 refine Ok.eq (aZi hi hn) (Ok.eq (a:=(m0,b.Txs[i%b.Txs.length])) (by rw[bE _ (show i%b.Txs.length<(fs0 b.Txs).length by omega)];exact(a1M _).symm.trans hm0) (Ok.eq (eF (by omega) (by simp;omega)) (Ok.eq (eF (by omega) (by simp only;rw[hy];simp)) ?_)))
 have h00: ∀e,((fs0 b.Txs).set ((i%b.Txs.length:Nat):Int).toNat (false,b.Txs[i%b.Txs.length]))[0]? =some e→ ∀o∈e.2.Outputs,o.Value≤2000:=fun e he o ho=>by
  refine B.c e.2 ?_ o ho
  obtain⟨m1,hm1⟩:=aTT hn
  rw[Int.toNat_natCast,a12]at he
  split at he
  ·rename_i h0
   rw[if_pos (by omega)]at he
   injection he with he
   rw[←he,a1M hn]
   simp only[h0]
  rw[hm1]at he
  injection he with he
  rw[←he,a1M hn]
 refine Ok.bind (aV8 hN hj W B hx hk (aC6 (P:=fun e:Bool×aB=>e.2∈b.Txs) fm (a1L hx)) (by rw[a1T,f0]) h00) fun m M=>Ok.bind (P:=gV) ?_ fun p Pp=> ?_
 ·have hp:=B.k.h.p
  unfold aNz
  refine Ok.ite (fun _=> ?_) fun _=>Ok.pure hp
  obtain⟨y,hy,_⟩:=a1k (n:=32) (i:=0) (by omega) hp.1
  exact Ok.eq (aV hp.1) (Ok.eq hy (Ok.pure ⟨by simp[hp.1],aC6 hp.2 (aCu _)⟩))
 have T2:aQP (m.map Prod.snd):=⟨by rw[a16];exact M.1.1,fun t ht=>by obtain⟨e,he,rfl⟩:=a1W.1 ht;exact M.2.1 e he⟩
 refine Ok.bind (aMF hN T2) fun r R=>Ok.eq (aV R.1) (Ok.pure ⟨?_,⟨⟨Pp,R,B.k.h.b⟩,T2,by simp only[a16];exact M.1.2,fun t ht=> ?_⟩⟩)
 ·cases m with
  |nil=>exact B.k
  |cons e es=>
   obtain⟨q,u⟩:=e
   cases q with
   |false=>exact B.k
   |true=>
    cases hb:b.Txs with
    |nil=>rw[hb]at hn;simp at hn
    |cons t ts=>
     have e0:tA ((true,u)::es) (t::ts)=u::ts:=rfl
     rw[e0]
     refine⟨B.k.h,⟨by rw[hb]at hl;simpa using hl,fun v hv=> ?_⟩,by simp,fun v hv=> ?_⟩
     ·rcases List.mem_cons.1 hv with rfl|hv
      ·exact M.2.1 (true,v) (by simp)
      exact B.k.t.2 v (by rw[hb];simp[hv])
     injection hv with hv
     subst hv
     exact M.2.2 (true,u) rfl
 simp only[List.getElem?_map,Option.map_eq_some_iff]at ht
 obtain⟨e,he,rfl⟩:=ht
 exact M.2.2 e he
theorem aZ9 {w:aR}{l:aF}{n:Nat}(P:PK w.Params)(L:LedK n l)(hn:n≤50){b c:aJ}(B:aGc b)(C:aGc c):cO N w l b c N 0=some (.brk ()):=by
 have one: ∀{x:aJ},aGc x→ ∀(m k:Nat),k≤100→aW [b,c] (k:Int)=some x→k<2→cO N w l b c (m+1) (k:Int)=cO N w l b c m ((k+1:Nat):Int):=fun{x} X m k hk hx h2=>by
  obtain⟨r,s,h1,h2',_,_,_,S⟩:=aOK hN P L hn X
  rw[cO,if_pos (decide_eq_true (by omega)),hx]
  simp only[a1K,h1,h2']
  rw[aYZ hN S.t S.c S.n,aUe hN S.u S.k]
  simp[fR]
  rw[i1 (by omega)]
  rfl
 obtain⟨m,rfl⟩: ∃m,N=m+3:=⟨N-3,by omega⟩
 have e1:=one B (m+2) 0 (by omega) rfl (by omega)
 have e2:=one C (m+1) 1 (by omega) rfl (by omega)
 rw[show(0:Int)=((0:Nat):Int)from rfl,e1,e2,cO,if_neg (by simp)]
theorem aKj {v:Int}{mP:List Int}{vs what vi vj:Int}(hs:yM N=some true)(hv:0≤v∧v<256)(hb:Byt mP)(h1:0≤vs∧vs<256)(h2:0≤what∧what<256)(h3:0≤vi∧vi<256)(h4:0≤vj∧vj<256):
  kQ N v mP vs what vi vj=some true:=by
 obtain⟨w,hw,j,hj,W⟩:=aVu hN hv hb
 have hln:=W.ln
 have hcn:=W.cn
 have hg:w.Ledgers.length-1<w.Ledgers.length:=by omega
 have hc:w.Contexts.length-1<w.Contexts.length:=by omega
 have L:=W.l _ (a1L hg)
 have C:=W.c _ (a1L hc)
 obtain⟨b,eb,B⟩:=aOO hN W.p (L.m (by omega)) (C.k (by omega)) h1
 obtain⟨what,rfl⟩: ∃a:Nat,what=(a:Int):=⟨what.toNat,by omega⟩
 obtain⟨i,rfl⟩: ∃a:Nat,vi=(a:Int):=⟨vi.toNat,by omega⟩
 obtain⟨k,rfl⟩: ∃a:Nat,vj=(a:Int):=⟨vj.toNat,by omega⟩
 obtain⟨q,eq,Q1,Q2⟩:=aUw hN hj W B (what:=what) (i:=i) (k:=k) (by omega) (by omega)
 unfold kQ
 rw[hs]
 simp only[a1K,Bool.not_true,a1U,if_false]
 rw[hw]
 simp only[a1K]
 rw[show a1N.wrap ((w.Ledgers.length:Int)-1)=((w.Ledgers.length-1:Nat):Int) by rw[w64 (by omega) (by omega)];omega,show a1N.wrap ((w.Contexts.length:Int)-1)=((w.Contexts.length-1:Nat):Int) by rw[w64 (by omega) (by omega)];omega,bE _ hg,bE _ hc]
 simp only[a1K]
 rw[eb]
 simp only[a1K]
 rw[eq]
 simp only[a1K]
 rw[aZ9 hN W.p L (by omega) Q1 Q2]
 rfl
end
end Go.Proofs.YtopdhljncajmpaaGreatDoor
