/- Texts of ours, joined: PlainM7, PlainM8, PlainM9, PlainM10, SaneM. -/
import Derived.Test.YtopdhljncajmpaaGreatDoorQLedgerMoney5
import Derived.Test.YtopdhljncajmpaaGreatDoorQLedgerMoney6
open Option renaming bind_some → a0F
open List renaming getElem_mem → a0G,drop_eq_getElem_cons → a0H,drop_zero → a0I,drop_eq_nil_of_le → a0J,mem_singleton → a0L,getElem?_eq_getElem → a0M,pairwise_cons → a0O,getElem?_append_right → a0P,pairwise_iff_getElem → a0Q,findIdx?_eq_none_iff → a0R,mem_of_getElem? → a0T,getElem_of_mem → a0U,getElem?_append_left → a0W,length_cons → a0Z,mem_map → a00,mem_append → a01,nil_append → a02,length_singleton → a03,replicate → a04,mem_cons → a05,append_assoc → a08,any_eq_false → a09,map_append → a1b
open Go.IntKind renaming i64 → a0K
open Option.some renaming inj → a0N
open Nat renaming le_refl → a0S,lt_trichotomy → a07,sub_self → a1a
open List.Perm renaming refl → a0V,swap → a1c
open List.Pairwise renaming nil → a0X
open Int renaming le_refl → a0Y
open Bool renaming false_eq_true → a06
set_option linter.unusedSimpArgs false
set_option linter.unusedVariables false
set_option linter.unusedSectionVars false
set_option maxRecDepth 4000
namespace Go.Proofs.YtopdhljncajmpaaGreatDoor
open Go Go.Vm
structure MapR (l:List (aC×aA))(cs:List aA):Prop where
 k: ∀e∈l,e.1=e.2.Out
 p:(l.map Prod.snd).Perm cs
theorem aVk {cs:List aA}(hs:Srt cs){a b:aA}(ha:a∈cs)(hb:b∈cs)(e:a.Out=b.Out):a=b:=by
 obtain⟨i,hi,rfl⟩:=a0U ha
 obtain⟨j,hj,rfl⟩:=a0U hb
 rcases a07 i j with h|h|h
 ·have:=a0Q.1 hs i j hi hj h
  rw[e,aA1]at this;omega
 ·subst h;rfl
 have:=a0Q.1 hs j i hj hi h
 rw[e,aA1]at this;omega
theorem aE0 {α:Type}: ∀{l:List α}{i:Nat}(h:i<l.length),(l[i]::l.eraseIdx i).Perm l
 |x::l,0,_=>a0V _
 |x::l,i+1,h=>(a1c x _ _).trans ((aE0 (l:=l) (i:=i) (by simpa using h)).cons x)
theorem aIK : ∀{a b:List aA},Srt a→Srt b→a.Perm b→a=b
 | [],b,_,_,p=>p.nil_eq
 |x::a,[],_,_,p=>absurd p.symm.nil_eq (by simp)
 |x::a,y::b,ha,hb,p=>by
  obtain⟨a1,a2⟩:=a0O.1 ha
  obtain⟨b1,b2⟩:=a0O.1 hb
  have hx:x∈y::b:=p.mem_iff.1 (by simp)
  have hy:y∈x::a:=p.mem_iff.2 (by simp)
  have e:x=y:=by
   rcases a05.1 hx with e|hx
   ·exact e
   rcases a05.1 hy with e|hy
   ·exact e.symm
   have h1:=a1 y hy
   have h2:=b1 x hx
   rw[lY]at h2
   omega
  subst e
  rw[aIK a2 b2 p.cons_inv]
theorem aGO {c:aA}: ∀{l:List aA},(kJ c l).Perm (c::l)
 | []=>a0V _
 |d::ds=>by
  unfold kJ
  split
  ·exact((aGO (l:=ds)).cons d).trans (a1c c d ds)
  exact a0V _
theorem aHI : ∀(m:List aA),(∀c∈m,OkO c.Out)→(m.Pairwise fun a b=>eQ a.Out b.Out≠0)→Srt (m.foldr kJ [])∧(m.foldr kJ []).Perm m
 | [],_,_=>⟨a0X,a0V _⟩
 |c::m,ho,hp=>by
  obtain⟨h1,h2⟩:=a0O.1 hp
  obtain⟨i1,i2⟩:=aHI m (fun d hd=>ho d (by simp[hd])) h2
  rw[List.foldr_cons]
  exact⟨aLY (ho c (by simp)) (fun d hd=>ho d (by simp[i2.mem_iff.1 hd])) i1 fun d hd=>by rw[lY];have:=h1 d (i2.mem_iff.1 hd);omega,aGO.trans (i2.cons c)⟩
theorem aQS {h:Int}{n:Nat}{cs:List aA}(K:CsK h n cs)(hn:n≤1000){m:List aA}(p:m.Perm cs):nO m=some cs:=by
 have hl:=p.length_eq
 have hk:=K.n
 have ne:m.Pairwise fun a b=>eQ a.Out b.Out≠0:=by
  have sym: ∀{a b:aA},eQ a.Out b.Out≠0→eQ b.Out a.Out≠0:=fun h=>by rw[lY];omega
  exact(p.pairwise_iff sym).2 (K.s.imp fun h=>by omega)
 have ho: ∀c∈m,OkO c.Out:=fun c hc=>K.ok c (p.mem_iff.1 hc)
 obtain⟨g1,g2⟩:=aHI m ho ne
 have ok: ∀c∈m,aIZ c.Out=true:=fun c hc=>by
  have:=ho c hc
  unfold aIZ
  rw[decide_eq_true this.1,Bool.true_and,List.all_eq_true]
  exact fun x hx=>decide_eq_true (this.2 x hx)
 unfold nO
 rw[if_pos ⟨by omega,ok,ne⟩,aIK g1 K.s (g2.trans p)]
section
variable {h:Int}{n:Nat}{cs:List aA}(K:CsK h n cs){l:List (aC×aA)}(R:MapR l cs)
include K R
theorem aNd {o:aC}(ho:OkO o):
  (fI o 0 cs= -1∧jU iF l o=none∧ ∀c∈cs,eQ c.Out o≠0)∨
  ∃(k:Nat)(hk:k<cs.length)(i:Nat)(hi:i<l.length),fI o 0 cs=(k:Int)∧jU iF l o=some i∧l[i].2=cs[k]∧cs[k].Out=o:=by
 have hm: ∀e∈l,e.2∈cs:=fun e he=>R.p.mem_iff.1 (a00.2 ⟨e,he,rfl⟩)
 have hq: ∀e∈l,iF o e.1=decide (eQ o e.2.Out=0):=fun e he=>by
  rw[R.k e he]
  exact eqP ho.1 (K.ok _ (hm e he)).1
 rcases aL9 o cs 0 with⟨h1,h2⟩|⟨k,hk,h1,h2⟩
 ·refine .inl ⟨h1, ?_,h2⟩
  unfold jU
  rw[a0R]
  intro e he
  rw[hq e he]
  have:=h2 _ (hm e he)
  rw[lY]at this
  exact decide_eq_false (by omega)
 have e1:cs[k].Out=o:=aA3 (K.ok _ (a0G hk)).1 ho.1 h2
 obtain⟨e,he,e2⟩:=a00.1 (R.p.mem_iff.2 (a0G hk))
 cases hf:jU iF l o with
 |none=>
  unfold jU at hf
  rw[a0R]at hf
  have:=hf e he
  rw[hq e he,e2,e1,aA1]at this
  exact absurd this (by decide)
 |some i=>
  obtain⟨hi,hp,_⟩:=List.findIdx?_eq_some_iff_getElem.1 hf
  rw[hq _ (a0G hi)]at hp
  have e3:=aA3 ho.1 (K.ok _ (hm _ (a0G hi))).1 (of_decide_eq_true hp)
  exact .inr ⟨k,hk,i,hi,by rw[h1];omega,rfl,aVk K.s (hm _ (a0G hi)) (a0G hk) (by rw[←e3,e1]),e1⟩
theorem MapR.del {k i:Nat}(hk:k<cs.length)(hi:i<l.length)(e:l[i].2=cs[k]):MapR (l.eraseIdx i) (cs.eraseIdx k):=by
 refine⟨fun e he=>R.k e (List.mem_of_mem_eraseIdx he), ?_⟩
 have a:=(aE0 hi).map Prod.snd
 rw[List.map_cons,e]at a
 exact List.Perm.cons_inv (a.trans (R.p.trans (aE0 hk).symm))
theorem CsK.del {k:Nat}:CsK h n (cs.eraseIdx k):=by
 have sl:=List.eraseIdx_sublist cs k
 exact⟨Nat.le_trans sl.length_le K.n,fun c hc=>K.c c (sl.subset hc),List.Pairwise.sublist sl K.s⟩
theorem MapR.put {c:aA}:MapR (l++[(c.Out,c)]) (kJ c cs):=by
 refine⟨fun e he=> ?_, ?_⟩
 ·rcases a01.1 he with he|he
  ·exact R.k e he
  obtain rfl:=a0L.1 he;rfl
 rw[a1b,List.map_singleton]
 exact((R.p.append_right _).trans List.perm_append_comm).trans aGO.symm
end
theorem aOO {a b:List aA}(p:a.Perm b):eV a=eV b:=by
 induction p with
 |nil=>rfl
 |cons x _ ih=>simp only[eV,ih]
 |swap x y l=>simp only[eV];omega
 |trans _ _ i1 i2=>exact i1.trans i2
def lX :List aQ→Int
 | []=>0
 |o::os=>o.Value+lX os
theorem aTp {os:List aQ}(h: ∀o∈os,aNX o):0≤lX os∧lX os≤2000*os.length:=by
 induction os with
 |nil=>simp[lX]
 |cons o os ih=>
  have:=ih fun x hx=>h x (by simp[hx])
  have:=(h o (by simp)).2
  simp only[lX,a0Z]
  omega
theorem aTT {cs:List aA}(h: ∀c∈cs,fK c):0≤eV cs∧eV cs≤2000*cs.length:=by
 induction cs with
 |nil=>simp[eV]
 |cons c cs ih=>
  have:=ih fun x hx=>h x (by simp[hx])
  have:=(h c (by simp)).p.2
  simp only[eV,a0Z]
  omega
theorem aUn {cs:List aA}{k:Nat}(hk:k<cs.length):eV cs=cs[k].Output.Value+eV (cs.eraseIdx k):=by
 rw[←aOO (aE0 hk)];rfl
def xT (id:List Int)(h:Int)(cb:Bool):Nat→List aQ→List aA
 |_,[]=>[]
 |i,o::os=>⟨⟨id,(i:Int)⟩,o,h,cb⟩::xT id h cb (i+1) os
theorem aKD {id:List Int}{h:Int}{cb:Bool}: ∀(i:Nat)(os:List aQ),eV (xT id h cb i os)=lX os
 |_,[]=>rfl
 |i,o::os=>by simp only[xT,eV,lX,aKD]
theorem aJW {id:List Int}{h:Int}{cb:Bool}: ∀(i:Nat)(os:List aQ),(xT id h cb i os).length=os.length
 |_,[]=>rfl
 |i,o::os=>by simp only[xT,a0Z,aJW]
theorem aKt {id:List Int}{h:Int}{cb:Bool}: ∀(i:Nat)(os:List aQ){c:aA},c∈xT id h cb i os→c.Out.Tx=id∧(i:Int)≤c.Out.Index∧c.Output∈os∧c.Height=h
 |_,[],c,hc=>by simp[xT]at hc
 |i,o::os,c,hc=>by
  rcases a05.1 hc with rfl|hc
  ·exact⟨rfl,a0Y _,by simp,rfl⟩
  obtain⟨h1,h2,h3,h4⟩:=aKt (i+1) os hc
  exact⟨h1,by omega,by simp[h3],h4⟩
theorem aQ8 {id:List Int}{h:Int}{cb:Bool}: ∀(i:Nat)(os:List aQ),(xT id h cb i os).Pairwise fun a b=>a.Out≠b.Out
 |_,[]=>a0X
 |i,o::os=>a0O.2 ⟨fun c hc e=>by
   have:=(aKt (i+1) os hc).2.1
   rw[←e]at this
   simp only at this
   omega,aQ8 (i+1) os⟩
def lL (N:Nat)(t:aD)(h:Int)(cb:Bool):List aA:=xT (dig N t false) h cb 0 t.Outputs
section
variable {N:Nat}(hN:70000≤N)
include hN
theorem aRO {t:aD}(T:TxM t){h:Int}{cb:Bool}{c:aA}(hc:c∈lL N t h cb):fK c∧c.Height=h:=by
 obtain⟨h1,_,h3,h4⟩:=aKt 0 t.Outputs hc
 have hd:=aKC (t:=t) N false
 exact⟨⟨⟨by rw[h1];exact hd.1,by rw[h1];exact hd.2⟩,T.o _ h3⟩,h4⟩
theorem aMN {t:aD}(T:TxM t){h:Int}{cb:Bool}(hcb:cV N t=some cb){id:List Int}: ∀(m j:Nat)(acc:List aA),t.Outputs.length-j<m→j≤t.Outputs.length→acc.length≤10+j→
  tQ N t h id m (j:Int) acc=some (acc++xT id h cb j (t.Outputs.drop j))
 |0,j,_,hm,_,_=>by omega
 |m+1,j,acc,hm,hj,ha=>by
  have hno:=T.n
  rw[tQ]
  by_cases hl:j<t.Outputs.length
  ·rw[if_pos (dT hl),bA _ hl,a0H hl,aIF j (by omega)]
   simp only[a0F,hcb]
   rw[d8 (by omega) (by simp;omega),i1 (by omega)]
   simp only[a0F]
   rw[aMN T hcb m (j+1) _ (by omega) (by omega) (by simp;omega),a08]
   rfl
  rw[if_neg (by simp;omega),a0J (by omega)]
  simp[xT]
theorem aLV {t:aD}(T:TxM t){h:Int}{cb:Bool}(hcb:cV N t=some cb):pZ N t h=some (lL N t h cb):=by
 have l:=aMN hN T (h:=h) hcb (id:=dig N t false) N 0 [] (by have:=T.n;omega) (by omega) (by simp)
 rw[show((0:Nat):Int)=0 from rfl,a0I,a02]at l
 unfold pZ
 rw[rID N hN T.k]
 simp only[a0F,aU (aKC (t:=t) N false).1,l,aAM]
 rfl
theorem aNf {t:aD}(T:TxM t){h:Int}{cb:Bool}{id:List Int}: ∀(m j:Nat)(acc:List aA),t.Outputs.length-j<m→j≤t.Outputs.length→acc.length≤10+j→
  rI N t h cb id m (j:Int) acc=some (acc++xT id h cb j (t.Outputs.drop j))
 |0,j,_,hm,_,_=>by omega
 |m+1,j,acc,hm,hj,ha=>by
  have hno:=T.n
  rw[rI]
  by_cases hl:j<t.Outputs.length
  ·rw[if_pos (dT hl),bA _ hl,a0H hl,aIF j (by omega)]
   simp only[a0F]
   rw[d8 (by omega) (by simp;omega),i1 (by omega)]
   simp only[a0F]
   rw[aNf T m (j+1) _ (by omega) (by omega) (by simp;omega),a08]
   rfl
  rw[if_neg (by simp;omega),a0J (by omega)]
  simp[xT]
theorem aT8 {t:aD}(T:TxM t){h:Int}{cb:Bool}:yO N t h cb=some (lL N t h cb):=by
 have l:=aNf hN T (h:=h) (cb:=cb) (id:=dig N t false) N 0 [] (by have:=T.n;omega) (by omega) (by simp)
 rw[show((0:Nat):Int)=0 from rfl,a0I,a02]at l
 unfold yO
 rw[aID N hN T.k]
 simp only[a0F,aU (aKC (t:=t) N false).1,l,zA]
 rfl
def wL (cs:List aA)(o:aC):Bool:=decide (0≤fI o 0 cs)
def aB9 (cs os:List aA):List aA:=os.foldl (fun l c=>kJ c l) cs
omit hN in
theorem aL3 {l:List aA}(hl: ∀d∈l,OkO d.Out){o:aC}(ho:OkO o):wL l o=true↔ ∃d∈l,d.Out=o:=by
 unfold wL
 rcases aL9 o l 0 with⟨h1,h2⟩|⟨k,hk,h1,h2⟩
 ·rw[h1]
  refine⟨fun h=>(by cases h),fun⟨d,hd,e⟩=>absurd (by rw[e];exact aA1 o) (h2 d hd)⟩
 rw[h1]
 exact⟨fun _=>⟨_,a0G hk,aA3 (hl _ (a0G hk)).1 ho.1 h2⟩,fun _=>decide_eq_true (by omega)⟩
omit hN in
theorem aQV {l:List aA}(hl: ∀d∈l,OkO d.Out){c:aA}(C:OkO c.Out){o:aC}(ho:OkO o)(hne:c.Out≠o):wL (kJ c l) o=wL l o:=by
 rw[Bool.eq_iff_iff,aL3 (fun d hd=>by rcases aDa.1 hd with rfl|hd;exact C;exact hl d hd) ho,aL3 hl ho]
 constructor
 ·rintro⟨d,hd,e⟩
  rcases aDa.1 hd with rfl|hd
  ·exact absurd e hne
  exact⟨d,hd,e⟩
 rintro⟨d,hd,e⟩
 exact⟨d,aDa.2 (.inr hd),e⟩
omit hN in
theorem aV8 {h:Int}{n:Nat}{cs:List aA}(K:CsK h n cs)(h1:1≤h){c:aA}(C:fK c)(hc:c.Height=h)(hno:wL cs c.Out=false):CsK h (n+1) (kJ c cs):=by
 refine⟨by rw[aPR];have:=K.n;omega,fun d hd=> ?_,aLY C.o K.ok K.s fun d hd h0=> ?_⟩
 ·rcases aDa.1 hd with rfl|hd
  ·exact⟨C,by omega⟩
  exact K.c d hd
 have:=(aL3 K.ok C.o).2 ⟨d,hd,aA3 (K.ok d hd).1 C.o.1 h0⟩
 rw[hno]at this;cases this
theorem aOV {p:aI}{h hh:Int}{sp:List aA}{f:Int}{os:List aA}(h1:1≤h)(ho:os.length≤10)(hos: ∀c∈os,fK c∧c.Height=h)(hne:os.Pairwise fun a b=>a.Out≠b.Out){cs:List aA}:
  ∀(m j n:Nat)(l:List (aC×aA))(cs':List aA),os.length-j<m→j≤os.length→MapR l cs'→CsK h n cs'→(∀c∈os.drop j,wL cs' c.Out=wL cs c.Out)→
   ∃r,pO N p hh sp f os m (j:Int) l=some r∧if(os.drop j).any (fun c=>wL cs c.Out)=true then∃l',r= .ret (91,l')else∃l',r= .brk l'∧MapR l' (aB9 cs' (os.drop j))∧CsK h (n+(os.length-j)) (aB9 cs' (os.drop j))
 |0,j,_,_,_,hm,_,_,_,_=>by omega
 |m+1,j,n,l,cs',hm,hj,R,K,hi=>by
  rw[pO]
  by_cases hl:j<os.length
  ·rw[if_pos (dT hl),bA _ hl]
   simp only[Option.bind_some]
   rw[List.drop_eq_getElem_cons hl]at hi⊢
   obtain⟨C,hC⟩:=hos _ (List.getElem_mem hl)
   have e0:=hi os[j] (List.Mem.head _)
   rw[List.any_cons]
   rcases aNd K R C.o with⟨f1,f2,f3⟩|⟨k,hk,i,hi',f1,f2,f3,f4⟩
   ·have e1:wL cs' os[j].Out=false:=by unfold wL;rw[f1];rfl
    rw[show tD iF l os[j].Out=false by unfold tD;rw[f2];rfl,if_neg (by simp),i1 (by omega),show wX iF l os[j].Out os[j]=l++[(os[j].Out,os[j])] by unfold wX;rw[f2],←e0,e1,Bool.false_or]
    obtain⟨r,e2,e3⟩:=aOV (p:=p) (hh:=hh) (sp:=sp) (f:=f) h1 ho hos hne (cs:=cs) m (j+1) (n+1) _ (kJ os[j] cs') (by omega) (by omega) (MapR.put K R) (aV8 K h1 C hC e1) (fun c hc=>by
     have o2:=(hos c (List.mem_of_mem_drop hc)).1.o
     have hn2:os[j].Out≠c.Out:=by
      obtain⟨i,hi2,rfl⟩:=List.getElem_of_mem hc
      rw[List.getElem_drop]
      exact List.pairwise_iff_getElem.1 hne j (j+1+i) hl (by rw[List.length_drop]at hi2;omega) (by omega)
     rw[aQV K.ok C.o o2 hn2]
     exact hi c (List.Mem.tail _ hc))
    refine⟨r,e2, ?_⟩
    have e4:aB9 cs' (os[j]::os.drop (j+1))=aB9 (kJ os[j] cs') (os.drop (j+1)):=rfl
    rw[e4,show n+(os.length-j)=n+1+(os.length-(j+1)) by omega]
    exact e3
   have e1:wL cs' os[j].Out=true:=by unfold wL;rw[f1];exact decide_eq_true (by omega)
   rw[show tD iF l os[j].Out=true by unfold tD;rw[f2];rfl,if_pos rfl,←e0,e1,Bool.true_or]
   refine⟨_,rfl, ?_⟩
   rw[if_pos rfl]
   exact⟨_,rfl⟩
  rw[if_neg (by simp;omega),List.drop_eq_nil_of_le (by omega)]
  refine⟨_,rfl, ?_⟩
  rw[List.any_nil,if_neg (by simp)]
  exact⟨l,rfl,R,K.up (Int.le_refl _) (by omega)⟩
theorem aOW {h:Int}{os:List aA}(h1:1≤h)(ho:os.length≤10)(hos: ∀c∈os,fK c∧c.Height=h):
  ∀(m j n:Nat)(cs':List aA),os.length-j<m→j≤os.length→n+(os.length-j)≤900→CsK h (n+(os.length-j)) (aB9 cs' (os.drop j))→(∀i,CsK h (n+i) (aB9 cs' ((os.drop j).take i)))→aBH N os m cs' (j:Int)=some (aB9 cs' (os.drop j))
 |0,j,_,_,hm,_,_,_,_=>by omega
 |m+1,j,n,cs',hm,hj,hb,K,Ks=>by
  rw[aBH]
  by_cases hl:j<os.length
  ·rw[if_pos (dT hl),bA _ hl]
   have K0:CsK h n cs':=Ks 0
   simp only[a0F,aT2 hN K0 (show n≤900 by omega) (hos _ (a0G hl)).1,i1 (show j≤100000 by omega)]
   rw[a0H hl]at K Ks⊢
   exact aOW h1 ho hos m (j+1) (n+1) _ (by omega) (by omega) (by omega) (by rw[show n+1+(os.length-(j+1))=n+(os.length-j) by omega];exact K) fun i=>by
    have:=Ks (i+1)
    rw[show n+1+i=n+(i+1) by omega]
    exact this
  rw[if_neg (by simp;omega),a0J (by omega)]
  rfl
end
theorem aTn {h:Int}(h1:1≤h): ∀(os:List aA)(n:Nat)(cs:List aA),(∀c∈os,fK c∧c.Height=h)→(os.Pairwise fun a b=>a.Out≠b.Out)→CsK h n cs→(os.any fun c=>wL cs c.Out)=false→ ∀i,CsK h (n+i) (aB9 cs (os.take i))
 | [],n,cs,_,_,K,_,i=>by rw[List.take_nil];exact K.up (a0Y _) (by omega)
 |o::os,n,cs,ho,hp,K,ha,0=>K
 |o::os,n,cs,ho,hp,K,ha,i+1=>by
  obtain⟨p1,p2⟩:=a0O.1 hp
  rw[List.any_cons,Bool.or_eq_false_iff]at ha
  have O:=ho o (by simp)
  have:=aTn h1 os (n+1) (kJ o cs) (fun c hc=>ho c (by simp[hc])) p2 (aV8 K h1 O.1 O.2 ha.1) (by
   rw[a09]at ha⊢
   intro c hc
   rw[aQV K.ok O.1.o (ho c (by simp[hc])).1.o (p1 c hc)]
   exact ha.2 c hc) i
  rw[show n+(i+1)=n+1+i by omega]
  exact this
section
variable {N:Nat}(hN:70000≤N){p:aI}{h:Int}{n:Nat}{cs:List aA}(K:CsK h n cs)(hn:n≤800)(h1:1≤h){l:List (aC×aA)}(R:MapR l cs){t:aD}(T:TxM t)
include hN K hn h1 R T
theorem aY2 {cb:Bool}(hcb:cV N t=some cb){sp:List aA}{f:Int}: ∃r,t6 N p h l sp f t cb=some r∧
  ((r.1≠0∧aDJ N cs t h=some ([],r.1))∨(r.1=0∧aDJ N cs t h=some (aB9 cs (lL N t h cb),0)∧MapR r.2 (aB9 cs (lL N t h cb))∧CsK h (n+2) (aB9 cs (lL N t h cb)))):=by
 have hno:=T.n
 have hos: ∀c∈lL N t h cb,fK c∧c.Height=h:=fun c hc=>aRO hN T hc
 have hp:(lL N t h cb).Pairwise fun a b=>a.Out≠b.Out:=aQ8 _ _
 have hl:(lL N t h cb).length≤2:=by unfold lL;rw[aJW];exact hno
 unfold t6 aDJ
 rw[aT8 hN T,aLV hN T hcb]
 simp only[a0F]
 have l4:=aAR (f:=wV N cs t h (lL N t h cb)) (xs:=lL N t h cb) (p:=fun c=> !wL cs c.Out) (r:=([],91)) (fun m j hj=>by
  rw[wV,dT hj,if_pos rfl,bA _ hj]
  simp only[a0F,aMo hN K (show n≤900 by omega) (hos _ (a0G hj)).1.o,i1 (show j≤100000 by omega)]
  rw[show decide (0≤fI (lL N t h cb)[j].Out 0 cs)=wL cs (lL N t h cb)[j].Out from rfl]
  cases wL cs (lL N t h cb)[j].Out<;>rfl) (fun m j hj=>by rw[wV,dF (by omega)];rfl) N 0 (by omega) (by omega)
 rw[show((0:Nat):Int)=0 from rfl,a0I,List.all_eq_not_any_not]at l4
 simp only[Bool.not_not]at l4
 obtain⟨r,e1,e2⟩:=aOV hN (p:=p) (hh:=h) (sp:=sp) (f:=f) h1 (by omega) hos hp (cs:=cs) N 0 n l cs (by omega) (by omega) R K (fun c hc=>rfl)
 rw[show((0:Nat):Int)=0 from rfl]at e1
 rw[a0I]at e2
 rw[e1,l4]
 cases ha:(lL N t h cb).any fun c=>wL cs c.Out with
 |true=>
  rw[ha,if_pos rfl]at e2
  obtain⟨l',rfl⟩:=e2
  exact⟨_,rfl,.inl ⟨show(91:Int)≠0 by decide,rfl⟩⟩
 |false=>
  rw[ha,if_neg (by simp)]at e2
  obtain⟨l',rfl,R',K'⟩:=e2
  have Ks:=aTn h1 _ n cs hos hp K ha
  have l3:=aOW hN h1 (show(lL N t h cb).length≤10 by omega) hos N 0 n cs (by omega) (by omega) (by omega) (by rw[a0I];exact K') (fun i=>by rw[a0I];exact Ks i)
  rw[show((0:Nat):Int)=0 from rfl,a0I]at l3
  refine⟨_,rfl,.inr ⟨rfl, ?_,R',K'.up (a0Y _) (by omega)⟩⟩
  show aBJ N cs t h=_
  unfold aBJ
  rw[aLV hN T hcb]
  simp only[a0F]
  rw[l3]
  rfl
def aMK (p:aI)(h:Int)(c:aA):Bool:=c.Coinbase&&decide (a0K.wrap (h-c.Height)<p.Maturity)
theorem pL5 {sp:List aA}{f:Int}{c:aA}:e8 N p h l sp f t [c] N 0=some (if aMK p h c=true then .ret (230,l,sp,f)else .brk ()):=by
 obtain⟨m,rfl⟩: ∃m,N=m+2:=⟨N-2,by omega⟩
 have e1:e8 (m+2) p h l sp f t [c] (m+1) 1=some (.brk ()):=by unfold e8;rfl
 rw[e8,if_pos (show decide ((0:Int)<(([c].length:Nat):Int))=true from rfl),show aZ [c] 0=some c from rfl]
 have hy:aMK p h c=(c.Coinbase&&decide (a0K.wrap (h-c.Height)<p.Maturity)):=rfl
 simp only[a0F,pP,show a0K.wrap (0+1)=1 from rfl,e1]
 rw[hy]
 generalize c.Coinbase=b1
 generalize decide (a0K.wrap (h-c.Height)<p.Maturity)=b2
 cases b1<;>cases b2<;>rfl
theorem rL3 {c:aA}:jL N p h [c] N 0=some (if aMK p h c=true then .ret ([],230)else .brk ()):=by
 obtain⟨m,rfl⟩: ∃m,N=m+2:=⟨N-2,by omega⟩
 have e1:jL (m+2) p h [c] (m+1) 1=some (.brk ()):=by unfold jL;rfl
 rw[jL,if_pos (show decide ((0:Int)<(([c].length:Nat):Int))=true from rfl),show aZ [c] 0=some c from rfl]
 have hy:aMK p h c=(c.Coinbase&&decide (a0K.wrap (h-c.Height)<p.Maturity)):=rfl
 simp only[a0F,yF,show a0K.wrap (0+1)=1 from rfl,e1]
 rw[hy]
 generalize c.Coinbase=b1
 generalize decide (a0K.wrap (h-c.Height)<p.Maturity)=b2
 cases b1<;>cases b2<;>rfl
theorem pL4 {f:Int}{q:Int×Int}{sp:List aA}(hs:sp.length≤1000){c:aA}(C:fK c):iX N p h f [c] q N 0 l sp=some (aMi iF l c.Out,sp++[c]):=by
 obtain⟨m,rfl⟩: ∃m,N=m+2:=⟨N-2,by omega⟩
 have e1: ∀a b,iX (m+2) p h f [c] q (m+1) 1 a b=some (a,b):=fun a b=>by unfold iX;rfl
 have e2:jD (m+2) c=some c:=by
  unfold jD dJ
  rw[d8 (by omega) (by have:=C.p.1.len;simp;omega)]
  rfl
 rw[iX,if_pos (show decide ((0:Int)<(([c].length:Nat):Int))=true from rfl),show aZ [c] 0=some c from rfl]
 simp only[a0F,e2]
 rw[d8 (by omega) (by simp;omega)]
 simp only[a0F,show a0K.wrap (0+1)=1 from rfl,e1]
theorem aZb {sp:List aA}(hs:sp.length≤1000){f:Int}: ∃r,tJ N p h l sp f t=some r∧
  ((r.1≠0∧zP N p cs t h=some ([],r.1))∨
   ∃(k i:Nat)(hk:k<cs.length)(q:Int×Int),zP N p cs t h=some ([cs[k]],0)∧jX N t [cs[k]] h=some q∧MapR (l.eraseIdx i) (cs.eraseIdx k)∧fI cs[k].Out 0 cs=(k:Int)∧
    ((q.2≠0∧r.1=q.2)∨(q.2=0∧r=(0,l.eraseIdx i,sp++[cs[k]],a0K.wrap (f+q.1))))):=by
 obtain⟨x,hi,hx,hl⟩:=xB T
 have hcs:=K.n
 have hp7:iT N p h l sp f t N 0 []=some (if tD iF l x.Prev=true then .brk [oP iF l x.Prev (aA.mk (aC.mk (a04 32 0) 0) (aQ.mk 0 []) 0 false)]else .ret (101,l,sp,f)):=by
  obtain⟨m,rfl⟩: ∃m,N=m+2:=⟨N-2,by omega⟩
  have e1: ∀a,iT (m+2) p h l sp f t (m+1) 1 a=some (.brk a):=fun a=>by unfold iT;rw[hi];rfl
  rw[iT,hi]
  simp only[a03]
  rw[if_pos (show decide ((0:Int)<((1:Nat):Int))=true from rfl),show aZ [x] 0=some x from rfl]
  simp only[a0F,show a0K.wrap (0+1)=1 from rfl]
  cases tD iF l x.Prev
  ·rfl
  simp only[Bool.not_true,a06,if_false,if_true]
  rw[d8 (by omega) (by simp)]
  simp only[a0F,e1]
  rfl
 have hr5: ∀(kk:Int),fI x.Prev 0 cs=kk→nY N p cs t h N 0 []=if decide (kk<0)then some (.ret ([],101))else(aZ cs kk).bind fun c=>(nT N c).bind fun c=>some (.brk [c]):=by
  intro kk hkk
  have hf:=aMo hN K (show n≤900 by omega) hx.p
  obtain⟨m,rfl⟩: ∃m,N=m+2:=⟨N-2,by omega⟩
  have e1: ∀a,nY (m+2) p cs t h (m+1) 1 a=some (.brk a):=fun a=>by unfold nY;rw[hi];rfl
  rw[nY,hi]
  simp only[a03]
  rw[if_pos (show decide ((0:Int)<((1:Nat):Int))=true from rfl),show aZ [x] 0=some x from rfl]
  simp only[a0F,show a0K.wrap (0+1)=1 from rfl,hf,hkk]
  refine gM rfl (eH rfl fun c=>eH rfl fun d=> ?_)
  rw[d8 (by omega) (by simp)]
  simp only[a0F,e1]
  rfl
 unfold tJ zP
 rw[hp7]
 rcases aNd K R hx.p with⟨f1,f2,f3⟩|⟨k,hk,i,hi',f1,f2,f3,f4⟩
 ·rw[hr5 _ f1,show tD iF l x.Prev=false by unfold tD;rw[f2];rfl]
  exact⟨_,rfl,.inl ⟨show(101:Int)≠0 by decide,rfl⟩⟩
 have C:=(K.c _ (a0G hk)).m
 rw[hr5 _ f1,show tD iF l x.Prev=true by unfold tD;rw[f2];rfl,if_pos rfl,if_neg (by simp),bA _ hk]
 rw[show oP iF l x.Prev (aA.mk (aC.mk (a04 32 0) 0) (aQ.mk 0 []) 0 false)=cs[k] by unfold oP;rw[f2];simp[hi',f3]]
 simp only[a0F,aQT hN C]
 unfold u6 aC8
 rw[pL5 hN K hn h1 R T,rL3 hN K hn h1 R T]
 cases aMK p h cs[k] with
 |true=>exact⟨_,rfl,.inl ⟨show(230:Int)≠0 by decide,rfl⟩⟩
 |false=>
  obtain⟨q,eq,_⟩:=aRe hN T (l:=[cs[k]]) (fun d hd=>by obtain rfl:=a0L.1 hd;exact C) (h:=h)
  simp only[a0F,a06,if_false]
  unfold uZ vA
  rw[aS4 hN T C,eq]
  simp only[a0F]
  have fk:fI cs[k].Out 0 cs=(k:Int):=by rw[f4];exact f1
  by_cases h0:q.2=0
  ·rw[if_neg (by simp[h0]),pL4 hN K hn h1 R T hs C]
   have hd:aMi iF l cs[k].Out=l.eraseIdx i:=by unfold aMi;rw[f4,f2]
   rw[hd]
   exact⟨_,rfl,.inr ⟨k,i,hk,q,rfl,eq,MapR.del K R hk hi' f3,fk,.inr ⟨h0,rfl⟩⟩⟩
  rw[if_pos (by simpa using h0)]
  exact⟨_,rfl,.inr ⟨k,i,hk,q,rfl,eq,MapR.del K R hk hi' f3,fk,.inl ⟨h0,rfl⟩⟩⟩
end
section
variable {N:Nat}(hN:70000≤N)
include hN
theorem aU9 {t:aD}(T:TxM t){c:aA}(C:fK c){h:Int}{q:Int×Int}(e:jX N t [c] h=some q)(h0:q.2=0):0≤q.1∧q.1+lX t.Outputs=c.Output.Value:=by
 obtain⟨x,hi,hx,hl⟩:=xB T
 have hno:=T.n
 have hv:=C.p.2
 have F:Ok (sT N t [c]) fun r=>r.2=0→0≤r.1∧r.1+lX t.Outputs=c.Output.Value:=by
  unfold sT
  rw[aNx hN T]
  refine Ok.ite (fun he=>Ok.pure fun h0=> ?_) fun _=>Ok.ite (fun _=>Ok.pure fun h0=>absurd h0 (by decide)) fun _=> ?_
  ·have h0:aQh t=0:=h0
   rw[h0]at he
   exact absurd he (by decide)
  refine Ok.lr (R:=fun v=>v.2≠0) (P:=fun _=>True) ?_ (fun v hv=>Ok.pure fun h0=>absurd h0 hv) fun _ _=> ?_
  ·refine lpU (f:=fun m j=>iZ N t [c] m (j:Int)) 1 (fun m j hj ih=> ?_) (fun m=> ?_) N 0 (by omega) (by omega)
   ·unfold iZ
    rw[if_pos (dT (show j< [c].length from hj)),i1 (by omega)]
    exact Ok.eq (bA _ (show j< [c].length from hj)) (Ok.eq (bA _ (show j<t.Inputs.length by omega)) (Ok.ite (fun _=>Ok.pure (show(101:Int)≠0 by decide)) fun _=>ih))
   unfold iZ
   rw[if_neg (by simp)]
   exact Ok.pure trivial
  unfold sO
  rw[aYR hN C]
  show Ok (pC N t c.Output.Value) _
  unfold pC
  rw[if_neg (by simp only[decide_eq_true_eq];omega)]
  refine Ok.bind (P:=fun s=>s+lX t.Outputs=c.Output.Value) ?_ fun s hs=> ?_
  ·refine(lp (f:=fun m j s=>i8 N t m s (j:Int)) (fun j s=>s-lX (t.Outputs.drop j)=c.Output.Value-lX t.Outputs∧ -2000*(j:Int)≤s∧s≤2000) (Q:=fun s=>s+lX t.Outputs=c.Output.Value) t.Outputs.length (fun m j s hj hs ih=> ?_) (fun m s hs=> ?_) N 0 c.Output.Value (by omega) (by omega) ⟨by rw[a0I],by omega,by omega⟩)
   ·have ho:=(T.o _ (a0G hj)).2
    unfold i8
    rw[if_pos (dT hj),i1 (by omega)]
    refine Ok.eq (bA _ hj) ?_
    rw[cJ (by omega) (by omega)]
    refine ih _ ⟨?_,by omega,by omega⟩
    have:=hs.1
    rw[a0H hj]at this
    simp only[lX]at this
    omega
   unfold i8
   rw[if_neg (by simp)]
   have:=hs.1
   rw[a0J (a0S _)]at this
   simp only[lX]at this
   exact Ok.pure (by omega)
  unfold aBb
  exact Ok.ite (fun _=>Ok.pure fun h0=>absurd h0 (by decide)) fun hge=>Ok.pure fun _=>⟨by simpa using hge,hs⟩
 have G:Ok (jX N t [c] h) fun r=>r.2=0→0≤r.1∧r.1+lX t.Outputs=c.Output.Value:=by
  unfold jX
  refine Ok.bind (aCa hN) fun b _=>Ok.ite (fun _=>Ok.pure fun h0=>absurd h0 (by decide)) fun _=>Ok.bind F fun r hr=>Ok.ite (fun he=>Ok.pure fun h0=>absurd h0 (by simpa using he)) fun he=>Ok.bind (aJ2 hN T) fun _ _=>Ok.ite (fun _=>Ok.pure fun h0=>absurd h0 (by decide)) fun _=> ?_
  have hr':=hr (by simpa using he)
  refine Ok.lr (R:=fun v=>v.2≠0) (P:=fun _=>True) ?_ (fun v hv=>Ok.pure fun h0=>absurd h0 hv) fun _ _=>Ok.pure fun _=>hr'
  refine lpU (f:=fun m j=>f9 N t [c] h r m (j:Int)) 1 (fun m j hj ih=> ?_) (fun m=> ?_) N 0 (by omega) (by omega)
  ·unfold f9
   rw[if_pos (dT (show j< [c].length from hj)),i1 (by omega)]
   obtain rfl:j=0:=by omega
   exact Ok.eq (bA [c] (i:=0) (by simp)) (Ok.bind (aOB hN T (i:=0) (by omega) C) fun e _=>Ok.ite (fun he=>Ok.pure (show e≠0 by simpa using he)) fun _=>ih)
  unfold f9
  rw[if_neg (by simp)]
  exact Ok.pure trivial
 obtain⟨r,e2,hr⟩:=G
 rw[e]at e2
 injection e2 with e2
 subst e2
 exact hr h0
theorem aOH {l:List aA}(hl:l.length≤1000)(hc: ∀c∈l,fK c):uR N l=some (eV l):=by
 have:Ok (uR N l) fun r=>r=eV l:=by
  unfold uR
  refine Ok.bind (P:=fun r=>r=eV l) ?_ fun _ h=>Ok.pure h
  refine lp (f:=fun m j s=>r7 N l m s (j:Int)) (fun j s=>s+eV (l.drop j)=eV l∧0≤s∧s≤2000*(j:Int)) l.length (fun m j s hj hs ih=> ?_) (fun m s hs=> ?_) N 0 0 (by omega) (by omega) ⟨by rw[a0I];omega,by omega,by omega⟩
  ·have hv:=(hc _ (a0G hj)).p.2
   unfold r7
   rw[if_pos (dT hj),i1 (by omega)]
   refine Ok.eq (bA _ hj) ?_
   rw[cJ (by omega) (by omega)]
   refine ih _ ⟨?_,by omega,by omega⟩
   have:=hs.1
   rw[a0H hj]at this
   simp only[eV]at this
   omega
  unfold r7
  rw[if_neg (by simp)]
  have:=hs.1
  rw[a0J (a0S _)]at this
  simp only[eV]at this
  exact Ok.pure (by omega)
 obtain⟨r,e,rfl⟩:=this
 exact e
theorem aOb {l:List aA}(hl:l.length≤1000)(hc: ∀c∈l,fK c):oZ N l=some (eV l,true):=by
 have T:=aJ9 hN (l:=aF.mk 0 [] l) hl hl N 0 0 (by omega) (by omega) (by omega) (by omega)
 rw[show((0:Nat):Int)=0 from rfl,a0I,aQa (fun c h=>(hc c h).p.2) (by omega),if_pos rfl,Int.zero_add]at T
 unfold oZ
 rw[T]
 rfl
end
theorem aUq {c:aA}{l:List aA}:eV (kJ c l)=c.Output.Value+eV l:=by rw[aOO aGO];rfl
theorem aOk : ∀(os cs:List aA),eV (aB9 cs os)=eV cs+eV os
 | [],cs=>by simp[aB9,eV]
 |o::os,cs=>by
  show eV (aB9 (kJ o cs) os)=_
  rw[aOk os,aUq]
  simp only[eV];omega
def c4 (l:List aD)(j:Nat):Bool:=match l[j]? with
 |some t=>(pR (pv t) aEC) != ((j:Int) == 0)
 |none=>false
def aG3 (c:aA):aC×aA:=(c.Out,c)
section
variable {N:Nat}(hN:70000≤N){p:aI}{l:aF}{b:aO}{n:Nat}(P:PK p)(L:LedK n l)(hn:n≤50)(B:aHl b)
include hN P L hn B
theorem a0f (h:jW N b=some 0): ∀j (hj:j<b.Txs.length),cV N b.Txs[j]=some ((j:Int) == 0):=by
 have hb:=B.t.1
 have l6:dX N b N 0=some (if(List.range b.Txs.length).any (c4 b.Txs)=true then .ret 111 else .brk ()):=by
  refine aLZ (f:=fun m j (_:Unit)=>dX N b m j) (fun _=>()) (c4 b.Txs) 111 () (fun m j hj=> ?_) (fun m=> ?_) (by omega)
  ·obtain⟨x,hi,hx⟩:=(B.t.2 _ (a0G hj)).i
   show dX N b (m+1) (j:Int)=if c4 b.Txs j=true then some (.ret 111)else dX N b m ((j+1:Nat):Int)
   rw[dX,if_pos (dT hj),bA _ hj,show c4 b.Txs j=((pR x.Prev aEC) != ((j:Int) == 0)) by unfold c4;rw[a0M hj];simp only[aDF hN B hi]]
   simp only[a0F,aM1 hN hi hx.p.1,i1 (show j≤100000 by omega)]
  show dX N b (m+1) (b.Txs.length:Int)=_
  rw[dX,if_neg (by simp)]
 unfold jW at h
 rw[aR8 hN B,l6]at h
 intro j hj
 obtain⟨x,hi,hx⟩:=(B.t.2 _ (a0G hj)).i
 rw[aM1 hN hi hx.p.1]
 cases ha:(List.range b.Txs.length).any (c4 b.Txs) with
 |true=>
  rw[ha]at h
  simp only[a0F]at h
  split at h
  ·cases h
  split at h
  ·cases h
  cases h
 |false=>
  rw[a09]at ha
  have:=ha j (List.mem_range.2 hj)
  unfold c4 at this
  rw[a0M hj]at this
  simp only[aDF hN B hi,bne_iff_ne,ne_eq,Decidable.not_not]at this
  rw[this]
theorem aYu :zV N p l b=nM N p l b:=by
 have hh:=L.h
 have hc:=L.c.n
 have T:=B.t.2 _ (a0G B.n)
 obtain⟨x,hx,hm,hl⟩:=xB T
 have j1: ∀t,sE N l b t=iE N l b t:=fun t=>by
  unfold sE iE
  rw[aTX hN B]
  refine gM rfl (gM rfl (eH rfl fun _=>eH rfl fun _=>gM rfl (eH rfl fun _=>gM rfl ?_)))
  rw[show aZ b.Txs 0=some (b.Txs[0]'B.n)from bA (i:=0) _ B.n]
  simp only[a0F,aSa]
  rw[show aZ (b.Txs[0]'B.n).Inputs 0=some x by rw[hx];rfl]
  simp only[a0F]
  have hs:=hm.s
  unfold sU at hs
  rw[cJ (a:=l.Height+1) (by omega) (by omega),cJ (a:=x.Sequence) (by omega) (by omega),show IntKind.u32.wrap (l.Height+1)=l.Height+1 by rw[IntKind.wrap_u32];omega]
 unfold zV nM
 rw[aQ5 hN P,aMR hN P,aX5 hN (by omega) L.c.ok,aPI hN (by omega) L.c.ok]
 simp only[j1]
theorem aTd :iL N p l b N 0 []=some (l.Coins.map aG3):=by
 have hc:=L.c.n
 have go: ∀(m j:Nat),l.Coins.length-j<m→j≤l.Coins.length→iL N p l b m (j:Int) ((l.Coins.take j).map aG3)=some (l.Coins.map aG3):=by
  intro m
  induction m with
  |zero=>intro j h _;omega
  |succ m ih=>
   intro j h hj
   rw[iL]
   by_cases h':j<l.Coins.length
   ·have C:=(L.c.c _ (a0G h')).m
    have hf:jU iF ((l.Coins.take j).map aG3) l.Coins[j].Out=none:=by
     unfold jU
     rw[a0R]
     intro e he
     obtain⟨d,hd,rfl⟩:=a00.1 he
     obtain⟨i,hi,rfl⟩:=a0U hd
     rw[List.length_take]at hi
     rw[List.getElem_take]
     have:=a0Q.1 L.c.s i j (by omega) h' (by omega)
     refine(eqP C.o.1 (L.c.ok _ (a0G (show i<l.Coins.length by omega))).1).trans (decide_eq_false ?_)
     rw[lY];omega
    rw[if_pos (dT h'),bA _ h']
    simp only[a0F,i1 (show j≤100000 by omega)]
    rw[show wX iF ((l.Coins.take j).map aG3) l.Coins[j].Out l.Coins[j]=(l.Coins.take (j+1)).map aG3 by unfold wX;rw[hf,List.take_succ_eq_append_getElem h',a1b];rfl]
    exact ih (j+1) (by omega) (by omega)
   rw[if_neg (by simp;omega),List.take_of_length_le (by omega)]
 have:=go N 0 (by omega) (by omega)
 rw[List.take_zero]at this
 exact this
structure St (n:Nat)(l:aF)(out0:Int)(j:Nat)(f:Int)(m:List (aC×aA))(sp cs:List aA):Prop where
 r:MapR m cs
 k:CsK (l.Height+1) (8*n+2*j) cs
 s:sp.length≤j
 ff:0≤f∧f≤2000*(j:Int)
 v:eV cs+f=eV l.Coins+(if j=0 then 0 else out0)
theorem aOu (hcb: ∀j (hj:j<b.Txs.length),cV N b.Txs[j]=some ((j:Int) == 0)){hs:List Int}{S0:Int}(hS:0≤S0∧S0≤1000){out0:Int}(ho:out0=lX (b.Txs[0]'B.n).Outputs): ∀(m j:Nat)(f:Int)(mp:List (aC×aA))(sp cs:List aA),b.Txs.length-j<m→j≤b.Txs.length→St n l out0 j f mp sp cs→
  ∃x y,fA N p l b m (j:Int) f mp sp=some x∧g5 N p l b hs m (S0+f) (j:Int) cs sp=some y∧
   ((∃v,x= .ret v∧y= .ret v∧v.2.2≠0)∨ ∃f' mp' sp' cs',x= .brk (f',mp',sp')∧y= .brk (S0+f',cs',sp')∧St n l out0 b.Txs.length f' mp' sp' cs')
 |0,j,_,_,_,_,h,_,_=>by omega
 |m+1,j,f,mp,sp,cs,hm,hj,S=>by
  have hh:=L.h
  have hb:=B.t.1
  have hw:a0K.wrap (l.Height+1)=l.Height+1:=cJ (by omega) (by omega)
  have ss:=S.s
  have sf:=S.ff
  rw[fA,g5]
  by_cases h':j<b.Txs.length
  ·have T:=B.t.2 _ (a0G h')
   have hcj:=hcb j h'
   rw[if_pos (dT h'),if_pos (dT h'),bA _ h',hw]
   simp only[a0F]
   have add: ∀(f1:Int)(mp1:List (aC×aA))(sp1 cs1:List aA),MapR mp1 cs1→CsK (l.Height+1) (8*n+2*j) cs1→sp1.length≤j+1→(0≤f1∧f1≤2000*((j+1:Nat):Int))→eV cs1+lX b.Txs[j].Outputs+f1=eV l.Coins+out0→
     ∃x y,kN N p l b (j:Int) b.Txs[j] (fA N p l b m) f1 mp1 sp1=some x∧pF N p l b hs (j:Int) b.Txs[j] (g5 N p l b hs m) (S0+f1) cs1 sp1=some y∧
      ((∃v,x= .ret v∧y= .ret v∧v.2.2≠0)∨ ∃f' mp' sp' cs',x= .brk (f',mp',sp')∧y= .brk (S0+f',cs',sp')∧St n l out0 b.Txs.length f' mp' sp' cs'):=by
    intro f1 mp1 sp1 cs1 R1 K1 s1 hf1 v1
    obtain⟨r,e1,e2⟩:=aY2 hN (p:=p) K1 (by omega) (by omega) R1 T hcj (sp:=sp1) (f:=f1)
    unfold kN pF
    rw[hw,e1]
    rcases e2 with⟨r0,e2⟩|⟨r0,e2,R2,K2⟩
    ·rw[e2]
     simp only[a0F]
     rw[if_pos (by simpa using r0),if_pos (by simpa using r0)]
     exact⟨_,_,rfl,rfl,.inl ⟨_,rfl,rfl,r0⟩⟩
    rw[e2]
    simp only[a0F]
    rw[if_neg (by simp[r0]),if_neg (by simp),i1 (by omega)]
    refine aOu hcb hS ho m (j+1) f1 r.2 sp1 _ (by omega) (by omega) ⟨R2,by rw[show 8*n+2*(j+1)=8*n+2*j+2 by omega];exact K2,s1,hf1, ?_⟩
    rw[aOk,if_neg (by omega)]
    unfold lL
    rw[aKD]
    exact v1
   by_cases h0:0<j
   ·rw[if_pos (decide_eq_true (by omega)),if_pos (decide_eq_true (by omega))]
    obtain⟨r,e1,e2⟩:=aZb hN (p:=p) S.k (by omega) (by omega) S.r T (sp:=sp) (by omega) (f:=f)
    rw[e1]
    simp only[a0F]
    rcases e2 with⟨r0,e2⟩|⟨k,i,hk,q,e2,eq,R2,fk,h2⟩
    ·rw[e2]
     simp only[a0F]
     rw[if_pos (by simpa using r0),if_pos (by simpa using r0)]
     exact⟨_,_,rfl,rfl,.inl ⟨_,rfl,rfl,r0⟩⟩
    have C:=(S.k.c _ (a0G hk)).m
    rw[e2]
    simp only[a0F]
    rw[if_neg (by simp: ¬(((0:Int) != 0)=true)),eq]
    simp only[a0F]
    rcases h2 with⟨q0,r1⟩|⟨q0,rfl⟩
    ·rw[if_pos (by rw[r1];simpa using q0),if_pos (by simpa using q0),r1]
     exact⟨_,_,rfl,rfl,.inl ⟨_,rfl,rfl,q0⟩⟩
    rw[if_neg (by simp),if_neg (by simp[q0])]
    have fv:=aU9 hN T C eq q0
    have vb:=aTp T.o
    have cv:=C.p.2
    have hno:=T.n
    have l5:gY N p l b hs (S0+f) (j:Int) sp b.Txs[j] ([cs[k]],0) q N 0 cs=some (cs.eraseIdx k):=by
     have hfd:=aMo hN S.k (show 8*n+2*j≤900 by omega) C.o
     have hkn:=S.k.n
     have hwo:aAr N cs (k:Int)=some (cs.eraseIdx k):=by
      unfold aAr
      rw[i1 (by omega),show(0:Int)=((0:Nat):Int)from rfl,aHq (a:=0) (Nat.zero_le k) (by omega)]
      simp only[a0F]
      rw[d8 (by omega) (by simp;omega)]
      simp only[a0F]
      rw[aHq (show k+1≤cs.length by omega) (a0S _)]
      simp only[a0F]
      rw[d8 (by omega) (by simp;omega)]
      simp only[a0F]
      rw[List.eraseIdx_eq_take_drop_succ,List.take_length];simp
     obtain⟨M,hM⟩: ∃M,N=M+2:=⟨N-2,by omega⟩
     have e1: ∀a,gY N p l b hs (S0+f) (j:Int) sp b.Txs[j] ([cs[k]],0) q (M+1) 1 a=some a:=fun a=>by unfold gY;rfl
     rw[show gY N p l b hs (S0+f) (j:Int) sp b.Txs[j] ([cs[k]],0) q N 0 cs=gY N p l b hs (S0+f) (j:Int) sp b.Txs[j] ([cs[k]],0) q (M+2) 0 cs by rw[←hM]]
     rw[gY,if_pos (show decide ((0:Int)<(((([cs[k]],0):List aA×Int).1.length:Nat):Int))=true from rfl),show aZ (([cs[k]],0):List aA×Int).1 0=some cs[k]from rfl]
     simp only[a0F,hfd,fk,hwo,show a0K.wrap (0+1)=1 from rfl,e1]
    rw[l5]
    simp only[a0F]
    unfold aAW
    rw[d8 (by omega) (by simp;omega)]
    simp only[a0F]
    rw[cJ (a:=f+q.1) (by omega) (by omega),cJ (a:=S0+f+q.1) (by omega) (by omega),show S0+f+q.1=S0+(f+q.1) by omega]
    refine add (f+q.1) (mp.eraseIdx i) (sp++[cs[k]]) (cs.eraseIdx k) R2 (CsK.del S.k S.r) (by simp;omega) (by omega) ?_
    have sv:=S.v
    rw[if_neg (by omega),aUn hk]at sv
    omega
   obtain rfl:j=0:=by omega
   rw[if_neg (by simp),if_neg (by simp)]
   refine add f mp sp cs S.r S.k (by omega) (by omega) ?_
   have sv:=S.v
   rw[if_pos rfl]at sv
   rw[ho]
   omega
  obtain rfl:j=b.Txs.length:=by omega
  rw[if_neg (by simp),if_neg (by simp)]
  exact⟨_,_,rfl,rfl,.inr ⟨_,_,_,_,rfl,rfl,S⟩⟩
theorem aJZ : ∃r s,k7 N p l b=some r∧uF N p l b=some r∧jR N p (l.Height+1)=some s∧(0≤s∧s≤1000)∧(r.2.2=0→(LedK (n+1) r.1∧r.1.Height=l.Height+1)∧eV r.1.Coins≤eV l.Coins+s):=by
 have hh:=L.h
 have hc:=L.c.n
 have hb:=B.t.1
 have hw:a0K.wrap (l.Height+1)=l.Height+1:=cJ (by omega) (by omega)
 obtain⟨s,sa,rs,hS⟩:=aQs hN P (h:=l.Height+1) (by omega)
 unfold k7 uF
 rw[aYu hN P L hn B,hw]
 obtain⟨e,he,_⟩:=aTj hN P L hn B
 rw[he]
 simp only[a0F]
 by_cases h0:e=0
 ·subst h0
  rw[if_neg (by simp),if_neg (by simp),aTd hN P L hn B,aPB N hN b.Header B.h.p.1 B.h.r.1 B.h.p.2 B.h.r.2,rs]
  simp only[a0F,aU (xY N _)]
  have hck0:jW N b=some 0:=by
   obtain⟨ce,hce,_⟩:=aLE hN B
   unfold nM at he
   obtain⟨t,ht,_⟩:=xL hN P
   rw[ht,aPI hN (by omega) L.c.ok]at he
   simp only[a0F]at he
   have j1: ∀t,iE N l b t=some 0→jW N b=some 0:=fun t hj=>by
    unfold iE at hj
    rw[hce]at hj⊢
    split at hj
    ·cases hj
    split at hj
    ·cases hj
    rw[aU B.h.p.1,aU L.t.1]at hj
    simp only[a0F]at hj
    split at hj
    ·cases hj
    split at hj
    ·rename_i hne
     injection hj with hj
     rw[hj]at hne
     exact absurd hne (by decide)
    rename_i hne
    exact congrArg some (by simpa using hne)
   split at he
   ·exact j1 _ he
   exact j1 _ he
  have hcb:=a0f hN P L hn B hck0
  have R0:MapR (l.Coins.map aG3) l.Coins:=⟨fun e he=>by obtain⟨c,_,rfl⟩:=a00.1 he;rfl,by rw[List.map_map,show(Prod.snd∘aG3)=id from rfl,List.map_id]⟩
  obtain⟨x,y,ex,ey,hxy⟩:=aOu hN P L hn B hcb (hs:=dbl N (hdB b.Header)) hS (out0:=lX (b.Txs[0]'B.n).Outputs) rfl N 0 0 _ [] l.Coins (by omega) (by omega) ⟨R0,L.c.up (by omega) (by omega),by simp,by simp,by rw[if_pos rfl]⟩
  rw[show((0:Nat):Int)=0 from rfl]at ex ey
  rw[Int.add_zero]at ey
  unfold rG
  rw[ex,ey]
  simp only[a0F]
  rcases hxy with⟨v,rfl,rfl,hv⟩|⟨f,mp,sp,cs,rfl,rfl,S⟩
  ·exact⟨v,s,rfl,rfl,sa,hS,fun h0=>absurd h0 hv⟩
  have hbn:=B.n
  have T:=B.t.2 _ (a0G B.n)
  have hno:=T.n
  have sf:=S.ff
  have sk:=S.k.n
  have cm: ∀c∈cs,fK c:=fun c hc=>(S.k.c c hc).m
  have vb:=aTT cm
  have ob:=aTp T.o
  have l4:fB N p l b f mp sp b.Txs[0] N 0 0=some (lX b.Txs[0].Outputs):=by
   have:Ok (fB N p l b f mp sp b.Txs[0] N 0 ((0:Nat):Int)) fun r=>r=lX b.Txs[0].Outputs:=by
    refine lp (f:=fun m j s=>fB N p l b f mp sp b.Txs[0] m s (j:Int)) (fun j s=>s+lX (b.Txs[0].Outputs.drop j)=lX b.Txs[0].Outputs∧0≤s∧s≤2000*(j:Int)) b.Txs[0].Outputs.length (fun m j s hj hs ih=> ?_) (fun m s hs=> ?_) N 0 0 (by omega) (by omega) ⟨by rw[a0I];omega,by omega,by omega⟩
    ·have ho:=(T.o _ (a0G hj)).2
     unfold fB
     rw[if_pos (dT hj),i1 (by omega)]
     refine Ok.eq (bA _ hj) ?_
     rw[cJ (by omega) (by omega)]
     refine ih _ ⟨?_,by omega,by omega⟩
     have:=hs.1
     rw[a0H hj]at this
     simp only[lX]at this
     omega
    unfold fB
    rw[if_neg (by simp)]
    have:=hs.1
    rw[a0J (a0S _)]at this
    simp only[lX]at this
    exact Ok.pure (by omega)
   obtain⟨r,e,rfl⟩:=this
   exact e
  show∃r s',mZ N p l b f mp sp=some r∧tZ N l b (dbl N (hdB b.Header)) (s+f) cs sp=some r∧_
  unfold mZ rJ tZ mX
  have hcb0:cV N b.Txs[0]=some true:=hcb 0 B.n
  have om: ∀c∈lL N b.Txs[0] (l.Height+1) true,fK c:=fun c hc=>(aRO hN T hc).1
  rw[show aZ b.Txs 0=some b.Txs[0]from bA (i:=0) _ B.n,hw]
  simp only[a0F]
  rw[aLV hN T hcb0,l4]
  simp only[a0F]
  rw[aOH hN (by unfold lL;rw[aJW];omega) om,sa]
  simp only[a0F]
  unfold lL
  rw[aKD,cJ (a:=s+f) (by omega) (by omega)]
  by_cases hm:s+f<lX b.Txs[0].Outputs
  ·rw[if_pos (decide_eq_true hm),if_pos (decide_eq_true hm)]
   exact⟨_,s,rfl,rfl,rfl,hS,fun h0=>absurd h0 (by decide)⟩
  rw[if_pos (show∀e∈mp,e.2.Output.Script.length≤100000 from fun e he=>by have:=(cm e.2 (S.r.p.mem_iff.1 (List.mem_map_of_mem he))).p.1.len;omega),if_neg (by simpa using hm),if_neg (by simpa using hm),aQS S.k (by omega) S.r.p,aOH hN (by omega) cm]
  simp only[a0F]
  rw[aOb hN (by omega) cm]
  simp only[a0F]
  rw[if_neg (by simp),if_neg (by simp only[decide_eq_true_eq];omega),if_neg (by simp only[decide_eq_true_eq];omega),if_neg (by simp only[decide_eq_true_eq];omega),aTE N hN b.Header B.h.p.1 B.h.r.1 B.h.p.2 B.h.r.2]
  simp only[a0F,aU (xY N _)]
  refine⟨_,s,rfl,rfl,rfl,hS,fun _=>⟨⟨⟨aPP N _,by simp only;omega,S.k.up (a0Y _) (by omega)⟩,rfl⟩, ?_⟩⟩
  have sv:=S.v
  rw[if_neg (by have:=B.n;omega)]at sv
  simp only
  omega
 rw[if_pos (by simpa using h0),if_pos (by simpa using h0)]
 exact⟨_,s,rfl,rfl,sa,hS,fun h=>absurd h h0⟩
end
structure rU (N:Nat)(w:aS):Prop where
 nl:w.Ledgers.length=w.Blocks.length+1
 nu:w.Undos.length=w.Blocks.length
 c: ∀(i:Nat)(b:aO),w.Blocks[i]? =some b→aHl b∧ ∃l l' u,w.Ledgers[i]? =some l∧w.Ledgers[i+1]? =some l'∧w.Undos[i]? =some u∧uF N w.Params l b=some (l',u,0)
 h: ∀(i:Nat)(l:aF),w.Ledgers[i]? =some l→l.Height=(i:Int)
 s: ∃l e,w.Ledgers[0]? =some l∧lK N w.Params=some (l,e)
theorem aMd {α:Type}{l:List α}{a:α}{i:Nat}{x:α}(h:(l++[a])[i]? =some x):l[i]? =some x∨i=l.length∧x=a:=by
 rcases a07 i l.length with hi|hi|hi
 ·rw[a0W hi]at h
  exact .inl h
 ·subst hi
  rw[a0P (a0S _),a1a]at h
  exact .inr ⟨rfl,by simpa using h.symm⟩
 rw[List.getElem?_eq_none (by simp;omega)]at h
 cases h
theorem c7 {α:Type}{l:List α}{a:α}{i:Nat}{x:α}(h:l[i]? =some x):(l++[a])[i]? =some x:=by
 obtain⟨hi,_⟩:=List.getElem?_eq_some_iff.1 h
 rw[a0W hi];exact h
section
variable {N:Nat}(hN:70000≤N)
include hN
theorem aRI {v:Int}(h:0≤v∧v<256):Ok (aEX N v) fun w=>rW 0 w∧rU N w:=by
 have zH:fL (a04 32 (0:Int)):=⟨rfl,fun x hx=>by have:=List.eq_of_mem_replicate hx;omega⟩
 have zc:CsK 0 (8*0) []:=⟨by simp,by simp,a0X⟩
 unfold aEX
 refine Ok.bind (aSv hN h) fun p P=> ?_
 have G:HdK p.Genesis:=⟨P.gp,P.gr,P.gw⟩
 have S:Ok (lK N p) fun r=>LedK 0 r.1∧r.1.Height=0:=by
  unfold lK
  exact Ok.bind (xL hN P) fun t _=>Ok.ite (fun _=>Ok.pure ⟨⟨zH,by simp,zc⟩,rfl⟩) fun _=>Ok.bind (aJi hN G) fun x hx=>Ok.eq (aU hx.1) (Ok.pure ⟨⟨hx,by simp,zc⟩,rfl⟩)
 obtain⟨l,el,L,hl⟩:=S
 refine Ok.eq el (Ok.bind (P:=fun r=>CtxJ 0 r.1) ?_ fun c C=>Ok.pure ⟨⟨P,by simp,by simp,by simp,fun x hx=> ?_,by simp,fun x hx=> ?_⟩,⟨rfl,rfl,fun i b hb=>by simp at hb,fun i l' h'=> ?_,_,_,rfl,el⟩⟩)
 ·unfold aHp
  exact Ok.bind (xL hN P) fun t _=>Ok.ite (fun _=>Ok.pure ⟨zH,w0,by simp,by simp⟩) fun _=>Ok.bind (aJi hN G) fun x hx=>Ok.eq (aU hx.1) (Ok.pure ⟨hx,P.gw,by simp,by simp⟩)
 ·obtain rfl:=a0L.1 hx;exact L
 ·obtain rfl:=a0L.1 hx;exact C
 rcases aMd (l:=[]) h' with h'|⟨rfl,rfl⟩
 ·cases h'
 exact hl
theorem aTr {w:aS}(W:rW 0 w∧rU N w){l:List Int}(hl:l.length≤8)(hs:Byt l):Ok (aDL N w l) fun w=>rW l.length w∧rU N w:=by
 have wb:=W.1.b
 have wu:=W.1.u
 have wl:=W.1.ln
 have wc:=W.1.cn
 unfold aDL
 refine Ok.eq (d8 (by omega) (by simp;omega)) (Ok.eq (d8 (by omega) (by simp;omega)) (Ok.eq (d8 (by omega) (by simp;omega)) (Ok.eq (d8 (by omega) (by simp;omega)) ?_)))
 refine Ok.bind (P:=fun s=>rW l.length (aS.mk w.Params s.1 s.2.1 s.2.2.1 s.2.2.2)∧rU N (aS.mk w.Params s.1 s.2.1 s.2.2.1 s.2.2.2)) ?_ fun s hs=>Ok.pure hs
 simp only[a02]
 have:=lp (f:=fun m j (s:List aO×List aF×List aV×List bC)=>gX N w l m (j:Int) s.1 s.2.1 s.2.2.1 s.2.2.2) (Q:=fun s=>rW l.length (aS.mk w.Params s.1 s.2.1 s.2.2.1 s.2.2.2)∧rU N (aS.mk w.Params s.1 s.2.1 s.2.2.1 s.2.2.2))
  (fun j s=>rW j (aS.mk w.Params s.1 s.2.1 s.2.2.1 s.2.2.2)∧rU N (aS.mk w.Params s.1 s.2.1 s.2.2.1 s.2.2.2)) l.length (fun m j s hj hs' ih=> ?_) (fun m s hs'=> ?_) N 0 (w.Blocks,w.Ledgers,w.Contexts,w.Undos) (by omega) (by omega) W
 ·exact this
 ·obtain⟨l2,l3,l4,l5⟩:=s
  obtain⟨⟨P,b,u,ln,lk,cn,ck⟩,C0⟩:rW j (aS.mk w.Params l2 l3 l4 l5)∧rU N (aS.mk w.Params l2 l3 l4 l5):=hs'
  have hnl:=C0.nl
  have hnu:=C0.nu
  simp only at P b u ln lk cn ck hnl hnu
  unfold gX
  rw[if_pos (dT hj),cJ (a:=(l3.length:Int)-1) (by omega) (by omega),cJ (a:=(l4.length:Int)-1) (by omega) (by omega),show(l3.length:Int)-1=((l3.length-1:Nat):Int) by omega,show(l4.length:Int)-1=((l4.length-1:Nat):Int) by omega]
  have L:=lk _ (a0G (show l3.length-1<l3.length by omega))
  have C:=ck _ (a0G (show l4.length-1<l4.length by omega))
  refine Ok.eq (bA _ hj) (Ok.eq (bA _ (show l3.length-1<l3.length by omega)) (Ok.eq (bA _ (show l4.length-1<l4.length by omega)) ?_))
  have ge:l3[l2.length]? =some l3[l3.length-1]:=by
   rw[a0M (show l2.length<l3.length by omega)]
   congr 2
   omega
  generalize l3[l3.length-1]=at_ at L ge
  generalize l4[l4.length-1]=c at C
  refine Ok.bind (aSX hN P (L.m (by omega)) (C.k (by omega)) (hs _ (a0G hj))) fun b' B=> ?_
  obtain⟨r,_,_,er,_,_,hr⟩:=aJZ hN P L (by omega) B
  refine Ok.eq er ?_
  have j4: ∀t:Bool,(t=false→r.2.2=0)→Ok (sK N w l (j:Int) l2 l3 l4 l5 c b' r (gX N w l m) t) fun s=>rW l.length (aS.mk w.Params s.1 s.2.1 s.2.2.1 s.2.2.2)∧rU N (aS.mk w.Params s.1 s.2.1 s.2.2.1 s.2.2.2):=by
   intro t ht
   unfold sK v7
   rw[i1 (by omega)]
   refine Ok.ite (fun _=>ih (l2,l3,l4,l5) ⟨⟨P,by simp only;omega,by simp only;omega,by simp only;omega,fun x hx=>(lk x hx).up (by omega),by simp only;omega,fun x hx=>(ck x hx).up (by omega)⟩,C0⟩) fun hf=> ?_
   have r0:=ht (by cases t;rfl;exact absurd rfl hf)
   obtain⟨⟨L2,hL2⟩,_⟩:=hr r0
   refine Ok.bind (aRG hN P C (by omega) B.h) fun a A=>Ok.eq (d8 (by omega) (by simp;omega)) (Ok.eq (d8 (by omega) (by simp;omega)) (Ok.eq (d8 (by omega) (by simp;omega)) (Ok.eq (d8 (by omega) (by simp;omega)) ?_)))
   refine ih (_,_,_,_) ⟨⟨P,by simp;omega,by simp;omega,by simp;omega,fun x hx=> ?_,by simp;omega,fun x hx=> ?_⟩,⟨by simp;omega,by simp;omega,fun i b hb=> ?_,fun i l' h'=> ?_, ?_⟩⟩
   ·rcases a01.1 hx with hx|hx
    ·exact(lk x hx).up (by omega)
    obtain rfl:=a0L.1 hx;exact L2
   ·rcases a01.1 hx with hx|hx
    ·exact(ck x hx).up (by omega)
    obtain rfl:=a0L.1 hx;exact A
   ·rcases aMd hb with hb|⟨rfl,rfl⟩
    ·obtain⟨h1,x,y,z,h2,h3,h4,h5⟩:=C0.c i b hb
     exact⟨h1,x,y,z,c7 h2,c7 h3,c7 h4,h5⟩
    refine⟨B,at_,r.1,r.2.1,c7 ge, ?_, ?_, ?_⟩
    ·simp only
     rw[←hnl,a0P (a0S _),a1a];rfl
    ·simp only
     rw[←hnu,a0P (a0S _),a1a];rfl
    simp only
    rw[er,←r0]
   ·rcases aMd h' with h'|⟨rfl,rfl⟩
    ·exact C0.h i l' h'
    have:=C0.h _ _ ge
    rw[hL2,this,hnl]
    omega
   obtain⟨x,e,h1,h2⟩:=C0.s
   exact⟨x,e,c7 h1,h2⟩
  exact Ok.ite (fun _=>j4 _ (by simp)) fun hne=>Ok.bind (aRg hN P C (by omega) B.h) fun e _=>j4 _ (fun _=>by simpa using hne)
 unfold gX
 rw[if_neg (by simp)]
 exact Ok.pure hs'
theorem aWK {v:Int}(h:0≤v∧v<256){mG:List Int}(hs:Byt mG):Ok (aDo N v mG) fun w=> ∃j,j≤8∧rW j w∧rU N w:=by
 unfold aDo
 obtain⟨k,hk,h8,e⟩: ∃k:Nat,k≤mG.length∧k≤8∧(if(8:Int)<(mG.length:Int)then 8 else(mG.length:Int))=(k:Int):=by
  by_cases h8:8<mG.length
  ·exact⟨8,by omega,by omega,by rw[if_pos (by omega)];rfl⟩
  exact⟨mG.length,by omega,by omega,by rw[if_neg (by omega)]⟩
 refine Ok.bind (P:=fun s=>s.length≤8∧Byt s) ?_ fun s hs'=> ?_
 ·unfold aKm
  rw[e]
  refine Ok.eq (aHq (a:=0) (Nat.zero_le k) hk) (Ok.pure ⟨by simp;omega,fun x hx=> ?_⟩)
  rw[a0I]at hx
  exact hs x (List.mem_of_mem_take hx)
 refine Ok.bind (P:=fun w=> ∃j,j≤8∧rW j w∧rU N w) ?_ fun w hw=>Ok.pure hw
 unfold qV
 exact Ok.bind (aRI hN h) fun w W=>Ok.bind (aTr hN W hs'.1 hs'.2) fun w' W'=>Ok.pure ⟨_,hs'.1,W'⟩
theorem aR2 {p:aI}(P:PK p):r8 N p=lK N p:=by
 unfold r8 lK
 rw[aQ5 hN P,aMR hN P,aTE N hN p.Genesis P.gp.1 P.gr.1 P.gp.2 P.gr.2,aPB N hN p.Genesis P.gp.1 P.gr.1 P.gp.2 P.gr.2]
theorem aXK {l:List aA}(hl:l.length≤1000)(hc: ∀c∈l,fK c):jQ N l=some (eV l):=by
 unfold jQ
 rw[if_neg (by simp only[decide_eq_true_eq];omega),aOb hN hl hc]
 rfl
theorem aM9 {w:aS}{j:Nat}(hj:j≤8)(W:rW j w)(C:rU N w): ∀(m i:Nat)(most:Int)(l:aF),w.Blocks.length-i<m→i≤w.Blocks.length→w.Ledgers[i]? =some l→eV l.Coins≤most→(0≤most∧most≤1000*(i:Int))→nK N w m most (i:Int) l.Height l.Tip l.Coins=some ()
 |0,i,_,_,h,_,_,_,_=>by omega
 |m+1,i,most,l,hm,hi,hl,hv,hb=>by
  have wb:=W.b
  rw[nK]
  by_cases h:i<w.Blocks.length
  ·obtain⟨B,l1,l',u,g1,g2,g3,e⟩:=C.c i _ (a0M h)
   rw[hl]at g1
   injection g1 with g1
   subst g1
   have L:=W.l _ (a0T hl)
   have L':=W.l _ (a0T g2)
   have hh:=C.h i l hl
   obtain⟨r,s,a1,a2,a3,a4,a5⟩:=aJZ hN W.p L (by omega) B
   rw[e]at a2
   injection a2 with a2
   subst a2
   have v1:=(a5 rfl).2
   have lc:=L.c.n
   have lc':=L'.c.n
   have b1:=aXK hN (l:=l.Coins) (by omega) fun c hc=>(L.c.c c hc).m
   have b2:=aXK hN (l:=l'.Coins) (by omega) fun c hc=>(L'.c.c c hc).m
   have p1:=aTT (cs:=l.Coins) fun c hc=>(L.c.c c hc).m
   simp only at v1
   rw[if_pos (dT h),bA _ h]
   simp only[a0F]
   rw[show aF.mk l.Height l.Tip l.Coins=l from rfl,a1]
   simp only[a0F]
   rw[if_neg (by simp),cJ (a:=(i:Int)+1) (by omega) (by omega),←hh,a3]
   simp only[a0F]
   rw[b2]
   simp only[a0F]
   rw[cJ (a:=most+s) (by omega) (by omega),if_neg (by simp only[decide_eq_true_eq];omega),b1]
   simp only[a0F]
   rw[cJ (a:=eV l.Coins+s) (by omega) (by omega),show decide (eV l.Coins+s<eV l'.Coins)=false from decide_eq_false (by omega)]
   rw[if_neg (by simp),hh,show(i:Int)+1=((i+1:Nat):Int) by omega]
   exact aM9 hj W C m (i+1) (most+s) l' (by omega) (by omega) g2 (by omega) (by omega)
  rw[if_neg (by simp;omega)]
theorem aMe {v:Int}{mG:List Int}(hs:xQ N=some true)(hv:0≤v∧v<256)(hb:Byt mG):rS N v mG=some true:=by
 obtain⟨w,e,j,hj,W,C⟩:=aWK hN hv hb
 unfold rS
 rw[hs]
 simp only[a0F]
 rw[if_neg (by simp),e]
 simp only[a0F]
 obtain⟨l,er,h1,h2⟩:=C.s
 rw[aR2 hN W.p,h2]
 simp only[a0F]
 have L:=W.l _ (a0T h1)
 have h0:=C.h 0 l h1
 have l0:eV l.Coins≤0:=by
  have hc: ∀c∈l.Coins,False:=fun c hc=>by
   have:=(L.c.c c hc).h
   rw[h0]at this
   omega
  cases hl:l.Coins with
  |nil=>exact a0Y _
  |cons c cs=>exact(hc c (by rw[hl];simp)).elim
 have lo:=aM9 hN hj W C N 0 0 l (by have:=W.b;omega) (by omega) h1 l0 (by simp)
 rw[show((0:Nat):Int)=0 from rfl]at lo
 rw[lo]
 show nF N w=_
 unfold nF
 obtain⟨s,sa,_,hS⟩:=aQs hN W.p (h:=1) (by omega)
 rw[sa,W.p.sub]
 simp only[a0F]
 rw[decide_eq_true hS.2]
end
end Go.Proofs.YtopdhljncajmpaaGreatDoor
set_option maxRecDepth 100000
namespace Go.Proofs.YtopdhljncajmpaaGreatDoor
open Go Go.Vm
theorem aZc {N m:Nat}{p:aI}{b:aO}{l l':aF}{u:bC}(hs:r8 N p=some (l,0))(hc:k7 N p l b=some (l',u,0))(hm:N=m+1+1):y5 N p [b]=some (l',[u],1,0):=by
 unfold y5
 rw[hs]
 have:uD N p [b] (m+1+1) 0 l.Height l.Tip l.Coins []=some (l'.Height,l'.Tip,l'.Coins,[u]):=by
  rw[uD,if_pos (by rfl),show aZ [b] 0=some b from rfl]
  simp only[a0F]
  rw[show aF.mk l.Height l.Tip l.Coins=l from rfl,hc]
  simp only[a0F]
  rw[if_neg (by simp),d8 (by simp) (by simp)]
  simp only[a0F]
  rw[uD,if_neg (by simp[IntKind.wrap,IntKind.bits,IntKind.signed])]
  rfl
 simp only[a0F]
 rw[if_neg (by simp),←hm]at *
 rw[this]
 rfl
theorem aY7 {N m:Nat}{p:aI}{b:aO}{l l':aF}{u:bC}{cx:List aV}(hN:70000≤N)(hm:N=m+1+1)(W:rW 1 ⟨p,[b],[l,l'],cx,[u]⟩)(C:rU N ⟨p,[b],[l,l'],cx,[u]⟩)(h0:(lK N p).map (·.2)=some 0):y5 N p [b]=some (l',[u],1,0):=by
 obtain⟨l0,e,h1,h2⟩:=C.s
 obtain rfl:l=l0:=a0N h1
 rw[h2]at h0
 obtain rfl:e=0:=a0N h0
 obtain⟨B,l1,l2,u1,h1,h3,h4,h5⟩:=C.c 0 b rfl
 obtain rfl:l=l1:=a0N h1
 obtain rfl:l'=l2:=a0N h3
 obtain rfl:u=u1:=a0N h4
 obtain⟨r,_,e1,e2,_⟩:=aJZ hN W.p (W.l l (by simp)) (by decide) B
 rw[h5]at e2
 obtain rfl:=a0N e2
 exact aZc ((aR2 hN W.p).trans h2) e1 hm
theorem aWX {N:Nat}{w:aS}{l:aF}{us:List bC}{cs:List aA}(h1:qV N 0 [0]=some w)(h2:y5 N w.Params w.Blocks=some (l,us,1,0))(h3:((nN N 0).bind fun x20=>aGT N l [x20])=some cs)
  (h4:(if(0:Int) == 0 then if(1:Int) == 1 then if(us.length:Int) == 1 then if(cs.length:Int) == 1 then(aZ cs 0).bind fun x41=>if x41.Coinbase then(jQ N cs).bind fun x47=>some (x47 == 1000)else none else none else none else none else none)=some true):xQ N=some true:=by
 unfold xQ
 rw[h1]
 simp only[a0F]
 rw[h2]
 simp only[a0F]
 obtain⟨x,e,h3⟩:=Option.bind_eq_some_iff.1 h3
 rw[e]
 simp only[a0F]
 rw[h3]
 exact h4
theorem aTI :xQ 70000=some true:=by
 have⟨w,e,W,C⟩:Ok (qV 70000 0 [0]) fun w=>rW 1 w∧rU 70000 w:=by
  unfold qV
  exact Ok.bind (aRI (by decide) (by decide)) fun w W=>Ok.bind (aTr (by decide) W (by decide) (by intro x hx;simp at hx;omega)) fun w' W'=>Ok.pure W'
 obtain rfl:ww=w:=a0N (aWq.symm.trans e)
 exact aWX e (aY7 (a0S _) (m:=69998) rfl W C aZR) a0i aZo
end Go.Proofs.YtopdhljncajmpaaGreatDoor
