/- Texts of ours, joined: PlainD1, PlainD2, PlainD3, PlainD4, PlainD5, PlainD6, PlainD7, PlainD8, PlainD9, PlainDA, PlainDB, PlainDC. -/
import Derived.Test.YtopdhljncajmpaaGreatDoorQLedgerDisconnects6
open Option renaming bind_some → a1a,bind_eq_some_iff → a1e,any_some → a1R,isSome_none → a2b,map_some → a2r
open List renaming getElem?_eq_getElem → a1b,getElem_mem → a1c,mem_singleton → a1g,any_eq_false → a1h,pairwise_iff_getElem → a1i,mem_of_getElem? → a1k,getElem?_eq_some_iff → a1l,take_succ_eq_append_getElem → a1m,range → a1o,mem_append → a1p,append_assoc → a1q,any_eq_true → a1r,getElem?_eq_none → a1s,mem_range → a1t,mem_take_iff_getElem → a1u,drop_eq_getElem_cons → a1v,filter_eq_self → a1w,find?_cons → a1x,append_nil → a1y,findIdx?_eq_some_iff_getElem → a1z,take_of_length_le → a1A,eraseIdx_eq_take_drop_succ → a1B,take_append_drop → a1E,length_singleton → a1F,take_length → a1H,length_take → a1I,pairwise_append → a1J,mem_of_mem_drop → a1K,mem_of_mem_take → a1L,getElem_of_mem → a1Q,mem_map → a1S,findIdx?_eq_none_iff → a1V,replicate → a1W,drop_zero → a1X,filter_cons_of_neg → a10,map_append → a11,length_map → a12,set_getElem_self → a13,length_filter_le → a14,length_set → a15,mem_append_left → a16,take_zero → a17,mem_cons → a19,mem_cons_self → a2a,filter_append → a2c,any_cons → a2d,getElem?_map → a2f,getElem_map → a2j,length_drop → a2l,range'_succ → a2m,filter_nil → a2n,mem_filter → a2p,any_append → a2q,nil_append → a2t
open Bool renaming false_eq_true → a1d,eq_false_iff → a1f,and_eq_true → a1j,or_eq_false_iff → a1n,not_eq_true' → a1C,not_false → a1D,not_true → a1M,false_or → a1N,true_and → a1O,not_eq_false' → a1U,true_or → a2h,not_eq_true → a2k,eq_iff_iff → a2o,or_eq_true → a2s
open List.Pairwise renaming sublist → a1G,nil → a2e
open Go.IntKind renaming i64 → a1P
open Int renaming zero_add → a1T,toNat_natCast → a2g
open Nat renaming le_succ_of_le → a1Y,le_refl → a1Z,zero_le → a18,le_trans → a2i,mod_lt → a2u
set_option linter.unusedSimpArgs false
set_option linter.unusedVariables false
set_option linter.unusedSectionVars false
set_option maxRecDepth 4000
namespace Go.Proofs.YtopdhljncajmpaaGreatDoor
open Go Go.Vm
def smC (a b:aA):Bool:=fR a.Out.Tx b.Out.Tx ((a.Out.Index == b.Out.Index)&&true)&&((a.Output.Value == b.Output.Value)&&(((gM a.Output.Script).toList == (gM b.Output.Script).toList)&&((a.Height == b.Height)&&(a.Coinbase == b.Coinbase))))
theorem aV5 {N:Nat}(a b:aA):rT N a b=some (smC a b):=by
 unfold rT lX aHL smC
 simp only[a1a]
 generalize fR a.Out.Tx b.Out.Tx ((a.Out.Index == b.Out.Index)&&true)=x
 generalize (a.Output.Value == b.Output.Value)=y
 generalize ((gM a.Output.Script).toList == (gM b.Output.Script).toList)=z
 generalize (a.Height == b.Height)=w
 cases x<;>cases y<;>cases z<;>cases w<;>rfl
theorem aSC {N:Nat}(a b:aA):oL N a b=some (smC a b):=by
 unfold oL k8 aEF uH y6 smC
 simp only[a1a]
 generalize fR a.Out.Tx b.Out.Tx ((a.Out.Index == b.Out.Index)&&true)=x
 generalize (a.Output.Value == b.Output.Value)=y
 generalize ((gM a.Output.Script).toList == (gM b.Output.Script).toList)=z
 generalize (a.Height == b.Height)=w
 cases x<;>cases y<;>cases z<;>cases w<;>rfl
theorem aPS {a b:aA}(ha:a.Out.Tx.length=32)(hb:b.Out.Tx.length=32):smC a b=smC b a:=by
 unfold smC
 rw[eqP ha hb,eqP hb ha,oI b.Out a.Out]
 simp only[Int.neg_eq_zero,BEq.comm (a:=a.Output.Value),BEq.comm (a:=(gM a.Output.Script).toList),BEq.comm (a:=a.Height),BEq.comm (a:=a.Coinbase)]
theorem aVC {a:aA}(ha:a.Out.Tx.length=32):smC a a=true:=by
 unfold smC
 rw[eqP ha ha,qU]
 simp
def isO (o:aB)(c:aA):Bool:=decide (cQ c.Out o=0)
def fC (o:aB)(l:List aA):Option aA:=l.find? (isO o)
theorem aDt {o:aB}{c:aA}(ho:fE o)(hc:fE c.Out):isO o c=true↔c.Out=o:=by
 unfold isO
 rw[decide_eq_true_iff]
 exact⟨fun h=>mQ hc.1 ho.1 h,fun h=>by rw[h];exact qU _⟩
theorem aFC {o:aB}{l:List aA}{c:aA}(ho:fE o)(hl: ∀d∈l,fE d.Out)(h:fC o l=some c):c∈l∧c.Out=o:=by
 have hm:=List.mem_of_find?_eq_some h
 exact⟨hm,(aDt ho (hl c hm)).1 (List.find?_some h)⟩
theorem aIk {o:aB}{l:List aA}(ho:fE o)(hl: ∀d∈l,fE d.Out):fC o l=none↔ ∀d∈l,d.Out≠o:=by
 unfold fC
 rw[List.find?_eq_none]
 exact⟨fun h d hd e=>h d hd ((aDt ho (hl d hd)).2 e),fun h d hd e=>h d hd ((aDt ho (hl d hd)).1 e)⟩
def Dis (l:List aA):Prop:=l.Pairwise fun a b=>a.Out≠b.Out
theorem Dis.uniq {l:List aA}(h:Dis l){a b:aA}(ha:a∈l)(hb:b∈l)(e:a.Out=b.Out):a=b:=by
 induction l with
 |nil=>cases ha
 |cons c l ih=>
  obtain⟨h1,h2⟩:=List.pairwise_cons.1 h
  rcases a19.1 ha with ea|ha'<;>rcases a19.1 hb with eb|hb'
  ·rw[ea,eb]
  ·exact absurd (ea▸e) (h1 b hb')
  ·exact absurd (eb▸e).symm (h1 a ha')
  exact ih h2 ha' hb'
theorem aQT {o:aB}{l:List aA}{c:aA}(ho:fE o)(hl: ∀d∈l,fE d.Out)(hd:Dis l)(hc:c∈l)(e:c.Out=o):fC o l=some c:=by
 cases h:fC o l with
 |none=>exact absurd e ((aIk ho hl).1 h c hc)
 |some d=>
  obtain⟨h1,h2⟩:=aFC ho hl h
  rw[hd.uniq h1 hc (h2.trans e.symm)]
theorem Srt.dis {l:List aA}(h:Srt l):Dis l:=List.Pairwise.imp (fun{a b} h e=>by rw[e,qU]at h;exact absurd h (by decide)) h
theorem aLa (o:aB): ∀(l:List aA)(j:Int),(fC o l=none∧fI o j l= -1)∨ ∃(k:Nat)(hk:k<l.length),fC o l=some l[k]∧fI o j l=j+k
 | [],j=> .inl ⟨rfl,rfl⟩
 |c::l,j=>by
  unfold fC fI
  rw[a1x]
  by_cases h:cQ c.Out o=0
  ·rw[show isO o c=true from decide_eq_true h,if_pos h]
   exact .inr ⟨0,by simp,rfl,by omega⟩
  rw[show isO o c=false from decide_eq_false h,if_neg h]
  rcases aLa o l (j+1)with⟨h1,h2⟩|⟨k,hk,h1,h2⟩
  ·exact .inl ⟨h1,h2⟩
  exact .inr ⟨k+1,by simpa using hk,by simpa[fC]using h1,by rw[h2];omega⟩
theorem aMU {o:aB}(ho:o.Tx.length=32): ∀{l:List aA},(∀d∈l,fE d.Out)→(fC o l=none∧lI r8 (l.map jE) o=none)∨ ∃(k:Nat)(hk:k<l.length),fC o l=some l[k]∧lI r8 (l.map jE) o=some k
 | [],_=> .inl ⟨rfl,rfl⟩
 |c::l,hl=>by
  have hq:r8 o (jE c).1=isO o c:=by
   show kH o c.Out=_
   rw[aMl ho (hl c (by simp)).1,aMy];rfl
  have ih:=aMU ho (l:=l) fun d hd=>hl d (by simp[hd])
  unfold lI fC at *
  simp only[List.map_cons,List.findIdx?_cons,hq,a1x]
  cases isO o c with
  |true=>exact .inr ⟨0,by simp,rfl,rfl⟩
  |false=>
   rcases ih with⟨h1,h2⟩|⟨k,hk,h1,h2⟩
   ·exact .inl ⟨h1,by simp only[a1d,if_false,h2];rfl⟩
   exact .inr ⟨k+1,by simpa using hk,by simpa using h1,by simp only[a1d,if_false,h2];rfl⟩
theorem aWK {o:aB}(ho:o.Tx.length=32){l:List aA}(hl: ∀d∈l,fE d.Out):aEl r8 (l.map jE) o=(fC o l).isSome:=by
 unfold aEl
 rcases aMU ho hl with⟨h1,h2⟩|⟨k,hk,h1,h2⟩<;>rw[h1,h2]<;>rfl
theorem aZU {o:aB}(ho:o.Tx.length=32){l:List aA}(hl: ∀d∈l,fE d.Out)(z:aA):mR r8 (l.map jE) o z=(fC o l).getD z:=by
 unfold mR
 rcases aMU ho hl with⟨h1,h2⟩|⟨k,hk,h1,h2⟩
 ·rw[h1,h2];rfl
 rw[h1,h2];simp[hk,jE]
theorem aZV {c:aA}(ho:c.Out.Tx.length=32){l:List aA}(hl: ∀d∈l,fE d.Out)(h:fC c.Out l=none):uG r8 (l.map jE) c.Out c=(l++[c]).map jE:=by
 unfold uG
 rcases aMU ho hl with⟨h1,h2⟩|⟨k,hk,h1,h2⟩
 ·rw[h2,a11];rfl
 rw[h]at h1;cases h1
theorem aWD {N:Nat}{b:aH}: ∀(m:Nat)(j v:Int),c8 N b m j=some (.ret v)→v≠0
 |0,_,_,h=>by cases h
 |m+1,j,v,h=>by
  unfold c8 at h
  split at h
  ·obtain⟨t,_,h⟩:=a1e.1 h
   obtain⟨x,_,h⟩:=a1e.1 h
   split at h
   ·cases h;decide
   exact aWD m _ v h
  cases h
theorem aV1 {N:Nat}{b:aH}: ∀(m:Nat)(j v:Int),gR N b m j=some (.ret v)→v≠0
 |0,_,_,h=>by cases h
 |m+1,j,v,h=>by
  unfold gR at h
  split at h
  ·obtain⟨t,_,h⟩:=a1e.1 h
   obtain⟨x,_,h⟩:=a1e.1 h
   split at h
   ·rename_i hx
    cases h
    exact bne_iff_ne.1 hx
   exact aV1 m _ v h
  cases h
theorem aTQ {id:List Int}: ∀{l:List (List Int)}{j:Nat},¬0≤u0 id j l→ ∀x∈l,x≠id
 | [],_,_,x,hx=>by cases hx
 |y::l,j,h,x,hx=>by
  unfold u0 at h
  split at h
  ·omega
  rename_i hy
  rcases a19.1 hx with rfl|hx
  ·exact hy
  exact aTQ h x hx
structure Chk (N:Nat)(b:aH):Prop where
 i: ∀j<b.Txs.length,c1 N b.Txs j=false
 t: ∀j<b.Txs.length,c3 b.Txs j=false
theorem aHf {c:Nat→Bool}{n:Nat}(h:(a1o n).any c=false): ∀j<n,c j=false:=fun j hj=>by
 rw[a1h]at h
 simpa using h j (a1t.2 hj)
section
variable {N:Nat}(hN:70000≤N){b:aH}(B:sX b)
include hN B
theorem chk (h:fF N b=some 0):Chk N b:=by
 unfold fF at h
 obtain⟨x,_,h⟩:=a1e.1 h
 split at h
 ·cases h
 split at h
 ·cases h
 obtain⟨q,hq,h⟩:=a1e.1 h
 cases q with
 |ret v=>injection h with h;exact absurd h (aWD _ _ _ hq)
 |brk _=>
  unfold oJ at h
  obtain⟨q,hq,h⟩:=a1e.1 h
  cases q with
  |ret v=>injection h with h;exact absurd h (aV1 _ _ _ hq)
  |brk _=>
   simp only at h
   unfold mB at h
   rw[aY2 hN B]at h
   cases ha:(a1o b.Txs.length).any (c1 N b.Txs) with
   |true=>rw[ha]at h;cases h
   |false=>
    rw[ha]at h
    simp only[a1d,if_false,a1a]at h
    unfold oY at h
    rw[aDk (yT _ _),aZt hN B,aYE hN B]at h
    simp only[a1a]at h
    split at h
    ·cases h
    split at h
    ·cases h
    rename_i ht
    exact⟨aHf ha,aHf (by simpa using ht)⟩
end
def fL (N:Nat)(h:Int)(txs:List aD):Nat→List aA
 |0=>[]
 |j+1=>fL N h txs j++(match txs[j]? with
  |some t=>sA N t h ((j:Int) == 0)
  |none=>[])
theorem yS {N:Nat}{h:Int}{txs:List aD}{j:Nat}(hj:j<txs.length):fL N h txs (j+1)=fL N h txs j++sA N txs[j] h ((j:Int) == 0):=by
 rw[fL,a1b hj]
theorem aKN {N:Nat}{h:Int}{txs:List aD}{c:aA}: ∀{j:Nat},c∈fL N h txs j→ ∃(i:Nat)(hi:i<txs.length),i<j∧c∈sA N txs[i] h ((i:Int) == 0)
 |0,hc=>by cases hc
 |j+1,hc=>by
  rw[fL]at hc
  rcases a1p.1 hc with hc|hc
  ·obtain⟨i,hi,h1,h2⟩:=aKN hc
   exact⟨i,hi,by omega,h2⟩
  by_cases hj:j<txs.length
  ·rw[a1b hj]at hc
   exact⟨j,hj,by omega,hc⟩
  rw[a1s (by omega)]at hc
  cases hc
section
variable {N:Nat}(hN:70000≤N){b:aH}(B:sX b){h:Int}
include hN B
theorem aW5 {j:Nat}: ∀c∈fL N h b.Txs j,CoinM c∧c.Height=h:=fun c hc=>by
 obtain⟨i,hi,_,h2⟩:=aKN hc
 exact aXb hN (B.t.2 _ (a1c hi)) h2
theorem aIs {j:Nat}: ∀c∈fL N h b.Txs j,fE c.Out:=fun c hc=>(aW5 hN B c hc).1.o
theorem aKj : ∀j,(fL N h b.Txs j).length≤2*j
 |0=>a1Z _
 |j+1=>by
  have ih:=aKj j
  rw[fL,List.length_append]
  by_cases hj:j<b.Txs.length
  ·rw[a1b hj]
   simp only[sA,aDT]
   have:=(B.t.2 _ (a1c hj)).n
   omega
  rw[a1s (by omega)]
  simp only[List.length_nil];omega
theorem aD1 (C:Chk N b): ∀j,Dis (fL N h b.Txs j)
 |0=>a2e
 |j+1=>by
  by_cases hj:j<b.Txs.length
  ·rw[yS hj]
   refine a1J.2 ⟨aD1 C j,aRc _ _,fun c hc d hd e=> ?_⟩
   obtain⟨i,hi,hij,hc'⟩:=aKN hc
   have k:=C.i j hj
   unfold c1 at k
   rw[a1b hj]at k
   refine aTQ (of_decide_eq_false k) (dig N b.Txs[i] false) (a1S.2 ⟨b.Txs[i], ?_,rfl⟩) ?_
   ·rw[a1u]
    exact⟨i,by omega,rfl⟩
   rw[←(aD6 _ _ hc').1,←(aD6 _ _ hd).1,e]
  rw[fL,a1s (by omega),a1y]
  exact aD1 C j
theorem aXT (C:Chk N b):(b.Txs.map pv).Pairwise fun x y=>x≠y:=by
 rw[a1i]
 intro i j hi hj hij e
 rw[a12]at hi hj
 rw[a2j,a2j]at e
 have k:=C.t j hj
 unfold c3 at k
 rw[a1b hj]at k
 simp only[a1h,a1S]at k
 refine k (pv b.Txs[i]) ⟨b.Txs[i], ?_,rfl⟩ ?_
 ·rw[a1u]
  exact⟨i,by omega,rfl⟩
 rw[←e]
 exact decide_eq_true (qU _)
end
theorem aT9 {N:Nat}{c:aA}(C:mI c):iL N c=some c:=by
 unfold iL dQ
 rw[dG (by omega) (by have:=C.p.len;simp;omega)]
 rfl
section
variable {N:Nat}(hN:70000≤N){b:aH}(B:sX b){l:aC}{u:aM}
include hN
theorem dL8 {x:Int}{A os:List aA}(hos:os.length≤1000)(ho: ∀c∈A++os,fE c.Out)(hd:Dis (A++os)): ∀(m j:Nat),os.length-j<m→j≤os.length→
  iT N l b u x os m (j:Int) ((A++os.take j).map jE)=some ((A++os).map jE)
 |0,j,h,_=>by omega
 |m+1,j,hm,hj=>by
  rw[iT]
  by_cases h':j<os.length
  ·have hs:A++os=A++os.take j++os.drop j:=by rw[a1q,a1E]
   have hsub: ∀c∈A++os.take j,fE c.Out:=fun c hc=>ho c (by rw[hs];exact a16 _ hc)
   have hc:os[j]∈os.drop j:=by rw[a1v h'];exact a2a
   have oc:fE os[j].Out:=ho _ (by simp)
   rw[if_pos (dT h'),aY _ h']
   simp only[a1a,i1 (show j≤100000 by omega)]
   rw[aZV oc.1 hsub,a1q,List.take_append_getElem h']
   ·exact dL8 hos ho hd m (j+1) (by omega) (by omega)
   refine(aIk oc hsub).2 fun d hd' e=> ?_
   rw[hs]at hd
   exact(a1J.1 hd).2.2 d hd' _ hc e
  rw[if_neg (by simp;omega),a1A (by omega)]
include B
theorem dL6 (C:Chk N b): ∀(m j:Nat),b.Txs.length-j<m→j≤b.Txs.length→
  fB N l b u m (j:Int) ((fL N l.Height b.Txs j).map jE)=some ((fL N l.Height b.Txs b.Txs.length).map jE)
 |0,j,h,_=>by omega
 |m+1,j,hm,hj=>by
  have hb:=B.t.1
  rw[fB]
  by_cases h':j<b.Txs.length
  ·have T:=B.t.2 _ (a1c h')
   rw[if_pos (dT h'),aY _ h']
   simp only[a1a]
   rw[aUv hN T]
   simp only[a1a]
   have hd:=aD1 hN B (h:=l.Height) C (j+1)
   have ho:=aIs hN B (h:=l.Height) (j:=j+1)
   rw[yS h']at hd ho
   have hl:(sA N b.Txs[j] l.Height ((j:Int) == 0)).length≤2:=by rw[sA,aDT];exact T.n
   have:=dL8 hN (b:=b) (l:=l) (u:=u) (x:=(j:Int)) (by omega) ho hd N 0 (by omega) (by omega)
   rw[a17,a1y,show((0:Nat):Int)=0 from rfl]at this
   rw[this]
   simp only[a1a,n5,i1 (show j≤100000 by omega)]
   rw[←yS h']
   exact dL6 C m (j+1) (by omega) (by omega)
  obtain rfl:j=b.Txs.length:=by omega
  rw[if_neg (by simp)]
theorem a0a (C:Chk N b):fB N l b u N 0 []=some ((fL N l.Height b.Txs b.Txs.length).map jE):=by
 have:=dL6 hN B (l:=l) (u:=u) C N 0 (by have:=B.t.1;omega) (by omega)
 exact this
end
def aKu (S:List aB)(k:aB):List aB:=if S.any (j9 k)=true then S else S++[k]
def uW (S:List aB):List (aB×Bool):=S.map fun o=>(o,true)
theorem aZ4 {k:aB}(hk:k.Tx.length=32){S:List aB}(h: ∀o∈S,o.Tx.length=32):uG kH (uW S) k true=uW (aKu S k):=by
 unfold uG aKu
 cases hf:lI kH (uW S) k with
 |none=>
  unfold lI at hf
  rw[a1V]at hf
  rw[if_neg]
  ·simp only[uW,a11];rfl
  rw[a2k,a1h]
  intro o ho e
  have:=hf (o,true) (a1S.2 ⟨o,ho,rfl⟩)
  rw[aMl hk (h o ho),e]at this
  cases this
 |some i=>
  obtain⟨hi,hp,_⟩:=a1z.1 hf
  have hi':i<S.length:=by simpa[uW]using hi
  have he:(uW S)[i]=(S[i],true):=by simp[uW]
  rw[he,aMl hk (h _ (a1c hi'))]at hp
  have e:k=S[i]:=mQ hk (h _ (a1c hi')) (of_decide_eq_true hp)
  rw[if_pos (a1r.2 ⟨_,a1c hi',hp⟩)]
  show(uW S).set i (k,true)=_
  rw[show(k,true)=(uW S)[i] by rw[he,←e],a13]
theorem aVf {k:aB}(hk:k.Tx.length=32){S:List aB}(h: ∀o∈S,o.Tx.length=32): ∀o∈aKu S k,o.Tx.length=32:=by
 unfold aKu
 split
 ·exact h
 intro o ho
 rcases a1p.1 ho with ho|ho
 ·exact h o ho
 rw[a1g.1 ho];exact hk
theorem aVh {k o:aB}(hk:k.Tx.length=32){S:List aB}(h: ∀o∈S,o.Tx.length=32):o∈aKu S k↔o∈S∨o=k:=by
 unfold aKu
 split
 ·rename_i hs
  obtain⟨x,hx,e⟩:=a1r.1 hs
  have:=mQ hk (h x hx) (of_decide_eq_true e)
  subst this
  exact⟨.inl,fun h=>h.elim id fun e=>e▸hx⟩
 rw[a1p,a1g]
theorem a0b {k:aB}(hk:k.Tx.length=32){S:List aB}(h: ∀o∈S,o.Tx.length=32):mR kH (uW S) k false=S.any (j9 k):=by
 unfold mR
 cases hf:lI kH (uW S) k with
 |none=>
  unfold lI at hf
  rw[a1V]at hf
  refine(a1h.2 fun o ho e=> ?_).symm
  have:=hf (o,true) (a1S.2 ⟨o,ho,rfl⟩)
  rw[aMl hk (h o ho),e]at this
  cases this
 |some i=>
  obtain⟨hi,hp,_⟩:=a1z.1 hf
  have hi':i<S.length:=by simpa[uW]using hi
  have he:(uW S)[i]=(S[i],true):=by simp[uW]
  rw[he,aMl hk (h _ (a1c hi'))]at hp
  show(((uW S)[i]?).map (·.2)).getD false=_
  rw[a1b hi,he,a1r.2 ⟨_,a1c hi',hp⟩]
  rfl
def aEP (l:aC)(M sp:List aA)(txs:List aD)(k:Nat):Bool:=match sp[k]?,txs[k]? with
 |some s,some t=> !(j9 s.Out (pv t)) || (match fC s.Out M with
  |some d=> !(smC d s)
  |none=>decide (s.Height<1) || (decide (l.Height≤s.Height) || aHt l.Coins s.Out))
 |_,_=>true
def kK (M sp:List aA):Nat→List aA×List aB
 |0=>([],[])
 |k+1=>match sp[k]? with
  |some s=>if(fC s.Out M).isSome=true then((kK M sp k).1,aKu (kK M sp k).2 s.Out)else((kK M sp k).1++[s],(kK M sp k).2)
  |none=>kK M sp k
theorem aRV {M sp:List aA}{k:Nat}{s:aA}(h:sp[k]? =some s):kK M sp (k+1)=if(fC s.Out M).isSome=true then((kK M sp k).1,aKu (kK M sp k).2 s.Out)else((kK M sp k).1++[s],(kK M sp k).2):=by
 rw[kK,h]
theorem aIi {M sp:List aA}(hsp: ∀c∈sp,mI c): ∀k,(kK M sp k).1.length≤k∧ ∀o∈(kK M sp k).2,o.Tx.length=32
 |0=>⟨a1Z _,fun o ho=>by cases ho⟩
 |k+1=>by
  obtain⟨h1,h2⟩:=aIi hsp (M:=M) k
  rw[kK]
  split
  ·rename_i s hs
   have o:=(hsp s (a1k hs)).o
   split
   ·exact⟨a1Y h1,aVf o.1 h2⟩
   exact⟨by simp;omega,h2⟩
  exact⟨by omega,h2⟩
section
variable {N:Nat}(hN:70000≤N){l:aC}{u:aM}{n:Nat}(W:CsW n l.Coins)(hn:n≤900)(hs:jY l.Height none l.Coins=true)(hsp: ∀c∈u.Spent,mI c){M:List aA}(hM: ∀d∈M,fE d.Out){txs:List aD}(T: ∀t∈txs,TxM t)(hx:txs.length≤10)
include hN W hn hs hsp hM T hx
theorem dL5 {k:Nat}(hk:k<txs.length):dS N l u (M.map jE) txs (k:Int) txs[k] N (k:Int) 0 (kK M u.Spent k).1 (uW (kK M u.Spent k).2)=
  some (if aEP l M u.Spent txs k=true then .ret ([],false)else .brk (((k+1:Nat):Int),(kK M u.Spent (k+1)).1,uW (kK M u.Spent (k+1)).2)):=by
 have hW:=W.n
 obtain⟨x,hi,hx2⟩:=(T _ (a1c hk)).i
 have hp:pv txs[k]=x.Prev:=by unfold pv;rw[hi]
 obtain⟨g1,g2⟩:=aIi hsp (M:=M) k
 obtain⟨m,rfl⟩: ∃m,N=m+2:=⟨N-2,by omega⟩
 have e1: ∀v s t,dS (m+2) l u (M.map jE) txs (k:Int) txs[k] (m+1) v 1 s t=some (.brk (v,s,t)):=fun v s t=>by
  unfold dS
  rw[hi];rfl
 unfold dS
 rw[hi]
 simp only[a1F]
 rw[if_pos (show decide ((0:Int)<((1:Nat):Int))=true from rfl),show bB [x] 0=some x from rfl]
 simp only[a1a]
 have hb:aEP l M u.Spent txs k=(match u.Spent[k]? with
  |some s=> !(j9 s.Out x.Prev) || (match fC s.Out M with
   |some d=> !(smC d s)
   |none=>decide (s.Height<1) || (decide (l.Height≤s.Height) || aHt l.Coins s.Out))
  |none=>true):=by
  unfold aEP
  rw[a1b hk]
  cases u.Spent[k]? <;>simp only[hp]
 rw[hb]
 by_cases h':k<u.Spent.length
 ·obtain⟨s,h2⟩: ∃s,u.Spent[k]? =some s:=⟨_,a1b h'⟩
  have C:=hsp s (a1k h2)
  have hr:=aRV (M:=M) h2
  have gi:bB u.Spent (k:Int)=some s:=by rw[aNJ,h2]
  rw[if_neg (by simp;omega),gi,h2,hr]
  simp only[a1a]
  rw[show fR s.Out.Tx x.Prev.Tx ((s.Out.Index == x.Prev.Index)&&true)=j9 s.Out x.Prev from eqP C.o.1 hx2.p.1]
  unfold rG
  rw[gi]
  simp only[a1a]
  rw[aWK C.o.1 hM,aZU C.o.1 hM]
  obtain⟨q,hq⟩: ∃q,j9 s.Out x.Prev=q:=⟨_,rfl⟩
  simp only[hq]
  cases q with
  |false=>simp only[a1D,if_true,a2h]
  |true=>
   obtain⟨v,hf⟩: ∃v,fC s.Out M=v:=⟨_,rfl⟩
   simp only[hf]
   simp only[a1M,a1d,if_false,a1N]
   cases v with
   |some d=>
    simp only[Option.isSome_some,if_true,Option.getD_some,aV5,a1a]
    obtain⟨q,hq2⟩: ∃q,smC d s=q:=⟨_,rfl⟩
    simp only[hq2]
    cases q with
    |false=>rfl
    |true=>
     simp only[a1M,a1d,if_false,mU,aZ4 C.o.1 g2,i1 (show k≤100000 by omega),show a1P.wrap (0+1)=1 from rfl,e1]
   |none=>
    simp only[a2b,a1d,if_false]
    rw[aTV hN (by omega) W.ok C.o l rfl hs]
    have j8: ∀t,kB (m+2) l u (M.map jE) txs (k:Int) txs[k] (k:Int) 0 (kK M u.Spent k).1 (uW (kK M u.Spent k).2) s (dS (m+2) l u (M.map jE) txs (k:Int) txs[k] (m+1)) t=some (if t=true then .ret ([],false)else .brk (((k+1:Nat):Int),(kK M u.Spent k).1++[s],uW (kK M u.Spent k).2)):=fun t=>by
     unfold kB mU
     cases t with
     |true=>rfl
     |false=>
      rw[aT9 C]
      simp only[a1a,a1d,if_false]
      rw[dG (by omega) (by simp;omega)]
      simp only[a1a,i1 (show k≤100000 by omega),show a1P.wrap (0+1)=1 from rfl,e1]
    simp only[j8,a1a,aHt]
    by_cases a1:s.Height<1<;>by_cases a2:l.Height≤s.Height<;>by_cases a3:0≤fI s.Out 0 l.Coins<;>simp only[a1,a2,a3,decide_true,decide_false,a2h,Bool.or_true,a1N,Bool.or_false,if_true,if_false,a1d]
 rw[if_pos (by simp;omega),a1s (by omega)]
 rfl
theorem dL3 :eM N l u (M.map jE) txs N 0 0 [] []=some (if(a1o txs.length).any (aEP l M u.Spent txs)=true then .ret ([],false)else .brk ((txs.length:Int),(kK M u.Spent txs.length).1,uW (kK M u.Spent txs.length).2)):=by
 refine aF2 (f:=fun m j (s:Int×List aA×List (aB×Bool))=>eM N l u (M.map jE) txs m s.1 j s.2.1 s.2.2) (fun j=>((j:Int),(kK M u.Spent j).1,uW (kK M u.Spent j).2)) (aEP l M u.Spent txs) ([],false) _ (fun m j hj=> ?_) (fun m=> ?_) (by omega)
 ·show eM N l u (M.map jE) txs (m+1) (j:Int) (j:Int) (kK M u.Spent j).1 (uW (kK M u.Spent j).2)=if aEP l M u.Spent txs j=true then some (.ret ([],false))else eM N l u (M.map jE) txs m ((j+1:Nat):Int) ((j+1:Nat):Int) (kK M u.Spent (j+1)).1 (uW (kK M u.Spent (j+1)).2)
  rw[eM,if_pos (dT hj),aY _ hj]
  simp only[a1a]
  rw[dL5 hN W hn hs hsp hM T hx hj]
  simp only[a1a,yM,i1 (show j≤100000 by omega)]
  cases aEP l M u.Spent txs j<;>rfl
 show eM N l u (M.map jE) txs (m+1) (txs.length:Int) (txs.length:Int) _ _=_
 rw[eM,if_neg (by simp)]
end
theorem aPT {α β:Type}{g:α→β}{f:β→Option Bool}{p:α→Bool}: ∀{l:List α},(∀x∈l,f (g x)=some (p x))→mall f (l.map g)=some (l.all p)
 | [],_=>rfl
 |x::l,h=>by
  rw[List.map_cons,mall,h x (by simp),aPT fun y hy=>h y (by simp[hy])]
  rfl
def aKW (l:aC)(K:List aB)(c:aA):Bool:=K.any (j9 c.Out) || (match fC c.Out l.Coins with
 |some d=>smC d c
 |none=>false)
def rOk (l:aC)(M sp:List aA)(txs:List aD):Bool:= !((a1o txs.length).any (aEP l M sp txs))&&(M.all (aKW l (kK M sp txs.length).2)&&((txs.length:Int) == (sp.length:Int)))
def jG (M cs:List aA):List aA:=cs.filter fun c=> !(fC c.Out M).isSome
section
variable {N:Nat}(hN:70000≤N){l:aC}{u:aM}{n:Nat}(W:CsW n l.Coins)(hn:n≤900)(hs:jY l.Height none l.Coins=true)(hsp: ∀c∈u.Spent,mI c){M:List aA}(hM: ∀d∈M,fE d.Out)
include hN W hn hs hM
theorem dM {K:List aB}(hK: ∀o∈K,o.Tx.length=32):zP N (M.map jE) l (uW K)=some (M.all (aKW l K)):=by
 have hW:=W.n
 unfold zP
 refine aPT fun c hc=> ?_
 have o:=hM c hc
 show(if mR kH (uW K) c.Out false then some true else(o9 N l c.Out).bind fun vO=>if decide (vO<0)then some false else(bB l.Coins vO).bind fun z7=>(rT N z7 c).bind fun aJe=>if !aJe then some false else some true)=some (aKW l K c)
 rw[a0b o.1 hK,aTV hN (by omega) W.ok o l rfl hs]
 unfold aKW
 by_cases hk:K.any (j9 c.Out)=true
 ·simp only[hk,if_true,a2h]
 rw[if_neg hk,a1f.2 hk,a1N]
 simp only[a1a]
 rcases aLa c.Out l.Coins 0 with⟨h1,h2⟩|⟨k,hk,h1,h2⟩
 ·rw[h1,h2];rfl
 rw[h1,h2,a1T,if_neg (by simp),aY _ hk]
 simp only[a1a,aV5]
 cases smC l.Coins[k] c<;>rfl
include hsp
theorem a0C {b:aH}(B:sX b): ∃r,wF N l b u (M.map jE)=some r∧r.2=rOk l M u.Spent (b.Txs.drop 1)∧(r.2=true→r.1=(kK M u.Spent (b.Txs.drop 1).length).1):=by
 have hb:=B.t.1
 have hp:=B.n
 have g:=aIi hsp (M:=M) (b.Txs.drop 1).length
 unfold wF
 rw[show(1:Int)=((1:Nat):Int)from rfl,z8 (by omega) (a1Z _),a1H]
 simp only[a1a]
 rw[dL3 hN W hn hs hsp hM (fun t ht=>B.t.2 t (a1K ht)) (by rw[a2l];omega)]
 simp only[a1a]
 unfold rOk
 by_cases h1:(a1o (b.Txs.drop 1).length).any (aEP l M u.Spent (b.Txs.drop 1))=true
 ·rw[if_pos h1]
  exact⟨_,rfl,by rw[h1];rfl,fun h=>by cases h⟩
 rw[if_neg h1,a1f.2 h1]
 unfold yI xI
 simp only[]
 rw[dM hN W hn hs hM g.2]
 simp only[a1a]
 by_cases h2:M.all (aKW l (kK M u.Spent (b.Txs.drop 1).length).2)=true
 ·rw[if_pos h2]
  exact⟨_,rfl,by rw[h2];simp,fun _=>rfl⟩
 rw[if_neg h2]
 exact⟨_,rfl,by rw[a1f.2 h2];rfl,fun h=>by cases h⟩
omit hsp hs
theorem dL4 {b:aH}{S:List aA}(hS:S.length≤100):eF N l b (M.map jE) N 0 S=some (S++jG M l.Coins):=by
 have hW:=W.n
 have go: ∀(m j:Nat),l.Coins.length-j<m→j≤l.Coins.length→eF N l b (M.map jE) m (j:Int) (S++jG M (l.Coins.take j))=some (S++jG M l.Coins):=by
  intro m
  induction m with
  |zero=>intro j h _;omega
  |succ m ih=>
   intro j h hj
   rw[eF]
   by_cases h':j<l.Coins.length
   ·have C:=W.c _ (a1c h')
    have ih:=ih (j+1) (by omega) (by omega)
    have hl:(jG M (l.Coins.take j)).length≤j:=a2i (a14 _ _) (by rw[a1I];omega)
    rw[if_pos (dT h'),aY _ h']
    simp only[a1a]
    rw[aWK C.o.1 hM]
    rw[a1m h',jG,a2c]at ih
    by_cases hf:(fC l.Coins[j].Out M).isSome=true
    ·rw[hf,if_neg (by simp)]
     rw[a10 (by simp[hf]),a2n,a1y]at ih
     unfold iR
     rw[i1 (by omega)]
     exact ih
    rw[a1f.2 hf,if_pos (by rfl),aT9 C]
    simp only[a1a]
    rw[dG (by omega) (by simp;omega)]
    simp only[a1a,iR]
    rw[List.filter_cons_of_pos (by simp[hf]),a2n]at ih
    rw[i1 (by omega),a1q]
    exact ih
   rw[if_neg (by simp;omega),a1A (by omega)]
 have:=go N 0 (by omega) (by omega)
 rw[a17,show jG M []=[]from rfl,a1y]at this
 exact this
end
theorem aKY {α:Type}{p:α→Bool}(l:List α):(a1o l.length).any (fun i=>(l[i]?).any p)=l.any p:=by
 rw[a2o,a1r,a1r]
 constructor
 ·rintro⟨i,hi,h⟩
  have hi:=a1t.1 hi
  rw[a1b hi]at h
  exact⟨_,a1c hi,h⟩
 rintro⟨c,hc,h⟩
 obtain⟨i,hi,rfl⟩:=a1Q hc
 exact⟨i,a1t.2 hi,by rw[a1b hi];exact h⟩
theorem aY6 {o:aB}{A B:List aA}:(fC o (A++B)).isSome=((fC o A).isSome || (fC o B).isSome):=by
 unfold fC
 rw[List.find?_append]
 cases List.find? (isO o) A<;>rfl
theorem aS2 {A cs:List aA}{c:aA}:jG (A++[c]) cs=(jG A cs).filter fun d=> !(isO d.Out c):=by
 unfold jG
 rw[List.filter_filter]
 refine List.filter_congr fun d _=> ?_
 rw[aY6,show(fC d.Out [c]).isSome=isO d.Out c by unfold fC;rw[a1x];cases isO d.Out c<;>rfl]
 cases (fC d.Out A).isSome<;>cases isO d.Out c<;>rfl
theorem aQp {S:List aA}(hs:Srt S)(ho: ∀d∈S,fE d.Out){c:aA}(hc:fE c.Out){k:Nat}(hk:k<S.length)(e:S[k].Out=c.Out):(S.filter fun d=> !(isO d.Out c))=S.eraseIdx k:=by
 have t: ∀(i:Nat)(hi:i<S.length),i≠k→isO S[i].Out c=false:=fun i hi hik=>by
  cases h:isO S[i].Out c with
  |false=>rfl
  |true=>
   have h1:=(aDt (ho _ (a1c hi)) hc).1 h
   exfalso
   have pw:=a1i.1 hs.dis
   rcases Nat.lt_trichotomy i k with h2|h2|h2
   ·exact pw i k hi hk h2 (by rw[e,h1])
   ·exact hik h2
   exact pw k i hk hi h2 (by rw[e,h1])
 have sp:S=S.take k++S[k]::S.drop (k+1):=by rw[←a1v hk,a1E]
 rw[a1B]
 conv=>lhs;rw[sp]
 rw[a2c,a10]
 ·rw[a1w.2,a1w.2]
  ·intro d hd
   obtain⟨i,hi,rfl⟩:=List.mem_drop_iff_getElem.1 hd
   rw[t _ (by omega) (by omega)];rfl
  intro d hd
  obtain⟨i,hi,rfl⟩:=a1u.1 hd
  rw[t _ (by omega) (by omega)];rfl
 rw[(aDt (ho _ (a1c hk)) hc).2 e.symm];simp
theorem aTr {S:List aA}(ho: ∀d∈S,fE d.Out){c:aA}(hc:fE c.Out)(h:fC c.Out S=none):(S.filter fun d=> !(isO d.Out c))=S:=by
 rw[a1w]
 intro d hd
 cases h2:isO d.Out c with
 |false=>rfl
 |true=>exact absurd ((aDt (ho d hd) hc).1 h2).symm ((aIk hc ho).1 h d hd)
theorem aW3 {A cs:List aA}(hA: ∀d∈A,fE d.Out)(hc: ∀d∈cs,fE d.Out){o:aB}(ho:fE o)(h:fC o A=none):fC o (jG A cs)=fC o cs:=by
 unfold fC jG
 rw[List.find?_filter]
 induction cs with
 |nil=>rfl
 |cons d cs ih=>
  have ih:=ih fun d hd=>hc d (by simp[hd])
  rw[a1x,a1x,ih]
  cases hd:isO o d with
  |false=>simp
  |true=>
   rw[(aDt ho (hc d (by simp))).1 hd,h]
   simp
def aEy (l:aC)(sp:List aA)(c:aA):Bool:=match fC c.Out sp with
 |some d=> !(smC d c)
 |none=>match fC c.Out l.Coins with
  |some d=> !(smC d c)
  |none=>true
section
variable {N:Nat}(hN:70000≤N){l:aC}{u:aM}{n:Nat}(W:CsW n l.Coins)(hn:n≤900)(hsp: ∀c∈u.Spent,mI c)(hl:u.Spent.length≤10){b:aH}(B:sX b)
theorem aLK {cs:List aA}(hl:cs.length≤900){k:Nat}(hk:k<cs.length):lE N cs (k:Int)=some (cs.eraseIdx k):=by
 unfold lE
 rw[i1 (by omega),show(0:Int)=((0:Nat):Int)from rfl,z8 (a18 k) (by omega)]
 simp only[a1a]
 rw[dG (by omega) (by simp;omega)]
 simp only[a1a]
 rw[z8 (show k+1≤cs.length by omega) (a1Z _)]
 simp only[a1a]
 rw[dG (by omega) (by simp;omega),a1B,a1H]
 simp
theorem aTh {A:List aA}(W:CsW n l.Coins):CsW n (jG A l.Coins):=
 ⟨a2i (a14 _ _) W.n,fun c hc=>W.c c ((a2p.1 hc).1),a1G List.filter_sublist W.s⟩
include hN W hn hsp hl
theorem uL6 {x:Int}{A os:List aA}(hos:os.length≤10)(ho: ∀c∈A++os,fE c.Out)(hd:Dis (A++os)):
  eR N l b u x os N (jG A l.Coins) 0=some (if os.any (aEy l u.Spent)=true then .ret ([],false)else .brk (jG (A++os) l.Coins)):=by
 have hspo: ∀d∈u.Spent,fE d.Out:=fun d hd=>(hsp d hd).o
 have:=aF2 (f:=fun m j s=>eR N l b u x os m s j) (n:=os.length) (fun i=>jG (A++os.take i) l.Coins) (fun i=>(os[i]?).any (aEy l u.Spent)) ([],false) (jG (A++os) l.Coins) (fun m j hj=> ?_) (fun m=> ?_) (N:=N) (by omega)
 ·rw[aKY,a17,a1y]at this
  exact this
 ·rw[eR,if_pos (dT hj),aY _ hj,a1b hj,a1R]
  have hsp':A++os=A++os.take j++os.drop j:=by rw[a1q,a1E]
  have oA: ∀c∈A++os.take j,fE c.Out:=fun c hc=>ho c (by rw[hsp'];exact a16 _ hc)
  have oc:fE os[j].Out:=ho _ (by simp)
  have hnA:fC os[j].Out (A++os.take j)=none:=(aIk oc oA).2 fun d hd' e=>by
   rw[hsp']at hd
   exact(a1J.1 hd).2.2 d hd' os[j] (by rw[a1v hj];exact a2a) e
  have hk:=aW3 oA W.ok oc hnA
  rw[show A++os.take (j+1)=A++os.take j++[os[j]] by rw[a1m hj,a1q],aS2]
  have K:=aTh (A:=A++os.take j) W
  have hKn:=K.n
  generalize jG (A++os.take j) l.Coins=S at hk K hKn
  generalize os[j]=c at oc hk
  simp only[a1a,i1 (show j≤100000 by omega),aNe hN (show u.Spent.length≤1000 by omega) hspo oc,aNe hN (show S.length≤1000 by omega) K.ok oc,wW,rC]
  unfold aEy
  rcases aLa c.Out u.Spent 0 with⟨h1,h2⟩|⟨k,hk1,h1,h2⟩
  ·rw[h2,h1,if_neg (by simp)]
   simp only[]
   rw[←hk]
   rcases aLa c.Out S 0 with⟨h4,h3⟩|⟨i,hi,h4,h3⟩
   ·rw[h3,h4,if_pos (by rfl)]
    rfl
   have e:=(aFC oc K.ok h4).2
   rw[h3,h4,a1T,if_neg (by simp),aY _ hi]
   simp only[a1a,aSC,wT,aLK (N:=N) (show S.length≤900 by omega) hi,rC,aQp K.s K.ok oc hi e,i1 (show j≤100000 by omega)]
  rw[h2,h1,a1T,if_pos (by simp),aY _ hk1]
  simp only[a1a,aSC]
  obtain⟨q,hq⟩: ∃q,smC u.Spent[k] c=q:=⟨_,rfl⟩
  simp only[hq]
  cases q with
  |false=>rfl
  |true=>
   simp only[a1M,a1d,if_false]
   rcases aLa c.Out S 0 with⟨h4,h3⟩|⟨i,hi,h4,h3⟩
   ·rw[h3,if_neg (by simp),aTr K.ok oc h4]
   have e:=(aFC oc K.ok h4).2
   rw[h3,a1T,if_pos (by simp),aLK (N:=N) (show S.length≤900 by omega) hi,aQp K.s K.ok oc hi e]
   rfl
 rw[eR,if_neg (by simp),a1H]
end
def nEq (sp:List aA)(pts:List aB)(k:Nat):Bool:=match sp[k]?,pts[k]? with
 |some s,some p=> !(j9 s.Out p)
 |_,_=>true
theorem aOF {N:Nat}{h:Int}{txs:List aD}{p:aA→Bool}: ∀n,(a1o n).any (fun j=>(txs[j]?).any fun t=>(sA N t h ((j:Int) == 0)).any p)=(fL N h txs n).any p
 |0=>rfl
 |n+1=>by
  rw[List.range_succ,a2q,aOF n,fL,a2q,a2d,List.any_nil,Bool.or_false]
  cases txs[n]? <;>rfl
section
variable {N:Nat}(hN:70000≤N){l:aC}{u:aM}{n:Nat}(W:CsW n l.Coins)(hn:n≤900)(hsp: ∀c∈u.Spent,mI c)(hl:u.Spent.length≤10){b:aH}(B:sX b)
section
include hN B
theorem a0I {txs:List aD}(T: ∀t∈txs,TxM t)(hx:txs.length≤10):lV N l b u txs N 0 []=some (txs.map pv):=by
 have go: ∀(m j:Nat),txs.length-j<m→j≤txs.length→lV N l b u txs m (j:Int) ((txs.take j).map pv)=some (txs.map pv):=by
  intro m
  induction m with
  |zero=>intro j h _;omega
  |succ m ih=>
   intro j h hj
   rw[lV]
   by_cases h':j<txs.length
   ·obtain⟨x,hi,hx2⟩:=(T _ (a1c h')).i
    have hp:pv txs[j]=x.Prev:=by unfold pv;rw[hi]
    have hlen:((txs.take j).map pv).length≤10:=by rw[a12,a1I];omega
    have ih:=ih (j+1) (by omega) (by omega)
    rw[a1m h',a11,List.map_singleton,hp]at ih
    have e:lZ N l b u txs (j:Int) txs[j] N 0 ((txs.take j).map pv)=some ((txs.take j).map pv++[x.Prev]):=by
     obtain⟨k,rfl⟩: ∃k,N=k+2:=⟨N-2,by omega⟩
     have e1: ∀s,lZ (k+2) l b u txs (j:Int) txs[j] (k+1) 1 s=some s:=fun s=>by
      unfold lZ
      rw[hi];rfl
     unfold lZ
     rw[hi]
     simp only[a1F]
     rw[if_pos (show decide ((0:Int)<((1:Nat):Int))=true from rfl),show bB [x] 0=some x from rfl]
     simp only[a1a]
     rw[dG (by omega) (by simp only[a1F];omega)]
     simp only[a1a,show a1P.wrap (0+1)=1 from rfl,e1]
    rw[if_pos (dT h'),aY _ h']
    simp only[a1a,e,aAS,i1 (show j≤100000 by omega)]
    exact ih
   rw[if_neg (by simp;omega),a1A (by omega)]
 exact go N 0 (by omega) (by omega)
end
section
include hN hsp hl
theorem a0B {pts:List aB}(hp: ∀o∈pts,fE o)(he:u.Spent.length=pts.length):gA N l b u pts N 0=some (if(a1o pts.length).any (nEq u.Spent pts)=true then .ret ([],false)else .brk ()):=by
 refine aF2 (f:=fun m j (_:Unit)=>gA N l b u pts m j) (fun _=>()) (nEq u.Spent pts) ([],false) () (fun m j hj=> ?_) (fun m=> ?_) (by omega)
 ·have h':j<u.Spent.length:=by omega
  show gA N l b u pts (m+1) (j:Int)=if nEq u.Spent pts j=true then some (.ret ([],false))else gA N l b u pts m ((j+1:Nat):Int)
  unfold nEq
  rw[gA,if_pos (dT hj),aY _ hj,aY _ h',a1b hj,a1b h']
  simp only[a1a]
  rw[show fR u.Spent[j].Out.Tx pts[j].Tx ((u.Spent[j].Out.Index == pts[j].Index)&&true)=j9 u.Spent[j].Out pts[j]from eqP (hsp _ (a1c h')).o.1 (hp _ (a1c hj)).1,i1 (by omega)]
 show gA N l b u pts (m+1) (pts.length:Int)=_
 rw[gA,if_neg (by simp)]
end
section
include hN W hn hsp hl B
theorem uL4 (C:Chk N b)(hcb: ∀j (hj:j<b.Txs.length),cJ N b.Txs[j]=some ((j:Int) == 0)):kN N l b u N l.Coins 0=
  some (if(fL N l.Height b.Txs b.Txs.length).any (aEy l u.Spent)=true then .ret ([],false)else .brk (jG (fL N l.Height b.Txs b.Txs.length) l.Coins)):=by
 have hb:=B.t.1
 have k0:jG (fL N l.Height b.Txs 0) l.Coins=l.Coins:=by unfold jG;exact a1w.2 fun _ _=>rfl
 have:=aF2 (f:=fun m j s=>kN N l b u m s j) (n:=b.Txs.length) (fun j=>jG (fL N l.Height b.Txs j) l.Coins) (fun j=>(b.Txs[j]?).any fun t=>(sA N t l.Height ((j:Int) == 0)).any (aEy l u.Spent)) ([],false) (jG (fL N l.Height b.Txs b.Txs.length) l.Coins) (fun m j hj=> ?_) (fun m=> ?_) (N:=N) (by omega)
 ·rw[aOF,k0]at this
  exact this
 ·have T:=B.t.2 _ (a1c hj)
  have hd:=aD1 hN B (h:=l.Height) C (j+1)
  have ho:=aIs hN B (h:=l.Height) (j:=j+1)
  rw[yS hj]at hd ho
  have hlen:(sA N b.Txs[j] l.Height ((j:Int) == 0)).length≤2:=by rw[sA,aDT];exact T.n
  rw[kN,if_pos (dT hj),aY _ hj,a1b hj,a1R]
  simp only[a1a]
  rw[aPW hN T (hcb j hj)]
  simp only[a1a]
  rw[uL6 hN W hn hsp hl (by omega) ho hd,yS hj]
  simp only[a1a,aBT,i1 (show j≤100000 by omega)]
  by_cases h:(sA N b.Txs[j] l.Height ((j:Int) == 0)).any (aEy l u.Spent)=true
  ·rw[if_pos h,if_pos h]
  rw[if_neg h,if_neg h]
 rw[kN,if_neg (by simp)]
theorem bL6 {S:List aA}(C:Chk N b)(hcb: ∀j (hj:j<b.Txs.length),cJ N b.Txs[j]=some ((j:Int) == 0)):uY N l b u S N 0 []=some (fL N l.Height b.Txs b.Txs.length):=by
 have hb:=B.t.1
 have go: ∀(m j:Nat),b.Txs.length-j<m→j≤b.Txs.length→uY N l b u S m (j:Int) (fL N l.Height b.Txs j)=some (fL N l.Height b.Txs b.Txs.length):=by
  intro m
  induction m with
  |zero=>intro j h _;omega
  |succ m ih=>
   intro j h hj
   rw[uY]
   by_cases h':j<b.Txs.length
   ·have T:=B.t.2 _ (a1c h')
    have hlen:(sA N b.Txs[j] l.Height ((j:Int) == 0)).length≤2:=by rw[sA,aDT];exact T.n
    have hA:=aKj hN B (h:=l.Height) j
    have ih:=ih (j+1) (by omega) (by omega)
    rw[if_pos (dT h'),aY _ h']
    simp only[a1a]
    rw[aPW hN T (hcb j h')]
    simp only[a1a]
    rw[dG (by omega) (by omega),←yS h']
    simp only[a1a,i1 (show j≤100000 by omega)]
    exact ih
   obtain rfl:j=b.Txs.length:=by omega
   rw[if_neg (by simp)]
 exact go N 0 (by omega) (by omega)
end
end
theorem lpd {σ ρ β:Type}{f:Nat→Int→σ→Option (LR β ρ)}(n:Nat)(A:Nat→σ)(c:Nat→Bool)(r:ρ)(B:β)
  (hs: ∀m j,j<n→(∀i<j,c i=false)→f (m+1) (j:Int) (A j)=if c j=true then some (.ret r)else f m ((j+1:Nat):Int) (A (j+1))) (he: ∀m,f (m+1) (n:Int) (A n)=some (.brk B)):
  ∀(m j:Nat),n-j<m→j≤n→(∀i<j,c i=false)→f m (j:Int) (A j)=some (if(List.range' j (n-j)).any c=true then .ret r else .brk B)
 |0,j,h,_,_=>by omega
 |m+1,j,h,hj,hc=>by
  by_cases h':j<n
  ·rw[hs m j h' hc]
   cases hcj:c j with
   |false=>
    rw[if_neg (by simp),lpd n A c r B hs he m (j+1) (by omega) (by omega) (fun i hi=>by
     by_cases e:i=j
     ·rw[e];exact hcj
     exact hc i (by omega)),show n-j=(n-(j+1))+1 by omega,a2m,a2d,hcj]
    simp only[a1N]
   |true=>
    rw[if_pos rfl,show n-j=(n-(j+1))+1 by omega,a2m,a2d,hcj]
    rfl
  obtain rfl:j=n:=by omega
  rw[he,Nat.sub_self];rfl
theorem a0Q {σ ρ β:Type}{f:Nat→Int→σ→Option (LR β ρ)}{n:Nat}(A:Nat→σ)(c:Nat→Bool)(r:ρ)(B:β)
  (hs: ∀m j,j<n→(∀i<j,c i=false)→f (m+1) (j:Int) (A j)=if c j=true then some (.ret r)else f m ((j+1:Nat):Int) (A (j+1))) (he: ∀m,f (m+1) (n:Int) (A n)=some (.brk B)) {N:Nat} (hN:n<N):
  f N 0 (A 0)=some (if(a1o n).any c=true then .ret r else .brk B):=by
 have:=lpd n A c r B hs he N 0 (by omega) (by omega) (fun i hi=>by omega)
 rw[Nat.sub_zero,show((0:Nat):Int)=0 from rfl,←List.range_eq_range']at this
 exact this
def aFN (l:aC)(M:List aA)(s:aA):Bool:= !(fC s.Out M).isSome&&(aHt l.Coins s.Out || (decide (s.Height<1) || decide (l.Height≤s.Height)))
def bSt (l:aC)(M sp:List aA):Nat→List aA
 |0=>jG M l.Coins
 |k+1=>match sp[k]? with
  |some s=>if(fC s.Out M).isSome=true then bSt l M sp k else qB s (bSt l M sp k)
  |none=>bSt l M sp k
theorem aQz {l:aC}{M sp:List aA}: ∀k,(bSt l M sp k).Perm ((kK M sp k).1++jG M l.Coins)
 |0=>List.Perm.refl _
 |k+1=>by
  have ih:=aQz (l:=l) (M:=M) (sp:=sp) k
  rw[bSt,kK]
  cases sp[k]? with
  |none=>exact ih
  |some s=>
   simp only[]
   by_cases hf:(fC s.Out M).isSome=true
   ·rw[if_pos hf,if_pos hf];exact ih
   rw[if_neg hf,if_neg hf,a1q]
   exact aG6.trans ((ih.cons _).trans (List.Perm.symm List.perm_middle))
theorem aLj {l:aC}{M sp:List aA}: ∀{k:Nat}{d:aA},d∈bSt l M sp k→d∈jG M l.Coins∨ ∃i,i<k∧sp[i]? =some d
 |0,d,h=> .inl h
 |k+1,d,h=>by
  rw[bSt]at h
  split at h
  ·rename_i s hs
   split at h
   ·exact(aLj h).imp id fun⟨i,hi,e⟩=>⟨i,by omega,e⟩
   rcases aDl.1 h with rfl|h
   ·exact .inr ⟨k,by omega,hs⟩
   exact(aLj h).imp id fun⟨i,hi,e⟩=>⟨i,by omega,e⟩
  exact(aLj h).imp id fun⟨i,hi,e⟩=>⟨i,by omega,e⟩
theorem aSX {l:aC}{M sp:List aA}{n:Nat}(W:CsW n l.Coins)(hsp: ∀c∈sp,mI c)(hd:Dis sp): ∀k,(∀i<k,(sp[i]?).any (aFN l M)=false)→CsW (n+k) (bSt l M sp k)
 |0,_=>aTh W
 |k+1,hb=>by
  have ih:=aSX W hsp hd (M:=M) k fun i hi=>hb i (by omega)
  have hbk:=hb k (by omega)
  rw[bSt]
  split
  ·rename_i s hs
   have S:=hsp s (a1k hs)
   rw[hs,a1R]at hbk
   split
   ·exact⟨a1Y ih.n,ih.c,ih.s⟩
   rename_i hf
   unfold aFN at hbk
   rw[a1f.2 hf]at hbk
   simp only[a1D,a1O,a1n]at hbk
   refine⟨by rw[aMd];have:=ih.n;omega,fun c hc=> ?_,aIO S.o ih.ok ih.s fun d hd' e=> ?_⟩
   ·rcases aDl.1 hc with rfl|hc
    ·exact S
    exact ih.c c hc
   have e2:=mQ (ih.ok d hd').1 S.o.1 e
   rcases aLj hd' with h|⟨i,hi,h⟩
   ·have:aHt l.Coins s.Out=true:=(aU5 W.ok S.o).2 ⟨d,(a2p.1 h).1,e2⟩
    rw[this]at hbk
    cases hbk.1
   obtain⟨h1,h2⟩:=a1l.1 h
   obtain⟨h3,h4⟩:=a1l.1 hs
   exact a1i.1 hd i k h1 h3 (by omega) (by rw[h2,h4,e2])
  exact⟨a1Y ih.n,ih.c,ih.s⟩
section
variable {N:Nat}(hN:70000≤N){l:aC}{u:aM}{n:Nat}(W:CsW n l.Coins)(hn:n≤800)(hsp: ∀c∈u.Spent,mI c)(hl:u.Spent.length≤10){M:List aA}(hM: ∀d∈M,fE d.Out)(hm:M.length≤100)(hd:Dis u.Spent)
include hN W hn hsp hl hM hm hd
theorem bL3 :gB N l u M N (jG M l.Coins) 0=some (if u.Spent.any (aFN l M)=true then .ret ([],false)else .brk (bSt l M u.Spent u.Spent.length)):=by
 have hW:=W.n
 have:=a0Q (f:=fun m j s=>gB N l u M m s j) (n:=u.Spent.length) (fun j=>bSt l M u.Spent j) (fun j=>(u.Spent[j]?).any (aFN l M)) ([],false) (bSt l M u.Spent u.Spent.length) (fun m j hj hb=> ?_) (fun m=> ?_) (N:=N) (by omega)
 ·rw[aKY]at this
  exact this
 ·have S:=hsp _ (a1c hj)
  have K:=aSX W hsp hd j hb
  rw[gB,if_pos (dT hj),aY _ hj,bSt,a1b hj,a1R]
  simp only[]
  generalize u.Spent[j]=s at S
  generalize bSt l M u.Spent j=A at K
  simp only[a1a,aNe hN (show M.length≤1000 by omega) hM S.o,aNe hN (show l.Coins.length≤1000 by omega) W.ok S.o,aAD,u3,aTY hN K (by omega) S,i1 (show j≤100000 by omega),if_true,a1d]
  unfold aFN aHt
  rcases aLa s.Out M 0 with⟨h1,h2⟩|⟨k,hk1,h1,h2⟩
  ·rw[h1,h2,if_neg (by simp)]
   by_cases a1:s.Height<1<;>by_cases a2:l.Height≤s.Height<;>by_cases a3:0≤fI s.Out 0 l.Coins<;>simp[a1,a2,a3]
  rw[h1,h2,a1T,if_pos (by simp)]
  simp
 rw[gB,if_neg (by simp)]
end
def tOk (l:aC)(M sp:List aA)(pts:List aB):Bool:=decide (pts.length=sp.length)&&(!((a1o pts.length).any (nEq sp pts))&&(!(M.any (aEy l sp))&& !(sp.any (aFN l M))))
theorem aMb {M sp:List aA}(hsp: ∀c∈sp,mI c){o:aB}: ∀k,o∈(kK M sp k).2↔ ∃i s,i<k∧sp[i]? =some s∧(fC s.Out M).isSome=true∧s.Out=o
 |0=>⟨fun h=>(by cases h),fun⟨i,s,h,_⟩=>by omega⟩
 |k+1=>by
  have ih:=aMb hsp (M:=M) (o:=o) k
  have g:=aIi hsp (M:=M) k
  have up:(∃i s,i<k∧sp[i]? =some s∧(fC s.Out M).isSome=true∧s.Out=o)→ ∃i s,i<k+1∧sp[i]? =some s∧(fC s.Out M).isSome=true∧s.Out=o:=fun⟨i,s,h1,h2⟩=>⟨i,s,by omega,h2⟩
  cases hk:sp[k]? with
  |none=>
   rw[show kK M sp (k+1)=kK M sp k by rw[kK,hk],ih]
   refine⟨up,fun⟨i,s,h1,h2,h3⟩=>⟨i,s, ?_,h2,h3⟩⟩
   by_cases e:i=k
   ·rw[e,hk]at h2;cases h2
   omega
  |some s=>
   have S:=hsp s (a1k hk)
   rw[aRV hk]
   by_cases hf:(fC s.Out M).isSome=true
   ·rw[if_pos hf]
    simp only[]
    rw[aVh S.o.1 g.2,ih]
    constructor
    ·rintro(h|rfl)
     ·exact up h
     exact⟨k,s,by omega,hk,hf,rfl⟩
    rintro⟨i,s',h1,h2,h3,h4⟩
    by_cases e:i=k
    ·rw[e,hk]at h2
     injection h2 with h2
     exact .inr (by rw[h2,h4])
    exact .inl ⟨i,s',by omega,h2,h3,h4⟩
   rw[if_neg hf]
   simp only[]
   rw[ih]
   refine⟨up,fun⟨i,s',h1,h2,h3,h4⟩=>⟨i,s', ?_,h2,h3,h4⟩⟩
   by_cases e:i=k
   ·rw[e,hk]at h2
    injection h2 with h2
    rw[h2]at hf
    exact absurd h3 hf
   omega
theorem aR5 {o:aB}(ho:o.Tx.length=32){K:List aB}(hK: ∀o∈K,o.Tx.length=32):K.any (j9 o)=true↔o∈K:=by
 rw[a1r]
 constructor
 ·rintro⟨x,hx,h⟩
  rw[mQ ho (hK x hx) (of_decide_eq_true h)];exact hx
 exact fun h=>⟨o,h,decide_eq_true (qU _)⟩
theorem aZO {l:aC}{M sp:List aA}{txs:List aD}(hM: ∀d∈M,fE d.Out)(hdM:Dis M)(hsp: ∀c∈sp,mI c)(hpt:(txs.map pv).Pairwise fun x y=>x≠y)(ht: ∀t∈txs,fE (pv t)):
  rOk l M sp txs=tOk l M sp (txs.map pv)∧((txs.map pv).length=sp.length→(a1o (txs.map pv).length).any (nEq sp (txs.map pv))=false→Dis sp):=by
 have hspo: ∀d∈sp,fE d.Out:=fun d hd=>(hsp d hd).o
 have r1:rOk l M sp txs=true↔(∀k<txs.length,aEP l M sp txs k=false)∧(∀c∈M,aKW l (kK M sp txs.length).2 c=true)∧txs.length=sp.length:=by
  unfold rOk
  rw[a1j,a1j,a1C,a1h,List.all_eq_true,beq_iff_eq]
  exact⟨fun⟨h1,h2,h3⟩=>⟨fun k hk=>by simpa using h1 k (a1t.2 hk),h2,by omega⟩,fun⟨h1,h2,h3⟩=>⟨fun k hk=>by simpa using h1 k (a1t.1 hk),h2,by omega⟩⟩
 have t1:tOk l M sp (txs.map pv)=true↔txs.length=sp.length∧(∀k<txs.length,nEq sp (txs.map pv) k=false)∧(∀c∈M,aEy l sp c=false)∧ ∀s∈sp,aFN l M s=false:=by
  unfold tOk
  rw[a1j,a1j,a1j,a1C,a1C,a1C,a1h,a1h,a1h,decide_eq_true_iff,a12]
  simp only[a1t,a2k]
 have ne: ∀k<txs.length,nEq sp (txs.map pv) k=false→ ∃s,sp[k]? =some s∧(txs.map pv)[k]? =some s.Out:=fun k hk h=>by
  unfold nEq at h
  rw[a2f,a1b hk]at h⊢
  cases hs:sp[k]? with
  |none=>rw[hs]at h;cases h
  |some s=>
   rw[hs]at h
   simp only[a2r,a1U]at h
   exact⟨s,rfl,by rw[a2r,mQ (hspo s (a1k hs)).1 (ht _ (a1c hk)).1 (of_decide_eq_true h)]⟩
 have dis:txs.length=sp.length→(∀k<txs.length,nEq sp (txs.map pv) k=false)→Dis sp:=fun hl h=>by
  unfold Dis
  rw[a1i]
  intro i j hi hj hij e
  obtain⟨s,h1,h2⟩:=ne i (by omega) (h i (by omega))
  obtain⟨s',h3,h4⟩:=ne j (by omega) (h j (by omega))
  rw[a1b hi]at h1
  rw[a1b hj]at h3
  injection h1 with h1
  injection h3 with h3
  obtain⟨g1,g2⟩:=a1l.1 h2
  obtain⟨g3,g4⟩:=a1l.1 h4
  exact a1i.1 hpt i j g1 g3 hij (by rw[g2,g4,←h1,←h3,e])
 have rb: ∀k<txs.length,∀s,sp[k]? =some s→aEP l M sp txs k=(nEq sp (txs.map pv) k || (match fC s.Out M with
  |some d=> !(smC d s)
  |none=>decide (s.Height<1) || (decide (l.Height≤s.Height) || aHt l.Coins s.Out))):=fun k hk s hs=>by
  unfold aEP nEq
  rw[a2f,a1b hk,hs]
  rfl
 have g:=aIi hsp (M:=M) txs.length
 refine⟨?_,fun h1 h2=>dis (by simpa using h1) fun k hk=>aHf h2 k (by simpa using hk)⟩
 rw[a2o,r1,t1]
 constructor
 ·rintro⟨h1,h2,h3⟩
  have hq: ∀k<txs.length,nEq sp (txs.map pv) k=false:=fun k hk=>by
   have:=h1 k hk
   rw[rb k hk sp[k] (a1b (by omega)),a1n]at this
   exact this.1
  have hd:=dis h3 hq
  have hr: ∀s∈sp,(match fC s.Out M with
    |some d=> !(smC d s)
    |none=>decide (s.Height<1) || (decide (l.Height≤s.Height) || aHt l.Coins s.Out))=false:=fun s hs=>by
   obtain⟨k,hk,rfl⟩:=a1Q hs
   have:=h1 k (by omega)
   rw[rb k (by omega) sp[k] (a1b hk),a1n]at this
   exact this.2
  refine⟨h3,hq,fun c hc=> ?_,fun s hs=> ?_⟩
  ·unfold aEy
   cases hf:fC c.Out sp with
   |some d=>
    obtain⟨g1,g2⟩:=aFC (hM c hc) hspo hf
    have:=hr d g1
    rw[g2,aQT (hM c hc) hM hdM hc rfl]at this
    simp only[a1U]at this⊢
    rw[aPS (hspo d g1).1 (hM c hc).1];exact this
   |none=>
    have:=h2 c hc
    unfold aKW at this
    rw[a2s]at this
    rcases this with h|h
    ·obtain⟨i,s,_,e1,_,e2⟩:=(aMb hsp _).1 ((aR5 (hM c hc).1 g.2).1 h)
     exact absurd e2 ((aIk (hM c hc) hspo).1 hf s (a1k e1))
    simp only[]
    cases hg:fC c.Out l.Coins with
    |none=>rw[hg]at h;cases h
    |some d=>rw[hg]at h;simpa using h
  unfold aFN
  have:=hr s hs
  cases hf:fC s.Out M with
  |some d=>rfl
  |none=>
   rw[hf]at this
   simp only[a1n]at this
   simp[this]
 rintro⟨h3,hq,h4,h5⟩
 have hd:=dis h3 hq
 refine⟨fun k hk=> ?_,fun c hc=> ?_,h3⟩
 ·have hs:sp[k]'(by omega)∈sp:=a1c _
  rw[rb k hk sp[k] (a1b (by omega)),hq k hk,a1N]
  generalize sp[k]'(by omega)=s at hs
  have b5:=h5 s hs
  cases hf:fC s.Out M with
  |some d=>
   obtain⟨g1,g2⟩:=aFC (hspo s hs) hM hf
   have:=h4 d g1
   unfold aEy at this
   rw[g2,aQT (hspo s hs) hspo hd hs rfl]at this
   simp only[a1U]at this⊢
   rw[aPS (hM d g1).1 (hspo s hs).1];exact this
  |none=>
   unfold aFN at b5
   rw[hf]at b5
   simp only[a2b,a1D,a1O,a1n]at b5
   simp[b5]
 have:=h4 c hc
 unfold aEy at this
 unfold aKW
 rw[a2s]
 cases hf:fC c.Out sp with
 |some d=>
  obtain⟨g1,g2⟩:=aFC (hM c hc) hspo hf
  obtain⟨i,hi,rfl⟩:=a1Q g1
  exact .inl ((aR5 (hM c hc).1 g.2).2 ((aMb hsp _).2 ⟨i,_,by omega,a1b hi,by rw[g2,aQT (hM c hc) hM hdM hc rfl];rfl,g2⟩))
 |none=>
  rw[hf]at this
  simp only[]at this
  refine .inr ?_
  cases hg:fC c.Out l.Coins with
  |none=>rw[hg]at this;cases this
  |some d=>rw[hg]at this;simpa using this
section
variable {N:Nat}(hN:70000≤N){l:aC}{u:aM}{n:Nat}(W:CsW n l.Coins)(hn:n≤800)(hsp: ∀c∈u.Spent,mI c)(hl:u.Spent.length≤10){b:aH}(B:sX b)(hcb:fF N b=some 0→ ∀j (hj:j<b.Txs.length),cJ N b.Txs[j]=some ((j:Int) == 0))
include hN W hn hsp hl B hcb
theorem aXU (h0:fF N b=some 0): ∃r,aCe N l b u=some r∧r.2=rOk l (fL N l.Height b.Txs b.Txs.length) u.Spent (b.Txs.drop 1)∧(r.2=true→r.1=bSt l (fL N l.Height b.Txs b.Txs.length) u.Spent u.Spent.length∧CsW (n+10) r.1):=by
 have hb:=B.t.1
 have hp:=B.n
 have C:=chk hN B h0
 have hcb:=hcb h0
 have hM:=aIs hN B (h:=l.Height) (j:=b.Txs.length)
 have hm:=aKj hN B (h:=l.Height) b.Txs.length
 have hpo: ∀t∈b.Txs.drop 1,fE (pv t):=fun t ht=>by
  obtain⟨x,hi,hx⟩:=(B.t.2 t (a1K ht)).i
  unfold pv
  rw[hi];exact hx.p
 have hpd:((b.Txs.drop 1).map pv).Pairwise fun x y=>x≠y:=by
  rw[List.map_drop]
  exact a1G (List.drop_sublist _ _) (aXT hN B C)
 obtain⟨e1,e2⟩:=aZO (l:=l) hM (aD1 hN B C b.Txs.length) hsp hpd hpo
 rw[e1]
 unfold aCe
 rw[show(1:Int)=((1:Nat):Int)from rfl,z8 (by omega) (a1Z _),a1H]
 simp only[a1a]
 rw[a0I hN B (fun t ht=>B.t.2 t (a1K ht)) (by rw[a2l];omega)]
 simp only[a1a,aCk]
 have hpo2: ∀o∈(b.Txs.drop 1).map pv,fE o:=fun o ho=>by
  obtain⟨t,ht,rfl⟩:=a1S.1 ho
  exact hpo t ht
 revert e2
 unfold tOk
 generalize (b.Txs.drop 1).map pv=pts at hpo2
 intro e2
 by_cases q1:pts.length=u.Spent.length
 ·rw[if_neg (by simp;omega),a0B hN hsp hl hpo2 q1.symm,decide_eq_true q1,a1O]
  by_cases q2:(a1o pts.length).any (nEq u.Spent pts)=true
  ·rw[if_pos q2,q2]
   exact⟨_,rfl,rfl,fun h=>by cases h⟩
  have hd:=e2 q1 (a1f.2 q2)
  rw[if_neg q2,a1f.2 q2,a1D,a1O]
  simp only[a1a,aBz]
  rw[uL4 hN W (by omega) hsp hl B C hcb]
  by_cases q3:(fL N l.Height b.Txs b.Txs.length).any (aEy l u.Spent)=true
  ·rw[if_pos q3,q3]
   exact⟨_,rfl,rfl,fun h=>by cases h⟩
  rw[if_neg q3,a1f.2 q3,a1D,a1O]
  simp only[a1a,aBJ,aIU]
  rw[bL6 hN W (by omega) hsp hl B C hcb]
  simp only[a1a,aER]
  rw[bL3 hN W hn hsp hl hM (by omega) hd]
  by_cases q4:u.Spent.any (aFN l (fL N l.Height b.Txs b.Txs.length))=true
  ·rw[if_pos q4,q4]
   exact⟨_,rfl,rfl,fun h=>by cases h⟩
  rw[if_neg q4,a1f.2 q4]
  refine⟨_,rfl,rfl,fun _=>⟨rfl, ?_⟩⟩
  have K:=aSX W hsp hd (M:=fL N l.Height b.Txs b.Txs.length) u.Spent.length fun i hi=>aHf (c:=fun i=>(u.Spent[i]?).any (aFN l (fL N l.Height b.Txs b.Txs.length))) (by rw[aKY];exact a1f.2 q4) i hi
  exact⟨a2i K.n (by omega),K.c,K.s⟩
 rw[if_pos (by simp;omega),decide_eq_false q1]
 exact⟨_,rfl,rfl,fun h=>by cases h⟩
def aSw :aC:=aC.mk 0 (a1W 32 0) []
def SameR (x:Option (Int×List Int×List aA×Int))(y:Option (aC×Int)):Prop:= ∃r:aC×Int,x=some (r.1.Height,r.1.Tip,r.1.Coins,r.2)∧y=some r∧r.1.Tip.length=32∧(∀c∈r.1.Coins,c.Out.Tx.length=32)∧r.1.Coins.length≤1000
omit hN W hn hsp hl B hcb in
theorem SameR.zero {e:Int}:SameR (some (0,a1W 32 0,[],e)) (some (aC.mk 0 (a1W 32 0) [],e)):=⟨(aSw,e),rfl,rfl,by simp[aSw],fun c hc=>(by cases hc),by simp[aSw]⟩
theorem aXd (hs:jY l.Height none l.Coins=true): ∀t,SameR (iS N l b u t) (lJ N l b u t)
 |true=>SameR.zero
 |false=>by
  obtain⟨e,he,_⟩:=aLJ hN B
  unfold iS lJ
  rw[aUl hN B,he]
  simp only[a1d,if_false,a1a]
  by_cases h0:e=0
  ·subst h0
   have C:=chk hN B he
   have hM:=aIs hN B (h:=l.Height) (j:=b.Txs.length)
   obtain⟨r,r1,r2,r3⟩:=a0C hN W (by omega) hs hsp hM B
   obtain⟨s,s1,s2,s3⟩:=aXU hN W hn hsp hl B hcb he
   rw[if_neg (by simp),if_neg (by simp),a0a hN B C]
   simp only[a1a,n8]
   rw[r1,s1]
   simp only[a1a,aX B.h.p.1]
   rw[r2,s2]
   cases hq:rOk l (fL N l.Height b.Txs b.Txs.length) u.Spent (b.Txs.drop 1) with
   |false=>exact SameR.zero
   |true=>
    obtain⟨s4,K⟩:=s3 (s2.trans hq)
    have g:=aIi hsp (M:=fL N l.Height b.Txs b.Txs.length) (b.Txs.drop 1).length
    have hb:=B.t.1
    have hlen:(b.Txs.drop 1).length=u.Spent.length:=by
     unfold rOk at hq
     rw[a1j,a1j,beq_iff_eq]at hq
     omega
    have hpm:=aQz (l:=l) (M:=fL N l.Height b.Txs b.Txs.length) (sp:=u.Spent) u.Spent.length
    rw[←s4,←hlen,←r3 (r2.trans hq)]at hpm
    simp only[a1M,a1d,if_false]
    rw[dL4 hN W (by omega) hM (by rw[r3 (r2.trans hq)];have:=g.1;omega)]
    simp only[a1a,n9,aAJ]
    rw[aZN K (by omega) hpm.symm]
    have kn:=K.n
    have hsz:s.1.length≤1000:=by omega
    simp only[a1a,aX B.h.p.1]
    rw[aTK hN hsz K.ok,aPK hN hsz K.ok]
    simp only[a1a,qG]
    cases aCx (aC.mk (a1P.wrap (l.Height-1)) b.Header.Prev s.1) with
    |false=>exact SameR.zero
    |true=>exact⟨(aC.mk (a1P.wrap (l.Height-1)) b.Header.Prev s.1,0),rfl,rfl,B.h.p.1,fun c hc=>(K.ok c hc).1,hsz⟩
  rw[if_pos (by simpa using h0),if_pos (by simpa using h0)]
  exact SameR.zero
theorem aYz (ht:l.Tip.length=32):SameR (nW N l b u) (t6 N l b u):=by
 have hW:=W.n
 have hsz:l.Coins.length≤1000:=by omega
 unfold nW t6
 rw[aTK hN hsz W.ok,aPK hN hsz W.ok]
 simp only[a1a]
 cases hs:aCx l with
 |false=>exact SameR.zero
 |true=>
  have hs':jY l.Height none l.Coins=true:=by
   unfold aCx at hs
   simp only[a1j]at hs
   exact hs.2.2.1
  have j1:=aXd hN W hn hsp hl B hcb hs'
  simp only[a1M,a1d,if_false]
  split
  ·exact j1 true
  rw[aY9 N hN b.Header B.h.p.1 B.h.r.1 B.h.p.2 B.h.r.2,aTe N hN b.Header B.h.p.1 B.h.r.1 B.h.p.2 B.h.r.2]
  simp only[a1a,aX ht,aX (aBf N (hdB b.Header))]
  exact j1 _
end
structure aAk (w:aV):Prop where
 nl:w.Ledgers.length=w.Blocks.length+1
 nu:w.Undos.length=w.Blocks.length
 b: ∀b∈w.Blocks,sX b
 u: ∀u∈w.Undos,aMw u
section
variable {N:Nat}(hN:70000≤N)
include hN
theorem aXN {v:Int}(h:0≤v∧v<256):Ok (aFg N v) fun w=>aAh 0 w∧aAk w:=by
 have zH:fX (a1W 32 (0:Int)):=⟨rfl,fun x hx=>by have:=List.eq_of_mem_replicate hx;omega⟩
 have zc:CsK 0 (8*0) []:=⟨by simp,by simp,a2e⟩
 unfold aFg
 refine Ok.bind (aSG hN h) fun p P=> ?_
 have G:HdK p.Genesis:=⟨P.gp,P.gr,P.gw⟩
 have S:Ok (aDA N p) fun r=>LedK 0 r.1∧r.1.Height=0:=by
  unfold aDA
  exact Ok.bind (aBk hN P) fun t _=>Ok.ite (fun _=>Ok.pure ⟨⟨zH,by simp,zc⟩,rfl⟩) fun _=>Ok.bind (aGI hN G) fun x hx=>Ok.eq (aX hx.1) (Ok.pure ⟨⟨hx,by simp,zc⟩,rfl⟩)
 obtain⟨l,el,L,hl⟩:=S
 refine Ok.eq el (Ok.bind (P:=fun r=>CtxJ 0 r.1) ?_ fun c C=>Ok.pure ⟨⟨P,by simp,by simp,by simp,fun x hx=> ?_,by simp,fun x hx=> ?_⟩,⟨rfl,rfl,fun b hb=>(by cases hb),fun u hu=>(by cases hu)⟩⟩)
 ·unfold aHy
  exact Ok.bind (aBk hN P) fun t _=>Ok.ite (fun _=>Ok.pure ⟨zH,w0,by simp,by simp⟩) fun _=>Ok.bind (aGI hN G) fun x hx=>Ok.eq (aX hx.1) (Ok.pure ⟨hx,P.gw,by simp,by simp⟩)
 ·obtain rfl:=a1g.1 hx;exact L
 obtain rfl:=a1g.1 hx;exact C
theorem aX3 {w:aV}(W:aAh 0 w∧aAk w){l:List Int}(hl:l.length≤8)(hs:Byt l):Ok (aDX N w l) fun w=>aAh l.length w∧aAk w:=by
 have wb:=W.1.b
 have wu:=W.1.u
 have wl:=W.1.ln
 have wc:=W.1.cn
 unfold aDX
 refine Ok.eq (dG (by omega) (by simp;omega)) (Ok.eq (dG (by omega) (by simp;omega)) (Ok.eq (dG (by omega) (by simp;omega)) (Ok.eq (dG (by omega) (by simp;omega)) ?_)))
 refine Ok.bind (P:=fun s=>aAh l.length (aV.mk w.Params s.1 s.2.1 s.2.2.1 s.2.2.2)∧aAk (aV.mk w.Params s.1 s.2.1 s.2.2.1 s.2.2.2)) ?_ fun s hs=>Ok.pure hs
 simp only[a2t]
 have:=lp (f:=fun m j (s:List aH×List aC×List bA×List aM)=>iB N w l m (j:Int) s.1 s.2.1 s.2.2.1 s.2.2.2) (Q:=fun s=>aAh l.length (aV.mk w.Params s.1 s.2.1 s.2.2.1 s.2.2.2)∧aAk (aV.mk w.Params s.1 s.2.1 s.2.2.1 s.2.2.2))
  (fun j s=>aAh j (aV.mk w.Params s.1 s.2.1 s.2.2.1 s.2.2.2)∧aAk (aV.mk w.Params s.1 s.2.1 s.2.2.1 s.2.2.2)) l.length (fun m j s hj hs' ih=> ?_) (fun m s hs'=> ?_) N 0 (w.Blocks,w.Ledgers,w.Contexts,w.Undos) (by omega) (by omega) W
 ·exact this
 ·obtain⟨l2,l3,l4,l5⟩:=s
  obtain⟨⟨P,b,u,ln,lk,cn,ck⟩,C0⟩:aAh j (aV.mk w.Params l2 l3 l4 l5)∧aAk (aV.mk w.Params l2 l3 l4 l5):=hs'
  have hnl:=C0.nl
  have hnu:=C0.nu
  simp only at P b u ln lk cn ck hnl hnu
  unfold iB
  rw[if_pos (dT hj),cR (a:=(l3.length:Int)-1) (by omega) (by omega),cR (a:=(l4.length:Int)-1) (by omega) (by omega),show(l3.length:Int)-1=((l3.length-1:Nat):Int) by omega,show(l4.length:Int)-1=((l4.length-1:Nat):Int) by omega]
  have L:=lk _ (a1c (show l3.length-1<l3.length by omega))
  have C:=ck _ (a1c (show l4.length-1<l4.length by omega))
  refine Ok.eq (aY _ hj) (Ok.eq (aY _ (show l3.length-1<l3.length by omega)) (Ok.eq (aY _ (show l4.length-1<l4.length by omega)) ?_))
  generalize l3[l3.length-1]=at_ at L
  generalize l4[l4.length-1]=c at C
  refine Ok.bind (aTi hN P (L.m (by omega)) (C.k (by omega)) (hs _ (a1c hj))) fun b' B=> ?_
  obtain⟨r,er,hr⟩:=aRf hN P L (by omega) B
  refine Ok.eq er ?_
  have j4: ∀t:Bool,(t=false→r.2.2=0)→Ok (tG N w l (j:Int) l2 l3 l4 l5 c b' r (iB N w l m) t) fun s=>aAh l.length (aV.mk w.Params s.1 s.2.1 s.2.2.1 s.2.2.2)∧aAk (aV.mk w.Params s.1 s.2.1 s.2.2.1 s.2.2.2):=by
   intro t ht
   unfold tG wY
   rw[i1 (by omega)]
   refine Ok.ite (fun _=>ih (l2,l3,l4,l5) ⟨⟨P,by simp only;omega,by simp only;omega,by simp only;omega,fun x hx=>(lk x hx).up (by omega),by simp only;omega,fun x hx=>(ck x hx).up (by omega)⟩,C0⟩) fun hf=> ?_
   have r0:=ht (by cases t;rfl;exact absurd rfl hf)
   obtain⟨L2,U2⟩:=hr r0
   refine Ok.bind (aRN hN P C (by omega) B.h) fun a A=>Ok.eq (dG (by omega) (by simp;omega)) (Ok.eq (dG (by omega) (by simp;omega)) (Ok.eq (dG (by omega) (by simp;omega)) (Ok.eq (dG (by omega) (by simp;omega)) ?_)))
   refine ih (_,_,_,_) ⟨⟨P,by simp;omega,by simp;omega,by simp;omega,fun x hx=> ?_,by simp;omega,fun x hx=> ?_⟩,⟨by simp;omega,by simp;omega,fun b hb=> ?_,fun u hu=> ?_⟩⟩
   ·rcases a1p.1 hx with hx|hx
    ·exact(lk x hx).up (by omega)
    obtain rfl:=a1g.1 hx;exact L2
   ·rcases a1p.1 hx with hx|hx
    ·exact(ck x hx).up (by omega)
    obtain rfl:=a1g.1 hx;exact A
   ·rcases a1p.1 hb with hb|hb
    ·exact C0.b b hb
    obtain rfl:=a1g.1 hb;exact B
   rcases a1p.1 hu with hu|hu
   ·exact C0.u u hu
   obtain rfl:=a1g.1 hu;exact U2
  exact Ok.ite (fun _=>j4 _ (by simp)) fun hne=>Ok.bind (aRp hN P C (by omega) B.h) fun e _=>j4 _ (fun _=>by simpa using hne)
 unfold iB
 rw[if_neg (by simp)]
 exact Ok.pure hs'
theorem aWP {v:Int}(h:0≤v∧v<256){nG:List Int}(hs:Byt nG):Ok (aDC N v nG) fun w=> ∃j,j≤8∧aAh j w∧aAk w:=by
 unfold aDC
 obtain⟨k,hk,h8,e⟩: ∃k:Nat,k≤nG.length∧k≤8∧(if(8:Int)<(nG.length:Int)then 8 else(nG.length:Int))=(k:Int):=by
  by_cases h8:8<nG.length
  ·exact⟨8,by omega,by omega,by rw[if_pos (by omega)];rfl⟩
  exact⟨nG.length,by omega,by omega,by rw[if_neg (by omega)]⟩
 refine Ok.bind (P:=fun s=>s.length≤8∧Byt s) ?_ fun s hs'=> ?_
 ·unfold aKl
  rw[e]
  refine Ok.eq (z8 (a:=0) (a18 k) hk) (Ok.pure ⟨by simp;omega,fun x hx=> ?_⟩)
  rw[a1X]at hx
  exact hs x (a1L hx)
 refine Ok.bind (P:=fun w=> ∃j,j≤8∧aAh j w∧aAk w) ?_ fun w hw=>Ok.pure hw
 unfold zM
 exact Ok.bind (aXN hN h) fun w W=>Ok.bind (aX3 hN W hs'.1 hs'.2) fun w' W'=>Ok.pure ⟨_,hs'.1,W'⟩
end
theorem CsW.take {n:Nat}{cs:List aA}(K:CsW n cs)(k:Nat):CsW n (cs.take k):=
 ⟨by rw[a1I];have:=K.n;omega,fun c hc=>K.c c (a1L hc),a1G (List.take_sublist _ _) K.s⟩
theorem aRR {α:Type}{P:α→Prop}{l:List α}{k:Nat}{c:α}(hl: ∀x∈l,P x)(hc:P c): ∀x∈l.set k c,P x:=fun x hx=>by
 rcases List.mem_or_eq_of_mem_set hx with h|h
 ·exact hl x h
 rw[h];exact hc
theorem CsW.set {n:Nat}{cs:List aA}(K:CsW n cs){k:Nat}(hk:k<cs.length){c:aA}(C:mI c)(e:c.Out=cs[k].Out):CsW n (cs.set k c):=by
 refine⟨by rw[a15];exact K.n,aRR K.c C, ?_⟩
 have s: ∀l:List aA,Srt l↔(l.map (·.Out)).Pairwise fun a b=>cQ a b<0:=fun l=>by rw[List.pairwise_map];rfl
 rw[s,List.map_set,e]
 have h:(cs.map (·.Out))[k]'(by simpa using hk)=cs[k].Out:=by simp
 rw[←h,a13]
 exact(s cs).1 K.s
theorem aVb {i n:Nat}(hi:i<256)(hn:0<n):rem (a1P.wrap (i:Int)) (n:Int)=some ((i%n:Nat):Int):=by
 unfold rem
 rw[if_neg (by omega),cR (by omega) (by omega)]
 rfl
section
variable {N:Nat}(hN:70000≤N)
include hN
theorem aYJ {a:aC}(ht:a.Tip.length=32)(hc: ∀c∈a.Coins,c.Out.Tx.length=32)(hn:a.Coins.length≤1000):aFq N a a=some true:=by
 have l2:kG N a.Coins a.Coins N 0=some (.brk ()):=by
  have:=aA4 (f:=kG N a.Coins a.Coins) (xs:=a.Coins) (p:=fun _=>true) (r:=false) (fun m i hi=>by
   rw[kG,dT hi,if_pos rfl,aY _ hi]
   simp only[a1a,aSC,aVC (hc _ (a1c hi)),i1 (show i≤100000 by omega)]
   rfl) (fun m i hi=>by rw[kG,dF (by omega)];rfl) N 0 (by omega) (by omega)
  rw[show((0:Nat):Int)=0 from rfl,a1X]at this
  rw[this,if_pos (by simp)]
 unfold aFq aBq
 rw[l2,aX ht]
 simp[yC,u1]
theorem aPp {l:aC}{b:aH}{sp cs:List aA}{tip:List Int}(W:CsW 500 cs)(ht:tip.length=32)(hsp: ∀c∈sp,mI c)(hl:sp.length≤10)(B:sX b)(hcb:fF N b=some 0→ ∀j (hj:j<b.Txs.length),cJ N b.Txs[j]=some ((j:Int) == 0)):
  dC N l b sp tip cs=some true:=by
 obtain⟨r,h1,h2,h3,h4,h5⟩:=aYz hN (l:=aC.mk l.Height tip cs) (u:=aM.mk sp) (n:=500) W (by omega) hsp hl B hcb ht
 unfold dC
 rw[h1,h2]
 simp only[a1a,beq_self_eq_true,if_true]
 rw[show aC.mk r.1.Height r.1.Tip r.1.Coins=r.1 from rfl,aYJ hN h3 h4 h5]
 rfl
theorem a0e {what vj:Int}{i:Nat}(hi:i<256){l:aC}{b:aH}{sp cs:List aA}(W:CsW 500 cs)(ht:l.Tip.length=32)(hsp: ∀c∈sp,mI c)(hl:sp.length≤10)(B:sX b)(hcb:fF N b=some 0→ ∀j (hj:j<b.Txs.length),cJ N b.Txs[j]=some ((j:Int) == 0)):
  cA N what (i:Int) vj l b cs sp=some true:=by
 have j5: ∀t:Bool,(t=true→0<cs.length)→e8 N what (i:Int) vj l b cs sp t=some true:=fun t h=>by
  unfold e8
  split
  ·rename_i h'
   have hp:=h h'
   rw[aVb hi hp]
   simp only[a1a]
   rw[show(0:Int)=((0:Nat):Int)from rfl,z8 (a18 _) (Nat.le_of_lt (a2u _ hp))]
   simp only[a1a,a1X]
   exact aPp hN (W.take _) ht hsp hl B hcb
  split
  ·rw[aX ht]
   obtain⟨y,hy,_⟩:=a0L (n:=32) (i:=0) (by omega) ht
   rw[show((0:Nat):Int)=0 from rfl]at hy
   rw[hy]
   simp only[a1a]
   exact aPp hN W (by rw[a15];exact ht) hsp hl B hcb
  exact aPp hN W ht hsp hl B hcb
 have j4: ∀t:Bool,(t=true→0<cs.length)→e7 N what (i:Int) vj l b cs sp t=some true:=fun t h=>by
  unfold e7
  split
  ·rename_i h'
   have hp:=h h'
   have hk:=a2u i hp
   have C:=W.c _ (a1c hk)
   rw[aVb hi hp]
   simp only[a1a]
   rw[aY _ hk]
   simp only[a1a,a2g]
   exact aPp hN (W.set hk ⟨C.o,C.p⟩ rfl) ht hsp hl B hcb
  split
  ·rename_i h'
   exact j5 _ fun _=>by simpa using h'
  exact j5 _ (by simp)
 unfold cA
 split
 ·rename_i h'
  exact j4 _ fun _=>by simpa using h'
 exact j4 _ (by simp)
theorem aHx {v:Int}{nG:List Int}{what vi vj:Int}(hs:yP N=some true)(hv:0≤v∧v<256)(hb:Byt nG)(hi:0≤vi∧vi<256):i6 N v nG what vi vj=some true:=by
 obtain⟨w,e,j,hj,W,U⟩:=aWP hN hv hb
 obtain⟨i,rfl⟩: ∃i:Nat,vi=i:=⟨vi.toNat,by omega⟩
 have hi:i<256:=by omega
 have wb:=W.b
 have nl:=U.nl
 have nu:=U.nu
 unfold i6
 rw[hs]
 simp only[a1a]
 rw[if_neg (by simp),e]
 simp only[a1a]
 by_cases h0:w.Blocks.length=0
 ·rw[if_pos (by simp[h0])]
 rw[if_neg (by simpa using h0)]
 have hB:w.Blocks.length-1<w.Blocks.length:=by omega
 rw[cR (a:=(w.Blocks.length:Int)-1) (by omega) (by omega),show(w.Blocks.length:Int)-1=((w.Blocks.length-1:Nat):Int) by omega,aY w.Ledgers (show w.Blocks.length<w.Ledgers.length by omega),aY w.Blocks hB,aY w.Undos (show w.Blocks.length-1<w.Undos.length by omega)]
 have L:=W.l _ (a1c (show w.Blocks.length<w.Ledgers.length by omega))
 have B:=U.b _ (a1c hB)
 have D:=U.u _ (a1c (show w.Blocks.length-1<w.Undos.length by omega))
 generalize w.Ledgers[w.Blocks.length]=l at L
 generalize w.Blocks[w.Blocks.length-1]=b at B
 generalize w.Undos[w.Blocks.length-1]=u at D
 have hcb:=a0J hN B
 have hc:=L.c.n
 have K:CsW 500 l.Coins:=⟨by omega,L.c.w.c,L.c.s⟩
 have hsp: ∀c∈u.Spent,mI c:=fun c hc=>(D.2 c hc).w
 have hu:=D.1
 simp only[a1a]
 rw[dG (by omega) (by simp;omega),dG (by omega) (by simp;omega)]
 simp only[a1a,a2t]
 have fin: ∀sp:List aA,(∀c∈sp,mI c)→sp.length≤10→cA N what (i:Int) vj l b l.Coins sp=some true:=fun sp h1 h2=>a0e hN hi K L.t.1 h1 h2 B hcb
 split
 ·rename_i h'
  have hp:0<u.Spent.length:=by simpa using h'
  have hk:=a2u i hp
  have C:=hsp _ (a1c hk)
  rw[aVb hi hp]
  simp only[a1a]
  rw[aY _ hk]
  simp only[a1a,a2g]
  have st: ∀c,mI c→cA N what (i:Int) vj l b l.Coins (u.Spent.set (i%u.Spent.length) c)=some true:=fun c hc=>fin _ (aRR hsp hc) (by rw[a15];omega)
  split
  ·exact st _ ⟨C.o,C.p⟩
  split
  ·exact st _ ⟨C.o,C.p⟩
  split
  ·rw[show(0:Int)=((0:Nat):Int)from rfl,z8 (a18 _) (Nat.le_of_lt hk)]
   simp only[a1a,a1X]
   exact fin _ (fun c hc=>hsp c (a1L hc)) (by rw[a1I];omega)
  split
  ·exact st _ ⟨⟨C.o.1,C.o.2⟩,C.p⟩
  exact fin _ hsp (by omega)
 exact fin _ hsp (by omega)
end
end Go.Proofs.YtopdhljncajmpaaGreatDoor
