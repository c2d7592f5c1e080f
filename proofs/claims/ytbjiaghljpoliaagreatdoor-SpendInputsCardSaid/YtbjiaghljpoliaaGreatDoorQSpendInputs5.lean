/- Texts of ours, joined: PlainC5, PlainC6, PlainC7, PlainK1, PlainK2, PlainK3, PlainK4, PlainK5, PlainK6, PlainK7, PlainK8, PlainK9, PlainK10, PlainSC, PlainY4, PlainYI, PlainY3, PlainXK, PlainYC, TyF. -/
import Derived.Test.YtbjiaghljpoliaaGreatDoorQSpendInputs4
open Option renaming bind_some → aVO
open Bool renaming false_eq_true → aVP,not_true → aV0,true_eq_false → aV9,not_eq_true' → aWb,and_eq_true → aWc
open List renaming drop_eq_getElem_cons → aVQ,drop_eq_nil_of_le → aVT,getElem_mem → aVU,drop_zero → aVV,getElem?_eq_getElem → aVW,getElem?_append_right → aVX,getD_eq_getElem?_getD → aVY,length_cons → aVZ,length_take → aV1,length_drop → aV2,take_of_length_le → aV3,append_nil → aV4,take_append_drop → aV5,set_append_right → aV6,mem_of_mem_drop → aV8,all_eq_true → aWd,drop_left' → aWg,take_left' → aWh
open Go.IntKind renaming i64 → aVR,wrap_u32 → aWe
open Int renaming toNat_natCast → aVS
open Nat renaming le_of_ble_eq_true → aV7,add_sub_cancel → aWa,le_refl → aWf
set_option linter.unusedSimpArgs false
set_option linter.unusedVariables false
set_option linter.unusedSectionVars false
namespace Go.Proofs.YtbjiaghljpoliaaGreatDoor
open Go Go.Vm
structure St where
 st:List (List Int)
 br:List aM
 c:Int
def uP (br:List aM):aM:=br.getD (br.length-1) ⟨true,true⟩
def aDc (o:aX)(br:List aM):Bool:=if o.Code=15∨o.Code=16 then(uP br).outer else(uP br).outer&&(uP br).taken
def aEY (N:Nat)(m:List Int)(h a:Int)(o:aX)(k:Bool)(s:St):Int×St:=
 if o.Code=14 then(0,⟨if k then s.st.take (s.st.length-1)else s.st,s.br++[⟨k,k&&r4 (fW s.st 1)⟩],s.c⟩)
 else if o.Code=15 then(0,⟨s.st,s.br.set (s.br.length-1) ⟨(uP s.br).outer,!(uP s.br).taken⟩,s.c⟩)
 else if o.Code=16 then(0,⟨s.st,s.br.take (s.br.length-1),s.c⟩)
 else if k then((xR N m h a o s.st).1,⟨(xR N m h a o s.st).2,s.br,s.c⟩)else(0,s)
def r5 (N:Nat)(m:List Int)(h a:Int)(o:aX)(s:St):Int×St:=
 if aDc o s.br then
  (if 500<s.c+oF o then(83,s)else if(s.st.length:Int)<nC o then(81,s)else aEY N m h a o true ⟨s.st,s.br,s.c+oF o⟩)
 else aEY N m h a o false s
def lX (N:Nat)(m:List Int)(h a:Int):List aX→St→Int×St
 | [],s=>(0,s)
 |o::r,s=>if(r5 N m h a o s).1=0 then lX N m h a r (r5 N m h a o s).2 else r5 N m h a o s
def oB :List aX→List Bool→Option (List Bool)
 | [],l=>some l
 |o::r,l=>
  if o.Code=14 then oB r (l++[false])
  else if o.Code=15 then(if l=[]then none else if l.getD (l.length-1) true=true then none else oB r (l.set (l.length-1) true))
  else if o.Code=16 then(if l=[]then none else oB r (l.take (l.length-1)))
  else oB r l
theorem aAU {n:Nat}(h1:1≤n)(h2:n≤100000):aVR.wrap ((n:Int)-1)=((n-1:Nat):Int):=by rw[cR (by omega) (by omega)];omega
theorem oP {α:Type}{l:List α}:l=[]↔l.length=0:=by cases l<;>simp
def aQ0 :Option (List Bool)→LR (List Bool) Bool
 |none=> .ret false
 |some l=> .brk l
theorem aKf (N:Nat)(l:List aX)(hl:l.length≤1000): ∀(f j:Nat)(op:List Bool),l.length-j<f→j≤l.length→op.length≤j→eC N l f (j:Int) op=some (aQ0 (oB (l.drop j) op))
 |0,j,op,hf,_,_=>by omega
 |f+1,j,op,hf,hj,ho=>by
  rw[eC]
  by_cases h:j<l.length
  ·rw[dT h,if_pos rfl,cL l h,aVQ h]
   simp only[aVO,oB,k4,qH,i1 (show j≤100000 by omega)]
   have ih:=fun op' (ho':op'.length≤j+1)=>aKf N l hl f (j+1) op' (by omega) (by omega) ho'
   by_cases h14:l[j].Code=14
   ·have:=jT
    rw[if_pos h14,h14,aBt (by simp;omega)]
    exact ih _ (by simp;omega)
   rw[if_neg h14,kB h14]
   by_cases h15:l[j].Code=15
   ·rw[if_pos h15,h15]
    by_cases h0:op=[]
    ·rw[if_pos h0,h0];rfl
    have h0':1≤op.length:=by have:=mt oP.2 h0;omega
    rw[if_neg h0,aAU h0' (by omega),show decide ((((op.length-1:Nat)):Int)<0)=false from decide_eq_false (by omega),cL op (show op.length-1<op.length by omega),show op.getD (op.length-1) true=op[op.length-1] by simp[show op.length-1<op.length by omega]]
    cases hh:op[op.length-1]
    ·simp only[aVP,if_false,aVO,aVS,show((15:Int) == 14)=false from rfl,show((15:Int) == 15)=true from rfl,if_true]
     exact ih _ (by simp;omega)
    rfl
   rw[if_neg h15,kB h15]
   by_cases h16:l[j].Code=16
   ·rw[if_pos h16,h16]
    by_cases h0:op=[]
    ·rw[if_pos h0,h0];rfl
    have h0':1≤op.length:=by have:=mt oP.2 h0;omega
    have e:sub op 0 ((op.length-1:Nat):Int)=some (op.take (op.length-1)):=by
     unfold sub;rw[if_pos ⟨by omega,by omega,by omega⟩];simp
    rw[if_neg h0,aAU h0' (by omega),show decide ((((op.length-1:Nat)):Int)<0)=false from decide_eq_false (by omega),e]
    exact ih _ (by simp;omega)
   rw[if_neg h16,kB h16]
   exact ih _ (by omega)
  rw[dF h,aVT (by omega)];rfl
def yH (l:List aX):Bool:=match oB l []with|none=>false|some q=>(q.length:Int) == 0
theorem aOZ {N:Nat}(hN:70000≤N){l:List aX}(hl:l.length≤1000):u7 N l=some (yH l):=by
 have:=aKf N l hl N 0 [] (by omega) (by omega) (by simp)
 rw[aVV,show((0:Nat):Int)=0 from rfl]at this
 unfold u7 yH
 rw[this]
 cases oB l []<;>rfl
section
variable {N:Nat}(hN:70000≤N){m:List Int}(hm:m.length=32)(hb:Byt m)
include hN hm hb
theorem aSp {h a:Int}{o:aX}(ho:VOp o){s:St}(hs:WS s.st)(hbr:s.br.length≤1000)(hc:0≤s.c∧s.c≤500)(h15:o.Code=15∨o.Code=16→s.br≠ []):
  ∃s',iX N m h a s.st s.br s.c o.Code o.Data o.M o.N=some ((r5 N m h a o s).1,m,h,a,s'.st,s'.br,s'.c)∧((r5 N m h a o s).1=0→s'=(r5 N m h a o s).2∧WS s'.st∧s.c≤s'.c∧s'.c≤500∧((o.Code=14→s'.br.length=s.br.length+1)∧(o.Code=16→s'.br.length=s.br.length-1)∧(o.Code≠14→o.Code≠16→s'.br.length=s.br.length))):=by
 have hp:=aJ8 ho
 have hbody: ∀(k:Bool)(c:Int),s.c≤c→c≤500→(k=true→nC o≤(s.st.length:Int))→ ∃s',iM N m h a s.st s.br o.Code o.Data o.M o.N k c=some ((aEY N m h a o k ⟨s.st,s.br,c⟩).1,m,h,a,s'.st,s'.br,s'.c)∧s'=(aEY N m h a o k ⟨s.st,s.br,c⟩).2∧WS s'.st∧s.c≤s'.c∧s'.c≤500∧((o.Code=14→s'.br.length=s.br.length+1)∧(o.Code=16→s'.br.length=s.br.length-1)∧(o.Code≠14→o.Code≠16→s'.br.length=s.br.length)):=by
  intro k c hc1 hc2 hk
  refine⟨_, ?_,rfl, ?_⟩
  all_goals unfold aEY
  ·unfold iM
   by_cases h14:o.Code=14
   ·rw[if_pos h14,h14]
    have:=jT
    cases k with
    |false=>
     simp only[aVP,if_false,show((14:Int) == 14)=true from rfl,if_true]
     rw[aBt (by simp;omega)];rfl
    |true=>
     have hn:=hk rfl
     unfold nC at hn
     simp[h14]at hn
     have q:=t5 hs (k:=1) (by omega) (by omega)
     have top:cW N m h a s.st s.br c=some (fW s.st 1):=by
      unfold cW
      rw[show((s.st.length:Nat):Int)-1=((s.st.length:Nat):Int)-((1:Nat):Int)from rfl,q.2.2];rfl
     simp only[show((14:Int) == 14)=true from rfl,if_true,top,aVO,aBB hN (show(fW s.st 1).length≤60000 by omega)]
     rw[aBt (by simp;omega)]
     simp only[aVO,kT,if_true]
     rw[show eQ N m h a s.st (s.br++[⟨true,r4 (fW s.st 1)⟩]) c 1=_ from aJb (k:=1) hs.len (by omega)]
     rfl
   rw[if_neg h14,kB h14]
   by_cases h15':o.Code=15
   ·have h0:=h15 (.inl h15')
    have h0':1≤s.br.length:=by have:=mt oP.2 h0;omega
    rw[if_pos h15',h15',aAU h0' (by omega),cL s.br (show s.br.length-1<s.br.length by omega)]
    simp only[show uP s.br=s.br[s.br.length-1] by simp[uP,show s.br.length-1<s.br.length by omega],aVS]
    rfl
   rw[if_neg h15',kB h15']
   by_cases h16:o.Code=16
   ·have h0:=h15 (.inr h16)
    have h0':1≤s.br.length:=by have:=mt oP.2 h0;omega
    have e:sub s.br 0 ((s.br.length-1:Nat):Int)=some (s.br.take (s.br.length-1)):=by
     unfold sub;rw[if_pos ⟨by omega,by omega,by omega⟩];simp
    rw[if_pos h16,h16,aAU h0' (by omega),e];rfl
   rw[if_neg h16,kB h16]
   cases k with
   |true=>simp only[aVP,if_false,if_true,aQM hN hm hb ho hs (hk rfl),aVO]
   |false=>rfl
  by_cases h14:o.Code=14
  ·simp only[if_pos h14]
   refine⟨?_,hc1,hc2,fun _=>by simp,fun h=>by omega,fun h=>absurd h14 h⟩
   cases k
   ·exact hs
   exact hs.take _
  simp only[if_neg h14]
  by_cases h15':o.Code=15
  ·simp only[if_pos h15']
   exact⟨hs,hc1,hc2,fun h=>by omega,fun h=>by omega,fun _ _=>by simp⟩
  simp only[if_neg h15']
  by_cases h16:o.Code=16
  ·simp only[if_pos h16]
   exact⟨hs,hc1,hc2,fun h=>by omega,fun h=>by simp,fun _ h=>by omega⟩
  simp only[if_neg h16]
  cases k with
  |true=>exact⟨aP0 hN hm hb ho hs (hk rfl),hc1,hc2,fun h=>by omega,fun h=>by omega,fun _ _=>rfl⟩
  |false=>exact⟨hs,hc1,hc2,fun h=>by omega,fun h=>by omega,fun _ _=>rfl⟩
 have hJ:iX N m h a s.st s.br s.c o.Code o.Data o.M o.N=iS N m h a s.st s.br s.c o.Code o.Data o.M o.N (aDc o s.br):=by
  unfold iX oY aDc
  by_cases h0:s.br=[]
  ·have: ¬(o.Code=15∨o.Code=16):=fun h=>h15 h h0
   rw[h0,if_neg this]
   simp only[iQ,kB (fun h=>this (.inl h)),kB (fun h=>this (.inr h))]
   rfl
  have h0':1≤s.br.length:=by have:=mt oP.2 h0;omega
  rw[show(((s.br.length:Nat):Int) == 0)=false from kB (by omega),aAU h0' (by omega),cL s.br (show s.br.length-1<s.br.length by omega),show uP s.br=s.br[s.br.length-1] by simp[uP,show s.br.length-1<s.br.length by omega]]
  simp only[iQ,aAU h0' (show s.br.length≤100000 by omega),cL s.br (show s.br.length-1<s.br.length by omega),jH,aVO,aVP,if_false]
  by_cases h15':o.Code=15
  ·rw[if_pos (show o.Code=15∨o.Code=16 from .inl h15'),h15']
   cases s.br[s.br.length-1].outer<;>rfl
  by_cases h16:o.Code=16
  ·rw[if_pos (show o.Code=15∨o.Code=16 from .inr h16),h16]
   cases s.br[s.br.length-1].outer<;>rfl
  rw[if_neg (show¬(o.Code=15∨o.Code=16) by omega),kB h15',kB h16]
  cases s.br[s.br.length-1].outer<;>rfl
 rw[hJ]
 unfold iS r5
 cases aDc o s.br with
 |false=>
  obtain⟨s',h1,h2⟩:=hbody false s.c (Int.le_refl _) hc.2 (fun h=>by cases h)
  exact⟨s',h1,fun _=>h2⟩
 |true=>
  simp only[if_true,aK6 N ho,aPN N ho,aVO]
  rw[cR (a:=s.c+oF o) (by omega) (by omega)]
  by_cases h5:500<s.c+oF o
  ·rw[decide_eq_true h5,if_pos h5]
   exact⟨⟨s.st,s.br,s.c+oF o⟩,rfl,fun h=>by cases h⟩
  rw[decide_eq_false h5,if_neg h5]
  simp only[aVP,if_false]
  by_cases h6:(s.st.length:Int)<nC o
  ·rw[decide_eq_true h6,if_pos h6]
   exact⟨⟨s.st,s.br,s.c+oF o⟩,rfl,fun h=>by cases h⟩
  rw[decide_eq_false h6,if_neg h6]
  obtain⟨s',h1,h2⟩:=hbody true (s.c+oF o) (by omega) (by omega) (fun _=>by omega)
  exact⟨s',h1,fun _=>h2⟩
end
theorem aJR {o:aX}{r:List aX}{l q:List Bool}(h:oB (o::r) l=some q):(o.Code=15∨o.Code=16→l≠ [])∧ ∃l',oB r l'=some q∧(o.Code=14→l'.length=l.length+1)∧(o.Code=16→l'.length=l.length-1)∧(o.Code≠14→o.Code≠16→l'.length=l.length):=by
 simp only[oB]at h
 by_cases h14:o.Code=14
 ·rw[if_pos h14]at h
  exact⟨fun h=>by omega,_,h,fun _=>by simp,fun h=>by omega,fun h=>absurd h14 h⟩
 rw[if_neg h14]at h
 by_cases h15:o.Code=15
 ·rw[if_pos h15]at h
  by_cases h0:l=[]
  ·rw[if_pos h0]at h;cases h
  rw[if_neg h0]at h
  by_cases h1:l.getD (l.length-1) true=true
  ·rw[if_pos h1]at h;cases h
  rw[if_neg h1]at h
  exact⟨fun _=>h0,_,h,fun h=>by omega,fun h=>by omega,fun _ _=>by simp⟩
 rw[if_neg h15]at h
 by_cases h16:o.Code=16
 ·rw[if_pos h16]at h
  by_cases h0:l=[]
  ·rw[if_pos h0]at h;cases h
  rw[if_neg h0]at h
  exact⟨fun _=>h0,_,h,fun h=>by omega,fun h=>by simp,fun _ h=>by omega⟩
 rw[if_neg h16]at h
 exact⟨fun h=>by omega,_,h,fun h=>by omega,fun h=>by omega,fun _ _=>rfl⟩
structure OkS (s:St):Prop where
 ws:WS s.st
 c:0≤s.c∧s.c≤500
def aPQ (m:List Int)(h a:Int)(x:Int×St):LR ((List Int)×Int×Int×Int×(List (List Int))×(List aM)) ((List (List Int))×Int×Int):=
 if x.1=0 then .brk (m,h,a,x.2.c,x.2.st,x.2.br)else .ret ([],0,x.1)
section
variable {N:Nat}(hN:70000≤N){m:List Int}(hm:m.length=32)(hb:Byt m)
include hN hm hb
theorem aHo {h a:Int}{o:aX}{r:List aX}(ho:VOp o){s:St}(hs:OkS s){l q:List Bool}(hl:s.br.length=l.length)(hn:oB (o::r) l=some q)(hbr:s.br.length≤1000):
  ∃s',iX N m h a s.st s.br s.c o.Code o.Data o.M o.N=some ((r5 N m h a o s).1,m,h,a,s'.st,s'.br,s'.c)∧((r5 N m h a o s).1=0→s'=(r5 N m h a o s).2∧OkS s'∧s.c≤s'.c∧s'.br.length≤s.br.length+1∧ ∃l',s'.br.length=l'.length∧oB r l'=some q):=by
 obtain⟨n1,l',n2,n3,n4,n5⟩:=aJR hn
 obtain⟨s',h1,h2⟩:=aSp hN hm hb (h:=h) (a:=a) ho hs.ws hbr hs.c (fun h e=>n1 h (oP.2 (by rw[←hl,e];rfl)))
 refine⟨s',h1,fun he=> ?_⟩
 obtain⟨e,g1,g2,g3,g4,g5,g6⟩:=h2 he
 have hc:=hs.c
 refine⟨e,⟨g1,by omega,g3⟩,g2, ?_,l', ?_,n2⟩
 ·by_cases h14:o.Code=14
  ·rw[g4 h14];omega
  by_cases h16:o.Code=16
  ·rw[g5 h16];omega
  rw[g6 h14 h16];omega
 by_cases h14:o.Code=14
 ·rw[g4 h14,n3 h14,hl]
 by_cases h16:o.Code=16
 ·rw[g5 h16,n4 h16,hl]
 rw[g6 h14 h16,n5 h14 h16,hl]
theorem aMZ {h a:Int}: ∀(r:List aX)(s:St)(l q:List Bool),(∀o∈r,VOp o)→OkS s→s.br.length=l.length→oB r l=some q→s.br.length+r.length≤1000→(lX N m h a r s).1=0→OkS (lX N m h a r s).2∧s.c≤(lX N m h a r s).2.c∧(lX N m h a r s).2.br.length=q.length
 | [],s,l,q,_,hs,hl,hn,_,_=>by
  injection hn with hn
  exact⟨hs,Int.le_refl _,hn▸hl⟩
 |o::r,s,l,q,hv,hs,hl,hn,hlen,he=>by
  simp only[aVZ]at hlen
  obtain⟨s',h1,h2⟩:=aHo hN hm hb (h:=h) (a:=a) (hv o (by simp)) hs hl hn (by omega)
  simp only[lX]at he⊢
  by_cases h0:(r5 N m h a o s).1=0
  ·simp only[if_pos h0]at he⊢
   obtain⟨e,g1,g2,g3,l',g4,g5⟩:=h2 h0
   rw[←e]at he⊢
   obtain⟨k1,k2,k3⟩:=aMZ r s' l' q (fun o ho=>hv o (by simp[ho])) g1 g4 g5 (by omega) he
   exact⟨k1,by omega,k3⟩
  rw[if_neg h0]at he
  exact absurd he h0
theorem aK4 {h a:Int}(ops:List aX)(e:Int)(hv: ∀o∈ops,VOp o)(ho:ops.length≤600): ∀(f j:Nat)(s:St)(l q:List Bool),ops.length-j<f→j≤ops.length→OkS s→s.br.length=l.length→oB (ops.drop j) l=some q→s.br.length≤j→
  mZ N (ops,e) f (j:Int) m h a s.c s.st s.br=some (aPQ m h a (lX N m h a (ops.drop j) s))
 |0,j,s,l,q,hf,_,_,_,_,_=>by omega
 |f+1,j,s,l,q,hf,hj,hs,hl,hn,hbr=>by
  rw[mZ]
  by_cases hlt:j<ops.length
  ·rw[aVQ hlt]at hn⊢
   obtain⟨s',h1,h2⟩:=aHo hN hm hb (h:=h) (a:=a) (hv _ (aVU hlt)) hs hl hn (by omega)
   rw[dT hlt,if_pos rfl,cL ops hlt]
   simp only[aVO,h1,lX]
   by_cases h0:(r5 N m h a ops[j] s).1=0
   ·obtain⟨e',g1,g2,g3,l',g4,g5⟩:=h2 h0
    rw[h0,if_pos rfl,←e',show((0:Int) != 0)=false from rfl,i1 (by omega)]
    exact aK4 ops e hv ho f (j+1) s' l' q (by omega) (by omega) g1 g4 g5 (by omega)
   rw[if_neg h0,show((r5 N m h a ops[j] s).1 != 0)=true by simpa using h0]
   simp only[if_true,aPQ,if_neg h0]
  rw[dF hlt,aVT (by omega)];rfl
end
section
variable {N:Nat}(hN:70000≤N)
include hN
theorem aJS {st:List (List Int)}(hl:st.length≤1000)(h: ∀x∈st,x.length≤520):rH N st=some st:=by
 have lp: ∀(f j:Nat)(acc:List (List Int)),st.length-j<f→j≤st.length→acc.length≤j→k6 N st f (j:Int) acc=some (acc++st.drop j):=by
  intro f
  induction f with
  |zero=>intro j acc hf;omega
  |succ f ih=>
   intro j acc hf hj ha
   rw[k6]
   by_cases hlt:j<st.length
   ·have hx:=h _ (aVU hlt)
    rw[dT hlt,if_pos rfl,cL st hlt]
    simp only[aVO]
    rw[aTg hN [st[j]] (by simp) (by simp;omega)]
    simp only[aVO,List.flatten_cons,List.flatten_nil,aV4]
    rw[aBh (by simp;omega)]
    simp only[aVO,i1 (show j≤100000 by omega)]
    rw[ih (j+1) _ (by omega) (by omega) (by simp;omega),aVQ hlt,List.append_assoc]
    rfl
   rw[dF hlt,aVT (by omega),aV4];rfl
 have:=lp N 0 [] (by omega) (by omega) (by simp)
 rw[show((0:Nat):Int)=0 from rfl]at this
 simp only[rH,this,aVO,uS,List.nil_append,aVV]
def y8 (st:List (List Int)):Bool:= !decide (64<st.length)&&st.all fun x=> !decide (520<(x.length:Int))
theorem aN9 (st:List (List Int)):t4 N st=some (y8 st):=by
 unfold t4 y8
 by_cases hl:64<st.length
 ·rw[show decide ((64:Int)<((st.length:Nat):Int))=true from decide_eq_true (by omega),decide_eq_true hl];rfl
 have:=nF (f:=iT N st) (xs:=st) (p:=fun x=> !decide (520<(x.length:Int))) (r:=false) (fun m j hj=>by
  rw[iT,dT hj,if_pos rfl,cL st hj]
  simp only[aVO,i1 (show j≤100000 by omega)]
  cases decide (520<((st[j].length:Nat):Int))<;>rfl) (fun m j hj=>by rw[iT,dF (by omega)];rfl) N 0 (by omega) (by omega)
 rw[show((0:Nat):Int)=0 from rfl,aVV]at this
 rw[show decide ((64:Int)<((st.length:Nat):Int))=false from decide_eq_false (by omega),decide_eq_false hl,this]
 cases st.all fun x=> !decide (520<(x.length:Int))<;>rfl
end
theorem aGg {st:List (List Int)}(hb: ∀x∈st,Byt x):y8 st=true↔WS st:=by
 unfold y8
 constructor
 ·intro h
  simp only[aWc,aWd,aWb,decide_eq_false_iff_not]at h
  exact⟨by omega,fun x hx=>⟨hb x hx,by have:=h.2 x hx;omega⟩⟩
 intro h
 simp only[aWc,aWd,aWb,decide_eq_false_iff_not]
 exact⟨by have:=h.len;omega,fun x hx=>by have:=(h.it x hx).2;omega⟩
def aAo (N:Nat)(b:List Int)(st:List (List Int))(m:List Int)(h a:Int):List (List Int)×Int×Int:=
 if(cN b).2≠0 then([],0,(cN b).2)else if yH (cN b).1=false then([],0,86)else if y8 st=false then([],0,4)
 else if(lX N m h a (cN b).1 ⟨st,[],0⟩).1=0 then((lX N m h a (cN b).1 ⟨st,[],0⟩).2.st,(lX N m h a (cN b).1 ⟨st,[],0⟩).2.c,0)else([],0,(lX N m h a (cN b).1 ⟨st,[],0⟩).1)
theorem aHe {l:List aX}:yH l=true↔oB l []=some []:=by
 unfold yH
 cases oB l [] with
 |none=>simp
 |some q=>cases q<;>simp;omega
section
variable {N:Nat}(hN:70000≤N){m:List Int}(hm:m.length=32)(hb:Byt m)
include hN hm hb
theorem aM2 {b:List Int}(hbb:Byt b){st:List (List Int)}(h a:Int)(hp:(cN b).2=0)(hn:yH (cN b).1=true)(hw:WS st)(he:(lX N m h a (cN b).1 ⟨st,[],0⟩).1=0):OkS (lX N m h a (cN b).1 ⟨st,[],0⟩).2∧(lX N m h a (cN b).1 ⟨st,[],0⟩).2.br=[]:=by
 obtain⟨p1,p2,_⟩:=aD3 hbb hp
 obtain⟨g1,_,g3⟩:=aMZ hN hm hb (h:=h) (a:=a) (cN b).1 ⟨st,[],0⟩ [] [] p1 ⟨hw,by simp⟩ rfl (aHe.1 hn) (by simp;omega) he
 exact⟨g1,oP.2 g3⟩
theorem aOB {b:List Int}(hbb:Byt b){st:List (List Int)}(hst: ∀x∈st,Byt x)(h a:Int):aBf N b st m h a=some (aAo N b st m h a):=by
 unfold aBf aAo
 rw[aP6 hN hbb]
 simp only[aVO]
 by_cases hp:(cN b).2=0
 ·obtain⟨p1,p2,_⟩:=aD3 hbb hp
  rw[if_neg (by simpa using hp),hp,aOZ hN (by omega),aN9 hN]
  simp only[aVO,show((0:Int) != 0)=false from rfl,aVP,if_false]
  cases hn:yH (cN b).1 with
  |false=>rfl
  |true=>
   cases hB:y8 st with
   |false=>rfl
   |true=>
    have hw:=(aGg hst).1 hB
    have hl:=hw.len
    have lp:=aK4 hN hm hb (h:=h) (a:=a) (cN b).1 (cN b).2 p1 (by omega) N 0 ⟨st,[],0⟩ [] [] (by omega) (by omega) ⟨hw,by simp⟩ rfl (aHe.1 hn) (by simp)
    rw[show((0:Nat):Int)=0 from rfl,aVV]at lp
    simp only[aV0,aVP,aV9,if_false,aJS hN (show st.length≤1000 by omega) (fun x hx=>(hw.it x hx).2),aVO]
    rw[show(mZ N (cN b) N 0 m h a 0 st [])=_ from lp]
    simp only[aVO,aPQ]
    by_cases he:(lX N m h a (cN b).1 ⟨st,[],0⟩).1=0
    ·obtain⟨g1,_⟩:=aM2 hN hm hb hbb h a hp hn hw he
     have gl:=g1.ws.len
     rw[if_pos he,if_pos he]
     simp only[aAj,aJS hN (show(lX N m h a (cN b).1 ⟨st,[],0⟩).2.st.length≤1000 by omega) (fun x hx=>(g1.ws.it x hx).2),aVO]
     rfl
    rw[if_neg he,if_neg he];rfl
 rw[if_pos hp,show((cN b).2 != 0)=true by simpa using hp];rfl
end
def aPi (r:List (List Int)×Int×Int):Int:=if r.2.2≠0 then r.2.2 else if r.1.length≠1 then 81 else if r4 (r.1.getD 0 [])then 0 else 84
section
variable {N:Nat}(hN:70000≤N){m:List Int}(hm:m.length=32)(hb:Byt m)
include hN hm hb
theorem aRE {b:List Int}(hbb:Byt b){st:List (List Int)}(hst: ∀x∈st,Byt x){h a:Int}(h0:(aAo N b st m h a).2.2=0):(cN b).2=0∧yH (cN b).1=true∧WS st∧(lX N m h a (cN b).1 ⟨st,[],0⟩).1=0∧OkS (lX N m h a (cN b).1 ⟨st,[],0⟩).2∧(lX N m h a (cN b).1 ⟨st,[],0⟩).2.br=[]∧aAo N b st m h a=((lX N m h a (cN b).1 ⟨st,[],0⟩).2.st,(lX N m h a (cN b).1 ⟨st,[],0⟩).2.c,0):=by
 unfold aAo at h0⊢
 by_cases hp:(cN b).2≠0
 ·rw[if_pos hp]at h0;exact absurd h0 hp
 simp only[if_neg hp]at h0⊢
 by_cases hn:yH (cN b).1=false
 ·rw[if_pos hn]at h0;cases h0
 simp only[if_neg hn]at h0⊢
 by_cases hB:y8 st=false
 ·rw[if_pos hB]at h0;cases h0
 simp only[if_neg hB]at h0⊢
 by_cases he:(lX N m h a (cN b).1 ⟨st,[],0⟩).1=0
 ·have hn':yH (cN b).1=true:=by simpa using hn
  have hw:=(aGg hst).1 (by simpa using hB)
  have hp':(cN b).2=0:=by simpa using hp
  obtain⟨g1,g2⟩:=aM2 hN hm hb hbb h a hp' hn' hw he
  rw[if_pos he]
  exact⟨hp',hn',hw,he,g1,g2,rfl⟩
 rw[if_neg he]at h0;exact absurd h0 he
theorem aOg {b:List Int}(hbb:Byt b){st:List (List Int)}(hst: ∀x∈st,Byt x)(h a:Int):nG N b st m h a=some (aPi (aAo N b st m h a)):=by
 unfold nG aPi
 rw[aOB hN hm hb hbb hst]
 simp only[aVO]
 by_cases h0:(aAo N b st m h a).2.2=0
 ·obtain⟨_,_,_,_,g,_,e⟩:=aRE hN hm hb hbb hst h0
  rw[if_neg (show¬(aAo N b st m h a).2.2≠0 from fun h=>h h0),show((aAo N b st m h a).2.2 != 0)=false by simpa using h0]
  simp only[aVP,if_false]
  have hw: ∀x∈(aAo N b st m h a).1,x.length≤520:=fun x hx=>by rw[e]at hx;exact(g.ws.it x hx).2
  generalize (aAo N b st m h a).1=l at hw⊢
  match l with
  | []=>rfl
  | [x]=>
   have hx:=hw x (by simp)
   simp only[aEG,aVO,aBB hN (show x.length≤60000 by omega)]
   show(if(!r4 x)=true then some 84 else some 0)=some (if r4 x=true then 0 else 84)
   cases r4 x<;>rfl
  |x::y::r=>
   have e1:((((x::y::r).length:Nat):Int) != 1)=true:=by simp;omega
   have e2:(x::y::r).length≠1:=by simp
   rw[e1,if_pos e2];rfl
 rw[if_pos h0,show((aAo N b st m h a).2.2 != 0)=true by simpa using h0];rfl
end
theorem aMR (N:Nat)(b:List Int): ∀(m:Nat)(x:Int),o6 N b m x=g8 N b m x
 |0,_=>rfl
 |m+1,x=>by simp only[o6,g8,aMR N b m]
theorem aHf (N:Nat)(b:List Int):pL N b=kR N b:=by
 unfold pL kR
 rw[aMR]
 rfl
theorem aOL (N:Nat)(b:List Int): ∀(m:Nat)(v x:Int),lR N b m v x=iC N b m v x
 |0,_,_=>rfl
 |m+1,v,x=>by simp only[lR,iC,aOL N b m]
theorem aS9 (N:Nat)(b:List Int)(t:Bool):mG N b t=gF N b t:=by
 unfold mG gF
 rw[aOL]
 rfl
theorem aR1 (N:Nat)(b:List Int):yE N b=kW N b:=by
 unfold yE kW
 simp only[aS9]
theorem aHW (N:Nat)(b:List Int)(now:Int):tC N b now=mS N b now:=by
 unfold tC mS
 rw[aR1]
theorem aMU (N:Nat): ∀(m n:Nat)(acc:List Int),n<4294967296→o8 N m (n:Int) acc=fF N m (n:Int) acc
 |0,_,_,_=>rfl
 |m+1,n,acc,hn=>by
  have h1:shr .u32 (n:Int) 8=some ((n/256:Nat):Int):=by
   rw[show(8:Int)=((8:Nat):Int)from rfl,aAz (k:= .u32) _ _ (show n<2^32 by omega)]
  have h2:IntKind.u32.wrap (Int.tdiv (n:Int) 256)=((n/256:Nat):Int):=by
   rw[show(256:Int)=((256:Nat):Int)from rfl,sN,aWe]
   omega
  simp only[o8,fF,h1,h2,aVO,aMU N m (n/256) _ (show n/256<4294967296 by omega)]
theorem aHa (N:Nat){n:Nat}(hn:n<4294967296):uF N (n:Int)=iP N (n:Int):=by
 unfold uF iP
 rw[aMU N N n [] hn]
 rfl
theorem aOV (N:Nat)(v:Bool):n9 N v=lN N v:=by
 unfold n9 lN
 rw[show(1:Int)=((1:Nat):Int)from rfl,show(0:Int)=((0:Nat):Int)from rfl,aHa N (by omega),aHa N (by omega)]
section
variable {N:Nat}(hN:70000≤N)
theorem aOb (N:Nat){st:List (List Int)}(hl:st.length≤1000)(x:List Int):oH N st x=some (if 64≤st.length then([],4)else(st++[x],0)):=by
 unfold oH
 by_cases h:64≤st.length
 ·rw[if_pos (decide_eq_true (show(64:Int)≤(st.length:Int) by omega)),if_pos h]
 have e:sub st 0 (st.length:Int)=some st:=by
  unfold sub;rw[if_pos ⟨by omega,by omega,by omega⟩];simp
 rw[if_neg (show¬decide ((64:Int)≤(st.length:Int))=true by simp;omega),if_neg h,e,aVO,aBh (by simp;omega),aVO]
include hN
theorem aPF (st:List (List Int)):aBu N st=some (!y8 st):=by
 unfold aBu y8
 by_cases hl:64<st.length
 ·rw[if_pos (decide_eq_true (show(64:Int)<(st.length:Int) by omega)),decide_eq_true hl];rfl
 rw[if_neg (show¬decide ((64:Int)<(st.length:Int))=true by simp;omega),decide_eq_false hl]
 have:=nF (f:=mT N st) (xs:=st) (p:=fun x=> !decide (520<(x.length:Int))) (r:=true) (fun m j hj=>by
  rw[mT,dT hj,if_pos rfl,cL st hj,aVO,i1 (show j≤100000 by omega)]
  cases decide (520<((st[j].length:Nat):Int))<;>rfl) (fun m j hj=>by rw[mT,dF (by omega)];rfl) N 0 (by omega) (by omega)
 rw[show((0:Nat):Int)=0 from rfl,aVV]at this
 rw[this,aVO]
 cases st.all fun x=> !decide (520<(x.length:Int))<;>rfl
theorem aN0 {l:List (List Int)}(hn:l.length≤64)(hx: ∀x∈l,x.length≤520):wT N l=some l:=by
 have key: ∀(f j:Nat)(acc:List (List Int)),l.length-j<f→j≤l.length→acc.length=j→kI N l f (j:Int) acc=some (acc++l.drop j):=by
  intro f
  induction f with
  |zero=>intro j acc hf _ _;omega
  |succ f ih=>
   intro j acc hf hj ha
   rw[kI]
   by_cases h:j<l.length
   ·have hj':=hx _ (aVU h)
    rw[dT h,if_pos rfl,cL l h,aVO,aKJ hN _ (by simp) (by simp;omega),aVO,aBh (by simp;omega),aVO,i1 (by omega),ih (j+1) _ (by omega) (by omega) (by simp[ha]),aVQ h]
    simp
   rw[dF h,aVT (by omega),aV4]
   rfl
 have hk:=key N 0 [] (by omega) (by omega) rfl
 unfold wT
 rw[aEy (by have:=jT;omega),aVO,show kI N l N 0 []=_ from hk,aVO]
 rfl
end
theorem aMn (N:Nat){d:List Int}(hl:d.length≤255):nZ N 1 d 0 0=some 0:=by
 have h255:decide ((255:Int)<(d.length:Int))=false:=decide_eq_false (by omega)
 unfold nZ nO nR iR iL
 rw[h255]
 cases decide ((0:Int)<(d.length:Int))<;>rfl
theorem aMk (N:Nat){x:Int}(h:1≤x∧x≤17)(h11:x≠11):nZ N x [] 0 0=some 0:=by
 unfold nZ nO nR iR iL
 rw[decide_eq_false (show¬x<1 by omega),decide_eq_false (show¬17<x by omega),show(x == 11)=false by simpa using h11]
 rfl
theorem aMd (N:Nat)(m n:Int):nZ N 11 [] m n=some (if wG m n=true then 0 else 5):=by
 have hJ:iR N 11 [] m n false=some (if wG m n=true then 0 else 5):=by
  unfold iR iL wG
  by_cases h1:n<1
  ·rw[decide_eq_true h1,decide_eq_false (show¬1≤n by omega)];rfl
  rw[decide_eq_false h1,decide_eq_true (show 1≤n by omega)]
  by_cases h2:15<n
  ·rw[decide_eq_true h2,decide_eq_false (show¬n≤15 by omega)];rfl
  rw[decide_eq_false h2,decide_eq_true (show n≤15 by omega)]
  by_cases h3:m<1
  ·rw[decide_eq_true h3,decide_eq_false (show¬1≤m by omega)];rfl
  rw[decide_eq_false h3,decide_eq_true (show 1≤m by omega)]
  by_cases h4:n<m
  ·rw[decide_eq_true h4,decide_eq_false (show¬m≤n by omega)];rfl
  rw[decide_eq_false h4,decide_eq_true (show m≤n by omega)];rfl
 unfold nZ nO nR
 rw[show((11:Int) != 11)=false from rfl,hJ]
 cases m != 0<;>cases n != 0<;>rfl
theorem aRs {N:Nat}(hN:70000≤N){x:Int}{r:List Int}(hb:Byt (x::r))(hl:r.length≤100000):
  ∃y,aCm N (x::r)=some y∧y.2.2.2.2.2=(eX x r).2.2∧((eX x r).2.2=0→y=((eX x r).1.Code,(eX x r).1.Data,(eX x r).1.M,(eX x r).1.N,(eX x r).2.1,0)):=by
 have hx:=hb x (by simp)
 have wx:aVR.wrap x=x:=cR (by omega) (by omega)
 unfold aCm eX
 rw[aEG,aVO,wx]
 by_cases h0:x<1∨17<x
 ·rw[if_pos h0]
  refine⟨(0,[],0,0,[],80), ?_,rfl,fun h=>by cases h⟩
  rcases h0 with h|h
  ·rw[decide_eq_true h];rfl
  rw[decide_eq_false (show¬x<1 by omega),decide_eq_true h];rfl
 rw[if_neg h0,decide_eq_false (show¬x<1 by omega),decide_eq_false (show¬17<x by omega)]
 rw[if_neg (show¬(false=true) by decide)]
 unfold wK
 rw[if_neg (show¬(false=true) by decide),aTK,aVO,wx]
 by_cases h1:x=1
 ·subst h1
  rw[if_pos (show((1:Int) == 1)=true from rfl),if_pos rfl]
  match r,hb,hl with
  | [],_,_=>exact⟨(0,[],0,0,[],1),rfl,rfl,fun h=>by cases h⟩
  |n::r',hb,hl=>
   have hn:=hb n (by simp)
   have wn:aVR.wrap n=n:=cR (by omega) (by omega)
   have hl':r'.length≤100000:=by simp at hl;omega
   rw[if_neg (show¬((((n::r').length:Nat):Int) == 0)=true by simp;omega),aEG,aVO,wn,show(((n::r').length:Nat):Int)-1=(r'.length:Int) by simp,cR (a:=(r'.length:Int)) (by omega) (by omega)]
   dsimp only
   unfold wO
   by_cases h2:(r'.length:Int)<n
   ·rw[decide_eq_true h2,if_pos rfl,if_pos h2]
    exact⟨(0,[],0,0,[],1),rfl,rfl,fun h=>by cases h⟩
   rw[decide_eq_false h2,if_neg (show¬(false=true) by decide),if_neg h2,aEG,aVO,wn,cR (a:=1+n) (by omega) (by omega)]
   have e1:sub (n::r') 1 (1+n)=some (r'.take n.toNat):=by
    unfold sub
    rw[if_pos ⟨by omega,by omega,by rw[aVZ];omega⟩,show(1+n).toNat=n.toNat+1 by omega]
    rfl
   have e2:sub (n::r') (1+n) (((n::r').length:Nat):Int)=some (r'.drop n.toNat):=by
    unfold sub
    rw[if_pos ⟨by omega,by rw[aVZ];omega,by omega⟩,aVS,aV3 (aWf _),show(1+n).toNat=n.toNat+1 by omega]
    rfl
   have hlt:(r'.take n.toNat).length≤255:=by rw[aV1];omega
   rw[e1,aVO,aKJ hN _ (by simp) (by simp;omega),aVO,e2,aVO]
   unfold oM
   rw[show aVR.wrap 1=1 by decide +kernel,show[r'.take n.toNat].flatten=r'.take n.toNat by simp,aMn N hlt,aVO]
   exact⟨_,rfl,rfl,fun _=>rfl⟩
 rw[if_neg (show¬(x == 1)=true by simpa using h1),if_neg h1]
 by_cases h2:x=11
 ·subst h2
  rw[if_pos (show((11:Int) == 11)=true from rfl),if_pos rfl]
  match r,hb,hl with
  | [],_,_=>exact⟨(0,[],0,0,[],1),rfl,rfl,fun h=>by cases h⟩
  | [_],_,_=>exact⟨(0,[],0,0,[],1),rfl,rfl,fun h=>by cases h⟩
  |m::n::r',hb,hl=>
   have hm:=hb m (by simp)
   have hn:=hb n (by simp)
   rw[if_neg (show¬decide ((((m::n::r').length:Nat):Int)<2)=true by simp;omega),aEG,aVO,aSY,aVO,aTf,aVO,cR (a:=m) (by omega) (by omega),cR (a:=n) (by omega) (by omega)]
   dsimp only
   unfold oM
   rw[show aVR.wrap 11=11 by decide +kernel,aMd,aVO]
   by_cases h3:wG m n=true
   ·rw[if_pos h3,if_pos h3]
    exact⟨_,rfl,rfl,fun _=>rfl⟩
   rw[if_neg h3,if_neg h3]
   exact⟨_,rfl,rfl,fun h=>by cases h⟩
 rw[if_neg (show¬(x == 11)=true by simpa using h2),if_neg h2]
 unfold oM
 rw[wx,aMk N (by omega) h2,aVO]
 exact⟨_,rfl,rfl,fun _=>rfl⟩
theorem aGV {N:Nat}(hN:70000≤N): ∀(m:Nat)(b:List Int)(acc:List aX),b.length<m→Byt b→b.length≤100000→acc.length+b.length≤200000→nK N m b acc=some (j9 m b acc)
 |0,b,acc,hm,_,_,_=>by omega
 |m+1,[],acc,_,_,_,_=>rfl
 |m+1,x::r,acc,hm,hb,hl,ha=>by
  simp only[aVZ]at hm hl ha
  obtain⟨y,h1,h2,h3⟩:=aRs hN hb (by omega)
  rw[nK,if_pos (decide_eq_true (show(0:Int)<(((x::r).length:Nat):Int) by rw[aVZ];omega)),h1,aVO,h2,j9]
  by_cases he:(eX x r).2.2=0
  ·obtain⟨g1,g2,g3,_⟩:=aE8 hb he
   have hy:=h3 he
   subst hy
   rw[if_pos he,he,if_neg (show¬((0:Int) != 0)=true by decide)]
   have hlim:=jT
   rw[aBt (by simp;omega),aVO]
   dsimp only
   exact aGV hN m _ _ (by omega) g2 (by omega) (by simp;omega)
  rw[if_neg he,if_pos (show((eX x r).2.2 != 0)=true by simpa using he)]
theorem aOH {N:Nat}(hN:70000≤N){b:List Int}(hb:Byt b):z6 N b=some (cN b):=by
 unfold z6 cN
 by_cases h:520<b.length
 ·rw[if_pos (decide_eq_true (show(520:Int)<(b.length:Int) by omega)),if_pos h]
 rw[if_neg (show¬decide ((520:Int)<(b.length:Int))=true by simp;omega),if_neg h,aGV hN N b [] (by omega) hb (by omega) (by simp;omega),aVO,aB2 N (b.length+1) b [] hb (by omega) (by omega)]
 cases j9 (b.length+1) b []<;>rfl
theorem aPa (N:Nat){o:aX}(ho:VOp o):aBT N o.Code o.Data o.M o.N=some (oF o):=by
 rw[←aK6 N ho]
 rfl
theorem aO5 (N:Nat){o:aX}(ho:VOp o)(hc:1≤o.Code∧o.Code≤17):zM N o.Code o.Data o.M o.N=some (nC o):=by
 unfold zM fR pY nC
 by_cases h11:o.Code=11
 ·have:=ho.multi h11
  simp only[h11]
  rw[cR (a:=2*o.N) (by omega) (by omega)]
  simp
 obtain⟨c,hcc⟩: ∃c,c=o.Code:=⟨_,rfl⟩
 rw[←hcc]at hc h11⊢
 rcases(show c=1∨c=2∨c=3∨c=4∨c=5∨c=6∨c=7∨c=8∨c=9∨c=10∨c=12∨c=13∨c=14∨c=15∨c=16∨c=17 by omega)with h|h|h|h|h|h|h|h|h|h|h|h|h|h|h|h<;>subst h<;>simp
theorem aIj (N:Nat)(l:List aX)(hl:l.length≤1000): ∀(f j:Nat)(op:List Bool),l.length-j<f→j≤l.length→op.length≤j→eO N l f (j:Int) op=some (aQ0 (oB (l.drop j) op))
 |0,j,op,hf,_,_=>by omega
 |f+1,j,op,hf,hj,ho=>by
  rw[eO]
  by_cases h:j<l.length
  ·rw[dT h,if_pos rfl,cL l h,aVQ h]
   simp only[aVO,oB,lZ,sC,i1 (show j≤100000 by omega)]
   have ih:=fun op' (ho':op'.length≤j+1)=>aIj N l hl f (j+1) op' (by omega) (by omega) ho'
   by_cases h14:l[j].Code=14
   ·have:=jT
    rw[if_pos h14,h14,aBt (by simp;omega)]
    exact ih _ (by simp;omega)
   rw[if_neg h14,kB h14]
   by_cases h15:l[j].Code=15
   ·rw[if_pos h15,h15]
    by_cases h0:op=[]
    ·rw[if_pos h0,h0];rfl
    have h0':1≤op.length:=by have:=mt oP.2 h0;omega
    rw[if_neg h0,aAU h0' (by omega),show((op.length:Int) == 0)=false from kB (by omega),cL op (show op.length-1<op.length by omega),show op.getD (op.length-1) true=op[op.length-1] by simp[show op.length-1<op.length by omega]]
    cases hh:op[op.length-1]
    ·simp only[aVP,if_false,aVO,aVS,show((15:Int) == 14)=false from rfl,show((15:Int) == 15)=true from rfl,if_true]
     exact ih _ (by simp;omega)
    rfl
   rw[if_neg h15,kB h15]
   by_cases h16:l[j].Code=16
   ·rw[if_pos h16,h16]
    by_cases h0:op=[]
    ·rw[if_pos h0,h0];rfl
    have h0':1≤op.length:=by have:=mt oP.2 h0;omega
    have e:sub op 0 ((op.length-1:Nat):Int)=some (op.take (op.length-1)):=by
     unfold sub;rw[if_pos ⟨by omega,by omega,by omega⟩];simp
    rw[if_neg h0,aAU h0' (by omega),show((op.length:Int) == 0)=false from kB (by omega),e]
    exact ih _ (by simp;omega)
   rw[if_neg h16,kB h16]
   exact ih _ (by omega)
  rw[dF h,aVT (by omega)];rfl
theorem aNt {N:Nat}(hN:70000≤N){l:List aX}(hl:l.length≤1000):xK N l=some (yH l):=by
 have:=aIj N l hl N 0 [] (by omega) (by omega) (by simp)
 rw[show((0:Nat):Int)=0 from rfl,aVV]at this
 unfold xK yH
 rw[this,aVO]
 cases oB l []<;>rfl
section
variable {N:Nat}(hN:70000≤N){m:List Int}(hm:m.length=32)(hb:Byt m)
include hN hm hb
theorem aJN {key sig:List Int}(hk:Byt key)(hs:Byt sig):qE N sig key m=some (decide (0<sig.length)&&decide (uW N m key sig=0),uW N m key sig):=by
 rw[aSS hN hm hb hk hs]
 exact aO9 hN hm hb hk hs
theorem aEc (c:Int)(d:List Int)(M:Int)(n:Nat)(hn:n≤100)(ks ss:List (List Int))(hk:ks.length=n)(hs:ss.length=n)(bk: ∀x∈ks,Byt x)(bs: ∀x∈ss,Byt x): ∀(f j cnt:Nat),n-j<f→j≤n→cnt≤j→
  j6 N c d M (n:Int) (ss++ks) m f (cnt:Int) (j:Int)=some (if(rA N m (ks.drop j) (ss.drop j) (cnt:Int)).1=0 then .brk (rA N m (ks.drop j) (ss.drop j) (cnt:Int)).2 else .ret (false,(rA N m (ks.drop j) (ss.drop j) (cnt:Int)).1))
 |0,j,cnt,hf,_,_=>by omega
 |f+1,j,cnt,hf,hj,hc=>by
  rw[j6]
  by_cases h:j<n
  ·have h1:j<ks.length:=by omega
   have h2:j<ss.length:=by omega
   have e1:bY (ss++ks) (j:Int)=some ss[j]:=by rw[aEr,List.getElem?_append_left h2,aVW h2]
   have e2:bY (ss++ks) (aVR.wrap ((n:Int)+(j:Int)))=some ks[j]:=by
    rw[show(n:Int)+(j:Int)=((n+j:Nat):Int) by omega,cR (by omega) (by omega),aEr,aVX (by omega),hs,Nat.add_sub_cancel_left,aVW h1]
   have hsg:=aJN hN hm hb (bk _ (aVU h1)) (bs _ (aVU h2))
   rw[dT h,if_pos rfl,e1,aVO,e2,aVO,dG hm,aVO,hsg,aVO,aVQ h1,aVQ h2,rA]
   dsimp only
   by_cases hv:uW N m ks[j] ss[j]=0
   ·rw[hv]
    simp only[show((0:Int) != 0)=false from rfl,aVP,if_false,decide_true,Bool.and_true]
    unfold tJ
    rw[i1 (show j≤100000 by omega)]
    by_cases hp:0<ss[j].length
    ·rw[if_pos (decide_eq_true hp),i1 (show cnt≤100000 by omega),if_pos (decide_eq_true (show(0:Int)<(ss[j].length:Int) by omega)),aEc c d M n hn ks ss hk hs bk bs f (j+1) (cnt+1) (by omega) (by omega) (by omega)]
     rfl
    rw[if_neg (show¬decide (0<ss[j].length)=true by simpa using hp),if_neg (show¬decide ((0:Int)<(ss[j].length:Int))=true by rw[decide_eq_true_iff];omega),aEc c d M n hn ks ss hk hs bk bs f (j+1) cnt (by omega) (by omega) (by omega)]
   rw[show(uW N m ks[j] ss[j] != 0)=true by simpa using hv]
   simp only[if_true]
   rw[if_neg hv]
  rw[dF h,aVT (by omega)]
  simp[rA]
theorem aOh (c:Int)(d:List Int)(M:Int)(n:Nat)(hn:n≤100)(ks ss:List (List Int))(hk:ks.length=n)(hs:ss.length=n)(bk: ∀x∈ks,Byt x)(bs: ∀x∈ss,Byt x):
  zZ N c d M (n:Int) (ss++ks) m=some (if(rA N m ks ss 0).1=0 then(decide (M≤(rA N m ks ss 0).2),0)else(false,(rA N m ks ss 0).1)):=by
 have:=aEc hN hm hb c d M n hn ks ss hk hs bk bs N 0 0 (by omega) (by omega) (by omega)
 rw[show((0:Nat):Int)=0 from rfl,aVV,aVV]at this
 unfold zZ
 rw[this,aVO]
 by_cases h:(rA N m ks ss 0).1=0
 ·rw[if_pos h,if_pos h];rfl
 rw[if_neg h,if_neg h]
end
theorem aHs {α:Type}{st:List α}{k:Nat}(hk:k≤st.length)(hl:st.length≤1000):sub st 0 (aVR.wrap ((st.length:Int)-(k:Int)))=some (st.take (st.length-k)):=by
 rw[show(st.length:Int)-(k:Int)=((st.length-k:Nat):Int) by omega,cR (by omega) (by omega)]
 unfold sub
 rw[if_pos ⟨by omega,by omega,by omega⟩,aVS]
 rfl
theorem aMQ {α:Type}{st:List α}(h:2≤st.length): ∃l x y,st=l++[x,y]:=by
 have hd:(st.drop (st.length-2)).length=2:=by rw[aV2];omega
 match hm:st.drop (st.length-2),hd with
 | [x,y],_=>exact⟨st.take (st.length-2),x,y,by rw[←hm,aV5]⟩
theorem aNf (l:List (List Int))(x y:List Int):fW (l++[x,y]) 1=y∧fW (l++[x,y]) 2=x∧(l++[x,y]).take ((l++[x,y]).length-2)=l∧(l++[x,y]).length=l.length+2:=by
 have hlen:(l++[x,y]).length=l.length+2:=by simp
 refine⟨?_, ?_, ?_,hlen⟩
 ·unfold fW
  rw[hlen,aVY,aVX (by omega),show l.length+2-1-l.length=1 by omega]
  rfl
 ·unfold fW
  rw[hlen,aVY,aVX (by omega),show l.length+2-2-l.length=0 by omega]
  rfl
 rw[hlen,aWa,List.take_left]
theorem aRw {st:List (List Int)}(h:2≤st.length):(st.set (st.length-1) (fW st 2)).set (st.length-2) (fW st 1)=st.take (st.length-2)++[fW st 1,fW st 2]:=by
 obtain⟨l,x,y,rfl⟩:=aMQ h
 obtain⟨e1,e2,e3,e4⟩:=aNf l x y
 rw[e1,e2,e3,e4,show l.length+2-1=l.length+1 by omega,aWa,aV6 _ _ (by omega),show l.length+1-l.length=1 by omega,aV6 _ _ (by omega),Nat.sub_self]
 rfl
theorem aNL {x:Int}{r:List Int}(he:(eX x r).2.2=0):1≤(eX x r).1.Code∧(eX x r).1.Code≤17:=by
 unfold eX at he⊢
 by_cases h0:x<1∨17<x
 ·rw[if_pos h0]at he;cases he
 rw[if_neg h0]at he⊢
 by_cases h1:x=1
 ·rw[if_pos h1]at he⊢
  match r with
  | []=>cases he
  |n::r'=>
   by_cases h2:(r'.length:Int)<n
   ·simp only[if_pos h2]at he;cases he
   simp only[if_neg h2];decide
 rw[if_neg h1]at he⊢
 by_cases h2:x=11
 ·rw[if_pos h2]at he⊢
  match r with
  | []=>cases he
  | [_]=>cases he
  |m::n::r'=>
   by_cases h3:wG m n=true
   ·simp only[if_pos h3];decide
   simp only[if_neg h3]at he;cases he
 rw[if_neg h2]
 dsimp only
 omega
def aL2 (y:List (List Int)×Int)(z:Int×List (List Int)):Prop:=y.2=z.1∧(z.1=0→y.1=z.2)
theorem aSk (N:Nat)(m:List Int)(l:List (List Int))(x y:List Int):vG N m (l++[x,y]) 1 1=if uW N m y x=0 then(0,l++[aCa (decide (0<x.length))])else(uW N m y x,l++[x,y]):=by
 have e1:(l++[x,y]).drop ((l++[x,y]).length-1)=[y]:=by
  rw[show l++[x,y]=(l++[x])++[y] by simp]
  exact aWg (by simp)
 have e0:(l++[x,y]).take ((l++[x,y]).length-1)=l++[x]:=by
  rw[show l++[x,y]=(l++[x])++[y] by simp]
  exact aWh (by simp)
 have e2:(l++[x]).drop ((l++[x,y]).length-2*1)=[x]:=aWg (by simp)
 have e3:(l++[x,y]).take ((l++[x,y]).length-2*1)=l:=aWh (by simp)
 unfold vG
 rw[e0,e1,e2,e3]
 by_cases hv:uW N m y x=0
 ·have hs:rA N m [y] [x] 0=(0,if decide ((0:Int)<(x.length:Int))then 0+1 else 0):=by
   rw[rA,hv]
   rfl
  rw[hs,if_pos rfl,if_pos hv]
  dsimp only
  by_cases hp:0<x.length
  ·rw[if_pos (decide_eq_true (show(0:Int)<(x.length:Int) by omega)),decide_eq_true hp];rfl
  rw[if_neg (show¬decide ((0:Int)<(x.length:Int))=true by rw[decide_eq_true_iff];omega),decide_eq_false hp];rfl
 have hs:rA N m [y] [x] 0=(uW N m y x,0):=by
  rw[rA,if_pos (show(uW N m y x != 0)=true by simpa using hv)]
 rw[hs,if_neg hv,if_neg hv]
section
variable {N:Nat}(hN:70000≤N){m:List Int}(hm:m.length=32)(hb:Byt m)
include hN hm hb
theorem aQd {h a:Int}{o:aX}(ho:VOp o)(hc:1≤o.Code∧o.Code≤17)(h14:o.Code≠14)(h15:o.Code≠15)(h16:o.Code≠16){st:List (List Int)}(hs:WS st)(hn:nC o≤(st.length:Int)):
  ∃y,aAR N o.Code o.Data o.M o.N st m h a=some y∧aL2 y (xR N m h a o st):=by
 have hl:=hs.len
 have hd:=ho.data
 have hpush: ∀x:List Int,∃y,oH N st x=some y∧aL2 y (aBX st x):=fun x=>by
  refine⟨_,aOb N (by omega) x, ?_⟩
  unfold aBX aL2
  by_cases h64:64≤st.length
  ·rw[if_pos h64,if_pos h64];exact⟨rfl,fun h=>by cases h⟩
  rw[if_neg h64,if_neg h64];exact⟨rfl,fun _=>rfl⟩
 have hflag: ∀v,n9 N v=some (aCa v):=fun v=>by rw[aOV,aGu hN]
 have htrue: ∀x:List Int,x.length≤520→pL N x=some (r4 x):=fun x hx=>by rw[aHf,aBB hN (by omega)]
 have hst: ∀x∈st,Byt x:=fun x hx=>(hs.it x hx).1
 unfold aAR xR
 unfold nC at hn
 by_cases c1:o.Code=1
 ·obtain⟨y,h1,h2⟩:=hpush o.Data
  rw[if_pos c1,if_pos (show(o.Code == 1)=true by simpa using c1),aKJ hN _ (by simp) (by simp;omega),aVO,show[o.Data].flatten=o.Data by simp,h1,aVO]
  exact⟨_,rfl,h2⟩
 rw[if_neg c1,if_neg (show¬(o.Code == 1)=true by simpa using c1)]
 have g1:o.Code≠17→1≤st.length:=fun h17=>by
  rw[if_neg (show¬(o.Code=1∨o.Code=15∨o.Code=16∨o.Code=17) by omega)]at hn
  split at hn
  ·omega
  split at hn
  ·rename_i h11
   have:=ho.multi h11
   omega
  omega
 have g2:(o.Code=4∨o.Code=5∨o.Code=10)→2≤st.length:=fun h2=>by
  rw[if_neg (show¬(o.Code=1∨o.Code=15∨o.Code=16∨o.Code=17) by omega),if_pos h2]at hn
  omega
 have i1':o.Code≠17→Byt (fW st 1)∧(fW st 1).length≤520∧bY st (aVR.wrap ((st.length:Int)-1))=some (fW st 1):=fun h17=>t5 hs (k:=1) (by omega) (g1 h17)
 have i2':(o.Code=4∨o.Code=5∨o.Code=10)→Byt (fW st 2)∧(fW st 2).length≤520∧bY st (aVR.wrap ((st.length:Int)-2))=some (fW st 2):=fun h2=>t5 hs (k:=2) (by omega) (g2 h2)
 have t1:o.Code≠17→sub st 0 (aVR.wrap ((st.length:Int)-1))=some (st.take (st.length-1)):=fun h17=>aHs (k:=1) (g1 h17) (by omega)
 have t2:(o.Code=4∨o.Code=5∨o.Code=10)→sub st 0 (aVR.wrap ((st.length:Int)-2))=some (st.take (st.length-2)):=fun h2=>aHs (k:=2) (g2 h2) (by omega)
 by_cases c2:o.Code=2
 ·obtain⟨y,h1,h2⟩:=hpush (fW st 1)
  rw[if_pos c2,if_pos (show(o.Code == 2)=true by simpa using c2),(i1' (by omega)).2.2,aVO,h1,aVO]
  exact⟨_,rfl,h2⟩
 rw[if_neg c2,if_neg (show¬(o.Code == 2)=true by simpa using c2)]
 by_cases c3:o.Code=3
 ·rw[if_pos c3,if_pos (show(o.Code == 3)=true by simpa using c3),t1 (by omega),aVO]
  exact⟨_,rfl,rfl,fun _=>rfl⟩
 rw[if_neg c3,if_neg (show¬(o.Code == 3)=true by simpa using c3)]
 by_cases c4:o.Code=4
 ·rw[if_pos c4,if_pos (show(o.Code == 4)=true by simpa using c4),t2 (.inl c4),aVO,(i1' (by omega)).2.2,aVO,(i2' (.inl c4)).2.2,aVO,aBh (by simp;omega),aVO,aRw (g2 (.inl c4))]
  exact⟨_,rfl,rfl,fun _=>rfl⟩
 rw[if_neg c4,if_neg (show¬(o.Code == 4)=true by simpa using c4)]
 by_cases c5:o.Code=5
 ·rw[if_pos c5,if_pos (show(o.Code == 5)=true by simpa using c5),t2 (.inr (.inl c5)),aVO,(i2' (.inr (.inl c5))).2.2,aVO,(i1' (by omega)).2.2,aVO]
  unfold aCS
  rw[aVO,hflag,aVO,aBh (by simp;omega),aVO]
  refine⟨_,rfl,rfl,fun _=> ?_⟩
  unfold eqE
  rw[show((rV (fW st 2)).toList == (rV (fW st 1)).toList)=((rV (fW st 1)).toList == (rV (fW st 2)).toList)from Bool.beq_comm]
 rw[if_neg c5,if_neg (show¬(o.Code == 5)=true by simpa using c5)]
 by_cases c6:o.Code=6
 ·rw[if_pos c6,if_pos (show(o.Code == 6)=true by simpa using c6),t1 (by omega),aVO,(i1' (by omega)).2.2,aVO,htrue _ (i1' (by omega)).2.1,aVO,hflag,aVO,aBh (by simp;omega),aVO]
  exact⟨_,rfl,rfl,fun _=>rfl⟩
 rw[if_neg c6,if_neg (show¬(o.Code == 6)=true by simpa using c6)]
 by_cases c7:o.Code=7
 ·rw[if_pos c7,if_pos (show(o.Code == 7)=true by simpa using c7),(i1' (by omega)).2.2,aVO,htrue _ (i1' (by omega)).2.1,aVO]
  cases r4 (fW st 1) with
  |false=>exact⟨_,rfl,rfl,fun h=>by cases h⟩
  |true=>
   rw[if_neg (show¬(!true)=true by decide),t1 (by omega),aVO]
   exact⟨_,rfl,rfl,fun _=>rfl⟩
 rw[if_neg c7,if_neg (show¬(o.Code == 7)=true by simpa using c7)]
 by_cases c8:o.Code=8
 ·rw[if_pos c8,if_pos (show(o.Code == 8)=true by simpa using c8),(i1' (by omega)).2.2,aVO,aC6 N hN _ (i1' (by omega)).1 (by have:=(i1' (by omega)).2.1;omega),aVO,dG (eY N _),aVO,t1 (by omega),aVO,aBh (by simp;omega),aVO]
  exact⟨_,rfl,rfl,fun _=>rfl⟩
 rw[if_neg c8,if_neg (show¬(o.Code == 8)=true by simpa using c8)]
 by_cases c9:o.Code=9
 ·have hi:=(i1' (by omega)).2.1
  obtain⟨y,h1,h2⟩:=hpush (aE7 N ((fW st 1).length:Nat))
  rw[if_pos c9,if_pos (show(o.Code == 9)=true by simpa using c9),(i1' (by omega)).2.2,aVO,show IntKind.u32.wrap ((fW st 1).length:Int)=((fW st 1).length:Int) by rw[aWe];omega,aHa N (by omega),(aJD hN (by omega)).1,aVO,h1,aVO]
  exact⟨_,rfl,h2⟩
 rw[if_neg c9,if_neg (show¬(o.Code == 9)=true by simpa using c9)]
 by_cases c10:o.Code=10
 ·have b1:=(i1' (by omega)).1
  have b2:=(i2' (.inr (.inr c10))).1
  rw[if_pos c10,if_pos (show(o.Code == 10)=true by simpa using c10),(i2' (.inr (.inr c10))).2.2,aVO,(i1' (by omega)).2.2,aVO,dG hm,aVO,aJN hN hm hb b1 b2,aVO,t2 (.inr (.inr c10)),aVO,hflag,aVO,aBh (by simp;omega),aVO]
  obtain⟨l,x,y,rfl⟩:=aMQ (g2 (.inr (.inr c10)))
  obtain⟨e1,e2,e3,e4⟩:=aNf l x y
  rw[e1,e2,e3,aSk]
  by_cases hv:uW N m y x=0
  ·rw[if_pos hv,hv]
   exact⟨_,rfl,rfl,fun _=>by simp⟩
  rw[if_neg hv]
  exact⟨_,rfl,rfl,fun h=>absurd h hv⟩
 rw[if_neg c10,if_neg (show¬(o.Code == 10)=true by simpa using c10)]
 by_cases c11:o.Code=11
 ·obtain⟨m1,m2,m3⟩:=ho.multi c11
  rw[if_neg (show¬(o.Code=1∨o.Code=15∨o.Code=16∨o.Code=17) by omega),if_neg (show¬(o.Code=4∨o.Code=5∨o.Code=10) by omega),if_pos c11]at hn
  obtain⟨n,hnn⟩: ∃n:Nat,o.N=n:=⟨o.N.toNat,by omega⟩
  rw[hnn]at hn m2 m3⊢
  have hw:aVR.wrap (2*(n:Int))=((2*n:Nat):Int):=by rw[cR (by omega) (by omega)];omega
  have hw2:aVR.wrap ((st.length:Int)-((2*n:Nat):Int))=((st.length-2*n:Nat):Int):=by
   rw[cR (by omega) (by omega)];omega
  have es:sub st ((st.length-2*n:Nat):Int) (st.length:Int)=some (st.drop (st.length-2*n)):=by
   unfold sub
   rw[if_pos ⟨by omega,by omega,by omega⟩,aVS,aVS,aV3 (aWf _)]
  have et:sub st 0 ((st.length-2*n:Nat):Int)=some (st.take (st.length-2*n)):=by
   unfold sub
   rw[if_pos ⟨by omega,by omega,by omega⟩,aVS]
   rfl
  have key: ∀k j:Nat,j≤k→k≤st.length→st.drop j=(st.take k).drop j++st.drop k:=by
   intro k j h1 h2
   have:=congrArg (List.drop j) (aV5 k st).symm
   rw[List.drop_append_of_le_length (by rw[aV1];omega)]at this
   exact this
  have ed:=key (st.length-n) (st.length-2*n) (by omega) (by omega)
  have hmu:=aOh hN hm hb o.Code o.Data o.M n (by omega) (st.drop (st.length-n)) ((st.take (st.length-n)).drop (st.length-2*n)) (by rw[aV2];omega) (by rw[aV2,aV1];omega) (fun x hx=>hst x (aV8 hx)) (fun x hx=>hst x (List.mem_of_mem_take (aV8 hx)))
  rw[if_pos c11,if_pos (show(o.Code == 11)=true by simpa using c11),hw,hw2,es,aVO,dG hm,aVO,ed,hmu,aVO,et,aVO,hflag,aVO,aBh (by simp;omega),aVO]
  unfold vG
  rw[aVS]
  by_cases hv:(rA N m (st.drop (st.length-n)) ((st.take (st.length-n)).drop (st.length-2*n)) 0).1=0
  ·rw[if_pos hv,if_pos hv]
   exact⟨_,rfl,rfl,fun _=>rfl⟩
  rw[if_neg hv,if_neg hv]
  exact⟨_,rfl,rfl,fun h=>absurd h hv⟩
 rw[if_neg c11,if_neg (show¬(o.Code == 11)=true by simpa using c11)]
 by_cases c12:o.Code=12
 ·rw[if_pos c12,if_pos (show(o.Code == 12)=true by simpa using c12),(i1' (by omega)).2.2,aVO,aHW,aIr hN,aVO]
  exact⟨_,rfl,rfl,fun _=>rfl⟩
 rw[if_neg c12,if_neg (show¬(o.Code == 12)=true by simpa using c12)]
 by_cases c13:o.Code=13
 ·rw[if_pos c13,if_pos (show(o.Code == 13)=true by simpa using c13),(i1' (by omega)).2.2,aVO,aHW,aIr hN,aVO]
  exact⟨_,rfl,rfl,fun _=>rfl⟩
 rw[if_neg c13,if_neg (show¬(o.Code == 13)=true by simpa using c13),if_pos (show o.Code=17 by omega)]
 exact⟨_,rfl,rfl,fun h=>by cases h⟩
end
def tN (br:List aM):List bB:=br.map fun b=>⟨b.outer,b.taken⟩
theorem aC1 (br:List aM):(tN br).length=br.length:=by simp[tN]
theorem aGt {br:List aM}(h:br≠ [])(hl:br.length≤1000):bY (tN br) (aVR.wrap (((tN br).length:Int)-1))=some ⟨(uP br).outer,(uP br).taken⟩:=by
 have h0:1≤br.length:=by have:=mt oP.2 h;omega
 rw[aC1,aAU h0 (by omega),aEr]
 unfold tN uP
 rw[List.getElem?_map,aVW (show br.length-1<br.length by omega),aVY,aVW (show br.length-1<br.length by omega)]
 rfl
theorem aNy (N:Nat){br:List aM}(hl:br.length≤1000):wW N (tN br)=some ((uP br).outer&&(uP br).taken):=by
 unfold wW o4
 by_cases h:br=[]
 ·subst h;rfl
 have h0:1≤br.length:=by have:=mt oP.2 h;omega
 rw[if_neg (show¬(((tN br).length:Int) == 0)=true by rw[aC1];simp;intro e;exact h e),aGt h hl,aVO]
 dsimp only
 cases (uP br).outer<;>rfl
theorem aSG {br:List aM}(i:Nat)(b:aM):(tN br).set i ⟨b.outer,b.taken⟩=tN (br.set i b):=by
 unfold tN
 rw[List.map_set]
theorem aQH {br:List aM}(i:Nat):(tN br).take i=tN (br.take i):=by
 unfold tN
 rw[List.map_take]
theorem aLL {br:List aM}(b:aM):tN br++[⟨b.outer,b.taken⟩]=tN (br++[b]):=by simp[tN]
abbrev aQJ :=(List (List Int))→Int→Int→(List bB)→Option (LR ((List (List Int))×Int) ((List (List Int))×Int×Int))
def aB1 (rec:aQJ)(j:Int)(x:Int×St):Option (LR ((List (List Int))×Int) ((List (List Int))×Int×Int)):=
 if x.1=0 then rec x.2.st x.2.c (aVR.wrap (j+1)) (tN x.2.br)else some (.ret ([],0,x.1))
section
variable {N:Nat}(hN:70000≤N){m:List Int}(hm:m.length=32)(hb:Byt m)
include hN hm hb
theorem aLo {h a:Int}{o:aX}(ho:VOp o)(hc:1≤o.Code∧o.Code≤17){st:List (List Int)}(hs:WS st){br:List aM}(hbr:br.length≤1000)(h15:o.Code=15∨o.Code=16→br≠ [])(k:Bool)(c:Int)(hk:k=true→nC o≤(st.length:Int))(bS:List aX×Int)(j:Int)(rec:aQJ):
  t0 N m h a bS st j (tN br) o k rec c=aB1 rec j (aEY N m h a o k ⟨st,br,c⟩):=by
 have hl:=hs.len
 unfold t0 aEY
 by_cases c14:o.Code=14
 ·rw[if_pos c14,if_pos (show(o.Code == 14)=true by simpa using c14)]
  have happ: ∀x,eE 2 (tN br) [x]=some (tN br++[x]):=fun x=>aBt (by have:=jT;rw[aC1];simp;omega)
  cases k with
  |true=>
   have hn:=hk rfl
   unfold nC at hn
   rw[if_neg (by omega),if_neg (by omega),if_neg (by omega)]at hn
   have q:=t5 hs (k:=1) (by omega) (by omega)
   have q2:bY st (aVR.wrap ((st.length:Int)-1))=some (fW st 1):=q.2.2
   have t1:sub st 0 (aVR.wrap ((st.length:Int)-1))=some (st.take (st.length-1)):=aHs (k:=1) (by omega) (by omega)
   rw[if_pos rfl,q2,aVO,aHf,aBB hN (by have:=q.2.1;omega),aVO,t1,aVO]
   unfold tW iK aB1
   rw[happ,aVO,if_pos rfl,←aLL]
   rfl
  |false=>
   rw[if_neg (show¬(false=true) by decide)]
   unfold tW iK aB1
   rw[happ,aVO,if_pos rfl,←aLL]
   rfl
 rw[if_neg c14,if_neg (show¬(o.Code == 14)=true by simpa using c14)]
 by_cases c15:o.Code=15
 ·have h0:=h15 (.inl c15)
  have h0':1≤br.length:=by have:=mt oP.2 h0;omega
  rw[if_pos c15,if_pos (show(o.Code == 15)=true by simpa using c15),aGt h0 hbr,aVO,aC1,aAU h0' (by omega),aVS]
  unfold iK aB1
  rw[if_pos rfl,←aSG]
 rw[if_neg c15,if_neg (show¬(o.Code == 15)=true by simpa using c15)]
 by_cases c16:o.Code=16
 ·have h0:=h15 (.inr c16)
  have h0':1≤br.length:=by have:=mt oP.2 h0;omega
  have e:sub (tN br) 0 (aVR.wrap (((tN br).length:Int)-1))=some (tN (br.take (br.length-1))):=by
   rw[aC1,aAU h0' (by omega),←aQH]
   unfold sub
   rw[if_pos ⟨by omega,by omega,by rw[aC1];omega⟩]
   simp
  rw[if_pos c16,if_pos (show(o.Code == 16)=true by simpa using c16),e,aVO]
  unfold iK aB1
  rw[if_pos rfl]
 rw[if_neg c16,if_neg (show¬(o.Code == 16)=true by simpa using c16)]
 cases k with
 |false=>
  rw[if_neg (show¬(false=true) by decide),if_neg (show¬(false=true) by decide)]
  unfold iK aB1
  rw[if_pos rfl]
 |true=>
  obtain⟨y,h1,h2,h3⟩:=aQd hN hm hb (h:=h) (a:=a) ho hc c14 c15 c16 hs (hk rfl)
  rw[if_pos rfl,if_pos rfl,h1,aVO,h2]
  unfold aB1
  dsimp only
  by_cases he:(xR N m h a o st).1=0
  ·rw[if_pos he,he,if_neg (show¬((0:Int) != 0)=true by decide),h3 he]
   rfl
  rw[if_neg he,if_pos (show((xR N m h a o st).1 != 0)=true by simpa using he)]
end
section
variable {N:Nat}(hN:70000≤N){m:List Int}(hm:m.length=32)(hb:Byt m)
include hN hm hb
theorem aO7 {h a:Int}{o:aX}(ho:VOp o)(hc:1≤o.Code∧o.Code≤17){s:St}(hs:OkS s)(hbr:s.br.length≤1000)(h15:o.Code=15∨o.Code=16→s.br≠ [])(bS:List aX×Int)(j:Int)(rec:aQJ):
  tE N m h a bS s.st s.c j (tN s.br) o rec (aDc o s.br)=aB1 rec j (r5 N m h a o s):=by
 have hp:=aJ8 ho
 have hcc:=hs.c
 unfold tE r5
 cases aDc o s.br with
 |false=>
  rw[if_neg (show¬(false=true) by decide),if_neg (show¬(false=true) by decide)]
  exact aLo hN hm hb ho hc hs.ws hbr h15 false s.c (fun h=>by cases h) bS j rec
 |true=>
  rw[if_pos rfl,if_pos rfl,aPa N ho,aVO,cR (a:=s.c+oF o) (by omega) (by omega)]
  by_cases h5:500<s.c+oF o
  ·rw[if_pos (decide_eq_true h5),if_pos h5]
   rfl
  rw[if_neg (show¬decide (500<s.c+oF o)=true by simpa using h5),if_neg h5,aO5 N ho hc,aVO]
  by_cases h6:(s.st.length:Int)<nC o
  ·rw[if_pos (decide_eq_true h6),if_pos h6]
   rfl
  rw[if_neg (show¬decide ((s.st.length:Int)<nC o)=true by simpa using h6),if_neg h6]
  exact aLo hN hm hb ho hc hs.ws hbr h15 true (s.c+oF o) (fun _=>by omega) bS j rec
theorem aKi {h a:Int}(ops:List aX)(e:Int)(hv: ∀o∈ops,VOp o∧1≤o.Code∧o.Code≤17)(ho:ops.length≤600): ∀(f j:Nat)(s:St)(l q:List Bool),ops.length-j<f→j≤ops.length→OkS s→s.br.length=l.length→oB (ops.drop j) l=some q→s.br.length≤j→
  dY N m h a (ops,e) f s.st s.c (j:Int) (tN s.br)=some (if(lX N m h a (ops.drop j) s).1=0 then .brk ((lX N m h a (ops.drop j) s).2.st,(lX N m h a (ops.drop j) s).2.c)else .ret ([],0,(lX N m h a (ops.drop j) s).1))
 |0,j,s,l,q,hf,_,_,_,_,_=>by omega
 |f+1,j,s,l,q,hf,hj,hs,hl,hn,hbj=>by
  rw[dY]
  dsimp only
  by_cases h':j<ops.length
  ·have hvo:=hv _ (aVU h')
   rw[aVQ h']at hn⊢
   have h15:ops[j].Code=15∨ops[j].Code=16→s.br≠ []:=fun hc=>by
    intro hnil
    exact(aJR hn).1 hc (oP.2 (by rw[←hl,hnil];rfl))
   have ht:=aO7 hN hm hb (h:=h) (a:=a) hvo.1 hvo.2 hs (by omega) h15 (ops,e) (j:Int) (dY N m h a (ops,e) f)
   rw[dT h',if_pos rfl,cL ops h',aVO,aNy N (by omega),aVO]
   have hJ:(if(ops[j].Code == 15)=true then qN N m h a (ops,e) s.st s.c (j:Int) (tN s.br) ops[j] ((uP s.br).outer&&(uP s.br).taken) (dY N m h a (ops,e) f) true else qN N m h a (ops,e) s.st s.c (j:Int) (tN s.br) ops[j] ((uP s.br).outer&&(uP s.br).taken) (dY N m h a (ops,e) f) (ops[j].Code == 16))=aB1 (dY N m h a (ops,e) f) (j:Int) (r5 N m h a ops[j] s):=by
    rw[←ht]
    unfold qN aDc
    by_cases c15:ops[j].Code=15
    ·rw[if_pos (show(ops[j].Code == 15)=true by simpa using c15),if_pos rfl,aGt (h15 (.inl c15)) (by omega),aVO,if_pos (show ops[j].Code=15∨ops[j].Code=16 from .inl c15)]
    rw[if_neg (show¬(ops[j].Code == 15)=true by simpa using c15)]
    by_cases c16:ops[j].Code=16
    ·rw[if_pos (show(ops[j].Code == 16)=true by simpa using c16),aGt (h15 (.inr c16)) (by omega),aVO,if_pos (show ops[j].Code=15∨ops[j].Code=16 from .inr c16)]
    rw[if_neg (show¬(ops[j].Code == 16)=true by simpa using c16),if_neg (show¬(ops[j].Code=15∨ops[j].Code=16) by omega)]
   rw[hJ]
   obtain⟨s',k1,k2⟩:=aHo hN hm hb (h:=h) (a:=a) hvo.1 hs hl hn (by omega)
   unfold aB1
   rw[lX]
   by_cases h0:(r5 N m h a ops[j] s).1=0
   ·obtain⟨es,g1,g2,g3,l',g4,g5⟩:=k2 h0
    rw[if_pos h0,if_pos h0,i1 (by omega),←es]
    exact aKi ops e hv ho f (j+1) s' l' q (by omega) (by omega) g1 g4 g5 (by omega)
   rw[if_neg h0,if_neg h0,if_neg h0]
  rw[dF h',aVT (by omega)]
  rfl
end
theorem aGS : ∀(k:Nat)(b:List Int)(acc l:List aX),(∀o∈acc,1≤o.Code∧o.Code≤17)→j9 k b acc= .brk l→ ∀o∈l,1≤o.Code∧o.Code≤17
 |0,_,_,_,hv,h=>by
  injection h with h
  subst h
  exact hv
 |k+1,[],acc,l,hv,h=>by
  injection h with h
  subst h
  exact hv
 |k+1,x::r,acc,l,hv,h=>by
  simp only[j9]at h
  by_cases he:(eX x r).2.2=0
  ·rw[if_pos he]at h
   exact aGS k _ _ l (fun o ho=>by
    rcases List.mem_append.1 ho with g|g
    ·exact hv o g
    rw[List.mem_singleton.1 g];exact aNL he) h
  rw[if_neg he]at h;cases h
theorem aME {b:List Int}(hb:Byt b)(h:(cN b).2=0): ∀o∈(cN b).1,1≤o.Code∧o.Code≤17:=by
 obtain⟨_,_,_,p⟩:=aD3 hb h
 exact aGS _ b [] _ (by simp) p
section
variable {N:Nat}(hN:70000≤N){m:List Int}(hm:m.length=32)(hb:Byt m)
include hN hm hb
theorem aR2 {b:List Int}(hbb:Byt b){st:List (List Int)}(hst: ∀x∈st,Byt x)(h a:Int):aCf N b st m h a=some (aAo N b st m h a):=by
 unfold aCf aAo
 rw[aOH hN hbb]
 simp only[aVO]
 by_cases hp:(cN b).2=0
 ·obtain⟨p1,p2,_⟩:=aD3 hbb hp
  rw[if_neg (by simpa using hp),hp,aNt hN (by omega),aPF hN]
  simp only[aVO,show((0:Int) != 0)=false from rfl,aVP,if_false]
  cases hn:yH (cN b).1 with
  |false=>rfl
  |true=>
   cases hB:y8 st with
   |false=>rfl
   |true=>
    have hw:=(aGg hst).1 hB
    have hl:=hw.len
    have lp:=aKi hN hm hb (h:=h) (a:=a) (cN b).1 (cN b).2 (fun o ho=>⟨p1 o ho,aME hbb hp o ho⟩) (by omega) N 0 ⟨st,[],0⟩ [] [] (by omega) (by omega) ⟨hw,by simp⟩ rfl (aHe.1 hn) (by simp)
    rw[show((0:Nat):Int)=0 from rfl,aVV]at lp
    simp only[aV0,aVP,aV9,if_false,aN0 hN hl (fun x hx=>(hw.it x hx).2),aVO]
    rw[show(dY N m h a (cN b) N st 0 0 [])=_ from lp]
    by_cases he:(lX N m h a (cN b).1 ⟨st,[],0⟩).1=0
    ·rw[if_pos he,if_pos he];rfl
    rw[if_neg he,if_neg he];rfl
 rw[if_pos hp,show((cN b).2 != 0)=true by simpa using hp];rfl
theorem aRT {b:List Int}(hbb:Byt b){st:List (List Int)}(hst: ∀x∈st,Byt x)(h a:Int):sB N b st m h a=some (aPi (aAo N b st m h a)):=by
 rw[←aOg hN hm hb hbb hst]
 unfold sB nG
 rw[aR2 hN hm hb hbb hst,aOB hN hm hb hbb hst]
 simp only[aHf]
end
end Go.Proofs.YtbjiaghljpoliaaGreatDoor
set_option maxRecDepth 4000
namespace Go.Proofs.YtbjiaghljpoliaaGreatDoor
open Go Go.Vm
theorem aP3 (N:Nat)(v:Int)(ins:List aK)(outs:List aG)(lock i oV:Int)(oS:List Int):Byt (aDF N v ins outs lock i oV oS).1:=by
 have hz:Byt aHP:=by intro x hx;simp[aHP]at hx;omega
 unfold aDF
 split
 ·split
  ·exact hz
  exact aEX _ _ _
 exact hz
theorem aOr {N:Nat}{v:Int}{ins:List aK}{outs:List aG}{lock i oV:Int}{oS:List Int}(h:(aDF N v ins outs lock i oV oS).2=0):0≤i∧i<(ins.length:Int):=by
 unfold aDF at h
 split at h
 ·split at h
  ·cases h
  rename_i h2
  simp only[Bool.or_eq_true,decide_eq_true_eq,not_or,Int.not_lt,Int.not_le]at h2
  exact h2
 cases h
section
variable (N:Nat)(hN:70000≤N){v:Int}{ins:List aK}{outs:List aG}{lock:Int}(K:aDx ins outs)(B:aN2 ins outs)(W: ∀x∈ins,∀w∈x.Witness,Byt w)
include hN K B W
theorem aO8 (i h:Int)(oT:List Int)(oI oV:Int){oS:List Int}(hS:Byt oS)(cH:Int)(cB:Bool): ∃r,zP N v ins outs lock i oT oI oV oS cH cB h=some r∧zY N v ins outs lock i oT oI oV oS cH cB h=some r:=by
 have hl:=aPu N (v:=v) (ins:=ins) (outs:=outs) (lock:=lock) (i:=i) (oV:=oV) (oS:=oS)
 have hb:=aP3 N v ins outs lock i oV oS
 have hz:=aOr (N:=N) (v:=v) (ins:=ins) (outs:=outs) (lock:=lock) (i:=i) (oV:=oV) (oS:=oS)
 unfold zP zY
 rw[aNG N hN K B hS,aMx N hN K B hS]
 simp only[aVO,dG hl]
 generalize aDF N v ins outs lock i oV oS=M at hl hb hz⊢
 by_cases h0:M.2=0
 ·obtain⟨z1,z2⟩:=hz h0
  obtain⟨k,rfl⟩: ∃k:Nat,i=(k:Int):=⟨i.toNat,by omega⟩
  have hk:k<ins.length:=by omega
  rw[show(M.2 != 0)=false by simpa using h0]
  simp only[aVP,if_false,cL ins hk,aVO]
  cases ha:aCR ins[k].Prev.Tx oT ((ins[k].Prev.Index == oI)&&true) with
  |false=>exact⟨101,rfl,rfl⟩
  |true=>
   simp only[aV0,aVP,if_false]
   by_cases h1:cH<0
   ·rw[decide_eq_true h1]
    refine⟨102,rfl, ?_⟩
    cases decide (16777216<h)<;>rfl
   rw[decide_eq_false h1]
   by_cases h2:h<cH
   ·rw[decide_eq_true h2]
    refine⟨102,rfl, ?_⟩
    cases decide (16777216<h)<;>rfl
   rw[decide_eq_false h2]
   by_cases h3:16777216<h
   ·rw[decide_eq_true h3]
    exact⟨102,rfl,rfl⟩
   rw[decide_eq_false h3]
   simp only[aVP,if_false,qB,p9,cL ins hk,aVO]
   rw[aOg hN hl hb hS (W _ (aVU hk)),aRT hN hl hb hS (W _ (aVU hk))]
   exact⟨_,rfl,rfl⟩
 rw[show(M.2 != 0)=true by simpa using h0]
 exact⟨M.2,rfl,rfl⟩
end
def NN :Nat:=70000
theorem aQ6 :70000≤NN:=aWf _
theorem aRp :aCV NN=some true:=by decide +kernel
theorem aHc (v:Int)(ins:List aK)(outs:List aG)(lock i:Int)(oT:List Int)(oI oV:Int)(oS:List Int)(cH:Int)(cB:Bool)(h:Int)(ht: ∀x∈ins,x.Prev.Tx.length=32)(B:aN2 ins outs)(W: ∀x∈ins,∀w∈x.Witness,Byt w)(hS:Byt oS):pF NN v ins outs lock i oT oI oV oS cH cB h=some true:=by
 unfold pF
 rw[aRp]
 simp only[aVO,aV0,aVP,if_false,aOU NN aQ6]
 cases hk:aH2 ins outs with
 |false=>rfl
 |true=>
  simp only[aV0,aVP,if_false,mC]
  cases hc:decide ((600:Int)<(oS.length:Int)) with
  |true=>rfl
  |false=>
   obtain⟨r,h1,h2⟩:=aO8 NN aQ6 (v:=v) (lock:=lock) (aQ9 hk ht) B W i h oT oI oV hS cH cB
   simp only[aVP,if_false,h1,h2,aVO,beq_self_eq_true]
theorem mixed :Tryz.prog.follows .mixedOrders=true:=by kernel_rfl
theorem dep :2≤Tryz.prog.depth:=aV7 (by kernel_rfl)
instance :DepC Tryz.prog:=⟨dep⟩
instance :TiC Tryz.prog 2 ⟨.int .i64,1,8,.int .i64 0⟩:=⟨ti2⟩
instance :NoA Tryz.prog 2:=⟨trivial⟩
instance :TiC Tryz.prog 3 ⟨.int .i64,1,8,.int .i64 0⟩:=⟨dW⟩
instance :NoA Tryz.prog 3:=⟨trivial⟩
instance :TiC Tryz.prog 4 ⟨.bool,1,1,.bool false⟩:=⟨ti4⟩
instance :NoA Tryz.prog 4:=⟨trivial⟩
instance :TiC Tryz.prog 5 ⟨.int .u8,1,1,.int .u8 0⟩:=⟨dO⟩
instance :NoA Tryz.prog 5:=⟨trivial⟩
instance :TiC Tryz.prog 9 ⟨.string,1,16,.string .empty⟩:=⟨ti9⟩
instance :NoA Tryz.prog 9:=⟨trivial⟩
instance :TiC Tryz.prog 12 ⟨.int .u64,1,8,.int .u64 0⟩:=⟨aU5⟩
instance :NoA Tryz.prog 12:=⟨trivial⟩
instance :TiC Tryz.prog 21 ⟨.int .i32,1,4,.int .i32 0⟩:=⟨aUD⟩
instance :NoA Tryz.prog 21:=⟨trivial⟩
instance :TiC Tryz.prog 22 ⟨.int .u32,1,4,.int .u32 0⟩:=⟨vJ⟩
instance :NoA Tryz.prog 22:=⟨trivial⟩
instance :TiC Tryz.prog 23 ⟨.slice 48,1,24,.slice none 0 0⟩:=⟨aNr⟩
instance :NoA Tryz.prog 23:=⟨trivial⟩
instance :TiC Tryz.prog 24 ⟨.slice 33,1,24,.slice none 0 0⟩:=⟨aNN⟩
instance :NoA Tryz.prog 24:=⟨trivial⟩
instance :TiC Tryz.prog 25 ⟨.struct #[{name:= "Version",type:=22,offset:=0,embedded:=false,tag:= "",pkgPath:= "",byteOffset:=0},{name:= "Inputs",type:=23,offset:=1,embedded:=false,tag:= "",pkgPath:= "",byteOffset:=8},{name:= "Outputs",type:=24,offset:=2,embedded:=false,tag:= "",pkgPath:= "",byteOffset:=32},{name:= "Lock",type:=22,offset:=3,embedded:=false,tag:= "",pkgPath:= "",byteOffset:=56}],4,64,.agg #[.int .u32 0,.slice none 0 0,.slice none 0 0,.int .u32 0]⟩:=⟨aVe⟩
instance :NoA Tryz.prog 25:=⟨trivial⟩
instance :TiC Tryz.prog 26 ⟨.struct #[{name:= "Version",type:=22,offset:=0,embedded:=false,tag:= "",pkgPath:= "",byteOffset:=0},{name:= "Inputs",type:=23,offset:=1,embedded:=false,tag:= "",pkgPath:= "",byteOffset:=8},{name:= "Outputs",type:=24,offset:=2,embedded:=false,tag:= "",pkgPath:= "",byteOffset:=32},{name:= "Lock",type:=22,offset:=3,embedded:=false,tag:= "",pkgPath:= "",byteOffset:=56}],4,64,.agg #[.int .u32 0,.slice none 0 0,.slice none 0 0,.int .u32 0]⟩:=⟨aEM⟩
instance :NoA Tryz.prog 26:=⟨trivial⟩
instance :TiC Tryz.prog 27 ⟨.array 32 5,32,32,.agg #[.int .u8 0,.int .u8 0,.int .u8 0,.int .u8 0,.int .u8 0,.int .u8 0,.int .u8 0,.int .u8 0,.int .u8 0,.int .u8 0,.int .u8 0,.int .u8 0,.int .u8 0,.int .u8 0,.int .u8 0,.int .u8 0,.int .u8 0,.int .u8 0,.int .u8 0,.int .u8 0,.int .u8 0,.int .u8 0,.int .u8 0,.int .u8 0,.int .u8 0,.int .u8 0,.int .u8 0,.int .u8 0,.int .u8 0,.int .u8 0,.int .u8 0,.int .u8 0]⟩:=⟨aU6⟩
instance :TiC Tryz.prog 28 ⟨.array 32 5,32,32,.agg #[.int .u8 0,.int .u8 0,.int .u8 0,.int .u8 0,.int .u8 0,.int .u8 0,.int .u8 0,.int .u8 0,.int .u8 0,.int .u8 0,.int .u8 0,.int .u8 0,.int .u8 0,.int .u8 0,.int .u8 0,.int .u8 0,.int .u8 0,.int .u8 0,.int .u8 0,.int .u8 0,.int .u8 0,.int .u8 0,.int .u8 0,.int .u8 0,.int .u8 0,.int .u8 0,.int .u8 0,.int .u8 0,.int .u8 0,.int .u8 0,.int .u8 0,.int .u8 0]⟩:=⟨vL⟩
instance :TiC Tryz.prog 29 ⟨.struct #[{name:= "Tx",type:=28,offset:=0,embedded:=false,tag:= "",pkgPath:= "",byteOffset:=0},{name:= "Index",type:=22,offset:=32,embedded:=false,tag:= "",pkgPath:= "",byteOffset:=32}],33,36,.agg #[.int .u8 0,.int .u8 0,.int .u8 0,.int .u8 0,.int .u8 0,.int .u8 0,.int .u8 0,.int .u8 0,.int .u8 0,.int .u8 0,.int .u8 0,.int .u8 0,.int .u8 0,.int .u8 0,.int .u8 0,.int .u8 0,.int .u8 0,.int .u8 0,.int .u8 0,.int .u8 0,.int .u8 0,.int .u8 0,.int .u8 0,.int .u8 0,.int .u8 0,.int .u8 0,.int .u8 0,.int .u8 0,.int .u8 0,.int .u8 0,.int .u8 0,.int .u8 0,.int .u32 0]⟩:=⟨aVG⟩
instance :TiC Tryz.prog 30 ⟨.struct #[{name:= "Tx",type:=28,offset:=0,embedded:=false,tag:= "",pkgPath:= "",byteOffset:=0},{name:= "Index",type:=22,offset:=32,embedded:=false,tag:= "",pkgPath:= "",byteOffset:=32}],33,36,.agg #[.int .u8 0,.int .u8 0,.int .u8 0,.int .u8 0,.int .u8 0,.int .u8 0,.int .u8 0,.int .u8 0,.int .u8 0,.int .u8 0,.int .u8 0,.int .u8 0,.int .u8 0,.int .u8 0,.int .u8 0,.int .u8 0,.int .u8 0,.int .u8 0,.int .u8 0,.int .u8 0,.int .u8 0,.int .u8 0,.int .u8 0,.int .u8 0,.int .u8 0,.int .u8 0,.int .u8 0,.int .u8 0,.int .u8 0,.int .u8 0,.int .u8 0,.int .u8 0,.int .u32 0]⟩:=⟨rG⟩
instance :TiC Tryz.prog 31 ⟨.slice 5,1,24,.slice none 0 0⟩:=⟨dC⟩
instance :NoA Tryz.prog 31:=⟨trivial⟩
instance :TiC Tryz.prog 32 ⟨.struct #[{name:= "Value",type:=2,offset:=0,embedded:=false,tag:= "",pkgPath:= "",byteOffset:=0},{name:= "Script",type:=31,offset:=1,embedded:=false,tag:= "",pkgPath:= "",byteOffset:=8}],2,32,.agg #[.int .i64 0,.slice none 0 0]⟩:=⟨aVh⟩
instance :NoA Tryz.prog 32:=⟨trivial⟩
instance :TiC Tryz.prog 33 ⟨.struct #[{name:= "Value",type:=2,offset:=0,embedded:=false,tag:= "",pkgPath:= "",byteOffset:=0},{name:= "Script",type:=31,offset:=1,embedded:=false,tag:= "",pkgPath:= "",byteOffset:=8}],2,32,.agg #[.int .i64 0,.slice none 0 0]⟩:=⟨aGr⟩
instance :NoA Tryz.prog 33:=⟨trivial⟩
instance :TiC Tryz.prog 34 ⟨.struct #[{name:= "Out",type:=30,offset:=0,embedded:=false,tag:= "",pkgPath:= "",byteOffset:=0},{name:= "Output",type:=33,offset:=33,embedded:=false,tag:= "",pkgPath:= "",byteOffset:=40},{name:= "Height",type:=3,offset:=35,embedded:=false,tag:= "",pkgPath:= "",byteOffset:=72},{name:= "Coinbase",type:=4,offset:=36,embedded:=false,tag:= "",pkgPath:= "",byteOffset:=80}],37,88,.agg #[.int .u8 0,.int .u8 0,.int .u8 0,.int .u8 0,.int .u8 0,.int .u8 0,.int .u8 0,.int .u8 0,.int .u8 0,.int .u8 0,.int .u8 0,.int .u8 0,.int .u8 0,.int .u8 0,.int .u8 0,.int .u8 0,.int .u8 0,.int .u8 0,.int .u8 0,.int .u8 0,.int .u8 0,.int .u8 0,.int .u8 0,.int .u8 0,.int .u8 0,.int .u8 0,.int .u8 0,.int .u8 0,.int .u8 0,.int .u8 0,.int .u8 0,.int .u8 0,.int .u32 0,.int .i64 0,.slice none 0 0,.int .i64 0,.bool false]⟩:=⟨aVm⟩
instance :TiC Tryz.prog 35 ⟨.struct #[{name:= "Out",type:=30,offset:=0,embedded:=false,tag:= "",pkgPath:= "",byteOffset:=0},{name:= "Output",type:=33,offset:=33,embedded:=false,tag:= "",pkgPath:= "",byteOffset:=40},{name:= "Height",type:=3,offset:=35,embedded:=false,tag:= "",pkgPath:= "",byteOffset:=72},{name:= "Coinbase",type:=4,offset:=36,embedded:=false,tag:= "",pkgPath:= "",byteOffset:=80}],37,88,.agg #[.int .u8 0,.int .u8 0,.int .u8 0,.int .u8 0,.int .u8 0,.int .u8 0,.int .u8 0,.int .u8 0,.int .u8 0,.int .u8 0,.int .u8 0,.int .u8 0,.int .u8 0,.int .u8 0,.int .u8 0,.int .u8 0,.int .u8 0,.int .u8 0,.int .u8 0,.int .u8 0,.int .u8 0,.int .u8 0,.int .u8 0,.int .u8 0,.int .u8 0,.int .u8 0,.int .u8 0,.int .u8 0,.int .u8 0,.int .u8 0,.int .u8 0,.int .u8 0,.int .u32 0,.int .i64 0,.slice none 0 0,.int .i64 0,.bool false]⟩:=⟨aCv⟩
instance :TiC Tryz.prog 38 ⟨.int .i64,1,8,.int .i64 0⟩:=⟨aVE⟩
instance :NoA Tryz.prog 38:=⟨trivial⟩
instance :TiC Tryz.prog 41 ⟨.slice 35,1,24,.slice none 0 0⟩:=⟨aS6⟩
instance :NoA Tryz.prog 41:=⟨trivial⟩
instance :TiC Tryz.prog 46 ⟨.slice 31,1,24,.slice none 0 0⟩:=⟨aAZ⟩
instance :NoA Tryz.prog 46:=⟨trivial⟩
instance :TiC Tryz.prog 47 ⟨.struct #[{name:= "Prev",type:=30,offset:=0,embedded:=false,tag:= "",pkgPath:= "",byteOffset:=0},{name:= "Sequence",type:=22,offset:=33,embedded:=false,tag:= "",pkgPath:= "",byteOffset:=36},{name:= "Witness",type:=46,offset:=34,embedded:=false,tag:= "",pkgPath:= "",byteOffset:=40}],35,64,.agg #[.int .u8 0,.int .u8 0,.int .u8 0,.int .u8 0,.int .u8 0,.int .u8 0,.int .u8 0,.int .u8 0,.int .u8 0,.int .u8 0,.int .u8 0,.int .u8 0,.int .u8 0,.int .u8 0,.int .u8 0,.int .u8 0,.int .u8 0,.int .u8 0,.int .u8 0,.int .u8 0,.int .u8 0,.int .u8 0,.int .u8 0,.int .u8 0,.int .u8 0,.int .u8 0,.int .u8 0,.int .u8 0,.int .u8 0,.int .u8 0,.int .u8 0,.int .u8 0,.int .u32 0,.int .u32 0,.slice none 0 0]⟩:=⟨aUU⟩
instance :TiC Tryz.prog 48 ⟨.struct #[{name:= "Prev",type:=30,offset:=0,embedded:=false,tag:= "",pkgPath:= "",byteOffset:=0},{name:= "Sequence",type:=22,offset:=33,embedded:=false,tag:= "",pkgPath:= "",byteOffset:=36},{name:= "Witness",type:=46,offset:=34,embedded:=false,tag:= "",pkgPath:= "",byteOffset:=40}],35,64,.agg #[.int .u8 0,.int .u8 0,.int .u8 0,.int .u8 0,.int .u8 0,.int .u8 0,.int .u8 0,.int .u8 0,.int .u8 0,.int .u8 0,.int .u8 0,.int .u8 0,.int .u8 0,.int .u8 0,.int .u8 0,.int .u8 0,.int .u8 0,.int .u8 0,.int .u8 0,.int .u8 0,.int .u8 0,.int .u8 0,.int .u8 0,.int .u8 0,.int .u8 0,.int .u8 0,.int .u8 0,.int .u8 0,.int .u8 0,.int .u8 0,.int .u8 0,.int .u8 0,.int .u32 0,.int .u32 0,.slice none 0 0]⟩:=⟨tY⟩
instance :TiC Tryz.prog 53 ⟨.struct #[{name:= "Message",type:=28,offset:=0,embedded:=false,tag:= "",pkgPath:= "",byteOffset:=0},{name:= "Height",type:=3,offset:=32,embedded:=false,tag:= "",pkgPath:= "",byteOffset:=32},{name:= "Age",type:=3,offset:=33,embedded:=false,tag:= "",pkgPath:= "",byteOffset:=40}],34,48,.agg #[.int .u8 0,.int .u8 0,.int .u8 0,.int .u8 0,.int .u8 0,.int .u8 0,.int .u8 0,.int .u8 0,.int .u8 0,.int .u8 0,.int .u8 0,.int .u8 0,.int .u8 0,.int .u8 0,.int .u8 0,.int .u8 0,.int .u8 0,.int .u8 0,.int .u8 0,.int .u8 0,.int .u8 0,.int .u8 0,.int .u8 0,.int .u8 0,.int .u8 0,.int .u8 0,.int .u8 0,.int .u8 0,.int .u8 0,.int .u8 0,.int .u8 0,.int .u8 0,.int .i64 0,.int .i64 0]⟩:=⟨aU0⟩
instance :TiC Tryz.prog 54 ⟨.struct #[{name:= "Message",type:=28,offset:=0,embedded:=false,tag:= "",pkgPath:= "",byteOffset:=0},{name:= "Height",type:=3,offset:=32,embedded:=false,tag:= "",pkgPath:= "",byteOffset:=32},{name:= "Age",type:=3,offset:=33,embedded:=false,tag:= "",pkgPath:= "",byteOffset:=40}],34,48,.agg #[.int .u8 0,.int .u8 0,.int .u8 0,.int .u8 0,.int .u8 0,.int .u8 0,.int .u8 0,.int .u8 0,.int .u8 0,.int .u8 0,.int .u8 0,.int .u8 0,.int .u8 0,.int .u8 0,.int .u8 0,.int .u8 0,.int .u8 0,.int .u8 0,.int .u8 0,.int .u8 0,.int .u8 0,.int .u8 0,.int .u8 0,.int .u8 0,.int .u8 0,.int .u8 0,.int .u8 0,.int .u8 0,.int .u8 0,.int .u8 0,.int .u8 0,.int .u8 0,.int .i64 0,.int .i64 0]⟩:=⟨aBE⟩
instance :TiC Tryz.prog 74 ⟨.map 30 4,1,8,.map none⟩:=⟨aUX⟩
instance :NoA Tryz.prog 74:=⟨trivial⟩
instance :TiC Tryz.prog 78 ⟨.int .u64,1,8,.int .u64 0⟩:=⟨nA⟩
instance :NoA Tryz.prog 78:=⟨trivial⟩
instance :TiC Tryz.prog 80 ⟨.slice 90,1,24,.slice none 0 0⟩:=⟨aQm⟩
instance :NoA Tryz.prog 80:=⟨trivial⟩
instance :TiC Tryz.prog 86 ⟨.slice 113,1,24,.slice none 0 0⟩:=⟨aJE⟩
instance :NoA Tryz.prog 86:=⟨trivial⟩
instance :TiC Tryz.prog 87 ⟨.struct #[{name:= "Env",type:=54,offset:=0,embedded:=true,tag:= "",pkgPath:= "",byteOffset:=0},{name:= "stack",type:=46,offset:=34,embedded:=false,tag:= "",pkgPath:= "lightclient/script",byteOffset:=48},{name:= "branches",type:=86,offset:=35,embedded:=false,tag:= "",pkgPath:= "lightclient/script",byteOffset:=72},{name:= "cost",type:=3,offset:=36,embedded:=false,tag:= "",pkgPath:= "lightclient/script",byteOffset:=96}],37,104,.agg #[.int .u8 0,.int .u8 0,.int .u8 0,.int .u8 0,.int .u8 0,.int .u8 0,.int .u8 0,.int .u8 0,.int .u8 0,.int .u8 0,.int .u8 0,.int .u8 0,.int .u8 0,.int .u8 0,.int .u8 0,.int .u8 0,.int .u8 0,.int .u8 0,.int .u8 0,.int .u8 0,.int .u8 0,.int .u8 0,.int .u8 0,.int .u8 0,.int .u8 0,.int .u8 0,.int .u8 0,.int .u8 0,.int .u8 0,.int .u8 0,.int .u8 0,.int .u8 0,.int .i64 0,.int .i64 0,.slice none 0 0,.slice none 0 0,.int .i64 0]⟩:=⟨aUP⟩
instance :TiC Tryz.prog 88 ⟨.struct #[{name:= "Env",type:=54,offset:=0,embedded:=true,tag:= "",pkgPath:= "",byteOffset:=0},{name:= "stack",type:=46,offset:=34,embedded:=false,tag:= "",pkgPath:= "lightclient/script",byteOffset:=48},{name:= "branches",type:=86,offset:=35,embedded:=false,tag:= "",pkgPath:= "lightclient/script",byteOffset:=72},{name:= "cost",type:=3,offset:=36,embedded:=false,tag:= "",pkgPath:= "lightclient/script",byteOffset:=96}],37,104,.agg #[.int .u8 0,.int .u8 0,.int .u8 0,.int .u8 0,.int .u8 0,.int .u8 0,.int .u8 0,.int .u8 0,.int .u8 0,.int .u8 0,.int .u8 0,.int .u8 0,.int .u8 0,.int .u8 0,.int .u8 0,.int .u8 0,.int .u8 0,.int .u8 0,.int .u8 0,.int .u8 0,.int .u8 0,.int .u8 0,.int .u8 0,.int .u8 0,.int .u8 0,.int .u8 0,.int .u8 0,.int .u8 0,.int .u8 0,.int .u8 0,.int .u8 0,.int .u8 0,.int .i64 0,.int .i64 0,.slice none 0 0,.slice none 0 0,.int .i64 0]⟩:=⟨aBc⟩
instance :TiC Tryz.prog 89 ⟨.struct #[{name:= "Code",type:=3,offset:=0,embedded:=false,tag:= "",pkgPath:= "",byteOffset:=0},{name:= "Data",type:=31,offset:=1,embedded:=false,tag:= "",pkgPath:= "",byteOffset:=8},{name:= "M",type:=3,offset:=2,embedded:=false,tag:= "",pkgPath:= "",byteOffset:=32},{name:= "N",type:=3,offset:=3,embedded:=false,tag:= "",pkgPath:= "",byteOffset:=40}],4,48,.agg #[.int .i64 0,.slice none 0 0,.int .i64 0,.int .i64 0]⟩:=⟨aUA⟩
instance :NoA Tryz.prog 89:=⟨trivial⟩
instance :TiC Tryz.prog 90 ⟨.struct #[{name:= "Code",type:=3,offset:=0,embedded:=false,tag:= "",pkgPath:= "",byteOffset:=0},{name:= "Data",type:=31,offset:=1,embedded:=false,tag:= "",pkgPath:= "",byteOffset:=8},{name:= "M",type:=3,offset:=2,embedded:=false,tag:= "",pkgPath:= "",byteOffset:=32},{name:= "N",type:=3,offset:=3,embedded:=false,tag:= "",pkgPath:= "",byteOffset:=40}],4,48,.agg #[.int .i64 0,.slice none 0 0,.int .i64 0,.int .i64 0]⟩:=⟨aBM⟩
instance :NoA Tryz.prog 90:=⟨trivial⟩
instance :TiC Tryz.prog 95 ⟨.array 8 22,8,32,.agg #[.int .u32 0,.int .u32 0,.int .u32 0,.int .u32 0,.int .u32 0,.int .u32 0,.int .u32 0,.int .u32 0]⟩:=⟨aJA⟩
instance :TiC Tryz.prog 97 ⟨.array 64 5,64,64,.agg #[.int .u8 0,.int .u8 0,.int .u8 0,.int .u8 0,.int .u8 0,.int .u8 0,.int .u8 0,.int .u8 0,.int .u8 0,.int .u8 0,.int .u8 0,.int .u8 0,.int .u8 0,.int .u8 0,.int .u8 0,.int .u8 0,.int .u8 0,.int .u8 0,.int .u8 0,.int .u8 0,.int .u8 0,.int .u8 0,.int .u8 0,.int .u8 0,.int .u8 0,.int .u8 0,.int .u8 0,.int .u8 0,.int .u8 0,.int .u8 0,.int .u8 0,.int .u8 0,.int .u8 0,.int .u8 0,.int .u8 0,.int .u8 0,.int .u8 0,.int .u8 0,.int .u8 0,.int .u8 0,.int .u8 0,.int .u8 0,.int .u8 0,.int .u8 0,.int .u8 0,.int .u8 0,.int .u8 0,.int .u8 0,.int .u8 0,.int .u8 0,.int .u8 0,.int .u8 0,.int .u8 0,.int .u8 0,.int .u8 0,.int .u8 0,.int .u8 0,.int .u8 0,.int .u8 0,.int .u8 0,.int .u8 0,.int .u8 0,.int .u8 0,.int .u8 0]⟩:=⟨aPl⟩
instance :TiC Tryz.prog 99 ⟨.int .u64,1,8,.int .u64 0⟩:=⟨aU1⟩
instance :NoA Tryz.prog 99:=⟨trivial⟩
instance :TiC Tryz.prog 100 ⟨.slice 103,1,24,.slice none 0 0⟩:=⟨aNU⟩
instance :NoA Tryz.prog 100:=⟨trivial⟩
instance :TiC Tryz.prog 102 ⟨.struct #[{name:= "reached",type:=4,offset:=0,embedded:=false,tag:= "",pkgPath:= "lightclient/lightclientref08",byteOffset:=0},{name:= "done",type:=4,offset:=1,embedded:=false,tag:= "",pkgPath:= "lightclient/lightclientref08",byteOffset:=1}],2,2,.agg #[.bool false,.bool false]⟩:=⟨aUs⟩
instance :NoA Tryz.prog 102:=⟨trivial⟩
instance :TiC Tryz.prog 103 ⟨.struct #[{name:= "reached",type:=4,offset:=0,embedded:=false,tag:= "",pkgPath:= "lightclient/lightclientref08",byteOffset:=0},{name:= "done",type:=4,offset:=1,embedded:=false,tag:= "",pkgPath:= "lightclient/lightclientref08",byteOffset:=1}],2,2,.agg #[.bool false,.bool false]⟩:=⟨aET⟩
instance :NoA Tryz.prog 103:=⟨trivial⟩
instance :TiC Tryz.prog 110 ⟨.slice 4,1,24,.slice none 0 0⟩:=⟨aNZ⟩
instance :NoA Tryz.prog 110:=⟨trivial⟩
instance :TiC Tryz.prog 111 ⟨.pointer 88,1,8,.pointer none⟩:=⟨aUv⟩
instance :NoA Tryz.prog 111:=⟨trivial⟩
instance :TiC Tryz.prog 112 ⟨.struct #[{name:= "outer",type:=4,offset:=0,embedded:=false,tag:= "",pkgPath:= "lightclient/script",byteOffset:=0},{name:= "taken",type:=4,offset:=1,embedded:=false,tag:= "",pkgPath:= "lightclient/script",byteOffset:=1}],2,2,.agg #[.bool false,.bool false]⟩:=⟨aUc⟩
instance :NoA Tryz.prog 112:=⟨trivial⟩
instance :TiC Tryz.prog 113 ⟨.struct #[{name:= "outer",type:=4,offset:=0,embedded:=false,tag:= "",pkgPath:= "lightclient/script",byteOffset:=0},{name:= "taken",type:=4,offset:=1,embedded:=false,tag:= "",pkgPath:= "lightclient/script",byteOffset:=1}],2,2,.agg #[.bool false,.bool false]⟩:=⟨aCU⟩
instance :NoA Tryz.prog 113:=⟨trivial⟩
instance :TiC Tryz.prog 116 ⟨.array 64 22,64,256,.agg #[.int .u32 0,.int .u32 0,.int .u32 0,.int .u32 0,.int .u32 0,.int .u32 0,.int .u32 0,.int .u32 0,.int .u32 0,.int .u32 0,.int .u32 0,.int .u32 0,.int .u32 0,.int .u32 0,.int .u32 0,.int .u32 0,.int .u32 0,.int .u32 0,.int .u32 0,.int .u32 0,.int .u32 0,.int .u32 0,.int .u32 0,.int .u32 0,.int .u32 0,.int .u32 0,.int .u32 0,.int .u32 0,.int .u32 0,.int .u32 0,.int .u32 0,.int .u32 0,.int .u32 0,.int .u32 0,.int .u32 0,.int .u32 0,.int .u32 0,.int .u32 0,.int .u32 0,.int .u32 0,.int .u32 0,.int .u32 0,.int .u32 0,.int .u32 0,.int .u32 0,.int .u32 0,.int .u32 0,.int .u32 0,.int .u32 0,.int .u32 0,.int .u32 0,.int .u32 0,.int .u32 0,.int .u32 0,.int .u32 0,.int .u32 0,.int .u32 0,.int .u32 0,.int .u32 0,.int .u32 0,.int .u32 0,.int .u32 0,.int .u32 0,.int .u32 0]⟩:=⟨aNV⟩
instance :TiC Tryz.prog 128 ⟨.int .u16,1,2,.int .u16 0⟩:=⟨aT7⟩
instance :NoA Tryz.prog 128:=⟨trivial⟩
instance :TiC Tryz.prog 134 ⟨.array 4 78,4,32,.agg #[.int .u64 0,.int .u64 0,.int .u64 0,.int .u64 0]⟩:=⟨aUd⟩
instance :TiC Tryz.prog 135 ⟨.array 4 78,4,32,.agg #[.int .u64 0,.int .u64 0,.int .u64 0,.int .u64 0]⟩:=⟨b8⟩
instance :TiC Tryz.prog 138 ⟨.struct #[{name:= "E",type:=135,offset:=0,embedded:=false,tag:= "",pkgPath:= "",byteOffset:=0},{name:= "S",type:=135,offset:=4,embedded:=false,tag:= "",pkgPath:= "",byteOffset:=32}],8,64,.agg #[.int .u64 0,.int .u64 0,.int .u64 0,.int .u64 0,.int .u64 0,.int .u64 0,.int .u64 0,.int .u64 0]⟩:=⟨aT8⟩
instance :TiC Tryz.prog 139 ⟨.struct #[{name:= "E",type:=135,offset:=0,embedded:=false,tag:= "",pkgPath:= "",byteOffset:=0},{name:= "S",type:=135,offset:=4,embedded:=false,tag:= "",pkgPath:= "",byteOffset:=32}],8,64,.agg #[.int .u64 0,.int .u64 0,.int .u64 0,.int .u64 0,.int .u64 0,.int .u64 0,.int .u64 0,.int .u64 0]⟩:=⟨rO⟩
instance :TiC Tryz.prog 167 ⟨.array 8 78,8,64,.agg #[.int .u64 0,.int .u64 0,.int .u64 0,.int .u64 0,.int .u64 0,.int .u64 0,.int .u64 0,.int .u64 0]⟩:=⟨aGG⟩
instance :TiC Tryz.prog 169 ⟨.slice 78,1,24,.slice none 0 0⟩:=⟨aNw⟩
instance :NoA Tryz.prog 169:=⟨trivial⟩
instance :TiC Tryz.prog 171 ⟨.slice 28,1,24,.slice none 0 0⟩:=⟨aQV⟩
instance :NoA Tryz.prog 171:=⟨trivial⟩
instance :TiC Tryz.prog 184 ⟨.pointer 5,1,8,.pointer none⟩:=⟨aT2⟩
instance :NoA Tryz.prog 184:=⟨trivial⟩
theorem aR9 (b off:Nat):aR Tryz.prog 26 (.ptr b off) 0=some (.ptr b (off+0)):=by simp[aR,aEM,vJ]
theorem aRi (es:List V)(i off:Nat):aR Tryz.prog 26 (.eptr es i off) 0=some (.eptr es i (off+0)):=by simp[aR,aEM,vJ]
instance :FaC Tryz.prog 26 0 0:=⟨aR9,aRi⟩
theorem aRd (b off:Nat):aR Tryz.prog 26 (.ptr b off) 1=some (.ptr b (off+1)):=by simp[aR,aEM,aNr]
theorem aRG (es:List V)(i off:Nat):aR Tryz.prog 26 (.eptr es i off) 1=some (.eptr es i (off+1)):=by simp[aR,aEM,aNr]
instance :FaC Tryz.prog 26 1 1:=⟨aRd,aRG⟩
theorem aSm (b off:Nat):aR Tryz.prog 26 (.ptr b off) 2=some (.ptr b (off+2)):=by simp[aR,aEM,aNN]
theorem aRL (es:List V)(i off:Nat):aR Tryz.prog 26 (.eptr es i off) 2=some (.eptr es i (off+2)):=by simp[aR,aEM,aNN]
instance :FaC Tryz.prog 26 2 2:=⟨aSm,aRL⟩
theorem aRM (b off:Nat):aR Tryz.prog 26 (.ptr b off) 3=some (.ptr b (off+3)):=by simp[aR,aEM,vJ]
theorem aSi (es:List V)(i off:Nat):aR Tryz.prog 26 (.eptr es i off) 3=some (.eptr es i (off+3)):=by simp[aR,aEM,vJ]
instance :FaC Tryz.prog 26 3 3:=⟨aRM,aSi⟩
theorem aRA (b off:Nat):aR Tryz.prog 30 (.ptr b off) 0=some (.ptr b (off+0)):=by simp[aR,rG,vL]
theorem aSB (es:List V)(i off:Nat):aR Tryz.prog 30 (.eptr es i off) 0=some (.eptr es i (off+0)):=by simp[aR,rG,vL]
instance :FaC Tryz.prog 30 0 0:=⟨aRA,aSB⟩
theorem aR3 (b off:Nat):aR Tryz.prog 30 (.ptr b off) 1=some (.ptr b (off+32)):=by simp[aR,rG,vJ]
theorem aRJ (es:List V)(i off:Nat):aR Tryz.prog 30 (.eptr es i off) 1=some (.eptr es i (off+32)):=by simp[aR,rG,vJ]
instance :FaC Tryz.prog 30 1 32:=⟨aR3,aRJ⟩
theorem aR5 (b off:Nat):aR Tryz.prog 33 (.ptr b off) 0=some (.ptr b (off+0)):=by simp[aR,aGr,ti2]
theorem aR4 (es:List V)(i off:Nat):aR Tryz.prog 33 (.eptr es i off) 0=some (.eptr es i (off+0)):=by simp[aR,aGr,ti2]
instance :FaC Tryz.prog 33 0 0:=⟨aR5,aR4⟩
theorem aQ8 (b off:Nat):aR Tryz.prog 33 (.ptr b off) 1=some (.ptr b (off+1)):=by simp[aR,aGr,dC]
theorem aSt (es:List V)(i off:Nat):aR Tryz.prog 33 (.eptr es i off) 1=some (.eptr es i (off+1)):=by simp[aR,aGr,dC]
instance :FaC Tryz.prog 33 1 1:=⟨aQ8,aSt⟩
theorem aSC (b off:Nat):aR Tryz.prog 35 (.ptr b off) 0=some (.ptr b (off+0)):=by simp[aR,aCv,rG]
theorem aRK (es:List V)(i off:Nat):aR Tryz.prog 35 (.eptr es i off) 0=some (.eptr es i (off+0)):=by simp[aR,aCv,rG]
instance :FaC Tryz.prog 35 0 0:=⟨aSC,aRK⟩
theorem aSH (b off:Nat):aR Tryz.prog 35 (.ptr b off) 1=some (.ptr b (off+33)):=by simp[aR,aCv,aGr]
theorem aSh (es:List V)(i off:Nat):aR Tryz.prog 35 (.eptr es i off) 1=some (.eptr es i (off+33)):=by simp[aR,aCv,aGr]
instance :FaC Tryz.prog 35 1 33:=⟨aSH,aSh⟩
theorem aSD (b off:Nat):aR Tryz.prog 35 (.ptr b off) 2=some (.ptr b (off+35)):=by simp[aR,aCv,dW]
theorem aSg (es:List V)(i off:Nat):aR Tryz.prog 35 (.eptr es i off) 2=some (.eptr es i (off+35)):=by simp[aR,aCv,dW]
instance :FaC Tryz.prog 35 2 35:=⟨aSD,aSg⟩
theorem aMN (b off:Nat):aR Tryz.prog 48 (.ptr b off) 0=some (.ptr b (off+0)):=by simp[aR,tY,rG]
theorem aR8 (es:List V)(i off:Nat):aR Tryz.prog 48 (.eptr es i off) 0=some (.eptr es i (off+0)):=by simp[aR,tY,rG]
instance :FaC Tryz.prog 48 0 0:=⟨aMN,aR8⟩
theorem aNa (b off:Nat):aR Tryz.prog 48 (.ptr b off) 1=some (.ptr b (off+33)):=by simp[aR,tY,vJ]
theorem aSA (es:List V)(i off:Nat):aR Tryz.prog 48 (.eptr es i off) 1=some (.eptr es i (off+33)):=by simp[aR,tY,vJ]
instance :FaC Tryz.prog 48 1 33:=⟨aNa,aSA⟩
theorem aRn (b off:Nat):aR Tryz.prog 48 (.ptr b off) 2=some (.ptr b (off+34)):=by simp[aR,tY,aAZ]
theorem aSe (es:List V)(i off:Nat):aR Tryz.prog 48 (.eptr es i off) 2=some (.eptr es i (off+34)):=by simp[aR,tY,aAZ]
instance :FaC Tryz.prog 48 2 34:=⟨aRn,aSe⟩
theorem aRB (b off:Nat):aR Tryz.prog 54 (.ptr b off) 0=some (.ptr b (off+0)):=by simp[aR,aBE,vL]
theorem aSa (es:List V)(i off:Nat):aR Tryz.prog 54 (.eptr es i off) 0=some (.eptr es i (off+0)):=by simp[aR,aBE,vL]
instance :FaC Tryz.prog 54 0 0:=⟨aRB,aSa⟩
theorem aSz (b off:Nat):aR Tryz.prog 54 (.ptr b off) 1=some (.ptr b (off+32)):=by simp[aR,aBE,dW]
theorem aSj (es:List V)(i off:Nat):aR Tryz.prog 54 (.eptr es i off) 1=some (.eptr es i (off+32)):=by simp[aR,aBE,dW]
instance :FaC Tryz.prog 54 1 32:=⟨aSz,aSj⟩
theorem aSn (b off:Nat):aR Tryz.prog 54 (.ptr b off) 2=some (.ptr b (off+33)):=by simp[aR,aBE,dW]
theorem aRW (es:List V)(i off:Nat):aR Tryz.prog 54 (.eptr es i off) 2=some (.eptr es i (off+33)):=by simp[aR,aBE,dW]
instance :FaC Tryz.prog 54 2 33:=⟨aSn,aRW⟩
theorem aSl (b off:Nat):aR Tryz.prog 88 (.ptr b off) 0=some (.ptr b (off+0)):=by simp[aR,aBc,aBE]
theorem aSc (es:List V)(i off:Nat):aR Tryz.prog 88 (.eptr es i off) 0=some (.eptr es i (off+0)):=by simp[aR,aBc,aBE]
instance :FaC Tryz.prog 88 0 0:=⟨aSl,aSc⟩
theorem aRy (b off:Nat):aR Tryz.prog 88 (.ptr b off) 1=some (.ptr b (off+34)):=by simp[aR,aBc,aAZ]
theorem aRI (es:List V)(i off:Nat):aR Tryz.prog 88 (.eptr es i off) 1=some (.eptr es i (off+34)):=by simp[aR,aBc,aAZ]
instance :FaC Tryz.prog 88 1 34:=⟨aRy,aRI⟩
theorem aRO (b off:Nat):aR Tryz.prog 88 (.ptr b off) 2=some (.ptr b (off+35)):=by simp[aR,aBc,aJE]
theorem aRN (es:List V)(i off:Nat):aR Tryz.prog 88 (.eptr es i off) 2=some (.eptr es i (off+35)):=by simp[aR,aBc,aJE]
instance :FaC Tryz.prog 88 2 35:=⟨aRO,aRN⟩
theorem aRH (b off:Nat):aR Tryz.prog 88 (.ptr b off) 3=some (.ptr b (off+36)):=by simp[aR,aBc,dW]
theorem aSx (es:List V)(i off:Nat):aR Tryz.prog 88 (.eptr es i off) 3=some (.eptr es i (off+36)):=by simp[aR,aBc,dW]
instance :FaC Tryz.prog 88 3 36:=⟨aRH,aSx⟩
theorem aMM (b off:Nat):aR Tryz.prog 90 (.ptr b off) 0=some (.ptr b (off+0)):=by simp[aR,aBM,dW]
theorem aRc (es:List V)(i off:Nat):aR Tryz.prog 90 (.eptr es i off) 0=some (.eptr es i (off+0)):=by simp[aR,aBM,dW]
instance :FaC Tryz.prog 90 0 0:=⟨aMM,aRc⟩
theorem aJF (b off:Nat):aR Tryz.prog 90 (.ptr b off) 1=some (.ptr b (off+1)):=by simp[aR,aBM,dC]
theorem aRq (es:List V)(i off:Nat):aR Tryz.prog 90 (.eptr es i off) 1=some (.eptr es i (off+1)):=by simp[aR,aBM,dC]
instance :FaC Tryz.prog 90 1 1:=⟨aJF,aRq⟩
theorem aJo (b off:Nat):aR Tryz.prog 90 (.ptr b off) 2=some (.ptr b (off+2)):=by simp[aR,aBM,dW]
theorem aRa (es:List V)(i off:Nat):aR Tryz.prog 90 (.eptr es i off) 2=some (.eptr es i (off+2)):=by simp[aR,aBM,dW]
instance :FaC Tryz.prog 90 2 2:=⟨aJo,aRa⟩
theorem jZ (b off:Nat):aR Tryz.prog 90 (.ptr b off) 3=some (.ptr b (off+3)):=by simp[aR,aBM,dW]
theorem aSr (es:List V)(i off:Nat):aR Tryz.prog 90 (.eptr es i off) 3=some (.eptr es i (off+3)):=by simp[aR,aBM,dW]
instance :FaC Tryz.prog 90 3 3:=⟨jZ,aSr⟩
theorem aP5 (b off:Nat):aR Tryz.prog 103 (.ptr b off) 0=some (.ptr b (off+0)):=by simp[aR,aET,ti4]
theorem aQv (es:List V)(i off:Nat):aR Tryz.prog 103 (.eptr es i off) 0=some (.eptr es i (off+0)):=by simp[aR,aET,ti4]
instance :FaC Tryz.prog 103 0 0:=⟨aP5,aQv⟩
theorem aQE (b off:Nat):aR Tryz.prog 103 (.ptr b off) 1=some (.ptr b (off+1)):=by simp[aR,aET,ti4]
theorem aPX (es:List V)(i off:Nat):aR Tryz.prog 103 (.eptr es i off) 1=some (.eptr es i (off+1)):=by simp[aR,aET,ti4]
instance :FaC Tryz.prog 103 1 1:=⟨aQE,aPX⟩
theorem aPk (b off:Nat):aR Tryz.prog 113 (.ptr b off) 0=some (.ptr b (off+0)):=by simp[aR,aCU,ti4]
theorem aPy (es:List V)(i off:Nat):aR Tryz.prog 113 (.eptr es i off) 0=some (.eptr es i (off+0)):=by simp[aR,aCU,ti4]
instance :FaC Tryz.prog 113 0 0:=⟨aPk,aPy⟩
theorem aQp (b off:Nat):aR Tryz.prog 113 (.ptr b off) 1=some (.ptr b (off+1)):=by simp[aR,aCU,ti4]
theorem aQR (es:List V)(i off:Nat):aR Tryz.prog 113 (.eptr es i off) 1=some (.eptr es i (off+1)):=by simp[aR,aCU,ti4]
instance :FaC Tryz.prog 113 1 1:=⟨aQp,aQR⟩
theorem aQe (b off:Nat):aR Tryz.prog 139 (.ptr b off) 0=some (.ptr b (off+0)):=by simp[aR,rO,b8]
theorem aPs (es:List V)(i off:Nat):aR Tryz.prog 139 (.eptr es i off) 0=some (.eptr es i (off+0)):=by simp[aR,rO,b8]
instance :FaC Tryz.prog 139 0 0:=⟨aQe,aPs⟩
theorem aPS (b off:Nat):aR Tryz.prog 139 (.ptr b off) 1=some (.ptr b (off+4)):=by simp[aR,rO,b8]
theorem aPW (es:List V)(i off:Nat):aR Tryz.prog 139 (.eptr es i off) 1=some (.eptr es i (off+4)):=by simp[aR,rO,b8]
instance :FaC Tryz.prog 139 1 4:=⟨aPS,aPW⟩
theorem aVD :k5 Tryz.prog 26=some #[(0,1),(1,1),(2,1),(3,1)]:=by kernel_rfl
instance :PlC Tryz.prog 26 #[(0,1),(1,1),(2,1),(3,1)]:=⟨aVD⟩
theorem aJc :k5 Tryz.prog 30=some #[(0,32),(32,1)]:=by kernel_rfl
instance :PlC Tryz.prog 30 #[(0,32),(32,1)]:=⟨aJc⟩
theorem aVv :k5 Tryz.prog 33=some #[(0,1),(1,1)]:=by kernel_rfl
instance :PlC Tryz.prog 33 #[(0,1),(1,1)]:=⟨aVv⟩
theorem aPP :k5 Tryz.prog 35=some #[(0,33),(33,2),(35,1),(36,1)]:=by kernel_rfl
instance :PlC Tryz.prog 35 #[(0,33),(33,2),(35,1),(36,1)]:=⟨aPP⟩
theorem aPH :k5 Tryz.prog 48=some #[(0,33),(33,1),(34,1)]:=by kernel_rfl
instance :PlC Tryz.prog 48 #[(0,33),(33,1),(34,1)]:=⟨aPH⟩
theorem aPV :k5 Tryz.prog 54=some #[(0,32),(32,1),(33,1)]:=by kernel_rfl
instance :PlC Tryz.prog 54 #[(0,32),(32,1),(33,1)]:=⟨aPV⟩
theorem aP4 :k5 Tryz.prog 88=some #[(0,34),(34,1),(35,1),(36,1)]:=by kernel_rfl
instance :PlC Tryz.prog 88 #[(0,34),(34,1),(35,1),(36,1)]:=⟨aP4⟩
theorem aVy :k5 Tryz.prog 90=some #[(0,1),(1,1),(2,1),(3,1)]:=by kernel_rfl
instance :PlC Tryz.prog 90 #[(0,1),(1,1),(2,1),(3,1)]:=⟨aVy⟩
theorem aTQ :k5 Tryz.prog 103=some #[(0,1),(1,1)]:=by kernel_rfl
instance :PlC Tryz.prog 103 #[(0,1),(1,1)]:=⟨aTQ⟩
theorem aUk :k5 Tryz.prog 113=some #[(0,1),(1,1)]:=by kernel_rfl
instance :PlC Tryz.prog 113 #[(0,1),(1,1)]:=⟨aUk⟩
theorem aES :k5 Tryz.prog 139=some #[(0,4),(4,4)]:=by kernel_rfl
instance :PlC Tryz.prog 139 #[(0,4),(4,4)]:=⟨aES⟩
theorem aLV :zT Tryz.prog 9 30=some ((List.replicate 32 ([.int .u8])).flatten++[.int .u32]):=by kernel_rfl
theorem aN3 :Tryz.prog.eqGuardType Tryz.prog.depth 30=false:=by kernel_rfl
noncomputable def aE3 :MT:=(v9 Tryz.prog 74).getD default
theorem aMj :v9 Tryz.prog 74=some aE3:=by kernel_rfl
theorem aLe :aE3.code=33000:=by kernel_rfl
theorem aNO :nY aE3.dk=33:=by kernel_rfl
theorem aNK :nY aE3.de=0:=by kernel_rfl
theorem aQA :ofValue aE3.de.zero=(eB false):=by kernel_rfl
theorem aUp :aE3.kt=30:=by kernel_rfl
theorem aNn :aDT Tryz.prog aE3.kt (fun a:aW=> .agg (aVw (fV a)).toArray) aEe:=by
 rw[aUp];exact aNj (d:=9) rG rfl aLV (aV7 rfl) (fun _=>rfl) (fun _ _=>rfl)
theorem zH {p:Prop} (h:p:=by(simp only[kL,fE,jV,rF,Blk.rn,V.rns,V.rn,sg,List.map_cons,List.map_nil,Option.map_some,Option.map_none,List.drop_succ_cons,List.drop_zero,List.drop_nil,List.set_cons_zero,List.set_cons_succ,List.cons_append,List.nil_append,List.append_nil,kA,j8,xM,xT,eK,eH,gE,f9,fK,fJ,qT,gY,gT,jG,jM,d6,dZ,cG,cF,t6,tD,q9,qS,qW,tT,qY,List.getElem?_cons_zero,List.getElem?_cons_succ,List.getElem?_nil,List.length_cons,List.length_nil,Nat.reduceAdd,Nat.reduceSub,Nat.add_zero,Nat.zero_add,Nat.sub_self,Nat.sub_zero]<;>rfl)):p:=h
theorem zB {f:FuncId}{hs hs' hb hb':Hp}{args xs:List V}{r v:V}(hc:Vm.Fn Tryz.prog f hs args r hs')(ρ:List Nat) (hnd:ρ.Nodup:=by decide) (hlt:ρ.all (fun b=>Nat.blt b hb.length)=true:=by rfl)
  (hl:Lend (sg ρ hb.length) hb ρ hs:=by repeat (first|exact Lend.nil|refine Lend.cons rfl rfl ?_|refine Lend.cons rfl (pX (fun _=>rfl) _) ?_|refine Lend.cons rfl (iE (fun _=>rfl) _) ?_)) (hx:V.rns (sg ρ hb.length) args=xs:=by first|rfl|(simp only[V.rn,V.rns,kA,j8]<;>rfl)) (hr:r.rn (sg ρ hb.length)=v:=by first|rfl|(simp only[V.rn,V.rns,kA,j8]<;>rfl)) (hh:kL hb ρ hs'=hb':=by(simp only[kL,fE,jV,rF,Blk.rn,V.rns,V.rn,sg,List.map_cons,List.map_nil,Option.map_some,Option.map_none,List.drop_succ_cons,List.drop_zero,List.drop_nil,List.set_cons_zero,List.set_cons_succ,List.cons_append,List.nil_append,List.append_nil,kA,j8,xM,xT,eK,eH,gE,f9,fK,fJ,qT,gY,gT,jG,jM,d6,dZ,cG,cF,t6,tD,q9,qS,qW,tT,qY,List.getElem?_cons_zero,List.getElem?_cons_succ,List.getElem?_nil,List.length_cons,List.length_nil,Nat.reduceAdd,Nat.reduceSub,Nat.add_zero,Nat.zero_add,Nat.sub_self,Nat.sub_zero]<;>rfl)):Vm.Fn Tryz.prog f hb xs v hb':=Vm.Fn.lendB hc ρ hnd hlt hl hx hr hh
theorem zL {f:FuncId}{hs hs' hb hb':Hp}{args xs:List V}{r v:V}(hc:Vm.Fn Tryz.prog f hs args r hs')(ρ β:List Nat) (hnd:ρ.Nodup:=by decide) (hlt:ρ.all (fun b=>Nat.blt b hb.length)=true:=by rfl) (hdis: ∀b∈β,b∉ρ:=by decide)
  (hl:Lend (sg ρ hb.length) hb ρ hs:=by repeat (first|exact Lend.nil|refine Lend.cons rfl rfl ?_|refine Lend.cons rfl (pX (fun _=>rfl) _) ?_|refine Lend.cons rfl (iE (fun _=>rfl) _) ?_))
  (hx:Brw (sg ρ hb.length) (only β hb) xs args:=by repeat (first|exact Brw.nil|refine Brw.same rfl ?_|refine Brw.row (aIS rfl rfl (fun _=>rfl)) ?_|refine Brw.same (by simp only[V.rn,V.rns,kA,j8]) ?_))
  (hrf:r.rf=true:=by first|rfl|simp[V.rf,V.rfs,aLH,aLA]) (hrb:rfB hs':=by repeat (first|exact rfB.nil|refine rfB.dead ?_|refine rfB.live rfl ?_|refine rfB.live (aC7 (fun _=>rfl) _) ?_|refine rfB.live (rfs_flat (fun _=>rfl) _) ?_))
  (hr:r.rn (sg ρ hb.length)=v:=by first|rfl|(simp only[V.rn,V.rns,kA,j8]<;>rfl)) (hh:kL hb ρ hs'=hb':=by simp only[kL,fE,jV,rF,Blk.rn,V.rns,V.rn,sg,List.map_cons,List.map_nil,Option.map_some,Option.map_none,List.drop_succ_cons,List.drop_zero,List.drop_nil,List.set_cons_zero,List.set_cons_succ,List.cons_append,List.nil_append,List.append_nil,kA,j8,xM,xT,eK,eH,gE,f9,fK,fJ,qT,gY,gT,jG,jM,d6,dZ,cG,cF,t6,tD,q9,qS,qW,tT,qY,List.getElem?_cons_zero,List.getElem?_cons_succ,List.getElem?_nil,List.length_cons,List.length_nil,Nat.reduceAdd,Nat.reduceSub,Nat.add_zero,Nat.zero_add,Nat.sub_self,Nat.sub_zero]):Vm.Fn Tryz.prog f hb xs v hb':=Vm.Fn.lendR hc ρ β hnd hlt hdis hl hx hrf hrb hr hh
theorem zc {f:FuncId}{hb:Hp}{args xs:List V}{r:V}{N n t:Nat}{ops:Array Oper}{l:List Oper}{fr:List (Nat×V)}{K:List V→Hp→Prop}{ty:TypeId}{pos:String}{aft:Array Edge}{ws:List Operand}{ts:Array TypeId}{hs hs' hb':Hp}{v:V}(hc:Vm.Fn Tryz.prog f hs args r hs')(ρ:List Nat)(k:OpsX Tryz.prog N none ops l (aI n ((t,v)::fr)) hb' K) (hw:tH n fr ws=some xs:=by rfl) (hnd:ρ.Nodup:=by decide) (hlt:ρ.all (fun b=>Nat.blt b hb.length)=true:=by rfl) (hl:Lend (sg ρ hb.length) hb ρ hs:=by repeat (first|exact Lend.nil|refine Lend.cons rfl rfl ?_|refine Lend.cons rfl (pX (fun _=>rfl) _) ?_|refine Lend.cons rfl (iE (fun _=>rfl) _) ?_)) (hx:V.les noN xs (V.rns (sg ρ hb.length) args):=by repeat (first|exact V.les_refl _ _|exact V.les_nil|apply V.les_cons|exact V.le_refl _ _|exact V.le_nil|exact V.le_row|exact V.le_arr (fun _=>rfl)|apply V.le_agg)) (hr:r.rn (sg ρ hb.length)=v:=by(simp only[kL,fE,jV,rF,Blk.rn,V.rns,V.rn,sg,List.map_cons,List.map_nil,Option.map_some,Option.map_none,List.drop_succ_cons,List.drop_zero,List.drop_nil,List.set_cons_zero,List.set_cons_succ,List.cons_append,List.nil_append,List.append_nil,kA,j8,xM,xT,eK,eH,gE,f9,fK,fJ,qT,gY,gT,jG,jM,d6,dZ,cG,cF,t6,tD,q9,qS,qW,tT,qY,List.getElem?_cons_zero,List.getElem?_cons_succ,List.getElem?_nil,List.length_cons,List.length_nil,Nat.reduceAdd,Nat.reduceSub,Nat.add_zero,Nat.zero_add,Nat.sub_self,Nat.sub_zero]<;>rfl)) (hh:kL hb ρ hs'=hb':=by(simp only[kL,fE,jV,rF,Blk.rn,V.rns,V.rn,sg,List.map_cons,List.map_nil,Option.map_some,Option.map_none,List.drop_succ_cons,List.drop_zero,List.drop_nil,List.set_cons_zero,List.set_cons_succ,List.cons_append,List.nil_append,List.append_nil,kA,j8,xM,xT,eK,eH,gE,f9,fK,fJ,qT,gY,gT,jG,jM,d6,dZ,cG,cF,t6,tD,q9,qS,qW,tT,qY,List.getElem?_cons_zero,List.getElem?_cons_succ,List.getElem?_nil,List.length_cons,List.length_nil,Nat.reduceAdd,Nat.reduceSub,Nat.add_zero,Nat.zero_add,Nat.sub_self,Nat.sub_zero]<;>rfl)):OpsX Tryz.prog N none ops (⟨some t,.call ⟨.value (.func f),ws.toArray,ts⟩,ty,pos,aft,none⟩::l) (aI n fr) hb K:=xC hw (Vm.Fn.argsLe (Vm.Fn.lendB hc ρ hnd hlt hl rfl hr hh) hx) k
theorem jD {f:FuncId}{hb:Hp}{args xs:List V}{r:V}{N n t:Nat}{ops:Array Oper}{l:List Oper}{fr:List (Nat×V)}{K:List V→Hp→Prop}{ty:TypeId}{pos:String}{aft:Array Edge}{ws:List Operand}{ts:Array TypeId}{hs hs' hb':Hp}{v:V}(hc:Vm.Fn Tryz.prog f hs args r hs')(ρ β:List Nat)(k:OpsX Tryz.prog N none ops l (aI n ((t,v)::fr)) hb' K) (hw:tH n fr ws=some xs:=by rfl) (hnd:ρ.Nodup:=by decide) (hlt:ρ.all (fun b=>Nat.blt b hb.length)=true:=by rfl) (hdis: ∀b∈β,b∉ρ:=by decide) (hl:Lend (sg ρ hb.length) hb ρ hs:=by repeat (first|exact Lend.nil|refine Lend.cons rfl rfl ?_|refine Lend.cons rfl (pX (fun _=>rfl) _) ?_|refine Lend.cons rfl (iE (fun _=>rfl) _) ?_)) (hx:Brw (sg ρ hb.length) (only β hb) xs args:=by repeat (first|exact Brw.nil|refine Brw.same rfl ?_|refine Brw.row (aIS (by first|exact rfl|(simp only[b7,b6];done)|exact bE (by assumption)|exact cQ (by assumption)) rfl (fun _=>rfl)) ?_|refine Brw.row (aEI (fun _=>rfl) zl (by first|exact rfl|(simp only[b7,b6];done)|exact bE (by assumption)|exact cQ (by assumption)) rfl (fun _=>rfl)) ?_|refine Brw.same (by simp only[V.rn,V.rns,kA,j8]) ?_|refine Brw.le V.le_nil ?_|refine Brw.le V.le_row ?_)) (hrf:r.rf=true:=by first|rfl|simp[V.rf,V.rfs,aLH,aLA]) (hrb:rfB hs':=by repeat (first|exact rfB.nil|refine rfB.dead ?_|refine rfB.live rfl ?_|refine rfB.live (aC7 (fun _=>rfl) _) ?_|refine rfB.live (rfs_flat (fun _=>rfl) _) ?_)) (hr:r.rn (sg ρ hb.length)=v:=by(simp only[kL,fE,jV,rF,Blk.rn,V.rns,V.rn,sg,List.map_cons,List.map_nil,Option.map_some,Option.map_none,List.drop_succ_cons,List.drop_zero,List.drop_nil,List.set_cons_zero,List.set_cons_succ,List.cons_append,List.nil_append,List.append_nil,kA,j8,xM,xT,eK,eH,gE,f9,fK,fJ,qT,gY,gT,jG,jM,d6,dZ,cG,cF,t6,tD,q9,qS,qW,tT,qY,List.getElem?_cons_zero,List.getElem?_cons_succ,List.getElem?_nil,List.length_cons,List.length_nil,Nat.reduceAdd,Nat.reduceSub,Nat.add_zero,Nat.zero_add,Nat.sub_self,Nat.sub_zero]<;>rfl)) (hh:kL hb ρ hs'=hb':=by(simp only[kL,fE,jV,rF,Blk.rn,V.rns,V.rn,sg,List.map_cons,List.map_nil,Option.map_some,Option.map_none,List.drop_succ_cons,List.drop_zero,List.drop_nil,List.set_cons_zero,List.set_cons_succ,List.cons_append,List.nil_append,List.append_nil,kA,j8,xM,xT,eK,eH,gE,f9,fK,fJ,qT,gY,gT,jG,jM,d6,dZ,cG,cF,t6,tD,q9,qS,qW,tT,qY,List.getElem?_cons_zero,List.getElem?_cons_succ,List.getElem?_nil,List.length_cons,List.length_nil,Nat.reduceAdd,Nat.reduceSub,Nat.add_zero,Nat.zero_add,Nat.sub_self,Nat.sub_zero]<;>rfl)):OpsX Tryz.prog N none ops (⟨some t,.call ⟨.value (.func f),ws.toArray,ts⟩,ty,pos,aft,none⟩::l) (aI n fr) hb K:=xC hw (Vm.Fn.lendR hc ρ β hnd hlt hdis hl hx hrf hrb hr hh) k
theorem zg {f:FuncId}{hb:Hp}{args xs:List V}{r:V}{N n t:Nat}{ops:Array Oper}{l:List Oper}{fr:List (Nat×V)}{K:List V→Hp→Prop}{ty:TypeId}{pos:String}{aft:Array Edge}{ws:List Operand}{ts:Array TypeId}{hs hs' hb':Hp}{v:V}{F G:List Nat}{gd:Option (Nat×Bool)}(hc:Vm.Fn Tryz.prog f hs args r hs')(ρ:List Nat)(k:OpsX Tryz.prog N (some (F,G)) ops l (aI n ((t,v)::fr)) hb' K) (hw:tH n fr ws=some xs:=by rfl) (hnd:ρ.Nodup:=by decide) (hlt:ρ.all (fun b=>Nat.blt b hb.length)=true:=by rfl) (hl:Lend (sg ρ hb.length) hb ρ hs:=by repeat (first|exact Lend.nil|refine Lend.cons rfl rfl ?_|refine Lend.cons rfl (pX (fun _=>rfl) _) ?_|refine Lend.cons rfl (iE (fun _=>rfl) _) ?_)) (hx:V.les noN xs (V.rns (sg ρ hb.length) args):=by repeat (first|exact V.les_refl _ _|exact V.les_nil|apply V.les_cons|exact V.le_refl _ _|exact V.le_nil|exact V.le_row|exact V.le_arr (fun _=>rfl)|apply V.le_agg)) (hr:r.rn (sg ρ hb.length)=v:=by(simp only[kL,fE,jV,rF,Blk.rn,V.rns,V.rn,sg,List.map_cons,List.map_nil,Option.map_some,Option.map_none,List.drop_succ_cons,List.drop_zero,List.drop_nil,List.set_cons_zero,List.set_cons_succ,List.cons_append,List.nil_append,List.append_nil,kA,j8,xM,xT,eK,eH,gE,f9,fK,fJ,qT,gY,gT,jG,jM,d6,dZ,cG,cF,t6,tD,q9,qS,qW,tT,qY,List.getElem?_cons_zero,List.getElem?_cons_succ,List.getElem?_nil,List.length_cons,List.length_nil,Nat.reduceAdd,Nat.reduceSub,Nat.add_zero,Nat.zero_add,Nat.sub_self,Nat.sub_zero]<;>rfl)) (hh:kL hb ρ hs'=hb':=by(simp only[kL,fE,jV,rF,Blk.rn,V.rns,V.rn,sg,List.map_cons,List.map_nil,Option.map_some,Option.map_none,List.drop_succ_cons,List.drop_zero,List.drop_nil,List.set_cons_zero,List.set_cons_succ,List.cons_append,List.nil_append,List.append_nil,kA,j8,xM,xT,eK,eH,gE,f9,fK,fJ,qT,gY,gT,jG,jM,d6,dZ,cG,cF,t6,tD,q9,qS,qW,tT,qY,List.getElem?_cons_zero,List.getElem?_cons_succ,List.getElem?_nil,List.length_cons,List.length_nil,Nat.reduceAdd,Nat.reduceSub,Nat.add_zero,Nat.zero_add,Nat.sub_self,Nat.sub_zero]<;>rfl)) (hF:fQ F f=false:=by rfl) (hG:fQ G f=true→ ∃news,hb'=hb++news:=by first|exact(fun _=>⟨_,rfl⟩)|exact(fun _=>⟨[],(List.append_nil _).symm⟩)|exact(fun h=>absurd h (by decide))) (hg:Gd ops n fr gd:=by exact gD):OpsX Tryz.prog N (some (F,G)) ops (⟨some t,.call ⟨.value (.func f),ws.toArray,ts⟩,ty,pos,aft,gd⟩::l) (aI n fr) hb K:=xG hw (Vm.Fn.argsLe (Vm.Fn.lendB hc ρ hnd hlt hl rfl hr hh) hx) k hF hG hg
theorem zgL {f:FuncId}{hb:Hp}{args xs:List V}{r:V}{N n t:Nat}{ops:Array Oper}{l:List Oper}{fr:List (Nat×V)}{K:List V→Hp→Prop}{ty:TypeId}{pos:String}{aft:Array Edge}{ws:List Operand}{ts:Array TypeId}{hs hs' hb':Hp}{v:V}{F G:List Nat}{gd:Option (Nat×Bool)}(hc:Vm.Fn Tryz.prog f hs args r hs')(ρ β:List Nat)(k:OpsX Tryz.prog N (some (F,G)) ops l (aI n ((t,v)::fr)) hb' K) (hw:tH n fr ws=some xs:=by rfl) (hnd:ρ.Nodup:=by decide) (hlt:ρ.all (fun b=>Nat.blt b hb.length)=true:=by rfl) (hdis: ∀b∈β,b∉ρ:=by decide) (hl:Lend (sg ρ hb.length) hb ρ hs:=by repeat (first|exact Lend.nil|refine Lend.cons rfl rfl ?_|refine Lend.cons rfl (pX (fun _=>rfl) _) ?_|refine Lend.cons rfl (iE (fun _=>rfl) _) ?_)) (hx:Brw (sg ρ hb.length) (only β hb) xs args:=by repeat (first|exact Brw.nil|refine Brw.same rfl ?_|refine Brw.row (aIS (by first|exact rfl|(simp only[b7,b6];done)|exact bE (by assumption)|exact cQ (by assumption)) rfl (fun _=>rfl)) ?_|refine Brw.row (aEI (fun _=>rfl) zl (by first|exact rfl|(simp only[b7,b6];done)|exact bE (by assumption)|exact cQ (by assumption)) rfl (fun _=>rfl)) ?_|refine Brw.same (by simp only[V.rn,V.rns,kA,j8]) ?_|refine Brw.le V.le_nil ?_|refine Brw.le V.le_row ?_)) (hrf:r.rf=true:=by first|rfl|simp[V.rf,V.rfs,aLH,aLA]) (hrb:rfB hs':=by repeat (first|exact rfB.nil|refine rfB.dead ?_|refine rfB.live rfl ?_|refine rfB.live (aC7 (fun _=>rfl) _) ?_|refine rfB.live (rfs_flat (fun _=>rfl) _) ?_)) (hr:r.rn (sg ρ hb.length)=v:=by(simp only[kL,fE,jV,rF,Blk.rn,V.rns,V.rn,sg,List.map_cons,List.map_nil,Option.map_some,Option.map_none,List.drop_succ_cons,List.drop_zero,List.drop_nil,List.set_cons_zero,List.set_cons_succ,List.cons_append,List.nil_append,List.append_nil,kA,j8,xM,xT,eK,eH,gE,f9,fK,fJ,qT,gY,gT,jG,jM,d6,dZ,cG,cF,t6,tD,q9,qS,qW,tT,qY,List.getElem?_cons_zero,List.getElem?_cons_succ,List.getElem?_nil,List.length_cons,List.length_nil,Nat.reduceAdd,Nat.reduceSub,Nat.add_zero,Nat.zero_add,Nat.sub_self,Nat.sub_zero]<;>rfl)) (hh:kL hb ρ hs'=hb':=by(simp only[kL,fE,jV,rF,Blk.rn,V.rns,V.rn,sg,List.map_cons,List.map_nil,Option.map_some,Option.map_none,List.drop_succ_cons,List.drop_zero,List.drop_nil,List.set_cons_zero,List.set_cons_succ,List.cons_append,List.nil_append,List.append_nil,kA,j8,xM,xT,eK,eH,gE,f9,fK,fJ,qT,gY,gT,jG,jM,d6,dZ,cG,cF,t6,tD,q9,qS,qW,tT,qY,List.getElem?_cons_zero,List.getElem?_cons_succ,List.getElem?_nil,List.length_cons,List.length_nil,Nat.reduceAdd,Nat.reduceSub,Nat.add_zero,Nat.zero_add,Nat.sub_self,Nat.sub_zero]<;>rfl)) (hF:fQ F f=false:=by rfl) (hG:fQ G f=true→ ∃news,hb'=hb++news:=by first|exact(fun _=>⟨_,rfl⟩)|exact(fun _=>⟨[],(List.append_nil _).symm⟩)|exact(fun h=>absurd h (by decide))) (hg:Gd ops n fr gd:=by exact gD):OpsX Tryz.prog N (some (F,G)) ops (⟨some t,.call ⟨.value (.func f),ws.toArray,ts⟩,ty,pos,aft,gd⟩::l) (aI n fr) hb K:=xG hw (Vm.Fn.lendR hc ρ β hnd hlt hdis hl hx hrf hrb hr hh) k hF hG hg
theorem xp {f:FuncId}{hb:Hp}{args xs:List V}{r:V}{N n t:Nat}{ops:Array Oper}{l:List Oper}{fr:List (Nat×V)}{K:List V→Hp→Prop}{ty:TypeId}{pos:String}{aft:Array Edge}{ws:List Operand}{ts:Array TypeId}(hc:Vm.Fn Tryz.prog f [] args r [])(k:OpsX Tryz.prog N none ops l (aI n ((t,r)::fr)) hb K) (hw:tH n fr ws=some xs:=by rfl) (hx:V.les noN xs args:=by repeat (first|exact V.les_refl _ _|exact V.les_nil|apply V.les_cons|exact V.le_refl _ _|exact V.le_nil|exact V.le_row|exact V.le_arr (fun _=>rfl)|apply V.le_agg)) (ha:V.rns (sg [] hb.length) args=args:=by first|rfl|(simp only[V.rn,V.rns,kA,j8]<;>rfl)) (hr:r.rn (sg [] hb.length)=r:=by first|rfl|(simp only[V.rn,V.rns,kA,j8]<;>rfl)):OpsX Tryz.prog N none ops (⟨some t,.call ⟨.value (.func f),ws.toArray,ts⟩,ty,pos,aft,none⟩::l) (aI n fr) hb K:=xC hw (Vm.Fn.argsLe (Vm.Fn.pure hc ha hr) hx) k
theorem xu {f:FuncId}{hb:Hp}{args xs:List V}{r:V}{N n t:Nat}{ops:Array Oper}{l:List Oper}{fr:List (Nat×V)}{K:List V→Hp→Prop}{ty:TypeId}{pos:String}{aft:Array Edge}{ws:List Operand}{ts:Array TypeId}{F G:List Nat}{gd:Option (Nat×Bool)}(hc:Vm.Fn Tryz.prog f [] args r [])(k:OpsX Tryz.prog N (some (F,G)) ops l (aI n ((t,r)::fr)) hb K) (hw:tH n fr ws=some xs:=by rfl) (hx:V.les noN xs args:=by repeat (first|exact V.les_refl _ _|exact V.les_nil|apply V.les_cons|exact V.le_refl _ _|exact V.le_nil|exact V.le_row|exact V.le_arr (fun _=>rfl)|apply V.le_agg)) (ha: ∀L,V.rns (sg [] L) args=args:=by(intro L;first|rfl|(simp only[V.rn,V.rns,kA,j8]<;>rfl))) (hr: ∀L,r.rn (sg [] L)=r:=by(intro L;first|rfl|(simp only[V.rn,V.rns,kA,j8]<;>rfl))) (hG:fQ G f=false:=by rfl) (hg:Gd ops n fr gd:=by exact gD):OpsX Tryz.prog N (some (F,G)) ops (⟨some t,.call ⟨.value (.func f),ws.toArray,ts⟩,ty,pos,aft,gd⟩::l) (aI n fr) hb K:=xU hw (fun _=>Vm.Fn.argsLe (Vm.Fn.pure hc (ha _) (hr _)) hx) k hG hg
end Go.Proofs.YtbjiaghljpoliaaGreatDoor
