/- Texts of ours, joined: VmEq, VmAis, VmShort, VmCut, VmQ, VmX, VmY, VmZ, VmMark, VmEs, VmFz. -/
import Derived.Test.YtgfdllellpbmoaaGreatDoorQLedgerBasics2
import Derived.Scope
open Nat renaming le_of_ble_eq_true → aYV,ble → aY6,add_mul → aZB,add_one_sub_one → aZD,beq → aZG,zero_add → aZL,one_mul → aZQ
open Array renaming getElem?_setIfInBounds_ne → aYW,getElem?_setIfInBounds_self_of_lt → aZb,getElem?_eq_some_iff → aZo,getElem?_modify → aZz,forIn_toList → aZH
open Option.some renaming injEq → aYX,inj → aYZ
open Bool renaming false_eq_true → aYY,and_eq_true → aY1,and_true → aZk
open List renaming replicate → aY0,eq_nil_of_length_eq_zero → aY2,drop_eq_nil_of_le → aY3,length_take → aY4,map_cons → aY5,getElem?_eq_getElem → aY7,length_drop → aY8,all_eq_true → aY9,take_append_drop → aZa,all_cons → aZc,getD_eq_getElem?_getD → aZd,drop_drop → aZe,drop_zero → aZf,getElem?_cons_zero → aZg,take_of_length_le → aZh,append_assoc → aZi,getElem?_set_ne → aZj,nil_append → aZm,length_map → aZn,length_append → aZp,getElem?_eq_some_iff → aZq,getElem?_map → aZr,cons_append → aZt,drop_append → aZu,getElem?_set_self → aZv,headD_cons → aZw,getElem?_eq_none → aZx,length_set → aZy,range → aZA,replicate_succ → aZC,getElem?_range → aZE,map_congr_left → aZF,mem_singleton → aZI,flatten_cons → aZJ,size_toArray → aZK,length_cons → aZM,take_append → aZN,prefix_refl → aZO,forIn_cons → aZP
open Int renaming le_refl → aZl
open Option renaming isSome_iff_exists → aZs,map_some → aZR
open Prod.mk renaming injEq → aZS
open Go.Vm.Conv renaming rowK → aZT
set_option linter.unusedSimpArgs false
set_option linter.unusedVariables false
namespace Go.Vm
open Go
def aHB (P:Program)(g:TypeId→Option (List TypeDesc)):List Field→Nat→Option (List TypeDesc)
 | [],_=>some []
 |f::fs,off=>if f.name= "_" ∨f.offset≠off then none else match aH P f.type,g f.type with
  |some d,some l=>if d.size=l.length∧0<d.size then(aHB P g fs (off+l.length)).map (l++ ·)else none
  |_,_=>none
def aB1 (P:Program):Nat→TypeId→Option (List TypeDesc)
 |0,_=>none
 |d+1,t=>match aH P t with
  |some ⟨.int k,sz,_,_⟩=>if sz=1 then some [.int k]else none
  |some ⟨.bool,sz,_,_⟩=>if sz=1 then some [.bool]else none
  |some ⟨.string,sz,_,_⟩=>if sz=1 then some [.string]else none
  |some ⟨.array n e,sz,_,_⟩=>match aH P e,aB1 P d e with
   |some de,some l=>if de.size=l.length∧sz=n*l.length then some (aY0 n l).flatten else none
   |_,_=>none
  |some ⟨.struct fs,sz,_,_⟩=>if P.stoodInHeld t=true then none else match aHB P (aB1 P d) fs.toList 0 with
   |some l=>if sz=l.length then some l else none
   |none=>none
  |_=>none
def mkT (ti:TI)(vs:List Value):Value:=if b7 ti.desc then .agg vs.toArray else vs.headD default
def jV :List TypeDesc→List Value→Bool
 | [],[]=>true
 | .int k::ds,.int k' _::vs=>decide (k=k')&&jV ds vs
 | .bool::ds,.bool _::vs=>jV ds vs
 | .string::ds,.string _::vs=>jV ds vs
 |_,_=>false
def aMV :Value→Value→Bool
 | .int _ a,.int _ b=>a == b
 | .bool a,.bool b=>a == b
 | .string a,.string b=>a == b
 |_,_=>false
def iI :List Value→List Value→Bool
 | [],[]=>true
 |x::xs,y::ys=>aMV x y&&iI xs ys
 |_,_=>false
theorem aF5 : ∀{a c b d:List Value},a.length=c.length→iI (a++b) (c++d)=(iI a c&&iI b d)
 | [],[],_,_,_=>by simp[iI]
 |x::a,y::c,b,d,h=>by
  simp only[aZt,iI]
  rw[aF5 (by simpa using h),Bool.and_assoc]
 | [],_::_,_,_,h=>by simp at h
 |_::_,[],_,_,h=>by simp at h
theorem oO : ∀{ds:List TypeDesc}{vs:List Value},jV ds vs=true→vs.length=ds.length
 | [],[],_=>rfl
 | [],_::_,h=>by simp[jV]at h
 |d::ds,[],h=>by cases d<;>simp[jV]at h
 |d::ds,v::vs,h=>by
  have:jV ds vs=true:=by
   cases d<;>cases v<;>simp only[jV,aYY,aY1]at h<;>first|exact h|exact h.2
  simp[oO this]
theorem uH : ∀{l m:List TypeDesc}{vs:List Value},jV (l++m) vs=true→jV l (vs.take l.length)=true∧jV m (vs.drop l.length)=true
 | [],m,vs,h=>by simpa[jV]using h
 |d::l,m,[],h=>by cases d<;>simp[jV]at h
 |d::l,m,v::vs,h=>by
  cases d<;>cases v<;>simp only[aZt,jV,aYY,aY1]at h<;>simp only[aZM,List.take_succ_cons,List.drop_succ_cons,jV,aY1]
  ·exact uH h
  ·exact⟨⟨h.1,(uH h.2).1⟩,(uH h.2).2⟩
  exact uH h
section
variable {P:Program}
theorem t4 {t:TypeId}{ti:TI}(ht:aH P t=some ti){vs:List Value}{off:Nat}(h1:b7 ti.desc=true∨ti.size=1)(hl:off+ti.size≤vs.length):aO P (part t vs.toArray off)=some (mkT ti ((vs.drop off).take ti.size)):=by
 have hu:=dG ht
 cases hag:b7 ti.desc with
 |false=>
  have hs:=h1.resolve_left (by rw[hag];simp)
  have hlt:off<vs.length:=by omega
  have:=aDw (P:=P) ht hag (cs:=vs.toArray) (off:=off) (v:=vs[off]) (by simp[hlt])
  rw[this]
  simp only[mkT,hag,aYY,if_false,hs]
  rw[List.drop_eq_getElem_cons hlt];rfl
 |true=>
  unfold part
  have h1:aO P (isAgg t)=some true:=by
   unfold isAgg
   rw[bC _ _ hu]
   cases hh:ti.desc<;>first|rfl|(rw[hh]at hag;simp[b7]at hag)
  rw[bC _ _ h1]
  simp only[if_true]
  rw[bC _ _ (wR ht)]
  simp only[mkT,hag,if_true,List.extract_toArray,List.extract_eq_drop_take']
  show some _=_
  congr 2
  simp[List.take_drop]
theorem aSA {α:Type}{p:α→Bool}{body:α→Option Bool×Unit→Sem (ForInStep (Option Bool×Unit))}{k:Option Bool×Unit→Sem Bool}(h1: ∀r u,k (some r,u)=pure r)(h2: ∀u,k (none,u)=pure true): ∀(l:List α),(∀a∈l,∀s,aO P (body a s)=some (if p a=true then .yield (none,())else .done (some false,())))→
  aO P (forIn l ((none,()):Option Bool×Unit) body >>= k)=some (l.all p)
 | [],_=>by
  simp only[List.forIn_nil,pure_bind,h2]
  rfl
 |a::l,h=>by
  simp only[aZP,bind_assoc]
  rw[bC _ _ (h a (by simp) _)]
  cases hp:p a with
  |true=>
   simp only[if_true,aZc,hp,Bool.true_and]
   exact aSA h1 h2 l (fun b hb=>h b (by simp[hb]))
  |false=>
   simp only[aYY,if_false,aZc,hp,Bool.false_and,pure_bind,h1]
   rfl
theorem aSu {α:Type}{body:α→PUnit→Sem (ForInStep PUnit)}: ∀(l:List α),(∀a∈l,∀s,aO P (body a s)=some (.yield PUnit.unit))→
  aO P (do
   forIn l PUnit.unit body
   pure ())=some ()
 | [],_=>by simp only[List.forIn_nil];rfl
 |a::l,h=>by
  simp only[aZP,bind_assoc]
  rw[bC _ _ (h a (by simp) _)]
  exact aSu l (fun b hb=>h b (by simp[hb]))
theorem aGA {m:Nat}{xs ys:List Value}: ∀(c i:Nat),xs.length=(i+c)*m→ys.length=(i+c)*m→iI (xs.drop (i*m)) (ys.drop (i*m))=(List.range' i c).all fun i=>iI ((xs.drop (i*m)).take m) ((ys.drop (i*m)).take m)
 |0,i,hx,hy=>by
  rw[aY3 (by rw[hx];simp),aY3 (by rw[hy];simp)]
  simp[iI]
 |c+1,i,hx,hy=>by
  have ih:=aGA (m:=m) (xs:=xs) (ys:=ys) c (i+1) (by rw[hx];congr 1;omega) (by rw[hy];congr 1;omega)
  simp only[List.range'_succ,aZc]
  rw[←ih]
  have e:(i+1)*m=i*m+m:=by rw[aZB,aZQ]
  have hm:m≤(c+1)*m:=Nat.le_mul_of_pos_left m (by omega)
  have h2:(i+(c+1))*m=i*m+(c+1)*m:=aZB _ _ _
  rw[e,←aZe,←aZe,←aF5 (by simp only[aY4,aY8,hx,hy]),aZa,aZa]
theorem aIP {l:List TypeDesc}: ∀(c:Nat){xs:List Value},jV (aY0 c l).flatten xs=true→ ∀i,i<c→jV l ((xs.drop (i*l.length)).take l.length)=true
 |0,_,_,i,hi=>by omega
 |c+1,xs,h,i,hi=>by
  simp only[aZC,aZJ]at h
  obtain⟨h1,h2⟩:=uH h
  cases i with
  |zero=>simpa using h1
  |succ i=>
   have:=aIP c h2 i (by omega)
   rw[aZe]at this
   rw[aZB,aZQ,Nat.add_comm]
   exact this
def aLi (P:Program)(xs ys:List Value)(f:Field):Bool:=match aH P f.type with
 |some d=>iI ((xs.drop f.offset).take d.size) ((ys.drop f.offset).take d.size)
 |none=>false
theorem aF7 {g:TypeId→Option (List TypeDesc)}{xs ys:List Value}: ∀(fs:List Field)(off:Nat){l:List TypeDesc},aHB P g fs off=some l→jV l (xs.drop off)=true→jV l (ys.drop off)=true→
  fs.all (aLi P xs ys)=iI (xs.drop off) (ys.drop off)∧ ∀f∈fs,f.name≠ "_" ∧ ∃df lf,aH P f.type=some df∧g f.type=some lf∧df.size=lf.length∧f.offset+df.size≤xs.length∧f.offset+df.size≤ys.length∧
   jV lf ((xs.drop f.offset).take df.size)=true∧jV lf ((ys.drop f.offset).take df.size)=true
 | [],off,l,h,hx,hy=>by
  simp only[aHB,aYX]at h
  subst h
  have e1:=oO hx
  have e2:=oO hy
  rw[aY2 e1,aY2 e2]
  simp[iI]
 |f::fs,off,l,h,hx,hy=>by
  simp only[aHB]at h
  split at h
  ·cases h
  rename_i hno
  have hname:f.name≠ "_" :=fun e=>hno (.inl e)
  have hoff:f.offset=off:=Classical.byContradiction fun e=>hno (.inr e)
  split at h
  ·rename_i df lf hd hg
   split at h
   ·rename_i hsz
    obtain⟨hsz,h0⟩:=hsz
    simp only[Option.map_eq_some_iff]at h
    obtain⟨l',hl',rfl⟩:=h
    obtain⟨x1,x2⟩:=uH hx
    obtain⟨y1,y2⟩:=uH hy
    rw[aZe]at x2 y2
    obtain⟨i1,i2⟩:=aF7 fs (off+lf.length) hl' x2 y2
    have lx:=oO hx
    have ly:=oO hy
    simp only[aY8,aZp]at lx ly
    have hxl:off≤xs.length∨lf.length+l'.length=0:=by omega
    have x1l:=oO x1
    have y1l:=oO y1
    simp only[aY4,aY8]at x1l y1l
    refine⟨?_, ?_⟩
    ·simp only[aZc,i1,aLi,hd,hoff,hsz]
     rw[←aZe,←aZe,←aF5 (by simp only[aY4,aY8];omega),aZa,aZa]
    intro f' hf'
    rcases List.mem_cons.1 hf' with rfl|hf'
    ·exact⟨hname,df,lf,hd,hg,hsz,by omega,by omega,by rw[hoff,hsz];exact x1,by rw[hoff,hsz];exact y1⟩
    exact i2 f' hf'
   cases h
  cases h
theorem aDD : ∀(d:Nat){t:TypeId}{L:List TypeDesc}{ti:TI},aH P t=some ti→aB1 P d t=some L→(L.length=ti.size∧(b7 ti.desc=true∨ti.size=1))∧
  ∀(n:Nat){xs:List Value},jV L xs=true→(∀{ys:List Value},jV L ys=true→aO P (Op.equalIn (n+d) t (mkT ti xs) (mkT ti ys))=some (iI xs ys))∧ ∀b,aO P (Instr.checkKey b (n+d) t (mkT ti xs))=some ()
 |0,t,L,ti,_,h=>by simp[aB1]at h
 |d+1,t,L,ti,ht,h=>by
  simp only[aB1]at h
  rw[ht]at h
  split at h
  ·rename_i k sz _ _ he
   injection he with he;subst he
   split at h
   ·rename_i h1
    injection h with h;subst h
    refine⟨⟨by simp[h1],.inr h1⟩,fun n xs hx=>⟨fun{ys} hy=> ?_,fun b=> ?_⟩⟩
    ·match xs,ys,oO hx,oO hy,hx,hy with
     | [.int k1 a],[.int k2 c],_,_,hx,hy=>
      simp only[jV,aZk,decide_eq_true_eq]at hx hy
      subst hx;subst hy
      simp only[mkT,b7,aYY,if_false,aZw,iI,aMV,aZk]
      exact aLt ht _ a c
    match xs,oO hx,hx with
    | [.int k1 a],_,hx=>
     show aO P (Instr.checkKey b (n+d+1) t _)=_
     rw[Instr.checkKey,bC _ _ (dG ht)]
     rfl
   cases h
  ·rename_i sz _ _ he
   injection he with he;subst he
   split at h
   ·rename_i h1
    injection h with h;subst h
    refine⟨⟨by simp[h1],.inr h1⟩,fun n xs hx=>⟨fun{ys} hy=> ?_,fun b=> ?_⟩⟩
    ·match xs,ys,hx,hy with
     | [.bool a],[.bool c],hx,hy=>
      show aO P (Op.equalIn (n+d+1) t _ _)=_
      rw[Op.equalIn,bC _ _ (dG ht)]
      simp only[mkT,b7,aYY,if_false,aZw,iI,aMV,aZk]
      rfl
    match xs,hx with
    | [.bool a],hx=>
     show aO P (Instr.checkKey b (n+d+1) t _)=_
     rw[Instr.checkKey,bC _ _ (dG ht)]
     rfl
   cases h
  ·rename_i sz _ _ he
   injection he with he;subst he
   split at h
   ·rename_i h1
    injection h with h;subst h
    refine⟨⟨by simp[h1],.inr h1⟩,fun n xs hx=>⟨fun{ys} hy=> ?_,fun b=> ?_⟩⟩
    ·match xs,ys,hx,hy with
     | [.string a],[.string c],hx,hy=>
      show aO P (Op.equalIn (n+d+1) t _ _)=_
      rw[Op.equalIn,bC _ _ (dG ht)]
      simp only[mkT,b7,aYY,if_false,aZw,iI,aMV,aZk]
      rfl
    match xs,hx with
    | [.string a],hx=>
     show aO P (Instr.checkKey b (n+d+1) t _)=_
     rw[Instr.checkKey,bC _ _ (dG ht)]
     rfl
   cases h
  ·rename_i len e sz _ _ he
   injection he with he;subst he
   split at h
   ·rename_i de l hde hle
    split at h
    ·rename_i hc
     obtain⟨hc1,hc2⟩:=hc
     injection h with h;subst h
     obtain⟨⟨_,ag⟩,ih⟩:=aDD d hde hle
     have hL:(aY0 len l).flatten.length=len*l.length:=by simp
     refine⟨⟨by rw[hL];exact hc2.symm,.inl rfl⟩,fun n xs hx=> ?_⟩
     have lx:=oO hx
     rw[hL]at lx
     have hxo:=aIP len hx
     have slot: ∀i,i<len→i*l.length+l.length≤len*l.length:=fun i hi=>by
      have:=Nat.mul_le_mul_right l.length (show i+1≤len from hi)
      rw[aZB,aZQ]at this;exact this
     have px: ∀i,i<len→aO P (part e xs.toArray (i*l.length))=some (mkT de ((xs.drop (i*l.length)).take l.length)):=fun i hi=>by
      have:=t4 (P:=P) hde ag (vs:=xs) (off:=i*l.length) (by rw[hc1,lx];exact slot i hi)
      rw[hc1]at this;exact this
     refine⟨fun{ys} hy=> ?_,fun b=> ?_⟩
     ·have ly:=oO hy
      rw[hL]at ly
      have hyo:=aIP len hy
      have py: ∀i,i<len→aO P (part e ys.toArray (i*l.length))=some (mkT de ((ys.drop (i*l.length)).take l.length)):=fun i hi=>by
       have:=t4 (P:=P) hde ag (vs:=ys) (off:=i*l.length) (by rw[hc1,ly];exact slot i hi)
       rw[hc1]at this;exact this
      show aO P (Op.equalIn (n+d+1) t (.agg xs.toArray) (.agg ys.toArray))=_
      rw[Op.equalIn,bC _ _ (dG ht)]
      simp only
      rw[bC _ _ (wR hde),hc1]
      simp only[Std.Legacy.Range.forIn_eq_forIn_range',Std.Legacy.Range.size,Nat.sub_zero,aZD,Nat.div_one]
      have hch:=aGA (m:=l.length) (xs:=xs) (ys:=ys) len 0 (by simpa using lx) (by simpa using ly)
      simp only[Nat.zero_mul,aZf]at hch
      rw[hch]
      refine aSA (fun _ _=>rfl) (fun _=>rfl) _ fun i hi s=> ?_
      have hil:i<len:=by simp at hi;omega
      rw[bC _ _ (px i hil),bC _ _ (py i hil),bC _ _ ((ih n (hxo i hil)).1 (hyo i hil))]
      cases iI ((xs.drop (i*l.length)).take l.length) ((ys.drop (i*l.length)).take l.length)<;>rfl
     show aO P (Instr.checkKey b (n+d+1) t (.agg xs.toArray))=_
     rw[Instr.checkKey,bC _ _ (dG ht)]
     simp only[Std.Legacy.Range.forIn_eq_forIn_range',Std.Legacy.Range.size,Nat.sub_zero,aZD,Nat.div_one]
     refine aSu _ fun i hi s=> ?_
     have hil:i<len:=by simp at hi;omega
     rw[bC _ _ (wR hde),hc1,bC _ _ (px i hil),bC _ _ ((ih n (hxo i hil)).2 b)]
     rfl
    cases h
   cases h
  ·rename_i fs sz _ _ he
   injection he with he;subst he
   split at h
   ·cases h
   rename_i hst
   have hst':P.stoodInHeld t=false:=by simpa using hst
   split at h
   ·rename_i l hl
    split at h
    ·rename_i hsz
     injection h with h;subst h
     refine⟨⟨hsz.symm,.inl rfl⟩,fun n xs hx=> ?_⟩
     have hx0:jV l (xs.drop 0)=true:=by simpa using hx
     refine⟨fun{ys} hy=> ?_,fun b=> ?_⟩
     ·have hy0:jV l (ys.drop 0)=true:=by simpa using hy
      obtain⟨a1,a2⟩:=aF7 (P:=P) _ 0 hl hx0 hy0
      simp only[aZf]at a1
      show aO P (Op.equalIn (n+d+1) t (.agg xs.toArray) (.agg ys.toArray))=_
      rw[Op.equalIn,bC _ _ (dG ht)]
      simp only
      have hp:aO P (program)=some P:=rfl
      rw[bC _ _ hp]
      simp only[hst',aYY,if_false]
      rw[←a1]
      simp only[←aZH]
      refine aSA (fun _ _=>rfl) (fun _=>rfl) _ fun f hf s=> ?_
      obtain⟨f1,df,lf,f2,f3,f4,f5,f6,f7,f8⟩:=a2 f hf
      obtain⟨⟨_,ag⟩,ih⟩:=aDD d f2 f3
      simp only[f1,ne_eq,not_false_eq_true,if_true]
      rw[bC _ _ (t4 f2 ag f5),bC _ _ (t4 f2 ag f6),bC _ _ ((ih n f7).1 f8)]
      simp only[aLi,f2]
      cases iI ((xs.drop f.offset).take df.size) ((ys.drop f.offset).take df.size)<;>rfl
     obtain⟨_,a2⟩:=aF7 (P:=P) _ 0 hl hx0 hx0
     show aO P (Instr.checkKey b (n+d+1) t (.agg xs.toArray))=_
     rw[Instr.checkKey,bC _ _ (dG ht)]
     simp only
     simp only[←aZH]
     refine aSu _ fun f hf s=> ?_
     obtain⟨f1,df,lf,f2,f3,f4,f5,f6,f7,f8⟩:=a2 f hf
     obtain⟨⟨_,ag⟩,ih⟩:=aDD d f2 f3
     simp only[f1,ne_eq,not_false_eq_true,if_true]
     rw[bC _ _ (t4 f2 ag f5),bC _ _ ((ih n f7).2 b)]
     rfl
    cases h
   cases h
  cases h
end
instance :Inhabited MT:=⟨⟨0,0,⟨.bool,0,0,default⟩,⟨.bool,0,0,default⟩⟩⟩
section
variable {P:Program}{t:TypeId}{L:List TypeDesc}{ti:TI}{xo yo:Operand}{d:Nat}
theorem aJX (hg:P.eqGuardType P.depth t=false){bo:BinOp}(hbo:bo= .eql∨bo= .neq)(a b:Array Value):aO P (eqGuard bo t xo yo (.agg a) (.agg b))=some ():=by
 unfold eqGuard
 rcases hbo with rfl|rfl<;>
 ·show aO P (if(!P.eqGuardType P.depth t)=true then pure ()else _)=some ()
  rw[hg];rfl
theorem aLP (ht:aH P t=some ti)(hag:b7 ti.desc=true)(hf:aB1 P d t=some L)(hd:d≤10000){xs ys:List Value}(ox:jV L xs=true)(oy:jV L ys=true):aO P (Op.equal t (.agg xs.toArray) (.agg ys.toArray))=some (iI xs ys):=by
 have:=((aDD d ht hf).2 (10000-d) ox).1 oy
 simp only[mkT,hag,if_true]at this
 rw[Nat.sub_add_cancel hd]at this
 exact this
theorem yO (ht:aH P t=some ti)(hag:b7 ti.desc=true)(hf:aB1 P d t=some L)(hd:d≤10000)(hg:P.eqGuardType P.depth t=false){cs ds:List V}{xs ys:List Value}{r:Bool}(hx:cs.mapM dN=some xs)(hy:ds.mapM dN=some ys)(ox:jV L xs=true)(oy:jV L ys=true)(hr:iI xs ys=r):
  dZ P .eql t xo yo (.agg cs) (.agg ds)=some (.sc (.bool r)):=by
 simp only[dZ,fL,hx,hy,aZR,pureV]
 rw[bC _ _ (aJX hg (.inl rfl) _ _)]
 have:aO P (binOp .eql t (.agg xs.toArray) (.agg ys.toArray))=some (.bool (iI xs ys)):=tS _ _ (aLP ht hag hf hd ox oy)
 rw[this,hr];rfl
theorem aN1 (ht:aH P t=some ti)(hag:b7 ti.desc=true)(hf:aB1 P d t=some L)(hd:d≤10000)(hg:P.eqGuardType P.depth t=false){cs ds:List V}{xs ys:List Value}{r:Bool}(hx:cs.mapM dN=some xs)(hy:ds.mapM dN=some ys)(ox:jV L xs=true)(oy:jV L ys=true)(hr:iI xs ys=r):
  dZ P .neq t xo yo (.agg cs) (.agg ds)=some (.sc (.bool (!r))):=by
 simp only[dZ,fL,hx,hy,aZR,pureV]
 rw[bC _ _ (aJX hg (.inr rfl) _ _)]
 have:aO P (binOp .neq t (.agg xs.toArray) (.agg ys.toArray))=some (.bool (!(iI xs ys))):=tS _ (fun b=>Value.bool !b) (aLP ht hag hf hd ox oy)
 rw[this,hr];rfl
end
section
variable {P:Program}{kt:TypeId}{α β:Type}{VK:α→Value}{eq:α→α→Bool}{CK:α→List V}{E:β→V}{C:α×β→List V}{K:Nat}{l:List (α×β)}{k:α}{v:β}
variable {t:TypeId}{m:MT}{h h':Hp}{b:Nat}
def aDi (cs:List V):List Value:=(cs.mapM dN).getD []
end
theorem aBQ {E:Int→V}{n:Nat}{l:List Int}(h:l.length=n):(aZA n).map (fun i=>E (l.getD i 0))=l.map E:=by
 apply List.ext_getElem?
 intro i
 simp only[aZr,List.getElem?_range']
 by_cases hi:i<n
 ·rw[aZE hi,aY7 (by omega)]
  simp[aZd,aY7 (show i<l.length by omega)]
 rw[aZx (by simpa using hi),aZx (by omega)];rfl
theorem aRQ {n:Nat}{a b:List Int}(ha:a.length=n)(hb:b.length=n):(aZA n).all (fun i=>a.getD i 0 == b.getD i 0)=(a == b):=by
 rw[Bool.eq_iff_iff]
 simp only[aY9,List.mem_range,beq_iff_eq]
 constructor
 ·intro h
  apply List.ext_getElem (by omega)
  intro i h1 h2
  have:=h i (by omega)
  simpa[aZd,aY7 h1,aY7 h2]using this
 rintro rfl i _;rfl
theorem aE0 {P:Program}{t:TypeId}{ps ps':List (Nat×V)}{v:V}(h:ps=ps')(hb:yH P t ps'=some v):yH P t ps=some v:=by rw[h];exact hb
def jQ (E:Int→V)(l:List Int)(r:List V):List V:=E (l.getD 0 0)::E (l.getD 1 0)::E (l.getD 2 0)::E (l.getD 3 0)::r
theorem aPy {E:Int→V}{l:List Int}(h:l.length=4)(r:List V):jQ E l r=l.map E++r:=by
 rw[←aBQ h];rfl
theorem aPF {E:Int→V}{l:List Int}(h:l.length=4):jQ E l []=l.map E:=by rw[aPy h];simp
theorem aPt {f:Nat→Nat}{k:IntKind}{l:List Int}{r:List V}:V.rns f (jQ (eI k) l r)=jQ (eI k) l (V.rns f r):=rfl
theorem aUL {vn:Nat→Bool}{E:Int→V}{l:List Int}{r r':List V}(hr:V.les vn r r'):V.les vn (jQ E l r) (jQ E l r'):=by
 unfold jQ
 repeat (first|exact hr|refine V.les_cons (V.le_refl _ _) ?_)
theorem aUA {h h':Hp}{E:Int→V}{l:List Int}{r r':List V}(hE: ∀x,Conv h h' (E x) (E x))(hr:Convs h h' r r'):Convs h h' (jQ E l r) (jQ E l r'):=by
 unfold jQ
 repeat (first|exact hr|refine Convs.cons (hE _) ?_)
def ar8 (E:Int→V)(l:List Int)(r:List V):List V:=E (l.getD 0 0)::E (l.getD 1 0)::E (l.getD 2 0)::E (l.getD 3 0)::E (l.getD 4 0)::E (l.getD 5 0)::E (l.getD 6 0)::E (l.getD 7 0)::r
theorem aVy {E:Int→V}{l:List Int}(h:l.length=8)(r:List V):ar8 E l r=l.map E++r:=by
 rw[←aBQ h];rfl
theorem aVt {E:Int→V}{l:List Int}(h:l.length=8):ar8 E l []=l.map E:=by rw[aVy h];simp
theorem aPd {f:Nat→Nat}{k:IntKind}{l:List Int}{r:List V}:V.rns f (ar8 (eI k) l r)=ar8 (eI k) l (V.rns f r):=rfl
theorem aUQ {vn:Nat→Bool}{E:Int→V}{l:List Int}{r r':List V}(hr:V.les vn r r'):V.les vn (ar8 E l r) (ar8 E l r'):=by
 unfold ar8
 repeat (first|exact hr|refine V.les_cons (V.le_refl _ _) ?_)
def aDo (E:Int→V)(l:List Int)(r:List V):List V:=E (l.getD 0 0)::E (l.getD 1 0)::E (l.getD 2 0)::E (l.getD 3 0)::E (l.getD 4 0)::E (l.getD 5 0)::E (l.getD 6 0)::E (l.getD 7 0)::E (l.getD 8 0)::E (l.getD 9 0)::E (l.getD 10 0)::E (l.getD 11 0)::E (l.getD 12 0)::E (l.getD 13 0)::E (l.getD 14 0)::E (l.getD 15 0)::E (l.getD 16 0)::E (l.getD 17 0)::E (l.getD 18 0)::E (l.getD 19 0)::r
theorem aR0 {E:Int→V}{l:List Int}(h:l.length=20)(r:List V):aDo E l r=l.map E++r:=by
 rw[←aBQ h];rfl
theorem aS8 {E:Int→V}{l:List Int}(h:l.length=20):aDo E l []=l.map E:=by rw[aR0 h];simp
theorem aNF {f:Nat→Nat}{k:IntKind}{l:List Int}{r:List V}:V.rns f (aDo (eI k) l r)=aDo (eI k) l (V.rns f r):=rfl
theorem aS2 {vn:Nat→Bool}{E:Int→V}{l:List Int}{r r':List V}(hr:V.les vn r r'):V.les vn (aDo E l r) (aDo E l r'):=by
 unfold aDo
 repeat (first|exact hr|refine V.les_cons (V.le_refl _ _) ?_)
def aK (E:Int→V)(l:List Int)(r:List V):List V:=E (l.getD 0 0)::E (l.getD 1 0)::E (l.getD 2 0)::E (l.getD 3 0)::E (l.getD 4 0)::E (l.getD 5 0)::E (l.getD 6 0)::E (l.getD 7 0)::E (l.getD 8 0)::E (l.getD 9 0)::E (l.getD 10 0)::E (l.getD 11 0)::E (l.getD 12 0)::E (l.getD 13 0)::E (l.getD 14 0)::E (l.getD 15 0)::E (l.getD 16 0)::E (l.getD 17 0)::E (l.getD 18 0)::E (l.getD 19 0)::E (l.getD 20 0)::E (l.getD 21 0)::E (l.getD 22 0)::E (l.getD 23 0)::E (l.getD 24 0)::E (l.getD 25 0)::E (l.getD 26 0)::E (l.getD 27 0)::E (l.getD 28 0)::E (l.getD 29 0)::E (l.getD 30 0)::E (l.getD 31 0)::r
theorem aAP {E:Int→V}{l:List Int}(h:l.length=32)(r:List V):aK E l r=l.map E++r:=by
 rw[←aBQ h];rfl
theorem gO {E:Int→V}{l:List Int}(h:l.length=32):aK E l []=l.map E:=by rw[aAP h];simp
theorem aOm {f:Nat→Nat}{k:IntKind}{l:List Int}{r:List V}:V.rns f (aK (eI k) l r)=aK (eI k) l (V.rns f r):=rfl
theorem aR6 {vn:Nat→Bool}{E:Int→V}{l:List Int}{r r':List V}(hr:V.les vn r r'):V.les vn (aK E l r) (aK E l r'):=by
 unfold aK
 repeat (first|exact hr|refine V.les_cons (V.le_refl _ _) ?_)
theorem aR8 {h h':Hp}{E:Int→V}{l:List Int}{r r':List V}(hE: ∀x,Conv h h' (E x) (E x))(hr:Convs h h' r r'):Convs h h' (aK E l r) (aK E l r'):=by
 unfold aK
 repeat (first|exact hr|refine Convs.cons (hE _) ?_)
def sX (a b:List Int)(r:Bool):Bool:=((a.getD 0 0 == b.getD 0 0)&&((a.getD 1 0 == b.getD 1 0)&&((a.getD 2 0 == b.getD 2 0)&&((a.getD 3 0 == b.getD 3 0)&&((a.getD 4 0 == b.getD 4 0)&&((a.getD 5 0 == b.getD 5 0)&&((a.getD 6 0 == b.getD 6 0)&&((a.getD 7 0 == b.getD 7 0)&&((a.getD 8 0 == b.getD 8 0)&&((a.getD 9 0 == b.getD 9 0)&&((a.getD 10 0 == b.getD 10 0)&&((a.getD 11 0 == b.getD 11 0)&&((a.getD 12 0 == b.getD 12 0)&&((a.getD 13 0 == b.getD 13 0)&&((a.getD 14 0 == b.getD 14 0)&&((a.getD 15 0 == b.getD 15 0)&&((a.getD 16 0 == b.getD 16 0)&&((a.getD 17 0 == b.getD 17 0)&&((a.getD 18 0 == b.getD 18 0)&&((a.getD 19 0 == b.getD 19 0)&&((a.getD 20 0 == b.getD 20 0)&&((a.getD 21 0 == b.getD 21 0)&&((a.getD 22 0 == b.getD 22 0)&&((a.getD 23 0 == b.getD 23 0)&&((a.getD 24 0 == b.getD 24 0)&&((a.getD 25 0 == b.getD 25 0)&&((a.getD 26 0 == b.getD 26 0)&&((a.getD 27 0 == b.getD 27 0)&&((a.getD 28 0 == b.getD 28 0)&&((a.getD 29 0 == b.getD 29 0)&&((a.getD 30 0 == b.getD 30 0)&&((a.getD 31 0 == b.getD 31 0)&&r))))))))))))))))))))))))))))))))
theorem aRf {a b:List Int}(ha:a.length=32)(hb:b.length=32)(r:Bool):sX a b r=((a == b)&&r):=by
 have e:sX a b r=((aZA 32).all (fun i=>a.getD i 0 == b.getD i 0)&&r):=by
  simp only[sX,show aZA 32=[0,1,2,3,4,5,6,7,8,9,10,11,12,13,14,15,16,17,18,19,20,21,22,23,24,25,26,27,28,29,30,31]from rfl,aZc,List.all_nil,Bool.and_assoc,Bool.true_and,aZk]
 rw[e,aRQ ha hb]
def aDr (E:Int→V)(l:List Int)(r:List V):List V:=E (l.getD 0 0)::E (l.getD 1 0)::E (l.getD 2 0)::E (l.getD 3 0)::E (l.getD 4 0)::E (l.getD 5 0)::E (l.getD 6 0)::E (l.getD 7 0)::E (l.getD 8 0)::E (l.getD 9 0)::E (l.getD 10 0)::E (l.getD 11 0)::E (l.getD 12 0)::E (l.getD 13 0)::E (l.getD 14 0)::E (l.getD 15 0)::E (l.getD 16 0)::E (l.getD 17 0)::E (l.getD 18 0)::E (l.getD 19 0)::E (l.getD 20 0)::E (l.getD 21 0)::E (l.getD 22 0)::E (l.getD 23 0)::E (l.getD 24 0)::E (l.getD 25 0)::E (l.getD 26 0)::E (l.getD 27 0)::E (l.getD 28 0)::E (l.getD 29 0)::E (l.getD 30 0)::E (l.getD 31 0)::E (l.getD 32 0)::E (l.getD 33 0)::E (l.getD 34 0)::E (l.getD 35 0)::E (l.getD 36 0)::E (l.getD 37 0)::E (l.getD 38 0)::E (l.getD 39 0)::E (l.getD 40 0)::E (l.getD 41 0)::E (l.getD 42 0)::E (l.getD 43 0)::E (l.getD 44 0)::E (l.getD 45 0)::E (l.getD 46 0)::E (l.getD 47 0)::E (l.getD 48 0)::E (l.getD 49 0)::E (l.getD 50 0)::E (l.getD 51 0)::E (l.getD 52 0)::E (l.getD 53 0)::E (l.getD 54 0)::E (l.getD 55 0)::E (l.getD 56 0)::E (l.getD 57 0)::E (l.getD 58 0)::E (l.getD 59 0)::E (l.getD 60 0)::E (l.getD 61 0)::E (l.getD 62 0)::E (l.getD 63 0)::r
theorem aS1 {E:Int→V}{l:List Int}(h:l.length=64)(r:List V):aDr E l r=l.map E++r:=by
 rw[←aBQ h];rfl
theorem aSh {E:Int→V}{l:List Int}(h:l.length=64):aDr E l []=l.map E:=by rw[aS1 h];simp
theorem aOe {f:Nat→Nat}{k:IntKind}{l:List Int}{r:List V}:V.rns f (aDr (eI k) l r)=aDr (eI k) l (V.rns f r):=rfl
theorem aSJ {vn:Nat→Bool}{E:Int→V}{l:List Int}{r r':List V}(hr:V.les vn r r'):V.les vn (aDr E l r) (aDr E l r'):=by
 unfold aDr
 repeat (first|exact hr|refine V.les_cons (V.le_refl _ _) ?_)
theorem aNA {P:Program}(k:IntKind)(n:Int):unV P .neg (.sc (.int k n))=some (.sc (.int k (k.wrap (0-n)))):=rfl
theorem aDQ {P:Program}{k:IntKind}(hk:k.signed=false)(n:Int):unV P .xor (.sc (.int k n))=some (.sc (.int k (bits .xor k k.max n))):=by
 cases k<;>first|rfl|cases hk
def mkl {α:Type}(by_:Nat)(z:α)(n c:Int):Option (List α):=if 0<n∧n≤c∧c.toNat*by_≤lim then some (aY0 n.toNat z)else none
theorem mkL {k1 k2:IntKind}{P:Program}{h h':Hp}{t e:TypeId}{ti:TI}{i:Nat}{α:Type}{E:α→V}{sz by_:Nat}{z:Value}{ag:Bool}{j c:Int}{y:α}(ht:aH P t=some ⟨.slice e,sz,by_,z⟩)(he:aH P e=some ti)(h1:1≤ti.bytes∧ti.size=1∧ti.zero.cells.size=1)(hz:ti.zero.cells.toList.map (V.soft∘eD)=[E y])(ho:(E y).one=true)(hag:b7 ti.desc=ag){r:List α}
  (hm:mkl ti.bytes y j c=some r) (hl:h.length=i) (hh:h++[some ⟨e,r.map E⟩]=h'):aB0 P t (.sc (.int k1 j)) (.sc (.int k2 c)) h=some (.sl i 0 r.length 1 ag,h'):=by
 obtain⟨h2,h3,h4⟩:=h1
 unfold mkl at hm
 split at hm
 ·rename_i hlim
  injection hm with hm
  subst hm hl hh hag
  simp only[aB0,ht,he]
  rw[if_pos ⟨by omega,hlim.2.1,hlim.2.2,h2,by omega,by rw[h4,h3],by rw[hz];simp[ho]⟩,hz,if_neg (by omega)]
  simp only[h3]
  have: ∀n,(aY0 n [E y]).flatten=(aY0 n y).map E:=fun n=>by
   induction n with
   |zero=>rfl
   |succ n ih=>simp only[aZC,aZJ,ih,aY5];rfl
  rw[this];simp
 cases hm
theorem zl {a b:Nat} (h:Nat.ble a b=true:=by rfl):a≤b:=Nat.le_of_ble_eq_true h
theorem zR {p:Prop} (h:p:=by first|rfl|(simp only[V.rn,V.rns,aDb,aC9]<;>rfl)):p:=h
theorem zG {N n:Nat}{fr fr':List (Nat×V)}{h h':Hp}(σ:List Nat)
  (hf:FLe wZ (V.rn (sg σ h.length)) fr fr':=by repeat (first|exact FLe.nil|refine FLe.same rfl ?_|refine FLe.le rfl V.le_nil ?_|refine FLe.le rfl V.le_row ?_|refine FLe.le rfl (V.le_arr (fun _=>rfl)) ?_))
  (hh:HLe (sg σ h.length) h σ h':=by repeat (first|exact HLe.nil|refine HLe.dead ?_|refine HLe.live rfl V.les_nil rfl ?_|refine HLe.live rfl (aFv (fun _=>rfl) _) (all_map (fun _=>rfl) _) ?_|refine HLe.live rfl (aD5 (fun _=>rfl) _) (xZ (fun _=>rfl) _) ?_|refine HLe.live rfl (V.les_refl _ _) rfl ?_))
  (hσ:σ.take N=List.range N:=by rfl) (hlt:σ.all (fun b=>Nat.blt b h.length)=true:=by rfl) (hnd:ndB (lvs σ h')=true:=by rfl):Ghost N (aD n fr) h (aD n fr') h':=Ghost.rn σ hσ hlt hf hh hnd
theorem Ghost.blk {N:Nat}{s:List V}{h:Hp}{b:Nat}{e:TypeId}{cs cs':List V}(hb:h[b]? =some (some ⟨e,cs⟩))(hl:V.les wZ cs cs')(ho:cs'.all V.one=true):Ghost N s h s (h.set b (some ⟨e,cs'⟩)):=by
 intro A M a w hN R
 have hbl:b<h.length:=(aZq.1 hb).1
 have hget: ∀{j:Nat}{B:Blk},(h.set b (some ⟨e,cs'⟩))[j]? =some (some B)→ ∃B0,h[j]? =some (some B0)∧B0.e=B.e∧V.les wZ B0.cells B.cells∧(∀c∈B.cells,c.one=true):=by
  intro j B hj
  by_cases hij:b=j
  ·subst hij
   rw[aZv hbl]at hj
   obtain rfl:=aYZ (aYZ hj)
   exact⟨_,hb,rfl,hl,aY9.1 ho⟩
  rw[aZj hij]at hj
  exact⟨B,hj,rfl,V.les_refl _ _,(R.hr.blk j B hj).1⟩
 have hlive: ∀g,cX M (h.set b (some ⟨e,cs'⟩)) g→cX M h g:=by
  rintro g ⟨j,B,hj,hm⟩
  obtain⟨B0,h1,_⟩:=hget hj
  exact⟨j,B0,h1,hm⟩
 have hX: ∀g,Xs A M (h.set b (some ⟨e,cs'⟩)) g→Xs A M h g:=fun g hx=>hx.elim .inl (fun hl=> .inr (hlive g hl))
 refine⟨M,rfl,⟨⟨by rw[R.hr.len,aZy],R.hr.alt, ?_, ?_,R.hr.glob.avoid fun g _ hx=>hX g hx⟩,⟨R.sr.len,fun t x hx=>(R.sr.val t x hx).avoid (fun g _ hx=>hX g hx)⟩,R.defers⟩,hlive⟩
 ·intro j B hj
  obtain⟨B0,h1,h2,h3,h4⟩:=hget hj
  refine⟨h4, ?_⟩
  have hlen:B0.cells.length=B.cells.length:=V.les_length h3
  rcases(R.hr.blk j B0 h1).2 with⟨hn,hc0⟩|⟨g,ds,hg,hA,hw,hle,hcs⟩
  ·exact .inl ⟨hn,aY2 (by rw[←hlen,hc0];rfl)⟩
  refine .inr ⟨g,ds,hg,hA,by rw[←h2,←hlen];exact hw,by rw[←hlen];exact hle, ?_⟩
  rw[←hlen]
  exact(V.les_sound (fun _ hb=>by cases hb) _ _ _ h3 hcs).avoid (fun g _ hx=>hX g hx)
 intro i j B C g hi hj mi mj
 obtain⟨B1,h1,_⟩:=hget hi
 obtain⟨C1,k1,_⟩:=hget hj
 exact R.hr.inj i j B1 C1 g h1 k1 mi mj
def aG1 {α:Type}(l:List α)(a c:Int):Option (List α):=if 0≤a∧a<c∧c≤l.length then some ((l.take c.toNat).drop a.toNat)else none
theorem aLu {α:Type}{l x:List α}{a c:Int}(h:aG1 l a c=some x):0≤a∧a<c∧c≤l.length∧x=(l.take c.toNat).drop a.toNat∧x.length=c.toNat-a.toNat:=by
 unfold aG1 at h
 split at h
 ·rename_i hc
  injection h with h
  refine⟨hc.1,hc.2.1,hc.2.2,h.symm, ?_⟩
  rw[←h,aY8,aY4];omega
 cases h
section
variable {P:Program}{h h':Hp}{t e:TypeId}{ti:TI}{α:Type}{E:α→V}{l x m:List α}{sz by_ b:Nat}{z:Value}{ag:Bool}{lo hi:Option V}{a c j:Int}{y:α}{k:IntKind}{N n i q K:Nat}
theorem aUd (hq:l.length=q)(ht:aH P t=some ⟨.slice e,sz,by_,z⟩)(he:aH P e=some ti)(hK:ti.size=K)(h1:nX lo=some 0)(h2:wA hi q=some c)(hs:sub l 0 c=some x):i9 P t h (.sl b 0 q K ag) lo hi=some (.sl b 0 x.length K ag):=by
 subst hK hq
 unfold sub at hs
 split at hs
 ·rename_i hc
  injection hs with hs
  have hl:x.length=c.toNat:=by rw[←hs];simp;omega
  simp only[i9,ht,he,h1,h2]
  rw[if_pos ⟨trivial,by omega,hc.2.1,hc.2.2⟩,if_pos trivial,hl]
 cases hs
theorem aWP (ht:aH P t=some ⟨.array N e,sz,by_,z⟩)(he:aH P e=some ti)(hsz:ti.size=1)(hag:b7 ti.desc=ag)(hb:h[b]? =some (some ⟨i,l.map E⟩))(hl:l.length=N)(hN:N≤lim)(h1:nX lo=some a)(h2:wA hi N=some c)(hs:aG1 l a c=some x):i9 P t h (.ptr b 0) lo hi=some (.sl b (a.toNat*1) x.length 1 ag):=by
 subst hag
 obtain⟨s1,s2,s3,s4,s5⟩:=aLu hs
 simp only[i9,ht,he,h1,h2,hb]
 rw[if_pos ⟨by omega,hN,s1,s2,by omega,by simp[hsz,hl]⟩,hsz,s5,aZL]
theorem aWm (hb:h[b]? =some (some ⟨i,l.map E⟩))(hE: ∀x,(E x).one=true)(hs:aG1 l a c=some x):fZ h 1 (.sl b (a.toNat*1) x.length 1 ag)=some (x.map E,x.length):=by
 obtain⟨s1,s2,s3,s4,s5⟩:=aLu hs
 simp only[fZ,hb,Nat.mul_one]
 rw[if_pos (by simp;omega)]
 simp only[aYX,aZS,and_true]
 rw[s5,s4,List.map_drop,List.map_take,List.drop_take]
end
theorem Ghost.cut {N n:Nat}{fr:List (Nat×V)}{h:Hp}{b e t q K k:Nat}{ag:Bool}{cs:List V}(hl:bU n fr (.tmp t)=some (.sl b 0 q K ag))(hb:h[b]? =some (some ⟨e,cs⟩)):Ghost N (aD n fr) h (aD n fr) (h.set b (some ⟨e,cs.take k⟩)):=by
 intro A M a w hN R
 have hbl:b<h.length:=(aZq.1 hb).1
 have hget: ∀{j:Nat}{B:Blk},(h.set b (some ⟨e,cs.take k⟩))[j]? =some (some B)→(j=b∧B=⟨e,cs.take k⟩)∨(h[j]? =some (some B)∧j≠b):=by
  intro j B hj
  by_cases hij:b=j
  ·subst hij
   rw[aZv hbl]at hj
   exact .inl ⟨rfl,(aYZ (aYZ hj)).symm⟩
  rw[aZj hij]at hj
  exact .inr ⟨hj,fun hh=>hij hh.symm⟩
 have hlive: ∀g,cX M (h.set b (some ⟨e,cs.take k⟩)) g→cX M h g:=by
  rintro g ⟨j,B,hj,hm⟩
  rcases hget hj with⟨rfl,_⟩|⟨h1,_⟩
  ·exact⟨j,_,hb,hm⟩
  exact⟨j,B,h1,hm⟩
 have hX: ∀g,Xs A M (h.set b (some ⟨e,cs.take k⟩)) g→Xs A M h g:=fun g hx=>hx.elim .inl (fun hl=> .inr (hlive g hl))
 refine⟨M,rfl,⟨⟨by rw[R.hr.len,aZy],R.hr.alt, ?_, ?_,R.hr.glob.avoid fun g _ hx=>hX g hx⟩,⟨R.sr.len,fun t x hx=>(R.sr.val t x hx).avoid (fun g _ hx=>hX g hx)⟩,R.defers⟩,hlive⟩
 ·intro j B hj
  rcases hget hj with⟨rfl,rfl⟩|⟨h1,hne⟩
  ·obtain⟨hone,hcase⟩:=R.hr.blk j _ hb
   refine⟨fun c hc=>hone c (List.mem_of_mem_take hc), ?_⟩
   rcases hcase with⟨hn,hc0⟩|⟨g,ds,hg,hA,hw,hle,hcs⟩
   ·simp only at hc0
    subst hc0
    exact .inl ⟨hn,by simp⟩
   refine .inr ⟨g,ds,hg,hA, ?_,by simp only[aY4]at hle ⊢; omega, ?_⟩
   ·rcases hw with hw|⟨es,clock,hm,hok,heq⟩
    ·exact .inl hw
    exfalso
    have hev:=dK hl
    simp only[ev]at hev
    have hv:=R.sr.val t (.sl j 0 q K ag) hev
    unfold VR at hv
    rcases hv with⟨hm0,_⟩|⟨g',cap,e',sz,hm',_,_,_,_,hshp,_⟩
    ·rw[hg]at hm0;cases hm0
    rw[hg]at hm'
    obtain rfl:=aYZ (aYZ hm')
    unfold World.shape? at hshp
    rw[hm]at hshp
    cases hshp
   have:=hcs.take k
   rw[List.take_take]at this
   simp only[aY4]
   exact this.avoid (fun g _ hx=>hX g hx)
  obtain⟨hone,hcase⟩:=R.hr.blk j B h1
  refine⟨hone, ?_⟩
  rcases hcase with hn|⟨g,ds,hg,hA,hw,hle,hcs⟩
  ·exact .inl hn
  exact .inr ⟨g,ds,hg,hA,hw,hle,hcs.avoid (fun g _ hx=>hX g hx)⟩
 intro i j B C g hi hj mi mj
 have f: ∀{j:Nat}{B:Blk},(h.set b (some ⟨e,cs.take k⟩))[j]? =some (some B)→ ∃B0,h[j]? =some (some B0):=by
  intro j B hj
  rcases hget hj with⟨e1,_⟩|⟨e1,_⟩
  ·exact⟨_,by rw[e1];exact hb⟩
  exact⟨_,e1⟩
 obtain⟨B1,h1⟩:=f hi
 obtain⟨C1,k1⟩:=f hj
 exact R.hr.inj i j B1 C1 g h1 k1 mi mj
section
variable {N n b e t q K:Nat}{fr:List (Nat×V)}{h h':Hp}{ag:Bool}{α:Type}{E:α→V}{C:α→List V}{l x:List α}{c:Int}
theorem aXn {α:Type}{l:List α}:sub l 0 0=some []:=by
 unfold sub
 rw[if_pos ⟨aZl _,aZl _,by omega⟩]
 rfl
theorem Ghost.cutM (hl:bU n fr (.tmp t)=some (.sl b 0 q 1 ag))(hb:h[b]? =some (some ⟨e,l.map E⟩))(hs:sub l 0 c=some x)(hh:h.set b (some ⟨e,x.map E⟩)=h'):Ghost N (aD n fr) h (aD n fr) h':=by
 subst hh
 unfold sub at hs
 split at hs
 ·injection hs with hs
  have:x.map E=(l.map E).take c.toNat:=by rw[←hs,←List.map_take];simp
  rw[this]
  exact Ghost.cut hl hb
 cases hs
theorem Ghost.cutF (hC: ∀x,(C x).length=K)(hl:bU n fr (.tmp t)=some (.sl b 0 q K ag))(hb:h[b]? =some (some ⟨e,l.flatMap C⟩))(hs:sub l 0 c=some x)(hh:h.set b (some ⟨e,x.flatMap C⟩)=h'):Ghost N (aD n fr) h (aD n fr) h':=by
 subst hh
 unfold sub at hs
 split at hs
 ·injection hs with hs
  have:x.flatMap C=(l.flatMap C).take (c.toNat*K):=by rw[←hs];simp only[Int.toNat_zero,aZf];exact(aLE hC _ _).symm
  rw[this]
  exact Ghost.cut hl hb
 cases hs
end
abbrev CA4 (E:Int→V)(x:List Int):List V:=jQ E x []
abbrev lL (E:Int→V)(x:List Int):List V:=aK E x []
@[simp] theorem aVv {f:Nat→Nat}{k:IntKind}(l:List (List Int)):V.rns f (l.flatMap (CA4 (eI k)))=l.flatMap (CA4 (eI k)):=eG (fun _=>rfl) l
@[simp] theorem aTh {f:Nat→Nat}{k:IntKind}(l:List (List Int)):V.rns f (l.flatMap (lL (eI k)))=l.flatMap (lL (eI k)):=eG (fun _=>rfl) l
theorem aF3 {k:IntKind}(l:List Int):V.softA (.agg (l.map (eI k)))= .agg (l.map (eI k)):=by
 simp only[V.softA,List.map_map]
 rfl
theorem aMS {P:Program}{t:TypeId}{n:Nat}{ps ps':List (Nat×V)}{h:Hp}{r:V×Hp}(e:ps=ps')(hb:jZ P t n ps' h=some r):jZ P t n ps h=some r:=by rw[e];exact hb
theorem Conv.rowKA {C:List Int→List V}{E:Int→V}{K:Nat}{l:List (List Int)}(hC: ∀x,(C x).length=K)(h1K: ∀x,(C x).all V.one=true)(hsh: ∀x,(C x).all V.shut=true)(hcx: ∀x∈l,C x=x.map E){h h':Hp}(hs:Sub h h'){b n:Nat}{e:TypeId}(hb:h[b]? =some (some ⟨e,l.flatMap C⟩))(hb':h'[b]? =some none)(hn:n=l.length):Conv h h' (.sl b 0 n K true) (.row none K (l.map (eA E))):=by
 have:=aZT hC h1K hsh hs hb hb' hn
 rwa[show(l.map fun x=>V.agg (C x))=l.map (eA E)from aZF fun x hx=>by rw[hcx x hx]]at this
theorem AB.scope {P:Program}{N:Nat}{Q:Ex→List V→Hp→Prop}{s:List V}{h:Hp}{c:Code}(hh:AB P N c Q s h):AB P N (.scope c) Q s h:=by
 intro A M0 M h0 w0 a w hN hM G R
 refine wp_scope_straight (Code.wp_mono (fun e a' w' ⟨x,s1,h1,M1,he,hq,G1,R1⟩=> ?_) (hh A M0 M h0 w0 a w hN hM G R))
 subst he
 cases x with
 |normal=>exact⟨.normal,s1,h1,M1,rfl,hq,G1,R1⟩
 |exit i=>exact⟨.exit i,s1,h1,M1,rfl,hq,G1,R1⟩
 |ret=>exact⟨.ret,s1,h1,M1,rfl,hq,G1,R1⟩
theorem AB.label {P:Program}{N:Nat}{Q:Ex→List V→Hp→Prop}{s:List V}{h:Hp}{l:Nat}(hq:Q .normal s h):AB P N (.label l) Q s h:=by
 intro A M0 M h0 w0 a w hN hM G R
 exact wp_label ⟨.normal,s,h,M,rfl,hq,G,R⟩
def sT (x y c:Int):Option (Int×Int):=if c.toNat≤1 then some ((((x.toNat+y.toNat+c.toNat)%18446744073709551616:Nat):Int),(((x.toNat+y.toNat+c.toNat)/18446744073709551616:Nat):Int))else none
def aFQ (x y c:Int):Option (Int×Int):=if c.toNat≤1 then some ((((x.toNat+18446744073709551616-y.toNat-c.toNat)%18446744073709551616:Nat):Int),((if x.toNat<y.toNat+c.toNat then 1 else 0:Nat):Int))else none
def aWL :Array Value→Sem Value:=(Extern.MathBitsCarry.rows.get ⟨0,by decide⟩).2
def aV6 :Array Value→Sem Value:=(Extern.MathBitsCarry.rows.get ⟨1,by decide⟩).2
theorem aSZ {P:Program} {f:FuncId} {fn:Func} (hf:P.funcs[f]? =some fn) (hn:(fn.name == "runtime.NumGoroutine")=false) (hb:fn.body.isNone=true) (h1:Extern.findNext fn=none) (h2:Extern.find fn=some aWL) {x y c:Int} {r:Int×Int} (hr:sT x y c=some r):Fn P f [] [eI .u64 x,eI .u64 y,eI .u64 c] (.tup [eI .u64 r.1,eI .u64 r.2]) []:=by
 unfold sT at hr
 split at hr
 ·rename_i hc
  injection hr with hr
  subst hr
  refine aNQ hf hn hb h1 h2 fun X M w vs hv=> ?_
  unfold VCells at hv
  obtain⟨v,rest,rfl,hv,hr⟩:=hv
  unfold VCells at hr
  obtain⟨u,rest,rfl,hu,hr⟩:=hr
  unfold VCells at hr
  obtain⟨z,rest,rfl,hz,hr⟩:=hr
  unfold VCells at hr
  subst hr
  unfold VR at hv hu hz
  subst hv hu hz
  have hgt: ¬c.toNat>1:=by omega
  refine⟨.tuple #[.int .u64 (((x.toNat+y.toNat+c.toNat)%18446744073709551616:Nat):Int),.int .u64 (((x.toNat+y.toNat+c.toNat)/18446744073709551616:Nat):Int)], ?_, ?_⟩
  ·match c,hgt with
   | .ofNat 0,_=>rfl
   | .ofNat 1,_=>rfl
   | .ofNat (k+2),hgt=>exact absurd (show(Int.ofNat (k+2)).toNat>1 by simp;omega) hgt
   | .negSucc k,_=>rfl
  unfold VR
  exact⟨_,rfl,by unfold VCells;exact⟨_,_,rfl,by unfold VR;rfl,by unfold VCells;exact⟨_,_,rfl,by unfold VR;rfl,by unfold VCells;rfl⟩⟩⟩
 cases hr
theorem aTp {P:Program} {f:FuncId} {fn:Func} (hf:P.funcs[f]? =some fn) (hn:(fn.name == "runtime.NumGoroutine")=false) (hb:fn.body.isNone=true) (h1:Extern.findNext fn=none) (h2:Extern.find fn=some aV6) {x y c:Int} {r:Int×Int} (hr:aFQ x y c=some r):Fn P f [] [eI .u64 x,eI .u64 y,eI .u64 c] (.tup [eI .u64 r.1,eI .u64 r.2]) []:=by
 unfold aFQ at hr
 split at hr
 ·rename_i hc
  injection hr with hr
  subst hr
  refine aNQ hf hn hb h1 h2 fun X M w vs hv=> ?_
  unfold VCells at hv
  obtain⟨v,rest,rfl,hv,hr⟩:=hv
  unfold VCells at hr
  obtain⟨u,rest,rfl,hu,hr⟩:=hr
  unfold VCells at hr
  obtain⟨z,rest,rfl,hz,hr⟩:=hr
  unfold VCells at hr
  subst hr
  unfold VR at hv hu hz
  subst hv hu hz
  have hgt: ¬c.toNat>1:=by omega
  refine⟨.tuple #[.int .u64 (((x.toNat+18446744073709551616-y.toNat-c.toNat)%18446744073709551616:Nat):Int),.int .u64 ((if x.toNat<y.toNat+c.toNat then 1 else 0:Nat):Int)], ?_, ?_⟩
  ·match c,hgt with
   | .ofNat 0,_=>rfl
   | .ofNat 1,_=>rfl
   | .ofNat (k+2),hgt=>exact absurd (show(Int.ofNat (k+2)).toNat>1 by simp;omega) hgt
   | .negSucc k,_=>rfl
  unfold VR
  exact⟨_,rfl,by unfold VCells;exact⟨_,_,rfl,by unfold VR;rfl,by unfold VCells;exact⟨_,_,rfl,by unfold VR;rfl,by unfold VCells;rfl⟩⟩⟩
 cases hr
theorem sj {α:Type}{a b:α}(h:some a=some b):a=b:=aYZ h
section
variable {P:Program}{ops:Array Oper}{l:List Oper}{n N:Nat}{fr:List (Nat×V)}{h h' h1:Hp}{K:List V→Hp→Prop}{op:Op}{ty:TypeId}{pos:String}{aft:Array Edge}{t:Nat}{v c d:V}{x y z:Operand}{Q:Ex→List V→Hp→Prop}{ty' u:TypeId}
variable {j w:Nat}{want b:Bool}
theorem zg (hc:b=want)(hd:bE P O0 ⟨some t,op,ty,pos,aft,some (j,want)⟩ (aD n fr) h=some (v,h'))(q:OpsW P N ops l (aD n ((t,v)::fr)) h' K) (hj:(ops[j]?).bind (·.dst)=some w:=by rfl) (hl:bU n fr (.tmp w)=some (.sc (.bool b)):=by rfl):OpsW P N ops (⟨some t,op,ty,pos,aft,some (j,want)⟩::l) (aD n fr) h K:=wS (svG hj hl hc hd) q
theorem AB.loopM {P:Program}{N n:Nat}{c:Code}{Q:Ex→List V→Hp→Prop}{s:List V}{h:Hp}(I:Nat→List V→Hp→Prop)(h0:I n s h)(round: ∀n s h,I (n+1) s h→AB P N c (Ex.then (I n) Q) s h) (r0: ∀s h,¬I 0 s h:=by(intro s h h0;repeat (first|(obtain⟨e,_⟩:=h0;cases e;done)|(obtain⟨_,h0⟩:=h0)))):AB P N (.loop c) Q s h:=AB.loopN I h0 r0 round
theorem zk {co:Operand}{X Y:Code}{α:Type}{A B:Option α}{r:α}(hr:(if b=true then A else B)=some r)(g1:b=true→A=some r→AB P N X Q (aD n fr) h)(g2:b=false→B=some r→AB P N Y Q (aD n fr) h) (hc:bU n fr co=some (.sc (.bool b)):=by rfl):AB P N (.cond co X Y) Q (aD n fr) h:=AB.cnd hc (fun e=>g1 e (bY hr e)) (fun e=>g2 e (bX hr e))
theorem zf {f:FuncId} {fn:Func} {co:Code} {args:List V} {r:V} (hf:P.funcs[f]? =some fn) (hnt:fn.ntmps=n) (hh:AB P N co (aE4 P fn N r h') (aD n fr) h) (hb:fn.body=some co:=by rfl) (hn:(fn.name == "runtime.NumGoroutine")=false:=by kernel_rfl) (hal:args.length≤n:=by exact zl) (hN:h.length=N:=by rfl) (hfr:wJ 0 args=fr:=by(simp only[wJ,Nat.reduceAdd,Nat.zero_add]<;>rfl)):Fn P f h args r h':=aMP hf hb hn hnt hal hN hfr hh
variable {F G:FuncId→Bool}{m:Nat}{listed:Array Bool}{s:List V}{o:Oper}{s1:List V}
end
section
variable {P:Program}{fn:Func}{n N:Nat}{fr:List (Nat×V)}{h h':Hp}{r a b c:V}{t u w:Nat}
theorem aX (hr:fn.results= #[.tmp t])(σ:List Nat) (hx:bU n fr (.tmp t)=some a:=by rfl) (hf:FLe wZ (V.rn (sg σ h.length)) [(0,a)] [(0,r)]:=by repeat (first|exact FLe.nil|refine FLe.same rfl ?_|refine FLe.le rfl V.le_nil ?_|refine FLe.le rfl V.le_row ?_|refine FLe.le rfl (V.le_arr (fun _=>rfl)) ?_)) (hh:HLe (sg σ h.length) h σ h':=by repeat (first|exact HLe.nil|refine HLe.dead ?_|refine HLe.live rfl V.les_nil rfl ?_|refine HLe.live rfl (aFv (fun _=>rfl) _) (all_map (fun _=>rfl) _) ?_|refine HLe.live rfl (aD5 (fun _=>rfl) _) (xZ (fun _=>rfl) _) ?_|refine HLe.live rfl (V.les_refl _ _) rfl ?_)) (hσ:σ.take N=List.range N:=by rfl) (hlt:σ.all (fun b=>Nat.blt b h.length)=true:=by rfl) (hnd:ndB (lvs σ h')=true:=by rfl):aE4 P fn N r h' .ret (aD n fr) h:=uM (aKo hr (rvT hx)) (Ghost.rn σ hσ hlt hf hh hnd)
theorem oH (hr:fn.results= #[.tmp t,.tmp u])(σ:List Nat) (hx:bU n fr (.tmp t)=some a:=by rfl) (hy:bU n fr (.tmp u)=some b:=by rfl) (hf:FLe wZ (V.rn (sg σ h.length)) [(0,(.tup [a,b]))] [(0,r)]:=by repeat (first|exact FLe.nil|refine FLe.same rfl ?_|refine FLe.le rfl V.le_nil ?_|refine FLe.le rfl V.le_row ?_|refine FLe.le rfl (V.le_arr (fun _=>rfl)) ?_)) (hh:HLe (sg σ h.length) h σ h':=by repeat (first|exact HLe.nil|refine HLe.dead ?_|refine HLe.live rfl V.les_nil rfl ?_|refine HLe.live rfl (aFv (fun _=>rfl) _) (all_map (fun _=>rfl) _) ?_|refine HLe.live rfl (aD5 (fun _=>rfl) _) (xZ (fun _=>rfl) _) ?_|refine HLe.live rfl (V.les_refl _ _) rfl ?_)) (hσ:σ.take N=List.range N:=by rfl) (hlt:σ.all (fun b=>Nat.blt b h.length)=true:=by rfl) (hnd:ndB (lvs σ h')=true:=by rfl):aE4 P fn N r h' .ret (aD n fr) h:=uM (bB hr (rvT hx) (rvT hy)) (Ghost.rn σ hσ hlt hf hh hnd)
theorem zd3 (hr:fn.results= #[.tmp t,.tmp u,.tmp w])(σ:List Nat) (hx:bU n fr (.tmp t)=some a:=by rfl) (hy:bU n fr (.tmp u)=some b:=by rfl) (hz:bU n fr (.tmp w)=some c:=by rfl) (hf:FLe wZ (V.rn (sg σ h.length)) [(0,(.tup [a,b,c]))] [(0,r)]:=by repeat (first|exact FLe.nil|refine FLe.same rfl ?_|refine FLe.le rfl V.le_nil ?_|refine FLe.le rfl V.le_row ?_|refine FLe.le rfl (V.le_arr (fun _=>rfl)) ?_)) (hh:HLe (sg σ h.length) h σ h':=by repeat (first|exact HLe.nil|refine HLe.dead ?_|refine HLe.live rfl V.les_nil rfl ?_|refine HLe.live rfl (aFv (fun _=>rfl) _) (all_map (fun _=>rfl) _) ?_|refine HLe.live rfl (aD5 (fun _=>rfl) _) (xZ (fun _=>rfl) _) ?_|refine HLe.live rfl (V.les_refl _ _) rfl ?_)) (hσ:σ.take N=List.range N:=by rfl) (hlt:σ.all (fun b=>Nat.blt b h.length)=true:=by rfl) (hnd:ndB (lvs σ h')=true:=by rfl):aE4 P fn N r h' .ret (aD n fr) h:=uM (jT hr (rvT hx) (rvT hy) (rvT hz)) (Ghost.rn σ hσ hlt hf hh hnd)
end
def OpsG (P:Program)(F G:FuncId→Bool)(ops:Array Oper):List Oper→List V→Hp→(List V→Hp→Prop)→Prop
 | [],s,h,K=>K s h
 |o::l,s,h,K=> ∃s1 h1,StepR P F G ops o s h s1 h1∧OpsG P F G ops l s1 h1 K
def OpsX (P:Program)(N:Nat)(m:Option (List Nat×List Nat))(ops:Array Oper)(l:List Oper)(s:List V)(h:Hp)(K:List V→Hp→Prop):Prop:=
 match m with
 |none=>OpsW P N ops l s h K
 |some (F,G)=>OpsG P (cT F) (cT G) ops l s h K
def yS (l:List Oper):List Nat→List Oper
 | []=>[]
 |i::s=>match l[i]? with
  |some o=>o::yS l s
  |none=>[]
def aEd (F G:FuncId→Bool)(ops:Array Oper):List Nat→Array Bool→Bool
 | [],_=>true
 |i::s,L=>aH0 F G ops L i&&(ops.toList[i]?).isSome&&aEd F G ops s (L.setIfInBounds i true)
def aDM :List Nat→Array Bool→Array Bool
 | [],L=>L
 |i::s,L=>aDM s (L.setIfInBounds i true)
theorem aAh {P:Program}{N:Nat}{F G:FuncId→Bool}{ops:Array Oper}{K:List V→Hp→Prop}{m:Nat}: ∀(sc:List Nat)(L:Array Bool)(s:List V)(h:Hp),aEd F G ops sc L=true→
  OpsG P F G ops (yS ops.toList sc) s h (fun s h=>DrawG P N F G ops m (aDM sc L) s h K)→DrawG P N F G ops (m+sc.length) L s h K
 | [],L,s,h,_,hk=>hk
 |i::sc,L,s,h,hb,hk=>by
  simp only[aEd,aY1]at hb
  obtain⟨⟨h1,h2⟩,h3⟩:=hb
  obtain⟨o,ho⟩:=aZs.1 h2
  simp only[yS,ho]at hk
  obtain⟨s1,g1,e,hk⟩:=hk
  refine DrawG.pick h1 (o:=o) (by simpa using ho) e ?_
  exact aAh sc _ s1 g1 h3 hk
theorem DrawG.ps {P:Program}{N n m:Nat}{F G:List Nat}{ops:Array Oper}{L:Array Bool}{s:List V}{h:Hp}{K:List V→Hp→Prop}(sc:List Nat)(hr:OpsX P N (some (F,G)) ops (yS ops.toList sc) s h fun s h=>DrawG P N (cT F) (cT G) ops m (aDM sc L) s h K)
  (hb:(aEd (cT F) (cT G) ops sc L&&Nat.beq n (m+sc.length))=true:=by decide +kernel):DrawG P N (cT F) (cT G) ops n L s h K:=by
 simp only[Bool.and_eq_true]at hb
 rw[Nat.eq_of_beq_eq_true hb.2]
 exact aAh sc L s h hb.1 hr
theorem DrawG.jh {P:Program}{N n:Nat}{F G:FuncId→Bool}{ops:Array Oper}{L listed:Array Bool}{s s':List V}{h h':Hp}{K:List V→Hp→Prop}(k:DrawG P N F G ops (n+1) L s' h' K)(hg:Ghost N s h s' h') (hL:listed=L:=by decide +kernel) (hc:aKs ops L=true:=by decide +kernel):DrawG P N F G ops (n+1) listed s h K:=DrawG.jg hL hc hg k
def Fk (P:Program)(N:Nat)(F G:List Nat)(ops:Array Oper)(n:Nat)(L:Array Bool)(s:List V)(h:Hp)(K:List V→Hp→Prop):List Nat→Prop
 | []=>True
 |i::l=>OpsX P N (some (F,G)) ops (yS ops.toList [i]) s h (fun s h=>DrawG P N (cT F) (cT G) ops n (L.setIfInBounds i true) s h K)∧Fk P N F G ops n L s h K l
theorem Fk.fork {P:Program}{N n:Nat}{F G:List Nat}{ops:Array Oper}{L:Array Bool}{s:List V}{h:Hp}{K:List V→Hp→Prop}: ∀{l:List Nat},(l.all fun i=>(ops.toList[i]?).isSome)=true→Fk P N F G ops n L s h K l→Fork P N (cT F) (cT G) ops n L s h K l
 | [],_,_=>Fork.nil
 |i::l,hb,⟨h1,h2⟩=>by
  simp only[aZc,aY1]at hb
  obtain⟨o,ho⟩:=aZs.1 hb.1
  simp only[OpsX,yS,ho]at h1
  obtain⟨s1,g1,e,hk⟩:=h1
  exact Fork.cons (by simpa using ho) e hk (h2.fork hb.2)
theorem DrawG.fk {P:Program}{N n:Nat}{F G:List Nat}{ops:Array Oper}{L:Array Bool}{s:List V}{h:Hp}{K:List V→Hp→Prop}(l:List Nat)(hf:Fk P N F G ops n L s h K l) (hl:Region.ready .any ops L=l:=by decide +kernel) (hne:l≠ []:=by decide) (hb:(l.all fun i=>(ops.toList[i]?).isSome)=true:=by decide +kernel):DrawG P N (cT F) (cT G) ops (n+1) L s h K:=DrawG.fork l hl hne (hf.fork hb)
def aHa (F G:FuncId→Bool)(ops:Array Oper):List (List Nat)→Array Bool→Bool
 | [],L=>(gG ops.size L).isEmpty
 | [a],L=>aEd F G ops a L&&(gG ops.size (aDM a L)).isEmpty
 |a::b::ss,L=>aEd F G ops a L&&aKs ops (aDM a L)&& !b.isEmpty&&aHa F G ops (b::ss) (aDM a L)
def aSf (P:Program)(N:Nat)(F G:List Nat)(ops:Array Oper):List (List Nat)→List V→Hp→(List V→Hp→Prop)→Prop
 | [],s,h,K=>K s h
 | [a],s,h,K=>OpsX P N (some (F,G)) ops (yS ops.toList a) s h K
 |a::b::ss,s,h,K=>OpsX P N (some (F,G)) ops (yS ops.toList a) s h (fun s h=> ∃s' h',Ghost N s h s' h'∧aSf P N F G ops (b::ss) s' h' K)
theorem OpsG.mono {P:Program}{F G:FuncId→Bool}{ops:Array Oper}{K K':List V→Hp→Prop}: ∀{l:List Oper}{s:List V}{h:Hp},OpsG P F G ops l s h K→(∀s h,K s h→K' s h)→OpsG P F G ops l s h K'
 | [],_,_,hk,hm=>hm _ _ hk
 |_::_,_,_,⟨s1,h1,e,hk⟩,hm=>⟨s1,h1,e,hk.mono hm⟩
theorem aGR {P:Program}{N:Nat}{F G:List Nat}{ops:Array Oper}{K:List V→Hp→Prop}: ∀(ss:List (List Nat))(L:Array Bool)(s:List V)(h:Hp),aHa (cT F) (cT G) ops ss L=true→
  aSf P N F G ops ss s h K→DrawG P N (cT F) (cT G) ops (ss.map List.length).sum L s h K
 | [],L,s,h,hb,hk=>DrawG.nil (List.isEmpty_iff.1 hb) hk
 | [a],L,s,h,hb,hk=>by
  simp only[aHa,Bool.and_eq_true]at hb
  have:=aAh (N:=N) (m:=0) a L s h hb.1 (OpsG.mono (K':=fun s h=>DrawG P N (cT F) (cT G) ops 0 (aDM a L) s h K) hk fun s h hk=>DrawG.nil (List.isEmpty_iff.1 hb.2) hk)
  simpa using this
 |a::b::ss,L,s,h,hb,hk=>by
  simp only[aHa,Bool.and_eq_true]at hb
  obtain⟨⟨⟨h1,h2⟩,h3⟩,h4⟩:=hb
  have:=aAh (N:=N) (m:=((b::ss).map List.length).sum) a L s h h1 (OpsG.mono (K':=fun s h=>DrawG P N (cT F) (cT G) ops ((b::ss).map List.length).sum (aDM a L) s h K) hk fun s h ⟨s',h',hg,hk⟩=>by
   have hd:=aGR (b::ss) _ s' h' h4 hk
   obtain⟨x,xs,rfl⟩: ∃x xs,b=x::xs:=by
    cases b with
    |nil=>cases h3
    |cons x xs=>exact⟨x,xs,rfl⟩
   simp only[List.map_cons,List.length_cons,List.sum_cons,Nat.add_right_comm _ 1]at hd⊢
   exact DrawG.gh h2 hg hd)
  simpa[Nat.add_comm]using this
theorem AB.rs {P:Program}{N:Nat}{Q:Ex→List V→Hp→Prop}{s:List V}{h:Hp}(hm:P.follows .mixedOrders=true)(F G:List Nat)(ss:List (List Nat)){id:Nat}{l:List Oper}(hr:aSf P N F G l.toArray ss s h (Q .normal))
  (hb:(aHa (cT F) (cT G) l.toArray ss (Array.replicate l.toArray.size false)&&(ss.map List.length).sum == l.toArray.size)=true:=by decide +kernel):AB P N (.region id l.toArray true) Q s h:=by
 simp only[Bool.and_eq_true,beq_iff_eq]at hb
 refine AB.rd (cT F) (cT G) hm ?_
 have:=aGR ss _ s h hb.1 hr
 rw[hb.2]at this
 exact this
section
variable {P:Program}{N n t:Nat}{m:Option (List Nat×List Nat)}{ops:Array Oper}{l:List Oper}{fr:List (Nat×V)}{h h':Hp}{K:List V→Hp→Prop}{op:Op}{ty:TypeId}{pos:String}{aft:Array Edge}{gd:Option (Nat×Bool)}{v a b:V}{x y z:Operand}{Q:Ex→List V→Hp→Prop}{s:List V}
theorem OpsX.nil (hk:K s h):OpsX P N m ops [] s h K:=by
 cases m with
 |none=>exact OpsW.nil hk
 |some p=>exact hk
theorem xS0 (hs:cJ P O0 ops ⟨some t,op,ty,pos,aft,gd⟩ (aD n fr) h=some (v,h'))(k:OpsX P N m ops l (aD n ((t,v)::fr)) h' K):OpsX P N m ops (⟨some t,op,ty,pos,aft,gd⟩::l) (aD n fr) h K:=by
 cases m with
 |none=>exact wS hs k
 |some p=>exact⟨_,_,gS hs,k⟩
theorem xN0 (hs:cJ P O0 ops ⟨none,op,ty,pos,aft,gd⟩ (aD n fr) h=some (v,h'))(k:OpsX P N m ops l (aD n fr) h' K):OpsX P N m ops (⟨none,op,ty,pos,aft,gd⟩::l) (aD n fr) h K:=by
 cases m with
 |none=>exact wN hs k
 |some p=>exact⟨_,_,gN hs,k⟩
theorem xq {c:Code}{id:Nat}(hr:OpsX P N none l.toArray l s h (Ex.then (AB P N c Q) Q .normal)):AB P N (.seq (.region id l.toArray false) c) Q s h:=AB.seq (AB.rw hr)
theorem xr {id:Nat}(hr:OpsX P N none l.toArray l s h (Q .normal)):AB P N (.region id l.toArray false) Q s h:=AB.rw hr
def Gd (ops:Array Oper)(n:Nat)(fr:List (Nat×V)):Option (Nat×Bool)→Prop
 |none=>True
 |some (j,w)=> ∃u,(ops[j]?).bind (·.dst)=some u∧ ∃c,bU n fr (.tmp u)=some (.sc (.bool c))∧c=w
theorem Gd.step {dd:Option Tmp}{r:V×Hp}(hg:Gd ops n fr gd)(hd:bE P O0 ⟨dd,op,ty,pos,aft,gd⟩ (aD n fr) h=some r):cJ P O0 ops ⟨dd,op,ty,pos,aft,gd⟩ (aD n fr) h=some r:=by
 obtain⟨v,h1⟩:=r
 cases gd with
 |none=>exact sv hd
 |some p=>
  obtain⟨j,w⟩:=p
  obtain⟨u,hu,c,hc,he⟩:=hg
  exact svG hu hc he hd
theorem xS (hd:bE P O0 ⟨some t,op,ty,pos,aft,gd⟩ (aD n fr) h=some (v,h'))(k:OpsX P N m ops l (aD n ((t,v)::fr)) h' K) (hg:Gd ops n fr gd:=by first|exact True.intro|exact⟨_,rfl,_,rfl,by assumption⟩):OpsX P N m ops (⟨some t,op,ty,pos,aft,gd⟩::l) (aD n fr) h K:=xS0 (hg.step hd) k
theorem xN (hd:bE P O0 ⟨none,op,ty,pos,aft,gd⟩ (aD n fr) h=some (v,h'))(k:OpsX P N m ops l (aD n fr) h' K) (hg:Gd ops n fr gd:=by first|exact True.intro|exact⟨_,rfl,_,rfl,by assumption⟩):OpsX P N m ops (⟨none,op,ty,pos,aft,gd⟩::l) (aD n fr) h K:=xN0 (hg.step hd) k
theorem xw (hd:bE P O0 ⟨some t,op,ty,pos,aft,none⟩ (aD n fr) h=some (v,h'))(k:OpsX P N m ops l (aD n ((t,v)::fr)) h' K):OpsX P N m ops (⟨some t,op,ty,pos,aft,none⟩::l) (aD n fr) h K:=xS0 (sv hd) k
theorem xy (hd:bE P O0 ⟨none,op,ty,pos,aft,none⟩ (aD n fr) h=some (v,h'))(k:OpsX P N m ops l (aD n fr) h' K):OpsX P N m ops (⟨none,op,ty,pos,aft,none⟩::l) (aD n fr) h K:=xN0 (sv hd) k
theorem xC {f:FuncId}{ts:Array TypeId}{ws:List Operand}{xs:List V}(hx:pD n fr ws=some xs)(hc:Fn P f h xs v h')(k:OpsX P N none ops l (aD n ((t,v)::fr)) h' K):OpsX P N none ops (⟨some t,.call ⟨.value (.func f),ws.toArray,ts⟩,ty,pos,aft,none⟩::l) (aD n fr) h K:=wC hx hc k
theorem xCg {f:FuncId}{ts:Array TypeId}{ws:List Operand}{xs:List V}{jj ww:Nat}{want cc:Bool}(hj:(ops[jj]?).bind (·.dst)=some ww)(hl:bU n fr (.tmp ww)=some (.sc (.bool cc)))(hb:cc=want)(hx:pD n fr ws=some xs)(hc:Fn P f h xs v h')(k:OpsX P N none ops l (aD n ((t,v)::fr)) h' K):OpsX P N none ops (⟨some t,.call ⟨.value (.func f),ws.toArray,ts⟩,ty,pos,aft,some (jj,want)⟩::l) (aD n fr) h K:=wCG hj hl hb hx hc k
theorem xG {f:FuncId}{F G:List Nat}{ts:Array TypeId}{ws:List Operand}{xs:List V}(hx:pD n fr ws=some xs)(hc:Fn P f h xs v h')(k:OpsX P N (some (F,G)) ops l (aD n ((t,v)::fr)) h' K) (hF:cT F f=false:=by rfl) (hG:cT G f=true→ ∃news,h'=h++news:=by first|exact(fun _=>⟨_,rfl⟩)|exact(fun _=>⟨[],(List.append_nil _).symm⟩)|exact(fun h=>absurd h (by decide))) (hg:Gd ops n fr gd:=by first|exact True.intro|exact⟨_,rfl,_,rfl,by assumption⟩):OpsX P N (some (F,G)) ops (⟨some t,.call ⟨.value (.func f),ws.toArray,ts⟩,ty,pos,aft,gd⟩::l) (aD n fr) h K:=by
 refine⟨_,_,gC hc hF hG ?_,k⟩
 cases gd with
 |none=>exact sv (aFk hx xV)
 |some p=>
  obtain⟨j,w⟩:=p
  obtain⟨u,hu,c,hb,he⟩:=hg
  exact svG hu hb he (aFk hx xV)
theorem xU {f:FuncId}{F G:List Nat}{ts:Array TypeId}{ws:List Operand}{xs:List V}(hx:pD n fr ws=some xs)(hc: ∀h,Fn P f h xs v h)(k:OpsX P N (some (F,G)) ops l (aD n ((t,v)::fr)) h K) (hG:cT G f=false:=by rfl) (hg:Gd ops n fr gd:=by first|exact True.intro|exact⟨_,rfl,_,rfl,by assumption⟩):OpsX P N (some (F,G)) ops (⟨some t,.call ⟨.value (.func f),ws.toArray,ts⟩,ty,pos,aft,gd⟩::l) (aD n fr) h K:=by
 refine⟨_,_,gU hc hG ?_,k⟩
 cases gd with
 |none=>exact sv (aFk hx aDY)
 |some p=>
  obtain⟨j,w⟩:=p
  obtain⟨u,hu,c,hb,he⟩:=hg
  exact svG hu hb he (aFk hx aDY)
variable {j w:Nat}{want c:Bool}
theorem xX (hc:c= !want)(k:OpsX P N m ops l (aD n ((t,.sc undef)::fr)) h K) (hj:(ops[j]?).bind (·.dst)=some w:=by rfl) (hl:bU n fr (.tmp w)=some (.sc (.bool c)):=by rfl):OpsX P N m ops (⟨some t,op,ty,pos,aft,some (j,want)⟩::l) (aD n fr) h K:=xS0 (svX hj hl hc) k
theorem xSg (hj:(ops[j]?).bind (·.dst)=some w)(hl:bU n fr (.tmp w)=some (.sc (.bool c)))(hc:c=want)(hd:bE P O0 ⟨some t,op,ty,pos,aft,some (j,want)⟩ (aD n fr) h=some (v,h'))(k:OpsX P N m ops l (aD n ((t,v)::fr)) h' K):OpsX P N m ops (⟨some t,op,ty,pos,aft,some (j,want)⟩::l) (aD n fr) h K:=xS0 (svG hj hl hc hd) k
theorem OpsX.ghost {s':List V}(hg:Ghost N s h s' h')(k:OpsX P N none ops l s' h' K):OpsX P N none ops l s h K:=OpsW.ghost hg k
end
theorem gD {p:Prop} (h:p:=by first|exact True.intro|exact⟨_,rfl,_,rfl,by assumption⟩):p:=h
inductive LSet {α:Type}:List α→Nat→α→List α→Prop
 |z {a b:α} {l:List α}:LSet (a::l) 0 b (b::l)
 |s {a b:α} {l l':List α} {i:Nat}:LSet l i b l'→LSet (a::l) (i+1) b (a::l')
theorem LSet.eq {α:Type}{l l':List α}{i:Nat}{b:α}(h:LSet l i b l'):l.set i b=l':=by
 induction h with
 |z=>rfl
 |s _ ih=>rw[List.set_cons_succ,ih]
inductive Snoc {α:Type}:List α→α→List α→Prop
 |n {b:α}:Snoc [] b [b]
 |c {a b:α} {l l':List α}:Snoc l b l'→Snoc (a::l) b (a::l')
theorem Snoc.eq {α:Type}{l l':List α}{b:α}(h:Snoc l b l'):l++[b]=l':=by
 induction h with
 |n=>rfl
 |c _ ih=>rw[aZt,ih]
inductive IsA :(List V→List V)→Nat→Prop
 |c {a:V}:IsA (List.cons a) 1
 |a4 {k:IntKind} {q:List Int}:IsA (jQ (eI k) q) 4
 |a8 {k:IntKind} {q:List Int}:IsA (ar8 (eI k) q) 8
 |a20 {k:IntKind} {q:List Int}:IsA (aDo (eI k) q) 20
 |a32 {k:IntKind} {q:List Int}:IsA (aK (eI k) q) 32
 |a64 {k:IntKind} {q:List Int}:IsA (aDr (eI k) q) 64
theorem IsA.eq {A:List V→List V}{n:Nat}(h:IsA A n): ∃p:List V,p.length=n∧ ∀r,A r=p++r:=by
 cases h with
 |c=>exact⟨[_],rfl,fun _=>rfl⟩
 |a4=>exact⟨jQ _ _ [],rfl,fun _=>rfl⟩
 |a8=>exact⟨ar8 _ _ [],rfl,fun _=>rfl⟩
 |a20=>exact⟨aDo _ _ [],rfl,fun _=>rfl⟩
 |a32=>exact⟨aK _ _ [],rfl,fun _=>rfl⟩
 |a64=>exact⟨aDr _ _ [],rfl,fun _=>rfl⟩
inductive Spl :List V→Nat→List V→List V→Prop
 |w {l r:List V}:r.length=l.length→Spl l 0 r r
 |d {l:List V}:Spl l 0 [] l
 |p {A B:List V→List V} {n:Nat} {l r l':List V}:IsA A n→IsA B n→Spl l 0 r l'→Spl (A l) 0 (B r) (B l')
 |s {A:List V→List V} {n:Nat} {l r l':List V} {o o':Nat}:IsA A n→o'=o+n→Spl l o r l'→Spl (A l) o' r (A l')
theorem Spl.eq {l r l':List V}{o:Nat}(h:Spl l o r l'):splice l o r=l':=by
 induction h with
 |w h=>simp[splice,h]
 |d=>simp[splice]
 |p hA hB _ ih=>
  obtain⟨p,hp,e⟩:=hA.eq
  obtain⟨q,hq,e'⟩:=hB.eq
  simp only[splice,List.take_zero,aZm,aZL]at ih⊢
  rw[e,e',e',←ih,aZp,hq,←hp,aZu,aY3 (by omega),aZm,Nat.add_sub_cancel_left,aZi]
 | @s A n l r l' o o' hA he _ ih=>
  subst he
  obtain⟨p,hp,e⟩:=hA.eq
  simp only[splice]at ih⊢
  have h1:(p++l).take (o+n)=p++l.take o:=by rw[aZN,aZh (by omega),show o+n-p.length=o by omega]
  have h2:(p++l).drop (o+n+r.length)=l.drop (o+r.length):=by rw[aZu,aY3 (by omega),aZm,show o+n+r.length-p.length=o+r.length by omega]
  rw[e,e,h1,h2,←ih,aZi,aZi,aZi]
inductive Tak :List V→Nat→Nat→List V→Prop
 |w {l:List V} {k:Nat}:l.length=k→Tak l 0 k l
 |d {l:List V}:Tak l 0 0 []
 |t {A:List V→List V} {n:Nat} {l r:List V} {k k':Nat}:IsA A n→k'=k+n→Tak l 0 k r→Tak (A l) 0 k' (A r)
 |s {A:List V→List V} {n:Nat} {l r:List V} {o o' k:Nat}:IsA A n→o'=o+n→Tak l o k r→Tak (A l) o' k r
theorem Tak.eq {l r:List V}{o k:Nat}(h:Tak l o k r):(l.drop o).take k=r∧k≤(l.drop o).length:=by
 induction h with
 |w h=>subst h;exact⟨by simp,by simp⟩
 |d=>exact⟨rfl,Nat.zero_le _⟩
 |t hA he _ ih=>
  subst he
  obtain⟨p,hp,e⟩:=hA.eq
  simp only[aZf]at ih⊢
  rw[e,e,aZN,aZh (by omega),hp,Nat.add_sub_cancel,ih.1,aZp,hp]
  exact⟨rfl,by omega⟩
 | @s A n l r o o' k hA he _ ih=>
  subst he
  obtain⟨p,hp,e⟩:=hA.eq
  have h1:(p++l).drop (o+n)=l.drop o:=by rw[aZu,aY3 (by omega),aZm,show o+n-p.length=o by omega]
  rw[e,h1]
  exact ih
inductive OfC :Value→V→Prop
 |i {k:IntKind} {x:Int}:OfC (.int k x) (eI k x)
 |b {x:Bool}:OfC (.bool x) (eB x)
 |s {x:ByteArray}:OfC (.string x) (eS x)
 |l:OfC (.slice none 0 0) (.row (some true) 1 [])
 |p:OfC (.pointer none) (.sc (.pointer none))
theorem OfC.eq {v:Value}{a:V}(h:OfC v a):eD v=a:=by cases h<;>rfl
theorem OfC.eq' {v:Value}{a:V}(h:OfC v a):ofValue v=a:=by cases h<;>rfl
theorem OfC.one {v:Value}{a:V}(h:OfC v a):a.one=true∧v.cells= #[v]:=by cases h<;>exact⟨rfl,rfl⟩
inductive OfCs :List Value→List V→Prop
 |n:OfCs [] []
 |c {v:Value} {a:V} {vs:List Value} {as_:List V}:OfC v a→OfCs vs as_→OfCs (v::vs) (a::as_)
theorem OfCs.eq {vs:List Value}{as_:List V}(h:OfCs vs as_):vs.map eD=as_:=by
 induction h with
 |n=>rfl
 |c h _ ih=>rw[aY5,h.eq,ih]
theorem OfCs.one {vs:List Value}{as_:List V}(h:OfCs vs as_):as_.all V.one=true:=by
 induction h with
 |n=>rfl
 |c h _ ih=>rw[aZc,h.one.1,ih];rfl
inductive Zro :Value→List V→Prop
 |a {vs:List Value} {cs:List V}:OfCs vs cs→Zro (.agg vs.toArray) cs
 |o {v:Value} {a:V}:OfC v a→Zro v [a]
theorem Zro.eq {v:Value}{cs:List V}(h:Zro v cs):v.cells.toList.map eD=cs∧cs.all V.one=true:=by
 cases h with
 |a h=>exact⟨h.eq,h.one⟩
 |o h=>rw[h.one.2];exact⟨by simp[h.eq],by simp[h.one.1]⟩
inductive Cel :V→List V→Prop
 |a {cs:List V}:cs.all V.one=true→Cel (.agg cs) cs
 |o {x:V}:x.one=true→x.cells=[x]→Cel x [x]
 |m {α:Type} {E:α→V} {q:List α}:(∀x,(E x).one=true)→Cel (.agg (q.map E)) (q.map E)
theorem Cel.eq {x:V}{cs:List V}(h:Cel x cs):x.cells=cs∧x.flatOk=true:=by
 cases h with
 |a h=>exact⟨rfl,h⟩
 |o h1 h2=>exact⟨h2,by simp[V.flatOk,h2,h1]⟩
 |m h=>exact⟨rfl,aXM h⟩
inductive Fil (pl:Array (Nat×Nat)):List V→List (Nat×V)→List V→Prop
 |n {cs:List V}:Fil pl cs [] cs
 |c {cs ds es fs:List V} {i o k:Nat} {x:V} {ps:List (Nat×V)}:pl[i]? =some (o,k)→Cel x ds→ds.length=k→aY6 (o+k) cs.length=true→Spl cs o ds es→Fil pl es ps fs→Fil pl cs ((i,x)::ps) fs
theorem Fil.eq {pl:Array (Nat×Nat)}{cs fs:List V}{ps:List (Nat×V)}(h:Fil pl cs ps fs):qY (fun i=>pl[i]?) cs ps=some fs:=by
 induction h with
 |n=>rfl
 |c h1 h2 h3 h4 h5 _ ih=>
  simp only[qY,h1]
  rw[if_pos ⟨h2.eq.2,by rw[h2.eq.1,h3],aYV h4⟩,h2.eq.1,h5.eq,ih]
class TiC (P:Program) (t:TypeId) (d:outParam TI):Prop where
 h:aH P t=some d
abbrev tv {P:Program}{t:TypeId}{d:TI}(_:aH P t=some d):TI:=d
abbrev pv {P:Program}{t:TypeId}{d:Array (Nat×Nat)}(_:fO P t=some d):Array (Nat×Nat):=d
class FaC (P:Program) (t:TypeId) (f:Nat) (k:outParam Nat):Prop where
 p: ∀b off,sL P t (.ptr b off) f=some (.ptr b (off+k))
 e: ∀es i off,sL P t (.eptr es i off) f=some (.eptr es i (off+k))
theorem fH {P:Program}{t:TypeId}{f k:Nat}{fs:Array Field}{sz by_:Nat}{zz:Value}{fl:Field}{di:TI}(h:aH P t=some ⟨.struct fs,sz,by_,zz⟩)(hf:fs[f]? =some fl)(hd:aH P fl.type=some di)(hz:Nat.blt 0 di.size=true)(hk:fl.offset=k):FaC P t f k:=by
 have h1:0<di.size:=by simpa using hz
 have h0: ¬di.size=0:=by omega
 exact⟨fun b off=>by simp[sL,h,hf,hd,h0,hk],fun es i off=>by simp[sL,h,hf,hd,h0,hk]⟩
theorem fP {P:Program}{t:TypeId}{f b off k r:Nat} [F:FaC P t f k] (hr:off+k=r:=by rfl):sL P t (.ptr b off) f=some (.ptr b r):=hr▸F.p _ _
class ZrA (P:Program) (t:TypeId) (cs:outParam (List V)):Prop where
 h: ∃d,aH P t=some d∧d.zero.cells.toList.map eD=cs∧cs.all V.one=true
theorem zrA {P:Program}{t:TypeId}{cs:List V}{d:TI}(h:aH P t=some d) (e:d.zero.cells.toList.map eD=cs:=by rfl) (o:cs.all V.one=true:=by rfl):ZrA P t cs:=⟨d,h,e,o⟩
class NoA (P:Program) (t:TypeId):Prop where
 h:True
class PlC (P:Program) (t:TypeId) (pl:outParam (Array (Nat×Nat))):Prop where
 h:fO P t=some pl
def aS6 (op:BinOp)(k:IntKind)(a b:Int):Option V:=match op with
 | .add=>some (eI k (k.wrap (a+b)))
 | .sub=>some (eI k (k.wrap (a-b)))
 | .mul=>some (eI k (k.wrap (a*b)))
 | .and=>some (eI k (bits .and k a b))
 | .or=>some (eI k (bits .or k a b))
 | .xor=>some (eI k (bits .xor k a b))
 | .eql=>some (eB (a == b))
 | .neq=>some (eB (a != b))
 | .lss=>some (eB (decide (a<b)))
 | .leq=>some (eB (decide (a≤b)))
 | .gtr=>some (eB (decide (b<a)))
 | .geq=>some (eB (decide (b≤a)))
 |_=>none
theorem aU4 {P:Program}{op:BinOp}{t:TypeId}{x y:Operand}{k:IntKind}{a b:Int}{v:V}(h:aS6 op k a b=some v):dZ P op t x y (eI k a) (eI k b)=some v:=by
 cases op<;>simp only[aS6,aYX,reduceCtorEq]at h<;>subst h
 ·exact aVb ..
 ·exact aVi ..
 ·exact aUU ..
 ·exact aVB ..
 ·exact aWk ..
 ·exact aUH ..
 ·exact aVe ..
 ·exact aPl ..
 ·exact aLa ..
 ·exact aVj ..
 ·exact aUR ..
 exact aVn ..
section
variable {P:Program}{N n t:Nat}{m:Option (List Nat×List Nat)}{ops:Array Oper}{l:List Oper}{fr:List (Nat×V)}{h h':Hp}{K:List V→Hp→Prop}{op:Op}{ty:TypeId}{pos:String}{aft:Array Edge}{gd:Option (Nat×Bool)}{v a b:V}{x y z:Operand}{Q:Ex→List V→Hp→Prop}{s:List V}{k:IntKind}{i j:Int}{o e:Nat}{cs ds:List V}{ti di:TI}{u w:TypeId}{bo:BinOp}{p q:Nat}{c:Bool}
theorem xm (hx:bU n fr x=some a)(hg:Gd ops n fr gd)(q:OpsX P N m ops l (aD n ((t,a)::fr)) h K):OpsX P N m ops (⟨some t,.move x,ty,pos,aft,gd⟩::l) (aD n fr) h K:=xS (aVW hx) q hg
theorem xa (hx:bU n fr x=some a)(hg:Gd ops n fr gd)(q:OpsX P N m ops l (aD n ((t,a)::fr)) h K):OpsX P N m ops (⟨some t,.assign x,ty,pos,aft,gd⟩::l) (aD n fr) h K:=xS (aSe hx) q hg
theorem xmc {v:Value}(hv:OfC v a)(hg:Gd ops n fr gd)(q:OpsX P N m ops l (aD n ((t,a)::fr)) h K):OpsX P N m ops (⟨some t,.move (.const v),ty,pos,aft,gd⟩::l) (aD n fr) h K:=xm (by rw[←hv.eq'];rfl) hg q
theorem xac {v:Value}(hv:OfC v a)(hg:Gd ops n fr gd)(q:OpsX P N m ops l (aD n ((t,a)::fr)) h K):OpsX P N m ops (⟨some t,.assign (.const v),ty,pos,aft,gd⟩::l) (aD n fr) h K:=xa (by rw[←hv.eq'];rfl) hg q
theorem xb (hx:bU n fr x=some (eI k i))(hy:bU n fr y=some (eI k j))(hv:aS6 bo k i j=some v)(hg:Gd ops n fr gd)(q:OpsX P N m ops l (aD n ((t,v)::fr)) h K):OpsX P N m ops (⟨some t,.binOp bo u x y w,ty,pos,aft,gd⟩::l) (aD n fr) h K:=xS (jF hx hy (aU4 hv)) q hg
theorem xno (hx:bU n fr x=some (eB c))(hg:Gd ops n fr gd)(q:OpsX P N m ops l (aD n ((t,eB (!c))::fr)) h K):OpsX P N m ops (⟨some t,.unOp .not u x,ty,pos,aft,gd⟩::l) (aD n fr) h K:=xS (aEZ hx (aV1 _ _)) q hg
theorem xci {sz by_:Nat}{zz:Value}{k':IntKind} [D:TiC P u di] [T:TiC P w ⟨.int k',sz,by_,zz⟩] (hx:bU n fr x=some (eI k i)) (hg:Gd ops n fr gd) (q:OpsX P N m ops l (aD n ((t,eI k' (k'.wrap i))::fr)) h K):OpsX P N m ops (⟨some t,.convert u w x,ty,pos,aft,gd⟩::l) (aD n fr) h K:=xS (aNO hx (aTk _ ⟨_,D.h⟩ T.h rfl)) q hg
theorem xlR {α:Type}{E:α→V}{nl:Option Bool}{ml:List α}{sz by_:Nat}{zz:Value} [T:TiC P u ⟨.slice e,sz,by_,zz⟩] (hx:bU n fr x=some (.row nl o (ml.map E))) (hg:Gd ops n fr gd) (q:OpsX P N m ops l (aD n ((t,eI .i64 (ml.length:Int))::fr)) h K):OpsX P N m ops (⟨some t,.call ⟨.builtin .len,#[x],#[u]⟩,ty,pos,aft,gd⟩::l) (aD n fr) h K:=xS (aQv hx (aYy T.h)) q hg
theorem xlS {sz by_:Nat}{zz:Value}{ag:Bool} [T:TiC P u ⟨.slice e,sz,by_,zz⟩] (hx:bU n fr x=some (.sl o p q w ag)) (hg:Gd ops n fr gd) (kk:OpsX P N m ops l (aD n ((t,eI .i64 (q:Int))::fr)) h K):OpsX P N m ops (⟨some t,.call ⟨.builtin .len,#[x],#[u]⟩,ty,pos,aft,gd⟩::l) (aD n fr) h K:=xS (aQv hx (aYO T.h)) kk hg
theorem xlT {sz by_:Nat}{zz:Value}{st:ByteArray} [T:TiC P u ⟨.string,sz,by_,zz⟩] (hx:bU n fr x=some (eS st)) (hg:Gd ops n fr gd) (q:OpsX P N m ops l (aD n ((t,eI .i64 (st.size:Int))::fr)) h K):OpsX P N m ops (⟨some t,.call ⟨.builtin .len,#[x],#[u]⟩,ty,pos,aft,gd⟩::l) (aD n fr) h K:=xS (aQv hx (aYd T.h)) q hg
theorem xe {vs:List V}(hx:bU n fr x=some (.tup vs))(hv:vs[o]? =some v)(hg:Gd ops n fr gd)(q:OpsX P N m ops l (aD n ((t,v)::fr)) h K):OpsX P N m ops (⟨some t,.extract x o,ty,pos,aft,gd⟩::l) (aD n fr) h K:=xS (aXx hx hv) q hg
theorem xfp {f kk r:Nat} [F:FaC P u f kk] (hx:bU n fr x=some (.ptr o p)) (hr:p+kk=r) (hg:Gd ops n fr gd) (q:OpsX P N m ops l (aD n ((t,.ptr o r)::fr)) h K):OpsX P N m ops (⟨some t,.fieldAddr u x f,ty,pos,aft,gd⟩::l) (aD n fr) h K:=xS (aOn hx (hr▸F.p _ _)) q hg
theorem xfe {f kk r ix:Nat} [F:FaC P u f kk] (hx:bU n fr x=some (.eptr cs ix p)) (hr:p+kk=r) (hg:Gd ops n fr gd) (q:OpsX P N m ops l (aD n ((t,.eptr cs ix r)::fr)) h K):OpsX P N m ops (⟨some t,.fieldAddr u x f,ty,pos,aft,gd⟩::l) (aD n fr) h K:=xS (aOn hx (hr▸F.e _ _ _)) q hg
theorem xnp (hx:bU n fr x=some (.ptr o p))(hg:Gd ops n fr gd)(q:OpsX P N m ops l (aD n ((t,.ptr o p)::fr)) h K):OpsX P N m ops (⟨some t,.nilCheck x,ty,pos,aft,gd⟩::l) (aD n fr) h K:=xS (aWf hx) q hg
theorem xne {ix:Nat}(hx:bU n fr x=some (.eptr cs ix p))(hg:Gd ops n fr gd)(q:OpsX P N m ops l (aD n ((t,.eptr cs ix p)::fr)) h K):OpsX P N m ops (⟨some t,.nilCheck x,ty,pos,aft,gd⟩::l) (aD n fr) h K:=xS (aWo hx) q hg
theorem xl1 [T:TiC P u ti] (hx:bU n fr x=some (.ptr o p)) (hb:h[o]? =some (some ⟨e,cs⟩)) (hc:(cs.drop p).head? =some v) (hd:b7 ti.desc=false) (hg:Gd ops n fr gd) (q:OpsX P N m ops l (aD n ((t,v)::fr)) h K):OpsX P N m ops (⟨some t,.load u x,ty,pos,aft,gd⟩::l) (aD n fr) h K:=xS (aS hx (ldP hb (sV T.h hd hc))) q hg
theorem xlN {fs:Array Field}{sz by_:Nat}{zz:Value} [T:TiC P u ⟨.struct fs,sz,by_,zz⟩] (hx:bU n fr x=some (.ptr o p)) (hb:h[o]? =some (some ⟨e,cs⟩)) (hc:Tak cs p sz ds) (hg:Gd ops n fr gd) (q:OpsX P N m ops l (aD n ((t,.agg ds)::fr)) h K):OpsX P N m ops (⟨some t,.load u x,ty,pos,aft,gd⟩::l) (aD n fr) h K:=xS (aS hx (ldP hb (bJ T.h rfl hc.eq.2 hc.eq.1))) q hg
theorem xlX {α:Type}{E:α→V}{ml:List α}{r:α} [T:TiC P u ti] (hx:bU n fr x=some (.ptr o j.toNat)) (hb:h[o]? =some (some ⟨e,ml.map E⟩)) (hd:b7 ti.desc=false) (hi:bM ml j=some r) (hg:Gd ops n fr gd) (q:OpsX P N m ops l (aD n ((t,E r)::fr)) h K):OpsX P N m ops (⟨some t,.load u x,ty,pos,aft,gd⟩::l) (aD n fr) h K:=xS (aS hx (ldX T.h hd hb hi)) q hg
theorem aXV {α:Type}{E:α→V}{ml:List α}{r:α} [T:TiC P u ti] (hx:bU n fr x=some (.eptr (ml.map E) j.toNat p)) (hd:b7 ti.desc=false) (hi:bM ml j=some r) (hc:((E r).cells.drop p).head? =some v) (hg:Gd ops n fr gd) (q:OpsX P N m ops l (aD n ((t,v)::fr)) h K):OpsX P N m ops (⟨some t,.load u x,ty,pos,aft,gd⟩::l) (aD n fr) h K:=xS (aS hx (ldR hi (sV T.h hd hc))) q hg
theorem aX4 {α:Type}{E:α→V}{ml:List α}{r:α}{fs:Array Field}{sz by_:Nat}{zz:Value} [T:TiC P u ⟨.struct fs,sz,by_,zz⟩] (hx:bU n fr x=some (.eptr (ml.map E) j.toNat p)) (hi:bM ml j=some r) (hE:E r= .agg cs) (hc:Tak cs p sz ds) (hg:Gd ops n fr gd) (q:OpsX P N m ops l (aD n ((t,.agg ds)::fr)) h K):OpsX P N m ops (⟨some t,.load u x,ty,pos,aft,gd⟩::l) (aD n fr) h K:=xS (aS hx (ldR hi (by rw[hE];exact bJ T.h rfl hc.eq.2 hc.eq.1))) q hg
inductive ArM :List V→List V→Prop
 |a4 {k:IntKind} {q:List Int}:q.length=4→ArM (jQ (eI k) q []) (q.map (eI k))
 |a8 {k:IntKind} {q:List Int}:q.length=8→ArM (ar8 (eI k) q []) (q.map (eI k))
 |a20 {k:IntKind} {q:List Int}:q.length=20→ArM (aDo (eI k) q []) (q.map (eI k))
 |a32 {k:IntKind} {q:List Int}:q.length=32→ArM (aK (eI k) q []) (q.map (eI k))
 |a64 {k:IntKind} {q:List Int}:q.length=64→ArM (aDr (eI k) q []) (q.map (eI k))
theorem ArM.eq {a b:List V}(h:ArM a b):a=b:=by
 cases h with
 |a4 h=>exact aPF h
 |a8 h=>exact aVt h
 |a20 h=>exact aS8 h
 |a32 h=>exact gO h
 |a64 h=>exact aSh h
theorem xlA {es:List V}{N' sz by_:Nat}{zz:Value} [T:TiC P u ⟨.array N' w,sz,by_,zz⟩] (hx:bU n fr x=some (.ptr o p)) (hb:h[o]? =some (some ⟨e,cs⟩)) (hc:Tak cs p sz ds) (ha:ArM ds es) (hg:Gd ops n fr gd) (q:OpsX P N m ops l (aD n ((t,.agg es)::fr)) h K):OpsX P N m ops (⟨some t,.load u x,ty,pos,aft,gd⟩::l) (aD n fr) h K:=xS (aS hx (ldP hb (by rw[←ha.eq];exact bJ T.h rfl hc.eq.2 hc.eq.1))) q hg
theorem aYb {α:Type}{E:α→V}{ml:List α}{r:α}{es:List V}{N' sz by_:Nat}{zz:Value} [T:TiC P u ⟨.array N' w,sz,by_,zz⟩] (hx:bU n fr x=some (.eptr (ml.map E) j.toNat p)) (hi:bM ml j=some r) (hE:E r= .agg cs) (hc:Tak cs p sz ds) (ha:ArM ds es) (hg:Gd ops n fr gd) (q:OpsX P N m ops l (aD n ((t,.agg es)::fr)) h K):OpsX P N m ops (⟨some t,.load u x,ty,pos,aft,gd⟩::l) (aD n fr) h K:=xS (aS hx (ldR hi (by rw[hE,←ha.eq];exact bJ T.h rfl hc.eq.2 hc.eq.1))) q hg
theorem xlB {α:Type}{E:α→V}{ml:List α}{N' sz by_:Nat}{zz:Value} [T:TiC P u ⟨.array N' w,sz,by_,zz⟩] (hx:bU n fr x=some (.ptr o 0)) (hb:h[o]? =some (some ⟨e,ml.map E⟩)) (hz:sz=N') (hl:ml.length=N') (hg:Gd ops n fr gd) (q:OpsX P N m ops l (aD n ((t,.agg (ml.map E))::fr)) h K):OpsX P N m ops (⟨some t,.load u x,ty,pos,aft,gd⟩::l) (aD n fr) h K:=xS (aS hx (ldA T.h hz hb hl)) q hg
theorem xiR {α:Type}{E:α→V}{nl:Option Bool}{ml:List α}{r:α}{sz by_:Nat}{zz:Value} [T:TiC P u ⟨.slice e,sz,by_,zz⟩] [D:TiC P e di] (hx:bU n fr x=some (.row nl o (ml.map E))) (hy:bU n fr y=some (eI k j)) (hs:di.size=o) (hi:bM ml j=some r) (hg:Gd ops n fr gd) (q:OpsX P N m ops l (aD n ((t,.eptr (ml.map E) j.toNat 0)::fr)) h K):OpsX P N m ops (⟨some t,.indexAddr u x y,ty,pos,aft,gd⟩::l) (aD n fr) h K:=xS (aGc hx hy (by subst hs;exact iaR T.h D.h hi)) q hg
theorem xiS {α:Type}{E:α→V}{ml:List α}{r:α}{q0 sz by_:Nat}{zz:Value}{ag:Bool} [T:TiC P u ⟨.slice e,sz,by_,zz⟩] [D:TiC P e di] (hx:bU n fr x=some (.sl o 0 q0 1 ag)) (hy:bU n fr y=some (eI k j)) {e':Nat} (hb:h[o]? =some (some ⟨e',ml.map E⟩)) (hi:bM ml j=some r) (hn:ml.length=q0) (hs:di.size=1) (hg:Gd ops n fr gd) (q:OpsX P N m ops l (aD n ((t,.ptr o j.toNat)::fr)) h K):OpsX P N m ops (⟨some t,.indexAddr u x y,ty,pos,aft,gd⟩::l) (aD n fr) h K:=xS (aGc hx hy (iaS hn T.h D.h hs hi)) q hg
theorem xiB {α:Type}{E:α→V}{ml:List α}{r:α}{N' sz by_:Nat}{zz:Value} [T:TiC P u ⟨.array N' e,sz,by_,zz⟩] [D:TiC P e di] (hx:bU n fr x=some (.ptr o 0)) (hy:bU n fr y=some (eI k j)) {e':Nat} (hb:h[o]? =some (some ⟨e',ml.map E⟩)) (hi:bK N' ml j=some r) (hs:di.size=1) (hg:Gd ops n fr gd) (q:OpsX P N m ops l (aD n ((t,.ptr o j.toNat)::fr)) h K):OpsX P N m ops (⟨some t,.indexAddr u x y,ty,pos,aft,gd⟩::l) (aD n fr) h K:=xS (aGc hx hy (iaB T.h D.h hs hi)) q hg
theorem xVv {jj ww:Nat}{want:Bool}(hj:(ops[jj]?).bind (·.dst)=some ww)(hl:bU n fr (.tmp ww)=some (.sc undef))(q:OpsX P N m ops l (aD n ((t,.sc undef)::fr)) h K):OpsX P N m ops (⟨some t,op,ty,pos,aft,some (jj,want)⟩::l) (aD n fr) h K:=xS0 (svU hj hl) q
theorem xXx {jj ww:Nat}{want:Bool}(hj:(ops[jj]?).bind (·.dst)=some ww)(hl:bU n fr (.tmp ww)=some (.sc (.bool c)))(hc:c= !want)(q:OpsX P N m ops l (aD n ((t,.sc undef)::fr)) h K):OpsX P N m ops (⟨some t,op,ty,pos,aft,some (jj,want)⟩::l) (aD n fr) h K:=xS0 (svX hj hl hc) q
def aR5 :List Oper→Bool
 | []=>true
 |o::l=>(match o.guard,o.op with
  |none,.pick _ _ _=>false
  |none,_=>true
  |some _,_=>false)&&aR5 l
theorem xqn {cc:Code}{id:Nat}(hn:aR5 l=true)(hr:OpsX P N none l.toArray l s h (Ex.then (AB P N cc Q) Q .normal)):AB P N (.seq (.region id l.toArray false) cc) Q s h:=xq hr
theorem xrn {id:Nat}(hn:aR5 l=true)(hr:OpsX P N none l.toArray l s h (Q .normal)):AB P N (.region id l.toArray false) Q s h:=xr hr
theorem xsA {α:Type}{E:α→V}{ml mm:List α}{N' sz by_ i':Nat}{zz:Value} [T:TiC P u ⟨.array N' e,sz,by_,zz⟩] (hx:bU n fr x=some (.ptr o 0)) (hb:h[o]? =some (some ⟨i',ml.map E⟩)) (hy:bU n fr y=some (.agg (mm.map E))) (hz:sz=N') (hE: ∀x,(E x).one=true) (h1:ml.length=N') (h2:mm.length=N') (hh:LSet h o (some ⟨i',mm.map E⟩) h') (hg:Gd ops n fr gd) (q:OpsX P N m ops l (aD n fr) h' K):OpsX P N m ops (⟨none,.store u x y,ty,pos,aft,gd⟩::l) (aD n fr) h K:=xN (v:= .sc undef) (h':=h') (aHX hx hy (stA T.h hz hb hE h1 h2 hh.eq)) q hg
theorem xs [T:TiC P u ti] (hx:bU n fr x=some (.ptr o p)) (hy:bU n fr y=some v) (hb:h[o]? =some (some ⟨e,cs⟩)) {es fs:List V} (hv:Cel v es) (h1:es.length=ti.size) (h2:aY6 (p+ti.size) cs.length=true) (hs:Spl cs p es fs) (hh:LSet h o (some ⟨e,fs⟩) h') (hg:Gd ops n fr gd) (q:OpsX P N m ops l (aD n fr) h' K):OpsX P N m ops (⟨none,.store u x y,ty,pos,aft,gd⟩::l) (aD n fr) h K:=by
 obtain⟨hv1,hv2⟩:=hv.eq
 refine xN (v:= .sc undef) (h':=h') (aHX hx hy (stP T.h hb hv2 (by rw[hv1,h1]) (aYV h2) ?_)) q hg
 rw[hv1,hs.eq,hh.eq]
theorem xsX {α:Type}{E:α→V}{ml:List α}{r r':α} [T:TiC P u ti] (hx:bU n fr x=some (.ptr o j.toNat)) (hb:h[o]? =some (some ⟨e,ml.map E⟩)) (hy:bU n fr y=some (E r')) (hz:ti.size=1) (hi:bM ml j=some r) (ho:(E r').one=true) (hc:(E r').cells=[E r']) (hh:LSet h o (some ⟨e,(ml.set j.toNat r').map E⟩) h') (hg:Gd ops n fr gd) (q:OpsX P N m ops l (aD n fr) h' K):OpsX P N m ops (⟨none,.store u x y,ty,pos,aft,gd⟩::l) (aD n fr) h K:=xN (v:= .sc undef) (h':=h') (aHX hx hy (aX2 T.h hz hb hi ho hc hh.eq)) q hg
theorem xal {r:Nat} [A:NoA P e] [T:TiC P e ti] (hz:Zro ti.zero cs) (hh:Snoc h (some ⟨e,cs⟩) h') (hl:h.length=r) (hg:Gd ops n fr gd) (q:OpsX P N m ops l (aD n ((t,.ptr r 0)::fr)) h' K):OpsX P N m ops (⟨some t,.alloc e,ty,pos,aft,gd⟩::l) (aD n fr) h K:=
 xS (aKC T.h (by rw[hz.eq.1];exact hz.eq.2) hl (by rw[hz.eq.1];exact hh.eq)) q hg
theorem aYh {r:Nat} [Z:ZrA P e cs] (hh:Snoc h (some ⟨e,cs⟩) h') (hl:h.length=r) (hg:Gd ops n fr gd) (q:OpsX P N m ops l (aD n ((t,.ptr r 0)::fr)) h' K):OpsX P N m ops (⟨some t,.alloc e,ty,pos,aft,gd⟩::l) (aD n fr) h K:=by
 obtain⟨d,h1,h2,h3⟩:=Z.h
 exact xS (aKC h1 (by rw[h2];exact h3) hl (by rw[h2];exact hh.eq)) q hg
theorem aYp {r N' sz by_ sz' by':Nat}{k':IntKind}{e':TypeId}{vs:List Value}{z':Value} [T:TiC P e ⟨.array N' e',sz,by_,.agg vs.toArray⟩] [D:TiC P e' ⟨.int k',sz',by',z'⟩] (hz:vs.map eD=(aY0 N' 0).map (eI k')) (hh:Snoc h (some ⟨e,(aY0 N' 0).map (eI k')⟩) h') (hl:h.length=r) (hg:Gd ops n fr gd) (q:OpsX P N m ops l (aD n ((t,.ptr r 0)::fr)) h' K):OpsX P N m ops (⟨some t,.alloc e,ty,pos,aft,gd⟩::l) (aD n fr) h K:=
 xS (aKC T.h (by
  have e1:(TI.zero ⟨.array N' e',sz,by_,.agg vs.toArray⟩).cells.toList.map eD=(aY0 N' 0).map (eI k'):=hz
  rw[e1];exact all_map (fun _=>rfl) _) hl (by
  have e1:(TI.zero ⟨.array N' e',sz,by_,.agg vs.toArray⟩).cells.toList.map eD=(aY0 N' 0).map (eI k'):=hz
  rw[e1];exact hh.eq)) q hg
theorem xbx {r:Nat}(hx:bU n fr x=some a)(hv:Cel a cs)(hh:Snoc h (some ⟨e,cs⟩) h')(hl:h.length=r)(hg:Gd ops n fr gd)(q:OpsX P N m ops l (aD n ((t,.ptr r 0)::fr)) h' K):OpsX P N m ops (⟨some t,.box e x,ty,pos,aft,gd⟩::l) (aD n fr) h K:=
 xS (aXy hx hv.eq.2 hl (by rw[hv.eq.1];exact hh.eq)) q hg
theorem xbd {fs:Array Field}{sz by_:Nat}{zz:Value}{pl:Array (Nat×Nat)}{ps:List (Nat×Operand)}{xs:List (Nat×V)} [T:TiC P u ⟨.struct fs,sz,by_,zz⟩] [L:PlC P u pl] [A:NoA P u] (hp:aFp n fr ps=some xs) (hz:Zro zz cs) (hf:Fil pl cs xs ds) (hg:Gd ops n fr gd) (q:OpsX P N m ops l (aD n ((t,.agg ds)::fr)) h K):OpsX P N m ops (⟨some t,.build u ps.toArray,ty,pos,aft,gd⟩::l) (aD n fr) h K:=
 xS (bV hp (iZ T.h L.h (by rw[hz.eq.1];exact hf.eq))) q hg
theorem xfd {fs:Array Field}{sz by_ f:Nat}{zz:Value}{fl:Field} [T:TiC P u ⟨.struct fs,sz,by_,zz⟩] [D:TiC P fl.type di] (hx:bU n fr x=some (.agg cs)) (hf:fs[f]? =some fl) (hd:b7 di.desc=false) (hc:(cs.drop fl.offset).head? =some v) (hg:Gd ops n fr gd) (q:OpsX P N m ops l (aD n ((t,v)::fr)) h K):OpsX P N m ops (⟨some t,.field u x f,ty,pos,aft,gd⟩::l) (aD n fr) h K:=xS (aXN hx (aYC T.h hf (sV D.h hd hc))) q hg
theorem xpT (hz:bU n fr z=some (eB c))(hc:c=true)(hx:bU n fr x=some a)(hg:Gd ops n fr gd)(q:OpsX P N m ops l (aD n ((t,a)::fr)) h K):OpsX P N m ops (⟨some t,.pick z x y,ty,pos,aft,gd⟩::l) (aD n fr) h K:=xS (aUv hz hc hx) q hg
theorem xpF (hz:bU n fr z=some (eB c))(hc:c=false)(hy:bU n fr y=some a)(hg:Gd ops n fr gd)(q:OpsX P N m ops l (aD n ((t,a)::fr)) h K):OpsX P N m ops (⟨some t,.pick z x y,ty,pos,aft,gd⟩::l) (aD n fr) h K:=xS (aUY hz hc hy) q hg
inductive NumK (k:IntKind):Nat→List (Nat×V)→List Int→Prop
 |n {i:Nat}:NumK k i [] []
 |c {i:Nat} {x:Int} {ps:List (Nat×V)} {xs:List Int}:NumK k (i+1) ps xs→NumK k i ((i,eI k x)::ps) (x::xs)
theorem NumK.eq {k:IntKind}{i:Nat}{ps:List (Nat×V)}{xs:List Int}(h:NumK k i ps xs):uG i (xs.map (eI k))=ps:=by
 induction h with
 |n=>rfl
 |c _ ih=>simp only[aY5,uG];rw[ih]
inductive NumB :Nat→List (Nat×V)→List Bool→Prop
 |n {i:Nat}:NumB i [] []
 |c {i:Nat} {x:Bool} {ps:List (Nat×V)} {xs:List Bool}:NumB (i+1) ps xs→NumB i ((i,eB x)::ps) (x::xs)
theorem NumB.eq {i:Nat}{ps:List (Nat×V)}{xs:List Bool}(h:NumB i ps xs):uG i (xs.map eB)=ps:=by
 induction h with
 |n=>rfl
 |c _ ih=>simp only[aY5,uG];rw[ih]
inductive NumR {α:Type}(kk:Nat)(E:α→V):Nat→List (Nat×V)→List (List α)→Prop
 |n {i:Nat}:NumR kk E i [] []
 |c {i:Nat} {x:List α} {ps:List (Nat×V)} {xs:List (List α)}:NumR kk E (i+1) ps xs→NumR kk E i ((i,.row none kk (x.map E))::ps) (x::xs)
 |z {i:Nat} {ps:List (Nat×V)} {xs:List (List α)}:NumR kk E (i+1) ps xs→NumR kk E i ((i,.row none kk [])::ps) ([]::xs)
theorem NumR.eq {α:Type}{kk:Nat}{E:α→V}{i:Nat}{ps:List (Nat×V)}{xs:List (List α)}(h:NumR kk E i ps xs):uG i (xs.map (eL kk E))=ps:=by
 induction h with
 |n=>rfl
 |z _ ih=>simp only[aY5,uG];rw[ih];rfl
 |c _ ih=>simp only[aY5,uG];rw[ih]
theorem aYR {α:Type}{E:α→V}(hE: ∀x,(E x).one=true)(hc: ∀x,(E x).cells=[E x])(xs:List α):(xs.map E).all (fun x=>x.one&&(x.cells.length == 1))=true:=by
 simp[aY9,hE,hc]
theorem aS5 {α:Type}{E:α→V}{js:List α}{len sz by_ r:Nat}{zz:Value}{ps:List (Nat×Operand)}{xs:List (Nat×V)} [T:TiC P u ⟨.slice e,sz,by_,zz⟩] [D:TiC P e di] (hp:vY n fr ps=some xs) (hn:uG 0 (js.map E)=xs) (hE: ∀x,(E x).one=true) (hc: ∀x,(E x).cells=[E x]) (hs:di.size=1) {ag:Bool} (ha:b7 di.desc=ag) (h1:aY6 (len*1) (2^24)=true) (h2:aY6 1 len=true) (hlen:js.length=len) (hh:Snoc h (some ⟨e,js.map E⟩) h') (hl:h.length=r) (hg:Gd ops n fr gd) (q:OpsX P N m ops l (aD n ((t,.sl r 0 len 1 ag)::fr)) h' K):OpsX P N m ops (⟨some t,.buildSlice u len ps.toArray,ty,pos,aft,gd⟩::l) (aD n fr) h K:=
 xS (aCj hp (aXq T.h D.h (aYV h1) (aYV h2) hs ha hn (aYR hE hc _) (by rw[aZn];exact hlen) hl hh.eq)) q hg
theorem dQ {α:Type}(C:α→List V)(k:Nat)(xs:List α){len sz by_ r:Nat}{zz:Value}{ps:List (Nat×Operand)}{ps0:List (Nat×V)} [T:TiC P u ⟨.slice e,sz,by_,zz⟩] [D:TiC P e di] (q:OpsX P N m ops l (aD n ((t,.sl r 0 len k true)::fr)) h' K) (hp:vY n fr ps=some ps0:=by rfl) (hn:uG 0 (xs.map fun x=>V.agg (C x))=ps0:=by rfl) (hC: ∀x,(C x).length=k:=by exact fun _=>rfl) (h1C: ∀x,(C x).all V.one=true:=by exact fun _=>rfl)
  (h1:(Nat.ble (len*k) (2^24)&&Nat.ble 1 len&&Nat.ble 1 k)=true:=by rfl) (hK:di.size=k:=by rfl) (hag:b7 di.desc=true:=by rfl) (hlen:xs.length=len:=by rfl) (hh:Snoc h (some ⟨e,xs.flatMap C⟩) h':=by(repeat (first|exact Snoc.n|apply Snoc.c))) (hl:h.length=r:=by first|exact(by simp only[List.length_cons,List.length_nil,Nat.zero_add,Nat.reduceAdd]<;>rfl)|exact rfl) (hg:Gd ops n fr gd:=by exact gD):OpsX P N m ops (⟨some t,.buildSlice u len ps.toArray,ty,pos,aft,gd⟩::l) (aD n fr) h K:=by
 simp only[Bool.and_eq_true]at h1
 exact xS (aCj hp (aJ1 hC h1C T.h D.h ⟨Nat.le_of_ble_eq_true h1.1.1,Nat.le_of_ble_eq_true h1.1.2,Nat.le_of_ble_eq_true h1.2⟩ hK hag hn hlen hl hh.eq)) q hg
theorem aYS {js:List Int}{len sz by_ r sz' by':Nat}{zz z':Value}{ps:List (Nat×Operand)}{xs:List (Nat×V)} [T:TiC P u ⟨.slice e,sz,by_,zz⟩] [D:TiC P e ⟨.int k,sz',by',z'⟩] (hp:vY n fr ps=some xs) (hn:NumK k 0 xs js) (hs:sz'=1) (h1:aY6 (len*1) (2^24)=true) (h2:aY6 1 len=true) (hlen:js.length=len) (hh:Snoc h (some ⟨e,js.map (eI k)⟩) h') (hl:h.length=r) (hg:Gd ops n fr gd) (q:OpsX P N m ops l (aD n ((t,.sl r 0 len 1 false)::fr)) h' K):OpsX P N m ops (⟨some t,.buildSlice u len ps.toArray,ty,pos,aft,gd⟩::l) (aD n fr) h K:=aS5 (ag:=false) hp hn.eq (fun _=>rfl) (fun _=>rfl) hs rfl h1 h2 hlen hh hl hg q
theorem aYg {js:List Bool}{len sz by_ r sz' by':Nat}{zz z':Value}{ps:List (Nat×Operand)}{xs:List (Nat×V)} [T:TiC P u ⟨.slice e,sz,by_,zz⟩] [D:TiC P e ⟨.bool,sz',by',z'⟩] (hp:vY n fr ps=some xs) (hn:NumB 0 xs js) (hs:sz'=1) (h1:aY6 (len*1) (2^24)=true) (h2:aY6 1 len=true) (hlen:js.length=len) (hh:Snoc h (some ⟨e,js.map eB⟩) h') (hl:h.length=r) (hg:Gd ops n fr gd) (q:OpsX P N m ops l (aD n ((t,.sl r 0 len 1 false)::fr)) h' K):OpsX P N m ops (⟨some t,.buildSlice u len ps.toArray,ty,pos,aft,gd⟩::l) (aD n fr) h K:=aS5 (ag:=false) hp hn.eq (fun _=>rfl) (fun _=>rfl) hs rfl h1 h2 hlen hh hl hg q
theorem aYt {α:Type}{E:α→V}{kk:Nat}{js:List (List α)}{len sz by_ r sz' by':Nat}{zz z':Value}{e':TypeId}{ps:List (Nat×Operand)}{xs:List (Nat×V)} [T:TiC P u ⟨.slice e,sz,by_,zz⟩] [D:TiC P e ⟨.slice e',sz',by',z'⟩] (hp:vY n fr ps=some xs) (hn:NumR kk E 0 xs js) (hs:sz'=1) (h1:aY6 (len*1) (2^24)=true) (h2:aY6 1 len=true) (hlen:js.length=len) (hh:Snoc h (some ⟨e,js.map (eL kk E)⟩) h') (hl:h.length=r) (hg:Gd ops n fr gd) (q:OpsX P N m ops l (aD n ((t,.sl r 0 len 1 false)::fr)) h' K):OpsX P N m ops (⟨some t,.buildSlice u len ps.toArray,ty,pos,aft,gd⟩::l) (aD n fr) h K:=aS5 (ag:=false) hp hn.eq (fun _=>rfl) (fun _=>rfl) hs rfl h1 h2 hlen hh hl hg q
theorem aYq {k':IntKind}{r:Int}(hx:bU n fr x=some (eI k i))(hy:bU n fr y=some (eI k' j))(hv:shl k i j=some r)(hg:Gd ops n fr gd)(q:OpsX P N m ops l (aD n ((t,eI k r)::fr)) h K):OpsX P N m ops (⟨some t,.binOp .shl u x y w,ty,pos,aft,gd⟩::l) (aD n fr) h K:=xS (jF hx hy (aSq _ _ _ _ hv)) q hg
theorem aYk {k':IntKind}{r:Int}(hx:bU n fr x=some (eI k i))(hy:bU n fr y=some (eI k' j))(hv:shr k i j=some r)(hg:Gd ops n fr gd)(q:OpsX P N m ops l (aD n ((t,eI k r)::fr)) h K):OpsX P N m ops (⟨some t,.binOp .shr u x y w,ty,pos,aft,gd⟩::l) (aD n fr) h K:=xS (jF hx hy (aSw _ _ _ _ hv)) q hg
theorem aYT {r:Int}(hx:bU n fr x=some (eI k i))(hy:bU n fr y=some (eI k j))(hv:quo k i j=some r)(hg:Gd ops n fr gd)(q:OpsX P N m ops l (aD n ((t,eI k r)::fr)) h K):OpsX P N m ops (⟨some t,.binOp .quo u x y w,ty,pos,aft,gd⟩::l) (aD n fr) h K:=xS (jF hx hy (aTl _ _ _ _ hv)) q hg
theorem aYJ {r:Int}(hx:bU n fr x=some (eI k i))(hy:bU n fr y=some (eI k j))(hv:rem i j=some r)(hg:Gd ops n fr gd)(q:OpsX P N m ops l (aD n ((t,eI k r)::fr)) h K):OpsX P N m ops (⟨some t,.binOp .rem u x y w,ty,pos,aft,gd⟩::l) (aD n fr) h K:=xS (jF hx hy (aTa _ _ _ _ hv)) q hg
class DepC (P:Program):Prop where
 h:2≤P.depth
theorem xeA {k':IntKind}{N' sz by_ sz' by':Nat}{zz z':Value}{ml mm:List Int} [A:DepC P] [T:TiC P u ⟨.array N' e,sz,by_,zz⟩] [D:TiC P e ⟨.int k',sz',by',z'⟩] (hx:bU n fr x=some (.agg (ml.map (eI k)))) (hy:bU n fr y=some (.agg (mm.map (eI k)))) (hz:sz'=1) (h1:ml.length=N') (h2:mm.length=N') (hg:Gd ops n fr gd) (q:OpsX P N m ops l (aD n ((t,eB (ml == mm))::fr)) h K):OpsX P N m ops (⟨some t,.binOp .eql u x y w,ty,pos,aft,gd⟩::l) (aD n fr) h K:=xS (jF hx hy (aTn _ _ T.h D.h hz A.h h1 h2)) q hg
theorem xnA {k':IntKind}{N' sz by_ sz' by':Nat}{zz z':Value}{ml mm:List Int} [A:DepC P] [T:TiC P u ⟨.array N' e,sz,by_,zz⟩] [D:TiC P e ⟨.int k',sz',by',z'⟩] (hx:bU n fr x=some (.agg (ml.map (eI k)))) (hy:bU n fr y=some (.agg (mm.map (eI k)))) (hz:sz'=1) (h1:ml.length=N') (h2:mm.length=N') (hg:Gd ops n fr gd) (q:OpsX P N m ops l (aD n ((t,eB (!(ml == mm)))::fr)) h K):OpsX P N m ops (⟨some t,.binOp .neq u x y w,ty,pos,aft,gd⟩::l) (aD n fr) h K:=xS (jF hx hy (aTi _ _ T.h D.h hz A.h h1 h2)) q hg
theorem xsR {α:Type}{E:α→V}{ml r:List α}{nl:Option Bool}{sz by_:Nat}{zz:Value}{lo hi:Option Operand}{vl vh:Option V}{c1 c2:Int} [T:TiC P u ⟨.slice e,sz,by_,zz⟩] [D:TiC P e di] (hx:bU n fr x=some (.row nl o (ml.map E))) (h1:aHc n fr lo=some vl) (h2:aHc n fr hi=some vh) (ha:nX vl=some c1) (hb:wA vh ml.length=some c2) (hs:sub ml c1 c2=some r) (ho:di.size=o) {nl':Option Bool} (hq:nlS nl=nl') (hg:Gd ops n fr gd) (q:OpsX P N m ops l (aD n ((t,.row nl' o (r.map E))::fr)) h K):OpsX P N m ops (⟨some t,.slice u x lo hi none,ty,pos,aft,gd⟩::l) (aD n fr) h K:=by
 subst ho hq;exact xS (vO hx h1 h2 (slR T.h D.h ha hb hs)) q hg
theorem xsM {α:Type}{E:α→V}{ml r:List α}{nl:Option Bool}{sz by_:Nat}{zz:Value}{lo:Option Operand}{hi mx:Operand}{vl:Option V}{c1 c2:Int}{k1 k2:IntKind} [T:TiC P u ⟨.slice e,sz,by_,zz⟩] [D:TiC P e di] (hx:bU n fr x=some (.row nl o (ml.map E))) (h1:aHc n fr lo=some vl) (ha:nX vl=some c1) (h2:bU n fr hi=some (eI k1 c2)) (h3:bU n fr mx=some (eI k2 c2)) (hs:sub ml c1 c2=some r) (ho:di.size=o) (hg:Gd ops n fr gd) (q:OpsX P N m ops l (aD n ((t,.row (some false) o (r.map E))::fr)) h K):OpsX P N m ops (⟨some t,.slice u x lo (some hi) (some mx),ty,pos,aft,gd⟩::l) (aD n fr) h K:=by
 subst ho;exact xS (aM7 hx h1 h2 h3 (slM T.h D.h ha hs)) q hg
theorem xsE {α:Type}{E:α→V}{ml:List α}{N' sz by_:Nat}{zz:Value} [T:TiC P u ⟨.array N' e,sz,by_,zz⟩] [D:TiC P e di] (hx:bU n fr x=some (.eptr [.agg (ml.map E)] 0 0)) (hs:di.size=1) (ha:b7 di.desc=false) (h1:ml.length=N') (h2:aY6 1 N'=true) (hg:Gd ops n fr gd) (q:OpsX P N m ops l (aD n ((t,.row none 1 (ml.map E))::fr)) h K):OpsX P N m ops (⟨some t,.slice u x none none none,ty,pos,aft,gd⟩::l) (aD n fr) h K:=xS (vO hx rfl rfl (slE T.h D.h hs ha h1 (aYV h2))) q hg
theorem xsL {α:Type}{E:α→V}{ml:List α}{N' sz by_ i':Nat}{zz:Value}{ag:Bool} [T:TiC P u ⟨.array N' e,sz,by_,zz⟩] [D:TiC P e di] (hx:bU n fr x=some (.ptr o 0)) (hb:h[o]? =some (some ⟨i',ml.map E⟩)) (hs:di.size=1) (ha:b7 di.desc=ag) (h1:ml.length=N') (h2:aY6 1 N'=true) (h3:aY6 N' lim=true) (hg:Gd ops n fr gd) (q:OpsX P N m ops l (aD n ((t,.sl o 0 N' 1 ag)::fr)) h K):OpsX P N m ops (⟨some t,.slice u x none none none,ty,pos,aft,gd⟩::l) (aD n fr) h K:=xS (vO hx rfl rfl (slA T.h D.h hs ha hb h1 ⟨aYV h2,aYV h3⟩)) q hg
theorem xiK {α:Type}{C:α→List V}{ml:List α}{r:α}{q0 sz by_ e':Nat}{zz:Value} [T:TiC P u ⟨.slice e,sz,by_,zz⟩] [D:TiC P e di] (hx:bU n fr x=some (.sl o 0 q0 p true)) (hy:bU n fr y=some (eI k j)) (hb:h[o]? =some (some ⟨e',ml.flatMap C⟩)) (hi:bM ml j=some r) (hn:ml.length=q0) (hs:di.size=p) (hg:Gd ops n fr gd) (q:OpsX P N m ops l (aD n ((t,.ptr o (0+j.toNat*p))::fr)) h K):OpsX P N m ops (⟨some t,.indexAddr u x y,ty,pos,aft,gd⟩::l) (aD n fr) h K:=xS (aGc hx hy (aXX hn T.h D.h hs hi)) q hg
inductive Sr1 {α:Type}(E:α→V)(h:Hp):V→List α→Prop
 |r {nl:Option Bool} {ml:List α}:(∀x,(E x).cells=[E x])→Sr1 E h (.row nl 1 (ml.map E)) ml
 |s {b q e:Nat} {ag:Bool} {ml:List α}:h[b]? =some (some ⟨e,ml.map E⟩)→ml.length=q→Sr1 E h (.sl b 0 q 1 ag) ml
 |n {nl:Option Bool} {k:Nat}:Sr1 E h (.row nl k []) []
theorem Sr1.eq {α:Type}{E:α→V}{h:Hp}{v:V}{ml:List α}(hs:Sr1 E h v ml):fZ h 1 v=some (ml.map E,ml.length):=by
 cases hs with
 |r hE=>exact aK3 hE
 |s hb hq=>exact aW0 hq hb
 |n=>exact aYF
inductive SrK {α:Type}(C:α→List V)(K:Nat)(h:Hp):V→List α→Prop
 |r {nl:Option Bool} {ml:List α}:SrK C K h (.row nl K (ml.map fun x=>V.agg (C x))) ml
 |s {b q e:Nat} {ml:List α}:h[b]? =some (some ⟨e,ml.flatMap C⟩)→(∀x,(C x).length=K)→ml.length=q→SrK C K h (.sl b 0 q K true) ml
 |n {nl:Option Bool} {k:Nat}:SrK C K h (.row nl k []) []
theorem SrK.eq {α:Type}{C:α→List V}{K:Nat}{h:Hp}{v:V}{ml:List α}(hs:SrK C K h v ml):fZ h K v=some (ml.flatMap C,ml.length):=by
 cases hs with
 |r=>exact aT1
 |s hb hC hq=>exact aW7 hC hq hb
 |n=>exact aXa
theorem xap {α:Type}{E:α→V}{ml mm r:List α}{q0 sz by_ r0:Nat}{zz:Value}{ag:Bool}{h2:Hp} [T:TiC P u ⟨.slice e,sz,by_,zz⟩] [D:TiC P e di] (hx:bU n fr x=some (.sl o 0 q0 1 ag)) (hy:bU n fr y=some v) (hb:h[o]? =some (some ⟨e,ml.map E⟩)) (hs:Sr1 E h v mm) (hn:ml.length=q0) (h1:di.zero.cells.size=1) (h3:di.size=1) (h4:aY6 1 di.bytes=true) {bb:Nat} (hbb:di.bytes=bb) (ha:cZ bb ml mm=some r) (hh:LSet h o none h2) (hh':Snoc h2 (some ⟨e,r.map E⟩) h') (hl:h.length=r0) (hg:Gd ops n fr gd) (q:OpsX P N m ops l (aD n ((t,.sl r0 0 r.length 1 ag)::fr)) h' K):OpsX P N m ops (⟨some t,.call ⟨.builtin .append,#[x,y],#[u,u]⟩,ty,pos,aft,gd⟩::l) (aD n fr) h K:=by
 subst hbb;exact xS (uX hx hy (hH hn T.h D.h ⟨h1,h3,aYV h4⟩ hb hs.eq ha hl (by rw[hh.eq,hh'.eq]))) q hg
theorem xan {α:Type}{E:α→V}{mm r:List α}{sz by_ r0 kk:Nat}{zz:Value}{ag:Bool}{h2:Hp} [T:TiC P u ⟨.slice e,sz,by_,zz⟩] [D:TiC P e di] (hx:bU n fr x=some (.row (some true) kk [])) (hy:bU n fr y=some v) (hs:Sr1 E h v mm) (h1:di.zero.cells.size=1) (h3:di.size=1) (h4:aY6 1 di.bytes=true) (hag:b7 di.desc=ag) {bb:Nat} (hbb:di.bytes=bb) (ha:cZ bb [] mm=some r) (hh:Snoc h none h2) (hh':Snoc h2 (some ⟨e,r.map E⟩) h') (hl:h2.length=r0) (hg:Gd ops n fr gd) (q:OpsX P N m ops l (aD n ((t,.sl r0 0 r.length 1 ag)::fr)) h' K):OpsX P N m ops (⟨some t,.call ⟨.builtin .append,#[x,y],#[u,u]⟩,ty,pos,aft,gd⟩::l) (aD n fr) h K:=by
 subst hbb;exact xS (uX hx hy (aYB T.h D.h ⟨h1,h3,aYV h4⟩ hs.eq hag ha (by rw[←hl,←hh.eq];simp) (by rw[hh.eq,hh'.eq]))) q hg
theorem xaf {α:Type}{E:α→V}{ml mm r:List α}{sz by_ r0:Nat}{zz:Value}{ag:Bool} [T:TiC P u ⟨.slice e,sz,by_,zz⟩] [D:TiC P e di] (hx:bU n fr x=some (.row (some false) 1 (ml.map E))) (hy:bU n fr y=some v) (hE: ∀x,(E x).cells=[E x]) (hs:Sr1 E h v mm) (hm:aY6 1 mm.length=true) (h1:di.zero.cells.size=1) (h3:di.size=1) (h4:aY6 1 di.bytes=true) (hag:b7 di.desc=ag) {bb:Nat} (hbb:di.bytes=bb) (ha:cZ bb ml mm=some r) (hh:Snoc h (some ⟨e,r.map E⟩) h') (hl:h.length=r0) (hg:Gd ops n fr gd) (q:OpsX P N m ops l (aD n ((t,.sl r0 0 r.length 1 ag)::fr)) h' K):OpsX P N m ops (⟨some t,.call ⟨.builtin .append,#[x,y],#[u,u]⟩,ty,pos,aft,gd⟩::l) (aD n fr) h K:=by
 subst hbb;exact xS (uX hx hy (aVL T.h D.h ⟨h1,h3,aYV h4⟩ hE hs.eq (aYV hm) hag ha hl (by rw[hh.eq]))) q hg
theorem aYx {α:Type}{C:α→List V}{ml mm r:List α}{q0 sz by_ r0:Nat}{zz:Value}{h2:Hp} [T:TiC P u ⟨.slice e,sz,by_,zz⟩] [D:TiC P e di] (hx:bU n fr x=some (.sl o 0 q0 p true)) (hy:bU n fr y=some v) (hb:h[o]? =some (some ⟨e,ml.flatMap C⟩)) (hC: ∀x,(C x).length=p) (hs:SrK C p h v mm) (hn:ml.length=q0) (h1:di.zero.cells.size=p) (h3:di.size=p) (h4:aY6 1 di.bytes=true) (h5:aY6 1 p=true) {bb:Nat} (hbb:di.bytes=bb) (ha:cZ bb ml mm=some r) (hh:LSet h o none h2) (hh':Snoc h2 (some ⟨e,r.flatMap C⟩) h') (hl:h.length=r0) (hg:Gd ops n fr gd) (q:OpsX P N m ops l (aD n ((t,.sl r0 0 r.length p true)::fr)) h' K):OpsX P N m ops (⟨some t,.call ⟨.builtin .append,#[x,y],#[u,u]⟩,ty,pos,aft,gd⟩::l) (aD n fr) h K:=by
 subst hbb;exact xS (uX hx hy (aXr hC hn T.h D.h ⟨h1,h3,aYV h4,aYV h5⟩ hb hs.eq ha hl (by rw[hh.eq,hh'.eq]))) q hg
theorem aYv {α:Type}{C:α→List V}{mm r:List α}{sz by_ r0 kk:Nat}{zz:Value}{h2:Hp} [T:TiC P u ⟨.slice e,sz,by_,zz⟩] [D:TiC P e di] (hx:bU n fr x=some (.row (some true) kk [])) (hy:bU n fr y=some v) (hs:SrK C p h v mm) (h1:di.zero.cells.size=p) (h3:di.size=p) (h4:aY6 1 di.bytes=true) (h5:aY6 1 p=true) (hag:b7 di.desc=true) {bb:Nat} (hbb:di.bytes=bb) (ha:cZ bb [] mm=some r) (hh:Snoc h none h2) (hh':Snoc h2 (some ⟨e,r.flatMap C⟩) h') (hl:h2.length=r0) (hg:Gd ops n fr gd) (q:OpsX P N m ops l (aD n ((t,.sl r0 0 r.length p true)::fr)) h' K):OpsX P N m ops (⟨some t,.call ⟨.builtin .append,#[x,y],#[u,u]⟩,ty,pos,aft,gd⟩::l) (aD n fr) h K:=by
 subst hbb;exact xS (uX hx hy (aW8 T.h D.h ⟨h1,h3,aYV h4,aYV h5⟩ hs.eq hag ha (by rw[←hl,←hh.eq];simp) (by rw[hh.eq,hh'.eq]))) q hg
end
structure aYu (q:Prop):Prop where
 h:q
section
variable {P:Program}{N n t:Nat}{m:Option (List Nat×List Nat)}{ops:Array Oper}{l:List Oper}{h:Hp}{K:List V→Hp→Prop}{op:Op}{ty:TypeId}{pos:String}{aft:Array Edge}{gd:Option (Nat×Bool)}{x y z:Operand}{Q:Ex→List V→Hp→Prop}{s:List V}{o e:Nat}{u w:TypeId}{bo:BinOp}{ob:Oper}{c:Code}{ws:List Operand}{ts:Array TypeId}{ps:List (Nat×Operand)}{lo hi:Option Operand}{hj mj:Operand}
theorem isX (k:OpsX P N m ops (ob::l) s h K):OpsX P N m ops (ob::l) s h K:=k
theorem isA (k:AB P N c Q s h):AB P N c Q s h:=k
theorem aUW (k:OpsX P N m ops (⟨some t,.call ⟨.builtin .len,ws.toArray,ts⟩,ty,pos,aft,gd⟩::l) s h K):OpsX P N m ops (⟨some t,.call ⟨.builtin .len,ws.toArray,ts⟩,ty,pos,aft,gd⟩::l) s h K:=k
theorem aV4 (k:OpsX P N m ops (⟨some t,.call ⟨.builtin .append,ws.toArray,ts⟩,ty,pos,aft,gd⟩::l) s h K):OpsX P N m ops (⟨some t,.call ⟨.builtin .append,ws.toArray,ts⟩,ty,pos,aft,gd⟩::l) s h K:=k
theorem aVh (k:OpsX P N m ops (⟨some t,.move x,ty,pos,aft,gd⟩::l) s h K):OpsX P N m ops (⟨some t,.move x,ty,pos,aft,gd⟩::l) s h K:=k
theorem aUI (k:OpsX P N m ops (⟨some t,.load u x,ty,pos,aft,gd⟩::l) s h K):OpsX P N m ops (⟨some t,.load u x,ty,pos,aft,gd⟩::l) s h K:=k
theorem aWZ (k:OpsX P N m ops (⟨some t,.binOp bo u x y w,ty,pos,aft,gd⟩::l) s h K):OpsX P N m ops (⟨some t,.binOp bo u x y w,ty,pos,aft,gd⟩::l) s h K:=k
theorem aXw (k:OpsX P N m ops (⟨some t,.fieldAddr u x o,ty,pos,aft,gd⟩::l) s h K):OpsX P N m ops (⟨some t,.fieldAddr u x o,ty,pos,aft,gd⟩::l) s h K:=k
theorem aVH (k:OpsX P N m ops (⟨some t,.assign x,ty,pos,aft,gd⟩::l) s h K):OpsX P N m ops (⟨some t,.assign x,ty,pos,aft,gd⟩::l) s h K:=k
theorem aXo (k:OpsX P N m ops (⟨some t,.indexAddr u x y,ty,pos,aft,gd⟩::l) s h K):OpsX P N m ops (⟨some t,.indexAddr u x y,ty,pos,aft,gd⟩::l) s h K:=k
theorem aXL (k:OpsX P N m ops (⟨none,.store u x y,ty,pos,aft,gd⟩::l) s h K):OpsX P N m ops (⟨none,.store u x y,ty,pos,aft,gd⟩::l) s h K:=k
theorem aXf (k:OpsX P N m ops (⟨some t,.alloc e,ty,pos,aft,gd⟩::l) s h K):OpsX P N m ops (⟨some t,.alloc e,ty,pos,aft,gd⟩::l) s h K:=k
theorem aXF (k:OpsX P N m ops (⟨some t,.buildSlice u o ps.toArray,ty,pos,aft,gd⟩::l) s h K):OpsX P N m ops (⟨some t,.buildSlice u o ps.toArray,ty,pos,aft,gd⟩::l) s h K:=k
theorem aXj (k:OpsX P N m ops (⟨some t,.slice u x lo (some hj) (some mj),ty,pos,aft,gd⟩::l) s h K):OpsX P N m ops (⟨some t,.slice u x lo (some hj) (some mj),ty,pos,aft,gd⟩::l) s h K:=k
theorem aXO (k:OpsX P N m ops (⟨some t,.slice u x lo hi none,ty,pos,aft,gd⟩::l) s h K):OpsX P N m ops (⟨some t,.slice u x lo hi none,ty,pos,aft,gd⟩::l) s h K:=k
theorem aXc (k:OpsX P N m ops (⟨some t,.pick x y z,ty,pos,aft,gd⟩::l) s h K):OpsX P N m ops (⟨some t,.pick x y z,ty,pos,aft,gd⟩::l) s h K:=k
theorem aXl (k:OpsX P N m ops (⟨some t,.nilCheck x,ty,pos,aft,gd⟩::l) s h K):OpsX P N m ops (⟨some t,.nilCheck x,ty,pos,aft,gd⟩::l) s h K:=k
end
theorem zz {p q:Prop}(k:q) (h:aYu q→p:=by(intro kk;(repeat (first|(apply isX;first|((with_reducible apply aUW);first|(apply xlR;exact rfl;(first|exact True.intro|exact⟨_,rfl,_,rfl,by assumption⟩))|(apply xlS;exact rfl;(first|exact True.intro|exact⟨_,rfl,_,rfl,by assumption⟩))|(apply xlT;exact rfl;(first|exact True.intro|exact⟨_,rfl,_,rfl,by assumption⟩)))|((with_reducible apply aV4);first|(apply xap;exact rfl;exact rfl;exact rfl;(first|exact Sr1.n|(apply Sr1.r;exact(fun _=>rfl))|(apply Sr1.s;exact rfl;(first|exact rfl|exact(by simp only[dA,dB,List.length_replicate];done)|exact bP (by assumption)|exact cV (by assumption))));(first|exact rfl|exact(by simp only[dA,dB,List.length_replicate];done)|exact bP (by assumption)|exact cV (by assumption));exact rfl;exact rfl;exact rfl;exact rfl;assumption;(repeat (first|exact LSet.z|apply LSet.s));(repeat (first|exact Snoc.n|apply Snoc.c));(first|exact(by simp only[List.length_cons,List.length_nil,Nat.zero_add,Nat.reduceAdd]<;>rfl)|exact rfl);(first|exact True.intro|exact⟨_,rfl,_,rfl,by assumption⟩))|(apply xan;exact rfl;exact rfl;(first|exact Sr1.n|(apply Sr1.r;exact(fun _=>rfl))|(apply Sr1.s;exact rfl;(first|exact rfl|exact(by simp only[dA,dB,List.length_replicate];done)|exact bP (by assumption)|exact cV (by assumption))));exact rfl;exact rfl;exact rfl;exact rfl;exact rfl;assumption;(repeat (first|exact Snoc.n|apply Snoc.c));(repeat (first|exact Snoc.n|apply Snoc.c));(first|exact(by simp only[List.length_cons,List.length_nil,Nat.zero_add,Nat.reduceAdd]<;>rfl)|exact rfl);(first|exact True.intro|exact⟨_,rfl,_,rfl,by assumption⟩))|(apply xaf;exact rfl;exact rfl;exact(fun _=>rfl);(first|exact Sr1.n|(apply Sr1.r;exact(fun _=>rfl))|(apply Sr1.s;exact rfl;(first|exact rfl|exact(by simp only[dA,dB,List.length_replicate];done)|exact bP (by assumption)|exact cV (by assumption))));(first|exact rfl);exact rfl;exact rfl;exact rfl;exact rfl;exact rfl;assumption;(repeat (first|exact Snoc.n|apply Snoc.c));(first|exact(by simp only[List.length_cons,List.length_nil,Nat.zero_add,Nat.reduceAdd]<;>rfl)|exact rfl);(first|exact True.intro|exact⟨_,rfl,_,rfl,by assumption⟩))|(apply aYx;exact rfl;exact rfl;exact rfl;exact(fun _=>rfl);(first|exact SrK.n|exact SrK.r|(apply SrK.s;exact rfl;exact(fun _=>rfl);(first|exact rfl|exact(by simp only[dA,dB,List.length_replicate];done)|exact bP (by assumption)|exact cV (by assumption))));(first|exact rfl|exact(by simp only[dA,dB,List.length_replicate];done)|exact bP (by assumption)|exact cV (by assumption));exact rfl;exact rfl;exact rfl;exact rfl;exact rfl;assumption;(repeat (first|exact LSet.z|apply LSet.s));(repeat (first|exact Snoc.n|apply Snoc.c));(first|exact(by simp only[List.length_cons,List.length_nil,Nat.zero_add,Nat.reduceAdd]<;>rfl)|exact rfl);(first|exact True.intro|exact⟨_,rfl,_,rfl,by assumption⟩))|(apply aYv;exact rfl;exact rfl;(first|exact SrK.n|exact SrK.r|(apply SrK.s;exact rfl;exact(fun _=>rfl);(first|exact rfl|exact(by simp only[dA,dB,List.length_replicate];done)|exact bP (by assumption)|exact cV (by assumption))));exact rfl;exact rfl;exact rfl;exact rfl;exact rfl;exact rfl;assumption;(repeat (first|exact Snoc.n|apply Snoc.c));(repeat (first|exact Snoc.n|apply Snoc.c));(first|exact(by simp only[List.length_cons,List.length_nil,Nat.zero_add,Nat.reduceAdd]<;>rfl)|exact rfl);(first|exact True.intro|exact⟨_,rfl,_,rfl,by assumption⟩)))|((with_reducible apply aVh);first|(apply xmc;(first|exact OfC.i|exact OfC.b|exact OfC.l|exact OfC.s|exact OfC.p);(first|exact True.intro|exact⟨_,rfl,_,rfl,by assumption⟩))|(apply xm;exact rfl;(first|exact True.intro|exact⟨_,rfl,_,rfl,by assumption⟩)))|((with_reducible apply aUI);first|(apply xl1;exact rfl;exact rfl;exact rfl;exact rfl;(first|exact True.intro|exact⟨_,rfl,_,rfl,by assumption⟩))|(apply aXV;exact rfl;exact rfl;(first|assumption|exact n5 (by assumption));exact rfl;(first|exact True.intro|exact⟨_,rfl,_,rfl,by assumption⟩))|(apply xlX;exact rfl;exact rfl;exact rfl;(first|assumption|exact n5 (by assumption));(first|exact True.intro|exact⟨_,rfl,_,rfl,by assumption⟩))|(apply xlN;exact rfl;exact rfl;(first|exact Tak.w rfl|(repeat (first|exact Tak.d|(apply Tak.t;(first|exact IsA.c|exact IsA.a4|exact IsA.a32|exact IsA.a8|exact IsA.a20|exact IsA.a64);exact rfl)|(apply Tak.s;(first|exact IsA.c|exact IsA.a4|exact IsA.a32|exact IsA.a8|exact IsA.a20|exact IsA.a64);exact rfl))));(first|exact True.intro|exact⟨_,rfl,_,rfl,by assumption⟩))|(apply aX4;exact rfl;(first|assumption|exact n5 (by assumption));exact rfl;(first|exact Tak.w rfl|(repeat (first|exact Tak.d|(apply Tak.t;(first|exact IsA.c|exact IsA.a4|exact IsA.a32|exact IsA.a8|exact IsA.a20|exact IsA.a64);exact rfl)|(apply Tak.s;(first|exact IsA.c|exact IsA.a4|exact IsA.a32|exact IsA.a8|exact IsA.a20|exact IsA.a64);exact rfl))));(first|exact True.intro|exact⟨_,rfl,_,rfl,by assumption⟩))|(apply xlB;exact rfl;exact rfl;exact rfl;(first|exact rfl|exact(by simp only[dA,dB,List.length_replicate];done)|exact bP (by assumption)|exact cV (by assumption));(first|exact True.intro|exact⟨_,rfl,_,rfl,by assumption⟩))|(apply xlA;exact rfl;exact rfl;(first|exact Tak.w rfl|(repeat (first|exact Tak.d|(apply Tak.t;(first|exact IsA.c|exact IsA.a4|exact IsA.a32|exact IsA.a8|exact IsA.a20|exact IsA.a64);exact rfl)|(apply Tak.s;(first|exact IsA.c|exact IsA.a4|exact IsA.a32|exact IsA.a8|exact IsA.a20|exact IsA.a64);exact rfl))));(first|(apply ArM.a32;(first|exact rfl|exact(by simp only[dA,dB,List.length_replicate];done)|exact bP (by assumption)|exact cV (by assumption)))|(apply ArM.a4;(first|exact rfl|exact(by simp only[dA,dB,List.length_replicate];done)|exact bP (by assumption)|exact cV (by assumption)))|(apply ArM.a8;(first|exact rfl|exact(by simp only[dA,dB,List.length_replicate];done)|exact bP (by assumption)|exact cV (by assumption)))|(apply ArM.a20;(first|exact rfl|exact(by simp only[dA,dB,List.length_replicate];done)|exact bP (by assumption)|exact cV (by assumption)))|(apply ArM.a64;(first|exact rfl|exact(by simp only[dA,dB,List.length_replicate];done)|exact bP (by assumption)|exact cV (by assumption))));(first|exact True.intro|exact⟨_,rfl,_,rfl,by assumption⟩))|(apply aYb;exact rfl;(first|assumption|exact n5 (by assumption));exact rfl;(first|exact Tak.w rfl|(repeat (first|exact Tak.d|(apply Tak.t;(first|exact IsA.c|exact IsA.a4|exact IsA.a32|exact IsA.a8|exact IsA.a20|exact IsA.a64);exact rfl)|(apply Tak.s;(first|exact IsA.c|exact IsA.a4|exact IsA.a32|exact IsA.a8|exact IsA.a20|exact IsA.a64);exact rfl))));(first|(apply ArM.a32;(first|exact rfl|exact(by simp only[dA,dB,List.length_replicate];done)|exact bP (by assumption)|exact cV (by assumption)))|(apply ArM.a4;(first|exact rfl|exact(by simp only[dA,dB,List.length_replicate];done)|exact bP (by assumption)|exact cV (by assumption)))|(apply ArM.a8;(first|exact rfl|exact(by simp only[dA,dB,List.length_replicate];done)|exact bP (by assumption)|exact cV (by assumption)))|(apply ArM.a20;(first|exact rfl|exact(by simp only[dA,dB,List.length_replicate];done)|exact bP (by assumption)|exact cV (by assumption)))|(apply ArM.a64;(first|exact rfl|exact(by simp only[dA,dB,List.length_replicate];done)|exact bP (by assumption)|exact cV (by assumption))));(first|exact True.intro|exact⟨_,rfl,_,rfl,by assumption⟩)))|((with_reducible apply aWZ);first|(apply xb;exact rfl;exact rfl;exact rfl;(first|exact True.intro|exact⟨_,rfl,_,rfl,by assumption⟩))|(apply aYk;exact rfl;exact rfl;assumption;(first|exact True.intro|exact⟨_,rfl,_,rfl,by assumption⟩))|(apply aYq;exact rfl;exact rfl;assumption;(first|exact True.intro|exact⟨_,rfl,_,rfl,by assumption⟩))|(apply aYT;exact rfl;exact rfl;(first|assumption|exact rfl);(first|exact True.intro|exact⟨_,rfl,_,rfl,by assumption⟩))|(apply aYJ;exact rfl;exact rfl;(first|assumption|exact rfl);(first|exact True.intro|exact⟨_,rfl,_,rfl,by assumption⟩))|(apply xeA;exact rfl;exact rfl;exact rfl;(first|exact rfl|exact(by simp only[dA,dB,List.length_replicate];done)|exact bP (by assumption)|exact cV (by assumption));(first|exact rfl|exact(by simp only[dA,dB,List.length_replicate];done)|exact bP (by assumption)|exact cV (by assumption));(first|exact True.intro|exact⟨_,rfl,_,rfl,by assumption⟩))|(apply xnA;exact rfl;exact rfl;exact rfl;(first|exact rfl|exact(by simp only[dA,dB,List.length_replicate];done)|exact bP (by assumption)|exact cV (by assumption));(first|exact rfl|exact(by simp only[dA,dB,List.length_replicate];done)|exact bP (by assumption)|exact cV (by assumption));(first|exact True.intro|exact⟨_,rfl,_,rfl,by assumption⟩)))|((with_reducible apply aXw);first|(apply xfp;exact rfl;(first|(with_reducible exact Nat.zero_add _)|exact rfl);(first|exact True.intro|exact⟨_,rfl,_,rfl,by assumption⟩))|(apply xfe;exact rfl;(first|(with_reducible exact Nat.zero_add _)|exact rfl);(first|exact True.intro|exact⟨_,rfl,_,rfl,by assumption⟩)))|((with_reducible apply aVH);first|(apply xac;(first|exact OfC.i|exact OfC.b|exact OfC.l|exact OfC.s|exact OfC.p);(first|exact True.intro|exact⟨_,rfl,_,rfl,by assumption⟩))|(apply xa;exact rfl;(first|exact True.intro|exact⟨_,rfl,_,rfl,by assumption⟩)))|(apply xe;exact rfl;exact rfl;(first|exact True.intro|exact⟨_,rfl,_,rfl,by assumption⟩))|((with_reducible apply aXo);first|(apply xiR;exact rfl;exact rfl;exact rfl;(first|assumption|exact n5 (by assumption));(first|exact True.intro|exact⟨_,rfl,_,rfl,by assumption⟩))|(apply xiS;exact rfl;exact rfl;exact rfl;(first|assumption|exact n5 (by assumption));(first|exact rfl|exact(by simp only[dA,dB,List.length_replicate];done)|exact bP (by assumption)|exact cV (by assumption));exact rfl;(first|exact True.intro|exact⟨_,rfl,_,rfl,by assumption⟩))|(apply xiB;exact rfl;exact rfl;exact rfl;assumption;exact rfl;(first|exact True.intro|exact⟨_,rfl,_,rfl,by assumption⟩))|(apply xiK;exact rfl;exact rfl;exact rfl;(first|assumption|exact n5 (by assumption));(first|exact rfl|exact(by simp only[dA,dB,List.length_replicate];done)|exact bP (by assumption)|exact cV (by assumption));exact rfl;(first|exact True.intro|exact⟨_,rfl,_,rfl,by assumption⟩)))|(apply xci;exact rfl;(first|exact True.intro|exact⟨_,rfl,_,rfl,by assumption⟩))|((with_reducible apply aXL);first|(apply xsA;exact rfl;exact rfl;exact rfl;exact rfl;exact(fun _=>rfl);(first|exact rfl|exact(by simp only[dA,dB,List.length_replicate];done)|exact bP (by assumption)|exact cV (by assumption));(first|exact rfl|exact(by simp only[dA,dB,List.length_replicate];done)|exact bP (by assumption)|exact cV (by assumption));(repeat (first|exact LSet.z|apply LSet.s));(first|exact True.intro|exact⟨_,rfl,_,rfl,by assumption⟩))|(apply xs;exact rfl;exact rfl;exact rfl;(first|exact Cel.a rfl|exact Cel.o rfl rfl|exact Cel.m (fun _=>rfl));exact rfl;exact rfl;(first|exact Spl.w rfl|(repeat (first|exact Spl.d|(apply Spl.p;(first|exact IsA.c|exact IsA.a4|exact IsA.a32|exact IsA.a8|exact IsA.a20|exact IsA.a64);(first|exact IsA.c|exact IsA.a4|exact IsA.a32|exact IsA.a8|exact IsA.a20|exact IsA.a64))|(apply Spl.s;(first|exact IsA.c|exact IsA.a4|exact IsA.a32|exact IsA.a8|exact IsA.a20|exact IsA.a64);exact rfl))));(repeat (first|exact LSet.z|apply LSet.s));(first|exact True.intro|exact⟨_,rfl,_,rfl,by assumption⟩))|(apply xsX;exact rfl;exact rfl;exact rfl;exact rfl;(first|assumption|exact n5 (by assumption));exact rfl;exact rfl;(repeat (first|exact LSet.z|apply LSet.s));(first|exact True.intro|exact⟨_,rfl,_,rfl,by assumption⟩)))|((with_reducible apply aXf);first|(apply aYp;exact rfl;(repeat (first|exact Snoc.n|apply Snoc.c));(first|exact(by simp only[List.length_cons,List.length_nil,Nat.zero_add,Nat.reduceAdd]<;>rfl)|exact rfl);(first|exact True.intro|exact⟨_,rfl,_,rfl,by assumption⟩))|(apply aYh;(repeat (first|exact Snoc.n|apply Snoc.c));(first|exact(by simp only[List.length_cons,List.length_nil,Nat.zero_add,Nat.reduceAdd]<;>rfl)|exact rfl);(first|exact True.intro|exact⟨_,rfl,_,rfl,by assumption⟩))|(apply xal;(first|(apply Zro.o;(first|exact OfC.i|exact OfC.b|exact OfC.l|exact OfC.s|exact OfC.p))|(apply Zro.a;repeat (first|exact OfCs.n|(apply OfCs.c;(first|exact OfC.i|exact OfC.b|exact OfC.l|exact OfC.s|exact OfC.p)))));(repeat (first|exact Snoc.n|apply Snoc.c));(first|exact(by simp only[List.length_cons,List.length_nil,Nat.zero_add,Nat.reduceAdd]<;>rfl)|exact rfl);(first|exact True.intro|exact⟨_,rfl,_,rfl,by assumption⟩)))|(apply xbx;exact rfl;(first|exact Cel.a rfl|exact Cel.o rfl rfl|exact Cel.m (fun _=>rfl));(repeat (first|exact Snoc.n|apply Snoc.c));(first|exact(by simp only[List.length_cons,List.length_nil,Nat.zero_add,Nat.reduceAdd]<;>rfl)|exact rfl);(first|exact True.intro|exact⟨_,rfl,_,rfl,by assumption⟩))|((with_reducible apply aXF);first|(apply aYS;exact rfl;(repeat (first|exact NumK.n|apply NumK.c));exact rfl;exact rfl;exact rfl;exact rfl;(repeat (first|exact Snoc.n|apply Snoc.c));(first|exact(by simp only[List.length_cons,List.length_nil,Nat.zero_add,Nat.reduceAdd]<;>rfl)|exact rfl);(first|exact True.intro|exact⟨_,rfl,_,rfl,by assumption⟩))|(apply aYt;exact rfl;(repeat (first|exact NumR.n|apply NumR.z|apply NumR.c));exact rfl;exact rfl;exact rfl;exact rfl;(repeat (first|exact Snoc.n|apply Snoc.c));(first|exact(by simp only[List.length_cons,List.length_nil,Nat.zero_add,Nat.reduceAdd]<;>rfl)|exact rfl);(first|exact True.intro|exact⟨_,rfl,_,rfl,by assumption⟩))|(apply aYg;exact rfl;(repeat (first|exact NumB.n|apply NumB.c));exact rfl;exact rfl;exact rfl;exact rfl;(repeat (first|exact Snoc.n|apply Snoc.c));(first|exact(by simp only[List.length_cons,List.length_nil,Nat.zero_add,Nat.reduceAdd]<;>rfl)|exact rfl);(first|exact True.intro|exact⟨_,rfl,_,rfl,by assumption⟩)))|((with_reducible apply aXj);first|(apply xsM;exact rfl;exact rfl;exact rfl;exact rfl;exact rfl;assumption;exact rfl;(first|exact True.intro|exact⟨_,rfl,_,rfl,by assumption⟩)))|((with_reducible apply aXO);first|(apply xsR;exact rfl;exact rfl;exact rfl;exact rfl;exact rfl;assumption;exact rfl;exact rfl;(first|exact True.intro|exact⟨_,rfl,_,rfl,by assumption⟩))|(apply xsL;exact rfl;exact rfl;exact rfl;exact rfl;(first|exact rfl|exact(by simp only[dA,dB,List.length_replicate];done)|exact bP (by assumption)|exact cV (by assumption));exact rfl;exact rfl;(first|exact True.intro|exact⟨_,rfl,_,rfl,by assumption⟩))|(apply xsE;exact rfl;exact rfl;exact rfl;(first|exact rfl|exact(by simp only[dA,dB,List.length_replicate];done)|exact bP (by assumption)|exact cV (by assumption));exact rfl;(first|exact True.intro|exact⟨_,rfl,_,rfl,by assumption⟩)))|(apply xno;exact rfl;(first|exact True.intro|exact⟨_,rfl,_,rfl,by assumption⟩))|(apply xbd;exact rfl;(first|(apply Zro.o;(first|exact OfC.i|exact OfC.b|exact OfC.l|exact OfC.s|exact OfC.p))|(apply Zro.a;repeat (first|exact OfCs.n|(apply OfCs.c;(first|exact OfC.i|exact OfC.b|exact OfC.l|exact OfC.s|exact OfC.p)))));(repeat (first|exact Fil.n|(apply Fil.c;exact rfl;(first|exact Cel.a rfl|exact Cel.o rfl rfl|exact Cel.m (fun _=>rfl));exact rfl;exact rfl;(first|exact Spl.w rfl|(repeat (first|exact Spl.d|(apply Spl.p;(first|exact IsA.c|exact IsA.a4|exact IsA.a32|exact IsA.a8|exact IsA.a20|exact IsA.a64);(first|exact IsA.c|exact IsA.a4|exact IsA.a32|exact IsA.a8|exact IsA.a20|exact IsA.a64))|(apply Spl.s;(first|exact IsA.c|exact IsA.a4|exact IsA.a32|exact IsA.a8|exact IsA.a20|exact IsA.a64);exact rfl)))))));(first|exact True.intro|exact⟨_,rfl,_,rfl,by assumption⟩))|(apply xfd;exact rfl;exact rfl;exact rfl;exact rfl;(first|exact True.intro|exact⟨_,rfl,_,rfl,by assumption⟩))|((with_reducible apply aXc);first|(apply xpT;exact rfl;(first|assumption|exact rfl);exact rfl;(first|exact True.intro|exact⟨_,rfl,_,rfl,by assumption⟩))|(apply xpF;exact rfl;(first|assumption|exact rfl);exact rfl;(first|exact True.intro|exact⟨_,rfl,_,rfl,by assumption⟩)))|((with_reducible apply aXl);first|(apply xnp;exact rfl;(first|exact True.intro|exact⟨_,rfl,_,rfl,by assumption⟩))|(apply xne;exact rfl;(first|exact True.intro|exact⟨_,rfl,_,rfl,by assumption⟩)))|(apply xVv;exact rfl;exact rfl)|(apply xXx;exact rfl;exact rfl;assumption))|apply OpsX.nil|((with_reducible apply isA);first|((with_reducible apply xqn);exact rfl)|(with_reducible apply AB.skip)|((with_reducible apply xrn);exact rfl)|(with_reducible apply AB.ret)|(with_reducible apply AB.exit))|(with_reducible apply Ex.then_mk)|(with_reducible apply Ex.inBlock_mk)|(with_reducible apply Ex.then_exit_mk)|(with_reducible apply Ex.inBlock_same_mk)|((with_reducible apply Ex.inBlock_other_mk);exact rfl)|(with_reducible apply Ex.then_ret_mk)|(with_reducible apply Ex.inBlock_ret_mk)));exact kk.1)):p:=h ⟨k⟩
theorem Conv.ptr {α:Type}{E:α→V}{l:List α}{h h':Hp}(hs:Sub h h'){b:Nat}{e:TypeId}(hb:h[b]? =some (some ⟨e,l.map E⟩))(hb':h'[b]? =some none)(hsh: ∀x,(E x).shut=true)(hn:0<l.length):Conv h h' (.ptr b 0) (.eptr [.agg (l.map E)] 0 0):=by
 intro A M w v H hv
 obtain⟨hone,_⟩:=H.blk b _ hb
 unfold VR at hv⊢
 obtain⟨g,sh,hm,rfl,hshp⟩:=hv
 obtain⟨_,⟨hm',_⟩|⟨g',bH,hm',hA,_⟩⟩:=H.blk b _ hb
 ·rw[hm]at hm';cases hm'
 rw[hm]at hm'
 injection hm' with hm'
 injection hm' with hm'
 subst hm'
 obtain⟨vs,hvs,hl⟩:=aEq H hb hm hshp 0
 rw[aZf]at hvs
 have hX: ¬Xs A M h' g:=by
  rintro(ha|⟨c,C,hc,hmc⟩)
  ·exact hA ha
  obtain⟨C',hc'⟩:=hs c C hc
  have:=H.inj c b C' _ g hc' hb hmc hm
  subst this
  rw[hb']at hc;cases hc
 have hc2:VCells (Xs A M h') [] w (l.map E) vs:=VCells.mk hvs.len fun i c u hc hu=>by
  obtain⟨u',hu',hr⟩:=hvs.get hc
  rw[hu]at hu'
  injection hu' with hu'
  subst hu'
  have:c.shut=true:=by
   rw[aZr]at hc
   cases hq:l[i]? with
   |none=>rw[hq]at hc;cases hc
   |some y=>rw[hq]at hc;injection hc with hc;subst hc;exact hsh y
  exact(hr.shut this).avoid (fun _ _ hx=>hs.xs hx)
 refine⟨⟨g,0,none⟩,l.length, ?_,hn,fun _=>hX,rfl, ?_, ?_⟩
 ·simp[Addr.add]
 ·intro e' he'
  rw[aZI]at he'
  subst he'
  simp only[V.okElem,V.flatOk,V.cells,aY1,beq_iff_eq,aZn,and_true]
  exact aY9.2 hone
 unfold VRow
 refine⟨⟨.agg vs.toArray,by unfold VR;exact⟨vs,rfl,hc2⟩, ?_, ?_⟩,by unfold VRow;trivial⟩
 ·show vs.toArray.size=l.length
  rw[aZK,←hvs.len,aZn]
 exact hl
inductive PCv (h h':Hp):List (Nat×V)→List (Nat×V)→Prop
 |n:PCv h h' [] []
 |s {t:Nat} {x:V} {fr fr':List (Nat×V)}:PCv h h' fr fr'→PCv h h' ((t,x)::fr) ((t,x)::fr')
 |r {t b q:Nat} {e:TypeId} {cs:List V} {ag:Bool} {fr fr':List (Nat×V)}:h[b]? =some (some ⟨e,cs⟩)→h'[b]? =some none→cs.all V.shut=true→q=cs.length→PCv h h' fr fr'→PCv h h' ((t,.sl b 0 q 1 ag)::fr) ((t,.row none 1 cs)::fr')
 |p {α:Type} {E:α→V} {l:List α} {t b:Nat} {e:TypeId} {fr fr':List (Nat×V)}:h[b]? =some (some ⟨e,l.map E⟩)→h'[b]? =some none→(∀x,(E x).shut=true)→aY6 1 l.length=true→PCv h h' fr fr'→PCv h h' ((t,.ptr b 0)::fr) ((t,.eptr [.agg (l.map E)] 0 0)::fr')
 |k {α:Type} {C:α→List V} {K:Nat} {l:List α} {t b q:Nat} {e:TypeId} {fr fr':List (Nat×V)}:h[b]? =some (some ⟨e,l.flatMap C⟩)→h'[b]? =some none→(∀x,(C x).length=K)→(∀x,(C x).all V.one=true)→(∀x,(C x).all V.shut=true)→q=l.length→PCv h h' fr fr'→PCv h h' ((t,.sl b 0 q K true)::fr) ((t,.row none K (l.map fun x=>V.agg (C x)))::fr')
theorem PCv.get {h h':Hp}(hs:Sub h h'){fr fr':List (Nat×V)}(p:PCv h h' fr fr'): ∀(t:Nat)(y:V),eJ fr' t=some y→ ∃x,eJ fr t=some x∧Conv h h' x y:=by
 induction p with
 |n=>intro t y hy;cases hy
 | @s u x fr fr' _ ih=>
  intro t y hy
  simp only[eJ]at hy⊢
  cases hb:aZG u t with
  |true=>rw[hb]at hy;simp only[cond_true,aYX]at hy ⊢; subst hy;exact⟨x,rfl,Conv.same hs⟩
  |false=>rw[hb]at hy;exact ih t y hy
 | @r u b q e cs ag fr fr' h1 h2 h3 h4 _ ih=>
  intro t y hy
  simp only[eJ]at hy⊢
  cases hb:aZG u t with
  |true=>rw[hb]at hy;simp only[cond_true,aYX]at hy ⊢; subst hy;exact⟨_,rfl,Conv.row hs h1 h2 h3 h4⟩
  |false=>rw[hb]at hy;exact ih t y hy
 | @p α E l u b e fr fr' h1 h2 h3 h4 _ ih=>
  intro t y hy
  simp only[eJ]at hy⊢
  cases hb:aZG u t with
  |true=>rw[hb]at hy;simp only[cond_true,aYX]at hy ⊢; subst hy;exact⟨_,rfl,Conv.ptr hs h1 h2 h3 (aYV h4)⟩
  |false=>rw[hb]at hy;exact ih t y hy
 | @k α C K l u b q e fr fr' h1 h2 h3 h4 h5 h6 _ ih=>
  intro t y hy
  simp only[eJ]at hy⊢
  cases hb:aZG u t with
  |true=>rw[hb]at hy;simp only[cond_true,aYX]at hy ⊢; subst hy;exact⟨_,rfl,aZT h3 h4 h5 hs h1 h2 h6⟩
  |false=>rw[hb]at hy;exact ih t y hy
theorem Ghost.fz {N n b:Nat}{fr fr':List (Nat×V)}{h h':Hp}(he:h.set b none=h')(hp:PCv h h' fr fr'):Ghost N (aD n fr) h (aD n fr') h':=by
 subst he
 have hg: ∀{j:Nat}{B:Blk},(h.set b none)[j]? =some (some B)→h[j]? =some (some B):=by
  intro j B hj
  by_cases hij:b=j
  ·subst hij
   rw[List.getElem?_set]at hj
   split at hj
   ·split at hj<;>cases hj
   rename_i hne;exact absurd rfl hne
  rwa[aZj hij]at hj
 have hs:Sub h (h.set b none):=fun j B hj=>⟨B,hg hj⟩
 intro A M a w hN R
 refine⟨M,rfl,⟨⟨by rw[aZy];exact R.hr.len,R.hr.alt, ?_, ?_,R.hr.glob.avoid fun g _ hx=>hx.elim .inl (fun hl=> .inr (hs.live hl))⟩, ?_,R.defers⟩,fun g hl=>hs.live hl⟩
 ·intro j B hj
  obtain⟨h1,h2⟩:=R.hr.blk j B (hg hj)
  refine⟨h1, ?_⟩
  rcases h2 with⟨hn,hc0⟩|⟨g,cs,hgm,hA,hw,hle,hcs⟩
  ·exact .inl ⟨hn,hc0⟩
  exact .inr ⟨g,cs,hgm,hA,hw,hle,hcs.avoid (fun g _ hx=>hs.xs hx)⟩
 ·intro i j B C g hi hj mi mj
  exact R.hr.inj i j B C g (hg hi) (hg hj) mi mj
 exact aFj R.sr (fun t y hy=>by
  obtain⟨x,hx,hl⟩:=hp.get hs t y hy
  exact⟨x,hx,fun v hv=>hl A M w v R.hr hv⟩)
theorem zv {N n:Nat}{fr fr':List (Nat×V)}{h h':Hp}(b:Nat) (he:LSet h b none h':=by(repeat (first|exact LSet.z|apply LSet.s)))
  (hp:PCv h h' fr fr':=by(repeat (first|exact PCv.n|(apply PCv.p;exact rfl;exact rfl;exact(fun _=>rfl);(first|exact rfl|exact aPk (by assumption) rfl|exact aPB (by assumption) rfl))|(apply PCv.r;exact rfl;exact rfl;exact aM0 (fun _=>rfl);(first|exact rfl|exact(by rw[List.length_map];first|exact(bP (by assumption)).symm|exact(cV (by assumption)).symm)|exact(by simp only[List.length_map,dA,dB];done)))|(apply PCv.k;exact rfl;exact rfl;exact(fun _=>rfl);exact(fun _=>rfl);exact(fun _=>rfl);(first|exact rfl|exact(by simp only[dA,dB])))|apply PCv.s))):Ghost N (aD n fr) h (aD n fr') h':=Ghost.fz he.eq hp
theorem aXI {vn:Nat→Bool}{f:Nat→Nat}{c d:V}{cs ds:List V}(h:V.le vn c (d.rn f))(k:V.les vn cs (V.rns f ds)):V.les vn (c::cs) (V.rns f (d::ds)):=by
 simp only[V.rns];exact V.les_cons h k
section
variable {vn:Nat→Bool}{f:Nat→Nat}{k:IntKind}{q:List Int}{r r':List V}
theorem aW6 (h:V.les vn r (V.rns f r')):V.les vn (jQ (eI k) q r) (V.rns f (jQ (eI k) q r')):=by rw[aPt];exact aUL h
theorem aWO (h:V.les vn r (V.rns f r')):V.les vn (ar8 (eI k) q r) (V.rns f (ar8 (eI k) q r')):=by rw[aPd];exact aUQ h
theorem aVc (h:V.les vn r (V.rns f r')):V.les vn (aDo (eI k) q r) (V.rns f (aDo (eI k) q r')):=by rw[aNF];exact aS2 h
theorem aUS (h:V.les vn r (V.rns f r')):V.les vn (aK (eI k) q r) (V.rns f (aK (eI k) q r')):=by rw[aOm];exact aR6 h
theorem aUC (h:V.les vn r (V.rns f r')):V.les vn (aDr (eI k) q r) (V.rns f (aDr (eI k) q r')):=by rw[aOe];exact aSJ h
end
theorem aXS {vn:Nat→Bool}{f:Nat→Nat}{cs ds:List V}(h:V.les vn cs (V.rns f ds)):V.le vn (.agg cs) ((V.agg ds).rn f):=by simp only[V.rn];exact V.le_agg h
theorem aX5 {vn:Nat→Bool}{f:Nat→Nat}{cs ds:List V}(h:V.les vn cs (V.rns f ds)):V.le vn (.tup cs) ((V.tup ds).rn f):=by simp only[V.rn];exact V.le_tup h
theorem lev {p:Prop} (h:p:=by(repeat (first|exact V.les_refl _ _|exact V.les_nil|exact V.le_refl _ _|exact V.le_nil|exact V.le_row|exact V.le_arr (fun _=>rfl)|exact V.le_virt rfl|exact aFv (fun _=>rfl) _|exact aD5 (fun _=>rfl) _|apply aXI|apply aUS|apply aW6|apply aWO|apply aVc|apply aUC|apply aXS|apply aX5|exact(by simp only[dA,dB];exact V.le_refl _ _)))):p:=h
theorem aJ3 {p:Prop} (h:p:=by first|exact rfl|exact all_map (fun _=>rfl) _|exact xZ (fun _=>rfl) _):p:=h
theorem gF {N n:Nat}{fr fr':List (Nat×V)}{h h':Hp}(σ:List Nat)
  (hf:FLe wZ (V.rn (sg σ h.length)) fr fr':=by(repeat (first|exact FLe.nil|refine FLe.same rfl ?_|refine FLe.le rfl lev ?_)))
  (hh:HLe (sg σ h.length) h σ h':=by(repeat (first|exact HLe.nil|refine HLe.dead ?_|refine HLe.live rfl lev aJ3 ?_)))
  (hσ:σ.take N=List.range N:=by rfl) (hlt:σ.all (fun b=>Nat.blt b h.length)=true:=by rfl) (hnd:ndB (lvs σ h')=true:=by rfl):Ghost N (aD n fr) h (aD n fr') h':=Ghost.rn σ hσ hlt hf hh hnd
theorem FLe.mapg {vn:Nat→Bool}{g:V→V}{fr:List (Nat×V)}: ∀{fr':List (Nat×V)},FLe vn g fr fr'→FLe vn id fr (fr'.map fun p=>(p.1,g p.2))
 | [],_=>FLe.nil
 |(t,y)::r,h=>⟨h.1,FLe.mapg h.2⟩
theorem aOd {g:V→V}: ∀{fr:List (Nat×V)}{t:Nat}{y:V},eJ fr t=some y→eJ (fr.map fun p=>(p.1,g p.2)) t=some (g y)
 | [],_,_,h=>by cases h
 |(u,x)::r,t,y,h=>by
  simp only[eJ,aY5]at h⊢
  cases hb:aZG u t with
  |true=>rw[hb]at h;simp only[cond_true,aYX]at h ⊢; rw[h]
  |false=>rw[hb]at h;exact aOd h
theorem FLe.ofmap {g:V→V}{L:List (Nat×V)}: ∀{fr:List (Nat×V)},(∀t y,(t,y)∈fr→eJ L t=some y)→FLe wZ g (L.map fun p=>(p.1,g p.2)) fr
 | [],_=>FLe.nil
 |(t,y)::r,h=>FLe.same (aOd (h t y (by simp))) (FLe.ofmap fun u z hz=>h u z (by simp[hz]))
def aGM :List (Nat×V)→List (Nat×V)→Bool
 |_,[]=>true
 |L,(t,_)::r=> !((r.map (·.1)).elem t)&&aGM L r
theorem aQW : ∀{L:List (Nat×V)},aGM L L=true→ ∀t y,(t,y)∈L→eJ L t=some y:=by
 have key: ∀{K L:List (Nat×V)},aGM K L=true→ ∀t y,(t,y)∈L→eJ L t=some y:=by
  intro K L
  induction L with
  |nil=>intro _ t y h;cases h
  |cons p r ih=>
   obtain⟨u,x⟩:=p
   intro h t y hm
   simp only[aGM,aY1,Bool.not_eq_true']at h
   simp only[eJ]
   rcases List.mem_cons.1 hm with he|hm
   ·cases he;simp
   have:u≠t:=fun he=>by
    subst he
    have h1:(r.map (·.1)).elem u=true:=List.elem_eq_true_of_mem (List.mem_map.2 ⟨_,hm,rfl⟩)
    rw[h1]at h;exact absurd h.1 (by simp)
   have hb:aZG u t=false:=by
    cases hb:aZG u t with
    |true=>exact absurd (Nat.eq_of_beq_eq_true hb) this
    |false=>rfl
   rw[hb];exact ih h.2 t y hm
 exact fun{L} h=>key h
theorem zW {N n:Nat}{fr fr':List (Nat×V)}{h h':Hp}(e:TypeId)(σ:List Nat)
  (hf:FLe (fun b=>Nat.beq b h.length) (V.rn (sg σ (h++[some (Blk.mk e [])]).length)) fr fr':=by(repeat (first|exact FLe.nil|refine FLe.same rfl ?_|refine FLe.le rfl lev ?_)))
  (h1:HLv (fun b=>Nat.beq b h.length) h h:=by(repeat (first|exact HLv.nil|refine HLv.dead ?_|refine HLv.live (V.les_refl _ _) aJ3 ?_)))
  (hh:HLe (sg σ (h++[some (Blk.mk e [])]).length) (h++[some (Blk.mk e [])]) σ h':=by(repeat (first|exact HLe.nil|refine HLe.dead ?_|refine HLe.live rfl lev aJ3 ?_)))
  (hσ:σ.take N=List.range N:=by rfl) (hlt:σ.all (fun b=>Nat.blt b (h++[some (Blk.mk e [])]).length)=true:=by rfl) (hnd:ndB (lvs σ h')=true:=by rfl) (hk:aGM fr' fr'=true:=by rfl):Ghost N (aD n fr) h (aD n fr') h':=
 Ghost.trans (Ghost.virt e hf.mapg h1) (Ghost.rn σ hσ hlt (FLe.ofmap (aQW hk)) hh hnd)
section
variable {P:Program}{fn:Func}{n N:Nat}{fr:List (Nat×V)}{s:List V}{h h':Hp}{r a b c x:V}{o p:Nat}{e:TypeId}{cs ds:List V}{t u w:Nat}{ty:TypeId}
inductive RsV (P:Program)(n:Nat)(fr:List (Nat×V))(h:Hp):ResultVar→V→Prop
 |t {t:Nat} {x:V}:bU n fr (.tmp t)=some x→RsV P n fr h (.tmp t) x
 |c {t i o:Nat} {ty:TypeId} {v:V}:bU n fr (.tmp t)=some (.ptr i o)→fF P ty h (.ptr i o)=some v→RsV P n fr h (.cell t ty) v
theorem RsV.eq {q:ResultVar}(hr:RsV P n fr h q x):jA P (aD n fr) h q=some x:=by
 cases hr with
 |t h1=>exact rvT h1
 |c h1 h2=>exact rvC h1 h2
theorem lv1 {d:TI} [T:TiC P ty d] (hb:h[o]? =some (some ⟨e,cs⟩)) (hc:(cs.drop p).head? =some x) (hd:b7 d.desc=false):fF P ty h (.ptr o p)=some x:=ldP hb (sV T.h hd hc)
theorem lvN {fs:Array Field}{sz by_:Nat}{zz:Value} [T:TiC P ty ⟨.struct fs,sz,by_,zz⟩] (hb:h[o]? =some (some ⟨e,cs⟩)) (hc:Tak cs p sz ds):fF P ty h (.ptr o p)=some (.agg ds):=ldP hb (bJ T.h rfl hc.eq.2 hc.eq.1)
theorem lvB {α:Type}{E:α→V}{ml:List α}{N' sz by_:Nat}{zz:Value}{w:TypeId} [T:TiC P ty ⟨.array N' w,sz,by_,zz⟩] (hb:h[o]? =some (some ⟨e,ml.map E⟩)) (hz:sz=N') (hl:ml.length=N'):fF P ty h (.ptr o 0)=some (.agg (ml.map E)):=ldA T.h hz hb hl
theorem gL {q:ResultVar}(hr:fn.results= #[q])(ha:RsV P n fr h q a)(hg:Ghost N (aD 1 [(0,a)]) h (aD 1 [(0,r)]) h'):aE4 P fn N r h' .ret (aD n fr) h:=uM (aKo hr ha.eq) hg
theorem kS {q q':ResultVar}(hr:fn.results= #[q,q'])(ha:RsV P n fr h q a)(hb:RsV P n fr h q' b)(hg:Ghost N (aD 1 [(0,.tup [a,b])]) h (aD 1 [(0,r)]) h'):aE4 P fn N r h' .ret (aD n fr) h:=uM (bB hr ha.eq hb.eq) hg
theorem zr3 {q q' q'':ResultVar}(hr:fn.results= #[q,q',q''])(ha:RsV P n fr h q a)(hb:RsV P n fr h q' b)(hc:RsV P n fr h q'' c)(hg:Ghost N (aD 1 [(0,.tup [a,b,c])]) h (aD 1 [(0,r)]) h'):aE4 P fn N r h' .ret (aD n fr) h:=uM (jT hr ha.eq hb.eq hc.eq) hg
end
theorem aY {p:Prop} (h:p:=by first|exact RsV.t rfl|(apply RsV.c;exact rfl;first|(apply lv1;exact rfl;exact rfl;exact rfl)|(apply lvB;exact rfl;exact rfl;first|exact rfl|exact bP (by assumption)|exact cV (by assumption))|(apply lvN;exact rfl;exact Tak.w rfl))):p:=h
theorem aPL {α:Type}(a:Array α)(i:Nat)(f:α→α)(x y:α)(h:a[i]? =some x)(hy:f x=y):a.modify i f=a.setIfInBounds i y:=by
 apply Array.ext_getElem?
 intro j
 by_cases hj:i=j
 ·subst hj
  have hi:=(aZo.1 h).1
  rw[aZb hi,aZz,if_pos rfl,h,←hy];rfl
 rw[aYW hj,aZz,if_neg hj]
theorem Grow.mark {A:Nat→Prop}{M:List (Option Nat)}{h:Hp}{w:World}(H:HR A M h w){b:Nat}{B:Blk}(hb:h[b]? =some (some B)){g:Nat}(hg:M[b]? =some (some g)){e:TypeId}{sz:Nat}(hs:w.shape? g=some (e,sz)):
  Grow A M h w M h (w.freeze ⟨g,sz,none⟩ 1):=by
 obtain⟨hB1,⟨hn,_⟩|⟨g',cs,hg',hA,hh,hle,hcs⟩⟩:=H.blk b B hb
 ·rw[hg]at hn;cases hn
 rw[hg]at hg';injection hg' with hg';injection hg' with hg';subst hg'
 obtain⟨f,hf,hh⟩:=hh.inCells hs
 have hsh:(e,sz)=(B.e,cs.size):=by
  have:w.shape? g=some (B.e,cs.size):=by unfold World.shape?; rw[hh]
  rw[this]at hs;exact(aYZ hs).symm
 rw[aZS]at hsh
 obtain⟨rfl,rfl⟩:=hsh
 have hgs:g<w.heap.size:=(aZo.1 hh).1
 have hw:w.freeze ⟨g,cs.size,none⟩ 1={w with heap:=w.heap.setIfInBounds g (.cells cs B.e (cs.size,cs.size+1))}:=by
  unfold World.freeze
  rw[if_neg (by decide),aPL w.heap g _ _ (.cells cs B.e (cs.size,cs.size+1)) hh (by rcases hf with rfl|rfl<;>simp)]
 rw[hw]
 have hE:Ext (cX M h) w {w with heap:=w.heap.setIfInBounds g (.cells cs B.e (cs.size,cs.size+1))}:=by
  refine⟨rfl,rfl,rfl,by simp,fun k hk hn=> ?_,fun k sh hsh=> ?_,fun k hk hsh=> ?_⟩
  ·show(w.heap.setIfInBounds g _)[k]? =_
   rw[aYW (by rintro rfl;exact hn ⟨b,B,hb,hg⟩)]
  ·unfold World.shape? at *
   show(match(w.heap.setIfInBounds g (.cells cs B.e (cs.size,cs.size+1)))[k]? with|some (.cells c elem _)=>some (elem,c.size)|_=>none)=some sh
   by_cases hk:g=k
   ·subst hk
    rw[aZb hgs]
    rw[hh]at hsh
    simpa using hsh
   rw[aYW hk];exact hsh
  unfold World.shape? at *
  show(match(w.heap.setIfInBounds g (.cells cs B.e (cs.size,cs.size+1)))[k]? with|some (.cells c elem _)=>some (elem,c.size)|_=>none)=none
  by_cases hk:g=k
  ·subst hk
   rw[hh]at hsh
   cases hsh
  rw[aYW hk];exact hsh
 have keep: ∀cs us,VCells (Xs A M h) M w cs us→VCells (Xs A M h) M _ cs us:=
  fun cs us hk=>VCells.ext hE (aZO _) (fun _ _ hl=> .inr hl) (fun k hk hx=>hx) cs us hk
 refine⟨aZO _,⟨H.len,fun k hk=>by simpa using H.alt k hk, ?_,H.inj,H.glob.grow hE fun _ _ h=>h⟩,hE,fun _ _ h=>h⟩
 intro i C hi
 obtain⟨h0,hn|⟨k,ds,hk,hA',hh',hle',hds⟩⟩:=H.blk i C hi
 ·exact⟨h0,.inl hn⟩
 refine⟨h0,.inr ⟨k,ds,hk,hA', ?_,hle',keep _ _ hds⟩⟩
 by_cases hkg:k=g
 ·subst hkg
  have:=H.inj i b C B k hi hb hk hg
  subst this
  rw[hb]at hi
  obtain rfl:=aYZ (aYZ hi)
  rcases hh' with⟨f',_,h2⟩|⟨es,c,h2,_⟩
  ·rw[hh]at h2
   injection h2 with h2
   injection h2 with h2 h3 h4
   subst h2
   exact .inl ⟨_,.inr rfl,by simp[hgs]⟩
  rw[hh]at h2;cases h2
 refine hh'.to ?_
 show(w.heap.setIfInBounds g _)[k]? =_
 rw[aYW (Ne.symm hkg)]
section
variable {P:Program}{N n:Nat}{ops:Array Oper}{l:List Oper}{fr:List (Nat×V)}{h h':Hp}{K:List V→Hp→Prop}
theorem xOf {s:List V}(k:OpsX P N none ops l s h K):OpsW P N ops l s h K:=k
theorem xHp {m:Option (List Nat×List Nat)}{s:List V}{h':Hp}(e:h=h')(k:OpsX P N m ops l s h' K):OpsX P N m ops l s h K:=e▸k
end
theorem aTf {C:List Int→List V}{E:Int→V}{K:Nat}{l:List (List Int)}{hE:Hp}{b q d:Nat}{e:TypeId}(hC: ∀x,(C x).length=K)(hK:0<K)(hcx: ∀x∈l,C x=x.map E)(hn:l.length=q)(hb:hE[b]? =some (some ⟨e,l.flatMap C⟩))(hx: ∀x,(C x).mapM (eC hE d)=some (C x)):eC hE (d+1) (.sl b 0 q K true)=some (.row none K (l.map (eA E))):=by
 have:=aPD (d:=d) hC hK hn hb hx
 rwa[show(l.map fun x=>V.agg (C x))=l.map (eA E)from aZF fun x hx=>by rw[hcx x hx]]at this
theorem aLY {C:List Int→List V}{E:Int→V}{K:Nat}{l:List (List Int)}{hE:Hp}{b q:Nat}{e:TypeId}(hC: ∀x,(C x).length=K)(hK:0<K)(hcx: ∀x∈l,C x=x.map E)(hn:l.length=q)(hb:hE[b]? =some (some ⟨e,l.flatMap C⟩))(hx: ∀x,(C x).mapM (eC hE 3)=some (C x)):xL hE (.sl b 0 q K true)=some (.row none K (l.map (eA E))):=aTf hC hK hcx hn hb hx
theorem aVz {α:Type}{by_:Nat}{y:α}{l m r:List α}(h:cZ by_ (y::l) m=some r):0<r.length:=by
 unfold cZ at h
 split at h
 ·injection h with h;subst h;simp
 cases h
theorem aVq {α:Type}{l r:List α}{a:Int}(h:sub l a (l.length:Int)=some r)(h2:decide (a=(l.length:Int))=false):0<r.length:=by
 have h2:=of_decide_eq_false h2
 unfold sub at h
 split at h
 ·rename_i hc;injection h with h;subst h
  simp only[aY8,aY4]
  omega
 cases h
theorem aUX {α:Type}{l:List α}{i:Int}{y:α}(h:bM l i=some y):0<l.length:=by
 obtain⟨h1,h2,_⟩:=jB h
 omega
theorem Conv.ptrS {l:List V}{h h':Hp}(hs:Sub h h'){b:Nat}{e:TypeId}(hb:h[b]? =some (some ⟨e,l⟩))(hb':h'[b]? =some none)(hsh:l.all V.shut=true)(hn:0<l.length):Conv h h' (.ptr b 0) (.eptr [.agg l] 0 0):=by
 intro A M w v H hv
 obtain⟨hone,_⟩:=H.blk b _ hb
 unfold VR at hv⊢
 obtain⟨g,sh,hm,rfl,hshp⟩:=hv
 obtain⟨_,⟨hm',_⟩|⟨g',bH,hm',hA,_⟩⟩:=H.blk b _ hb
 ·rw[hm]at hm';cases hm'
 rw[hm]at hm'
 injection hm' with hm'
 injection hm' with hm'
 subst hm'
 obtain⟨vs,hvs,hl⟩:=aEq H hb hm hshp 0
 rw[aZf]at hvs
 have hX: ¬Xs A M h' g:=by
  rintro(ha|⟨c,C,hc,hmc⟩)
  ·exact hA ha
  obtain⟨C',hc'⟩:=hs c C hc
  have:=H.inj c b C' _ g hc' hb hmc hm
  subst this
  rw[hb']at hc;cases hc
 have hc2:VCells (Xs A M h') [] w l vs:=VCells.mk hvs.len fun i c u hc hu=>by
  obtain⟨u',hu',hr⟩:=hvs.get hc
  rw[hu]at hu'
  injection hu' with hu'
  subst hu'
  have:c.shut=true:=aY9.1 hsh c (List.mem_of_getElem? hc)
  exact(hr.shut this).avoid (fun _ _ hx=>hs.xs hx)
 refine⟨⟨g,0,none⟩,l.length, ?_,hn,fun _=>hX,rfl, ?_, ?_⟩
 ·simp[Addr.add]
 ·intro e' he'
  rw[aZI]at he'
  subst he'
  simp only[V.okElem,V.flatOk,V.cells,aY1,beq_iff_eq,and_true]
  exact aY9.2 hone
 unfold VRow
 refine⟨⟨.agg vs.toArray,by unfold VR;exact⟨vs,rfl,hc2⟩, ?_, ?_⟩,by unfold VRow;trivial⟩
 ·show vs.toArray.size=l.length
  rw[aZK,←hvs.len]
 exact hl
theorem aUw {E:Int→V}{l:List Int}{r:List V}{k:Nat}(hk:k<32):(aK E l r)[k]? =some (E (l.getD k 0)):=by
 have:aK E l r=(aZA 32).map (fun i=>E (l.getD i 0))++r:=rfl
 rw[this,List.getElem?_append_left (by simpa using hk),aZr,aZE hk]
 rfl
section
variable {P:Program}{h h':Hp}{t e:TypeId}{ti:TI}{i off b N K q:Nat}{v x:V}{E:Int→V}{l:List Int}{y:Int}{k k2:IntKind}{j:Int}{sz by_:Nat}{z:Value}{ag:Bool}{cs r:List V}
theorem aKN (hp:iF P t (x.cells.drop off)=some v):fF P t h (.eptr [x] 0 off)=some v:=by
 simp only[fF,aZg]
 exact hp
theorem iaE {es:List V}(ht:aH P t=some ⟨.array N e,sz,by_,z⟩)(he:aH P e=some ti)(h1:ti.size=1)(hx:bK N l j=some y):iM P t (.eptr es 0 off) (.sc (.int k j))=some (.eptr es 0 (off+j.toNat)):=by
 obtain⟨h2,h3,_⟩:=jB (n5 hx)
 simp[iM,ht,qZ,he,h1,h2,aHd hx]
theorem aJT (ht:aH P t=some ti)(hd:b7 ti.desc=false)(hx:bK 32 l j=some y):fF P t h (.eptr [.agg (aK E l r)] 0 (0+j.toNat))=some (E y):=by
 have h5:=aHd hx
 obtain⟨h2,h3,h4⟩:=jB (n5 hx)
 have hk:j.toNat<32:=by omega
 simp only[fF,aZg,V.cells,aZL]
 refine sV ht hd ?_
 rw[List.head?_drop,aUw hk,aZd,h4]
 rfl
theorem aRI (ht:aH P t=some ⟨.array 32 e,sz,by_,z⟩)(he:aH P e=some ti)(h1:ti.size=1)(hag:b7 ti.desc=false)(hl:l.length=32):i9 P t h (.eptr [.agg (aK E l r)] 0 0) none none=some (.row none 1 (l.map E)):=by
 simp only[i9,ht,he,nX,wA,aZg]
 have hc:(V.agg (aK E l r)).cells=l.map E++r:=aAP hl r
 rw[if_pos ⟨h1,hag,aZl _,by omega,aZl _,by rw[hc];simp[hl]⟩,hc]
 simp[hl,List.take_append_of_le_length,aZh]
end
section
variable {P:Program}{h h':Hp}{t e:TypeId}{ti:TI}{i b K q sz by_:Nat}{z:Value}{ag:Bool}{α:Type}{l m x:List α}{C:α→List V}
theorem aYM {lo:Option V}{k1 k2:IntKind}{c:Int}(hq:l.length=q)(ht:aH P t=some ⟨.slice e,sz,by_,z⟩)(he:aH P e=some ti)(h1:nX lo=some 0)(hs:sub l 0 c=some x):zB P t (.sl b 0 q K ag) lo (.sc (.int k1 c)) (.sc (.int k2 c))=some (.sl b 0 x.length K ag):=by
 subst hq
 unfold sub at hs
 split at hs
 ·rename_i hc
  injection hs with hs
  have hl:x.length=c.toNat:=by rw[←hs];simp;omega
  simp only[zB,ht,h1,qZ,he]
  rw[if_pos ⟨trivial,trivial,by omega,by omega⟩,hl]
 cases hs
theorem aXt {lo:Option V}{a:Int}(hq:l.length=q)(ht:aH P t=some ⟨.slice e,sz,by_,z⟩)(he:aH P e=some ti)(hK:ti.size=K)(h1:nX lo=some a)(ha:a=(l.length:Int))(hp:0<l.length):i9 P t h (.sl b 0 q K ag) lo none=some (.row none K []):=by
 subst hq hK ha
 simp only[i9,ht,he,h1,wA]
 rw[if_pos ⟨trivial,by omega,aZl _,aZl _⟩,if_neg (by omega),if_neg (by omega)]
theorem aMs (hC: ∀x,(V.agg (C x)).cells=C x)(l:List α):(l.map fun x=>V.agg (C x)).flatMap V.cells=l.flatMap C:=by
 induction l with
 |nil=>rfl
 |cons x l ih=>simp only[aY5,List.flatMap_cons,ih,hC]
theorem aXk (hC: ∀x,(C x).length=K)(ht:aH P t=some ⟨.slice e,sz,by_,z⟩)(he:aH P e=some ti)(h1:ti.zero.cells.size=K∧ti.size=K∧1≤ti.bytes∧0<K){s:V}(hs:fZ h K s=some (m.flatMap C,m.length))(hm:0<m.length)(hag:b7 ti.desc=ag)
  {r:List α} (ha:cZ ti.bytes l m=some r) (hl:h.length=i) (hh:h++[some ⟨e,r.flatMap C⟩]=h'):iD P t t (.row (some false) K (l.map fun x=>V.agg (C x))) s h=some (.sl i 0 r.length K ag,h'):=by
 obtain⟨h2,h3,h4,h5⟩:=h1
 have hf:=aMs (C:=C) (fun _=>rfl) l
 unfold cZ at ha
 split at ha
 ·rename_i hlim
  injection ha with ha
  subst ha hl hh hag
  have hx:fZ h ti.size s=some (m.flatMap C,m.length):=by rw[h3];exact hs
  simp only[iD,ne_eq,not_true,if_false,ht,he]
  rw[if_pos ⟨by rw[h2,h3],by omega,h4⟩]
  simp only[hx]
  rw[if_pos ⟨.inr h3.symm,hm,by simpa using hlim⟩]
  simp[h3,hf]
 cases ha
end
section
variable {P:Program}{O:sQ}{N n t:Nat}{ops:Array Oper}{l:List Oper}{fr:List (Nat×V)}{h h':Hp}{K:List V→Hp→Prop}{ty:TypeId}{pos:String}{aft:Array Edge}{gd:Option (Nat×Bool)}{v:V}{d:Option Tmp}{g:Option (Nat×Bool)}{xs:List V}{ws:List Operand}
theorem aSg {u:Nat}{f:FuncId}(hu:bU n fr (.tmp u)=some (.sc (.func (.func f) #[] #[]))):aK5 (aD n fr) u=some f:=by
 have:(aD n fr)[u]? =some (.sc (.func (.func f) #[] #[])):=dK hu
 unfold aK5
 rw[this]
 rfl
theorem aPz {f:FuncId}{u:Nat}{ts:Array TypeId}(hu:bU n fr (.tmp u)=some (.sc (.func (.func f) #[] #[])))(hx:pD n fr ws=some xs)(hv:O f h xs=some (v,h')):bE P O ⟨d,.call ⟨.value (.tmp u),ws.toArray,ts⟩,ty,pos,aft,g⟩ (aD n fr) h=some (v,h'):=by
 simp[bE,r6,xF hx,aSg hu,hv]
theorem xGt {f:FuncId}{u:Nat}{F G:List Nat}{ts:Array TypeId}(hu:bU n fr (.tmp u)=some (.sc (.func (.func f) #[] #[])))(hx:pD n fr ws=some xs)(hc:Fn P f h xs v h')(k:OpsX P N (some (F,G)) ops l (aD n ((t,v)::fr)) h' K) (hF:cT F f=false:=by rfl) (hG:cT G f=true→ ∃news,h'=h++news:=by first|exact(fun _=>⟨_,rfl⟩)|exact(fun _=>⟨[],(List.append_nil _).symm⟩)|exact(fun h=>absurd h (by decide))) (hg:Gd ops n fr gd:=by first|exact True.intro|exact⟨_,rfl,_,rfl,by assumption⟩):OpsX P N (some (F,G)) ops (⟨some t,.call ⟨.value (.tmp u),ws.toArray,ts⟩,ty,pos,aft,gd⟩::l) (aD n fr) h K:=by
 refine⟨_,_,gC hc hF hG ?_,k⟩
 cases gd with
 |none=>exact sv (aPz hu hx xV)
 |some p=>
  obtain⟨j,w⟩:=p
  obtain⟨u,hu2,c,hb,he⟩:=hg
  exact svG hu2 hb he (aPz hu hx xV)
end
def u8s (l:List Int):ByteArray:=⟨(l.map fun x=>x.toNat.toUInt8).toArray⟩
def aNL (a b:List Int):Int:=Extern.BytealgCompare.cmp (u8s a) (u8s b)
theorem aGz {P:Program}{X:Nat→Prop}{w:World}: ∀(l:List Int)(ad:Addr)(acc:List UInt8),ad.spot=none→VRow X [] w 1 (l.map (eI .u8)) ad→(Extern.Bytes.loadBytes ad l.length ⟨acc.toArray⟩).run P w= .ok ⟨(acc++l.map fun x=>x.toNat.toUInt8).toArray⟩ w
 | [],ad,acc,_,_=>by simp[Extern.Bytes.loadBytes]
 |x::l,ad,acc,hsp,h=>by
  simp only[aY5]at h
  unfold VRow at h
  obtain⟨⟨v,hv,hs,hl⟩,hr⟩:=h
  unfold VR at hv
  subst hv
  have hc:w.cell? ad=some (.int .u8 x):=by
   have:=hl 0 (.int .u8 x) rfl
   simpa[Addr.add]using this
  have ih:=aGz (P:=P) l (ad.add 1) (acc++[x.toNat.toUInt8]) (aGo _ _ hsp) hr
  simp only[aZM,Extern.Bytes.loadBytes,Sem.run_bind,Go.run_load,hc,Result.andThen]
  have hp:(⟨acc.toArray⟩:ByteArray).push x.toNat.toUInt8=⟨(acc++[x.toNat.toUInt8]).toArray⟩:=by
   simp[ByteArray.push]
  rw[hp,ih]
  simp
theorem aVo {P:Program} {f:FuncId} {fn:Func} (hf:P.funcs[f]? =some fn) (hn:(fn.name == "runtime.NumGoroutine")=false) (hb:fn.body.isNone=true) (h1:Extern.findNext fn=none) (h2:Extern.find fn=some Extern.BytealgCompare.compare) (a b:List Int):Fn P f [] [.row none 1 (a.map (eI .u8)),.row none 1 (b.map (eI .u8))] (eI .i64 (aNL a b)) []:=by
 have key: ∀(X:Nat→Prop)(w:World)(l:List Int)(v:Value),VR X [] w (.row none 1 (l.map (eI .u8))) v→(Extern.Bytes.bytesOf v).run P w= .ok (u8s l) w:=by
  intro X w l v hv
  unfold VR at hv
  obtain⟨a,cap,rfl,hc,hn,_,_,hr⟩:=hv
  rw[aZn]at hc⊢
  cases a with
  |none=>
   have h0:=hn rfl
   obtain rfl:l=[]:=aY2 (by omega)
   rfl
  |some ad=>
   cases l with
   |nil=>rfl
   |cons x l=>
    obtain⟨ad',ha,_,_,hsp,hrow⟩:=hr (by simp)
    injection ha with ha
    subst ha
    have:=aGz (P:=P) (x::l) ad [] hsp hrow
    show Sem.run P (Extern.Bytes.loadBytes ad (x::l).length ⟨([]:List UInt8).toArray⟩) w=_
    rw[this]
    rfl
 refine aNQ hf hn hb h1 h2 fun X M w vs hv=> ?_
 unfold VCells at hv
 obtain⟨v,rest,rfl,hv,hr⟩:=hv
 unfold VCells at hr
 obtain⟨u,rest,rfl,hu,hr⟩:=hr
 unfold VCells at hr
 subst hr
 refine⟨.int .i64 (aNL a b), ?_,by unfold VR;rfl⟩
 show Sem.run P (do pure (goInt (Extern.BytealgCompare.cmp (←Extern.Bytes.bytesOf v) (←Extern.Bytes.bytesOf u)))) w=_
 rw[Sem.run_bind,key X w a v (VR.shut rfl hv),Result.andThen_ok,Sem.run_bind,key X w b u (VR.shut rfl hu),Result.andThen_ok]
 rfl
inductive FCw (h h':Hp):List (Nat×V)→List (Nat×V)→Prop
 |n:FCw h h' [] []
 |c {t:Nat} {x y:V} {fr fr':List (Nat×V)}:Conv h h' x y→FCw h h' fr fr'→FCw h h' ((t,x)::fr) ((t,y)::fr')
theorem FCw.get {h h':Hp}{fr fr':List (Nat×V)}(p:FCw h h' fr fr'): ∀{t:Nat}{y:V},eJ fr' t=some y→ ∃x,eJ fr t=some x∧Conv h h' x y:=by
 induction p with
 |n=>intro t y hy;cases hy
 | @c u x z fr fr' hc _ ih=>
  intro t y hy
  simp only[eJ]at hy⊢
  cases hb:aZG u t with
  |true=>rw[hb]at hy;simp only[cond_true,aYX]at hy ⊢; subst hy;exact⟨x,rfl,hc⟩
  |false=>rw[hb]at hy;exact ih hy
inductive HCf (H H':Hp):List Nat→Hp→Hp→Prop
 |n:HCf H H' [] [] []
 |d {fz:List Nat} {o:Option Blk} {h h':Hp}:HCf H H' fz h h'→HCf H H' (0::fz) (o::h) (none::h')
 |l {fz:List Nat} {e:TypeId} {cs cs':List V} {h h':Hp}:HCf H H' fz h h'→Convs H H' cs cs'→cs'.all V.one=true→HCf H H' (1::fz) (some ⟨e,cs⟩::h) (some ⟨e,cs'⟩::h')
theorem HCf.ok {H H':Hp}{fz:List Nat}{h h':Hp}(p:HCf H H' fz h h'):HCv H H' h h':=by
 induction p with
 |n=>exact HCv.nil
 |d _ ih=>exact HCv.dead ih
 |l _ hc ho ih=>exact HCv.live hc ho ih
theorem zsb {p:Prop} (h:p:=by exact aIJ rfl):p:=h
theorem zln {p:Prop} (h:p:=by first|exact rfl|(simp only[List.length_map,dA,dB];done)|exact(by rw[List.length_map];first|exact(bP (by assumption)).symm|exact(cV (by assumption)).symm)):p:=h
theorem cvK {α:Type}{C:α→List V}{K:Nat}{l:List α}{h h':Hp}{b n:Nat}{e:TypeId}(hb:h[b]? =some (some ⟨e,l.flatMap C⟩))(hb':h'[b]? =some none)(hC: ∀x,(C x).length=K)(h1K: ∀x,(C x).all V.one=true)(hsh: ∀x,(C x).all V.shut=true)(hs:Sub h h')(hn:n=l.length):Conv h h' (.sl b 0 n K true) (.row none K (l.map fun x=>V.agg (C x))):=aZT hC h1K hsh hs hb hb' hn
theorem cvA {C:List Int→List V}{E:Int→V}{K:Nat}{l:List (List Int)}{h h':Hp}{b n:Nat}{e:TypeId}(hb:h[b]? =some (some ⟨e,l.flatMap C⟩))(hb':h'[b]? =some none)(hC: ∀x,(C x).length=K)(h1K: ∀x,(C x).all V.one=true)(hsh: ∀x,(C x).all V.shut=true)(hcx: ∀x∈l,C x=x.map E)(hs:Sub h h')(hn:n=l.length):Conv h h' (.sl b 0 n K true) (.row none K (l.map (eA E))):=Conv.rowKA hC h1K hsh hcx hs hb hb' hn
theorem zc0 {p:Prop} (h:p:=by first
  |((with_reducible apply Conv.row);exact zsb;exact rfl;exact rfl;exact aM0 (fun _=>rfl);exact zln)
  |((with_reducible apply cvA);exact rfl;exact rfl;exact(fun _=>rfl);exact(fun _=>rfl);exact(fun _=>rfl);(first|exact(fun x hx=>gO (aIW (by assumption) x hx))|exact List.forall_mem_nil _|exact List.forall_mem_cons.2 ⟨gO (bP (by assumption)),List.forall_mem_nil _⟩);exact zsb;exact zln)
  |((with_reducible apply cvK);exact rfl;exact rfl;exact(fun _=>rfl);exact(fun _=>rfl);exact(fun _=>rfl);exact zsb;exact zln)
  |((with_reducible apply Conv.ptr);exact zsb;exact rfl;exact rfl;exact(fun _=>rfl);(first|exact Nat.le_of_ble_eq_true rfl|exact Nat.le_of_ble_eq_true (aPk (by assumption) rfl)|exact Nat.le_of_ble_eq_true (aPB (by assumption) rfl)))
  |((with_reducible apply Conv.ptrS);exact zsb;exact rfl;exact rfl;exact rfl;exact Nat.le_of_ble_eq_true rfl)):p:=h
theorem zcs {p:Prop} (h:p:=by(repeat (first|exact Convs.nil|((with_reducible apply Convs.cons);first|exact zc0|exact Conv.same zsb)|((with_reducible apply aR8);exact(fun _=>Conv.same zsb))|((with_reducible apply aUA);exact(fun _=>Conv.same zsb))|exact Convs.same zsb));done):p:=h
theorem zcv {p:Prop} (h:p:=by first|exact zc0|((with_reducible apply Conv.agg);exact zcs)|exact Conv.same zsb):p:=h
theorem zct {p:Prop} (h:p:=by(repeat (first|exact Convs.nil|((with_reducible apply Convs.cons);exact zcv)));done):p:=h
theorem o6 {N n:Nat}{fr fr':List (Nat×V)}{h h':Hp}(fz:List Nat)
  (hh:HCf h h' fz h h':=by((repeat (first|exact HCf.n|apply HCf.d|apply HCf.l));all_goals first|exact aJ3|exact zcs))
  (hf:FCw h h' fr fr':=by(repeat (first|exact FCw.n|(apply FCw.c;first|exact zc0|((with_reducible apply Conv.tup);exact zct)|exact zcv)))):Ghost N (aD n fr) h (aD n fr') h':=Ghost.conv0 (fun _ _ hy=>hf.get hy) hh.ok
end Go.Vm
