/- Texts of ours, joined: HandL, VmPo. -/
import Derived.Test.YtopdhljncajmpaaGreatDoorQLedgerDisconnects3
import Derived.Test.YtopdhljncajmpaaGreatDoorQLedgerDisconnects15
import Derived.Test.YtopdhljncajmpaaGreatDoorQLedgerDisconnects16
open Int renaming toNat_natCast → a1a
set_option linter.unusedSimpArgs false
set_option linter.unusedVariables false
namespace Go.Proofs.YtopdhljncajmpaaGreatDoor
open Go Go.Vm
theorem aIA {N aI cH cX bZ dH r} (hr:rZ N aI cH cX bZ dH=some r):
  Vm.Fn Tryz.prog 41 [some ⟨102,(eI .u32 aI.Genesis.Version)::(aN (eI .u8) aI.Genesis.Prev (aN (eI .u8) aI.Genesis.Root ((eI .u32 aI.Genesis.Time)::((eI .u32 aI.Genesis.Bits)::((eI .u32 aI.Genesis.Nonce)::(eU (eI .u64) aI.Limit [eI .i64 aI.Window,eI .u32 aI.Spacing,eI .u32 aI.Future,eI .u32 aI.Version,.row none 33 (aI.Checkpoints.map bE),eI .i64 aI.Subsidy,eI .i64 aI.Halving,eI .i64 aI.Maturity,eI .i64 cH,.mp 1,.sl 2 0 bZ.length 37 true,eI .i64 dH]))))))⟩,some ⟨33037,cX.flatMap dO⟩,some ⟨80,bZ.flatMap aF⟩] [.ptr 0 0] (.row none 37 (r.map aJ)) [some ⟨102,(eI .u32 aI.Genesis.Version)::(aN (eI .u8) aI.Genesis.Prev (aN (eI .u8) aI.Genesis.Root ((eI .u32 aI.Genesis.Time)::((eI .u32 aI.Genesis.Bits)::((eI .u32 aI.Genesis.Nonce)::(eU (eI .u64) aI.Limit [eI .i64 aI.Window,eI .u32 aI.Spacing,eI .u32 aI.Future,eI .u32 aI.Version,.row none 33 (aI.Checkpoints.map bE),eI .i64 aI.Subsidy,eI .i64 aI.Halving,eI .i64 aI.Maturity,eI .i64 cH,.mp 1,.sl 2 0 bZ.length 37 true,eI .i64 dH]))))))⟩,some ⟨33037,cX.flatMap dO⟩,some ⟨80,bZ.flatMap aF⟩]:=aYo (N:=70000) (by decide) (fun h=>aDY h) (fun h=>lO h) hr
theorem aLo {N vs r} (hr:aAJ N vs=some r):vs.length=r.length:=(aC0 (List.Perm.refl _) hr).2.1
theorem aMf {N vs r} (hr:aAJ N vs=some r):Vm.Fn Tryz.prog 62 [some ⟨80,vs.flatMap aF⟩] [.sl 0 0 r.length 37 true] (.tup []) [some ⟨80,r.flatMap aF⟩]:=by rw[←aLo hr];exact aPI (N:=70000) (Nat.le_refl _) (fun h=>aDY h) hr
end Go.Proofs.YtopdhljncajmpaaGreatDoor
set_option linter.unusedSectionVars false
namespace Go.Vm
open Go
theorem exp_ar32 {F:V→Option V}{E:Int→V}{l:List Int}{cs ys:List V}(hE: ∀x,F (E x)=some (E x))(k:cs.mapM F=some ys):(aN E l cs).mapM F=some (aN E l ys):=by
 unfold aN
 repeat (refine xY (hE _) ?_)
 exact k
section
variable {P:Program}{t e:TypeId}{ti:TI}{h h':Hp}{b off sz by_ N:Nat}{z:Value}{k:IntKind}{j:Int}{α:Type}{l:List Int}{y v:Int}{E:Int→V}{cs r:List V}{ti':TI}
theorem aix_nn {n:Nat}{α:Type}{l:List α}{j:Int}{y:α}(hx:b7 n l j=some y): ∃i:Nat,j=(i:Int)∧i<n∧l[i]? =some y:=by
 have h1:=aKp hx
 have h2:=fZ hx
 unfold bB at h2
 split at h2
 ·exact⟨j.toNat,by omega,by omega,h2⟩
 cases h2
theorem iaO (ht:aK P t=some ⟨.array N e,sz,by_,z⟩)(he:aK P e=some ti)(h1:ti.size=1)(hx:b7 N l j=some y):iF P t (.ptr b off) (.sc (.int k j))=some (.ptr b (off+j.toNat)):=by
 obtain⟨i,rfl,h2,_⟩:=aix_nn hx
 simp[iF,ht,qH,he,h1,h2]
theorem ldO (hl:l.length=32)(hb:h[b]? =some (some ⟨e,cs⟩))(hc:cs.drop off=aN E l r)(ht:aK P t=some ti')(hd:bY ti'.desc=false)(hx:b7 32 l j=some y):eZ P t h (.ptr b (off+j.toNat))=some (E y):=by
 obtain⟨n,rfl,h2,h3⟩:=aix_nn hx
 have hn:n<l.length:=by omega
 have hy:l[n]=y:=(List.getElem?_eq_some_iff.1 h3).2
 refine ldP hb (nY ht hd ?_)
 rw[←List.drop_drop,hc,aQN hl,List.head?_drop,a1a,List.getElem?_append_left (by simpa using hn),List.getElem?_map,List.getElem?_eq_getElem hn,hy]
 rfl
theorem stO (hl:l.length=32)(ht:aK P t=some ti')(hs:ti'.size=1)(hb:h[b]? =some (some ⟨e,cs⟩))(hc:cs.drop off=aN E l r)(hE: ∀x,(E x).cells=[E x])(hf: ∀x,(E x).flatOk=true)(hx:b7 32 l j=some y)(hh:h.set b (some ⟨e,cs.take off++aN E (l.set j.toNat v) r⟩)=h'):qY P t h (.ptr b (off+j.toNat)) (E v)=some h':=by
 obtain⟨n,rfl,h2,h3⟩:=aix_nn hx
 have hn:n<l.length:=by omega
 have h0:off≤cs.length:=by
  rcases Nat.le_total off cs.length with h|h
  ·exact h
  rw[List.drop_eq_nil_of_le h,aQN hl]at hc
  have:=congrArg List.length hc
  simp[hl]at this
  omega
 have hcs:cs=cs.take off++(l.map E++r):=by rw[←aQN hl,←hc,List.take_append_drop]
 have hlen:cs.length=off+(32+r.length):=by
  have:=congrArg List.length hcs
  simp only[List.length_append,List.length_take,List.length_map,hl]at this
  omega
 refine stP ht hb (hf v) (by rw[hE,hs];rfl) (by rw[hs,a1a];omega) ?_
 rw[←hh,hE]
 congr 3
 unfold splice
 rw[aQN (by rw[List.length_set];exact hl),a1a,List.length_singleton]
 have e1:cs.take (off+n)=cs.take off++(l.map E).take n:=by
  rw[List.take_add,hc,aQN hl,List.take_append_of_le_length (by simp;omega)]
 have e2:cs.drop (off+n+1)=(l.map E).drop (n+1)++r:=by
  rw[Nat.add_assoc,←List.drop_drop,hc,aQN hl,List.drop_append_of_le_length (by simp;omega)]
 rw[e1,e2,List.map_set,List.set_eq_take_append_cons_drop,if_pos (by simpa using hn)]
 simp
end
end Go.Vm
