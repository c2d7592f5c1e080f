/- Texts of ours, joined. -/
import Derived.Test.YtopdhljncajmpaaGreatDoorQC2
import Derived.Test.YtopdhljncajmpaaGreatDoorQC4
open Option renaming bind_some → a1K,bind_eq_some_iff → a2R
open List renaming length_append → a1L,getElem_mem → a1M,replicate → a1N,nil_append → a1O,drop_eq_getElem_cons → a1Q,drop_zero → a1S,mem_singleton → a1T,append_assoc → a1U,drop_eq_nil_of_le → a1V,take_succ_eq_append_getElem → a1X,length_cons → a1Y,getElem?_eq_getElem → a1Z,range → a10,mem_append → a11,eq_of_mem_replicate → a12,mem_cons → a14,pairwise_cons → a15,length_singleton → a19,length_set → a2b,range'_succ → a2c,mem_map → a2d,mem_of_mem_take → a2f,map_append → a2g,take_of_length_le → a2i,append_nil → a2k,flatten_cons → a2l,flatten_nil → a2n,range' → a2o,replicate_succ → a2p,getElem?_replicate → a2q,length_nil → a2r,map_singleton → a2u,getElem?_set_self → a2v,length_take → a2z,foldl_cons → a2C,range_zero → a2E,findIdx?_cons → a2I,mem_or_eq_of_mem_set → a2J,pairwise_iff_getElem → a2K,findIdx?_eq_none_iff → a2M,flatMap_cons → a2N,map_cons → a2P,filter_cons_of_pos → a2Q,all_eq_true → a2S,take_length → a2T,getElem_cons_zero → a2U,getElem?_eq_none → a2V,set_append_right → a2Y,range_succ → a2Z,map_nil → a21,mem_of_mem_drop → a24,range_eq_range' → a26,getElem_of_mem → a27,filter_append → a3a,set_set → a3b
open Bool renaming false_eq_true → a1P,true_and → a18,not_true → a2e,eq_iff_iff → a2t,and_eq_true → a2y
open Go.IntKind renaming i64 → a1R,u32 → a13,u64 → a16,u8 → a17,bits → a2x,wrap_u8 → a2D,wrap_u64 → a3c,wrap_u32 → a3d
open Int renaming toNat_natCast → a1W,tmod → a2w,tdiv → a28,natCast_nonneg → a29
open Nat renaming mul_le_mul_right → a2a,sub_zero → a2h,le_refl → a2j,mod_eq_of_lt → a2m,eq_zero_or_pos → a2s,pow_le_pow_right → a2A,mod_lt → a2B,lt_or_ge → a2F,le_trans → a2G,lt_of_lt_of_le → a2H,add_zero → a2W,min_eq_left → a2X,lt_trans → a23,div_eq_of_lt → a3e,zero_le → a3f
open List.Perm renaming refl → a2L,swap → a3g
open List.Pairwise renaming nil → a2O
set_option linter.unusedSimpArgs false
set_option linter.unusedVariables false
set_option linter.unusedSectionVars false
namespace Go.Proofs.YtopdhljncajmpaaGreatDoor
open Go Go.Vm
theorem dG {α:Type}{n:Nat}{l:List α}{i:Nat}(h:i<n)(hl:i<l.length):cC n l (i:Int)=some l[i]:=by
 unfold cC;rw[if_pos (by omega),bE l hl]
theorem aV {α:Type}{n:Nat}{l:List α}(h:l.length=n):bM n l=some l:=by unfold bM;rw[if_pos h]
theorem aAu (N:Nat)(x n s:Int)(hs:bits .and .u64 (a16.wrap (a1R.wrap (0-n))) 31=s)(h0:0≤s)(h1:s≤32): ∃y,dL N x n=some y:=by
 unfold dL lX
 rw[hs,aHJ (a:=32-s) (by omega) (by omega)]
 unfold shl shr
 rw[if_neg (by omega),if_neg (by omega)]
 exact⟨_,rfl⟩
def rv (N:Nat)(x n:Int):Int:=(dL N x n).getD 0
theorem aDW {N:Nat}{x n:Int}(h: ∃y,dL N x n=some y):dL N x n=some (rv N x n):=by obtain⟨y,h⟩:=h;simp[rv,h]
theorem rv2 (N:Nat)(x:Int):dL N x 2=some (rv N x 2):=aDW (aAu N x 2 30 (by decide +kernel) (by omega) (by omega))
theorem rv6 (N:Nat)(x:Int):dL N x 6=some (rv N x 6):=aDW (aAu N x 6 26 (by decide +kernel) (by omega) (by omega))
theorem rv7 (N:Nat)(x:Int):dL N x 7=some (rv N x 7):=aDW (aAu N x 7 25 (by decide +kernel) (by omega) (by omega))
theorem a1h (N:Nat)(x:Int):dL N x 11=some (rv N x 11):=aDW (aAu N x 11 21 (by decide +kernel) (by omega) (by omega))
theorem a1z (N:Nat)(x:Int):dL N x 13=some (rv N x 13):=aDW (aAu N x 13 19 (by decide +kernel) (by omega) (by omega))
theorem a1C (N:Nat)(x:Int):dL N x 17=some (rv N x 17):=aDW (aAu N x 17 15 (by decide +kernel) (by omega) (by omega))
theorem a0V (N:Nat)(x:Int):dL N x 18=some (rv N x 18):=aDW (aAu N x 18 14 (by decide +kernel) (by omega) (by omega))
theorem a1e (N:Nat)(x:Int):dL N x 19=some (rv N x 19):=aDW (aAu N x 19 13 (by decide +kernel) (by omega) (by omega))
theorem a00 (N:Nat)(x:Int):dL N x 22=some (rv N x 22):=aDW (aAu N x 22 10 (by decide +kernel) (by omega) (by omega))
theorem a05 (N:Nat)(x:Int):dL N x 25=some (rv N x 25):=aDW (aAu N x 25 7 (by decide +kernel) (by omega) (by omega))
theorem a01 (x:Int):shr .u32 x 3=some (x.fdiv (2^(min (3:Int).toNat 32))):=by unfold shr;rw[if_neg (by omega)];rfl
theorem a0s (x:Int):shr .u32 x 10=some (x.fdiv (2^(min (10:Int).toNat 32))):=by unfold shr;rw[if_neg (by omega)];rfl
theorem sL3 (N:Nat): ∀(m j:Nat)(l:List Int),l.length=64→16≤j→j≤64→64-j<m→ ∃r,mR N m (j:Int) l=some r∧r.length=64
 |0,j,l,_,_,_,hm=>by omega
 |m+1,j,l,hl,h1,h2,hm=>by
  rw[mR]
  by_cases h:j<64
  ·rw[show decide ((j:Int)<64)=true from decide_eq_true (by omega),if_pos rfl]
   rw[w64 (a:=(j:Int)-15) (by omega) (by omega),show(j:Int)-15=((j-15:Nat):Int) by omega,dG (show j-15<64 by omega) (by omega)]
   rw[w64 (a:=(j:Int)-2) (by omega) (by omega),show(j:Int)-2=((j-2:Nat):Int) by omega,dG (show j-2<64 by omega) (by omega)]
   rw[w64 (a:=(j:Int)-16) (by omega) (by omega),show(j:Int)-16=((j-16:Nat):Int) by omega,dG (show j-16<64 by omega) (by omega)]
   rw[w64 (a:=(j:Int)-7) (by omega) (by omega),show(j:Int)-7=((j-7:Nat):Int) by omega,dG (show j-7<64 by omega) (by omega)]
   rw[dG h (by omega)]
   simp only[a1K,rv7,a0V,a1C,a1e,a01,a0s,i1 (show j≤100000 by omega)]
   exact sL3 N m (j+1) _ (by rw[a2b];exact hl) (by omega) (by omega) (by omega)
  rw[show decide ((j:Int)<64)=false from decide_eq_false (by omega)]
  exact⟨l,rfl,hl⟩
theorem cL2 (N:Nat)(st w:List Int)(hw:w.length=64): ∀(m j:Nat)(a b c d e f g h:Int),j≤64→64-j<m→ ∃r,mX N st w m a b c d e f g h (j:Int)=some r
 |0,j,_,_,_,_,_,_,_,_,_,hm=>by omega
 |m+1,j,a,b,c,d,e,f,g,h,hj,hm=>by
  rw[mX]
  by_cases h1:j<64
  ·rw[show decide ((j:Int)<64)=true from decide_eq_true (by omega),if_pos rfl,dG h1 (show j<aHU.length from h1),dG h1 (by omega)]
   simp only[a1K,rv2,rv6,a1h,a1z,a00,a05,i1 (show j≤100000 by omega)]
   exact cL2 N st w hw m (j+1) _ _ _ _ _ _ _ _ (by omega) (by omega)
  rw[show decide ((j:Int)<64)=false from decide_eq_false (by omega)]
  exact⟨_,rfl⟩
def wd (b:List Nat)(i:Nat):Nat:=((b.getD (4*i) 0*256+b.getD (4*i+1) 0)*256+b.getD (4*i+2) 0)*256+b.getD (4*i+3) 0
theorem aBe {b:List Nat}(h: ∀x∈b,x<256)(i:Nat):b.getD i 0<256:=by
 rw[List.getD_eq_getElem?_getD]
 rcases a2F i b.length with hi|hi
 ·rw[a1Z hi];exact h _ (a1M hi)
 rw[a2V hi];simp
theorem aNJ (a b k:Nat)(h:b<2^k):a*2^k ||| b=a*2^k+b:=by
 rw[Nat.mul_comm,←Nat.two_pow_add_eq_or_of_lt h]
theorem orU (a b:Nat)(ha:a<4294967296)(hb:b<4294967296):bits .or .u32 (a:Int) (b:Int)=((a ||| b:Nat):Int):=aMb rfl a b ha hb
theorem aZK (a b:Nat):shl .u32 (a:Int) (b:Int)=some ((a*2^b%4294967296:Nat):Int):=aSs rfl a b
theorem aLb {b:List Nat}{i:Nat}(hl:b.length=64)(hi:i<64):cC 64 (iN b) (i:Int)=some ((b.getD i 0:Nat):Int):=by
 rw[dG hi (by rw[aNM];omega)]
 have h1:i<b.length:=by omega
 simp[iN,h1]
theorem aJb (n:Nat)(h:n<4294967296):a13.wrap (n:Int)=n:=aZO (by omega) (by omega)
def aI6 (b:List Nat)(j:Nat)(l:List Int):List Int:=(a2o j (16-j)).foldl (fun l i=>l.set i ((wd b i:Nat):Int)) l
theorem aT2 (b:List Nat)(j:Nat)(l:List Int):(aI6 b j l).length=l.length:=by
 unfold aI6
 generalize a2o j (16-j)=r
 induction r generalizing l with
 |nil=>rfl
 |cons x r ih=>rw[a2C,ih,a2b]
section
variable (N:Nat)(b:List Nat)(hl:b.length=64)(hb: ∀x∈b,x<256)
include hl hb
theorem sL6 (i:Nat)(hi:i<16)(m j:Nat)(hj:j<4)(l:List Int)(hll:l.length=64)(v:Nat)(hv:v<16777216)(hli:l[i]? =some (v:Int)):
  fQ N (iN b) (i:Int) (m+1) (j:Int) l=fQ N (iN b) (i:Int) m ((j+1:Nat):Int) (l.set i ((v*256+b.getD (4*i+j) 0:Nat):Int)):=by
 have hil:i<l.length:=by omega
 have hbl:=aBe hb (4*i+j)
 rw[fQ,show decide ((j:Int)<4)=true from decide_eq_true (by omega),if_pos rfl,dG (show i<64 by omega) hil]
 rw[a1Z hil]at hli
 rw[Option.some.inj hli,w64 (a:=4*(i:Int)) (by omega) (by omega),w64 (a:=4*(i:Int)+(j:Int)) (by omega) (by omega),show 4*(i:Int)+(j:Int)=((4*i+j:Nat):Int) by omega,aLb hl (by omega)]
 rw[show(8:Int)=((8:Nat):Int)from rfl]
 simp only[a1K,aZK,a1W,i1 (show j≤100000 by omega)]
 rw[aJb _ (by omega),orU _ _ (a2B _ (by omega)) (by omega),a2m (by omega),aNJ _ _ 8 (by omega)]
theorem aXi (i:Nat)(hi:i<16)(l:List Int)(hll:l.length=64)(hli:l[i]? =some 0)(hN:10≤N):fQ N (iN b) (i:Int) N 0 l=some (l.set i ((wd b i:Nat):Int)):=by
 have g0:=aBe hb (4*i)
 have g1:=aBe hb (4*i+1)
 have g2:=aBe hb (4*i+2)
 have hil:i<l.length:=by omega
 obtain⟨m,hm⟩: ∃m,N=m+5:=⟨N-5,by omega⟩
 have hfu: ∀k,fQ N (iN b) (i:Int) N k l=fQ N (iN b) (i:Int) (m+1+1+1+1+1) k l:=fun k=>by
  have:N=m+1+1+1+1+1:=by omega
  exact congrArg (fun q=>fQ N (iN b) (i:Int) q k l) this
 rw[hfu,show(0:Int)=((0:Nat):Int)from rfl,sL6 N b hl hb i hi _ 0 (by omega) l hll 0 (by omega) hli]
 rw[sL6 N b hl hb i hi _ 1 (by omega) _ (by rw[a2b];exact hll) (0*256+b.getD (4*i+0) 0) (by simp only[a2W];omega) (a2v hil),a3b]
 rw[sL6 N b hl hb i hi _ 2 (by omega) _ (by rw[a2b];exact hll) _ (by simp only[a2W];omega) (a2v hil),a3b]
 rw[sL6 N b hl hb i hi _ 3 (by omega) _ (by rw[a2b];exact hll) _ (by simp only[a2W];omega) (a2v hil),a3b]
 rw[fQ]
 simp only[Nat.reduceAdd,show decide (((4:Nat):Int)<4)=false from rfl,a1P,if_false,wd,Nat.zero_mul,Nat.zero_add,a2W]
omit hl hb in
theorem aN9 {f:Nat→Int→List Int→Option (List Int)}(hs: ∀(m j:Nat) (l:List Int),j<16→l.length=64→l[j]? =some 0→f (m+1) (j:Int) l=f m ((j+1:Nat):Int) (l.set j ((wd b j:Nat):Int)))(he: ∀m l,f (m+1) 16 l=some l):
  ∀(m j:Nat)(l:List Int),16-j<m→j≤16→l.length=64→(∀i,j≤i→i<64→l[i]? =some 0)→f m (j:Int) l=some (aI6 b j l)
 |0,j,l,hm,_,_,_=>by omega
 |m+1,j,l,hm,hj,hll,hz=>by
  by_cases h:j<16
  ·rw[hs m j l h hll (hz j (a2j _) (by omega)),aN9 hs he m (j+1) _ (by omega) (by omega) (by rw[a2b];exact hll) (fun i h1 h2=>by rw[List.getElem?_set_ne (by omega)];exact hz i (by omega) h2)]
   unfold aI6
   rw[show 16-j=(16-(j+1))+1 by omega,a2c,a2C]
  obtain rfl:j=16:=by omega
  exact he m l
theorem sL4 (hN:70000≤N):kP N (iN b) N 0 (a1N 64 0)=some (aI6 b 0 (a1N 64 0)):=by
 refine aN9 b (f:=kP N (iN b)) (fun m j l hj hll hz=> ?_) (fun m l=>by rw[kP];rfl) N 0 _ (by omega) (by omega) (by simp) (fun i _ hi=>by rw[a2q,if_pos hi])
 rw[kP,show decide ((j:Int)<16)=true from decide_eq_true (by omega),if_pos rfl,aXi N b hl hb j hj l hll hz (by omega)]
 simp only[a1K,aBQ,i1 (show j≤100000 by omega)]
end
section
variable (N:Nat)(hN:70000≤N)(b:List Nat)(hl:b.length=64)(hb: ∀x∈b,x<256)
include hN hl hb
theorem aW0 : ∃w,sX N (iN b)=some w∧w.length=64:=by
 obtain⟨w,h1,h2⟩:=sL3 N N 16 (aI6 b 0 (a1N 64 0)) (by rw[aT2];simp) (by omega) (by omega) (by omega)
 rw[show((16:Nat):Int)=16 from rfl]at h1
 refine⟨w, ?_,h2⟩
 simp only[sX,sL4 N b hl hb hN,a1K,v8,h1,vR,aV h2]
theorem aVW (st:List Int)(hst:st.length=8): ∃r,mB N st (iN b)=some r∧r.length=8:=by
 obtain⟨w,h1,h2⟩:=aW0 N hN b hl hb
 have hbl:(iN b).length=64:=by rw[aNM];exact hl
 have a0:cC 8 st 0=some st[0]:=dG (i:=0) (by omega) (by omega)
 have a1:cC 8 st 1=some st[1]:=dG (i:=1) (by omega) (by omega)
 have a2:cC 8 st 2=some st[2]:=dG (i:=2) (by omega) (by omega)
 have a3:cC 8 st 3=some st[3]:=dG (i:=3) (by omega) (by omega)
 have a4:cC 8 st 4=some st[4]:=dG (i:=4) (by omega) (by omega)
 have a5:cC 8 st 5=some st[5]:=dG (i:=5) (by omega) (by omega)
 have a6:cC 8 st 6=some st[6]:=dG (i:=6) (by omega) (by omega)
 have a7:cC 8 st 7=some st[7]:=dG (i:=7) (by omega) (by omega)
 obtain⟨r,hr⟩:=cL2 N st w h2 N 0 st[0] st[1] st[2] st[3] st[4] st[5] st[6] st[7] (by omega) (by omega)
 rw[show((0:Nat):Int)=0 from rfl]at hr
 refine⟨[a13.wrap (st[0]+r.1),a13.wrap (st[1]+r.2.1),a13.wrap (st[2]+r.2.2.1),a13.wrap (st[3]+r.2.2.2.1),a13.wrap (st[4]+r.2.2.2.2.1),a13.wrap (st[5]+r.2.2.2.2.2.1),a13.wrap (st[6]+r.2.2.2.2.2.2.1),a13.wrap (st[7]+r.2.2.2.2.2.2.2)], ?_,rfl⟩
 simp only[mB,aV hbl,h1,aV h2,a0,a1,a2,a3,a4,a5,a6,a7,a1K,hr,vV]
end
def beG (n i:Nat):Int:=a17.wrap ((a16.wrap (8*(n:Int))).fdiv (2^(56-8*i)))
def zer (n:Nat):Nat:=(64-(n+9)%64)%64
def yD (n:Nat):List Int:=(128::a1N (zer n) 0)++(a2o 0 8).map (beG n)
theorem aQr (n:Nat):(yD n).length=9+zer n:=by simp[yD];omega
theorem aCu (x:Int):0≤a17.wrap x∧a17.wrap x<256:=by rw[a2D];omega
theorem aQG (n:Nat):Byt (yD n):=by
 intro x hx
 simp only[yD,a11,a14,List.mem_replicate,a2d]at hx
 rcases hx with(rfl|⟨_,rfl⟩)|⟨i,_,rfl⟩
 ·omega
 ·omega
 exact aCu _
theorem aWH (a:Int)(s:Nat)(h:s≤64):shr .u64 a (s:Int)=some (a.fdiv (2^s)):=by
 unfold shr
 rw[if_neg (by omega),a1W,show min s a16.bits=s from a2X h]
theorem aQu (N n:Nat): ∀(k m:Nat)(acc:List Int),k≤8→k<m→acc.length+k≤1000→aB2 N (n:Int) m ((8-k:Nat):Int) acc=some (acc++(a2o (8-k) k).map (beG n))
 |0,m,acc,_,hm,_=>by
  obtain⟨m,rfl⟩: ∃q,m=q+1:=⟨m-1,by omega⟩
  rw[aB2,show decide (((8-0:Nat):Int)<8)=false from rfl];simp
 |k+1,m,acc,hk,hm,ha=>by
  obtain⟨m,rfl⟩: ∃q,m=q+1:=⟨m-1,by omega⟩
  rw[aB2,show decide (((8-(k+1):Nat):Int)<8)=true from decide_eq_true (by omega),if_pos rfl]
  rw[w64 (a:=8*((8-(k+1):Nat):Int)) (by omega) (by omega),w64 (a:=56-8*((8-(k+1):Nat):Int)) (by omega) (by omega),show 56-8*((8-(k+1):Nat):Int)=((56-8*(8-(k+1)):Nat):Int) by omega,aWH _ _ (by omega)]
  simp only[a1K]
  rw[jM (by simp;omega)]
  simp only[a1K,i1 (show 8-(k+1)≤100000 by omega)]
  rw[show 8-(k+1)+1=8-k by omega,aQu N n k m _ (by omega) (by omega) (by simp;omega),a2c,a2P,show 8-(k+1)+1=8-k by omega,a1U]
  rfl
theorem a0Y (z:Nat):(a1N (1+z) (0:Int)).set 0 128=128::a1N z 0:=by rw[Nat.add_comm,a2p];rfl
theorem a1f (N:Nat)(hN:70000≤N)(n:Nat)(hn:n≤1000000000):aLH N (n:Int)=some (yD n):=by
 have hz:zer n<64:=a2B _ (by omega)
 have hlim:=w7
 unfold aLH
 rw[aHJ (a:=(n:Int)+9) (by omega) (by omega),show(n:Int)+9=((n+9:Nat):Int) by omega,show(64:Int)=((64:Nat):Int)from rfl,jK]
 have h1:(n+9)%64<64:=a2B _ (by omega)
 rw[aHJ (a:=((64:Nat):Int)-(((n+9)%64:Nat):Int)) (by omega) (by omega),show((64:Nat):Int)-(((n+9)%64:Nat):Int)=((64-(n+9)%64:Nat):Int) by omega,jK]
 rw[show((64-(n+9)%64)%64:Nat)=zer n from rfl,aHJ (a:=1+((zer n:Nat):Int)) (by omega) (by omega),aHJ (a:=9+((zer n:Nat):Int)) (by omega) (by omega)]
 have hm:mkl 1 (0:Int) (1+((zer n:Nat):Int)) (9+((zer n:Nat):Int))=some (a1N (1+zer n) 0):=by
  unfold mkl
  rw[if_pos ⟨by omega,by omega,by omega⟩,show(1+((zer n:Nat):Int)).toNat=1+zer n by omega]
 have h0:aW (a1N (1+zer n) (0:Int)) 0=some 0:=by
  rw[show(0:Int)=((0:Nat):Int)from rfl,aSf,a2q,if_pos (by omega)]
 simp only[hm,a1K,h0,Int.toNat_zero,a0Y]
 have:=aQu N n 8 N (128::a1N (zer n) 0) (by omega) (by omega) (by simp;omega)
 rw[show((8-8:Nat):Int)=0 from rfl]at this
 rw[this];rfl
theorem aRl {f:Nat→Int→List Int→Option (List Int)}(l:List (List Int))(hn:l.length≤1000)(ht:l.flatten.length≤50000000)
  (hs: ∀m j acc (hj:j<l.length),acc.length+l[j].length≤50000000→f (m+1) (j:Int) acc=f m ((j+1:Nat):Int) (acc++l[j])) (he: ∀m j acc,l.length≤j→f (m+1) (j:Int) acc=some acc) (N:Nat) (hN:70000≤N):
  f N 0 []=some l.flatten:=by
 have hfl:l.flatMap id=l.flatten:=by simp
 have:=n5 (f:=f) (xs:=l) (g:=id) (B:=50000000) (by omega) hs he N 0 [] (by omega) (by omega) (by rw[a1S,hfl];simpa using ht)
 rw[a1S,hfl]at this
 simpa using this
theorem aYL (N:Nat)(hN:70000≤N)(l:List (List Int))(hn:l.length≤1000)(ht:l.flatten.length≤50000000):aIq N l=some l.flatten:=by
 have:=aRl (f:=aB5 N l) l hn ht (fun m j acc hj hB=>by
  rw[aB5,dT hj,if_pos rfl,bE l hj,a1K,jM (by omega)]
  simp only[a1K,i1 (show j≤100000 by omega)]) (fun m j acc hj=>by rw[aB5,dF (by omega)];rfl) N hN
 unfold aIq
 rw[this];rfl
def cmp (N:Nat)(st blk:List Int):List Int:=(mB N st blk).getD []
def wK (msg:List Int)(i:Nat):List Int:=(msg.drop (64*i)).take 64
theorem aMq {l:List Int}(h:Byt l)(k:Nat):Byt (l.take k):=fun x hx=>h x (a2f hx)
theorem aMW {l:List Int}(h:Byt l)(k:Nat):Byt (l.drop k):=fun x hx=>h x (a24 hx)
theorem aTB (N:Nat)(hN:70000≤N)(st blk:List Int)(hst:st.length=8)(hb:Byt blk)(hl:blk.length=64):mB N st blk=some (cmp N st blk)∧(cmp N st blk).length=8:=by
 obtain⟨b,rfl,h2⟩:=aSd hb
 obtain⟨r,h3,h4⟩:=aVW N hN b (by rw[aNM]at hl;exact hl) h2 st hst
 have:cmp N st (iN b)=r:=by simp[cmp,h3]
 rw[this];exact⟨h3,h4⟩
def rounds (N:Nat)(msg st:List Int)(j k:Nat):List Int:=(a2o j k).foldl (fun s i=>cmp N s (wK msg i)) st
section
variable (N:Nat)(hN:70000≤N)(msg:List Int)(hb:Byt msg)(hl:msg.length≤2000000)
include hN hb hl
theorem aMt : ∀(m j:Nat)(st:List Int),msg.length/64-j<m→j≤msg.length/64→st.length=8→aFo N msg m (j:Int) st=some (rounds N msg st j (msg.length/64-j))∧(rounds N msg st j (msg.length/64-j)).length=8
 |0,j,st,hm,_,_=>by omega
 |m+1,j,st,hm,hj,hst=>by
  rw[aFo,show(64:Int)=((64:Nat):Int)from rfl,tS,w64 (a:=((msg.length/64:Nat):Int)) (by omega) (by omega)]
  by_cases h:j<msg.length/64
  ·have hlen:(wK msg j).length=64:=by simp[wK];omega
   obtain⟨c1,c2⟩:=aTB N hN st (wK msg j) hst (aMq (aMW hb _) _) hlen
   rw[dT h,if_pos rfl,aV hst,w64 (a:=((64:Nat):Int)*(j:Int)) (by omega) (by omega)]
   have e1:sub msg (((64:Nat):Int)*(j:Int)) (msg.length:Int)=some (msg.drop (64*j)):=by
    unfold sub
    rw[if_pos ⟨by omega,by omega,by omega⟩,show(((64:Nat):Int)*(j:Int)).toNat=64*j by omega,a1W,a2i (a2j _)]
   have e2:arp 64 (msg.drop (64*j))=some (wK msg j):=by unfold arp;rw[if_pos (by simp;omega)];rfl
   simp only[e1,e2,c1,aV c2,a1K,i1 (show j≤100000 by omega)]
   obtain⟨i1',i2'⟩:=aMt m (j+1) _ (by omega) (by omega) c2
   have er:rounds N msg st j (msg.length/64-j)=rounds N msg (cmp N st (wK msg j)) (j+1) (msg.length/64-(j+1)):=by
    unfold rounds
    rw[show msg.length/64-j=(msg.length/64-(j+1))+1 by omega,a2c,a2C]
   rw[er]
   exact⟨i1',i2'⟩
  rw[dF h,show msg.length/64-j=0 by omega]
  exact⟨rfl,hst⟩
end
def xK (st:List Int)(i:Nat):Int:=a17.wrap ((st.getD (i/4) 0).fdiv (2^(24-8*(i%4))))
def aJK (st:List Int):List Int:=(a10 32).map (xK st)
theorem aML (st:List Int):(aJK st).length=32:=by simp[aJK]
theorem aUH (st:List Int):Byt (aJK st):=by
 intro x hx
 simp only[aJK,a2d]at hx
 obtain⟨i,_,rfl⟩:=hx
 exact aCu _
theorem aEm (g:Nat→Int)(w j:Nat)(hj:j<w):((a10 j).map g++a1N (w-j) 0).set j (g j)=(a10 (j+1)).map g++a1N (w-(j+1)) 0:=by
 rw[a2Y _ _ (by simp),show w-j=(w-(j+1))+1 by omega,a2p,a2Z,a2g,a1U]
 simp
theorem aPY (a:Int)(s:Nat)(h:s≤32):shr .u32 a (s:Int)=some (a.fdiv (2^s)):=by
 unfold shr
 rw[if_neg (by omega),a1W,show min s a13.bits=s from a2X h]
theorem aYn {st:List Int}(hst:st.length=8){i:Nat}(h:i<8):cC 8 st (i:Int)=some (st.getD i 0):=by
 have:i<st.length:=by omega
 rw[dG h this];simp[this]
section
variable (N:Nat)(hN:70000≤N)(st:List Int)(hst:st.length=8)
include hN hst
theorem aRM : ∀(m j:Nat),32-j<m→j≤32→aFl N st m (j:Int) ((a10 j).map (xK st)++a1N (32-j) 0)=some (aJK st)
 |0,j,hm,_=>by omega
 |m+1,j,hm,hj=>by
  rw[aFl]
  by_cases h:j<32
  ·rw[show decide ((j:Int)<32)=true from decide_eq_true (by omega),if_pos rfl,show(4:Int)=((4:Nat):Int)from rfl,tS,jK,w64 (a:=((j/4:Nat):Int)) (by omega) (by omega),aYn hst (by omega)]
   rw[w64 (a:=((j%4:Nat):Int)*8) (by omega) (by omega),w64 (a:=24-((j%4:Nat):Int)*8) (by omega) (by omega),show 24-((j%4:Nat):Int)*8=((24-8*(j%4):Nat):Int) by omega]
   simp only[a1K]
   rw[aPY _ _ (by omega),dG h (by simp;omega)]
   simp only[a1K,a1W,i1 (show j≤100000 by omega)]
   have:=aEm (xK st) 32 j h
   rw[show a17.wrap ((st.getD (j/4) 0).fdiv (2^(24-8*(j%4))))=xK st j from rfl,this]
   exact aRM m (j+1) (by omega) (by omega)
  obtain rfl:j=32:=by omega
  rw[show decide (((32:Nat):Int)<32)=false from rfl]
  simp[aJK]
end
def sha256 (N:Nat)(b:List Int):List Int:=aJK (rounds N (b++yD b.length) aAW 0 ((b++yD b.length).length/64))
theorem dA (N:Nat)(b:List Int):(sha256 N b).length=32:=aML _
theorem gR (N:Nat)(b:List Int):Byt (sha256 N b):=aUH _
theorem aIt (N:Nat)(hN:70000≤N)(b:List Int)(hb:Byt b)(hl:b.length≤1000000):yX N b=some (sha256 N b):=by
 have hz:zer b.length<64:=a2B _ (by omega)
 have hpl:=aQr b.length
 have hmb:Byt (b++yD b.length):=hb.append (aQG _)
 have hml:(b++yD b.length).length≤2000000:=by rw[a1L];omega
 obtain⟨s1,s2⟩:=aMt N hN _ hmb hml N 0 aAW (by omega) (by omega) rfl
 rw[show((0:Nat):Int)=0 from rfl,a2h]at s1
 rw[a2h]at s2
 have hw:a16.wrap (b.length:Int)=(b.length:Int):=aHJ (by omega) (by omega)
 have o:=aRM N hN (rounds N (b++yD b.length) aAW 0 ((b++yD b.length).length/64)) s2 N 0 (by omega) (by omega)
 simp only[a2E,a21,a1O,a2h]at o
 rw[show((0:Nat):Int)=0 from rfl]at o
 simp only[yX,hw,a1f N hN b.length (by omega),a1K]
 rw[aYL N hN [b,yD b.length] (by simp) (by simp;omega)]
 simp only[a1K,a2l,a2n,a2k,s1,aJf,o,aI5,aV (aML _)]
 rfl
theorem aL0 (s:ByteArray):Byt (bytesOf s):=by
 intro x hx
 unfold bytesOf at hx
 simp only[a2d]at hx
 obtain⟨b,_,rfl⟩:=hx
 have:=b.toNat_lt
 omega
def aRA (N:Nat)(tag:ByteArray)(b:List Int):List Int:=sha256 N (sha256 N (bytesOf tag)++(sha256 N (bytesOf tag)++b))
theorem aFv (N:Nat)(tag:ByteArray)(b:List Int):(aRA N tag b).length=32:=dA _ _
theorem aUb (N:Nat)(hN:70000≤N)(tag:ByteArray)(ht:tag.size≤1000)(b:List Int)(hb:Byt b)(hl:b.length≤900000):aFx N tag b=some (aRA N tag b):=by
 have hlim:=w7
 have hs:stb tag=some (bytesOf tag):=by unfold stb;rw[if_pos (by omega)]
 have s1:=aIt N hN (bytesOf tag) (aL0 tag) (by rw[aAm];omega)
 have l1:=dA N (bytesOf tag)
 have t1:=aIt N hN (sha256 N (bytesOf tag)++(sha256 N (bytesOf tag)++b)) ((gR _ _).append ((gR _ _).append hb)) (by simp only[a1L,l1];omega)
 simp only[aFx,hs,s1,a1K,aV l1]
 rw[aYL N hN _ (by simp) (by simp[l1];omega)]
 simp only[a1K,a2l,a2n,a2k,t1,aV (dA N _)]
 rfl
section
variable (N:Nat)(b:List Nat)(hl:b.length=64)(hb: ∀x∈b,x<256)
include hl hb
theorem a1u (hN:70000≤N):kV N (iN b) N 0 (a1N 64 0)=some (aI6 b 0 (a1N 64 0)):=by
 refine aN9 b (f:=kV N (iN b)) (fun m j l hj hll hz=> ?_) (fun m l=>by rw[kV];rfl) N 0 _ (by omega) (by omega) (by simp) (fun i _ hi=>by rw[a2q,if_pos hi])
 have g0:=aBe hb (4*j)
 have g1:=aBe hb (4*j+1)
 have g2:=aBe hb (4*j+2)
 have g3:=aBe hb (4*j+3)
 rw[kV,show decide ((j:Int)<16)=true from decide_eq_true (by omega),if_pos rfl]
 rw[w64 (a:=4*(j:Int)) (by omega) (by omega),w64 (a:=4*(j:Int)+1) (by omega) (by omega),w64 (a:=4*(j:Int)+2) (by omega) (by omega),w64 (a:=4*(j:Int)+3) (by omega) (by omega)]
 rw[show 4*(j:Int)=((4*j:Nat):Int) by omega,show((4*j:Nat):Int)+1=((4*j+1:Nat):Int) by omega,show((4*j:Nat):Int)+2=((4*j+2:Nat):Int) by omega,show((4*j:Nat):Int)+3=((4*j+3:Nat):Int) by omega]
 rw[aLb hl (by omega),aLb hl (by omega),aLb hl (by omega),aLb hl (by omega),dG (show j<64 by omega) (by omega)]
 rw[show(24:Int)=((24:Nat):Int)from rfl,show(16:Int)=((16:Nat):Int)from rfl,show(8:Int)=((8:Nat):Int)from rfl]
 simp only[a1K,a1W,i1 (show j≤100000 by omega),aJb _ (show b.getD (4*j) 0<4294967296 by omega),aJb _ (show b.getD (4*j+1) 0<4294967296 by omega),aJb _ (show b.getD (4*j+2) 0<4294967296 by omega),aJb _ (show b.getD (4*j+3) 0<4294967296 by omega),aZK]
 congr 2
 unfold wd
 generalize b.getD (4*j) 0=a0 at *
 generalize b.getD (4*j+1) 0=a1 at *
 generalize b.getD (4*j+2) 0=a2 at *
 generalize b.getD (4*j+3) 0=a3 at *
 rw[a2m (show a0*2^24<4294967296 by omega),a2m (show a1*2^16<4294967296 by omega),a2m (show a2*2^8<4294967296 by omega)]
 rw[orU _ _ (by omega) (by omega),aNJ a0 _ 24 (by omega)]
 rw[show a0*2^24+a1*2^16=(a0*2^8+a1)*2^16 by omega,orU _ _ (by omega) (by omega),aNJ _ (a2*2^8) 16 (by omega)]
 rw[show(a0*2^8+a1)*2^16+a2*2^8=((a0*2^8+a1)*2^8+a2)*2^8 by omega,orU _ _ (by omega) (by omega),aNJ _ a3 8 (by omega)]
end
theorem aPf (N:Nat)(x n:Int):jH N x n=dL N x n:=rfl
theorem aSE (N:Nat): ∀(m:Nat)(i:Int)(l:List Int),r8 N m i l=mR N m i l
 |0,_,_=>rfl
 |m+1,i,l=>by simp only[r8,mR,aPf,aSE N m]
theorem aRv (N:Nat)(st w:List Int): ∀(m:Nat)(a b c d e f g h i:Int),sB N st w aHU m a b c d e f g h i=mX N st w m a b c d e f g h i
 |0,_,_,_,_,_,_,_,_,_=>rfl
 |m+1,a,b,c,d,e,f,g,h,i=>by simp only[sB,mX,aPf,aRv N st w m]
section
variable (N:Nat)(hN:70000≤N)(b:List Nat)(hl:b.length=64)(hb: ∀x∈b,x<256)
include hN hl hb
theorem aS4 :zC N (iN b)=sX N (iN b):=by
 simp only[zC,sX,a1u N b hl hb hN,sL4 N b hl hb hN,a1K,aAc,v8,aSE,zZ,vR]
theorem aPH (st:List Int):tH N st (iN b)=mB N st (iN b):=by
 obtain⟨w,h1,h2⟩:=aW0 N hN b hl hb
 have hK:vS N=some aHU:=rfl
 have hKl:bM 64 aHU=some aHU:=rfl
 simp only[tH,mB,aS4 N hN b hl hb,h1,hK,hKl,a1K,aRv,aAe,vV]
end
theorem aOI (N n:Nat): ∀(k m:Nat)(acc:List Int),k≤8→k<m→acc.length+k≤1000→xP N (n:Int) m ((k:Int)-1) acc=some (acc++(a2o (8-k) k).map (beG n))
 |0,m,acc,_,hm,_=>by
  obtain⟨m,rfl⟩: ∃q,m=q+1:=⟨m-1,by omega⟩
  rw[xP,show decide ((0:Int)≤((0:Nat):Int)-1)=false from rfl];simp
 |k+1,m,acc,hk,hm,ha=>by
  obtain⟨m,rfl⟩: ∃q,m=q+1:=⟨m-1,by omega⟩
  rw[xP,show decide ((0:Int)≤((k+1:Nat):Int)-1)=true from decide_eq_true (by omega),if_pos rfl]
  rw[w64 (a:=8*(((k+1:Nat):Int)-1)) (by omega) (by omega),show 8*(((k+1:Nat):Int)-1)=((56-8*(8-(k+1)):Nat):Int) by omega,aWH _ _ (by omega)]
  simp only[a1K]
  rw[jM (by simp;omega)]
  simp only[a1K]
  rw[w64 (a:=((k+1:Nat):Int)-1-1) (by omega) (by omega),show((k+1:Nat):Int)-1-1=(k:Int)-1 by omega,aOI N n k m _ (by omega) (by omega) (by simp;omega),a2c,a2P,show 8-(k+1)+1=8-k by omega,a1U]
  rfl
theorem aOP (N n:Nat)(hn:n≤1000000000): ∀(z m:Nat)(l:List Int),z<64→z<m→l.length+z≤1000→(n+l.length+8+z)%64=0→aB4 N (n:Int) m l=some (l++a1N z 0)
 |z,0,l,_,hm,_,_=>by omega
 |z,m+1,l,hz,hm,hl,he=>by
  rw[aB4,aHJ (a:=(l.length:Int)) (by omega) (by omega),aHJ (a:=(n:Int)+(l.length:Int)) (by omega) (by omega),aHJ (a:=(n:Int)+(l.length:Int)+8) (by omega) (by omega)]
  rw[show(n:Int)+(l.length:Int)+8=((n+l.length+8:Nat):Int) by omega,show(64:Int)=((64:Nat):Int)from rfl,jK]
  match z with
  |0=>
   rw[show(n+l.length+8)%64=0 by simpa using he]
   simp
  |z+1=>
   have hne:(n+l.length+8)%64≠0:=by omega
   rw[show((((n+l.length+8)%64:Nat):Int) != 0)=true by simp;omega,if_pos rfl,jM (by simp;omega)]
   simp only[a1K]
   rw[aOP N n hn z m _ (by omega) (by omega) (by simp;omega) (by simp;omega),a2p,a1U]
   rfl
theorem a06 (N:Nat)(hN:70000≤N)(n:Nat)(hn:n≤1000000000):aG9 N (n:Int)=some (yD n):=by
 have hz:zer n<64:=a2B _ (by omega)
 have h2:(n+1+8+zer n)%64=0:=by unfold zer;omega
 unfold aG9
 rw[aOP N n hn (zer n) N [128] hz (by omega) (by simp;omega) (by simpa using h2)]
 simp only[a1K,aGN]
 have:=aOI N n 8 N ([128]++a1N (zer n) 0) (by omega) (by omega) (by simp;omega)
 rw[show((8:Nat):Int)-1=7 from rfl]at this
 rw[this];rfl
section
variable (N:Nat)(hN:70000≤N)(msg:List Int)(hb:Byt msg)(hl:msg.length≤2000000)
include hN hb hl
theorem aOW : ∀(m j:Nat)(st:List Int),msg.length/64-j<m→j≤msg.length/64→st.length=8→aBC N msg m ((64*j:Nat):Int) st=some (rounds N msg st j (msg.length/64-j))
 |0,j,st,hm,_,_=>by omega
 |m+1,j,st,hm,hj,hst=>by
  rw[aBC,w64 (a:=((64*j:Nat):Int)+64) (by omega) (by omega)]
  by_cases h:j<msg.length/64
  ·have hlen:(wK msg j).length=64:=by simp[wK];omega
   obtain⟨c1,c2⟩:=aTB N hN st (wK msg j) hst (aMq (aMW hb _) _) hlen
   have c3:tH N st (wK msg j)=some (cmp N st (wK msg j)):=by
    obtain⟨bn,e1,e2⟩:=aSd (aMq (aMW hb (64*j)) 64)
    have e3:wK msg j=iN bn:=e1
    rw[e3]at c1 hlen⊢
    rw[aPH N hN bn (by rw[aNM]at hlen;exact hlen) e2]
    exact c1
   rw[show decide (((64*j:Nat):Int)+64≤(msg.length:Int))=true from decide_eq_true (by omega),if_pos rfl]
   have e1:sub msg ((64*j:Nat):Int) (msg.length:Int)=some (msg.drop (64*j)):=by
    unfold sub
    rw[if_pos ⟨by omega,by omega,by omega⟩,a1W,a1W,a2i (a2j _)]
   have e2:cpy (a1N 64 (0:Int)) (msg.drop (64*j))=wK msg j:=by
    unfold cpy wK
    rw[List.length_replicate,show List.drop (msg.drop (64*j)).length (a1N 64 (0:Int))=[]from a1V (by simp;omega),a2k]
   simp only[e1,e2,a1K,aV hst,aV hlen,c3,aV c2]
   rw[show((64*j:Nat):Int)+64=((64*(j+1):Nat):Int) by omega,aOW m (j+1) _ (by omega) (by omega) c2]
   unfold rounds
   rw[show msg.length/64-j=(msg.length/64-(j+1))+1 by omega,a2c,a2C]
  rw[show decide (((64*j:Nat):Int)+64≤(msg.length:Int))=false from decide_eq_false (by omega),show msg.length/64-j=0 by omega]
  rfl
end
section
variable (N:Nat)(hN:70000≤N)(st:List Int)(hst:st.length=8)
include hN hst
theorem aPj : ∀(m j:Nat),8-j<m→j≤8→aBF N st m (j:Int) ((a10 (4*j)).map (xK st)++a1N (32-4*j) 0)=some (aJK st)
 |0,j,hm,_=>by omega
 |m+1,j,hm,hj=>by
  rw[aBF]
  by_cases h:j<8
  ·rw[show decide ((j:Int)<8)=true from decide_eq_true (by omega),if_pos rfl,aYn hst h]
   rw[w64 (a:=4*(j:Int)) (by omega) (by omega),w64 (a:=4*(j:Int)+1) (by omega) (by omega),w64 (a:=4*(j:Int)+2) (by omega) (by omega),w64 (a:=4*(j:Int)+3) (by omega) (by omega)]
   rw[show 4*(j:Int)=((4*j:Nat):Int) by omega,show((4*j:Nat):Int)+1=((4*j+1:Nat):Int) by omega,show((4*j:Nat):Int)+2=((4*j+2:Nat):Int) by omega,show((4*j:Nat):Int)+3=((4*j+3:Nat):Int) by omega]
   rw[show(24:Int)=((24:Nat):Int)from rfl,show(16:Int)=((16:Nat):Int)from rfl]
   simp only[a1K,a1W,i1 (show j≤100000 by omega)]
   rw[show(8:Int)=((8:Nat):Int)from rfl,aPY _ 24 (by omega),aPY _ 16 (by omega),aPY _ 8 (by omega)]
   simp only[a1K]
   have o0:a17.wrap ((st.getD j 0).fdiv (2^24))=xK st (4*j):=by unfold xK;rw[show 4*j/4=j by omega,show 4*j%4=0 by omega]
   have o1:a17.wrap ((st.getD j 0).fdiv (2^16))=xK st (4*j+1):=by unfold xK;rw[show(4*j+1)/4=j by omega,show(4*j+1)%4=1 by omega]
   have o2:a17.wrap ((st.getD j 0).fdiv (2^8))=xK st (4*j+2):=by unfold xK;rw[show(4*j+2)/4=j by omega,show(4*j+2)%4=2 by omega]
   have o3:a17.wrap (st.getD j 0)=xK st (4*j+3):=by
    unfold xK;rw[show(4*j+3)/4=j by omega,show(4*j+3)%4=3 by omega]
    congr 1
    generalize st.getD j 0=x
    simp
   rw[o0,o1,o2,o3,aEm (xK st) 32 (4*j) (by omega),aEm (xK st) 32 (4*j+1) (by omega),aEm (xK st) 32 (4*j+2) (by omega),aEm (xK st) 32 (4*j+3) (by omega)]
   rw[dG (show 4*j<32 by omega) (by simp;omega),dG (show 4*j+1<32 by omega) (by simp;omega),dG (show 4*j+2<32 by omega) (by simp;omega),dG (show 4*j+3<32 by omega) (by simp;omega)]
   simp only[a1K]
   exact aPj m (j+1) (by omega) (by omega)
  obtain rfl:j=8:=by omega
  rw[show decide (((8:Nat):Int)<8)=false from rfl]
  simp[aJK]
end
theorem zD (N:Nat)(hN:70000≤N)(b:List Int)(hb:Byt b)(hl:b.length≤1000000):mE N b=some (sha256 N b):=by
 have hz:zer b.length<64:=a2B _ (by omega)
 have hpl:=aQr b.length
 have hmb:Byt (b++yD b.length):=hb.append (aQG _)
 have hml:(b++yD b.length).length≤2000000:=by rw[a1L];omega
 obtain⟨s1,s2⟩:=aMt N hN _ hmb hml N 0 aAW (by omega) (by omega) rfl
 have s3:=aOW N hN _ hmb hml N 0 aAW (by omega) (by omega) rfl
 rw[a2h]at s2
 rw[show((64*0:Nat):Int)=0 from rfl,a2h]at s3
 have hw:a16.wrap (b.length:Int)=(b.length:Int):=aHJ (by omega) (by omega)
 have o:=aPj N hN (rounds N (b++yD b.length) aAW 0 ((b++yD b.length).length/64)) s2 N 0 (by omega) (by omega)
 simp only[Nat.mul_zero,a2E,a21,a1O,a2h]at o
 rw[show((0:Nat):Int)=0 from rfl]at o
 have hI:aAw N=some aAW:=rfl
 have hIa:bM 8 aAW=some aAW:=rfl
 simp only[mE]
 rw[jM (by simp;omega)]
 simp only[a1K,a1O,hw,a06 N hN b.length (by omega)]
 rw[jM (by omega)]
 simp only[a1K,hI,hIa,s3,aF2,aV s2,o,aGg,aV (aML _)]
 rfl
theorem aTm (N:Nat)(hN:70000≤N)(tag:ByteArray)(ht:tag.size≤1000)(b:List Int)(hb:Byt b)(hl:b.length≤900000):aCc N tag b=some (aRA N tag b):=by
 have hlim:=w7
 have hs:stb tag=some (bytesOf tag):=by unfold stb;rw[if_pos (by omega)]
 have s2:=zD N hN (bytesOf tag) (aL0 tag) (by rw[aAm];omega)
 have l1:=dA N (bytesOf tag)
 have t2:=zD N hN (sha256 N (bytesOf tag)++(sha256 N (bytesOf tag)++b)) ((gR _ _).append ((gR _ _).append hb)) (by simp only[a1L,l1];omega)
 simp only[aCc,hs,s2,a1K,aV l1]
 rw[jM (by simp[l1])]
 simp only[a1K,a1O]
 rw[jM (by simp[l1])]
 simp only[a1K]
 rw[jM (by simp[l1];omega)]
 simp only[a1K,a1U,t2,aV (dA N _)]
 rfl
end Go.Proofs.YtopdhljncajmpaaGreatDoor
set_option maxRecDepth 4000
namespace Go.Proofs.YtopdhljncajmpaaGreatDoor
open Go Go.Vm
def shV (v:Int)(i:Nat):Int:=a17.wrap (v.fdiv (2^(min (8*i) 64)))
def z7 (w:Nat)(v:Int):List Int:=(a10 w).map (shV v)
theorem kF (w:Nat)(v:Int):(z7 w v).length=w:=by simp[z7]
theorem aYR (v:Int)(i:Nat)(hi:i≤100): ∃y,shr .u64 v (a1R.wrap (8*(i:Int)))=some y∧a17.wrap y=shV v i:=by
 refine⟨_, ?_,rfl⟩
 rw[w64 (by omega) (by omega)]
 unfold shr
 rw[if_neg (by omega)]
 congr 3
theorem aUE (w:Nat)(v:Int)(j:Nat)(hj:j<w):(((a10 j).map (shV v))++a1N (w-j) 0).set j (shV v j)=((a10 (j+1)).map (shV v))++a1N (w-(j+1)) 0:=by
 rw[a2Y _ _ (by simp),show w-j=(w-(j+1))+1 by omega,a2p,a2Z,a2g,a1U]
 simp
theorem aMB {f:Nat→Int→List Int→Option (List Int)}(w:Nat)(v:Int)(hw:w≤100)
  (hs: ∀m j acc,j<w→acc.length=w→f (m+1) (j:Int) acc=f m ((j+1:Nat):Int) (acc.set j (shV v j))) (he: ∀m acc,acc.length=w→f (m+1) (w:Int) acc=some acc):
  ∀(m j:Nat),w-j<m→j≤w→f m (j:Int) (((a10 j).map (shV v))++a1N (w-j) 0)=some (z7 w v)
 |0,j,hm,_=>by omega
 |m+1,j,hm,hj=>by
  by_cases h:j<w
  ·rw[hs m j _ h (by simp;omega),aUE w v j h]
   exact aMB w v hw hs he m (j+1) (by omega) (by omega)
  have:j=w:=by omega
  subst this
  rw[he m _ (by simp),Nat.sub_self]
  simp[z7]
theorem aK0 (N:Nat)(hN:70000≤N)(v:Int)(w:Nat)(hw:w≤100):sO N v (w:Int)=some (z7 w v):=by
 have hmk:mks 1 (0:Int) (w:Int)=some (a1N w 0):=aNi (by have:=w7;omega)
 have:=aMB (f:=qU N v (w:Int)) w v hw (fun m j acc hj hl=>by
   obtain⟨y,h1,h2⟩:=aYR v j (by omega)
   rw[qU,dT hj,if_pos rfl,h1,bE acc (by omega:j<acc.length)]
   simp only[a1K,a1W,h2,i1 (show j≤100000 by omega)])
  (fun m acc hl=>by rw[qU,dF (Nat.lt_irrefl w)];rfl) N 0 (by omega) (by omega)
 simp only[sO,hmk,a1K,aBz]
 simp only[a2E,a21,a1O,a2h]at this
 rw[show((0:Nat):Int)=0 from rfl]at this
 rw[this];rfl
theorem rC (N:Nat)(b v:List Int)(h:b.length+v.length≤50000000):fX N b v=some (b++v):=by
 have hmk:mks 1 (0:Int) (a1R.wrap ((b.length:Int)+(v.length:Int)))=some (a1N (b.length+v.length) 0):=by
  rw[w64 (by omega) (by omega),show(b.length:Int)+(v.length:Int)=((b.length+v.length:Nat):Int) by omega]
  exact aNi (by have:=w7;omega)
 simp only[fX,hmk,a1K,List.take_zero]
 rw[jM (by simp;omega)]
 simp only[a1K,a1O]
 rw[jM (by omega)];rfl
def nU (v:Int):List Int:=z7 4 (a16.wrap v)
def aSX (v:Int):List Int:=z7 8 v
theorem b5 (v:Int):(nU v).length=4:=kF _ _
theorem aFU (v:Int):(aSX v).length=8:=kF _ _
section
variable (N:Nat)(hN:70000≤N)
include hN
theorem aH3 (b:List Int)(v:Int)(h:b.length≤40000000):dU N b v=some (b++nU v):=by
 simp only[dU,show(4:Int)=((4:Nat):Int)from rfl,aK0 N hN _ 4 (by omega),a1K]
 rw[rC N _ _ (by rw[kF];omega)];rfl
end
theorem wu (k:IntKind)(n:Nat)(hk:k.signed=false)(h:(n:Int)<2^k.bits):k.wrap (n:Int)=n:=by
 rw[aQQ hk];exact Int.emod_eq_of_lt (by omega) h
def szB (n:Nat):List Int:=if n<253 then z7 1 n else if n<65536 then 253::z7 2 n else 254::z7 4 n
theorem jS (n:Nat):1≤(szB n).length∧(szB n).length≤5:=by
 unfold szB
 split
 ·simp[kF]
 split<;>simp[kF]
theorem aEh (N:Nat)(hN:70000≤N)(v:Int)(w:Nat)(hw:w≤100):kM N v (w:Int)=some (z7 w v):=by
 have hmk:mks 1 (0:Int) (w:Int)=some (a1N w 0):=aNi (by have:=w7;omega)
 have hl0:(a1N w (0:Int)).length=w:=by simp
 have:=aMB (f:=q8 N v (a1N w 0)) w v hw (fun m j acc hj hl=>by
   obtain⟨y,h1,h2⟩:=aYR v j (by omega)
   rw[q8,hl0,dT hj,if_pos rfl,h1,bE acc (by omega:j<acc.length)]
   simp only[a1K,a1W,h2,i1 (show j≤100000 by omega)])
  (fun m acc hl=>by rw[q8,hl0,dF (Nat.lt_irrefl w)];rfl) N 0 (by omega) (by omega)
 simp only[kM,hmk,a1K,aB6]
 simp only[a2E,a21,a1O,a2h]at this
 rw[show((0:Nat):Int)=0 from rfl]at this
 rw[this];rfl
theorem mI (N:Nat)(b v:List Int)(h:b.length+v.length≤50000000):eQ N b v=some (b++v):=by
 have hmk:mks 1 (0:Int) (a1R.wrap ((b.length:Int)+(v.length:Int)))=some (a1N (b.length+v.length) 0):=by
  rw[w64 (by omega) (by omega),show(b.length:Int)+(v.length:Int)=((b.length+v.length:Nat):Int) by omega]
  exact aNi (by have:=w7;omega)
 simp only[eQ,hmk,a1K,List.take_zero]
 rw[jM (by simp;omega)]
 simp only[a1K,a1O]
 rw[jM (by omega)];rfl
section
variable (N:Nat)(hN:70000≤N)
include hN
theorem aCs (b:List Int)(v:Int)(h:b.length≤40000000):dW N b v=some (b++nU v):=by
 simp only[dW,show(4:Int)=((4:Nat):Int)from rfl,aEh N hN _ 4 (by omega),a1K]
 rw[mI N _ _ (by rw[kF];omega)];rfl
theorem a1q (b:List Int)(v:Int)(h:b.length≤40000000):vY N b v=some (b++aSX v):=by
 simp only[vY,show(8:Int)=((8:Nat):Int)from rfl,aEh N hN _ 8 (by omega),a1K]
 rw[mI N _ _ (by rw[kF];omega)];rfl
theorem aJk (b:List Int)(n:Nat)(hn:n≤1000000)(h:b.length≤30000000):hP N b (a16.wrap (n:Int))=some (b++szB n):=by
 rw[wu .u64 n rfl (by simp[a2x];omega)]
 unfold hP szB
 by_cases h1:n<253
 ·have e1:decide ((n:Int)<253)=true:=decide_eq_true (by omega)
  rw[e1,if_pos rfl,if_pos h1]
  simp only[show(1:Int)=((1:Nat):Int)from rfl,aEh N hN _ 1 (by omega),a1K]
  rw[mI N _ _ (by rw[kF];omega)];rfl
 have e1:decide ((n:Int)<253)=false:=decide_eq_false (by omega)
 rw[e1,if_neg h1]
 by_cases h2:n<65536
 ·have e2:decide ((n:Int)<65536)=true:=decide_eq_true (by omega)
  simp only[e2,a1P,if_false,if_true,if_pos h2,show(2:Int)=((2:Nat):Int)from rfl,aEh N hN _ 2 (by omega),a1K]
  rw[mI N _ _ (by simp[kF])]
  simp only[a1K]
  rw[mI N _ _ (by simp[kF];omega)];rfl
 have e2:decide ((n:Int)<65536)=false:=decide_eq_false (by omega)
 have e3:decide ((n:Int)<4294967296)=true:=decide_eq_true (by omega)
 simp only[e2,e3,a1P,if_false,if_true,if_neg h2,show(4:Int)=((4:Nat):Int)from rfl,aEh N hN _ 4 (by omega),a1K]
 rw[mI N _ _ (by simp[kF])]
 simp only[a1K]
 rw[mI N _ _ (by simp[kF];omega)];rfl
theorem aTH (b s:List Int)(hs:s.length≤1000000)(h:b.length≤30000000):nN N b s=some (b++(szB s.length++s)):=by
 have:=jS s.length
 simp only[nN,aJk N hN b _ hs (by omega),a1K]
 rw[mI N _ _ (by rw[a1L];omega),a1K,a1U]
theorem aTJ (o:aD)(ht:o.Tx.length=32):aAs N o=some (o.Tx++nU o.Index):=by
 simp only[aAs,e7,bM,if_pos ht,a1K]
 rw[mI N _ _ (by simp;omega)]
 simp only[a1K,a1O]
 rw[aCs N hN _ _ (by omega)];rfl
def rJ (o:aI):List Int:=aSX (a16.wrap o.Value)++(szB o.Script.length++o.Script)
theorem aVg (o:aI)(h:o.Script.length≤600):aBh N o=some (rJ o):=by
 simp only[aBh,a1q N hN _ _ (show([]:List Int).length≤40000000 by simp),a1K,a1O]
 rw[aTH N hN _ _ (by omega) (by rw[aFU];omega)];rfl
def hdB (h:bV):List Int:=((((nU h.Version++h.Prev)++h.Root)++nU h.Time)++nU h.Bits)++nU h.Nonce
theorem aWy (b h:List Int)(ht:h.length=32)(hb:b.length≤40000000):jP N b h=some (b++h):=by
 simp only[jP,bM,if_pos ht,a1K]
 rw[rC N _ _ (by omega)];rfl
theorem aM7 (b h:List Int)(ht:h.length=32)(hb:b.length≤40000000):e7 N b h=some (b++h):=by
 simp only[e7,bM,if_pos ht,a1K]
 rw[mI N _ _ (by omega)];rfl
theorem aSe (h:bV)(h1:h.Prev.length=32)(h2:h.Root.length=32):mA N h=some (hdB h):=by
 simp only[mA,aH3 N hN [] _ (by simp),a1K,a1O,aV h1,aV h2]
 rw[aWy N hN _ _ h1 (by rw[b5];omega)]
 simp only[a1K]
 rw[aWy N hN _ _ h2 (by rw[a1L,b5];omega)]
 simp only[a1K]
 rw[aH3 N hN _ _ (by simp only[a1L,b5];omega)]
 simp only[a1K]
 rw[aH3 N hN _ _ (by simp only[a1L,b5];omega)]
 simp only[a1K]
 rw[aH3 N hN _ _ (by simp only[a1L,b5];omega)]
 rfl
theorem aSx (h:bV)(h1:h.Prev.length=32)(h2:h.Root.length=32):mD N h=some (hdB h):=by
 simp only[mD,aCs N hN [] _ (by simp),a1K,a1O,aV h1,aV h2]
 rw[aM7 N hN _ _ h1 (by rw[b5];omega)]
 simp only[a1K]
 rw[aM7 N hN _ _ h2 (by rw[a1L,b5];omega)]
 simp only[a1K]
 obtain⟨m,hm⟩: ∃m,N=m+1+1+1+1:=⟨N-4,by omega⟩
 have j0:decide ((0:Int)<3)=true:=rfl
 have j1:decide ((1:Int)<3)=true:=rfl
 have j2:decide ((2:Int)<3)=true:=rfl
 have j3:decide ((3:Int)<3)=false:=rfl
 have i01:a1R.wrap (0+1)=1:=by decide +kernel
 have i12:a1R.wrap (1+1)=2:=by decide +kernel
 have i23:a1R.wrap (2+1)=3:=by decide +kernel
 have L: ∀(m:Nat)(b:List Int),b.length≤1000→mW N h (m+1+1+1+1) 0 b=some (((b++nU h.Time)++nU h.Bits)++nU h.Nonce):=fun m b hb=>by
  simp only[mW,j0,j1,j2,j3,i01,i12,i23,if_true,a1P,if_false]
  rw[show aW [h.Time,h.Bits,h.Nonce] 0=some h.Time from rfl,show aW [h.Time,h.Bits,h.Nonce] 1=some h.Bits from rfl,show aW [h.Time,h.Bits,h.Nonce] 2=some h.Nonce from rfl]
  simp only[a1K]
  rw[aCs N hN _ _ (by omega)]
  simp only[a1K]
  rw[aCs N hN _ _ (by simp only[a1L,b5];omega)]
  simp only[a1K]
  rw[aCs N hN _ _ (by simp only[a1L,b5];omega)]
  rfl
 have:=L m (nU h.Version++h.Prev++h.Root) (by simp only[a1L,b5];omega)
 rw[←hm]at this
 rw[this]
 rfl
omit hN in
theorem gO (v:Int):Byt (nU v):=by
 intro x hx
 simp only[nU,z7,a2d]at hx
 obtain⟨i,_,rfl⟩:=hx
 exact aCu _
omit hN in
theorem aSy {h:bV}(b1:Byt h.Prev)(b2:Byt h.Root):Byt (hdB h):=
 (((((gO _).append b1).append b2).append (gO _)).append (gO _)).append (gO _)
omit hN in
theorem aFI {h:bV}(h1:h.Prev.length=32)(h2:h.Root.length=32):(hdB h).length=80:=by simp only[hdB,a1L,b5,h1,h2]
def dbl (N:Nat)(b:List Int):List Int:=sha256 N (sha256 N b)
omit hN in
theorem vB (N:Nat)(b:List Int):(dbl N b).length=32:=dA _ _
omit hN in
theorem aXt (N:Nat)(b:List Int):Byt (dbl N b):=gR _ _
theorem aSq (b:List Int)(hb:Byt b)(hl:b.length≤1000000):aCw N b=some (dbl N b):=by
 have h1:=dA N b
 unfold aCw
 rw[aIt N hN b hb hl]
 simp only[a1K,aV h1]
 rw[aIt N hN _ (gR N b) (by omega)]
 simp only[a1K,aV (dA N _)]
 rfl
theorem aLA (b:List Int)(hb:Byt b)(hl:b.length≤1000000):pI N b=some (dbl N b):=by
 have h1:=dA N b
 unfold pI
 rw[zD N hN b hb hl]
 simp only[a1K,aV h1]
 rw[zD N hN _ (gR N b) (by omega)]
 simp only[a1K,aV (dA N _)]
 rfl
theorem aZv (h:bV)(h1:h.Prev.length=32)(h2:h.Root.length=32)(b1:Byt h.Prev)(b2:Byt h.Root):aCa N h=some (dbl N (hdB h)):=by
 unfold aCa
 rw[aSe N hN h h1 h2]
 simp only[a1K]
 rw[aSq N hN _ (aSy b1 b2) (by rw[aFI h1 h2];omega)]
 simp only[a1K,aV (vB N _)]
theorem aTu (h:bV)(h1:h.Prev.length=32)(h2:h.Root.length=32)(b1:Byt h.Prev)(b2:Byt h.Root):nW N h=some (dbl N (hdB h)):=by
 unfold nW
 rw[aSx N hN h h1 h2]
 simp only[a1K]
 rw[aLA N hN _ (aSy b1 b2) (by rw[aFI h1 h2];omega)]
 simp only[a1K,aV (vB N _)]
end
theorem aPk : ∀l:List Int,iG l l=0
 | []=>rfl
 |a::l=>by unfold iG;rw[if_neg (by omega),if_neg (by omega)];exact aPk l
theorem aPq : ∀{l m:List Int},l.length=m.length→iG l m=0→l=m
 | [],[],_,_=>rfl
 |a::l,b::m,h,hc=>by
  unfold iG at hc
  split at hc
  ·omega
  split at hc
  ·omega
  rw[aPq (by simpa using h) hc,show a=b by omega]
 | [],_::_,h,_=>by simp at h
 |_::_,[],h,_=>by simp at h
theorem aNa : ∀{l m n:List Int},l.length=m.length→m.length=n.length→iG l m<0→iG m n<0→iG l n<0
 |a::l,b::m,c::n,h1,h2,k1,k2=>by
  unfold iG at k1 k2⊢
  by_cases ab:a<b
  ·by_cases bc:b<c
   ·rw[if_pos (by omega)];omega
   rw[if_neg bc]at k2
   by_cases cb:c<b
   ·rw[if_pos cb]at k2;omega
   rw[if_pos (by omega)];omega
  rw[if_neg ab]at k1
  by_cases ba:b<a
  ·rw[if_pos ba]at k1;omega
  rw[if_neg ba]at k1
  obtain rfl:a=b:=by omega
  by_cases bc:a<c
  ·rw[if_pos bc];omega
  rw[if_neg bc]at k2⊢
  by_cases cb:c<a
  ·rw[if_pos cb]at k2;omega
  rw[if_neg cb]at k2⊢
  exact aNa (by simpa using h1) (by simpa using h2) k1 k2
 | [],[],_,_,_,k1,_=>by unfold iG at k1;omega
 | [],_::_,_,h1,_,_,_=>by simp at h1
 |_::_,[],_,h1,_,_,_=>by simp at h1
 |_::_,_::_,[],_,h2,_,_=>by simp at h2
theorem aQD : ∀{l m:List Int}(x y:List Int),l.length=m.length→iG (l++x) (m++y)=if iG l m=0 then iG x y else iG l m
 | [],[],x,y,_=>by simp[iG]
 |a::l,b::m,x,y,h=>by
  show(if a<b then -1 else if b<a then 1 else iG (l++x) (m++y))=if(if a<b then -1 else if b<a then 1 else iG l m)=0 then iG x y else(if a<b then -1 else if b<a then 1 else iG l m)
  by_cases ab:a<b
  ·rw[if_pos ab,if_pos ab,if_neg (by omega)]
  rw[if_neg ab,if_neg ab]
  by_cases ba:b<a
  ·rw[if_pos ba,if_pos ba,if_neg (by omega)]
  rw[if_neg ba,if_neg ba]
  exact aQD x y (by simpa using h)
 | [],_::_,_,_,h=>by simp at h
 |_::_,[],_,_,h=>by simp at h
theorem aU4 (x y:Int):iG [x] [y]=if x<y then -1 else if y<x then 1 else 0:=by
 unfold iG
 rfl
theorem aSu {a b:aD}(ha:a.Tx.length=32)(hb:b.Tx.length=32):eY a b=if iG a.Tx b.Tx=0 then(if a.Index<b.Index then -1 else if b.Index<a.Index then 1 else 0)else iG a.Tx b.Tx:=by
 unfold eY aOn
 rw[aQD _ _ (by rw[ha,hb]),aU4]
theorem aCW {a:aD}(ha:a.Tx.length=32):(aOn a).length=33:=by simp[aOn,ha]
theorem aFf {a b c:aD}(ha:a.Tx.length=32)(hb:b.Tx.length=32)(hc:c.Tx.length=32)(h1:eY a b<0)(h2:eY b c<0):eY a c<0:=
 aNa (by rw[aCW ha,aCW hb]) (by rw[aCW hb,aCW hc]) h1 h2
theorem aBf {a b:aD}(ha:a.Tx.length=32)(hb:b.Tx.length=32)(h:eY a b=0):a=b:=by
 have:=aPq (by rw[aCW ha,aCW hb]) h
 unfold aOn at this
 obtain⟨h1,h2⟩:=List.append_inj this (by rw[ha,hb])
 obtain⟨t,i⟩:=a
 obtain⟨t',i'⟩:=b
 simp only[List.cons.injEq,and_true]at h2
 simp only at h1
 subst h1 h2
 rfl
theorem wV (a:aD):eY a a=0:=aPk _
theorem aOY {N:Nat}{a b:aD}(ha:a.Tx.length=32)(hb:b.Tx.length=32): ∀(m j:Nat),32-j<m→j≤32→t7 N a b m (j:Int)=some (if iG (a.Tx.drop j) (b.Tx.drop j)=0 then .brk ()else .ret (iG (a.Tx.drop j) (b.Tx.drop j)))
 |m+1,j,hm,hj=>by
  unfold t7
  by_cases hl:j<32
  ·rw[if_pos (decide_eq_true (by omega)),dG hl (by omega),dG hl (by omega),a1Q (show j<a.Tx.length by omega),a1Q (show j<b.Tx.length by omega)]
   simp only[a1K]
   unfold iG
   by_cases h1:a.Tx[j]<b.Tx[j]
   ·rw[if_pos (decide_eq_true h1),if_pos h1];rfl
   rw[if_neg (by simpa using h1),if_neg h1]
   by_cases h2:b.Tx[j]<a.Tx[j]
   ·rw[if_pos (decide_eq_true h2),if_pos h2];rfl
   rw[if_neg (by simpa using h2),if_neg h2,i1 (by omega)]
   exact aOY ha hb m (j+1) (by omega) (by omega)
  rw[if_neg (by simp;omega),a1V (by omega),a1V (by omega)]
  rfl
theorem aQe {N:Nat}(hN:70000≤N){a b:aD}(ha:a.Tx.length=32)(hb:b.Tx.length=32):u2 N a b=some (eY a b):=by
 unfold u2
 have:=aOY (N:=N) ha hb N 0 (by omega) (by omega)
 rw[show((0:Nat):Int)=0 from rfl,a1S,a1S]at this
 rw[this,aSu ha hb]
 by_cases h:iG a.Tx b.Tx=0
 ·rw[if_pos h,if_pos h]
  simp only[a1K,aA2]
  by_cases h1:a.Index<b.Index
  ·rw[if_pos (decide_eq_true h1),if_pos h1]
  rw[if_neg (by simpa using h1),if_neg h1]
  by_cases h2:b.Index<a.Index
  ·rw[if_pos (decide_eq_true h2),if_pos h2]
  rw[if_neg (by simpa using h2),if_neg h2]
 rw[if_neg h,if_neg h]
 rfl
theorem aWr {x y:Int}(hx:0≤x∧x<256)(hy:0≤y∧y<256):(x.toNat.toUInt8<y.toNat.toUInt8)=(x<y):=by
 apply propext
 rw[UInt8.lt_iff_toNat_lt]
 simp only[Nat.toUInt8,UInt8.toNat_ofNat']
 omega
theorem aZ7 {x y:Int}(hx:0≤x∧x<256)(hy:0≤y∧y<256):(x.toNat.toUInt8=y.toNat.toUInt8)=(x=y):=by
 apply propext
 rw[←UInt8.toNat_inj]
 simp only[Nat.toUInt8,UInt8.toNat_ofNat']
 omega
theorem aUh {A B:ByteArray}: ∀(l m:List Int)(k:Nat),l.length=m.length→Byt l→Byt m→(∀i x,l[i]? =some x→A[k+i]! =x.toNat.toUInt8)→(∀i x,m[i]? =some x→B[k+i]! =x.toNat.toUInt8)→
  (match(a2o k l.length).find? (fun i=>A[i]! != B[i]!)with|some i=>if A[i]! < B[i]! then -1 else 1|none=>(0:Int))=iG l m
 | [],[],k,_,_,_,_,_=>rfl
 |a::l,b::m,k,h,hl,hm,hA,hB=>by
  have ea:A[k]! =a.toNat.toUInt8:=hA 0 a rfl
  have eb:B[k]! =b.toNat.toUInt8:=hB 0 b rfl
  have ba:=hl a (by simp)
  have bb:=hm b (by simp)
  rw[a1Y,a2c,List.find?_cons,ea,eb]
  unfold iG
  by_cases hab:a=b
  ·subst hab
   rw[show(a.toNat.toUInt8 != a.toNat.toUInt8)=false by simp,if_neg (by omega),if_neg (by omega)]
   simp only
   exact aUh l m (k+1) (by simpa using h) (fun x hx=>hl x (by simp[hx])) (fun x hx=>hm x (by simp[hx])) (fun i x hx=>by rw[show k+1+i=k+(i+1) by omega];exact hA (i+1) x (by simpa using hx)) (fun i x hx=>by rw[show k+1+i=k+(i+1) by omega];exact hB (i+1) x (by simpa using hx))
  have hne:(a.toNat.toUInt8 != b.toNat.toUInt8)=true:=by
   rw[bne_iff_ne]
   exact fun e=>hab ((aZ7 ba bb).mp e)
  rw[hne]
  simp only
  rw[ea,eb]
  by_cases h1:a<b
  ·rw[if_pos ((aWr ba bb).mpr h1),if_pos h1]
  rw[if_neg (fun e=>h1 ((aWr ba bb).mp e)),if_neg h1,if_pos (by omega)]
 | [],_::_,_,h,_,_,_,_=>by simp at h
 |_::_,[],_,h,_,_,_,_=>by simp at h
theorem aTM {l:List Int}{i:Nat}{x:Int}(h:l[i]? =some x):(u8s l)[0+i]! =x.toNat.toUInt8:=by
 obtain⟨hi,hx⟩:=List.getElem?_eq_some_iff.1 h
 rw[Nat.zero_add]
 have hs:i<(u8s l).size:=by show i<(l.map fun x=>x.toNat.toUInt8).toArray.size;simpa using hi
 rw[getElem!_pos (u8s l) i hs]
 show(l.map fun x=>x.toNat.toUInt8).toArray[i]=_
 simp[hx]
theorem aVr {a b:List Int}(h:a.length=b.length)(ha:Byt a)(hb:Byt b):aQS a b=iG a b:=by
 have sa:(u8s a).size=a.length:=by show(a.map fun x=>x.toNat.toUInt8).toArray.size=_;simp
 have sb:(u8s b).size=b.length:=by show(b.map fun x=>x.toNat.toUInt8).toArray.size=_;simp
 have:=aUh (A:=u8s a) (B:=u8s b) a b 0 h ha hb (fun i x hx=>aTM hx) (fun i x hx=>aTM hx)
 rw[←this]
 unfold aQS Extern.BytealgCompare.cmp
 rw[sa,sb,←h,Nat.min_self,a26,if_neg (by omega),if_neg (by omega)]
 generalize List.find? _ _=q
 cases q<;>rfl
theorem aQn {N:Nat}(hN:70000≤N){a b:aD}(ha:a.Tx.length=32)(hb:b.Tx.length=32)(ba:Byt a.Tx)(bb:Byt b.Tx):aCy N a b=some (eY a b):=by
 have hself: ∀x:Int,(x != x)=false:=fun x=>by simp
 obtain⟨m,hm⟩: ∃m,N=m+1+1+1:=⟨N-3,by omega⟩
 unfold aCy aES aBr yA uJ
 rw[aV ha,aV hb,aVr (by rw[ha,hb]) ba bb,aSu ha hb]
 simp only[a1K,hself,a1P,if_false]
 have key: ∀x y:Int,aFn N [x,y]=some (if x=0 then y else x):=fun x y=>by
  unfold aFn
  rw[show u5 N [x,y] N 0=u5 N [x,y] (m+1+1+1) 0 by rw[←hm]]
  simp only[u5,a1Y,a2r,show decide ((0:Int)<((0+1+1:Nat):Int))=true from rfl,show decide ((1:Int)<((0+1+1:Nat):Int))=true from rfl,show decide ((2:Int)<((0+1+1:Nat):Int))=false from rfl,show a1R.wrap (0+1)=1 by decide +kernel,show a1R.wrap (1+1)=2 by decide +kernel,show aW [x,y] 0=some x from rfl,show aW [x,y] 1=some y from rfl,if_true,a1K,a1P,if_false,aEC]
  by_cases h0:x=0
  ·subst h0
   rw[if_pos rfl,if_neg (by simp)]
   by_cases h1:y=0
   ·subst h1;rfl
   rw[if_pos (by simpa using h1)];rfl
  rw[if_neg h0,if_pos (by simpa using h0)];rfl
 by_cases h1:a.Index<b.Index
 ·rw[if_pos (decide_eq_true h1),if_pos h1]
  simp only[a1K,key]
 rw[if_neg (by simpa using h1),if_neg h1]
 by_cases h2:b.Index<a.Index
 ·rw[if_pos (decide_eq_true h2),if_pos h2]
  simp only[a1K,key]
 rw[if_neg (by simpa using h2),if_neg h2]
 simp only[a1K,key]
def zT (o:aD):Prop:=o.Tx.length=32∧Byt o.Tx
def aLM (h:Int)(c:aA):Bool:=decide (c.Output.Script.length≤520)&&(decide (1≤c.Height)&&decide (c.Height≤h))
def vQ (h:Int):Option aD→List aA→Bool
 |_,[]=>true
 |none,c::cs=>aLM h c&&vQ h (some c.Out) cs
 |some q,c::cs=>decide (eY q c.Out<0)&&(aLM h c&&vQ h (some c.Out) cs)
def vL :Int→List aA→Bool
 |_,[]=>true
 |s,c::cs=>decide (0≤c.Output.Value)&&(decide (c.Output.Value≤2100000000000000-s)&&vL (s+c.Output.Value) cs)
def uN :List aA→Int
 | []=>0
 |c::cs=>c.Output.Value+uN cs
def sD (l:List aA)(j:Nat):Option aD:=match j with
 |0=>none
 |k+1=>(l[k]?).map (·.Out)
theorem aJJ {l:List aA}{j:Nat}(h:j<l.length):sD l (j+1)=some (l[j]).Out:=by
 simp[sD,h]
theorem aON {h:Int}{l:List aA}{j:Nat}(hj:j<l.length):vQ h (sD l j) (l.drop j)=((match sD l j with|none=>true|some q=>decide (eY q (l[j]).Out<0))&&(aLM h l[j]&&vQ h (sD l (j+1)) (l.drop (j+1)))):=by
 rw[a1Q hj,aJJ hj]
 cases sD l j<;>simp[vQ]
theorem aUd {s:Int}{l:List aA}{j:Nat}(hj:j<l.length):vL s (l.drop j)=(decide (0≤l[j].Output.Value)&&(decide (l[j].Output.Value≤2100000000000000-s)&&vL (s+l[j].Output.Value) (l.drop (j+1)))):=by
 rw[a1Q hj];rfl
section
variable {N:Nat}(hN:70000≤N){l:aF}(hn:l.Coins.length≤1000)(hok: ∀c∈l.Coins,zT c.Out)
include hN hn hok
theorem aO1 : ∀(m j:Nat),l.Coins.length-j<m→j≤l.Coins.length→fN N l m (j:Int)=some (if vQ l.Height (sD l.Coins j) (l.Coins.drop j)=true then .brk ()else .ret false)
 |m+1,j,hm,hj=>by
  unfold fN
  by_cases hl:j<l.Coins.length
  ·have tail: ∀b:Bool,mY N l (j:Int) (fN N l m) b=some (if(!b&&vQ l.Height (sD l.Coins (j+1)) (l.Coins.drop (j+1)))=true then .brk ()else .ret false):=fun b=>by
    unfold mY
    cases b
    ·rw[if_neg (by simp),i1 (by omega),aO1 m (j+1) (by omega) (by omega)]
     simp
    rfl
   have tail2: ∀b:Bool,mK N l (j:Int) l.Coins[j] (fN N l m) b=some (if(!b&&(aLM l.Height l.Coins[j]&&vQ l.Height (sD l.Coins (j+1)) (l.Coins.drop (j+1))))=true then .brk ()else .ret false):=fun b=>by
    unfold mK
    cases b
    ·rw[if_neg (by simp)]
     simp only[tail]
     unfold aLM
     by_cases h1:l.Coins[j].Output.Script.length≤520
     ·rw[if_neg (by simp;omega),decide_eq_true h1]
      by_cases h2:1≤l.Coins[j].Height
      ·rw[if_neg (by simp;omega),decide_eq_true h2]
       by_cases h3:l.Coins[j].Height≤l.Height
       ·rw[decide_eq_false (show¬l.Height<l.Coins[j].Height by omega),decide_eq_true h3];simp
       rw[decide_eq_true (show l.Height<l.Coins[j].Height by omega),decide_eq_false h3];simp
      rw[if_pos (decide_eq_true (by omega)),decide_eq_false h2];simp
     rw[if_pos (decide_eq_true (by omega)),decide_eq_false h1];simp
    rfl
   rw[if_pos (dT hl),bE _ hl,aON hl]
   simp only[a1K]
   cases j with
   |zero=>
    rw[if_neg (by simp)]
    have:=tail2 false
    simpa[sD]using this
   |succ k=>
    rw[if_pos (decide_eq_true (by omega)),w64 (by omega) (by omega),show((k+1:Nat):Int)-1=(k:Int) by omega,bE _ (show k<l.Coins.length by omega)]
    simp only[a1K]
    have o1:=hok _ (a1M (show k<l.Coins.length by omega))
    have o2:=hok _ (a1M hl)
    rw[aQn hN o1.1 o2.1 o1.2 o2.2]
    simp only[a1K]
    rw[tail2]
    simp only[aJJ (show k<l.Coins.length by omega)]
    by_cases hc:eY l.Coins[k].Out l.Coins[k+1].Out<0
    ·rw[decide_eq_false (show¬0≤eY l.Coins[k].Out l.Coins[k+1].Out by omega),decide_eq_true hc];simp
    rw[decide_eq_true (show 0≤eY l.Coins[k].Out l.Coins[k+1].Out by omega),decide_eq_false hc];simp
  rw[if_neg (by simp;omega),a1V (by omega)]
  cases sD l.Coins j<;>rfl
omit hok in
theorem aKG {cs:List aA}(hcs:cs.length≤1000): ∀(m j:Nat)(s:Int),cs.length-j<m→j≤cs.length→0≤s→s≤2100000000000000→mJ N cs m s (j:Int)=some (if vL s (cs.drop j)=true then .brk (s+uN (cs.drop j))else .ret (0,false))
 |m+1,j,s,hm,hj,h0,h1=>by
  unfold mJ
  by_cases hl:j<cs.length
  ·rw[if_pos (dT hl),bE _ hl,a1Q hl]
   rw[show vL s (cs[j]::cs.drop (j+1))=(decide (0≤cs[j].Output.Value)&&(decide (cs[j].Output.Value≤2100000000000000-s)&&vL (s+cs[j].Output.Value) (cs.drop (j+1))))from rfl,show uN (cs[j]::cs.drop (j+1))=cs[j].Output.Value+uN (cs.drop (j+1))from rfl]
   simp only[a1K]
   rw[w64 (a:=2100000000000000-s) (by omega) (by omega)]
   by_cases hv:0≤cs[j].Output.Value
   ·rw[if_neg (by simp;omega),decide_eq_true hv]
    unfold wO
    by_cases hb:cs[j].Output.Value≤2100000000000000-s
    ·rw[if_neg (by simp;omega),decide_eq_true hb,i1 (by omega),w64 (by omega) (by omega),aKG hcs m (j+1) _ (by omega) (by omega) (by omega) (by omega)]
     simp only[a18]
     split
     ·congr 2;omega
     rfl
    rw[if_pos (decide_eq_true (by omega)),decide_eq_false hb];rfl
   rw[if_pos (decide_eq_true (by omega)),decide_eq_false hv];rfl
  rw[if_neg (by simp;omega),a1V (by omega)]
  simp[vL,uN]
def aN0 (l:aF):Bool:=decide (0≤l.Height)&&(decide (l.Height≤16777216)&&(vQ l.Height none l.Coins&&vL 0 l.Coins))
theorem aYO :xL N l=some (aN0 l):=by
 have L:=aO1 hN hn hok N 0 (by omega) (by omega)
 have T:=aKG hN hn hn N 0 0 (by omega) (by omega) (by omega) (by omega)
 rw[show((0:Nat):Int)=0 from rfl,a1S]at L T
 have body:kO N l false=some (vQ l.Height none l.Coins&&vL 0 l.Coins):=by
  unfold kO
  rw[if_neg (by simp),L]
  show(some (if vQ l.Height none l.Coins=true then LR.brk ()else LR.ret false)).bind _=_
  cases vQ l.Height none l.Coins
  ·rfl
  simp only[if_true,a1K,aBE]
  unfold pJ
  rw[T]
  cases vL 0 l.Coins<;>rfl
 unfold xL aN0
 by_cases h1:0≤l.Height
 ·rw[if_neg (by simp;omega),decide_eq_true h1]
  by_cases h2:l.Height≤16777216
  ·rw[if_neg (by simp;omega),decide_eq_true h2,decide_eq_false (show¬(100000:Int)<(l.Coins.length:Int) by omega),body]
   rfl
  rw[if_pos (decide_eq_true (by omega)),decide_eq_false h2];rfl
 rw[if_pos (decide_eq_true (by omega)),decide_eq_false h1];rfl
theorem aPh : ∀(m j:Nat)(s:Int),l.Coins.length-j<m→j≤l.Coins.length→0≤s→s≤2100000000000000→eP N l m s (j:Int)=some (if(vQ l.Height (sD l.Coins j) (l.Coins.drop j)&&vL s (l.Coins.drop j))=true then .brk ()else .ret false)
 |m+1,j,s,hm,hj,h0,h1=>by
  unfold eP
  by_cases hl:j<l.Coins.length
  ·have tail: ∀b:Bool,(b=false→0≤l.Coins[j].Output.Value∧l.Coins[j].Output.Value≤2100000000000000)→oC N l s (j:Int) l.Coins[j] (eP N l m) b=some (if(!b&&(decide (l.Coins[j].Output.Value≤2100000000000000-s)&&(vQ l.Height (sD l.Coins (j+1)) (l.Coins.drop (j+1))&&vL (s+l.Coins[j].Output.Value) (l.Coins.drop (j+1)))))=true then .brk ()else .ret false):=fun b hb=>by
    unfold oC
    cases b
    ·obtain⟨v0,v1⟩:=hb rfl
     rw[if_neg (by simp),w64 (by omega) (by omega)]
     by_cases hv:l.Coins[j].Output.Value≤2100000000000000-s
     ·rw[if_neg (by simp;omega),i1 (by omega),aPh m (j+1) _ (by omega) (by omega) (by omega) (by omega),decide_eq_true hv]
      simp
     rw[if_pos (decide_eq_true (by omega)),decide_eq_false hv];rfl
    rfl
   have tail2: ∀b:Bool,iH N l s (j:Int) l.Coins[j] (eP N l m) b=some (if(!b&&(decide (l.Coins[j].Output.Script.length≤520)&&(decide (0≤l.Coins[j].Output.Value)&&(decide (l.Coins[j].Output.Value≤2100000000000000-s)&&(vQ l.Height (sD l.Coins (j+1)) (l.Coins.drop (j+1))&&vL (s+l.Coins[j].Output.Value) (l.Coins.drop (j+1)))))))=true then .brk ()else .ret false):=fun b=>by
    unfold iH
    cases b
    ·rw[if_neg (by simp)]
     by_cases v0:0≤l.Coins[j].Output.Value
     ·rw[if_neg (by simp;omega),decide_eq_true v0]
      by_cases v1:l.Coins[j].Output.Value≤2100000000000000
      ·rw[if_neg (by simp;omega),tail _ (fun _=>⟨v0,v1⟩)]
       by_cases hs:l.Coins[j].Output.Script.length≤520
       ·rw[decide_eq_true hs,decide_eq_false (show¬(520:Int)<(l.Coins[j].Output.Script.length:Int) by omega)];simp
       rw[decide_eq_false hs,decide_eq_true (show(520:Int)<(l.Coins[j].Output.Script.length:Int) by omega)];simp
      rw[if_pos (decide_eq_true (by omega)),tail _ (fun h=>by cases h),decide_eq_false (show¬l.Coins[j].Output.Value≤2100000000000000-s by omega)];simp
     rw[if_pos (decide_eq_true (by omega)),tail _ (fun h=>by cases h),decide_eq_false v0];simp
    rfl
   have fin: ∀(a b c d e f g:Bool),(a&&(b&&(c&&d)&&e))=(a&&(c&&(d&&(b&&e)))):=by intro a b c d e f g;cases a<;>cases b<;>cases c<;>cases d<;>cases e<;>rfl
   rw[if_pos (dT hl),bE _ hl,aON hl,aUd hl]
   simp only[a1K]
   rw[show aLM l.Height l.Coins[j]=(decide (l.Coins[j].Output.Script.length≤520)&&(decide (1≤l.Coins[j].Height)&&decide (l.Coins[j].Height≤l.Height)))from rfl]
   have hh:(decide (1≤l.Coins[j].Height)= !decide (l.Coins[j].Height<1))∧(decide (l.Coins[j].Height≤l.Height)= !decide (l.Height<l.Coins[j].Height)):=by
    constructor
    ·by_cases h:l.Coins[j].Height<1
     ·rw[decide_eq_true h,decide_eq_false (by omega)];rfl
     rw[decide_eq_false h,decide_eq_true (by omega)];rfl
    by_cases h:l.Height<l.Coins[j].Height
    ·rw[decide_eq_true h,decide_eq_false (by omega)];rfl
    rw[decide_eq_false h,decide_eq_true (by omega)];rfl
   rw[hh.1,hh.2]
   cases j with
   |zero=>
    rw[if_neg (by simp)]
    simp only[tail2,sD,a18]
    cases decide (l.Coins[0].Height<1)<;>cases decide (l.Height<l.Coins[0].Height)<;>cases decide (l.Coins[0].Output.Script.length≤520)<;>cases decide (0≤l.Coins[0].Output.Value)<;>cases decide (l.Coins[0].Output.Value≤2100000000000000-s)<;>simp
   |succ k=>
    rw[if_pos (decide_eq_true (by omega)),w64 (by omega) (by omega),show((k+1:Nat):Int)-1=(k:Int) by omega,bE _ (show k<l.Coins.length by omega)]
    simp only[a1K]
    have o1:=hok _ (a1M (show k<l.Coins.length by omega))
    have o2:=hok _ (a1M hl)
    rw[aQe hN o1.1 o2.1]
    simp only[a1K]
    simp only[tail2,aJJ (show k<l.Coins.length by omega)]
    by_cases hc:eY l.Coins[k].Out l.Coins[k+1].Out<0
    ·rw[decide_eq_false (show¬0≤eY l.Coins[k].Out l.Coins[k+1].Out by omega),decide_eq_true hc]
     cases decide (l.Coins[k+1].Height<1)<;>cases decide (l.Height<l.Coins[k+1].Height)<;>cases decide (l.Coins[k+1].Output.Script.length≤520)<;>cases decide (0≤l.Coins[k+1].Output.Value)<;>cases decide (l.Coins[k+1].Output.Value≤2100000000000000-s)<;>simp
    rw[decide_eq_true (show 0≤eY l.Coins[k].Out l.Coins[k+1].Out by omega),decide_eq_false hc]
    simp
  rw[if_neg (by simp;omega),a1V (by omega)]
  cases sD l.Coins j<;>rfl
theorem aQo :aAl N l=some (aN0 l):=by
 have L:=aPh hN hn hok N 0 0 (by omega) (by omega) (by omega) (by omega)
 rw[show((0:Nat):Int)=0 from rfl,a1S]at L
 have body:lT N l false=some (vQ l.Height none l.Coins&&vL 0 l.Coins):=by
  unfold lT
  rw[if_neg (by simp),L]
  show(some (if(vQ l.Height none l.Coins&&vL 0 l.Coins)=true then LR.brk ()else LR.ret false)).bind _=_
  cases vQ l.Height none l.Coins&&vL 0 l.Coins<;>rfl
 unfold aAl aN0
 by_cases h1:0≤l.Height
 ·rw[if_neg (by simp;omega),decide_eq_true h1]
  by_cases h2:l.Height≤16777216
  ·rw[if_neg (by simp;omega),decide_eq_true h2,decide_eq_false (show¬(100000:Int)<(l.Coins.length:Int) by omega),body]
   rfl
  rw[if_pos (decide_eq_true (by omega)),decide_eq_false h2];rfl
 rw[if_pos (decide_eq_true (by omega)),decide_eq_false h1];rfl
end
def fI (o:aD):Int→List aA→Int
 |_,[]=> -1
 |j,c::cs=>if eY c.Out o=0 then j else fI o (j+1) cs
theorem eqP {a b:aD}(ha:a.Tx.length=32)(hb:b.Tx.length=32):iU a.Tx b.Tx ((a.Index == b.Index)&&true)=decide (eY a b=0):=by
 rw[aO4 ha hb,Bool.and_true]
 by_cases h:eY a b=0
 ·obtain rfl:=aBf ha hb h
  rw[decide_eq_true h];simp
 rw[decide_eq_false h]
 rw[Bool.and_eq_false_iff]
 by_cases ht:a.Tx=b.Tx
 ·refine .inr ?_
  rw[beq_eq_false_iff_ne]
  intro hi
  apply h
  obtain⟨t,i⟩:=a
  obtain⟨t',i'⟩:=b
  simp only at ht hi
  subst ht hi
  exact wV _
 exact .inl (by rw[beq_eq_false_iff_ne];exact ht)
section
variable {N:Nat}(hN:70000≤N){cs:List aA}(hn:cs.length≤1000)(hok: ∀c∈cs,zT c.Out){o:aD}(ho:zT o)
include hN hn hok ho
theorem aNN : ∀(m j:Nat),cs.length-j<m→j≤cs.length→((aAx N cs o m (j:Int)).bind fun q=>match q with | .ret v=>some v | .brk _=>aEv N)=some (fI o (j:Int) (cs.drop j))
 |m+1,j,hm,hj=>by
  unfold aAx
  by_cases hl:j<cs.length
  ·have o1:=hok _ (a1M hl)
   rw[if_pos (dT hl),bE _ hl,a1Q hl]
   simp only[a1K,fI]
   rw[eqP o1.1 ho.1]
   by_cases hc:eY cs[j].Out o=0
   ·rw[if_pos (decide_eq_true hc),if_pos hc];rfl
   rw[if_neg (by simpa using hc),if_neg hc,i1 (by omega),aNN m (j+1) (by omega) (by omega)]
   rw[show((j+1:Nat):Int)=(j:Int)+1 by omega]
  rw[if_neg (by simp;omega),a1V (by omega)]
  rfl
theorem a0C :y7 N cs o=some (fI o 0 cs):=by
 have:=aNN hN hn hok ho N 0 (by omega) (by omega)
 rw[show((0:Nat):Int)=0 from rfl,a1S]at this
 exact this
omit hN hn hok ho in
omit hN hn hok ho in
end
structure aMV (ins:List aT)(outs:List aI):Prop where
 ni:ins.length≤70
 no:outs.length≤70
 wit: ∀x∈ins,x.Witness.length≤40∧ ∀w∈x.Witness,w.length≤600
 scr: ∀o∈outs,o.Script.length≤600
 tx: ∀x∈ins,x.Prev.Tx.length=32
def inB (x:aT):List Int:=(x.Prev.Tx++nU x.Prev.Index)++nU x.Sequence
def itB (w:List Int):List Int:=szB w.length++w
def wiB (x:aT):List Int:=szB x.Witness.length++x.Witness.flatMap itB
def vM (v:Int)(ins:List aT)(outs:List aI)(lock:Int)(wit:Bool):List Int:=
 ((((nU v++szB ins.length)++ins.flatMap inB)++szB outs.length)++outs.flatMap rJ)++nU lock++(if wit then ins.flatMap wiB else [])
theorem aDs {α:Type}{g:α→List Int}{c:Nat}: ∀(l:List α),(∀x∈l,(g x).length≤c)→(l.flatMap g).length≤l.length*c
 | [],_=>by simp
 |x::l,h=>by
  have h1:=h x (by simp)
  have h2:=aDs l (fun y hy=>h y (by simp[hy]))
  rw[a2N,a1L,a1Y,Nat.add_mul,Nat.one_mul];omega
theorem aQK {w:List Int}(h:w.length≤600):(itB w).length≤605:=by have:=jS w.length;simp only[itB,a1L];omega
theorem aZl {x:aT}(h:x.Witness.length≤40∧ ∀w∈x.Witness,w.length≤600):(wiB x).length≤24205:=by
 have h1:=jS x.Witness.length
 have h2:=aDs (g:=itB) (c:=605) x.Witness (fun w hw=>aQK (h.2 w hw))
 have h3:=a2a 605 h.1
 simp only[wiB,a1L];omega
theorem aN5 {x:aT}(h:x.Prev.Tx.length=32):(inB x).length=40:=by simp[inB,b5,h]
theorem aIv {o:aI}(h:o.Script.length≤600):(rJ o).length≤613:=by
 have:=jS o.Script.length
 simp only[rJ,a1L,aFU];omega
theorem aIE {ins:List aT}{outs:List aI}(K:aMV ins outs):(ins.flatMap inB).length≤2800:=by
 have:=aDs (g:=inB) (c:=40) ins (fun x hx=>Nat.le_of_eq (aN5 (K.tx x hx)))
 have:=a2a 40 K.ni
 omega
theorem aGA {ins:List aT}{outs:List aI}(K:aMV ins outs):(outs.flatMap rJ).length≤42910:=by
 have:=aDs (g:=rJ) (c:=613) outs (fun x hx=>aIv (K.scr x hx))
 have:=a2a 613 K.no
 omega
theorem aSD {ins:List aT}{outs:List aI}(K:aMV ins outs):(ins.flatMap wiB).length≤1694350:=by
 have:=aDs (g:=wiB) (c:=24205) ins (fun x hx=>aZl (K.wit x hx))
 have:=a2a 24205 K.ni
 omega
theorem nle (a b:Nat):decide ((a:Int)<(b:Int))= !decide (b≤a):=by
 by_cases h:a<b
 ·rw[decide_eq_true (by omega),decide_eq_false (by omega)];rfl
 rw[decide_eq_false (by omega),decide_eq_true (by omega)];rfl
theorem dle (n:Nat):decide ((n:Int)≤20000)=decide (n≤20000):=by
 by_cases h:n≤20000
 ·rw[decide_eq_true h,decide_eq_true (by omega)]
 rw[decide_eq_false h,decide_eq_false (by omega)]
def aRk (o:aI):Bool:= !decide (o.Value<0)&&decide (o.Script.length≤520)
def aTe (x:aT):Bool:=decide (x.Witness.length≤32)&&x.Witness.all fun w=>decide (w.length≤520)
def nD (v:Int)(ins:List aT)(outs:List aI)(lock:Int):Bool:=
 decide (ins.length≤64)&&decide (outs.length≤64)&&outs.all aRk&&ins.all aTe&&decide ((vM v ins outs lock true).length≤20000)
section
variable (N:Nat)(hN:70000≤N){t:aB}(K:aMV t.Inputs t.Outputs)
include hN K
theorem rL8 (b:Bool)(acc:List Int)(h:acc.length≤100000):mV N t b N 0 acc=some (acc++t.Inputs.flatMap inB):=by
 have hn:=K.ni
 have hl:=aIE K
 refine n5 (f:=mV N t b) (xs:=t.Inputs) (g:=inB) (B:=200000) (by omega) (fun m j acc hj hB=> ?_) (fun m j acc hj=> ?_) N 0 acc (by omega) (by omega) (by rw[a1S];omega)
 ·have ht:=K.tx _ (a1M hj)
  rw[aN5 ht]at hB
  rw[mV,dT hj,if_pos rfl,bE t.Inputs hj]
  simp only[a1K,aTJ N hN _ ht]
  rw[jM (by simp[b5];omega)]
  simp only[a1K]
  rw[aCs N hN (acc++(t.Inputs[j].Prev.Tx++nU t.Inputs[j].Prev.Index)) _ (by simp[b5];omega)]
  simp only[a1K,i1 (show j≤100000 by omega),inB,a1U]
 rw[mV,dF (by omega)];rfl
theorem rL7 (b:Bool)(acc:List Int)(h:acc.length≤100000):mL N t b N 0 acc=some (acc++t.Outputs.flatMap rJ):=by
 have hn:=K.no
 have hl:=aGA K
 refine n5 (f:=mL N t b) (xs:=t.Outputs) (g:=rJ) (B:=200000) (by omega) (fun m j acc hj hB=> ?_) (fun m j acc hj=> ?_) N 0 acc (by omega) (by omega) (by rw[a1S];omega)
 ·have ht:=K.scr _ (a1M hj)
  rw[mL,dT hj,if_pos rfl,bE t.Outputs hj]
  simp only[a1K,aVg N hN _ ht]
  rw[jM (by omega)]
  simp only[a1K,i1 (show j≤100000 by omega)]
 rw[mL,dF (by omega)];rfl
theorem rL6 (b:Bool)(x:Int)(w:aT)(hw:w.Witness.length≤40∧ ∀z∈w.Witness,z.length≤600)(acc:List Int)(h:acc.length≤5000000):mO N t b x w N 0 acc=some (acc++w.Witness.flatMap itB):=by
 have hl:=aDs (g:=itB) (c:=605) w.Witness (fun z hz=>aQK (hw.2 z hz))
 have:=a2a 605 hw.1
 refine n5 (f:=mO N t b x w) (xs:=w.Witness) (g:=itB) (B:=6000000) (by omega) (fun m j acc hj hB=> ?_) (fun m j acc hj=> ?_) N 0 acc (by omega) (by omega) (by rw[a1S];omega)
 ·have ht:=hw.2 _ (a1M hj)
  rw[mO,dT hj,if_pos rfl,bE w.Witness hj]
  simp only[a1K]
  rw[aTH N hN acc _ (show w.Witness[j].length≤1000000 by omega) (by omega)]
  simp only[a1K,i1 (show j≤100000 by omega),itB]
 rw[mO,dF (by omega)];rfl
theorem rL4 (acc:List Int)(h:acc.length≤1000000):eZ N t true N 0 acc=some (acc++t.Inputs.flatMap wiB):=by
 have hn:=K.ni
 have hl:=aSD K
 refine n5 (f:=eZ N t true) (xs:=t.Inputs) (g:=wiB) (B:=4000000) (by omega) (fun m j acc hj hB=> ?_) (fun m j acc hj=> ?_) N 0 acc (by omega) (by omega) (by rw[a1S];omega)
 ·have ht:=K.wit _ (a1M hj)
  have hs:=jS t.Inputs[j].Witness.length
  rw[eZ,dT hj,if_pos rfl,bE t.Inputs hj]
  simp only[a1K,a2e,a1P,if_false]
  rw[aJk N hN acc _ (show t.Inputs[j].Witness.length≤1000000 by omega) (by omega)]
  simp only[a1K]
  rw[rL6 N hN K _ _ _ ht _ (by rw[a1L];omega)]
  simp only[a1K,aCA,i1 (show j≤100000 by omega),wiB,a1U]
 rw[eZ,dF (by omega)];rfl
theorem aFb :g8 N t true=some (vM t.Version t.Inputs t.Outputs t.Lock true):=by
 have hn:=K.ni
 have ho:=K.no
 have h1:=jS t.Inputs.length
 have h2:=jS t.Outputs.length
 have h3:=aIE K
 have h4:=aGA K
 simp only[g8,aCs N hN [] _ (by simp),a1K,a1O]
 rw[aJk N hN (nU t.Version) _ (show t.Inputs.length≤1000000 by omega) (by rw[b5];omega)]
 simp only[a1K]
 rw[rL8 N hN K _ _ (by rw[a1L,b5];omega)]
 simp only[a1K,v7]
 rw[aJk N hN _ _ (show t.Outputs.length≤1000000 by omega) (by simp only[a1L,b5];omega)]
 simp only[a1K]
 rw[rL7 N hN K _ _ (by simp only[a1L,b5];omega)]
 simp only[a1K,vZ]
 rw[aCs N hN _ _ (by simp only[a1L,b5];omega)]
 simp only[a1K]
 rw[rL4 N hN K _ (by simp only[a1L,b5];omega)]
 rfl
end
theorem rS (N:Nat)(hN:70000≤N){t:aB}(K:aMV t.Inputs t.Outputs):gP N t=some (nD t.Version t.Inputs t.Outputs t.Lock):=by
 have k1:=K.ni
 have k2:=K.no
 unfold gP nD
 rw[show(64:Int)=((64:Nat):Int)from rfl,nle,nle]
 by_cases h:t.Inputs.length≤64
 ·rw[decide_eq_true h]
  simp only[a2e,a1P,if_false,a18,qK]
  by_cases h2:t.Outputs.length≤64
  ·rw[decide_eq_true h2]
   simp only[a2e,a1P,if_false,a18]
   have l7:=xM (f:=iF N t) (xs:=t.Outputs) (p:=aRk) (r:=false) (fun m j hj=>by
     rw[iF,dT hj,if_pos rfl,bE t.Outputs hj]
     simp only[a1K,show(520:Int)=((520:Nat):Int)from rfl,nle,i1 (show j≤100000 by omega),u4]
     rw[show aRk t.Outputs[j]=(!decide (t.Outputs[j].Value<0)&&decide (t.Outputs[j].Script.length≤520))from rfl]
     cases decide (t.Outputs[j].Value<0)<;>cases decide (t.Outputs[j].Script.length≤520)<;>rfl) (fun m j hj=>by rw[iF,dF (by omega)];rfl) N 0 (by omega) (by omega)
   have l6: ∀(x:Int)(w:aT),w.Witness.length≤32→kZ N t x w N 0=some (if(w.Witness.all fun w=>decide (w.length≤520))=true then .brk ()else .ret false):=fun x w hw=>by
    have:=xM (f:=kZ N t x w) (xs:=w.Witness) (p:=fun w=>decide (w.length≤520)) (r:=false) (fun m j hj=>by
     rw[kZ,dT hj,if_pos rfl,bE w.Witness hj]
     simp only[a1K,show(520:Int)=((520:Nat):Int)from rfl,nle,i1 (show j≤100000 by omega)]
     cases decide (w.Witness[j].length≤520)<;>rfl) (fun m j hj=>by rw[kZ,dF (by omega)];rfl) N 0 (by omega) (by omega)
    rw[show((0:Nat):Int)=0 from rfl,a1S]at this
    exact this
   have l4:=xM (f:=jG N t) (xs:=t.Inputs) (p:=aTe) (r:=false) (fun m j hj=>by
     rw[jG,dT hj,if_pos rfl,bE t.Inputs hj]
     simp only[a1K,show(32:Int)=((32:Nat):Int)from rfl,nle,i1 (show j≤100000 by omega)]
     rw[show aTe t.Inputs[j]=(decide (t.Inputs[j].Witness.length≤32)&&t.Inputs[j].Witness.all fun w=>decide (w.length≤520))from rfl]
     by_cases hw:t.Inputs[j].Witness.length≤32
     ·rw[decide_eq_true hw]
      simp only[a2e,a1P,if_false,a18,l6 _ _ hw,a1K,aAA]
      cases t.Inputs[j].Witness.all fun w=>decide (w.length≤520)
      ·rfl
      simp only[if_true,i1 (show j≤100000 by omega)]
     rw[decide_eq_false hw];rfl) (fun m j hj=>by rw[jG,dF (by omega)];rfl) N 0 (by omega) (by omega)
   rw[show((0:Nat):Int)=0 from rfl,a1S]at l7 l4
   rw[l7]
   cases t.Outputs.all aRk
   ·rfl
   simp only[a1K,if_true,u1,l4,a18]
   cases t.Inputs.all aTe
   ·rfl
   simp only[a1K,if_true,aAN,aFb N hN K,a18]
   rw[dle]
  rw[decide_eq_false h2];rfl
 rw[decide_eq_false h];rfl
structure aZa (t:aB):Prop where
 prev: ∀x∈t.Inputs,Byt x.Prev.Tx
 wit: ∀x∈t.Inputs,∀w∈x.Witness,Byt w
 scr: ∀o∈t.Outputs,Byt o.Script
structure TxK (t:aB):Prop where
 k:aMV t.Inputs t.Outputs
 b:aZa t
theorem yH (w:Nat)(v:Int):Byt (z7 w v):=by
 intro x hx
 simp only[z7,a2d]at hx
 obtain⟨i,_,rfl⟩:=hx
 exact aCu _
theorem zL (n:Nat):Byt (szB n):=by
 unfold szB
 split
 ·exact yH _ _
 split
 ·intro x hx
  rcases a14.1 hx with rfl|h
  ·omega
  exact yH _ _ x h
 intro x hx
 rcases a14.1 hx with rfl|h
 ·omega
 exact yH _ _ x h
theorem aIY {α:Type}{g:α→List Int}{l:List α}(h: ∀x∈l,Byt (g x)):Byt (l.flatMap g):=by
 intro y hy
 obtain⟨x,hx,hy⟩:=List.mem_flatMap.1 hy
 exact h x hx y hy
theorem aDp :Byt []:=fun _ h=>by cases h
theorem aJN {t:aB}(B:aZa t)(w:Bool):Byt (vM t.Version t.Inputs t.Outputs t.Lock w):=by
 unfold vM
 refine Byt.append (Byt.append (Byt.append (Byt.append (Byt.append (Byt.append (gO _) (zL _)) (aIY fun x hx=> ?_)) (zL _)) (aIY fun o ho=> ?_)) (gO _)) ?_
 ·exact((B.prev x hx).append (gO _)).append (gO _)
 ·exact(yH _ _).append ((zL _).append (B.scr o ho))
 cases w
 ·exact aDp
 exact aIY fun x hx=>(zL _).append (aIY fun z hz=>(zL _).append (B.wit x hx z hz))
section
variable (N:Nat)(hN:70000≤N){t:aB}(T:TxK t)
include hN T
theorem a1l (acc:List Int):eZ N t false N 0 acc=some acc:=by
 obtain⟨m,hm⟩: ∃m,N=m+1:=⟨N-1,by omega⟩
 rw[show eZ N t false N 0 acc=eZ N t false (m+1) 0 acc by rw[←hm]]
 unfold eZ
 by_cases h:0<t.Inputs.length
 ·rw[if_pos (decide_eq_true (by omega)),show(0:Int)=((0:Nat):Int)from rfl,bE _ h]
  rfl
 rw[if_neg fun hq=>h (by have:=of_decide_eq_true hq;omega)]
theorem aPb :g8 N t false=some (vM t.Version t.Inputs t.Outputs t.Lock false):=by
 have K:=T.k
 have hn:=K.ni
 have ho:=K.no
 have h1:=jS t.Inputs.length
 have h2:=jS t.Outputs.length
 have h3:=aIE K
 have h4:=aGA K
 simp only[g8,aCs N hN [] _ (by simp),a1K,a1O]
 rw[aJk N hN (nU t.Version) _ (show t.Inputs.length≤1000000 by omega) (by rw[b5];omega)]
 simp only[a1K]
 rw[rL8 N hN K _ _ (by rw[a1L,b5];omega)]
 simp only[a1K,v7]
 rw[aJk N hN _ _ (show t.Outputs.length≤1000000 by omega) (by simp only[a1L,b5];omega)]
 simp only[a1K]
 rw[rL7 N hN K _ _ (by simp only[a1L,b5];omega)]
 simp only[a1K,vZ]
 rw[aCs N hN _ _ (by simp only[a1L,b5];omega)]
 simp only[a1K]
 rw[a1l N hN T]
 simp[aBo,vM]
theorem aH7 (h:nD t.Version t.Inputs t.Outputs t.Lock=true)(w:Bool):(vM t.Version t.Inputs t.Outputs t.Lock w).length≤20000:=by
 have h1:(vM t.Version t.Inputs t.Outputs t.Lock true).length≤20000:=by
  simp only[nD,a2y,decide_eq_true_eq]at h
  omega
 cases w
 ·refine a2G ?_ h1
  unfold vM
  simp
 exact h1
def gV (h:List Int):Prop:=h.length=32∧Byt h
omit hN T in
theorem aPW :gV [0,0,0,0,0,0,0,0,0,0,0,0,0,0,0,0,0,0,0,0,0,0,0,0,0,0,0,0,0,0,0,0]:=⟨rfl,by intro x hx;simp at hx;omega⟩
omit hN T in
theorem aQw (N:Nat)(b:List Int):gV (dbl N b):=⟨vB N b,aXt N b⟩
theorem aZR : ∃h,gV h∧aBa N t=some h:=by
 unfold aBa
 rw[rS N hN T.k]
 simp only[a1K]
 cases hf:nD t.Version t.Inputs t.Outputs t.Lock with
 |false=>exact⟨_,aPW,rfl⟩
 |true=>
  refine⟨dbl N (vM t.Version t.Inputs t.Outputs t.Lock false),aQw _ _, ?_⟩
  have:=aH7 N hN T hf false
  rw[if_neg (by simp),aPb N hN T]
  simp only[a1K]
  rw[aLA N hN _ (aJN T.b false) (by omega)]
  simp only[a1K,aV (vB N _)]
theorem aQY : ∃h,gV h∧y8 N t=some h:=by
 unfold y8
 rw[rS N hN T.k]
 simp only[a1K]
 cases hf:nD t.Version t.Inputs t.Outputs t.Lock with
 |false=>exact⟨_,aPW,rfl⟩
 |true=>
  refine⟨dbl N (vM t.Version t.Inputs t.Outputs t.Lock true),aQw _ _, ?_⟩
  have:=aH7 N hN T hf true
  rw[if_neg (by simp),aFb N hN T.k]
  simp only[a1K]
  rw[aLA N hN _ (aJN T.b true) (by omega)]
  simp only[a1K,aV (vB N _)]
end
def Ok {α:Type}(x:Option α)(Q:α→Prop):Prop:= ∃r,x=some r∧Q r
theorem Ok.pure {α:Type}{Q:α→Prop}{a:α}(h:Q a):Ok (some a) Q:=⟨a,rfl,h⟩
theorem Ok.bind {α β:Type}{x:Option α}{P:α→Prop}{k:α→Option β}{Q:β→Prop}(h:Ok x P)(g: ∀a,P a→Ok (k a) Q):Ok (x.bind k) Q:=by
 obtain⟨a,rfl,ha⟩:=h
 exact g a ha
theorem Ok.eq {α β:Type}{x:Option α}{a:α}{k:α→Option β}{Q:β→Prop}(h:x=some a)(g:Ok (k a) Q):Ok (x.bind k) Q:=by
 rw[h];exact g
theorem Ok.ite {α:Type}{c:Prop} [Decidable c] {x y:Option α} {Q:α→Prop} (h1:c→Ok x Q) (h2: ¬c→Ok y Q):Ok (if c then x else y) Q:=by
 by_cases h:c
 ·rw[if_pos h];exact h1 h
 rw[if_neg h];exact h2 h
theorem Ok.mono {α:Type}{x:Option α}{P Q:α→Prop}(h:Ok x P)(g: ∀a,P a→Q a):Ok x Q:=by
 obtain⟨a,e,ha⟩:=h
 exact⟨a,e,g a ha⟩
def lrP {α β:Type}(R:β→Prop)(P:α→Prop):LR α β→Prop
 | .ret v=>R v
 | .brk s=>P s
theorem Ok.lr {α β δ:Type}{x:Option (LR α β)}{K:LR α β→Option δ}{R:β→Prop}{P:α→Prop}{Q:δ→Prop}(h:Ok x (lrP R P))(g1: ∀v,R v→Ok (K (.ret v)) Q)(g2: ∀s,P s→Ok (K (.brk s)) Q):Ok (x.bind K) Q:=by
 obtain⟨q,rfl,hq⟩:=h
 cases q with
 |ret v=>exact g1 v hq
 |brk s=>exact g2 s hq
theorem lp {σ ρ:Type}{f:Nat→Nat→σ→Option ρ}{Q:ρ→Prop}(I:Nat→σ→Prop)(n:Nat)
  (step: ∀m j s,j<n→I j s→(∀s',I (j+1) s'→Ok (f m (j+1) s') Q)→Ok (f (m+1) j s) Q)
  (fin: ∀m s,I n s→Ok (f (m+1) n s) Q): ∀(m j:Nat)(s:σ),n-j<m→j≤n→I j s→Ok (f m j s) Q
 |0,_,_,hm,_,_=>by omega
 |m+1,j,s,hm,hj,hI=>by
  by_cases h:j<n
  ·exact step m j s h hI fun s' hs'=>lp I n step fin m (j+1) s' (by omega) (by omega) hs'
  obtain rfl:j=n:=by omega
  exact fin m s hI
theorem eF {α:Type}{by_:Nat}{l m:List α}(hb:by_≤200)(h:l.length+m.length≤1000000):b6 by_ l m=some (l++m):=by
 refine aUk (a2G (Nat.mul_le_mul h hb) ?_)
 decide
theorem aGm {α:Type}{l:List α}{a b:Nat}(h1:a≤b)(h2:b≤l.length):sub l (a:Int) (b:Int)=some ((l.take b).drop a):=by
 unfold sub
 rw[if_pos ⟨by omega,by omega,by omega⟩,a1W,a1W]
theorem a1k {α:Type}{n:Nat}{l:List α}{i:Nat}(h:i<n)(hl:l.length=n): ∃y,cC n l (i:Int)=some y∧y∈l:=by
 rw[dG h (by omega)]
 exact⟨_,rfl,a1M _⟩
def Wd (l:List Int):Prop:=l.length=4∧ ∀x∈l,0≤x∧x<18446744073709551616
def U64r (x:Int):Prop:=0≤x∧x<18446744073709551616
theorem aLe (x:Int):U64r (a16.wrap x):=by unfold U64r;rw[a3c];omega
theorem wd1 {x:Int}(h:U64r x):Wd [x,0,0,0]:=⟨rfl,fun y hy=>by simp at hy;rcases hy with rfl|rfl|rfl|rfl<;>first|exact h|decide⟩
theorem U64r.ite {c:Prop} [Decidable c] {a b:Int} (h1:U64r a) (h2:U64r b):U64r (if c then a else b):=by split<;>assumption
theorem aPU (op:BinOp)(a b:Int):U64r (bits op .u64 a b):=by
 unfold bits U64r
 rw[a3c]
 omega
theorem aXE (op:BinOp)(a b:Int):0≤bits op .u32 a b∧bits op .u32 a b<4294967296:=by
 unfold bits
 rw[a3d]
 omega
theorem Wd.set {l:List Int}(h:Wd l)(i:Nat){x:Int}(hx:U64r x):Wd (l.set i x):=
 ⟨by rw[a2b];exact h.1,fun y hy=>(a2J hy).elim (h.2 y) (fun e=>e▸hx)⟩
theorem Wd0 :Wd (a1N 4 0):=⟨rfl,fun x hx=>by have:=a12 hx;omega⟩
theorem Wd.at {l:List Int}(h:Wd l){i:Nat}(hi:i<4):Ok (cC 4 l (i:Int)) U64r:=by
 rw[dG hi (by have:=h.1;omega)]
 exact Ok.pure (h.2 _ (a1M _))
def tJ (x:Int):Prop:=0≤x∧x<4294967296
theorem aUF (x:Int):tJ (a13.wrap x):=by unfold tJ;rw[a3d];omega
theorem w0 :tJ 0:=⟨by decide,by decide⟩
theorem aMQ {k:IntKind}{a:Int}(b:Nat): ∃y,shl k a (b:Int)=some y:=by
 unfold shl;rw[if_neg (by omega)];exact⟨_,rfl⟩
theorem aOA {k:IntKind}{a b:Int}(h:0≤b):Ok (shr k a b) fun _=>True:=by
 unfold shr;rw[if_neg (by omega)];exact Ok.pure trivial
theorem aMy {x y c:Int}(hc:c≤1):Ok (aM8 x y c) fun r=>U64r r.1∧(x<18446744073709551616→y<18446744073709551616→r.2≤1):=by
 unfold aM8
 rw[if_pos (by omega)]
 exact Ok.pure ⟨by unfold U64r;omega,fun _ _=>by show((_:Nat):Int)≤1;omega⟩
theorem aVJ {x y c:Int}(hc:c≤1):Ok (aNj x y c) fun r=>U64r r.1∧r.2≤1:=by
 unfold aNj
 rw[if_pos (by omega)]
 exact Ok.pure ⟨by unfold U64r;omega,by show((_:Nat):Int)≤1;split<;>omega⟩
def W8 (l:List Int):Prop:=l.length=8∧ ∀x∈l,U64r x
theorem W8.set {l:List Int}(h:W8 l)(i:Nat){x:Int}(hx:U64r x):W8 (l.set i x):=
 ⟨by rw[a2b];exact h.1,fun y hy=>(a2J hy).elim (h.2 y) (fun e=>e▸hx)⟩
theorem W8.at {l:List Int}(h:W8 l){i:Nat}(hi:i<8):Ok (cC 8 l (i:Int)) U64r:=by
 rw[dG hi (by have:=h.1;omega)]
 exact Ok.pure (h.2 _ (a1M _))
def Lo (l:List Int):Prop:= ∃w:Nat,w<65536∧l=[(w:Int),0,0,0]
section
variable {N:Nat}
theorem aOp {i:Nat}(hi:i<1000):a1R.wrap (a28 (i:Int) 64)=((i/64:Nat):Int)∧a2w (i:Int) 64=((i%64:Nat):Int):=
 ⟨by rw[show a28 (i:Int) 64=((i/64:Nat):Int)from tS i 64,w64 (by omega) (by omega)],jK i 64⟩
theorem aLC {a:List Int}(h:Wd a){i:Nat}(hi:i<256):Ok (tL N a (i:Int)) fun t=>Lo a→t=true→i<16:=by
 unfold tL
 rw[(aOp (by omega)).1,(aOp (by omega)).2,dG (show i/64<4 by omega) (by have:=h.1;omega),a1K]
 by_cases l:Lo a∧16≤i
 ·obtain⟨⟨w,hw,rfl⟩,hi⟩:=l
  have e:shr .u64 ([(w:Int),0,0,0][i/64]'(by simp;omega)) ((i%64:Nat):Int)=some 0:=by
   have hz: ∀b:Nat,shr .u64 0 (b:Int)=some 0:=fun b=>by
    rw[show(0:Int)=((0:Nat):Int)from rfl,aOf (k:= .u64) 0 b (by decide),Nat.zero_div]
   by_cases h0:i/64=0
   ·simp only[h0,a2U]
    rw[aOf (k:= .u64) w _ (a23 hw (by decide)),a3e (a2H hw (show 65536≤2^(i%64)from a2A (n:=2) (i:=16) (by decide) (by omega)))]
    rfl
   obtain h1|h1|h1:i/64=1∨i/64=2∨i/64=3:=by omega
   all_goals simp only[h1];exact hz _
  exact Ok.eq e (Ok.pure fun _ ht=>absurd ht (by decide))
 exact Ok.bind (aOA (by omega)) fun x _=>Ok.pure fun h _=>by by_cases h16:16≤i;exact absurd ⟨h,h16⟩ l;omega
variable (hN:70000≤N)
include hN
theorem aIm {a b:List Int}(ha:Wd a)(hb:Wd b):Ok (n4 N a b) fun _=>True:=by
 unfold n4
 refine Ok.lr (R:=fun _=>True) (P:=fun _=>True) ?_ (fun v _=>Ok.pure trivial) (fun _ _=>Ok.pure trivial)
 have:=lp (f:=fun m j (_:Unit)=>yJ N a b m (3-(j:Int))) (Q:=lrP (fun _=>True) fun _=>True) (fun _ _=>True) 4 (fun m j _ hj _ ih=> ?_) (fun m _ _=> ?_) N 0 () (by omega) (by omega) trivial
 ·exact this
 ·unfold yJ
  rw[if_pos (decide_eq_true (by omega)),show 3-(j:Int)=((3-j:Nat):Int) by omega]
  refine Ok.bind (ha.at (by omega)) fun x _=>Ok.bind (hb.at (by omega)) fun y _=>Ok.ite (fun _=>Ok.pure trivial) fun _=>Ok.ite (fun _=>Ok.pure trivial) fun _=> ?_
  rw[w64 (by omega) (by omega),show((3-j:Nat):Int)-1=3-((j+1:Nat):Int) by omega]
  exact ih () trivial
 unfold yJ
 exact Ok.pure trivial
theorem aQ1 {a b:List Int}(ha:Wd a)(hb:Wd b):Ok (aD9 N a b) fun r=>Wd r.1:=by
 unfold aD9
 refine Ok.bind (P:=fun r=>Wd r.2) ?_ fun r hr=>by unfold aGO;exact Ok.eq (aV hr.1) (Ok.pure hr)
 have:=lp (f:=fun m j (s:Int×List Int)=>xD N a b m s.1 (j:Int) s.2) (Q:=fun r=>Wd r.2) (fun _ s=>s.1≤1∧Wd s.2) 4 (fun m j s hj hs ih=> ?_) (fun m s hs=> ?_) N 0 (0,a1N 4 0) (by omega) (by omega) ⟨by decide,Wd0⟩
 ·exact this
 ·unfold xD mQ
  rw[if_pos (decide_eq_true (by omega)),i1 (by omega)]
  exact Ok.bind (ha.at hj) fun x hx=>Ok.bind (hb.at hj) fun y hy=>Ok.bind (aMy hs.1) fun r hr=>Ok.bind (hs.2.at hj) fun _ _=>ih (_,_) ⟨hr.2 hx.2 hy.2,hs.2.set _ hr.1⟩
 unfold xD
 exact Ok.pure hs.2
theorem aXS {a b:List Int}(ha:Wd a)(hb:Wd b):Ok (aHb N a b) fun r=>Wd r.1:=by
 unfold aHb
 refine Ok.bind (P:=fun r=>Wd r.2) ?_ fun r hr=>by unfold aGB;exact Ok.eq (aV hr.1) (Ok.pure hr)
 have:=lp (f:=fun m j (s:Int×List Int)=>w8 N a b m s.1 (j:Int) s.2) (Q:=fun r=>Wd r.2) (fun _ s=>s.1≤1∧Wd s.2) 4 (fun m j s hj hs ih=> ?_) (fun m s hs=> ?_) N 0 (0,a1N 4 0) (by omega) (by omega) ⟨by decide,Wd0⟩
 ·exact this
 ·unfold w8 aCF
  rw[if_pos (decide_eq_true (by omega)),i1 (by omega)]
  exact Ok.bind (ha.at hj) fun x hx=>Ok.bind (hb.at hj) fun y hy=>Ok.bind (aVJ hs.1) fun r hr=>Ok.bind (hs.2.at hj) fun _ _=>ih (_,_) ⟨hr.2,hs.2.set _ hr.1⟩
 unfold w8
 exact Ok.pure hs.2
omit hN in
theorem aIV {a:List Int}(ha:Wd a):Ok (nT N a) fun _=>True:=by
 unfold nT;exact Ok.eq (aV ha.1) (Ok.pure trivial)
theorem aSt {a:List Int}(ha:Wd a)(n:Nat):Ok (aD6 N a (n:Int)) Wd:=by
 unfold aD6
 refine Ok.ite (fun _=>Ok.pure Wd0) fun h=> ?_
 have h':n<256:=by
  rcases a2F n 256 with h1|h1
  ·exact h1
  exact absurd (decide_eq_true (by omega)) h
 refine Ok.bind (P:=Wd) ?_ fun r hr=>by unfold aGF;exact Ok.eq (aV hr.1) (Ok.pure hr)
 have:=lp (f:=fun m j l=>xI N m ((n-j:Nat):Int) l) (Q:=Wd) (fun _ l=>Wd l) n (fun m j l hj hl ih=> ?_) (fun m l hl=> ?_) N 0 a (by omega) (by omega) ha
 ·exact this
 ·unfold xI
  rw[if_pos (decide_eq_true (by omega)),w64 (by omega) (by omega),show((n-j:Nat):Int)-1=((n-(j+1):Nat):Int) by omega]
  exact Ok.eq (aV hl.1) (Ok.bind (aQ1 hN hl hl) fun r hr=>Ok.eq (aV hr.1) (ih _ hr))
 unfold xI
 rw[if_neg (by simp)]
 exact Ok.pure hl
theorem aOd {a:List Int}(ha:Wd a){n:Nat}(hn:n<256):Ok (tK N a (n:Int)) fun r=>Wd r∧(n=240→Lo r):=by
 unfold tK
 refine Ok.ite (fun h0=>Ok.eq (aV ha.1) (Ok.pure ⟨ha,fun h=> ?_⟩)) fun h0=> ?_
 ·have:=of_decide_eq_true h0;omega
 rw[if_neg (by simp;omega)]
 refine Ok.bind (P:=fun r=>Wd r∧(n=240→Lo r)) ?_ fun r hr=>by unfold aGl;exact Ok.eq (aV hr.1.1) (Ok.pure hr)
 have:=lp (f:=fun m j l=>pF N a (n:Int) m (j:Int) l) (Q:=fun r=>Wd r∧(n=240→Lo r)) (fun _ l=>Wd l∧(n=240→Lo l)) (256-n) (fun m j l hj hl ih=> ?_) (fun m l hl=> ?_) N 0 (a1N 4 0) (by omega) (by omega) ⟨Wd0,fun _=>⟨0,by decide,rfl⟩⟩
 ·exact this
 ·unfold pF aBq
  rw[show(j:Int)+n=((j+n:Nat):Int) by omega,w64 (by omega) (by omega),if_pos (decide_eq_true (by omega)),i1 (by omega),(aOp (show j<1000 by omega)).1,(aOp (by omega)).2]
  refine Ok.eq (aV ha.1) (Ok.bind (aLC ha (by omega)) fun t _=>Ok.ite (fun _=> ?_) fun _=>ih _ hl)
  rw[dG (show j/64<4 by omega) (by have:=hl.1.1;omega),a1K,show(1:Int)=((1:Nat):Int)from rfl,aSs (k:= .u64) rfl,a1K]
  refine ih _ ⟨hl.1.set _ (aPU _ _ _),fun h=> ?_⟩
  obtain⟨w,hw,rfl⟩:=hl.2 h
  have hj0:j/64=0:=by omega
  have hp:2^(j%64)<2^16:=Nat.pow_lt_pow_right (by decide) (by omega)
  refine⟨w ||| 2^(j%64),Nat.or_lt_two_pow (n:=16) hw hp, ?_⟩
  have e:1*2^(j%64)%2^a16.bits=2^(j%64):=by
   rw[Nat.one_mul,a2m (a23 hp (by decide))]
  rw[e]
  simp only[hj0,a2U]
  rw[aMb (k:= .u64) rfl _ _ (a23 hw (by decide)) (a23 hp (by decide))]
  rfl
 unfold pF
 rw[if_neg (by rw[show((256-n:Nat):Int)+n=256 by omega];decide)]
 exact Ok.pure hl
theorem aSm {a:List Int}(ha:Wd a):Ok (aEc N a) fun r=>Lo a→r≤23:=by
 unfold aEc
 refine Ok.lr (R:=fun r=>Lo a→r≤23) (P:=fun _=>True) ?_ (fun v h=>Ok.pure h) (fun _ _=>Ok.pure fun _=>by decide)
 have:=lp (f:=fun m j (_:Unit)=>xV N a m (255-(j:Int))) (Q:=lrP (fun r=>Lo a→r≤23) fun _=>True) (fun _ _=>True) 256 (fun m j _ hj _ ih=> ?_) (fun m _ _=> ?_) N 0 () (by omega) (by omega) trivial
 ·exact this
 ·unfold xV
  rw[if_pos (decide_eq_true (by omega)),w64 (a:=255-(j:Int)-1) (by omega) (by omega),w64 (by omega) (by omega),show 255-(j:Int)-1=255-((j+1:Nat):Int) by omega,show 255-(j:Int)=((255-j:Nat):Int) by omega]
  refine Ok.eq (aV ha.1) (Ok.bind (aLC ha (by omega)) fun t ht=>Ok.ite (fun h=>Ok.pure fun hl=> ?_) fun _=>ih () trivial)
  have:=ht hl h
  omega
 unfold xV
 exact Ok.pure trivial
omit hN in
theorem aUP {x y:Int}:Ok (wE N x y) fun r=>U64r r.1∧U64r r.2:=by
 unfold wE
 exact Ok.bind (aOA (by decide)) fun _ _=>Ok.bind (aOA (by decide)) fun _ _=>Ok.bind (aOA (by decide)) fun _ _=>Ok.bind (aOA (by decide)) fun _ _=>Ok.bind (aOA (by decide)) fun _ _=>Ok.pure ⟨aLe _,aLe _⟩
theorem aXM {a b:List Int}(ha:Wd a)(hb:Wd b):Ok (aHx N a b) fun r=>Wd r.1∧Wd r.2:=by
 unfold aHx
 refine Ok.bind (P:=W8) ?_ fun l hl=> ?_
 ·refine lp (f:=fun m j l=>oO N a b m (j:Int) l) (fun _ l=>W8 l) 4 (fun m j l hj hl ih=> ?_) (fun m l hl=> ?_) N 0 _ (by omega) (by omega) ⟨rfl,fun x hx=>by have:=a12 hx;unfold U64r;omega⟩
  ·unfold oO aFN aF5
   rw[if_pos (decide_eq_true (by omega))]
   refine Ok.bind (P:=fun r=>U64r r.1∧W8 r.2) ?_ fun r hr=> ?_
   ·have:=lp (f:=fun m i (s:Int×List Int)=>wT N a b (j:Int) m s.1 (i:Int) s.2) (Q:=fun r=>U64r r.1∧W8 r.2) (fun _ s=>U64r s.1∧W8 s.2) 4 (fun m i s hi hs ih=> ?_) (fun m s hs=> ?_) N 0 (0,l) (by omega) (by omega) ⟨⟨Int.le_refl 0,by show(0:Int)<_;decide⟩,hl⟩
    ·exact this
    ·unfold wT mQ
     rw[if_pos (decide_eq_true (by omega)),show(j:Int)+i=((j+i:Nat):Int) by omega,w64 (a:=((j+i:Nat):Int)) (by omega) (by omega),i1 (by omega)]
     exact Ok.bind (ha.at hj) fun x _=>Ok.bind (hb.at hi) fun y _=>Ok.bind aUP fun p _=>Ok.bind (hs.2.at (by omega)) fun z _=>Ok.bind (aMy (by decide)) fun u _=>Ok.bind (aMy (by decide)) fun v hv=>ih (_,_) ⟨aLe _,hs.2.set _ hv.1⟩
    unfold wT
    exact Ok.pure hs
   rw[show(j:Int)+4=((j+4:Nat):Int) by omega,w64 (by omega) (by omega),i1 (by omega)]
   exact Ok.bind (hr.2.at (by omega)) fun _ _=>ih _ (hr.2.set _ hr.1)
  unfold oO
  exact Ok.pure hl
 obtain⟨h8,hm⟩:=hl
 match l,h8 with
 | [q0,q1,q2,q3,q4,q5,q6,q7],_=>
  refine⟨([q4,q5,q6,q7],[q0,q1,q2,q3]),rfl,⟨rfl,fun x hx=>hm x ?_⟩,rfl,fun x hx=>hm x ?_⟩<;>simp at hx⊢ <;>omega
theorem aNW {b:Int}(hb:tJ b):Ok (oS N b) fun r=>Wd r.1:=by
 obtain⟨n,rfl⟩: ∃n:Nat,b=(n:Int):=⟨b.toNat,by have:=hb.1;omega⟩
 have hn:n<4294967296:=by have:=hb.2;omega
 have j1: ∀l,Wd l→Ok (rD N l) fun r=>Wd r.1:=fun l hl=>by
  unfold rD
  exact Ok.eq (aV hl.1) (Ok.bind (aIV hl) fun t _=>Ok.ite (fun _=>Ok.pure Wd0) fun _=>Ok.pure hl)
 unfold oS
 refine Ok.eq (x:=shr .u32 (n:Int) 24) (aOf (k:= .u32) n 24 hn) ?_
 have hx:n/2^24<256:=by omega
 generalize n/2^24=x at hx⊢
 refine Ok.eq (x:=gL N _) rfl (Ok.eq (x:=bM 4 _) rfl (Ok.ite (fun _=>Ok.pure Wd0) fun _=> ?_))
 have W:=wd1 (aLe (bits .and .u32 (n:Int) 16777215))
 generalize [a16.wrap (bits .and .u32 (n:Int) 16777215),0,0,0]=q at W⊢
 have ex:a1R.wrap (x:Int)=x:=w64 (by omega) (by omega)
 rw[ex]
 refine Ok.ite (fun h=> ?_) fun h=> ?_
 ·have h3:x<3:=by have:=of_decide_eq_true h;omega
  rw[w64 (a:=3-(x:Int)) (by omega) (by omega),w64 (by omega) (by omega),show 8*(3-(x:Int))=((8*(3-x):Nat):Int) by omega]
  exact Ok.bind (aOd hN W (by omega)) fun r hr=>Ok.eq (aV hr.1.1) (j1 _ hr.1)
 have h3:3≤x:=by
  rcases a2F x 3 with h1|h1
  ·exact absurd (decide_eq_true (by omega)) h
  exact h1
 have j2: ∀t,Ok (rI N (x:Int) q t) fun r=>Wd r.1:=fun t=>by
  unfold rI
  rw[ex,w64 (a:=(x:Int)-3) (by omega) (by omega),w64 (by omega) (by omega),show 8*((x:Int)-3)=((8*(x-3):Nat):Int) by omega]
  exact Ok.ite (fun _=>Ok.pure Wd0) fun _=>Ok.bind (aSt hN W _) fun r hr=>Ok.eq (aV hr.1) (j1 _ hr)
 exact Ok.bind (aIV W) fun t _=>Ok.ite (fun _=>Ok.bind (aSm hN W) fun _ _=>j2 _) fun _=>j2 _
theorem aYK {h:List Int}(hl:h.length=32):Ok (wL N h) Wd:=by
 unfold wL
 refine Ok.bind (P:=Wd) ?_ fun r hr=> ?_
 ·refine lp (f:=fun m j l=>mC N h m (j:Int) l) (fun _ l=>Wd l) 32 (fun m j l hj hw ih=> ?_) (fun m l hw=> ?_) N 0 _ (by omega) (by omega) Wd0
  ·unfold mC
   have e1:a1R.wrap (a28 (a1R.wrap (31-(j:Int))) 8)=((3-j/8:Nat):Int):=by
    rw[show 31-(j:Int)=((31-j:Nat):Int) by omega,w64 (a:=((31-j:Nat):Int)) (by omega) (by omega),show(8:Int)=((8:Nat):Int)from rfl,tS,w64 (by omega) (by omega)]
    omega
   have e2:a1R.wrap (8*(a2w (a1R.wrap (31-(j:Int))) 8))=((8*((31-j)%8):Nat):Int):=by
    rw[show 31-(j:Int)=((31-j:Nat):Int) by omega,w64 (a:=((31-j:Nat):Int)) (by omega) (by omega),show a2w ((31-j:Nat):Int) 8=(((31-j)%8:Nat):Int)from jK _ 8,w64 (by omega) (by omega)]
    omega
   rw[if_pos (decide_eq_true (by omega)),e1,e2,dG (show 3-j/8<4 by omega) (by have:=hw.1;omega),dG hj (by omega),i1 (by omega)]
   obtain⟨y,hy⟩:=aMQ (k:= .u64) (a:=a16.wrap h[j]) (8*((31-j)%8))
   simp only[a1K,hy]
   exact ih _ (hw.set _ (aPU _ _ _))
  unfold mC
  exact Ok.pure hw
 unfold xR
 exact Ok.eq (aV hr.1) (Ok.pure hr)
theorem aOQ {h:List Int}(hl:h.length=32){b:Int}(hb:tJ b):Ok (aAq N h b) fun _=>True:=by
 unfold aAq
 exact Ok.bind (aNW hN hb) fun r hr=>Ok.eq (aV hr.1) (Ok.ite (fun _=>Ok.eq (aV hl) (Ok.bind (aYK hN hl) fun q hq=>Ok.bind (aIm hN hq hr) fun _ _=>Ok.pure trivial)) (fun _=>Ok.pure trivial))
theorem aXe {hi lo b:List Int}(h1:Wd hi)(h2:Wd lo)(h3:Wd b):Ok (aHi N hi lo b) fun r=>Wd r.1∧Wd r.2.1:=by
 unfold aHi
 refine Ok.eq (aV h3.1) (Ok.eq (aV h1.1) (Ok.bind (aIm hN h3 h1) fun _ _=>Ok.ite (fun _=>Ok.pure ⟨Wd0,Wd0⟩) fun _=> ?_))
 refine Ok.bind (P:=fun r=>Wd r.1∧Wd r.2) ?_ fun r hr=>by unfold aFO;exact Ok.eq (aV hr.1.1) (Ok.eq (aV hr.2.1) (Ok.pure hr))
 have:=lp (f:=fun m j (s:List Int×List Int)=>g7 N lo b m (255-(j:Int)) s.1 s.2) (Q:=fun r=>Wd r.1∧Wd r.2) (fun _ s=>Wd s.1∧Wd s.2) 256 (fun m j s hj hw ih=> ?_) (fun m s hw=> ?_) N 0 (a1N 4 0,hi) (by omega) (by omega) ⟨Wd0,h1⟩
 ·exact this
 ·obtain⟨l2,l3⟩:=s
  obtain⟨hw2,hw3⟩:Wd l2∧Wd l3:=hw
  have n1:a1R.wrap (255-(j:Int)-1)=255-((j+1:Nat):Int):=by rw[w64 (by omega) (by omega)];omega
  have ek:255-(j:Int)=((255-j:Nat):Int):=by omega
  have j5: ∀(t:Bool)(l:List Int),Wd l→Ok (xQ N lo b (255-(j:Int)) l2 l (g7 N lo b m) t) fun r=>Wd r.1∧Wd r.2:=by
   intro t l hl
   unfold xQ aCz
   rw[n1]
   refine Ok.ite (fun _=> ?_) (fun _=>ih (l2,l) ⟨hw2,hl⟩)
   rw[ek,(aOp (by omega)).1,(aOp (by omega)).2]
   refine Ok.eq (aV hl.1) (Ok.bind (aXS hN hl h3) fun r hr=>Ok.eq (aV hr.1) (Ok.bind (hw2.at (by omega)) fun v _=> ?_))
   obtain⟨v,hv⟩:=aMQ (k:= .u64) (a:=1) ((255-j)%64)
   exact Ok.eq hv (ih (l2.set _ _,_) ⟨hw2.set _ (aPU _ _ _),hr⟩)
  have j4: ∀(t:Bool)(l:List Int),Wd l→Ok (xH N lo b (255-(j:Int)) l2 t (g7 N lo b m) l) fun r=>Wd r.1∧Wd r.2:=by
   intro t l hl
   unfold xH
   exact Ok.ite (fun _=>j5 _ _ hl) (fun _=>Ok.eq (aV hl.1) (Ok.bind (aIm hN hl h3) fun _ _=>j5 _ _ hl))
  unfold g7
  rw[if_pos (decide_eq_true (by omega))]
  refine Ok.eq (aV hw3.1) (Ok.bind (aLC (i:=255) hw3 (by omega)) fun t _=>Ok.bind (aQ1 hN hw3 hw3) fun r hr=>Ok.eq (aV hr.1) (Ok.eq (aV h2.1) ?_))
  refine Ok.bind (x:=tL N lo (255-(j:Int))) (by rw[ek];exact aLC h2 (by omega)) fun t' _=>Ok.ite (fun _=> ?_) (fun _=>j4 _ _ hr)
  exact Ok.bind (hr.at (i:=0) (by decide)) fun v _=>j4 _ _ (hr.set _ (aPU _ _ _))
 unfold g7
 exact Ok.pure hw
theorem aRZ {t:List Int}(ht:Wd t):Ok (aAB N t) tJ:=by
 unfold aAB
 refine Ok.eq (aV ht.1) (Ok.bind (aIV ht) fun _ _=>Ok.ite (fun _=>Ok.pure w0) fun _=> ?_)
 have j3: ∀(m j:Nat)(u:List Int),j≤33→Wd u→(j<33→Ok (eD N t m ((j+1:Nat):Int)) (lrP tJ fun _=>False))→(j=33→Lo u)→Ok (o7 N t (j:Int) (eD N t m) u) (lrP tJ fun _=>False):=by
  intro m j u h2 hu ih h33
  unfold o7 pQ
  refine Ok.eq (aV hu.1) (Ok.bind (aSm hN hu) fun n hn=>Ok.ite (fun _=> ?_) (fun hq=> ?_))
  ·obtain⟨y,hy⟩:=aMQ (k:= .u32) (a:=a13.wrap (j:Int)) 24
   exact Ok.eq hy (Ok.bind (hu.at (i:=0) (by decide)) fun _ _=>Ok.pure (aXE _ _ _))
  rw[i1 (by omega)]
  refine ih ?_
  rcases a2F j 33 with hlt|hge
  ·exact hlt
  exact absurd (decide_eq_true (hn (h33 (by omega)))) hq
 have body: ∀(m j:Nat),1≤j→j≤33→(j<33→Ok (eD N t m ((j+1:Nat):Int)) (lrP tJ fun _=>False))→Ok (eD N t (m+1) (j:Int)) (lrP tJ fun _=>False):=by
  intro m j h1 h2 ih
  unfold eD
  refine Ok.ite (fun hc=> ?_) (fun hc=> ?_)
  ·have hc':j≤3:=by have:=of_decide_eq_true hc;omega
   rw[w64 (a:=3-(j:Int)) (by omega) (by omega),w64 (by omega) (by omega),show 8*(3-(j:Int))=((8*(3-j):Nat):Int) by omega]
   refine Ok.bind (aSt hN ht _) fun u hu=>Ok.eq (aV hu.1) (Ok.bind (aOd hN hu (by omega)) fun v hv=>Ok.bind (aIm hN hv.1 ht) fun _ _=>Ok.ite (fun _=> ?_) (fun _=> ?_))
   ·unfold pQ
    rw[i1 (by omega)]
    exact ih (by omega)
   exact j3 m j _ h2 hu ih (fun he=>by omega)
  have hc':3<j:=by
   rcases a2F 3 j with hl|hl
   ·exact hl
   exact absurd (decide_eq_true (show(j:Int)≤3 by omega)) hc
  rw[w64 (a:=(j:Int)-3) (by omega) (by omega),w64 (by omega) (by omega),show 8*((j:Int)-3)=((8*(j-3):Nat):Int) by omega]
  exact Ok.bind (aOd hN ht (by omega)) fun u hu=>Ok.eq (aV hu.1.1) (j3 m j _ h2 hu.1 ih fun he=>hu.2 (by omega))
 refine Ok.lr (R:=tJ) (P:=fun _=>False) ?_ (fun _ h=>Ok.pure h) (fun _ h=>h.elim)
 have:=lp (f:=fun m j (_:Unit)=>eD N t m ((j+1:Nat):Int)) (Q:=lrP tJ fun _=>False) (fun _ _=>True) 32
  (fun m j _ hj _ ih=>body m (j+1) (by omega) (by omega) (fun _=>ih () trivial)) (fun m _ _=>body m 33 (by omega) (by omega) (fun h=>by omega)) N 0 () (by omega) (by omega) trivial
 exact this
end
structure PK (p:aK):Prop where
 gb:p.Genesis.Bits=545259519
 lim:p.Limit=[18446744073709551615,18446744073709551615,18446744073709551615,9223372036854775807]
 chk:p.Checkpoints=[]
 sub:p.Subsidy=1000
 win:1≤p.Window∧p.Window≤4096
 spc:1≤p.Spacing∧p.Spacing≤1048576
 hal:1≤p.Halving∧p.Halving≤100
 mat:0≤p.Maturity∧p.Maturity≤100
 gp:gV p.Genesis.Prev
 gr:gV p.Genesis.Root
theorem PK.wd {p:aK}(P:PK p):Wd p.Limit:=by rw[P.lim];exact⟨rfl,by decide⟩
theorem PK.gw {p:aK}(P:PK p):tJ p.Genesis.Bits:=by rw[P.gb];exact⟨by decide,by decide⟩
structure aS1 (c:bA):Prop where
 h:gV c.Hash
 b:tJ c.Bits
 t:c.Times.length≤100
 hh:0≤c.Height∧c.Height≤1000
structure HdK (h:bV):Prop where
 p:gV h.Prev
 r:gV h.Root
 b:tJ h.Bits
theorem aVn (s n:Nat):s/2/2^n=s/2^(n+1):=by rw[Nat.div_div_eq_div_mul,Nat.pow_succ,Nat.mul_comm]
theorem aOJ {N:Nat}: ∀(m k s n:Nat),k<m→s<2^k→k≤60→n≤9223372036854775807→jO N m (s:Int) (n:Int)=some ((s/2^n:Nat):Int)
 |m+1,k,s,n,hk,hs,h60,hn=>by
  unfold jO uK
  have hs2:s<9223372036854775808:=a2H hs (a2G (a2A (by omega) (show k≤63 by omega)) (by decide))
  cases n with
  |zero=>rw[if_neg (by simp),if_neg (by simp),Nat.pow_zero,Nat.div_one]
  |succ n=>
   rw[if_pos (decide_eq_true (by omega))]
   by_cases h0:s=0
   ·subst h0
    rw[if_neg (by simp),Nat.zero_div]
   have hk1:0<k:=by
    rcases a2s k with hz|hz
    ·subst hz;simp only[Nat.pow_zero]at hs;omega
    exact hz
   rw[if_pos (decide_eq_true (by omega)),show(2:Int)=((2:Nat):Int)from rfl,tS,w64 (by omega) (by omega),w64 (by omega) (by omega),show((n+1:Nat):Int)-1=(n:Int) by omega,aOJ m (k-1) (s/2) n (by omega) ?_ (by omega) (by omega),aVn]
   have:2^k=2^(k-1)*2:=by rw[←Nat.pow_succ];congr 1;omega
   omega
section
variable {N:Nat}(hN:70000≤N)
include hN
theorem aJP {h:bV}(H:HdK h):Ok (nW N h) gV:=⟨_,aTu N hN h H.p.1 H.r.1 H.p.2 H.r.2,aQw _ _⟩
theorem aUy {p:aK}(P:PK p):oA N p=some true:=by
 obtain⟨M,rfl⟩: ∃M,N=M+300:=⟨N-300,by omega⟩
 obtain⟨h1,h2⟩:=P.win
 obtain⟨h3,h4⟩:=P.spc
 obtain⟨h5,h6⟩:=P.hal
 obtain⟨h7,h8⟩:=P.mat
 have e:aEX (M+300) 545259519=some ([0,0,0,9223370937343148032],0):=by kernel_rfl
 have c:aI7 (M+300) [0,0,0,9223370937343148032] [18446744073709551615,18446744073709551615,18446744073709551615,9223372036854775807]=some (-1):=by kernel_rfl
 have l:aAd (M+300) p (M+300)=some ():=by unfold aAd;rw[P.chk];rfl
 unfold oA z6
 rw[P.gb,e,l,P.lim,P.sub]
 simp only[bM,a1Y,a2r,if_true,a1K,c,decide_eq_false (show¬p.Window<1 by omega),decide_eq_false (show¬4096<p.Window by omega),decide_eq_false (show¬p.Spacing<1 by omega),decide_eq_false (show¬1048576<p.Spacing by omega),decide_eq_false (show¬p.Halving<1 by omega),decide_eq_false (show¬16777216<p.Halving by omega),decide_eq_false (show¬p.Maturity<0 by omega),decide_eq_false (show¬16777216<p.Maturity by omega)]
 rfl
theorem aQV {p:aK}(P:PK p):jB N p=some true:=by
 obtain⟨M,rfl⟩: ∃M,N=M+300:=⟨N-300,by omega⟩
 obtain⟨h1,h2⟩:=P.win
 obtain⟨h3,h4⟩:=P.spc
 obtain⟨h5,h6⟩:=P.hal
 obtain⟨h7,h8⟩:=P.mat
 have e:oS (M+300) 545259519=some ([0,0,0,9223370937343148032],0):=by kernel_rfl
 have c:n4 (M+300) [0,0,0,9223370937343148032] [18446744073709551615,18446744073709551615,18446744073709551615,9223372036854775807]=some (-1):=by kernel_rfl
 have l:aDB (M+300) p (M+300)=some ():=by unfold aDB;rw[P.chk];rfl
 unfold jB aDy nT
 rw[P.gb,e,l,P.lim,P.sub]
 simp only[bM,a1Y,a2r,if_true,a1K,c,decide_eq_false (show¬p.Window<1 by omega),decide_eq_false (show¬4096<p.Window by omega),decide_eq_false (show¬p.Spacing<1 by omega),decide_eq_false (show¬1048576<p.Spacing by omega),decide_eq_false (show¬p.Halving<1 by omega),decide_eq_false (show¬16777216<p.Halving by omega),decide_eq_false (show¬p.Maturity<0 by omega),decide_eq_false (show¬16777216<p.Maturity by omega)]
 rfl
theorem yI {p:aK}(P:PK p):Ok (jB N p) fun _=>True:=⟨_,aQV hN P,trivial⟩
theorem aT9 {p:aK}(P:PK p){h:Int}(hh: -9223372036854775808≤h∧h≤9223372036854775807): ∃s,oL N p h=some s∧nB N p h=some s∧0≤s∧s≤1000:=by
 unfold oL nB
 rw[aUy hN P,aQV hN P]
 simp only[a1K]
 rw[if_neg (by simp),if_neg (by simp)]
 unfold rW o9
 by_cases h0:0≤h
 ·rw[if_neg (by simp;omega),if_neg (by simp;omega),P.sub]
  obtain⟨n,rfl⟩: ∃n:Nat,h=(n:Int):=⟨h.toNat,by omega⟩
  obtain⟨g,hg⟩: ∃g:Nat,p.Halving=(g:Int):=⟨p.Halving.toNat,by have:=P.hal;omega⟩
  have f3:=P.hal
  rw[hg]at f3⊢
  have le:=Nat.div_le_self n g
  have hq:quo .i64 (n:Int) (g:Int)=some ((n/g:Nat):Int):=by
   unfold quo
   rw[if_neg (by omega),tS]
   generalize n/g=e at le⊢
   rw[w64 (by omega) (by omega)]
  rw[hq]
  simp only[a1K]
  generalize n/g=e at le⊢
  refine⟨((1000/2^e:Nat):Int), ?_, ?_,a29 _,by have:=Nat.div_le_self 1000 (2^e);omega⟩
  ·rw[show(1000:Int)=((1000:Nat):Int)from rfl,shr]
   rw[if_neg (by omega),a1W,show(a1R).bits=64 from rfl]
   have z:(2:Int)^min e 64=((2^min e 64:Nat):Int):=by simp
   rw[z,Int.fdiv_eq_ediv_of_nonneg _ (a29 _),←Int.natCast_ediv]
   rcases Nat.le_total e 64 with he|he
   ·rw[a2X he];rfl
   rw[Nat.min_eq_right he,a3e (a2H (by decide:1000<2^64) (a2A (by omega) he))];rfl
  rw[show(1000:Int)=((1000:Nat):Int)from rfl,aOJ N 10 1000 e (by omega) (by omega) (by omega) (by omega)]
  rfl
 rw[if_pos (decide_eq_true (by omega)),if_pos (decide_eq_true (by omega))]
 exact⟨0,rfl,rfl,by omega,by omega⟩
theorem aUJ {p:aK}(P:PK p){h:Int}(hh: -9223372036854775808≤h∧h≤9223372036854775807):Ok (nB N p h) fun s=>0≤s∧s≤1000:=by
 obtain⟨s,_,h1,h2⟩:=aT9 hN P hh
 exact⟨s,h1,h2⟩
theorem aTd {p:aK}(P:PK p){vb first last:Int}(hb:tJ vb):Ok (aBy N p vb first last) fun r=>tJ r.1:=by
 have j3: ∀l,Wd l→Ok (qX N l) fun r=>tJ r.1:=fun l hl=>by
  unfold qX
  exact Ok.eq (aV hl.1) (Ok.bind (aRZ hN hl) fun r hr=>Ok.pure hr)
 have j2: ∀l,Wd l→Ok (qO N l) fun r=>tJ r.1:=fun l hl=>by
  unfold qO
  refine Ok.eq (aV hl.1) (Ok.bind (aIV hl) fun _ _=>Ok.ite (fun _=> ?_) (fun _=>j3 _ hl))
  exact Ok.eq (x:=gL N 1) rfl (Ok.eq (x:=bM 4 _) rfl (j3 _ (wd1 ⟨by decide,by decide⟩)))
 have j4: ∀(q:List Int×List Int×Bool)(t:Bool),Wd q.1→Ok (qS N p q t) fun r=>tJ r.1:=fun q t hq=>by
  unfold qS
  exact Ok.ite (fun _=>Ok.eq (aV P.wd.1) (j2 _ P.wd)) (fun _=>j2 _ hq)
 have j1: ∀(q:List Int×Int)(vK:Int),Wd q.1→U64r vK→Ok (qR N p q vK) fun r=>tJ r.1:=fun q vK hq hs=>by
  unfold qR
  refine Ok.eq (x:=gL N _) rfl (Ok.bind (aXM hN hq (wd1 (U64r.ite (aLe _) (U64r.ite (aLe _) hs)))) fun r hr=> ?_)
  refine Ok.eq (aV hr.1.1) (Ok.eq (aV hr.2.1) (Ok.eq (x:=gL N _) rfl (Ok.bind (aXe hN hr.1 hr.2 (wd1 (aLe _))) fun d hd=> ?_)))
  exact Ok.eq (aV hd.1.1) (Ok.eq (aV hd.2.1) (Ok.ite (fun _=>j4 _ _ hd.1) fun _=>Ok.eq (aV P.wd.1) (Ok.bind (aIm hN hd.1 P.wd) fun _ _=>j4 _ _ hd.1)))
 unfold aBy
 refine Ok.bind (yI hN P) fun t _=>Ok.ite (fun _=>Ok.pure w0) fun _=> ?_
 refine Ok.bind (aNW hN hb) fun q hq=>Ok.eq (aV hq.1) (Ok.ite (fun _=>Ok.pure w0) fun _=> ?_)
 exact Ok.ite (fun _=>j1 _ _ hq (aLe _)) (fun _=>j1 _ _ hq ⟨by decide,by decide⟩)
theorem aRI {p:aK}{c:bA}(P:PK p)(C:aS1 c):Ok (y0 N p c) fun r=>tJ r.1:=by
 have j1: ∀t:Bool,(t=false→0<c.Times.length)→Ok (k6 N p c t) fun r=>tJ r.1:=fun t ht=>by
  unfold k6
  refine Ok.ite (fun _=>Ok.pure w0) (fun hf=> ?_)
  have h0:=ht (by cases t;rfl;exact absurd rfl hf)
  have hw:=P.win
  have hr: ∃y,rem (a1R.wrap (c.Height+1)) p.Window=some y:=by
   unfold rem;rw[if_neg (by omega)];exact⟨_,rfl⟩
  obtain⟨y,hy⟩:=hr
  refine Ok.eq hy (Ok.ite (fun _=>Ok.pure C.b) fun _=> ?_)
  have hl:=C.t
  rw[w64 (by omega) (by omega),show(c.Times.length:Int)-1=((c.Times.length-1:Nat):Int) by omega]
  exact Ok.eq (bE _ (by omega)) (Ok.bind (aTd hN P C.b) fun r hr=>Ok.pure hr)
 unfold y0
 refine Ok.bind (yI hN P) fun t _=> ?_
 refine Ok.ite (fun _=>j1 _ (by simp)) fun _=>Ok.ite (fun _=>j1 _ (by simp)) fun _=>Ok.ite (fun _=>j1 _ (by simp)) fun _=>Ok.ite (fun _=>j1 _ (by simp)) fun h=>j1 _ (fun _=> ?_)
 rcases a2s c.Times.length with h0|h0
 ·exact absurd (by rw[h0];rfl) h
 exact h0
theorem aNl {l:List Int}(hl:l.length≤1000):Ok (s0 N l) fun _=>True:=by
 unfold s0
 refine Ok.bind (P:=fun r=>r.length≤1000) ?_ fun r hr=> ?_
 ·refine lp (f:=fun m j s=>iV N l m (j:Int) s) (fun j s=>s.length=j) l.length (fun m j s hj hs ih=> ?_) (fun m s hs=> ?_) N 0 [] (by omega) (by omega) rfl
  ·unfold iV
   rw[if_pos (dT hj)]
   refine Ok.eq (bE _ hj) (Ok.bind (P:=fun v=> ∃k:Nat,v=(k:Int)∧k≤s.length) ?_ fun v hv=> ?_)
   ·refine lp (f:=fun m i (_:Unit)=>iY N l (j:Int) s l[j] m (i:Int)) (fun _ _=>True) s.length (fun m i _ hi _ ih=> ?_) (fun m _ _=> ?_) N 0 () (by omega) (by omega) trivial
    ·unfold iY qZ
     rw[if_pos (dT hi),i1 (by omega)]
     exact Ok.eq (bE _ hi) (Ok.ite (fun _=>ih () trivial) fun _=>Ok.pure ⟨i,rfl,by omega⟩)
    unfold iY qZ
    rw[if_neg (by simp)]
    exact Ok.ite (fun h=>by cases h) fun _=>Ok.pure ⟨s.length,rfl,by omega⟩
   obtain⟨k,rfl,hk⟩:=hv
   unfold wI aCf
   rw[i1 (by omega)]
   refine Ok.eq (aGm (a:=0) (a3f k) hk) (Ok.eq (aGm hk (a2j _)) (Ok.eq (eF (by omega) (by simp;omega)) (Ok.eq (eF (by omega) (by simp;omega)) (ih _ ?_))))
   simp
   omega
  unfold iV
  rw[if_neg (by simp)]
  exact Ok.pure (by omega)
 unfold aBP
 refine Ok.ite (fun _=>Ok.pure trivial) (fun h=> ?_)
 have h0:0<r.length:=by
  rcases a2s r.length with h0|h0
  ·exact absurd (by rw[h0];rfl) h
  exact h0
 rw[show a28 (r.length:Int) 2=((r.length/2:Nat):Int)from tS _ 2,w64 (by omega) (by omega)]
 exact Ok.eq (bE _ (by omega)) (Ok.pure trivial)
theorem aV5 {p:aK}{c:bA}{nV:List Int}{vby:Int}(P:PK p)(C:aS1 c)(R:gV nV):Ok (aG4 N p c nV vby) HdK:=by
 unfold aG4
 refine Ok.bind (aRI hN P C) fun x hx=>Ok.eq (aV C.h.1) (Ok.eq (aV R.1) (Ok.bind (aNl hN (by have:=C.t;omega)) fun y _=> ?_))
 have hd: ∀n t,HdK (bV.mk p.Version c.Hash nV t x.1 n):=fun n t=>⟨C.h,R,hx⟩
 refine Ok.lr (R:=HdK) (P:=fun _=>True) ?_ (fun v hv=>Ok.pure hv) fun s _=>Ok.pure (hd _ _)
 refine lp (f:=fun m j (_:Unit)=>xF N p c nV vby x y m (j:Int)) (fun _ _=>True) 20000 (fun m j _ hj _ ih=> ?_) (fun m _ _=> ?_) N 0 () (by omega) (by omega) trivial
 ·unfold xF
  rw[if_pos (decide_eq_true (by omega))]
  refine Ok.bind (aJP hN (hd _ _)) fun h hh=>Ok.bind (aOQ hN hh.1 hx) fun t _=>Ok.ite (fun _=>Ok.pure (hd _ _)) fun _=> ?_
  rw[aZO (by omega) (by omega)]
  exact ih () trivial
 unfold xF
 rw[if_neg (by decide)]
 exact Ok.pure trivial
end
def ScrK (s:List Int):Prop:= ∃k:Nat,1≤k∧k≤6∧s=[1,1,(k:Int),5]
def aTl (o:aI):Prop:=ScrK o.Script∧ -10≤o.Value∧o.Value≤4000
def OutP (o:aI):Prop:=ScrK o.Script∧0≤o.Value∧o.Value≤3000
theorem OutP.m {o:aI}(h:OutP o):aTl o:=⟨h.1,by have:=h.2.1;omega,by have:=h.2.2;omega⟩
structure CoinM (c:aA):Prop where
 o:zT c.Out
 p:OutP c.Output
structure InM (x:aT):Prop where
 p:zT x.Prev
 w:x.Witness=[]∨ ∃k:Nat,k≤255∧x.Witness=[[(k:Int)]]
 s:tJ x.Sequence
structure TxM (t:aB):Prop where
 i: ∃x,t.Inputs=[x]∧InM x
 n:t.Outputs.length≤2
 o: ∀o∈t.Outputs,aTl o
structure TxP (t:aB):Prop where
 m:TxM t
 p: ∀o∈t.Outputs,OutP o
structure TxG (t:aB):Prop where
 q:TxP t
 n:0<t.Outputs.length
theorem ScrK.len {s:List Int}(h:ScrK s):s.length=4:=by obtain⟨k,_,_,rfl⟩:=h;rfl
theorem ScrK.byt {s:List Int}(h:ScrK s):Byt s:=by
 obtain⟨k,h1,h2,rfl⟩:=h
 intro x hx
 simp at hx
 omega
theorem InM.wit {x:aT}(h:InM x):x.Witness.length≤1∧ ∀w∈x.Witness,w.length=1∧Byt w:=by
 rcases h.w with e|⟨k,h2,e⟩
 ·rw[e];exact⟨by simp,fun w hw=>by simp at hw⟩
 rw[e]
 refine⟨by simp,fun w hw=> ?_⟩
 simp at hw
 subst hw
 refine⟨rfl,fun x hx=> ?_⟩
 simp at hx
 omega
theorem TxM.k {t:aB}(T:TxM t):TxK t:=by
 obtain⟨x,hi,hx⟩:=T.i
 have hw:=hx.wit
 have hn:=T.n
 refine⟨⟨by rw[hi];simp,by omega,fun y hy=> ?_,fun o ho=>by rw[(T.o o ho).1.len];omega,fun y hy=> ?_⟩,⟨fun y hy=> ?_,fun y hy w h=> ?_,fun o ho=>(T.o o ho).1.byt⟩⟩
 all_goals
  rw[hi]at hy
  obtain rfl:=a1T.1 hy
 ·exact⟨by omega,fun w h=>by have:=(hw.2 w h).1;omega⟩
 ·exact hx.p.1
 ·exact hx.p.2
 exact(hw.2 w h).2
def TxQ (j:Nat)(s:Int×List aB×List aA):Prop:=
 (0≤s.1∧s.1≤2*(j:Int))∧(s.2.1.length≤j∧ ∀t∈s.2.1,TxG t)∧s.2.2.length≤500+2*j∧ ∀c∈s.2.2,CoinM c
section
variable {N:Nat}(hN:70000≤N)
include hN
theorem aIZ {v:Int}(h:0≤v∧v<256):Ok (nZ N v) ScrK:=by
 refine⟨_,rfl,1+v.toNat%6,by omega,by omega, ?_⟩
 obtain⟨n,rfl⟩: ∃n:Nat,v=(n:Int):=⟨v.toNat,by omega⟩
 rw[show a2w (n:Int) 6=((n%6:Nat):Int)from jK n 6,a1W]
 rw[show a17.wrap (1+((n%6:Nat):Int))=1+((n%6:Nat):Int) by rw[a2D];omega]
 simp
theorem aTt {c:aA}(C:CoinM c){vs:Int}(h:0≤vs∧vs<256):Ok (aFr N c vs) fun r=>TxG (aB.mk r.1 r.2.1 r.2.2.1 r.2.2.2.1)∧0≤r.2.2.2.2∧r.2.2.2.2≤2:=by
 obtain⟨F,hF⟩: ∃F,F=(if c.Output.Value<a1R.wrap (a2w vs 3)then c.Output.Value else a1R.wrap (a2w vs 3)):=⟨_,rfl⟩
 obtain⟨hs,hv⟩:=C.p
 obtain⟨n,rfl⟩: ∃n:Nat,vs=(n:Int):=⟨vs.toNat,by omega⟩
 have hF':0≤F∧F≤2∧F≤c.Output.Value:=by
  rw[show a2w (n:Int) 3=((n%3:Nat):Int)from jK n 3,w64 (by omega) (by omega)]at hF
  split at hF<;>omega
 obtain⟨k,k1,k2,ek⟩:=hs
 have j1: ∀(first:Int)(l:List aI),0≤first→first≤3000→l.length≤1→(∀o∈l,OutP o)→Ok (uV N c (n:Int) [[(k:Int)]] first l) fun r=>TxG (aB.mk r.1 r.2.1 r.2.2.1 r.2.2.2.1)∧0≤r.2.2.2.2∧r.2.2.2.2≤2:=by
  intro first l f0 f1 hl ho
  unfold uV
  rw[←hF]
  refine Ok.bind (aIZ hN (aCu _)) fun s hs=>Ok.eq (eF (by omega) (by simp;omega)) (Ok.pure ?_)
  have hp: ∀o∈l++[aI.mk first s],OutP o:=fun o h=>by
   rcases a11.1 h with h|h
   ·exact ho o h
   obtain rfl:=a1T.1 h
   exact⟨hs,f0,f1⟩
  exact⟨⟨⟨⟨⟨_,rfl,C.o,.inr ⟨k,by omega,rfl⟩,aUF _⟩,by simp;omega,fun o h=>(hp o h).m⟩,hp⟩,by simp⟩,hF'.1,hF'.2.1⟩
 unfold aFr
 refine Ok.eq (a:=[[(k:Int)]]) (by rw[ek];rfl) ?_
 rw[←hF,w64 (a:=c.Output.Value-F) (by omega) (by omega)]
 obtain⟨m,hm⟩: ∃m:Nat,c.Output.Value-F=(m:Int):=⟨(c.Output.Value-F).toNat,by omega⟩
 rw[hm,show a28 (m:Int) 3=((m/3:Nat):Int)from tS m 3,w64 (a:=((m/3:Nat):Int)) (by omega) (by omega),w64 (by omega) (by omega)]
 refine Ok.ite (fun _=> ?_) (fun _=>j1 _ _ (by omega) (by omega) (by simp) (fun o h=>by simp at h))
 refine Ok.bind (aIZ hN (aCu _)) fun s hs=>Ok.eq (eF (by omega) (by simp)) (j1 _ _ (by omega) (by omega) (by simp) (fun o h=> ?_))
 rw[a1O]at h
 obtain rfl:=a1T.1 h
 exact⟨hs,by simp only;omega,by simp only;omega⟩
theorem aXT {p:aK}{l:aF}(hn:l.Coins.length≤500)(hc: ∀c∈l.Coins,CoinM c){vs:Int}(h:0≤vs∧vs<256):
  Ok (rY N p l vs) fun r=>r.1.length≤3∧(∀t∈r.1,TxG t)∧0≤r.2∧r.2≤6:=by
 obtain⟨v,rfl⟩: ∃v:Nat,vs=(v:Int):=⟨vs.toNat,by omega⟩
 unfold rY
 refine Ok.eq (eF (by omega) (by simp;omega)) (Ok.bind (P:=fun r=>(0≤r.1∧r.1≤6)∧r.2.length≤3∧ ∀t∈r.2,TxG t) ?_ fun r hr=>Ok.pure ⟨hr.2.1,hr.2.2,hr.1⟩)
 rw[a1O]
 have:=lp (f:=fun m j (s:Int×List aB×List aA)=>iO N p l (v:Int) m s.1 (j:Int) s.2.1 s.2.2) (Q:=fun r=>(0≤r.1∧r.1≤6)∧r.2.length≤3∧ ∀t∈r.2,TxG t)
  TxQ (v%4) (fun m j s hj hs ih=> ?_) (fun m s hs=> ?_) N 0 (0,[],l.Coins) (by omega) (by omega) ⟨⟨by simp,by simp⟩,⟨by simp,by simp⟩,by simpa using hn,hc⟩
 ·exact this
 ·obtain⟨fees,l2,l3⟩:=s
  obtain⟨⟨f0,f1⟩,⟨n2,t2⟩,n3,c3⟩:(0≤fees∧fees≤2*j)∧(l2.length≤j∧ ∀t∈l2,TxG t)∧l3.length≤500+2*j∧ ∀c∈l3,CoinM c:=hs
  unfold iO
  rw[show a2w (v:Int) 4=((v%4:Nat):Int)from jK v 4,if_pos (dT hj)]
  refine Ok.bind (P:=TxQ (j+1)) ?_ fun s hs=> ?_
  ·have j7: ∀(x:Int×List aT×List aI×Int×Int)(txs:List aB)(cs:List aA)(rec:Int→Option (Int×List aB×List aA)),TxG (aB.mk x.1 x.2.1 x.2.2.1 x.2.2.2.1)→0≤x.2.2.2.2→x.2.2.2.2≤2→(txs.length≤j+1∧ ∀t∈txs,TxG t)→cs.length≤500+2*j→(∀c∈cs,CoinM c)→
     Ok (kH N p l (v:Int) fees (j:Int) x txs rec cs) (TxQ (j+1)):=by
    intro x txs cs rec T g0 g1 ht hcs hcm
    unfold kH
    obtain⟨id,hid,eid⟩:=aZR N hN T.q.m.k
    refine Ok.eq eid (Ok.eq (aV hid.1) (Ok.bind (P:=fun r=>r.length≤cs.length+x.2.2.1.length∧ ∀c∈r,CoinM c) ?_ fun r hr=> ?_))
    ·have ho:=T.q.m.n
     refine lp (f:=fun m i r=>kL N p l (v:Int) fees (j:Int) x txs id m (i:Int) r) (fun i r=>r.length≤cs.length+i∧ ∀c∈r,CoinM c) x.2.2.1.length (fun m i r hi hr ih=> ?_) (fun m r hr=> ?_) N 0 cs (by simp only at ho;omega) (by omega) ⟨by omega,hcm⟩
     ·unfold kL
      rw[if_pos (dT hi)]
      simp only at ho
      refine Ok.eq (bE _ hi) (Ok.eq (eF (by omega) (by have:=hr.1;simp;omega)) ?_)
      rw[i1 (by omega)]
      refine ih _ ⟨by have:=hr.1;simp;omega,fun c hc=> ?_⟩
      rcases a11.1 hc with hc|hc
      ·exact hr.2 c hc
      obtain rfl:=a1T.1 hc
      exact⟨hid,T.q.p _ (a1M hi)⟩
     unfold kL
     rw[if_neg (by simp)]
     exact Ok.pure hr
    unfold uG
    have ho:=T.q.m.n
    simp only at ho
    rw[w64 (by omega) (by omega)]
    exact Ok.pure ⟨⟨by simp only;omega,by simp only;omega⟩,ht,by have:=hr.1;simp only;omega,hr.2⟩
   refine lp (f:=fun m i (_:Unit)=>dE N p l (v:Int) fees (j:Int) l2 l3 m (i:Int)) (fun _ _=>True) l3.length (fun m i _ hi _ ih=> ?_) (fun m _ _=> ?_) N 0 () (by omega) (by omega) trivial
   ·have j6: ∀(a:Nat)(ha:a<l3.length)(t:Bool),Ok (kG N p l (v:Int) fees (j:Int) l2 l3 (i:Int) (a:Int) l3[a] (dE N p l (v:Int) fees (j:Int) l2 l3 m) t) (TxQ (j+1)):=by
     intro a ha t
     unfold kG tR
     rw[i1 (by omega)]
     refine Ok.ite (fun _=>ih () trivial) fun _=>Ok.bind (aTt hN (c3 _ (a1M ha)) (aCu _)) fun x hx=>Ok.eq (eF (by omega) (by simp;omega)) ?_
     have ht:(l2++[aB.mk x.1 x.2.1 x.2.2.1 x.2.2.2.1]).length≤j+1∧ ∀t∈l2++[aB.mk x.1 x.2.1 x.2.2.1 x.2.2.2.1],TxG t:=by
      refine⟨by simp;omega,fun t ht=> ?_⟩
      rcases a11.1 ht with ht|ht
      ·exact t2 t ht
      obtain rfl:=a1T.1 ht
      exact hx.1
     refine Ok.ite (fun _=> ?_) (fun _=> ?_)
     ·refine Ok.eq (aGm (a:=0) (a3f a) (by omega)) (Ok.eq (eF (by omega) (by simp;omega)) (j7 _ _ _ _ hx.1 hx.2.1 hx.2.2 ht (by simp;omega) fun c hc=>c3 c ?_))
      simp at hc
      exact a2f hc
     rw[i1 (by omega)]
     refine Ok.eq (aGm (a:=0) (a3f a) (by omega)) (Ok.eq (aGm (show a+1≤l3.length by omega) (a2j _)) (Ok.eq (eF (by omega) (by simp;omega)) (j7 _ _ _ _ hx.1 hx.2.1 hx.2.2 ht (by simp;omega) fun c hc=>c3 c ?_)))
     simp at hc
     rcases hc with hc|hc
     ·exact a2f hc
     exact a24 hc
    unfold dE
    rw[if_pos (dT hi),show a28 (v:Int) 4=((v/4:Nat):Int)from tS v 4]
    have e:a1R.wrap (a1R.wrap (a1R.wrap (a17.wrap ((v/4:Nat):Int))+a1R.wrap (j:Int))+(i:Int))=((v/4+j+i:Nat):Int):=by
     rw[show a17.wrap ((v/4:Nat):Int)=((v/4:Nat):Int) by rw[a2D];omega,w64 (a:=((v/4:Nat):Int)) (by omega) (by omega),w64 (a:=(j:Int)) (by omega) (by omega),w64 (a:=((v/4:Nat):Int)+(j:Int)) (by omega) (by omega),w64 (by omega) (by omega)]
     omega
    have ha:(v/4+j+i)%l3.length<l3.length:=a2B _ (by omega)
    rw[e]
    refine Ok.eq (a:=(((v/4+j+i)%l3.length:Nat):Int)) (by unfold rem;rw[if_neg (by omega),jK]) (Ok.eq (bE _ ha) ?_)
    exact Ok.ite (fun _=>j6 _ ha _) (fun _=>j6 _ ha _)
   unfold dE
   rw[if_neg (by simp)]
   exact Ok.pure ⟨⟨f0,by simp only;omega⟩,⟨by simp only;omega,t2⟩,by simp only;omega,c3⟩
  unfold tZ
  rw[show a17.wrap ((j:Int)+1)=((j+1:Nat):Int) by rw[a2D];omega]
  exact ih (s.1,s.2.1,s.2.2) hs
 unfold iO
 rw[show a2w (v:Int) 4=((v%4:Nat):Int)from jK v 4,if_neg (by simp)]
 exact Ok.pure ⟨⟨hs.1.1,by have:=hs.1.2;simp only;omega⟩,by have:=hs.2.1.1;simp only;omega,hs.2.1.2⟩
end
def aQP (l:List aB):Prop:=l.length≤4∧ ∀t∈l,TxM t
structure aGc (b:aJ):Prop where
 h:HdK b.Header
 t:aQP b.Txs
 n:0<b.Txs.length
 z: ∀t,b.Txs[0]? =some t→ ∀o∈t.Outputs,o.Value≤3000
structure aVi (b:aJ):Prop where
 k:aGc b
 p: ∀t∈b.Txs,TxP t
 g: ∀t∈b.Txs,0<t.Outputs.length
 c: ∀t,b.Txs[0]? =some t→ ∀o∈t.Outputs,o.Value≤2000
structure aYh (l:aF):Prop where
 n:l.Coins.length≤500
 c: ∀c∈l.Coins,CoinM c
 h:0≤l.Height∧l.Height≤1000
 t:gV l.Tip
theorem lpU {ρ:Type}{f:Nat→Nat→Option ρ}{Q:ρ→Prop}(n:Nat)(step: ∀m j,j<n→Ok (f m (j+1)) Q→Ok (f (m+1) j) Q)(fin: ∀m,Ok (f (m+1) n) Q): ∀(m j:Nat),n-j<m→j≤n→Ok (f m j) Q:=
 fun m j h1 h2=>lp (f:=fun m j (_:Unit)=>f m j) (fun _ _=>True) n (fun m j _ hj _ ih=>step m j hj (ih () trivial)) (fun m _ _=>fin m) m j () h1 h2 trivial
theorem aIF {l:List (List Int)}(h: ∀x∈l,gV x):aHW 32 l=some l:=by
 unfold aHW
 rw[if_pos]
 rw[a2S]
 intro x hx
 simpa using (h x hx).1
section
variable {N:Nat}(hN:70000≤N)
include hN
theorem aMO {ls:List (List Int)}(h:ls.length≤100)(hx: ∀x∈ls,x.length≤1000):nX N ls=some ls.flatten:=by
 have:Ok (nX N ls) fun r=>r=ls.flatten:=by
  unfold nX
  refine Ok.bind (P:=fun r=>r=ls.flatten) ?_ fun r hr=> ?_
  ·refine lp (f:=fun m j s=>u9 N ls m (j:Int) s) (fun j s=>s=(ls.take j).flatten∧s.length≤j*1000) ls.length (fun m j s hj hs ih=> ?_) (fun m s hs=> ?_) N 0 [] (by omega) (by omega) ⟨by simp,by simp⟩
   ·unfold u9
    rw[if_pos (dT hj),i1 (by omega)]
    have hl:=hx _ (a1M hj)
    refine Ok.eq (bE _ hj) (Ok.eq (mI N s _ (by omega)) (ih _ ⟨?_,by rw[a1L];omega⟩))
    rw[a1X hj,List.flatten_append,←hs.1]
    simp
   unfold u9
   rw[if_neg (by simp)]
   refine Ok.pure ?_
   rw[hs.1,a2T]
  exact Ok.pure hr
 obtain⟨r,h1,rfl⟩:=this
 exact h1
theorem aQ4 {l r:List Int}(h1:gV l)(h2:gV r):Ok (yR N l r) gV:=by
 unfold yR
 refine Ok.eq (aV h1.1) (Ok.eq (aV h2.1) (Ok.eq (aMO hN (by simp) (fun x hx=> ?_)) ?_))
 ·simp at hx
  rcases hx with rfl|rfl|rfl
  ·simp
  ·rw[h1.1];omega
  rw[h2.1];omega
 refine Ok.eq (zD N hN _ ?_ ?_) (Ok.eq (aV (dA _ _)) (Ok.pure ⟨dA _ _,gR _ _⟩))
 ·intro x hx
  simp at hx
  rcases hx with rfl|hx|hx
  ·omega
  ·exact h1.2 x hx
  exact h2.2 x hx
 simp[h1.1,h2.1]
def LvK (x:List (List Int)):Prop:=0<x.length∧ ∀h∈x,gV h
theorem aT5 {l:List (List Int)}(hl:l.length≤4)(hh: ∀h∈l,gV h):Ok (uP N l) gV:=by
 have j1: ∀t:Bool,(t=false→0<l.length)→Ok (nA N l t) gV:=by
  intro t ht
  unfold nA
  refine Ok.ite (fun _=>Ok.pure aPW) fun hf=> ?_
  have h0:=ht (by cases t;rfl;exact absurd rfl hf)
  refine Ok.bind (P:=fun r=>(0<r.length∧r.length≤100)∧ ∀x∈r,LvK x) ?_ fun r hr=> ?_
  ·unfold aBS
   refine Ok.bind (P:=fun r=>(0<r.length∧r.length≤100)∧ ∀x∈r,LvK x) ?_ fun r hr=>Ok.pure hr
   have:=lp (f:=fun m j (s:List (List Int)×List (List (List Int)))=>iT N m s.1 s.2) (Q:=fun r=>(0<r.length∧r.length≤100)∧ ∀x∈r,LvK x)
    (fun j s=>(LvK s.1∧s.1.length+j≤4)∧(0<s.2.length∧s.2.length≤j+1)∧ ∀x∈s.2,LvK x) 3 (fun m j s hj hs ih=> ?_) (fun m s hs=> ?_) N 0 (l,[l]) (by omega) (by omega) ⟨⟨⟨h0,hh⟩,by simp only;omega⟩,by simp,fun x hx=>by simp at hx;subst hx;exact⟨h0,hh⟩⟩
   ·exact this
   ·obtain⟨l1,l0⟩:=s
    obtain⟨⟨k1,k2⟩,k3,k4⟩:(LvK l1∧l1.length+j≤4)∧(0<l0.length∧l0.length≤j+1)∧ ∀x∈l0,LvK x:=hs
    unfold iT
    refine Ok.ite (fun hc=> ?_) (fun _=>Ok.pure ⟨⟨k3.1,by simp only;omega⟩,k4⟩)
    have hc':1<l1.length:=by have h9:(1:Int)<(l1.length:Int):=of_decide_eq_true hc;omega
    refine Ok.bind (P:=fun r=>r.length=(l1.length+1)/2∧ ∀h∈r,gV h) ?_ fun r hr=> ?_
    ·refine lp (f:=fun m i s=>dS N l1 l0 m ((2*i:Nat):Int) s) (fun i s=>s.length=i∧ ∀h∈s,gV h) ((l1.length+1)/2) (fun m i s hi hs ih=> ?_) (fun m s hs=> ?_) N 0 [] (by omega) (by omega) ⟨rfl,by simp⟩
     ·have add: ∀x,gV x→Ok (kN N l1 l0 ((2*i:Nat):Int) (dS N l1 l0 m) (s++[x])) fun r=>r.length=(l1.length+1)/2∧ ∀h∈r,gV h:=by
       intro x hx
       unfold kN
       rw[w64 (by omega) (by omega),show((2*i:Nat):Int)+2=((2*(i+1):Nat):Int) by omega]
       refine ih _ ⟨by simp[hs.1],fun h hh=> ?_⟩
       rcases a11.1 hh with hh|hh
       ·exact hs.2 h hh
       obtain rfl:=a1T.1 hh;exact hx
      have a1:=k1.2 _ (a1M (show 2*i<l1.length by omega))
      unfold dS
      rw[if_pos (dT (show 2*i<l1.length by omega)),i1 (by omega)]
      refine Ok.ite (fun hc2=> ?_) (fun _=> ?_)
      ·have hc3:2*i+1<l1.length:=by have:=of_decide_eq_true hc2;omega
       have a2:=k1.2 _ (a1M hc3)
       exact Ok.eq (bE _ (show 2*i<l1.length by omega)) (Ok.eq (aV a1.1) (Ok.eq (bE _ hc3) (Ok.eq (aV a2.1) (Ok.bind (aQ4 hN a1 a2) fun x hx=>Ok.eq (aV hx.1) (Ok.eq (eF (by omega) (by simp;omega)) (add x hx))))))
      exact Ok.eq (bE _ (show 2*i<l1.length by omega)) (Ok.eq (aV a1.1) (Ok.eq (eF (by omega) (by simp;omega)) (add _ a1)))
     unfold dS
     rw[if_neg (by simp;omega)]
     exact Ok.pure hs
    unfold vU
    refine Ok.eq (aIF hr.2) (Ok.eq (eF (by omega) (by simp;omega)) (ih (r,l0++[r]) ⟨⟨⟨by rw[hr.1];omega,hr.2⟩,by simp only;omega⟩,by simp;omega,fun x hx=> ?_⟩))
    rcases a11.1 hx with hx|hx
    ·exact k4 x hx
    obtain rfl:=a1T.1 hx
    exact⟨by rw[hr.1];omega,hr.2⟩
   unfold iT
   rw[if_neg (by have:=hs.1.2;simp;omega)]
   exact Ok.pure ⟨⟨hs.2.1.1,by have:=hs.2.1.2;omega⟩,hs.2.2⟩
  rw[w64 (by omega) (by omega),show(r.length:Int)-1=((r.length-1:Nat):Int) by omega]
  have a:=hr.2 _ (a1M (show r.length-1<r.length by omega))
  have b:=a.2 _ (a1M a.1)
  exact Ok.eq (bE _ (by omega)) (Ok.eq (bE (i:=0) _ a.1) (Ok.eq (aV b.1) (Ok.pure b)))
 unfold uP
 refine Ok.ite (fun _=>j1 _ (by simp)) fun h=>j1 _ fun _=> ?_
 rcases a2s l.length with h0|h0
 ·exact absurd (by rw[h0];rfl) h
 exact h0
theorem aMF {l:List aB}(T:aQP l):Ok (qQ N l) gV:=by
 have hn:=T.1
 unfold qQ
 refine Ok.bind (P:=fun r=>r.length=l.length∧ ∀h∈r,gV h) ?_ fun r hr=> ?_
 ·refine lp (f:=fun m j s=>fZ N l m (j:Int) s) (fun j s=>s.length=j∧ ∀h∈s,gV h) l.length (fun m j s hj hs ih=> ?_) (fun m s hs=> ?_) N 0 [] (by omega) (by omega) ⟨rfl,by simp⟩
  ·unfold fZ
   rw[if_pos (dT hj),i1 (by omega)]
   obtain⟨h,hh,e⟩:=aQY N hN (T.2 _ (a1M hj)).k
   refine Ok.eq (bE _ hj) (Ok.eq e (Ok.eq (aV hh.1) (Ok.eq (eF (by omega) (by simp;omega)) (ih _ ⟨by simp[hs.1],fun x hx=> ?_⟩))))
   rcases a11.1 hx with hx|hx
   ·exact hs.2 x hx
   obtain rfl:=a1T.1 hx;exact hh
  unfold fZ
  rw[if_neg (by simp)]
  exact Ok.pure hs
 unfold aAM
 exact Ok.eq (aIF hr.2) (Ok.bind (aT5 hN (by omega) hr.2) fun x hx=>Ok.eq (aV hx.1) (Ok.pure hx))
theorem aOO {p:aK}{l:aF}{c:bA}(P:PK p)(L:aYh l)(C:aS1 c){vs:Int}(h:0≤vs∧vs<256):Ok (tT N p l c vs) aVi:=by
 have hh:=L.h
 unfold tT
 refine Ok.bind (aXT hN L.n L.c h) fun r hr=> ?_
 rw[w64 (a:=l.Height+1) (by omega) (by omega)]
 refine Ok.bind (aUJ hN P (by omega)) fun s hs=>Ok.bind (aIZ hN (aCu _)) fun sc hsc=> ?_
 rw[w64 (a:=s+r.2) (by omega) (by omega)]
 refine Ok.eq (x:=uZ N _ _ _) rfl (Ok.eq (eF (by omega) (by simp;omega)) ?_)
 have T: ∀t∈ [aB.mk 1 [aT.mk (aD.mk (a1N 32 0) 4294967295) (a13.wrap (l.Height+1)) []] [aI.mk (s+r.2) sc] 0]++r.1,TxG t:=fun t ht=>by
  rcases a11.1 ht with ht|ht
  ·obtain rfl:=a1T.1 ht
   have hp: ∀o∈ [aI.mk (s+r.2) sc],OutP o:=fun o ho=>by
    obtain rfl:=a1T.1 ho
    exact⟨hsc,by simp only;omega,by simp only;omega⟩
   refine⟨⟨⟨⟨_,rfl,⟨by simp,fun x hx=> ?_⟩,.inl rfl,aUF _⟩,by simp,fun o ho=>(hp o ho).m⟩,hp⟩,by simp⟩
   have:=a12 hx;omega
  exact hr.2.1 t ht
 have T':aQP ([aB.mk 1 [aT.mk (aD.mk (a1N 32 0) 4294967295) (a13.wrap (l.Height+1)) []] [aI.mk (s+r.2) sc] 0]++r.1):=⟨by simp;omega,fun t ht=>(T t ht).q.m⟩
 have Z: ∀t,([aB.mk 1 [aT.mk (aD.mk (a1N 32 0) 4294967295) (a13.wrap (l.Height+1)) []] [aI.mk (s+r.2) sc] 0]++r.1)[0]? =some t→ ∀o∈t.Outputs,o.Value≤2000:=fun t ht o ho=>by
  injection ht with ht
  subst ht
  obtain rfl:=a1T.1 ho
  simp only;omega
 exact Ok.bind (aMF hN T') fun nV hroot=>Ok.eq (x:=aFM N vs) rfl (Ok.bind (aV5 hN P C hroot) fun hd hhd=>Ok.pure ⟨⟨hhd,T',by simp,fun t ht o ho=>by have:=Z t ht o ho;omega⟩,fun t ht=>(T t ht).q,fun t ht=>(T t ht).n,Z⟩)
theorem aUs {t:aB}(T:TxM t):Ok (gP N t) fun _=>True:=⟨_,rS N hN T.k.k,trivial⟩
theorem aCn {t:aB}:Ok (c5 N t) fun _=>True:=by
 unfold c5
 refine Ok.ite (fun h=> ?_) fun _=>Ok.pure trivial
 have h1:(t.Inputs.length:Int)=1:=by simpa using h
 exact Ok.eq (bE (i:=0) _ (by omega)) (Ok.eq (x:=rG N _) rfl (Ok.pure trivial))
theorem aS2 {t:aB}(T:TxM t):Ok (rU N t) fun _=>True:=by
 obtain⟨x,hi,_⟩:=T.i
 have hni:t.Inputs.length=1:=by rw[hi];rfl
 have hno:=T.n
 unfold rU
 refine Ok.bind (aUs hN T) fun f _=>Ok.ite (fun _=>Ok.pure trivial) fun _=> ?_
 have j3:Ok (sK N t) fun _=>True:=by
  unfold sK
  refine Ok.lr (R:=fun _=>True) (P:=fun _=>True) ?_ (fun v _=>Ok.pure trivial) fun _ _=>Ok.pure trivial
  refine lpU (f:=fun m j=>gG N t m (j:Int)) t.Inputs.length (fun m j hj ih=> ?_) (fun m=> ?_) N 0 (by omega) (by omega)
  ·have j6: ∀b:Bool,Ok (oB N t (j:Int) (gG N t m) b) (lrP (fun _=>True) fun _=>True):=fun b=>by
    unfold oB
    rw[i1 (by omega)]
    exact Ok.ite (fun _=>Ok.pure trivial) fun _=>ih
   unfold gG
   rw[if_pos (dT hj)]
   exact Ok.eq (bE _ hj) (Ok.eq (x:=rG N _) rfl (Ok.ite (fun _=>Ok.bind (aCn hN) fun c _=>j6 _) fun _=>j6 _))
  unfold gG
  rw[if_neg (by simp)]
  exact Ok.pure trivial
 have j2: ∀s,Ok (sH N t s) fun _=>True:=fun s=>by
  unfold sH
  refine Ok.ite (fun _=>Ok.pure trivial) fun _=>Ok.lr (R:=fun _=>True) (P:=fun _=>True) ?_ (fun v _=>Ok.pure trivial) fun _ _=>j3
  refine lpU (f:=fun m j=>jZ N t m (j:Int)) t.Inputs.length (fun m j hj ih=> ?_) (fun m=> ?_) N 0 (by omega) (by omega)
  ·unfold jZ yU
   rw[if_pos (dT hj),i1 (by omega)]
   refine Ok.lr (R:=fun _=>True) (P:=fun _=>True) ?_ (fun v _=>Ok.pure trivial) fun _ _=>ih
   refine lpU (f:=fun m i=>oI N t (j:Int) m (i:Int)) j (fun m i hi ih=> ?_) (fun m=> ?_) N 0 (by omega) (by omega)
   ·unfold oI
    rw[if_pos (dT hi),i1 (by omega)]
    exact Ok.eq (bE _ hj) (Ok.eq (bE _ (show i<t.Inputs.length by omega)) (Ok.ite (fun _=>Ok.pure trivial) fun _=>ih))
   unfold oI
   rw[if_neg (by simp)]
   exact Ok.pure trivial
  unfold jZ
  rw[if_neg (by simp)]
  exact Ok.pure trivial
 have j1: ∀b,Ok (oK N t b) fun _=>True:=fun b=>by
  unfold oK
  refine Ok.ite (fun _=>Ok.pure trivial) fun _=>Ok.lr (R:=fun _=>True) (P:=fun _=>True) ?_ (fun v _=>Ok.pure trivial) fun _ _=>j2 _
  refine lp (f:=fun m j s=>gX N t m s (j:Int)) (fun _ _=>True) t.Outputs.length (fun m j s hj _ ih=> ?_) (fun m s _=> ?_) N 0 0 (by omega) (by omega) trivial
  ·unfold gX
   rw[if_pos (dT hj),i1 (by omega)]
   exact Ok.eq (bE _ hj) (Ok.ite (fun _=>Ok.pure trivial) fun _=>ih _ trivial)
  unfold gX
  rw[if_neg (by simp)]
  exact Ok.pure trivial
 exact Ok.ite (fun _=>j1 _) fun _=>j1 _
end
end Go.Proofs.YtopdhljncajmpaaGreatDoor
set_option maxRecDepth 20000
namespace Go.Proofs.YtopdhljncajmpaaGreatDoor
open Go Go.Vm
def tU (k:Int):List cM:=[⟨1,[k],0,0⟩,⟨5,[],0,0⟩]
theorem aUG (M:Nat)(k k':Int)(v:cI): ∃t:Bool,aCk (M+100) ⟨5,[],0,0⟩ [[k'],[k]] v=some ([if t then [1]else []],0):=by
 refine⟨(iL [k']).toList == (iL [k]).toList, ?_⟩
 have h:q9 (M+100) [k'] [k]=some ((iL [k']).toList == (iL [k]).toList):=rfl
 generalize ((iL [k']).toList == (iL [k]).toList)=t at h⊢
 show((q9 (M+100) [k'] [k]).bind fun x84=>(aDZ (M+100) x84).bind fun x85=>(b6 24 [] [x85]).bind fun x87=>some (x87,0))=_
 rw[h]
 cases t<;>rfl
theorem aPd (M:Nat)(k k':Int)(v:cI):kJ (M+100) v (tU k,0) (M+100) [[k']] 0 0=(aCk (M+100) ⟨5,[],0,0⟩ [[k'],[k]] v).bind fun aQf=>
  if aQf.2 != 0 then none else kJ (M+100) v (tU k,0) (M+98) aQf.1 2 2:=by rfl
theorem aSH (M:Nat)(k:Int)(v:cI)(t:Bool):kJ (M+100) v (tU k,0) (M+98) [if t then [1]else []] 2 2=some (.brk ([if t then [1]else []],2)):=by rfl
theorem aOZ (M:Nat)(k:Int):aHQ (M+100) [1,1,k,5]=some (tU k,0):=by rfl
theorem aQ3 (M:Nat)(k:Int):xB (M+100) (tU k)=some true:=by rfl
theorem aRH (M:Nat)(k:Int):aBG (M+100) [[k]]=some false:=by rfl
theorem aNn (M:Nat)(k:Int):wX (M+100) [[k]]=some [[k]]:=by rfl
theorem aRF (M:Nat)(k:Int)(v:cI):yB (M+100) [1,1,k,5] [] v=some ([],0,81):=by rfl
theorem aQZ (M:Nat)(t:Bool):aCb (M+100) (if t then [1]else [])=some t:=by cases t<;>rfl
theorem aXy (M:Nat)(k:Int)(w:List (List Int))(hw:w=[]∨ ∃k':Int,w=[[k']])(v:cI):Ok (fO (M+100) [1,1,k,5] w v) fun _=>True:=by
 rcases hw with rfl|⟨k',rfl⟩
 ·unfold fO
  rw[aRF]
  exact Ok.pure trivial
 obtain⟨t,ht⟩:=aUG M k k' v
 have e:yB (M+100) [1,1,k,5] [[k']] v=some ([if t then [1]else []],2,0):=by
  unfold yB
  rw[aOZ]
  show((xB (M+100) (tU k)).bind fun x27=>_)=_
  rw[aQ3]
  show((aBG (M+100) [[k']]).bind fun x30=>_)=_
  rw[aRH]
  show((wX (M+100) [[k']]).bind fun x32=>_)=_
  rw[aNn]
  show((kJ (M+100) v (tU k,0) (M+100) [[k']] 0 0).bind fun q=>_)=_
  rw[aPd,ht]
  show((kJ (M+100) v (tU k,0) (M+98) [if t then [1]else []] 2 2).bind fun q=>_)=_
  rw[aSH]
  rfl
 unfold fO
 rw[e]
 show Ok ((aCb (M+100) (if t then [1]else [])).bind fun x30=>_) _
 rw[aQZ]
 cases t<;>exact Ok.pure trivial
theorem xW {t:aB}(T:TxM t): ∃x,t.Inputs=[x]∧InM x∧t.Inputs.length=1:=by
 obtain⟨x,hi,hx⟩:=T.i
 exact⟨x,hi,hx,by rw[hi];rfl⟩
theorem aRE {t:aB}{x:aT}(h:t.Inputs=[x]){i:Nat}(hi:i<t.Inputs.length):t.Inputs[i]=x:=(show∀y∈t.Inputs,y=x by rw[h];simp) _ (a1M hi)
section
variable {N:Nat}(hN:70000≤N)
include hN
theorem aKz {t:aB}(T:TxM t){h:Int}:Ok (rR N t h) fun _=>True:=by
 obtain⟨x,hi,hx,hl⟩:=xW T
 unfold rR
 refine Ok.ite (fun _=>Ok.pure trivial) fun _=>Ok.lr (R:=fun _=>True) (P:=fun _=>True) ?_ (fun v _=>Ok.pure trivial) fun _ _=>Ok.pure trivial
 refine lpU (f:=fun m j=>lL N t m (j:Int)) t.Inputs.length (fun m j hj ih=> ?_) (fun m=> ?_) N 0 (by omega) (by omega)
 ·unfold lL
  rw[if_pos (dT hj),i1 (by omega)]
  exact Ok.eq (bE _ hj) (Ok.ite (fun _=>Ok.pure trivial) fun _=>ih)
 unfold lL
 rw[if_neg (by simp)]
 exact Ok.pure trivial
theorem aXU {k:Nat}{w:List (List Int)}(hw:w=[]∨ ∃k':Nat,k'≤255∧w=[[(k':Int)]])(v:cI):Ok (fO N [1,1,(k:Int),5] w v) fun _=>True:=by
 obtain⟨M,rfl⟩: ∃M,N=M+100:=⟨N-100,by omega⟩
 refine aXy M k w ?_ v
 rcases hw with h|⟨k',_,h⟩
 ·exact .inl h
 exact .inr ⟨_,h⟩
theorem aL1 {t:aB}(T:TxM t){i:Int}{o:aI}(O:OutP o):Ok (u6 N t i o) fun r=>r.1.length=32∧(i=0→r.2=if nD t.Version t.Inputs t.Outputs t.Lock=true then 0 else 4):=by
 obtain⟨x,hi,hx,hl⟩:=xW T
 have hno:=T.n
 have z:([0,0,0,0,0,0,0,0,0,0,0,0,0,0,0,0,0,0,0,0,0,0,0,0,0,0,0,0,0,0,0,0]:List Int).length=32:=rfl
 have j4: ∀a b c:List Int,(Byt a∧a.length≤10000)→(Byt b∧b.length≤10000)→(Byt c∧c.length≤10000)→Ok (pV N t i o a b c) fun r=>r.1.length=32∧r.2=0:=by
  intro a b c ha hb hc
  have ho:(rJ o).length≤613:=aIv (by have:=O.1.len;omega)
  have hob:Byt (rJ o):=(yH _ _).append ((zL _).append O.1.byt)
  unfold pV
  rw[aCs N hN [] t.Version (by simp)]
  simp only[a1K,a1O]
  rw[zD N hN a ha.1 (by omega)]
  simp only[a1K]
  rw[aM7 N hN _ _ (dA _ _) (by rw[b5];omega)]
  simp only[a1K]
  rw[zD N hN b hb.1 (by omega)]
  simp only[a1K]
  rw[aM7 N hN _ _ (dA _ _) (by simp only[a1L,b5,dA];omega)]
  simp only[a1K]
  rw[zD N hN c hc.1 (by omega)]
  simp only[a1K]
  rw[aM7 N hN _ _ (dA _ _) (by simp only[a1L,b5,dA];omega)]
  simp only[a1K]
  rw[aCs N hN _ _ (by simp only[a1L,b5,dA];omega)]
  simp only[a1K]
  rw[aCs N hN _ _ (by simp only[a1L,b5,dA];omega)]
  simp only[a1K]
  rw[aVg N hN o (by have:=O.1.len;omega)]
  simp only[a1K]
  rw[jM (by simp only[a1L,b5,dA];omega)]
  simp only[a1K]
  rw[aTm N hN _ (by decide) _ ?_ (by simp only[a1L,b5,dA];omega)]
  ·exact Ok.eq (aV (aFv _ _ _)) (Ok.pure ⟨aFv _ _ _,rfl⟩)
  exact Byt.append (Byt.append (Byt.append (Byt.append (Byt.append (Byt.append (gO _) (gR _ _)) (gR _ _)) (gR _ _)) (gO _)) (gO _)) hob
 have j3: ∀a b:List Int,(Byt a∧a.length≤10000)→(Byt b∧b.length≤10000)→Ok (oT N t i o a b) fun r=>r.1.length=32∧r.2=0:=by
  intro a b ha hb
  unfold oT
  refine Ok.bind (P:=fun c=>Byt c∧c.length≤10000) ?_ fun c hc=>j4 a b c ha hb hc
  refine lp (f:=fun m j s=>pK N t i o a b m (j:Int) s) (fun j s=>Byt s∧s.length≤613*j) t.Outputs.length (fun m j s hj hs ih=> ?_) (fun m s hs=> ?_) N 0 [] (by omega) (by omega) ⟨aDp,by simp⟩
  ·unfold pK
   have O2:=T.o _ (a1M hj)
   have h2:(rJ t.Outputs[j]).length≤613:=aIv (by have:=O2.1.len;omega)
   have hb2:Byt (rJ t.Outputs[j]):=(yH _ _).append ((zL _).append O2.1.byt)
   rw[if_pos (dT hj),i1 (by omega)]
   exact Ok.eq (bE _ hj) (Ok.eq (aVg N hN _ (by have:=O2.1.len;omega)) (Ok.eq (jM (by omega)) (ih _ ⟨hs.1.append hb2,by rw[a1L];omega⟩)))
  unfold pK
  rw[if_neg (by simp)]
  exact Ok.pure ⟨hs.1,by omega⟩
 have j2: ∀b,Ok (lU N t i o b) fun r=>r.1.length=32∧(b=false→r.2=0):=by
  intro b
  unfold lU
  refine Ok.ite (fun h=>Ok.pure ⟨z,fun e=>by rw[e]at h;cases h⟩) fun _=>Ok.mono (P:=fun r=>r.1.length=32∧r.2=0) ?_ fun r hr=>⟨hr.1,fun _=>hr.2⟩
  refine Ok.bind (P:=fun s=>(Byt s.1∧s.1.length≤10000)∧Byt s.2∧s.2.length≤10000) ?_ fun s hs=>j3 _ _ hs.1 hs.2
  have:=lp (f:=fun m j (s:List Int×List Int)=>oZ N t i o m (j:Int) s.1 s.2) (Q:=fun s=>(Byt s.1∧s.1.length≤10000)∧Byt s.2∧s.2.length≤10000) (fun j s=>(Byt s.1∧s.1.length≤40*j)∧Byt s.2∧s.2.length≤40*j) t.Inputs.length (fun m j s hj hs ih=> ?_) (fun m s hs=> ?_) N 0 ([],[]) (by omega) (by omega) ⟨⟨aDp,by simp⟩,aDp,by simp⟩
  ·exact this
  ·unfold oZ
   rw[if_pos (dT hj),i1 (by omega)]
   refine Ok.eq (bE _ hj) ?_
   rw[aRE hi hj]
   refine Ok.eq (aTJ N hN _ hx.p.1) (Ok.eq (jM ?_) (Ok.eq (aCs N hN _ _ (by have:=hs.2.2;omega)) (ih (_,_) ⟨⟨hs.1.1.append (hx.p.2.append (gO _)), ?_⟩,hs.2.1.append (gO _), ?_⟩)))
   ·have:=hs.1.2;simp only[a1L,b5,hx.p.1];omega
   ·have:=hs.1.2;simp only[a1L,b5,hx.p.1];omega
   have:=hs.2.2;simp only[a1L,b5];omega
  unfold oZ
  rw[if_neg (by simp)]
  exact Ok.pure ⟨⟨hs.1.1,by have:=hs.1.2;simp only;omega⟩,hs.2.1,by have:=hs.2.2;simp only;omega⟩
 have j1: ∀b,Ok (jJ N t i o b) fun r=>r.1.length=32∧(i=0→r.2=if b=true then 4 else 0):=by
  intro b
  unfold jJ
  refine Ok.ite (fun h=>Ok.pure ⟨z,fun _=>by rw[if_pos h]⟩) fun hb=>Ok.ite (fun h=>(j2 _).mono fun r hr=>⟨hr.1,fun hi0=> ?_⟩) fun _=>(j2 _).mono fun r hr=>⟨hr.1,fun hi0=> ?_⟩
  ·have:=of_decide_eq_true h;omega
  rw[if_neg hb];exact hr.2 (decide_eq_false (by omega))
 unfold u6
 refine Ok.eq (rS N hN T.k.k) ?_
 cases nD t.Version t.Inputs t.Outputs t.Lock with
 |false=>exact(j1 true).mono fun r hr=>⟨hr.1,fun h=>by rw[hr.2 h];rfl⟩
 |true=>
  refine Ok.ite (fun h=>by cases h) fun _=>Ok.ite (fun h=> ?_) fun _=>(j1 _).mono fun r hr=>⟨hr.1,fun h=> ?_⟩
  ·have h1:=of_decide_eq_true h;have h2:=O.2.1;omega
  rw[hr.2 h,if_neg (by have:=O.1.len;simp;omega)];rfl
theorem aPg {t:aB}(T:TxM t){i:Nat}(hi:i<t.Inputs.length){c:aA}(C:CoinM c){h:Int}:Ok (vE N t (i:Int) c h) fun _=>True:=by
 obtain⟨x,hx,hm,hl⟩:=xW T
 have g:=aRE hx hi
 obtain⟨k,_,_,ek⟩:=C.p.1
 have j1: ∀(q:List Int×Int)(b:Bool),Ok (jT N t (i:Int) c h q b) fun _=>True:=by
  intro q b
  unfold jT
  refine Ok.ite (fun _=>Ok.pure trivial) fun _=>Ok.eq (bE _ hi) ?_
  rw[g,ek]
  exact Ok.bind (aXU hN hm.w _) fun e _=>Ok.pure trivial
 unfold vE
 refine Ok.bind (aL1 hN T C.p) fun q hq=>Ok.eq (aV hq.1) (Ok.ite (fun _=>Ok.pure trivial) fun _=>Ok.eq (bE _ hi) (Ok.ite (fun _=>Ok.pure trivial) fun _=> ?_))
 exact Ok.ite (fun _=>j1 _ _) fun _=>Ok.ite (fun _=>j1 _ _) fun _=>j1 _ _
theorem aXf {t:aB}(T:TxM t){l:List aA}:Ok (tI N t l) fun r=>r.2=0→l.length=t.Inputs.length:=by
 obtain⟨x,hx,hm,hl⟩:=xW T
 have hno:=T.n
 unfold tI
 refine Ok.bind (aS2 hN T) fun e _=>Ok.ite (fun he=>Ok.pure fun h0=> ?_) fun _=>Ok.ite (fun _=>Ok.pure fun h0=> ?_) fun hne=> ?_
 ·have h0:e=0:=h0
  rw[h0]at he
  exact absurd he (by decide)
 ·exact absurd h0 (by decide)
 have hlen:l.length=t.Inputs.length:=by
  have:(l.length:Int)=(t.Inputs.length:Int):=by simpa using hne
  omega
 refine Ok.lr (R:=fun _=>True) (P:=fun _=>True) ?_ (fun v _=>Ok.pure fun _=>hlen) fun _ _=> ?_
 ·refine lpU (f:=fun m j=>i8 N t l m (j:Int)) l.length (fun m j hj ih=> ?_) (fun m=> ?_) N 0 (by omega) (by omega)
  ·unfold i8
   rw[if_pos (dT hj),i1 (by omega)]
   exact Ok.eq (bE _ hj) (Ok.eq (bE _ (show j<t.Inputs.length by omega)) (Ok.ite (fun _=>Ok.pure trivial) fun _=>ih))
  unfold i8
  rw[if_neg (by simp)]
  exact Ok.pure trivial
 unfold tC
 refine Ok.lr (R:=fun _=>True) (P:=fun _=>True) ?_ (fun v _=>Ok.pure fun _=>hlen) fun s _=> ?_
 ·refine lp (f:=fun m j s=>f9 N t l m s (j:Int)) (fun _ _=>True) l.length (fun m j s hj _ ih=> ?_) (fun m s _=> ?_) N 0 0 (by omega) (by omega) trivial
  ·have j6: ∀b,Ok (sU N t l s (j:Int) l[j] (f9 N t l m) b) (lrP (fun _=>True) fun _=>True):=fun b=>by
    unfold sU
    rw[i1 (by omega)]
    exact Ok.ite (fun _=>Ok.pure trivial) fun _=>ih _ trivial
   unfold f9
   rw[if_pos (dT hj)]
   exact Ok.eq (bE _ hj) (Ok.ite (fun _=>j6 _) fun _=>j6 _)
  unfold f9
  rw[if_neg (by simp)]
  exact Ok.pure trivial
 unfold pO
 refine Ok.ite (fun _=>Ok.pure fun _=>hlen) fun _=>Ok.bind (P:=fun _=>True) ?_ fun s _=> ?_
 ·refine lp (f:=fun m j s=>jE N t m s (j:Int)) (fun _ _=>True) t.Outputs.length (fun m j s hj _ ih=> ?_) (fun m s _=> ?_) N 0 s (by omega) (by omega) trivial
  ·unfold jE
   rw[if_pos (dT hj),i1 (by omega)]
   exact Ok.eq (bE _ hj) (ih _ trivial)
  unfold jE
  rw[if_neg (by simp)]
  exact Ok.pure trivial
 unfold aBn
 exact Ok.ite (fun _=>Ok.pure fun _=>hlen) fun _=>Ok.pure fun _=>hlen
theorem aRU {t:aB}(T:TxM t){l:List aA}(hc: ∀c∈l,CoinM c){h:Int}:Ok (kD N t l h) fun _=>True:=by
 obtain⟨x,hx,hm,hl⟩:=xW T
 unfold kD
 refine Ok.bind (aCn hN) fun b _=>Ok.ite (fun _=>Ok.pure trivial) fun _=>Ok.bind (aXf hN T) fun q hq=>Ok.ite (fun _=>Ok.pure trivial) fun hne=> ?_
 have hlen:=hq (by simpa using hne)
 refine Ok.bind (aKz hN T) fun f _=>Ok.ite (fun _=>Ok.pure trivial) fun _=> ?_
 refine Ok.lr (R:=fun _=>True) (P:=fun _=>True) ?_ (fun v _=>Ok.pure trivial) fun _ _=>Ok.pure trivial
 refine lpU (f:=fun m j=>gF N t l h q m (j:Int)) l.length (fun m j hj ih=> ?_) (fun m=> ?_) N 0 (by omega) (by omega)
 ·unfold gF
  rw[if_pos (dT hj),i1 (by omega)]
  exact Ok.eq (bE _ hj) (Ok.bind (aPg hN T (by omega) (hc _ (a1M hj))) fun e _=>Ok.ite (fun _=>Ok.pure trivial) fun _=>ih)
 unfold gF
 rw[if_neg (by simp)]
 exact Ok.pure trivial
end
def Srt (cs:List aA):Prop:=cs.Pairwise fun a b=>eY a.Out b.Out<0
structure a0J (h:Int)(c:aA):Prop where
 m:CoinM c
 h:1≤c.Height∧c.Height≤h
structure CsK (h:Int)(n:Nat)(cs:List aA):Prop where
 n:cs.length≤n
 c: ∀c∈cs,a0J h c
 s:Srt cs
structure aP6 (c:aA):Prop where
 o:zT c.Out
 p:ScrK c.Output.Script
structure CsW (n:Nat)(cs:List aA):Prop where
 n:cs.length≤n
 c: ∀c∈cs,aP6 c
 s:Srt cs
theorem CsW.ok {n:Nat}{cs:List aA}(K:CsW n cs): ∀c∈cs,zT c.Out:=fun c hc=>(K.c c hc).o
theorem CoinM.w {c:aA}(C:CoinM c):aP6 c:=⟨C.o,C.p.1⟩
theorem CsK.w {h:Int}{n:Nat}{cs:List aA}(K:CsK h n cs):CsW n cs:=⟨K.n,fun c hc=>(K.c c hc).m.w,K.s⟩
theorem CsK.ok {h:Int}{n:Nat}{cs:List aA}(K:CsK h n cs): ∀c∈cs,zT c.Out:=fun c hc=>(K.c c hc).m.o
theorem aPl : ∀{l m:List Int},iG m l= - iG l m
 | [],[]=>rfl
 | [],_::_=>rfl
 |_::_,[]=>rfl
 |a::l,b::m=>by
  unfold iG
  by_cases h1:a<b
  ·rw[if_pos h1,if_neg (by omega),if_pos h1];rfl
  by_cases h2:b<a
  ·rw[if_pos h2,if_neg h1,if_pos h2]
  rw[if_neg h2,if_neg h1,if_neg h1,if_neg h2];exact aPl
theorem mH (a b:aD):eY b a= - eY a b:=aPl
theorem aMM (o:aD): ∀(cs:List aA)(j:Int),(fI o j cs= -1∧ ∀c∈cs,eY c.Out o≠0)∨ ∃(k:Nat)(h:k<cs.length),fI o j cs=j+k∧eY cs[k].Out o=0
 | [],j=> .inl ⟨rfl,by simp⟩
 |c::cs,j=>by
  unfold fI
  by_cases h:eY c.Out o=0
  ·rw[if_pos h]
   exact .inr ⟨0,by simp,by omega,h⟩
  rw[if_neg h]
  rcases aMM o cs (j+1)with⟨h1,h2⟩|⟨k,hk,h1,h2⟩
  ·exact .inl ⟨h1,fun d hd=>by rcases a14.1 hd with rfl|hd;exact h;exact h2 d hd⟩
  exact .inr ⟨k+1,by simpa using hk,by rw[h1];omega,by simpa using h2⟩
theorem aDv {c x:aA}: ∀{l:List aA},x∈k9 c l↔x=c∨x∈l
 | []=>by simp[k9]
 |d::ds=>by
  unfold k9
  split
  ·rw[a14,aDv (l:=ds),a14]
   constructor
   ·rintro(h|h|h)
    ·exact .inr (.inl h)
    ·exact .inl h
    exact .inr (.inr h)
   rintro(h|h|h)
   ·exact .inr (.inl h)
   ·exact .inl h
   exact .inr (.inr h)
  simp
theorem aQy {c:aA}: ∀{l:List aA},(k9 c l).length=l.length+1
 | []=>rfl
 |d::ds=>by
  unfold k9
  split
  ·simp[aQy (l:=ds)]
  simp
theorem aMC {c:aA}(hc:zT c.Out): ∀{l:List aA},(∀d∈l,zT d.Out)→Srt l→(∀d∈l,eY d.Out c.Out≠0)→Srt (k9 c l)
 | [],_,_,_=>by simp[k9,Srt]
 |d::ds,hok,hs,hne=>by
  have hd:=hok d (by simp)
  obtain⟨h1,h2⟩:=a15.1 hs
  unfold k9
  split
  ·rename_i hlt
   refine a15.2 ⟨fun x hx=> ?_,aMC hc (fun e he=>hok e (by simp[he])) h2 (fun e he=>hne e (by simp[he]))⟩
   rcases aDv.1 hx with rfl|hx
   ·exact hlt
   exact h1 x hx
  rename_i hge
  have hlt:eY c.Out d.Out<0:=by
   have:=hne d (by simp)
   rw[mH d.Out c.Out]
   omega
  refine a15.2 ⟨fun x hx=> ?_,hs⟩
  rcases a14.1 hx with rfl|hx
  ·exact hlt
  exact aFf hc.1 hd.1 (hok x (by simp[hx])).1 hlt (h1 x hx)
def ltB (c d:aA):Bool:=decide (eY d.Out c.Out<0)
theorem aNs {c:aA}(hc:zT c.Out): ∀{l:List aA},(∀d∈l,zT d.Out)→Srt l→(l.filter (ltB c)).length≤l.length∧l.filter (ltB c)++[c]++l.drop (l.filter (ltB c)).length=k9 c l
 | [],_,_=>⟨by simp,rfl⟩
 |d::ds,hok,hs=>by
  have hd:=hok d (by simp)
  obtain⟨h1,h2⟩:=a15.1 hs
  obtain⟨i1,i2⟩:=aNs hc (l:=ds) (fun e he=>hok e (by simp[he])) h2
  refine⟨List.length_filter_le _ _, ?_⟩
  unfold k9
  by_cases h:eY d.Out c.Out<0
  ·rw[if_pos h,a2Q (by exact decide_eq_true h),a1Y,List.drop_succ_cons,←i2]
   simp
  have he:(d::ds).filter (ltB c)=[]:=by
   rw[List.filter_eq_nil_iff]
   intro x hx
   rcases a14.1 hx with rfl|hx
   ·simpa[ltB]using h
   intro hq
   exact h (aFf hd.1 (hok x (by simp[hx])).1 hc.1 (h1 x hx) (of_decide_eq_true hq))
  rw[if_neg h,he]
  simp
section
variable {N:Nat}(hN:70000≤N)
include hN
theorem aUf {c:aA}(C:aP6 c):lD N c=some c:=by
 unfold lD
 rw[aMO hN (by simp) (fun x hx=>by simp at hx;subst hx;have:=C.p.len;omega)]
 simp
theorem aZj {n:Nat}{cs:List aA}(K:CsW n cs)(hn:n≤900){c:aA}(C:aP6 c):y4 N cs c=some (k9 c cs):=by
 have hk:=K.n
 have:Ok (y4 N cs c) fun r=>r=k9 c cs:=by
  unfold y4
  refine Ok.bind (P:=fun r=>r=cs.filter (ltB c)) ?_ fun r hr=> ?_
  ·refine lp (f:=fun m j s=>nH N cs c m (j:Int) s) (fun j s=>s=(cs.take j).filter (ltB c)∧s.length≤j) cs.length (fun m j s hj hs ih=> ?_) (fun m s hs=> ?_) N 0 [] (by omega) (by omega) ⟨by simp,by simp⟩
   ·unfold nH aAJ
    rw[if_pos (dT hj),i1 (by omega)]
    have o1:=K.ok _ (a1M hj)
    refine Ok.eq (bE _ hj) (Ok.eq (aQe hN o1.1 C.o.1) (Ok.ite (fun hc=> ?_) fun hc=> ?_))
    ·refine Ok.eq (eF (by omega) (by simp;omega)) (ih _ ⟨?_,by simp;omega⟩)
     rw[a1X hj,a3a,←hs.1,a2Q (by exact hc)]
     rfl
    refine ih _ ⟨?_,by omega⟩
    rw[a1X hj,a3a,←hs.1,List.filter_cons_of_neg (by exact hc)]
    simp
   unfold nH
   rw[if_neg (by simp)]
   refine Ok.pure ?_
   rw[hs.1,a2T]
  subst hr
  obtain⟨h1,h2⟩:=aNs C.o K.ok K.s
  unfold aEV
  refine Ok.eq (aUf hN C) (Ok.eq (eF (by omega) (by simp only[a1Y,a2r];omega)) (Ok.eq (aGm h1 (a2j _)) (Ok.eq (eF (by omega) ?_) (Ok.pure ?_))))
  ·simp only[a1L,a1Y,a2r,List.length_drop,a2z];omega
  rw[a2T];exact h2
 obtain⟨r,e,rfl⟩:=this
 exact e
theorem aVT {c:aA}(C:CoinM c):lD N c=some c:=aUf hN C.w
theorem aUD {h:Int}{n:Nat}{cs:List aA}(K:CsK h n cs)(hn:n≤900){c:aA}(C:CoinM c):y4 N cs c=some (k9 c cs):=aZj hN K.w hn C.w
theorem aM0 {h:Int}{n:Nat}{cs:List aA}(K:CsK h n cs)(hn:n≤900){o:aD}(ho:zT o):y7 N cs o=some (fI o 0 cs):=
 a0C hN (by have:=K.n;omega) K.ok ho
end
structure LedK (n:Nat)(l:aF):Prop where
 t:gV l.Tip
 h:0≤l.Height∧l.Height≤n
 c:CsK l.Height (8*n) l.Coins
structure CtxJ (n:Nat)(c:bA):Prop where
 h:gV c.Hash
 b:tJ c.Bits
 t:c.Times.length≤n+1
 hh:0≤c.Height∧c.Height≤n
theorem CsK.up {h k:Int}{n m:Nat}{cs:List aA}(K:CsK h n cs)(h1:h≤k)(h2:n≤m):CsK k m cs:=
 ⟨a2G K.n h2,fun c hc=>⟨(K.c c hc).m,by have:=(K.c c hc).h;omega⟩,K.s⟩
theorem LedK.up {n m:Nat}{l:aF}(L:LedK n l)(h:n≤m):LedK m l:=⟨L.t,by have:=L.h;omega,L.c.up (by omega) (by omega)⟩
theorem CtxJ.up {n m:Nat}{c:bA}(C:CtxJ n c)(h:n≤m):CtxJ m c:=⟨C.h,C.b,by have:=C.t;omega,by have:=C.hh;omega⟩
theorem LedK.m {n:Nat}{l:aF}(L:LedK n l)(h:n≤50):aYh l:=⟨by have:=L.c.n;omega,fun c hc=>(L.c.c c hc).m,by have:=L.h;omega,L.t⟩
theorem CtxJ.k {n:Nat}{c:bA}(C:CtxJ n c)(h:n≤50):aS1 c:=⟨C.h,C.b,by have:=C.t;omega,by have:=C.hh;omega⟩
theorem aTY : ∀{cs:List aA}{s:Int},(∀c∈cs,0≤c.Output.Value∧c.Output.Value≤3000)→s+3000*cs.length≤2100000000000000→vL s cs=true
 | [],_,_,_=>rfl
 |c::cs,s,hc,hs=>by
  have k:=hc c (by simp)
  rw[a1Y]at hs
  have:=aTY (cs:=cs) (s:=s+c.Output.Value) (fun d hd=>hc d (by simp[hd])) (by omega)
  unfold vL
  rw[this,decide_eq_true k.1,decide_eq_true (show c.Output.Value≤2100000000000000-s by omega)]
  rfl
section
variable {N:Nat}(hN:70000≤N)
include hN
theorem aSk {p:aK}{c:bA}{h:bV}{n:Nat}(P:PK p)(C:CtxJ n c)(hn:n≤50)(H:HdK h):Ok (uU N p c h) fun r=>CtxJ (n+1) r.1:=by
 have z:CtxJ (n+1) (bA.mk 0 (a1N 32 0) 0 0 []):=⟨⟨rfl,fun x hx=>by have:=a12 hx;omega⟩,w0,by simp,by simp only;omega⟩
 have ct:=C.t
 have chh:=C.hh
 unfold uU
 refine Ok.bind (P:=fun _=>True) ?_ fun f _=>Ok.ite (fun _=>Ok.pure z) fun _=>Ok.ite (fun _=>Ok.pure z) fun _=>Ok.bind (aJP hN H) fun hs hhs=>Ok.eq (aV hhs.1) ?_
 ·unfold aJA qI
  exact Ok.bind (yI hN P) fun t _=>Ok.ite (fun _=>Ok.ite (fun _=>Ok.ite (fun _=>Ok.pure trivial) fun _=>Ok.pure trivial) fun _=>Ok.pure trivial) fun _=>Ok.pure trivial
 have j1: ∀f,Ok (pL N c h hs f) fun r=>CtxJ (n+1) r.1:=fun f=>by
  unfold pL tP
  rw[w64 (by omega) (by omega)]
  refine Ok.eq (eF (by omega) (by simp;omega)) (Ok.eq (eF (by omega) (by simp;omega)) (Ok.ite (fun hc=> ?_) fun _=>Ok.pure ⟨hhs,H.b,by simp;omega,by simp only;omega⟩))
  have hc':=of_decide_eq_true hc
  refine Ok.eq (aGm (a:=1) (by simp at hc'⊢) (a2j _)) (Ok.pure ⟨hhs,H.b,by simp;omega,by simp only;omega⟩)
 have hw:=P.win
 have hr: ∃y,rem (a1R.wrap (c.Height+1)) p.Window=some y:=by
  unfold rem;rw[if_neg (by omega)];exact⟨_,rfl⟩
 obtain⟨y,hy⟩:=hr
 exact Ok.eq hy (Ok.ite (fun _=>j1 _) fun _=>j1 _)
theorem aRY {p:aK}{c:bA}{h:bV}{n:Nat}{now:Int}(P:PK p)(C:CtxJ n c)(hn:n≤50)(H:HdK h):Ok (aDJ N p c h now) fun _=>True:=by
 unfold aDJ
 refine Ok.bind (aSk hN P C hn H) fun a ha=>Ok.ite (fun _=>Ok.pure trivial) fun _=>Ok.eq (aV H.p.1) (Ok.eq (aV C.h.1) (Ok.ite (fun _=>Ok.pure trivial) fun _=>Ok.ite (fun _=>Ok.pure trivial) fun _=>Ok.bind (aRI hN P (C.k hn)) fun q _=>Ok.ite (fun _=>Ok.pure trivial) fun _=>Ok.ite (fun _=>Ok.pure trivial) fun _=>Ok.eq (aV ha.h.1) (Ok.bind (aOQ hN ha.h.1 H.b) fun m _=>Ok.ite (fun _=>Ok.pure trivial) fun _=>Ok.bind (aNl hN (by have:=C.t;omega)) fun md _=>Ok.ite (fun _=>Ok.pure trivial) fun _=>Ok.ite (fun _=>Ok.pure trivial) fun _=> ?_)))
 refine Ok.lr (R:=fun _=>True) (P:=fun _=>True) ?_ (fun v _=>Ok.pure trivial) fun _ _=>Ok.pure trivial
 refine lpU (f:=fun m j=>oH N p a m (j:Int)) 0 (fun m j hj ih=>absurd hj (by omega)) (fun m=> ?_) N 0 (by omega) (by omega)
 unfold oH
 rw[if_neg (by rw[P.chk];simp)]
 exact Ok.pure trivial
theorem aSZ {v:Int}(h:0≤v∧v<256):Ok (aDV N v) PK:=by
 obtain⟨M,rfl⟩: ∃M,N=M+300:=⟨N-300,by omega⟩
 unfold aDV
 have e1: ∀x∈a1N 32 (0:Int),0≤x∧x<256:=fun x hx=>by have:=a12 hx;omega
 have e2:tK (M+300) [18446744073709551615,18446744073709551615,18446744073709551615,18446744073709551615] 1=some [18446744073709551615,18446744073709551615,18446744073709551615,9223372036854775807]:=by kernel_rfl
 obtain⟨n,rfl⟩: ∃n:Nat,v=(n:Int):=⟨v.toNat,by omega⟩
 rw[show a2w (n:Int) 5=((n%5:Nat):Int)from jK n 5,show a2w (n:Int) 3=((n%3:Nat):Int)from jK n 3,w64 (a:=((n%5:Nat):Int)) (by omega) (by omega),w64 (a:=((n%3:Nat):Int)) (by omega) (by omega),w64 (by omega) (by omega),w64 (by omega) (by omega)]
 refine Ok.eq (a:=[18446744073709551615,18446744073709551615,18446744073709551615,18446744073709551615]) rfl (Ok.eq e2 (Ok.eq (x:=bM 4 _) rfl (Ok.pure ⟨rfl,rfl,rfl,rfl, ?_,⟨show(1:Int)≤5 by decide,show(5:Int)≤1048576 by decide⟩, ?_, ?_,⟨rfl,e1⟩,⟨rfl,e1⟩⟩)))
 ·show 1≤3+((n%5:Nat):Int)∧3+((n%5:Nat):Int)≤4096
  omega
 ·show 1≤4+((n%3:Nat):Int)∧4+((n%3:Nat):Int)≤100
  omega
 show 0≤((n%3:Nat):Int)∧((n%3:Nat):Int)≤100
 omega
structure uT (j:Nat)(w:aR):Prop where
 p:PK w.Params
 b:w.Blocks.length≤j
 u:w.Undos.length≤j
 ln:0<w.Ledgers.length∧w.Ledgers.length≤j+1
 l: ∀l∈w.Ledgers,LedK j l
 cn:0<w.Contexts.length∧w.Contexts.length≤j+1
 c: ∀c∈w.Contexts,CtxJ j c
theorem aUq {v:Int}(h:0≤v∧v<256):Ok (aFi N v) (uT 0):=by
 have zH:gV (a1N 32 (0:Int)):=⟨rfl,fun x hx=>by have:=a12 hx;omega⟩
 have zc:CsK 0 (8*0) []:=⟨by simp,by simp,a2O⟩
 unfold aFi
 refine Ok.bind (aSZ hN h) fun p P=> ?_
 have G:HdK p.Genesis:=⟨P.gp,P.gr,P.gw⟩
 refine Ok.bind (P:=fun r=>LedK 0 r.1) ?_ fun l L=>Ok.bind (P:=fun r=>CtxJ 0 r.1) ?_ fun c C=>Ok.pure ⟨P,by simp,by simp,by simp,fun x hx=> ?_,by simp,fun x hx=> ?_⟩
 ·unfold aHB
  exact Ok.bind (yI hN P) fun t _=>Ok.ite (fun _=>Ok.pure ⟨zH,by simp,zc⟩) fun _=>Ok.bind (aJP hN G) fun x hx=>Ok.eq (aV hx.1) (Ok.pure ⟨hx,by simp,zc⟩)
 ·unfold aHP
  exact Ok.bind (yI hN P) fun t _=>Ok.ite (fun _=>Ok.pure ⟨zH,w0,by simp,by simp⟩) fun _=>Ok.bind (aJP hN G) fun x hx=>Ok.eq (aV hx.1) (Ok.pure ⟨hx,P.gw,by simp,by simp⟩)
 ·obtain rfl:=a1T.1 hx;exact L
 obtain rfl:=a1T.1 hx;exact C
end
theorem a07 (n:Nat)(h:n<256):z7 1 (n:Int)=[a17.wrap (n:Int)]:=by
 simp[z7,shV,a2Z]
section
variable (N:Nat)(hN:70000≤N)
include hN
theorem aZC (b:List Int)(v:Int)(h:b.length≤40000000):mS N b v=some (b++aSX v):=by
 simp only[mS,show(8:Int)=((8:Nat):Int)from rfl,aK0 N hN _ 8 (by omega),a1K]
 rw[rC N _ _ (by rw[kF];omega)];rfl
theorem aNf (b:List Int)(n:Nat)(hn:n≤1000000)(h:b.length≤30000000):iC N b (a16.wrap (n:Int))=some (b++szB n):=by
 rw[wu .u64 n rfl (by simp[a2x];omega)]
 unfold iC szB
 by_cases h1:n<253
 ·have e1:decide ((n:Int)<253)=true:=decide_eq_true (by omega)
  rw[e1,if_pos rfl,if_pos h1,rC N _ _ (by simp;omega),a07 n (by omega)];rfl
 have e1:decide ((n:Int)<253)=false:=decide_eq_false (by omega)
 rw[e1,if_neg h1]
 by_cases h2:n<65536
 ·have e2:decide ((n:Int)<65536)=true:=decide_eq_true (by omega)
  simp only[e2,a1P,if_false,if_true,if_pos h2]
  rw[rC N _ _ (by simp;omega)]
  simp only[a1K,aCh,show(2:Int)=((2:Nat):Int)from rfl,aK0 N hN _ 2 (by omega)]
  rw[wu .u16 n rfl (by simp[a2x];omega),wu .u64 n rfl (by simp[a2x];omega),rC N _ _ (by simp[kF];omega)]
  simp
 have e2:decide ((n:Int)<65536)=false:=decide_eq_false (by omega)
 have e3:decide ((n:Int)<4294967296)=true:=decide_eq_true (by omega)
 simp only[e2,e3,a1P,if_false,if_true,if_neg h2]
 rw[rC N _ _ (by simp;omega)]
 simp only[a1K]
 rw[aH3 N hN (b++[254]) _ (by simp;omega),wu .u32 n rfl (by simp[a2x];omega)]
 simp only[nU,wu .u64 n rfl (show(n:Int)<2^a16.bits by simp[a2x];omega),a1K,a1U]
 rfl
theorem aQH (b s:List Int)(hs:s.length≤1000000)(h:b.length≤30000000):kW N b s=some (b++(szB s.length++s)):=by
 have:=jS s.length
 simp only[kW,aNf N hN b _ hs (by omega),a1K]
 rw[rC N _ _ (by rw[a1L];omega),a1K,a1U]
theorem aTx (o:aD)(ht:o.Tx.length=32):aGI N o=some (o.Tx++nU o.Index):=by
 simp only[aGI,jP,bM,if_pos ht,a1K]
 rw[rC N _ _ (by simp;omega)]
 simp only[a1K,a1O]
 rw[aH3 N hN _ _ (by omega)];rfl
end
section
variable (N:Nat)(hN:70000≤N){t:aB}(K:aMV t.Inputs t.Outputs)
include hN K
theorem aL8 (b:Bool)(acc:List Int)(h:acc.length≤100000):tD N t b N 0 acc=some (acc++t.Inputs.flatMap inB):=by
 have hn:=K.ni
 have hl:=aIE K
 refine n5 (f:=tD N t b) (xs:=t.Inputs) (g:=inB) (B:=200000) (by omega) (fun m j acc hj hB=> ?_) (fun m j acc hj=> ?_) N 0 acc (by omega) (by omega) (by rw[a1S];omega)
 ·have ht:=K.tx _ (a1M hj)
  rw[aN5 ht]at hB
  rw[tD,dT hj,if_pos rfl,bE t.Inputs hj]
  simp only[a1K,aTx N hN _ ht]
  rw[jM (by simp[b5];omega)]
  simp only[a1K,aH3 N hN _ _ (show([]:List Int).length≤40000000 by simp),a1O]
  rw[jM (by simp[b5];omega)]
  simp only[a1K,i1 (show j≤100000 by omega),inB,a1U]
 rw[tD,dF (by omega)];rfl
theorem aL7 (b:Bool)(acc:List Int)(h:acc.length≤100000):sL N t b N 0 acc=some (acc++t.Outputs.flatMap rJ):=by
 have hn:=K.no
 have hl:=aGA K
 refine n5 (f:=sL N t b) (xs:=t.Outputs) (g:=rJ) (B:=200000) (by omega) (fun m j acc hj hB=> ?_) (fun m j acc hj=> ?_) N 0 acc (by omega) (by omega) (by rw[a1S];omega)
 ·have ht:=K.scr _ (a1M hj)
  have hs:=jS t.Outputs[j].Script.length
  rw[sL,dT hj,if_pos rfl,bE t.Outputs hj]
  simp only[a1K,aZC N hN _ _ (show([]:List Int).length≤40000000 by simp),a1O]
  rw[jM (by rw[aFU];omega)]
  simp only[a1K,aQH N hN [] _ (show t.Outputs[j].Script.length≤1000000 by omega) (by simp),a1O]
  rw[jM (by simp only[a1L,aFU];omega)]
  simp only[a1K,i1 (show j≤100000 by omega),rJ,a1U]
 rw[sL,dF (by omega)];rfl
theorem aL6 (x:Int)(w:aT)(hw:w.Witness.length≤40∧ ∀z∈w.Witness,z.length≤600)(acc:List Int)(h:acc.length≤5000000):sF N t x w N 0 acc=some (acc++w.Witness.flatMap itB):=by
 have hl:=aDs (g:=itB) (c:=605) w.Witness (fun z hz=>aQK (hw.2 z hz))
 have:=a2a 605 hw.1
 refine n5 (f:=sF N t x w) (xs:=w.Witness) (g:=itB) (B:=6000000) (by omega) (fun m j acc hj hB=> ?_) (fun m j acc hj=> ?_) N 0 acc (by omega) (by omega) (by rw[a1S];omega)
 ·have ht:=hw.2 _ (a1M hj)
  rw[sF,dT hj,if_pos rfl,bE w.Witness hj]
  simp only[a1K,aQH N hN [] _ (show w.Witness[j].length≤1000000 by omega) (by simp),a1O]
  rw[jM (by simp only[itB]at hB;omega)]
  simp only[a1K,i1 (show j≤100000 by omega),itB]
 rw[sF,dF (by omega)];rfl
theorem aL4 (acc:List Int)(h:acc.length≤1000000):pA N t N 0 acc=some (acc++t.Inputs.flatMap wiB):=by
 have hn:=K.ni
 have hl:=aSD K
 refine n5 (f:=pA N t) (xs:=t.Inputs) (g:=wiB) (B:=4000000) (by omega) (fun m j acc hj hB=> ?_) (fun m j acc hj=> ?_) N 0 acc (by omega) (by omega) (by rw[a1S];omega)
 ·have ht:=K.wit _ (a1M hj)
  have hs:=jS t.Inputs[j].Witness.length
  rw[pA,dT hj,if_pos rfl,bE t.Inputs hj]
  simp only[a1K,aNf N hN [] _ (show t.Inputs[j].Witness.length≤1000000 by omega) (by simp),a1O]
  rw[jM (by omega)]
  simp only[a1K]
  rw[aL6 N hN K _ _ ht _ (by rw[a1L];omega)]
  simp only[a1K,aGG,i1 (show j≤100000 by omega),wiB,a1U]
 rw[pA,dF (by omega)];rfl
theorem aSv (w:Bool):aEq N t w=some (vM t.Version t.Inputs t.Outputs t.Lock w):=by
 have hn:=K.ni
 have ho:=K.no
 have h1:=jS t.Inputs.length
 have h2:=jS t.Outputs.length
 have h3:=aIE K
 have h4:=aGA K
 simp only[aEq,aH3 N hN [] _ (by simp),a1K,a1O,aNf N hN [] _ (show t.Inputs.length≤1000000 by omega) (by simp)]
 rw[jM (by rw[b5];omega)]
 simp only[a1K]
 rw[aL8 N hN K _ _ (by rw[a1L,b5];omega)]
 simp only[a1K,aGa,aNf N hN [] _ (show t.Outputs.length≤1000000 by omega) (by simp),a1O]
 rw[jM (by simp only[a1L,b5];omega)]
 simp only[a1K]
 rw[aL7 N hN K _ _ (by simp only[a1L,b5];omega)]
 simp only[a1K,aFS,aH3 N hN [] _ (show([]:List Int).length≤40000000 by simp),a1O]
 rw[jM (by simp only[a1L,b5];omega)]
 cases w
 ·simp[vM]
 simp only[a1K,a2e,a1P,if_false]
 rw[aL4 N hN K _ (by simp only[a1L,b5];omega)]
 rfl
end
theorem aSb {N:Nat}{t:aB}{x:Int}{w:aT}: ∀(m:Nat)(j:Int),aFt N t x w m j=kZ N t x w m j
 |0,_=>rfl
 |m+1,j=>by simp only[aFt,kZ,aSb m]
theorem aSr {N:Nat}{t:aB}: ∀(m:Nat)(j:Int),yN N t m j=jG N t m j
 |0,_=>rfl
 |m+1,j=>by simp only[yN,jG,aJH,aAA,aSb,aSr m]
theorem aSc {N:Nat}{t:aB}: ∀(m:Nat)(j:Int),uC N t m j=iF N t m j
 |0,_=>rfl
 |m+1,j=>by simp only[uC,iF,aFq,u4,aSc m]
section
variable (N:Nat)(hN:70000≤N){t:aB}(T:TxK t)
include hN T
theorem aWv :aFF N t=gP N t:=by
 simp only[aFF,gP,aCg,qK,aFE,u1,aJC,aAN,aSc,aSr,aSv N hN T.k,aFb N hN T.k]
theorem aOx (w:Bool):aBg N t w=some (if nD t.Version t.Inputs t.Outputs t.Lock=true then(vM t.Version t.Inputs t.Outputs t.Lock w,0)else([],4)):=by
 unfold aBg
 rw[aWv N hN T,rS N hN T.k,aSv N hN T.k]
 simp only[a1K]
 cases nD t.Version t.Inputs t.Outputs t.Lock<;>rfl
theorem aO9 (w:Bool):g8 N t w=some (vM t.Version t.Inputs t.Outputs t.Lock w):=by
 cases w
 ·exact aPb N hN T
 exact aFb N hN T.k
theorem aXl (w:Bool):aBk N t w=some (if nD t.Version t.Inputs t.Outputs t.Lock=true then(vM t.Version t.Inputs t.Outputs t.Lock w,0)else([],4)):=by
 unfold aBk
 rw[rS N hN T.k,aO9 N hN T]
 simp only[a1K]
 cases nD t.Version t.Inputs t.Outputs t.Lock<;>rfl
def dig (N:Nat)(t:aB)(w:Bool):List Int:=if nD t.Version t.Inputs t.Outputs t.Lock=true then dbl N (vM t.Version t.Inputs t.Outputs t.Lock w)else [0,0,0,0,0,0,0,0,0,0,0,0,0,0,0,0,0,0,0,0,0,0,0,0,0,0,0,0,0,0,0,0]
omit hN T in
theorem aK6 (w:Bool):gV (dig N t w):=by
 unfold dig
 split
 ·exact aQw _ _
 exact aPW
theorem aYG (w:Bool):aD7 N t w=some (dig N t w):=by
 unfold aD7 dig
 rw[aOx N hN T]
 simp only[a1K]
 cases hf:nD t.Version t.Inputs t.Outputs t.Lock with
 |false=>rfl
 |true=>
  have:=aH7 N hN T hf w
  simp only[if_true]
  rw[if_neg (by simp),aSq N hN _ (aJN T.b w) (by omega)]
  simp only[a1K,aV (vB N _)]
theorem aID :aNB N t=some (dig N t false):=by
 unfold aNB
 rw[aYG N hN T]
 simp only[a1K,aV (aK6 (t:=t) N false).1]
theorem a0z :aIL N t=some (dig N t true):=by
 unfold aIL
 rw[aYG N hN T]
 simp only[a1K,aV (aK6 (t:=t) N true).1]
theorem aZh (w:Bool):((gP N t).bind fun x=>if !x then some [0,0,0,0,0,0,0,0,0,0,0,0,0,0,0,0,0,0,0,0,0,0,0,0,0,0,0,0,0,0,0,0]else(g8 N t w).bind fun x=>(pI N x).bind fun x=>(bM 32 x).bind fun _=>some x)=some (dig N t w):=by
 rw[rS N hN T.k]
 unfold dig
 simp only[a1K]
 cases hf:nD t.Version t.Inputs t.Outputs t.Lock with
 |false=>rfl
 |true=>
  have:=aH7 N hN T hf w
  simp only[if_true]
  rw[if_neg (by simp),aO9 N hN T]
  simp only[a1K]
  rw[aLA N hN _ (aJN T.b w) (by omega)]
  simp only[a1K,aV (vB N _)]
theorem rID :aBa N t=some (dig N t false):=aZh N hN T false
theorem a0A :y8 N t=some (dig N t true):=aZh N hN T true
end
theorem aLG {α:Type}{l:List α}{i:Int}{x:α}(h:aW l i=some x):x∈l:=by
 unfold aW at h
 split at h
 ·exact List.mem_of_getElem? h
 cases h
theorem aBl {α β:Type}{l:List α}{i:Int}{f g:α→Option β}(h: ∀x∈l,f x=g x):(aW l i).bind f=(aW l i).bind g:=by
 cases e:aW l i with
 |none=>rfl
 |some x=>exact h x (aLG e)
theorem eO {α β:Type}{x y:Option α}{f g:α→Option β}(h:x=y)(k: ∀a,f a=g a):x.bind f=y.bind g:=by
 rw[h];cases y<;>simp[k]
theorem gW {α:Type}{c:Prop} [Decidable c] {x y z w:α} (h:x=z) (k:y=w):(if c then x else y)=if c then z else w:=by rw[h,k]
def qD (a b:aD):Bool:=decide (eY a b=0)
theorem aZn {a b:aD}(ha:a.Tx.length=32)(hb:b.Tx.length=32):tY a b=qD a b:=eqP ha hb
theorem aRL {a b:aD}:qD a b=qD b a:=by
 unfold qD
 rw[mH,a2t]
 simp only[decide_eq_true_eq];omega
theorem aJz {N:Nat}{t:aB}:rK N t=c5 N t:=by
 simp only[rK,c5,zF,sA,aN2,rG]
theorem aRu {N:Nat}{t:aB}: ∀(m:Nat)(j:Int),aD1 N t m j=lL N t m j
 |0,_=>rfl
 |m+1,j=>by simp only[aD1,lL,aRu m]
theorem aSG {N:Nat}{t:aB}{h:Int}:aF8 N t h=rR N t h:=by
 simp only[aF8,rR,aHM,aCM,aRu]
def aEW :aD:=aD.mk (a1N 32 0) 4294967295
theorem aT6 {o:aD}(h:o.Tx.length=32):iU o.Tx (a1N 32 0) ((o.Index == 4294967295)&&true)=qD o aEW:=eqP (b:=aEW) h (by simp[aEW])
theorem aOr {v lock:Int}{ins:List aT}{outs:List aI}(h:nD v ins outs lock=true){o:aI}(ho:o∈outs):0≤o.Value:=by
 simp only[nD,a2y,a2S]at h
 have:=h.1.1.2 o ho
 simp only[aRk,a2y,Bool.not_eq_true',decide_eq_false_iff_not]at this
 omega
section
variable {N:Nat}(hN:70000≤N)
include hN
theorem aNF {t:aB}{x:aT}(hi:t.Inputs=[x])(hx:x.Prev.Tx.length=32):c5 N t=some (qD x.Prev aEW):=by
 unfold c5 rG
 rw[hi]
 simp only[a19]
 exact congrArg some (aT6 hx)
def aQW (t:aB):Int:=if nD t.Version t.Inputs t.Outputs t.Lock=true then(if t.Outputs.length=0 then 93 else 0)else 4
theorem aSp {t:aB}(T:TxM t):aGb N t=some (aQW t):=by
 obtain⟨x,hi,hx⟩:=T.i
 have hno:=T.n
 obtain⟨m,rfl⟩: ∃m,N=m+2:=⟨N-2,by omega⟩
 unfold aGb aQW
 rw[aWv _ hN T.k,rS _ hN T.k.k]
 simp only[a1K]
 cases hf:nD t.Version t.Inputs t.Outputs t.Lock
 ·rfl
 simp only[a2e,a1P,if_false,if_true]
 have e1:((t.Inputs.length:Int) == 0)=false:=by rw[hi];rfl
 rw[e1]
 simp only[a1P,if_false]
 unfold aDU
 by_cases h0:t.Outputs.length=0
 ·rw[if_pos (by simp[h0]),if_pos h0]
 rw[if_neg (by simpa using h0),if_neg h0]
 have hm:aIQ (m+2) t.Outputs=some true:=by
  unfold aIQ
  have:Ok (vF (m+2) t.Outputs (m+2) 0 ((0:Nat):Int)) fun r=>r= .brk ():=by
   refine lp (f:=fun m j s=>vF _ t.Outputs m s (j:Int)) (fun j s=>0≤s∧s≤4000*(j:Int)) t.Outputs.length (fun m j s hj hs ih=> ?_) (fun m s hs=> ?_) _ 0 0 (by omega) (by omega) (by simp)
   ·have ho:=(T.o _ (a1M hj)).2
    have ho0:=aOr hf (a1M hj)
    unfold vF
    rw[if_pos (dT hj),i1 (by omega)]
    refine Ok.eq (bE _ hj) ?_
    rw[w64 (by omega) (by omega),w64 (by omega) (by omega)]
    refine Ok.ite (fun h=> ?_) fun _=>ih _ (by omega)
    have:=of_decide_eq_true h;omega
   unfold vF
   rw[if_neg (by simp)]
   exact Ok.pure rfl
  obtain⟨r,e,rfl⟩:=this
  rw[show((0:Nat):Int)=0 from rfl]at e
  rw[e];rfl
 rw[hm]
 simp only[a1K,a2e,a1P,if_false]
 have hl:aDM (m+2) t (m+2) 0 []=some (.brk [(x.Prev,true)]):=by
  simp only[aDM]
  rw[hi]
  rfl
 rw[hl]
 simp only[a1K]
 unfold aHF aDO
 have hg:pC tY [(x.Prev,true)] (aD.mk (a1N 32 0) 4294967295) false=qD x.Prev aEW:=by
  have e:tY (aD.mk (a1N 32 0) 4294967295) x.Prev=qD x.Prev aEW:=by
   rw[aRL];exact aZn (by simp) hx.p.1
  unfold pC kA
  simp only[a2I,List.findIdx?_nil,e]
  cases qD x.Prev aEW<;>rfl
 rw[hg,aJz,aNF hN hi hx.p.1]
 cases qD x.Prev aEW<;>rfl
theorem aLD {t:aB}(T:TxM t):rU N t=some (aQW t):=by
 obtain⟨x,hi,hx⟩:=T.i
 have hno:=T.n
 obtain⟨m,rfl⟩: ∃m,N=m+2:=⟨N-2,by omega⟩
 unfold rU aQW
 rw[rS _ hN T.k.k]
 simp only[a1K]
 cases hf:nD t.Version t.Inputs t.Outputs t.Lock
 ·rfl
 simp only[a2e,a1P,if_false,if_true]
 have e1:((t.Inputs.length:Int) == 0)=false:=by rw[hi];rfl
 rw[e1]
 simp only[a1P,if_false]
 unfold oK
 by_cases h0:t.Outputs.length=0
 ·rw[if_pos (by simp[h0]),if_pos h0]
 rw[if_neg (by simpa using h0),if_neg h0]
 have:Ok (gX (m+2) t (m+2) 0 ((0:Nat):Int)) fun r=> ∃s:Int,r= .brk s∧s≤8000:=by
  refine lp (f:=fun m j s=>gX _ t m s (j:Int)) (fun j s=>0≤s∧s≤4000*(j:Int)) t.Outputs.length (fun m j s hj hs ih=> ?_) (fun m s hs=> ?_) _ 0 0 (by omega) (by omega) (by simp)
  ·have ho:=(T.o _ (a1M hj)).2
   have ho0:=aOr hf (a1M hj)
   unfold gX
   rw[if_pos (dT hj),i1 (by omega)]
   refine Ok.eq (bE _ hj) ?_
   rw[w64 (by omega) (by omega)]
   refine Ok.ite (fun h=> ?_) fun _=>ih _ (by omega)
   have:=of_decide_eq_true h;omega
  unfold gX
  rw[if_neg (by simp)]
  exact Ok.pure ⟨s,rfl,by omega⟩
 obtain⟨r,e,s,rfl,hs⟩:=this
 rw[show((0:Nat):Int)=0 from rfl]at e
 rw[e]
 simp only[a1K]
 unfold sH
 rw[if_neg (by simp;omega)]
 have hl:jZ (m+2) t (m+2) 0=some (.brk ()):=by
  simp only[jZ,oI,yU]
  rw[hi]
  rfl
 rw[hl]
 simp only[a1K]
 unfold sK
 have hl2:gG (m+2) t (m+2) 0=some (.brk ()):=by
  simp only[gG,oB,aNF hN hi hx.p.1,rG]
  rw[hi]
  simp only[a19]
  have e0:aW [x] 0=some x:=rfl
  have e2:decide ((0:Int)<((1:Nat):Int))=true:=rfl
  have e3:a1R.wrap (0+1)=1:=rfl
  have e4:decide ((1:Int)<((1:Nat):Int))=false:=rfl
  simp only[e0,e2,e3,e4,a1K,if_true,aT6 hx.p.1]
  cases qD x.Prev aEW<;>rfl
 rw[hl2]
 rfl
end
def aCx (t:aB):Bool:=nD t.Version t.Inputs t.Outputs t.Lock
def aQJ (t:aB):List Int:=vM t.Version t.Inputs t.Outputs t.Lock true
section
variable {N:Nat}(hN:70000≤N){b:aJ}(B:aGc b)
include hN B
theorem aPo : ∀(m j:Nat)(acc:List Int),b.Txs.length-j<m→j≤b.Txs.length→acc.length≤200+j*20000→
  vT N b m (j:Int) acc=some (if(b.Txs.drop j).all aCx=true then .brk (acc++(b.Txs.drop j).flatMap aQJ)else .ret ([],4))
 |0,j,_,h,_,_=>by omega
 |m+1,j,acc,h,hj,ha=>by
  have hb:=B.t.1
  unfold vT
  by_cases h':j<b.Txs.length
  ·have T:=(B.t.2 _ (a1M h')).k
   rw[if_pos (dT h'),bE _ h',a1Q h',List.all_cons,a2N]
   simp only[a1K,aOx N hN T]
   have hl:=aH7 (t:=b.Txs[j]) N hN T
   cases hf:nD b.Txs[j].Version b.Txs[j].Inputs b.Txs[j].Outputs b.Txs[j].Lock with
   |false=>
    have e:aCx b.Txs[j]=false:=hf
    rw[e];rfl
   |true=>
    have e:aCx b.Txs[j]=true:=hf
    have hl2:=hl hf true
    rw[e,if_pos rfl,if_neg (by simp),eF (by omega) (by simp only;omega)]
    simp only[a1K,i1 (show j≤100000 by omega),a18]
    rw[aPo m (j+1) _ (by omega) (by omega) (by simp only[a1L];omega),a1U]
    rfl
  rw[if_neg (by simp;omega),a1V (by omega)]
  simp
theorem aPz : ∀(m j:Nat)(acc:List Int),b.Txs.length-j<m→j≤b.Txs.length→acc.length≤200+j*20000→(b.Txs.drop j).all aCx=true→
  wA N b m (j:Int) acc=some (acc++(b.Txs.drop j).flatMap aQJ)
 |0,j,_,h,_,_,_=>by omega
 |m+1,j,acc,h,hj,ha,hf=>by
  have hb:=B.t.1
  unfold wA
  by_cases h':j<b.Txs.length
  ·have T:=(B.t.2 _ (a1M h')).k
   rw[a1Q h',List.all_cons,a2y]at hf
   have hf1:nD b.Txs[j].Version b.Txs[j].Inputs b.Txs[j].Outputs b.Txs[j].Lock=true:=hf.1
   have hl2:=aH7 (t:=b.Txs[j]) N hN T hf1 true
   rw[if_pos (dT h'),bE _ h',a1Q h',a2N]
   simp only[a1K,aXl N hN T,if_pos hf1]
   rw[eF (by omega) (by omega)]
   simp only[a1K,i1 (show j≤100000 by omega)]
   rw[aPz m (j+1) _ (by omega) (by omega) (by rw[a1L];omega) hf.2,a1U]
   rfl
  rw[if_neg (by simp;omega),a1V (by omega)]
  simp
def aVN (b:aJ):List Int:=(hdB b.Header++szB b.Txs.length)++b.Txs.flatMap aQJ
def aKS (b:aJ):Bool:=b.Txs.all aCx&&decide ((aVN b).length≤100000)
theorem aXD : ∃e,aCt N b=some (e,if aKS b=true then 0 else 4):=by
 have hb:=B.t.1
 have hz:=jS b.Txs.length
 unfold aCt
 rw[if_neg (by simp;omega),aSe N hN b.Header B.h.p.1 B.h.r.1]
 simp only[a1K]
 rw[aNf N hN _ _ (show b.Txs.length≤1000000 by omega) (by rw[aFI B.h.p.1 B.h.r.1];omega)]
 simp only[a1K]
 have l:=aPo hN B N 0 (hdB b.Header++szB b.Txs.length) (by omega) (by omega) (by rw[a1L,aFI B.h.p.1 B.h.r.1];omega)
 rw[show((0:Nat):Int)=0 from rfl,a1S]at l
 rw[l]
 simp only[a1K]
 unfold aKS
 cases b.Txs.all aCx with
 |false=>exact⟨[],rfl⟩
 |true=>
  simp only[if_true,a18]
  unfold aCB
  by_cases hl:(aVN b).length≤100000
  ·rw[decide_eq_true hl,if_neg (by have:((hdB b.Header++szB b.Txs.length)++b.Txs.flatMap aQJ).length≤100000:=hl;simp only[decide_eq_true_eq];omega)]
   exact⟨_,rfl⟩
  rw[decide_eq_false hl,if_pos (by have: ¬((hdB b.Header++szB b.Txs.length)++b.Txs.flatMap aQJ).length≤100000:=hl;simp only[decide_eq_true_eq];omega)]
  exact⟨_,rfl⟩
theorem aLQ :aFp N b=some (aKS b):=by
 have hb:=B.t.1
 have hz:=jS b.Txs.length
 unfold aFp
 rw[if_neg (by simp;omega)]
 have l:=xM (f:=uS N b) (xs:=b.Txs) (p:=aCx) (r:=false) (fun m j hj=>by
  rw[uS,dT hj,if_pos rfl,bE b.Txs hj]
  simp only[a1K,rS N hN (B.t.2 _ (a1M hj)).k.k,i1 (show j≤100000 by omega)]
  rw[show nD b.Txs[j].Version b.Txs[j].Inputs b.Txs[j].Outputs b.Txs[j].Lock=aCx b.Txs[j]from rfl]
  cases aCx b.Txs[j]<;>rfl) (fun m j hj=>by rw[uS,dF (by omega)];rfl) N 0 (by omega) (by omega)
 rw[show((0:Nat):Int)=0 from rfl,a1S]at l
 rw[l]
 unfold aKS
 simp only[a1K]
 cases hf:b.Txs.all aCx with
 |false=>rfl
 |true=>
  simp only[if_true,a18]
  unfold aEI aGC aCC
  rw[aSx N hN b.Header B.h.p.1 B.h.r.1]
  simp only[a1K]
  rw[aJk N hN _ _ (show b.Txs.length≤1000000 by omega) (by rw[aFI B.h.p.1 B.h.r.1];omega)]
  simp only[a1K]
  have l:=aPz hN B N 0 (hdB b.Header++szB b.Txs.length) (by omega) (by omega) (by rw[a1L,aFI B.h.p.1 B.h.r.1];omega) (by rw[a1S];exact hf)
  rw[show((0:Nat):Int)=0 from rfl,a1S]at l
  rw[l]
  simp only[a1K]
  refine congrArg some ?_
  rw[a2t]
  simp only[decide_eq_true_eq]
  unfold aVN
  omega
end
theorem aXJ {N:Nat}(hN:70000≤N){l r:List Int}(h1:gV l)(h2:gV r):aDQ N l r=yR N l r:=by
 unfold aDQ yR
 rw[aV h1.1,aV h2.1]
 simp only[a1K]
 have hb:Byt ([1]++l++r):=Byt.append (Byt.append (fun x hx=>by simp at hx;omega) h1.2) h2.2
 rw[eF (by omega) (by simp[h1.1]),aMO hN (by simp) (fun x hx=>by simp at hx;rcases hx with rfl|rfl|rfl<;>simp[h1.1,h2.1])]
 simp only[a1K]
 rw[eF (by omega) (by simp[h1.1,h2.1])]
 simp only[a1K,a2l,a2n,a2k]
 rw[←a1U]
 rw[aIt N hN _ hb (by simp[h1.1,h2.1]),zD N hN _ hb (by simp[h1.1,h2.1])]
theorem aRb {N:Nat}(hN:70000≤N){l:List (List Int)}{a:List (List (List Int))}(h: ∀x∈l,gV x): ∀(m:Nat)(i:Int)(s:List (List Int)),lH N l a m i s=dS N l a m i s
 |0,_,_=>rfl
 |m+1,i,s=>by
  unfold lH dS uL kN
  refine gW (gW ?_ ?_) rfl
  ·refine aBl fun x hx=>eO rfl fun _=>aBl fun y hy=>eO rfl fun _=>eO (aXJ hN (h x hx) (h y hy)) fun _=>eO rfl fun _=>eO rfl fun _=>aRb hN h m _ _
  exact aBl fun x hx=>eO rfl fun _=>eO rfl fun _=>aRb hN h m _ _
theorem aQd {N:Nat}(hN:70000≤N){l:List (List Int)}{a:List (List (List Int))}(h: ∀x∈l,gV x): ∀(m:Nat)(i:Int)(s r:List (List Int)),(∀x∈s,gV x)→dS N l a m i s=some r→ ∀x∈r,gV x
 |0,_,_,_,_,e=>by cases e
 |m+1,i,s,r,hs,e=>by
  have add: ∀y z,gV y→b6 32 s [y]=some z→ ∀x∈z,gV x:=fun y z hy ha x hx=>by
   unfold b6 at ha
   split at ha
   ·injection ha with ha;subst ha
    rcases a11.1 hx with hx|hx
    ·exact hs x hx
    obtain rfl:=a1T.1 hx;exact hy
   cases ha
  unfold dS kN at e
  split at e
  ·split at e
   ·simp only[a2R]at e
    obtain⟨x,hx,_,_,y,hy,_,_,z,hz,_,_,s',hs',e⟩:=e
    obtain⟨z',e',hz'⟩:=aQ4 hN (h x (aLG hx)) (h y (aLG hy))
    rw[e']at hz
    injection hz with hz;subst hz
    exact aQd hN h m _ _ r (add _ _ hz' hs') e
   simp only[a2R]at e
   obtain⟨x,hx,_,_,s',hs',e⟩:=e
   exact aQd hN h m _ _ r (add _ _ (h x (aLG hx)) hs') e
  injection e with e;subst e;exact hs
theorem aTy {N:Nat}(hN:70000≤N): ∀(m:Nat)(l:List (List Int))(a:List (List (List Int))),(∀x∈l,gV x)→oM N m l a=iT N m l a
 |0,_,_,_=>rfl
 |m+1,l,a,h=>by
  unfold oM iT aA5 vU
  refine gW ?_ rfl
  rw[aRb hN h]
  cases e:dS N l a N 0 [] with
  |none=>rfl
  |some r=>
   have hr:=aQd hN h _ _ _ r (by simp) e
   simp only[a1K]
   exact eO rfl fun _=>eO rfl fun _=>aTy hN m _ _ hr
theorem aXI {N:Nat}(hN:70000≤N){l:List (List Int)}(h: ∀x∈l,gV x):aAh N l=uP N l:=by
 unfold aAh uP sW nA aEU aBS aAS aCi
 rw[aTy hN _ _ _ h]
theorem aY8 {N:Nat}(hN:70000≤N){t:aB}(T:TxM t):aIL N t=y8 N t:=by rw[a0z N hN T.k,a0A N hN T.k]
theorem aSA {N:Nat}(hN:70000≤N){l:List aB}(T: ∀t∈l,TxM t): ∀(m:Nat)(i:Int)(s:List (List Int)),aAH N l m i s=fZ N l m i s
 |0,_,_=>rfl
 |m+1,i,s=>by
  unfold aAH fZ
  exact gW (aBl fun t ht=>eO (aY8 hN (T t ht)) fun _=>eO rfl fun _=>eO rfl fun _=>aSA hN T m _ _) rfl
theorem aYk {N:Nat}(hN:70000≤N){l:List aB}(T:aQP l):aE8 N l=qQ N l:=by
 have hn:=T.1
 unfold aE8 qQ aEr aAM
 rw[aSA hN T.2]
 have:Ok (fZ N l N ((0:Nat):Int) []) fun r=> ∀h∈r,gV h:=by
  refine lp (f:=fun m j s=>fZ N l m (j:Int) s) (fun j s=>s.length=j∧ ∀h∈s,gV h) l.length (fun m j s hj hs ih=> ?_) (fun m s hs=> ?_) N 0 [] (by omega) (by omega) ⟨rfl,by simp⟩
  ·unfold fZ
   rw[if_pos (dT hj),i1 (by omega)]
   obtain⟨h,hh,e⟩:=aQY N hN (T.2 _ (a1M hj)).k
   refine Ok.eq (bE _ hj) (Ok.eq e (Ok.eq (aV hh.1) (Ok.eq (eF (by omega) (by simp;omega)) (ih _ ⟨by simp[hs.1],fun x hx=> ?_⟩))))
   rcases a11.1 hx with hx|hx
   ·exact hs.2 x hx
   obtain rfl:=a1T.1 hx;exact hh
  unfold fZ
  rw[if_neg (by simp)]
  exact Ok.pure hs.2
 obtain⟨r,e,hr⟩:=this
 rw[show((0:Nat):Int)=0 from rfl]at e
 rw[e]
 simp only[a1K]
 rw[aXI hN hr]
theorem lpc {σ ρ β:Type}{f:Nat→Int→σ→Option (LR β ρ)}(n:Nat)(A:Nat→σ)(c:Nat→Bool)(r:ρ)(B:β)
  (hs: ∀m j,j<n→f (m+1) (j:Int) (A j)=if c j=true then some (.ret r)else f m ((j+1:Nat):Int) (A (j+1))) (he: ∀m,f (m+1) (n:Int) (A n)=some (.brk B)):
  ∀(m j:Nat),n-j<m→j≤n→f m (j:Int) (A j)=some (if(a2o j (n-j)).any c=true then .ret r else .brk B)
 |0,j,h,_=>by omega
 |m+1,j,h,hj=>by
  by_cases h':j<n
  ·rw[hs m j h',lpc n A c r B hs he m (j+1) (by omega) (by omega),show n-j=(n-(j+1))+1 by omega,a2c,List.any_cons]
   cases c j
   ·simp only[Bool.false_or,a1P,if_false]
   rfl
  obtain rfl:j=n:=by omega
  rw[he,Nat.sub_self];rfl
theorem aME {σ ρ β:Type}{f:Nat→Int→σ→Option (LR β ρ)}{n:Nat}(A:Nat→σ)(c:Nat→Bool)(r:ρ)(B:β)
  (hs: ∀m j,j<n→f (m+1) (j:Int) (A j)=if c j=true then some (.ret r)else f m ((j+1:Nat):Int) (A (j+1))) (he: ∀m,f (m+1) (n:Int) (A n)=some (.brk B)) {N:Nat} (hN:n<N):
  f N 0 (A 0)=some (if(a10 n).any c=true then .ret r else .brk B):=by
 have:=lpc n A c r B hs he N 0 (by omega) (by omega)
 rw[a2h,show((0:Nat):Int)=0 from rfl,←a26]at this
 exact this
def xO (id:List Int):Nat→List (List Int)→Int
 |_,[]=> -1
 |j,x::l=>if x=id then(j:Int)else xO id (j+1) l
def rN :Nat→List (List Int)→List (List Int×Int)
 |_,[]=>[]
 |j,x::l=>(x,(j:Int))::rN (j+1) l
theorem aQs (x:List Int): ∀(l:List (List Int))(j:Nat),rN j (l++[x])=rN j l++[(x,((j+l.length:Nat):Int))]
 | [],j=>rfl
 |y::l,j=>by
  simp only[List.cons_append,rN,aQs x l (j+1),a1Y]
  rw[show j+1+l.length=j+(l.length+1) by omega]
theorem aFB {k:List Int}(hk:k.length=32): ∀(l:List (List Int))(j:Nat),(∀x∈l,gV x)→
  (kA yY (rN j l) k=none∧xO k j l= -1)∨ ∃i,kA yY (rN j l) k=some i∧xO k j l=((j+i:Nat):Int)∧((rN j l)[i]?).map (·.2)=some ((j+i:Nat):Int)
 | [],j,_=> .inl ⟨rfl,rfl⟩
 |x::l,j,h=>by
  have hx:=h x (by simp)
  have ih:=aFB hk l (j+1) (fun y hy=>h y (by simp[hy]))
  have hq:yY k x=decide (x=k):=by
   unfold yY
   rw[aO4 hk hx.1,Bool.and_true,a2t]
   simp only[beq_iff_eq,decide_eq_true_eq]
   exact eq_comm
  unfold kA at ih⊢
  simp only[rN,a2I,hq,xO]
  by_cases e:x=k
  ·rw[decide_eq_true e,if_pos e]
   exact .inr ⟨0,rfl,rfl,rfl⟩
  rw[decide_eq_false e,if_neg e]
  rcases ih with⟨i1,i2⟩|⟨i,i1,i2,i3⟩
  ·exact .inl ⟨by simp[i1],i2⟩
  refine .inr ⟨i+1,by simp[i1],by rw[i2];congr 1;omega, ?_⟩
  rw[List.getElem?_cons_succ,i3]
  congr 2;omega
section
variable {k:List Int}(hk:k.length=32){l:List (List Int)}(h: ∀x∈l,gV x)
include hk h
theorem aPv :tW yY (rN 0 l) k=decide (0≤xO k 0 l):=by
 unfold tW
 rcases aFB hk l 0 h with⟨h1,h2⟩|⟨i,h1,h2,_⟩
 ·rw[h1,h2];rfl
 rw[h1,h2,decide_eq_true (by omega)];rfl
theorem aTU (hp:0≤xO k 0 l):pC yY (rN 0 l) k 0=xO k 0 l:=by
 unfold pC
 rcases aFB hk l 0 h with⟨h1,h2⟩|⟨i,h1,h2,h3⟩
 ·omega
 rw[h1,h2]
 simp only[h3,Option.getD_some]
theorem aUj (hp: ¬0≤xO k 0 l)(v:Int):aAa yY (rN 0 l) k v=rN 0 l++[(k,v)]:=by
 unfold aAa
 rcases aFB hk l 0 h with⟨h1,h2⟩|⟨i,h1,h2,h3⟩
 ·rw[h1]
 omega
end
section
variable {N:Nat}(hN:70000≤N)
include hN
theorem aMj {ids:List (List Int)}{id:List Int}(hi:id.length=32)(h: ∀x∈ids,gV x)(hn:ids.length≤1000): ∀(m j:Nat),ids.length-j<m→j≤ids.length→
  ((zJ N ids id m (j:Int)).bind fun q=>match q with | .ret v=>some v | .brk _=>aC1 N)=some (xO id j (ids.drop j))
 |0,j,hm,_=>by omega
 |m+1,j,hm,hj=>by
  unfold zJ
  by_cases h':j<ids.length
  ·rw[if_pos (dT h'),bE _ h',a1Q h']
   simp only[a1K,aV (h _ (a1M h')).1,aV hi,xO]
   by_cases e:ids[j]=id
   ·rw[if_pos (by simpa using e),if_pos e];rfl
   rw[if_neg (by simpa using e),if_neg e,i1 (by omega)]
   exact aMj hi h hn m (j+1) (by omega) (by omega)
  rw[if_neg (by simp;omega),a1V (by omega)]
  rfl
theorem aUr {ids:List (List Int)}{id:List Int}(hi:id.length=32)(h: ∀x∈ids,gV x)(hn:ids.length≤1000):aDR N ids id=some (xO id 0 ids):=by
 have:=aMj hN hi h hn N 0 (by omega) (by omega)
 rw[show((0:Nat):Int)=0 from rfl,a1S]at this
 exact this
end
def eK (N:Nat)(l:List aB):List (List Int):=l.map fun t=>dig N t false
theorem yQ (N:Nat)(l:List aB): ∀x∈eK N l,gV x:=fun x hx=>by
 obtain⟨t,_,rfl⟩:=a2d.1 hx
 exact aK6 _ _
theorem aNq (N:Nat)(l:List aB){j:Nat}(h:j<l.length):eK N (l.take (j+1))=eK N (l.take j)++[dig N l[j] false]:=by
 unfold eK
 rw[a1X h,a2g];rfl
theorem aLd (N:Nat)(l:List aB):(eK N l).length=l.length:=by simp[eK]
def c1 (N:Nat)(l:List aB)(j:Nat):Bool:=match l[j]? with
 |some t=>decide (0≤xO (dig N t false) 0 (eK N (l.take j)))
 |none=>false
def pv (t:aB):aD:=match t.Inputs with
 |x::_=>x.Prev
 | []=>aEW
def c2 (N:Nat)(l:List aB)(j:Nat):Bool:=match l[j]? with
 |some t=>decide ((j:Int)≤xO (pv t).Tx 0 (eK N l))
 |none=>false
def c3 (l:List aB)(j:Nat):Bool:=match l[j]? with
 |some t=>((l.take j).map pv).any (qD (pv t))
 |none=>false
section
variable {N:Nat}(hN:70000≤N){b:aJ}(B:aGc b)
include hN B
theorem a1x :mM N b.Txs N 0 []=some (if(a10 b.Txs.length).any (c1 N b.Txs)=true then .ret 91 else .brk (rN 0 (eK N b.Txs))):=by
 have hb:=B.t.1
 refine aME (f:=mM N b.Txs) (fun j=>rN 0 (eK N (b.Txs.take j))) (c1 N b.Txs) 91 _ (fun m j hj=> ?_) (fun m=> ?_) (by omega)
 ·have T:=(B.t.2 _ (a1M hj)).k
  have hd:=aK6 (t:=b.Txs[j]) N false
  have hc:c1 N b.Txs j=decide (0≤xO (dig N b.Txs[j] false) 0 (eK N (b.Txs.take j))):=by unfold c1;rw[a1Z hj]
  rw[mM,if_pos (dT hj),bE _ hj,hc]
  simp only[a1K,aID N hN T,aV hd.1,i1 (show j≤100000 by omega)]
  rw[aPv hd.1 (yQ _ _)]
  by_cases hp:0≤xO (dig N b.Txs[j] false) 0 (eK N (b.Txs.take j))
  ·rw[decide_eq_true hp];rfl
  rw[decide_eq_false hp,if_neg (by simp),if_neg (by simp),aUj hd.1 (yQ _ _) hp,aNq N _ hj,aQs,aLd]
  rw[show 0+(b.Txs.take j).length=j by rw[a2z];omega]
 rw[mM,if_neg (by simp),a2i (a2j _)]
theorem aZp :n8 N b N 0 []=some (if(a10 b.Txs.length).any (c1 N b.Txs)=true then .ret 91 else .brk (eK N b.Txs)):=by
 have hb:=B.t.1
 refine aME (f:=n8 N b) (fun j=>eK N (b.Txs.take j)) (c1 N b.Txs) 91 _ (fun m j hj=> ?_) (fun m=> ?_) (by omega)
 ·have T:=(B.t.2 _ (a1M hj)).k
  have hd:=aK6 (t:=b.Txs[j]) N false
  have hl:(eK N (b.Txs.take j)).length≤10:=by rw[aLd,a2z];omega
  have hc:c1 N b.Txs j=decide (0≤xO (dig N b.Txs[j] false) 0 (eK N (b.Txs.take j))):=by unfold c1;rw[a1Z hj]
  rw[n8,if_pos (dT hj),bE _ hj,hc]
  simp only[a1K,rID N hN T,aV hd.1,aIF (yQ _ _),i1 (show j≤100000 by omega),aUr hN hd.1 (yQ _ _) (show(eK N (b.Txs.take j)).length≤1000 by omega)]
  by_cases hp:0≤xO (dig N b.Txs[j] false) 0 (eK N (b.Txs.take j))
  ·rw[decide_eq_true hp];rfl
  rw[decide_eq_false hp,if_neg (by simp),if_neg (by simp),eF (by omega) (by simp;omega),aNq N _ hj]
  rfl
 rw[n8,if_neg (by simp),a2i (a2j _)]
theorem aD3 {t:aB}{x:aT}(hi:t.Inputs=[x]):pv t=x.Prev:=by unfold pv;rw[hi]
theorem a1g :gE N b.Txs (rN 0 (eK N b.Txs)) N 0=some (if(a10 b.Txs.length).any (c2 N b.Txs)=true then .ret 101 else .brk ()):=by
 have hb:=B.t.1
 refine aME (f:=fun m j (_:Unit)=>gE N b.Txs (rN 0 (eK N b.Txs)) m j) (fun _=>()) (c2 N b.Txs) 101 () (fun m j hj=> ?_) (fun m=> ?_) (by omega)
 ·obtain⟨x,hi,hx⟩:=(B.t.2 _ (a1M hj)).i
  have l9:jQ N b.Txs (rN 0 (eK N b.Txs)) (j:Int) b.Txs[j] N 0=some (if c2 N b.Txs j=true then .ret 101 else .brk ()):=by
   obtain⟨m,rfl⟩: ∃m,N=m+2:=⟨N-2,by omega⟩
   rw[show c2 (m+2) b.Txs j=decide ((j:Int)≤xO x.Prev.Tx 0 (eK (m+2) b.Txs)) by unfold c2;rw[a1Z hj];simp only[aD3 hN B hi]]
   generalize hM:rN 0 (eK (m+2) b.Txs)=M
   have e1:jQ (m+2) b.Txs M (j:Int) b.Txs[j] (m+1) 1=some (.brk ()):=by
    unfold jQ
    rw[hi];rfl
   unfold jQ
   rw[hi]
   simp only[a19]
   rw[if_pos (show decide ((0:Int)<((1:Nat):Int))=true from rfl),show aW [x] 0=some x from rfl]
   simp only[a1K,aV hx.p.1,wD,show a1R.wrap (0+1)=1 from rfl,e1]
   rw[←hM,aPv hx.p.1 (yQ _ _)]
   by_cases hp:0≤xO x.Prev.Tx 0 (eK (m+2) b.Txs)
   ·rw[decide_eq_true hp,if_pos rfl,aTU hx.p.1 (yQ _ _) hp]
    cases decide ((j:Int)≤xO x.Prev.Tx 0 (eK (m+2) b.Txs))<;>rfl
   rw[decide_eq_false hp,show decide ((j:Int)≤xO x.Prev.Tx 0 (eK (m+2) b.Txs))=false from decide_eq_false (by omega)];rfl
  show gE N b.Txs (rN 0 (eK N b.Txs)) (m+1) (j:Int)=if c2 N b.Txs j=true then some (.ret 101)else gE N b.Txs (rN 0 (eK N b.Txs)) m ((j+1:Nat):Int)
  rw[gE,if_pos (dT hj),bE _ hj]
  simp only[a1K,l9,aCZ,i1 (show j≤100000 by omega)]
  cases c2 N b.Txs j<;>rfl
 show gE N b.Txs (rN 0 (eK N b.Txs)) (m+1) (b.Txs.length:Int)=_
 rw[gE,if_neg (by simp)]
theorem aZV :aAI N b (eK N b.Txs)=some ((a10 b.Txs.length).any (c2 N b.Txs)):=by
 have hb:=B.t.1
 have l:e8 N b (eK N b.Txs) N 0=some (if(a10 b.Txs.length).any (c2 N b.Txs)=true then .ret true else .brk ()):=by
  refine aME (f:=fun m j (_:Unit)=>e8 N b (eK N b.Txs) m j) (fun _=>()) (c2 N b.Txs) true () (fun m j hj=> ?_) (fun m=> ?_) (by omega)
  ·obtain⟨x,hi,hx⟩:=(B.t.2 _ (a1M hj)).i
   have l4:lG N b (eK N b.Txs) (j:Int) b.Txs[j] N 0=some (if c2 N b.Txs j=true then .ret true else .brk ()):=by
    have hr:=aUr hN hx.p.1 (yQ N b.Txs) (by rw[aLd];omega)
    obtain⟨m,rfl⟩: ∃m,N=m+2:=⟨N-2,by omega⟩
    rw[show c2 (m+2) b.Txs j=decide ((j:Int)≤xO x.Prev.Tx 0 (eK (m+2) b.Txs)) by unfold c2;rw[a1Z hj];simp only[aD3 hN B hi]]
    generalize eK (m+2) b.Txs=M at hr⊢
    have e1:lG (m+2) b M (j:Int) b.Txs[j] (m+1) 1=some (.brk ()):=by
     unfold lG
     rw[hi];rfl
    unfold lG
    rw[hi]
    simp only[a19]
    rw[if_pos (show decide ((0:Int)<((1:Nat):Int))=true from rfl),show aW [x] 0=some x from rfl]
    simp only[a1K,aV hx.p.1,hr,show a1R.wrap (0+1)=1 from rfl,e1]
    cases decide ((j:Int)≤xO x.Prev.Tx 0 M)<;>rfl
   show e8 N b (eK N b.Txs) (m+1) (j:Int)=if c2 N b.Txs j=true then some (.ret true)else e8 N b (eK N b.Txs) m ((j+1:Nat):Int)
   rw[e8,if_pos (dT hj),bE _ hj]
   simp only[a1K,l4,aA1,i1 (show j≤100000 by omega)]
   cases c2 N b.Txs j<;>rfl
  show e8 N b (eK N b.Txs) (m+1) (b.Txs.length:Int)=_
  rw[e8,if_neg (by simp)]
 unfold aAI
 rw[l]
 cases (a10 b.Txs.length).any (c2 N b.Txs)<;>rfl
theorem aSa (k:aD)(hk:k.Tx.length=32): ∀(l:List aD),(∀o∈l,o.Tx.length=32)→
  (l.any (qD k)=true∧pC tY (l.map fun o=>(o,true)) k false=true)∨(l.any (qD k)=false∧kA tY (l.map fun o=>(o,true)) k=none)
 | [],_=> .inr ⟨rfl,rfl⟩
 |o::l,h=>by
  have hq:tY k o=qD k o:=aZn hk (h o (by simp))
  have ih:=aSa k hk l (fun y hy=>h y (by simp[hy]))
  unfold pC kA at *
  simp only[a2P,a2I,hq,List.any_cons]
  cases qD k o with
  |true=>exact .inl ⟨rfl,rfl⟩
  |false=>
   simp only[Bool.false_or,a1P,if_false]
   rcases ih with⟨h1,h2⟩|⟨h1,h2⟩
   ·refine .inl ⟨h1, ?_⟩
    revert h2
    cases List.findIdx? (fun e=>tY k e.fst) (l.map fun o=>(o,true)) with
    |none=>intro h2;cases h2
    |some i=>intro h2;simpa using h2
   exact .inr ⟨h1,by rw[h2];rfl⟩
theorem a1d :lR N b.Txs N 0 []=some (if(a10 b.Txs.length).any (c3 b.Txs)=true then .ret 91 else .brk ()):=by
 have hb:=B.t.1
 refine aME (f:=lR N b.Txs) (fun j=>((b.Txs.take j).map pv).map fun o=>(o,true)) (c3 b.Txs) 91 () (fun m j hj=> ?_) (fun m=> ?_) (by omega)
 ·obtain⟨x,hi,hx⟩:=(B.t.2 _ (a1M hj)).i
  have hp: ∀o∈(b.Txs.take j).map pv,o.Tx.length=32:=fun o ho=>by
   obtain⟨t,ht,rfl⟩:=a2d.1 ho
   obtain⟨y,hy,hy2⟩:=(B.t.2 _ (a2f ht)).i
   rw[aD3 hN B hy];exact hy2.p.1
  have hs:((b.Txs.take (j+1)).map pv).map (fun o=>(o,true))=(((b.Txs.take j).map pv).map fun o=>(o,true))++[(x.Prev,true)]:=by
   rw[a1X hj,a2g,a2g,a2u,a2u,aD3 hN B hi]
  rw[hs,show c3 b.Txs j=((b.Txs.take j).map pv).any (qD x.Prev) by unfold c3;rw[a1Z hj];simp only[aD3 hN B hi]]
  generalize (b.Txs.take j).map pv=S at hp⊢
  have l6:oJ N b.Txs (j:Int) b.Txs[j] N 0 (S.map fun o=>(o,true))=some (if S.any (qD x.Prev)=true then .ret 91 else .brk ((S.map fun o=>(o,true))++[(x.Prev,true)])):=by
   obtain⟨m,rfl⟩: ∃m,N=m+2:=⟨N-2,by omega⟩
   have e1: ∀s,oJ (m+2) b.Txs (j:Int) b.Txs[j] (m+1) 1 s=some (.brk s):=fun s=>by
    unfold oJ
    rw[hi];rfl
   unfold oJ
   rw[hi]
   simp only[a19]
   rw[if_pos (show decide ((0:Int)<((1:Nat):Int))=true from rfl),show aW [x] 0=some x from rfl]
   simp only[a1K,show a1R.wrap (0+1)=1 from rfl,e1]
   rcases aSa hN B x.Prev hx.p.1 S hp with⟨h1,h2⟩|⟨h1,h2⟩
   ·rw[h1,h2];rfl
   rw[h1]
   unfold pC aAa
   rw[h2];rfl
  rw[lR,if_pos (dT hj),bE _ hj]
  simp only[a1K,l6,aDj,i1 (show j≤100000 by omega)]
  cases S.any (qD x.Prev)<;>rfl
 rw[lR,if_neg (by simp)]
theorem aYS :aDS N b=some ((a10 b.Txs.length).any (c3 b.Txs)):=by
 have hb:=B.t.1
 have l:lB N b N 0 []=some (if(a10 b.Txs.length).any (c3 b.Txs)=true then .ret true else .brk ()):=by
  refine aME (f:=lB N b) (fun j=>(b.Txs.take j).map pv) (c3 b.Txs) true () (fun m j hj=> ?_) (fun m=> ?_) (by omega)
  ·obtain⟨x,hi,hx⟩:=(B.t.2 _ (a1M hj)).i
   have hp: ∀o∈(b.Txs.take j).map pv,o.Tx.length=32:=fun o ho=>by
    obtain⟨t,ht,rfl⟩:=a2d.1 ho
    obtain⟨y,hy,hy2⟩:=(B.t.2 _ (a2f ht)).i
    rw[aD3 hN B hy];exact hy2.p.1
   have hs:(b.Txs.take (j+1)).map pv=(b.Txs.take j).map pv++[x.Prev]:=by
    rw[a1X hj,a2g,a2u,aD3 hN B hi]
   have hl:((b.Txs.take j).map pv).length≤10:=by rw[List.length_map,a2z];omega
   rw[hs,show c3 b.Txs j=((b.Txs.take j).map pv).any (qD x.Prev) by unfold c3;rw[a1Z hj];simp only[aD3 hN B hi]]
   generalize (b.Txs.take j).map pv=S at hp hl⊢
   have l4:jY N b (j:Int) b.Txs[j] N 0 S=some (if S.any (qD x.Prev)=true then .ret true else .brk (S++[x.Prev])):=by
    have l7:oD N b (j:Int) b.Txs[j] 0 S x N 0=some (if S.any (qD x.Prev)=true then .ret true else .brk ()):=by
     have:=xM (f:=oD N b (j:Int) b.Txs[j] 0 S x) (xs:=S) (p:=fun o=> !qD x.Prev o) (r:=true) (fun m i hi=>by
      rw[oD,dT hi,if_pos rfl,bE S hi]
      simp only[a1K,i1 (show i≤100000 by omega)]
      rw[show iU S[i].Tx x.Prev.Tx ((S[i].Index == x.Prev.Index)&&true)=qD x.Prev S[i] by rw[aRL];exact eqP (hp _ (a1M hi)) hx.p.1]
      cases qD x.Prev S[i]<;>rfl) (fun m i hi=>by rw[oD,dF (by omega)];rfl) N 0 (by omega) (by omega)
     rw[show((0:Nat):Int)=0 from rfl,a1S]at this
     rw[this,List.all_eq_not_any_not]
     simp only[Bool.not_not]
     cases S.any (qD x.Prev)<;>rfl
    obtain⟨m,rfl⟩: ∃m,N=m+2:=⟨N-2,by omega⟩
    have e1: ∀s,jY (m+2) b (j:Int) b.Txs[j] (m+1) 1 s=some (.brk s):=fun s=>by
     unfold jY
     rw[hi];rfl
    unfold jY
    rw[hi]
    simp only[a19]
    rw[if_pos (show decide ((0:Int)<((1:Nat):Int))=true from rfl),show aW [x] 0=some x from rfl]
    simp only[a1K,show a1R.wrap (0+1)=1 from rfl,l7,aDi,aC2]
    cases S.any (qD x.Prev)
    ·simp only[a1P,if_false]
     rw[eF (by omega) (by simp;omega)]
     simp only[a1K,e1]
    rfl
   rw[lB,if_pos (dT hj),bE _ hj]
   simp only[a1K,l4,aDr,i1 (show j≤100000 by omega)]
   cases S.any (qD x.Prev)<;>rfl
  rw[lB,if_neg (by simp)]
 unfold aDS
 rw[l]
 cases (a10 b.Txs.length).any (c3 b.Txs)<;>rfl
theorem aQM : ∀(m:Nat)(i:Int),sJ N b m i=jW N b m i
 |0,_=>rfl
 |m+1,i=>by
  unfold sJ jW
  exact gW (aBl fun t ht=>eO (by rw[aSp hN (B.t.2 t ht),aLD hN (B.t.2 t ht)]) fun _=>gW rfl (aQM m _)) rfl
theorem aQF : ∀(m:Nat)(i:Int),yL N b m i=dX N b m i
 |0,_=>rfl
 |m+1,i=>by
  unfold yL dX
  exact gW (aBl fun t ht=>eO aJz fun _=>gW rfl (aQF m _)) rfl
theorem aUz :aD4 N b=iE N b:=by
 have j2:zI N b=tE N b:=by
  unfold zI tE aH0
  rw[a1x hN B,aZp hN B]
  cases (a10 b.Txs.length).any (c1 N b.Txs)
  ·simp only[a1P,if_false,a1K]
   unfold aCT aDe aC3 tG
   rw[a1g hN B,aZV hN B,a1d hN B,aYS hN B,aIF (yQ _ _),aYk hN B.t]
   simp only[a1K]
   cases (a10 b.Txs.length).any (c2 N b.Txs)
   ·cases (a10 b.Txs.length).any (c3 b.Txs)<;>rfl
   rfl
  rfl
 unfold aD4 iE aDh sE
 obtain⟨e,he⟩:=aXD hN B
 rw[he,aLQ hN B,j2]
 simp only[a1K]
 cases aKS b
 ·rfl
 simp only[if_true,a2e,a1P,if_false]
 rw[if_neg (by simp)]
 refine gW rfl ?_
 rw[aQF hN B]
 refine eO rfl fun q=> ?_
 cases q
 ·show(sJ N b N 0).bind _=(jW N b N 0).bind _
  rw[aQM hN B]
 rfl
end
def mN (k k':Int):Bool:=(iL [k]).toList == (iL [k']).toList
theorem aYz (M:Nat)(k:Int):aGn (M+100) [1,1,k,5]=some (tU k,0):=by rfl
theorem a0f (M:Nat)(k:Int):aAL (M+100) (tU k)=some true:=by rfl
theorem aYy (M:Nat)(k:Int):y6 (M+100) [[k]]=some true:=by rfl
theorem aXo (M:Nat)(k:Int):nI (M+100) [[k]]=some [[k]]:=by rfl
theorem aZ2 (M:Nat)(k:Int)(v:cI):aCp (M+100) [1,1,k,5] [] v=some ([],0,81):=by rfl
theorem aY5 (M:Nat)(k k':Int)(v:cI)(c:Int):nS (M+100) v [[k'],[k]] [] c ⟨5,[],0,0⟩=some (0,[if mN k k' then [1]else []]):=by
 have h:aD0 (M+100) [k] [k']=some (mN k k'):=rfl
 show((aD0 (M+100) [k] [k']).bind fun x79=>(aHY (M+100) x79).bind fun x80=>(rT (M+100) v [[k'],[k]] [] c 2 x80).bind fun x81=>some (0,x81))=_
 rw[h]
 cases mN k k'<;>rfl
theorem a0D (M:Nat)(k k':Int)(v:cI):pY (M+100) v [[k'],[k]] [] 1 ⟨5,[],0,0⟩=some (0,[if mN k k' then [1]else []],2):=by
 show((nS (M+100) v [[k'],[k]] [] 2 ⟨5,[],0,0⟩).bind fun x64=>some (x64.1,x64.2,2))=_
 rw[aY5];rfl
theorem aY4 (M:Nat)(k k':Int)(v:cI):mZ (M+100) v (tU k,0) (M+100) 0 0 [[k']]=(pY (M+100) v [[k'],[k]] [] 1 ⟨5,[],0,0⟩).bind fun x40=>
  if x40.1 != 0 then some (.ret ([],0,x40.1))else mZ (M+100) v (tU k,0) (M+98) 2 x40.2.2 x40.2.1:=by rfl
theorem a1F (M:Nat)(k:Int)(v:cI)(t:Bool):mZ (M+100) v (tU k,0) (M+98) 2 2 [if t then [1]else []]=some (.brk (2,[if t then [1]else []])):=by rfl
theorem a0v (M:Nat)(t:Bool):nI (M+100) [if t then [1]else []]=some [if t then [1]else []]:=by cases t<;>rfl
theorem a0l (M:Nat)(t:Bool):aBs (M+100) (if t then [1]else [])=some t:=by cases t<;>rfl
theorem a0T (M:Nat)(k k':Int)(v:cI):lO (M+100) [1,1,k,5] [[k']] v=some (if mN k k' then 0 else 84):=by
 have e:aCp (M+100) [1,1,k,5] [[k']] v=some ([if mN k k' then [1]else []],2,0):=by
  unfold aCp
  rw[aYz]
  show((aAL (M+100) (tU k)).bind fun x27=>_)=_
  rw[a0f]
  show((y6 (M+100) [[k']]).bind fun x30=>_)=_
  rw[aYy]
  show((nI (M+100) [[k']]).bind fun x32=>_)=_
  rw[aXo]
  show((mZ (M+100) v (tU k,0) (M+100) 0 0 [[k']]).bind fun q=>_)=_
  rw[aY4,a0D]
  show((mZ (M+100) v (tU k,0) (M+98) 2 2 [if mN k k' then [1]else []]).bind fun q=>_)=_
  rw[a1F]
  show((nI (M+100) [if mN k k' then [1]else []]).bind fun x47=>_)=_
  rw[a0v]
  rfl
 unfold lO
 rw[e]
 show((aBs (M+100) (if mN k k' then [1]else [])).bind fun x30=>_)=_
 rw[a0l]
 cases mN k k'<;>rfl
theorem a1y (M:Nat)(k k':Int)(v:cI):fO (M+100) [1,1,k,5] [[k']] v=some (if mN k k' then 0 else 84):=by
 have ht:aCk (M+100) ⟨5,[],0,0⟩ [[k'],[k]] v=some ([if mN k k' then [1]else []],0):=by
  have hc:mN k k'=((iL [k']).toList == (iL [k]).toList):=by
   unfold mN
   rw[a2t]
   simp only[beq_iff_eq]
   exact eq_comm
  have h:q9 (M+100) [k'] [k]=some (mN k k'):=by rw[hc];rfl
  generalize mN k k'=t at h⊢
  show((q9 (M+100) [k'] [k]).bind fun x84=>(aDZ (M+100) x84).bind fun x85=>(b6 24 [] [x85]).bind fun x87=>some (x87,0))=_
  rw[h]
  cases t<;>rfl
 have e:yB (M+100) [1,1,k,5] [[k']] v=some ([if mN k k' then [1]else []],2,0):=by
  unfold yB
  rw[aOZ]
  show((xB (M+100) (tU k)).bind fun x27=>_)=_
  rw[aQ3]
  show((aBG (M+100) [[k']]).bind fun x30=>_)=_
  rw[aRH]
  show((wX (M+100) [[k']]).bind fun x32=>_)=_
  rw[aNn]
  show((kJ (M+100) v (tU k,0) (M+100) [[k']] 0 0).bind fun q=>_)=_
  rw[aPd,ht]
  show((kJ (M+100) v (tU k,0) (M+98) [if mN k k' then [1]else []] 2 2).bind fun q=>_)=_
  rw[aSH]
  rfl
 unfold fO
 rw[e]
 show((aCb (M+100) (if mN k k' then [1]else [])).bind fun x30=>_)=_
 rw[aQZ]
 cases mN k k'<;>rfl
section
variable {N:Nat}(hN:70000≤N)
include hN
theorem aZZ {s:List Int}(hs:ScrK s){w:List (List Int)}(hw:w=[]∨ ∃k:Nat,k≤255∧w=[[(k:Int)]])(v v':cI): ∃e,lO N s w v=some e∧fO N s w v'=some e:=by
 obtain⟨k,_,_,rfl⟩:=hs
 obtain⟨M,rfl⟩: ∃M,N=M+100:=⟨N-100,by omega⟩
 rcases hw with rfl|⟨k',_,rfl⟩
 ·refine⟨81, ?_, ?_⟩
  ·unfold lO
   rw[aZ2];rfl
  unfold fO
  rw[aRF];rfl
 exact⟨_,a0T M k k' v,a1y M k k' v'⟩
theorem aPu (v:Int):pS N v=some (nU v):=by
 simp only[pS,aH3 N hN [] v (by simp),a1K,a1O]
theorem aYP (l:List (List Int))(hn:l.length≤1000)(ht:l.flatten.length≤50000000):aEi N l=some l.flatten:=by
 have:=aRl (f:=wZ N l) l hn ht (fun m j acc hj hB=>by
  rw[wZ,dT hj,if_pos rfl,bE l hj,a1K,jM (by omega)]
  simp only[a1K,i1 (show j≤100000 by omega)]) (fun m j acc hj=>by rw[wZ,dF (by omega)];rfl) N hN
 unfold aEi
 rw[this];rfl
theorem aPa (o:aI)(h:o.Script.length≤600):wW N o=some (rJ o):=by
 have:=jS o.Script.length
 simp only[wW,aZC N hN [] _ (show([]:List Int).length≤40000000 by simp),aQH N hN [] _ (show o.Script.length≤1000000 by omega) (by simp),a1K,a1O]
 rw[aYP hN _ (by simp) (by simp[aFU];omega)]
 simp only[a1K,a2l,a2n,a2k,rJ]
theorem aKP (b:List Int)(hb:Byt b)(hl:b.length≤1000000):tF N b=some (sha256 N b):=by
 simp only[tF,aIt N hN b hb hl,a1K,aV (dA N b)]
theorem aVk {t:aB}(T:TxK t):aFe N t=some (aCx t):=by
 simp only[aFe,aOx N hN T,a1K,aCx]
 cases nD t.Version t.Inputs t.Outputs t.Lock<;>rfl
theorem aR9 {t:aB}(T:TxM t){o:aI}(O:OutP o):Ok (uX N t 0 o) fun r=>r.1.length=32∧r.2=if aCx t=true then 0 else 4:=by
 obtain⟨x,hi,hx,hl⟩:=xW T
 have hno:=T.n
 have hol:=O.1.len
 have z:([0,0,0,0,0,0,0,0,0,0,0,0,0,0,0,0,0,0,0,0,0,0,0,0,0,0,0,0,0,0,0,0]:List Int).length=32:=rfl
 have ho:(rJ o).length≤613:=aIv (by omega)
 have hob:Byt (rJ o):=(yH _ _).append ((zL _).append O.1.byt)
 have j4: ∀a b c:List Int,(Byt a∧a.length≤10000)→(Byt b∧b.length≤10000)→(Byt c∧c.length≤10000)→Ok (pU N t 0 o a b c) fun r=>r.1.length=32∧r.2=0:=by
  intro a b c ha hb hc
  unfold pU
  simp only[aPu hN,aKP hN _ ha.1 (show a.length≤1000000 by omega),aKP hN _ hb.1 (show b.length≤1000000 by omega),aKP hN _ hc.1 (show c.length≤1000000 by omega),aPa hN o (by omega),a1K]
  rw[aYP hN _ (by simp) (by simp[b5,dA];omega)]
  simp only[a1K]
  rw[aUb N hN _ (by decide) _ ?_ (by simp[b5,dA];omega)]
  ·exact Ok.eq (aV (aFv _ _ _)) (Ok.pure ⟨aFv _ _ _,rfl⟩)
  intro y hy
  simp only[a2l,a2n,a2k,a11]at hy
  rcases hy with hy|hy|hy|hy|hy|hy|hy
  ·exact gO _ y hy
  ·exact gR _ _ y hy
  ·exact gR _ _ y hy
  ·exact gR _ _ y hy
  ·exact gO _ y hy
  ·exact gO _ y hy
  exact hob y hy
 have j3: ∀a b:List Int,(Byt a∧a.length≤10000)→(Byt b∧b.length≤10000)→Ok (oW N t 0 o a b) fun r=>r.1.length=32∧r.2=0:=by
  intro a b ha hb
  unfold oW
  refine Ok.bind (P:=fun c=>Byt c∧c.length≤10000) ?_ fun c hc=>j4 a b c ha hb hc
  refine lp (f:=fun m j s=>pN N t 0 o a b m (j:Int) s) (fun j s=>Byt s∧s.length≤613*j) t.Outputs.length (fun m j s hj hs ih=> ?_) (fun m s hs=> ?_) N 0 [] (by omega) (by omega) ⟨aDp,by simp⟩
  ·unfold pN
   have O2:=T.o _ (a1M hj)
   have h2:(rJ t.Outputs[j]).length≤613:=aIv (by have:=O2.1.len;omega)
   have hb2:Byt (rJ t.Outputs[j]):=(yH _ _).append ((zL _).append O2.1.byt)
   rw[if_pos (dT hj),i1 (by omega)]
   exact Ok.eq (bE _ hj) (Ok.eq (aPa hN _ (by have:=O2.1.len;omega)) (Ok.eq (jM (by omega)) (ih _ ⟨hs.1.append hb2,by rw[a1L];omega⟩)))
  unfold pN
  rw[if_neg (by simp)]
  exact Ok.pure ⟨hs.1,by omega⟩
 have j2:Ok (lJ N t 0 o false) fun r=>r.1.length=32∧r.2=0:=by
  unfold lJ
  refine Ok.ite (fun h=>by cases h) fun _=> ?_
  refine Ok.bind (P:=fun s=>(Byt s.1∧s.1.length≤10000)∧Byt s.2∧s.2.length≤10000) ?_ fun s hs=>j3 _ _ hs.1 hs.2
  have:=lp (f:=fun m j (s:List Int×List Int)=>pP N t 0 o m (j:Int) s.1 s.2) (Q:=fun s=>(Byt s.1∧s.1.length≤10000)∧Byt s.2∧s.2.length≤10000) (fun j s=>(Byt s.1∧s.1.length≤40*j)∧Byt s.2∧s.2.length≤40*j) t.Inputs.length (fun m j s hj hs ih=> ?_) (fun m s hs=> ?_) N 0 ([],[]) (by omega) (by omega) ⟨⟨aDp,by simp⟩,aDp,by simp⟩
  ·exact this
  ·unfold pP
   rw[if_pos (dT hj),i1 (by omega)]
   refine Ok.eq (bE _ hj) ?_
   rw[aRE hi hj]
   refine Ok.eq (aTx N hN _ hx.p.1) (Ok.eq (jM ?_) (Ok.eq (aPu hN _) (Ok.eq (jM ?_) (ih (_,_) ⟨⟨hs.1.1.append (hx.p.2.append (gO _)), ?_⟩,hs.2.1.append (gO _), ?_⟩))))
   ·have:=hs.1.2;simp only[a1L,b5,hx.p.1];omega
   ·have:=hs.2.2;rw[b5];omega
   ·have:=hs.1.2;simp only[a1L,b5,hx.p.1];omega
   have:=hs.2.2;simp only[a1L,b5];omega
  unfold pP
  rw[if_neg (by simp)]
  exact Ok.pure ⟨⟨hs.1.1,by have:=hs.1.2;simp only;omega⟩,hs.2.1,by have:=hs.2.2;simp only;omega⟩
 unfold uX
 refine Ok.eq (aVk hN T.k) ?_
 cases aCx t with
 |false=>exact Ok.pure ⟨z,rfl⟩
 |true=>
  unfold lS
  refine Ok.ite (fun h=>by cases h) fun _=>Ok.ite (fun h=> ?_) fun _=> ?_
  ·have h1:=of_decide_eq_true h;have h2:=O.2.1;omega
  rw[if_neg (by simp;omega),if_neg (by simp),show decide ((t.Inputs.length:Int)≤0)=false from decide_eq_false (by omega)]
  exact j2
end
theorem aT7 {N:Nat}{t:aB}{l:List aA}: ∀(m:Nat)(j:Int),aCm N t l m j=i8 N t l m j
 |0,_=>rfl
 |m+1,j=>by simp only[aCm,i8,aT7 m]
theorem aTX {N:Nat}{t:aB}: ∀(m:Nat)(s j:Int),xE N t m s j=jE N t m s j
 |0,_,_=>rfl
 |m+1,s,j=>by simp only[xE,jE,aTX m]
theorem aXO {α:Type}{c:α}{j:Int}(h:j≠0):aW [c] j=none:=by
 unfold aW
 split
 ·rw[a2V (by simp;omega)]
 rfl
section
variable {N:Nat}(hN:70000≤N)
include hN
theorem a04 {c:aA}(C:CoinM c):aHl N [c]=some (c.Output.Value,true):=by
 have h:=C.p.2
 obtain⟨m,rfl⟩: ∃m,N=m+2:=⟨N-2,by omega⟩
 have e1: ∀s,l8 (m+2) [c] (m+1) s 1=some (.brk s):=fun s=>by unfold l8;rfl
 unfold aHl
 have e:l8 (m+2) [c] (m+2) 0 0=some (.brk c.Output.Value):=by
  rw[l8,if_pos (show decide ((0:Int)<(([c].length:Nat):Int))=true from rfl),show aW [c] 0=some c from rfl]
  simp only[a1K,aB7]
  rw[if_neg (by simp only[decide_eq_true_eq];omega),show decide (a1R.wrap (2100000000000000-0)<c.Output.Value)=false from decide_eq_false (by rw[w64 (by omega) (by omega)];omega)]
  rw[if_neg (by simp),show a1R.wrap (0+1)=1 from rfl,e1,w64 (by omega) (by omega),Int.zero_add]
 rw[e];rfl
theorem aZM {t:aB}{c:aA}(C:CoinM c):f9 N t [c] N 0 0=some (.brk c.Output.Value):=by
 have h:=C.p.2
 obtain⟨m,rfl⟩: ∃m,N=m+2:=⟨N-2,by omega⟩
 have e1: ∀s,f9 (m+2) t [c] (m+1) s 1=some (.brk s):=fun s=>by unfold f9;rfl
 rw[f9,if_pos (show decide ((0:Int)<(([c].length:Nat):Int))=true from rfl),show aW [c] 0=some c from rfl]
 simp only[a1K,sU]
 rw[if_neg (by simp only[decide_eq_true_eq];omega),if_neg (by simp only[decide_eq_true_eq];omega),show a1R.wrap (0+1)=1 from rfl,e1,w64 (by omega) (by omega),Int.zero_add]
theorem a0k {t:aB}(T:TxM t){c:aA}(C:CoinM c):aHa N t [c]=tI N t [c]:=by
 have h:=C.p.2
 unfold aHa tI
 rw[aSp hN T,aLD hN T]
 refine eO rfl fun e=>gW rfl (gW rfl ?_)
 rw[aT7]
 refine eO rfl fun q=> ?_
 cases q with
 |ret v=>rfl
 |brk s=>
  show aBu N t [c]=tC N t [c]
  unfold aBu tC
  rw[a04 hN C,aZM hN C]
  show(xE N t N c.Output.Value 0).bind _=pO N t c.Output.Value
  unfold pO
  rw[if_neg (by simp only[decide_eq_true_eq];omega),aTX]
  rfl
theorem aXh {t:aB}(T:TxM t){c:aA}(C:CoinM c){h:Int}:aDN N t 0 c h=vE N t 0 c h:=by
 obtain⟨x,hx,hm,hl⟩:=xW T
 obtain⟨q,e1,a1,a2⟩:=aR9 hN T C.p
 obtain⟨q',e2,b1,b2⟩:=aL1 hN T (i:=0) C.p
 have e3:q.2=q'.2:=a2.trans (b2 rfl).symm
 unfold aDN vE
 rw[e1,e2]
 simp only[a1K,aV a1,aV b1,e3]
 refine gW rfl (aBl fun y hy=>gW rfl ?_)
 have j: ∀b,oG N t 0 c h q b=jT N t 0 c h q' b:=fun b=>by
  unfold oG jT
  refine gW rfl (aBl fun z hz=> ?_)
  rw[hx]at hz
  obtain rfl:=a1T.1 hz
  obtain⟨e,h1,h2⟩:=aZZ hN C.p.1 hm.w (cI.mk q.1 h (a1R.wrap (h-c.Height))) (cI.mk q'.1 h (a1R.wrap (h-c.Height)))
  rw[h1,h2]
 simp only[j]
 generalize decide (c.Height<0)=b1
 generalize decide (h<c.Height)=b2
 generalize decide ((16777216:Int)<h)=b3
 cases b1<;>cases b2<;>cases b3<;>rfl
theorem aTC {t:aB}(T:TxM t){c:aA}(C:CoinM c){h:Int}:aDT N t [c] h=kD N t [c] h:=by
 have l2: ∀(x:Int×Int)(m:Nat)(j:Int),zK N t [c] h x m j=gF N t [c] h x m j:=by
  intro x m
  induction m with
  |zero=>intro j;rfl
  |succ m ih=>
   intro j
   unfold zK gF
   refine gW ?_ rfl
   by_cases hj:j=0
   ·subst hj
    exact aBl fun y hy=>by
     obtain rfl:=a1T.1 hy
     exact eO (aXh hN T C) fun e=>gW rfl (ih _)
   rw[aXO hj];rfl
 unfold aDT kD
 rw[aJz,a0k hN T C,aSG]
 refine eO rfl fun _=>gW rfl (eO rfl fun x=>gW rfl (eO rfl fun _=>gW rfl ?_))
 rw[l2]
 refine eO rfl fun q=> ?_
 cases q<;>rfl
end
structure MapR (l:List (aD×aA))(cs:List aA):Prop where
 k: ∀e∈l,e.1=e.2.Out
 p:(l.map Prod.snd).Perm cs
theorem aV0 {cs:List aA}(hs:Srt cs){a b:aA}(ha:a∈cs)(hb:b∈cs)(e:a.Out=b.Out):a=b:=by
 obtain⟨i,hi,rfl⟩:=a27 ha
 obtain⟨j,hj,rfl⟩:=a27 hb
 rcases Nat.lt_trichotomy i j with h|h|h
 ·have:=a2K.1 hs i j hi hj h
  rw[e,wV]at this;omega
 ·subst h;rfl
 have:=a2K.1 hs j i hj hi h
 rw[e,wV]at this;omega
theorem aJp {α:Type}: ∀{l:List α}{i:Nat}(h:i<l.length),(l[i]::l.eraseIdx i).Perm l
 |x::l,0,_=>a2L _
 |x::l,i+1,h=>(a3g x _ _).trans ((aJp (l:=l) (i:=i) (by simpa using h)).cons x)
theorem aJj : ∀{a b:List aA},Srt a→Srt b→a.Perm b→a=b
 | [],b,_,_,p=>p.nil_eq
 |x::a,[],_,_,p=>absurd p.symm.nil_eq (by simp)
 |x::a,y::b,ha,hb,p=>by
  obtain⟨a1,a2⟩:=a15.1 ha
  obtain⟨b1,b2⟩:=a15.1 hb
  have hx:x∈y::b:=p.mem_iff.1 (by simp)
  have hy:y∈x::a:=p.mem_iff.2 (by simp)
  have e:x=y:=by
   rcases a14.1 hx with e|hx
   ·exact e
   rcases a14.1 hy with e|hy
   ·exact e.symm
   have h1:=a1 y hy
   have h2:=b1 x hx
   rw[mH]at h2
   omega
  subst e
  rw[aJj a2 b2 p.cons_inv]
theorem aK2 {c:aA}: ∀{l:List aA},(k9 c l).Perm (c::l)
 | []=>a2L _
 |d::ds=>by
  unfold k9
  split
  ·exact((aK2 (l:=ds)).cons d).trans (a3g c d ds)
  exact a2L _
theorem aIc : ∀(m:List aA),(∀c∈m,zT c.Out)→(m.Pairwise fun a b=>eY a.Out b.Out≠0)→Srt (m.foldr k9 [])∧(m.foldr k9 []).Perm m
 | [],_,_=>⟨a2O,a2L _⟩
 |c::m,ho,hp=>by
  obtain⟨h1,h2⟩:=a15.1 hp
  obtain⟨i1,i2⟩:=aIc m (fun d hd=>ho d (by simp[hd])) h2
  rw[List.foldr_cons]
  exact⟨aMC (ho c (by simp)) (fun d hd=>ho d (by simp[i2.mem_iff.1 hd])) i1 fun d hd=>by rw[mH];have:=h1 d (i2.mem_iff.1 hd);omega,aK2.trans (i2.cons c)⟩
theorem a0o {n:Nat}{cs:List aA}(K:CsW n cs)(hn:n≤1000){m:List aA}(p:m.Perm cs):lY m=some cs:=by
 have hl:=p.length_eq
 have hk:=K.n
 have ne:m.Pairwise fun a b=>eY a.Out b.Out≠0:=by
  have sym: ∀{a b:aA},eY a.Out b.Out≠0→eY b.Out a.Out≠0:=fun h=>by rw[mH];omega
  exact(p.pairwise_iff sym).2 (K.s.imp fun h=>by omega)
 have ho: ∀c∈m,zT c.Out:=fun c hc=>K.ok c (p.mem_iff.1 hc)
 obtain⟨g1,g2⟩:=aIc m ho ne
 have ok: ∀c∈m,aJy c.Out=true:=fun c hc=>by
  have:=ho c hc
  unfold aJy
  rw[decide_eq_true this.1,a18,a2S]
  exact fun x hx=>decide_eq_true (this.2 x hx)
 unfold lY
 rw[if_pos ⟨by omega,ok,ne⟩,aJj g1 K.s (g2.trans p)]
theorem aRw {h:Int}{n:Nat}{cs:List aA}(K:CsK h n cs)(hn:n≤1000){m:List aA}(p:m.Perm cs):lY m=some cs:=a0o K.w hn p
section
variable {h:Int}{n:Nat}{cs:List aA}(K:CsK h n cs){l:List (aD×aA)}(R:MapR l cs)
include K R
theorem aNR {o:aD}(ho:zT o):
  (fI o 0 cs= -1∧kA iW l o=none∧ ∀c∈cs,eY c.Out o≠0)∨
  ∃(k:Nat)(hk:k<cs.length)(i:Nat)(hi:i<l.length),fI o 0 cs=(k:Int)∧kA iW l o=some i∧l[i].2=cs[k]∧cs[k].Out=o:=by
 have hm: ∀e∈l,e.2∈cs:=fun e he=>R.p.mem_iff.1 (a2d.2 ⟨e,he,rfl⟩)
 have hq: ∀e∈l,iW o e.1=decide (eY o e.2.Out=0):=fun e he=>by
  rw[R.k e he]
  exact eqP ho.1 (K.ok _ (hm e he)).1
 rcases aMM o cs 0 with⟨h1,h2⟩|⟨k,hk,h1,h2⟩
 ·refine .inl ⟨h1, ?_,h2⟩
  unfold kA
  rw[a2M]
  intro e he
  rw[hq e he]
  have:=h2 _ (hm e he)
  rw[mH]at this
  exact decide_eq_false (by omega)
 have e1:cs[k].Out=o:=aBf (K.ok _ (a1M hk)).1 ho.1 h2
 obtain⟨e,he,e2⟩:=a2d.1 (R.p.mem_iff.2 (a1M hk))
 cases hf:kA iW l o with
 |none=>
  unfold kA at hf
  rw[a2M]at hf
  have:=hf e he
  rw[hq e he,e2,e1,wV]at this
  exact absurd this (by decide)
 |some i=>
  obtain⟨hi,hp,_⟩:=List.findIdx?_eq_some_iff_getElem.1 hf
  rw[hq _ (a1M hi)]at hp
  have e3:=aBf ho.1 (K.ok _ (hm _ (a1M hi))).1 (of_decide_eq_true hp)
  exact .inr ⟨k,hk,i,hi,by rw[h1];omega,rfl,aV0 K.s (hm _ (a1M hi)) (a1M hk) (by rw[←e3,e1]),e1⟩
theorem MapR.del {k i:Nat}(hk:k<cs.length)(hi:i<l.length)(e:l[i].2=cs[k]):MapR (l.eraseIdx i) (cs.eraseIdx k):=by
 refine⟨fun e he=>R.k e (List.mem_of_mem_eraseIdx he), ?_⟩
 have a:=(aJp hi).map Prod.snd
 rw[a2P,e]at a
 exact List.Perm.cons_inv (a.trans (R.p.trans (aJp hk).symm))
theorem CsK.del {k:Nat}:CsK h n (cs.eraseIdx k):=by
 have sl:=List.eraseIdx_sublist cs k
 exact⟨a2G sl.length_le K.n,fun c hc=>K.c c (sl.subset hc),List.Pairwise.sublist sl K.s⟩
theorem MapR.put {c:aA}:MapR (l++[(c.Out,c)]) (k9 c cs):=by
 refine⟨fun e he=> ?_, ?_⟩
 ·rcases a11.1 he with he|he
  ·exact R.k e he
  obtain rfl:=a1T.1 he;rfl
 rw[a2g,a2u]
 exact((R.p.append_right _).trans List.perm_append_comm).trans aK2.symm
end
def lQ :List aI→Int
 | []=>0
 |o::os=>o.Value+lQ os
theorem aYX {os:List aI}(h: ∀o∈os,OutP o):0≤lQ os∧lQ os≤3000*os.length:=by
 induction os with
 |nil=>simp[lQ]
 |cons o os ih=>
  have:=ih fun x hx=>h x (by simp[hx])
  have:=(h o (by simp)).2
  simp only[lQ,a1Y]
  omega
theorem aXm {os:List aI}(h: ∀o∈os,0≤o.Value):0≤lQ os∧ ∀o∈os,o.Value≤lQ os:=by
 induction os with
 |nil=>simp[lQ]
 |cons o os ih=>
  have i:=ih fun x hx=>h x (by simp[hx])
  have:=h o (by simp)
  simp only[lQ]
  refine⟨by omega,fun x hx=> ?_⟩
  rcases a14.1 hx with rfl|hx
  ·omega
  have:=i.2 x hx;omega
theorem aZS {cs:List aA}(h: ∀c∈cs,CoinM c):0≤uN cs∧uN cs≤3000*cs.length:=by
 induction cs with
 |nil=>simp[uN]
 |cons c cs ih=>
  have:=ih fun x hx=>h x (by simp[hx])
  have:=(h c (by simp)).p.2
  simp only[uN,a1Y]
  omega
def yP (id:List Int)(h:Int)(cb:Bool):Nat→List aI→List aA
 |_,[]=>[]
 |i,o::os=>⟨⟨id,(i:Int)⟩,o,h,cb⟩::yP id h cb (i+1) os
theorem aPc {id:List Int}{h:Int}{cb:Bool}: ∀(i:Nat)(os:List aI),uN (yP id h cb i os)=lQ os
 |_,[]=>rfl
 |i,o::os=>by simp only[yP,uN,lQ,aPc]
theorem aKt {id:List Int}{h:Int}{cb:Bool}: ∀(i:Nat)(os:List aI),(yP id h cb i os).length=os.length
 |_,[]=>rfl
 |i,o::os=>by simp only[yP,a1Y,aKt]
theorem aKY {id:List Int}{h:Int}{cb:Bool}: ∀(i:Nat)(os:List aI){c:aA},c∈yP id h cb i os→c.Out.Tx=id∧(i:Int)≤c.Out.Index∧c.Output∈os∧c.Height=h
 |_,[],c,hc=>by simp[yP]at hc
 |i,o::os,c,hc=>by
  rcases a14.1 hc with rfl|hc
  ·exact⟨rfl,Int.le_refl _,by simp,rfl⟩
  obtain⟨h1,h2,h3,h4⟩:=aKY (i+1) os hc
  exact⟨h1,by omega,by simp[h3],h4⟩
theorem aRN {id:List Int}{h:Int}{cb:Bool}: ∀(i:Nat)(os:List aI),(yP id h cb i os).Pairwise fun a b=>a.Out≠b.Out
 |_,[]=>a2O
 |i,o::os=>a15.2 ⟨fun c hc e=>by
   have:=(aKY (i+1) os hc).2.1
   rw[←e]at this
   simp only at this
   omega,aRN (i+1) os⟩
def mT (N:Nat)(t:aB)(h:Int)(cb:Bool):List aA:=yP (dig N t false) h cb 0 t.Outputs
section
variable {N:Nat}(hN:70000≤N)
include hN
theorem aSn {t:aB}(T:TxP t){h:Int}{cb:Bool}{c:aA}(hc:c∈mT N t h cb):CoinM c∧c.Height=h:=by
 obtain⟨h1,_,h3,h4⟩:=aKY 0 t.Outputs hc
 have hd:=aK6 (t:=t) N false
 exact⟨⟨⟨by rw[h1];exact hd.1,by rw[h1];exact hd.2⟩,T.p _ h3⟩,h4⟩
theorem aNr {t:aB}(T:TxM t){h:Int}{cb:Bool}(hcb:c5 N t=some cb){id:List Int}: ∀(m j:Nat)(acc:List aA),t.Outputs.length-j<m→j≤t.Outputs.length→acc.length≤10+j→
  uF N t h id m (j:Int) acc=some (acc++yP id h cb j (t.Outputs.drop j))
 |0,j,_,hm,_,_=>by omega
 |m+1,j,acc,hm,hj,ha=>by
  have hno:=T.n
  rw[uF]
  by_cases hl:j<t.Outputs.length
  ·rw[if_pos (dT hl),bE _ hl,a1Q hl,aJb j (by omega)]
   simp only[a1K,hcb]
   rw[eF (by omega) (by simp;omega),i1 (by omega)]
   simp only[a1K]
   rw[aNr T hcb m (j+1) _ (by omega) (by omega) (by simp;omega),a1U]
   rfl
  rw[if_neg (by simp;omega),a1V (by omega)]
  simp[yP]
theorem aMz {t:aB}(T:TxM t){h:Int}{cb:Bool}(hcb:c5 N t=some cb):qM N t h=some (mT N t h cb):=by
 have l:=aNr hN T (h:=h) hcb (id:=dig N t false) N 0 [] (by have:=T.n;omega) (by omega) (by simp)
 rw[show((0:Nat):Int)=0 from rfl,a1S,a1O]at l
 unfold qM
 rw[rID N hN T.k]
 simp only[a1K,aV (aK6 (t:=t) N false).1,l,aA0]
 rfl
theorem aNT {t:aB}(T:TxM t){h:Int}{cb:Bool}{id:List Int}: ∀(m j:Nat)(acc:List aA),t.Outputs.length-j<m→j≤t.Outputs.length→acc.length≤10+j→
  rX N t h cb id m (j:Int) acc=some (acc++yP id h cb j (t.Outputs.drop j))
 |0,j,_,hm,_,_=>by omega
 |m+1,j,acc,hm,hj,ha=>by
  have hno:=T.n
  rw[rX]
  by_cases hl:j<t.Outputs.length
  ·rw[if_pos (dT hl),bE _ hl,a1Q hl,aJb j (by omega)]
   simp only[a1K]
   rw[eF (by omega) (by simp;omega),i1 (by omega)]
   simp only[a1K]
   rw[aNT T m (j+1) _ (by omega) (by omega) (by simp;omega),a1U]
   rfl
  rw[if_neg (by simp;omega),a1V (by omega)]
  simp[yP]
theorem aUK {t:aB}(T:TxM t){h:Int}{cb:Bool}:zA N t h cb=some (mT N t h cb):=by
 have l:=aNT hN T (h:=h) (cb:=cb) (id:=dig N t false) N 0 [] (by have:=T.n;omega) (by omega) (by simp)
 rw[show((0:Nat):Int)=0 from rfl,a1S,a1O]at l
 unfold zA
 rw[aID N hN T.k]
 simp only[a1K,aV (aK6 (t:=t) N false).1,l,zY]
 rfl
def xA (cs:List aA)(o:aD):Bool:=decide (0≤fI o 0 cs)
def aGx (cs os:List aA):List aA:=os.foldl (fun l c=>k9 c l) cs
omit hN in
theorem aMK {l:List aA}(hl: ∀d∈l,zT d.Out){o:aD}(ho:zT o):xA l o=true↔ ∃d∈l,d.Out=o:=by
 unfold xA
 rcases aMM o l 0 with⟨h1,h2⟩|⟨k,hk,h1,h2⟩
 ·rw[h1]
  refine⟨fun h=>(by cases h),fun⟨d,hd,e⟩=>absurd (by rw[e];exact wV o) (h2 d hd)⟩
 rw[h1]
 exact⟨fun _=>⟨_,a1M hk,aBf (hl _ (a1M hk)).1 ho.1 h2⟩,fun _=>decide_eq_true (by omega)⟩
omit hN in
theorem aRy {l:List aA}(hl: ∀d∈l,zT d.Out){c:aA}(C:zT c.Out){o:aD}(ho:zT o)(hne:c.Out≠o):xA (k9 c l) o=xA l o:=by
 rw[a2t,aMK (fun d hd=>by rcases aDv.1 hd with rfl|hd;exact C;exact hl d hd) ho,aMK hl ho]
 constructor
 ·rintro⟨d,hd,e⟩
  rcases aDv.1 hd with rfl|hd
  ·exact absurd e hne
  exact⟨d,hd,e⟩
 rintro⟨d,hd,e⟩
 exact⟨d,aDv.2 (.inr hd),e⟩
omit hN in
theorem aWU {h:Int}{n:Nat}{cs:List aA}(K:CsK h n cs)(h1:1≤h){c:aA}(C:CoinM c)(hc:c.Height=h)(hno:xA cs c.Out=false):CsK h (n+1) (k9 c cs):=by
 refine⟨by rw[aQy];have:=K.n;omega,fun d hd=> ?_,aMC C.o K.ok K.s fun d hd h0=> ?_⟩
 ·rcases aDv.1 hd with rfl|hd
  ·exact⟨C,by omega⟩
  exact K.c d hd
 have:=(aMK K.ok C.o).2 ⟨d,hd,aBf (K.ok d hd).1 C.o.1 h0⟩
 rw[hno]at this;cases this
theorem aPx {p:aK}{h hh:Int}{sp:List aA}{f:Int}{os:List aA}(h1:1≤h)(ho:os.length≤10)(hos: ∀c∈os,CoinM c∧c.Height=h)(hne:os.Pairwise fun a b=>a.Out≠b.Out){cs:List aA}:
  ∀(m j n:Nat)(l:List (aD×aA))(cs':List aA),os.length-j<m→j≤os.length→MapR l cs'→CsK h n cs'→(∀c∈os.drop j,xA cs' c.Out=xA cs c.Out)→
   ∃r,qA N p hh sp f os m (j:Int) l=some r∧if(os.drop j).any (fun c=>xA cs c.Out)=true then∃l',r= .ret (91,l')else∃l',r= .brk l'∧MapR l' (aGx cs' (os.drop j))∧CsK h (n+(os.length-j)) (aGx cs' (os.drop j))
 |0,j,_,_,_,hm,_,_,_,_=>by omega
 |m+1,j,n,l,cs',hm,hj,R,K,hi=>by
  rw[qA]
  by_cases hl:j<os.length
  ·rw[if_pos (dT hl),bE _ hl]
   simp only[Option.bind_some]
   rw[List.drop_eq_getElem_cons hl]at hi⊢
   obtain⟨C,hC⟩:=hos _ (List.getElem_mem hl)
   have e0:=hi os[j] (List.Mem.head _)
   rw[List.any_cons]
   rcases aNR K R C.o with⟨f1,f2,f3⟩|⟨k,hk,i,hi',f1,f2,f3,f4⟩
   ·have e1:xA cs' os[j].Out=false:=by unfold xA;rw[f1];rfl
    rw[show tW iW l os[j].Out=false by unfold tW;rw[f2];rfl,if_neg (by simp),i1 (by omega),show aAa iW l os[j].Out os[j]=l++[(os[j].Out,os[j])] by unfold aAa;rw[f2],←e0,e1,Bool.false_or]
    obtain⟨r,e2,e3⟩:=aPx (p:=p) (hh:=hh) (sp:=sp) (f:=f) h1 ho hos hne (cs:=cs) m (j+1) (n+1) _ (k9 os[j] cs') (by omega) (by omega) (MapR.put K R) (aWU K h1 C hC e1) (fun c hc=>by
     have o2:=(hos c (List.mem_of_mem_drop hc)).1.o
     have hn2:os[j].Out≠c.Out:=by
      obtain⟨i,hi2,rfl⟩:=List.getElem_of_mem hc
      rw[List.getElem_drop]
      exact List.pairwise_iff_getElem.1 hne j (j+1+i) hl (by rw[List.length_drop]at hi2;omega) (by omega)
     rw[aRy K.ok C.o o2 hn2]
     exact hi c (List.Mem.tail _ hc))
    refine⟨r,e2, ?_⟩
    have e4:aGx cs' (os[j]::os.drop (j+1))=aGx (k9 os[j] cs') (os.drop (j+1)):=rfl
    rw[e4,show n+(os.length-j)=n+1+(os.length-(j+1)) by omega]
    exact e3
   have e1:xA cs' os[j].Out=true:=by unfold xA;rw[f1];exact decide_eq_true (by omega)
   rw[show tW iW l os[j].Out=true by unfold tW;rw[f2];rfl,if_pos rfl,←e0,e1,Bool.true_or]
   refine⟨_,rfl, ?_⟩
   rw[if_pos rfl]
   exact⟨_,rfl⟩
  rw[if_neg (by simp;omega),List.drop_eq_nil_of_le (by omega)]
  refine⟨_,rfl, ?_⟩
  rw[List.any_nil,if_neg (by simp)]
  exact⟨l,rfl,R,K.up (Int.le_refl _) (by omega)⟩
theorem aPy {h:Int}{os:List aA}(h1:1≤h)(ho:os.length≤10)(hos: ∀c∈os,CoinM c∧c.Height=h):
  ∀(m j n:Nat)(cs':List aA),os.length-j<m→j≤os.length→n+(os.length-j)≤900→CsK h (n+(os.length-j)) (aGx cs' (os.drop j))→(∀i,CsK h (n+i) (aGx cs' ((os.drop j).take i)))→aBU N os m cs' (j:Int)=some (aGx cs' (os.drop j))
 |0,j,_,_,hm,_,_,_,_=>by omega
 |m+1,j,n,cs',hm,hj,hb,K,Ks=>by
  rw[aBU]
  by_cases hl:j<os.length
  ·rw[if_pos (dT hl),bE _ hl]
   have K0:CsK h n cs':=Ks 0
   simp only[a1K,aUD hN K0 (show n≤900 by omega) (hos _ (a1M hl)).1,i1 (show j≤100000 by omega)]
   rw[a1Q hl]at K Ks⊢
   exact aPy h1 ho hos m (j+1) (n+1) _ (by omega) (by omega) (by omega) (by rw[show n+1+(os.length-(j+1))=n+(os.length-j) by omega];exact K) fun i=>by
    have:=Ks (i+1)
    rw[show n+1+i=n+(i+1) by omega]
    exact this
  rw[if_neg (by simp;omega),a1V (by omega)]
  rfl
end
end Go.Proofs.YtopdhljncajmpaaGreatDoor
