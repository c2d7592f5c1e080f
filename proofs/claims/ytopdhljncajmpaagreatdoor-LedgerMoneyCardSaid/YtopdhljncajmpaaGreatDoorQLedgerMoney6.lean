/- Texts of ours, joined: PlainH1, PlainH2, PlainR1, PlainL2, PlainL3, PlainL4, PlainL5, PlainL6, PlainL7, PlainL8, PlainL9, PlainL10, PlainL11, PlainL12, PlainL13, PlainL14, PlainM1, PlainM2, PlainM3, PlainM4, PlainM5, PlainM6. -/
import Derived.Test.YtopdhljncajmpaaGreatDoorQLedgerMoney2
import Derived.Test.YtopdhljncajmpaaGreatDoorQLedgerMoney4
open Option renaming bind_some → a0F,bind_eq_some_iff → a1F
open List renaming length_append → a0G,getElem_mem → a0H,replicate → a0I,nil_append → a0K,drop_zero → a0M,append_assoc → a0N,mem_singleton → a0O,drop_eq_getElem_cons → a0P,drop_eq_nil_of_le → a0R,take_succ_eq_append_getElem → a0S,getElem?_eq_getElem → a0T,range → a0U,mem_append → a0V,length_cons → a0W,length_singleton → a0Z,eq_of_mem_replicate → a00,length_set → a04,range'_succ → a05,mem_of_mem_take → a07,mem_cons → a09,take_of_length_le → a1a,pairwise_cons → a1b,mem_map → a1d,map_append → a1e,append_nil → a1f,flatten_cons → a1g,flatten_nil → a1i,range' → a1j,replicate_succ → a1k,getElem?_replicate → a1l,length_nil → a1m,getElem?_set_self → a1o,length_take → a1r,foldl_cons → a1u,range_zero → a1w,findIdx?_cons → a1A,map_singleton → a1B,mem_or_eq_of_mem_set → a1C,flatMap_cons → a1D,filter_cons_of_pos → a1E,take_length → a1H,getElem_cons_zero → a1I,getElem?_eq_none → a1J,set_append_right → a1M,range_succ → a1N,map_nil → a1O,mem_of_mem_drop → a1R,range_eq_range' → a1S,map_cons → a1T,filter_append → a1W,set_set → a1X
open Bool renaming false_eq_true → a0J,true_and → a03,not_true → a06,eq_iff_iff → a1x,and_eq_true → a1G
open Go.IntKind renaming i64 → a0L,u64 → a0X,u8 → a0Y,u32 → a01,bits → a1q,wrap_u8 → a1v,wrap_u64 → a1Y,wrap_u32 → a1Z
open Int renaming toNat_natCast → a0Q,tmod → a1p,tdiv → a1U,natCast_nonneg → a1V
open Nat renaming mul_le_mul_right → a02,sub_zero → a08,le_refl → a1c,mod_eq_of_lt → a1h,eq_zero_or_pos → a1n,pow_le_pow_right → a1s,mod_lt → a1t,lt_or_ge → a1y,lt_of_lt_of_le → a1z,add_zero → a1K,min_eq_left → a1L,le_trans → a1P,lt_trans → a1Q,div_eq_of_lt → a10,zero_le → a11
set_option linter.unusedSimpArgs false
set_option linter.unusedVariables false
set_option linter.unusedSectionVars false
namespace Go.Proofs.YtopdhljncajmpaaGreatDoor
open Go Go.Vm
theorem dC {α:Type}{n:Nat}{l:List α}{i:Nat}(h:i<n)(hl:i<l.length):cB n l (i:Int)=some l[i]:=by
 unfold cB;rw[if_pos (by omega),bA l hl]
theorem aU {α:Type}{n:Nat}{l:List α}(h:l.length=n):bM n l=some l:=by unfold bM;rw[if_pos h]
theorem aAi (N:Nat)(x n s:Int)(hs:bits .and .u64 (a0X.wrap (a0L.wrap (0-n))) 31=s)(h0:0≤s)(h1:s≤32): ∃y,dI N x n=some y:=by
 unfold dI lO
 rw[hs,aHi (a:=32-s) (by omega) (by omega)]
 unfold shl shr
 rw[if_neg (by omega),if_neg (by omega)]
 exact⟨_,rfl⟩
def rv (N:Nat)(x n:Int):Int:=(dI N x n).getD 0
theorem aDz {N:Nat}{x n:Int}(h: ∃y,dI N x n=some y):dI N x n=some (rv N x n):=by obtain⟨y,h⟩:=h;simp[rv,h]
theorem rv2 (N:Nat)(x:Int):dI N x 2=some (rv N x 2):=aDz (aAi N x 2 30 (by decide +kernel) (by omega) (by omega))
theorem rv6 (N:Nat)(x:Int):dI N x 6=some (rv N x 6):=aDz (aAi N x 6 26 (by decide +kernel) (by omega) (by omega))
theorem rv7 (N:Nat)(x:Int):dI N x 7=some (rv N x 7):=aDz (aAi N x 7 25 (by decide +kernel) (by omega) (by omega))
theorem a0e (N:Nat)(x:Int):dI N x 11=some (rv N x 11):=aDz (aAi N x 11 21 (by decide +kernel) (by omega) (by omega))
theorem a0x (N:Nat)(x:Int):dI N x 13=some (rv N x 13):=aDz (aAi N x 13 19 (by decide +kernel) (by omega) (by omega))
theorem a0A (N:Nat)(x:Int):dI N x 17=some (rv N x 17):=aDz (aAi N x 17 15 (by decide +kernel) (by omega) (by omega))
theorem aZQ (N:Nat)(x:Int):dI N x 18=some (rv N x 18):=aDz (aAi N x 18 14 (by decide +kernel) (by omega) (by omega))
theorem a0a (N:Nat)(x:Int):dI N x 19=some (rv N x 19):=aDz (aAi N x 19 13 (by decide +kernel) (by omega) (by omega))
theorem aZU (N:Nat)(x:Int):dI N x 22=some (rv N x 22):=aDz (aAi N x 22 10 (by decide +kernel) (by omega) (by omega))
theorem aZZ (N:Nat)(x:Int):dI N x 25=some (rv N x 25):=aDz (aAi N x 25 7 (by decide +kernel) (by omega) (by omega))
theorem aZV (x:Int):shr .u32 x 3=some (x.fdiv (2^(min (3:Int).toNat 32))):=by unfold shr;rw[if_neg (by omega)];rfl
theorem aZq (x:Int):shr .u32 x 10=some (x.fdiv (2^(min (10:Int).toNat 32))):=by unfold shr;rw[if_neg (by omega)];rfl
theorem sL3 (N:Nat): ∀(m j:Nat)(l:List Int),l.length=64→16≤j→j≤64→64-j<m→ ∃r,mJ N m (j:Int) l=some r∧r.length=64
 |0,j,l,_,_,_,hm=>by omega
 |m+1,j,l,hl,h1,h2,hm=>by
  rw[mJ]
  by_cases h:j<64
  ·rw[show decide ((j:Int)<64)=true from decide_eq_true (by omega),if_pos rfl]
   rw[cJ (a:=(j:Int)-15) (by omega) (by omega),show(j:Int)-15=((j-15:Nat):Int) by omega,dC (show j-15<64 by omega) (by omega)]
   rw[cJ (a:=(j:Int)-2) (by omega) (by omega),show(j:Int)-2=((j-2:Nat):Int) by omega,dC (show j-2<64 by omega) (by omega)]
   rw[cJ (a:=(j:Int)-16) (by omega) (by omega),show(j:Int)-16=((j-16:Nat):Int) by omega,dC (show j-16<64 by omega) (by omega)]
   rw[cJ (a:=(j:Int)-7) (by omega) (by omega),show(j:Int)-7=((j-7:Nat):Int) by omega,dC (show j-7<64 by omega) (by omega)]
   rw[dC h (by omega)]
   simp only[a0F,rv7,aZQ,a0A,a0a,aZV,aZq,i1 (show j≤100000 by omega)]
   exact sL3 N m (j+1) _ (by rw[a04];exact hl) (by omega) (by omega) (by omega)
  rw[show decide ((j:Int)<64)=false from decide_eq_false (by omega)]
  exact⟨l,rfl,hl⟩
theorem cL2 (N:Nat)(st w:List Int)(hw:w.length=64): ∀(m j:Nat)(a b c d e f g h:Int),j≤64→64-j<m→ ∃r,mN N st w m a b c d e f g h (j:Int)=some r
 |0,j,_,_,_,_,_,_,_,_,_,hm=>by omega
 |m+1,j,a,b,c,d,e,f,g,h,hj,hm=>by
  rw[mN]
  by_cases h1:j<64
  ·rw[show decide ((j:Int)<64)=true from decide_eq_true (by omega),if_pos rfl,dC h1 (show j<aHu.length from h1),dC h1 (by omega)]
   simp only[a0F,rv2,rv6,a0e,a0x,aZU,aZZ,i1 (show j≤100000 by omega)]
   exact cL2 N st w hw m (j+1) _ _ _ _ _ _ _ _ (by omega) (by omega)
  rw[show decide ((j:Int)<64)=false from decide_eq_false (by omega)]
  exact⟨_,rfl⟩
def wd (b:List Nat)(i:Nat):Nat:=((b.getD (4*i) 0*256+b.getD (4*i+1) 0)*256+b.getD (4*i+2) 0)*256+b.getD (4*i+3) 0
theorem aA0 {b:List Nat}(h: ∀x∈b,x<256)(i:Nat):b.getD i 0<256:=by
 rw[List.getD_eq_getElem?_getD]
 rcases a1y i b.length with hi|hi
 ·rw[a0T hi];exact h _ (a0H hi)
 rw[a1J hi];simp
theorem aM4 (a b k:Nat)(h:b<2^k):a*2^k ||| b=a*2^k+b:=by
 rw[Nat.mul_comm,←Nat.two_pow_add_eq_or_of_lt h]
theorem orU (a b:Nat)(ha:a<4294967296)(hb:b<4294967296):bits .or .u32 (a:Int) (b:Int)=((a ||| b:Nat):Int):=aLx rfl a b ha hb
theorem aYP (a b:Nat):shl .u32 (a:Int) (b:Int)=some ((a*2^b%4294967296:Nat):Int):=aRT rfl a b
theorem aKI {b:List Nat}{i:Nat}(hl:b.length=64)(hi:i<64):cB 64 (iN b) (i:Int)=some ((b.getD i 0:Nat):Int):=by
 rw[dC hi (by rw[aM7];omega)]
 have h1:i<b.length:=by omega
 simp[iN,h1]
theorem aIF (n:Nat)(h:n<4294967296):a01.wrap (n:Int)=n:=aYT (by omega) (by omega)
def aIA (b:List Nat)(j:Nat)(l:List Int):List Int:=(a1j j (16-j)).foldl (fun l i=>l.set i ((wd b i:Nat):Int)) l
theorem aTq (b:List Nat)(j:Nat)(l:List Int):(aIA b j l).length=l.length:=by
 unfold aIA
 generalize a1j j (16-j)=r
 induction r generalizing l with
 |nil=>rfl
 |cons x r ih=>rw[a1u,ih,a04]
section
variable (N:Nat)(b:List Nat)(hl:b.length=64)(hb: ∀x∈b,x<256)
include hl hb
theorem sL6 (i:Nat)(hi:i<16)(m j:Nat)(hj:j<4)(l:List Int)(hll:l.length=64)(v:Nat)(hv:v<16777216)(hli:l[i]? =some (v:Int)):
  fN N (iN b) (i:Int) (m+1) (j:Int) l=fN N (iN b) (i:Int) m ((j+1:Nat):Int) (l.set i ((v*256+b.getD (4*i+j) 0:Nat):Int)):=by
 have hil:i<l.length:=by omega
 have hbl:=aA0 hb (4*i+j)
 rw[fN,show decide ((j:Int)<4)=true from decide_eq_true (by omega),if_pos rfl,dC (show i<64 by omega) hil]
 rw[a0T hil]at hli
 rw[Option.some.inj hli,cJ (a:=4*(i:Int)) (by omega) (by omega),cJ (a:=4*(i:Int)+(j:Int)) (by omega) (by omega),show 4*(i:Int)+(j:Int)=((4*i+j:Nat):Int) by omega,aKI hl (by omega)]
 rw[show(8:Int)=((8:Nat):Int)from rfl]
 simp only[a0F,aYP,a0Q,i1 (show j≤100000 by omega)]
 rw[aIF _ (by omega),orU _ _ (a1t _ (by omega)) (by omega),a1h (by omega),aM4 _ _ 8 (by omega)]
theorem aWw (i:Nat)(hi:i<16)(l:List Int)(hll:l.length=64)(hli:l[i]? =some 0)(hN:10≤N):fN N (iN b) (i:Int) N 0 l=some (l.set i ((wd b i:Nat):Int)):=by
 have g0:=aA0 hb (4*i)
 have g1:=aA0 hb (4*i+1)
 have g2:=aA0 hb (4*i+2)
 have hil:i<l.length:=by omega
 obtain⟨m,hm⟩: ∃m,N=m+5:=⟨N-5,by omega⟩
 have hfu: ∀k,fN N (iN b) (i:Int) N k l=fN N (iN b) (i:Int) (m+1+1+1+1+1) k l:=fun k=>by
  have:N=m+1+1+1+1+1:=by omega
  exact congrArg (fun q=>fN N (iN b) (i:Int) q k l) this
 rw[hfu,show(0:Int)=((0:Nat):Int)from rfl,sL6 N b hl hb i hi _ 0 (by omega) l hll 0 (by omega) hli]
 rw[sL6 N b hl hb i hi _ 1 (by omega) _ (by rw[a04];exact hll) (0*256+b.getD (4*i+0) 0) (by simp only[a1K];omega) (a1o hil),a1X]
 rw[sL6 N b hl hb i hi _ 2 (by omega) _ (by rw[a04];exact hll) _ (by simp only[a1K];omega) (a1o hil),a1X]
 rw[sL6 N b hl hb i hi _ 3 (by omega) _ (by rw[a04];exact hll) _ (by simp only[a1K];omega) (a1o hil),a1X]
 rw[fN]
 simp only[Nat.reduceAdd,show decide (((4:Nat):Int)<4)=false from rfl,a0J,if_false,wd,Nat.zero_mul,Nat.zero_add,a1K]
omit hl hb in
theorem aNv {f:Nat→Int→List Int→Option (List Int)}(hs: ∀(m j:Nat) (l:List Int),j<16→l.length=64→l[j]? =some 0→f (m+1) (j:Int) l=f m ((j+1:Nat):Int) (l.set j ((wd b j:Nat):Int)))(he: ∀m l,f (m+1) 16 l=some l):
  ∀(m j:Nat)(l:List Int),16-j<m→j≤16→l.length=64→(∀i,j≤i→i<64→l[i]? =some 0)→f m (j:Int) l=some (aIA b j l)
 |0,j,l,hm,_,_,_=>by omega
 |m+1,j,l,hm,hj,hll,hz=>by
  by_cases h:j<16
  ·rw[hs m j l h hll (hz j (a1c _) (by omega)),aNv hs he m (j+1) _ (by omega) (by omega) (by rw[a04];exact hll) (fun i h1 h2=>by rw[List.getElem?_set_ne (by omega)];exact hz i (by omega) h2)]
   unfold aIA
   rw[show 16-j=(16-(j+1))+1 by omega,a05,a1u]
  obtain rfl:j=16:=by omega
  exact he m l
theorem sL4 (hN:70000≤N):kK N (iN b) N 0 (a0I 64 0)=some (aIA b 0 (a0I 64 0)):=by
 refine aNv b (f:=kK N (iN b)) (fun m j l hj hll hz=> ?_) (fun m l=>by rw[kK];rfl) N 0 _ (by omega) (by omega) (by simp) (fun i _ hi=>by rw[a1l,if_pos hi])
 rw[kK,show decide ((j:Int)<16)=true from decide_eq_true (by omega),if_pos rfl,aWw N b hl hb j hj l hll hz (by omega)]
 simp only[a0F,aBC,i1 (show j≤100000 by omega)]
end
section
variable (N:Nat)(hN:70000≤N)(b:List Nat)(hl:b.length=64)(hb: ∀x∈b,x<256)
include hN hl hb
theorem aWf : ∃w,sG N (iN b)=some w∧w.length=64:=by
 obtain⟨w,h1,h2⟩:=sL3 N N 16 (aIA b 0 (a0I 64 0)) (by rw[aTq];simp) (by omega) (by omega) (by omega)
 rw[show((16:Nat):Int)=16 from rfl]at h1
 refine⟨w, ?_,h2⟩
 simp only[sG,sL4 N b hl hb hN,a0F,vO,h1,vC,aU h2]
theorem aVg (st:List Int)(hst:st.length=8): ∃r,lR N st (iN b)=some r∧r.length=8:=by
 obtain⟨w,h1,h2⟩:=aWf N hN b hl hb
 have hbl:(iN b).length=64:=by rw[aM7];exact hl
 have a0:cB 8 st 0=some st[0]:=dC (i:=0) (by omega) (by omega)
 have a1:cB 8 st 1=some st[1]:=dC (i:=1) (by omega) (by omega)
 have a2:cB 8 st 2=some st[2]:=dC (i:=2) (by omega) (by omega)
 have a3:cB 8 st 3=some st[3]:=dC (i:=3) (by omega) (by omega)
 have a4:cB 8 st 4=some st[4]:=dC (i:=4) (by omega) (by omega)
 have a5:cB 8 st 5=some st[5]:=dC (i:=5) (by omega) (by omega)
 have a6:cB 8 st 6=some st[6]:=dC (i:=6) (by omega) (by omega)
 have a7:cB 8 st 7=some st[7]:=dC (i:=7) (by omega) (by omega)
 obtain⟨r,hr⟩:=cL2 N st w h2 N 0 st[0] st[1] st[2] st[3] st[4] st[5] st[6] st[7] (by omega) (by omega)
 rw[show((0:Nat):Int)=0 from rfl]at hr
 refine⟨[a01.wrap (st[0]+r.1),a01.wrap (st[1]+r.2.1),a01.wrap (st[2]+r.2.2.1),a01.wrap (st[3]+r.2.2.2.1),a01.wrap (st[4]+r.2.2.2.2.1),a01.wrap (st[5]+r.2.2.2.2.2.1),a01.wrap (st[6]+r.2.2.2.2.2.2.1),a01.wrap (st[7]+r.2.2.2.2.2.2.2)], ?_,rfl⟩
 simp only[lR,aU hbl,h1,aU h2,a0,a1,a2,a3,a4,a5,a6,a7,a0F,hr,vH]
end
def beG (n i:Nat):Int:=a0Y.wrap ((a0X.wrap (8*(n:Int))).fdiv (2^(56-8*i)))
def zer (n:Nat):Nat:=(64-(n+9)%64)%64
def xH (n:Nat):List Int:=(128::a0I (zer n) 0)++(a1j 0 8).map (beG n)
theorem aPL (n:Nat):(xH n).length=9+zer n:=by simp[xH];omega
theorem aDZ (x:Int):0≤a0Y.wrap x∧a0Y.wrap x<256:=by rw[a1v];omega
theorem aPY (n:Nat):Byt (xH n):=by
 intro x hx
 simp only[xH,a0V,a09,List.mem_replicate,a1d]at hx
 rcases hx with(rfl|⟨_,rfl⟩)|⟨i,_,rfl⟩
 ·omega
 ·omega
 exact aDZ _
theorem aVX (a:Int)(s:Nat)(h:s≤64):shr .u64 a (s:Int)=some (a.fdiv (2^s)):=by
 unfold shr
 rw[if_neg (by omega),a0Q,show min s a0X.bits=s from a1L h]
theorem aPN (N n:Nat): ∀(k m:Nat)(acc:List Int),k≤8→k<m→acc.length+k≤1000→aBQ N (n:Int) m ((8-k:Nat):Int) acc=some (acc++(a1j (8-k) k).map (beG n))
 |0,m,acc,_,hm,_=>by
  obtain⟨m,rfl⟩: ∃q,m=q+1:=⟨m-1,by omega⟩
  rw[aBQ,show decide (((8-0:Nat):Int)<8)=false from rfl];simp
 |k+1,m,acc,hk,hm,ha=>by
  obtain⟨m,rfl⟩: ∃q,m=q+1:=⟨m-1,by omega⟩
  rw[aBQ,show decide (((8-(k+1):Nat):Int)<8)=true from decide_eq_true (by omega),if_pos rfl]
  rw[cJ (a:=8*((8-(k+1):Nat):Int)) (by omega) (by omega),cJ (a:=56-8*((8-(k+1):Nat):Int)) (by omega) (by omega),show 56-8*((8-(k+1):Nat):Int)=((56-8*(8-(k+1)):Nat):Int) by omega,aVX _ _ (by omega)]
  simp only[a0F]
  rw[jG (by simp;omega)]
  simp only[a0F,i1 (show 8-(k+1)≤100000 by omega)]
  rw[show 8-(k+1)+1=8-k by omega,aPN N n k m _ (by omega) (by omega) (by simp;omega),a05,a1T,show 8-(k+1)+1=8-k by omega,a0N]
  rfl
theorem aZT (z:Nat):(a0I (1+z) (0:Int)).set 0 128=128::a0I z 0:=by rw[Nat.add_comm,a1k];rfl
theorem a0b (N:Nat)(hN:70000≤N)(n:Nat)(hn:n≤1000000000):aLa N (n:Int)=some (xH n):=by
 have hz:zer n<64:=a1t _ (by omega)
 have hlim:=wI
 unfold aLa
 rw[aHi (a:=(n:Int)+9) (by omega) (by omega),show(n:Int)+9=((n+9:Nat):Int) by omega,show(64:Int)=((64:Nat):Int)from rfl,kZ]
 have h1:(n+9)%64<64:=a1t _ (by omega)
 rw[aHi (a:=((64:Nat):Int)-(((n+9)%64:Nat):Int)) (by omega) (by omega),show((64:Nat):Int)-(((n+9)%64:Nat):Int)=((64-(n+9)%64:Nat):Int) by omega,kZ]
 rw[show((64-(n+9)%64)%64:Nat)=zer n from rfl,aHi (a:=1+((zer n:Nat):Int)) (by omega) (by omega),aHi (a:=9+((zer n:Nat):Int)) (by omega) (by omega)]
 have hm:mkl 1 (0:Int) (1+((zer n:Nat):Int)) (9+((zer n:Nat):Int))=some (a0I (1+zer n) 0):=by
  unfold mkl
  rw[if_pos ⟨by omega,by omega,by omega⟩,show(1+((zer n:Nat):Int)).toNat=1+zer n by omega]
 have h0:aZ (a0I (1+zer n) (0:Int)) 0=some 0:=by
  rw[show(0:Int)=((0:Nat):Int)from rfl,aRA,a1l,if_pos (by omega)]
 simp only[hm,a0F,h0,Int.toNat_zero,aZT]
 have:=aPN N n 8 N (128::a0I (zer n) 0) (by omega) (by omega) (by simp;omega)
 rw[show((8-8:Nat):Int)=0 from rfl]at this
 rw[this];rfl
theorem aQF {f:Nat→Int→List Int→Option (List Int)}(l:List (List Int))(hn:l.length≤1000)(ht:l.flatten.length≤50000000)
  (hs: ∀m j acc (hj:j<l.length),acc.length+l[j].length≤50000000→f (m+1) (j:Int) acc=f m ((j+1:Nat):Int) (acc++l[j])) (he: ∀m j acc,l.length≤j→f (m+1) (j:Int) acc=some acc) (N:Nat) (hN:70000≤N):
  f N 0 []=some l.flatten:=by
 have hfl:l.flatMap id=l.flatten:=by simp
 have:=nQ (f:=f) (xs:=l) (g:=id) (B:=50000000) (by omega) hs he N 0 [] (by omega) (by omega) (by rw[a0M,hfl];simpa using ht)
 rw[a0M,hfl]at this
 simpa using this
theorem aX2 (N:Nat)(hN:70000≤N)(l:List (List Int))(hn:l.length≤1000)(ht:l.flatten.length≤50000000):aHT N l=some l.flatten:=by
 have:=aQF (f:=aBS N l) l hn ht (fun m j acc hj hB=>by
  rw[aBS,dT hj,if_pos rfl,bA l hj,a0F,jG (by omega)]
  simp only[a0F,i1 (show j≤100000 by omega)]) (fun m j acc hj=>by rw[aBS,dF (by omega)];rfl) N hN
 unfold aHT
 rw[this];rfl
def cmp (N:Nat)(st blk:List Int):List Int:=(lR N st blk).getD []
def vW (msg:List Int)(i:Nat):List Int:=(msg.drop (64*i)).take 64
theorem aLO {l:List Int}(h:Byt l)(k:Nat):Byt (l.take k):=fun x hx=>h x (a07 hx)
theorem aMk {l:List Int}(h:Byt l)(k:Nat):Byt (l.drop k):=fun x hx=>h x (a1R hx)
theorem aS3 (N:Nat)(hN:70000≤N)(st blk:List Int)(hst:st.length=8)(hb:Byt blk)(hl:blk.length=64):lR N st blk=some (cmp N st blk)∧(cmp N st blk).length=8:=by
 obtain⟨b,rfl,h2⟩:=aRx hb
 obtain⟨r,h3,h4⟩:=aVg N hN b (by rw[aM7]at hl;exact hl) h2 st hst
 have:cmp N st (iN b)=r:=by simp[cmp,h3]
 rw[this];exact⟨h3,h4⟩
def rounds (N:Nat)(msg st:List Int)(j k:Nat):List Int:=(a1j j k).foldl (fun s i=>cmp N s (vW msg i)) st
section
variable (N:Nat)(hN:70000≤N)(msg:List Int)(hb:Byt msg)(hl:msg.length≤2000000)
include hN hb hl
theorem aLR : ∀(m j:Nat)(st:List Int),msg.length/64-j<m→j≤msg.length/64→st.length=8→aE4 N msg m (j:Int) st=some (rounds N msg st j (msg.length/64-j))∧(rounds N msg st j (msg.length/64-j)).length=8
 |0,j,st,hm,_,_=>by omega
 |m+1,j,st,hm,hj,hst=>by
  rw[aE4,show(64:Int)=((64:Nat):Int)from rfl,s9,cJ (a:=((msg.length/64:Nat):Int)) (by omega) (by omega)]
  by_cases h:j<msg.length/64
  ·have hlen:(vW msg j).length=64:=by simp[vW];omega
   obtain⟨c1,c2⟩:=aS3 N hN st (vW msg j) hst (aLO (aMk hb _) _) hlen
   rw[dT h,if_pos rfl,aU hst,cJ (a:=((64:Nat):Int)*(j:Int)) (by omega) (by omega)]
   have e1:sub msg (((64:Nat):Int)*(j:Int)) (msg.length:Int)=some (msg.drop (64*j)):=by
    unfold sub
    rw[if_pos ⟨by omega,by omega,by omega⟩,show(((64:Nat):Int)*(j:Int)).toNat=64*j by omega,a0Q,a1a (a1c _)]
   have e2:arp 64 (msg.drop (64*j))=some (vW msg j):=by unfold arp;rw[if_pos (by simp;omega)];rfl
   simp only[e1,e2,c1,aU c2,a0F,i1 (show j≤100000 by omega)]
   obtain⟨i1',i2'⟩:=aLR m (j+1) _ (by omega) (by omega) c2
   have er:rounds N msg st j (msg.length/64-j)=rounds N msg (cmp N st (vW msg j)) (j+1) (msg.length/64-(j+1)):=by
    unfold rounds
    rw[show msg.length/64-j=(msg.length/64-(j+1))+1 by omega,a05,a1u]
   rw[er]
   exact⟨i1',i2'⟩
  rw[dF h,show msg.length/64-j=0 by omega]
  exact⟨rfl,hst⟩
end
def wW (st:List Int)(i:Nat):Int:=a0Y.wrap ((st.getD (i/4) 0).fdiv (2^(24-8*(i%4))))
def aJb (st:List Int):List Int:=(a0U 32).map (wW st)
theorem aL5 (st:List Int):(aJb st).length=32:=by simp[aJb]
theorem aT5 (st:List Int):Byt (aJb st):=by
 intro x hx
 simp only[aJb,a1d]at hx
 obtain⟨i,_,rfl⟩:=hx
 exact aDZ _
theorem aDY (g:Nat→Int)(w j:Nat)(hj:j<w):((a0U j).map g++a0I (w-j) 0).set j (g j)=(a0U (j+1)).map g++a0I (w-(j+1)) 0:=by
 rw[a1M _ _ (by simp),show w-j=(w-(j+1))+1 by omega,a1k,a1N,a1e,a0N]
 simp
theorem aPk (a:Int)(s:Nat)(h:s≤32):shr .u32 a (s:Int)=some (a.fdiv (2^s)):=by
 unfold shr
 rw[if_neg (by omega),a0Q,show min s a01.bits=s from a1L h]
theorem aXA {st:List Int}(hst:st.length=8){i:Nat}(h:i<8):cB 8 st (i:Int)=some (st.getD i 0):=by
 have:i<st.length:=by omega
 rw[dC h this];simp[this]
section
variable (N:Nat)(hN:70000≤N)(st:List Int)(hst:st.length=8)
include hN hst
theorem aQ7 : ∀(m j:Nat),32-j<m→j≤32→aE1 N st m (j:Int) ((a0U j).map (wW st)++a0I (32-j) 0)=some (aJb st)
 |0,j,hm,_=>by omega
 |m+1,j,hm,hj=>by
  rw[aE1]
  by_cases h:j<32
  ·rw[show decide ((j:Int)<32)=true from decide_eq_true (by omega),if_pos rfl,show(4:Int)=((4:Nat):Int)from rfl,s9,kZ,cJ (a:=((j/4:Nat):Int)) (by omega) (by omega),aXA hst (by omega)]
   rw[cJ (a:=((j%4:Nat):Int)*8) (by omega) (by omega),cJ (a:=24-((j%4:Nat):Int)*8) (by omega) (by omega),show 24-((j%4:Nat):Int)*8=((24-8*(j%4):Nat):Int) by omega]
   simp only[a0F]
   rw[aPk _ _ (by omega),dC h (by simp;omega)]
   simp only[a0F,a0Q,i1 (show j≤100000 by omega)]
   have:=aDY (wW st) 32 j h
   rw[show a0Y.wrap ((st.getD (j/4) 0).fdiv (2^(24-8*(j%4))))=wW st j from rfl,this]
   exact aQ7 m (j+1) (by omega) (by omega)
  obtain rfl:j=32:=by omega
  rw[show decide (((32:Nat):Int)<32)=false from rfl]
  simp[aJb]
end
def sha256 (N:Nat)(b:List Int):List Int:=aJb (rounds N (b++xH b.length) aAJ 0 ((b++xH b.length).length/64))
theorem c5 (N:Nat)(b:List Int):(sha256 N b).length=32:=aL5 _
theorem gJ (N:Nat)(b:List Int):Byt (sha256 N b):=aT5 _
theorem aHV (N:Nat)(hN:70000≤N)(b:List Int)(hb:Byt b)(hl:b.length≤1000000):yD N b=some (sha256 N b):=by
 have hz:zer b.length<64:=a1t _ (by omega)
 have hpl:=aPL b.length
 have hmb:Byt (b++xH b.length):=hb.append (aPY _)
 have hml:(b++xH b.length).length≤2000000:=by rw[a0G];omega
 obtain⟨s1,s2⟩:=aLR N hN _ hmb hml N 0 aAJ (by omega) (by omega) rfl
 rw[show((0:Nat):Int)=0 from rfl,a08]at s1
 rw[a08]at s2
 have hw:a0X.wrap (b.length:Int)=(b.length:Int):=aHi (by omega) (by omega)
 have o:=aQ7 N hN (rounds N (b++xH b.length) aAJ 0 ((b++xH b.length).length/64)) s2 N 0 (by omega) (by omega)
 simp only[a1w,a1O,a0K,a08]at o
 rw[show((0:Nat):Int)=0 from rfl]at o
 simp only[yD,hw,a0b N hN b.length (by omega),a0F]
 rw[aX2 N hN [b,xH b.length] (by simp) (by simp;omega)]
 simp only[a0F,a1g,a1i,a1f,s1,aII,o,aIy,aU (aL5 _)]
 rfl
theorem aLp (s:ByteArray):Byt (bytesOf s):=by
 intro x hx
 unfold bytesOf at hx
 simp only[a1d]at hx
 obtain⟨b,_,rfl⟩:=hx
 have:=b.toNat_lt
 omega
def aQX (N:Nat)(tag:ByteArray)(b:List Int):List Int:=sha256 N (sha256 N (bytesOf tag)++(sha256 N (bytesOf tag)++b))
theorem aE8 (N:Nat)(tag:ByteArray)(b:List Int):(aQX N tag b).length=32:=c5 _ _
theorem aTB (N:Nat)(hN:70000≤N)(tag:ByteArray)(ht:tag.size≤1000)(b:List Int)(hb:Byt b)(hl:b.length≤900000):aE9 N tag b=some (aQX N tag b):=by
 have hlim:=wI
 have hs:stb tag=some (bytesOf tag):=by unfold stb;rw[if_pos (by omega)]
 have s1:=aHV N hN (bytesOf tag) (aLp tag) (by rw[z8];omega)
 have l1:=c5 N (bytesOf tag)
 have t1:=aHV N hN (sha256 N (bytesOf tag)++(sha256 N (bytesOf tag)++b)) ((gJ _ _).append ((gJ _ _).append hb)) (by simp only[a0G,l1];omega)
 simp only[aE9,hs,s1,a0F,aU l1]
 rw[aX2 N hN _ (by simp) (by simp[l1];omega)]
 simp only[a0F,a1g,a1i,a1f,t1,aU (c5 N _)]
 rfl
section
variable (N:Nat)(b:List Nat)(hl:b.length=64)(hb: ∀x∈b,x<256)
include hl hb
theorem a0r (hN:70000≤N):kP N (iN b) N 0 (a0I 64 0)=some (aIA b 0 (a0I 64 0)):=by
 refine aNv b (f:=kP N (iN b)) (fun m j l hj hll hz=> ?_) (fun m l=>by rw[kP];rfl) N 0 _ (by omega) (by omega) (by simp) (fun i _ hi=>by rw[a1l,if_pos hi])
 have g0:=aA0 hb (4*j)
 have g1:=aA0 hb (4*j+1)
 have g2:=aA0 hb (4*j+2)
 have g3:=aA0 hb (4*j+3)
 rw[kP,show decide ((j:Int)<16)=true from decide_eq_true (by omega),if_pos rfl]
 rw[cJ (a:=4*(j:Int)) (by omega) (by omega),cJ (a:=4*(j:Int)+1) (by omega) (by omega),cJ (a:=4*(j:Int)+2) (by omega) (by omega),cJ (a:=4*(j:Int)+3) (by omega) (by omega)]
 rw[show 4*(j:Int)=((4*j:Nat):Int) by omega,show((4*j:Nat):Int)+1=((4*j+1:Nat):Int) by omega,show((4*j:Nat):Int)+2=((4*j+2:Nat):Int) by omega,show((4*j:Nat):Int)+3=((4*j+3:Nat):Int) by omega]
 rw[aKI hl (by omega),aKI hl (by omega),aKI hl (by omega),aKI hl (by omega),dC (show j<64 by omega) (by omega)]
 rw[show(24:Int)=((24:Nat):Int)from rfl,show(16:Int)=((16:Nat):Int)from rfl,show(8:Int)=((8:Nat):Int)from rfl]
 simp only[a0F,a0Q,i1 (show j≤100000 by omega),aIF _ (show b.getD (4*j) 0<4294967296 by omega),aIF _ (show b.getD (4*j+1) 0<4294967296 by omega),aIF _ (show b.getD (4*j+2) 0<4294967296 by omega),aIF _ (show b.getD (4*j+3) 0<4294967296 by omega),aYP]
 congr 2
 unfold wd
 generalize b.getD (4*j) 0=a0 at *
 generalize b.getD (4*j+1) 0=a1 at *
 generalize b.getD (4*j+2) 0=a2 at *
 generalize b.getD (4*j+3) 0=a3 at *
 rw[a1h (show a0*2^24<4294967296 by omega),a1h (show a1*2^16<4294967296 by omega),a1h (show a2*2^8<4294967296 by omega)]
 rw[orU _ _ (by omega) (by omega),aM4 a0 _ 24 (by omega)]
 rw[show a0*2^24+a1*2^16=(a0*2^8+a1)*2^16 by omega,orU _ _ (by omega) (by omega),aM4 _ (a2*2^8) 16 (by omega)]
 rw[show(a0*2^8+a1)*2^16+a2*2^8=((a0*2^8+a1)*2^8+a2)*2^8 by omega,orU _ _ (by omega) (by omega),aM4 _ a3 8 (by omega)]
end
theorem aOA (N:Nat)(x n:Int):jC N x n=dI N x n:=rfl
theorem aR7 (N:Nat): ∀(m:Nat)(i:Int)(l:List Int),rN N m i l=mJ N m i l
 |0,_,_=>rfl
 |m+1,i,l=>by simp only[rN,mJ,aOA,aR7 N m]
theorem aQQ (N:Nat)(st w:List Int): ∀(m:Nat)(a b c d e f g h i:Int),rQ N st w aHu m a b c d e f g h i=mN N st w m a b c d e f g h i
 |0,_,_,_,_,_,_,_,_,_=>rfl
 |m+1,a,b,c,d,e,f,g,h,i=>by simp only[rQ,mN,aOA,aQQ N st w m]
section
variable (N:Nat)(hN:70000≤N)(b:List Nat)(hl:b.length=64)(hb: ∀x∈b,x<256)
include hN hl hb
theorem aSy :yR N (iN b)=sG N (iN b):=by
 simp only[yR,sG,a0r N b hl hb hN,sL4 N b hl hb hN,a0F,zK,vO,aR7,zB,vC]
theorem aO4 (st:List Int):sS N st (iN b)=lR N st (iN b):=by
 obtain⟨w,h1,h2⟩:=aWf N hN b hl hb
 have hK:vD N=some aHu:=rfl
 have hKl:bM 64 aHu=some aHu:=rfl
 simp only[sS,lR,aSy N hN b hl hb,h1,hK,hKl,a0F,aQQ,zM,vH]
end
theorem aN2 (N n:Nat): ∀(k m:Nat)(acc:List Int),k≤8→k<m→acc.length+k≤1000→w4 N (n:Int) m ((k:Int)-1) acc=some (acc++(a1j (8-k) k).map (beG n))
 |0,m,acc,_,hm,_=>by
  obtain⟨m,rfl⟩: ∃q,m=q+1:=⟨m-1,by omega⟩
  rw[w4,show decide ((0:Int)≤((0:Nat):Int)-1)=false from rfl];simp
 |k+1,m,acc,hk,hm,ha=>by
  obtain⟨m,rfl⟩: ∃q,m=q+1:=⟨m-1,by omega⟩
  rw[w4,show decide ((0:Int)≤((k+1:Nat):Int)-1)=true from decide_eq_true (by omega),if_pos rfl]
  rw[cJ (a:=8*(((k+1:Nat):Int)-1)) (by omega) (by omega),show 8*(((k+1:Nat):Int)-1)=((56-8*(8-(k+1)):Nat):Int) by omega,aVX _ _ (by omega)]
  simp only[a0F]
  rw[jG (by simp;omega)]
  simp only[a0F]
  rw[cJ (a:=((k+1:Nat):Int)-1-1) (by omega) (by omega),show((k+1:Nat):Int)-1-1=(k:Int)-1 by omega,aN2 N n k m _ (by omega) (by omega) (by simp;omega),a05,a1T,show 8-(k+1)+1=8-k by omega,a0N]
  rfl
theorem aN8 (N n:Nat)(hn:n≤1000000000): ∀(z m:Nat)(l:List Int),z<64→z<m→l.length+z≤1000→(n+l.length+8+z)%64=0→aBR N (n:Int) m l=some (l++a0I z 0)
 |z,0,l,_,hm,_,_=>by omega
 |z,m+1,l,hz,hm,hl,he=>by
  rw[aBR,aHi (a:=(l.length:Int)) (by omega) (by omega),aHi (a:=(n:Int)+(l.length:Int)) (by omega) (by omega),aHi (a:=(n:Int)+(l.length:Int)+8) (by omega) (by omega)]
  rw[show(n:Int)+(l.length:Int)+8=((n+l.length+8:Nat):Int) by omega,show(64:Int)=((64:Nat):Int)from rfl,kZ]
  match z with
  |0=>
   rw[show(n+l.length+8)%64=0 by simpa using he]
   simp
  |z+1=>
   have hne:(n+l.length+8)%64≠0:=by omega
   rw[show((((n+l.length+8)%64:Nat):Int) != 0)=true by simp;omega,if_pos rfl,jG (by simp;omega)]
   simp only[a0F]
   rw[aN8 N n hn z m _ (by omega) (by omega) (by simp;omega) (by simp;omega),a1k,a0N]
   rfl
theorem aZ0 (N:Nat)(hN:70000≤N)(n:Nat)(hn:n≤1000000000):aGH N (n:Int)=some (xH n):=by
 have hz:zer n<64:=a1t _ (by omega)
 have h2:(n+1+8+zer n)%64=0:=by unfold zer;omega
 unfold aGH
 rw[aN8 N n hn (zer n) N [128] hz (by omega) (by simp;omega) (by simpa using h2)]
 simp only[a0F,aGl]
 have:=aN2 N n 8 N ([128]++a0I (zer n) 0) (by omega) (by omega) (by simp;omega)
 rw[show((8:Nat):Int)-1=7 from rfl]at this
 rw[this];rfl
section
variable (N:Nat)(hN:70000≤N)(msg:List Int)(hb:Byt msg)(hl:msg.length≤2000000)
include hN hb hl
theorem aOg : ∀(m j:Nat)(st:List Int),msg.length/64-j<m→j≤msg.length/64→st.length=8→aBp N msg m ((64*j:Nat):Int) st=some (rounds N msg st j (msg.length/64-j))
 |0,j,st,hm,_,_=>by omega
 |m+1,j,st,hm,hj,hst=>by
  rw[aBp,cJ (a:=((64*j:Nat):Int)+64) (by omega) (by omega)]
  by_cases h:j<msg.length/64
  ·have hlen:(vW msg j).length=64:=by simp[vW];omega
   obtain⟨c1,c2⟩:=aS3 N hN st (vW msg j) hst (aLO (aMk hb _) _) hlen
   have c3:sS N st (vW msg j)=some (cmp N st (vW msg j)):=by
    obtain⟨bn,e1,e2⟩:=aRx (aLO (aMk hb (64*j)) 64)
    have e3:vW msg j=iN bn:=e1
    rw[e3]at c1 hlen⊢
    rw[aO4 N hN bn (by rw[aM7]at hlen;exact hlen) e2]
    exact c1
   rw[show decide (((64*j:Nat):Int)+64≤(msg.length:Int))=true from decide_eq_true (by omega),if_pos rfl]
   have e1:sub msg ((64*j:Nat):Int) (msg.length:Int)=some (msg.drop (64*j)):=by
    unfold sub
    rw[if_pos ⟨by omega,by omega,by omega⟩,a0Q,a0Q,a1a (a1c _)]
   have e2:cpy (a0I 64 (0:Int)) (msg.drop (64*j))=vW msg j:=by
    unfold cpy vW
    rw[List.length_replicate,show List.drop (msg.drop (64*j)).length (a0I 64 (0:Int))=[]from a0R (by simp;omega),a1f]
   simp only[e1,e2,a0F,aU hst,aU hlen,c3,aU c2]
   rw[show((64*j:Nat):Int)+64=((64*(j+1):Nat):Int) by omega,aOg m (j+1) _ (by omega) (by omega) c2]
   unfold rounds
   rw[show msg.length/64-j=(msg.length/64-(j+1))+1 by omega,a05,a1u]
  rw[show decide (((64*j:Nat):Int)+64≤(msg.length:Int))=false from decide_eq_false (by omega),show msg.length/64-j=0 by omega]
  rfl
end
section
variable (N:Nat)(hN:70000≤N)(st:List Int)(hst:st.length=8)
include hN hst
theorem aOE : ∀(m j:Nat),8-j<m→j≤8→aBs N st m (j:Int) ((a0U (4*j)).map (wW st)++a0I (32-4*j) 0)=some (aJb st)
 |0,j,hm,_=>by omega
 |m+1,j,hm,hj=>by
  rw[aBs]
  by_cases h:j<8
  ·rw[show decide ((j:Int)<8)=true from decide_eq_true (by omega),if_pos rfl,aXA hst h]
   rw[cJ (a:=4*(j:Int)) (by omega) (by omega),cJ (a:=4*(j:Int)+1) (by omega) (by omega),cJ (a:=4*(j:Int)+2) (by omega) (by omega),cJ (a:=4*(j:Int)+3) (by omega) (by omega)]
   rw[show 4*(j:Int)=((4*j:Nat):Int) by omega,show((4*j:Nat):Int)+1=((4*j+1:Nat):Int) by omega,show((4*j:Nat):Int)+2=((4*j+2:Nat):Int) by omega,show((4*j:Nat):Int)+3=((4*j+3:Nat):Int) by omega]
   rw[show(24:Int)=((24:Nat):Int)from rfl,show(16:Int)=((16:Nat):Int)from rfl]
   simp only[a0F,a0Q,i1 (show j≤100000 by omega)]
   rw[show(8:Int)=((8:Nat):Int)from rfl,aPk _ 24 (by omega),aPk _ 16 (by omega),aPk _ 8 (by omega)]
   simp only[a0F]
   have o0:a0Y.wrap ((st.getD j 0).fdiv (2^24))=wW st (4*j):=by unfold wW;rw[show 4*j/4=j by omega,show 4*j%4=0 by omega]
   have o1:a0Y.wrap ((st.getD j 0).fdiv (2^16))=wW st (4*j+1):=by unfold wW;rw[show(4*j+1)/4=j by omega,show(4*j+1)%4=1 by omega]
   have o2:a0Y.wrap ((st.getD j 0).fdiv (2^8))=wW st (4*j+2):=by unfold wW;rw[show(4*j+2)/4=j by omega,show(4*j+2)%4=2 by omega]
   have o3:a0Y.wrap (st.getD j 0)=wW st (4*j+3):=by
    unfold wW;rw[show(4*j+3)/4=j by omega,show(4*j+3)%4=3 by omega]
    congr 1
    generalize st.getD j 0=x
    simp
   rw[o0,o1,o2,o3,aDY (wW st) 32 (4*j) (by omega),aDY (wW st) 32 (4*j+1) (by omega),aDY (wW st) 32 (4*j+2) (by omega),aDY (wW st) 32 (4*j+3) (by omega)]
   rw[dC (show 4*j<32 by omega) (by simp;omega),dC (show 4*j+1<32 by omega) (by simp;omega),dC (show 4*j+2<32 by omega) (by simp;omega),dC (show 4*j+3<32 by omega) (by simp;omega)]
   simp only[a0F]
   exact aOE m (j+1) (by omega) (by omega)
  obtain rfl:j=8:=by omega
  rw[show decide (((8:Nat):Int)<8)=false from rfl]
  simp[aJb]
end
theorem yS (N:Nat)(hN:70000≤N)(b:List Int)(hb:Byt b)(hl:b.length≤1000000):lV N b=some (sha256 N b):=by
 have hz:zer b.length<64:=a1t _ (by omega)
 have hpl:=aPL b.length
 have hmb:Byt (b++xH b.length):=hb.append (aPY _)
 have hml:(b++xH b.length).length≤2000000:=by rw[a0G];omega
 obtain⟨s1,s2⟩:=aLR N hN _ hmb hml N 0 aAJ (by omega) (by omega) rfl
 have s3:=aOg N hN _ hmb hml N 0 aAJ (by omega) (by omega) rfl
 rw[a08]at s2
 rw[show((64*0:Nat):Int)=0 from rfl,a08]at s3
 have hw:a0X.wrap (b.length:Int)=(b.length:Int):=aHi (by omega) (by omega)
 have o:=aOE N hN (rounds N (b++xH b.length) aAJ 0 ((b++xH b.length).length/64)) s2 N 0 (by omega) (by omega)
 simp only[Nat.mul_zero,a1w,a1O,a0K,a08]at o
 rw[show((0:Nat):Int)=0 from rfl]at o
 have hI:aAk N=some aAJ:=rfl
 have hIa:bM 8 aAJ=some aAJ:=rfl
 simp only[lV]
 rw[jG (by simp;omega)]
 simp only[a0F,a0K,hw,aZ0 N hN b.length (by omega)]
 rw[jG (by omega)]
 simp only[a0F,hI,hIa,s3,aFD,aU s2,o,aFR,aU (aL5 _)]
 rfl
theorem aSP (N:Nat)(hN:70000≤N)(tag:ByteArray)(ht:tag.size≤1000)(b:List Int)(hb:Byt b)(hl:b.length≤900000):aBZ N tag b=some (aQX N tag b):=by
 have hlim:=wI
 have hs:stb tag=some (bytesOf tag):=by unfold stb;rw[if_pos (by omega)]
 have s2:=yS N hN (bytesOf tag) (aLp tag) (by rw[z8];omega)
 have l1:=c5 N (bytesOf tag)
 have t2:=yS N hN (sha256 N (bytesOf tag)++(sha256 N (bytesOf tag)++b)) ((gJ _ _).append ((gJ _ _).append hb)) (by simp only[a0G,l1];omega)
 simp only[aBZ,hs,s2,a0F,aU l1]
 rw[jG (by simp[l1])]
 simp only[a0F,a0K]
 rw[jG (by simp[l1])]
 simp only[a0F]
 rw[jG (by simp[l1];omega)]
 simp only[a0F,a0N,t2,aU (c5 N _)]
 rfl
end Go.Proofs.YtopdhljncajmpaaGreatDoor
set_option maxRecDepth 4000
namespace Go.Proofs.YtopdhljncajmpaaGreatDoor
open Go Go.Vm
def shV (v:Int)(i:Nat):Int:=a0Y.wrap (v.fdiv (2^(min (8*i) 64)))
def zD (w:Nat)(v:Int):List Int:=(a0U w).map (shV v)
theorem jZ (w:Nat)(v:Int):(zD w v).length=w:=by simp[zD]
theorem aX8 (v:Int)(i:Nat)(hi:i≤100): ∃y,shr .u64 v (a0L.wrap (8*(i:Int)))=some y∧a0Y.wrap y=shV v i:=by
 refine⟨_, ?_,rfl⟩
 rw[cJ (by omega) (by omega)]
 unfold shr
 rw[if_neg (by omega)]
 congr 3
theorem aT3 (w:Nat)(v:Int)(j:Nat)(hj:j<w):(((a0U j).map (shV v))++a0I (w-j) 0).set j (shV v j)=((a0U (j+1)).map (shV v))++a0I (w-(j+1)) 0:=by
 rw[a1M _ _ (by simp),show w-j=(w-(j+1))+1 by omega,a1k,a1N,a1e,a0N]
 simp
theorem aLX {f:Nat→Int→List Int→Option (List Int)}(w:Nat)(v:Int)(hw:w≤100)
  (hs: ∀m j acc,j<w→acc.length=w→f (m+1) (j:Int) acc=f m ((j+1:Nat):Int) (acc.set j (shV v j))) (he: ∀m acc,acc.length=w→f (m+1) (w:Int) acc=some acc):
  ∀(m j:Nat),w-j<m→j≤w→f m (j:Int) (((a0U j).map (shV v))++a0I (w-j) 0)=some (zD w v)
 |0,j,hm,_=>by omega
 |m+1,j,hm,hj=>by
  by_cases h:j<w
  ·rw[hs m j _ h (by simp;omega),aT3 w v j h]
   exact aLX w v hw hs he m (j+1) (by omega) (by omega)
  have:j=w:=by omega
  subst this
  rw[he m _ (by simp),Nat.sub_self]
  simp[zD]
theorem aKw (N:Nat)(hN:70000≤N)(v:Int)(w:Nat)(hw:w≤100):r9 N v (w:Int)=some (zD w v):=by
 have hmk:mks 1 (0:Int) (w:Int)=some (a0I w 0):=aME (by have:=wI;omega)
 have:=aLX (f:=qH N v (w:Int)) w v hw (fun m j acc hj hl=>by
   obtain⟨y,h1,h2⟩:=aX8 v j (by omega)
   rw[qH,dT hj,if_pos rfl,h1,bA acc (by omega:j<acc.length)]
   simp only[a0F,a0Q,h2,i1 (show j≤100000 by omega)])
  (fun m acc hl=>by rw[qH,dF (Nat.lt_irrefl w)];rfl) N 0 (by omega) (by omega)
 simp only[r9,hmk,a0F,aBn]
 simp only[a1w,a1O,a0K,a08]at this
 rw[show((0:Nat):Int)=0 from rfl]at this
 rw[this];rfl
theorem qQ (N:Nat)(b v:List Int)(h:b.length+v.length≤50000000):fS N b v=some (b++v):=by
 have hmk:mks 1 (0:Int) (a0L.wrap ((b.length:Int)+(v.length:Int)))=some (a0I (b.length+v.length) 0):=by
  rw[cJ (by omega) (by omega),show(b.length:Int)+(v.length:Int)=((b.length+v.length:Nat):Int) by omega]
  exact aME (by have:=wI;omega)
 simp only[fS,hmk,a0F,List.take_zero]
 rw[jG (by simp;omega)]
 simp only[a0F,a0K]
 rw[jG (by omega)];rfl
def nG (v:Int):List Int:=zD 4 (a0X.wrap v)
def aSt (v:Int):List Int:=zD 8 v
theorem bZ (v:Int):(nG v).length=4:=jZ _ _
theorem aFv (v:Int):(aSt v).length=8:=jZ _ _
section
variable (N:Nat)(hN:70000≤N)
include hN
theorem aHB (b:List Int)(v:Int)(h:b.length≤40000000):dS N b v=some (b++nG v):=by
 simp only[dS,show(4:Int)=((4:Nat):Int)from rfl,aKw N hN _ 4 (by omega),a0F]
 rw[qQ N _ _ (by rw[jZ];omega)];rfl
end
theorem wu (k:IntKind)(n:Nat)(hk:k.signed=false)(h:(n:Int)<2^k.bits):k.wrap (n:Int)=n:=by
 rw[aQc hk];exact Int.emod_eq_of_lt (by omega) h
def zT (n:Nat):List Int:=if n<253 then zD 1 n else if n<65536 then 253::zD 2 n else 254::zD 4 n
theorem iV (n:Nat):1≤(zT n).length∧(zT n).length≤5:=by
 unfold zT
 split
 ·simp[jZ]
 split<;>simp[jZ]
theorem aDS (N:Nat)(hN:70000≤N)(v:Int)(w:Nat)(hw:w≤100):kF N v (w:Int)=some (zD w v):=by
 have hmk:mks 1 (0:Int) (w:Int)=some (a0I w 0):=aME (by have:=wI;omega)
 have hl0:(a0I w (0:Int)).length=w:=by simp
 have:=aLX (f:=qN N v (a0I w 0)) w v hw (fun m j acc hj hl=>by
   obtain⟨y,h1,h2⟩:=aX8 v j (by omega)
   rw[qN,hl0,dT hj,if_pos rfl,h1,bA acc (by omega:j<acc.length)]
   simp only[a0F,a0Q,h2,i1 (show j≤100000 by omega)])
  (fun m acc hl=>by rw[qN,hl0,dF (Nat.lt_irrefl w)];rfl) N 0 (by omega) (by omega)
 simp only[kF,hmk,a0F,aBT]
 simp only[a1w,a1O,a0K,a08]at this
 rw[show((0:Nat):Int)=0 from rfl]at this
 rw[this];rfl
theorem lZ (N:Nat)(b v:List Int)(h:b.length+v.length≤50000000):eN N b v=some (b++v):=by
 have hmk:mks 1 (0:Int) (a0L.wrap ((b.length:Int)+(v.length:Int)))=some (a0I (b.length+v.length) 0):=by
  rw[cJ (by omega) (by omega),show(b.length:Int)+(v.length:Int)=((b.length+v.length:Nat):Int) by omega]
  exact aME (by have:=wI;omega)
 simp only[eN,hmk,a0F,List.take_zero]
 rw[jG (by simp;omega)]
 simp only[a0F,a0K]
 rw[jG (by omega)];rfl
section
variable (N:Nat)(hN:70000≤N)
include hN
theorem aCg (b:List Int)(v:Int)(h:b.length≤40000000):dV N b v=some (b++nG v):=by
 simp only[dV,show(4:Int)=((4:Nat):Int)from rfl,aDS N hN _ 4 (by omega),a0F]
 rw[lZ N _ _ (by rw[jZ];omega)];rfl
theorem a0n (b:List Int)(v:Int)(h:b.length≤40000000):vL N b v=some (b++aSt v):=by
 simp only[vL,show(8:Int)=((8:Nat):Int)from rfl,aDS N hN _ 8 (by omega),a0F]
 rw[lZ N _ _ (by rw[jZ];omega)];rfl
theorem aGN (b:List Int)(n:Nat)(hn:n≤1000000)(h:b.length≤30000000):gZ N b (a0X.wrap (n:Int))=some (b++zT n):=by
 rw[wu .u64 n rfl (by simp[a1q];omega)]
 unfold gZ zT
 by_cases h1:n<253
 ·have e1:decide ((n:Int)<253)=true:=decide_eq_true (by omega)
  rw[e1,if_pos rfl,if_pos h1]
  simp only[show(1:Int)=((1:Nat):Int)from rfl,aDS N hN _ 1 (by omega),a0F]
  rw[lZ N _ _ (by rw[jZ];omega)];rfl
 have e1:decide ((n:Int)<253)=false:=decide_eq_false (by omega)
 rw[e1,if_neg h1]
 by_cases h2:n<65536
 ·have e2:decide ((n:Int)<65536)=true:=decide_eq_true (by omega)
  simp only[e2,a0J,if_false,if_true,if_pos h2,show(2:Int)=((2:Nat):Int)from rfl,aDS N hN _ 2 (by omega),a0F]
  rw[lZ N _ _ (by simp[jZ])]
  simp only[a0F]
  rw[lZ N _ _ (by simp[jZ];omega)];rfl
 have e2:decide ((n:Int)<65536)=false:=decide_eq_false (by omega)
 have e3:decide ((n:Int)<4294967296)=true:=decide_eq_true (by omega)
 simp only[e2,e3,a0J,if_false,if_true,if_neg h2,show(4:Int)=((4:Nat):Int)from rfl,aDS N hN _ 4 (by omega),a0F]
 rw[lZ N _ _ (by simp[jZ])]
 simp only[a0F]
 rw[lZ N _ _ (by simp[jZ];omega)];rfl
theorem aS7 (b s:List Int)(hs:s.length≤1000000)(h:b.length≤30000000):mY N b s=some (b++(zT s.length++s)):=by
 have:=iV s.length
 simp only[mY,aGN N hN b _ hs (by omega),a0F]
 rw[lZ N _ _ (by rw[a0G];omega),a0F,a0N]
theorem aTa (o:aC)(ht:o.Tx.length=32):aAf N o=some (o.Tx++nG o.Index):=by
 simp only[aAf,eX,bM,if_pos ht,a0F]
 rw[lZ N _ _ (by simp;omega)]
 simp only[a0F,a0K]
 rw[aCg N hN _ _ (by omega)];rfl
def qY (o:aQ):List Int:=aSt (a0X.wrap o.Value)++(zT o.Script.length++o.Script)
theorem aUF (o:aQ)(h:o.Script.length≤600):aA6 N o=some (qY o):=by
 simp only[aA6,a0n N hN _ _ (show([]:List Int).length≤40000000 by simp),a0F,a0K]
 rw[aS7 N hN _ _ (by omega) (by rw[aFv];omega)];rfl
def hdB (h:bW):List Int:=((((nG h.Version++h.Prev)++h.Root)++nG h.Time)++nG h.Bits)++nG h.Nonce
theorem aVP (b h:List Int)(ht:h.length=32)(hb:b.length≤40000000):jJ N b h=some (b++h):=by
 simp only[jJ,bM,if_pos ht,a0F]
 rw[qQ N _ _ (by omega)];rfl
theorem aMv (b h:List Int)(ht:h.length=32)(hb:b.length≤40000000):eX N b h=some (b++h):=by
 simp only[eX,bM,if_pos ht,a0F]
 rw[lZ N _ _ (by omega)];rfl
theorem aRy (h:bW)(h1:h.Prev.length=32)(h2:h.Root.length=32):lQ N h=some (hdB h):=by
 simp only[lQ,aHB N hN [] _ (by simp),a0F,a0K,aU h1,aU h2]
 rw[aVP N hN _ _ h1 (by rw[bZ];omega)]
 simp only[a0F]
 rw[aVP N hN _ _ h2 (by rw[a0G,bZ];omega)]
 simp only[a0F]
 rw[aHB N hN _ _ (by simp only[a0G,bZ];omega)]
 simp only[a0F]
 rw[aHB N hN _ _ (by simp only[a0G,bZ];omega)]
 simp only[a0F]
 rw[aHB N hN _ _ (by simp only[a0G,bZ];omega)]
 rfl
theorem aNL (h:bW)(h1:h.Prev.length=32)(h2:h.Root.length=32):lT N h=some (hdB h):=by
 simp only[lT,aCg N hN [] _ (by simp),a0F,a0K,aU h1,aU h2]
 rw[aMv N hN _ _ h1 (by rw[bZ];omega)]
 simp only[a0F]
 rw[aMv N hN _ _ h2 (by rw[a0G,bZ];omega)]
 simp only[a0F]
 obtain⟨m,hm⟩: ∃m,N=m+1+1+1+1:=⟨N-4,by omega⟩
 have j0:decide ((0:Int)<3)=true:=rfl
 have j1:decide ((1:Int)<3)=true:=rfl
 have j2:decide ((2:Int)<3)=true:=rfl
 have j3:decide ((3:Int)<3)=false:=rfl
 have i01:a0L.wrap (0+1)=1:=by decide +kernel
 have i12:a0L.wrap (1+1)=2:=by decide +kernel
 have i23:a0L.wrap (2+1)=3:=by decide +kernel
 have L: ∀(m:Nat)(b:List Int),b.length≤1000→mM N h (m+1+1+1+1) 0 b=some (((b++nG h.Time)++nG h.Bits)++nG h.Nonce):=fun m b hb=>by
  simp only[mM,j0,j1,j2,j3,i01,i12,i23,if_true,a0J,if_false]
  rw[show aZ [h.Time,h.Bits,h.Nonce] 0=some h.Time from rfl,show aZ [h.Time,h.Bits,h.Nonce] 1=some h.Bits from rfl,show aZ [h.Time,h.Bits,h.Nonce] 2=some h.Nonce from rfl]
  simp only[a0F]
  rw[aCg N hN _ _ (by omega)]
  simp only[a0F]
  rw[aCg N hN _ _ (by simp only[a0G,bZ];omega)]
  simp only[a0F]
  rw[aCg N hN _ _ (by simp only[a0G,bZ];omega)]
  rfl
 have:=L m (nG h.Version++h.Prev++h.Root) (by simp only[a0G,bZ];omega)
 rw[←hm]at this
 rw[this]
 rfl
omit hN in
theorem gG (v:Int):Byt (nG v):=by
 intro x hx
 simp only[nG,zD,a1d]at hx
 obtain⟨i,_,rfl⟩:=hx
 exact aDZ _
omit hN in
theorem aR1 {h:bW}(b1:Byt h.Prev)(b2:Byt h.Root):Byt (hdB h):=
 (((((gG _).append b1).append b2).append (gG _)).append (gG _)).append (gG _)
omit hN in
theorem aA4 {h:bW}(h1:h.Prev.length=32)(h2:h.Root.length=32):(hdB h).length=80:=by simp only[hdB,a0G,bZ,h1,h2]
def dbl (N:Nat)(b:List Int):List Int:=sha256 N (sha256 N b)
omit hN in
theorem xY (N:Nat)(b:List Int):(dbl N b).length=32:=c5 _ _
omit hN in
theorem aWE (N:Nat)(b:List Int):Byt (dbl N b):=gJ _ _
theorem aRR (b:List Int)(hb:Byt b)(hl:b.length≤1000000):aCj N b=some (dbl N b):=by
 have h1:=c5 N b
 unfold aCj
 rw[aHV N hN b hb hl]
 simp only[a0F,aU h1]
 rw[aHV N hN _ (gJ N b) (by omega)]
 simp only[a0F,aU (c5 N _)]
 rfl
theorem aK6 (b:List Int)(hb:Byt b)(hl:b.length≤1000000):oY N b=some (dbl N b):=by
 have h1:=c5 N b
 unfold oY
 rw[yS N hN b hb hl]
 simp only[a0F,aU h1]
 rw[yS N hN _ (gJ N b) (by omega)]
 simp only[a0F,aU (c5 N _)]
 rfl
theorem aTE (h:bW)(h1:h.Prev.length=32)(h2:h.Root.length=32)(b1:Byt h.Prev)(b2:Byt h.Root):aBX N h=some (dbl N (hdB h)):=by
 unfold aBX
 rw[aRy N hN h h1 h2]
 simp only[a0F]
 rw[aRR N hN _ (aR1 b1 b2) (by rw[aA4 h1 h2];omega)]
 simp only[a0F,aU (xY N _)]
theorem aPB (h:bW)(h1:h.Prev.length=32)(h2:h.Root.length=32)(b1:Byt h.Prev)(b2:Byt h.Root):nI N h=some (dbl N (hdB h)):=by
 unfold nI
 rw[aNL N hN h h1 h2]
 simp only[a0F]
 rw[aK6 N hN _ (aR1 b1 b2) (by rw[aA4 h1 h2];omega)]
 simp only[a0F,aU (xY N _)]
end
theorem aOF : ∀l:List Int,iB l l=0
 | []=>rfl
 |a::l=>by unfold iB;rw[if_neg (by omega),if_neg (by omega)];exact aOF l
theorem aOL : ∀{l m:List Int},l.length=m.length→iB l m=0→l=m
 | [],[],_,_=>rfl
 |a::l,b::m,h,hc=>by
  unfold iB at hc
  split at hc
  ·omega
  split at hc
  ·omega
  rw[aOL (by simpa using h) hc,show a=b by omega]
 | [],_::_,h,_=>by simp at h
 |_::_,[],h,_=>by simp at h
theorem aMy : ∀{l m n:List Int},l.length=m.length→m.length=n.length→iB l m<0→iB m n<0→iB l n<0
 |a::l,b::m,c::n,h1,h2,k1,k2=>by
  unfold iB at k1 k2⊢
  by_cases ab:a<b
  ·by_cases bc:b<c
   ·rw[if_pos (by omega)];omega
   rw[if_neg bc]at k2
   by_cases cb:c<b
   ·rw[if_pos cb]at k2;omega
   rw[if_pos (by omega)];omega
  rw[if_neg ab]at k1
  by_cases ba:b<a
  ·rw[if_pos ba]at k1;omega
  rw[if_neg ba]at k1
  obtain rfl:a=b:=by omega
  by_cases bc:a<c
  ·rw[if_pos bc];omega
  rw[if_neg bc]at k2⊢
  by_cases cb:c<a
  ·rw[if_pos cb]at k2;omega
  rw[if_neg cb]at k2⊢
  exact aMy (by simpa using h1) (by simpa using h2) k1 k2
 | [],[],_,_,_,k1,_=>by unfold iB at k1;omega
 | [],_::_,_,h1,_,_,_=>by simp at h1
 |_::_,[],_,h1,_,_,_=>by simp at h1
 |_::_,_::_,[],_,h2,_,_=>by simp at h2
theorem aPV : ∀{l m:List Int}(x y:List Int),l.length=m.length→iB (l++x) (m++y)=if iB l m=0 then iB x y else iB l m
 | [],[],x,y,_=>by simp[iB]
 |a::l,b::m,x,y,h=>by
  show(if a<b then -1 else if b<a then 1 else iB (l++x) (m++y))=if(if a<b then -1 else if b<a then 1 else iB l m)=0 then iB x y else(if a<b then -1 else if b<a then 1 else iB l m)
  by_cases ab:a<b
  ·rw[if_pos ab,if_pos ab,if_neg (by omega)]
  rw[if_neg ab,if_neg ab]
  by_cases ba:b<a
  ·rw[if_pos ba,if_pos ba,if_neg (by omega)]
  rw[if_neg ba,if_neg ba]
  exact aPV x y (by simpa using h)
 | [],_::_,_,_,h=>by simp at h
 |_::_,[],_,_,h=>by simp at h
theorem aUt (x y:Int):iB [x] [y]=if x<y then -1 else if y<x then 1 else 0:=by
 unfold iB
 rfl
theorem aRV {a b:aC}(ha:a.Tx.length=32)(hb:b.Tx.length=32):eQ a b=if iB a.Tx b.Tx=0 then(if a.Index<b.Index then -1 else if b.Index<a.Index then 1 else 0)else iB a.Tx b.Tx:=by
 unfold eQ aNG
 rw[aPV _ _ (by rw[ha,hb]),aUt]
theorem aCH {a:aC}(ha:a.Tx.length=32):(aNG a).length=33:=by simp[aNG,ha]
theorem aEU {a b c:aC}(ha:a.Tx.length=32)(hb:b.Tx.length=32)(hc:c.Tx.length=32)(h1:eQ a b<0)(h2:eQ b c<0):eQ a c<0:=
 aMy (by rw[aCH ha,aCH hb]) (by rw[aCH hb,aCH hc]) h1 h2
theorem aA3 {a b:aC}(ha:a.Tx.length=32)(hb:b.Tx.length=32)(h:eQ a b=0):a=b:=by
 have:=aOL (by rw[aCH ha,aCH hb]) h
 unfold aNG at this
 obtain⟨h1,h2⟩:=List.append_inj this (by rw[ha,hb])
 obtain⟨t,i⟩:=a
 obtain⟨t',i'⟩:=b
 simp only[List.cons.injEq,and_true]at h2
 simp only at h1
 subst h1 h2
 rfl
theorem aA1 (a:aC):eQ a a=0:=aOF _
theorem aOi {N:Nat}{a b:aC}(ha:a.Tx.length=32)(hb:b.Tx.length=32): ∀(m j:Nat),32-j<m→j≤32→tK N a b m (j:Int)=some (if iB (a.Tx.drop j) (b.Tx.drop j)=0 then .brk ()else .ret (iB (a.Tx.drop j) (b.Tx.drop j)))
 |m+1,j,hm,hj=>by
  unfold tK
  by_cases hl:j<32
  ·rw[if_pos (decide_eq_true (by omega)),dC hl (by omega),dC hl (by omega),a0P (show j<a.Tx.length by omega),a0P (show j<b.Tx.length by omega)]
   simp only[a0F]
   unfold iB
   by_cases h1:a.Tx[j]<b.Tx[j]
   ·rw[if_pos (decide_eq_true h1),if_pos h1];rfl
   rw[if_neg (by simpa using h1),if_neg h1]
   by_cases h2:b.Tx[j]<a.Tx[j]
   ·rw[if_pos (decide_eq_true h2),if_pos h2];rfl
   rw[if_neg (by simpa using h2),if_neg h2,i1 (by omega)]
   exact aOi ha hb m (j+1) (by omega) (by omega)
  rw[if_neg (by simp;omega),a0R (by omega),a0R (by omega)]
  rfl
theorem aPA {N:Nat}(hN:70000≤N){a b:aC}(ha:a.Tx.length=32)(hb:b.Tx.length=32):uH N a b=some (eQ a b):=by
 unfold uH
 have:=aOi (N:=N) ha hb N 0 (by omega) (by omega)
 rw[show((0:Nat):Int)=0 from rfl,a0M,a0M]at this
 rw[this,aRV ha hb]
 by_cases h:iB a.Tx b.Tx=0
 ·rw[if_pos h,if_pos h]
  simp only[a0F,aAN]
  by_cases h1:a.Index<b.Index
  ·rw[if_pos (decide_eq_true h1),if_pos h1]
  rw[if_neg (by simpa using h1),if_neg h1]
  by_cases h2:b.Index<a.Index
  ·rw[if_pos (decide_eq_true h2),if_pos h2]
  rw[if_neg (by simpa using h2),if_neg h2]
 rw[if_neg h,if_neg h]
 rfl
theorem aVI {x y:Int}(hx:0≤x∧x<256)(hy:0≤y∧y<256):(x.toNat.toUInt8<y.toNat.toUInt8)=(x<y):=by
 apply propext
 rw[UInt8.lt_iff_toNat_lt]
 simp only[Nat.toUInt8,UInt8.toNat_ofNat']
 omega
theorem aY9 {x y:Int}(hx:0≤x∧x<256)(hy:0≤y∧y<256):(x.toNat.toUInt8=y.toNat.toUInt8)=(x=y):=by
 apply propext
 rw[←UInt8.toNat_inj]
 simp only[Nat.toUInt8,UInt8.toNat_ofNat']
 omega
theorem aTG {A B:ByteArray}: ∀(l m:List Int)(k:Nat),l.length=m.length→Byt l→Byt m→(∀i x,l[i]? =some x→A[k+i]! =x.toNat.toUInt8)→(∀i x,m[i]? =some x→B[k+i]! =x.toNat.toUInt8)→
  (match(a1j k l.length).find? (fun i=>A[i]! != B[i]!)with|some i=>if A[i]! < B[i]! then -1 else 1|none=>(0:Int))=iB l m
 | [],[],k,_,_,_,_,_=>rfl
 |a::l,b::m,k,h,hl,hm,hA,hB=>by
  have ea:A[k]! =a.toNat.toUInt8:=hA 0 a rfl
  have eb:B[k]! =b.toNat.toUInt8:=hB 0 b rfl
  have ba:=hl a (by simp)
  have bb:=hm b (by simp)
  rw[a0W,a05,List.find?_cons,ea,eb]
  unfold iB
  by_cases hab:a=b
  ·subst hab
   rw[show(a.toNat.toUInt8 != a.toNat.toUInt8)=false by simp,if_neg (by omega),if_neg (by omega)]
   simp only
   exact aTG l m (k+1) (by simpa using h) (fun x hx=>hl x (by simp[hx])) (fun x hx=>hm x (by simp[hx])) (fun i x hx=>by rw[show k+1+i=k+(i+1) by omega];exact hA (i+1) x (by simpa using hx)) (fun i x hx=>by rw[show k+1+i=k+(i+1) by omega];exact hB (i+1) x (by simpa using hx))
  have hne:(a.toNat.toUInt8 != b.toNat.toUInt8)=true:=by
   rw[bne_iff_ne]
   exact fun e=>hab ((aY9 ba bb).mp e)
  rw[hne]
  simp only
  rw[ea,eb]
  by_cases h1:a<b
  ·rw[if_pos ((aVI ba bb).mpr h1),if_pos h1]
  rw[if_neg (fun e=>h1 ((aVI ba bb).mp e)),if_neg h1,if_pos (by omega)]
 | [],_::_,_,h,_,_,_,_=>by simp at h
 |_::_,[],_,h,_,_,_,_=>by simp at h
theorem aTb {l:List Int}{i:Nat}{x:Int}(h:l[i]? =some x):(u8s l)[0+i]! =x.toNat.toUInt8:=by
 obtain⟨hi,hx⟩:=List.getElem?_eq_some_iff.1 h
 rw[Nat.zero_add]
 have hs:i<(u8s l).size:=by show i<(l.map fun x=>x.toNat.toUInt8).toArray.size;simpa using hi
 rw[getElem!_pos (u8s l) i hs]
 show(l.map fun x=>x.toNat.toUInt8).toArray[i]=_
 simp[hx]
theorem aUP {a b:List Int}(h:a.length=b.length)(ha:Byt a)(hb:Byt b):aQe a b=iB a b:=by
 have sa:(u8s a).size=a.length:=by show(a.map fun x=>x.toNat.toUInt8).toArray.size=_;simp
 have sb:(u8s b).size=b.length:=by show(b.map fun x=>x.toNat.toUInt8).toArray.size=_;simp
 have:=aTG (A:=u8s a) (B:=u8s b) a b 0 h ha hb (fun i x hx=>aTb hx) (fun i x hx=>aTb hx)
 rw[←this]
 unfold aQe Extern.BytealgCompare.cmp
 rw[sa,sb,←h,Nat.min_self,a1S,if_neg (by omega),if_neg (by omega)]
 generalize List.find? _ _=q
 cases q<;>rfl
theorem aPG {N:Nat}(hN:70000≤N){a b:aC}(ha:a.Tx.length=32)(hb:b.Tx.length=32)(ba:Byt a.Tx)(bb:Byt b.Tx):aCl N a b=some (eQ a b):=by
 have hself: ∀x:Int,(x != x)=false:=fun x=>by simp
 obtain⟨m,hm⟩: ∃m,N=m+1+1+1:=⟨N-3,by omega⟩
 unfold aCl aEy aBg xD tU
 rw[aU ha,aU hb,aUP (by rw[ha,hb]) ba bb,aRV ha hb]
 simp only[a0F,hself,a0J,if_false]
 have key: ∀x y:Int,aE3 N [x,y]=some (if x=0 then y else x):=fun x y=>by
  unfold aE3
  rw[show uK N [x,y] N 0=uK N [x,y] (m+1+1+1) 0 by rw[←hm]]
  simp only[uK,a0W,a1m,show decide ((0:Int)<((0+1+1:Nat):Int))=true from rfl,show decide ((1:Int)<((0+1+1:Nat):Int))=true from rfl,show decide ((2:Int)<((0+1+1:Nat):Int))=false from rfl,show a0L.wrap (0+1)=1 by decide +kernel,show a0L.wrap (1+1)=2 by decide +kernel,show aZ [x,y] 0=some x from rfl,show aZ [x,y] 1=some y from rfl,if_true,a0F,a0J,if_false,aEh]
  by_cases h0:x=0
  ·subst h0
   rw[if_pos rfl,if_neg (by simp)]
   by_cases h1:y=0
   ·subst h1;rfl
   rw[if_pos (by simpa using h1)];rfl
  rw[if_neg h0,if_pos (by simpa using h0)];rfl
 by_cases h1:a.Index<b.Index
 ·rw[if_pos (decide_eq_true h1),if_pos h1]
  simp only[a0F,key]
 rw[if_neg (by simpa using h1),if_neg h1]
 by_cases h2:b.Index<a.Index
 ·rw[if_pos (decide_eq_true h2),if_pos h2]
  simp only[a0F,key]
 rw[if_neg (by simpa using h2),if_neg h2]
 simp only[a0F,key]
def OkO (o:aC):Prop:=o.Tx.length=32∧Byt o.Tx
def aGX (h:Int)(c:aA):Bool:=decide (c.Output.Script.length≤520)&&(decide (1≤c.Height)&&decide (c.Height≤h))
def pT (h:Int):Option aC→List aA→Bool
 |_,[]=>true
 |none,c::cs=>aGX h c&&pT h (some c.Out) cs
 |some q,c::cs=>decide (eQ q c.Out<0)&&(aGX h c&&pT h (some c.Out) cs)
def u3 :Int→List aA→Bool
 |_,[]=>true
 |s,c::cs=>decide (0≤c.Output.Value)&&(decide (c.Output.Value≤2100000000000000-s)&&u3 (s+c.Output.Value) cs)
def eV :List aA→Int
 | []=>0
 |c::cs=>c.Output.Value+eV cs
def rR (l:List aA)(j:Nat):Option aC:=match j with
 |0=>none
 |k+1=>(l[k]?).map (·.Out)
theorem aJa {l:List aA}{j:Nat}(h:j<l.length):rR l (j+1)=some (l[j]).Out:=by
 simp[rR,h]
theorem aN7 {h:Int}{l:List aA}{j:Nat}(hj:j<l.length):pT h (rR l j) (l.drop j)=((match rR l j with|none=>true|some q=>decide (eQ q (l[j]).Out<0))&&(aGX h l[j]&&pT h (rR l (j+1)) (l.drop (j+1)))):=by
 rw[a0P hj,aJa hj]
 cases rR l j<;>simp[pT]
theorem aTD {s:Int}{l:List aA}{j:Nat}(hj:j<l.length):u3 s (l.drop j)=(decide (0≤l[j].Output.Value)&&(decide (l[j].Output.Value≤2100000000000000-s)&&u3 (s+l[j].Output.Value) (l.drop (j+1)))):=by
 rw[a0P hj];rfl
section
variable {N:Nat}(hN:70000≤N){l:aF}(hn:l.Coins.length≤1000)(hok: ∀c∈l.Coins,OkO c.Out)
include hN hn hok
theorem aOm : ∀(m j:Nat),l.Coins.length-j<m→j≤l.Coins.length→fH N l m (j:Int)=some (if pT l.Height (rR l.Coins j) (l.Coins.drop j)=true then .brk ()else .ret false)
 |m+1,j,hm,hj=>by
  unfold fH
  by_cases hl:j<l.Coins.length
  ·have tail: ∀b:Bool,mO N l (j:Int) (fH N l m) b=some (if(!b&&pT l.Height (rR l.Coins (j+1)) (l.Coins.drop (j+1)))=true then .brk ()else .ret false):=fun b=>by
    unfold mO
    cases b
    ·rw[if_neg (by simp),i1 (by omega),aOm m (j+1) (by omega) (by omega)]
     simp
    rfl
   have tail2: ∀b:Bool,mA N l (j:Int) l.Coins[j] (fH N l m) b=some (if(!b&&(aGX l.Height l.Coins[j]&&pT l.Height (rR l.Coins (j+1)) (l.Coins.drop (j+1))))=true then .brk ()else .ret false):=fun b=>by
    unfold mA
    cases b
    ·rw[if_neg (by simp)]
     simp only[tail]
     unfold aGX
     by_cases h1:l.Coins[j].Output.Script.length≤520
     ·rw[if_neg (by simp;omega),decide_eq_true h1]
      by_cases h2:1≤l.Coins[j].Height
      ·rw[if_neg (by simp;omega),decide_eq_true h2]
       by_cases h3:l.Coins[j].Height≤l.Height
       ·rw[decide_eq_false (show¬l.Height<l.Coins[j].Height by omega),decide_eq_true h3];simp
       rw[decide_eq_true (show l.Height<l.Coins[j].Height by omega),decide_eq_false h3];simp
      rw[if_pos (decide_eq_true (by omega)),decide_eq_false h2];simp
     rw[if_pos (decide_eq_true (by omega)),decide_eq_false h1];simp
    rfl
   rw[if_pos (dT hl),bA _ hl,aN7 hl]
   simp only[a0F]
   cases j with
   |zero=>
    rw[if_neg (by simp)]
    have:=tail2 false
    simpa[rR]using this
   |succ k=>
    rw[if_pos (decide_eq_true (by omega)),cJ (by omega) (by omega),show((k+1:Nat):Int)-1=(k:Int) by omega,bA _ (show k<l.Coins.length by omega)]
    simp only[a0F]
    have o1:=hok _ (a0H (show k<l.Coins.length by omega))
    have o2:=hok _ (a0H hl)
    rw[aPG hN o1.1 o2.1 o1.2 o2.2]
    simp only[a0F]
    rw[tail2]
    simp only[aJa (show k<l.Coins.length by omega)]
    by_cases hc:eQ l.Coins[k].Out l.Coins[k+1].Out<0
    ·rw[decide_eq_false (show¬0≤eQ l.Coins[k].Out l.Coins[k+1].Out by omega),decide_eq_true hc];simp
    rw[decide_eq_true (show 0≤eQ l.Coins[k].Out l.Coins[k+1].Out by omega),decide_eq_false hc];simp
  rw[if_neg (by simp;omega),a0R (by omega)]
  cases rR l.Coins j<;>rfl
omit hok in
theorem aJ9 {cs:List aA}(hcs:cs.length≤1000): ∀(m j:Nat)(s:Int),cs.length-j<m→j≤cs.length→0≤s→s≤2100000000000000→l8 N cs m s (j:Int)=some (if u3 s (cs.drop j)=true then .brk (s+eV (cs.drop j))else .ret (0,false))
 |m+1,j,s,hm,hj,h0,h1=>by
  unfold l8
  by_cases hl:j<cs.length
  ·rw[if_pos (dT hl),bA _ hl,a0P hl]
   rw[show u3 s (cs[j]::cs.drop (j+1))=(decide (0≤cs[j].Output.Value)&&(decide (cs[j].Output.Value≤2100000000000000-s)&&u3 (s+cs[j].Output.Value) (cs.drop (j+1))))from rfl,show eV (cs[j]::cs.drop (j+1))=cs[j].Output.Value+eV (cs.drop (j+1))from rfl]
   simp only[a0F]
   rw[cJ (a:=2100000000000000-s) (by omega) (by omega)]
   by_cases hv:0≤cs[j].Output.Value
   ·rw[if_neg (by simp;omega),decide_eq_true hv]
    unfold vY
    by_cases hb:cs[j].Output.Value≤2100000000000000-s
    ·rw[if_neg (by simp;omega),decide_eq_true hb,i1 (by omega),cJ (by omega) (by omega),aJ9 hcs m (j+1) _ (by omega) (by omega) (by omega) (by omega)]
     simp only[a03]
     split
     ·congr 2;omega
     rfl
    rw[if_pos (decide_eq_true (by omega)),decide_eq_false hb];rfl
   rw[if_pos (decide_eq_true (by omega)),decide_eq_false hv];rfl
  rw[if_neg (by simp;omega),a0R (by omega)]
  simp[u3,eV]
def aId (l:aF):Bool:=decide (0≤l.Height)&&(decide (l.Height≤16777216)&&(pT l.Height none l.Coins&&u3 0 l.Coins))
theorem aX5 :wY N l=some (aId l):=by
 have L:=aOm hN hn hok N 0 (by omega) (by omega)
 have T:=aJ9 hN hn hn N 0 0 (by omega) (by omega) (by omega) (by omega)
 rw[show((0:Nat):Int)=0 from rfl,a0M]at L T
 have body:kI N l false=some (pT l.Height none l.Coins&&u3 0 l.Coins):=by
  unfold kI
  rw[if_neg (by simp),L]
  show(some (if pT l.Height none l.Coins=true then LR.brk ()else LR.ret false)).bind _=_
  cases pT l.Height none l.Coins
  ·rfl
  simp only[if_true,a0F,aBr]
  unfold oZ
  rw[T]
  cases u3 0 l.Coins<;>rfl
 unfold wY aId
 by_cases h1:0≤l.Height
 ·rw[if_neg (by simp;omega),decide_eq_true h1]
  by_cases h2:l.Height≤16777216
  ·rw[if_neg (by simp;omega),decide_eq_true h2,decide_eq_false (show¬(100000:Int)<(l.Coins.length:Int) by omega),body]
   rfl
  rw[if_pos (decide_eq_true (by omega)),decide_eq_false h2];rfl
 rw[if_pos (decide_eq_true (by omega)),decide_eq_false h1];rfl
theorem aOC : ∀(m j:Nat)(s:Int),l.Coins.length-j<m→j≤l.Coins.length→0≤s→s≤2100000000000000→eJ N l m s (j:Int)=some (if(pT l.Height (rR l.Coins j) (l.Coins.drop j)&&u3 s (l.Coins.drop j))=true then .brk ()else .ret false)
 |m+1,j,s,hm,hj,h0,h1=>by
  unfold eJ
  by_cases hl:j<l.Coins.length
  ·have tail: ∀b:Bool,(b=false→0≤l.Coins[j].Output.Value∧l.Coins[j].Output.Value≤2100000000000000)→nX N l s (j:Int) l.Coins[j] (eJ N l m) b=some (if(!b&&(decide (l.Coins[j].Output.Value≤2100000000000000-s)&&(pT l.Height (rR l.Coins (j+1)) (l.Coins.drop (j+1))&&u3 (s+l.Coins[j].Output.Value) (l.Coins.drop (j+1)))))=true then .brk ()else .ret false):=fun b hb=>by
    unfold nX
    cases b
    ·obtain⟨v0,v1⟩:=hb rfl
     rw[if_neg (by simp),cJ (by omega) (by omega)]
     by_cases hv:l.Coins[j].Output.Value≤2100000000000000-s
     ·rw[if_neg (by simp;omega),i1 (by omega),aOC m (j+1) _ (by omega) (by omega) (by omega) (by omega),decide_eq_true hv]
      simp
     rw[if_pos (decide_eq_true (by omega)),decide_eq_false hv];rfl
    rfl
   have tail2: ∀b:Bool,iD N l s (j:Int) l.Coins[j] (eJ N l m) b=some (if(!b&&(decide (l.Coins[j].Output.Script.length≤520)&&(decide (0≤l.Coins[j].Output.Value)&&(decide (l.Coins[j].Output.Value≤2100000000000000-s)&&(pT l.Height (rR l.Coins (j+1)) (l.Coins.drop (j+1))&&u3 (s+l.Coins[j].Output.Value) (l.Coins.drop (j+1)))))))=true then .brk ()else .ret false):=fun b=>by
    unfold iD
    cases b
    ·rw[if_neg (by simp)]
     by_cases v0:0≤l.Coins[j].Output.Value
     ·rw[if_neg (by simp;omega),decide_eq_true v0]
      by_cases v1:l.Coins[j].Output.Value≤2100000000000000
      ·rw[if_neg (by simp;omega),tail _ (fun _=>⟨v0,v1⟩)]
       by_cases hs:l.Coins[j].Output.Script.length≤520
       ·rw[decide_eq_true hs,decide_eq_false (show¬(520:Int)<(l.Coins[j].Output.Script.length:Int) by omega)];simp
       rw[decide_eq_false hs,decide_eq_true (show(520:Int)<(l.Coins[j].Output.Script.length:Int) by omega)];simp
      rw[if_pos (decide_eq_true (by omega)),tail _ (fun h=>by cases h),decide_eq_false (show¬l.Coins[j].Output.Value≤2100000000000000-s by omega)];simp
     rw[if_pos (decide_eq_true (by omega)),tail _ (fun h=>by cases h),decide_eq_false v0];simp
    rfl
   have fin: ∀(a b c d e f g:Bool),(a&&(b&&(c&&d)&&e))=(a&&(c&&(d&&(b&&e)))):=by intro a b c d e f g;cases a<;>cases b<;>cases c<;>cases d<;>cases e<;>rfl
   rw[if_pos (dT hl),bA _ hl,aN7 hl,aTD hl]
   simp only[a0F]
   rw[show aGX l.Height l.Coins[j]=(decide (l.Coins[j].Output.Script.length≤520)&&(decide (1≤l.Coins[j].Height)&&decide (l.Coins[j].Height≤l.Height)))from rfl]
   have hh:(decide (1≤l.Coins[j].Height)= !decide (l.Coins[j].Height<1))∧(decide (l.Coins[j].Height≤l.Height)= !decide (l.Height<l.Coins[j].Height)):=by
    constructor
    ·by_cases h:l.Coins[j].Height<1
     ·rw[decide_eq_true h,decide_eq_false (by omega)];rfl
     rw[decide_eq_false h,decide_eq_true (by omega)];rfl
    by_cases h:l.Height<l.Coins[j].Height
    ·rw[decide_eq_true h,decide_eq_false (by omega)];rfl
    rw[decide_eq_false h,decide_eq_true (by omega)];rfl
   rw[hh.1,hh.2]
   cases j with
   |zero=>
    rw[if_neg (by simp)]
    simp only[tail2,rR,a03]
    cases decide (l.Coins[0].Height<1)<;>cases decide (l.Height<l.Coins[0].Height)<;>cases decide (l.Coins[0].Output.Script.length≤520)<;>cases decide (0≤l.Coins[0].Output.Value)<;>cases decide (l.Coins[0].Output.Value≤2100000000000000-s)<;>simp
   |succ k=>
    rw[if_pos (decide_eq_true (by omega)),cJ (by omega) (by omega),show((k+1:Nat):Int)-1=(k:Int) by omega,bA _ (show k<l.Coins.length by omega)]
    simp only[a0F]
    have o1:=hok _ (a0H (show k<l.Coins.length by omega))
    have o2:=hok _ (a0H hl)
    rw[aPA hN o1.1 o2.1]
    simp only[a0F]
    simp only[tail2,aJa (show k<l.Coins.length by omega)]
    by_cases hc:eQ l.Coins[k].Out l.Coins[k+1].Out<0
    ·rw[decide_eq_false (show¬0≤eQ l.Coins[k].Out l.Coins[k+1].Out by omega),decide_eq_true hc]
     cases decide (l.Coins[k+1].Height<1)<;>cases decide (l.Height<l.Coins[k+1].Height)<;>cases decide (l.Coins[k+1].Output.Script.length≤520)<;>cases decide (0≤l.Coins[k+1].Output.Value)<;>cases decide (l.Coins[k+1].Output.Value≤2100000000000000-s)<;>simp
    rw[decide_eq_true (show 0≤eQ l.Coins[k].Out l.Coins[k+1].Out by omega),decide_eq_false hc]
    simp
  rw[if_neg (by simp;omega),a0R (by omega)]
  cases rR l.Coins j<;>rfl
theorem aPI :z7 N l=some (aId l):=by
 have L:=aOC hN hn hok N 0 0 (by omega) (by omega) (by omega) (by omega)
 rw[show((0:Nat):Int)=0 from rfl,a0M]at L
 have body:lH N l false=some (pT l.Height none l.Coins&&u3 0 l.Coins):=by
  unfold lH
  rw[if_neg (by simp),L]
  show(some (if(pT l.Height none l.Coins&&u3 0 l.Coins)=true then LR.brk ()else LR.ret false)).bind _=_
  cases pT l.Height none l.Coins&&u3 0 l.Coins<;>rfl
 unfold z7 aId
 by_cases h1:0≤l.Height
 ·rw[if_neg (by simp;omega),decide_eq_true h1]
  by_cases h2:l.Height≤16777216
  ·rw[if_neg (by simp;omega),decide_eq_true h2,decide_eq_false (show¬(100000:Int)<(l.Coins.length:Int) by omega),body]
   rfl
  rw[if_pos (decide_eq_true (by omega)),decide_eq_false h2];rfl
 rw[if_pos (decide_eq_true (by omega)),decide_eq_false h1];rfl
end
def fI (o:aC):Int→List aA→Int
 |_,[]=> -1
 |j,c::cs=>if eQ c.Out o=0 then j else fI o (j+1) cs
theorem eqP {a b:aC}(ha:a.Tx.length=32)(hb:b.Tx.length=32):jS a.Tx b.Tx ((a.Index == b.Index)&&true)=decide (eQ a b=0):=by
 rw[aOp ha hb,Bool.and_true]
 by_cases h:eQ a b=0
 ·obtain rfl:=aA3 ha hb h
  rw[decide_eq_true h];simp
 rw[decide_eq_false h]
 rw[Bool.and_eq_false_iff]
 by_cases ht:a.Tx=b.Tx
 ·refine .inr ?_
  rw[beq_eq_false_iff_ne]
  intro hi
  apply h
  obtain⟨t,i⟩:=a
  obtain⟨t',i'⟩:=b
  simp only at ht hi
  subst ht hi
  exact aA1 _
 exact .inl (by rw[beq_eq_false_iff_ne];exact ht)
section
variable {N:Nat}(hN:70000≤N){cs:List aA}(hn:cs.length≤1000)(hok: ∀c∈cs,OkO c.Out){o:aC}(ho:OkO o)
include hN hn hok ho
theorem aM8 : ∀(m j:Nat),cs.length-j<m→j≤cs.length→((aAl N cs o m (j:Int)).bind fun q=>match q with | .ret v=>some v | .brk _=>aD8 N)=some (fI o (j:Int) (cs.drop j))
 |m+1,j,hm,hj=>by
  unfold aAl
  by_cases hl:j<cs.length
  ·have o1:=hok _ (a0H hl)
   rw[if_pos (dT hl),bA _ hl,a0P hl]
   simp only[a0F,fI]
   rw[eqP o1.1 ho.1]
   by_cases hc:eQ cs[j].Out o=0
   ·rw[if_pos (decide_eq_true hc),if_pos hc];rfl
   rw[if_neg (by simpa using hc),if_neg hc,i1 (by omega),aM8 m (j+1) (by omega) (by omega)]
   rw[show((j+1:Nat):Int)=(j:Int)+1 by omega]
  rw[if_neg (by simp;omega),a0R (by omega)]
  rfl
theorem aZA :yL N cs o=some (fI o 0 cs):=by
 have:=aM8 hN hn hok ho N 0 (by omega) (by omega)
 rw[show((0:Nat):Int)=0 from rfl,a0M]at this
 exact this
omit hN hn hok ho in
omit hN hn hok ho in
end
structure aMj (ins:List bL)(outs:List aQ):Prop where
 ni:ins.length≤70
 no:outs.length≤70
 wit: ∀x∈ins,x.Witness.length≤40∧ ∀w∈x.Witness,w.length≤600
 scr: ∀o∈outs,o.Script.length≤600
 tx: ∀x∈ins,x.Prev.Tx.length=32
def inB (x:bL):List Int:=(x.Prev.Tx++nG x.Prev.Index)++nG x.Sequence
def itB (w:List Int):List Int:=zT w.length++w
def wiB (x:bL):List Int:=zT x.Witness.length++x.Witness.flatMap itB
def u4 (v:Int)(ins:List bL)(outs:List aQ)(lock:Int)(wit:Bool):List Int:=
 ((((nG v++zT ins.length)++ins.flatMap inB)++zT outs.length)++outs.flatMap qY)++nG lock++(if wit then ins.flatMap wiB else [])
theorem aC7 {α:Type}{g:α→List Int}{c:Nat}: ∀(l:List α),(∀x∈l,(g x).length≤c)→(l.flatMap g).length≤l.length*c
 | [],_=>by simp
 |x::l,h=>by
  have h1:=h x (by simp)
  have h2:=aC7 l (fun y hy=>h y (by simp[hy]))
  rw[a1D,a0G,a0W,Nat.add_mul,Nat.one_mul];omega
theorem aP3 {w:List Int}(h:w.length≤600):(itB w).length≤605:=by have:=iV w.length;simp only[itB,a0G];omega
theorem aYv {x:bL}(h:x.Witness.length≤40∧ ∀w∈x.Witness,w.length≤600):(wiB x).length≤24205:=by
 have h1:=iV x.Witness.length
 have h2:=aC7 (g:=itB) (c:=605) x.Witness (fun w hw=>aP3 (h.2 w hw))
 have h3:=a02 605 h.1
 simp only[wiB,a0G];omega
theorem aNp {x:bL}(h:x.Prev.Tx.length=32):(inB x).length=40:=by simp[inB,bZ,h]
theorem aHY {o:aQ}(h:o.Script.length≤600):(qY o).length≤613:=by
 have:=iV o.Script.length
 simp only[qY,a0G,aFv];omega
theorem aH7 {ins:List bL}{outs:List aQ}(K:aMj ins outs):(ins.flatMap inB).length≤2800:=by
 have:=aC7 (g:=inB) (c:=40) ins (fun x hx=>Nat.le_of_eq (aNp (K.tx x hx)))
 have:=a02 40 K.ni
 omega
theorem aF7 {ins:List bL}{outs:List aQ}(K:aMj ins outs):(outs.flatMap qY).length≤42910:=by
 have:=aC7 (g:=qY) (c:=613) outs (fun x hx=>aHY (K.scr x hx))
 have:=a02 613 K.no
 omega
theorem aR6 {ins:List bL}{outs:List aQ}(K:aMj ins outs):(ins.flatMap wiB).length≤1694350:=by
 have:=aC7 (g:=wiB) (c:=24205) ins (fun x hx=>aYv (K.wit x hx))
 have:=a02 24205 K.ni
 omega
theorem nle (a b:Nat):decide ((a:Int)<(b:Int))= !decide (b≤a):=by
 by_cases h:a<b
 ·rw[decide_eq_true (by omega),decide_eq_false (by omega)];rfl
 rw[decide_eq_false (by omega),decide_eq_true (by omega)];rfl
theorem dle (n:Nat):decide ((n:Int)≤20000)=decide (n≤20000):=by
 by_cases h:n≤20000
 ·rw[decide_eq_true h,decide_eq_true (by omega)]
 rw[decide_eq_false h,decide_eq_false (by omega)]
def aSG (o:aQ):Bool:= !decide (o.Value<0)&&decide (o.Script.length≤520)
def aSJ (x:bL):Bool:=decide (x.Witness.length≤32)&&x.Witness.all fun w=>decide (w.length≤520)
def nB (v:Int)(ins:List bL)(outs:List aQ)(lock:Int):Bool:=
 decide (ins.length≤64)&&decide (outs.length≤64)&&outs.all aSG&&ins.all aSJ&&decide ((u4 v ins outs lock true).length≤20000)
section
variable (N:Nat)(hN:70000≤N){t:aD}(K:aMj t.Inputs t.Outputs)
include hN K
theorem rL8 (b:Bool)(acc:List Int)(h:acc.length≤100000):mL N t b N 0 acc=some (acc++t.Inputs.flatMap inB):=by
 have hn:=K.ni
 have hl:=aH7 K
 refine nQ (f:=mL N t b) (xs:=t.Inputs) (g:=inB) (B:=200000) (by omega) (fun m j acc hj hB=> ?_) (fun m j acc hj=> ?_) N 0 acc (by omega) (by omega) (by rw[a0M];omega)
 ·have ht:=K.tx _ (a0H hj)
  rw[aNp ht]at hB
  rw[mL,dT hj,if_pos rfl,bA t.Inputs hj]
  simp only[a0F,aTa N hN _ ht]
  rw[jG (by simp[bZ];omega)]
  simp only[a0F]
  rw[aCg N hN (acc++(t.Inputs[j].Prev.Tx++nG t.Inputs[j].Prev.Index)) _ (by simp[bZ];omega)]
  simp only[a0F,i1 (show j≤100000 by omega),inB,a0N]
 rw[mL,dF (by omega)];rfl
theorem rL7 (b:Bool)(acc:List Int)(h:acc.length≤100000):mB N t b N 0 acc=some (acc++t.Outputs.flatMap qY):=by
 have hn:=K.no
 have hl:=aF7 K
 refine nQ (f:=mB N t b) (xs:=t.Outputs) (g:=qY) (B:=200000) (by omega) (fun m j acc hj hB=> ?_) (fun m j acc hj=> ?_) N 0 acc (by omega) (by omega) (by rw[a0M];omega)
 ·have ht:=K.scr _ (a0H hj)
  rw[mB,dT hj,if_pos rfl,bA t.Outputs hj]
  simp only[a0F,aUF N hN _ ht]
  rw[jG (by omega)]
  simp only[a0F,i1 (show j≤100000 by omega)]
 rw[mB,dF (by omega)];rfl
theorem rL6 (b:Bool)(x:Int)(w:bL)(hw:w.Witness.length≤40∧ ∀z∈w.Witness,z.length≤600)(acc:List Int)(h:acc.length≤5000000):mF N t b x w N 0 acc=some (acc++w.Witness.flatMap itB):=by
 have hl:=aC7 (g:=itB) (c:=605) w.Witness (fun z hz=>aP3 (hw.2 z hz))
 have:=a02 605 hw.1
 refine nQ (f:=mF N t b x w) (xs:=w.Witness) (g:=itB) (B:=6000000) (by omega) (fun m j acc hj hB=> ?_) (fun m j acc hj=> ?_) N 0 acc (by omega) (by omega) (by rw[a0M];omega)
 ·have ht:=hw.2 _ (a0H hj)
  rw[mF,dT hj,if_pos rfl,bA w.Witness hj]
  simp only[a0F]
  rw[aS7 N hN acc _ (show w.Witness[j].length≤1000000 by omega) (by omega)]
  simp only[a0F,i1 (show j≤100000 by omega),itB]
 rw[mF,dF (by omega)];rfl
theorem rL4 (acc:List Int)(h:acc.length≤1000000):eW N t true N 0 acc=some (acc++t.Inputs.flatMap wiB):=by
 have hn:=K.ni
 have hl:=aR6 K
 refine nQ (f:=eW N t true) (xs:=t.Inputs) (g:=wiB) (B:=4000000) (by omega) (fun m j acc hj hB=> ?_) (fun m j acc hj=> ?_) N 0 acc (by omega) (by omega) (by rw[a0M];omega)
 ·have ht:=K.wit _ (a0H hj)
  have hs:=iV t.Inputs[j].Witness.length
  rw[eW,dT hj,if_pos rfl,bA t.Inputs hj]
  simp only[a0F,a06,a0J,if_false]
  rw[aGN N hN acc _ (show t.Inputs[j].Witness.length≤1000000 by omega) (by omega)]
  simp only[a0F]
  rw[rL6 N hN K _ _ _ ht _ (by rw[a0G];omega)]
  simp only[a0F,aCn,i1 (show j≤100000 by omega),wiB,a0N]
 rw[eW,dF (by omega)];rfl
theorem aBE :gW N t true=some (u4 t.Version t.Inputs t.Outputs t.Lock true):=by
 have hn:=K.ni
 have ho:=K.no
 have h1:=iV t.Inputs.length
 have h2:=iV t.Outputs.length
 have h3:=aH7 K
 have h4:=aF7 K
 simp only[gW,aCg N hN [] _ (by simp),a0F,a0K]
 rw[aGN N hN (nG t.Version) _ (show t.Inputs.length≤1000000 by omega) (by rw[bZ];omega)]
 simp only[a0F]
 rw[rL8 N hN K _ _ (by rw[a0G,bZ];omega)]
 simp only[a0F,vN]
 rw[aGN N hN _ _ (show t.Outputs.length≤1000000 by omega) (by simp only[a0G,bZ];omega)]
 simp only[a0F]
 rw[rL7 N hN K _ _ (by simp only[a0G,bZ];omega)]
 simp only[a0F,vM]
 rw[aCg N hN _ _ (by simp only[a0G,bZ];omega)]
 simp only[a0F]
 rw[rL4 N hN K _ (by simp only[a0G,bZ];omega)]
 rfl
end
theorem pB (N:Nat)(hN:70000≤N){t:aD}(K:aMj t.Inputs t.Outputs):gH N t=some (nB t.Version t.Inputs t.Outputs t.Lock):=by
 have k1:=K.ni
 have k2:=K.no
 unfold gH nB
 rw[show(64:Int)=((64:Nat):Int)from rfl,nle,nle]
 by_cases h:t.Inputs.length≤64
 ·rw[decide_eq_true h]
  simp only[a06,a0J,if_false,a03,pY]
  by_cases h2:t.Outputs.length≤64
  ·rw[decide_eq_true h2]
   simp only[a06,a0J,if_false,a03]
   have l7:=aAR (f:=hY N t) (xs:=t.Outputs) (p:=aSG) (r:=false) (fun m j hj=>by
     rw[hY,dT hj,if_pos rfl,bA t.Outputs hj]
     simp only[a0F,show(520:Int)=((520:Nat):Int)from rfl,nle,i1 (show j≤100000 by omega),uJ]
     rw[show aSG t.Outputs[j]=(!decide (t.Outputs[j].Value<0)&&decide (t.Outputs[j].Script.length≤520))from rfl]
     cases decide (t.Outputs[j].Value<0)<;>cases decide (t.Outputs[j].Script.length≤520)<;>rfl) (fun m j hj=>by rw[hY,dF (by omega)];rfl) N 0 (by omega) (by omega)
   have l6: ∀(x:Int)(w:bL),w.Witness.length≤32→kU N t x w N 0=some (if(w.Witness.all fun w=>decide (w.length≤520))=true then .brk ()else .ret false):=fun x w hw=>by
    have:=aAR (f:=kU N t x w) (xs:=w.Witness) (p:=fun w=>decide (w.length≤520)) (r:=false) (fun m j hj=>by
     rw[kU,dT hj,if_pos rfl,bA w.Witness hj]
     simp only[a0F,show(520:Int)=((520:Nat):Int)from rfl,nle,i1 (show j≤100000 by omega)]
     cases decide (w.Witness[j].length≤520)<;>rfl) (fun m j hj=>by rw[kU,dF (by omega)];rfl) N 0 (by omega) (by omega)
    rw[show((0:Nat):Int)=0 from rfl,a0M]at this
    exact this
   have l4:=aAR (f:=jA N t) (xs:=t.Inputs) (p:=aSJ) (r:=false) (fun m j hj=>by
     rw[jA,dT hj,if_pos rfl,bA t.Inputs hj]
     simp only[a0F,show(32:Int)=((32:Nat):Int)from rfl,nle,i1 (show j≤100000 by omega)]
     rw[show aSJ t.Inputs[j]=(decide (t.Inputs[j].Witness.length≤32)&&t.Inputs[j].Witness.all fun w=>decide (w.length≤520))from rfl]
     by_cases hw:t.Inputs[j].Witness.length≤32
     ·rw[decide_eq_true hw]
      simp only[a06,a0J,if_false,a03,l6 _ _ hw,a0F,aAo]
      cases t.Inputs[j].Witness.all fun w=>decide (w.length≤520)
      ·rfl
      simp only[if_true,i1 (show j≤100000 by omega)]
     rw[decide_eq_false hw];rfl) (fun m j hj=>by rw[jA,dF (by omega)];rfl) N 0 (by omega) (by omega)
   rw[show((0:Nat):Int)=0 from rfl,a0M]at l7 l4
   rw[l7]
   cases t.Outputs.all aSG
   ·rfl
   simp only[a0F,if_true,uG,l4,a03]
   cases t.Inputs.all aSJ
   ·rfl
   simp only[a0F,if_true,aAB,aBE N hN K,a03]
   rw[dle]
  rw[decide_eq_false h2];rfl
 rw[decide_eq_false h];rfl
structure aYn (t:aD):Prop where
 prev: ∀x∈t.Inputs,Byt x.Prev.Tx
 wit: ∀x∈t.Inputs,∀w∈x.Witness,Byt w
 scr: ∀o∈t.Outputs,Byt o.Script
structure TxK (t:aD):Prop where
 k:aMj t.Inputs t.Outputs
 b:aYn t
theorem xK (w:Nat)(v:Int):Byt (zD w v):=by
 intro x hx
 simp only[zD,a1d]at hx
 obtain⟨i,_,rfl⟩:=hx
 exact aDZ _
theorem y0 (n:Nat):Byt (zT n):=by
 unfold zT
 split
 ·exact xK _ _
 split
 ·intro x hx
  rcases a09.1 hx with rfl|h
  ·omega
  exact xK _ _ x h
 intro x hx
 rcases a09.1 hx with rfl|h
 ·omega
 exact xK _ _ x h
theorem aIr {α:Type}{g:α→List Int}{l:List α}(h: ∀x∈l,Byt (g x)):Byt (l.flatMap g):=by
 intro y hy
 obtain⟨x,hx,hy⟩:=List.mem_flatMap.1 hy
 exact h x hx y hy
theorem aC5 :Byt []:=fun _ h=>by cases h
theorem aJd {t:aD}(B:aYn t)(w:Bool):Byt (u4 t.Version t.Inputs t.Outputs t.Lock w):=by
 unfold u4
 refine Byt.append (Byt.append (Byt.append (Byt.append (Byt.append (Byt.append (gG _) (y0 _)) (aIr fun x hx=> ?_)) (y0 _)) (aIr fun o ho=> ?_)) (gG _)) ?_
 ·exact((B.prev x hx).append (gG _)).append (gG _)
 ·exact(xK _ _).append ((y0 _).append (B.scr o ho))
 cases w
 ·exact aC5
 exact aIr fun x hx=>(y0 _).append (aIr fun z hz=>(y0 _).append (B.wit x hx z hz))
section
variable (N:Nat)(hN:70000≤N){t:aD}(T:TxK t)
include hN T
theorem a0h (acc:List Int):eW N t false N 0 acc=some acc:=by
 obtain⟨m,hm⟩: ∃m,N=m+1:=⟨N-1,by omega⟩
 rw[show eW N t false N 0 acc=eW N t false (m+1) 0 acc by rw[←hm]]
 unfold eW
 by_cases h:0<t.Inputs.length
 ·rw[if_pos (decide_eq_true (by omega)),show(0:Int)=((0:Nat):Int)from rfl,bA _ h]
  rfl
 rw[if_neg fun hq=>h (by have:=of_decide_eq_true hq;omega)]
theorem aOx :gW N t false=some (u4 t.Version t.Inputs t.Outputs t.Lock false):=by
 have K:=T.k
 have hn:=K.ni
 have ho:=K.no
 have h1:=iV t.Inputs.length
 have h2:=iV t.Outputs.length
 have h3:=aH7 K
 have h4:=aF7 K
 simp only[gW,aCg N hN [] _ (by simp),a0F,a0K]
 rw[aGN N hN (nG t.Version) _ (show t.Inputs.length≤1000000 by omega) (by rw[bZ];omega)]
 simp only[a0F]
 rw[rL8 N hN K _ _ (by rw[a0G,bZ];omega)]
 simp only[a0F,vN]
 rw[aGN N hN _ _ (show t.Outputs.length≤1000000 by omega) (by simp only[a0G,bZ];omega)]
 simp only[a0F]
 rw[rL7 N hN K _ _ (by simp only[a0G,bZ];omega)]
 simp only[a0F,vM]
 rw[aCg N hN _ _ (by simp only[a0G,bZ];omega)]
 simp only[a0F]
 rw[a0h N hN T]
 simp[aBc,u4]
theorem aFw (h:nB t.Version t.Inputs t.Outputs t.Lock=true)(w:Bool):(u4 t.Version t.Inputs t.Outputs t.Lock w).length≤20000:=by
 have h1:(u4 t.Version t.Inputs t.Outputs t.Lock true).length≤20000:=by
  simp only[nB,a1G,decide_eq_true_eq]at h
  omega
 cases w
 ·refine a1P ?_ h1
  unfold u4
  simp
 exact h1
def fL (h:List Int):Prop:=h.length=32∧Byt h
omit hN T in
theorem aPi :fL [0,0,0,0,0,0,0,0,0,0,0,0,0,0,0,0,0,0,0,0,0,0,0,0,0,0,0,0,0,0,0,0]:=⟨rfl,by intro x hx;simp at hx;omega⟩
omit hN T in
theorem aPP (N:Nat)(b:List Int):fL (dbl N b):=⟨xY N b,aWE N b⟩
theorem aTS : ∃h,fL h∧aAX N t=some h:=by
 unfold aAX
 rw[pB N hN T.k]
 simp only[a0F]
 cases hf:nB t.Version t.Inputs t.Outputs t.Lock with
 |false=>exact⟨_,aPi,rfl⟩
 |true=>
  refine⟨dbl N (u4 t.Version t.Inputs t.Outputs t.Lock false),aPP _ _, ?_⟩
  have:=aFw N hN T hf false
  rw[if_neg (by simp),aOx N hN T]
  simp only[a0F]
  rw[aK6 N hN _ (aJd T.b false) (by omega)]
  simp only[a0F,aU (xY N _)]
theorem aQj : ∃h,fL h∧yM N t=some h:=by
 unfold yM
 rw[pB N hN T.k]
 simp only[a0F]
 cases hf:nB t.Version t.Inputs t.Outputs t.Lock with
 |false=>exact⟨_,aPi,rfl⟩
 |true=>
  refine⟨dbl N (u4 t.Version t.Inputs t.Outputs t.Lock true),aPP _ _, ?_⟩
  have:=aFw N hN T hf true
  rw[if_neg (by simp),aBE N hN T.k]
  simp only[a0F]
  rw[aK6 N hN _ (aJd T.b true) (by omega)]
  simp only[a0F,aU (xY N _)]
end
def Ok {α:Type}(x:Option α)(Q:α→Prop):Prop:= ∃r,x=some r∧Q r
theorem Ok.pure {α:Type}{Q:α→Prop}{a:α}(h:Q a):Ok (some a) Q:=⟨a,rfl,h⟩
theorem Ok.bind {α β:Type}{x:Option α}{P:α→Prop}{k:α→Option β}{Q:β→Prop}(h:Ok x P)(g: ∀a,P a→Ok (k a) Q):Ok (x.bind k) Q:=by
 obtain⟨a,rfl,ha⟩:=h
 exact g a ha
theorem Ok.eq {α β:Type}{x:Option α}{a:α}{k:α→Option β}{Q:β→Prop}(h:x=some a)(g:Ok (k a) Q):Ok (x.bind k) Q:=by
 rw[h];exact g
theorem Ok.ite {α:Type}{c:Prop} [Decidable c] {x y:Option α} {Q:α→Prop} (h1:c→Ok x Q) (h2: ¬c→Ok y Q):Ok (if c then x else y) Q:=by
 by_cases h:c
 ·rw[if_pos h];exact h1 h
 rw[if_neg h];exact h2 h
theorem Ok.mono {α:Type}{x:Option α}{P Q:α→Prop}(h:Ok x P)(g: ∀a,P a→Q a):Ok x Q:=by
 obtain⟨a,e,ha⟩:=h
 exact⟨a,e,g a ha⟩
def lrP {α β:Type}(R:β→Prop)(P:α→Prop):LR α β→Prop
 | .ret v=>R v
 | .brk s=>P s
theorem Ok.lr {α β δ:Type}{x:Option (LR α β)}{K:LR α β→Option δ}{R:β→Prop}{P:α→Prop}{Q:δ→Prop}(h:Ok x (lrP R P))(g1: ∀v,R v→Ok (K (.ret v)) Q)(g2: ∀s,P s→Ok (K (.brk s)) Q):Ok (x.bind K) Q:=by
 obtain⟨q,rfl,hq⟩:=h
 cases q with
 |ret v=>exact g1 v hq
 |brk s=>exact g2 s hq
theorem lp {σ ρ:Type}{f:Nat→Nat→σ→Option ρ}{Q:ρ→Prop}(I:Nat→σ→Prop)(n:Nat)
  (step: ∀m j s,j<n→I j s→(∀s',I (j+1) s'→Ok (f m (j+1) s') Q)→Ok (f (m+1) j s) Q)
  (fin: ∀m s,I n s→Ok (f (m+1) n s) Q): ∀(m j:Nat)(s:σ),n-j<m→j≤n→I j s→Ok (f m j s) Q
 |0,_,_,hm,_,_=>by omega
 |m+1,j,s,hm,hj,hI=>by
  by_cases h:j<n
  ·exact step m j s h hI fun s' hs'=>lp I n step fin m (j+1) s' (by omega) (by omega) hs'
  obtain rfl:j=n:=by omega
  exact fin m s hI
theorem d8 {α:Type}{by_:Nat}{l m:List α}(hb:by_≤200)(h:l.length+m.length≤1000000):b5 by_ l m=some (l++m):=by
 refine aTK (a1P (Nat.mul_le_mul h hb) ?_)
 decide
theorem aHq {α:Type}{l:List α}{a b:Nat}(h1:a≤b)(h2:b≤l.length):sub l (a:Int) (b:Int)=some ((l.take b).drop a):=by
 unfold sub
 rw[if_pos ⟨by omega,by omega,by omega⟩,a0Q,a0Q]
def Wd (l:List Int):Prop:=l.length=4∧ ∀x∈l,0≤x∧x<18446744073709551616
def U64r (x:Int):Prop:=0≤x∧x<18446744073709551616
theorem aKL (x:Int):U64r (a0X.wrap x):=by unfold U64r;rw[a1Y];omega
theorem wd1 {x:Int}(h:U64r x):Wd [x,0,0,0]:=⟨rfl,fun y hy=>by simp at hy;rcases hy with rfl|rfl|rfl|rfl<;>first|exact h|decide⟩
theorem U64r.ite {c:Prop} [Decidable c] {a b:Int} (h1:U64r a) (h2:U64r b):U64r (if c then a else b):=by split<;>assumption
theorem aPh (op:BinOp)(a b:Int):U64r (bits op .u64 a b):=by
 unfold bits U64r
 rw[a1Y]
 omega
theorem aWR (op:BinOp)(a b:Int):0≤bits op .u32 a b∧bits op .u32 a b<4294967296:=by
 unfold bits
 rw[a1Z]
 omega
theorem Wd.set {l:List Int}(h:Wd l)(i:Nat){x:Int}(hx:U64r x):Wd (l.set i x):=
 ⟨by rw[a04];exact h.1,fun y hy=>(a1C hy).elim (h.2 y) (fun e=>e▸hx)⟩
theorem Wd0 :Wd (a0I 4 0):=⟨rfl,fun x hx=>by have:=a00 hx;omega⟩
theorem Wd.at {l:List Int}(h:Wd l){i:Nat}(hi:i<4):Ok (cB 4 l (i:Int)) U64r:=by
 rw[dC hi (by have:=h.1;omega)]
 exact Ok.pure (h.2 _ (a0H _))
def sU (x:Int):Prop:=0≤x∧x<4294967296
theorem aXq (x:Int):sU (a01.wrap x):=by unfold sU;rw[a1Z];omega
theorem w0 :sU 0:=⟨by decide,by decide⟩
theorem aMf {k:IntKind}{a:Int}(b:Nat): ∃y,shl k a (b:Int)=some y:=by
 unfold shl;rw[if_neg (by omega)];exact⟨_,rfl⟩
theorem aNT {k:IntKind}{a b:Int}(h:0≤b):Ok (shr k a b) fun _=>True:=by
 unfold shr;rw[if_neg (by omega)];exact Ok.pure trivial
theorem aLU {x y c:Int}(hc:c≤1):Ok (aMw x y c) fun r=>U64r r.1∧(x<18446744073709551616→y<18446744073709551616→r.2≤1):=by
 unfold aMw
 rw[if_pos (by omega)]
 exact Ok.pure ⟨by unfold U64r;omega,fun _ _=>by show((_:Nat):Int)≤1;omega⟩
theorem aU5 {x y c:Int}(hc:c≤1):Ok (aMF x y c) fun r=>U64r r.1∧r.2≤1:=by
 unfold aMF
 rw[if_pos (by omega)]
 exact Ok.pure ⟨by unfold U64r;omega,by show((_:Nat):Int)≤1;split<;>omega⟩
def W8 (l:List Int):Prop:=l.length=8∧ ∀x∈l,U64r x
theorem W8.set {l:List Int}(h:W8 l)(i:Nat){x:Int}(hx:U64r x):W8 (l.set i x):=
 ⟨by rw[a04];exact h.1,fun y hy=>(a1C hy).elim (h.2 y) (fun e=>e▸hx)⟩
theorem W8.at {l:List Int}(h:W8 l){i:Nat}(hi:i<8):Ok (cB 8 l (i:Int)) U64r:=by
 rw[dC hi (by have:=h.1;omega)]
 exact Ok.pure (h.2 _ (a0H _))
def Lo (l:List Int):Prop:= ∃w:Nat,w<65536∧l=[(w:Int),0,0,0]
section
variable {N:Nat}
theorem aNJ {i:Nat}(hi:i<1000):a0L.wrap (a1U (i:Int) 64)=((i/64:Nat):Int)∧a1p (i:Int) 64=((i%64:Nat):Int):=
 ⟨by rw[show a1U (i:Int) 64=((i/64:Nat):Int)from s9 i 64,cJ (by omega) (by omega)],kZ i 64⟩
theorem aK8 {a:List Int}(h:Wd a){i:Nat}(hi:i<256):Ok (sW N a (i:Int)) fun t=>Lo a→t=true→i<16:=by
 unfold sW
 rw[(aNJ (by omega)).1,(aNJ (by omega)).2,dC (show i/64<4 by omega) (by have:=h.1;omega),a0F]
 by_cases l:Lo a∧16≤i
 ·obtain⟨⟨w,hw,rfl⟩,hi⟩:=l
  have e:shr .u64 ([(w:Int),0,0,0][i/64]'(by simp;omega)) ((i%64:Nat):Int)=some 0:=by
   have hz: ∀b:Nat,shr .u64 0 (b:Int)=some 0:=fun b=>by
    rw[show(0:Int)=((0:Nat):Int)from rfl,aNz (k:= .u64) 0 b (by decide),Nat.zero_div]
   by_cases h0:i/64=0
   ·simp only[h0,a1I]
    rw[aNz (k:= .u64) w _ (a1Q hw (by decide)),a10 (a1z hw (show 65536≤2^(i%64)from a1s (n:=2) (i:=16) (by decide) (by omega)))]
    rfl
   obtain h1|h1|h1:i/64=1∨i/64=2∨i/64=3:=by omega
   all_goals simp only[h1];exact hz _
  exact Ok.eq e (Ok.pure fun _ ht=>absurd ht (by decide))
 exact Ok.bind (aNT (by omega)) fun x _=>Ok.pure fun h _=>by by_cases h16:16≤i;exact absurd ⟨h,h16⟩ l;omega
variable (hN:70000≤N)
include hN
theorem aHQ {a b:List Int}(ha:Wd a)(hb:Wd b):Ok (nP N a b) fun _=>True:=by
 unfold nP
 refine Ok.lr (R:=fun _=>True) (P:=fun _=>True) ?_ (fun v _=>Ok.pure trivial) (fun _ _=>Ok.pure trivial)
 have:=lp (f:=fun m j (_:Unit)=>xM N a b m (3-(j:Int))) (Q:=lrP (fun _=>True) fun _=>True) (fun _ _=>True) 4 (fun m j _ hj _ ih=> ?_) (fun m _ _=> ?_) N 0 () (by omega) (by omega) trivial
 ·exact this
 ·unfold xM
  rw[if_pos (decide_eq_true (by omega)),show 3-(j:Int)=((3-j:Nat):Int) by omega]
  refine Ok.bind (ha.at (by omega)) fun x _=>Ok.bind (hb.at (by omega)) fun y _=>Ok.ite (fun _=>Ok.pure trivial) fun _=>Ok.ite (fun _=>Ok.pure trivial) fun _=> ?_
  rw[cJ (by omega) (by omega),show((3-j:Nat):Int)-1=3-((j+1:Nat):Int) by omega]
  exact ih () trivial
 unfold xM
 exact Ok.pure trivial
theorem aQm {a b:List Int}(ha:Wd a)(hb:Wd b):Ok (aDK N a b) fun r=>Wd r.1:=by
 unfold aDK
 refine Ok.bind (P:=fun r=>Wd r.2) ?_ fun r hr=>by unfold aGm;exact Ok.eq (aU hr.1) (Ok.pure hr)
 have:=lp (f:=fun m j (s:Int×List Int)=>wP N a b m s.1 (j:Int) s.2) (Q:=fun r=>Wd r.2) (fun _ s=>s.1≤1∧Wd s.2) 4 (fun m j s hj hs ih=> ?_) (fun m s hs=> ?_) N 0 (0,a0I 4 0) (by omega) (by omega) ⟨by decide,Wd0⟩
 ·exact this
 ·unfold wP mH
  rw[if_pos (decide_eq_true (by omega)),i1 (by omega)]
  exact Ok.bind (ha.at hj) fun x hx=>Ok.bind (hb.at hj) fun y hy=>Ok.bind (aLU hs.1) fun r hr=>Ok.bind (hs.2.at hj) fun _ _=>ih (_,_) ⟨hr.2 hx.2 hy.2,hs.2.set _ hr.1⟩
 unfold wP
 exact Ok.pure hs.2
theorem aW5 {a b:List Int}(ha:Wd a)(hb:Wd b):Ok (aGJ N a b) fun r=>Wd r.1:=by
 unfold aGJ
 refine Ok.bind (P:=fun r=>Wd r.2) ?_ fun r hr=>by unfold aF8;exact Ok.eq (aU hr.1) (Ok.pure hr)
 have:=lp (f:=fun m j (s:Int×List Int)=>wJ N a b m s.1 (j:Int) s.2) (Q:=fun r=>Wd r.2) (fun _ s=>s.1≤1∧Wd s.2) 4 (fun m j s hj hs ih=> ?_) (fun m s hs=> ?_) N 0 (0,a0I 4 0) (by omega) (by omega) ⟨by decide,Wd0⟩
 ·exact this
 ·unfold wJ aCt
  rw[if_pos (decide_eq_true (by omega)),i1 (by omega)]
  exact Ok.bind (ha.at hj) fun x hx=>Ok.bind (hb.at hj) fun y hy=>Ok.bind (aU5 hs.1) fun r hr=>Ok.bind (hs.2.at hj) fun _ _=>ih (_,_) ⟨hr.2,hs.2.set _ hr.1⟩
 unfold wJ
 exact Ok.pure hs.2
omit hN in
theorem aIp {a:List Int}(ha:Wd a):Ok (nE N a) fun _=>True:=by
 unfold nE;exact Ok.eq (aU ha.1) (Ok.pure trivial)
theorem aRU {a:List Int}(ha:Wd a)(n:Nat):Ok (aDH N a (n:Int)) Wd:=by
 unfold aDH
 refine Ok.ite (fun _=>Ok.pure Wd0) fun h=> ?_
 have h':n<256:=by
  rcases a1y n 256 with h1|h1
  ·exact h1
  exact absurd (decide_eq_true (by omega)) h
 refine Ok.bind (P:=Wd) ?_ fun r hr=>by unfold aGb;exact Ok.eq (aU hr.1) (Ok.pure hr)
 have:=lp (f:=fun m j l=>wU N m ((n-j:Nat):Int) l) (Q:=Wd) (fun _ l=>Wd l) n (fun m j l hj hl ih=> ?_) (fun m l hl=> ?_) N 0 a (by omega) (by omega) ha
 ·exact this
 ·unfold wU
  rw[if_pos (decide_eq_true (by omega)),cJ (by omega) (by omega),show((n-j:Nat):Int)-1=((n-(j+1):Nat):Int) by omega]
  exact Ok.eq (aU hl.1) (Ok.bind (aQm hN hl hl) fun r hr=>Ok.eq (aU hr.1) (ih _ hr))
 unfold wU
 rw[if_neg (by simp)]
 exact Ok.pure hl
theorem aNy {a:List Int}(ha:Wd a){n:Nat}(hn:n<256):Ok (sV N a (n:Int)) fun r=>Wd r∧(n=240→Lo r):=by
 unfold sV
 refine Ok.ite (fun h0=>Ok.eq (aU ha.1) (Ok.pure ⟨ha,fun h=> ?_⟩)) fun h0=> ?_
 ·have:=of_decide_eq_true h0;omega
 rw[if_neg (by simp;omega)]
 refine Ok.bind (P:=fun r=>Wd r∧(n=240→Lo r)) ?_ fun r hr=>by unfold aFW;exact Ok.eq (aU hr.1.1) (Ok.pure hr)
 have:=lp (f:=fun m j l=>oU N a (n:Int) m (j:Int) l) (Q:=fun r=>Wd r∧(n=240→Lo r)) (fun _ l=>Wd l∧(n=240→Lo l)) (256-n) (fun m j l hj hl ih=> ?_) (fun m l hl=> ?_) N 0 (a0I 4 0) (by omega) (by omega) ⟨Wd0,fun _=>⟨0,by decide,rfl⟩⟩
 ·exact this
 ·unfold oU aBe
  rw[show(j:Int)+n=((j+n:Nat):Int) by omega,cJ (by omega) (by omega),if_pos (decide_eq_true (by omega)),i1 (by omega),(aNJ (show j<1000 by omega)).1,(aNJ (by omega)).2]
  refine Ok.eq (aU ha.1) (Ok.bind (aK8 ha (by omega)) fun t _=>Ok.ite (fun _=> ?_) fun _=>ih _ hl)
  rw[dC (show j/64<4 by omega) (by have:=hl.1.1;omega),a0F,show(1:Int)=((1:Nat):Int)from rfl,aRT (k:= .u64) rfl,a0F]
  refine ih _ ⟨hl.1.set _ (aPh _ _ _),fun h=> ?_⟩
  obtain⟨w,hw,rfl⟩:=hl.2 h
  have hj0:j/64=0:=by omega
  have hp:2^(j%64)<2^16:=Nat.pow_lt_pow_right (by decide) (by omega)
  refine⟨w ||| 2^(j%64),Nat.or_lt_two_pow (n:=16) hw hp, ?_⟩
  have e:1*2^(j%64)%2^a0X.bits=2^(j%64):=by
   rw[Nat.one_mul,a1h (a1Q hp (by decide))]
  rw[e]
  simp only[hj0,a1I]
  rw[aLx (k:= .u64) rfl _ _ (a1Q hw (by decide)) (a1Q hp (by decide))]
  rfl
 unfold oU
 rw[if_neg (by rw[show((256-n:Nat):Int)+n=256 by omega];decide)]
 exact Ok.pure hl
theorem aRM {a:List Int}(ha:Wd a):Ok (aDN N a) fun r=>Lo a→r≤23:=by
 unfold aDN
 refine Ok.lr (R:=fun r=>Lo a→r≤23) (P:=fun _=>True) ?_ (fun v h=>Ok.pure h) (fun _ _=>Ok.pure fun _=>by decide)
 have:=lp (f:=fun m j (_:Unit)=>w9 N a m (255-(j:Int))) (Q:=lrP (fun r=>Lo a→r≤23) fun _=>True) (fun _ _=>True) 256 (fun m j _ hj _ ih=> ?_) (fun m _ _=> ?_) N 0 () (by omega) (by omega) trivial
 ·exact this
 ·unfold w9
  rw[if_pos (decide_eq_true (by omega)),cJ (a:=255-(j:Int)-1) (by omega) (by omega),cJ (by omega) (by omega),show 255-(j:Int)-1=255-((j+1:Nat):Int) by omega,show 255-(j:Int)=((255-j:Nat):Int) by omega]
  refine Ok.eq (aU ha.1) (Ok.bind (aK8 ha (by omega)) fun t ht=>Ok.ite (fun h=>Ok.pure fun hl=> ?_) fun _=>ih () trivial)
  have:=ht hl h
  omega
 unfold w9
 exact Ok.pure trivial
omit hN in
theorem aUe {x y:Int}:Ok (vQ N x y) fun r=>U64r r.1∧U64r r.2:=by
 unfold vQ
 exact Ok.bind (aNT (by decide)) fun _ _=>Ok.bind (aNT (by decide)) fun _ _=>Ok.bind (aNT (by decide)) fun _ _=>Ok.bind (aNT (by decide)) fun _ _=>Ok.bind (aNT (by decide)) fun _ _=>Ok.pure ⟨aKL _,aKL _⟩
theorem aWZ {a b:List Int}(ha:Wd a)(hb:Wd b):Ok (aG7 N a b) fun r=>Wd r.1∧Wd r.2:=by
 unfold aG7
 refine Ok.bind (P:=W8) ?_ fun l hl=> ?_
 ·refine lp (f:=fun m j l=>oB N a b m (j:Int) l) (fun _ l=>W8 l) 4 (fun m j l hj hl ih=> ?_) (fun m l hl=> ?_) N 0 _ (by omega) (by omega) ⟨rfl,fun x hx=>by have:=a00 hx;unfold U64r;omega⟩
  ·unfold oB aFn aFG
   rw[if_pos (decide_eq_true (by omega))]
   refine Ok.bind (P:=fun r=>U64r r.1∧W8 r.2) ?_ fun r hr=> ?_
   ·have:=lp (f:=fun m i (s:Int×List Int)=>v8 N a b (j:Int) m s.1 (i:Int) s.2) (Q:=fun r=>U64r r.1∧W8 r.2) (fun _ s=>U64r s.1∧W8 s.2) 4 (fun m i s hi hs ih=> ?_) (fun m s hs=> ?_) N 0 (0,l) (by omega) (by omega) ⟨⟨Int.le_refl 0,by show(0:Int)<_;decide⟩,hl⟩
    ·exact this
    ·unfold v8 mH
     rw[if_pos (decide_eq_true (by omega)),show(j:Int)+i=((j+i:Nat):Int) by omega,cJ (a:=((j+i:Nat):Int)) (by omega) (by omega),i1 (by omega)]
     exact Ok.bind (ha.at hj) fun x _=>Ok.bind (hb.at hi) fun y _=>Ok.bind aUe fun p _=>Ok.bind (hs.2.at (by omega)) fun z _=>Ok.bind (aLU (by decide)) fun u _=>Ok.bind (aLU (by decide)) fun v hv=>ih (_,_) ⟨aKL _,hs.2.set _ hv.1⟩
    unfold v8
    exact Ok.pure hs
   rw[show(j:Int)+4=((j+4:Nat):Int) by omega,cJ (by omega) (by omega),i1 (by omega)]
   exact Ok.bind (hr.2.at (by omega)) fun _ _=>ih _ (hr.2.set _ hr.1)
  unfold oB
  exact Ok.pure hl
 obtain⟨h8,hm⟩:=hl
 match l,h8 with
 | [q0,q1,q2,q3,q4,q5,q6,q7],_=>
  refine⟨([q4,q5,q6,q7],[q0,q1,q2,q3]),rfl,⟨rfl,fun x hx=>hm x ?_⟩,rfl,fun x hx=>hm x ?_⟩<;>simp at hx⊢ <;>omega
theorem aNh {b:Int}(hb:sU b):Ok (oD N b) fun r=>Wd r.1:=by
 obtain⟨n,rfl⟩: ∃n:Nat,b=(n:Int):=⟨b.toNat,by have:=hb.1;omega⟩
 have hn:n<4294967296:=by have:=hb.2;omega
 have j1: ∀l,Wd l→Ok (qR N l) fun r=>Wd r.1:=fun l hl=>by
  unfold qR
  exact Ok.eq (aU hl.1) (Ok.bind (aIp hl) fun t _=>Ok.ite (fun _=>Ok.pure Wd0) fun _=>Ok.pure hl)
 unfold oD
 refine Ok.eq (x:=shr .u32 (n:Int) 24) (aNz (k:= .u32) n 24 hn) ?_
 have hx:n/2^24<256:=by omega
 generalize n/2^24=x at hx⊢
 refine Ok.eq (x:=gE N _) rfl (Ok.eq (x:=bM 4 _) rfl (Ok.ite (fun _=>Ok.pure Wd0) fun _=> ?_))
 have W:=wd1 (aKL (bits .and .u32 (n:Int) 16777215))
 generalize [a0X.wrap (bits .and .u32 (n:Int) 16777215),0,0,0]=q at W⊢
 have ex:a0L.wrap (x:Int)=x:=cJ (by omega) (by omega)
 rw[ex]
 refine Ok.ite (fun h=> ?_) fun h=> ?_
 ·have h3:x<3:=by have:=of_decide_eq_true h;omega
  rw[cJ (a:=3-(x:Int)) (by omega) (by omega),cJ (by omega) (by omega),show 8*(3-(x:Int))=((8*(3-x):Nat):Int) by omega]
  exact Ok.bind (aNy hN W (by omega)) fun r hr=>Ok.eq (aU hr.1.1) (j1 _ hr.1)
 have h3:3≤x:=by
  rcases a1y x 3 with h1|h1
  ·exact absurd (decide_eq_true (by omega)) h
  exact h1
 have j2: ∀t,Ok (qX N (x:Int) q t) fun r=>Wd r.1:=fun t=>by
  unfold qX
  rw[ex,cJ (a:=(x:Int)-3) (by omega) (by omega),cJ (by omega) (by omega),show 8*((x:Int)-3)=((8*(x-3):Nat):Int) by omega]
  exact Ok.ite (fun _=>Ok.pure Wd0) fun _=>Ok.bind (aRU hN W _) fun r hr=>Ok.eq (aU hr.1) (j1 _ hr)
 exact Ok.bind (aIp W) fun t _=>Ok.ite (fun _=>Ok.bind (aRM hN W) fun _ _=>j2 _) fun _=>j2 _
theorem aX1 {h:List Int}(hl:h.length=32):Ok (vX N h) Wd:=by
 unfold vX
 refine Ok.bind (P:=Wd) ?_ fun r hr=> ?_
 ·refine lp (f:=fun m j l=>lS N h m (j:Int) l) (fun _ l=>Wd l) 32 (fun m j l hj hw ih=> ?_) (fun m l hw=> ?_) N 0 _ (by omega) (by omega) Wd0
  ·unfold lS
   have e1:a0L.wrap (a1U (a0L.wrap (31-(j:Int))) 8)=((3-j/8:Nat):Int):=by
    rw[show 31-(j:Int)=((31-j:Nat):Int) by omega,cJ (a:=((31-j:Nat):Int)) (by omega) (by omega),show(8:Int)=((8:Nat):Int)from rfl,s9,cJ (by omega) (by omega)]
    omega
   have e2:a0L.wrap (8*(a1p (a0L.wrap (31-(j:Int))) 8))=((8*((31-j)%8):Nat):Int):=by
    rw[show 31-(j:Int)=((31-j:Nat):Int) by omega,cJ (a:=((31-j:Nat):Int)) (by omega) (by omega),show a1p ((31-j:Nat):Int) 8=(((31-j)%8:Nat):Int)from kZ _ 8,cJ (by omega) (by omega)]
    omega
   rw[if_pos (decide_eq_true (by omega)),e1,e2,dC (show 3-j/8<4 by omega) (by have:=hw.1;omega),dC hj (by omega),i1 (by omega)]
   obtain⟨y,hy⟩:=aMf (k:= .u64) (a:=a0X.wrap h[j]) (8*((31-j)%8))
   simp only[a0F,hy]
   exact ih _ (hw.set _ (aPh _ _ _))
  unfold lS
  exact Ok.pure hw
 unfold w8
 exact Ok.eq (aU hr.1) (Ok.pure hr)
theorem aN9 {h:List Int}(hl:h.length=32){b:Int}(hb:sU b):Ok (aAd N h b) fun _=>True:=by
 unfold aAd
 exact Ok.bind (aNh hN hb) fun r hr=>Ok.eq (aU hr.1) (Ok.ite (fun _=>Ok.eq (aU hl) (Ok.bind (aX1 hN hl) fun q hq=>Ok.bind (aHQ hN hq hr) fun _ _=>Ok.pure trivial)) (fun _=>Ok.pure trivial))
theorem aWs {hi lo b:List Int}(h1:Wd hi)(h2:Wd lo)(h3:Wd b):Ok (aGS N hi lo b) fun r=>Wd r.1∧Wd r.2.1:=by
 unfold aGS
 refine Ok.eq (aU h3.1) (Ok.eq (aU h1.1) (Ok.bind (aHQ hN h3 h1) fun _ _=>Ok.ite (fun _=>Ok.pure ⟨Wd0,Wd0⟩) fun _=> ?_))
 refine Ok.bind (P:=fun r=>Wd r.1∧Wd r.2) ?_ fun r hr=>by unfold aFo;exact Ok.eq (aU hr.1.1) (Ok.eq (aU hr.2.1) (Ok.pure hr))
 have:=lp (f:=fun m j (s:List Int×List Int)=>gV N lo b m (255-(j:Int)) s.1 s.2) (Q:=fun r=>Wd r.1∧Wd r.2) (fun _ s=>Wd s.1∧Wd s.2) 256 (fun m j s hj hw ih=> ?_) (fun m s hw=> ?_) N 0 (a0I 4 0,hi) (by omega) (by omega) ⟨Wd0,h1⟩
 ·exact this
 ·obtain⟨l2,l3⟩:=s
  obtain⟨hw2,hw3⟩:Wd l2∧Wd l3:=hw
  have n1:a0L.wrap (255-(j:Int)-1)=255-((j+1:Nat):Int):=by rw[cJ (by omega) (by omega)];omega
  have ek:255-(j:Int)=((255-j:Nat):Int):=by omega
  have j5: ∀(t:Bool)(l:List Int),Wd l→Ok (w7 N lo b (255-(j:Int)) l2 l (gV N lo b m) t) fun r=>Wd r.1∧Wd r.2:=by
   intro t l hl
   unfold w7 aCm
   rw[n1]
   refine Ok.ite (fun _=> ?_) (fun _=>ih (l2,l) ⟨hw2,hl⟩)
   rw[ek,(aNJ (by omega)).1,(aNJ (by omega)).2]
   refine Ok.eq (aU hl.1) (Ok.bind (aW5 hN hl h3) fun r hr=>Ok.eq (aU hr.1) (Ok.bind (hw2.at (by omega)) fun v _=> ?_))
   obtain⟨v,hv⟩:=aMf (k:= .u64) (a:=1) ((255-j)%64)
   exact Ok.eq hv (ih (l2.set _ _,_) ⟨hw2.set _ (aPh _ _ _),hr⟩)
  have j4: ∀(t:Bool)(l:List Int),Wd l→Ok (wT N lo b (255-(j:Int)) l2 t (gV N lo b m) l) fun r=>Wd r.1∧Wd r.2:=by
   intro t l hl
   unfold wT
   exact Ok.ite (fun _=>j5 _ _ hl) (fun _=>Ok.eq (aU hl.1) (Ok.bind (aHQ hN hl h3) fun _ _=>j5 _ _ hl))
  unfold gV
  rw[if_pos (decide_eq_true (by omega))]
  refine Ok.eq (aU hw3.1) (Ok.bind (aK8 (i:=255) hw3 (by omega)) fun t _=>Ok.bind (aQm hN hw3 hw3) fun r hr=>Ok.eq (aU hr.1) (Ok.eq (aU h2.1) ?_))
  refine Ok.bind (x:=sW N lo (255-(j:Int))) (by rw[ek];exact aK8 h2 (by omega)) fun t' _=>Ok.ite (fun _=> ?_) (fun _=>j4 _ _ hr)
  exact Ok.bind (hr.at (i:=0) (by decide)) fun v _=>j4 _ _ (hr.set _ (aPh _ _ _))
 unfold gV
 exact Ok.pure hw
theorem aRh {t:List Int}(ht:Wd t):Ok (aAp N t) sU:=by
 unfold aAp
 refine Ok.eq (aU ht.1) (Ok.bind (aIp ht) fun _ _=>Ok.ite (fun _=>Ok.pure w0) fun _=> ?_)
 have j3: ∀(m j:Nat)(u:List Int),j≤33→Wd u→(j<33→Ok (eD N t m ((j+1:Nat):Int)) (lrP sU fun _=>False))→(j=33→Lo u)→Ok (oK N t (j:Int) (eD N t m) u) (lrP sU fun _=>False):=by
  intro m j u h2 hu ih h33
  unfold oK pE
  refine Ok.eq (aU hu.1) (Ok.bind (aRM hN hu) fun n hn=>Ok.ite (fun _=> ?_) (fun hq=> ?_))
  ·obtain⟨y,hy⟩:=aMf (k:= .u32) (a:=a01.wrap (j:Int)) 24
   exact Ok.eq hy (Ok.bind (hu.at (i:=0) (by decide)) fun _ _=>Ok.pure (aWR _ _ _))
  rw[i1 (by omega)]
  refine ih ?_
  rcases a1y j 33 with hlt|hge
  ·exact hlt
  exact absurd (decide_eq_true (hn (h33 (by omega)))) hq
 have body: ∀(m j:Nat),1≤j→j≤33→(j<33→Ok (eD N t m ((j+1:Nat):Int)) (lrP sU fun _=>False))→Ok (eD N t (m+1) (j:Int)) (lrP sU fun _=>False):=by
  intro m j h1 h2 ih
  unfold eD
  refine Ok.ite (fun hc=> ?_) (fun hc=> ?_)
  ·have hc':j≤3:=by have:=of_decide_eq_true hc;omega
   rw[cJ (a:=3-(j:Int)) (by omega) (by omega),cJ (by omega) (by omega),show 8*(3-(j:Int))=((8*(3-j):Nat):Int) by omega]
   refine Ok.bind (aRU hN ht _) fun u hu=>Ok.eq (aU hu.1) (Ok.bind (aNy hN hu (by omega)) fun v hv=>Ok.bind (aHQ hN hv.1 ht) fun _ _=>Ok.ite (fun _=> ?_) (fun _=> ?_))
   ·unfold pE
    rw[i1 (by omega)]
    exact ih (by omega)
   exact j3 m j _ h2 hu ih (fun he=>by omega)
  have hc':3<j:=by
   rcases a1y 3 j with hl|hl
   ·exact hl
   exact absurd (decide_eq_true (show(j:Int)≤3 by omega)) hc
  rw[cJ (a:=(j:Int)-3) (by omega) (by omega),cJ (by omega) (by omega),show 8*((j:Int)-3)=((8*(j-3):Nat):Int) by omega]
  exact Ok.bind (aNy hN ht (by omega)) fun u hu=>Ok.eq (aU hu.1.1) (j3 m j _ h2 hu.1 ih fun he=>hu.2 (by omega))
 refine Ok.lr (R:=sU) (P:=fun _=>False) ?_ (fun _ h=>Ok.pure h) (fun _ h=>h.elim)
 have:=lp (f:=fun m j (_:Unit)=>eD N t m ((j+1:Nat):Int)) (Q:=lrP sU fun _=>False) (fun _ _=>True) 32
  (fun m j _ hj _ ih=>body m (j+1) (by omega) (by omega) (fun _=>ih () trivial)) (fun m _ _=>body m 33 (by omega) (by omega) (fun h=>by omega)) N 0 () (by omega) (by omega) trivial
 exact this
end
structure PK (p:aI):Prop where
 gb:p.Genesis.Bits=545259519
 lim:p.Limit=[18446744073709551615,18446744073709551615,18446744073709551615,9223372036854775807]
 chk:p.Checkpoints=[]
 sub:p.Subsidy=1000
 win:1≤p.Window∧p.Window≤4096
 spc:1≤p.Spacing∧p.Spacing≤1048576
 hal:1≤p.Halving∧p.Halving≤100
 mat:0≤p.Maturity∧p.Maturity≤100
 gp:fL p.Genesis.Prev
 gr:fL p.Genesis.Root
theorem PK.wd {p:aI}(P:PK p):Wd p.Limit:=by rw[P.lim];exact⟨rfl,by decide⟩
theorem PK.gw {p:aI}(P:PK p):sU p.Genesis.Bits:=by rw[P.gb];exact⟨by decide,by decide⟩
structure aSx (c:aV):Prop where
 h:fL c.Hash
 b:sU c.Bits
 t:c.Times.length≤100
 hh:0≤c.Height∧c.Height≤1000
structure HdK (h:bW):Prop where
 p:fL h.Prev
 r:fL h.Root
 b:sU h.Bits
theorem aUL (s n:Nat):s/2/2^n=s/2^(n+1):=by rw[Nat.div_div_eq_div_mul,Nat.pow_succ,Nat.mul_comm]
theorem aN4 {N:Nat}: ∀(m k s n:Nat),k<m→s<2^k→k≤60→n≤9223372036854775807→jI N m (s:Int) (n:Int)=some ((s/2^n:Nat):Int)
 |m+1,k,s,n,hk,hs,h60,hn=>by
  unfold jI tW
  have hs2:s<9223372036854775808:=a1z hs (a1P (a1s (by omega) (show k≤63 by omega)) (by decide))
  cases n with
  |zero=>rw[if_neg (by simp),if_neg (by simp),Nat.pow_zero,Nat.div_one]
  |succ n=>
   rw[if_pos (decide_eq_true (by omega))]
   by_cases h0:s=0
   ·subst h0
    rw[if_neg (by simp),Nat.zero_div]
   have hk1:0<k:=by
    rcases a1n k with hz|hz
    ·subst hz;simp only[Nat.pow_zero]at hs;omega
    exact hz
   rw[if_pos (decide_eq_true (by omega)),show(2:Int)=((2:Nat):Int)from rfl,s9,cJ (by omega) (by omega),cJ (by omega) (by omega),show((n+1:Nat):Int)-1=(n:Int) by omega,aN4 m (k-1) (s/2) n (by omega) ?_ (by omega) (by omega),aUL]
   have:2^k=2^(k-1)*2:=by rw[←Nat.pow_succ];congr 1;omega
   omega
section
variable {N:Nat}(hN:70000≤N)
include hN
theorem aJi {h:bW}(H:HdK h):Ok (nI N h) fL:=⟨_,aPB N hN h H.p.1 H.r.1 H.p.2 H.r.2,aPP _ _⟩
theorem aQ5 {p:aI}(P:PK p):nV N p=some true:=by
 obtain⟨M,rfl⟩: ∃M,N=M+300:=⟨N-300,by omega⟩
 obtain⟨h1,h2⟩:=P.win
 obtain⟨h3,h4⟩:=P.spc
 obtain⟨h5,h6⟩:=P.hal
 obtain⟨h7,h8⟩:=P.mat
 have e:aED (M+300) 545259519=some ([0,0,0,9223370937343148032],0):=by kernel_rfl
 have c:aIB (M+300) [0,0,0,9223370937343148032] [18446744073709551615,18446744073709551615,18446744073709551615,9223372036854775807]=some (-1):=by kernel_rfl
 have l:zL (M+300) p (M+300)=some ():=by unfold zL;rw[P.chk];rfl
 unfold nV zC
 rw[P.gb,e,l,P.lim,P.sub]
 simp only[bM,a0W,a1m,if_true,a0F,c,decide_eq_false (show¬p.Window<1 by omega),decide_eq_false (show¬4096<p.Window by omega),decide_eq_false (show¬p.Spacing<1 by omega),decide_eq_false (show¬1048576<p.Spacing by omega),decide_eq_false (show¬p.Halving<1 by omega),decide_eq_false (show¬16777216<p.Halving by omega),decide_eq_false (show¬p.Maturity<0 by omega),decide_eq_false (show¬16777216<p.Maturity by omega)]
 rfl
theorem aMR {p:aI}(P:PK p):i5 N p=some true:=by
 obtain⟨M,rfl⟩: ∃M,N=M+300:=⟨N-300,by omega⟩
 obtain⟨h1,h2⟩:=P.win
 obtain⟨h3,h4⟩:=P.spc
 obtain⟨h5,h6⟩:=P.hal
 obtain⟨h7,h8⟩:=P.mat
 have e:oD (M+300) 545259519=some ([0,0,0,9223370937343148032],0):=by kernel_rfl
 have c:nP (M+300) [0,0,0,9223370937343148032] [18446744073709551615,18446744073709551615,18446744073709551615,9223372036854775807]=some (-1):=by kernel_rfl
 have l:aDg (M+300) p (M+300)=some ():=by unfold aDg;rw[P.chk];rfl
 unfold i5 aDd nE
 rw[P.gb,e,l,P.lim,P.sub]
 simp only[bM,a0W,a1m,if_true,a0F,c,decide_eq_false (show¬p.Window<1 by omega),decide_eq_false (show¬4096<p.Window by omega),decide_eq_false (show¬p.Spacing<1 by omega),decide_eq_false (show¬1048576<p.Spacing by omega),decide_eq_false (show¬p.Halving<1 by omega),decide_eq_false (show¬16777216<p.Halving by omega),decide_eq_false (show¬p.Maturity<0 by omega),decide_eq_false (show¬16777216<p.Maturity by omega)]
 rfl
theorem xL {p:aI}(P:PK p):Ok (i5 N p) fun _=>True:=⟨_,aMR hN P,trivial⟩
theorem aQs {p:aI}(P:PK p){h:Int}(hh: -9223372036854775808≤h∧h≤9223372036854775807): ∃s,jR N p h=some s∧mR N p h=some s∧0≤s∧s≤1000:=by
 unfold jR mR
 rw[aQ5 hN P,aMR hN P]
 simp only[a0F]
 rw[if_neg (by simp),if_neg (by simp)]
 unfold rH oM
 by_cases h0:0≤h
 ·rw[if_neg (by simp;omega),if_neg (by simp;omega),P.sub]
  obtain⟨n,rfl⟩: ∃n:Nat,h=(n:Int):=⟨h.toNat,by omega⟩
  obtain⟨g,hg⟩: ∃g:Nat,p.Halving=(g:Int):=⟨p.Halving.toNat,by have:=P.hal;omega⟩
  have f3:=P.hal
  rw[hg]at f3⊢
  have le:=Nat.div_le_self n g
  have hq:quo .i64 (n:Int) (g:Int)=some ((n/g:Nat):Int):=by
   unfold quo
   rw[if_neg (by omega),s9]
   generalize n/g=e at le⊢
   rw[cJ (by omega) (by omega)]
  rw[hq]
  simp only[a0F]
  generalize n/g=e at le⊢
  refine⟨((1000/2^e:Nat):Int), ?_, ?_,a1V _,by have:=Nat.div_le_self 1000 (2^e);omega⟩
  ·rw[show(1000:Int)=((1000:Nat):Int)from rfl,shr]
   rw[if_neg (by omega),a0Q,show(a0L).bits=64 from rfl]
   have z:(2:Int)^min e 64=((2^min e 64:Nat):Int):=by simp
   rw[z,Int.fdiv_eq_ediv_of_nonneg _ (a1V _),←Int.natCast_ediv]
   rcases Nat.le_total e 64 with he|he
   ·rw[a1L he];rfl
   rw[Nat.min_eq_right he,a10 (a1z (by decide:1000<2^64) (a1s (by omega) he))];rfl
  rw[show(1000:Int)=((1000:Nat):Int)from rfl,aN4 N 10 1000 e (by omega) (by omega) (by omega) (by omega)]
  rfl
 rw[if_pos (decide_eq_true (by omega)),if_pos (decide_eq_true (by omega))]
 exact⟨0,rfl,rfl,by omega,by omega⟩
theorem aT7 {p:aI}(P:PK p){h:Int}(hh: -9223372036854775808≤h∧h≤9223372036854775807):Ok (mR N p h) fun s=>0≤s∧s≤1000:=by
 obtain⟨s,_,h1,h2⟩:=aQs hN P hh
 exact⟨s,h1,h2⟩
theorem aSI {p:aI}(P:PK p){vb first last:Int}(hb:sU vb):Ok (aBm N p vb first last) fun r=>sU r.1:=by
 have j3: ∀l,Wd l→Ok (qK N l) fun r=>sU r.1:=fun l hl=>by
  unfold qK
  exact Ok.eq (aU hl.1) (Ok.bind (aRh hN hl) fun r hr=>Ok.pure hr)
 have j2: ∀l,Wd l→Ok (qD N l) fun r=>sU r.1:=fun l hl=>by
  unfold qD
  refine Ok.eq (aU hl.1) (Ok.bind (aIp hl) fun _ _=>Ok.ite (fun _=> ?_) (fun _=>j3 _ hl))
  exact Ok.eq (x:=gE N 1) rfl (Ok.eq (x:=bM 4 _) rfl (j3 _ (wd1 ⟨by decide,by decide⟩)))
 have j4: ∀(q:List Int×List Int×Bool)(t:Bool),Wd q.1→Ok (qF N p q t) fun r=>sU r.1:=fun q t hq=>by
  unfold qF
  exact Ok.ite (fun _=>Ok.eq (aU P.wd.1) (j2 _ P.wd)) (fun _=>j2 _ hq)
 have j1: ∀(q:List Int×Int)(u2:Int),Wd q.1→U64r u2→Ok (qE N p q u2) fun r=>sU r.1:=fun q u2 hq hs=>by
  unfold qE
  refine Ok.eq (x:=gE N _) rfl (Ok.bind (aWZ hN hq (wd1 (U64r.ite (aKL _) (U64r.ite (aKL _) hs)))) fun r hr=> ?_)
  refine Ok.eq (aU hr.1.1) (Ok.eq (aU hr.2.1) (Ok.eq (x:=gE N _) rfl (Ok.bind (aWs hN hr.1 hr.2 (wd1 (aKL _))) fun d hd=> ?_)))
  exact Ok.eq (aU hd.1.1) (Ok.eq (aU hd.2.1) (Ok.ite (fun _=>j4 _ _ hd.1) fun _=>Ok.eq (aU P.wd.1) (Ok.bind (aHQ hN hd.1 P.wd) fun _ _=>j4 _ _ hd.1)))
 unfold aBm
 refine Ok.bind (xL hN P) fun t _=>Ok.ite (fun _=>Ok.pure w0) fun _=> ?_
 refine Ok.bind (aNh hN hb) fun q hq=>Ok.eq (aU hq.1) (Ok.ite (fun _=>Ok.pure w0) fun _=> ?_)
 exact Ok.ite (fun _=>j1 _ _ hq (aKL _)) (fun _=>j1 _ _ hq ⟨by decide,by decide⟩)
theorem aQ3 {p:aI}{c:aV}(P:PK p)(C:aSx c):Ok (yG N p c) fun r=>sU r.1:=by
 have j1: ∀t:Bool,(t=false→0<c.Times.length)→Ok (kV N p c t) fun r=>sU r.1:=fun t ht=>by
  unfold kV
  refine Ok.ite (fun _=>Ok.pure w0) (fun hf=> ?_)
  have h0:=ht (by cases t;rfl;exact absurd rfl hf)
  have hw:=P.win
  have hr: ∃y,rem (a0L.wrap (c.Height+1)) p.Window=some y:=by
   unfold rem;rw[if_neg (by omega)];exact⟨_,rfl⟩
  obtain⟨y,hy⟩:=hr
  refine Ok.eq hy (Ok.ite (fun _=>Ok.pure C.b) fun _=> ?_)
  have hl:=C.t
  rw[cJ (by omega) (by omega),show(c.Times.length:Int)-1=((c.Times.length-1:Nat):Int) by omega]
  exact Ok.eq (bA _ (by omega)) (Ok.bind (aSI hN P C.b) fun r hr=>Ok.pure hr)
 unfold yG
 refine Ok.bind (xL hN P) fun t _=> ?_
 refine Ok.ite (fun _=>j1 _ (by simp)) fun _=>Ok.ite (fun _=>j1 _ (by simp)) fun _=>Ok.ite (fun _=>j1 _ (by simp)) fun _=>Ok.ite (fun _=>j1 _ (by simp)) fun h=>j1 _ (fun _=> ?_)
 rcases a1n c.Times.length with h0|h0
 ·exact absurd (by rw[h0];rfl) h
 exact h0
theorem aMH {l:List Int}(hl:l.length≤1000):Ok (sJ N l) fun _=>True:=by
 unfold sJ
 refine Ok.bind (P:=fun r=>r.length≤1000) ?_ fun r hr=> ?_
 ·refine lp (f:=fun m j s=>iQ N l m (j:Int) s) (fun j s=>s.length=j) l.length (fun m j s hj hs ih=> ?_) (fun m s hs=> ?_) N 0 [] (by omega) (by omega) rfl
  ·unfold iQ
   rw[if_pos (dT hj)]
   refine Ok.eq (bA _ hj) (Ok.bind (P:=fun v=> ∃k:Nat,v=(k:Int)∧k≤s.length) ?_ fun v hv=> ?_)
   ·refine lp (f:=fun m i (_:Unit)=>iS N l (j:Int) s l[j] m (i:Int)) (fun _ _=>True) s.length (fun m i _ hi _ ih=> ?_) (fun m _ _=> ?_) N 0 () (by omega) (by omega) trivial
    ·unfold iS qM
     rw[if_pos (dT hi),i1 (by omega)]
     exact Ok.eq (bA _ hi) (Ok.ite (fun _=>ih () trivial) fun _=>Ok.pure ⟨i,rfl,by omega⟩)
    unfold iS qM
    rw[if_neg (by simp)]
    exact Ok.ite (fun h=>by cases h) fun _=>Ok.pure ⟨s.length,rfl,by omega⟩
   obtain⟨k,rfl,hk⟩:=hv
   unfold vU aB1
   rw[i1 (by omega)]
   refine Ok.eq (aHq (a:=0) (a11 k) hk) (Ok.eq (aHq hk (a1c _)) (Ok.eq (d8 (by omega) (by simp;omega)) (Ok.eq (d8 (by omega) (by simp;omega)) (ih _ ?_))))
   simp
   omega
  unfold iQ
  rw[if_neg (by simp)]
  exact Ok.pure (by omega)
 unfold aBB
 refine Ok.ite (fun _=>Ok.pure trivial) (fun h=> ?_)
 have h0:0<r.length:=by
  rcases a1n r.length with h0|h0
  ·exact absurd (by rw[h0];rfl) h
  exact h0
 rw[show a1U (r.length:Int) 2=((r.length/2:Nat):Int)from s9 _ 2,cJ (by omega) (by omega)]
 exact Ok.eq (bA _ (by omega)) (Ok.pure trivial)
theorem aVp {p:aI}{c:aV}{nH:List Int}{vby:Int}(P:PK p)(C:aSx c)(R:fL nH):Ok (aGC N p c nH vby) HdK:=by
 unfold aGC
 refine Ok.bind (aQ3 hN P C) fun x hx=>Ok.eq (aU C.h.1) (Ok.eq (aU R.1) (Ok.bind (aMH hN (by have:=C.t;omega)) fun y _=> ?_))
 have hd: ∀n t,HdK (bW.mk p.Version c.Hash nH t x.1 n):=fun n t=>⟨C.h,R,hx⟩
 refine Ok.lr (R:=HdK) (P:=fun _=>True) ?_ (fun v hv=>Ok.pure hv) fun s _=>Ok.pure (hd _ _)
 refine lp (f:=fun m j (_:Unit)=>wR N p c nH vby x y m (j:Int)) (fun _ _=>True) 20000 (fun m j _ hj _ ih=> ?_) (fun m _ _=> ?_) N 0 () (by omega) (by omega) trivial
 ·unfold wR
  rw[if_pos (decide_eq_true (by omega))]
  refine Ok.bind (aJi hN (hd _ _)) fun h hh=>Ok.bind (aN9 hN hh.1 hx) fun t _=>Ok.ite (fun _=>Ok.pure (hd _ _)) fun _=> ?_
  rw[aYT (by omega) (by omega)]
  exact ih () trivial
 unfold wR
 rw[if_neg (by decide)]
 exact Ok.pure trivial
end
def ScrK (s:List Int):Prop:= ∃k:Nat,1≤k∧k≤6∧s=[1,1,(k:Int),5]
def aNX (o:aQ):Prop:=ScrK o.Script∧0≤o.Value∧o.Value≤2000
structure fK (c:aA):Prop where
 o:OkO c.Out
 p:aNX c.Output
structure InM (x:bL):Prop where
 p:OkO x.Prev
 w:x.Witness=[]∨ ∃k:Nat,1≤k∧k≤6∧x.Witness=[[(k:Int)]]
 s:sU x.Sequence
structure TxM (t:aD):Prop where
 i: ∃x,t.Inputs=[x]∧InM x
 n:t.Outputs.length≤2
 o: ∀o∈t.Outputs,aNX o
theorem ScrK.len {s:List Int}(h:ScrK s):s.length=4:=by obtain⟨k,_,_,rfl⟩:=h;rfl
theorem ScrK.byt {s:List Int}(h:ScrK s):Byt s:=by
 obtain⟨k,h1,h2,rfl⟩:=h
 intro x hx
 simp at hx
 omega
theorem InM.wit {x:bL}(h:InM x):x.Witness.length≤1∧ ∀w∈x.Witness,w.length=1∧Byt w:=by
 rcases h.w with e|⟨k,h1,h2,e⟩
 ·rw[e];exact⟨by simp,fun w hw=>by simp at hw⟩
 rw[e]
 refine⟨by simp,fun w hw=> ?_⟩
 simp at hw
 subst hw
 refine⟨rfl,fun x hx=> ?_⟩
 simp at hx
 omega
theorem TxM.k {t:aD}(T:TxM t):TxK t:=by
 obtain⟨x,hi,hx⟩:=T.i
 have hw:=hx.wit
 have hn:=T.n
 refine⟨⟨by rw[hi];simp,by omega,fun y hy=> ?_,fun o ho=>by rw[(T.o o ho).1.len];omega,fun y hy=> ?_⟩,⟨fun y hy=> ?_,fun y hy w h=> ?_,fun o ho=>(T.o o ho).1.byt⟩⟩
 all_goals
  rw[hi]at hy
  obtain rfl:=a0O.1 hy
 ·exact⟨by omega,fun w h=>by have:=(hw.2 w h).1;omega⟩
 ·exact hx.p.1
 ·exact hx.p.2
 exact(hw.2 w h).2
def TxQ (j:Nat)(s:Int×List aD×List aA):Prop:=
 (0≤s.1∧s.1≤2*(j:Int))∧(s.2.1.length≤j∧ ∀t∈s.2.1,TxM t)∧s.2.2.length≤500+2*j∧ ∀c∈s.2.2,fK c
section
variable {N:Nat}(hN:70000≤N)
include hN
theorem aIs {v:Int}(h:0≤v∧v<256):Ok (nN N v) ScrK:=by
 refine⟨_,rfl,1+v.toNat%6,by omega,by omega, ?_⟩
 obtain⟨n,rfl⟩: ∃n:Nat,v=(n:Int):=⟨v.toNat,by omega⟩
 rw[show a1p (n:Int) 6=((n%6:Nat):Int)from kZ n 6,a0Q]
 rw[show a0Y.wrap (1+((n%6:Nat):Int))=1+((n%6:Nat):Int) by rw[a1v];omega]
 simp
theorem aSU {c:aA}(C:fK c){vs:Int}(h:0≤vs∧vs<256):Ok (aE6 N c vs) fun r=>TxM (aD.mk r.1 r.2.1 r.2.2.1 r.2.2.2.1)∧0≤r.2.2.2.2∧r.2.2.2.2≤2:=by
 obtain⟨F,hF⟩: ∃F,F=(if c.Output.Value<a0L.wrap (a1p vs 3)then c.Output.Value else a0L.wrap (a1p vs 3)):=⟨_,rfl⟩
 obtain⟨hs,hv⟩:=C.p
 obtain⟨n,rfl⟩: ∃n:Nat,vs=(n:Int):=⟨vs.toNat,by omega⟩
 have hF':0≤F∧F≤2∧F≤c.Output.Value:=by
  rw[show a1p (n:Int) 3=((n%3:Nat):Int)from kZ n 3,cJ (by omega) (by omega)]at hF
  split at hF<;>omega
 obtain⟨k,k1,k2,ek⟩:=hs
 have j1: ∀(first:Int)(l:List aQ),0≤first→first≤2000→l.length≤1→(∀o∈l,aNX o)→Ok (uC N c (n:Int) [[(k:Int)]] first l) fun r=>TxM (aD.mk r.1 r.2.1 r.2.2.1 r.2.2.2.1)∧0≤r.2.2.2.2∧r.2.2.2.2≤2:=by
  intro first l f0 f1 hl ho
  unfold uC
  rw[←hF]
  refine Ok.bind (aIs hN (aDZ _)) fun s hs=>Ok.eq (d8 (by omega) (by simp;omega)) (Ok.pure ⟨⟨⟨_,rfl,C.o,.inr ⟨k,k1,k2,rfl⟩,aXq _⟩,by simp;omega,fun o h=> ?_⟩,hF'.1,hF'.2.1⟩)
  rcases a0V.1 h with h|h
  ·exact ho o h
  obtain rfl:=a0O.1 h
  exact⟨hs,f0,f1⟩
 unfold aE6
 refine Ok.eq (a:=[[(k:Int)]]) (by rw[ek];rfl) ?_
 rw[←hF,cJ (a:=c.Output.Value-F) (by omega) (by omega)]
 obtain⟨m,hm⟩: ∃m:Nat,c.Output.Value-F=(m:Int):=⟨(c.Output.Value-F).toNat,by omega⟩
 rw[hm,show a1U (m:Int) 3=((m/3:Nat):Int)from s9 m 3,cJ (a:=((m/3:Nat):Int)) (by omega) (by omega),cJ (by omega) (by omega)]
 refine Ok.ite (fun _=> ?_) (fun _=>j1 _ _ (by omega) (by omega) (by simp) (fun o h=>by simp at h))
 refine Ok.bind (aIs hN (aDZ _)) fun s hs=>Ok.eq (d8 (by omega) (by simp)) (j1 _ _ (by omega) (by omega) (by simp) (fun o h=> ?_))
 rw[a0K]at h
 obtain rfl:=a0O.1 h
 exact⟨hs,by simp only;omega,by simp only;omega⟩
theorem aW6 {p:aI}{l:aF}(hn:l.Coins.length≤500)(hc: ∀c∈l.Coins,fK c){vs:Int}(h:0≤vs∧vs<256):
  Ok (rK N p l vs) fun r=>r.1.length≤3∧(∀t∈r.1,TxM t)∧0≤r.2∧r.2≤6:=by
 obtain⟨v,rfl⟩: ∃v:Nat,vs=(v:Int):=⟨vs.toNat,by omega⟩
 unfold rK
 refine Ok.eq (d8 (by omega) (by simp;omega)) (Ok.bind (P:=fun r=>(0≤r.1∧r.1≤6)∧r.2.length≤3∧ ∀t∈r.2,TxM t) ?_ fun r hr=>Ok.pure ⟨hr.2.1,hr.2.2,hr.1⟩)
 rw[a0K]
 have:=lp (f:=fun m j (s:Int×List aD×List aA)=>iH N p l (v:Int) m s.1 (j:Int) s.2.1 s.2.2) (Q:=fun r=>(0≤r.1∧r.1≤6)∧r.2.length≤3∧ ∀t∈r.2,TxM t)
  TxQ (v%4) (fun m j s hj hs ih=> ?_) (fun m s hs=> ?_) N 0 (0,[],l.Coins) (by omega) (by omega) ⟨⟨by simp,by simp⟩,⟨by simp,by simp⟩,by simpa using hn,hc⟩
 ·exact this
 ·obtain⟨fees,l2,l3⟩:=s
  obtain⟨⟨f0,f1⟩,⟨n2,t2⟩,n3,c3⟩:(0≤fees∧fees≤2*j)∧(l2.length≤j∧ ∀t∈l2,TxM t)∧l3.length≤500+2*j∧ ∀c∈l3,fK c:=hs
  unfold iH
  rw[show a1p (v:Int) 4=((v%4:Nat):Int)from kZ v 4,if_pos (dT hj)]
  refine Ok.bind (P:=TxQ (j+1)) ?_ fun s hs=> ?_
  ·have j7: ∀(x:Int×List bL×List aQ×Int×Int)(txs:List aD)(cs:List aA)(rec:Int→Option (Int×List aD×List aA)),TxM (aD.mk x.1 x.2.1 x.2.2.1 x.2.2.2.1)→0≤x.2.2.2.2→x.2.2.2.2≤2→(txs.length≤j+1∧ ∀t∈txs,TxM t)→cs.length≤500+2*j→(∀c∈cs,fK c)→
     Ok (j9 N p l (v:Int) fees (j:Int) x txs rec cs) (TxQ (j+1)):=by
    intro x txs cs rec T g0 g1 ht hcs hcm
    unfold j9
    obtain⟨id,hid,eid⟩:=aTS N hN T.k
    refine Ok.eq eid (Ok.eq (aU hid.1) (Ok.bind (P:=fun r=>r.length≤cs.length+x.2.2.1.length∧ ∀c∈r,fK c) ?_ fun r hr=> ?_))
    ·have ho:=T.n
     refine lp (f:=fun m i r=>kE N p l (v:Int) fees (j:Int) x txs id m (i:Int) r) (fun i r=>r.length≤cs.length+i∧ ∀c∈r,fK c) x.2.2.1.length (fun m i r hi hr ih=> ?_) (fun m r hr=> ?_) N 0 cs (by simp only at ho;omega) (by omega) ⟨by omega,hcm⟩
     ·unfold kE
      rw[if_pos (dT hi)]
      simp only at ho
      refine Ok.eq (bA _ hi) (Ok.eq (d8 (by omega) (by have:=hr.1;simp;omega)) ?_)
      rw[i1 (by omega)]
      refine ih _ ⟨by have:=hr.1;simp;omega,fun c hc=> ?_⟩
      rcases a0V.1 hc with hc|hc
      ·exact hr.2 c hc
      obtain rfl:=a0O.1 hc
      exact⟨hid,T.o _ (a0H hi)⟩
     unfold kE
     rw[if_neg (by simp)]
     exact Ok.pure hr
    unfold tR
    have ho:=T.n
    simp only at ho
    rw[cJ (by omega) (by omega)]
    exact Ok.pure ⟨⟨by simp only;omega,by simp only;omega⟩,ht,by have:=hr.1;simp only;omega,hr.2⟩
   refine lp (f:=fun m i (_:Unit)=>c6 N p l (v:Int) fees (j:Int) l2 l3 m (i:Int)) (fun _ _=>True) l3.length (fun m i _ hi _ ih=> ?_) (fun m _ _=> ?_) N 0 () (by omega) (by omega) trivial
   ·have j6: ∀(a:Nat)(ha:a<l3.length)(t:Bool),Ok (j8 N p l (v:Int) fees (j:Int) l2 l3 (i:Int) (a:Int) l3[a] (c6 N p l (v:Int) fees (j:Int) l2 l3 m) t) (TxQ (j+1)):=by
     intro a ha t
     unfold j8 s7
     rw[i1 (by omega)]
     refine Ok.ite (fun _=>ih () trivial) fun _=>Ok.bind (aSU hN (c3 _ (a0H ha)) (aDZ _)) fun x hx=>Ok.eq (d8 (by omega) (by simp;omega)) ?_
     have ht:(l2++[aD.mk x.1 x.2.1 x.2.2.1 x.2.2.2.1]).length≤j+1∧ ∀t∈l2++[aD.mk x.1 x.2.1 x.2.2.1 x.2.2.2.1],TxM t:=by
      refine⟨by simp;omega,fun t ht=> ?_⟩
      rcases a0V.1 ht with ht|ht
      ·exact t2 t ht
      obtain rfl:=a0O.1 ht
      exact hx.1
     refine Ok.ite (fun _=> ?_) (fun _=> ?_)
     ·refine Ok.eq (aHq (a:=0) (a11 a) (by omega)) (Ok.eq (d8 (by omega) (by simp;omega)) (j7 _ _ _ _ hx.1 hx.2.1 hx.2.2 ht (by simp;omega) fun c hc=>c3 c ?_))
      simp at hc
      exact a07 hc
     rw[i1 (by omega)]
     refine Ok.eq (aHq (a:=0) (a11 a) (by omega)) (Ok.eq (aHq (show a+1≤l3.length by omega) (a1c _)) (Ok.eq (d8 (by omega) (by simp;omega)) (j7 _ _ _ _ hx.1 hx.2.1 hx.2.2 ht (by simp;omega) fun c hc=>c3 c ?_)))
     simp at hc
     rcases hc with hc|hc
     ·exact a07 hc
     exact a1R hc
    unfold c6
    rw[if_pos (dT hi),show a1U (v:Int) 4=((v/4:Nat):Int)from s9 v 4]
    have e:a0L.wrap (a0L.wrap (a0L.wrap (a0Y.wrap ((v/4:Nat):Int))+a0L.wrap (j:Int))+(i:Int))=((v/4+j+i:Nat):Int):=by
     rw[show a0Y.wrap ((v/4:Nat):Int)=((v/4:Nat):Int) by rw[a1v];omega,cJ (a:=((v/4:Nat):Int)) (by omega) (by omega),cJ (a:=(j:Int)) (by omega) (by omega),cJ (a:=((v/4:Nat):Int)+(j:Int)) (by omega) (by omega),cJ (by omega) (by omega)]
     omega
    have ha:(v/4+j+i)%l3.length<l3.length:=a1t _ (by omega)
    rw[e]
    refine Ok.eq (a:=(((v/4+j+i)%l3.length:Nat):Int)) (by unfold rem;rw[if_neg (by omega),kZ]) (Ok.eq (bA _ ha) ?_)
    exact Ok.ite (fun _=>j6 _ ha _) (fun _=>j6 _ ha _)
   unfold c6
   rw[if_neg (by simp)]
   exact Ok.pure ⟨⟨f0,by simp only;omega⟩,⟨by simp only;omega,t2⟩,by simp only;omega,c3⟩
  unfold tH
  rw[show a0Y.wrap ((j:Int)+1)=((j+1:Nat):Int) by rw[a1v];omega]
  exact ih (s.1,s.2.1,s.2.2) hs
 unfold iH
 rw[show a1p (v:Int) 4=((v%4:Nat):Int)from kZ v 4,if_neg (by simp)]
 exact Ok.pure ⟨⟨hs.1.1,by have:=hs.1.2;simp only;omega⟩,by have:=hs.2.1.1;simp only;omega,hs.2.1.2⟩
end
def aSw (l:List aD):Prop:=l.length≤4∧ ∀t∈l,TxM t
structure aHl (b:aO):Prop where
 h:HdK b.Header
 t:aSw b.Txs
 n:0<b.Txs.length
structure aXv (l:aF):Prop where
 n:l.Coins.length≤500
 c: ∀c∈l.Coins,fK c
 h:0≤l.Height∧l.Height≤1000
 t:fL l.Tip
theorem lpU {ρ:Type}{f:Nat→Nat→Option ρ}{Q:ρ→Prop}(n:Nat)(step: ∀m j,j<n→Ok (f m (j+1)) Q→Ok (f (m+1) j) Q)(fin: ∀m,Ok (f (m+1) n) Q): ∀(m j:Nat),n-j<m→j≤n→Ok (f m j) Q:=
 fun m j h1 h2=>lp (f:=fun m j (_:Unit)=>f m j) (fun _ _=>True) n (fun m j _ hj _ ih=>step m j hj (ih () trivial)) (fun m _ _=>fin m) m j () h1 h2 trivial
theorem aFl {l:List (List Int)}(h: ∀x∈l,fL x):aHw 32 l=some l:=by
 unfold aHw
 rw[if_pos]
 rw[List.all_eq_true]
 intro x hx
 simpa using (h x hx).1
section
variable {N:Nat}(hN:70000≤N)
include hN
theorem aMb {ls:List (List Int)}(h:ls.length≤100)(hx: ∀x∈ls,x.length≤1000):nL N ls=some ls.flatten:=by
 have:Ok (nL N ls) fun r=>r=ls.flatten:=by
  unfold nL
  refine Ok.bind (P:=fun r=>r=ls.flatten) ?_ fun r hr=> ?_
  ·refine lp (f:=fun m j s=>uN N ls m (j:Int) s) (fun j s=>s=(ls.take j).flatten∧s.length≤j*1000) ls.length (fun m j s hj hs ih=> ?_) (fun m s hs=> ?_) N 0 [] (by omega) (by omega) ⟨by simp,by simp⟩
   ·unfold uN
    rw[if_pos (dT hj),i1 (by omega)]
    have hl:=hx _ (a0H hj)
    refine Ok.eq (bA _ hj) (Ok.eq (lZ N s _ (by omega)) (ih _ ⟨?_,by rw[a0G];omega⟩))
    rw[a0S hj,List.flatten_append,←hs.1]
    simp
   unfold uN
   rw[if_neg (by simp)]
   refine Ok.pure ?_
   rw[hs.1,a1H]
  exact Ok.pure hr
 obtain⟨r,h1,rfl⟩:=this
 exact h1
theorem aQp {l r:List Int}(h1:fL l)(h2:fL r):Ok (xV N l r) fL:=by
 unfold xV
 refine Ok.eq (aU h1.1) (Ok.eq (aU h2.1) (Ok.eq (aMb hN (by simp) (fun x hx=> ?_)) ?_))
 ·simp at hx
  rcases hx with rfl|rfl|rfl
  ·simp
  ·rw[h1.1];omega
  rw[h2.1];omega
 refine Ok.eq (yS N hN _ ?_ ?_) (Ok.eq (aU (c5 _ _)) (Ok.pure ⟨c5 _ _,gJ _ _⟩))
 ·intro x hx
  simp at hx
  rcases hx with rfl|hx|hx
  ·omega
  ·exact h1.2 x hx
  exact h2.2 x hx
 simp[h1.1,h2.1]
def LvK (x:List (List Int)):Prop:=0<x.length∧ ∀h∈x,fL h
theorem aTv {l:List (List Int)}(hl:l.length≤4)(hh: ∀h∈l,fL h):Ok (t8 N l) fL:=by
 have j1: ∀t:Bool,(t=false→0<l.length)→Ok (mQ N l t) fL:=by
  intro t ht
  unfold mQ
  refine Ok.ite (fun _=>Ok.pure aPi) fun hf=> ?_
  have h0:=ht (by cases t;rfl;exact absurd rfl hf)
  refine Ok.bind (P:=fun r=>(0<r.length∧r.length≤100)∧ ∀x∈r,LvK x) ?_ fun r hr=> ?_
  ·unfold aBF
   refine Ok.bind (P:=fun r=>(0<r.length∧r.length≤100)∧ ∀x∈r,LvK x) ?_ fun r hr=>Ok.pure hr
   have:=lp (f:=fun m j (s:List (List Int)×List (List (List Int)))=>iP N m s.1 s.2) (Q:=fun r=>(0<r.length∧r.length≤100)∧ ∀x∈r,LvK x)
    (fun j s=>(LvK s.1∧s.1.length+j≤4)∧(0<s.2.length∧s.2.length≤j+1)∧ ∀x∈s.2,LvK x) 3 (fun m j s hj hs ih=> ?_) (fun m s hs=> ?_) N 0 (l,[l]) (by omega) (by omega) ⟨⟨⟨h0,hh⟩,by simp only;omega⟩,by simp,fun x hx=>by simp at hx;subst hx;exact⟨h0,hh⟩⟩
   ·exact this
   ·obtain⟨l1,l0⟩:=s
    obtain⟨⟨k1,k2⟩,k3,k4⟩:(LvK l1∧l1.length+j≤4)∧(0<l0.length∧l0.length≤j+1)∧ ∀x∈l0,LvK x:=hs
    unfold iP
    refine Ok.ite (fun hc=> ?_) (fun _=>Ok.pure ⟨⟨k3.1,by simp only;omega⟩,k4⟩)
    have hc':1<l1.length:=by have h9:(1:Int)<(l1.length:Int):=of_decide_eq_true hc;omega
    refine Ok.bind (P:=fun r=>r.length=(l1.length+1)/2∧ ∀h∈r,fL h) ?_ fun r hr=> ?_
    ·refine lp (f:=fun m i s=>dR N l1 l0 m ((2*i:Nat):Int) s) (fun i s=>s.length=i∧ ∀h∈s,fL h) ((l1.length+1)/2) (fun m i s hi hs ih=> ?_) (fun m s hs=> ?_) N 0 [] (by omega) (by omega) ⟨rfl,by simp⟩
     ·have add: ∀x,fL x→Ok (kG N l1 l0 ((2*i:Nat):Int) (dR N l1 l0 m) (s++[x])) fun r=>r.length=(l1.length+1)/2∧ ∀h∈r,fL h:=by
       intro x hx
       unfold kG
       rw[cJ (by omega) (by omega),show((2*i:Nat):Int)+2=((2*(i+1):Nat):Int) by omega]
       refine ih _ ⟨by simp[hs.1],fun h hh=> ?_⟩
       rcases a0V.1 hh with hh|hh
       ·exact hs.2 h hh
       obtain rfl:=a0O.1 hh;exact hx
      have a1:=k1.2 _ (a0H (show 2*i<l1.length by omega))
      unfold dR
      rw[if_pos (dT (show 2*i<l1.length by omega)),i1 (by omega)]
      refine Ok.ite (fun hc2=> ?_) (fun _=> ?_)
      ·have hc3:2*i+1<l1.length:=by have:=of_decide_eq_true hc2;omega
       have a2:=k1.2 _ (a0H hc3)
       exact Ok.eq (bA _ (show 2*i<l1.length by omega)) (Ok.eq (aU a1.1) (Ok.eq (bA _ hc3) (Ok.eq (aU a2.1) (Ok.bind (aQp hN a1 a2) fun x hx=>Ok.eq (aU hx.1) (Ok.eq (d8 (by omega) (by simp;omega)) (add x hx))))))
      exact Ok.eq (bA _ (show 2*i<l1.length by omega)) (Ok.eq (aU a1.1) (Ok.eq (d8 (by omega) (by simp;omega)) (add _ a1)))
     unfold dR
     rw[if_neg (by simp;omega)]
     exact Ok.pure hs
    unfold vG
    refine Ok.eq (aFl hr.2) (Ok.eq (d8 (by omega) (by simp;omega)) (ih (r,l0++[r]) ⟨⟨⟨by rw[hr.1];omega,hr.2⟩,by simp only;omega⟩,by simp;omega,fun x hx=> ?_⟩))
    rcases a0V.1 hx with hx|hx
    ·exact k4 x hx
    obtain rfl:=a0O.1 hx
    exact⟨by rw[hr.1];omega,hr.2⟩
   unfold iP
   rw[if_neg (by have:=hs.1.2;simp;omega)]
   exact Ok.pure ⟨⟨hs.2.1.1,by have:=hs.2.1.2;omega⟩,hs.2.2⟩
  rw[cJ (by omega) (by omega),show(r.length:Int)-1=((r.length-1:Nat):Int) by omega]
  have a:=hr.2 _ (a0H (show r.length-1<r.length by omega))
  have b:=a.2 _ (a0H a.1)
  exact Ok.eq (bA _ (by omega)) (Ok.eq (bA (i:=0) _ a.1) (Ok.eq (aU b.1) (Ok.pure b)))
 unfold t8
 refine Ok.ite (fun _=>j1 _ (by simp)) fun h=>j1 _ fun _=> ?_
 rcases a1n l.length with h0|h0
 ·exact absurd (by rw[h0];rfl) h
 exact h0
theorem aQb {l:List aD}(T:aSw l):Ok (tA N l) fL:=by
 have hn:=T.1
 unfold tA
 refine Ok.bind (P:=fun r=>r.length=l.length∧ ∀h∈r,fL h) ?_ fun r hr=> ?_
 ·refine lp (f:=fun m j s=>fU N l m (j:Int) s) (fun j s=>s.length=j∧ ∀h∈s,fL h) l.length (fun m j s hj hs ih=> ?_) (fun m s hs=> ?_) N 0 [] (by omega) (by omega) ⟨rfl,by simp⟩
  ·unfold fU
   rw[if_pos (dT hj),i1 (by omega)]
   obtain⟨h,hh,e⟩:=aQj N hN (T.2 _ (a0H hj)).k
   refine Ok.eq (bA _ hj) (Ok.eq e (Ok.eq (aU hh.1) (Ok.eq (d8 (by omega) (by simp;omega)) (ih _ ⟨by simp[hs.1],fun x hx=> ?_⟩))))
   rcases a0V.1 hx with hx|hx
   ·exact hs.2 x hx
   obtain rfl:=a0O.1 hx;exact hh
  unfold fU
  rw[if_neg (by simp)]
  exact Ok.pure hs
 unfold aAA
 exact Ok.eq (aFl hr.2) (Ok.bind (aTv hN (by omega) hr.2) fun x hx=>Ok.eq (aU hx.1) (Ok.pure hx))
theorem aSX {p:aI}{l:aF}{c:aV}(P:PK p)(L:aXv l)(C:aSx c){vs:Int}(h:0≤vs∧vs<256):Ok (aEM N p l c vs) aHl:=by
 have hh:=L.h
 unfold aEM
 refine Ok.bind (aW6 hN L.n L.c h) fun r hr=> ?_
 rw[cJ (a:=l.Height+1) (by omega) (by omega)]
 refine Ok.bind (aT7 hN P (by omega)) fun s hs=>Ok.bind (aIs hN (aDZ _)) fun sc hsc=> ?_
 rw[cJ (a:=s+r.2) (by omega) (by omega)]
 refine Ok.eq (x:=aEo N _ _ _) rfl (Ok.eq (d8 (by omega) (by simp;omega)) ?_)
 have T:aSw ([aD.mk 1 [bL.mk (aC.mk (a0I 32 0) 4294967295) (a01.wrap (l.Height+1)) []] [aQ.mk (s+r.2) sc] 0]++r.1):=by
  refine⟨by simp;omega,fun t ht=> ?_⟩
  rcases a0V.1 ht with ht|ht
  ·obtain rfl:=a0O.1 ht
   refine⟨⟨_,rfl,⟨by simp,fun x hx=> ?_⟩,.inl rfl,aXq _⟩,by simp,fun o ho=> ?_⟩
   ·have:=a00 hx;omega
   obtain rfl:=a0O.1 ho
   exact⟨hsc,by simp only;omega,by simp only;omega⟩
  exact hr.2.1 t ht
 exact Ok.bind (aQb hN T) fun nH hroot=>Ok.eq (x:=aFm N vs) rfl (Ok.bind (aVp hN P C hroot) fun hd hhd=>Ok.pure ⟨hhd,T,by simp⟩)
theorem aOP {t:aD}(T:TxM t):Ok (gH N t) fun _=>True:=⟨_,pB N hN T.k.k,trivial⟩
theorem aSr {t:aD}(T:TxM t):Ok (rT N t true) fun r=>r.1.length≤20000:=by
 unfold rT
 refine Ok.eq (pB N hN T.k.k) ?_
 cases hf:nB t.Version t.Inputs t.Outputs t.Lock with
 |false=>exact Ok.pure (by simp)
 |true=>exact Ok.eq (aBE N hN T.k.k) (Ok.pure (aFw N hN T.k hf true))
theorem aSL {b:aO}(B:aHl b):Ok (yT N b) fun _=>True:=by
 have hn:=B.t.1
 unfold yT
 refine Ok.ite (fun _=>Ok.pure trivial) fun _=>Ok.lr (R:=fun _=>True) (P:=fun _=>True) ?_ (fun v _=>Ok.pure trivial) fun _ _=> ?_
 ·refine lpU (f:=fun m j=>kS N b m (j:Int)) b.Txs.length (fun m j hj ih=> ?_) (fun m=> ?_) N 0 (by omega) (by omega)
  ·unfold kS
   rw[if_pos (dT hj),i1 (by omega)]
   exact Ok.eq (bA _ hj) (Ok.bind (aOP hN (B.t.2 _ (a0H hj))) fun t _=>Ok.ite (fun _=>Ok.pure trivial) fun _=>ih)
  unfold kS
  rw[if_neg (by simp)]
  exact Ok.pure trivial
 unfold aAv
 refine Ok.bind (P:=fun _=>True) ?_ fun r _=>Ok.pure trivial
 unfold aCf
 refine Ok.eq (aNL N hN b.Header B.h.p.1 B.h.r.1) (Ok.eq (aGN N hN _ _ (show b.Txs.length≤1000000 by omega) (by rw[aA4 B.h.p.1 B.h.r.1];omega)) ?_)
 refine Ok.bind (P:=fun _=>True) ?_ fun r _=>Ok.pure trivial
 have hz:=iV b.Txs.length
 refine lp (f:=fun m j s=>kH N b m (j:Int) s) (fun j s=>s.length≤100+j*20000) b.Txs.length (fun m j s hj hs ih=> ?_) (fun m s hs=> ?_) N 0 _ (by omega) (by omega) (by rw[a0G,aA4 B.h.p.1 B.h.r.1];omega)
 ·unfold kH
  rw[if_pos (dT hj),i1 (by omega)]
  exact Ok.eq (bA _ hj) (Ok.bind (aSr hN (B.t.2 _ (a0H hj))) fun r hr=>Ok.eq (d8 (by omega) (by omega)) (ih _ (by rw[a0G];omega)))
 unfold kH
 rw[if_neg (by simp)]
 exact Ok.pure trivial
theorem aCa {t:aD}:Ok (cV N t) fun _=>True:=by
 unfold cV
 refine Ok.ite (fun h=> ?_) fun _=>Ok.pure trivial
 have h1:(t.Inputs.length:Int)=1:=by simpa using h
 exact Ok.eq (bA (i:=0) _ (by omega)) (Ok.eq (x:=qU N _) rfl (Ok.pure trivial))
theorem aMT {t:aD}(T:TxM t):Ok (rF N t) fun _=>True:=by
 obtain⟨x,hi,_⟩:=T.i
 have hni:t.Inputs.length=1:=by rw[hi];rfl
 have hno:=T.n
 unfold rF
 refine Ok.bind (aOP hN T) fun f _=>Ok.ite (fun _=>Ok.pure trivial) fun _=> ?_
 have j3:Ok (r5 N t) fun _=>True:=by
  unfold r5
  refine Ok.lr (R:=fun _=>True) (P:=fun _=>True) ?_ (fun v _=>Ok.pure trivial) fun _ _=>Ok.pure trivial
  refine lpU (f:=fun m j=>gA N t m (j:Int)) t.Inputs.length (fun m j hj ih=> ?_) (fun m=> ?_) N 0 (by omega) (by omega)
  ·have j6: ∀b:Bool,Ok (nW N t (j:Int) (gA N t m) b) (lrP (fun _=>True) fun _=>True):=fun b=>by
    unfold nW
    rw[i1 (by omega)]
    exact Ok.ite (fun _=>Ok.pure trivial) fun _=>ih
   unfold gA
   rw[if_pos (dT hj)]
   exact Ok.eq (bA _ hj) (Ok.eq (x:=qU N _) rfl (Ok.ite (fun _=>Ok.bind (aCa hN) fun c _=>j6 _) fun _=>j6 _))
  unfold gA
  rw[if_neg (by simp)]
  exact Ok.pure trivial
 have j2: ∀s,Ok (rY N t s) fun _=>True:=fun s=>by
  unfold rY
  refine Ok.ite (fun _=>Ok.pure trivial) fun _=>Ok.lr (R:=fun _=>True) (P:=fun _=>True) ?_ (fun v _=>Ok.pure trivial) fun _ _=>j3
  refine lpU (f:=fun m j=>jP N t m (j:Int)) t.Inputs.length (fun m j hj ih=> ?_) (fun m=> ?_) N 0 (by omega) (by omega)
  ·unfold jP yB
   rw[if_pos (dT hj),i1 (by omega)]
   refine Ok.lr (R:=fun _=>True) (P:=fun _=>True) ?_ (fun v _=>Ok.pure trivial) fun _ _=>ih
   refine lpU (f:=fun m i=>n7 N t (j:Int) m (i:Int)) j (fun m i hi ih=> ?_) (fun m=> ?_) N 0 (by omega) (by omega)
   ·unfold n7
    rw[if_pos (dT hi),i1 (by omega)]
    exact Ok.eq (bA _ hj) (Ok.eq (bA _ (show i<t.Inputs.length by omega)) (Ok.ite (fun _=>Ok.pure trivial) fun _=>ih))
   unfold n7
   rw[if_neg (by simp)]
   exact Ok.pure trivial
  unfold jP
  rw[if_neg (by simp)]
  exact Ok.pure trivial
 have j1: ∀b,Ok (n9 N t b) fun _=>True:=fun b=>by
  unfold n9
  refine Ok.ite (fun _=>Ok.pure trivial) fun _=>Ok.lr (R:=fun _=>True) (P:=fun _=>True) ?_ (fun v _=>Ok.pure trivial) fun _ _=>j2 _
  refine lp (f:=fun m j s=>gO N t m s (j:Int)) (fun _ _=>True) t.Outputs.length (fun m j s hj _ ih=> ?_) (fun m s _=> ?_) N 0 0 (by omega) (by omega) trivial
  ·unfold gO
   rw[if_pos (dT hj),i1 (by omega)]
   exact Ok.eq (bA _ hj) (Ok.ite (fun _=>Ok.pure trivial) fun _=>ih _ trivial)
  unfold gO
  rw[if_neg (by simp)]
  exact Ok.pure trivial
 exact Ok.ite (fun _=>j1 _) fun _=>j1 _
theorem aOr {ids:List (List Int)}{id:List Int}(h: ∀x∈ids,fL x)(hn:ids.length≤1000)(hi:id.length=32):Ok (uQ N ids id) fun _=>True:=by
 unfold uQ
 refine Ok.lr (R:=fun _=>True) (P:=fun _=>True) ?_ (fun v _=>Ok.pure trivial) fun _ _=>Ok.pure trivial
 refine lpU (f:=fun m j=>lE N ids id m (j:Int)) ids.length (fun m j hj ih=> ?_) (fun m=> ?_) N 0 (by omega) (by omega)
 ·unfold lE
  rw[if_pos (dT hj),i1 (by omega)]
  exact Ok.eq (bA _ hj) (Ok.eq (aU (h _ (a0H hj)).1) (Ok.eq (aU hi) (Ok.ite (fun _=>Ok.pure trivial) fun _=>ih)))
 unfold lE
 rw[if_neg (by simp)]
 exact Ok.pure trivial
theorem aRr {b:aO}(B:aHl b){ids:List (List Int)}(h: ∀x∈ids,fL x)(hn:ids.length≤1000):Ok (qA N b ids) fun _=>True:=by
 have hb:=B.t.1
 unfold qA
 refine Ok.lr (R:=fun _=>True) (P:=fun _=>True) ?_ (fun v _=>Ok.pure trivial) fun _ _=>Ok.pure trivial
 refine lpU (f:=fun m j=>dH N b ids m (j:Int)) b.Txs.length (fun m j hj ih=> ?_) (fun m=> ?_) N 0 (by omega) (by omega)
 ·unfold dH tL
  rw[if_pos (dT hj),i1 (by omega)]
  have T:=B.t.2 _ (a0H hj)
  refine Ok.eq (bA _ hj) (Ok.lr (R:=fun _=>True) (P:=fun _=>True) ?_ (fun v _=>Ok.pure trivial) fun _ _=>ih)
  generalize b.Txs[j]=t at T
  obtain⟨x,hi,hx⟩:=T.i
  have hni:t.Inputs.length=1:=by rw[hi];rfl
  refine lpU (f:=fun m i=>fQ N b ids (j:Int) t m (i:Int)) t.Inputs.length (fun m i hi2 ih=> ?_) (fun m=> ?_) N 0 (by omega) (by omega)
  ·unfold fQ
   rw[if_pos (dT hi2),i1 (by omega)]
   have hm:t.Inputs[i]=x:=(show∀y∈t.Inputs,y=x by rw[hi];simp) _ (a0H hi2)
   refine Ok.eq (bA _ hi2) ?_
   rw[hm]
   exact Ok.eq (aU hx.p.1) (Ok.bind (aOr hN h hn hx.p.1) fun k _=>Ok.ite (fun _=>Ok.pure trivial) fun _=>ih)
  unfold fQ
  rw[if_neg (by simp)]
  exact Ok.pure trivial
 unfold dH
 rw[if_neg (by simp)]
 exact Ok.pure trivial
theorem aSV {b:aO}(B:aHl b):Ok (uS N b) fun _=>True:=by
 have hb:=B.t.1
 unfold uS
 refine Ok.lr (R:=fun _=>True) (P:=fun _=>True) ?_ (fun v _=>Ok.pure trivial) fun _ _=>Ok.pure trivial
 refine lp (f:=fun m j s=>fY N b m (j:Int) s) (fun j s=>s.length≤j) b.Txs.length (fun m j s hj hs ih=> ?_) (fun m s _=> ?_) N 0 [] (by omega) (by omega) (by simp)
 ·unfold fY yQ
  rw[if_pos (dT hj),i1 (by omega)]
  have T:=B.t.2 _ (a0H hj)
  refine Ok.eq (bA _ hj) (Ok.lr (R:=fun _=>True) (P:=fun s=>s.length≤j+1) ?_ (fun v _=>Ok.pure trivial) fun s hs=>ih _ hs)
  generalize b.Txs[j]=t at T
  obtain⟨x,hi,hx⟩:=T.i
  have hni:t.Inputs.length=1:=by rw[hi];rfl
  refine lp (f:=fun m i s=>fG N b (j:Int) t m (i:Int) s) (fun i s=>s.length≤j+i) t.Inputs.length (fun m i s hi2 hs ih=> ?_) (fun m s hs=> ?_) N 0 s (by omega) (by omega) (by omega)
  ·unfold fG yK yA
   rw[if_pos (dT hi2),i1 (by omega)]
   refine Ok.eq (bA _ hi2) (Ok.lr (R:=fun _=>True) (P:=fun _=>True) ?_ (fun v _=>Ok.pure trivial) fun _ _=>Ok.eq (d8 (by omega) (by simp;omega)) (ih _ (by simp;omega)))
   refine lpU (f:=fun m k=>iC N b (j:Int) t (i:Int) s t.Inputs[i] m (k:Int)) s.length (fun m k hk ih=> ?_) (fun m=> ?_) N 0 (by omega) (by omega)
   ·unfold iC
    rw[if_pos (dT hk),i1 (by omega)]
    exact Ok.eq (bA _ hk) (Ok.ite (fun _=>Ok.pure trivial) fun _=>ih)
   unfold iC
   rw[if_neg (by simp)]
   exact Ok.pure trivial
  unfold fG
  rw[if_neg (by simp)]
  exact Ok.pure (show s.length≤j+1 by omega)
 unfold fY
 rw[if_neg (by simp)]
 exact Ok.pure trivial
theorem aLE {b:aO}(B:aHl b):Ok (jW N b) fun _=>True:=by
 have hb:=B.t.1
 have j3: ∀ids:List (List Int),(∀x∈ids,fL x)→ids.length≤1000→Ok (sR N b ids) fun _=>True:=fun ids h hn=>by
  unfold sR
  exact Ok.eq (aFl h) (Ok.bind (aRr hN B h hn) fun t _=>Ok.ite (fun _=>Ok.pure trivial) fun _=>Ok.bind (aSV hN B) fun t _=>Ok.ite (fun _=>Ok.pure trivial) fun _=>Ok.bind (aQb hN B.t) fun r hr=>Ok.eq (aU B.h.r.1) (Ok.eq (aU hr.1) (Ok.ite (fun _=>Ok.pure trivial) fun _=>Ok.pure trivial)))
 have j2:Ok (n5 N b) fun _=>True:=by
  unfold n5
  refine Ok.lr (R:=fun _=>True) (P:=fun s=>s.length≤4∧ ∀x∈s,fL x) ?_ (fun v _=>Ok.pure trivial) fun s hs=>j3 s hs.2 (by omega)
  refine lp (f:=fun m j s=>iA N b m (j:Int) s) (fun j s=>s.length≤j∧ ∀x∈s,fL x) b.Txs.length (fun m j s hj hs ih=> ?_) (fun m s hs=> ?_) N 0 [] (by omega) (by omega) ⟨by simp,by simp⟩
  ·unfold iA
   rw[if_pos (dT hj),i1 (by omega)]
   obtain⟨h,hh,e⟩:=aTS N hN (B.t.2 _ (a0H hj)).k
   refine Ok.eq (bA _ hj) (Ok.eq e (Ok.eq (aU hh.1) (Ok.eq (aFl hs.2) (Ok.bind (aOr hN hs.2 (by omega) hh.1) fun k _=>Ok.ite (fun _=>Ok.pure trivial) fun _=>Ok.eq (d8 (by omega) (by simp;omega)) (ih _ ⟨by simp;omega,fun x hx=> ?_⟩)))))
   rcases a0V.1 hx with hx|hx
   ·exact hs.2 x hx
   obtain rfl:=a0O.1 hx;exact hh
  unfold iA
  rw[if_neg (by simp)]
  exact Ok.pure (show s.length≤4∧ ∀x∈s,fL x from⟨by omega,hs.2⟩)
 have j1:Ok (rV N b) fun _=>True:=by
  unfold rV
  refine Ok.lr (R:=fun _=>True) (P:=fun _=>True) ?_ (fun v _=>Ok.pure trivial) fun _ _=>j2
  refine lpU (f:=fun m j=>jN N b m (j:Int)) b.Txs.length (fun m j hj ih=> ?_) (fun m=> ?_) N 0 (by omega) (by omega)
  ·unfold jN
   rw[if_pos (dT hj),i1 (by omega)]
   exact Ok.eq (bA _ hj) (Ok.bind (aMT hN (B.t.2 _ (a0H hj))) fun e _=>Ok.ite (fun _=>Ok.pure trivial) fun _=>ih)
  unfold jN
  rw[if_neg (by simp)]
  exact Ok.pure trivial
 unfold jW
 refine Ok.bind (aSL hN B) fun f _=>Ok.ite (fun _=>Ok.pure trivial) fun _=>Ok.ite (fun _=>Ok.pure trivial) fun _=> ?_
 refine Ok.lr (R:=fun _=>True) (P:=fun _=>True) ?_ (fun v _=>Ok.pure trivial) fun _ _=>j1
 refine lpU (f:=fun m j=>dX N b m (j:Int)) b.Txs.length (fun m j hj ih=> ?_) (fun m=> ?_) N 0 (by omega) (by omega)
 ·unfold dX
  rw[if_pos (dT hj),i1 (by omega)]
  exact Ok.eq (bA _ hj) (Ok.bind (aCa hN) fun e _=>Ok.ite (fun _=>Ok.pure trivial) fun _=>ih)
 unfold dX
 rw[if_neg (by simp)]
 exact Ok.pure trivial
end
end Go.Proofs.YtopdhljncajmpaaGreatDoor
set_option maxRecDepth 20000
namespace Go.Proofs.YtopdhljncajmpaaGreatDoor
open Go Go.Vm
def tB (k:Int):List cG:=[⟨1,[k],0,0⟩,⟨5,[],0,0⟩]
theorem aT4 (M:Nat)(k k':Int)(v:cC): ∃t:Bool,aB6 (M+100) ⟨5,[],0,0⟩ [[k'],[k]] v=some ([if t then [1]else []],0):=by
 refine⟨(iG [k']).toList == (iG [k]).toList, ?_⟩
 have h:yJ (M+100) [k'] [k]=some ((iG [k']).toList == (iG [k]).toList):=rfl
 generalize ((iG [k']).toList == (iG [k]).toList)=t at h⊢
 show((yJ (M+100) [k'] [k]).bind fun x84=>(aDB (M+100) x84).bind fun x85=>(b5 24 [] [x85]).bind fun x87=>some (x87,0))=_
 rw[h]
 cases t<;>rfl
theorem aOy (M:Nat)(k k':Int)(v:cC):kB (M+100) v (tB k,0) (M+100) [[k']] 0 0=(aB6 (M+100) ⟨5,[],0,0⟩ [[k'],[k]] v).bind fun aPC=>
  if aPC.2 != 0 then none else kB (M+100) v (tB k,0) (M+98) aPC.1 2 2:=by rfl
theorem aSb (M:Nat)(k:Int)(v:cC)(t:Bool):kB (M+100) v (tB k,0) (M+98) [if t then [1]else []] 2 2=some (.brk ([if t then [1]else []],2)):=by rfl
theorem aOj (M:Nat)(k:Int):aHr (M+100) [1,1,k,5]=some (tB k,0):=by rfl
theorem aQo (M:Nat)(k:Int):wO (M+100) (tB k)=some true:=by rfl
theorem aQ2 (M:Nat)(k:Int):aBt (M+100) [[k]]=some false:=by rfl
theorem aMJ (M:Nat)(k:Int):wF (M+100) [[k]]=some [[k]]:=by rfl
theorem aQ0 (M:Nat)(k:Int)(v:cC):xE (M+100) [1,1,k,5] [] v=some ([],0,81):=by rfl
theorem aQk (M:Nat)(t:Bool):aBY (M+100) (if t then [1]else [])=some t:=by cases t<;>rfl
theorem aWL (M:Nat)(k:Int)(w:List (List Int))(hw:w=[]∨ ∃k':Int,w=[[k']])(v:cC):Ok (fM (M+100) [1,1,k,5] w v) fun _=>True:=by
 rcases hw with rfl|⟨k',rfl⟩
 ·unfold fM
  rw[aQ0]
  exact Ok.pure trivial
 obtain⟨t,ht⟩:=aT4 M k k' v
 have e:xE (M+100) [1,1,k,5] [[k']] v=some ([if t then [1]else []],2,0):=by
  unfold xE
  rw[aOj]
  show((wO (M+100) (tB k)).bind fun x27=>_)=_
  rw[aQo]
  show((aBt (M+100) [[k']]).bind fun x30=>_)=_
  rw[aQ2]
  show((wF (M+100) [[k']]).bind fun x32=>_)=_
  rw[aMJ]
  show((kB (M+100) v (tB k,0) (M+100) [[k']] 0 0).bind fun q=>_)=_
  rw[aOy,ht]
  show((kB (M+100) v (tB k,0) (M+98) [if t then [1]else []] 2 2).bind fun q=>_)=_
  rw[aSb]
  rfl
 unfold fM
 rw[e]
 show Ok ((aBY (M+100) (if t then [1]else [])).bind fun x30=>_) _
 rw[aQk]
 cases t<;>exact Ok.pure trivial
theorem xB {t:aD}(T:TxM t): ∃x,t.Inputs=[x]∧InM x∧t.Inputs.length=1:=by
 obtain⟨x,hi,hx⟩:=T.i
 exact⟨x,hi,hx,by rw[hi];rfl⟩
theorem aQZ {t:aD}{x:bL}(h:t.Inputs=[x]){i:Nat}(hi:i<t.Inputs.length):t.Inputs[i]=x:=(show∀y∈t.Inputs,y=x by rw[h];simp) _ (a0H hi)
section
variable {N:Nat}(hN:70000≤N)
include hN
theorem aJ2 {t:aD}(T:TxM t){h:Int}:Ok (rD N t h) fun _=>True:=by
 obtain⟨x,hi,hx,hl⟩:=xB T
 unfold rD
 refine Ok.ite (fun _=>Ok.pure trivial) fun _=>Ok.lr (R:=fun _=>True) (P:=fun _=>True) ?_ (fun v _=>Ok.pure trivial) fun _ _=>Ok.pure trivial
 refine lpU (f:=fun m j=>lC N t m (j:Int)) t.Inputs.length (fun m j hj ih=> ?_) (fun m=> ?_) N 0 (by omega) (by omega)
 ·unfold lC
  rw[if_pos (dT hj),i1 (by omega)]
  exact Ok.eq (bA _ hj) (Ok.ite (fun _=>Ok.pure trivial) fun _=>ih)
 unfold lC
 rw[if_neg (by simp)]
 exact Ok.pure trivial
theorem aW7 {k:Nat}{w:List (List Int)}(hw:w=[]∨ ∃k':Nat,1≤k'∧k'≤6∧w=[[(k':Int)]])(v:cC):Ok (fM N [1,1,(k:Int),5] w v) fun _=>True:=by
 obtain⟨M,rfl⟩: ∃M,N=M+100:=⟨N-100,by omega⟩
 refine aWL M k w ?_ v
 rcases hw with h|⟨k',_,_,h⟩
 ·exact .inl h
 exact .inr ⟨_,h⟩
theorem aLr {t:aD}(T:TxM t){i:Int}{o:aQ}(O:aNX o):Ok (uL N t i o) fun r=>r.1.length=32∧(i=0→r.2=if nB t.Version t.Inputs t.Outputs t.Lock=true then 0 else 4):=by
 obtain⟨x,hi,hx,hl⟩:=xB T
 have hno:=T.n
 have z:([0,0,0,0,0,0,0,0,0,0,0,0,0,0,0,0,0,0,0,0,0,0,0,0,0,0,0,0,0,0,0,0]:List Int).length=32:=rfl
 have j4: ∀a b c:List Int,(Byt a∧a.length≤10000)→(Byt b∧b.length≤10000)→(Byt c∧c.length≤10000)→Ok (pJ N t i o a b c) fun r=>r.1.length=32∧r.2=0:=by
  intro a b c ha hb hc
  have ho:(qY o).length≤613:=aHY (by have:=O.1.len;omega)
  have hob:Byt (qY o):=(xK _ _).append ((y0 _).append O.1.byt)
  unfold pJ
  rw[aCg N hN [] t.Version (by simp)]
  simp only[a0F,a0K]
  rw[yS N hN a ha.1 (by omega)]
  simp only[a0F]
  rw[aMv N hN _ _ (c5 _ _) (by rw[bZ];omega)]
  simp only[a0F]
  rw[yS N hN b hb.1 (by omega)]
  simp only[a0F]
  rw[aMv N hN _ _ (c5 _ _) (by simp only[a0G,bZ,c5];omega)]
  simp only[a0F]
  rw[yS N hN c hc.1 (by omega)]
  simp only[a0F]
  rw[aMv N hN _ _ (c5 _ _) (by simp only[a0G,bZ,c5];omega)]
  simp only[a0F]
  rw[aCg N hN _ _ (by simp only[a0G,bZ,c5];omega)]
  simp only[a0F]
  rw[aCg N hN _ _ (by simp only[a0G,bZ,c5];omega)]
  simp only[a0F]
  rw[aUF N hN o (by have:=O.1.len;omega)]
  simp only[a0F]
  rw[jG (by simp only[a0G,bZ,c5];omega)]
  simp only[a0F]
  rw[aSP N hN _ (by decide) _ ?_ (by simp only[a0G,bZ,c5];omega)]
  ·exact Ok.eq (aU (aE8 _ _ _)) (Ok.pure ⟨aE8 _ _ _,rfl⟩)
  exact Byt.append (Byt.append (Byt.append (Byt.append (Byt.append (Byt.append (gG _) (gJ _ _)) (gJ _ _)) (gJ _ _)) (gG _)) (gG _)) hob
 have j3: ∀a b:List Int,(Byt a∧a.length≤10000)→(Byt b∧b.length≤10000)→Ok (oF N t i o a b) fun r=>r.1.length=32∧r.2=0:=by
  intro a b ha hb
  unfold oF
  refine Ok.bind (P:=fun c=>Byt c∧c.length≤10000) ?_ fun c hc=>j4 a b c ha hb hc
  refine lp (f:=fun m j s=>o7 N t i o a b m (j:Int) s) (fun j s=>Byt s∧s.length≤613*j) t.Outputs.length (fun m j s hj hs ih=> ?_) (fun m s hs=> ?_) N 0 [] (by omega) (by omega) ⟨aC5,by simp⟩
  ·unfold o7
   have O2:=T.o _ (a0H hj)
   have h2:(qY t.Outputs[j]).length≤613:=aHY (by have:=O2.1.len;omega)
   have hb2:Byt (qY t.Outputs[j]):=(xK _ _).append ((y0 _).append O2.1.byt)
   rw[if_pos (dT hj),i1 (by omega)]
   exact Ok.eq (bA _ hj) (Ok.eq (aUF N hN _ (by have:=O2.1.len;omega)) (Ok.eq (jG (by omega)) (ih _ ⟨hs.1.append hb2,by rw[a0G];omega⟩)))
  unfold o7
  rw[if_neg (by simp)]
  exact Ok.pure ⟨hs.1,by omega⟩
 have j2: ∀b,Ok (lI N t i o b) fun r=>r.1.length=32∧(b=false→r.2=0):=by
  intro b
  unfold lI
  refine Ok.ite (fun h=>Ok.pure ⟨z,fun e=>by rw[e]at h;cases h⟩) fun _=>Ok.mono (P:=fun r=>r.1.length=32∧r.2=0) ?_ fun r hr=>⟨hr.1,fun _=>hr.2⟩
  refine Ok.bind (P:=fun s=>(Byt s.1∧s.1.length≤10000)∧Byt s.2∧s.2.length≤10000) ?_ fun s hs=>j3 _ _ hs.1 hs.2
  have:=lp (f:=fun m j (s:List Int×List Int)=>oJ N t i o m (j:Int) s.1 s.2) (Q:=fun s=>(Byt s.1∧s.1.length≤10000)∧Byt s.2∧s.2.length≤10000) (fun j s=>(Byt s.1∧s.1.length≤40*j)∧Byt s.2∧s.2.length≤40*j) t.Inputs.length (fun m j s hj hs ih=> ?_) (fun m s hs=> ?_) N 0 ([],[]) (by omega) (by omega) ⟨⟨aC5,by simp⟩,aC5,by simp⟩
  ·exact this
  ·unfold oJ
   rw[if_pos (dT hj),i1 (by omega)]
   refine Ok.eq (bA _ hj) ?_
   rw[aQZ hi hj]
   refine Ok.eq (aTa N hN _ hx.p.1) (Ok.eq (jG ?_) (Ok.eq (aCg N hN _ _ (by have:=hs.2.2;omega)) (ih (_,_) ⟨⟨hs.1.1.append (hx.p.2.append (gG _)), ?_⟩,hs.2.1.append (gG _), ?_⟩)))
   ·have:=hs.1.2;simp only[a0G,bZ,hx.p.1];omega
   ·have:=hs.1.2;simp only[a0G,bZ,hx.p.1];omega
   have:=hs.2.2;simp only[a0G,bZ];omega
  unfold oJ
  rw[if_neg (by simp)]
  exact Ok.pure ⟨⟨hs.1.1,by have:=hs.1.2;simp only;omega⟩,hs.2.1,by have:=hs.2.2;simp only;omega⟩
 have j1: ∀b,Ok (jE N t i o b) fun r=>r.1.length=32∧(i=0→r.2=if b=true then 4 else 0):=by
  intro b
  unfold jE
  refine Ok.ite (fun h=>Ok.pure ⟨z,fun _=>by rw[if_pos h]⟩) fun hb=>Ok.ite (fun h=>(j2 _).mono fun r hr=>⟨hr.1,fun hi0=> ?_⟩) fun _=>(j2 _).mono fun r hr=>⟨hr.1,fun hi0=> ?_⟩
  ·have:=of_decide_eq_true h;omega
  rw[if_neg hb];exact hr.2 (decide_eq_false (by omega))
 unfold uL
 refine Ok.eq (pB N hN T.k.k) ?_
 cases nB t.Version t.Inputs t.Outputs t.Lock with
 |false=>exact(j1 true).mono fun r hr=>⟨hr.1,fun h=>by rw[hr.2 h];rfl⟩
 |true=>
  refine Ok.ite (fun h=>by cases h) fun _=>Ok.ite (fun h=> ?_) fun _=>(j1 _).mono fun r hr=>⟨hr.1,fun h=> ?_⟩
  ·have h1:=of_decide_eq_true h;have h2:=O.2.1;omega
  rw[hr.2 h,if_neg (by have:=O.1.len;simp;omega)];rfl
theorem aOB {t:aD}(T:TxM t){i:Nat}(hi:i<t.Inputs.length){c:aA}(C:fK c){h:Int}:Ok (uU N t (i:Int) c h) fun _=>True:=by
 obtain⟨x,hx,hm,hl⟩:=xB T
 have g:=aQZ hx hi
 obtain⟨k,_,_,ek⟩:=C.p.1
 have j1: ∀(q:List Int×Int)(b:Bool),Ok (jM N t (i:Int) c h q b) fun _=>True:=by
  intro q b
  unfold jM
  refine Ok.ite (fun _=>Ok.pure trivial) fun _=>Ok.eq (bA _ hi) ?_
  rw[g,ek]
  exact Ok.bind (aW7 hN hm.w _) fun e _=>Ok.pure trivial
 unfold uU
 refine Ok.bind (aLr hN T C.p) fun q hq=>Ok.eq (aU hq.1) (Ok.ite (fun _=>Ok.pure trivial) fun _=>Ok.eq (bA _ hi) (Ok.ite (fun _=>Ok.pure trivial) fun _=> ?_))
 exact Ok.ite (fun _=>j1 _ _) fun _=>Ok.ite (fun _=>j1 _ _) fun _=>j1 _ _
theorem aWt {t:aD}(T:TxM t){l:List aA}:Ok (sT N t l) fun r=>r.2=0→l.length=t.Inputs.length:=by
 obtain⟨x,hx,hm,hl⟩:=xB T
 have hno:=T.n
 unfold sT
 refine Ok.bind (aMT hN T) fun e _=>Ok.ite (fun he=>Ok.pure fun h0=> ?_) fun _=>Ok.ite (fun _=>Ok.pure fun h0=> ?_) fun hne=> ?_
 ·have h0:e=0:=h0
  rw[h0]at he
  exact absurd he (by decide)
 ·exact absurd h0 (by decide)
 have hlen:l.length=t.Inputs.length:=by
  have:(l.length:Int)=(t.Inputs.length:Int):=by simpa using hne
  omega
 refine Ok.lr (R:=fun _=>True) (P:=fun _=>True) ?_ (fun v _=>Ok.pure fun _=>hlen) fun _ _=> ?_
 ·refine lpU (f:=fun m j=>iZ N t l m (j:Int)) l.length (fun m j hj ih=> ?_) (fun m=> ?_) N 0 (by omega) (by omega)
  ·unfold iZ
   rw[if_pos (dT hj),i1 (by omega)]
   exact Ok.eq (bA _ hj) (Ok.eq (bA _ (show j<t.Inputs.length by omega)) (Ok.ite (fun _=>Ok.pure trivial) fun _=>ih))
  unfold iZ
  rw[if_neg (by simp)]
  exact Ok.pure trivial
 unfold sO
 refine Ok.lr (R:=fun _=>True) (P:=fun _=>True) ?_ (fun v _=>Ok.pure fun _=>hlen) fun s _=> ?_
 ·refine lp (f:=fun m j s=>fV N t l m s (j:Int)) (fun _ _=>True) l.length (fun m j s hj _ ih=> ?_) (fun m s _=> ?_) N 0 0 (by omega) (by omega) trivial
  ·have j6: ∀b,Ok (sD N t l s (j:Int) l[j] (fV N t l m) b) (lrP (fun _=>True) fun _=>True):=fun b=>by
    unfold sD
    rw[i1 (by omega)]
    exact Ok.ite (fun _=>Ok.pure trivial) fun _=>ih _ trivial
   unfold fV
   rw[if_pos (dT hj)]
   exact Ok.eq (bA _ hj) (Ok.ite (fun _=>j6 _) fun _=>j6 _)
  unfold fV
  rw[if_neg (by simp)]
  exact Ok.pure trivial
 unfold pC
 refine Ok.ite (fun _=>Ok.pure fun _=>hlen) fun _=>Ok.bind (P:=fun _=>True) ?_ fun s _=> ?_
 ·refine lp (f:=fun m j s=>i8 N t m s (j:Int)) (fun _ _=>True) t.Outputs.length (fun m j s hj _ ih=> ?_) (fun m s _=> ?_) N 0 s (by omega) (by omega) trivial
  ·unfold i8
   rw[if_pos (dT hj),i1 (by omega)]
   exact Ok.eq (bA _ hj) (ih _ trivial)
  unfold i8
  rw[if_neg (by simp)]
  exact Ok.pure trivial
 unfold aBb
 exact Ok.ite (fun _=>Ok.pure fun _=>hlen) fun _=>Ok.pure fun _=>hlen
theorem aRe {t:aD}(T:TxM t){l:List aA}(hc: ∀c∈l,fK c){h:Int}:Ok (jX N t l h) fun _=>True:=by
 obtain⟨x,hx,hm,hl⟩:=xB T
 unfold jX
 refine Ok.bind (aCa hN) fun b _=>Ok.ite (fun _=>Ok.pure trivial) fun _=>Ok.bind (aWt hN T) fun q hq=>Ok.ite (fun _=>Ok.pure trivial) fun hne=> ?_
 have hlen:=hq (by simpa using hne)
 refine Ok.bind (aJ2 hN T) fun f _=>Ok.ite (fun _=>Ok.pure trivial) fun _=> ?_
 refine Ok.lr (R:=fun _=>True) (P:=fun _=>True) ?_ (fun v _=>Ok.pure trivial) fun _ _=>Ok.pure trivial
 refine lpU (f:=fun m j=>f9 N t l h q m (j:Int)) l.length (fun m j hj ih=> ?_) (fun m=> ?_) N 0 (by omega) (by omega)
 ·unfold f9
  rw[if_pos (dT hj),i1 (by omega)]
  exact Ok.eq (bA _ hj) (Ok.bind (aOB hN T (by omega) (hc _ (a0H hj))) fun e _=>Ok.ite (fun _=>Ok.pure trivial) fun _=>ih)
 unfold f9
 rw[if_neg (by simp)]
 exact Ok.pure trivial
end
def Srt (cs:List aA):Prop:=cs.Pairwise fun a b=>eQ a.Out b.Out<0
structure aWb (h:Int)(c:aA):Prop where
 m:fK c
 h:1≤c.Height∧c.Height≤h
structure CsK (h:Int)(n:Nat)(cs:List aA):Prop where
 n:cs.length≤n
 c: ∀c∈cs,aWb h c
 s:Srt cs
theorem CsK.ok {h:Int}{n:Nat}{cs:List aA}(K:CsK h n cs): ∀c∈cs,OkO c.Out:=fun c hc=>(K.c c hc).m.o
theorem aOG : ∀{l m:List Int},iB m l= - iB l m
 | [],[]=>rfl
 | [],_::_=>rfl
 |_::_,[]=>rfl
 |a::l,b::m=>by
  unfold iB
  by_cases h1:a<b
  ·rw[if_pos h1,if_neg (by omega),if_pos h1];rfl
  by_cases h2:b<a
  ·rw[if_pos h2,if_neg h1,if_pos h2]
  rw[if_neg h2,if_neg h1,if_neg h1,if_neg h2];exact aOG
theorem lY (a b:aC):eQ b a= - eQ a b:=aOG
theorem aL9 (o:aC): ∀(cs:List aA)(j:Int),(fI o j cs= -1∧ ∀c∈cs,eQ c.Out o≠0)∨ ∃(k:Nat)(h:k<cs.length),fI o j cs=j+k∧eQ cs[k].Out o=0
 | [],j=> .inl ⟨rfl,by simp⟩
 |c::cs,j=>by
  unfold fI
  by_cases h:eQ c.Out o=0
  ·rw[if_pos h]
   exact .inr ⟨0,by simp,by omega,h⟩
  rw[if_neg h]
  rcases aL9 o cs (j+1)with⟨h1,h2⟩|⟨k,hk,h1,h2⟩
  ·exact .inl ⟨h1,fun d hd=>by rcases a09.1 hd with rfl|hd;exact h;exact h2 d hd⟩
  exact .inr ⟨k+1,by simpa using hk,by rw[h1];omega,by simpa using h2⟩
theorem aDa {c x:aA}: ∀{l:List aA},x∈kJ c l↔x=c∨x∈l
 | []=>by simp[kJ]
 |d::ds=>by
  unfold kJ
  split
  ·rw[a09,aDa (l:=ds),a09]
   constructor
   ·rintro(h|h|h)
    ·exact .inr (.inl h)
    ·exact .inl h
    exact .inr (.inr h)
   rintro(h|h|h)
   ·exact .inr (.inl h)
   ·exact .inl h
   exact .inr (.inr h)
  simp
theorem aPR {c:aA}: ∀{l:List aA},(kJ c l).length=l.length+1
 | []=>rfl
 |d::ds=>by
  unfold kJ
  split
  ·simp[aPR (l:=ds)]
  simp
theorem aLY {c:aA}(hc:OkO c.Out): ∀{l:List aA},(∀d∈l,OkO d.Out)→Srt l→(∀d∈l,eQ d.Out c.Out≠0)→Srt (kJ c l)
 | [],_,_,_=>by simp[kJ,Srt]
 |d::ds,hok,hs,hne=>by
  have hd:=hok d (by simp)
  obtain⟨h1,h2⟩:=a1b.1 hs
  unfold kJ
  split
  ·rename_i hlt
   refine a1b.2 ⟨fun x hx=> ?_,aLY hc (fun e he=>hok e (by simp[he])) h2 (fun e he=>hne e (by simp[he]))⟩
   rcases aDa.1 hx with rfl|hx
   ·exact hlt
   exact h1 x hx
  rename_i hge
  have hlt:eQ c.Out d.Out<0:=by
   have:=hne d (by simp)
   rw[lY d.Out c.Out]
   omega
  refine a1b.2 ⟨fun x hx=> ?_,hs⟩
  rcases a09.1 hx with rfl|hx
  ·exact hlt
  exact aEU hc.1 hd.1 (hok x (by simp[hx])).1 hlt (h1 x hx)
def ltB (c d:aA):Bool:=decide (eQ d.Out c.Out<0)
theorem aMO {c:aA}(hc:OkO c.Out): ∀{l:List aA},(∀d∈l,OkO d.Out)→Srt l→(l.filter (ltB c)).length≤l.length∧l.filter (ltB c)++[c]++l.drop (l.filter (ltB c)).length=kJ c l
 | [],_,_=>⟨by simp,rfl⟩
 |d::ds,hok,hs=>by
  have hd:=hok d (by simp)
  obtain⟨h1,h2⟩:=a1b.1 hs
  obtain⟨i1,i2⟩:=aMO hc (l:=ds) (fun e he=>hok e (by simp[he])) h2
  refine⟨List.length_filter_le _ _, ?_⟩
  unfold kJ
  by_cases h:eQ d.Out c.Out<0
  ·rw[if_pos h,a1E (by exact decide_eq_true h),a0W,List.drop_succ_cons,←i2]
   simp
  have he:(d::ds).filter (ltB c)=[]:=by
   rw[List.filter_eq_nil_iff]
   intro x hx
   rcases a09.1 hx with rfl|hx
   ·simpa[ltB]using h
   intro hq
   exact h (aEU hd.1 (hok x (by simp[hx])).1 hc.1 (h1 x hx) (of_decide_eq_true hq))
  rw[if_neg h,he]
  simp
section
variable {N:Nat}(hN:70000≤N)
include hN
theorem aQT {c:aA}(C:fK c):nT N c=some c:=by
 unfold nT
 rw[aMb hN (by simp) (fun x hx=>by simp at hx;subst hx;have:=C.p.1.len;omega)]
 simp
theorem aT2 {h:Int}{n:Nat}{cs:List aA}(K:CsK h n cs)(hn:n≤900){c:aA}(C:fK c):aBI N cs c=some (kJ c cs):=by
 have hk:=K.n
 have:Ok (aBI N cs c) fun r=>r=kJ c cs:=by
  unfold aBI
  refine Ok.bind (P:=fun r=>r=cs.filter (ltB c)) ?_ fun r hr=> ?_
  ·refine lp (f:=fun m j s=>mU N cs c m (j:Int) s) (fun j s=>s=(cs.take j).filter (ltB c)∧s.length≤j) cs.length (fun m j s hj hs ih=> ?_) (fun m s hs=> ?_) N 0 [] (by omega) (by omega) ⟨by simp,by simp⟩
   ·unfold mU aAx
    rw[if_pos (dT hj),i1 (by omega)]
    have o1:=K.ok _ (a0H hj)
    refine Ok.eq (bA _ hj) (Ok.eq (aPA hN o1.1 C.o.1) (Ok.ite (fun hc=> ?_) fun hc=> ?_))
    ·refine Ok.eq (d8 (by omega) (by simp;omega)) (ih _ ⟨?_,by simp;omega⟩)
     rw[a0S hj,a1W,←hs.1,a1E (by exact hc)]
     rfl
    refine ih _ ⟨?_,by omega⟩
    rw[a0S hj,a1W,←hs.1,List.filter_cons_of_neg (by exact hc)]
    simp
   unfold mU
   rw[if_neg (by simp)]
   refine Ok.pure ?_
   rw[hs.1,a1H]
  subst hr
  obtain⟨h1,h2⟩:=aMO C.o K.ok K.s
  unfold aEB
  refine Ok.eq (aQT hN C) (Ok.eq (d8 (by omega) (by simp only[a0W,a1m];omega)) (Ok.eq (aHq h1 (a1c _)) (Ok.eq (d8 (by omega) ?_) (Ok.pure ?_))))
  ·simp only[a0G,a0W,a1m,List.length_drop,a1r];omega
  rw[a1H];exact h2
 obtain⟨r,e,rfl⟩:=this
 exact e
theorem aMo {h:Int}{n:Nat}{cs:List aA}(K:CsK h n cs)(hn:n≤900){o:aC}(ho:OkO o):yL N cs o=some (fI o 0 cs):=
 aZA hN (by have:=K.n;omega) K.ok ho
end
structure LedK (n:Nat)(l:aF):Prop where
 t:fL l.Tip
 h:0≤l.Height∧l.Height≤n
 c:CsK l.Height (8*n) l.Coins
structure CtxJ (n:Nat)(c:aV):Prop where
 h:fL c.Hash
 b:sU c.Bits
 t:c.Times.length≤n+1
 hh:0≤c.Height∧c.Height≤n
theorem CsK.up {h k:Int}{n m:Nat}{cs:List aA}(K:CsK h n cs)(h1:h≤k)(h2:n≤m):CsK k m cs:=
 ⟨a1P K.n h2,fun c hc=>⟨(K.c c hc).m,by have:=(K.c c hc).h;omega⟩,K.s⟩
theorem LedK.up {n m:Nat}{l:aF}(L:LedK n l)(h:n≤m):LedK m l:=⟨L.t,by have:=L.h;omega,L.c.up (by omega) (by omega)⟩
theorem CtxJ.up {n m:Nat}{c:aV}(C:CtxJ n c)(h:n≤m):CtxJ m c:=⟨C.h,C.b,by have:=C.t;omega,by have:=C.hh;omega⟩
theorem LedK.m {n:Nat}{l:aF}(L:LedK n l)(h:n≤50):aXv l:=⟨by have:=L.c.n;omega,fun c hc=>(L.c.c c hc).m,by have:=L.h;omega,L.t⟩
theorem CtxJ.k {n:Nat}{c:aV}(C:CtxJ n c)(h:n≤50):aSx c:=⟨C.h,C.b,by have:=C.t;omega,by have:=C.hh;omega⟩
theorem aS9 {h:Int}: ∀{cs:List aA}{p:Option aC},(∀c∈cs,aWb h c)→Srt cs→(∀q,p=some q→ ∀c∈cs,eQ q c.Out<0)→pT h p cs=true
 | [],p,_,_,_=>by cases p<;>rfl
 |c::cs,p,hc,hs,hp=>by
  obtain⟨h1,h2⟩:=a1b.1 hs
  have k:=hc c (by simp)
  have rest:pT h (some c.Out) cs=true:=aS9 (fun d hd=>hc d (by simp[hd])) h2 (fun q e d hd=>by injection e with e;subst e;exact h1 d hd)
  have cb:aGX h c=true:=by
   unfold aGX
   have:=k.m.p.1.len
   have:=k.h
   simp only[a1G,decide_eq_true_eq]
   omega
  cases p with
  |none=>simp only[pT,cb,rest];rfl
  |some q=>simp only[pT,cb,rest,decide_eq_true (hp q rfl c (by simp))];rfl
theorem aQa : ∀{cs:List aA}{s:Int},(∀c∈cs,0≤c.Output.Value∧c.Output.Value≤2000)→s+2000*cs.length≤2100000000000000→u3 s cs=true
 | [],_,_,_=>rfl
 |c::cs,s,hc,hs=>by
  have k:=hc c (by simp)
  rw[a0W]at hs
  have:=aQa (cs:=cs) (s:=s+c.Output.Value) (fun d hd=>hc d (by simp[hd])) (by omega)
  unfold u3
  rw[this,decide_eq_true k.1,decide_eq_true (show c.Output.Value≤2100000000000000-s by omega)]
  rfl
theorem LedK.sound {n:Nat}{l:aF}(L:LedK n l)(h:n≤50):aId l=true:=by
 have hh:=L.h
 have hn:=L.c.n
 unfold aId
 rw[aS9 L.c.c L.c.s (fun q e=>by cases e),aQa (fun c hc=>(L.c.c c hc).m.p.2) (by omega),decide_eq_true hh.1,decide_eq_true (show l.Height≤16777216 by omega)]
 rfl
section
variable {N:Nat}(hN:70000≤N)
include hN
theorem aTj {p:aI}{l:aF}{b:aO}{n:Nat}(P:PK p)(L:LedK n l)(hn:n≤50)(B:aHl b):Ok (nM N p l b) fun _=>True:=by
 have j1: ∀t,Ok (iE N l b t) fun _=>True:=fun t=>by
  unfold iE
  have T:=B.t.2 _ (a0H B.n)
  obtain⟨x,hx,hm,hl⟩:=xB T
  refine Ok.ite (fun _=>Ok.pure trivial) fun _=>Ok.ite (fun _=>Ok.pure trivial) fun _=>Ok.eq (aU B.h.p.1) (Ok.eq (aU L.t.1) (Ok.ite (fun _=>Ok.pure trivial) fun _=>Ok.bind (aLE hN B) fun e _=>Ok.ite (fun _=>Ok.pure trivial) fun _=> ?_))
  exact Ok.eq (bA (i:=0) _ B.n) (Ok.eq (bA (i:=0) _ (by omega)) (Ok.ite (fun _=>Ok.pure trivial) fun _=>Ok.bind (aJ2 hN T) fun f _=>Ok.ite (fun _=>Ok.pure trivial) fun _=>Ok.pure trivial))
 unfold nM
 exact Ok.bind (xL hN P) fun t _=>Ok.ite (fun _=>j1 _) fun _=>Ok.eq (aPI hN (by have:=L.c.n;omega) L.c.ok) (j1 _)
theorem aRG {p:aI}{c:aV}{h:bW}{n:Nat}(P:PK p)(C:CtxJ n c)(hn:n≤50)(H:HdK h):Ok (uB N p c h) fun r=>CtxJ (n+1) r.1:=by
 have z:CtxJ (n+1) (aV.mk 0 (a0I 32 0) 0 0 []):=⟨⟨rfl,fun x hx=>by have:=a00 hx;omega⟩,w0,by simp,by simp only;omega⟩
 have ct:=C.t
 have chh:=C.hh
 unfold uB
 refine Ok.bind (P:=fun _=>True) ?_ fun f _=>Ok.ite (fun _=>Ok.pure z) fun _=>Ok.ite (fun _=>Ok.pure z) fun _=>Ok.bind (aJi hN H) fun hs hhs=>Ok.eq (aU hhs.1) ?_
 ·unfold aI1 pW
  exact Ok.bind (xL hN P) fun t _=>Ok.ite (fun _=>Ok.ite (fun _=>Ok.ite (fun _=>Ok.pure trivial) fun _=>Ok.pure trivial) fun _=>Ok.pure trivial) fun _=>Ok.pure trivial
 have j1: ∀f,Ok (o8 N c h hs f) fun r=>CtxJ (n+1) r.1:=fun f=>by
  unfold o8 s0
  rw[cJ (by omega) (by omega)]
  refine Ok.eq (d8 (by omega) (by simp;omega)) (Ok.eq (d8 (by omega) (by simp;omega)) (Ok.ite (fun hc=> ?_) fun _=>Ok.pure ⟨hhs,H.b,by simp;omega,by simp only;omega⟩))
  have hc':=of_decide_eq_true hc
  refine Ok.eq (aHq (a:=1) (by simp at hc'⊢) (a1c _)) (Ok.pure ⟨hhs,H.b,by simp;omega,by simp only;omega⟩)
 have hw:=P.win
 have hr: ∃y,rem (a0L.wrap (c.Height+1)) p.Window=some y:=by
  unfold rem;rw[if_neg (by omega)];exact⟨_,rfl⟩
 obtain⟨y,hy⟩:=hr
 exact Ok.eq hy (Ok.ite (fun _=>j1 _) fun _=>j1 _)
theorem aRg {p:aI}{c:aV}{h:bW}{n:Nat}{now:Int}(P:PK p)(C:CtxJ n c)(hn:n≤50)(H:HdK h):Ok (aDn N p c h now) fun _=>True:=by
 unfold aDn
 refine Ok.bind (aRG hN P C hn H) fun a ha=>Ok.ite (fun _=>Ok.pure trivial) fun _=>Ok.eq (aU H.p.1) (Ok.eq (aU C.h.1) (Ok.ite (fun _=>Ok.pure trivial) fun _=>Ok.ite (fun _=>Ok.pure trivial) fun _=>Ok.bind (aQ3 hN P (C.k hn)) fun q _=>Ok.ite (fun _=>Ok.pure trivial) fun _=>Ok.ite (fun _=>Ok.pure trivial) fun _=>Ok.eq (aU ha.h.1) (Ok.bind (aN9 hN ha.h.1 H.b) fun m _=>Ok.ite (fun _=>Ok.pure trivial) fun _=>Ok.bind (aMH hN (by have:=C.t;omega)) fun md _=>Ok.ite (fun _=>Ok.pure trivial) fun _=>Ok.ite (fun _=>Ok.pure trivial) fun _=> ?_)))
 refine Ok.lr (R:=fun _=>True) (P:=fun _=>True) ?_ (fun v _=>Ok.pure trivial) fun _ _=>Ok.pure trivial
 refine lpU (f:=fun m j=>n0 N p a m (j:Int)) 0 (fun m j hj ih=>absurd hj (by omega)) (fun m=> ?_) N 0 (by omega) (by omega)
 unfold n0
 rw[if_neg (by rw[P.chk];simp)]
 exact Ok.pure trivial
theorem aSv {v:Int}(h:0≤v∧v<256):Ok (aDy N v) PK:=by
 obtain⟨M,rfl⟩: ∃M,N=M+300:=⟨N-300,by omega⟩
 unfold aDy
 have e1: ∀x∈a0I 32 (0:Int),0≤x∧x<256:=fun x hx=>by have:=a00 hx;omega
 have e2:sV (M+300) [18446744073709551615,18446744073709551615,18446744073709551615,18446744073709551615] 1=some [18446744073709551615,18446744073709551615,18446744073709551615,9223372036854775807]:=by kernel_rfl
 obtain⟨n,rfl⟩: ∃n:Nat,v=(n:Int):=⟨v.toNat,by omega⟩
 rw[show a1p (n:Int) 5=((n%5:Nat):Int)from kZ n 5,show a1p (n:Int) 3=((n%3:Nat):Int)from kZ n 3,cJ (a:=((n%5:Nat):Int)) (by omega) (by omega),cJ (a:=((n%3:Nat):Int)) (by omega) (by omega),cJ (by omega) (by omega),cJ (by omega) (by omega)]
 refine Ok.eq (a:=[18446744073709551615,18446744073709551615,18446744073709551615,18446744073709551615]) rfl (Ok.eq e2 (Ok.eq (x:=bM 4 _) rfl (Ok.pure ⟨rfl,rfl,rfl,rfl, ?_,⟨show(1:Int)≤5 by decide,show(5:Int)≤1048576 by decide⟩, ?_, ?_,⟨rfl,e1⟩,⟨rfl,e1⟩⟩)))
 ·show 1≤3+((n%5:Nat):Int)∧3+((n%5:Nat):Int)≤4096
  omega
 ·show 1≤4+((n%3:Nat):Int)∧4+((n%3:Nat):Int)≤100
  omega
 show 0≤((n%3:Nat):Int)∧((n%3:Nat):Int)≤100
 omega
structure rW (j:Nat)(w:aS):Prop where
 p:PK w.Params
 b:w.Blocks.length≤j
 u:w.Undos.length≤j
 ln:0<w.Ledgers.length∧w.Ledgers.length≤j+1
 l: ∀l∈w.Ledgers,LedK j l
 cn:0<w.Contexts.length∧w.Contexts.length≤j+1
 c: ∀c∈w.Contexts,CtxJ j c
end
theorem aZ1 (n:Nat)(h:n<256):zD 1 (n:Int)=[a0Y.wrap (n:Int)]:=by
 simp[zD,shV,a1N]
section
variable (N:Nat)(hN:70000≤N)
include hN
theorem aYH (b:List Int)(v:Int)(h:b.length≤40000000):mK N b v=some (b++aSt v):=by
 simp only[mK,show(8:Int)=((8:Nat):Int)from rfl,aKw N hN _ 8 (by omega),a0F]
 rw[qQ N _ _ (by rw[jZ];omega)];rfl
theorem aMC (b:List Int)(n:Nat)(hn:n≤1000000)(h:b.length≤30000000):g9 N b (a0X.wrap (n:Int))=some (b++zT n):=by
 rw[wu .u64 n rfl (by simp[a1q];omega)]
 unfold g9 zT
 by_cases h1:n<253
 ·have e1:decide ((n:Int)<253)=true:=decide_eq_true (by omega)
  rw[e1,if_pos rfl,if_pos h1,qQ N _ _ (by simp;omega),aZ1 n (by omega)];rfl
 have e1:decide ((n:Int)<253)=false:=decide_eq_false (by omega)
 rw[e1,if_neg h1]
 by_cases h2:n<65536
 ·have e2:decide ((n:Int)<65536)=true:=decide_eq_true (by omega)
  simp only[e2,a0J,if_false,if_true,if_pos h2]
  rw[qQ N _ _ (by simp;omega)]
  simp only[a0F,aB3,show(2:Int)=((2:Nat):Int)from rfl,aKw N hN _ 2 (by omega)]
  rw[wu .u16 n rfl (by simp[a1q];omega),wu .u64 n rfl (by simp[a1q];omega),qQ N _ _ (by simp[jZ];omega)]
  simp
 have e2:decide ((n:Int)<65536)=false:=decide_eq_false (by omega)
 have e3:decide ((n:Int)<4294967296)=true:=decide_eq_true (by omega)
 simp only[e2,e3,a0J,if_false,if_true,if_neg h2]
 rw[qQ N _ _ (by simp;omega)]
 simp only[a0F]
 rw[aHB N hN (b++[254]) _ (by simp;omega),wu .u32 n rfl (by simp[a1q];omega)]
 simp only[nG,wu .u64 n rfl (show(n:Int)<2^a0X.bits by simp[a1q];omega),a0F,a0N]
 rfl
theorem aPZ (b s:List Int)(hs:s.length≤1000000)(h:b.length≤30000000):kQ N b s=some (b++(zT s.length++s)):=by
 have:=iV s.length
 simp only[kQ,aMC N hN b _ hs (by omega),a0F]
 rw[qQ N _ _ (by rw[a0G];omega),a0F,a0N]
theorem aSZ (o:aC)(ht:o.Tx.length=32):aGf N o=some (o.Tx++nG o.Index):=by
 simp only[aGf,jJ,bM,if_pos ht,a0F]
 rw[qQ N _ _ (by simp;omega)]
 simp only[a0F,a0K]
 rw[aHB N hN _ _ (by omega)];rfl
end
section
variable (N:Nat)(hN:70000≤N){t:aD}(K:aMj t.Inputs t.Outputs)
include hN K
theorem aL8 (b:Bool)(acc:List Int)(h:acc.length≤100000):sP N t b N 0 acc=some (acc++t.Inputs.flatMap inB):=by
 have hn:=K.ni
 have hl:=aH7 K
 refine nQ (f:=sP N t b) (xs:=t.Inputs) (g:=inB) (B:=200000) (by omega) (fun m j acc hj hB=> ?_) (fun m j acc hj=> ?_) N 0 acc (by omega) (by omega) (by rw[a0M];omega)
 ·have ht:=K.tx _ (a0H hj)
  rw[aNp ht]at hB
  rw[sP,dT hj,if_pos rfl,bA t.Inputs hj]
  simp only[a0F,aSZ N hN _ ht]
  rw[jG (by simp[bZ];omega)]
  simp only[a0F,aHB N hN _ _ (show([]:List Int).length≤40000000 by simp),a0K]
  rw[jG (by simp[bZ];omega)]
  simp only[a0F,i1 (show j≤100000 by omega),inB,a0N]
 rw[sP,dF (by omega)];rfl
theorem aL7 (b:Bool)(acc:List Int)(h:acc.length≤100000):r6 N t b N 0 acc=some (acc++t.Outputs.flatMap qY):=by
 have hn:=K.no
 have hl:=aF7 K
 refine nQ (f:=r6 N t b) (xs:=t.Outputs) (g:=qY) (B:=200000) (by omega) (fun m j acc hj hB=> ?_) (fun m j acc hj=> ?_) N 0 acc (by omega) (by omega) (by rw[a0M];omega)
 ·have ht:=K.scr _ (a0H hj)
  have hs:=iV t.Outputs[j].Script.length
  rw[r6,dT hj,if_pos rfl,bA t.Outputs hj]
  simp only[a0F,aYH N hN _ _ (show([]:List Int).length≤40000000 by simp),a0K]
  rw[jG (by rw[aFv];omega)]
  simp only[a0F,aPZ N hN [] _ (show t.Outputs[j].Script.length≤1000000 by omega) (by simp),a0K]
  rw[jG (by simp only[a0G,aFv];omega)]
  simp only[a0F,i1 (show j≤100000 by omega),qY,a0N]
 rw[r6,dF (by omega)];rfl
theorem aL6 (x:Int)(w:bL)(hw:w.Witness.length≤40∧ ∀z∈w.Witness,z.length≤600)(acc:List Int)(h:acc.length≤5000000):rX N t x w N 0 acc=some (acc++w.Witness.flatMap itB):=by
 have hl:=aC7 (g:=itB) (c:=605) w.Witness (fun z hz=>aP3 (hw.2 z hz))
 have:=a02 605 hw.1
 refine nQ (f:=rX N t x w) (xs:=w.Witness) (g:=itB) (B:=6000000) (by omega) (fun m j acc hj hB=> ?_) (fun m j acc hj=> ?_) N 0 acc (by omega) (by omega) (by rw[a0M];omega)
 ·have ht:=hw.2 _ (a0H hj)
  rw[rX,dT hj,if_pos rfl,bA w.Witness hj]
  simp only[a0F,aPZ N hN [] _ (show w.Witness[j].length≤1000000 by omega) (by simp),a0K]
  rw[jG (by simp only[itB]at hB;omega)]
  simp only[a0F,i1 (show j≤100000 by omega),itB]
 rw[rX,dF (by omega)];rfl
theorem aL4 (acc:List Int)(h:acc.length≤1000000):oO N t N 0 acc=some (acc++t.Inputs.flatMap wiB):=by
 have hn:=K.ni
 have hl:=aR6 K
 refine nQ (f:=oO N t) (xs:=t.Inputs) (g:=wiB) (B:=4000000) (by omega) (fun m j acc hj hB=> ?_) (fun m j acc hj=> ?_) N 0 acc (by omega) (by omega) (by rw[a0M];omega)
 ·have ht:=K.wit _ (a0H hj)
  have hs:=iV t.Inputs[j].Witness.length
  rw[oO,dT hj,if_pos rfl,bA t.Inputs hj]
  simp only[a0F,aMC N hN [] _ (show t.Inputs[j].Witness.length≤1000000 by omega) (by simp),a0K]
  rw[jG (by omega)]
  simp only[a0F]
  rw[aL6 N hN K _ _ ht _ (by rw[a0G];omega)]
  simp only[a0F,aGc,i1 (show j≤100000 by omega),wiB,a0N]
 rw[oO,dF (by omega)];rfl
theorem aRW (w:Bool):aD3 N t w=some (u4 t.Version t.Inputs t.Outputs t.Lock w):=by
 have hn:=K.ni
 have ho:=K.no
 have h1:=iV t.Inputs.length
 have h2:=iV t.Outputs.length
 have h3:=aH7 K
 have h4:=aF7 K
 simp only[aD3,aHB N hN [] _ (by simp),a0F,a0K,aMC N hN [] _ (show t.Inputs.length≤1000000 by omega) (by simp)]
 rw[jG (by rw[bZ];omega)]
 simp only[a0F]
 rw[aL8 N hN K _ _ (by rw[a0G,bZ];omega)]
 simp only[a0F,aFL,aMC N hN [] _ (show t.Outputs.length≤1000000 by omega) (by simp),a0K]
 rw[jG (by simp only[a0G,bZ];omega)]
 simp only[a0F]
 rw[aL7 N hN K _ _ (by simp only[a0G,bZ];omega)]
 simp only[a0F,aFt,aHB N hN [] _ (show([]:List Int).length≤40000000 by simp),a0K]
 rw[jG (by simp only[a0G,bZ];omega)]
 cases w
 ·simp[u4]
 simp only[a0F,a06,a0J,if_false]
 rw[aL4 N hN K _ (by simp only[a0G,bZ];omega)]
 rfl
end
theorem aRv {N:Nat}{t:aD}{x:Int}{w:bL}: ∀(m:Nat)(j:Int),aE7 N t x w m j=kU N t x w m j
 |0,_=>rfl
 |m+1,j=>by simp only[aE7,kU,aRv m]
theorem aRS {N:Nat}{t:aD}: ∀(m:Nat)(j:Int),xR N t m j=jA N t m j
 |0,_=>rfl
 |m+1,j=>by simp only[xR,jA,aI8,aAo,aRv,aRS m]
theorem aRw {N:Nat}{t:aD}: ∀(m:Nat)(j:Int),tO N t m j=hY N t m j
 |0,_=>rfl
 |m+1,j=>by simp only[tO,hY,aE5,uJ,aRw m]
section
variable (N:Nat)(hN:70000≤N){t:aD}(T:TxK t)
include hN T
theorem aVM :aFg N t=gH N t:=by
 simp only[aFg,gH,aB2,pY,aFf,uG,aI3,aAB,aRw,aRS,aRW N hN T.k,aBE N hN T.k]
theorem aNR (w:Bool):aA5 N t w=some (if nB t.Version t.Inputs t.Outputs t.Lock=true then(u4 t.Version t.Inputs t.Outputs t.Lock w,0)else([],4)):=by
 unfold aA5
 rw[aVM N hN T,pB N hN T.k,aRW N hN T.k]
 simp only[a0F]
 cases nB t.Version t.Inputs t.Outputs t.Lock<;>rfl
theorem aOv (w:Bool):gW N t w=some (u4 t.Version t.Inputs t.Outputs t.Lock w):=by
 cases w
 ·exact aOx N hN T
 exact aBE N hN T.k
theorem aWx (w:Bool):rT N t w=some (if nB t.Version t.Inputs t.Outputs t.Lock=true then(u4 t.Version t.Inputs t.Outputs t.Lock w,0)else([],4)):=by
 unfold rT
 rw[pB N hN T.k,aOv N hN T]
 simp only[a0F]
 cases nB t.Version t.Inputs t.Outputs t.Lock<;>rfl
def dig (N:Nat)(t:aD)(w:Bool):List Int:=if nB t.Version t.Inputs t.Outputs t.Lock=true then dbl N (u4 t.Version t.Inputs t.Outputs t.Lock w)else [0,0,0,0,0,0,0,0,0,0,0,0,0,0,0,0,0,0,0,0,0,0,0,0,0,0,0,0,0,0,0,0]
omit hN T in
theorem aKC (w:Bool):fL (dig N t w):=by
 unfold dig
 split
 ·exact aPP _ _
 exact aPi
theorem aXV (w:Bool):aDI N t w=some (dig N t w):=by
 unfold aDI dig
 rw[aNR N hN T]
 simp only[a0F]
 cases hf:nB t.Version t.Inputs t.Outputs t.Lock with
 |false=>rfl
 |true=>
  have:=aFw N hN T hf w
  simp only[if_true]
  rw[if_neg (by simp),aRR N hN _ (aJd T.b w) (by omega)]
  simp only[a0F,aU (xY N _)]
theorem aID :aMY N t=some (dig N t false):=by
 unfold aMY
 rw[aXV N hN T]
 simp only[a0F,aU (aKC (t:=t) N false).1]
theorem aZx :aIe N t=some (dig N t true):=by
 unfold aIe
 rw[aXV N hN T]
 simp only[a0F,aU (aKC (t:=t) N true).1]
theorem aYt (w:Bool):((gH N t).bind fun x=>if !x then some [0,0,0,0,0,0,0,0,0,0,0,0,0,0,0,0,0,0,0,0,0,0,0,0,0,0,0,0,0,0,0,0]else(gW N t w).bind fun x=>(oY N x).bind fun x=>(bM 32 x).bind fun _=>some x)=some (dig N t w):=by
 rw[pB N hN T.k]
 unfold dig
 simp only[a0F]
 cases hf:nB t.Version t.Inputs t.Outputs t.Lock with
 |false=>rfl
 |true=>
  have:=aFw N hN T hf w
  simp only[if_true]
  rw[if_neg (by simp),aOv N hN T]
  simp only[a0F]
  rw[aK6 N hN _ (aJd T.b w) (by omega)]
  simp only[a0F,aU (xY N _)]
theorem rID :aAX N t=some (dig N t false):=aYt N hN T false
theorem aZy :yM N t=some (dig N t true):=aYt N hN T true
end
theorem aK9 {α:Type}{l:List α}{i:Int}{x:α}(h:aZ l i=some x):x∈l:=by
 unfold aZ at h
 split at h
 ·exact List.mem_of_getElem? h
 cases h
theorem aA9 {α β:Type}{l:List α}{i:Int}{f g:α→Option β}(h: ∀x∈l,f x=g x):(aZ l i).bind f=(aZ l i).bind g:=by
 cases e:aZ l i with
 |none=>rfl
 |some x=>exact h x (aK9 e)
theorem eH {α β:Type}{x y:Option α}{f g:α→Option β}(h:x=y)(k: ∀a,f a=g a):x.bind f=y.bind g:=by
 rw[h];cases y<;>simp[k]
theorem gM {α:Type}{c:Prop} [Decidable c] {x y z w:α} (h:x=z) (k:y=w):(if c then x else y)=if c then z else w:=by rw[h,k]
def pR (a b:aC):Bool:=decide (eQ a b=0)
theorem aYx {a b:aC}(ha:a.Tx.length=32)(hb:b.Tx.length=32):tG a b=pR a b:=eqP ha hb
theorem aQ6 {a b:aC}:pR a b=pR b a:=by
 unfold pR
 rw[lY,a1x]
 simp only[decide_eq_true_eq];omega
theorem aI0 {N:Nat}{t:aD}:qZ N t=cV N t:=by
 simp only[qZ,cV,yU,rP,aNn,qU]
theorem aQP {N:Nat}{t:aD}: ∀(m:Nat)(j:Int),aDD N t m j=lC N t m j
 |0,_=>rfl
 |m+1,j=>by simp only[aDD,lC,aQP m]
theorem aSa {N:Nat}{t:aD}{h:Int}:aFJ N t h=rD N t h:=by
 simp only[aFJ,rD,aHn,aCx,aQP]
def aEC :aC:=aC.mk (a0I 32 0) 4294967295
theorem aTw {o:aC}(h:o.Tx.length=32):jS o.Tx (a0I 32 0) ((o.Index == 4294967295)&&true)=pR o aEC:=eqP (b:=aEC) h (by simp[aEC])
section
variable {N:Nat}(hN:70000≤N)
include hN
theorem aM1 {t:aD}{x:bL}(hi:t.Inputs=[x])(hx:x.Prev.Tx.length=32):cV N t=some (pR x.Prev aEC):=by
 unfold cV qU
 rw[hi]
 simp only[a0Z]
 exact congrArg some (aTw hx)
def aQh (t:aD):Int:=if nB t.Version t.Inputs t.Outputs t.Lock=true then(if t.Outputs.length=0 then 93 else 0)else 4
theorem aRQ {t:aD}(T:TxM t):aFM N t=some (aQh t):=by
 obtain⟨x,hi,hx⟩:=T.i
 have hno:=T.n
 obtain⟨m,rfl⟩: ∃m,N=m+2:=⟨N-2,by omega⟩
 unfold aFM aQh
 rw[aVM _ hN T.k,pB _ hN T.k.k]
 simp only[a0F]
 cases nB t.Version t.Inputs t.Outputs t.Lock
 ·rfl
 simp only[a06,a0J,if_false,if_true]
 have e1:((t.Inputs.length:Int) == 0)=false:=by rw[hi];rfl
 rw[e1]
 simp only[a0J,if_false]
 unfold aDx
 by_cases h0:t.Outputs.length=0
 ·rw[if_pos (by simp[h0]),if_pos h0]
 rw[if_neg (by simpa using h0),if_neg h0]
 have hm:aIi (m+2) t.Outputs=some true:=by
  unfold aIi
  have:Ok (uV (m+2) t.Outputs (m+2) 0 ((0:Nat):Int)) fun r=>r= .brk ():=by
   refine lp (f:=fun m j s=>uV _ t.Outputs m s (j:Int)) (fun j s=>0≤s∧s≤2000*(j:Int)) t.Outputs.length (fun m j s hj hs ih=> ?_) (fun m s hs=> ?_) _ 0 0 (by omega) (by omega) (by simp)
   ·have ho:=(T.o _ (a0H hj)).2
    unfold uV
    rw[if_pos (dT hj),i1 (by omega)]
    refine Ok.eq (bA _ hj) ?_
    rw[cJ (by omega) (by omega),cJ (by omega) (by omega)]
    refine Ok.ite (fun h=> ?_) fun _=>ih _ (by omega)
    have:=of_decide_eq_true h;omega
   unfold uV
   rw[if_neg (by simp)]
   exact Ok.pure rfl
  obtain⟨r,e,rfl⟩:=this
  rw[show((0:Nat):Int)=0 from rfl]at e
  rw[e];rfl
 rw[hm]
 simp only[a0F,a06,a0J,if_false]
 have hl:aDq (m+2) t (m+2) 0 []=some (.brk [(x.Prev,true)]):=by
  simp only[aDq]
  rw[hi]
  rfl
 rw[hl]
 simp only[a0F]
 unfold aHe aDs
 have hg:oP tG [(x.Prev,true)] (aC.mk (a0I 32 0) 4294967295) false=pR x.Prev aEC:=by
  have e:tG (aC.mk (a0I 32 0) 4294967295) x.Prev=pR x.Prev aEC:=by
   rw[aQ6];exact aYx (by simp) hx.p.1
  unfold oP jU
  simp only[a1A,List.findIdx?_nil,e]
  cases pR x.Prev aEC<;>rfl
 rw[hg,aI0,aM1 hN hi hx.p.1]
 cases pR x.Prev aEC<;>rfl
theorem aNx {t:aD}(T:TxM t):rF N t=some (aQh t):=by
 obtain⟨x,hi,hx⟩:=T.i
 have hno:=T.n
 obtain⟨m,rfl⟩: ∃m,N=m+2:=⟨N-2,by omega⟩
 unfold rF aQh
 rw[pB _ hN T.k.k]
 simp only[a0F]
 cases nB t.Version t.Inputs t.Outputs t.Lock
 ·rfl
 simp only[a06,a0J,if_false,if_true]
 have e1:((t.Inputs.length:Int) == 0)=false:=by rw[hi];rfl
 rw[e1]
 simp only[a0J,if_false]
 unfold n9
 by_cases h0:t.Outputs.length=0
 ·rw[if_pos (by simp[h0]),if_pos h0]
 rw[if_neg (by simpa using h0),if_neg h0]
 have:Ok (gO (m+2) t (m+2) 0 ((0:Nat):Int)) fun r=> ∃s:Int,r= .brk s∧s≤4000:=by
  refine lp (f:=fun m j s=>gO _ t m s (j:Int)) (fun j s=>0≤s∧s≤2000*(j:Int)) t.Outputs.length (fun m j s hj hs ih=> ?_) (fun m s hs=> ?_) _ 0 0 (by omega) (by omega) (by simp)
  ·have ho:=(T.o _ (a0H hj)).2
   unfold gO
   rw[if_pos (dT hj),i1 (by omega)]
   refine Ok.eq (bA _ hj) ?_
   rw[cJ (by omega) (by omega)]
   refine Ok.ite (fun h=> ?_) fun _=>ih _ (by omega)
   have:=of_decide_eq_true h;omega
  unfold gO
  rw[if_neg (by simp)]
  exact Ok.pure ⟨s,rfl,by omega⟩
 obtain⟨r,e,s,rfl,hs⟩:=this
 rw[show((0:Nat):Int)=0 from rfl]at e
 rw[e]
 simp only[a0F]
 unfold rY
 rw[if_neg (by simp;omega)]
 have hl:jP (m+2) t (m+2) 0=some (.brk ()):=by
  simp only[jP,n7,yB]
  rw[hi]
  rfl
 rw[hl]
 simp only[a0F]
 unfold r5
 have hl2:gA (m+2) t (m+2) 0=some (.brk ()):=by
  simp only[gA,nW,aM1 hN hi hx.p.1,qU]
  rw[hi]
  simp only[a0Z]
  have e0:aZ [x] 0=some x:=rfl
  have e2:decide ((0:Int)<((1:Nat):Int))=true:=rfl
  have e3:a0L.wrap (0+1)=1:=rfl
  have e4:decide ((1:Int)<((1:Nat):Int))=false:=rfl
  simp only[e0,e2,e3,e4,a0F,if_true,aTw hx.p.1]
  cases pR x.Prev aEC<;>rfl
 rw[hl2]
 rfl
end
def aCk (t:aD):Bool:=nB t.Version t.Inputs t.Outputs t.Lock
def aP2 (t:aD):List Int:=u4 t.Version t.Inputs t.Outputs t.Lock true
section
variable {N:Nat}(hN:70000≤N){b:aO}(B:aHl b)
include hN B
theorem aOJ : ∀(m j:Nat)(acc:List Int),b.Txs.length-j<m→j≤b.Txs.length→acc.length≤200+j*20000→
  vE N b m (j:Int) acc=some (if(b.Txs.drop j).all aCk=true then .brk (acc++(b.Txs.drop j).flatMap aP2)else .ret ([],4))
 |0,j,_,h,_,_=>by omega
 |m+1,j,acc,h,hj,ha=>by
  have hb:=B.t.1
  unfold vE
  by_cases h':j<b.Txs.length
  ·have T:=(B.t.2 _ (a0H h')).k
   rw[if_pos (dT h'),bA _ h',a0P h',List.all_cons,a1D]
   simp only[a0F,aNR N hN T]
   have hl:=aFw (t:=b.Txs[j]) N hN T
   cases hf:nB b.Txs[j].Version b.Txs[j].Inputs b.Txs[j].Outputs b.Txs[j].Lock with
   |false=>
    have e:aCk b.Txs[j]=false:=hf
    rw[e];rfl
   |true=>
    have e:aCk b.Txs[j]=true:=hf
    have hl2:=hl hf true
    rw[e,if_pos rfl,if_neg (by simp),d8 (by omega) (by simp only;omega)]
    simp only[a0F,i1 (show j≤100000 by omega),a03]
    rw[aOJ m (j+1) _ (by omega) (by omega) (by simp only[a0G];omega),a0N]
    rfl
  rw[if_neg (by simp;omega),a0R (by omega)]
  simp
theorem aOX : ∀(m j:Nat)(acc:List Int),b.Txs.length-j<m→j≤b.Txs.length→acc.length≤200+j*20000→(b.Txs.drop j).all aCk=true→
  kH N b m (j:Int) acc=some (acc++(b.Txs.drop j).flatMap aP2)
 |0,j,_,h,_,_,_=>by omega
 |m+1,j,acc,h,hj,ha,hf=>by
  have hb:=B.t.1
  unfold kH
  by_cases h':j<b.Txs.length
  ·have T:=(B.t.2 _ (a0H h')).k
   rw[a0P h',List.all_cons,a1G]at hf
   have hf1:nB b.Txs[j].Version b.Txs[j].Inputs b.Txs[j].Outputs b.Txs[j].Lock=true:=hf.1
   have hl2:=aFw (t:=b.Txs[j]) N hN T hf1 true
   rw[if_pos (dT h'),bA _ h',a0P h',a1D]
   simp only[a0F,aWx N hN T,if_pos hf1]
   rw[d8 (by omega) (by omega)]
   simp only[a0F,i1 (show j≤100000 by omega)]
   rw[aOX m (j+1) _ (by omega) (by omega) (by rw[a0G];omega) hf.2,a0N]
   rfl
  rw[if_neg (by simp;omega),a0R (by omega)]
  simp
def aU8 (b:aO):List Int:=(hdB b.Header++zT b.Txs.length)++b.Txs.flatMap aP2
def aP1 (b:aO):Bool:=b.Txs.all aCk&&decide ((aU8 b).length≤100000)
theorem aWQ : ∃e,aCh N b=some (e,if aP1 b=true then 0 else 4):=by
 have hb:=B.t.1
 have hz:=iV b.Txs.length
 unfold aCh
 rw[if_neg (by simp;omega),aRy N hN b.Header B.h.p.1 B.h.r.1]
 simp only[a0F]
 rw[aMC N hN _ _ (show b.Txs.length≤1000000 by omega) (by rw[aA4 B.h.p.1 B.h.r.1];omega)]
 simp only[a0F]
 have l:=aOJ hN B N 0 (hdB b.Header++zT b.Txs.length) (by omega) (by omega) (by rw[a0G,aA4 B.h.p.1 B.h.r.1];omega)
 rw[show((0:Nat):Int)=0 from rfl,a0M]at l
 rw[l]
 simp only[a0F]
 unfold aP1
 cases b.Txs.all aCk with
 |false=>exact⟨[],rfl⟩
 |true=>
  simp only[if_true,a03]
  unfold aCo
  by_cases hl:(aU8 b).length≤100000
  ·rw[decide_eq_true hl,if_neg (by have:((hdB b.Header++zT b.Txs.length)++b.Txs.flatMap aP2).length≤100000:=hl;simp only[decide_eq_true_eq];omega)]
   exact⟨_,rfl⟩
  rw[decide_eq_false hl,if_pos (by have: ¬((hdB b.Header++zT b.Txs.length)++b.Txs.flatMap aP2).length≤100000:=hl;simp only[decide_eq_true_eq];omega)]
  exact⟨_,rfl⟩
theorem aR8 :yT N b=some (aP1 b):=by
 have hb:=B.t.1
 have hz:=iV b.Txs.length
 unfold yT
 rw[if_neg (by simp;omega)]
 have l:=aAR (f:=kS N b) (xs:=b.Txs) (p:=aCk) (r:=false) (fun m j hj=>by
  rw[kS,dT hj,if_pos rfl,bA b.Txs hj]
  simp only[a0F,pB N hN (B.t.2 _ (a0H hj)).k.k,i1 (show j≤100000 by omega)]
  rw[show nB b.Txs[j].Version b.Txs[j].Inputs b.Txs[j].Outputs b.Txs[j].Lock=aCk b.Txs[j]from rfl]
  cases aCk b.Txs[j]<;>rfl) (fun m j hj=>by rw[kS,dF (by omega)];rfl) N 0 (by omega) (by omega)
 rw[show((0:Nat):Int)=0 from rfl,a0M]at l
 rw[l]
 unfold aP1
 simp only[a0F]
 cases hf:b.Txs.all aCk with
 |false=>rfl
 |true=>
  simp only[if_true,a03]
  unfold aAv aCf aCp
  rw[aNL N hN b.Header B.h.p.1 B.h.r.1]
  simp only[a0F]
  rw[aGN N hN _ _ (show b.Txs.length≤1000000 by omega) (by rw[aA4 B.h.p.1 B.h.r.1];omega)]
  simp only[a0F]
  have l:=aOX hN B N 0 (hdB b.Header++zT b.Txs.length) (by omega) (by omega) (by rw[a0G,aA4 B.h.p.1 B.h.r.1];omega) (by rw[a0M];exact hf)
  rw[show((0:Nat):Int)=0 from rfl,a0M]at l
  rw[l]
  simp only[a0F]
  refine congrArg some ?_
  rw[a1x]
  simp only[decide_eq_true_eq]
  unfold aU8
  omega
end
theorem aWW {N:Nat}(hN:70000≤N){l r:List Int}(h1:fL l)(h2:fL r):aDu N l r=xV N l r:=by
 unfold aDu xV
 rw[aU h1.1,aU h2.1]
 simp only[a0F]
 have hb:Byt ([1]++l++r):=Byt.append (Byt.append (fun x hx=>by simp at hx;omega) h1.2) h2.2
 rw[d8 (by omega) (by simp[h1.1]),aMb hN (by simp) (fun x hx=>by simp at hx;rcases hx with rfl|rfl|rfl<;>simp[h1.1,h2.1])]
 simp only[a0F]
 rw[d8 (by omega) (by simp[h1.1,h2.1])]
 simp only[a0F,a1g,a1i,a1f]
 rw[←a0N]
 rw[aHV N hN _ hb (by simp[h1.1,h2.1]),yS N hN _ hb (by simp[h1.1,h2.1])]
theorem aQv {N:Nat}(hN:70000≤N){l:List (List Int)}{a:List (List (List Int))}(h: ∀x∈l,fL x): ∀(m:Nat)(i:Int)(s:List (List Int)),k9 N l a m i s=dR N l a m i s
 |0,_,_=>rfl
 |m+1,i,s=>by
  unfold k9 dR tX kG
  refine gM (gM ?_ ?_) rfl
  ·refine aA9 fun x hx=>eH rfl fun _=>aA9 fun y hy=>eH rfl fun _=>eH (aWW hN (h x hx) (h y hy)) fun _=>eH rfl fun _=>eH rfl fun _=>aQv hN h m _ _
  exact aA9 fun x hx=>eH rfl fun _=>eH rfl fun _=>aQv hN h m _ _
theorem aPz {N:Nat}(hN:70000≤N){l:List (List Int)}{a:List (List (List Int))}(h: ∀x∈l,fL x): ∀(m:Nat)(i:Int)(s r:List (List Int)),(∀x∈s,fL x)→dR N l a m i s=some r→ ∀x∈r,fL x
 |0,_,_,_,_,e=>by cases e
 |m+1,i,s,r,hs,e=>by
  have add: ∀y z,fL y→b5 32 s [y]=some z→ ∀x∈z,fL x:=fun y z hy ha x hx=>by
   unfold b5 at ha
   split at ha
   ·injection ha with ha;subst ha
    rcases a0V.1 hx with hx|hx
    ·exact hs x hx
    obtain rfl:=a0O.1 hx;exact hy
   cases ha
  unfold dR kG at e
  split at e
  ·split at e
   ·simp only[a1F]at e
    obtain⟨x,hx,_,_,y,hy,_,_,z,hz,_,_,s',hs',e⟩:=e
    obtain⟨z',e',hz'⟩:=aQp hN (h x (aK9 hx)) (h y (aK9 hy))
    rw[e']at hz
    injection hz with hz;subst hz
    exact aPz hN h m _ _ r (add _ _ hz' hs') e
   simp only[a1F]at e
   obtain⟨x,hx,_,_,s',hs',e⟩:=e
   exact aPz hN h m _ _ r (add _ _ (h x (aK9 hx)) hs') e
  injection e with e;subst e;exact hs
theorem aS0 {N:Nat}(hN:70000≤N): ∀(m:Nat)(l:List (List Int))(a:List (List (List Int))),(∀x∈l,fL x)→oA N m l a=iP N m l a
 |0,_,_,_=>rfl
 |m+1,l,a,h=>by
  unfold oA iP aAT vG
  refine gM ?_ rfl
  rw[aQv hN h]
  cases e:dR N l a N 0 [] with
  |none=>rfl
  |some r=>
   have hr:=aPz hN h _ _ _ r (by simp) e
   simp only[a0F]
   exact eH rfl fun _=>eH rfl fun _=>aS0 hN m _ _ hr
theorem aWV {N:Nat}(hN:70000≤N){l:List (List Int)}(h: ∀x∈l,fL x):zS N l=t8 N l:=by
 unfold zS t8 sF mQ aEA aBF aAF aB4
 rw[aS0 hN _ _ _ h]
theorem aYl {N:Nat}(hN:70000≤N){t:aD}(T:TxM t):aIe N t=yM N t:=by rw[aZx N hN T.k,aZy N hN T.k]
theorem aR3 {N:Nat}(hN:70000≤N){l:List aD}(T: ∀t∈l,TxM t): ∀(m:Nat)(i:Int)(s:List (List Int)),aAw N l m i s=fU N l m i s
 |0,_,_=>rfl
 |m+1,i,s=>by
  unfold aAw fU
  exact gM (aA9 fun t ht=>eH (aYl hN (T t ht)) fun _=>eH rfl fun _=>eH rfl fun _=>aR3 hN T m _ _) rfl
theorem aXy {N:Nat}(hN:70000≤N){l:List aD}(T:aSw l):aEO N l=tA N l:=by
 have hn:=T.1
 unfold aEO tA aD4 aAA
 rw[aR3 hN T.2]
 have:Ok (fU N l N ((0:Nat):Int) []) fun r=> ∀h∈r,fL h:=by
  refine lp (f:=fun m j s=>fU N l m (j:Int) s) (fun j s=>s.length=j∧ ∀h∈s,fL h) l.length (fun m j s hj hs ih=> ?_) (fun m s hs=> ?_) N 0 [] (by omega) (by omega) ⟨rfl,by simp⟩
  ·unfold fU
   rw[if_pos (dT hj),i1 (by omega)]
   obtain⟨h,hh,e⟩:=aQj N hN (T.2 _ (a0H hj)).k
   refine Ok.eq (bA _ hj) (Ok.eq e (Ok.eq (aU hh.1) (Ok.eq (d8 (by omega) (by simp;omega)) (ih _ ⟨by simp[hs.1],fun x hx=> ?_⟩))))
   rcases a0V.1 hx with hx|hx
   ·exact hs.2 x hx
   obtain rfl:=a0O.1 hx;exact hh
  unfold fU
  rw[if_neg (by simp)]
  exact Ok.pure hs.2
 obtain⟨r,e,hr⟩:=this
 rw[show((0:Nat):Int)=0 from rfl]at e
 rw[e]
 simp only[a0F]
 rw[aWV hN hr]
theorem lpc {σ ρ β:Type}{f:Nat→Int→σ→Option (LR β ρ)}(n:Nat)(A:Nat→σ)(c:Nat→Bool)(r:ρ)(B:β)
  (hs: ∀m j,j<n→f (m+1) (j:Int) (A j)=if c j=true then some (.ret r)else f m ((j+1:Nat):Int) (A (j+1))) (he: ∀m,f (m+1) (n:Int) (A n)=some (.brk B)):
  ∀(m j:Nat),n-j<m→j≤n→f m (j:Int) (A j)=some (if(a1j j (n-j)).any c=true then .ret r else .brk B)
 |0,j,h,_=>by omega
 |m+1,j,h,hj=>by
  by_cases h':j<n
  ·rw[hs m j h',lpc n A c r B hs he m (j+1) (by omega) (by omega),show n-j=(n-(j+1))+1 by omega,a05,List.any_cons]
   cases c j
   ·simp only[Bool.false_or,a0J,if_false]
   rfl
  obtain rfl:j=n:=by omega
  rw[he,Nat.sub_self];rfl
theorem aLZ {σ ρ β:Type}{f:Nat→Int→σ→Option (LR β ρ)}{n:Nat}(A:Nat→σ)(c:Nat→Bool)(r:ρ)(B:β)
  (hs: ∀m j,j<n→f (m+1) (j:Int) (A j)=if c j=true then some (.ret r)else f m ((j+1:Nat):Int) (A (j+1))) (he: ∀m,f (m+1) (n:Int) (A n)=some (.brk B)) {N:Nat} (hN:n<N):
  f N 0 (A 0)=some (if(a0U n).any c=true then .ret r else .brk B):=by
 have:=lpc n A c r B hs he N 0 (by omega) (by omega)
 rw[a08,show((0:Nat):Int)=0 from rfl,←a1S]at this
 exact this
def wZ (id:List Int):Nat→List (List Int)→Int
 |_,[]=> -1
 |j,x::l=>if x=id then(j:Int)else wZ id (j+1) l
def rA :Nat→List (List Int)→List (List Int×Int)
 |_,[]=>[]
 |j,x::l=>(x,(j:Int))::rA (j+1) l
theorem aPM (x:List Int): ∀(l:List (List Int))(j:Nat),rA j (l++[x])=rA j l++[(x,((j+l.length:Nat):Int))]
 | [],j=>rfl
 |y::l,j=>by
  simp only[List.cons_append,rA,aPM x l (j+1),a0W]
  rw[show j+1+l.length=j+(l.length+1) by omega]
theorem aFd {k:List Int}(hk:k.length=32): ∀(l:List (List Int))(j:Nat),(∀x∈l,fL x)→
  (jU yE (rA j l) k=none∧wZ k j l= -1)∨ ∃i,jU yE (rA j l) k=some i∧wZ k j l=((j+i:Nat):Int)∧((rA j l)[i]?).map (·.2)=some ((j+i:Nat):Int)
 | [],j,_=> .inl ⟨rfl,rfl⟩
 |x::l,j,h=>by
  have hx:=h x (by simp)
  have ih:=aFd hk l (j+1) (fun y hy=>h y (by simp[hy]))
  have hq:yE k x=decide (x=k):=by
   unfold yE
   rw[aOp hk hx.1,Bool.and_true,a1x]
   simp only[beq_iff_eq,decide_eq_true_eq]
   exact eq_comm
  unfold jU at ih⊢
  simp only[rA,a1A,hq,wZ]
  by_cases e:x=k
  ·rw[decide_eq_true e,if_pos e]
   exact .inr ⟨0,rfl,rfl,rfl⟩
  rw[decide_eq_false e,if_neg e]
  rcases ih with⟨i1,i2⟩|⟨i,i1,i2,i3⟩
  ·exact .inl ⟨by simp[i1],i2⟩
  refine .inr ⟨i+1,by simp[i1],by rw[i2];congr 1;omega, ?_⟩
  rw[List.getElem?_cons_succ,i3]
  congr 2;omega
section
variable {k:List Int}(hk:k.length=32){l:List (List Int)}(h: ∀x∈l,fL x)
include hk h
theorem aOS :tD yE (rA 0 l) k=decide (0≤wZ k 0 l):=by
 unfold tD
 rcases aFd hk l 0 h with⟨h1,h2⟩|⟨i,h1,h2,_⟩
 ·rw[h1,h2];rfl
 rw[h1,h2,decide_eq_true (by omega)];rfl
theorem aTg (hp:0≤wZ k 0 l):oP yE (rA 0 l) k 0=wZ k 0 l:=by
 unfold oP
 rcases aFd hk l 0 h with⟨h1,h2⟩|⟨i,h1,h2,h3⟩
 ·omega
 rw[h1,h2]
 simp only[h3,Option.getD_some]
theorem aTJ (hp: ¬0≤wZ k 0 l)(v:Int):wX yE (rA 0 l) k v=rA 0 l++[(k,v)]:=by
 unfold wX
 rcases aFd hk l 0 h with⟨h1,h2⟩|⟨i,h1,h2,h3⟩
 ·rw[h1]
 omega
end
section
variable {N:Nat}(hN:70000≤N)
include hN
theorem aLH {ids:List (List Int)}{id:List Int}(hi:id.length=32)(h: ∀x∈ids,fL x)(hn:ids.length≤1000): ∀(m j:Nat),ids.length-j<m→j≤ids.length→
  ((lE N ids id m (j:Int)).bind fun q=>match q with | .ret v=>some v | .brk _=>aCN N)=some (wZ id j (ids.drop j))
 |0,j,hm,_=>by omega
 |m+1,j,hm,hj=>by
  unfold lE
  by_cases h':j<ids.length
  ·rw[if_pos (dT h'),bA _ h',a0P h']
   simp only[a0F,aU (h _ (a0H h')).1,aU hi,wZ]
   by_cases e:ids[j]=id
   ·rw[if_pos (by simpa using e),if_pos e];rfl
   rw[if_neg (by simpa using e),if_neg e,i1 (by omega)]
   exact aLH hi h hn m (j+1) (by omega) (by omega)
  rw[if_neg (by simp;omega),a0R (by omega)]
  rfl
theorem aTQ {ids:List (List Int)}{id:List Int}(hi:id.length=32)(h: ∀x∈ids,fL x)(hn:ids.length≤1000):uQ N ids id=some (wZ id 0 ids):=by
 have:=aLH hN hi h hn N 0 (by omega) (by omega)
 rw[show((0:Nat):Int)=0 from rfl,a0M]at this
 exact this
end
def eK (N:Nat)(l:List aD):List (List Int):=l.map fun t=>dig N t false
theorem aA2 (N:Nat)(l:List aD): ∀x∈eK N l,fL x:=fun x hx=>by
 obtain⟨t,_,rfl⟩:=a1d.1 hx
 exact aKC _ _
theorem aMM (N:Nat)(l:List aD){j:Nat}(h:j<l.length):eK N (l.take (j+1))=eK N (l.take j)++[dig N l[j] false]:=by
 unfold eK
 rw[a0S h,a1e];rfl
theorem aKK (N:Nat)(l:List aD):(eK N l).length=l.length:=by simp[eK]
def c1 (N:Nat)(l:List aD)(j:Nat):Bool:=match l[j]? with
 |some t=>decide (0≤wZ (dig N t false) 0 (eK N (l.take j)))
 |none=>false
def pv (t:aD):aC:=match t.Inputs with
 |x::_=>x.Prev
 | []=>aEC
def c2 (N:Nat)(l:List aD)(j:Nat):Bool:=match l[j]? with
 |some t=>decide ((j:Int)≤wZ (pv t).Tx 0 (eK N l))
 |none=>false
def c3 (l:List aD)(j:Nat):Bool:=match l[j]? with
 |some t=>((l.take j).map pv).any (pR (pv t))
 |none=>false
section
variable {N:Nat}(hN:70000≤N){b:aO}(B:aHl b)
include hN B
theorem a0u :mD N b.Txs N 0 []=some (if(a0U b.Txs.length).any (c1 N b.Txs)=true then .ret 91 else .brk (rA 0 (eK N b.Txs))):=by
 have hb:=B.t.1
 refine aLZ (f:=mD N b.Txs) (fun j=>rA 0 (eK N (b.Txs.take j))) (c1 N b.Txs) 91 _ (fun m j hj=> ?_) (fun m=> ?_) (by omega)
 ·have T:=(B.t.2 _ (a0H hj)).k
  have hd:=aKC (t:=b.Txs[j]) N false
  have hc:c1 N b.Txs j=decide (0≤wZ (dig N b.Txs[j] false) 0 (eK N (b.Txs.take j))):=by unfold c1;rw[a0T hj]
  rw[mD,if_pos (dT hj),bA _ hj,hc]
  simp only[a0F,aID N hN T,aU hd.1,i1 (show j≤100000 by omega)]
  rw[aOS hd.1 (aA2 _ _)]
  by_cases hp:0≤wZ (dig N b.Txs[j] false) 0 (eK N (b.Txs.take j))
  ·rw[decide_eq_true hp];rfl
  rw[decide_eq_false hp,if_neg (by simp),if_neg (by simp),aTJ hd.1 (aA2 _ _) hp,aMM N _ hj,aPM,aKK]
  rw[show 0+(b.Txs.take j).length=j by rw[a1r];omega]
 rw[mD,if_neg (by simp),a1a (a1c _)]
theorem a0d :iA N b N 0 []=some (if(a0U b.Txs.length).any (c1 N b.Txs)=true then .ret 91 else .brk (eK N b.Txs)):=by
 have hb:=B.t.1
 refine aLZ (f:=iA N b) (fun j=>eK N (b.Txs.take j)) (c1 N b.Txs) 91 _ (fun m j hj=> ?_) (fun m=> ?_) (by omega)
 ·have T:=(B.t.2 _ (a0H hj)).k
  have hd:=aKC (t:=b.Txs[j]) N false
  have hl:(eK N (b.Txs.take j)).length≤10:=by rw[aKK,a1r];omega
  have hc:c1 N b.Txs j=decide (0≤wZ (dig N b.Txs[j] false) 0 (eK N (b.Txs.take j))):=by unfold c1;rw[a0T hj]
  rw[iA,if_pos (dT hj),bA _ hj,hc]
  simp only[a0F,rID N hN T,aU hd.1,aFl (aA2 _ _),i1 (show j≤100000 by omega),aTQ hN hd.1 (aA2 _ _) (show(eK N (b.Txs.take j)).length≤1000 by omega)]
  by_cases hp:0≤wZ (dig N b.Txs[j] false) 0 (eK N (b.Txs.take j))
  ·rw[decide_eq_true hp];rfl
  rw[decide_eq_false hp,if_neg (by simp),if_neg (by simp),d8 (by omega) (by simp;omega),aMM N _ hj]
  rfl
 rw[iA,if_neg (by simp),a1a (a1c _)]
theorem aDF {t:aD}{x:bL}(hi:t.Inputs=[x]):pv t=x.Prev:=by unfold pv;rw[hi]
theorem a0c :fZ N b.Txs (rA 0 (eK N b.Txs)) N 0=some (if(a0U b.Txs.length).any (c2 N b.Txs)=true then .ret 101 else .brk ()):=by
 have hb:=B.t.1
 refine aLZ (f:=fun m j (_:Unit)=>fZ N b.Txs (rA 0 (eK N b.Txs)) m j) (fun _=>()) (c2 N b.Txs) 101 () (fun m j hj=> ?_) (fun m=> ?_) (by omega)
 ·obtain⟨x,hi,hx⟩:=(B.t.2 _ (a0H hj)).i
  have l9:jK N b.Txs (rA 0 (eK N b.Txs)) (j:Int) b.Txs[j] N 0=some (if c2 N b.Txs j=true then .ret 101 else .brk ()):=by
   obtain⟨m,rfl⟩: ∃m,N=m+2:=⟨N-2,by omega⟩
   rw[show c2 (m+2) b.Txs j=decide ((j:Int)≤wZ x.Prev.Tx 0 (eK (m+2) b.Txs)) by unfold c2;rw[a0T hj];simp only[aDF hN B hi]]
   generalize hM:rA 0 (eK (m+2) b.Txs)=M
   have e1:jK (m+2) b.Txs M (j:Int) b.Txs[j] (m+1) 1=some (.brk ()):=by
    unfold jK
    rw[hi];rfl
   unfold jK
   rw[hi]
   simp only[a0Z]
   rw[if_pos (show decide ((0:Int)<((1:Nat):Int))=true from rfl),show aZ [x] 0=some x from rfl]
   simp only[a0F,aU hx.p.1,vP,show a0L.wrap (0+1)=1 from rfl,e1]
   rw[←hM,aOS hx.p.1 (aA2 _ _)]
   by_cases hp:0≤wZ x.Prev.Tx 0 (eK (m+2) b.Txs)
   ·rw[decide_eq_true hp,if_pos rfl,aTg hx.p.1 (aA2 _ _) hp]
    cases decide ((j:Int)≤wZ x.Prev.Tx 0 (eK (m+2) b.Txs))<;>rfl
   rw[decide_eq_false hp,show decide ((j:Int)≤wZ x.Prev.Tx 0 (eK (m+2) b.Txs))=false from decide_eq_false (by omega)];rfl
  show fZ N b.Txs (rA 0 (eK N b.Txs)) (m+1) (j:Int)=if c2 N b.Txs j=true then some (.ret 101)else fZ N b.Txs (rA 0 (eK N b.Txs)) m ((j+1:Nat):Int)
  rw[fZ,if_pos (dT hj),bA _ hj]
  simp only[a0F,l9,aCK,i1 (show j≤100000 by omega)]
  cases c2 N b.Txs j<;>rfl
 show fZ N b.Txs (rA 0 (eK N b.Txs)) (m+1) (b.Txs.length:Int)=_
 rw[fZ,if_neg (by simp)]
theorem a0v :qA N b (eK N b.Txs)=some ((a0U b.Txs.length).any (c2 N b.Txs)):=by
 have hb:=B.t.1
 have l:dH N b (eK N b.Txs) N 0=some (if(a0U b.Txs.length).any (c2 N b.Txs)=true then .ret true else .brk ()):=by
  refine aLZ (f:=fun m j (_:Unit)=>dH N b (eK N b.Txs) m j) (fun _=>()) (c2 N b.Txs) true () (fun m j hj=> ?_) (fun m=> ?_) (by omega)
  ·obtain⟨x,hi,hx⟩:=(B.t.2 _ (a0H hj)).i
   have l4:fQ N b (eK N b.Txs) (j:Int) b.Txs[j] N 0=some (if c2 N b.Txs j=true then .ret true else .brk ()):=by
    have hr:=aTQ hN hx.p.1 (aA2 N b.Txs) (by rw[aKK];omega)
    obtain⟨m,rfl⟩: ∃m,N=m+2:=⟨N-2,by omega⟩
    rw[show c2 (m+2) b.Txs j=decide ((j:Int)≤wZ x.Prev.Tx 0 (eK (m+2) b.Txs)) by unfold c2;rw[a0T hj];simp only[aDF hN B hi]]
    generalize eK (m+2) b.Txs=M at hr⊢
    have e1:fQ (m+2) b M (j:Int) b.Txs[j] (m+1) 1=some (.brk ()):=by
     unfold fQ
     rw[hi];rfl
    unfold fQ
    rw[hi]
    simp only[a0Z]
    rw[if_pos (show decide ((0:Int)<((1:Nat):Int))=true from rfl),show aZ [x] 0=some x from rfl]
    simp only[a0F,aU hx.p.1,hr,show a0L.wrap (0+1)=1 from rfl,e1]
    cases decide ((j:Int)≤wZ x.Prev.Tx 0 M)<;>rfl
   show dH N b (eK N b.Txs) (m+1) (j:Int)=if c2 N b.Txs j=true then some (.ret true)else dH N b (eK N b.Txs) m ((j+1:Nat):Int)
   rw[dH,if_pos (dT hj),bA _ hj]
   simp only[a0F,l4,tL,i1 (show j≤100000 by omega)]
   cases c2 N b.Txs j<;>rfl
  show dH N b (eK N b.Txs) (m+1) (b.Txs.length:Int)=_
  rw[dH,if_neg (by simp)]
 unfold qA
 rw[l]
 cases (a0U b.Txs.length).any (c2 N b.Txs)<;>rfl
theorem aRu (k:aC)(hk:k.Tx.length=32): ∀(l:List aC),(∀o∈l,o.Tx.length=32)→
  (l.any (pR k)=true∧oP tG (l.map fun o=>(o,true)) k false=true)∨(l.any (pR k)=false∧jU tG (l.map fun o=>(o,true)) k=none)
 | [],_=> .inr ⟨rfl,rfl⟩
 |o::l,h=>by
  have hq:tG k o=pR k o:=aYx hk (h o (by simp))
  have ih:=aRu k hk l (fun y hy=>h y (by simp[hy]))
  unfold oP jU at *
  simp only[a1T,a1A,hq,List.any_cons]
  cases pR k o with
  |true=>exact .inl ⟨rfl,rfl⟩
  |false=>
   simp only[Bool.false_or,a0J,if_false]
   rcases ih with⟨h1,h2⟩|⟨h1,h2⟩
   ·refine .inl ⟨h1, ?_⟩
    revert h2
    cases List.findIdx? (fun e=>tG k e.fst) (l.map fun o=>(o,true)) with
    |none=>intro h2;cases h2
    |some i=>intro h2;simpa using h2
   exact .inr ⟨h1,by rw[h2];rfl⟩
theorem aZ9 :lF N b.Txs N 0 []=some (if(a0U b.Txs.length).any (c3 b.Txs)=true then .ret 91 else .brk ()):=by
 have hb:=B.t.1
 refine aLZ (f:=lF N b.Txs) (fun j=>((b.Txs.take j).map pv).map fun o=>(o,true)) (c3 b.Txs) 91 () (fun m j hj=> ?_) (fun m=> ?_) (by omega)
 ·obtain⟨x,hi,hx⟩:=(B.t.2 _ (a0H hj)).i
  have hp: ∀o∈(b.Txs.take j).map pv,o.Tx.length=32:=fun o ho=>by
   obtain⟨t,ht,rfl⟩:=a1d.1 ho
   obtain⟨y,hy,hy2⟩:=(B.t.2 _ (a07 ht)).i
   rw[aDF hN B hy];exact hy2.p.1
  have hs:((b.Txs.take (j+1)).map pv).map (fun o=>(o,true))=(((b.Txs.take j).map pv).map fun o=>(o,true))++[(x.Prev,true)]:=by
   rw[a0S hj,a1e,a1e,a1B,a1B,aDF hN B hi]
  rw[hs,show c3 b.Txs j=((b.Txs.take j).map pv).any (pR x.Prev) by unfold c3;rw[a0T hj];simp only[aDF hN B hi]]
  generalize (b.Txs.take j).map pv=S at hp⊢
  have l6:n8 N b.Txs (j:Int) b.Txs[j] N 0 (S.map fun o=>(o,true))=some (if S.any (pR x.Prev)=true then .ret 91 else .brk ((S.map fun o=>(o,true))++[(x.Prev,true)])):=by
   obtain⟨m,rfl⟩: ∃m,N=m+2:=⟨N-2,by omega⟩
   have e1: ∀s,n8 (m+2) b.Txs (j:Int) b.Txs[j] (m+1) 1 s=some (.brk s):=fun s=>by
    unfold n8
    rw[hi];rfl
   unfold n8
   rw[hi]
   simp only[a0Z]
   rw[if_pos (show decide ((0:Int)<((1:Nat):Int))=true from rfl),show aZ [x] 0=some x from rfl]
   simp only[a0F,show a0L.wrap (0+1)=1 from rfl,e1]
   rcases aRu hN B x.Prev hx.p.1 S hp with⟨h1,h2⟩|⟨h1,h2⟩
   ·rw[h1,h2];rfl
   rw[h1]
   unfold oP wX
   rw[h2];rfl
  rw[lF,if_pos (dT hj),bA _ hj]
  simp only[a0F,l6,aC0,i1 (show j≤100000 by omega)]
  cases S.any (pR x.Prev)<;>rfl
 rw[lF,if_neg (by simp)]
theorem aZ8 :uS N b=some ((a0U b.Txs.length).any (c3 b.Txs)):=by
 have hb:=B.t.1
 have l:fY N b N 0 []=some (if(a0U b.Txs.length).any (c3 b.Txs)=true then .ret true else .brk ()):=by
  refine aLZ (f:=fY N b) (fun j=>(b.Txs.take j).map pv) (c3 b.Txs) true () (fun m j hj=> ?_) (fun m=> ?_) (by omega)
  ·obtain⟨x,hi,hx⟩:=(B.t.2 _ (a0H hj)).i
   have hp: ∀o∈(b.Txs.take j).map pv,o.Tx.length=32:=fun o ho=>by
    obtain⟨t,ht,rfl⟩:=a1d.1 ho
    obtain⟨y,hy,hy2⟩:=(B.t.2 _ (a07 ht)).i
    rw[aDF hN B hy];exact hy2.p.1
   have hs:(b.Txs.take (j+1)).map pv=(b.Txs.take j).map pv++[x.Prev]:=by
    rw[a0S hj,a1e,a1B,aDF hN B hi]
   have hl:((b.Txs.take j).map pv).length≤10:=by rw[List.length_map,a1r];omega
   rw[hs,show c3 b.Txs j=((b.Txs.take j).map pv).any (pR x.Prev) by unfold c3;rw[a0T hj];simp only[aDF hN B hi]]
   generalize (b.Txs.take j).map pv=S at hp hl⊢
   have l4:fG N b (j:Int) b.Txs[j] N 0 S=some (if S.any (pR x.Prev)=true then .ret true else .brk (S++[x.Prev])):=by
    have l7:iC N b (j:Int) b.Txs[j] 0 S x N 0=some (if S.any (pR x.Prev)=true then .ret true else .brk ()):=by
     have:=aAR (f:=iC N b (j:Int) b.Txs[j] 0 S x) (xs:=S) (p:=fun o=> !pR x.Prev o) (r:=true) (fun m i hi=>by
      rw[iC,dT hi,if_pos rfl,bA S hi]
      simp only[a0F,i1 (show i≤100000 by omega)]
      rw[show jS S[i].Tx x.Prev.Tx ((S[i].Index == x.Prev.Index)&&true)=pR x.Prev S[i] by rw[aQ6];exact eqP (hp _ (a0H hi)) hx.p.1]
      cases pR x.Prev S[i]<;>rfl) (fun m i hi=>by rw[iC,dF (by omega)];rfl) N 0 (by omega) (by omega)
     rw[show((0:Nat):Int)=0 from rfl,a0M]at this
     rw[this,List.all_eq_not_any_not]
     simp only[Bool.not_not]
     cases S.any (pR x.Prev)<;>rfl
    obtain⟨m,rfl⟩: ∃m,N=m+2:=⟨N-2,by omega⟩
    have e1: ∀s,fG (m+2) b (j:Int) b.Txs[j] (m+1) 1 s=some (.brk s):=fun s=>by
     unfold fG
     rw[hi];rfl
    unfold fG
    rw[hi]
    simp only[a0Z]
    rw[if_pos (show decide ((0:Int)<((1:Nat):Int))=true from rfl),show aZ [x] 0=some x from rfl]
    simp only[a0F,show a0L.wrap (0+1)=1 from rfl,l7,yK,yA]
    cases S.any (pR x.Prev)
    ·simp only[a0J,if_false]
     rw[d8 (by omega) (by simp;omega)]
     simp only[a0F,e1]
    rfl
   rw[fY,if_pos (dT hj),bA _ hj]
   simp only[a0F,l4,yQ,i1 (show j≤100000 by omega)]
   cases S.any (pR x.Prev)<;>rfl
  rw[fY,if_neg (by simp)]
 unfold uS
 rw[l]
 cases (a0U b.Txs.length).any (c3 b.Txs)<;>rfl
theorem aP6 : ∀(m:Nat)(i:Int),r3 N b m i=jN N b m i
 |0,_=>rfl
 |m+1,i=>by
  unfold r3 jN
  exact gM (aA9 fun t ht=>eH (by rw[aRQ hN (B.t.2 t ht),aNx hN (B.t.2 t ht)]) fun _=>gM rfl (aP6 m _)) rfl
theorem aPX : ∀(m:Nat)(i:Int),xP N b m i=dX N b m i
 |0,_=>rfl
 |m+1,i=>by
  unfold xP dX
  exact gM (aA9 fun t ht=>eH aI0 fun _=>gM rfl (aPX m _)) rfl
theorem aTX :aDG N b=jW N b:=by
 have j2:yW N b=n5 N b:=by
  unfold yW n5 aHz
  rw[a0u hN B,a0d hN B]
  cases (a0U b.Txs.length).any (c1 N b.Txs)
  ·simp only[a0J,if_false,a0F]
   unfold aCE aCW aCO sR
   rw[a0c hN B,a0v hN B,aZ9 hN B,aZ8 hN B,aFl (aA2 _ _),aXy hN B.t]
   simp only[a0F]
   cases (a0U b.Txs.length).any (c2 N b.Txs)
   ·cases (a0U b.Txs.length).any (c3 b.Txs)<;>rfl
   rfl
  rfl
 unfold aDG jW aCZ rV
 obtain⟨e,he⟩:=aWQ hN B
 rw[he,aR8 hN B,j2]
 simp only[a0F]
 cases aP1 b
 ·rfl
 simp only[if_true,a06,a0J,if_false]
 rw[if_neg (by simp)]
 refine gM rfl ?_
 rw[aPX hN B]
 refine eH rfl fun q=> ?_
 cases q
 ·show(r3 N b N 0).bind _=(jN N b N 0).bind _
  rw[aP6 hN B]
 rfl
end
def mE (k k':Int):Bool:=(iG [k]).toList == (iG [k']).toList
theorem aXO (M:Nat)(k:Int):aFX (M+100) [1,1,k,5]=some (tB k,0):=by rfl
theorem aZe (M:Nat)(k:Int):aAz (M+100) (tB k)=some true:=by rfl
theorem aXN (M:Nat)(k:Int):yI (M+100) [[k]]=some true:=by rfl
theorem aWz (M:Nat)(k:Int):mV (M+100) [[k]]=some [[k]]:=by rfl
theorem aY3 (M:Nat)(k:Int)(v:cC):aCc (M+100) [1,1,k,5] [] v=some ([],0,81):=by rfl
theorem aYi (M:Nat)(k k':Int)(v:cC)(c:Int):nD (M+100) v [[k'],[k]] [] c ⟨5,[],0,0⟩=some (0,[if mE k k' then [1]else []]):=by
 have h:aDC (M+100) [k] [k']=some (mE k k'):=rfl
 show((aDC (M+100) [k] [k']).bind fun x79=>(aHy (M+100) x79).bind fun x80=>(rE (M+100) v [[k'],[k]] [] c 2 x80).bind fun x81=>some (0,x81))=_
 rw[h]
 cases mE k k'<;>rfl
theorem aZB (M:Nat)(k k':Int)(v:cC):pM (M+100) v [[k'],[k]] [] 1 ⟨5,[],0,0⟩=some (0,[if mE k k' then [1]else []],2):=by
 show((nD (M+100) v [[k'],[k]] [] 2 ⟨5,[],0,0⟩).bind fun x64=>some (x64.1,x64.2,2))=_
 rw[aYi];rfl
theorem aYh (M:Nat)(k k':Int)(v:cC):mP (M+100) v (tB k,0) (M+100) 0 0 [[k']]=(pM (M+100) v [[k'],[k]] [] 1 ⟨5,[],0,0⟩).bind fun x40=>
  if x40.1 != 0 then some (.ret ([],0,x40.1))else mP (M+100) v (tB k,0) (M+98) 2 x40.2.2 x40.2.1:=by rfl
theorem a0D (M:Nat)(k:Int)(v:cC)(t:Bool):mP (M+100) v (tB k,0) (M+98) 2 2 [if t then [1]else []]=some (.brk (2,[if t then [1]else []])):=by rfl
theorem aZt (M:Nat)(t:Bool):mV (M+100) [if t then [1]else []]=some [if t then [1]else []]:=by cases t<;>rfl
theorem aZk (M:Nat)(t:Bool):aBh (M+100) (if t then [1]else [])=some t:=by cases t<;>rfl
theorem aZO (M:Nat)(k k':Int)(v:cC):lD (M+100) [1,1,k,5] [[k']] v=some (if mE k k' then 0 else 84):=by
 have e:aCc (M+100) [1,1,k,5] [[k']] v=some ([if mE k k' then [1]else []],2,0):=by
  unfold aCc
  rw[aXO]
  show((aAz (M+100) (tB k)).bind fun x27=>_)=_
  rw[aZe]
  show((yI (M+100) [[k']]).bind fun x30=>_)=_
  rw[aXN]
  show((mV (M+100) [[k']]).bind fun x32=>_)=_
  rw[aWz]
  show((mP (M+100) v (tB k,0) (M+100) 0 0 [[k']]).bind fun q=>_)=_
  rw[aYh,aZB]
  show((mP (M+100) v (tB k,0) (M+98) 2 2 [if mE k k' then [1]else []]).bind fun q=>_)=_
  rw[a0D]
  show((mV (M+100) [if mE k k' then [1]else []]).bind fun x47=>_)=_
  rw[aZt]
  rfl
 unfold lD
 rw[e]
 show((aBh (M+100) (if mE k k' then [1]else [])).bind fun x30=>_)=_
 rw[aZk]
 cases mE k k'<;>rfl
theorem a0w (M:Nat)(k k':Int)(v:cC):fM (M+100) [1,1,k,5] [[k']] v=some (if mE k k' then 0 else 84):=by
 have ht:aB6 (M+100) ⟨5,[],0,0⟩ [[k'],[k]] v=some ([if mE k k' then [1]else []],0):=by
  have hc:mE k k'=((iG [k']).toList == (iG [k]).toList):=by
   unfold mE
   rw[a1x]
   simp only[beq_iff_eq]
   exact eq_comm
  have h:yJ (M+100) [k'] [k]=some (mE k k'):=by rw[hc];rfl
  generalize mE k k'=t at h⊢
  show((yJ (M+100) [k'] [k]).bind fun x84=>(aDB (M+100) x84).bind fun x85=>(b5 24 [] [x85]).bind fun x87=>some (x87,0))=_
  rw[h]
  cases t<;>rfl
 have e:xE (M+100) [1,1,k,5] [[k']] v=some ([if mE k k' then [1]else []],2,0):=by
  unfold xE
  rw[aOj]
  show((wO (M+100) (tB k)).bind fun x27=>_)=_
  rw[aQo]
  show((aBt (M+100) [[k']]).bind fun x30=>_)=_
  rw[aQ2]
  show((wF (M+100) [[k']]).bind fun x32=>_)=_
  rw[aMJ]
  show((kB (M+100) v (tB k,0) (M+100) [[k']] 0 0).bind fun q=>_)=_
  rw[aOy,ht]
  show((kB (M+100) v (tB k,0) (M+98) [if mE k k' then [1]else []] 2 2).bind fun q=>_)=_
  rw[aSb]
  rfl
 unfold fM
 rw[e]
 show((aBY (M+100) (if mE k k' then [1]else [])).bind fun x30=>_)=_
 rw[aQk]
 cases mE k k'<;>rfl
section
variable {N:Nat}(hN:70000≤N)
include hN
theorem aY0 {s:List Int}(hs:ScrK s){w:List (List Int)}(hw:w=[]∨ ∃k:Nat,1≤k∧k≤6∧w=[[(k:Int)]])(v v':cC): ∃e,lD N s w v=some e∧fM N s w v'=some e:=by
 obtain⟨k,_,_,rfl⟩:=hs
 obtain⟨M,rfl⟩: ∃M,N=M+100:=⟨N-100,by omega⟩
 rcases hw with rfl|⟨k',_,_,rfl⟩
 ·refine⟨81, ?_, ?_⟩
  ·unfold lD
   rw[aY3];rfl
  unfold fM
  rw[aQ0];rfl
 exact⟨_,aZO M k k' v,a0w M k k' v'⟩
theorem aOR (v:Int):pG N v=some (nG v):=by
 simp only[pG,aHB N hN [] v (by simp),a0F,a0K]
theorem aX6 (l:List (List Int))(hn:l.length≤1000)(ht:l.flatten.length≤50000000):aDU N l=some l.flatten:=by
 have:=aQF (f:=wH N l) l hn ht (fun m j acc hj hB=>by
  rw[wH,dT hj,if_pos rfl,bA l hj,a0F,jG (by omega)]
  simp only[a0F,i1 (show j≤100000 by omega)]) (fun m j acc hj=>by rw[wH,dF (by omega)];rfl) N hN
 unfold aDU
 rw[this];rfl
theorem aOw (o:aQ)(h:o.Script.length≤600):wE N o=some (qY o):=by
 have:=iV o.Script.length
 simp only[wE,aYH N hN [] _ (show([]:List Int).length≤40000000 by simp),aPZ N hN [] _ (show o.Script.length≤1000000 by omega) (by simp),a0F,a0K]
 rw[aX6 hN _ (by simp) (by simp[aFv];omega)]
 simp only[a0F,a1g,a1i,a1f,qY]
theorem aKi (b:List Int)(hb:Byt b)(hl:b.length≤1000000):sQ N b=some (sha256 N b):=by
 simp only[sQ,aHV N hN b hb hl,a0F,aU (c5 N b)]
theorem aUI {t:aD}(T:TxK t):aET N t=some (aCk t):=by
 simp only[aET,aNR N hN T,a0F,aCk]
 cases nB t.Version t.Inputs t.Outputs t.Lock<;>rfl
theorem aRs {t:aD}(T:TxM t){o:aQ}(O:aNX o):Ok (uE N t 0 o) fun r=>r.1.length=32∧r.2=if aCk t=true then 0 else 4:=by
 obtain⟨x,hi,hx,hl⟩:=xB T
 have hno:=T.n
 have hol:=O.1.len
 have z:([0,0,0,0,0,0,0,0,0,0,0,0,0,0,0,0,0,0,0,0,0,0,0,0,0,0,0,0,0,0,0,0]:List Int).length=32:=rfl
 have ho:(qY o).length≤613:=aHY (by omega)
 have hob:Byt (qY o):=(xK _ _).append ((y0 _).append O.1.byt)
 have j4: ∀a b c:List Int,(Byt a∧a.length≤10000)→(Byt b∧b.length≤10000)→(Byt c∧c.length≤10000)→Ok (pI N t 0 o a b c) fun r=>r.1.length=32∧r.2=0:=by
  intro a b c ha hb hc
  unfold pI
  simp only[aOR hN,aKi hN _ ha.1 (show a.length≤1000000 by omega),aKi hN _ hb.1 (show b.length≤1000000 by omega),aKi hN _ hc.1 (show c.length≤1000000 by omega),aOw hN o (by omega),a0F]
  rw[aX6 hN _ (by simp) (by simp[bZ,c5];omega)]
  simp only[a0F]
  rw[aTB N hN _ (by decide) _ ?_ (by simp[bZ,c5];omega)]
  ·exact Ok.eq (aU (aE8 _ _ _)) (Ok.pure ⟨aE8 _ _ _,rfl⟩)
  intro y hy
  simp only[a1g,a1i,a1f,a0V]at hy
  rcases hy with hy|hy|hy|hy|hy|hy|hy
  ·exact gG _ y hy
  ·exact gJ _ _ y hy
  ·exact gJ _ _ y hy
  ·exact gJ _ _ y hy
  ·exact gG _ y hy
  ·exact gG _ y hy
  exact hob y hy
 have j3: ∀a b:List Int,(Byt a∧a.length≤10000)→(Byt b∧b.length≤10000)→Ok (oH N t 0 o a b) fun r=>r.1.length=32∧r.2=0:=by
  intro a b ha hb
  unfold oH
  refine Ok.bind (P:=fun c=>Byt c∧c.length≤10000) ?_ fun c hc=>j4 a b c ha hb hc
  refine lp (f:=fun m j s=>pA N t 0 o a b m (j:Int) s) (fun j s=>Byt s∧s.length≤613*j) t.Outputs.length (fun m j s hj hs ih=> ?_) (fun m s hs=> ?_) N 0 [] (by omega) (by omega) ⟨aC5,by simp⟩
  ·unfold pA
   have O2:=T.o _ (a0H hj)
   have h2:(qY t.Outputs[j]).length≤613:=aHY (by have:=O2.1.len;omega)
   have hb2:Byt (qY t.Outputs[j]):=(xK _ _).append ((y0 _).append O2.1.byt)
   rw[if_pos (dT hj),i1 (by omega)]
   exact Ok.eq (bA _ hj) (Ok.eq (aOw hN _ (by have:=O2.1.len;omega)) (Ok.eq (jG (by omega)) (ih _ ⟨hs.1.append hb2,by rw[a0G];omega⟩)))
  unfold pA
  rw[if_neg (by simp)]
  exact Ok.pure ⟨hs.1,by omega⟩
 have j2:Ok (lB N t 0 o false) fun r=>r.1.length=32∧r.2=0:=by
  unfold lB
  refine Ok.ite (fun h=>by cases h) fun _=> ?_
  refine Ok.bind (P:=fun s=>(Byt s.1∧s.1.length≤10000)∧Byt s.2∧s.2.length≤10000) ?_ fun s hs=>j3 _ _ hs.1 hs.2
  have:=lp (f:=fun m j (s:List Int×List Int)=>pD N t 0 o m (j:Int) s.1 s.2) (Q:=fun s=>(Byt s.1∧s.1.length≤10000)∧Byt s.2∧s.2.length≤10000) (fun j s=>(Byt s.1∧s.1.length≤40*j)∧Byt s.2∧s.2.length≤40*j) t.Inputs.length (fun m j s hj hs ih=> ?_) (fun m s hs=> ?_) N 0 ([],[]) (by omega) (by omega) ⟨⟨aC5,by simp⟩,aC5,by simp⟩
  ·exact this
  ·unfold pD
   rw[if_pos (dT hj),i1 (by omega)]
   refine Ok.eq (bA _ hj) ?_
   rw[aQZ hi hj]
   refine Ok.eq (aSZ N hN _ hx.p.1) (Ok.eq (jG ?_) (Ok.eq (aOR hN _) (Ok.eq (jG ?_) (ih (_,_) ⟨⟨hs.1.1.append (hx.p.2.append (gG _)), ?_⟩,hs.2.1.append (gG _), ?_⟩))))
   ·have:=hs.1.2;simp only[a0G,bZ,hx.p.1];omega
   ·have:=hs.2.2;rw[bZ];omega
   ·have:=hs.1.2;simp only[a0G,bZ,hx.p.1];omega
   have:=hs.2.2;simp only[a0G,bZ];omega
  unfold pD
  rw[if_neg (by simp)]
  exact Ok.pure ⟨⟨hs.1.1,by have:=hs.1.2;simp only;omega⟩,hs.2.1,by have:=hs.2.2;simp only;omega⟩
 unfold uE
 refine Ok.eq (aUI hN T.k) ?_
 cases aCk t with
 |false=>exact Ok.pure ⟨z,rfl⟩
 |true=>
  unfold lG
  refine Ok.ite (fun h=>by cases h) fun _=>Ok.ite (fun h=> ?_) fun _=> ?_
  ·have h1:=of_decide_eq_true h;have h2:=O.2.1;omega
  rw[if_neg (by simp;omega),if_neg (by simp),show decide ((t.Inputs.length:Int)≤0)=false from decide_eq_false (by omega)]
  exact j2
end
theorem aTy {N:Nat}{t:aD}{l:List aA}: ∀(m:Nat)(j:Int),aB8 N t l m j=iZ N t l m j
 |0,_=>rfl
 |m+1,j=>by simp only[aB8,iZ,aTy m]
theorem aTl {N:Nat}{t:aD}: ∀(m:Nat)(s j:Int),wQ N t m s j=i8 N t m s j
 |0,_,_=>rfl
 |m+1,s,j=>by simp only[wQ,i8,aTl m]
theorem aW1 {α:Type}{c:α}{j:Int}(h:j≠0):aZ [c] j=none:=by
 unfold aZ
 split
 ·rw[a1J (by simp;omega)]
 rfl
section
variable {N:Nat}(hN:70000≤N)
include hN
theorem aZY {c:aA}(C:fK c):aGV N [c]=some (c.Output.Value,true):=by
 have h:=C.p.2
 obtain⟨m,rfl⟩: ∃m,N=m+2:=⟨N-2,by omega⟩
 have e1: ∀s,lP (m+2) [c] (m+1) s 1=some (.brk s):=fun s=>by unfold lP;rfl
 unfold aGV
 have e:lP (m+2) [c] (m+2) 0 0=some (.brk c.Output.Value):=by
  rw[lP,if_pos (show decide ((0:Int)<(([c].length:Nat):Int))=true from rfl),show aZ [c] 0=some c from rfl]
  simp only[a0F,aBU]
  rw[if_neg (by simp only[decide_eq_true_eq];omega),show decide (a0L.wrap (2100000000000000-0)<c.Output.Value)=false from decide_eq_false (by rw[cJ (by omega) (by omega)];omega)]
  rw[if_neg (by simp),show a0L.wrap (0+1)=1 from rfl,e1,cJ (by omega) (by omega),Int.zero_add]
 rw[e];rfl
theorem aYR {t:aD}{c:aA}(C:fK c):fV N t [c] N 0 0=some (.brk c.Output.Value):=by
 have h:=C.p.2
 obtain⟨m,rfl⟩: ∃m,N=m+2:=⟨N-2,by omega⟩
 have e1: ∀s,fV (m+2) t [c] (m+1) s 1=some (.brk s):=fun s=>by unfold fV;rfl
 rw[fV,if_pos (show decide ((0:Int)<(([c].length:Nat):Int))=true from rfl),show aZ [c] 0=some c from rfl]
 simp only[a0F,sD]
 rw[if_neg (by simp only[decide_eq_true_eq];omega),if_neg (by simp only[decide_eq_true_eq];omega),show a0L.wrap (0+1)=1 from rfl,e1,cJ (by omega) (by omega),Int.zero_add]
theorem aZj {t:aD}(T:TxM t){c:aA}(C:fK c):aGI N t [c]=sT N t [c]:=by
 have h:=C.p.2
 unfold aGI sT
 rw[aRQ hN T,aNx hN T]
 refine eH rfl fun e=>gM rfl (gM rfl ?_)
 rw[aTy]
 refine eH rfl fun q=> ?_
 cases q with
 |ret v=>rfl
 |brk s=>
  show aBi N t [c]=sO N t [c]
  unfold aBi sO
  rw[aZY hN C,aYR hN C]
  show(wQ N t N c.Output.Value 0).bind _=pC N t c.Output.Value
  unfold pC
  rw[if_neg (by simp only[decide_eq_true_eq];omega),aTl]
  rfl
theorem aWv {t:aD}(T:TxM t){c:aA}(C:fK c){h:Int}:aDr N t 0 c h=uU N t 0 c h:=by
 obtain⟨x,hx,hm,hl⟩:=xB T
 obtain⟨q,e1,a1,a2⟩:=aRs hN T C.p
 obtain⟨q',e2,b1,b2⟩:=aLr hN T (i:=0) C.p
 have e3:q.2=q'.2:=a2.trans (b2 rfl).symm
 unfold aDr uU
 rw[e1,e2]
 simp only[a0F,aU a1,aU b1,e3]
 refine gM rfl (aA9 fun y hy=>gM rfl ?_)
 have j: ∀b,nZ N t 0 c h q b=jM N t 0 c h q' b:=fun b=>by
  unfold nZ jM
  refine gM rfl (aA9 fun z hz=> ?_)
  rw[hx]at hz
  obtain rfl:=a0O.1 hz
  obtain⟨e,h1,h2⟩:=aY0 hN C.p.1 hm.w (cC.mk q.1 h (a0L.wrap (h-c.Height))) (cC.mk q'.1 h (a0L.wrap (h-c.Height)))
  rw[h1,h2]
 simp only[j]
 generalize decide (c.Height<0)=b1
 generalize decide (h<c.Height)=b2
 generalize decide ((16777216:Int)<h)=b3
 cases b1<;>cases b2<;>cases b3<;>rfl
theorem aS4 {t:aD}(T:TxM t){c:aA}(C:fK c){h:Int}:aDw N t [c] h=jX N t [c] h:=by
 have l2: ∀(x:Int×Int)(m:Nat)(j:Int),yY N t [c] h x m j=f9 N t [c] h x m j:=by
  intro x m
  induction m with
  |zero=>intro j;rfl
  |succ m ih=>
   intro j
   unfold yY f9
   refine gM ?_ rfl
   by_cases hj:j=0
   ·subst hj
    exact aA9 fun y hy=>by
     obtain rfl:=a0O.1 hy
     exact eH (aWv hN T C) fun e=>gM rfl (ih _)
   rw[aW1 hj];rfl
 unfold aDw jX
 rw[aI0,aZj hN T C,aSa]
 refine eH rfl fun _=>gM rfl (eH rfl fun x=>gM rfl (eH rfl fun _=>gM rfl ?_))
 rw[l2]
 refine eH rfl fun q=> ?_
 cases q<;>rfl
end
end Go.Proofs.YtopdhljncajmpaaGreatDoor
