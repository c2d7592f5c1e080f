/- Texts of ours, joined: PlainH1, PlainH2, PlainR1, PlainL2, PlainL3, PlainL4, PlainL5, PlainL6, PlainL7, PlainL8, PlainL9, PlainL10, PlainL11, PlainL12, PlainL13, PlainL14, PlainM1, PlainM2, PlainM3, PlainM4, PlainM7, PlainMB, PlainL5f. -/
import Derived.Test.YtopdhljncajmpaaGreatDoorQLedgerDisconnects2
import Derived.Test.YtopdhljncajmpaaGreatDoorQLedgerDisconnects4
open Option renaming bind_some → a1a,bind_eq_some_iff → a2b
open List renaming getElem_mem → a1b,length_append → a1c,replicate → a1d,nil_append → a1f,drop_zero → a1g,mem_singleton → a1h,append_assoc → a1i,drop_eq_getElem_cons → a1j,drop_eq_nil_of_le → a1l,getElem?_eq_getElem → a1m,range → a1o,take_succ_eq_append_getElem → a1p,mem_append → a1q,length_cons → a1r,pairwise_cons → a1s,mem_cons → a1v,length_singleton → a1x,eq_of_mem_replicate → a1y,length_set → a1B,range'_succ → a1D,mem_of_mem_take → a1F,map_append → a1G,take_of_length_le → a1I,mem_map → a1J,range' → a1L,replicate_succ → a1M,getElem?_replicate → a1N,length_nil → a1O,map_singleton → a1Q,getElem?_set_self → a1R,take_length → a1W,length_take → a1X,foldl_cons → a10,range_zero → a12,findIdx?_cons → a15,mem_or_eq_of_mem_set → a16,flatMap_cons → a17,filter_cons_of_pos → a2a,getElem_cons_zero → a2c,set_append_right → a2f,range_succ → a2g,map_nil → a2h,append_nil → a2i,mem_of_mem_drop → a2l,range_eq_range' → a2m,map_cons → a2p,filter_append → a2s,flatten_cons → a2t,set_set → a2u,flatten_nil → a2v,all_eq_true → a2z
open Bool renaming false_eq_true → a1e,true_and → a1w,not_true → a1E,and_eq_true → a1V,eq_iff_iff → a2k
open Go.IntKind renaming i64 → a1k,u64 → a1t,u8 → a1u,u32 → a1z,bits → a1T,wrap_u8 → a11,wrap_u64 → a2w,wrap_u32 → a2x
open Int renaming toNat_natCast → a1n,tmod → a1S,le_refl → a19,tdiv → a2q,natCast_nonneg → a2r
open Nat renaming mul_le_mul_right → a1A,le_refl → a1C,sub_zero → a1H,mod_eq_of_lt → a1K,eq_zero_or_pos → a1P,le_trans → a1U,pow_le_pow_right → a1Y,mod_lt → a1Z,lt_or_ge → a13,lt_of_lt_of_le → a14,add_zero → a2d,min_eq_left → a2e,lt_trans → a2j,zero_le → a2o,div_eq_of_lt → a2y
open List.Pairwise renaming nil → a18
open List.Perm renaming refl → a2n
set_option linter.unusedSimpArgs false
set_option linter.unusedVariables false
set_option linter.unusedSectionVars false
namespace Go.Proofs.YtopdhljncajmpaaGreatDoor
open Go Go.Vm
theorem c9 {α:Type}{n:Nat}{l:List α}{i:Nat}(h:i<n)(hl:i<l.length):b7 n l (i:Int)=some l[i]:=by
 unfold b7;rw[if_pos (by omega),aY l hl]
theorem aX {α:Type}{n:Nat}{l:List α}(h:l.length=n):bH n l=some l:=by unfold bH;rw[if_pos h]
theorem aAu (N:Nat)(x n s:Int)(hs:bits .and .u64 (a1t.wrap (a1k.wrap (0-n))) 31=s)(h0:0≤s)(h1:s≤32): ∃y,dL N x n=some y:=by
 unfold dL mJ
 rw[hs,aFW (a:=32-s) (by omega) (by omega)]
 unfold shl shr
 rw[if_neg (by omega),if_neg (by omega)]
 exact⟨_,rfl⟩
def rv (N:Nat)(x n:Int):Int:=(dL N x n).getD 0
theorem aDN {N:Nat}{x n:Int}(h: ∃y,dL N x n=some y):dL N x n=some (rv N x n):=by obtain⟨y,h⟩:=h;simp[rv,h]
theorem rv2 (N:Nat)(x:Int):dL N x 2=some (rv N x 2):=aDN (aAu N x 2 30 (by decide +kernel) (by omega) (by omega))
theorem rv6 (N:Nat)(x:Int):dL N x 6=some (rv N x 6):=aDN (aAu N x 6 26 (by decide +kernel) (by omega) (by omega))
theorem rv7 (N:Nat)(x:Int):dL N x 7=some (rv N x 7):=aDN (aAu N x 7 25 (by decide +kernel) (by omega) (by omega))
theorem a0H (N:Nat)(x:Int):dL N x 11=some (rv N x 11):=aDN (aAu N x 11 21 (by decide +kernel) (by omega) (by omega))
theorem a03 (N:Nat)(x:Int):dL N x 13=some (rv N x 13):=aDN (aAu N x 13 19 (by decide +kernel) (by omega) (by omega))
theorem a06 (N:Nat)(x:Int):dL N x 17=some (rv N x 17):=aDN (aAu N x 17 15 (by decide +kernel) (by omega) (by omega))
theorem a0j (N:Nat)(x:Int):dL N x 18=some (rv N x 18):=aDN (aAu N x 18 14 (by decide +kernel) (by omega) (by omega))
theorem a0E (N:Nat)(x:Int):dL N x 19=some (rv N x 19):=aDN (aAu N x 19 13 (by decide +kernel) (by omega) (by omega))
theorem a0n (N:Nat)(x:Int):dL N x 22=some (rv N x 22):=aDN (aAu N x 22 10 (by decide +kernel) (by omega) (by omega))
theorem a0r (N:Nat)(x:Int):dL N x 25=some (rv N x 25):=aDN (aAu N x 25 7 (by decide +kernel) (by omega) (by omega))
theorem a0o (x:Int):shr .u32 x 3=some (x.fdiv (2^(min (3:Int).toNat 32))):=by unfold shr;rw[if_neg (by omega)];rfl
theorem aZS (x:Int):shr .u32 x 10=some (x.fdiv (2^(min (10:Int).toNat 32))):=by unfold shr;rw[if_neg (by omega)];rfl
theorem sL3 (N:Nat): ∀(m j:Nat)(l:List Int),l.length=64→16≤j→j≤64→64-j<m→ ∃r,nI N m (j:Int) l=some r∧r.length=64
 |0,j,l,_,_,_,hm=>by omega
 |m+1,j,l,hl,h1,h2,hm=>by
  rw[nI]
  by_cases h:j<64
  ·rw[show decide ((j:Int)<64)=true from decide_eq_true (by omega),if_pos rfl]
   rw[cR (a:=(j:Int)-15) (by omega) (by omega),show(j:Int)-15=((j-15:Nat):Int) by omega,c9 (show j-15<64 by omega) (by omega)]
   rw[cR (a:=(j:Int)-2) (by omega) (by omega),show(j:Int)-2=((j-2:Nat):Int) by omega,c9 (show j-2<64 by omega) (by omega)]
   rw[cR (a:=(j:Int)-16) (by omega) (by omega),show(j:Int)-16=((j-16:Nat):Int) by omega,c9 (show j-16<64 by omega) (by omega)]
   rw[cR (a:=(j:Int)-7) (by omega) (by omega),show(j:Int)-7=((j-7:Nat):Int) by omega,c9 (show j-7<64 by omega) (by omega)]
   rw[c9 h (by omega)]
   simp only[a1a,rv7,a0j,a06,a0E,a0o,aZS,i1 (show j≤100000 by omega)]
   exact sL3 N m (j+1) _ (by rw[a1B];exact hl) (by omega) (by omega) (by omega)
  rw[show decide ((j:Int)<64)=false from decide_eq_false (by omega)]
  exact⟨l,rfl,hl⟩
theorem cL2 (N:Nat)(st w:List Int)(hw:w.length=64): ∀(m j:Nat)(a b c d e f g h:Int),j≤64→64-j<m→ ∃r,nM N st w m a b c d e f g h (j:Int)=some r
 |0,j,_,_,_,_,_,_,_,_,_,hm=>by omega
 |m+1,j,a,b,c,d,e,f,g,h,hj,hm=>by
  rw[nM]
  by_cases h1:j<64
  ·rw[show decide ((j:Int)<64)=true from decide_eq_true (by omega),if_pos rfl,c9 h1 (show j<aHD.length from h1),c9 h1 (by omega)]
   simp only[a1a,rv2,rv6,a0H,a03,a0n,a0r,i1 (show j≤100000 by omega)]
   exact cL2 N st w hw m (j+1) _ _ _ _ _ _ _ _ (by omega) (by omega)
  rw[show decide ((j:Int)<64)=false from decide_eq_false (by omega)]
  exact⟨_,rfl⟩
def wd (b:List Nat)(i:Nat):Nat:=((b.getD (4*i) 0*256+b.getD (4*i+1) 0)*256+b.getD (4*i+2) 0)*256+b.getD (4*i+3) 0
theorem aBe {b:List Nat}(h: ∀x∈b,x<256)(i:Nat):b.getD i 0<256:=by
 rw[List.getD_eq_getElem?_getD]
 rcases a13 i b.length with hi|hi
 ·rw[a1m hi];exact h _ (a1b hi)
 rw[List.getElem?_eq_none hi];simp
theorem aNh (a b k:Nat)(h:b<2^k):a*2^k ||| b=a*2^k+b:=by
 rw[Nat.mul_comm,←Nat.two_pow_add_eq_or_of_lt h]
theorem orU (a b:Nat)(ha:a<4294967296)(hb:b<4294967296):bits .or .u32 (a:Int) (b:Int)=((a ||| b:Nat):Int):=aLD rfl a b ha hb
theorem aZl (a b:Nat):shl .u32 (a:Int) (b:Int)=some ((a*2^b%4294967296:Nat):Int):=aRZ rfl a b
theorem aKG {b:List Nat}{i:Nat}(hl:b.length=64)(hi:i<64):b7 64 (iN b) (i:Int)=some ((b.getD i 0:Nat):Int):=by
 rw[c9 hi (by rw[aNl];omega)]
 have h1:i<b.length:=by omega
 simp[iN,h1]
theorem aG0 (n:Nat)(h:n<4294967296):a1z.wrap (n:Int)=n:=aZo (by omega) (by omega)
def aIL (b:List Nat)(j:Nat)(l:List Int):List Int:=(a1L j (16-j)).foldl (fun l i=>l.set i ((wd b i:Nat):Int)) l
theorem aTM (b:List Nat)(j:Nat)(l:List Int):(aIL b j l).length=l.length:=by
 unfold aIL
 generalize a1L j (16-j)=r
 induction r generalizing l with
 |nil=>rfl
 |cons x r ih=>rw[a10,ih,a1B]
section
variable (N:Nat)(b:List Nat)(hl:b.length=64)(hb: ∀x∈b,x<256)
include hl hb
theorem sL6 (i:Nat)(hi:i<16)(m j:Nat)(hj:j<4)(l:List Int)(hll:l.length=64)(v:Nat)(hv:v<16777216)(hli:l[i]? =some (v:Int)):
  fY N (iN b) (i:Int) (m+1) (j:Int) l=fY N (iN b) (i:Int) m ((j+1:Nat):Int) (l.set i ((v*256+b.getD (4*i+j) 0:Nat):Int)):=by
 have hil:i<l.length:=by omega
 have hbl:=aBe hb (4*i+j)
 rw[fY,show decide ((j:Int)<4)=true from decide_eq_true (by omega),if_pos rfl,c9 (show i<64 by omega) hil]
 rw[a1m hil]at hli
 rw[Option.some.inj hli,cR (a:=4*(i:Int)) (by omega) (by omega),cR (a:=4*(i:Int)+(j:Int)) (by omega) (by omega),show 4*(i:Int)+(j:Int)=((4*i+j:Nat):Int) by omega,aKG hl (by omega)]
 rw[show(8:Int)=((8:Nat):Int)from rfl]
 simp only[a1a,aZl,a1n,i1 (show j≤100000 by omega)]
 rw[aG0 _ (by omega),orU _ _ (a1Z _ (by omega)) (by omega),a1K (by omega),aNh _ _ 8 (by omega)]
theorem aW2 (i:Nat)(hi:i<16)(l:List Int)(hll:l.length=64)(hli:l[i]? =some 0)(hN:10≤N):fY N (iN b) (i:Int) N 0 l=some (l.set i ((wd b i:Nat):Int)):=by
 have g0:=aBe hb (4*i)
 have g1:=aBe hb (4*i+1)
 have g2:=aBe hb (4*i+2)
 have hil:i<l.length:=by omega
 obtain⟨m,hm⟩: ∃m,N=m+5:=⟨N-5,by omega⟩
 have hfu: ∀k,fY N (iN b) (i:Int) N k l=fY N (iN b) (i:Int) (m+1+1+1+1+1) k l:=fun k=>by
  have:N=m+1+1+1+1+1:=by omega
  exact congrArg (fun q=>fY N (iN b) (i:Int) q k l) this
 rw[hfu,show(0:Int)=((0:Nat):Int)from rfl,sL6 N b hl hb i hi _ 0 (by omega) l hll 0 (by omega) hli]
 rw[sL6 N b hl hb i hi _ 1 (by omega) _ (by rw[a1B];exact hll) (0*256+b.getD (4*i+0) 0) (by simp only[a2d];omega) (a1R hil),a2u]
 rw[sL6 N b hl hb i hi _ 2 (by omega) _ (by rw[a1B];exact hll) _ (by simp only[a2d];omega) (a1R hil),a2u]
 rw[sL6 N b hl hb i hi _ 3 (by omega) _ (by rw[a1B];exact hll) _ (by simp only[a2d];omega) (a1R hil),a2u]
 rw[fY]
 simp only[Nat.reduceAdd,show decide (((4:Nat):Int)<4)=false from rfl,a1e,if_false,wd,Nat.zero_mul,Nat.zero_add,a2d]
omit hl hb in
theorem aNH {f:Nat→Int→List Int→Option (List Int)}(hs: ∀(m j:Nat) (l:List Int),j<16→l.length=64→l[j]? =some 0→f (m+1) (j:Int) l=f m ((j+1:Nat):Int) (l.set j ((wd b j:Nat):Int)))(he: ∀m l,f (m+1) 16 l=some l):
  ∀(m j:Nat)(l:List Int),16-j<m→j≤16→l.length=64→(∀i,j≤i→i<64→l[i]? =some 0)→f m (j:Int) l=some (aIL b j l)
 |0,j,l,hm,_,_,_=>by omega
 |m+1,j,l,hm,hj,hll,hz=>by
  by_cases h:j<16
  ·rw[hs m j l h hll (hz j (a1C _) (by omega)),aNH hs he m (j+1) _ (by omega) (by omega) (by rw[a1B];exact hll) (fun i h1 h2=>by rw[List.getElem?_set_ne (by omega)];exact hz i (by omega) h2)]
   unfold aIL
   rw[show 16-j=(16-(j+1))+1 by omega,a1D,a10]
  obtain rfl:j=16:=by omega
  exact he m l
theorem sL4 (hN:70000≤N):kZ N (iN b) N 0 (a1d 64 0)=some (aIL b 0 (a1d 64 0)):=by
 refine aNH b (f:=kZ N (iN b)) (fun m j l hj hll hz=> ?_) (fun m l=>by rw[kZ];rfl) N 0 _ (by omega) (by omega) (by simp) (fun i _ hi=>by rw[a1N,if_pos hi])
 rw[kZ,show decide ((j:Int)<16)=true from decide_eq_true (by omega),if_pos rfl,aW2 N b hl hb j hj l hll hz (by omega)]
 simp only[a1a,aBP,i1 (show j≤100000 by omega)]
end
section
variable (N:Nat)(hN:70000≤N)(b:List Nat)(hl:b.length=64)(hb: ∀x∈b,x<256)
include hN hl hb
theorem aWJ : ∃w,tB N (iN b)=some w∧w.length=64:=by
 obtain⟨w,h1,h2⟩:=sL3 N N 16 (aIL b 0 (a1d 64 0)) (by rw[aTM];simp) (by omega) (by omega) (by omega)
 rw[show((16:Nat):Int)=16 from rfl]at h1
 refine⟨w, ?_,h2⟩
 simp only[tB,sL4 N b hl hb hN,a1a,wH,h1,vV,aX h2]
theorem aVD (st:List Int)(hst:st.length=8): ∃r,mN N st (iN b)=some r∧r.length=8:=by
 obtain⟨w,h1,h2⟩:=aWJ N hN b hl hb
 have hbl:(iN b).length=64:=by rw[aNl];exact hl
 have a0:b7 8 st 0=some st[0]:=c9 (i:=0) (by omega) (by omega)
 have a1:b7 8 st 1=some st[1]:=c9 (i:=1) (by omega) (by omega)
 have a2:b7 8 st 2=some st[2]:=c9 (i:=2) (by omega) (by omega)
 have a3:b7 8 st 3=some st[3]:=c9 (i:=3) (by omega) (by omega)
 have a4:b7 8 st 4=some st[4]:=c9 (i:=4) (by omega) (by omega)
 have a5:b7 8 st 5=some st[5]:=c9 (i:=5) (by omega) (by omega)
 have a6:b7 8 st 6=some st[6]:=c9 (i:=6) (by omega) (by omega)
 have a7:b7 8 st 7=some st[7]:=c9 (i:=7) (by omega) (by omega)
 obtain⟨r,hr⟩:=cL2 N st w h2 N 0 st[0] st[1] st[2] st[3] st[4] st[5] st[6] st[7] (by omega) (by omega)
 rw[show((0:Nat):Int)=0 from rfl]at hr
 refine⟨[a1z.wrap (st[0]+r.1),a1z.wrap (st[1]+r.2.1),a1z.wrap (st[2]+r.2.2.1),a1z.wrap (st[3]+r.2.2.2.1),a1z.wrap (st[4]+r.2.2.2.2.1),a1z.wrap (st[5]+r.2.2.2.2.2.1),a1z.wrap (st[6]+r.2.2.2.2.2.2.1),a1z.wrap (st[7]+r.2.2.2.2.2.2.2)], ?_,rfl⟩
 simp only[mN,aX hbl,h1,aX h2,a0,a1,a2,a3,a4,a5,a6,a7,a1a,hr,vZ]
end
def beG (n i:Nat):Int:=a1u.wrap ((a1t.wrap (8*(n:Int))).fdiv (2^(56-8*i)))
def zer (n:Nat):Nat:=(64-(n+9)%64)%64
def yH (n:Nat):List Int:=(128::a1d (zer n) 0)++(a1L 0 8).map (beG n)
theorem aPM (n:Nat):(yH n).length=9+zer n:=by simp[yH];omega
theorem aEc (x:Int):0≤a1u.wrap x∧a1u.wrap x<256:=by rw[a11];omega
theorem aP4 (n:Nat):Byt (yH n):=by
 intro x hx
 simp only[yH,a1q,a1v,List.mem_replicate,a1J]at hx
 rcases hx with(rfl|⟨_,rfl⟩)|⟨i,_,rfl⟩
 ·omega
 ·omega
 exact aEc _
theorem aWp (a:Int)(s:Nat)(h:s≤64):shr .u64 a (s:Int)=some (a.fdiv (2^s)):=by
 unfold shr
 rw[if_neg (by omega),a1n,show min s a1t.bits=s from a2e h]
theorem aPQ (N n:Nat): ∀(k m:Nat)(acc:List Int),k≤8→k<m→acc.length+k≤1000→aBY N (n:Int) m ((8-k:Nat):Int) acc=some (acc++(a1L (8-k) k).map (beG n))
 |0,m,acc,_,hm,_=>by
  obtain⟨m,rfl⟩: ∃q,m=q+1:=⟨m-1,by omega⟩
  rw[aBY,show decide (((8-0:Nat):Int)<8)=false from rfl];simp
 |k+1,m,acc,hk,hm,ha=>by
  obtain⟨m,rfl⟩: ∃q,m=q+1:=⟨m-1,by omega⟩
  rw[aBY,show decide (((8-(k+1):Nat):Int)<8)=true from decide_eq_true (by omega),if_pos rfl]
  rw[cR (a:=8*((8-(k+1):Nat):Int)) (by omega) (by omega),cR (a:=56-8*((8-(k+1):Nat):Int)) (by omega) (by omega),show 56-8*((8-(k+1):Nat):Int)=((56-8*(8-(k+1)):Nat):Int) by omega,aWp _ _ (by omega)]
  simp only[a1a]
  rw[lY (by simp;omega)]
  simp only[a1a,i1 (show 8-(k+1)≤100000 by omega)]
  rw[show 8-(k+1)+1=8-k by omega,aPQ N n k m _ (by omega) (by omega) (by simp;omega),a1D,a2p,show 8-(k+1)+1=8-k by omega,a1i]
  rfl
theorem a0l (z:Nat):(a1d (1+z) (0:Int)).set 0 128=128::a1d z 0:=by rw[Nat.add_comm,a1M];rfl
theorem a0F (N:Nat)(hN:70000≤N)(n:Nat)(hn:n≤1000000000):aK7 N (n:Int)=some (yH n):=by
 have hz:zer n<64:=a1Z _ (by omega)
 have hlim:=aAW
 unfold aK7
 rw[aFW (a:=(n:Int)+9) (by omega) (by omega),show(n:Int)+9=((n+9:Nat):Int) by omega,show(64:Int)=((64:Nat):Int)from rfl,lP]
 have h1:(n+9)%64<64:=a1Z _ (by omega)
 rw[aFW (a:=((64:Nat):Int)-(((n+9)%64:Nat):Int)) (by omega) (by omega),show((64:Nat):Int)-(((n+9)%64:Nat):Int)=((64-(n+9)%64:Nat):Int) by omega,lP]
 rw[show((64-(n+9)%64)%64:Nat)=zer n from rfl,aFW (a:=1+((zer n:Nat):Int)) (by omega) (by omega),aFW (a:=9+((zer n:Nat):Int)) (by omega) (by omega)]
 have hm:mkl 1 (0:Int) (1+((zer n:Nat):Int)) (9+((zer n:Nat):Int))=some (a1d (1+zer n) 0):=by
  unfold mkl
  rw[if_pos ⟨by omega,by omega,by omega⟩,show(1+((zer n:Nat):Int)).toNat=1+zer n by omega]
 have h0:bB (a1d (1+zer n) (0:Int)) 0=some 0:=by
  rw[show(0:Int)=((0:Nat):Int)from rfl,aNJ,a1N,if_pos (by omega)]
 simp only[hm,a1a,h0,Int.toNat_zero,a0l]
 have:=aPQ N n 8 N (128::a1d (zer n) 0) (by omega) (by omega) (by simp;omega)
 rw[show((8-8:Nat):Int)=0 from rfl]at this
 rw[this];rfl
theorem aVr {f:Nat→Int→List Int→Option (List Int)}(l:List (List Int))(hn:l.length≤1000)(ht:l.flatten.length≤50000000)
  (hs: ∀m j acc (hj:j<l.length),acc.length+l[j].length≤50000000→f (m+1) (j:Int) acc=f m ((j+1:Nat):Int) (acc++l[j])) (he: ∀m j acc,l.length≤j→f (m+1) (j:Int) acc=some acc) (N:Nat) (hN:70000≤N):
  f N 0 []=some l.flatten:=by
 have hfl:l.flatMap id=l.flatten:=by simp
 have:=oG (f:=f) (xs:=l) (g:=id) (B:=50000000) (by omega) hs he N 0 [] (by omega) (by omega) (by rw[a1g,hfl];simpa using ht)
 rw[a1g,hfl]at this
 simpa using this
theorem a0x (N:Nat)(hN:70000≤N)(l:List (List Int))(hn:l.length≤1000)(ht:l.flatten.length≤50000000):aK8 N l=some l.flatten:=by
 have:=aVr (f:=aB1 N l) l hn ht (fun m j acc hj hB=>by
  rw[aB1,dT hj,if_pos rfl,aY l hj,a1a,lY (by omega)]
  simp only[a1a,i1 (show j≤100000 by omega)]) (fun m j acc hj=>by rw[aB1,dF (by omega)];rfl) N hN
 unfold aK8
 rw[this];rfl
def cmp (N:Nat)(st blk:List Int):List Int:=(mN N st blk).getD []
def wP (msg:List Int)(i:Nat):List Int:=(msg.drop (64*i)).take 64
theorem aLW {l:List Int}(h:Byt l)(k:Nat):Byt (l.take k):=fun x hx=>h x (a1F hx)
theorem aMu {l:List Int}(h:Byt l)(k:Nat):Byt (l.drop k):=fun x hx=>h x (a2l hx)
theorem aTm (N:Nat)(hN:70000≤N)(st blk:List Int)(hst:st.length=8)(hb:Byt blk)(hl:blk.length=64):mN N st blk=some (cmp N st blk)∧(cmp N st blk).length=8:=by
 obtain⟨b,rfl,h2⟩:=aRF hb
 obtain⟨r,h3,h4⟩:=aVD N hN b (by rw[aNl]at hl;exact hl) h2 st hst
 have:cmp N st (iN b)=r:=by simp[cmp,h3]
 rw[this];exact⟨h3,h4⟩
def rounds (N:Nat)(msg st:List Int)(j k:Nat):List Int:=(a1L j k).foldl (fun s i=>cmp N s (wP msg i)) st
section
variable (N:Nat)(hN:70000≤N)(msg:List Int)(hb:Byt msg)(hl:msg.length≤2000000)
include hN hb hl
theorem aLZ : ∀(m j:Nat)(st:List Int),msg.length/64-j<m→j≤msg.length/64→st.length=8→aFm N msg m (j:Int) st=some (rounds N msg st j (msg.length/64-j))∧(rounds N msg st j (msg.length/64-j)).length=8
 |0,j,st,hm,_,_=>by omega
 |m+1,j,st,hm,hj,hst=>by
  rw[aFm,show(64:Int)=((64:Nat):Int)from rfl,tU,cR (a:=((msg.length/64:Nat):Int)) (by omega) (by omega)]
  by_cases h:j<msg.length/64
  ·have hlen:(wP msg j).length=64:=by simp[wP];omega
   obtain⟨c1,c2⟩:=aTm N hN st (wP msg j) hst (aLW (aMu hb _) _) hlen
   rw[dT h,if_pos rfl,aX hst,cR (a:=((64:Nat):Int)*(j:Int)) (by omega) (by omega)]
   have e1:sub msg (((64:Nat):Int)*(j:Int)) (msg.length:Int)=some (msg.drop (64*j)):=by
    unfold sub
    rw[if_pos ⟨by omega,by omega,by omega⟩,show(((64:Nat):Int)*(j:Int)).toNat=64*j by omega,a1n,a1I (a1C _)]
   have e2:arp 64 (msg.drop (64*j))=some (wP msg j):=by unfold arp;rw[if_pos (by simp;omega)];rfl
   simp only[e1,e2,c1,aX c2,a1a,i1 (show j≤100000 by omega)]
   obtain⟨i1',i2'⟩:=aLZ m (j+1) _ (by omega) (by omega) c2
   have er:rounds N msg st j (msg.length/64-j)=rounds N msg (cmp N st (wP msg j)) (j+1) (msg.length/64-(j+1)):=by
    unfold rounds
    rw[show msg.length/64-j=(msg.length/64-(j+1))+1 by omega,a1D,a10]
   rw[er]
   exact⟨i1',i2'⟩
  rw[dF h,show msg.length/64-j=0 by omega]
  exact⟨rfl,hst⟩
end
def xQ (st:List Int)(i:Nat):Int:=a1u.wrap ((st.getD (i/4) 0).fdiv (2^(24-8*(i%4))))
def aJi (st:List Int):List Int:=(a1o 32).map (xQ st)
theorem aMj (st:List Int):(aJi st).length=32:=by simp[aJi]
theorem aUt (st:List Int):Byt (aJi st):=by
 intro x hx
 simp only[aJi,a1J]at hx
 obtain⟨i,_,rfl⟩:=hx
 exact aEc _
theorem aEa (g:Nat→Int)(w j:Nat)(hj:j<w):((a1o j).map g++a1d (w-j) 0).set j (g j)=(a1o (j+1)).map g++a1d (w-(j+1)) 0:=by
 rw[a2f _ _ (by simp),show w-j=(w-(j+1))+1 by omega,a1M,a2g,a1G,a1i]
 simp
theorem aPo (a:Int)(s:Nat)(h:s≤32):shr .u32 a (s:Int)=some (a.fdiv (2^s)):=by
 unfold shr
 rw[if_neg (by omega),a1n,show min s a1z.bits=s from a2e h]
theorem aYc {st:List Int}(hst:st.length=8){i:Nat}(h:i<8):b7 8 st (i:Int)=some (st.getD i 0):=by
 have:i<st.length:=by omega
 rw[c9 h this];simp[this]
section
variable (N:Nat)(hN:70000≤N)(st:List Int)(hst:st.length=8)
include hN hst
theorem aRb : ∀(m j:Nat),32-j<m→j≤32→aFj N st m (j:Int) ((a1o j).map (xQ st)++a1d (32-j) 0)=some (aJi st)
 |0,j,hm,_=>by omega
 |m+1,j,hm,hj=>by
  rw[aFj]
  by_cases h:j<32
  ·rw[show decide ((j:Int)<32)=true from decide_eq_true (by omega),if_pos rfl,show(4:Int)=((4:Nat):Int)from rfl,tU,lP,cR (a:=((j/4:Nat):Int)) (by omega) (by omega),aYc hst (by omega)]
   rw[cR (a:=((j%4:Nat):Int)*8) (by omega) (by omega),cR (a:=24-((j%4:Nat):Int)*8) (by omega) (by omega),show 24-((j%4:Nat):Int)*8=((24-8*(j%4):Nat):Int) by omega]
   simp only[a1a]
   rw[aPo _ _ (by omega),c9 h (by simp;omega)]
   simp only[a1a,a1n,i1 (show j≤100000 by omega)]
   have:=aEa (xQ st) 32 j h
   rw[show a1u.wrap ((st.getD (j/4) 0).fdiv (2^(24-8*(j%4))))=xQ st j from rfl,this]
   exact aRb m (j+1) (by omega) (by omega)
  obtain rfl:j=32:=by omega
  rw[show decide (((32:Nat):Int)<32)=false from rfl]
  simp[aJi]
end
def sha256 (N:Nat)(b:List Int):List Int:=aJi (rounds N (b++yH b.length) aAZ 0 ((b++yH b.length).length/64))
theorem eG (N:Nat)(b:List Int):(sha256 N b).length=32:=aMj _
theorem nZ (N:Nat)(b:List Int):Byt (sha256 N b):=aUt _
theorem aQo (N:Nat)(hN:70000≤N)(b:List Int)(hb:Byt b)(hl:b.length≤1000000):aFE N b=some (sha256 N b):=by
 have hz:zer b.length<64:=a1Z _ (by omega)
 have hpl:=aPM b.length
 have hmb:Byt (b++yH b.length):=hb.append (aP4 _)
 have hml:(b++yH b.length).length≤2000000:=by rw[a1c];omega
 obtain⟨s1,s2⟩:=aLZ N hN _ hmb hml N 0 aAZ (by omega) (by omega) rfl
 rw[show((0:Nat):Int)=0 from rfl,a1H]at s1
 rw[a1H]at s2
 have hw:a1t.wrap (b.length:Int)=(b.length:Int):=aFW (by omega) (by omega)
 have o:=aRb N hN (rounds N (b++yH b.length) aAZ 0 ((b++yH b.length).length/64)) s2 N 0 (by omega) (by omega)
 simp only[a12,a2h,a1f,a1H]at o
 rw[show((0:Nat):Int)=0 from rfl]at o
 simp only[aFE,hw,a0F N hN b.length (by omega),a1a]
 rw[a0x N hN [b,yH b.length] (by simp) (by simp;omega)]
 simp only[a1a,a2t,a2v,a2i,s1,aIS,o,aIK,aX (aMj _)]
 rfl
theorem aRm (s:ByteArray):Byt (bytesOf s):=by
 intro x hx
 unfold bytesOf at hx
 simp only[a1J]at hx
 obtain⟨b,_,rfl⟩:=hx
 have:=b.toNat_lt
 omega
def aUf (N:Nat)(tag:ByteArray)(b:List Int):List Int:=sha256 N (sha256 N (bytesOf tag)++(sha256 N (bytesOf tag)++b))
theorem aNq (N:Nat)(tag:ByteArray)(b:List Int):(aUf N tag b).length=32:=eG _ _
section
variable (N:Nat)(b:List Nat)(hl:b.length=64)(hb: ∀x∈b,x<256)
include hl hb
theorem a0Z (hN:70000≤N):lA N (iN b) N 0 (a1d 64 0)=some (aIL b 0 (a1d 64 0)):=by
 refine aNH b (f:=lA N (iN b)) (fun m j l hj hll hz=> ?_) (fun m l=>by rw[lA];rfl) N 0 _ (by omega) (by omega) (by simp) (fun i _ hi=>by rw[a1N,if_pos hi])
 have g0:=aBe hb (4*j)
 have g1:=aBe hb (4*j+1)
 have g2:=aBe hb (4*j+2)
 have g3:=aBe hb (4*j+3)
 rw[lA,show decide ((j:Int)<16)=true from decide_eq_true (by omega),if_pos rfl]
 rw[cR (a:=4*(j:Int)) (by omega) (by omega),cR (a:=4*(j:Int)+1) (by omega) (by omega),cR (a:=4*(j:Int)+2) (by omega) (by omega),cR (a:=4*(j:Int)+3) (by omega) (by omega)]
 rw[show 4*(j:Int)=((4*j:Nat):Int) by omega,show((4*j:Nat):Int)+1=((4*j+1:Nat):Int) by omega,show((4*j:Nat):Int)+2=((4*j+2:Nat):Int) by omega,show((4*j:Nat):Int)+3=((4*j+3:Nat):Int) by omega]
 rw[aKG hl (by omega),aKG hl (by omega),aKG hl (by omega),aKG hl (by omega),c9 (show j<64 by omega) (by omega)]
 rw[show(24:Int)=((24:Nat):Int)from rfl,show(16:Int)=((16:Nat):Int)from rfl,show(8:Int)=((8:Nat):Int)from rfl]
 simp only[a1a,a1n,i1 (show j≤100000 by omega),aG0 _ (show b.getD (4*j) 0<4294967296 by omega),aG0 _ (show b.getD (4*j+1) 0<4294967296 by omega),aG0 _ (show b.getD (4*j+2) 0<4294967296 by omega),aG0 _ (show b.getD (4*j+3) 0<4294967296 by omega),aZl]
 congr 2
 unfold wd
 generalize b.getD (4*j) 0=a0 at *
 generalize b.getD (4*j+1) 0=a1 at *
 generalize b.getD (4*j+2) 0=a2 at *
 generalize b.getD (4*j+3) 0=a3 at *
 rw[a1K (show a0*2^24<4294967296 by omega),a1K (show a1*2^16<4294967296 by omega),a1K (show a2*2^8<4294967296 by omega)]
 rw[orU _ _ (by omega) (by omega),aNh a0 _ 24 (by omega)]
 rw[show a0*2^24+a1*2^16=(a0*2^8+a1)*2^16 by omega,orU _ _ (by omega) (by omega),aNh _ (a2*2^8) 16 (by omega)]
 rw[show(a0*2^8+a1)*2^16+a2*2^8=((a0*2^8+a1)*2^8+a2)*2^8 by omega,orU _ _ (by omega) (by omega),aNh _ a3 8 (by omega)]
end
theorem aOJ (N:Nat)(x n:Int):jR N x n=dL N x n:=rfl
theorem aSe (N:Nat): ∀(m:Nat)(i:Int)(l:List Int),sB N m i l=nI N m i l
 |0,_,_=>rfl
 |m+1,i,l=>by simp only[sB,nI,aOJ,aSe N m]
theorem aQ1 (N:Nat)(st w:List Int): ∀(m:Nat)(a b c d e f g h i:Int),sE N st w aHD m a b c d e f g h i=nM N st w m a b c d e f g h i
 |0,_,_,_,_,_,_,_,_,_=>rfl
 |m+1,a,b,c,d,e,f,g,h,i=>by simp only[sE,nM,aOJ,aQ1 N st w m]
section
variable (N:Nat)(hN:70000≤N)(b:List Nat)(hl:b.length=64)(hb: ∀x∈b,x<256)
include hN hl hb
theorem aSK :zC N (iN b)=tB N (iN b):=by
 simp only[zC,tB,a0Z N b hl hb hN,sL4 N b hl hb hN,a1a,aAb,wH,aSe,zT,vV]
theorem aO8 (st:List Int):tL N st (iN b)=mN N st (iN b):=by
 obtain⟨w,h1,h2⟩:=aWJ N hN b hl hb
 have hK:vW N=some aHD:=rfl
 have hKl:bH 64 aHD=some aHD:=rfl
 simp only[tL,mN,aSK N hN b hl hb,h1,hK,hKl,a1a,aQ1,aAd,vZ]
end
theorem aOe (N n:Nat): ∀(k m:Nat)(acc:List Int),k≤8→k<m→acc.length+k≤1000→xV N (n:Int) m ((k:Int)-1) acc=some (acc++(a1L (8-k) k).map (beG n))
 |0,m,acc,_,hm,_=>by
  obtain⟨m,rfl⟩: ∃q,m=q+1:=⟨m-1,by omega⟩
  rw[xV,show decide ((0:Int)≤((0:Nat):Int)-1)=false from rfl];simp
 |k+1,m,acc,hk,hm,ha=>by
  obtain⟨m,rfl⟩: ∃q,m=q+1:=⟨m-1,by omega⟩
  rw[xV,show decide ((0:Int)≤((k+1:Nat):Int)-1)=true from decide_eq_true (by omega),if_pos rfl]
  rw[cR (a:=8*(((k+1:Nat):Int)-1)) (by omega) (by omega),show 8*(((k+1:Nat):Int)-1)=((56-8*(8-(k+1)):Nat):Int) by omega,aWp _ _ (by omega)]
  simp only[a1a]
  rw[lY (by simp;omega)]
  simp only[a1a]
  rw[cR (a:=((k+1:Nat):Int)-1-1) (by omega) (by omega),show((k+1:Nat):Int)-1-1=(k:Int)-1 by omega,aOe N n k m _ (by omega) (by omega) (by simp;omega),a1D,a2p,show 8-(k+1)+1=8-k by omega,a1i]
  rfl
theorem aOl (N n:Nat)(hn:n≤1000000000): ∀(z m:Nat)(l:List Int),z<64→z<m→l.length+z≤1000→(n+l.length+8+z)%64=0→aB0 N (n:Int) m l=some (l++a1d z 0)
 |z,0,l,_,hm,_,_=>by omega
 |z,m+1,l,hz,hm,hl,he=>by
  rw[aB0,aFW (a:=(l.length:Int)) (by omega) (by omega),aFW (a:=(n:Int)+(l.length:Int)) (by omega) (by omega),aFW (a:=(n:Int)+(l.length:Int)+8) (by omega) (by omega)]
  rw[show(n:Int)+(l.length:Int)+8=((n+l.length+8:Nat):Int) by omega,show(64:Int)=((64:Nat):Int)from rfl,lP]
  match z with
  |0=>
   rw[show(n+l.length+8)%64=0 by simpa using he]
   simp
  |z+1=>
   have hne:(n+l.length+8)%64≠0:=by omega
   rw[show((((n+l.length+8)%64:Nat):Int) != 0)=true by simp;omega,if_pos rfl,lY (by simp;omega)]
   simp only[a1a]
   rw[aOl N n hn z m _ (by omega) (by omega) (by simp;omega) (by simp;omega),a1M,a1i]
   rfl
theorem a0s (N:Nat)(hN:70000≤N)(n:Nat)(hn:n≤1000000000):aG1 N (n:Int)=some (yH n):=by
 have hz:zer n<64:=a1Z _ (by omega)
 have h2:(n+1+8+zer n)%64=0:=by unfold zer;omega
 unfold aG1
 rw[aOl N n hn (zer n) N [128] hz (by omega) (by simp;omega) (by simpa using h2)]
 simp only[a1a,aGG]
 have:=aOe N n 8 N ([128]++a1d (zer n) 0) (by omega) (by omega) (by simp;omega)
 rw[show((8:Nat):Int)-1=7 from rfl]at this
 rw[this];rfl
section
variable (N:Nat)(hN:70000≤N)(msg:List Int)(hb:Byt msg)(hl:msg.length≤2000000)
include hN hb hl
theorem aOt : ∀(m j:Nat)(st:List Int),msg.length/64-j<m→j≤msg.length/64→st.length=8→aBB N msg m ((64*j:Nat):Int) st=some (rounds N msg st j (msg.length/64-j))
 |0,j,st,hm,_,_=>by omega
 |m+1,j,st,hm,hj,hst=>by
  rw[aBB,cR (a:=((64*j:Nat):Int)+64) (by omega) (by omega)]
  by_cases h:j<msg.length/64
  ·have hlen:(wP msg j).length=64:=by simp[wP];omega
   obtain⟨c1,c2⟩:=aTm N hN st (wP msg j) hst (aLW (aMu hb _) _) hlen
   have c3:tL N st (wP msg j)=some (cmp N st (wP msg j)):=by
    obtain⟨bn,e1,e2⟩:=aRF (aLW (aMu hb (64*j)) 64)
    have e3:wP msg j=iN bn:=e1
    rw[e3]at c1 hlen⊢
    rw[aO8 N hN bn (by rw[aNl]at hlen;exact hlen) e2]
    exact c1
   rw[show decide (((64*j:Nat):Int)+64≤(msg.length:Int))=true from decide_eq_true (by omega),if_pos rfl]
   have e1:sub msg ((64*j:Nat):Int) (msg.length:Int)=some (msg.drop (64*j)):=by
    unfold sub
    rw[if_pos ⟨by omega,by omega,by omega⟩,a1n,a1n,a1I (a1C _)]
   have e2:cpy (a1d 64 (0:Int)) (msg.drop (64*j))=wP msg j:=by
    unfold cpy wP
    rw[List.length_replicate,show List.drop (msg.drop (64*j)).length (a1d 64 (0:Int))=[]from a1l (by simp;omega),a2i]
   simp only[e1,e2,a1a,aX hst,aX hlen,c3,aX c2]
   rw[show((64*j:Nat):Int)+64=((64*(j+1):Nat):Int) by omega,aOt m (j+1) _ (by omega) (by omega) c2]
   unfold rounds
   rw[show msg.length/64-j=(msg.length/64-(j+1))+1 by omega,a1D,a10]
  rw[show decide (((64*j:Nat):Int)+64≤(msg.length:Int))=false from decide_eq_false (by omega),show msg.length/64-j=0 by omega]
  rfl
end
section
variable (N:Nat)(hN:70000≤N)(st:List Int)(hst:st.length=8)
include hN hst
theorem aOM : ∀(m j:Nat),8-j<m→j≤8→aBF N st m (j:Int) ((a1o (4*j)).map (xQ st)++a1d (32-4*j) 0)=some (aJi st)
 |0,j,hm,_=>by omega
 |m+1,j,hm,hj=>by
  rw[aBF]
  by_cases h:j<8
  ·rw[show decide ((j:Int)<8)=true from decide_eq_true (by omega),if_pos rfl,aYc hst h]
   rw[cR (a:=4*(j:Int)) (by omega) (by omega),cR (a:=4*(j:Int)+1) (by omega) (by omega),cR (a:=4*(j:Int)+2) (by omega) (by omega),cR (a:=4*(j:Int)+3) (by omega) (by omega)]
   rw[show 4*(j:Int)=((4*j:Nat):Int) by omega,show((4*j:Nat):Int)+1=((4*j+1:Nat):Int) by omega,show((4*j:Nat):Int)+2=((4*j+2:Nat):Int) by omega,show((4*j:Nat):Int)+3=((4*j+3:Nat):Int) by omega]
   rw[show(24:Int)=((24:Nat):Int)from rfl,show(16:Int)=((16:Nat):Int)from rfl]
   simp only[a1a,a1n,i1 (show j≤100000 by omega)]
   rw[show(8:Int)=((8:Nat):Int)from rfl,aPo _ 24 (by omega),aPo _ 16 (by omega),aPo _ 8 (by omega)]
   simp only[a1a]
   have o0:a1u.wrap ((st.getD j 0).fdiv (2^24))=xQ st (4*j):=by unfold xQ;rw[show 4*j/4=j by omega,show 4*j%4=0 by omega]
   have o1:a1u.wrap ((st.getD j 0).fdiv (2^16))=xQ st (4*j+1):=by unfold xQ;rw[show(4*j+1)/4=j by omega,show(4*j+1)%4=1 by omega]
   have o2:a1u.wrap ((st.getD j 0).fdiv (2^8))=xQ st (4*j+2):=by unfold xQ;rw[show(4*j+2)/4=j by omega,show(4*j+2)%4=2 by omega]
   have o3:a1u.wrap (st.getD j 0)=xQ st (4*j+3):=by
    unfold xQ;rw[show(4*j+3)/4=j by omega,show(4*j+3)%4=3 by omega]
    congr 1
    generalize st.getD j 0=x
    simp
   rw[o0,o1,o2,o3,aEa (xQ st) 32 (4*j) (by omega),aEa (xQ st) 32 (4*j+1) (by omega),aEa (xQ st) 32 (4*j+2) (by omega),aEa (xQ st) 32 (4*j+3) (by omega)]
   rw[c9 (show 4*j<32 by omega) (by simp;omega),c9 (show 4*j+1<32 by omega) (by simp;omega),c9 (show 4*j+2<32 by omega) (by simp;omega),c9 (show 4*j+3<32 by omega) (by simp;omega)]
   simp only[a1a]
   exact aOM m (j+1) (by omega) (by omega)
  obtain rfl:j=8:=by omega
  rw[show decide (((8:Nat):Int)<8)=false from rfl]
  simp[aJi]
end
theorem zD (N:Nat)(hN:70000≤N)(b:List Int)(hb:Byt b)(hl:b.length≤1000000):mS N b=some (sha256 N b):=by
 have hz:zer b.length<64:=a1Z _ (by omega)
 have hpl:=aPM b.length
 have hmb:Byt (b++yH b.length):=hb.append (aP4 _)
 have hml:(b++yH b.length).length≤2000000:=by rw[a1c];omega
 obtain⟨s1,s2⟩:=aLZ N hN _ hmb hml N 0 aAZ (by omega) (by omega) rfl
 have s3:=aOt N hN _ hmb hml N 0 aAZ (by omega) (by omega) rfl
 rw[a1H]at s2
 rw[show((64*0:Nat):Int)=0 from rfl,a1H]at s3
 have hw:a1t.wrap (b.length:Int)=(b.length:Int):=aFW (by omega) (by omega)
 have o:=aOM N hN (rounds N (b++yH b.length) aAZ 0 ((b++yH b.length).length/64)) s2 N 0 (by omega) (by omega)
 simp only[Nat.mul_zero,a12,a2h,a1f,a1H]at o
 rw[show((0:Nat):Int)=0 from rfl]at o
 have hI:aAx N=some aAZ:=rfl
 have hIa:bH 8 aAZ=some aAZ:=rfl
 simp only[mS]
 rw[lY (by simp;omega)]
 simp only[a1a,a1f,hw,a0s N hN b.length (by omega)]
 rw[lY (by omega)]
 simp only[a1a,hI,hIa,s3,aFV,aX s2,o,aF9,aX (aMj _)]
 rfl
theorem aS8 (N:Nat)(hN:70000≤N)(tag:ByteArray)(ht:tag.size≤1000)(b:List Int)(hb:Byt b)(hl:b.length≤900000):aB6 N tag b=some (aUf N tag b):=by
 have hlim:=aAW
 have hs:stb tag=some (bytesOf tag):=by unfold stb;rw[if_pos (by omega)]
 have s2:=zD N hN (bytesOf tag) (aRm tag) (by rw[aDJ];omega)
 have l1:=eG N (bytesOf tag)
 have t2:=zD N hN (sha256 N (bytesOf tag)++(sha256 N (bytesOf tag)++b)) ((nZ _ _).append ((nZ _ _).append hb)) (by simp only[a1c,l1];omega)
 simp only[aB6,hs,s2,a1a,aX l1]
 rw[lY (by simp[l1])]
 simp only[a1a,a1f]
 rw[lY (by simp[l1])]
 simp only[a1a]
 rw[lY (by simp[l1];omega)]
 simp only[a1a,a1i,t2,aX (eG N _)]
 rfl
end Go.Proofs.YtopdhljncajmpaaGreatDoor
set_option maxRecDepth 4000
namespace Go.Proofs.YtopdhljncajmpaaGreatDoor
open Go Go.Vm
def shV (v:Int)(i:Nat):Int:=a1u.wrap (v.fdiv (2^(min (8*i) 64)))
def zV (w:Nat)(v:Int):List Int:=(a1o w).map (shV v)
theorem kM (w:Nat)(v:Int):(zV w v).length=w:=by simp[zV]
theorem aYD (v:Int)(i:Nat)(hi:i≤100): ∃y,shr .u64 v (a1k.wrap (8*(i:Int)))=some y∧a1u.wrap y=shV v i:=by
 refine⟨_, ?_,rfl⟩
 rw[cR (by omega) (by omega)]
 unfold shr
 rw[if_neg (by omega)]
 congr 3
theorem aUr (w:Nat)(v:Int)(j:Nat)(hj:j<w):(((a1o j).map (shV v))++a1d (w-j) 0).set j (shV v j)=((a1o (j+1)).map (shV v))++a1d (w-(j+1)) 0:=by
 rw[a2f _ _ (by simp),show w-j=(w-(j+1))+1 by omega,a1M,a2g,a1G,a1i]
 simp
theorem aMe {f:Nat→Int→List Int→Option (List Int)}(w:Nat)(v:Int)(hw:w≤100)
  (hs: ∀m j acc,j<w→acc.length=w→f (m+1) (j:Int) acc=f m ((j+1:Nat):Int) (acc.set j (shV v j))) (he: ∀m acc,acc.length=w→f (m+1) (w:Int) acc=some acc):
  ∀(m j:Nat),w-j<m→j≤w→f m (j:Int) (((a1o j).map (shV v))++a1d (w-j) 0)=some (zV w v)
 |0,j,hm,_=>by omega
 |m+1,j,hm,hj=>by
  by_cases h:j<w
  ·rw[hs m j _ h (by simp;omega),aUr w v j h]
   exact aMe w v hw hs he m (j+1) (by omega) (by omega)
  have:j=w:=by omega
  subst this
  rw[he m _ (by simp),Nat.sub_self]
  simp[zV]
theorem aKv (N:Nat)(hN:70000≤N)(v:Int)(w:Nat)(hw:w≤100):sS N v (w:Int)=some (zV w v):=by
 have hmk:mks 1 (0:Int) (w:Int)=some (a1d w 0):=aMR (by have:=aAW;omega)
 have:=aMe (f:=qZ N v (w:Int)) w v hw (fun m j acc hj hl=>by
   obtain⟨y,h1,h2⟩:=aYD v j (by omega)
   rw[qZ,dT hj,if_pos rfl,h1,aY acc (by omega:j<acc.length)]
   simp only[a1a,a1n,h2,i1 (show j≤100000 by omega)])
  (fun m acc hl=>by rw[qZ,dF (Nat.lt_irrefl w)];rfl) N 0 (by omega) (by omega)
 simp only[sS,hmk,a1a,aBx]
 simp only[a12,a2h,a1f,a1H]at this
 rw[show((0:Nat):Int)=0 from rfl]at this
 rw[this];rfl
theorem rI (N:Nat)(b v:List Int)(h:b.length+v.length≤50000000):gF N b v=some (b++v):=by
 have hmk:mks 1 (0:Int) (a1k.wrap ((b.length:Int)+(v.length:Int)))=some (a1d (b.length+v.length) 0):=by
  rw[cR (by omega) (by omega),show(b.length:Int)+(v.length:Int)=((b.length+v.length:Nat):Int) by omega]
  exact aMR (by have:=aAW;omega)
 simp only[gF,hmk,a1a,List.take_zero]
 rw[lY (by simp;omega)]
 simp only[a1a,a1f]
 rw[lY (by omega)];rfl
def pQ (v:Int):List Int:=zV 4 (a1t.wrap v)
def aSE (v:Int):List Int:=zV 8 v
theorem b6 (v:Int):(pQ v).length=4:=kM _ _
theorem aIy (v:Int):(aSE v).length=8:=kM _ _
section
variable (N:Nat)(hN:70000≤N)
include hN
theorem aJq (b:List Int)(v:Int)(h:b.length≤40000000):eP N b v=some (b++pQ v):=by
 simp only[eP,show(4:Int)=((4:Nat):Int)from rfl,aKv N hN _ 4 (by omega),a1a]
 rw[rI N _ _ (by rw[kM];omega)];rfl
end
theorem wu (k:IntKind)(n:Nat)(hk:k.signed=false)(h:(n:Int)<2^k.bits):k.wrap (n:Int)=n:=by
 rw[aQj hk];exact Int.emod_eq_of_lt (by omega) h
def szB (n:Nat):List Int:=if n<253 then zV 1 n else if n<65536 then 253::zV 2 n else 254::zV 4 n
theorem kD (n:Nat):1≤(szB n).length∧(szB n).length≤5:=by
 unfold szB
 split
 ·simp[kM]
 split<;>simp[kM]
theorem aD5 (N:Nat)(hN:70000≤N)(v:Int)(w:Nat)(hw:w≤100):kU N v (w:Int)=some (zV w v):=by
 have hmk:mks 1 (0:Int) (w:Int)=some (a1d w 0):=aMR (by have:=aAW;omega)
 have hl0:(a1d w (0:Int)).length=w:=by simp
 have:=aMe (f:=rE N v (a1d w 0)) w v hw (fun m j acc hj hl=>by
   obtain⟨y,h1,h2⟩:=aYD v j (by omega)
   rw[rE,hl0,dT hj,if_pos rfl,h1,aY acc (by omega:j<acc.length)]
   simp only[a1a,a1n,h2,i1 (show j≤100000 by omega)])
  (fun m acc hl=>by rw[rE,hl0,dF (Nat.lt_irrefl w)];rfl) N 0 (by omega) (by omega)
 simp only[kU,hmk,a1a,aB2]
 simp only[a12,a2h,a1f,a1H]at this
 rw[show((0:Nat):Int)=0 from rfl]at this
 rw[this];rfl
theorem mX (N:Nat)(b v:List Int)(h:b.length+v.length≤50000000):eT N b v=some (b++v):=by
 have hmk:mks 1 (0:Int) (a1k.wrap ((b.length:Int)+(v.length:Int)))=some (a1d (b.length+v.length) 0):=by
  rw[cR (by omega) (by omega),show(b.length:Int)+(v.length:Int)=((b.length+v.length:Nat):Int) by omega]
  exact aMR (by have:=aAW;omega)
 simp only[eT,hmk,a1a,List.take_zero]
 rw[lY (by simp;omega)]
 simp only[a1a,a1f]
 rw[lY (by omega)];rfl
section
variable (N:Nat)(hN:70000≤N)
include hN
theorem aCi (b:List Int)(v:Int)(h:b.length≤40000000):dY N b v=some (b++pQ v):=by
 simp only[dY,show(4:Int)=((4:Nat):Int)from rfl,aD5 N hN _ 4 (by omega),a1a]
 rw[mX N _ _ (by rw[kM];omega)];rfl
theorem a0V (b:List Int)(v:Int)(h:b.length≤40000000):wD N b v=some (b++aSE v):=by
 simp only[wD,show(8:Int)=((8:Nat):Int)from rfl,aD5 N hN _ 8 (by omega),a1a]
 rw[mX N _ _ (by rw[kM];omega)];rfl
theorem aG5 (b:List Int)(n:Nat)(hn:n≤1000000)(h:b.length≤30000000):iC N b (a1t.wrap (n:Int))=some (b++szB n):=by
 rw[wu .u64 n rfl (by simp[a1T];omega)]
 unfold iC szB
 by_cases h1:n<253
 ·have e1:decide ((n:Int)<253)=true:=decide_eq_true (by omega)
  rw[e1,if_pos rfl,if_pos h1]
  simp only[show(1:Int)=((1:Nat):Int)from rfl,aD5 N hN _ 1 (by omega),a1a]
  rw[mX N _ _ (by rw[kM];omega)];rfl
 have e1:decide ((n:Int)<253)=false:=decide_eq_false (by omega)
 rw[e1,if_neg h1]
 by_cases h2:n<65536
 ·have e2:decide ((n:Int)<65536)=true:=decide_eq_true (by omega)
  simp only[e2,a1e,if_false,if_true,if_pos h2,show(2:Int)=((2:Nat):Int)from rfl,aD5 N hN _ 2 (by omega),a1a]
  rw[mX N _ _ (by simp[kM])]
  simp only[a1a]
  rw[mX N _ _ (by simp[kM];omega)];rfl
 have e2:decide ((n:Int)<65536)=false:=decide_eq_false (by omega)
 have e3:decide ((n:Int)<4294967296)=true:=decide_eq_true (by omega)
 simp only[e2,e3,a1e,if_false,if_true,if_neg h2,show(4:Int)=((4:Nat):Int)from rfl,aD5 N hN _ 4 (by omega),a1a]
 rw[mX N _ _ (by simp[kM])]
 simp only[a1a]
 rw[mX N _ _ (by simp[kM];omega)];rfl
theorem aTp (b s:List Int)(hs:s.length≤1000000)(h:b.length≤30000000):nT N b s=some (b++(szB s.length++s)):=by
 have:=kD s.length
 simp only[nT,aG5 N hN b _ hs (by omega),a1a]
 rw[mX N _ _ (by rw[a1c];omega),a1a,a1i]
theorem aTt (o:aB)(ht:o.Tx.length=32):aAs N o=some (o.Tx++pQ o.Index):=by
 simp only[aAs,fG,bH,if_pos ht,a1a]
 rw[mX N _ _ (by simp;omega)]
 simp only[a1a,a1f]
 rw[aCi N hN _ _ (by omega)];rfl
def aAU (o:aW):List Int:=aSE (a1t.wrap o.Value)++(szB o.Script.length++o.Script)
theorem aUX (o:aW)(h:o.Script.length≤600):aBh N o=some (aAU o):=by
 simp only[aBh,a0V N hN _ _ (show([]:List Int).length≤40000000 by simp),a1a,a1f]
 rw[aTp N hN _ _ (by omega) (by rw[aIy];omega)];rfl
def hdB (h:bV):List Int:=((((pQ h.Version++h.Prev)++h.Root)++pQ h.Time)++pQ h.Bits)++pQ h.Nonce
theorem aWg (b h:List Int)(ht:h.length=32)(hb:b.length≤40000000):jZ N b h=some (b++h):=by
 simp only[jZ,bH,if_pos ht,a1a]
 rw[rI N _ _ (by omega)];rfl
theorem aMH (b h:List Int)(ht:h.length=32)(hb:b.length≤40000000):fG N b h=some (b++h):=by
 simp only[fG,bH,if_pos ht,a1a]
 rw[mX N _ _ (by omega)];rfl
theorem aRG (h:bV)(h1:h.Prev.length=32)(h2:h.Root.length=32):mM N h=some (hdB h):=by
 simp only[mM,aJq N hN [] _ (by simp),a1a,a1f,aX h1,aX h2]
 rw[aWg N hN _ _ h1 (by rw[b6];omega)]
 simp only[a1a]
 rw[aWg N hN _ _ h2 (by rw[a1c,b6];omega)]
 simp only[a1a]
 rw[aJq N hN _ _ (by simp only[a1c,b6];omega)]
 simp only[a1a]
 rw[aJq N hN _ _ (by simp only[a1c,b6];omega)]
 simp only[a1a]
 rw[aJq N hN _ _ (by simp only[a1c,b6];omega)]
 rfl
theorem aNZ (h:bV)(h1:h.Prev.length=32)(h2:h.Root.length=32):mP N h=some (hdB h):=by
 simp only[mP,aCi N hN [] _ (by simp),a1a,a1f,aX h1,aX h2]
 rw[aMH N hN _ _ h1 (by rw[b6];omega)]
 simp only[a1a]
 rw[aMH N hN _ _ h2 (by rw[a1c,b6];omega)]
 simp only[a1a]
 obtain⟨m,hm⟩: ∃m,N=m+1+1+1+1:=⟨N-4,by omega⟩
 have j0:decide ((0:Int)<3)=true:=rfl
 have j1:decide ((1:Int)<3)=true:=rfl
 have j2:decide ((2:Int)<3)=true:=rfl
 have j3:decide ((3:Int)<3)=false:=rfl
 have i01:a1k.wrap (0+1)=1:=by decide +kernel
 have i12:a1k.wrap (1+1)=2:=by decide +kernel
 have i23:a1k.wrap (2+1)=3:=by decide +kernel
 have L: ∀(m:Nat)(b:List Int),b.length≤1000→nL N h (m+1+1+1+1) 0 b=some (((b++pQ h.Time)++pQ h.Bits)++pQ h.Nonce):=fun m b hb=>by
  simp only[nL,j0,j1,j2,j3,i01,i12,i23,if_true,a1e,if_false]
  rw[show bB [h.Time,h.Bits,h.Nonce] 0=some h.Time from rfl,show bB [h.Time,h.Bits,h.Nonce] 1=some h.Bits from rfl,show bB [h.Time,h.Bits,h.Nonce] 2=some h.Nonce from rfl]
  simp only[a1a]
  rw[aCi N hN _ _ (by omega)]
  simp only[a1a]
  rw[aCi N hN _ _ (by simp only[a1c,b6];omega)]
  simp only[a1a]
  rw[aCi N hN _ _ (by simp only[a1c,b6];omega)]
  rfl
 have:=L m (pQ h.Version++h.Prev++h.Root) (by simp only[a1c,b6];omega)
 rw[←hm]at this
 rw[this]
 rfl
omit hN in
theorem lL (v:Int):Byt (pQ v):=by
 intro x hx
 simp only[pQ,zV,a1J]at hx
 obtain⟨i,_,rfl⟩:=hx
 exact aEc _
omit hN in
theorem aR8 {h:bV}(b1:Byt h.Prev)(b2:Byt h.Root):Byt (hdB h):=
 (((((lL _).append b1).append b2).append (lL _)).append (lL _)).append (lL _)
omit hN in
theorem aBg {h:bV}(h1:h.Prev.length=32)(h2:h.Root.length=32):(hdB h).length=80:=by simp only[hdB,a1c,b6,h1,h2]
def dbl (N:Nat)(b:List Int):List Int:=sha256 N (sha256 N b)
omit hN in
theorem aBf (N:Nat)(b:List Int):(dbl N b).length=32:=eG _ _
omit hN in
theorem aXc (N:Nat)(b:List Int):Byt (dbl N b):=nZ _ _
theorem aRX (b:List Int)(hb:Byt b)(hl:b.length≤1000000):aCo N b=some (dbl N b):=by
 have h1:=eG N b
 unfold aCo
 rw[aQo N hN b hb hl]
 simp only[a1a,aX h1]
 rw[aQo N hN _ (nZ N b) (by omega)]
 simp only[a1a,aX (eG N _)]
 rfl
theorem aK2 (b:List Int)(hb:Byt b)(hl:b.length≤1000000):pW N b=some (dbl N b):=by
 have h1:=eG N b
 unfold pW
 rw[zD N hN b hb hl]
 simp only[a1a,aX h1]
 rw[zD N hN _ (nZ N b) (by omega)]
 simp only[a1a,aX (eG N _)]
 rfl
theorem aY9 (h:bV)(h1:h.Prev.length=32)(h2:h.Root.length=32)(b1:Byt h.Prev)(b2:Byt h.Root):y8 N h=some (dbl N (hdB h)):=by
 unfold y8
 rw[aRG N hN h h1 h2]
 simp only[a1a]
 rw[aRX N hN _ (aR8 b1 b2) (by rw[aBg h1 h2];omega)]
 simp only[a1a,aX (aBf N _)]
theorem aTe (h:bV)(h1:h.Prev.length=32)(h2:h.Root.length=32)(b1:Byt h.Prev)(b2:Byt h.Root):mH N h=some (dbl N (hdB h)):=by
 unfold mH
 rw[aNZ N hN h h1 h2]
 simp only[a1a]
 rw[aK2 N hN _ (aR8 b1 b2) (by rw[aBg h1 h2];omega)]
 simp only[a1a,aX (aBf N _)]
end
theorem aON : ∀l:List Int,iQ l l=0
 | []=>rfl
 |a::l=>by unfold iQ;rw[if_neg (by omega),if_neg (by omega)];exact aON l
theorem aOT : ∀{l m:List Int},l.length=m.length→iQ l m=0→l=m
 | [],[],_,_=>rfl
 |a::l,b::m,h,hc=>by
  unfold iQ at hc
  split at hc
  ·omega
  split at hc
  ·omega
  rw[aOT (by simpa using h) hc,show a=b by omega]
 | [],_::_,h,_=>by simp at h
 |_::_,[],h,_=>by simp at h
theorem aMK : ∀{l m n:List Int},l.length=m.length→m.length=n.length→iQ l m<0→iQ m n<0→iQ l n<0
 |a::l,b::m,c::n,h1,h2,k1,k2=>by
  unfold iQ at k1 k2⊢
  by_cases ab:a<b
  ·by_cases bc:b<c
   ·rw[if_pos (by omega)];omega
   rw[if_neg bc]at k2
   by_cases cb:c<b
   ·rw[if_pos cb]at k2;omega
   rw[if_pos (by omega)];omega
  rw[if_neg ab]at k1
  by_cases ba:b<a
  ·rw[if_pos ba]at k1;omega
  rw[if_neg ba]at k1
  obtain rfl:a=b:=by omega
  by_cases bc:a<c
  ·rw[if_pos bc];omega
  rw[if_neg bc]at k2⊢
  by_cases cb:c<a
  ·rw[if_pos cb]at k2;omega
  rw[if_neg cb]at k2⊢
  exact aMK (by simpa using h1) (by simpa using h2) k1 k2
 | [],[],_,_,_,k1,_=>by unfold iQ at k1;omega
 | [],_::_,_,h1,_,_,_=>by simp at h1
 |_::_,[],_,h1,_,_,_=>by simp at h1
 |_::_,_::_,[],_,h2,_,_=>by simp at h2
theorem aP0 : ∀{l m:List Int}(x y:List Int),l.length=m.length→iQ (l++x) (m++y)=if iQ l m=0 then iQ x y else iQ l m
 | [],[],x,y,_=>by simp[iQ]
 |a::l,b::m,x,y,h=>by
  show(if a<b then -1 else if b<a then 1 else iQ (l++x) (m++y))=if(if a<b then -1 else if b<a then 1 else iQ l m)=0 then iQ x y else(if a<b then -1 else if b<a then 1 else iQ l m)
  by_cases ab:a<b
  ·rw[if_pos ab,if_pos ab,if_neg (by omega)]
  rw[if_neg ab,if_neg ab]
  by_cases ba:b<a
  ·rw[if_pos ba,if_pos ba,if_neg (by omega)]
  rw[if_neg ba,if_neg ba]
  exact aP0 x y (by simpa using h)
 | [],_::_,_,_,h=>by simp at h
 |_::_,[],_,_,h=>by simp at h
theorem aUN (x y:Int):iQ [x] [y]=if x<y then -1 else if y<x then 1 else 0:=by
 unfold iQ
 rfl
theorem aR1 {a b:aB}(ha:a.Tx.length=32)(hb:b.Tx.length=32):cQ a b=if iQ a.Tx b.Tx=0 then(if a.Index<b.Index then -1 else if b.Index<a.Index then 1 else 0)else iQ a.Tx b.Tx:=by
 unfold cQ aNS
 rw[aP0 _ _ (by rw[ha,hb]),aUN]
theorem aCP {a:aB}(ha:a.Tx.length=32):(aNS a).length=33:=by simp[aNS,ha]
theorem uD {a b c:aB}(ha:a.Tx.length=32)(hb:b.Tx.length=32)(hc:c.Tx.length=32)(h1:cQ a b<0)(h2:cQ b c<0):cQ a c<0:=
 aMK (by rw[aCP ha,aCP hb]) (by rw[aCP hb,aCP hc]) h1 h2
theorem mQ {a b:aB}(ha:a.Tx.length=32)(hb:b.Tx.length=32)(h:cQ a b=0):a=b:=by
 have:=aOT (by rw[aCP ha,aCP hb]) h
 unfold aNS at this
 obtain⟨h1,h2⟩:=List.append_inj this (by rw[ha,hb])
 obtain⟨t,i⟩:=a
 obtain⟨t',i'⟩:=b
 simp only[List.cons.injEq,and_true]at h2
 simp only at h1
 subst h1 h2
 rfl
theorem qU (a:aB):cQ a a=0:=aON _
theorem aOv {N:Nat}{a b:aB}(ha:a.Tx.length=32)(hb:b.Tx.length=32): ∀(m j:Nat),32-j<m→j≤32→t8 N a b m (j:Int)=some (if iQ (a.Tx.drop j) (b.Tx.drop j)=0 then .brk ()else .ret (iQ (a.Tx.drop j) (b.Tx.drop j)))
 |m+1,j,hm,hj=>by
  unfold t8
  by_cases hl:j<32
  ·rw[if_pos (decide_eq_true (by omega)),c9 hl (by omega),c9 hl (by omega),a1j (show j<a.Tx.length by omega),a1j (show j<b.Tx.length by omega)]
   simp only[a1a]
   unfold iQ
   by_cases h1:a.Tx[j]<b.Tx[j]
   ·rw[if_pos (decide_eq_true h1),if_pos h1];rfl
   rw[if_neg (by simpa using h1),if_neg h1]
   by_cases h2:b.Tx[j]<a.Tx[j]
   ·rw[if_pos (decide_eq_true h2),if_pos h2];rfl
   rw[if_neg (by simpa using h2),if_neg h2,i1 (by omega)]
   exact aOv ha hb m (j+1) (by omega) (by omega)
  rw[if_neg (by simp;omega),a1l (by omega),a1l (by omega)]
  rfl
theorem aPC {N:Nat}(hN:70000≤N){a b:aB}(ha:a.Tx.length=32)(hb:b.Tx.length=32):u5 N a b=some (cQ a b):=by
 unfold u5
 have:=aOv (N:=N) ha hb N 0 (by omega) (by omega)
 rw[show((0:Nat):Int)=0 from rfl,a1g,a1g]at this
 rw[this,aR1 ha hb]
 by_cases h:iQ a.Tx b.Tx=0
 ·rw[if_pos h,if_pos h]
  simp only[a1a,aA1]
  by_cases h1:a.Index<b.Index
  ·rw[if_pos (decide_eq_true h1),if_pos h1]
  rw[if_neg (by simpa using h1),if_neg h1]
  by_cases h2:b.Index<a.Index
  ·rw[if_pos (decide_eq_true h2),if_pos h2]
  rw[if_neg (by simpa using h2),if_neg h2]
 rw[if_neg h,if_neg h]
 rfl
theorem aV9 {x y:Int}(hx:0≤x∧x<256)(hy:0≤y∧y<256):(x.toNat.toUInt8<y.toNat.toUInt8)=(x<y):=by
 apply propext
 rw[UInt8.lt_iff_toNat_lt]
 simp only[Nat.toUInt8,UInt8.toNat_ofNat']
 omega
theorem aZD {x y:Int}(hx:0≤x∧x<256)(hy:0≤y∧y<256):(x.toNat.toUInt8=y.toNat.toUInt8)=(x=y):=by
 apply propext
 rw[←UInt8.toNat_inj]
 simp only[Nat.toUInt8,UInt8.toNat_ofNat']
 omega
theorem aT4 {A B:ByteArray}: ∀(l m:List Int)(k:Nat),l.length=m.length→Byt l→Byt m→(∀i x,l[i]? =some x→A[k+i]! =x.toNat.toUInt8)→(∀i x,m[i]? =some x→B[k+i]! =x.toNat.toUInt8)→
  (match(a1L k l.length).find? (fun i=>A[i]! != B[i]!)with|some i=>if A[i]! < B[i]! then -1 else 1|none=>(0:Int))=iQ l m
 | [],[],k,_,_,_,_,_=>rfl
 |a::l,b::m,k,h,hl,hm,hA,hB=>by
  have ea:A[k]! =a.toNat.toUInt8:=hA 0 a rfl
  have eb:B[k]! =b.toNat.toUInt8:=hB 0 b rfl
  have ba:=hl a (by simp)
  have bb:=hm b (by simp)
  rw[a1r,a1D,List.find?_cons,ea,eb]
  unfold iQ
  by_cases hab:a=b
  ·subst hab
   rw[show(a.toNat.toUInt8 != a.toNat.toUInt8)=false by simp,if_neg (by omega),if_neg (by omega)]
   simp only
   exact aT4 l m (k+1) (by simpa using h) (fun x hx=>hl x (by simp[hx])) (fun x hx=>hm x (by simp[hx])) (fun i x hx=>by rw[show k+1+i=k+(i+1) by omega];exact hA (i+1) x (by simpa using hx)) (fun i x hx=>by rw[show k+1+i=k+(i+1) by omega];exact hB (i+1) x (by simpa using hx))
  have hne:(a.toNat.toUInt8 != b.toNat.toUInt8)=true:=by
   rw[bne_iff_ne]
   exact fun e=>hab ((aZD ba bb).mp e)
  rw[hne]
  simp only
  rw[ea,eb]
  by_cases h1:a<b
  ·rw[if_pos ((aV9 ba bb).mpr h1),if_pos h1]
  rw[if_neg (fun e=>h1 ((aV9 ba bb).mp e)),if_neg h1,if_pos (by omega)]
 | [],_::_,_,h,_,_,_,_=>by simp at h
 |_::_,[],_,h,_,_,_,_=>by simp at h
theorem aTv {l:List Int}{i:Nat}{x:Int}(h:l[i]? =some x):(u8s l)[0+i]! =x.toNat.toUInt8:=by
 obtain⟨hi,hx⟩:=List.getElem?_eq_some_iff.1 h
 rw[Nat.zero_add]
 have hs:i<(u8s l).size:=by show i<(l.map fun x=>x.toNat.toUInt8).toArray.size;simpa using hi
 rw[getElem!_pos (u8s l) i hs]
 show(l.map fun x=>x.toNat.toUInt8).toArray[i]=_
 simp[hx]
theorem aVa {a b:List Int}(h:a.length=b.length)(ha:Byt a)(hb:Byt b):aQl a b=iQ a b:=by
 have sa:(u8s a).size=a.length:=by show(a.map fun x=>x.toNat.toUInt8).toArray.size=_;simp
 have sb:(u8s b).size=b.length:=by show(b.map fun x=>x.toNat.toUInt8).toArray.size=_;simp
 have:=aT4 (A:=u8s a) (B:=u8s b) a b 0 h ha hb (fun i x hx=>aTv hx) (fun i x hx=>aTv hx)
 rw[←this]
 unfold aQl Extern.BytealgCompare.cmp
 rw[sa,sb,←h,Nat.min_self,a2m,if_neg (by omega),if_neg (by omega)]
 generalize List.find? _ _=q
 cases q<;>rfl
theorem aIv {N:Nat}(hN:70000≤N){a b:aB}(ha:a.Tx.length=32)(hb:b.Tx.length=32)(ba:Byt a.Tx)(bb:Byt b.Tx):zL N a b=some (cQ a b):=by
 have hself: ∀x:Int,(x != x)=false:=fun x=>by simp
 obtain⟨m,hm⟩: ∃m,N=m+1+1+1:=⟨N-3,by omega⟩
 unfold zL aEO aBp yF uM
 rw[aX ha,aX hb,aVa (by rw[ha,hb]) ba bb,aR1 ha hb]
 simp only[a1a,hself,a1e,if_false]
 have key: ∀x y:Int,aFl N [x,y]=some (if x=0 then y else x):=fun x y=>by
  unfold aFl
  rw[show u9 N [x,y] N 0=u9 N [x,y] (m+1+1+1) 0 by rw[←hm]]
  simp only[u9,a1r,a1O,show decide ((0:Int)<((0+1+1:Nat):Int))=true from rfl,show decide ((1:Int)<((0+1+1:Nat):Int))=true from rfl,show decide ((2:Int)<((0+1+1:Nat):Int))=false from rfl,show a1k.wrap (0+1)=1 by decide +kernel,show a1k.wrap (1+1)=2 by decide +kernel,show bB [x,y] 0=some x from rfl,show bB [x,y] 1=some y from rfl,if_true,a1a,a1e,if_false,aEz]
  by_cases h0:x=0
  ·subst h0
   rw[if_pos rfl,if_neg (by simp)]
   by_cases h1:y=0
   ·subst h1;rfl
   rw[if_pos (by simpa using h1)];rfl
  rw[if_neg h0,if_pos (by simpa using h0)];rfl
 by_cases h1:a.Index<b.Index
 ·rw[if_pos (decide_eq_true h1),if_pos h1]
  simp only[a1a,key]
 rw[if_neg (by simpa using h1),if_neg h1]
 by_cases h2:b.Index<a.Index
 ·rw[if_pos (decide_eq_true h2),if_pos h2]
  simp only[a1a,key]
 rw[if_neg (by simpa using h2),if_neg h2]
 simp only[a1a,key]
def fE (o:aB):Prop:=o.Tx.length=32∧Byt o.Tx
def aHd (h:Int)(c:aA):Bool:=decide (c.Output.Script.length≤520)&&(decide (1≤c.Height)&&decide (c.Height≤h))
def jY (h:Int):Option aB→List aA→Bool
 |_,[]=>true
 |none,c::cs=>aHd h c&&jY h (some c.Out) cs
 |some q,c::cs=>decide (cQ q c.Out<0)&&(aHd h c&&jY h (some c.Out) cs)
def vQ :Int→List aA→Bool
 |_,[]=>true
 |s,c::cs=>decide (0≤c.Output.Value)&&(decide (c.Output.Value≤2100000000000000-s)&&vQ (s+c.Output.Value) cs)
def aQ5 :List aA→Int
 | []=>0
 |c::cs=>c.Output.Value+aQ5 cs
def sF (l:List aA)(j:Nat):Option aB:=match j with
 |0=>none
 |k+1=>(l[k]?).map (·.Out)
theorem aJg {l:List aA}{j:Nat}(h:j<l.length):sF l (j+1)=some (l[j]).Out:=by
 simp[sF,h]
theorem aOk {h:Int}{l:List aA}{j:Nat}(hj:j<l.length):jY h (sF l j) (l.drop j)=((match sF l j with|none=>true|some q=>decide (cQ q (l[j]).Out<0))&&(aHd h l[j]&&jY h (sF l (j+1)) (l.drop (j+1)))):=by
 rw[a1j hj,aJg hj]
 cases sF l j<;>simp[jY]
theorem aT1 {s:Int}{l:List aA}{j:Nat}(hj:j<l.length):vQ s (l.drop j)=(decide (0≤l[j].Output.Value)&&(decide (l[j].Output.Value≤2100000000000000-s)&&vQ (s+l[j].Output.Value) (l.drop (j+1)))):=by
 rw[a1j hj];rfl
section
variable {N:Nat}(hN:70000≤N){l:aC}(hn:l.Coins.length≤1000)(hok: ∀c∈l.Coins,fE c.Out)
include hN hn hok
theorem aOx : ∀(m j:Nat),l.Coins.length-j<m→j≤l.Coins.length→fV N l m (j:Int)=some (if jY l.Height (sF l.Coins j) (l.Coins.drop j)=true then .brk ()else .ret false)
 |m+1,j,hm,hj=>by
  unfold fV
  by_cases hl:j<l.Coins.length
  ·have tail: ∀b:Bool,nN N l (j:Int) (fV N l m) b=some (if(!b&&jY l.Height (sF l.Coins (j+1)) (l.Coins.drop (j+1)))=true then .brk ()else .ret false):=fun b=>by
    unfold nN
    cases b
    ·rw[if_neg (by simp),i1 (by omega),aOx m (j+1) (by omega) (by omega)]
     simp
    rfl
   have tail2: ∀b:Bool,nA N l (j:Int) l.Coins[j] (fV N l m) b=some (if(!b&&(aHd l.Height l.Coins[j]&&jY l.Height (sF l.Coins (j+1)) (l.Coins.drop (j+1))))=true then .brk ()else .ret false):=fun b=>by
    unfold nA
    cases b
    ·rw[if_neg (by simp)]
     simp only[tail]
     unfold aHd
     by_cases h1:l.Coins[j].Output.Script.length≤520
     ·rw[if_neg (by simp;omega),decide_eq_true h1]
      by_cases h2:1≤l.Coins[j].Height
      ·rw[if_neg (by simp;omega),decide_eq_true h2]
       by_cases h3:l.Coins[j].Height≤l.Height
       ·rw[decide_eq_false (show¬l.Height<l.Coins[j].Height by omega),decide_eq_true h3];simp
       rw[decide_eq_true (show l.Height<l.Coins[j].Height by omega),decide_eq_false h3];simp
      rw[if_pos (decide_eq_true (by omega)),decide_eq_false h2];simp
     rw[if_pos (decide_eq_true (by omega)),decide_eq_false h1];simp
    rfl
   rw[if_pos (dT hl),aY _ hl,aOk hl]
   simp only[a1a]
   cases j with
   |zero=>
    rw[if_neg (by simp)]
    have:=tail2 false
    simpa[sF]using this
   |succ k=>
    rw[if_pos (decide_eq_true (by omega)),cR (by omega) (by omega),show((k+1:Nat):Int)-1=(k:Int) by omega,aY _ (show k<l.Coins.length by omega)]
    simp only[a1a]
    have o1:=hok _ (a1b (show k<l.Coins.length by omega))
    have o2:=hok _ (a1b hl)
    rw[aIv hN o1.1 o2.1 o1.2 o2.2]
    simp only[a1a]
    rw[tail2]
    simp only[aJg (show k<l.Coins.length by omega)]
    by_cases hc:cQ l.Coins[k].Out l.Coins[k+1].Out<0
    ·rw[decide_eq_false (show¬0≤cQ l.Coins[k].Out l.Coins[k+1].Out by omega),decide_eq_true hc];simp
    rw[decide_eq_true (show 0≤cQ l.Coins[k].Out l.Coins[k+1].Out by omega),decide_eq_false hc];simp
  rw[if_neg (by simp;omega),a1l (by omega)]
  cases sF l.Coins j<;>rfl
omit hok in
theorem aOn {cs:List aA}(hcs:cs.length≤1000): ∀(m j:Nat)(s:Int),cs.length-j<m→j≤cs.length→0≤s→s≤2100000000000000→mZ N cs m s (j:Int)=some (if vQ s (cs.drop j)=true then .brk (s+aQ5 (cs.drop j))else .ret (0,false))
 |m+1,j,s,hm,hj,h0,h1=>by
  unfold mZ
  by_cases hl:j<cs.length
  ·rw[if_pos (dT hl),aY _ hl,a1j hl]
   rw[show vQ s (cs[j]::cs.drop (j+1))=(decide (0≤cs[j].Output.Value)&&(decide (cs[j].Output.Value≤2100000000000000-s)&&vQ (s+cs[j].Output.Value) (cs.drop (j+1))))from rfl,show aQ5 (cs[j]::cs.drop (j+1))=cs[j].Output.Value+aQ5 (cs.drop (j+1))from rfl]
   simp only[a1a]
   rw[cR (a:=2100000000000000-s) (by omega) (by omega)]
   by_cases hv:0≤cs[j].Output.Value
   ·rw[if_neg (by simp;omega),decide_eq_true hv]
    unfold wR
    by_cases hb:cs[j].Output.Value≤2100000000000000-s
    ·rw[if_neg (by simp;omega),decide_eq_true hb,i1 (by omega),cR (by omega) (by omega),aOn hcs m (j+1) _ (by omega) (by omega) (by omega) (by omega)]
     simp only[a1w]
     split
     ·congr 2;omega
     rfl
    rw[if_pos (decide_eq_true (by omega)),decide_eq_false hb];rfl
   rw[if_pos (decide_eq_true (by omega)),decide_eq_false hv];rfl
  rw[if_neg (by simp;omega),a1l (by omega)]
  simp[vQ,aQ5]
def aCx (l:aC):Bool:=decide (0≤l.Height)&&(decide (l.Height≤16777216)&&(jY l.Height none l.Coins&&vQ 0 l.Coins))
theorem aTK :pP N l=some (aCx l):=by
 have L:=aOx hN hn hok N 0 (by omega) (by omega)
 have T:=aOn hN hn hn N 0 0 (by omega) (by omega) (by omega) (by omega)
 rw[show((0:Nat):Int)=0 from rfl,a1g]at L T
 have body:kY N l false=some (jY l.Height none l.Coins&&vQ 0 l.Coins):=by
  unfold kY
  rw[if_neg (by simp),L]
  show(some (if jY l.Height none l.Coins=true then LR.brk ()else LR.ret false)).bind _=_
  cases jY l.Height none l.Coins
  ·rfl
  simp only[if_true,a1a,aBE]
  unfold yB
  rw[T]
  cases vQ 0 l.Coins<;>rfl
 unfold pP aCx
 by_cases h1:0≤l.Height
 ·rw[if_neg (by simp;omega),decide_eq_true h1]
  by_cases h2:l.Height≤16777216
  ·rw[if_neg (by simp;omega),decide_eq_true h2,decide_eq_false (show¬(100000:Int)<(l.Coins.length:Int) by omega),body]
   rfl
  rw[if_pos (decide_eq_true (by omega)),decide_eq_false h2];rfl
 rw[if_pos (decide_eq_true (by omega)),decide_eq_false h1];rfl
theorem aOK : ∀(m j:Nat)(s:Int),l.Coins.length-j<m→j≤l.Coins.length→0≤s→s≤2100000000000000→eO N l m s (j:Int)=some (if(jY l.Height (sF l.Coins j) (l.Coins.drop j)&&vQ s (l.Coins.drop j))=true then .brk ()else .ret false)
 |m+1,j,s,hm,hj,h0,h1=>by
  unfold eO
  by_cases hl:j<l.Coins.length
  ·have tail: ∀b:Bool,(b=false→0≤l.Coins[j].Output.Value∧l.Coins[j].Output.Value≤2100000000000000)→oQ N l s (j:Int) l.Coins[j] (eO N l m) b=some (if(!b&&(decide (l.Coins[j].Output.Value≤2100000000000000-s)&&(jY l.Height (sF l.Coins (j+1)) (l.Coins.drop (j+1))&&vQ (s+l.Coins[j].Output.Value) (l.Coins.drop (j+1)))))=true then .brk ()else .ret false):=fun b hb=>by
    unfold oQ
    cases b
    ·obtain⟨v0,v1⟩:=hb rfl
     rw[if_neg (by simp),cR (by omega) (by omega)]
     by_cases hv:l.Coins[j].Output.Value≤2100000000000000-s
     ·rw[if_neg (by simp;omega),i1 (by omega),aOK m (j+1) _ (by omega) (by omega) (by omega) (by omega),decide_eq_true hv]
      simp
     rw[if_pos (decide_eq_true (by omega)),decide_eq_false hv];rfl
    rfl
   have tail2: ∀b:Bool,iW N l s (j:Int) l.Coins[j] (eO N l m) b=some (if(!b&&(decide (l.Coins[j].Output.Script.length≤520)&&(decide (0≤l.Coins[j].Output.Value)&&(decide (l.Coins[j].Output.Value≤2100000000000000-s)&&(jY l.Height (sF l.Coins (j+1)) (l.Coins.drop (j+1))&&vQ (s+l.Coins[j].Output.Value) (l.Coins.drop (j+1)))))))=true then .brk ()else .ret false):=fun b=>by
    unfold iW
    cases b
    ·rw[if_neg (by simp)]
     by_cases v0:0≤l.Coins[j].Output.Value
     ·rw[if_neg (by simp;omega),decide_eq_true v0]
      by_cases v1:l.Coins[j].Output.Value≤2100000000000000
      ·rw[if_neg (by simp;omega),tail _ (fun _=>⟨v0,v1⟩)]
       by_cases hs:l.Coins[j].Output.Script.length≤520
       ·rw[decide_eq_true hs,decide_eq_false (show¬(520:Int)<(l.Coins[j].Output.Script.length:Int) by omega)];simp
       rw[decide_eq_false hs,decide_eq_true (show(520:Int)<(l.Coins[j].Output.Script.length:Int) by omega)];simp
      rw[if_pos (decide_eq_true (by omega)),tail _ (fun h=>by cases h),decide_eq_false (show¬l.Coins[j].Output.Value≤2100000000000000-s by omega)];simp
     rw[if_pos (decide_eq_true (by omega)),tail _ (fun h=>by cases h),decide_eq_false v0];simp
    rfl
   have fin: ∀(a b c d e f g:Bool),(a&&(b&&(c&&d)&&e))=(a&&(c&&(d&&(b&&e)))):=by intro a b c d e f g;cases a<;>cases b<;>cases c<;>cases d<;>cases e<;>rfl
   rw[if_pos (dT hl),aY _ hl,aOk hl,aT1 hl]
   simp only[a1a]
   rw[show aHd l.Height l.Coins[j]=(decide (l.Coins[j].Output.Script.length≤520)&&(decide (1≤l.Coins[j].Height)&&decide (l.Coins[j].Height≤l.Height)))from rfl]
   have hh:(decide (1≤l.Coins[j].Height)= !decide (l.Coins[j].Height<1))∧(decide (l.Coins[j].Height≤l.Height)= !decide (l.Height<l.Coins[j].Height)):=by
    constructor
    ·by_cases h:l.Coins[j].Height<1
     ·rw[decide_eq_true h,decide_eq_false (by omega)];rfl
     rw[decide_eq_false h,decide_eq_true (by omega)];rfl
    by_cases h:l.Height<l.Coins[j].Height
    ·rw[decide_eq_true h,decide_eq_false (by omega)];rfl
    rw[decide_eq_false h,decide_eq_true (by omega)];rfl
   rw[hh.1,hh.2]
   cases j with
   |zero=>
    rw[if_neg (by simp)]
    simp only[tail2,sF,a1w]
    cases decide (l.Coins[0].Height<1)<;>cases decide (l.Height<l.Coins[0].Height)<;>cases decide (l.Coins[0].Output.Script.length≤520)<;>cases decide (0≤l.Coins[0].Output.Value)<;>cases decide (l.Coins[0].Output.Value≤2100000000000000-s)<;>simp
   |succ k=>
    rw[if_pos (decide_eq_true (by omega)),cR (by omega) (by omega),show((k+1:Nat):Int)-1=(k:Int) by omega,aY _ (show k<l.Coins.length by omega)]
    simp only[a1a]
    have o1:=hok _ (a1b (show k<l.Coins.length by omega))
    have o2:=hok _ (a1b hl)
    rw[aPC hN o1.1 o2.1]
    simp only[a1a]
    simp only[tail2,aJg (show k<l.Coins.length by omega)]
    by_cases hc:cQ l.Coins[k].Out l.Coins[k+1].Out<0
    ·rw[decide_eq_false (show¬0≤cQ l.Coins[k].Out l.Coins[k+1].Out by omega),decide_eq_true hc]
     cases decide (l.Coins[k+1].Height<1)<;>cases decide (l.Height<l.Coins[k+1].Height)<;>cases decide (l.Coins[k+1].Output.Script.length≤520)<;>cases decide (0≤l.Coins[k+1].Output.Value)<;>cases decide (l.Coins[k+1].Output.Value≤2100000000000000-s)<;>simp
    rw[decide_eq_true (show 0≤cQ l.Coins[k].Out l.Coins[k+1].Out by omega),decide_eq_false hc]
    simp
  rw[if_neg (by simp;omega),a1l (by omega)]
  cases sF l.Coins j<;>rfl
theorem aPK :rQ N l=some (aCx l):=by
 have L:=aOK hN hn hok N 0 0 (by omega) (by omega) (by omega) (by omega)
 rw[show((0:Nat):Int)=0 from rfl,a1g]at L
 have body:mC N l false=some (jY l.Height none l.Coins&&vQ 0 l.Coins):=by
  unfold mC
  rw[if_neg (by simp),L]
  show(some (if(jY l.Height none l.Coins&&vQ 0 l.Coins)=true then LR.brk ()else LR.ret false)).bind _=_
  cases jY l.Height none l.Coins&&vQ 0 l.Coins<;>rfl
 unfold rQ aCx
 by_cases h1:0≤l.Height
 ·rw[if_neg (by simp;omega),decide_eq_true h1]
  by_cases h2:l.Height≤16777216
  ·rw[if_neg (by simp;omega),decide_eq_true h2,decide_eq_false (show¬(100000:Int)<(l.Coins.length:Int) by omega),body]
   rfl
  rw[if_pos (decide_eq_true (by omega)),decide_eq_false h2];rfl
 rw[if_pos (decide_eq_true (by omega)),decide_eq_false h1];rfl
end
theorem aM5 {h:Int}: ∀{cs:List aA}{p:Option aB},(∀c∈cs,fE c.Out)→(∀q,p=some q→fE q)→jY h p cs=true→
  (∀(i k:Nat)(hi:i<cs.length)(hk:k<cs.length),i<k→cQ cs[i].Out cs[k].Out<0)∧ ∀q,p=some q→ ∀(k:Nat)(hk:k<cs.length),cQ q cs[k].Out<0
 | [],_,_,_,_=>⟨fun i _ hi=>absurd hi (by simp),fun _ _ k hk=>absurd hk (by simp)⟩
 |c::cs,p,hok,hp,hs=>by
  have hc:=hok c (by simp)
  have hs':jY h (some c.Out) cs=true∧ ∀q,p=some q→cQ q c.Out<0:=by
   cases p with
   |none=>simp only[jY,a1V]at hs;exact⟨hs.2,fun q e=>by cases e⟩
   |some q=>simp only[jY,a1V,decide_eq_true_eq]at hs;exact⟨hs.2.2,fun q' e=>by injection e with e;subst e;exact hs.1⟩
  obtain⟨h1,h2⟩:=aM5 (fun d hd=>hok d (by simp[hd])) (fun q e=>by injection e with e;subst e;exact hc) hs'.1
  have hall: ∀q,p=some q→ ∀(k:Nat)(hk:k<(c::cs).length),cQ q (c::cs)[k].Out<0:=fun q e k hk=>by
   cases k with
   |zero=>exact hs'.2 q e
   |succ k=>
    have hk':k<cs.length:=by simpa using hk
    exact uD (hp q e).1 hc.1 (hok _ (by simp[a1b hk'])).1 (hs'.2 q e) (h2 _ rfl k hk')
  refine⟨fun i k hi hk hik=> ?_,hall⟩
  cases i with
  |zero=>
   cases k with
   |zero=>omega
   |succ k=>exact h2 _ rfl k (by simpa using hk)
  |succ i=>
   cases k with
   |zero=>omega
   |succ k=>exact h1 i k (by simpa using hi) (by simpa using hk) (by omega)
def fI (o:aB):Int→List aA→Int
 |_,[]=> -1
 |j,c::cs=>if cQ c.Out o=0 then j else fI o (j+1) cs
theorem eqP {a b:aB}(ha:a.Tx.length=32)(hb:b.Tx.length=32):fR a.Tx b.Tx ((a.Index == b.Index)&&true)=decide (cQ a b=0):=by
 rw[aOA ha hb,Bool.and_true]
 by_cases h:cQ a b=0
 ·obtain rfl:=mQ ha hb h
  rw[decide_eq_true h];simp
 rw[decide_eq_false h]
 rw[Bool.and_eq_false_iff]
 by_cases ht:a.Tx=b.Tx
 ·refine .inr ?_
  rw[beq_eq_false_iff_ne]
  intro hi
  apply h
  obtain⟨t,i⟩:=a
  obtain⟨t',i'⟩:=b
  simp only at ht hi
  subst ht hi
  exact qU _
 exact .inl (by rw[beq_eq_false_iff_ne];exact ht)
section
variable {N:Nat}(hN:70000≤N){cs:List aA}(hn:cs.length≤1000)(hok: ∀c∈cs,fE c.Out){o:aB}(ho:fE o)
include hN hn hok ho
theorem aNm : ∀(m j:Nat),cs.length-j<m→j≤cs.length→((aAy N cs o m (j:Int)).bind fun q=>match q with | .ret v=>some v | .brk _=>aEo N)=some (fI o (j:Int) (cs.drop j))
 |m+1,j,hm,hj=>by
  unfold aAy
  by_cases hl:j<cs.length
  ·have o1:=hok _ (a1b hl)
   rw[if_pos (dT hl),aY _ hl,a1j hl]
   simp only[a1a,fI]
   rw[eqP o1.1 ho.1]
   by_cases hc:cQ cs[j].Out o=0
   ·rw[if_pos (decide_eq_true hc),if_pos hc];rfl
   rw[if_neg (by simpa using hc),if_neg hc,i1 (by omega),aNm m (j+1) (by omega) (by omega)]
   rw[show((j+1:Nat):Int)=(j:Int)+1 by omega]
  rw[if_neg (by simp;omega),a1l (by omega)]
  rfl
theorem aNe :kX N cs o=some (fI o 0 cs):=by
 have:=aNm hN hn hok ho N 0 (by omega) (by omega)
 rw[show((0:Nat):Int)=0 from rfl,a1g]at this
 exact this
omit hN hn hok ho in
theorem aVY : ∀{cs:List aA}{r:Nat}(j:Int)(hr:r<cs.length),(∀(k:Nat)(hk:k<cs.length),k<r→cQ cs[k].Out o≠0)→cQ cs[r].Out o=0→fI o j cs=j+r
 |c::cs,0,j,_,_,h0=>by
  unfold fI
  rw[if_pos (show cQ c.Out o=0 from h0)];omega
 |c::cs,r+1,j,hr,hne,h0=>by
  unfold fI
  rw[if_neg (show¬cQ c.Out o=0 from hne 0 (by simp) (by omega)),aVY (j+1) (by simpa using hr) (fun k hk hkr=>hne (k+1) (by simpa using hk) (by omega)) (by simpa using h0)]
  omega
omit hN hn hok ho in
theorem aNO : ∀{cs:List aA}(j:Int),(∀(k:Nat)(hk:k<cs.length),cQ cs[k].Out o≠0)→fI o j cs= -1
 | [],_,_=>rfl
 |c::cs,j,h=>by
  unfold fI
  rw[if_neg (show¬cQ c.Out o=0 from h 0 (by simp)),aNO (j+1) (fun k hk=>h (k+1) (by simpa using hk))]
end
structure aMt (ins:List bI)(outs:List aW):Prop where
 ni:ins.length≤70
 no:outs.length≤70
 wit: ∀x∈ins,x.Witness.length≤40∧ ∀w∈x.Witness,w.length≤600
 scr: ∀o∈outs,o.Script.length≤600
 tx: ∀x∈ins,x.Prev.Tx.length=32
def inB (x:bI):List Int:=(x.Prev.Tx++pQ x.Prev.Index)++pQ x.Sequence
def itB (w:List Int):List Int:=szB w.length++w
def wiB (x:bI):List Int:=szB x.Witness.length++x.Witness.flatMap itB
def vT (v:Int)(ins:List bI)(outs:List aW)(lock:Int)(wit:Bool):List Int:=
 ((((pQ v++szB ins.length)++ins.flatMap inB)++szB outs.length)++outs.flatMap aAU)++pQ lock++(if wit then ins.flatMap wiB else [])
theorem aDi {α:Type}{g:α→List Int}{c:Nat}: ∀(l:List α),(∀x∈l,(g x).length≤c)→(l.flatMap g).length≤l.length*c
 | [],_=>by simp
 |x::l,h=>by
  have h1:=h x (by simp)
  have h2:=aDi l (fun y hy=>h y (by simp[hy]))
  rw[a17,a1c,a1r,Nat.add_mul,Nat.one_mul];omega
theorem aQa {w:List Int}(h:w.length≤600):(itB w).length≤605:=by have:=kD w.length;simp only[itB,a1c];omega
theorem aY0 {x:bI}(h:x.Witness.length≤40∧ ∀w∈x.Witness,w.length≤600):(wiB x).length≤24205:=by
 have h1:=kD x.Witness.length
 have h2:=aDi (g:=itB) (c:=605) x.Witness (fun w hw=>aQa (h.2 w hw))
 have h3:=a1A 605 h.1
 simp only[wiB,a1c];omega
theorem aNC {x:bI}(h:x.Prev.Tx.length=32):(inB x).length=40:=by simp[inB,b6,h]
theorem aNX {o:aW}(h:o.Script.length≤600):(aAU o).length≤613:=by
 have:=kD o.Script.length
 simp only[aAU,a1c,aIy];omega
theorem aIf {ins:List bI}{outs:List aW}(K:aMt ins outs):(ins.flatMap inB).length≤2800:=by
 have:=aDi (g:=inB) (c:=40) ins (fun x hx=>Nat.le_of_eq (aNC (K.tx x hx)))
 have:=a1A 40 K.ni
 omega
theorem aGq {ins:List bI}{outs:List aW}(K:aMt ins outs):(outs.flatMap aAU).length≤42910:=by
 have:=aDi (g:=aAU) (c:=613) outs (fun x hx=>aNX (K.scr x hx))
 have:=a1A 613 K.no
 omega
theorem aSd {ins:List bI}{outs:List aW}(K:aMt ins outs):(ins.flatMap wiB).length≤1694350:=by
 have:=aDi (g:=wiB) (c:=24205) ins (fun x hx=>aY0 (K.wit x hx))
 have:=a1A 24205 K.ni
 omega
theorem nle (a b:Nat):decide ((a:Int)<(b:Int))= !decide (b≤a):=by
 by_cases h:a<b
 ·rw[decide_eq_true (by omega),decide_eq_false (by omega)];rfl
 rw[decide_eq_false (by omega),decide_eq_true (by omega)];rfl
theorem dle (n:Nat):decide ((n:Int)≤20000)=decide (n≤20000):=by
 by_cases h:n≤20000
 ·rw[decide_eq_true h,decide_eq_true (by omega)]
 rw[decide_eq_false h,decide_eq_false (by omega)]
def aSW (o:aW):Bool:= !decide (o.Value<0)&&decide (o.Script.length≤520)
def aS0 (x:bI):Bool:=decide (x.Witness.length≤32)&&x.Witness.all fun w=>decide (w.length≤520)
def pM (v:Int)(ins:List bI)(outs:List aW)(lock:Int):Bool:=
 decide (ins.length≤64)&&decide (outs.length≤64)&&outs.all aSW&&ins.all aS0&&decide ((vT v ins outs lock true).length≤20000)
section
variable (N:Nat)(hN:70000≤N){t:aD}(K:aMt t.Inputs t.Outputs)
include hN K
theorem rL8 (b:Bool)(acc:List Int)(h:acc.length≤100000):nK N t b N 0 acc=some (acc++t.Inputs.flatMap inB):=by
 have hn:=K.ni
 have hl:=aIf K
 refine oG (f:=nK N t b) (xs:=t.Inputs) (g:=inB) (B:=200000) (by omega) (fun m j acc hj hB=> ?_) (fun m j acc hj=> ?_) N 0 acc (by omega) (by omega) (by rw[a1g];omega)
 ·have ht:=K.tx _ (a1b hj)
  rw[aNC ht]at hB
  rw[nK,dT hj,if_pos rfl,aY t.Inputs hj]
  simp only[a1a,aTt N hN _ ht]
  rw[lY (by simp[b6];omega)]
  simp only[a1a]
  rw[aCi N hN (acc++(t.Inputs[j].Prev.Tx++pQ t.Inputs[j].Prev.Index)) _ (by simp[b6];omega)]
  simp only[a1a,i1 (show j≤100000 by omega),inB,a1i]
 rw[nK,dF (by omega)];rfl
theorem rL7 (b:Bool)(acc:List Int)(h:acc.length≤100000):nB N t b N 0 acc=some (acc++t.Outputs.flatMap aAU):=by
 have hn:=K.no
 have hl:=aGq K
 refine oG (f:=nB N t b) (xs:=t.Outputs) (g:=aAU) (B:=200000) (by omega) (fun m j acc hj hB=> ?_) (fun m j acc hj=> ?_) N 0 acc (by omega) (by omega) (by rw[a1g];omega)
 ·have ht:=K.scr _ (a1b hj)
  rw[nB,dT hj,if_pos rfl,aY t.Outputs hj]
  simp only[a1a,aUX N hN _ ht]
  rw[lY (by omega)]
  simp only[a1a,i1 (show j≤100000 by omega)]
 rw[nB,dF (by omega)];rfl
theorem rL6 (b:Bool)(x:Int)(w:bI)(hw:w.Witness.length≤40∧ ∀z∈w.Witness,z.length≤600)(acc:List Int)(h:acc.length≤5000000):nE N t b x w N 0 acc=some (acc++w.Witness.flatMap itB):=by
 have hl:=aDi (g:=itB) (c:=605) w.Witness (fun z hz=>aQa (hw.2 z hz))
 have:=a1A 605 hw.1
 refine oG (f:=nE N t b x w) (xs:=w.Witness) (g:=itB) (B:=6000000) (by omega) (fun m j acc hj hB=> ?_) (fun m j acc hj=> ?_) N 0 acc (by omega) (by omega) (by rw[a1g];omega)
 ·have ht:=hw.2 _ (a1b hj)
  rw[nE,dT hj,if_pos rfl,aY w.Witness hj]
  simp only[a1a]
  rw[aTp N hN acc _ (show w.Witness[j].length≤1000000 by omega) (by omega)]
  simp only[a1a,i1 (show j≤100000 by omega),itB]
 rw[nE,dF (by omega)];rfl
theorem rL4 (acc:List Int)(h:acc.length≤1000000):e9 N t true N 0 acc=some (acc++t.Inputs.flatMap wiB):=by
 have hn:=K.ni
 have hl:=aSd K
 refine oG (f:=e9 N t true) (xs:=t.Inputs) (g:=wiB) (B:=4000000) (by omega) (fun m j acc hj hB=> ?_) (fun m j acc hj=> ?_) N 0 acc (by omega) (by omega) (by rw[a1g];omega)
 ·have ht:=K.wit _ (a1b hj)
  have hs:=kD t.Inputs[j].Witness.length
  rw[e9,dT hj,if_pos rfl,aY t.Inputs hj]
  simp only[a1a,a1E,a1e,if_false]
  rw[aG5 N hN acc _ (show t.Inputs[j].Witness.length≤1000000 by omega) (by omega)]
  simp only[a1a]
  rw[rL6 N hN K _ _ _ ht _ (by rw[a1c];omega)]
  simp only[a1a,aCq,i1 (show j≤100000 by omega),wiB,a1i]
 rw[e9,dF (by omega)];rfl
theorem aBQ :iA N t true=some (vT t.Version t.Inputs t.Outputs t.Lock true):=by
 have hn:=K.ni
 have ho:=K.no
 have h1:=kD t.Inputs.length
 have h2:=kD t.Outputs.length
 have h3:=aIf K
 have h4:=aGq K
 simp only[iA,aCi N hN [] _ (by simp),a1a,a1f]
 rw[aG5 N hN (pQ t.Version) _ (show t.Inputs.length≤1000000 by omega) (by rw[b6];omega)]
 simp only[a1a]
 rw[rL8 N hN K _ _ (by rw[a1c,b6];omega)]
 simp only[a1a,wG]
 rw[aG5 N hN _ _ (show t.Outputs.length≤1000000 by omega) (by simp only[a1c,b6];omega)]
 simp only[a1a]
 rw[rL7 N hN K _ _ (by simp only[a1c,b6];omega)]
 simp only[a1a,wE]
 rw[aCi N hN _ _ (by simp only[a1c,b6];omega)]
 simp only[a1a]
 rw[rL4 N hN K _ (by simp only[a1c,b6];omega)]
 rfl
end
theorem qA (N:Nat)(hN:70000≤N){t:aD}(K:aMt t.Inputs t.Outputs):g5 N t=some (pM t.Version t.Inputs t.Outputs t.Lock):=by
 have k1:=K.ni
 have k2:=K.no
 unfold g5 pM
 rw[show(64:Int)=((64:Nat):Int)from rfl,nle,nle]
 by_cases h:t.Inputs.length≤64
 ·rw[decide_eq_true h]
  simp only[a1E,a1e,if_false,a1w,qP]
  by_cases h2:t.Outputs.length≤64
  ·rw[decide_eq_true h2]
   simp only[a1E,a1e,if_false,a1w]
   have l7:=aA4 (f:=iO N t) (xs:=t.Outputs) (p:=aSW) (r:=false) (fun m j hj=>by
     rw[iO,dT hj,if_pos rfl,aY t.Outputs hj]
     simp only[a1a,show(520:Int)=((520:Nat):Int)from rfl,nle,i1 (show j≤100000 by omega),u7]
     rw[show aSW t.Outputs[j]=(!decide (t.Outputs[j].Value<0)&&decide (t.Outputs[j].Script.length≤520))from rfl]
     cases decide (t.Outputs[j].Value<0)<;>cases decide (t.Outputs[j].Script.length≤520)<;>rfl) (fun m j hj=>by rw[iO,dF (by omega)];rfl) N 0 (by omega) (by omega)
   have l6: ∀(x:Int)(w:bI),w.Witness.length≤32→lD N t x w N 0=some (if(w.Witness.all fun w=>decide (w.length≤520))=true then .brk ()else .ret false):=fun x w hw=>by
    have:=aA4 (f:=lD N t x w) (xs:=w.Witness) (p:=fun w=>decide (w.length≤520)) (r:=false) (fun m j hj=>by
     rw[lD,dT hj,if_pos rfl,aY w.Witness hj]
     simp only[a1a,show(520:Int)=((520:Nat):Int)from rfl,nle,i1 (show j≤100000 by omega)]
     cases decide (w.Witness[j].length≤520)<;>rfl) (fun m j hj=>by rw[lD,dF (by omega)];rfl) N 0 (by omega) (by omega)
    rw[show((0:Nat):Int)=0 from rfl,a1g]at this
    exact this
   have l4:=aA4 (f:=jP N t) (xs:=t.Inputs) (p:=aS0) (r:=false) (fun m j hj=>by
     rw[jP,dT hj,if_pos rfl,aY t.Inputs hj]
     simp only[a1a,show(32:Int)=((32:Nat):Int)from rfl,nle,i1 (show j≤100000 by omega)]
     rw[show aS0 t.Inputs[j]=(decide (t.Inputs[j].Witness.length≤32)&&t.Inputs[j].Witness.all fun w=>decide (w.length≤520))from rfl]
     by_cases hw:t.Inputs[j].Witness.length≤32
     ·rw[decide_eq_true hw]
      simp only[a1E,a1e,if_false,a1w,l6 _ _ hw,a1a,aAA]
      cases t.Inputs[j].Witness.all fun w=>decide (w.length≤520)
      ·rfl
      simp only[if_true,i1 (show j≤100000 by omega)]
     rw[decide_eq_false hw];rfl) (fun m j hj=>by rw[jP,dF (by omega)];rfl) N 0 (by omega) (by omega)
   rw[show((0:Nat):Int)=0 from rfl,a1g]at l7 l4
   rw[l7]
   cases t.Outputs.all aSW
   ·rfl
   simp only[a1a,if_true,u4,l4,a1w]
   cases t.Inputs.all aS0
   ·rfl
   simp only[a1a,if_true,aAQ,aBQ N hN K,a1w]
   rw[dle]
  rw[decide_eq_false h2];rfl
 rw[decide_eq_false h];rfl
structure aYS (t:aD):Prop where
 prev: ∀x∈t.Inputs,Byt x.Prev.Tx
 wit: ∀x∈t.Inputs,∀w∈x.Witness,Byt w
 scr: ∀o∈t.Outputs,Byt o.Script
structure TxK (t:aD):Prop where
 k:aMt t.Inputs t.Outputs
 b:aYS t
theorem aDw (w:Nat)(v:Int):Byt (zV w v):=by
 intro x hx
 simp only[zV,a1J]at hx
 obtain⟨i,_,rfl⟩:=hx
 exact aEc _
theorem aDr (n:Nat):Byt (szB n):=by
 unfold szB
 split
 ·exact aDw _ _
 split
 ·intro x hx
  rcases a1v.1 hx with rfl|h
  ·omega
  exact aDw _ _ x h
 intro x hx
 rcases a1v.1 hx with rfl|h
 ·omega
 exact aDw _ _ x h
theorem aIB {α:Type}{g:α→List Int}{l:List α}(h: ∀x∈l,Byt (g x)):Byt (l.flatMap g):=by
 intro y hy
 obtain⟨x,hx,hy⟩:=List.mem_flatMap.1 hy
 exact h x hx y hy
theorem aLf :Byt []:=fun _ h=>by cases h
theorem aJk {t:aD}(B:aYS t)(w:Bool):Byt (vT t.Version t.Inputs t.Outputs t.Lock w):=by
 unfold vT
 refine Byt.append (Byt.append (Byt.append (Byt.append (Byt.append (Byt.append (lL _) (aDr _)) (aIB fun x hx=> ?_)) (aDr _)) (aIB fun o ho=> ?_)) (lL _)) ?_
 ·exact((B.prev x hx).append (lL _)).append (lL _)
 ·exact(aDw _ _).append ((aDr _).append (B.scr o ho))
 cases w
 ·exact aLf
 exact aIB fun x hx=>(aDr _).append (aIB fun z hz=>(aDr _).append (B.wit x hx z hz))
section
variable (N:Nat)(hN:70000≤N){t:aD}(T:TxK t)
include hN T
theorem a0M (acc:List Int):e9 N t false N 0 acc=some acc:=by
 obtain⟨m,hm⟩: ∃m,N=m+1:=⟨N-1,by omega⟩
 rw[show e9 N t false N 0 acc=e9 N t false (m+1) 0 acc by rw[←hm]]
 unfold e9
 by_cases h:0<t.Inputs.length
 ·rw[if_pos (decide_eq_true (by omega)),show(0:Int)=((0:Nat):Int)from rfl,aY _ h]
  rfl
 rw[if_neg fun hq=>h (by have:=of_decide_eq_true hq;omega)]
theorem aOH :iA N t false=some (vT t.Version t.Inputs t.Outputs t.Lock false):=by
 have K:=T.k
 have hn:=K.ni
 have ho:=K.no
 have h1:=kD t.Inputs.length
 have h2:=kD t.Outputs.length
 have h3:=aIf K
 have h4:=aGq K
 simp only[iA,aCi N hN [] _ (by simp),a1a,a1f]
 rw[aG5 N hN (pQ t.Version) _ (show t.Inputs.length≤1000000 by omega) (by rw[b6];omega)]
 simp only[a1a]
 rw[rL8 N hN K _ _ (by rw[a1c,b6];omega)]
 simp only[a1a,wG]
 rw[aG5 N hN _ _ (show t.Outputs.length≤1000000 by omega) (by simp only[a1c,b6];omega)]
 simp only[a1a]
 rw[rL7 N hN K _ _ (by simp only[a1c,b6];omega)]
 simp only[a1a,wE]
 rw[aCi N hN _ _ (by simp only[a1c,b6];omega)]
 simp only[a1a]
 rw[a0M N hN T]
 simp[aBm,vT]
theorem aFQ (h:pM t.Version t.Inputs t.Outputs t.Lock=true)(w:Bool):(vT t.Version t.Inputs t.Outputs t.Lock w).length≤20000:=by
 have h1:(vT t.Version t.Inputs t.Outputs t.Lock true).length≤20000:=by
  simp only[pM,a1V,decide_eq_true_eq]at h
  omega
 cases w
 ·refine a1U ?_ h1
  unfold vT
  simp
 exact h1
def fX (h:List Int):Prop:=h.length=32∧Byt h
omit hN T in
theorem aPn :fX [0,0,0,0,0,0,0,0,0,0,0,0,0,0,0,0,0,0,0,0,0,0,0,0,0,0,0,0,0,0,0,0]:=⟨rfl,by intro x hx;simp at hx;omega⟩
omit hN T in
theorem aSu (N:Nat)(b:List Int):fX (dbl N b):=⟨aBf N b,aXc N b⟩
theorem aQ6 : ∃h,fX h∧aBa N t=some h:=by
 unfold aBa
 rw[qA N hN T.k]
 simp only[a1a]
 cases hf:pM t.Version t.Inputs t.Outputs t.Lock with
 |false=>exact⟨_,aPn,rfl⟩
 |true=>
  refine⟨dbl N (vT t.Version t.Inputs t.Outputs t.Lock false),aSu _ _, ?_⟩
  have:=aFQ N hN T hf false
  rw[if_neg (by simp),aOH N hN T]
  simp only[a1a]
  rw[aK2 N hN _ (aJk T.b false) (by omega)]
  simp only[a1a,aX (aBf N _)]
theorem aQs : ∃h,fX h∧y9 N t=some h:=by
 unfold y9
 rw[qA N hN T.k]
 simp only[a1a]
 cases hf:pM t.Version t.Inputs t.Outputs t.Lock with
 |false=>exact⟨_,aPn,rfl⟩
 |true=>
  refine⟨dbl N (vT t.Version t.Inputs t.Outputs t.Lock true),aSu _ _, ?_⟩
  have:=aFQ N hN T hf true
  rw[if_neg (by simp),aBQ N hN T.k]
  simp only[a1a]
  rw[aK2 N hN _ (aJk T.b true) (by omega)]
  simp only[a1a,aX (aBf N _)]
end
def Ok {α:Type}(x:Option α)(Q:α→Prop):Prop:= ∃r,x=some r∧Q r
theorem Ok.pure {α:Type}{Q:α→Prop}{a:α}(h:Q a):Ok (some a) Q:=⟨a,rfl,h⟩
theorem Ok.bind {α β:Type}{x:Option α}{P:α→Prop}{k:α→Option β}{Q:β→Prop}(h:Ok x P)(g: ∀a,P a→Ok (k a) Q):Ok (x.bind k) Q:=by
 obtain⟨a,rfl,ha⟩:=h
 exact g a ha
theorem Ok.eq {α β:Type}{x:Option α}{a:α}{k:α→Option β}{Q:β→Prop}(h:x=some a)(g:Ok (k a) Q):Ok (x.bind k) Q:=by
 rw[h];exact g
theorem Ok.ite {α:Type}{c:Prop} [Decidable c] {x y:Option α} {Q:α→Prop} (h1:c→Ok x Q) (h2: ¬c→Ok y Q):Ok (if c then x else y) Q:=by
 by_cases h:c
 ·rw[if_pos h];exact h1 h
 rw[if_neg h];exact h2 h
theorem Ok.mono {α:Type}{x:Option α}{P Q:α→Prop}(h:Ok x P)(g: ∀a,P a→Q a):Ok x Q:=by
 obtain⟨a,e,ha⟩:=h
 exact⟨a,e,g a ha⟩
def lrP {α β:Type}(R:β→Prop)(P:α→Prop):LR α β→Prop
 | .ret v=>R v
 | .brk s=>P s
theorem Ok.lr {α β δ:Type}{x:Option (LR α β)}{K:LR α β→Option δ}{R:β→Prop}{P:α→Prop}{Q:δ→Prop}(h:Ok x (lrP R P))(g1: ∀v,R v→Ok (K (.ret v)) Q)(g2: ∀s,P s→Ok (K (.brk s)) Q):Ok (x.bind K) Q:=by
 obtain⟨q,rfl,hq⟩:=h
 cases q with
 |ret v=>exact g1 v hq
 |brk s=>exact g2 s hq
theorem lp {σ ρ:Type}{f:Nat→Nat→σ→Option ρ}{Q:ρ→Prop}(I:Nat→σ→Prop)(n:Nat)
  (step: ∀m j s,j<n→I j s→(∀s',I (j+1) s'→Ok (f m (j+1) s') Q)→Ok (f (m+1) j s) Q)
  (fin: ∀m s,I n s→Ok (f (m+1) n s) Q): ∀(m j:Nat)(s:σ),n-j<m→j≤n→I j s→Ok (f m j s) Q
 |0,_,_,hm,_,_=>by omega
 |m+1,j,s,hm,hj,hI=>by
  by_cases h:j<n
  ·exact step m j s h hI fun s' hs'=>lp I n step fin m (j+1) s' (by omega) (by omega) hs'
  obtain rfl:j=n:=by omega
  exact fin m s hI
theorem dG {α:Type}{by_:Nat}{l m:List α}(hb:by_≤200)(h:l.length+m.length≤1000000):b9 by_ l m=some (l++m):=by
 refine aT8 (a1U (Nat.mul_le_mul h hb) ?_)
 decide
theorem z8 {α:Type}{l:List α}{a b:Nat}(h1:a≤b)(h2:b≤l.length):sub l (a:Int) (b:Int)=some ((l.take b).drop a):=by
 unfold sub
 rw[if_pos ⟨by omega,by omega,by omega⟩,a1n,a1n]
theorem a0L {α:Type}{n:Nat}{l:List α}{i:Nat}(h:i<n)(hl:l.length=n): ∃y,b7 n l (i:Int)=some y∧y∈l:=by
 rw[c9 h (by omega)]
 exact⟨_,rfl,a1b _⟩
def Wd (l:List Int):Prop:=l.length=4∧ ∀x∈l,0≤x∧x<18446744073709551616
def U64r (x:Int):Prop:=0≤x∧x<18446744073709551616
theorem aKJ (x:Int):U64r (a1t.wrap x):=by unfold U64r;rw[a2w];omega
theorem wd1 {x:Int}(h:U64r x):Wd [x,0,0,0]:=⟨rfl,fun y hy=>by simp at hy;rcases hy with rfl|rfl|rfl|rfl<;>first|exact h|decide⟩
theorem U64r.ite {c:Prop} [Decidable c] {a b:Int} (h1:U64r a) (h2:U64r b):U64r (if c then a else b):=by split<;>assumption
theorem aPl (op:BinOp)(a b:Int):U64r (bits op .u64 a b):=by
 unfold bits U64r
 rw[a2w]
 omega
theorem aXr (op:BinOp)(a b:Int):0≤bits op .u32 a b∧bits op .u32 a b<4294967296:=by
 unfold bits
 rw[a2x]
 omega
theorem Wd.set {l:List Int}(h:Wd l)(i:Nat){x:Int}(hx:U64r x):Wd (l.set i x):=
 ⟨by rw[a1B];exact h.1,fun y hy=>(a16 hy).elim (h.2 y) (fun e=>e▸hx)⟩
theorem Wd0 :Wd (a1d 4 0):=⟨rfl,fun x hx=>by have:=a1y hx;omega⟩
theorem Wd.at {l:List Int}(h:Wd l){i:Nat}(hi:i<4):Ok (b7 4 l (i:Int)) U64r:=by
 rw[c9 hi (by have:=h.1;omega)]
 exact Ok.pure (h.2 _ (a1b _))
def uZ (x:Int):Prop:=0≤x∧x<4294967296
theorem aX1 (x:Int):uZ (a1z.wrap x):=by unfold uZ;rw[a2x];omega
theorem w0 :uZ 0:=⟨by decide,by decide⟩
theorem aMo {k:IntKind}{a:Int}(b:Nat): ∃y,shl k a (b:Int)=some y:=by
 unfold shl;rw[if_neg (by omega)];exact⟨_,rfl⟩
theorem aN5 {k:IntKind}{a b:Int}(h:0≤b):Ok (shr k a b) fun _=>True:=by
 unfold shr;rw[if_neg (by omega)];exact Ok.pure trivial
theorem aL9 {x y c:Int}(hc:c≤1):Ok (aMI x y c) fun r=>U64r r.1∧(x<18446744073709551616→y<18446744073709551616→r.2≤1):=by
 unfold aMI
 rw[if_pos (by omega)]
 exact Ok.pure ⟨by unfold U64r;omega,fun _ _=>by show((_:Nat):Int)≤1;omega⟩
theorem aVt {x y c:Int}(hc:c≤1):Ok (aMS x y c) fun r=>U64r r.1∧r.2≤1:=by
 unfold aMS
 rw[if_pos (by omega)]
 exact Ok.pure ⟨by unfold U64r;omega,by show((_:Nat):Int)≤1;split<;>omega⟩
def W8 (l:List Int):Prop:=l.length=8∧ ∀x∈l,U64r x
theorem W8.set {l:List Int}(h:W8 l)(i:Nat){x:Int}(hx:U64r x):W8 (l.set i x):=
 ⟨by rw[a1B];exact h.1,fun y hy=>(a16 hy).elim (h.2 y) (fun e=>e▸hx)⟩
theorem W8.at {l:List Int}(h:W8 l){i:Nat}(hi:i<8):Ok (b7 8 l (i:Int)) U64r:=by
 rw[c9 hi (by have:=h.1;omega)]
 exact Ok.pure (h.2 _ (a1b _))
def Lo (l:List Int):Prop:= ∃w:Nat,w<65536∧l=[(w:Int),0,0,0]
section
variable {N:Nat}
theorem aNV {i:Nat}(hi:i<1000):a1k.wrap (a2q (i:Int) 64)=((i/64:Nat):Int)∧a1S (i:Int) 64=((i%64:Nat):Int):=
 ⟨by rw[show a2q (i:Int) 64=((i/64:Nat):Int)from tU i 64,cR (by omega) (by omega)],lP i 64⟩
theorem aK4 {a:List Int}(h:Wd a){i:Nat}(hi:i<256):Ok (tO N a (i:Int)) fun t=>Lo a→t=true→i<16:=by
 unfold tO
 rw[(aNV (by omega)).1,(aNV (by omega)).2,c9 (show i/64<4 by omega) (by have:=h.1;omega),a1a]
 by_cases l:Lo a∧16≤i
 ·obtain⟨⟨w,hw,rfl⟩,hi⟩:=l
  have e:shr .u64 ([(w:Int),0,0,0][i/64]'(by simp;omega)) ((i%64:Nat):Int)=some 0:=by
   have hz: ∀b:Nat,shr .u64 0 (b:Int)=some 0:=fun b=>by
    rw[show(0:Int)=((0:Nat):Int)from rfl,aK5 (k:= .u64) 0 b (by decide),Nat.zero_div]
   by_cases h0:i/64=0
   ·simp only[h0,a2c]
    rw[aK5 (k:= .u64) w _ (a2j hw (by decide)),a2y (a14 hw (show 65536≤2^(i%64)from a1Y (n:=2) (i:=16) (by decide) (by omega)))]
    rfl
   obtain h1|h1|h1:i/64=1∨i/64=2∨i/64=3:=by omega
   all_goals simp only[h1];exact hz _
  exact Ok.eq e (Ok.pure fun _ ht=>absurd ht (by decide))
 exact Ok.bind (aN5 (by omega)) fun x _=>Ok.pure fun h _=>by by_cases h16:16≤i;exact absurd ⟨h,h16⟩ l;omega
variable (hN:70000≤N)
include hN
theorem aH4 {a b:List Int}(ha:Wd a)(hb:Wd b):Ok (oF N a b) fun _=>True:=by
 unfold oF
 refine Ok.lr (R:=fun _=>True) (P:=fun _=>True) ?_ (fun v _=>Ok.pure trivial) (fun _ _=>Ok.pure trivial)
 have:=lp (f:=fun m j (_:Unit)=>yN N a b m (3-(j:Int))) (Q:=lrP (fun _=>True) fun _=>True) (fun _ _=>True) 4 (fun m j _ hj _ ih=> ?_) (fun m _ _=> ?_) N 0 () (by omega) (by omega) trivial
 ·exact this
 ·unfold yN
  rw[if_pos (decide_eq_true (by omega)),show 3-(j:Int)=((3-j:Nat):Int) by omega]
  refine Ok.bind (ha.at (by omega)) fun x _=>Ok.bind (hb.at (by omega)) fun y _=>Ok.ite (fun _=>Ok.pure trivial) fun _=>Ok.ite (fun _=>Ok.pure trivial) fun _=> ?_
  rw[cR (by omega) (by omega),show((3-j:Nat):Int)-1=3-((j+1:Nat):Int) by omega]
  exact ih () trivial
 unfold yN
 exact Ok.pure trivial
theorem aQu {a b:List Int}(ha:Wd a)(hb:Wd b):Ok (aDW N a b) fun r=>Wd r.1:=by
 unfold aDW
 refine Ok.bind (P:=fun r=>Wd r.2) ?_ fun r hr=>by unfold aGH;exact Ok.eq (aX hr.1) (Ok.pure hr)
 have:=lp (f:=fun m j (s:Int×List Int)=>xJ N a b m s.1 (j:Int) s.2) (Q:=fun r=>Wd r.2) (fun _ s=>s.1≤1∧Wd s.2) 4 (fun m j s hj hs ih=> ?_) (fun m s hs=> ?_) N 0 (0,a1d 4 0) (by omega) (by omega) ⟨by decide,Wd0⟩
 ·exact this
 ·unfold xJ nH
  rw[if_pos (decide_eq_true (by omega)),i1 (by omega)]
  exact Ok.bind (ha.at hj) fun x hx=>Ok.bind (hb.at hj) fun y hy=>Ok.bind (aL9 hs.1) fun r hr=>Ok.bind (hs.2.at hj) fun _ _=>ih (_,_) ⟨hr.2 hx.2 hy.2,hs.2.set _ hr.1⟩
 unfold xJ
 exact Ok.pure hs.2
theorem aXE {a b:List Int}(ha:Wd a)(hb:Wd b):Ok (aG2 N a b) fun r=>Wd r.1:=by
 unfold aG2
 refine Ok.bind (P:=fun r=>Wd r.2) ?_ fun r hr=>by unfold aGr;exact Ok.eq (aX hr.1) (Ok.pure hr)
 have:=lp (f:=fun m j (s:Int×List Int)=>xE N a b m s.1 (j:Int) s.2) (Q:=fun r=>Wd r.2) (fun _ s=>s.1≤1∧Wd s.2) 4 (fun m j s hj hs ih=> ?_) (fun m s hs=> ?_) N 0 (0,a1d 4 0) (by omega) (by omega) ⟨by decide,Wd0⟩
 ·exact this
 ·unfold xE aCw
  rw[if_pos (decide_eq_true (by omega)),i1 (by omega)]
  exact Ok.bind (ha.at hj) fun x hx=>Ok.bind (hb.at hj) fun y hy=>Ok.bind (aVt hs.1) fun r hr=>Ok.bind (hs.2.at hj) fun _ _=>ih (_,_) ⟨hr.2,hs.2.set _ hr.1⟩
 unfold xE
 exact Ok.pure hs.2
omit hN in
theorem aIx {a:List Int}(ha:Wd a):Ok (n4 N a) fun _=>True:=by
 unfold n4;exact Ok.eq (aX ha.1) (Ok.pure trivial)
theorem aR0 {a:List Int}(ha:Wd a)(n:Nat):Ok (aDU N a (n:Int)) Wd:=by
 unfold aDU
 refine Ok.ite (fun _=>Ok.pure Wd0) fun h=> ?_
 have h':n<256:=by
  rcases a13 n 256 with h1|h1
  ·exact h1
  exact absurd (decide_eq_true (by omega)) h
 refine Ok.bind (P:=Wd) ?_ fun r hr=>by unfold aGu;exact Ok.eq (aX hr.1) (Ok.pure hr)
 have:=lp (f:=fun m j l=>xO N m ((n-j:Nat):Int) l) (Q:=Wd) (fun _ l=>Wd l) n (fun m j l hj hl ih=> ?_) (fun m l hl=> ?_) N 0 a (by omega) (by omega) ha
 ·exact this
 ·unfold xO
  rw[if_pos (decide_eq_true (by omega)),cR (by omega) (by omega),show((n-j:Nat):Int)-1=((n-(j+1):Nat):Int) by omega]
  exact Ok.eq (aX hl.1) (Ok.bind (aQu hN hl hl) fun r hr=>Ok.eq (aX hr.1) (ih _ hr))
 unfold xO
 rw[if_neg (by simp)]
 exact Ok.pure hl
theorem aNK {a:List Int}(ha:Wd a){n:Nat}(hn:n<256):Ok (tN N a (n:Int)) fun r=>Wd r∧(n=240→Lo r):=by
 unfold tN
 refine Ok.ite (fun h0=>Ok.eq (aX ha.1) (Ok.pure ⟨ha,fun h=> ?_⟩)) fun h0=> ?_
 ·have:=of_decide_eq_true h0;omega
 rw[if_neg (by simp;omega)]
 refine Ok.bind (P:=fun r=>Wd r∧(n=240→Lo r)) ?_ fun r hr=>by unfold aGe;exact Ok.eq (aX hr.1.1) (Ok.pure hr)
 have:=lp (f:=fun m j l=>pT N a (n:Int) m (j:Int) l) (Q:=fun r=>Wd r∧(n=240→Lo r)) (fun _ l=>Wd l∧(n=240→Lo l)) (256-n) (fun m j l hj hl ih=> ?_) (fun m l hl=> ?_) N 0 (a1d 4 0) (by omega) (by omega) ⟨Wd0,fun _=>⟨0,by decide,rfl⟩⟩
 ·exact this
 ·unfold pT aBo
  rw[show(j:Int)+n=((j+n:Nat):Int) by omega,cR (by omega) (by omega),if_pos (decide_eq_true (by omega)),i1 (by omega),(aNV (show j<1000 by omega)).1,(aNV (by omega)).2]
  refine Ok.eq (aX ha.1) (Ok.bind (aK4 ha (by omega)) fun t _=>Ok.ite (fun _=> ?_) fun _=>ih _ hl)
  rw[c9 (show j/64<4 by omega) (by have:=hl.1.1;omega),a1a,show(1:Int)=((1:Nat):Int)from rfl,aRZ (k:= .u64) rfl,a1a]
  refine ih _ ⟨hl.1.set _ (aPl _ _ _),fun h=> ?_⟩
  obtain⟨w,hw,rfl⟩:=hl.2 h
  have hj0:j/64=0:=by omega
  have hp:2^(j%64)<2^16:=Nat.pow_lt_pow_right (by decide) (by omega)
  refine⟨w ||| 2^(j%64),Nat.or_lt_two_pow (n:=16) hw hp, ?_⟩
  have e:1*2^(j%64)%2^a1t.bits=2^(j%64):=by
   rw[Nat.one_mul,a1K (a2j hp (by decide))]
  rw[e]
  simp only[hj0,a2c]
  rw[aLD (k:= .u64) rfl _ _ (a2j hw (by decide)) (a2j hp (by decide))]
  rfl
 unfold pT
 rw[if_neg (by rw[show((256-n:Nat):Int)+n=256 by omega];decide)]
 exact Ok.pure hl
theorem aRT {a:List Int}(ha:Wd a):Ok (aDZ N a) fun r=>Lo a→r≤23:=by
 unfold aDZ
 refine Ok.lr (R:=fun r=>Lo a→r≤23) (P:=fun _=>True) ?_ (fun v h=>Ok.pure h) (fun _ _=>Ok.pure fun _=>by decide)
 have:=lp (f:=fun m j (_:Unit)=>yD N a m (255-(j:Int))) (Q:=lrP (fun r=>Lo a→r≤23) fun _=>True) (fun _ _=>True) 256 (fun m j _ hj _ ih=> ?_) (fun m _ _=> ?_) N 0 () (by omega) (by omega) trivial
 ·exact this
 ·unfold yD
  rw[if_pos (decide_eq_true (by omega)),cR (a:=255-(j:Int)-1) (by omega) (by omega),cR (by omega) (by omega),show 255-(j:Int)-1=255-((j+1:Nat):Int) by omega,show 255-(j:Int)=((255-j:Nat):Int) by omega]
  refine Ok.eq (aX ha.1) (Ok.bind (aK4 ha (by omega)) fun t ht=>Ok.ite (fun h=>Ok.pure fun hl=> ?_) fun _=>ih () trivial)
  have:=ht hl h
  omega
 unfold yD
 exact Ok.pure trivial
omit hN in
theorem aUz {x y:Int}:Ok (wJ N x y) fun r=>U64r r.1∧U64r r.2:=by
 unfold wJ
 exact Ok.bind (aN5 (by decide)) fun _ _=>Ok.bind (aN5 (by decide)) fun _ _=>Ok.bind (aN5 (by decide)) fun _ _=>Ok.bind (aN5 (by decide)) fun _ _=>Ok.bind (aN5 (by decide)) fun _ _=>Ok.pure ⟨aKJ _,aKJ _⟩
theorem aXz {a b:List Int}(ha:Wd a)(hb:Wd b):Ok (aHk N a b) fun r=>Wd r.1∧Wd r.2:=by
 unfold aHk
 refine Ok.bind (P:=W8) ?_ fun l hl=> ?_
 ·refine lp (f:=fun m j l=>o7 N a b m (j:Int) l) (fun _ l=>W8 l) 4 (fun m j l hj hl ih=> ?_) (fun m l hl=> ?_) N 0 _ (by omega) (by omega) ⟨rfl,fun x hx=>by have:=a1y hx;unfold U64r;omega⟩
  ·unfold o7 aFI aFY
   rw[if_pos (decide_eq_true (by omega))]
   refine Ok.bind (P:=fun r=>U64r r.1∧W8 r.2) ?_ fun r hr=> ?_
   ·have:=lp (f:=fun m i (s:Int×List Int)=>wZ N a b (j:Int) m s.1 (i:Int) s.2) (Q:=fun r=>U64r r.1∧W8 r.2) (fun _ s=>U64r s.1∧W8 s.2) 4 (fun m i s hi hs ih=> ?_) (fun m s hs=> ?_) N 0 (0,l) (by omega) (by omega) ⟨⟨a19 0,by show(0:Int)<_;decide⟩,hl⟩
    ·exact this
    ·unfold wZ nH
     rw[if_pos (decide_eq_true (by omega)),show(j:Int)+i=((j+i:Nat):Int) by omega,cR (a:=((j+i:Nat):Int)) (by omega) (by omega),i1 (by omega)]
     exact Ok.bind (ha.at hj) fun x _=>Ok.bind (hb.at hi) fun y _=>Ok.bind aUz fun p _=>Ok.bind (hs.2.at (by omega)) fun z _=>Ok.bind (aL9 (by decide)) fun u _=>Ok.bind (aL9 (by decide)) fun v hv=>ih (_,_) ⟨aKJ _,hs.2.set _ hv.1⟩
    unfold wZ
    exact Ok.pure hs
   rw[show(j:Int)+4=((j+4:Nat):Int) by omega,cR (by omega) (by omega),i1 (by omega)]
   exact Ok.bind (hr.2.at (by omega)) fun _ _=>ih _ (hr.2.set _ hr.1)
  unfold o7
  exact Ok.pure hl
 obtain⟨h8,hm⟩:=hl
 match l,h8 with
 | [q0,q1,q2,q3,q4,q5,q6,q7],_=>
  refine⟨([q4,q5,q6,q7],[q0,q1,q2,q3]),rfl,⟨rfl,fun x hx=>hm x ?_⟩,rfl,fun x hx=>hm x ?_⟩<;>simp at hx⊢ <;>omega
theorem aNu {b:Int}(hb:uZ b):Ok (o8 N b) fun r=>Wd r.1:=by
 obtain⟨n,rfl⟩: ∃n:Nat,b=(n:Int):=⟨b.toNat,by have:=hb.1;omega⟩
 have hn:n<4294967296:=by have:=hb.2;omega
 have j1: ∀l,Wd l→Ok (rK N l) fun r=>Wd r.1:=fun l hl=>by
  unfold rK
  exact Ok.eq (aX hl.1) (Ok.bind (aIx hl) fun t _=>Ok.ite (fun _=>Ok.pure Wd0) fun _=>Ok.pure hl)
 unfold o8
 refine Ok.eq (x:=shr .u32 (n:Int) 24) (aK5 (k:= .u32) n 24 hn) ?_
 have hx:n/2^24<256:=by omega
 generalize n/2^24=x at hx⊢
 refine Ok.eq (x:=gW N _) rfl (Ok.eq (x:=bH 4 _) rfl (Ok.ite (fun _=>Ok.pure Wd0) fun _=> ?_))
 have W:=wd1 (aKJ (bits .and .u32 (n:Int) 16777215))
 generalize [a1t.wrap (bits .and .u32 (n:Int) 16777215),0,0,0]=q at W⊢
 have ex:a1k.wrap (x:Int)=x:=cR (by omega) (by omega)
 rw[ex]
 refine Ok.ite (fun h=> ?_) fun h=> ?_
 ·have h3:x<3:=by have:=of_decide_eq_true h;omega
  rw[cR (a:=3-(x:Int)) (by omega) (by omega),cR (by omega) (by omega),show 8*(3-(x:Int))=((8*(3-x):Nat):Int) by omega]
  exact Ok.bind (aNK hN W (by omega)) fun r hr=>Ok.eq (aX hr.1.1) (j1 _ hr.1)
 have h3:3≤x:=by
  rcases a13 x 3 with h1|h1
  ·exact absurd (decide_eq_true (by omega)) h
  exact h1
 have j2: ∀t,Ok (rO N (x:Int) q t) fun r=>Wd r.1:=fun t=>by
  unfold rO
  rw[ex,cR (a:=(x:Int)-3) (by omega) (by omega),cR (by omega) (by omega),show 8*((x:Int)-3)=((8*(x-3):Nat):Int) by omega]
  exact Ok.ite (fun _=>Ok.pure Wd0) fun _=>Ok.bind (aR0 hN W _) fun r hr=>Ok.eq (aX hr.1) (j1 _ hr)
 exact Ok.bind (aIx W) fun t _=>Ok.ite (fun _=>Ok.bind (aRT hN W) fun _ _=>j2 _) fun _=>j2 _
theorem aYy {h:List Int}(hl:h.length=32):Ok (wQ N h) Wd:=by
 unfold wQ
 refine Ok.bind (P:=Wd) ?_ fun r hr=> ?_
 ·refine lp (f:=fun m j l=>mO N h m (j:Int) l) (fun _ l=>Wd l) 32 (fun m j l hj hw ih=> ?_) (fun m l hw=> ?_) N 0 _ (by omega) (by omega) Wd0
  ·unfold mO
   have e1:a1k.wrap (a2q (a1k.wrap (31-(j:Int))) 8)=((3-j/8:Nat):Int):=by
    rw[show 31-(j:Int)=((31-j:Nat):Int) by omega,cR (a:=((31-j:Nat):Int)) (by omega) (by omega),show(8:Int)=((8:Nat):Int)from rfl,tU,cR (by omega) (by omega)]
    omega
   have e2:a1k.wrap (8*(a1S (a1k.wrap (31-(j:Int))) 8))=((8*((31-j)%8):Nat):Int):=by
    rw[show 31-(j:Int)=((31-j:Nat):Int) by omega,cR (a:=((31-j:Nat):Int)) (by omega) (by omega),show a1S ((31-j:Nat):Int) 8=(((31-j)%8:Nat):Int)from lP _ 8,cR (by omega) (by omega)]
    omega
   rw[if_pos (decide_eq_true (by omega)),e1,e2,c9 (show 3-j/8<4 by omega) (by have:=hw.1;omega),c9 hj (by omega),i1 (by omega)]
   obtain⟨y,hy⟩:=aMo (k:= .u64) (a:=a1t.wrap h[j]) (8*((31-j)%8))
   simp only[a1a,hy]
   exact ih _ (hw.set _ (aPl _ _ _))
  unfold mO
  exact Ok.pure hw
 unfold yA
 exact Ok.eq (aX hr.1) (Ok.pure hr)
theorem aOm {h:List Int}(hl:h.length=32){b:Int}(hb:uZ b):Ok (aAp N h b) fun _=>True:=by
 unfold aAp
 exact Ok.bind (aNu hN hb) fun r hr=>Ok.eq (aX hr.1) (Ok.ite (fun _=>Ok.eq (aX hl) (Ok.bind (aYy hN hl) fun q hq=>Ok.bind (aH4 hN hq hr) fun _ _=>Ok.pure trivial)) (fun _=>Ok.pure trivial))
theorem aWY {hi lo b:List Int}(h1:Wd hi)(h2:Wd lo)(h3:Wd b):Ok (aG9 N hi lo b) fun r=>Wd r.1∧Wd r.2.1:=by
 unfold aG9
 refine Ok.eq (aX h3.1) (Ok.eq (aX h1.1) (Ok.bind (aH4 hN h3 h1) fun _ _=>Ok.ite (fun _=>Ok.pure ⟨Wd0,Wd0⟩) fun _=> ?_))
 refine Ok.bind (P:=fun r=>Wd r.1∧Wd r.2) ?_ fun r hr=>by unfold aFJ;exact Ok.eq (aX hr.1.1) (Ok.eq (aX hr.2.1) (Ok.pure hr))
 have:=lp (f:=fun m j (s:List Int×List Int)=>hY N lo b m (255-(j:Int)) s.1 s.2) (Q:=fun r=>Wd r.1∧Wd r.2) (fun _ s=>Wd s.1∧Wd s.2) 256 (fun m j s hj hw ih=> ?_) (fun m s hw=> ?_) N 0 (a1d 4 0,hi) (by omega) (by omega) ⟨Wd0,h1⟩
 ·exact this
 ·obtain⟨l2,l3⟩:=s
  obtain⟨hw2,hw3⟩:Wd l2∧Wd l3:=hw
  have n1:a1k.wrap (255-(j:Int)-1)=255-((j+1:Nat):Int):=by rw[cR (by omega) (by omega)];omega
  have ek:255-(j:Int)=((255-j:Nat):Int):=by omega
  have j5: ∀(t:Bool)(l:List Int),Wd l→Ok (xW N lo b (255-(j:Int)) l2 l (hY N lo b m) t) fun r=>Wd r.1∧Wd r.2:=by
   intro t l hl
   unfold xW aCp
   rw[n1]
   refine Ok.ite (fun _=> ?_) (fun _=>ih (l2,l) ⟨hw2,hl⟩)
   rw[ek,(aNV (by omega)).1,(aNV (by omega)).2]
   refine Ok.eq (aX hl.1) (Ok.bind (aXE hN hl h3) fun r hr=>Ok.eq (aX hr.1) (Ok.bind (hw2.at (by omega)) fun v _=> ?_))
   obtain⟨v,hv⟩:=aMo (k:= .u64) (a:=1) ((255-j)%64)
   exact Ok.eq hv (ih (l2.set _ _,_) ⟨hw2.set _ (aPl _ _ _),hr⟩)
  have j4: ∀(t:Bool)(l:List Int),Wd l→Ok (xM N lo b (255-(j:Int)) l2 t (hY N lo b m) l) fun r=>Wd r.1∧Wd r.2:=by
   intro t l hl
   unfold xM
   exact Ok.ite (fun _=>j5 _ _ hl) (fun _=>Ok.eq (aX hl.1) (Ok.bind (aH4 hN hl h3) fun _ _=>j5 _ _ hl))
  unfold hY
  rw[if_pos (decide_eq_true (by omega))]
  refine Ok.eq (aX hw3.1) (Ok.bind (aK4 (i:=255) hw3 (by omega)) fun t _=>Ok.bind (aQu hN hw3 hw3) fun r hr=>Ok.eq (aX hr.1) (Ok.eq (aX h2.1) ?_))
  refine Ok.bind (x:=tO N lo (255-(j:Int))) (by rw[ek];exact aK4 h2 (by omega)) fun t' _=>Ok.ite (fun _=> ?_) (fun _=>j4 _ _ hr)
  exact Ok.bind (hr.at (i:=0) (by decide)) fun v _=>j4 _ _ (hr.set _ (aPl _ _ _))
 unfold hY
 exact Ok.pure hw
theorem aRq {t:List Int}(ht:Wd t):Ok (aAB N t) uZ:=by
 unfold aAB
 refine Ok.eq (aX ht.1) (Ok.bind (aIx ht) fun _ _=>Ok.ite (fun _=>Ok.pure w0) fun _=> ?_)
 have j3: ∀(m j:Nat)(u:List Int),j≤33→Wd u→(j<33→Ok (eD N t m ((j+1:Nat):Int)) (lrP uZ fun _=>False))→(j=33→Lo u)→Ok (pI N t (j:Int) (eD N t m) u) (lrP uZ fun _=>False):=by
  intro m j u h2 hu ih h33
  unfold pI qC
  refine Ok.eq (aX hu.1) (Ok.bind (aRT hN hu) fun n hn=>Ok.ite (fun _=> ?_) (fun hq=> ?_))
  ·obtain⟨y,hy⟩:=aMo (k:= .u32) (a:=a1z.wrap (j:Int)) 24
   exact Ok.eq hy (Ok.bind (hu.at (i:=0) (by decide)) fun _ _=>Ok.pure (aXr _ _ _))
  rw[i1 (by omega)]
  refine ih ?_
  rcases a13 j 33 with hlt|hge
  ·exact hlt
  exact absurd (decide_eq_true (hn (h33 (by omega)))) hq
 have body: ∀(m j:Nat),1≤j→j≤33→(j<33→Ok (eD N t m ((j+1:Nat):Int)) (lrP uZ fun _=>False))→Ok (eD N t (m+1) (j:Int)) (lrP uZ fun _=>False):=by
  intro m j h1 h2 ih
  unfold eD
  refine Ok.ite (fun hc=> ?_) (fun hc=> ?_)
  ·have hc':j≤3:=by have:=of_decide_eq_true hc;omega
   rw[cR (a:=3-(j:Int)) (by omega) (by omega),cR (by omega) (by omega),show 8*(3-(j:Int))=((8*(3-j):Nat):Int) by omega]
   refine Ok.bind (aR0 hN ht _) fun u hu=>Ok.eq (aX hu.1) (Ok.bind (aNK hN hu (by omega)) fun v hv=>Ok.bind (aH4 hN hv.1 ht) fun _ _=>Ok.ite (fun _=> ?_) (fun _=> ?_))
   ·unfold qC
    rw[i1 (by omega)]
    exact ih (by omega)
   exact j3 m j _ h2 hu ih (fun he=>by omega)
  have hc':3<j:=by
   rcases a13 3 j with hl|hl
   ·exact hl
   exact absurd (decide_eq_true (show(j:Int)≤3 by omega)) hc
  rw[cR (a:=(j:Int)-3) (by omega) (by omega),cR (by omega) (by omega),show 8*((j:Int)-3)=((8*(j-3):Nat):Int) by omega]
  exact Ok.bind (aNK hN ht (by omega)) fun u hu=>Ok.eq (aX hu.1.1) (j3 m j _ h2 hu.1 ih fun he=>hu.2 (by omega))
 refine Ok.lr (R:=uZ) (P:=fun _=>False) ?_ (fun _ h=>Ok.pure h) (fun _ h=>h.elim)
 have:=lp (f:=fun m j (_:Unit)=>eD N t m ((j+1:Nat):Int)) (Q:=lrP uZ fun _=>False) (fun _ _=>True) 32
  (fun m j _ hj _ ih=>body m (j+1) (by omega) (by omega) (fun _=>ih () trivial)) (fun m _ _=>body m 33 (by omega) (by omega) (fun h=>by omega)) N 0 () (by omega) (by omega) trivial
 exact this
end
structure PK (p:aL):Prop where
 gb:p.Genesis.Bits=545259519
 lim:p.Limit=[18446744073709551615,18446744073709551615,18446744073709551615,9223372036854775807]
 chk:p.Checkpoints=[]
 sub:p.Subsidy=1000
 win:1≤p.Window∧p.Window≤4096
 spc:1≤p.Spacing∧p.Spacing≤1048576
 hal:1≤p.Halving∧p.Halving≤100
 mat:0≤p.Maturity∧p.Maturity≤100
 gp:fX p.Genesis.Prev
 gr:fX p.Genesis.Root
theorem PK.wd {p:aL}(P:PK p):Wd p.Limit:=by rw[P.lim];exact⟨rfl,by decide⟩
theorem PK.gw {p:aL}(P:PK p):uZ p.Genesis.Bits:=by rw[P.gb];exact⟨by decide,by decide⟩
structure aSI (c:bA):Prop where
 h:fX c.Hash
 b:uZ c.Bits
 t:c.Times.length≤100
 hh:0≤c.Height∧c.Height≤1000
structure HdK (h:bV):Prop where
 p:fX h.Prev
 r:fX h.Root
 b:uZ h.Bits
theorem aU2 (s n:Nat):s/2/2^n=s/2^(n+1):=by rw[Nat.div_div_eq_div_mul,Nat.pow_succ,Nat.mul_comm]
theorem aOg {N:Nat}: ∀(m k s n:Nat),k<m→s<2^k→k≤60→n≤9223372036854775807→jX N m (s:Int) (n:Int)=some ((s/2^n:Nat):Int)
 |m+1,k,s,n,hk,hs,h60,hn=>by
  unfold jX uO
  have hs2:s<9223372036854775808:=a14 hs (a1U (a1Y (by omega) (show k≤63 by omega)) (by decide))
  cases n with
  |zero=>rw[if_neg (by simp),if_neg (by simp),Nat.pow_zero,Nat.div_one]
  |succ n=>
   rw[if_pos (decide_eq_true (by omega))]
   by_cases h0:s=0
   ·subst h0
    rw[if_neg (by simp),Nat.zero_div]
   have hk1:0<k:=by
    rcases a1P k with hz|hz
    ·subst hz;simp only[Nat.pow_zero]at hs;omega
    exact hz
   rw[if_pos (decide_eq_true (by omega)),show(2:Int)=((2:Nat):Int)from rfl,tU,cR (by omega) (by omega),cR (by omega) (by omega),show((n+1:Nat):Int)-1=(n:Int) by omega,aOg m (k-1) (s/2) n (by omega) ?_ (by omega) (by omega),aU2]
   have:2^k=2^(k-1)*2:=by rw[←Nat.pow_succ];congr 1;omega
   omega
section
variable {N:Nat}(hN:70000≤N)
include hN
theorem aGI {h:bV}(H:HdK h):Ok (mH N h) fX:=⟨_,aTe N hN h H.p.1 H.r.1 H.p.2 H.r.2,aSu _ _⟩
theorem aZu {p:aL}(P:PK p):oM N p=some true:=by
 obtain⟨M,rfl⟩: ∃M,N=M+300:=⟨N-300,by omega⟩
 obtain⟨h1,h2⟩:=P.win
 obtain⟨h3,h4⟩:=P.spc
 obtain⟨h5,h6⟩:=P.hal
 obtain⟨h7,h8⟩:=P.mat
 have e:aEU (M+300) 545259519=some ([0,0,0,9223370937343148032],0):=by kernel_rfl
 have c:aIM (M+300) [0,0,0,9223370937343148032] [18446744073709551615,18446744073709551615,18446744073709551615,9223372036854775807]=some (-1):=by kernel_rfl
 have l:aAc (M+300) p (M+300)=some ():=by unfold aAc;rw[P.chk];rfl
 unfold oM zU
 rw[P.gb,e,l,P.lim,P.sub]
 simp only[bH,a1r,a1O,if_true,a1a,c,decide_eq_false (show¬p.Window<1 by omega),decide_eq_false (show¬4096<p.Window by omega),decide_eq_false (show¬p.Spacing<1 by omega),decide_eq_false (show¬1048576<p.Spacing by omega),decide_eq_false (show¬p.Halving<1 by omega),decide_eq_false (show¬16777216<p.Halving by omega),decide_eq_false (show¬p.Maturity<0 by omega),decide_eq_false (show¬16777216<p.Maturity by omega)]
 rfl
theorem aTL {p:aL}(P:PK p):jM N p=some true:=by
 obtain⟨M,rfl⟩: ∃M,N=M+300:=⟨N-300,by omega⟩
 obtain⟨h1,h2⟩:=P.win
 obtain⟨h3,h4⟩:=P.spc
 obtain⟨h5,h6⟩:=P.hal
 obtain⟨h7,h8⟩:=P.mat
 have e:o8 (M+300) 545259519=some ([0,0,0,9223370937343148032],0):=by kernel_rfl
 have c:oF (M+300) [0,0,0,9223370937343148032] [18446744073709551615,18446744073709551615,18446744073709551615,9223372036854775807]=some (-1):=by kernel_rfl
 have l:aDq (M+300) p (M+300)=some ():=by unfold aDq;rw[P.chk];rfl
 unfold jM aDo n4
 rw[P.gb,e,l,P.lim,P.sub]
 simp only[bH,a1r,a1O,if_true,a1a,c,decide_eq_false (show¬p.Window<1 by omega),decide_eq_false (show¬4096<p.Window by omega),decide_eq_false (show¬p.Spacing<1 by omega),decide_eq_false (show¬1048576<p.Spacing by omega),decide_eq_false (show¬p.Halving<1 by omega),decide_eq_false (show¬16777216<p.Halving by omega),decide_eq_false (show¬p.Maturity<0 by omega),decide_eq_false (show¬16777216<p.Maturity by omega)]
 rfl
theorem aBk {p:aL}(P:PK p):Ok (jM N p) fun _=>True:=⟨_,aTL hN P,trivial⟩
theorem aYW {p:aL}(P:PK p){h:Int}(hh: -9223372036854775808≤h∧h≤9223372036854775807): ∃s,tK N p h=some s∧nP N p h=some s∧0≤s∧s≤1000:=by
 unfold tK nP
 rw[aZu hN P,aTL hN P]
 simp only[a1a]
 rw[if_neg (by simp),if_neg (by simp)]
 unfold rV pK
 by_cases h0:0≤h
 ·rw[if_neg (by simp;omega),if_neg (by simp;omega),P.sub]
  obtain⟨n,rfl⟩: ∃n:Nat,h=(n:Int):=⟨h.toNat,by omega⟩
  obtain⟨g,hg⟩: ∃g:Nat,p.Halving=(g:Int):=⟨p.Halving.toNat,by have:=P.hal;omega⟩
  have f3:=P.hal
  rw[hg]at f3⊢
  have le:=Nat.div_le_self n g
  have hq:quo .i64 (n:Int) (g:Int)=some ((n/g:Nat):Int):=by
   unfold quo
   rw[if_neg (by omega),tU]
   generalize n/g=e at le⊢
   rw[cR (by omega) (by omega)]
  rw[hq]
  simp only[a1a]
  generalize n/g=e at le⊢
  refine⟨((1000/2^e:Nat):Int), ?_, ?_,a2r _,by have:=Nat.div_le_self 1000 (2^e);omega⟩
  ·rw[show(1000:Int)=((1000:Nat):Int)from rfl,shr]
   rw[if_neg (by omega),a1n,show(a1k).bits=64 from rfl]
   have z:(2:Int)^min e 64=((2^min e 64:Nat):Int):=by simp
   rw[z,Int.fdiv_eq_ediv_of_nonneg _ (a2r _),←Int.natCast_ediv]
   rcases Nat.le_total e 64 with he|he
   ·rw[a2e he];rfl
   rw[Nat.min_eq_right he,a2y (a14 (by decide:1000<2^64) (a1Y (by omega) he))];rfl
  rw[show(1000:Int)=((1000:Nat):Int)from rfl,aOg N 10 1000 e (by omega) (by omega) (by omega) (by omega)]
  rfl
 rw[if_pos (decide_eq_true (by omega)),if_pos (decide_eq_true (by omega))]
 exact⟨0,rfl,rfl,by omega,by omega⟩
theorem aPE {p:aL}(P:PK p){h:Int}(hh: -9223372036854775808≤h∧h≤9223372036854775807):Ok (nP N p h) fun s=>0≤s∧s≤1000:=by
 obtain⟨s,_,h1,h2⟩:=aYW hN P hh
 exact⟨s,h1,h2⟩
theorem aSZ {p:aL}(P:PK p){vb first last:Int}(hb:uZ vb):Ok (aBu N p vb first last) fun r=>uZ r.1:=by
 have j3: ∀l,Wd l→Ok (rA N l) fun r=>uZ r.1:=fun l hl=>by
  unfold rA
  exact Ok.eq (aX hl.1) (Ok.bind (aRq hN hl) fun r hr=>Ok.pure hr)
 have j2: ∀l,Wd l→Ok (qT N l) fun r=>uZ r.1:=fun l hl=>by
  unfold qT
  refine Ok.eq (aX hl.1) (Ok.bind (aIx hl) fun _ _=>Ok.ite (fun _=> ?_) (fun _=>j3 _ hl))
  exact Ok.eq (x:=gW N 1) rfl (Ok.eq (x:=bH 4 _) rfl (j3 _ (wd1 ⟨by decide,by decide⟩)))
 have j4: ∀(q:List Int×List Int×Bool)(t:Bool),Wd q.1→Ok (qW N p q t) fun r=>uZ r.1:=fun q t hq=>by
  unfold qW
  exact Ok.ite (fun _=>Ok.eq (aX P.wd.1) (j2 _ P.wd)) (fun _=>j2 _ hq)
 have j1: ∀(q:List Int×Int)(vP:Int),Wd q.1→U64r vP→Ok (qV N p q vP) fun r=>uZ r.1:=fun q vP hq hs=>by
  unfold qV
  refine Ok.eq (x:=gW N _) rfl (Ok.bind (aXz hN hq (wd1 (U64r.ite (aKJ _) (U64r.ite (aKJ _) hs)))) fun r hr=> ?_)
  refine Ok.eq (aX hr.1.1) (Ok.eq (aX hr.2.1) (Ok.eq (x:=gW N _) rfl (Ok.bind (aWY hN hr.1 hr.2 (wd1 (aKJ _))) fun d hd=> ?_)))
  exact Ok.eq (aX hd.1.1) (Ok.eq (aX hd.2.1) (Ok.ite (fun _=>j4 _ _ hd.1) fun _=>Ok.eq (aX P.wd.1) (Ok.bind (aH4 hN hd.1 P.wd) fun _ _=>j4 _ _ hd.1)))
 unfold aBu
 refine Ok.bind (aBk hN P) fun t _=>Ok.ite (fun _=>Ok.pure w0) fun _=> ?_
 refine Ok.bind (aNu hN hb) fun q hq=>Ok.eq (aX hq.1) (Ok.ite (fun _=>Ok.pure w0) fun _=> ?_)
 exact Ok.ite (fun _=>j1 _ _ hq (aKJ _)) (fun _=>j1 _ _ hq ⟨by decide,by decide⟩)
theorem aQ9 {p:aL}{c:bA}(P:PK p)(C:aSI c):Ok (y4 N p c) fun r=>uZ r.1:=by
 have j1: ∀t:Bool,(t=false→0<c.Times.length)→Ok (lF N p c t) fun r=>uZ r.1:=fun t ht=>by
  unfold lF
  refine Ok.ite (fun _=>Ok.pure w0) (fun hf=> ?_)
  have h0:=ht (by cases t;rfl;exact absurd rfl hf)
  have hw:=P.win
  have hr: ∃y,rem (a1k.wrap (c.Height+1)) p.Window=some y:=by
   unfold rem;rw[if_neg (by omega)];exact⟨_,rfl⟩
  obtain⟨y,hy⟩:=hr
  refine Ok.eq hy (Ok.ite (fun _=>Ok.pure C.b) fun _=> ?_)
  have hl:=C.t
  rw[cR (by omega) (by omega),show(c.Times.length:Int)-1=((c.Times.length-1:Nat):Int) by omega]
  exact Ok.eq (aY _ (by omega)) (Ok.bind (aSZ hN P C.b) fun r hr=>Ok.pure hr)
 unfold y4
 refine Ok.bind (aBk hN P) fun t _=> ?_
 refine Ok.ite (fun _=>j1 _ (by simp)) fun _=>Ok.ite (fun _=>j1 _ (by simp)) fun _=>Ok.ite (fun _=>j1 _ (by simp)) fun _=>Ok.ite (fun _=>j1 _ (by simp)) fun h=>j1 _ (fun _=> ?_)
 rcases a1P c.Times.length with h0|h0
 ·exact absurd (by rw[h0];rfl) h
 exact h0
theorem aMV {l:List Int}(hl:l.length≤1000):Ok (tF N l) fun _=>True:=by
 unfold tF
 refine Ok.bind (P:=fun r=>r.length≤1000) ?_ fun r hr=> ?_
 ·refine lp (f:=fun m j s=>jB N l m (j:Int) s) (fun j s=>s.length=j) l.length (fun m j s hj hs ih=> ?_) (fun m s hs=> ?_) N 0 [] (by omega) (by omega) rfl
  ·unfold jB
   rw[if_pos (dT hj)]
   refine Ok.eq (aY _ hj) (Ok.bind (P:=fun v=> ∃k:Nat,v=(k:Int)∧k≤s.length) ?_ fun v hv=> ?_)
   ·refine lp (f:=fun m i (_:Unit)=>jF N l (j:Int) s l[j] m (i:Int)) (fun _ _=>True) s.length (fun m i _ hi _ ih=> ?_) (fun m _ _=> ?_) N 0 () (by omega) (by omega) trivial
    ·unfold jF rD
     rw[if_pos (dT hi),i1 (by omega)]
     exact Ok.eq (aY _ hi) (Ok.ite (fun _=>ih () trivial) fun _=>Ok.pure ⟨i,rfl,by omega⟩)
    unfold jF rD
    rw[if_neg (by simp)]
    exact Ok.ite (fun h=>by cases h) fun _=>Ok.pure ⟨s.length,rfl,by omega⟩
   obtain⟨k,rfl,hk⟩:=hv
   unfold wM aB8
   rw[i1 (by omega)]
   refine Ok.eq (z8 (a:=0) (a2o k) hk) (Ok.eq (z8 hk (a1C _)) (Ok.eq (dG (by omega) (by simp;omega)) (Ok.eq (dG (by omega) (by simp;omega)) (ih _ ?_))))
   simp
   omega
  unfold jB
  rw[if_neg (by simp)]
  exact Ok.pure (by omega)
 unfold aBO
 refine Ok.ite (fun _=>Ok.pure trivial) (fun h=> ?_)
 have h0:0<r.length:=by
  rcases a1P r.length with h0|h0
  ·exact absurd (by rw[h0];rfl) h
  exact h0
 rw[show a2q (r.length:Int) 2=((r.length/2:Nat):Int)from tU _ 2,cR (by omega) (by omega)]
 exact Ok.eq (aY _ (by omega)) (Ok.pure trivial)
theorem aVN {p:aL}{c:bA}{n7:List Int}{vby:Int}(P:PK p)(C:aSI c)(R:fX n7):Ok (aGV N p c n7 vby) HdK:=by
 unfold aGV
 refine Ok.bind (aQ9 hN P C) fun x hx=>Ok.eq (aX C.h.1) (Ok.eq (aX R.1) (Ok.bind (aMV hN (by have:=C.t;omega)) fun y _=> ?_))
 have hd: ∀n t,HdK (bV.mk p.Version c.Hash n7 t x.1 n):=fun n t=>⟨C.h,R,hx⟩
 refine Ok.lr (R:=HdK) (P:=fun _=>True) ?_ (fun v hv=>Ok.pure hv) fun s _=>Ok.pure (hd _ _)
 refine lp (f:=fun m j (_:Unit)=>xL N p c n7 vby x y m (j:Int)) (fun _ _=>True) 20000 (fun m j _ hj _ ih=> ?_) (fun m _ _=> ?_) N 0 () (by omega) (by omega) trivial
 ·unfold xL
  rw[if_pos (decide_eq_true (by omega))]
  refine Ok.bind (aGI hN (hd _ _)) fun h hh=>Ok.bind (aOm hN hh.1 hx) fun t _=>Ok.ite (fun _=>Ok.pure (hd _ _)) fun _=> ?_
  rw[aZo (by omega) (by omega)]
  exact ih () trivial
 unfold xL
 rw[if_neg (by decide)]
 exact Ok.pure trivial
end
def ScrK (s:List Int):Prop:= ∃k:Nat,1≤k∧k≤6∧s=[1,1,(k:Int),5]
def aS7 (o:aW):Prop:=ScrK o.Script∧0≤o.Value∧o.Value≤2000
structure CoinM (c:aA):Prop where
 o:fE c.Out
 p:aS7 c.Output
structure InM (x:bI):Prop where
 p:fE x.Prev
 w:x.Witness=[]∨ ∃k:Nat,1≤k∧k≤6∧x.Witness=[[(k:Int)]]
 s:uZ x.Sequence
structure TxM (t:aD):Prop where
 i: ∃x,t.Inputs=[x]∧InM x
 n:t.Outputs.length≤2
 o: ∀o∈t.Outputs,aS7 o
theorem ScrK.len {s:List Int}(h:ScrK s):s.length=4:=by obtain⟨k,_,_,rfl⟩:=h;rfl
theorem ScrK.byt {s:List Int}(h:ScrK s):Byt s:=by
 obtain⟨k,h1,h2,rfl⟩:=h
 intro x hx
 simp at hx
 omega
theorem InM.wit {x:bI}(h:InM x):x.Witness.length≤1∧ ∀w∈x.Witness,w.length=1∧Byt w:=by
 rcases h.w with e|⟨k,h1,h2,e⟩
 ·rw[e];exact⟨by simp,fun w hw=>by simp at hw⟩
 rw[e]
 refine⟨by simp,fun w hw=> ?_⟩
 simp at hw
 subst hw
 refine⟨rfl,fun x hx=> ?_⟩
 simp at hx
 omega
theorem TxM.k {t:aD}(T:TxM t):TxK t:=by
 obtain⟨x,hi,hx⟩:=T.i
 have hw:=hx.wit
 have hn:=T.n
 refine⟨⟨by rw[hi];simp,by omega,fun y hy=> ?_,fun o ho=>by rw[(T.o o ho).1.len];omega,fun y hy=> ?_⟩,⟨fun y hy=> ?_,fun y hy w h=> ?_,fun o ho=>(T.o o ho).1.byt⟩⟩
 all_goals
  rw[hi]at hy
  obtain rfl:=a1h.1 hy
 ·exact⟨by omega,fun w h=>by have:=(hw.2 w h).1;omega⟩
 ·exact hx.p.1
 ·exact hx.p.2
 exact(hw.2 w h).2
def TxQ (j:Nat)(s:Int×List aD×List aA):Prop:=
 (0≤s.1∧s.1≤2*(j:Int))∧(s.2.1.length≤j∧ ∀t∈s.2.1,TxM t)∧s.2.2.length≤500+2*j∧ ∀c∈s.2.2,CoinM c
section
variable {N:Nat}(hN:70000≤N)
include hN
theorem aIC {v:Int}(h:0≤v∧v<256):Ok (oD N v) ScrK:=by
 refine⟨_,rfl,1+v.toNat%6,by omega,by omega, ?_⟩
 obtain⟨n,rfl⟩: ∃n:Nat,v=(n:Int):=⟨v.toNat,by omega⟩
 rw[show a1S (n:Int) 6=((n%6:Nat):Int)from lP n 6,a1n]
 rw[show a1u.wrap (1+((n%6:Nat):Int))=1+((n%6:Nat):Int) by rw[a11];omega]
 simp
theorem aTd {c:aA}(C:CoinM c){vs:Int}(h:0≤vs∧vs<256):Ok (aFp N c vs) fun r=>TxM (aD.mk r.1 r.2.1 r.2.2.1 r.2.2.2.1)∧0≤r.2.2.2.2∧r.2.2.2.2≤2:=by
 obtain⟨F,hF⟩: ∃F,F=(if c.Output.Value<a1k.wrap (a1S vs 3)then c.Output.Value else a1k.wrap (a1S vs 3)):=⟨_,rfl⟩
 obtain⟨hs,hv⟩:=C.p
 obtain⟨n,rfl⟩: ∃n:Nat,vs=(n:Int):=⟨vs.toNat,by omega⟩
 have hF':0≤F∧F≤2∧F≤c.Output.Value:=by
  rw[show a1S (n:Int) 3=((n%3:Nat):Int)from lP n 3,cR (by omega) (by omega)]at hF
  split at hF<;>omega
 obtain⟨k,k1,k2,ek⟩:=hs
 have j1: ∀(first:Int)(l:List aW),0≤first→first≤2000→l.length≤1→(∀o∈l,aS7 o)→Ok (uV N c (n:Int) [[(k:Int)]] first l) fun r=>TxM (aD.mk r.1 r.2.1 r.2.2.1 r.2.2.2.1)∧0≤r.2.2.2.2∧r.2.2.2.2≤2:=by
  intro first l f0 f1 hl ho
  unfold uV
  rw[←hF]
  refine Ok.bind (aIC hN (aEc _)) fun s hs=>Ok.eq (dG (by omega) (by simp;omega)) (Ok.pure ⟨⟨⟨_,rfl,C.o,.inr ⟨k,k1,k2,rfl⟩,aX1 _⟩,by simp;omega,fun o h=> ?_⟩,hF'.1,hF'.2.1⟩)
  rcases a1q.1 h with h|h
  ·exact ho o h
  obtain rfl:=a1h.1 h
  exact⟨hs,f0,f1⟩
 unfold aFp
 refine Ok.eq (a:=[[(k:Int)]]) (by rw[ek];rfl) ?_
 rw[←hF,cR (a:=c.Output.Value-F) (by omega) (by omega)]
 obtain⟨m,hm⟩: ∃m:Nat,c.Output.Value-F=(m:Int):=⟨(c.Output.Value-F).toNat,by omega⟩
 rw[hm,show a2q (m:Int) 3=((m/3:Nat):Int)from tU m 3,cR (a:=((m/3:Nat):Int)) (by omega) (by omega),cR (by omega) (by omega)]
 refine Ok.ite (fun _=> ?_) (fun _=>j1 _ _ (by omega) (by omega) (by simp) (fun o h=>by simp at h))
 refine Ok.bind (aIC hN (aEc _)) fun s hs=>Ok.eq (dG (by omega) (by simp)) (j1 _ _ (by omega) (by omega) (by simp) (fun o h=> ?_))
 rw[a1f]at h
 obtain rfl:=a1h.1 h
 exact⟨hs,by simp only;omega,by simp only;omega⟩
theorem aXF {p:aL}{l:aC}(hn:l.Coins.length≤500)(hc: ∀c∈l.Coins,CoinM c){vs:Int}(h:0≤vs∧vs<256):
  Ok (r6 N p l vs) fun r=>r.1.length≤3∧(∀t∈r.1,TxM t)∧0≤r.2∧r.2≤6:=by
 obtain⟨v,rfl⟩: ∃v:Nat,vs=(v:Int):=⟨vs.toNat,by omega⟩
 unfold r6
 refine Ok.eq (dG (by omega) (by simp;omega)) (Ok.bind (P:=fun r=>(0≤r.1∧r.1≤6)∧r.2.length≤3∧ ∀t∈r.2,TxM t) ?_ fun r hr=>Ok.pure ⟨hr.2.1,hr.2.2,hr.1⟩)
 rw[a1f]
 have:=lp (f:=fun m j (s:Int×List aD×List aA)=>iY N p l (v:Int) m s.1 (j:Int) s.2.1 s.2.2) (Q:=fun r=>(0≤r.1∧r.1≤6)∧r.2.length≤3∧ ∀t∈r.2,TxM t)
  TxQ (v%4) (fun m j s hj hs ih=> ?_) (fun m s hs=> ?_) N 0 (0,[],l.Coins) (by omega) (by omega) ⟨⟨by simp,by simp⟩,⟨by simp,by simp⟩,by simpa using hn,hc⟩
 ·exact this
 ·obtain⟨fees,l2,l3⟩:=s
  obtain⟨⟨f0,f1⟩,⟨n2,t2⟩,n3,c3⟩:(0≤fees∧fees≤2*j)∧(l2.length≤j∧ ∀t∈l2,TxM t)∧l3.length≤500+2*j∧ ∀c∈l3,CoinM c:=hs
  unfold iY
  rw[show a1S (v:Int) 4=((v%4:Nat):Int)from lP v 4,if_pos (dT hj)]
  refine Ok.bind (P:=TxQ (j+1)) ?_ fun s hs=> ?_
  ·have j7: ∀(x:Int×List bI×List aW×Int×Int)(txs:List aD)(cs:List aA)(rec:Int→Option (Int×List aD×List aA)),TxM (aD.mk x.1 x.2.1 x.2.2.1 x.2.2.2.1)→0≤x.2.2.2.2→x.2.2.2.2≤2→(txs.length≤j+1∧ ∀t∈txs,TxM t)→cs.length≤500+2*j→(∀c∈cs,CoinM c)→
     Ok (kP N p l (v:Int) fees (j:Int) x txs rec cs) (TxQ (j+1)):=by
    intro x txs cs rec T g0 g1 ht hcs hcm
    unfold kP
    obtain⟨id,hid,eid⟩:=aQ6 N hN T.k
    refine Ok.eq eid (Ok.eq (aX hid.1) (Ok.bind (P:=fun r=>r.length≤cs.length+x.2.2.1.length∧ ∀c∈r,CoinM c) ?_ fun r hr=> ?_))
    ·have ho:=T.n
     refine lp (f:=fun m i r=>kT N p l (v:Int) fees (j:Int) x txs id m (i:Int) r) (fun i r=>r.length≤cs.length+i∧ ∀c∈r,CoinM c) x.2.2.1.length (fun m i r hi hr ih=> ?_) (fun m r hr=> ?_) N 0 cs (by simp only at ho;omega) (by omega) ⟨by omega,hcm⟩
     ·unfold kT
      rw[if_pos (dT hi)]
      simp only at ho
      refine Ok.eq (aY _ hi) (Ok.eq (dG (by omega) (by have:=hr.1;simp;omega)) ?_)
      rw[i1 (by omega)]
      refine ih _ ⟨by have:=hr.1;simp;omega,fun c hc=> ?_⟩
      rcases a1q.1 hc with hc|hc
      ·exact hr.2 c hc
      obtain rfl:=a1h.1 hc
      exact⟨hid,T.o _ (a1b hi)⟩
     unfold kT
     rw[if_neg (by simp)]
     exact Ok.pure hr
    unfold uJ
    have ho:=T.n
    simp only at ho
    rw[cR (by omega) (by omega)]
    exact Ok.pure ⟨⟨by simp only;omega,by simp only;omega⟩,ht,by have:=hr.1;simp only;omega,hr.2⟩
   refine lp (f:=fun m i (_:Unit)=>c6 N p l (v:Int) fees (j:Int) l2 l3 m (i:Int)) (fun _ _=>True) l3.length (fun m i _ hi _ ih=> ?_) (fun m _ _=> ?_) N 0 () (by omega) (by omega) trivial
   ·have j6: ∀(a:Nat)(ha:a<l3.length)(t:Bool),Ok (kO N p l (v:Int) fees (j:Int) l2 l3 (i:Int) (a:Int) l3[a] (c6 N p l (v:Int) fees (j:Int) l2 l3 m) t) (TxQ (j+1)):=by
     intro a ha t
     unfold kO tT
     rw[i1 (by omega)]
     refine Ok.ite (fun _=>ih () trivial) fun _=>Ok.bind (aTd hN (c3 _ (a1b ha)) (aEc _)) fun x hx=>Ok.eq (dG (by omega) (by simp;omega)) ?_
     have ht:(l2++[aD.mk x.1 x.2.1 x.2.2.1 x.2.2.2.1]).length≤j+1∧ ∀t∈l2++[aD.mk x.1 x.2.1 x.2.2.1 x.2.2.2.1],TxM t:=by
      refine⟨by simp;omega,fun t ht=> ?_⟩
      rcases a1q.1 ht with ht|ht
      ·exact t2 t ht
      obtain rfl:=a1h.1 ht
      exact hx.1
     refine Ok.ite (fun _=> ?_) (fun _=> ?_)
     ·refine Ok.eq (z8 (a:=0) (a2o a) (by omega)) (Ok.eq (dG (by omega) (by simp;omega)) (j7 _ _ _ _ hx.1 hx.2.1 hx.2.2 ht (by simp;omega) fun c hc=>c3 c ?_))
      simp at hc
      exact a1F hc
     rw[i1 (by omega)]
     refine Ok.eq (z8 (a:=0) (a2o a) (by omega)) (Ok.eq (z8 (show a+1≤l3.length by omega) (a1C _)) (Ok.eq (dG (by omega) (by simp;omega)) (j7 _ _ _ _ hx.1 hx.2.1 hx.2.2 ht (by simp;omega) fun c hc=>c3 c ?_)))
     simp at hc
     rcases hc with hc|hc
     ·exact a1F hc
     exact a2l hc
    unfold c6
    rw[if_pos (dT hi),show a2q (v:Int) 4=((v/4:Nat):Int)from tU v 4]
    have e:a1k.wrap (a1k.wrap (a1k.wrap (a1u.wrap ((v/4:Nat):Int))+a1k.wrap (j:Int))+(i:Int))=((v/4+j+i:Nat):Int):=by
     rw[show a1u.wrap ((v/4:Nat):Int)=((v/4:Nat):Int) by rw[a11];omega,cR (a:=((v/4:Nat):Int)) (by omega) (by omega),cR (a:=(j:Int)) (by omega) (by omega),cR (a:=((v/4:Nat):Int)+(j:Int)) (by omega) (by omega),cR (by omega) (by omega)]
     omega
    have ha:(v/4+j+i)%l3.length<l3.length:=a1Z _ (by omega)
    rw[e]
    refine Ok.eq (a:=(((v/4+j+i)%l3.length:Nat):Int)) (by unfold rem;rw[if_neg (by omega),lP]) (Ok.eq (aY _ ha) ?_)
    exact Ok.ite (fun _=>j6 _ ha _) (fun _=>j6 _ ha _)
   unfold c6
   rw[if_neg (by simp)]
   exact Ok.pure ⟨⟨f0,by simp only;omega⟩,⟨by simp only;omega,t2⟩,by simp only;omega,c3⟩
  unfold tY
  rw[show a1u.wrap ((j:Int)+1)=((j+1:Nat):Int) by rw[a11];omega]
  exact ih (s.1,s.2.1,s.2.2) hs
 unfold iY
 rw[show a1S (v:Int) 4=((v%4:Nat):Int)from lP v 4,if_neg (by simp)]
 exact Ok.pure ⟨⟨hs.1.1,by have:=hs.1.2;simp only;omega⟩,by have:=hs.2.1.1;simp only;omega,hs.2.1.2⟩
end
def aSH (l:List aD):Prop:=l.length≤4∧ ∀t∈l,TxM t
structure sX (b:aH):Prop where
 h:HdK b.Header
 t:aSH b.Txs
 n:0<b.Txs.length
structure aX7 (l:aC):Prop where
 n:l.Coins.length≤500
 c: ∀c∈l.Coins,CoinM c
 h:0≤l.Height∧l.Height≤1000
 t:fX l.Tip
theorem lpU {ρ:Type}{f:Nat→Nat→Option ρ}{Q:ρ→Prop}(n:Nat)(step: ∀m j,j<n→Ok (f m (j+1)) Q→Ok (f (m+1) j) Q)(fin: ∀m,Ok (f (m+1) n) Q): ∀(m j:Nat),n-j<m→j≤n→Ok (f m j) Q:=
 fun m j h1 h2=>lp (f:=fun m j (_:Unit)=>f m j) (fun _ _=>True) n (fun m j _ hj _ ih=>step m j hj (ih () trivial)) (fun m _ _=>fin m) m j () h1 h2 trivial
theorem aDk {l:List (List Int)}(h: ∀x∈l,fX x):aHG 32 l=some l:=by
 unfold aHG
 rw[if_pos]
 rw[a2z]
 intro x hx
 simpa using (h x hx).1
section
variable {N:Nat}(hN:70000≤N)
include hN
theorem aMm {ls:List (List Int)}(h:ls.length≤100)(hx: ∀x∈ls,x.length≤1000):oC N ls=some ls.flatten:=by
 have:Ok (oC N ls) fun r=>r=ls.flatten:=by
  unfold oC
  refine Ok.bind (P:=fun r=>r=ls.flatten) ?_ fun r hr=> ?_
  ·refine lp (f:=fun m j s=>vC N ls m (j:Int) s) (fun j s=>s=(ls.take j).flatten∧s.length≤j*1000) ls.length (fun m j s hj hs ih=> ?_) (fun m s hs=> ?_) N 0 [] (by omega) (by omega) ⟨by simp,by simp⟩
   ·unfold vC
    rw[if_pos (dT hj),i1 (by omega)]
    have hl:=hx _ (a1b hj)
    refine Ok.eq (aY _ hj) (Ok.eq (mX N s _ (by omega)) (ih _ ⟨?_,by rw[a1c];omega⟩))
    rw[a1p hj,List.flatten_append,←hs.1]
    simp
   unfold vC
   rw[if_neg (by simp)]
   refine Ok.pure ?_
   rw[hs.1,a1W]
  exact Ok.pure hr
 obtain⟨r,h1,rfl⟩:=this
 exact h1
theorem aQw {l r:List Int}(h1:fX l)(h2:fX r):Ok (yU N l r) fX:=by
 unfold yU
 refine Ok.eq (aX h1.1) (Ok.eq (aX h2.1) (Ok.eq (aMm hN (by simp) (fun x hx=> ?_)) ?_))
 ·simp at hx
  rcases hx with rfl|rfl|rfl
  ·simp
  ·rw[h1.1];omega
  rw[h2.1];omega
 refine Ok.eq (zD N hN _ ?_ ?_) (Ok.eq (aX (eG _ _)) (Ok.pure ⟨eG _ _,nZ _ _⟩))
 ·intro x hx
  simp at hx
  rcases hx with rfl|hx|hx
  ·omega
  ·exact h1.2 x hx
  exact h2.2 x hx
 simp[h1.1,h2.1]
def LvK (x:List (List Int)):Prop:=0<x.length∧ ∀h∈x,fX h
theorem aTR {l:List (List Int)}(hl:l.length≤4)(hh: ∀h∈l,fX h):Ok (uS N l) fX:=by
 have j1: ∀t:Bool,(t=false→0<l.length)→Ok (nO N l t) fX:=by
  intro t ht
  unfold nO
  refine Ok.ite (fun _=>Ok.pure aPn) fun hf=> ?_
  have h0:=ht (by cases t;rfl;exact absurd rfl hf)
  refine Ok.bind (P:=fun r=>(0<r.length∧r.length≤100)∧ ∀x∈r,LvK x) ?_ fun r hr=> ?_
  ·unfold aBR
   refine Ok.bind (P:=fun r=>(0<r.length∧r.length≤100)∧ ∀x∈r,LvK x) ?_ fun r hr=>Ok.pure hr
   have:=lp (f:=fun m j (s:List (List Int)×List (List (List Int)))=>i9 N m s.1 s.2) (Q:=fun r=>(0<r.length∧r.length≤100)∧ ∀x∈r,LvK x)
    (fun j s=>(LvK s.1∧s.1.length+j≤4)∧(0<s.2.length∧s.2.length≤j+1)∧ ∀x∈s.2,LvK x) 3 (fun m j s hj hs ih=> ?_) (fun m s hs=> ?_) N 0 (l,[l]) (by omega) (by omega) ⟨⟨⟨h0,hh⟩,by simp only;omega⟩,by simp,fun x hx=>by simp at hx;subst hx;exact⟨h0,hh⟩⟩
   ·exact this
   ·obtain⟨l1,l0⟩:=s
    obtain⟨⟨k1,k2⟩,k3,k4⟩:(LvK l1∧l1.length+j≤4)∧(0<l0.length∧l0.length≤j+1)∧ ∀x∈l0,LvK x:=hs
    unfold i9
    refine Ok.ite (fun hc=> ?_) (fun _=>Ok.pure ⟨⟨k3.1,by simp only;omega⟩,k4⟩)
    have hc':1<l1.length:=by have h9:(1:Int)<(l1.length:Int):=of_decide_eq_true hc;omega
    refine Ok.bind (P:=fun r=>r.length=(l1.length+1)/2∧ ∀h∈r,fX h) ?_ fun r hr=> ?_
    ·refine lp (f:=fun m i s=>dX N l1 l0 m ((2*i:Nat):Int) s) (fun i s=>s.length=i∧ ∀h∈s,fX h) ((l1.length+1)/2) (fun m i s hi hs ih=> ?_) (fun m s hs=> ?_) N 0 [] (by omega) (by omega) ⟨rfl,by simp⟩
     ·have add: ∀x,fX x→Ok (kV N l1 l0 ((2*i:Nat):Int) (dX N l1 l0 m) (s++[x])) fun r=>r.length=(l1.length+1)/2∧ ∀h∈r,fX h:=by
       intro x hx
       unfold kV
       rw[cR (by omega) (by omega),show((2*i:Nat):Int)+2=((2*(i+1):Nat):Int) by omega]
       refine ih _ ⟨by simp[hs.1],fun h hh=> ?_⟩
       rcases a1q.1 hh with hh|hh
       ·exact hs.2 h hh
       obtain rfl:=a1h.1 hh;exact hx
      have a1:=k1.2 _ (a1b (show 2*i<l1.length by omega))
      unfold dX
      rw[if_pos (dT (show 2*i<l1.length by omega)),i1 (by omega)]
      refine Ok.ite (fun hc2=> ?_) (fun _=> ?_)
      ·have hc3:2*i+1<l1.length:=by have:=of_decide_eq_true hc2;omega
       have a2:=k1.2 _ (a1b hc3)
       exact Ok.eq (aY _ (show 2*i<l1.length by omega)) (Ok.eq (aX a1.1) (Ok.eq (aY _ hc3) (Ok.eq (aX a2.1) (Ok.bind (aQw hN a1 a2) fun x hx=>Ok.eq (aX hx.1) (Ok.eq (dG (by omega) (by simp;omega)) (add x hx))))))
      exact Ok.eq (aY _ (show 2*i<l1.length by omega)) (Ok.eq (aX a1.1) (Ok.eq (dG (by omega) (by simp;omega)) (add _ a1)))
     unfold dX
     rw[if_neg (by simp;omega)]
     exact Ok.pure hs
    unfold vY
    refine Ok.eq (aDk hr.2) (Ok.eq (dG (by omega) (by simp;omega)) (ih (r,l0++[r]) ⟨⟨⟨by rw[hr.1];omega,hr.2⟩,by simp only;omega⟩,by simp;omega,fun x hx=> ?_⟩))
    rcases a1q.1 hx with hx|hx
    ·exact k4 x hx
    obtain rfl:=a1h.1 hx
    exact⟨by rw[hr.1];omega,hr.2⟩
   unfold i9
   rw[if_neg (by have:=hs.1.2;simp;omega)]
   exact Ok.pure ⟨⟨hs.2.1.1,by have:=hs.2.1.2;omega⟩,hs.2.2⟩
  rw[cR (by omega) (by omega),show(r.length:Int)-1=((r.length-1:Nat):Int) by omega]
  have a:=hr.2 _ (a1b (show r.length-1<r.length by omega))
  have b:=a.2 _ (a1b a.1)
  exact Ok.eq (aY _ (by omega)) (Ok.eq (aY (i:=0) _ a.1) (Ok.eq (aX b.1) (Ok.pure b)))
 unfold uS
 refine Ok.ite (fun _=>j1 _ (by simp)) fun h=>j1 _ fun _=> ?_
 rcases a1P l.length with h0|h0
 ·exact absurd (by rw[h0];rfl) h
 exact h0
theorem aQi {l:List aD}(T:aSH l):Ok (tV N l) fX:=by
 have hn:=T.1
 unfold tV
 refine Ok.bind (P:=fun r=>r.length=l.length∧ ∀h∈r,fX h) ?_ fun r hr=> ?_
 ·refine lp (f:=fun m j s=>gH N l m (j:Int) s) (fun j s=>s.length=j∧ ∀h∈s,fX h) l.length (fun m j s hj hs ih=> ?_) (fun m s hs=> ?_) N 0 [] (by omega) (by omega) ⟨rfl,by simp⟩
  ·unfold gH
   rw[if_pos (dT hj),i1 (by omega)]
   obtain⟨h,hh,e⟩:=aQs N hN (T.2 _ (a1b hj)).k
   refine Ok.eq (aY _ hj) (Ok.eq e (Ok.eq (aX hh.1) (Ok.eq (dG (by omega) (by simp;omega)) (ih _ ⟨by simp[hs.1],fun x hx=> ?_⟩))))
   rcases a1q.1 hx with hx|hx
   ·exact hs.2 x hx
   obtain rfl:=a1h.1 hx;exact hh
  unfold gH
  rw[if_neg (by simp)]
  exact Ok.pure hs
 unfold aAP
 exact Ok.eq (aDk hr.2) (Ok.bind (aTR hN (by omega) hr.2) fun x hx=>Ok.eq (aX hx.1) (Ok.pure hx))
theorem aTi {p:aL}{l:aC}{c:bA}(P:PK p)(L:aX7 l)(C:aSI c){vs:Int}(h:0≤vs∧vs<256):Ok (aE7 N p l c vs) sX:=by
 have hh:=L.h
 unfold aE7
 refine Ok.bind (aXF hN L.n L.c h) fun r hr=> ?_
 rw[cR (a:=l.Height+1) (by omega) (by omega)]
 refine Ok.bind (aPE hN P (by omega)) fun s hs=>Ok.bind (aIC hN (aEc _)) fun sc hsc=> ?_
 rw[cR (a:=s+r.2) (by omega) (by omega)]
 refine Ok.eq (x:=aEG N _ _ _) rfl (Ok.eq (dG (by omega) (by simp;omega)) ?_)
 have T:aSH ([aD.mk 1 [bI.mk (aB.mk (a1d 32 0) 4294967295) (a1z.wrap (l.Height+1)) []] [aW.mk (s+r.2) sc] 0]++r.1):=by
  refine⟨by simp;omega,fun t ht=> ?_⟩
  rcases a1q.1 ht with ht|ht
  ·obtain rfl:=a1h.1 ht
   refine⟨⟨_,rfl,⟨by simp,fun x hx=> ?_⟩,.inl rfl,aX1 _⟩,by simp,fun o ho=> ?_⟩
   ·have:=a1y hx;omega
   obtain rfl:=a1h.1 ho
   exact⟨hsc,by simp only;omega,by simp only;omega⟩
  exact hr.2.1 t ht
 exact Ok.bind (aQi hN T) fun n7 hroot=>Ok.eq (x:=aFH N vs) rfl (Ok.bind (aVN hN P C hroot) fun hd hhd=>Ok.pure ⟨hhd,T,by simp⟩)
theorem aOW {t:aD}(T:TxM t):Ok (g5 N t) fun _=>True:=⟨_,qA N hN T.k.k,trivial⟩
theorem aSB {t:aD}(T:TxM t):Ok (sG N t true) fun r=>r.1.length≤20000:=by
 unfold sG
 refine Ok.eq (qA N hN T.k.k) ?_
 cases hf:pM t.Version t.Inputs t.Outputs t.Lock with
 |false=>exact Ok.pure (by simp)
 |true=>exact Ok.eq (aBQ N hN T.k.k) (Ok.pure (aFQ N hN T.k hf true))
theorem aS3 {b:aH}(B:sX b):Ok (zF N b) fun _=>True:=by
 have hn:=B.t.1
 unfold zF
 refine Ok.ite (fun _=>Ok.pure trivial) fun _=>Ok.lr (R:=fun _=>True) (P:=fun _=>True) ?_ (fun v _=>Ok.pure trivial) fun _ _=> ?_
 ·refine lpU (f:=fun m j=>lB N b m (j:Int)) b.Txs.length (fun m j hj ih=> ?_) (fun m=> ?_) N 0 (by omega) (by omega)
  ·unfold lB
   rw[if_pos (dT hj),i1 (by omega)]
   exact Ok.eq (aY _ hj) (Ok.bind (aOW hN (B.t.2 _ (a1b hj))) fun t _=>Ok.ite (fun _=>Ok.pure trivial) fun _=>ih)
  unfold lB
  rw[if_neg (by simp)]
  exact Ok.pure trivial
 unfold aAI
 refine Ok.bind (P:=fun _=>True) ?_ fun r _=>Ok.pure trivial
 unfold aCh
 refine Ok.eq (aNZ N hN b.Header B.h.p.1 B.h.r.1) (Ok.eq (aG5 N hN _ _ (show b.Txs.length≤1000000 by omega) (by rw[aBg B.h.p.1 B.h.r.1];omega)) ?_)
 refine Ok.bind (P:=fun _=>True) ?_ fun r _=>Ok.pure trivial
 have hz:=kD b.Txs.length
 refine lp (f:=fun m j s=>kW N b m (j:Int) s) (fun j s=>s.length≤100+j*20000) b.Txs.length (fun m j s hj hs ih=> ?_) (fun m s hs=> ?_) N 0 _ (by omega) (by omega) (by rw[a1c,aBg B.h.p.1 B.h.r.1];omega)
 ·unfold kW
  rw[if_pos (dT hj),i1 (by omega)]
  exact Ok.eq (aY _ hj) (Ok.bind (aSB hN (B.t.2 _ (a1b hj))) fun r hr=>Ok.eq (dG (by omega) (by omega)) (ih _ (by rw[a1c];omega)))
 unfold kW
 rw[if_neg (by simp)]
 exact Ok.pure trivial
theorem aCc {t:aD}:Ok (cJ N t) fun _=>True:=by
 unfold cJ
 refine Ok.ite (fun h=> ?_) fun _=>Ok.pure trivial
 have h1:(t.Inputs.length:Int)=1:=by simpa using h
 exact Ok.eq (aY (i:=0) _ (by omega)) (Ok.eq (x:=rM N _) rfl (Ok.pure trivial))
theorem aM4 {t:aD}(T:TxM t):Ok (rU N t) fun _=>True:=by
 obtain⟨x,hi,_⟩:=T.i
 have hni:t.Inputs.length=1:=by rw[hi];rfl
 have hno:=T.n
 unfold rU
 refine Ok.bind (aOW hN T) fun f _=>Ok.ite (fun _=>Ok.pure trivial) fun _=> ?_
 have j3:Ok (sO N t) fun _=>True:=by
  unfold sO
  refine Ok.lr (R:=fun _=>True) (P:=fun _=>True) ?_ (fun v _=>Ok.pure trivial) fun _ _=>Ok.pure trivial
  refine lpU (f:=fun m j=>gQ N t m (j:Int)) t.Inputs.length (fun m j hj ih=> ?_) (fun m=> ?_) N 0 (by omega) (by omega)
  ·have j6: ∀b:Bool,Ok (oP N t (j:Int) (gQ N t m) b) (lrP (fun _=>True) fun _=>True):=fun b=>by
    unfold oP
    rw[i1 (by omega)]
    exact Ok.ite (fun _=>Ok.pure trivial) fun _=>ih
   unfold gQ
   rw[if_pos (dT hj)]
   exact Ok.eq (aY _ hj) (Ok.eq (x:=rM N _) rfl (Ok.ite (fun _=>Ok.bind (aCc hN) fun c _=>j6 _) fun _=>j6 _))
  unfold gQ
  rw[if_neg (by simp)]
  exact Ok.pure trivial
 have j2: ∀s,Ok (sL N t s) fun _=>True:=fun s=>by
  unfold sL
  refine Ok.ite (fun _=>Ok.pure trivial) fun _=>Ok.lr (R:=fun _=>True) (P:=fun _=>True) ?_ (fun v _=>Ok.pure trivial) fun _ _=>j3
  refine lpU (f:=fun m j=>kF N t m (j:Int)) t.Inputs.length (fun m j hj ih=> ?_) (fun m=> ?_) N 0 (by omega) (by omega)
  ·unfold kF yY
   rw[if_pos (dT hj),i1 (by omega)]
   refine Ok.lr (R:=fun _=>True) (P:=fun _=>True) ?_ (fun v _=>Ok.pure trivial) fun _ _=>ih
   refine lpU (f:=fun m i=>oU N t (j:Int) m (i:Int)) j (fun m i hi ih=> ?_) (fun m=> ?_) N 0 (by omega) (by omega)
   ·unfold oU
    rw[if_pos (dT hi),i1 (by omega)]
    exact Ok.eq (aY _ hj) (Ok.eq (aY _ (show i<t.Inputs.length by omega)) (Ok.ite (fun _=>Ok.pure trivial) fun _=>ih))
   unfold oU
   rw[if_neg (by simp)]
   exact Ok.pure trivial
  unfold kF
  rw[if_neg (by simp)]
  exact Ok.pure trivial
 have j1: ∀b,Ok (oW N t b) fun _=>True:=fun b=>by
  unfold oW
  refine Ok.ite (fun _=>Ok.pure trivial) fun _=>Ok.lr (R:=fun _=>True) (P:=fun _=>True) ?_ (fun v _=>Ok.pure trivial) fun _ _=>j2 _
  refine lp (f:=fun m j s=>g7 N t m s (j:Int)) (fun _ _=>True) t.Outputs.length (fun m j s hj _ ih=> ?_) (fun m s _=> ?_) N 0 0 (by omega) (by omega) trivial
  ·unfold g7
   rw[if_pos (dT hj),i1 (by omega)]
   exact Ok.eq (aY _ hj) (Ok.ite (fun _=>Ok.pure trivial) fun _=>ih _ trivial)
  unfold g7
  rw[if_neg (by simp)]
  exact Ok.pure trivial
 exact Ok.ite (fun _=>j1 _) fun _=>j1 _
theorem aOC {ids:List (List Int)}{id:List Int}(h: ∀x∈ids,fX x)(hn:ids.length≤1000)(hi:id.length=32):Ok (vG N ids id) fun _=>True:=by
 unfold vG
 refine Ok.lr (R:=fun _=>True) (P:=fun _=>True) ?_ (fun v _=>Ok.pure trivial) fun _ _=>Ok.pure trivial
 refine lpU (f:=fun m j=>l8 N ids id m (j:Int)) ids.length (fun m j hj ih=> ?_) (fun m=> ?_) N 0 (by omega) (by omega)
 ·unfold l8
  rw[if_pos (dT hj),i1 (by omega)]
  exact Ok.eq (aY _ hj) (Ok.eq (aX (h _ (a1b hj)).1) (Ok.eq (aX hi) (Ok.ite (fun _=>Ok.pure trivial) fun _=>ih)))
 unfold l8
 rw[if_neg (by simp)]
 exact Ok.pure trivial
theorem aRA {b:aH}(B:sX b){ids:List (List Int)}(h: ∀x∈ids,fX x)(hn:ids.length≤1000):Ok (qQ N b ids) fun _=>True:=by
 have hb:=B.t.1
 unfold qQ
 refine Ok.lr (R:=fun _=>True) (P:=fun _=>True) ?_ (fun v _=>Ok.pure trivial) fun _ _=>Ok.pure trivial
 refine lpU (f:=fun m j=>dK N b ids m (j:Int)) b.Txs.length (fun m j hj ih=> ?_) (fun m=> ?_) N 0 (by omega) (by omega)
 ·unfold dK uB
  rw[if_pos (dT hj),i1 (by omega)]
  have T:=B.t.2 _ (a1b hj)
  refine Ok.eq (aY _ hj) (Ok.lr (R:=fun _=>True) (P:=fun _=>True) ?_ (fun v _=>Ok.pure trivial) fun _ _=>ih)
  generalize b.Txs[j]=t at T
  obtain⟨x,hi,hx⟩:=T.i
  have hni:t.Inputs.length=1:=by rw[hi];rfl
  refine lpU (f:=fun m i=>f9 N b ids (j:Int) t m (i:Int)) t.Inputs.length (fun m i hi2 ih=> ?_) (fun m=> ?_) N 0 (by omega) (by omega)
  ·unfold f9
   rw[if_pos (dT hi2),i1 (by omega)]
   have hm:t.Inputs[i]=x:=(show∀y∈t.Inputs,y=x by rw[hi];simp) _ (a1b hi2)
   refine Ok.eq (aY _ hi2) ?_
   rw[hm]
   exact Ok.eq (aX hx.p.1) (Ok.bind (aOC hN h hn hx.p.1) fun k _=>Ok.ite (fun _=>Ok.pure trivial) fun _=>ih)
  unfold f9
  rw[if_neg (by simp)]
  exact Ok.pure trivial
 unfold dK
 rw[if_neg (by simp)]
 exact Ok.pure trivial
theorem aTf {b:aH}(B:sX b):Ok (vH N b) fun _=>True:=by
 have hb:=B.t.1
 unfold vH
 refine Ok.lr (R:=fun _=>True) (P:=fun _=>True) ?_ (fun v _=>Ok.pure trivial) fun _ _=>Ok.pure trivial
 refine lp (f:=fun m j s=>gO N b m (j:Int) s) (fun j s=>s.length≤j) b.Txs.length (fun m j s hj hs ih=> ?_) (fun m s _=> ?_) N 0 [] (by omega) (by omega) (by simp)
 ·unfold gO zB
  rw[if_pos (dT hj),i1 (by omega)]
  have T:=B.t.2 _ (a1b hj)
  refine Ok.eq (aY _ hj) (Ok.lr (R:=fun _=>True) (P:=fun s=>s.length≤j+1) ?_ (fun v _=>Ok.pure trivial) fun s hs=>ih _ hs)
  generalize b.Txs[j]=t at T
  obtain⟨x,hi,hx⟩:=T.i
  have hni:t.Inputs.length=1:=by rw[hi];rfl
  refine lp (f:=fun m i s=>fU N b (j:Int) t m (i:Int) s) (fun i s=>s.length≤j+i) t.Inputs.length (fun m i s hi2 hs ih=> ?_) (fun m s hs=> ?_) N 0 s (by omega) (by omega) (by omega)
  ·unfold fU y7 yX
   rw[if_pos (dT hi2),i1 (by omega)]
   refine Ok.eq (aY _ hi2) (Ok.lr (R:=fun _=>True) (P:=fun _=>True) ?_ (fun v _=>Ok.pure trivial) fun _ _=>Ok.eq (dG (by omega) (by simp;omega)) (ih _ (by simp;omega)))
   refine lpU (f:=fun m k=>iU N b (j:Int) t (i:Int) s t.Inputs[i] m (k:Int)) s.length (fun m k hk ih=> ?_) (fun m=> ?_) N 0 (by omega) (by omega)
   ·unfold iU
    rw[if_pos (dT hk),i1 (by omega)]
    exact Ok.eq (aY _ hk) (Ok.ite (fun _=>Ok.pure trivial) fun _=>ih)
   unfold iU
   rw[if_neg (by simp)]
   exact Ok.pure trivial
  unfold fU
  rw[if_neg (by simp)]
  exact Ok.pure (show s.length≤j+1 by omega)
 unfold gO
 rw[if_neg (by simp)]
 exact Ok.pure trivial
theorem aLJ {b:aH}(B:sX b):Ok (fF N b) fun _=>True:=by
 have hb:=B.t.1
 have j3: ∀ids:List (List Int),(∀x∈ids,fX x)→ids.length≤1000→Ok (oY N b ids) fun _=>True:=fun ids h hn=>by
  unfold oY
  exact Ok.eq (aDk h) (Ok.bind (aRA hN B h hn) fun t _=>Ok.ite (fun _=>Ok.pure trivial) fun _=>Ok.bind (aTf hN B) fun t _=>Ok.ite (fun _=>Ok.pure trivial) fun _=>Ok.bind (aQi hN B.t) fun r hr=>Ok.eq (aX B.h.r.1) (Ok.eq (aX hr.1) (Ok.ite (fun _=>Ok.pure trivial) fun _=>Ok.pure trivial)))
 have j2:Ok (mB N b) fun _=>True:=by
  unfold mB
  refine Ok.lr (R:=fun _=>True) (P:=fun s=>s.length≤4∧ ∀x∈s,fX x) ?_ (fun v _=>Ok.pure trivial) fun s hs=>j3 s hs.2 (by omega)
  refine lp (f:=fun m j s=>iP N b m (j:Int) s) (fun j s=>s.length≤j∧ ∀x∈s,fX x) b.Txs.length (fun m j s hj hs ih=> ?_) (fun m s hs=> ?_) N 0 [] (by omega) (by omega) ⟨by simp,by simp⟩
  ·unfold iP
   rw[if_pos (dT hj),i1 (by omega)]
   obtain⟨h,hh,e⟩:=aQ6 N hN (B.t.2 _ (a1b hj)).k
   refine Ok.eq (aY _ hj) (Ok.eq e (Ok.eq (aX hh.1) (Ok.eq (aDk hs.2) (Ok.bind (aOC hN hs.2 (by omega) hh.1) fun k _=>Ok.ite (fun _=>Ok.pure trivial) fun _=>Ok.eq (dG (by omega) (by simp;omega)) (ih _ ⟨by simp;omega,fun x hx=> ?_⟩)))))
   rcases a1q.1 hx with hx|hx
   ·exact hs.2 x hx
   obtain rfl:=a1h.1 hx;exact hh
  unfold iP
  rw[if_neg (by simp)]
  exact Ok.pure (show s.length≤4∧ ∀x∈s,fX x from⟨by omega,hs.2⟩)
 have j1:Ok (oJ N b) fun _=>True:=by
  unfold oJ
  refine Ok.lr (R:=fun _=>True) (P:=fun _=>True) ?_ (fun v _=>Ok.pure trivial) fun _ _=>j2
  refine lpU (f:=fun m j=>gR N b m (j:Int)) b.Txs.length (fun m j hj ih=> ?_) (fun m=> ?_) N 0 (by omega) (by omega)
  ·unfold gR
   rw[if_pos (dT hj),i1 (by omega)]
   exact Ok.eq (aY _ hj) (Ok.bind (aM4 hN (B.t.2 _ (a1b hj))) fun e _=>Ok.ite (fun _=>Ok.pure trivial) fun _=>ih)
  unfold gR
  rw[if_neg (by simp)]
  exact Ok.pure trivial
 unfold fF
 refine Ok.bind (aS3 hN B) fun f _=>Ok.ite (fun _=>Ok.pure trivial) fun _=>Ok.ite (fun _=>Ok.pure trivial) fun _=> ?_
 refine Ok.lr (R:=fun _=>True) (P:=fun _=>True) ?_ (fun v _=>Ok.pure trivial) fun _ _=>j1
 refine lpU (f:=fun m j=>c8 N b m (j:Int)) b.Txs.length (fun m j hj ih=> ?_) (fun m=> ?_) N 0 (by omega) (by omega)
 ·unfold c8
  rw[if_pos (dT hj),i1 (by omega)]
  exact Ok.eq (aY _ hj) (Ok.bind (aCc hN) fun e _=>Ok.ite (fun _=>Ok.pure trivial) fun _=>ih)
 unfold c8
 rw[if_neg (by simp)]
 exact Ok.pure trivial
end
end Go.Proofs.YtopdhljncajmpaaGreatDoor
set_option maxRecDepth 20000
namespace Go.Proofs.YtopdhljncajmpaaGreatDoor
open Go Go.Vm
def aJ8 (k:Int):List eW:=[⟨1,[k],0,0⟩,⟨5,[],0,0⟩]
theorem aUs (M:Nat)(k k':Int)(v:iG): ∃t:Bool,aFn (M+100) ⟨5,[],0,0⟩ [[k'],[k]] v=some ([if t then [1]else []],0):=by
 refine⟨(gM [k']).toList == (gM [k]).toList, ?_⟩
 have h:y6 (M+100) [k'] [k]=some ((gM [k']).toList == (gM [k]).toList):=rfl
 generalize ((gM [k']).toList == (gM [k]).toList)=t at h⊢
 show((y6 (M+100) [k'] [k]).bind fun x84=>(aHJ (M+100) x84).bind fun x85=>(b9 24 [] [x85]).bind fun x87=>some (x87,0))=_
 rw[h]
 cases t<;>rfl
theorem aTW (M:Nat)(k k':Int)(v:iG):pG (M+100) v (aJ8 k,0) (M+100) [[k']] 0 0=(aFn (M+100) ⟨5,[],0,0⟩ [[k'],[k]] v).bind fun aPD=>
  if aPD.2 != 0 then none else pG (M+100) v (aJ8 k,0) (M+98) aPD.1 2 2:=by rfl
theorem aXQ (M:Nat)(k:Int)(v:iG)(t:Bool):pG (M+100) v (aJ8 k,0) (M+98) [if t then [1]else []] 2 2=some (.brk ([if t then [1]else []],2)):=by rfl
theorem aTw (M:Nat)(k:Int):aHz (M+100) [1,1,k,5]=some (aJ8 k,0):=by rfl
theorem aU7 (M:Nat)(k:Int):aBK (M+100) (aJ8 k)=some true:=by rfl
theorem aVJ (M:Nat)(k:Int):aFa (M+100) [[k]]=some false:=by rfl
theorem aSy (M:Nat)(k:Int):aBv (M+100) [[k]]=some [[k]]:=by rfl
theorem aVH (M:Nat)(k:Int)(v:iG):aEb (M+100) [1,1,k,5] [] v=some ([],0,81):=by rfl
theorem aU6 (M:Nat)(t:Bool):aFi (M+100) (if t then [1]else [])=some t:=by cases t<;>rfl
theorem aXk (M:Nat)(k:Int)(w:List (List Int))(hw:w=[]∨ ∃k':Int,w=[[k']])(v:iG):Ok (nJ (M+100) [1,1,k,5] w v) fun _=>True:=by
 rcases hw with rfl|⟨k',rfl⟩
 ·unfold nJ
  rw[aVH]
  exact Ok.pure trivial
 obtain⟨t,ht⟩:=aUs M k k' v
 have e:aEb (M+100) [1,1,k,5] [[k']] v=some ([if t then [1]else []],2,0):=by
  unfold aEb
  rw[aTw]
  show((aBK (M+100) (aJ8 k)).bind fun x27=>_)=_
  rw[aU7]
  show((aFa (M+100) [[k']]).bind fun x30=>_)=_
  rw[aVJ]
  show((aBv (M+100) [[k']]).bind fun x32=>_)=_
  rw[aSy]
  show((pG (M+100) v (aJ8 k,0) (M+100) [[k']] 0 0).bind fun q=>_)=_
  rw[aTW,ht]
  show((pG (M+100) v (aJ8 k,0) (M+98) [if t then [1]else []] 2 2).bind fun q=>_)=_
  rw[aXQ]
  rfl
 unfold nJ
 rw[e]
 show Ok ((aFi (M+100) (if t then [1]else [])).bind fun x30=>_) _
 rw[aU6]
 cases t<;>exact Ok.pure trivial
theorem aGm {t:aD}(T:TxM t): ∃x,t.Inputs=[x]∧InM x∧t.Inputs.length=1:=by
 obtain⟨x,hi,hx⟩:=T.i
 exact⟨x,hi,hx,by rw[hi];rfl⟩
theorem aQ7 {t:aD}{x:bI}(h:t.Inputs=[x]){i:Nat}(hi:i<t.Inputs.length):t.Inputs[i]=x:=(show∀y∈t.Inputs,y=x by rw[h];simp) _ (a1b hi)
section
variable {N:Nat}(hN:70000≤N)
include hN
theorem aOj {t:aD}(T:TxM t){h:Int}:Ok (aAr N t h) fun _=>True:=by
 obtain⟨x,hi,hx,hl⟩:=aGm T
 unfold aAr
 refine Ok.ite (fun _=>Ok.pure trivial) fun _=>Ok.lr (R:=fun _=>True) (P:=fun _=>True) ?_ (fun v _=>Ok.pure trivial) fun _ _=>Ok.pure trivial
 refine lpU (f:=fun m j=>s8 N t m (j:Int)) t.Inputs.length (fun m j hj ih=> ?_) (fun m=> ?_) N 0 (by omega) (by omega)
 ·unfold s8
  rw[if_pos (dT hj),i1 (by omega)]
  exact Ok.eq (aY _ hj) (Ok.ite (fun _=>Ok.pure trivial) fun _=>ih)
 unfold s8
 rw[if_neg (by simp)]
 exact Ok.pure trivial
theorem aXG {k:Nat}{w:List (List Int)}(hw:w=[]∨ ∃k':Nat,1≤k'∧k'≤6∧w=[[(k':Int)]])(v:iG):Ok (nJ N [1,1,(k:Int),5] w v) fun _=>True:=by
 obtain⟨M,rfl⟩: ∃M,N=M+100:=⟨N-100,by omega⟩
 refine aXk M k w ?_ v
 rcases hw with h|⟨k',_,_,h⟩
 ·exact .inl h
 exact .inr ⟨_,h⟩
theorem aRn {t:aD}(T:TxM t){i:Int}{o:aW}(O:aS7 o):Ok (vA N t i o) fun r=>r.1.length=32∧(i=0→r.2=if pM t.Version t.Inputs t.Outputs t.Lock=true then 0 else 4):=by
 obtain⟨x,hi,hx,hl⟩:=aGm T
 have hno:=T.n
 have z:([0,0,0,0,0,0,0,0,0,0,0,0,0,0,0,0,0,0,0,0,0,0,0,0,0,0,0,0,0,0,0,0]:List Int).length=32:=rfl
 have j4: ∀a b c:List Int,(Byt a∧a.length≤10000)→(Byt b∧b.length≤10000)→(Byt c∧c.length≤10000)→Ok (qE N t i o a b c) fun r=>r.1.length=32∧r.2=0:=by
  intro a b c ha hb hc
  have ho:(aAU o).length≤613:=aNX (by have:=O.1.len;omega)
  have hob:Byt (aAU o):=(aDw _ _).append ((aDr _).append O.1.byt)
  unfold qE
  rw[aCi N hN [] t.Version (by simp)]
  simp only[a1a,a1f]
  rw[zD N hN a ha.1 (by omega)]
  simp only[a1a]
  rw[aMH N hN _ _ (eG _ _) (by rw[b6];omega)]
  simp only[a1a]
  rw[zD N hN b hb.1 (by omega)]
  simp only[a1a]
  rw[aMH N hN _ _ (eG _ _) (by simp only[a1c,b6,eG];omega)]
  simp only[a1a]
  rw[zD N hN c hc.1 (by omega)]
  simp only[a1a]
  rw[aMH N hN _ _ (eG _ _) (by simp only[a1c,b6,eG];omega)]
  simp only[a1a]
  rw[aCi N hN _ _ (by simp only[a1c,b6,eG];omega)]
  simp only[a1a]
  rw[aCi N hN _ _ (by simp only[a1c,b6,eG];omega)]
  simp only[a1a]
  rw[aUX N hN o (by have:=O.1.len;omega)]
  simp only[a1a]
  rw[lY (by simp only[a1c,b6,eG];omega)]
  simp only[a1a]
  rw[aS8 N hN _ (by decide) _ ?_ (by simp only[a1c,b6,eG];omega)]
  ·exact Ok.eq (aX (aNq _ _ _)) (Ok.pure ⟨aNq _ _ _,rfl⟩)
  exact Byt.append (Byt.append (Byt.append (Byt.append (Byt.append (Byt.append (lL _) (nZ _ _)) (nZ _ _)) (nZ _ _)) (lL _)) (lL _)) hob
 have j3: ∀a b:List Int,(Byt a∧a.length≤10000)→(Byt b∧b.length≤10000)→Ok (pA N t i o a b) fun r=>r.1.length=32∧r.2=0:=by
  intro a b ha hb
  unfold pA
  refine Ok.bind (P:=fun c=>Byt c∧c.length≤10000) ?_ fun c hc=>j4 a b c ha hb hc
  refine lp (f:=fun m j s=>pX N t i o a b m (j:Int) s) (fun j s=>Byt s∧s.length≤613*j) t.Outputs.length (fun m j s hj hs ih=> ?_) (fun m s hs=> ?_) N 0 [] (by omega) (by omega) ⟨aLf,by simp⟩
  ·unfold pX
   have O2:=T.o _ (a1b hj)
   have h2:(aAU t.Outputs[j]).length≤613:=aNX (by have:=O2.1.len;omega)
   have hb2:Byt (aAU t.Outputs[j]):=(aDw _ _).append ((aDr _).append O2.1.byt)
   rw[if_pos (dT hj),i1 (by omega)]
   exact Ok.eq (aY _ hj) (Ok.eq (aUX N hN _ (by have:=O2.1.len;omega)) (Ok.eq (lY (by omega)) (ih _ ⟨hs.1.append hb2,by rw[a1c];omega⟩)))
  unfold pX
  rw[if_neg (by simp)]
  exact Ok.pure ⟨hs.1,by omega⟩
 have j2: ∀b,Ok (mE N t i o b) fun r=>r.1.length=32∧(b=false→r.2=0):=by
  intro b
  unfold mE
  refine Ok.ite (fun h=>Ok.pure ⟨z,fun e=>by rw[e]at h;cases h⟩) fun _=>Ok.mono (P:=fun r=>r.1.length=32∧r.2=0) ?_ fun r hr=>⟨hr.1,fun _=>hr.2⟩
  refine Ok.bind (P:=fun s=>(Byt s.1∧s.1.length≤10000)∧Byt s.2∧s.2.length≤10000) ?_ fun s hs=>j3 _ _ hs.1 hs.2
  have:=lp (f:=fun m j (s:List Int×List Int)=>pH N t i o m (j:Int) s.1 s.2) (Q:=fun s=>(Byt s.1∧s.1.length≤10000)∧Byt s.2∧s.2.length≤10000) (fun j s=>(Byt s.1∧s.1.length≤40*j)∧Byt s.2∧s.2.length≤40*j) t.Inputs.length (fun m j s hj hs ih=> ?_) (fun m s hs=> ?_) N 0 ([],[]) (by omega) (by omega) ⟨⟨aLf,by simp⟩,aLf,by simp⟩
  ·exact this
  ·unfold pH
   rw[if_pos (dT hj),i1 (by omega)]
   refine Ok.eq (aY _ hj) ?_
   rw[aQ7 hi hj]
   refine Ok.eq (aTt N hN _ hx.p.1) (Ok.eq (lY ?_) (Ok.eq (aCi N hN _ _ (by have:=hs.2.2;omega)) (ih (_,_) ⟨⟨hs.1.1.append (hx.p.2.append (lL _)), ?_⟩,hs.2.1.append (lL _), ?_⟩)))
   ·have:=hs.1.2;simp only[a1c,b6,hx.p.1];omega
   ·have:=hs.1.2;simp only[a1c,b6,hx.p.1];omega
   have:=hs.2.2;simp only[a1c,b6];omega
  unfold pH
  rw[if_neg (by simp)]
  exact Ok.pure ⟨⟨hs.1.1,by have:=hs.1.2;simp only;omega⟩,hs.2.1,by have:=hs.2.2;simp only;omega⟩
 have j1: ∀b,Ok (jS N t i o b) fun r=>r.1.length=32∧(i=0→r.2=if b=true then 4 else 0):=by
  intro b
  unfold jS
  refine Ok.ite (fun h=>Ok.pure ⟨z,fun _=>by rw[if_pos h]⟩) fun hb=>Ok.ite (fun h=>(j2 _).mono fun r hr=>⟨hr.1,fun hi0=> ?_⟩) fun _=>(j2 _).mono fun r hr=>⟨hr.1,fun hi0=> ?_⟩
  ·have:=of_decide_eq_true h;omega
  rw[if_neg hb];exact hr.2 (decide_eq_false (by omega))
 unfold vA
 refine Ok.eq (qA N hN T.k.k) ?_
 cases pM t.Version t.Inputs t.Outputs t.Lock with
 |false=>exact(j1 true).mono fun r hr=>⟨hr.1,fun h=>by rw[hr.2 h];rfl⟩
 |true=>
  refine Ok.ite (fun h=>by cases h) fun _=>Ok.ite (fun h=> ?_) fun _=>(j1 _).mono fun r hr=>⟨hr.1,fun h=> ?_⟩
  ·have h1:=of_decide_eq_true h;have h2:=O.2.1;omega
  rw[hr.2 h,if_neg (by have:=O.1.len;simp;omega)];rfl
theorem aTX {t:aD}(T:TxM t){i:Nat}(hi:i<t.Inputs.length){c:aA}(C:CoinM c){h:Int}:Ok (aDP N t (i:Int) c h) fun _=>True:=by
 obtain⟨x,hx,hm,hl⟩:=aGm T
 have g:=aQ7 hx hi
 obtain⟨k,_,_,ek⟩:=C.p.1
 have j1: ∀(q:List Int×Int)(b:Bool),Ok (oO N t (i:Int) c h q b) fun _=>True:=by
  intro q b
  unfold oO
  refine Ok.ite (fun _=>Ok.pure trivial) fun _=>Ok.eq (aY _ hi) ?_
  rw[g,ek]
  exact Ok.bind (aXG hN hm.w _) fun e _=>Ok.pure trivial
 unfold aDP
 refine Ok.bind (aRn hN T C.p) fun q hq=>Ok.eq (aX hq.1) (Ok.ite (fun _=>Ok.pure trivial) fun _=>Ok.eq (aY _ hi) (Ok.ite (fun _=>Ok.pure trivial) fun _=> ?_))
 exact Ok.ite (fun _=>j1 _ _) fun _=>Ok.ite (fun _=>j1 _ _) fun _=>j1 _ _
theorem aWZ {t:aD}(T:TxM t){l:List aA}:Ok (aGZ N t l) fun r=>r.2=0→l.length=t.Inputs.length:=by
 obtain⟨x,hx,hm,hl⟩:=aGm T
 have hno:=T.n
 unfold aGZ
 refine Ok.bind (aM4 hN T) fun e _=>Ok.ite (fun he=>Ok.pure fun h0=> ?_) fun _=>Ok.ite (fun _=>Ok.pure fun h0=> ?_) fun hne=> ?_
 ·have h0:e=0:=h0
  rw[h0]at he
  exact absurd he (by decide)
 ·exact absurd h0 (by decide)
 have hlen:l.length=t.Inputs.length:=by
  have:(l.length:Int)=(t.Inputs.length:Int):=by simpa using hne
  omega
 refine Ok.lr (R:=fun _=>True) (P:=fun _=>True) ?_ (fun v _=>Ok.pure fun _=>hlen) fun _ _=> ?_
 ·refine lpU (f:=fun m j=>xB N t l m (j:Int)) l.length (fun m j hj ih=> ?_) (fun m=> ?_) N 0 (by omega) (by omega)
  ·unfold xB
   rw[if_pos (dT hj),i1 (by omega)]
   exact Ok.eq (aY _ hj) (Ok.eq (aY _ (show j<t.Inputs.length by omega)) (Ok.ite (fun _=>Ok.pure trivial) fun _=>ih))
  unfold xB
  rw[if_neg (by simp)]
  exact Ok.pure trivial
 unfold aGx
 refine Ok.lr (R:=fun _=>True) (P:=fun _=>True) ?_ (fun v _=>Ok.pure fun _=>hlen) fun s _=> ?_
 ·refine lp (f:=fun m j s=>mW N t l m s (j:Int)) (fun _ _=>True) l.length (fun m j s hj _ ih=> ?_) (fun m s _=> ?_) N 0 0 (by omega) (by omega) trivial
  ·have j6: ∀b,Ok (xR N t l s (j:Int) l[j] (mW N t l m) b) (lrP (fun _=>True) fun _=>True):=fun b=>by
    unfold xR
    rw[i1 (by omega)]
    exact Ok.ite (fun _=>Ok.pure trivial) fun _=>ih _ trivial
   unfold mW
   rw[if_pos (dT hj)]
   exact Ok.eq (aY _ hj) (Ok.ite (fun _=>j6 _) fun _=>j6 _)
  unfold mW
  rw[if_neg (by simp)]
  exact Ok.pure trivial
 unfold aGy
 refine Ok.ite (fun _=>Ok.pure fun _=>hlen) fun _=>Ok.bind (P:=fun _=>True) ?_ fun s _=> ?_
 ·refine lp (f:=fun m j s=>yE N t m s (j:Int)) (fun _ _=>True) t.Outputs.length (fun m j s hj _ ih=> ?_) (fun m s _=> ?_) N 0 s (by omega) (by omega) trivial
  ·unfold yE
   rw[if_pos (dT hj),i1 (by omega)]
   exact Ok.eq (aY _ hj) (ih _ trivial)
  unfold yE
  rw[if_neg (by simp)]
  exact Ok.pure trivial
 unfold aFK
 exact Ok.ite (fun _=>Ok.pure fun _=>hlen) fun _=>Ok.pure fun _=>hlen
theorem aRl {t:aD}(T:TxM t){l:List aA}(hc: ∀c∈l,CoinM c){h:Int}:Ok (aDQ N t l h) fun _=>True:=by
 obtain⟨x,hx,hm,hl⟩:=aGm T
 unfold aDQ
 refine Ok.bind (aCc hN) fun b _=>Ok.ite (fun _=>Ok.pure trivial) fun _=>Ok.bind (aWZ hN T) fun q hq=>Ok.ite (fun _=>Ok.pure trivial) fun hne=> ?_
 have hlen:=hq (by simpa using hne)
 refine Ok.bind (aOj hN T) fun f _=>Ok.ite (fun _=>Ok.pure trivial) fun _=> ?_
 refine Ok.lr (R:=fun _=>True) (P:=fun _=>True) ?_ (fun v _=>Ok.pure trivial) fun _ _=>Ok.pure trivial
 refine lpU (f:=fun m j=>sR N t l h q m (j:Int)) l.length (fun m j hj ih=> ?_) (fun m=> ?_) N 0 (by omega) (by omega)
 ·unfold sR
  rw[if_pos (dT hj),i1 (by omega)]
  exact Ok.eq (aY _ hj) (Ok.bind (aTX hN T (by omega) (hc _ (a1b hj))) fun e _=>Ok.ite (fun _=>Ok.pure trivial) fun _=>ih)
 unfold sR
 rw[if_neg (by simp)]
 exact Ok.pure trivial
end
def Srt (cs:List aA):Prop:=cs.Pairwise fun a b=>cQ a.Out b.Out<0
structure aWF (h:Int)(c:aA):Prop where
 m:CoinM c
 h:1≤c.Height∧c.Height≤h
structure CsK (h:Int)(n:Nat)(cs:List aA):Prop where
 n:cs.length≤n
 c: ∀c∈cs,aWF h c
 s:Srt cs
structure mI (c:aA):Prop where
 o:fE c.Out
 p:ScrK c.Output.Script
structure CsW (n:Nat)(cs:List aA):Prop where
 n:cs.length≤n
 c: ∀c∈cs,mI c
 s:Srt cs
theorem CsW.ok {n:Nat}{cs:List aA}(K:CsW n cs): ∀c∈cs,fE c.Out:=fun c hc=>(K.c c hc).o
theorem CoinM.w {c:aA}(C:CoinM c):mI c:=⟨C.o,C.p.1⟩
theorem CsK.w {h:Int}{n:Nat}{cs:List aA}(K:CsK h n cs):CsW n cs:=⟨K.n,fun c hc=>(K.c c hc).m.w,K.s⟩
theorem CsK.ok {h:Int}{n:Nat}{cs:List aA}(K:CsK h n cs): ∀c∈cs,fE c.Out:=fun c hc=>(K.c c hc).m.o
theorem aOO : ∀{l m:List Int},iQ m l= - iQ l m
 | [],[]=>rfl
 | [],_::_=>rfl
 |_::_,[]=>rfl
 |a::l,b::m=>by
  unfold iQ
  by_cases h1:a<b
  ·rw[if_pos h1,if_neg (by omega),if_pos h1];rfl
  by_cases h2:b<a
  ·rw[if_pos h2,if_neg h1,if_pos h2]
  rw[if_neg h2,if_neg h1,if_neg h1,if_neg h2];exact aOO
theorem oI (a b:aB):cQ b a= - cQ a b:=aOO
theorem aF7 (o:aB): ∀(cs:List aA)(j:Int),(fI o j cs= -1∧ ∀c∈cs,cQ c.Out o≠0)∨ ∃(k:Nat)(h:k<cs.length),fI o j cs=j+k∧cQ cs[k].Out o=0
 | [],j=> .inl ⟨rfl,by simp⟩
 |c::cs,j=>by
  unfold fI
  by_cases h:cQ c.Out o=0
  ·rw[if_pos h]
   exact .inr ⟨0,by simp,by omega,h⟩
  rw[if_neg h]
  rcases aF7 o cs (j+1)with⟨h1,h2⟩|⟨k,hk,h1,h2⟩
  ·exact .inl ⟨h1,fun d hd=>by rcases a1v.1 hd with rfl|hd;exact h;exact h2 d hd⟩
  exact .inr ⟨k+1,by simpa using hk,by rw[h1];omega,by simpa using h2⟩
theorem aDl {c x:aA}: ∀{l:List aA},x∈qB c l↔x=c∨x∈l
 | []=>by simp[qB]
 |d::ds=>by
  unfold qB
  split
  ·rw[a1v,aDl (l:=ds),a1v]
   constructor
   ·rintro(h|h|h)
    ·exact .inr (.inl h)
    ·exact .inl h
    exact .inr (.inr h)
   rintro(h|h|h)
   ·exact .inr (.inl h)
   ·exact .inl h
   exact .inr (.inr h)
  simp
theorem aMd {c:aA}: ∀{l:List aA},(qB c l).length=l.length+1
 | []=>rfl
 |d::ds=>by
  unfold qB
  split
  ·simp[aMd (l:=ds)]
  simp
theorem aIO {c:aA}(hc:fE c.Out): ∀{l:List aA},(∀d∈l,fE d.Out)→Srt l→(∀d∈l,cQ d.Out c.Out≠0)→Srt (qB c l)
 | [],_,_,_=>by simp[qB,Srt]
 |d::ds,hok,hs,hne=>by
  have hd:=hok d (by simp)
  obtain⟨h1,h2⟩:=a1s.1 hs
  unfold qB
  split
  ·rename_i hlt
   refine a1s.2 ⟨fun x hx=> ?_,aIO hc (fun e he=>hok e (by simp[he])) h2 (fun e he=>hne e (by simp[he]))⟩
   rcases aDl.1 hx with rfl|hx
   ·exact hlt
   exact h1 x hx
  rename_i hge
  have hlt:cQ c.Out d.Out<0:=by
   have:=hne d (by simp)
   rw[oI d.Out c.Out]
   omega
  refine a1s.2 ⟨fun x hx=> ?_,hs⟩
  rcases a1v.1 hx with rfl|hx
  ·exact hlt
  exact uD hc.1 hd.1 (hok x (by simp[hx])).1 hlt (h1 x hx)
def ltB (c d:aA):Bool:=decide (cQ d.Out c.Out<0)
theorem aM0 {c:aA}(hc:fE c.Out): ∀{l:List aA},(∀d∈l,fE d.Out)→Srt l→(l.filter (ltB c)).length≤l.length∧l.filter (ltB c)++[c]++l.drop (l.filter (ltB c)).length=qB c l
 | [],_,_=>⟨by simp,rfl⟩
 |d::ds,hok,hs=>by
  have hd:=hok d (by simp)
  obtain⟨h1,h2⟩:=a1s.1 hs
  obtain⟨i1,i2⟩:=aM0 hc (l:=ds) (fun e he=>hok e (by simp[he])) h2
  refine⟨List.length_filter_le _ _, ?_⟩
  unfold qB
  by_cases h:cQ d.Out c.Out<0
  ·rw[if_pos h,a2a (by exact decide_eq_true h),a1r,List.drop_succ_cons,←i2]
   simp
  have he:(d::ds).filter (ltB c)=[]:=by
   rw[List.filter_eq_nil_iff]
   intro x hx
   rcases a1v.1 hx with rfl|hx
   ·simpa[ltB]using h
   intro hq
   exact h (uD hd.1 (hok x (by simp[hx])).1 hc.1 (h1 x hx) (of_decide_eq_true hq))
  rw[if_neg h,he]
  simp
section
variable {N:Nat}(hN:70000≤N)
include hN
theorem aT2 {c:aA}(C:mI c):oK N c=some c:=by
 unfold oK
 rw[aMm hN (by simp) (fun x hx=>by simp at hx;subst hx;have:=C.p.len;omega)]
 simp
theorem aTY {n:Nat}{cs:List aA}(K:CsW n cs)(hn:n≤900){c:aA}(C:mI c):t7 N cs c=some (qB c cs):=by
 have hk:=K.n
 have:Ok (t7 N cs c) fun r=>r=qB c cs:=by
  unfold t7
  refine Ok.bind (P:=fun r=>r=cs.filter (ltB c)) ?_ fun r hr=> ?_
  ·refine lp (f:=fun m j s=>nR N cs c m (j:Int) s) (fun j s=>s=(cs.take j).filter (ltB c)∧s.length≤j) cs.length (fun m j s hj hs ih=> ?_) (fun m s hs=> ?_) N 0 [] (by omega) (by omega) ⟨by simp,by simp⟩
   ·unfold nR aAM
    rw[if_pos (dT hj),i1 (by omega)]
    have o1:=K.ok _ (a1b hj)
    refine Ok.eq (aY _ hj) (Ok.eq (aPC hN o1.1 C.o.1) (Ok.ite (fun hc=> ?_) fun hc=> ?_))
    ·refine Ok.eq (dG (by omega) (by simp;omega)) (ih _ ⟨?_,by simp;omega⟩)
     rw[a1p hj,a2s,←hs.1,a2a (by exact hc)]
     rfl
    refine ih _ ⟨?_,by omega⟩
    rw[a1p hj,a2s,←hs.1,List.filter_cons_of_neg (by exact hc)]
    simp
   unfold nR
   rw[if_neg (by simp)]
   refine Ok.pure ?_
   rw[hs.1,a1W]
  subst hr
  obtain⟨h1,h2⟩:=aM0 C.o K.ok K.s
  unfold aES
  refine Ok.eq (aT2 hN C) (Ok.eq (dG (by omega) (by simp only[a1r,a1O];omega)) (Ok.eq (z8 h1 (a1C _)) (Ok.eq (dG (by omega) ?_) (Ok.pure ?_))))
  ·simp only[a1c,a1r,a1O,List.length_drop,a1X];omega
  rw[a1W];exact h2
 obtain⟨r,e,rfl⟩:=this
 exact e
theorem aVz {c:aA}(C:CoinM c):oK N c=some c:=aT2 hN C.w
theorem aUq {h:Int}{n:Nat}{cs:List aA}(K:CsK h n cs)(hn:n≤900){c:aA}(C:CoinM c):t7 N cs c=some (qB c cs):=aTY hN K.w hn C.w
theorem aMA {h:Int}{n:Nat}{cs:List aA}(K:CsK h n cs)(hn:n≤900){o:aB}(ho:fE o):kX N cs o=some (fI o 0 cs):=
 aNe hN (by have:=K.n;omega) K.ok ho
theorem aRd {h:Int}{n:Nat}{cs:List aA}(K:CsK h n cs)(hn:n≤900){k:Nat}(hk:k<cs.length):Ok (lE N cs (k:Int)) (CsK h n):=by
 have hl:=K.n
 unfold lE
 rw[i1 (by omega)]
 refine Ok.eq (z8 (a:=0) (a2o k) (by omega)) (Ok.eq (dG (by omega) (by simp;omega)) (Ok.eq (z8 (show k+1≤cs.length by omega) (a1C _)) (Ok.eq (dG (by omega) (by simp;omega)) (Ok.pure ?_))))
 have e:[]++(cs.take k).drop 0++(cs.take cs.length).drop (k+1)=cs.eraseIdx k:=by
  rw[List.eraseIdx_eq_take_drop_succ,a1W];simp
 rw[e]
 have sl:=List.eraseIdx_sublist cs k
 exact⟨a1U sl.length_le hl,fun c hc=>K.c c (sl.subset hc),List.Pairwise.sublist sl K.s⟩
structure aWm (h:Int)(r:List aA):Prop where
 n:r.length≤2
 c: ∀c∈r,CoinM c∧c.Height=h
 d:r.Pairwise fun a b=>a.Out.Index≠b.Out.Index
theorem aQc {t:aD}(T:TxM t){h:Int}:Ok (iM N t h) (aWm h):=by
 have hno:=T.n
 obtain⟨id,hid,e⟩:=aQ6 N hN T.k
 unfold iM
 refine Ok.eq e (Ok.eq (aX hid.1) (Ok.bind (P:=aWm h) ?_ fun r hr=>Ok.pure hr))
 refine lp (f:=fun m j s=>jV N t h id m (j:Int) s) (fun j s=>s.length=j∧(∀c∈s,(CoinM c∧c.Height=h)∧c.Out.Index<j)∧s.Pairwise fun a b=>a.Out.Index≠b.Out.Index) t.Outputs.length (fun m j s hj hs ih=> ?_) (fun m s hs=> ?_) N 0 [] (by omega) (by omega) ⟨rfl,by simp,a18⟩
 ·obtain⟨h1,h2,h3⟩:=hs
  unfold jV
  rw[if_pos (dT hj),i1 (by omega),aG0 j (by omega)]
  refine Ok.eq (aY _ hj) (Ok.bind (aCc hN) fun cb _=>Ok.eq (dG (by omega) (by simp;omega)) (ih _ ⟨by simp[h1],fun c hc=> ?_, ?_⟩))
  ·rcases a1q.1 hc with hc|hc
   ·exact⟨(h2 c hc).1,by have:=(h2 c hc).2;omega⟩
   obtain rfl:=a1h.1 hc
   exact⟨⟨⟨hid,T.o _ (a1b hj)⟩,rfl⟩,by simp only;omega⟩
  refine List.pairwise_append.2 ⟨h3,List.pairwise_singleton _ _,fun a ha b hb=> ?_⟩
  obtain rfl:=a1h.1 hb
  have:=(h2 a ha).2
  simp only
  omega
 unfold jV
 rw[if_neg (by simp)]
 exact Ok.pure ⟨by omega,fun c hc=>(hs.2.1 c hc).1,hs.2.2⟩
theorem aXo {h:Int}{n:Nat}{cs:List aA}(K:CsK h n cs)(hn:n≤800)(h1:1≤h){t:aD}(T:TxM t):Ok (aGU N cs t h) fun r=>r.2=0→CsK h (n+2) r.1:=by
 have hk:=K.n
 obtain⟨outs,e,O⟩:=aQc hN T (h:=h)
 have ho:=O.n
 unfold aGU
 refine Ok.eq e (Ok.lr (R:=fun v=>v.2≠0) (P:=fun _=> ∀o∈outs,∀c∈cs,cQ c.Out o.Out≠0) ?_ (fun v hv=>Ok.pure fun h0=>absurd h0 hv) fun _ hnf=> ?_)
 ·refine lp (f:=fun m j (_:Unit)=>xP N cs t h outs m (j:Int)) (fun j _=> ∀i,(hi:i<outs.length)→i<j→ ∀c∈cs,cQ c.Out outs[i].Out≠0) outs.length (fun m j _ hj hs ih=> ?_) (fun m _ hs=> ?_) N 0 () (by omega) (by omega) (fun i _ h=>by omega)
  ·unfold xP
   rw[if_pos (dT hj),i1 (by omega)]
   refine Ok.eq (aY _ hj) (Ok.eq (aMA hN K (by omega) (O.c _ (a1b hj)).1.o) (Ok.ite (fun _=>Ok.pure (show(91:Int)≠0 by decide)) fun hneg=>ih () fun i hi hij=> ?_))
   by_cases hij':i<j
   ·exact hs i hi hij'
   obtain rfl:i=j:=by omega
   rcases aF7 outs[i].Out cs 0 with⟨_,h2⟩|⟨k,hk,h2,_⟩
   ·exact h2
   exfalso
   apply hneg
   rw[h2]
   exact decide_eq_true (by omega)
  unfold xP
  rw[if_neg (by simp)]
  refine Ok.pure fun o ho2 c hc=> ?_
  obtain⟨i,hi,rfl⟩:=List.getElem_of_mem ho2
  exact hs i hi hi c hc
 unfold aF3
 refine Ok.eq e (Ok.bind (P:=fun r=>CsK h (n+2) r) ?_ fun r hr=>Ok.pure fun _=>hr)
 refine lp (f:=fun m j s=>xK N outs m s (j:Int)) (fun j s=>CsK h (n+j) s∧ ∀c∈s,c∈cs∨ ∃(i:Nat)(hi:i<outs.length),i<j∧c=outs[i]) outs.length (fun m j s hj hs ih=> ?_) (fun m s hs=> ?_) N 0 cs (by omega) (by omega) ⟨K,fun c hc=> .inl hc⟩
 ·unfold xK
  rw[if_pos (dT hj),i1 (by omega)]
  have oj:=O.c _ (a1b hj)
  refine Ok.eq (aY _ hj) (Ok.eq (aUq hN hs.1 (by omega) oj.1) (ih _ ⟨⟨by rw[aMd];have:=hs.1.n;omega,fun c hc=> ?_,aIO oj.1.o hs.1.ok hs.1.s fun d hd=> ?_⟩,fun c hc=> ?_⟩))
  ·rcases aDl.1 hc with rfl|hc
   ·exact⟨oj.1,by have:=oj.2;omega⟩
   exact hs.1.c c hc
  ·rcases hs.2 d hd with hd2|⟨i,hi,hij,rfl⟩
   ·exact hnf _ (a1b hj) d hd2
   intro h0
   have e2:=mQ (O.c _ (a1b hi)).1.o.1 oj.1.o.1 h0
   have:=List.pairwise_iff_getElem.1 O.d i j hi hj hij
   rw[e2]at this
   exact this rfl
  rcases aDl.1 hc with rfl|hc
  ·exact .inr ⟨j,hj,by omega,rfl⟩
  rcases hs.2 c hc with h2|⟨i,hi,hij,e3⟩
  ·exact .inl h2
  exact .inr ⟨i,hi,by omega,e3⟩
 unfold xK
 rw[if_neg (by simp)]
 exact Ok.pure ⟨by have:=hs.1.n;omega,hs.1.c,hs.1.s⟩
theorem aTq {p:aL}{h:Int}{n:Nat}{cs:List aA}(K:CsK h n cs)(hn:n≤800){t:aD}(T:TxM t):Ok (aDF N p cs t h) fun r=>r.2=0→ ∃c∈cs,r.1=[c]:=by
 obtain⟨x,hx,hm,hl⟩:=aGm T
 unfold aDF
 refine Ok.lr (R:=fun v=>v.2≠0) (P:=fun s=> ∃c∈cs,s=[c]) ?_ (fun v hv=>Ok.pure fun h0=>absurd h0 hv) fun s hs=> ?_
 ·refine lp (f:=fun m j s=>s0 N p cs t h m (j:Int) s) (fun j s=>(j=0∧s=[])∨(j=1∧ ∃c∈cs,s=[c])) t.Inputs.length (fun m j s hj hs ih=> ?_) (fun m s hs=> ?_) N 0 [] (by omega) (by omega) (.inl ⟨rfl,rfl⟩)
  ·unfold s0
   rw[if_pos (dT hj),i1 (by omega)]
   have hs':s=[]:=by
    rcases hs with⟨_,h⟩|⟨h,_⟩
    ·exact h
    omega
   refine Ok.eq (aY _ hj) ?_
   rw[aQ7 hx hj]
   refine Ok.eq (aMA hN K (by omega) hm.p) (Ok.ite (fun _=>Ok.pure (show(101:Int)≠0 by decide)) fun hneg=> ?_)
   rcases aF7 x.Prev cs 0 with⟨h2,_⟩|⟨k,hk,h2,_⟩
   ·exfalso
    apply hneg
    rw[h2]
    rfl
   rw[h2,show(0:Int)+(k:Int)=(k:Int) by omega]
   refine Ok.eq (aY _ hk) (Ok.eq (aVz hN (K.c _ (a1b hk)).m) (Ok.eq (dG (by omega) (by rw[hs'];simp)) (ih _ (.inr ⟨by omega,_,a1b hk,by rw[hs'];rfl⟩))))
  unfold s0
  rw[if_neg (by simp)]
  rcases hs with⟨h0,_⟩|⟨_,h⟩
  ·omega
  exact Ok.pure h
 unfold aDj
 obtain⟨c,hc,rfl⟩:=hs
 refine Ok.lr (R:=fun v=>v.2≠0) (P:=fun _=>True) ?_ (fun v hv=>Ok.pure fun h0=>absurd h0 hv) fun _ _=>Ok.pure fun _=>⟨c,hc,rfl⟩
 refine lpU (f:=fun m j=>kC N p h [c] m (j:Int)) 1 (fun m j hj ih=> ?_) (fun m=> ?_) N 0 (by omega) (by omega)
 ·have j4: ∀b,Ok (sV N p h [c] (j:Int) (kC N p h [c] m) b) (lrP (fun v=>v.2≠0) fun _=>True):=fun b=>by
   unfold sV
   rw[i1 (by omega)]
   exact Ok.ite (fun _=>Ok.pure (show(230:Int)≠0 by decide)) fun _=>ih
  unfold kC
  rw[if_pos (dT (show j< [c].length from hj))]
  exact Ok.eq (aY _ (show j< [c].length from hj)) (Ok.ite (fun _=>j4 _) fun _=>j4 _)
 unfold kC
 rw[if_neg (by simp)]
 exact Ok.pure trivial
theorem aOP {l:List aA}(hl:l.length≤1000):Ok (aAl N l) fun _=>True:=by
 unfold aAl
 refine Ok.bind (P:=fun _=>True) ?_ fun _ _=>Ok.pure trivial
 refine lp (f:=fun m j s=>sQ N l m s (j:Int)) (fun _ _=>True) l.length (fun m j s hj _ ih=> ?_) (fun m s _=> ?_) N 0 0 (by omega) (by omega) trivial
 ·unfold sQ
  rw[if_pos (dT hj),i1 (by omega)]
  exact Ok.eq (aY _ hj) (ih _ trivial)
 unfold sQ
 rw[if_neg (by simp)]
 exact Ok.pure trivial
end
structure LedK (n:Nat)(l:aC):Prop where
 t:fX l.Tip
 h:0≤l.Height∧l.Height≤n
 c:CsK l.Height (8*n) l.Coins
structure CtxJ (n:Nat)(c:bA):Prop where
 h:fX c.Hash
 b:uZ c.Bits
 t:c.Times.length≤n+1
 hh:0≤c.Height∧c.Height≤n
theorem CsK.up {h k:Int}{n m:Nat}{cs:List aA}(K:CsK h n cs)(h1:h≤k)(h2:n≤m):CsK k m cs:=
 ⟨a1U K.n h2,fun c hc=>⟨(K.c c hc).m,by have:=(K.c c hc).h;omega⟩,K.s⟩
theorem LedK.up {n m:Nat}{l:aC}(L:LedK n l)(h:n≤m):LedK m l:=⟨L.t,by have:=L.h;omega,L.c.up (by omega) (by omega)⟩
theorem CtxJ.up {n m:Nat}{c:bA}(C:CtxJ n c)(h:n≤m):CtxJ m c:=⟨C.h,C.b,by have:=C.t;omega,by have:=C.hh;omega⟩
theorem LedK.m {n:Nat}{l:aC}(L:LedK n l)(h:n≤50):aX7 l:=⟨by have:=L.c.n;omega,fun c hc=>(L.c.c c hc).m,by have:=L.h;omega,L.t⟩
theorem CtxJ.k {n:Nat}{c:bA}(C:CtxJ n c)(h:n≤50):aSI c:=⟨C.h,C.b,by have:=C.t;omega,by have:=C.hh;omega⟩
section
variable {N:Nat}(hN:70000≤N)
include hN
theorem aTF {p:aL}{l:aC}{b:aH}{n:Nat}(P:PK p)(L:LedK n l)(hn:n≤50)(B:sX b):Ok (aAg N p l b) fun _=>True:=by
 have j1: ∀t,Ok (sZ N l b t) fun _=>True:=fun t=>by
  unfold sZ
  have T:=B.t.2 _ (a1b B.n)
  obtain⟨x,hx,hm,hl⟩:=aGm T
  refine Ok.ite (fun _=>Ok.pure trivial) fun _=>Ok.ite (fun _=>Ok.pure trivial) fun _=>Ok.eq (aX B.h.p.1) (Ok.eq (aX L.t.1) (Ok.ite (fun _=>Ok.pure trivial) fun _=>Ok.bind (aLJ hN B) fun e _=>Ok.ite (fun _=>Ok.pure trivial) fun _=> ?_))
  exact Ok.eq (aY (i:=0) _ B.n) (Ok.eq (aY (i:=0) _ (by omega)) (Ok.ite (fun _=>Ok.pure trivial) fun _=>Ok.bind (aOj hN T) fun f _=>Ok.ite (fun _=>Ok.pure trivial) fun _=>Ok.pure trivial))
 unfold aAg
 exact Ok.bind (aBk hN P) fun t _=>Ok.ite (fun _=>j1 _) fun _=>Ok.eq (aPK hN (by have:=L.c.n;omega) L.c.ok) (j1 _)
def aMw (u:aM):Prop:=u.Spent.length≤4∧ ∀c∈u.Spent,CoinM c
theorem aRf {p:aL}{l:aC}{b:aH}{n:Nat}(P:PK p)(L:LedK n l)(hn:n≤50)(B:sX b):Ok (aAH N p l b) fun r=>r.2.2=0→LedK (n+1) r.1∧aMw r.2.1:=by
 have hh:=L.h
 have hb:=B.t.1
 have hw:a1k.wrap (l.Height+1)=l.Height+1:=cR (by omega) (by omega)
 unfold aAH
 rw[hw]
 refine Ok.bind (aTF hN P L hn B) fun e _=>Ok.ite (fun he=>Ok.pure fun h0=>absurd h0 (by simpa using he)) fun _=>Ok.bind (aGI hN B.h) fun hs hhs=>Ok.eq (aX hhs.1) (Ok.bind (aPE hN P (by omega)) fun sb _=> ?_)
 refine Ok.lr (R:=fun v=>v.2.2≠0) (P:=fun s=>CsK (l.Height+1) (8*n+8) s.2.1∧aMw ⟨s.2.2⟩) ?_ (fun v hv=>Ok.pure fun h0=>absurd h0 hv) fun s hs2=> ?_
 ·have:=lp (f:=fun m j (s:Int×List aA×List aA)=>fH N p l b hs m s.1 (j:Int) s.2.1 s.2.2) (Q:=lrP (fun v=>v.2.2≠0) fun s=>CsK (l.Height+1) (8*n+8) s.2.1∧aMw ⟨s.2.2⟩)
   (fun j s=>CsK (l.Height+1) (8*n+2*j) s.2.1∧s.2.2.length≤j∧ ∀c∈s.2.2,CoinM c) b.Txs.length (fun m j s hj hs' ih=> ?_) (fun m s hs'=> ?_) N 0 (sb,l.Coins,[]) (by omega) (by omega) ⟨L.c.up (by omega) (by omega),by simp,by simp⟩
  ·exact this
  ·obtain⟨most,c4,l6⟩:=s
   obtain⟨K,hl6,hm6⟩:CsK (l.Height+1) (8*n+2*j) c4∧l6.length≤j∧ ∀c∈l6,CoinM c:=hs'
   have T:=B.t.2 _ (a1b hj)
   have j3: ∀(mo:Int)(c u:List aA),CsK (l.Height+1) (8*n+2*j) c→u.length≤j+1→(∀c∈u,CoinM c)→Ok (qD N p l b hs (j:Int) b.Txs[j] (fH N p l b hs m) mo c u) (lrP (fun v=>v.2.2≠0) fun s=>CsK (l.Height+1) (8*n+8) s.2.1∧aMw ⟨s.2.2⟩):=by
    intro mo c u hc hu hum
    unfold qD
    rw[hw,i1 (by omega)]
    refine Ok.bind (aXo hN hc (by omega) (by omega) T) fun r hr=>Ok.ite (fun he=>Ok.pure (show r.2≠0 by simpa using he)) fun he=> ?_
    exact ih (mo,r.1,u) ⟨(hr (by simpa using he)).up (a19 _) (by omega),hu,hum⟩
   show Ok (fH N p l b hs (m+1) most (j:Int) c4 l6) _
   unfold fH
   rw[if_pos (dT hj),hw]
   refine Ok.eq (aY _ hj) (Ok.ite (fun _=> ?_) fun _=>j3 _ _ _ K (by omega) hm6)
   refine Ok.bind (aTq hN K (by omega) T) fun r hr=>Ok.ite (fun he=>Ok.pure (show r.2≠0 by simpa using he)) fun he=> ?_
   obtain⟨c,hc,ec⟩:=hr (by simpa using he)
   refine Ok.bind (aRl hN T (l:=r.1) (fun d hd=>by rw[ec]at hd;obtain rfl:=a1h.1 hd;exact(K.c _ hc).m)) fun q _=>Ok.ite (fun he2=>Ok.pure (show q.2≠0 by simpa using he2)) fun _=> ?_
   have hrl:r.1.length=1:=by rw[ec];rfl
   refine Ok.bind (P:=fun c'=>CsK (l.Height+1) (8*n+2*j) c') ?_ fun c' hc'=> ?_
   ·refine lp (f:=fun m i s=>pE N p l b hs most (j:Int) l6 b.Txs[j] r q m (i:Int) s) (fun i s=>(i=0∧s=c4)∨(i=1∧CsK (l.Height+1) (8*n+2*j) s)) r.1.length (fun m i s hi hs2 ih=> ?_) (fun m s hs2=> ?_) N 0 c4 (by omega) (by omega) (.inl ⟨rfl,rfl⟩)
    ·have hs3:s=c4:=by
      rcases hs2 with⟨_,h⟩|⟨h,_⟩
      ·exact h
      omega
     subst hs3
     unfold pE
     rw[if_pos (dT hi),i1 (by omega)]
     have hg:r.1[i]=c:=(show∀y∈r.1,y=c by rw[ec];simp) _ (a1b hi)
     refine Ok.eq (aY _ hi) ?_
     rw[hg]
     refine Ok.eq (aMA hN K (by omega) (K.ok c hc)) ?_
     rcases aF7 c.Out s 0 with⟨_,h2⟩|⟨k,hk,h2,_⟩
     ·exact absurd (qU _) (h2 c hc)
     rw[h2,show(0:Int)+(k:Int)=(k:Int) by omega]
     exact Ok.bind (aRd hN K (by omega) hk) fun s' hs'=>ih _ (.inr ⟨by omega,hs'⟩)
    unfold pE
    rw[if_neg (by simp)]
    rcases hs2 with⟨h,_⟩|⟨_,h⟩
    ·omega
    exact Ok.pure h
   unfold aA9
   exact Ok.eq (dG (by omega) (by omega)) (j3 _ _ _ hc' (by rw[a1c];omega) fun d hd=>by
    rcases a1q.1 hd with hd|hd
    ·exact hm6 d hd
    rw[ec]at hd;obtain rfl:=a1h.1 hd;exact(K.c _ hc).m)
  unfold fH
  rw[if_neg (by simp)]
  exact Ok.pure (show CsK (l.Height+1) (8*n+8) s.2.1∧aMw ⟨s.2.2⟩from⟨hs'.1.up (a19 _) (by omega),a1U hs'.2.1 hb,hs'.2.2⟩)
 unfold aBb
 rw[hw]
 have T:=B.t.2 _ (a1b B.n)
 have nz: ∀(l':aC)(u:aM)(k:Int),k≠0→Ok (some (l',u,k)) fun r=>r.2.2=0→LedK (n+1) r.1∧aMw r.2.1:=fun l' u k hk=>Ok.pure fun h0=>absurd h0 hk
 refine Ok.eq (aY (i:=0) _ B.n) (Ok.bind (aQc hN T) fun o ho=>Ok.bind (aOP hN (by have:=ho.n;omega)) fun t1 _=>Ok.ite (fun _=>nz _ _ _ (by decide)) fun _=>Ok.bind (aOP hN (by have:=hs2.1.n;omega)) fun t2 _=>Ok.ite (fun _=>nz _ _ _ (by decide)) fun _=>Ok.ite (fun _=>nz _ _ _ (by decide)) fun _=>Ok.pure fun _=> ?_)
 exact⟨⟨hhs,by simp only;omega,hs2.1.up (a19 _) (by omega)⟩,hs2.2⟩
theorem aRN {p:aL}{c:bA}{h:bV}{n:Nat}(P:PK p)(C:CtxJ n c)(hn:n≤50)(H:HdK h):Ok (uU N p c h) fun r=>CtxJ (n+1) r.1:=by
 have z:CtxJ (n+1) (bA.mk 0 (a1d 32 0) 0 0 []):=⟨⟨rfl,fun x hx=>by have:=a1y hx;omega⟩,w0,by simp,by simp only;omega⟩
 have ct:=C.t
 have chh:=C.hh
 unfold uU
 refine Ok.bind (P:=fun _=>True) ?_ fun f _=>Ok.ite (fun _=>Ok.pure z) fun _=>Ok.ite (fun _=>Ok.pure z) fun _=>Ok.bind (aGI hN H) fun hs hhs=>Ok.eq (aX hhs.1) ?_
 ·unfold aI7 qN
  exact Ok.bind (aBk hN P) fun t _=>Ok.ite (fun _=>Ok.ite (fun _=>Ok.ite (fun _=>Ok.pure trivial) fun _=>Ok.pure trivial) fun _=>Ok.pure trivial) fun _=>Ok.pure trivial
 have j1: ∀f,Ok (pY N c h hs f) fun r=>CtxJ (n+1) r.1:=fun f=>by
  unfold pY tS
  rw[cR (by omega) (by omega)]
  refine Ok.eq (dG (by omega) (by simp;omega)) (Ok.eq (dG (by omega) (by simp;omega)) (Ok.ite (fun hc=> ?_) fun _=>Ok.pure ⟨hhs,H.b,by simp;omega,by simp only;omega⟩))
  have hc':=of_decide_eq_true hc
  refine Ok.eq (z8 (a:=1) (by simp at hc'⊢) (a1C _)) (Ok.pure ⟨hhs,H.b,by simp;omega,by simp only;omega⟩)
 have hw:=P.win
 have hr: ∃y,rem (a1k.wrap (c.Height+1)) p.Window=some y:=by
  unfold rem;rw[if_neg (by omega)];exact⟨_,rfl⟩
 obtain⟨y,hy⟩:=hr
 exact Ok.eq hy (Ok.ite (fun _=>j1 _) fun _=>j1 _)
theorem aRp {p:aL}{c:bA}{h:bV}{n:Nat}{now:Int}(P:PK p)(C:CtxJ n c)(hn:n≤50)(H:HdK h):Ok (aDB N p c h now) fun _=>True:=by
 unfold aDB
 refine Ok.bind (aRN hN P C hn H) fun a ha=>Ok.ite (fun _=>Ok.pure trivial) fun _=>Ok.eq (aX H.p.1) (Ok.eq (aX C.h.1) (Ok.ite (fun _=>Ok.pure trivial) fun _=>Ok.ite (fun _=>Ok.pure trivial) fun _=>Ok.bind (aQ9 hN P (C.k hn)) fun q _=>Ok.ite (fun _=>Ok.pure trivial) fun _=>Ok.ite (fun _=>Ok.pure trivial) fun _=>Ok.eq (aX ha.h.1) (Ok.bind (aOm hN ha.h.1 H.b) fun m _=>Ok.ite (fun _=>Ok.pure trivial) fun _=>Ok.bind (aMV hN (by have:=C.t;omega)) fun md _=>Ok.ite (fun _=>Ok.pure trivial) fun _=>Ok.ite (fun _=>Ok.pure trivial) fun _=> ?_)))
 refine Ok.lr (R:=fun _=>True) (P:=fun _=>True) ?_ (fun v _=>Ok.pure trivial) fun _ _=>Ok.pure trivial
 refine lpU (f:=fun m j=>oS N p a m (j:Int)) 0 (fun m j hj ih=>absurd hj (by omega)) (fun m=> ?_) N 0 (by omega) (by omega)
 unfold oS
 rw[if_neg (by rw[P.chk];simp)]
 exact Ok.pure trivial
theorem aSG {v:Int}(h:0≤v∧v<256):Ok (aDM N v) PK:=by
 obtain⟨M,rfl⟩: ∃M,N=M+300:=⟨N-300,by omega⟩
 unfold aDM
 have e1: ∀x∈a1d 32 (0:Int),0≤x∧x<256:=fun x hx=>by have:=a1y hx;omega
 have e2:tN (M+300) [18446744073709551615,18446744073709551615,18446744073709551615,18446744073709551615] 1=some [18446744073709551615,18446744073709551615,18446744073709551615,9223372036854775807]:=by kernel_rfl
 obtain⟨n,rfl⟩: ∃n:Nat,v=(n:Int):=⟨v.toNat,by omega⟩
 rw[show a1S (n:Int) 5=((n%5:Nat):Int)from lP n 5,show a1S (n:Int) 3=((n%3:Nat):Int)from lP n 3,cR (a:=((n%5:Nat):Int)) (by omega) (by omega),cR (a:=((n%3:Nat):Int)) (by omega) (by omega),cR (by omega) (by omega),cR (by omega) (by omega)]
 refine Ok.eq (a:=[18446744073709551615,18446744073709551615,18446744073709551615,18446744073709551615]) rfl (Ok.eq e2 (Ok.eq (x:=bH 4 _) rfl (Ok.pure ⟨rfl,rfl,rfl,rfl, ?_,⟨show(1:Int)≤5 by decide,show(5:Int)≤1048576 by decide⟩, ?_, ?_,⟨rfl,e1⟩,⟨rfl,e1⟩⟩)))
 ·show 1≤3+((n%5:Nat):Int)∧3+((n%5:Nat):Int)≤4096
  omega
 ·show 1≤4+((n%3:Nat):Int)∧4+((n%3:Nat):Int)≤100
  omega
 show 0≤((n%3:Nat):Int)∧((n%3:Nat):Int)≤100
 omega
structure aAh (j:Nat)(w:aV):Prop where
 p:PK w.Params
 b:w.Blocks.length≤j
 u:w.Undos.length≤j
 ln:0<w.Ledgers.length∧w.Ledgers.length≤j+1
 l: ∀l∈w.Ledgers,LedK j l
 cn:0<w.Contexts.length∧w.Contexts.length≤j+1
 c: ∀c∈w.Contexts,CtxJ j c
end
theorem a0t (n:Nat)(h:n<256):zV 1 (n:Int)=[a1u.wrap (n:Int)]:=by
 simp[zV,shV,a2g]
section
variable (N:Nat)(hN:70000≤N)
include hN
theorem a0T (b:List Int)(v:Int)(h:b.length≤40000000):rJ N b v=some (b++aSE v):=by
 simp only[rJ,show(8:Int)=((8:Nat):Int)from rfl,aKv N hN _ 8 (by omega),a1a]
 rw[rI N _ _ (by rw[kM];omega)];rfl
theorem aMP (b:List Int)(n:Nat)(hn:n≤1000000)(h:b.length≤30000000):iJ N b (a1t.wrap (n:Int))=some (b++szB n):=by
 rw[wu .u64 n rfl (by simp[a1T];omega)]
 unfold iJ szB
 by_cases h1:n<253
 ·have e1:decide ((n:Int)<253)=true:=decide_eq_true (by omega)
  rw[e1,if_pos rfl,if_pos h1,rI N _ _ (by simp;omega),a0t n (by omega)];rfl
 have e1:decide ((n:Int)<253)=false:=decide_eq_false (by omega)
 rw[e1,if_neg h1]
 by_cases h2:n<65536
 ·have e2:decide ((n:Int)<65536)=true:=decide_eq_true (by omega)
  simp only[e2,a1e,if_false,if_true,if_pos h2]
  rw[rI N _ _ (by simp;omega)]
  simp only[a1a,aCa,show(2:Int)=((2:Nat):Int)from rfl,aKv N hN _ 2 (by omega)]
  rw[wu .u16 n rfl (by simp[a1T];omega),wu .u64 n rfl (by simp[a1T];omega),rI N _ _ (by simp[kM];omega)]
  simp
 have e2:decide ((n:Int)<65536)=false:=decide_eq_false (by omega)
 have e3:decide ((n:Int)<4294967296)=true:=decide_eq_true (by omega)
 simp only[e2,e3,a1e,if_false,if_true,if_neg h2]
 rw[rI N _ _ (by simp;omega)]
 simp only[a1a]
 rw[aJq N hN (b++[254]) _ (by simp;omega),wu .u32 n rfl (by simp[a1T];omega)]
 simp only[pQ,wu .u64 n rfl (show(n:Int)<2^a1t.bits by simp[a1T];omega),a1a,a1i]
 rfl
theorem aTB (b s:List Int)(hs:s.length≤1000000)(h:b.length≤30000000):nV N b s=some (b++(szB s.length++s)):=by
 have:=kD s.length
 simp only[nV,aMP N hN b _ hs (by omega),a1a]
 rw[rI N _ _ (by rw[a1c];omega),a1a,a1i]
theorem aX8 (o:aB)(ht:o.Tx.length=32):aJh N o=some (o.Tx++pQ o.Index):=by
 simp only[aJh,jZ,bH,if_pos ht,a1a]
 rw[rI N _ _ (by simp;omega)]
 simp only[a1a,a1f]
 rw[aJq N hN _ _ (by omega)];rfl
end
section
variable (N:Nat)(hN:70000≤N){t:aD}(K:aMt t.Inputs t.Outputs)
include hN K
theorem aL8 (b:Bool)(acc:List Int)(h:acc.length≤100000):tJ N t b N 0 acc=some (acc++t.Inputs.flatMap inB):=by
 have hn:=K.ni
 have hl:=aIf K
 refine oG (f:=tJ N t b) (xs:=t.Inputs) (g:=inB) (B:=200000) (by omega) (fun m j acc hj hB=> ?_) (fun m j acc hj=> ?_) N 0 acc (by omega) (by omega) (by rw[a1g];omega)
 ·have ht:=K.tx _ (a1b hj)
  rw[aNC ht]at hB
  rw[tJ,dT hj,if_pos rfl,aY t.Inputs hj]
  simp only[a1a,aX8 N hN _ ht]
  rw[lY (by simp[b6];omega)]
  simp only[a1a,aJq N hN _ _ (show([]:List Int).length≤40000000 by simp),a1f]
  rw[lY (by simp[b6];omega)]
  simp only[a1a,i1 (show j≤100000 by omega),inB,a1i]
 rw[tJ,dF (by omega)];rfl
theorem aL7 (b:Bool)(acc:List Int)(h:acc.length≤100000):sP N t b N 0 acc=some (acc++t.Outputs.flatMap aAU):=by
 have hn:=K.no
 have hl:=aGq K
 refine oG (f:=sP N t b) (xs:=t.Outputs) (g:=aAU) (B:=200000) (by omega) (fun m j acc hj hB=> ?_) (fun m j acc hj=> ?_) N 0 acc (by omega) (by omega) (by rw[a1g];omega)
 ·have ht:=K.scr _ (a1b hj)
  have hs:=kD t.Outputs[j].Script.length
  rw[sP,dT hj,if_pos rfl,aY t.Outputs hj]
  simp only[a1a,a0T N hN _ _ (show([]:List Int).length≤40000000 by simp),a1f]
  rw[lY (by rw[aIy];omega)]
  simp only[a1a,aTB N hN [] _ (show t.Outputs[j].Script.length≤1000000 by omega) (by simp),a1f]
  rw[lY (by simp only[a1c,aIy];omega)]
  simp only[a1a,i1 (show j≤100000 by omega),aAU,a1i]
 rw[sP,dF (by omega)];rfl
theorem aL6 (x:Int)(w:bI)(hw:w.Witness.length≤40∧ ∀z∈w.Witness,z.length≤600)(acc:List Int)(h:acc.length≤5000000):sK N t x w N 0 acc=some (acc++w.Witness.flatMap itB):=by
 have hl:=aDi (g:=itB) (c:=605) w.Witness (fun z hz=>aQa (hw.2 z hz))
 have:=a1A 605 hw.1
 refine oG (f:=sK N t x w) (xs:=w.Witness) (g:=itB) (B:=6000000) (by omega) (fun m j acc hj hB=> ?_) (fun m j acc hj=> ?_) N 0 acc (by omega) (by omega) (by rw[a1g];omega)
 ·have ht:=hw.2 _ (a1b hj)
  rw[sK,dT hj,if_pos rfl,aY w.Witness hj]
  simp only[a1a,aTB N hN [] _ (show w.Witness[j].length≤1000000 by omega) (by simp),a1f]
  rw[lY (by simp only[itB]at hB;omega)]
  simp only[a1a,i1 (show j≤100000 by omega),itB]
 rw[sK,dF (by omega)];rfl
theorem aL4 (acc:List Int)(h:acc.length≤1000000):pL N t N 0 acc=some (acc++t.Inputs.flatMap wiB):=by
 have hn:=K.ni
 have hl:=aSd K
 refine oG (f:=pL N t) (xs:=t.Inputs) (g:=wiB) (B:=4000000) (by omega) (fun m j acc hj hB=> ?_) (fun m j acc hj=> ?_) N 0 acc (by omega) (by omega) (by rw[a1g];omega)
 ·have ht:=K.wit _ (a1b hj)
  have hs:=kD t.Inputs[j].Witness.length
  rw[pL,dT hj,if_pos rfl,aY t.Inputs hj]
  simp only[a1a,aMP N hN [] _ (show t.Inputs[j].Witness.length≤1000000 by omega) (by simp),a1f]
  rw[lY (by omega)]
  simp only[a1a]
  rw[aL6 N hN K _ _ ht _ (by rw[a1c];omega)]
  simp only[a1a,aGv,i1 (show j≤100000 by omega),wiB,a1i]
 rw[pL,dF (by omega)];rfl
theorem aR2 (w:Bool):aEg N t w=some (vT t.Version t.Inputs t.Outputs t.Lock w):=by
 have hn:=K.ni
 have ho:=K.no
 have h1:=kD t.Inputs.length
 have h2:=kD t.Outputs.length
 have h3:=aIf K
 have h4:=aGq K
 simp only[aEg,aJq N hN [] _ (by simp),a1a,a1f,aMP N hN [] _ (show t.Inputs.length≤1000000 by omega) (by simp)]
 rw[lY (by rw[b6];omega)]
 simp only[a1a]
 rw[aL8 N hN K _ _ (by rw[a1c,b6];omega)]
 simp only[a1a,aF1,aMP N hN [] _ (show t.Outputs.length≤1000000 by omega) (by simp),a1f]
 rw[lY (by simp only[a1c,b6];omega)]
 simp only[a1a]
 rw[aL7 N hN K _ _ (by simp only[a1c,b6];omega)]
 simp only[a1a,aFO,aJq N hN [] _ (show([]:List Int).length≤40000000 by simp),a1f]
 rw[lY (by simp only[a1c,b6];omega)]
 cases w
 ·simp[vT]
 simp only[a1a,a1E,a1e,if_false]
 rw[aL4 N hN K _ (by simp only[a1c,b6];omega)]
 rfl
end
theorem aRD {N:Nat}{t:aD}{x:Int}{w:bI}: ∀(m:Nat)(j:Int),aFr N t x w m j=lD N t x w m j
 |0,_=>rfl
 |m+1,j=>by simp only[aFr,lD,aRD m]
theorem aRY {N:Nat}{t:aD}: ∀(m:Nat)(j:Int),yQ N t m j=jP N t m j
 |0,_=>rfl
 |m+1,j=>by simp only[yQ,jP,aJd,aAA,aRD,aRY m]
theorem aRE {N:Nat}{t:aD}: ∀(m:Nat)(j:Int),uF N t m j=iO N t m j
 |0,_=>rfl
 |m+1,j=>by simp only[uF,iO,aFo,u7,aRE m]
section
variable (N:Nat)(hN:70000≤N){t:aD}(T:TxK t)
include hN T
theorem aWd :aFz N t=g5 N t:=by
 simp only[aFz,g5,aB9,qP,aFy,u4,aI9,aAQ,aRE,aRY,aR2 N hN T.k,aBQ N hN T.k]
theorem aSb (w:Bool):aD7 N t w=some (if pM t.Version t.Inputs t.Outputs t.Lock=true then(vT t.Version t.Inputs t.Outputs t.Lock w,0)else([],4)):=by
 unfold aD7
 rw[aWd N hN T,qA N hN T.k,aR2 N hN T.k]
 simp only[a1a]
 cases pM t.Version t.Inputs t.Outputs t.Lock<;>rfl
theorem aOG (w:Bool):iA N t w=some (vT t.Version t.Inputs t.Outputs t.Lock w):=by
 cases w
 ·exact aOH N hN T
 exact aBQ N hN T.k
theorem aW4 (w:Bool):sG N t w=some (if pM t.Version t.Inputs t.Outputs t.Lock=true then(vT t.Version t.Inputs t.Outputs t.Lock w,0)else([],4)):=by
 unfold sG
 rw[qA N hN T.k,aOG N hN T]
 simp only[a1a]
 cases pM t.Version t.Inputs t.Outputs t.Lock<;>rfl
def dig (N:Nat)(t:aD)(w:Bool):List Int:=if pM t.Version t.Inputs t.Outputs t.Lock=true then dbl N (vT t.Version t.Inputs t.Outputs t.Lock w)else [0,0,0,0,0,0,0,0,0,0,0,0,0,0,0,0,0,0,0,0,0,0,0,0,0,0,0,0,0,0,0,0]
omit hN T in
theorem aKC (w:Bool):fX (dig N t w):=by
 unfold dig
 split
 ·exact aSu _ _
 exact aPn
theorem aYt (w:Bool):aDV N t w=some (dig N t w):=by
 unfold aDV dig
 rw[aSb N hN T]
 simp only[a1a]
 cases hf:pM t.Version t.Inputs t.Outputs t.Lock with
 |false=>rfl
 |true=>
  have:=aFQ N hN T hf w
  simp only[if_true]
  rw[if_neg (by simp),aRX N hN _ (aJk T.b w) (by omega)]
  simp only[a1a,aX (aBf N _)]
theorem aID :aNa N t=some (dig N t false):=by
 unfold aNa
 rw[aYt N hN T]
 simp only[a1a,aX (aKC (t:=t) N false).1]
theorem aZ0 :aIl N t=some (dig N t true):=by
 unfold aIl
 rw[aYt N hN T]
 simp only[a1a,aX (aKC (t:=t) N true).1]
theorem aYZ (w:Bool):((g5 N t).bind fun x=>if !x then some [0,0,0,0,0,0,0,0,0,0,0,0,0,0,0,0,0,0,0,0,0,0,0,0,0,0,0,0,0,0,0,0]else(iA N t w).bind fun x=>(pW N x).bind fun x=>(bH 32 x).bind fun _=>some x)=some (dig N t w):=by
 rw[qA N hN T.k]
 unfold dig
 simp only[a1a]
 cases hf:pM t.Version t.Inputs t.Outputs t.Lock with
 |false=>rfl
 |true=>
  have:=aFQ N hN T hf w
  simp only[if_true]
  rw[if_neg (by simp),aOG N hN T]
  simp only[a1a]
  rw[aK2 N hN _ (aJk T.b w) (by omega)]
  simp only[a1a,aX (aBf N _)]
theorem rID :aBa N t=some (dig N t false):=aYZ N hN T false
theorem aZ1 :y9 N t=some (dig N t true):=aYZ N hN T true
end
theorem aK6 {α:Type}{l:List α}{i:Int}{x:α}(h:bB l i=some x):x∈l:=by
 unfold bB at h
 split at h
 ·exact List.mem_of_getElem? h
 cases h
theorem aHR {α β:Type}{l:List α}{i:Int}{f g:α→Option β}(h: ∀x∈l,f x=g x):(bB l i).bind f=(bB l i).bind g:=by
 cases e:bB l i with
 |none=>rfl
 |some x=>exact h x (aK6 e)
theorem lR {α β:Type}{x y:Option α}{f g:α→Option β}(h:x=y)(k: ∀a,f a=g a):x.bind f=y.bind g:=by
 rw[h];cases y<;>simp[k]
theorem aCn {α:Type}{c:Prop} [Decidable c] {x y z w:α} (h:x=z) (k:y=w):(if c then x else y)=if c then z else w:=by rw[h,k]
def j9 (a b:aB):Bool:=decide (cQ a b=0)
theorem aMl {a b:aB}(ha:a.Tx.length=32)(hb:b.Tx.length=32):kH a b=j9 a b:=eqP ha hb
theorem aMy {a b:aB}:j9 a b=j9 b a:=by
 unfold j9
 rw[oI,a2k]
 simp only[decide_eq_true_eq];omega
theorem aNk {N:Nat}{t:aD}:vF N t=cJ N t:=by
 simp only[vF,cJ,zI,sD,aNA,rM]
def aET :aB:=aB.mk (a1d 32 0) 4294967295
theorem aTS {o:aB}(h:o.Tx.length=32):fR o.Tx (a1d 32 0) ((o.Index == 4294967295)&&true)=j9 o aET:=eqP (b:=aET) h (by simp[aET])
section
variable {N:Nat}(hN:70000≤N)
include hN
theorem aNd {t:aD}{x:bI}(hi:t.Inputs=[x])(hx:x.Prev.Tx.length=32):cJ N t=some (j9 x.Prev aET):=by
 unfold cJ rM
 rw[hi]
 simp only[a1x]
 exact congrArg some (aTS hx)
def aSL (t:aD):Int:=if pM t.Version t.Inputs t.Outputs t.Lock=true then(if t.Outputs.length=0 then 93 else 0)else 4
theorem aXf {t:aD}(T:TxM t):aIT N t=some (aSL t):=by
 obtain⟨x,hi,hx⟩:=T.i
 have hno:=T.n
 obtain⟨m,rfl⟩: ∃m,N=m+2:=⟨N-2,by omega⟩
 unfold aIT aSL
 rw[aWd _ hN T.k,qA _ hN T.k.k]
 simp only[a1a]
 cases pM t.Version t.Inputs t.Outputs t.Lock
 ·rfl
 simp only[a1E,a1e,if_false,if_true]
 have e1:((t.Inputs.length:Int) == 0)=false:=by rw[hi];rfl
 rw[e1]
 simp only[a1e,if_false]
 unfold aDL
 by_cases h0:t.Outputs.length=0
 ·rw[if_pos (by simp[h0]),if_pos h0]
 rw[if_neg (by simpa using h0),if_neg h0]
 have hm:aIp (m+2) t.Outputs=some true:=by
  unfold aIp
  have:Ok (vJ (m+2) t.Outputs (m+2) 0 ((0:Nat):Int)) fun r=>r= .brk ():=by
   refine lp (f:=fun m j s=>vJ _ t.Outputs m s (j:Int)) (fun j s=>0≤s∧s≤2000*(j:Int)) t.Outputs.length (fun m j s hj hs ih=> ?_) (fun m s hs=> ?_) _ 0 0 (by omega) (by omega) (by simp)
   ·have ho:=(T.o _ (a1b hj)).2
    unfold vJ
    rw[if_pos (dT hj),i1 (by omega)]
    refine Ok.eq (aY _ hj) ?_
    rw[cR (by omega) (by omega),cR (by omega) (by omega)]
    refine Ok.ite (fun h=> ?_) fun _=>ih _ (by omega)
    have:=of_decide_eq_true h;omega
   unfold vJ
   rw[if_neg (by simp)]
   exact Ok.pure rfl
  obtain⟨r,e,rfl⟩:=this
  rw[show((0:Nat):Int)=0 from rfl]at e
  rw[e];rfl
 rw[hm]
 simp only[a1a,a1E,a1e,if_false]
 have hl:aDE (m+2) t (m+2) 0 []=some (.brk [(x.Prev,true)]):=by
  simp only[aDE]
  rw[hi]
  rfl
 rw[hl]
 simp only[a1a]
 unfold aHp aDG
 have hg:mR kH [(x.Prev,true)] (aB.mk (a1d 32 0) 4294967295) false=j9 x.Prev aET:=by
  have e:kH (aB.mk (a1d 32 0) 4294967295) x.Prev=j9 x.Prev aET:=by
   rw[aMy];exact aMl (by simp) hx.p.1
  unfold mR lI
  simp only[a15,List.findIdx?_nil,e]
  cases j9 x.Prev aET<;>rfl
 rw[hg,aNk,aNd hN hi hx.p.1]
 cases j9 x.Prev aET<;>rfl
theorem aW1 {t:aD}(T:TxM t):rU N t=some (aSL t):=by
 obtain⟨x,hi,hx⟩:=T.i
 have hno:=T.n
 obtain⟨m,rfl⟩: ∃m,N=m+2:=⟨N-2,by omega⟩
 unfold rU aSL
 rw[qA _ hN T.k.k]
 simp only[a1a]
 cases pM t.Version t.Inputs t.Outputs t.Lock
 ·rfl
 simp only[a1E,a1e,if_false,if_true]
 have e1:((t.Inputs.length:Int) == 0)=false:=by rw[hi];rfl
 rw[e1]
 simp only[a1e,if_false]
 unfold oW
 by_cases h0:t.Outputs.length=0
 ·rw[if_pos (by simp[h0]),if_pos h0]
 rw[if_neg (by simpa using h0),if_neg h0]
 have:Ok (g7 (m+2) t (m+2) 0 ((0:Nat):Int)) fun r=> ∃s:Int,r= .brk s∧s≤4000:=by
  refine lp (f:=fun m j s=>g7 _ t m s (j:Int)) (fun j s=>0≤s∧s≤2000*(j:Int)) t.Outputs.length (fun m j s hj hs ih=> ?_) (fun m s hs=> ?_) _ 0 0 (by omega) (by omega) (by simp)
  ·have ho:=(T.o _ (a1b hj)).2
   unfold g7
   rw[if_pos (dT hj),i1 (by omega)]
   refine Ok.eq (aY _ hj) ?_
   rw[cR (by omega) (by omega)]
   refine Ok.ite (fun h=> ?_) fun _=>ih _ (by omega)
   have:=of_decide_eq_true h;omega
  unfold g7
  rw[if_neg (by simp)]
  exact Ok.pure ⟨s,rfl,by omega⟩
 obtain⟨r,e,s,rfl,hs⟩:=this
 rw[show((0:Nat):Int)=0 from rfl]at e
 rw[e]
 simp only[a1a]
 unfold sL
 rw[if_neg (by simp;omega)]
 have hl:kF (m+2) t (m+2) 0=some (.brk ()):=by
  simp only[kF,oU,yY]
  rw[hi]
  rfl
 rw[hl]
 simp only[a1a]
 unfold sO
 have hl2:gQ (m+2) t (m+2) 0=some (.brk ()):=by
  simp only[gQ,oP,aNd hN hi hx.p.1,rM]
  rw[hi]
  simp only[a1x]
  have e0:bB [x] 0=some x:=rfl
  have e2:decide ((0:Int)<((1:Nat):Int))=true:=rfl
  have e3:a1k.wrap (0+1)=1:=rfl
  have e4:decide ((1:Int)<((1:Nat):Int))=false:=rfl
  simp only[e0,e2,e3,e4,a1a,if_true,aTS hx.p.1]
  cases j9 x.Prev aET<;>rfl
 rw[hl2]
 rfl
end
def aHK (t:aD):Bool:=pM t.Version t.Inputs t.Outputs t.Lock
def aP9 (t:aD):List Int:=vT t.Version t.Inputs t.Outputs t.Lock true
section
variable {N:Nat}(hN:70000≤N){b:aH}(B:sX b)
include hN B
theorem aOR : ∀(m j:Nat)(acc:List Int),b.Txs.length-j<m→j≤b.Txs.length→acc.length≤200+j*20000→
  vX N b m (j:Int) acc=some (if(b.Txs.drop j).all aHK=true then .brk (acc++(b.Txs.drop j).flatMap aP9)else .ret ([],4))
 |0,j,_,h,_,_=>by omega
 |m+1,j,acc,h,hj,ha=>by
  have hb:=B.t.1
  unfold vX
  by_cases h':j<b.Txs.length
  ·have T:=(B.t.2 _ (a1b h')).k
   rw[if_pos (dT h'),aY _ h',a1j h',List.all_cons,a17]
   simp only[a1a,aSb N hN T]
   have hl:=aFQ (t:=b.Txs[j]) N hN T
   cases hf:pM b.Txs[j].Version b.Txs[j].Inputs b.Txs[j].Outputs b.Txs[j].Lock with
   |false=>
    have e:aHK b.Txs[j]=false:=hf
    rw[e];rfl
   |true=>
    have e:aHK b.Txs[j]=true:=hf
    have hl2:=hl hf true
    rw[e,if_pos rfl,if_neg (by simp),dG (by omega) (by simp only;omega)]
    simp only[a1a,i1 (show j≤100000 by omega),a1w]
    rw[aOR m (j+1) _ (by omega) (by omega) (by simp only[a1c];omega),a1i]
    rfl
  rw[if_neg (by simp;omega),a1l (by omega)]
  simp
theorem aO1 : ∀(m j:Nat)(acc:List Int),b.Txs.length-j<m→j≤b.Txs.length→acc.length≤200+j*20000→(b.Txs.drop j).all aHK=true→
  kW N b m (j:Int) acc=some (acc++(b.Txs.drop j).flatMap aP9)
 |0,j,_,h,_,_,_=>by omega
 |m+1,j,acc,h,hj,ha,hf=>by
  have hb:=B.t.1
  unfold kW
  by_cases h':j<b.Txs.length
  ·have T:=(B.t.2 _ (a1b h')).k
   rw[a1j h',List.all_cons,a1V]at hf
   have hf1:pM b.Txs[j].Version b.Txs[j].Inputs b.Txs[j].Outputs b.Txs[j].Lock=true:=hf.1
   have hl2:=aFQ (t:=b.Txs[j]) N hN T hf1 true
   rw[if_pos (dT h'),aY _ h',a1j h',a17]
   simp only[a1a,aW4 N hN T,if_pos hf1]
   rw[dG (by omega) (by omega)]
   simp only[a1a,i1 (show j≤100000 by omega)]
   rw[aO1 m (j+1) _ (by omega) (by omega) (by rw[a1c];omega) hf.2,a1i]
   rfl
  rw[if_neg (by simp;omega),a1l (by omega)]
  simp
def aVv (b:aH):List Int:=(hdB b.Header++szB b.Txs.length)++b.Txs.flatMap aP9
def aP7 (b:aH):Bool:=b.Txs.all aHK&&decide ((aVv b).length≤100000)
theorem aXq : ∃e,aCj N b=some (e,if aP7 b=true then 0 else 4):=by
 have hb:=B.t.1
 have hz:=kD b.Txs.length
 unfold aCj
 rw[if_neg (by simp;omega),aRG N hN b.Header B.h.p.1 B.h.r.1]
 simp only[a1a]
 rw[aMP N hN _ _ (show b.Txs.length≤1000000 by omega) (by rw[aBg B.h.p.1 B.h.r.1];omega)]
 simp only[a1a]
 have l:=aOR hN B N 0 (hdB b.Header++szB b.Txs.length) (by omega) (by omega) (by rw[a1c,aBg B.h.p.1 B.h.r.1];omega)
 rw[show((0:Nat):Int)=0 from rfl,a1g]at l
 rw[l]
 simp only[a1a]
 unfold aP7
 cases b.Txs.all aHK with
 |false=>exact⟨[],rfl⟩
 |true=>
  simp only[if_true,a1w]
  unfold aCr
  by_cases hl:(aVv b).length≤100000
  ·rw[decide_eq_true hl,if_neg (by have:((hdB b.Header++szB b.Txs.length)++b.Txs.flatMap aP9).length≤100000:=hl;simp only[decide_eq_true_eq];omega)]
   exact⟨_,rfl⟩
  rw[decide_eq_false hl,if_pos (by have: ¬((hdB b.Header++szB b.Txs.length)++b.Txs.flatMap aP9).length≤100000:=hl;simp only[decide_eq_true_eq];omega)]
  exact⟨_,rfl⟩
theorem aSf :zF N b=some (aP7 b):=by
 have hb:=B.t.1
 have hz:=kD b.Txs.length
 unfold zF
 rw[if_neg (by simp;omega)]
 have l:=aA4 (f:=lB N b) (xs:=b.Txs) (p:=aHK) (r:=false) (fun m j hj=>by
  rw[lB,dT hj,if_pos rfl,aY b.Txs hj]
  simp only[a1a,qA N hN (B.t.2 _ (a1b hj)).k.k,i1 (show j≤100000 by omega)]
  rw[show pM b.Txs[j].Version b.Txs[j].Inputs b.Txs[j].Outputs b.Txs[j].Lock=aHK b.Txs[j]from rfl]
  cases aHK b.Txs[j]<;>rfl) (fun m j hj=>by rw[lB,dF (by omega)];rfl) N 0 (by omega) (by omega)
 rw[show((0:Nat):Int)=0 from rfl,a1g]at l
 rw[l]
 unfold aP7
 simp only[a1a]
 cases hf:b.Txs.all aHK with
 |false=>rfl
 |true=>
  simp only[if_true,a1w]
  unfold aAI aCh aCs
  rw[aNZ N hN b.Header B.h.p.1 B.h.r.1]
  simp only[a1a]
  rw[aG5 N hN _ _ (show b.Txs.length≤1000000 by omega) (by rw[aBg B.h.p.1 B.h.r.1];omega)]
  simp only[a1a]
  have l:=aO1 hN B N 0 (hdB b.Header++szB b.Txs.length) (by omega) (by omega) (by rw[a1c,aBg B.h.p.1 B.h.r.1];omega) (by rw[a1g];exact hf)
  rw[show((0:Nat):Int)=0 from rfl,a1g]at l
  rw[l]
  simp only[a1a]
  refine congrArg some ?_
  rw[a2k]
  simp only[decide_eq_true_eq]
  unfold aVv
  omega
end
theorem aXw {N:Nat}(hN:70000≤N){l r:List Int}(h1:fX l)(h2:fX r):aDI N l r=yU N l r:=by
 unfold aDI yU
 rw[aX h1.1,aX h2.1]
 simp only[a1a]
 have hb:Byt ([1]++l++r):=Byt.append (Byt.append (fun x hx=>by simp at hx;omega) h1.2) h2.2
 rw[dG (by omega) (by simp[h1.1]),aMm hN (by simp) (fun x hx=>by simp at hx;rcases hx with rfl|rfl|rfl<;>simp[h1.1,h2.1])]
 simp only[a1a]
 rw[dG (by omega) (by simp[h1.1,h2.1])]
 simp only[a1a,a2t,a2v,a2i]
 rw[←a1i]
 rw[aQo N hN _ hb (by simp[h1.1,h2.1]),zD N hN _ hb (by simp[h1.1,h2.1])]
theorem aQD {N:Nat}(hN:70000≤N){l:List (List Int)}{a:List (List (List Int))}(h: ∀x∈l,fX x): ∀(m:Nat)(i:Int)(s:List (List Int)),lU N l a m i s=dX N l a m i s
 |0,_,_=>rfl
 |m+1,i,s=>by
  unfold lU dX uP kV
  refine aCn (aCn ?_ ?_) rfl
  ·refine aHR fun x hx=>lR rfl fun _=>aHR fun y hy=>lR rfl fun _=>lR (aXw hN (h x hx) (h y hy)) fun _=>lR rfl fun _=>lR rfl fun _=>aQD hN h m _ _
  exact aHR fun x hx=>lR rfl fun _=>lR rfl fun _=>aQD hN h m _ _
theorem aPB {N:Nat}(hN:70000≤N){l:List (List Int)}{a:List (List (List Int))}(h: ∀x∈l,fX x): ∀(m:Nat)(i:Int)(s r:List (List Int)),(∀x∈s,fX x)→dX N l a m i s=some r→ ∀x∈r,fX x
 |0,_,_,_,_,e=>by cases e
 |m+1,i,s,r,hs,e=>by
  have add: ∀y z,fX y→b9 32 s [y]=some z→ ∀x∈z,fX x:=fun y z hy ha x hx=>by
   unfold b9 at ha
   split at ha
   ·injection ha with ha;subst ha
    rcases a1q.1 hx with hx|hx
    ·exact hs x hx
    obtain rfl:=a1h.1 hx;exact hy
   cases ha
  unfold dX kV at e
  split at e
  ·split at e
   ·simp only[a2b]at e
    obtain⟨x,hx,_,_,y,hy,_,_,z,hz,_,_,s',hs',e⟩:=e
    obtain⟨z',e',hz'⟩:=aQw hN (h x (aK6 hx)) (h y (aK6 hy))
    rw[e']at hz
    injection hz with hz;subst hz
    exact aPB hN h m _ _ r (add _ _ hz' hs') e
   simp only[a2b]at e
   obtain⟨x,hx,_,_,s',hs',e⟩:=e
   exact aPB hN h m _ _ r (add _ _ (h x (aK6 hx)) hs') e
  injection e with e;subst e;exact hs
theorem aTj {N:Nat}(hN:70000≤N): ∀(m:Nat)(l:List (List Int))(a:List (List (List Int))),(∀x∈l,fX x)→oZ N m l a=i9 N m l a
 |0,_,_,_=>rfl
 |m+1,l,a,h=>by
  unfold oZ i9 aA6 vY
  refine aCn ?_ rfl
  rw[aQD hN h]
  cases e:dX N l a N 0 [] with
  |none=>rfl
  |some r=>
   have hr:=aPB hN h _ _ _ r (by simp) e
   simp only[a1a]
   exact lR rfl fun _=>lR rfl fun _=>aTj hN m _ _ hr
theorem aXv {N:Nat}(hN:70000≤N){l:List (List Int)}(h: ∀x∈l,fX x):aAi N l=uS N l:=by
 unfold aAi uS tA nO aEQ aBR aAT aCb
 rw[aTj hN _ _ _ h]
theorem aYR {N:Nat}(hN:70000≤N){t:aD}(T:TxM t):aIl N t=y9 N t:=by rw[aZ0 N hN T.k,aZ1 N hN T.k]
theorem aR9 {N:Nat}(hN:70000≤N){l:List aD}(T: ∀t∈l,TxM t): ∀(m:Nat)(i:Int)(s:List (List Int)),aAL N l m i s=gH N l m i s
 |0,_,_=>rfl
 |m+1,i,s=>by
  unfold aAL gH
  exact aCn (aHR fun t ht=>lR (aYR hN (T t ht)) fun _=>lR rfl fun _=>lR rfl fun _=>aR9 hN T m _ _) rfl
theorem aYa {N:Nat}(hN:70000≤N){l:List aD}(T:aSH l):aE9 N l=tV N l:=by
 have hn:=T.1
 unfold aE9 tV aEh aAP
 rw[aR9 hN T.2]
 have:Ok (gH N l N ((0:Nat):Int) []) fun r=> ∀h∈r,fX h:=by
  refine lp (f:=fun m j s=>gH N l m (j:Int) s) (fun j s=>s.length=j∧ ∀h∈s,fX h) l.length (fun m j s hj hs ih=> ?_) (fun m s hs=> ?_) N 0 [] (by omega) (by omega) ⟨rfl,by simp⟩
  ·unfold gH
   rw[if_pos (dT hj),i1 (by omega)]
   obtain⟨h,hh,e⟩:=aQs N hN (T.2 _ (a1b hj)).k
   refine Ok.eq (aY _ hj) (Ok.eq e (Ok.eq (aX hh.1) (Ok.eq (dG (by omega) (by simp;omega)) (ih _ ⟨by simp[hs.1],fun x hx=> ?_⟩))))
   rcases a1q.1 hx with hx|hx
   ·exact hs.2 x hx
   obtain rfl:=a1h.1 hx;exact hh
  unfold gH
  rw[if_neg (by simp)]
  exact Ok.pure hs.2
 obtain⟨r,e,hr⟩:=this
 rw[show((0:Nat):Int)=0 from rfl]at e
 rw[e]
 simp only[a1a]
 rw[aXv hN hr]
theorem lpc {σ ρ β:Type}{f:Nat→Int→σ→Option (LR β ρ)}(n:Nat)(A:Nat→σ)(c:Nat→Bool)(r:ρ)(B:β)
  (hs: ∀m j,j<n→f (m+1) (j:Int) (A j)=if c j=true then some (.ret r)else f m ((j+1:Nat):Int) (A (j+1))) (he: ∀m,f (m+1) (n:Int) (A n)=some (.brk B)):
  ∀(m j:Nat),n-j<m→j≤n→f m (j:Int) (A j)=some (if(a1L j (n-j)).any c=true then .ret r else .brk B)
 |0,j,h,_=>by omega
 |m+1,j,h,hj=>by
  by_cases h':j<n
  ·rw[hs m j h',lpc n A c r B hs he m (j+1) (by omega) (by omega),show n-j=(n-(j+1))+1 by omega,a1D,List.any_cons]
   cases c j
   ·simp only[Bool.false_or,a1e,if_false]
   rfl
  obtain rfl:j=n:=by omega
  rw[he,Nat.sub_self];rfl
theorem aF2 {σ ρ β:Type}{f:Nat→Int→σ→Option (LR β ρ)}{n:Nat}(A:Nat→σ)(c:Nat→Bool)(r:ρ)(B:β)
  (hs: ∀m j,j<n→f (m+1) (j:Int) (A j)=if c j=true then some (.ret r)else f m ((j+1:Nat):Int) (A (j+1))) (he: ∀m,f (m+1) (n:Int) (A n)=some (.brk B)) {N:Nat} (hN:n<N):
  f N 0 (A 0)=some (if(a1o n).any c=true then .ret r else .brk B):=by
 have:=lpc n A c r B hs he N 0 (by omega) (by omega)
 rw[a1H,show((0:Nat):Int)=0 from rfl,←a2m]at this
 exact this
def u0 (id:List Int):Nat→List (List Int)→Int
 |_,[]=> -1
 |j,x::l=>if x=id then(j:Int)else u0 id (j+1) l
def rS :Nat→List (List Int)→List (List Int×Int)
 |_,[]=>[]
 |j,x::l=>(x,(j:Int))::rS (j+1) l
theorem aPN (x:List Int): ∀(l:List (List Int))(j:Nat),rS j (l++[x])=rS j l++[(x,((j+l.length:Nat):Int))]
 | [],j=>rfl
 |y::l,j=>by
  simp only[List.cons_append,rS,aPN x l (j+1),a1r]
  rw[show j+1+l.length=j+(l.length+1) by omega]
theorem aFv {k:List Int}(hk:k.length=32): ∀(l:List (List Int))(j:Nat),(∀x∈l,fX x)→
  (lI y0 (rS j l) k=none∧u0 k j l= -1)∨ ∃i,lI y0 (rS j l) k=some i∧u0 k j l=((j+i:Nat):Int)∧((rS j l)[i]?).map (·.2)=some ((j+i:Nat):Int)
 | [],j,_=> .inl ⟨rfl,rfl⟩
 |x::l,j,h=>by
  have hx:=h x (by simp)
  have ih:=aFv hk l (j+1) (fun y hy=>h y (by simp[hy]))
  have hq:y0 k x=decide (x=k):=by
   unfold y0
   rw[aOA hk hx.1,Bool.and_true,a2k]
   simp only[beq_iff_eq,decide_eq_true_eq]
   exact eq_comm
  unfold lI at ih⊢
  simp only[rS,a15,hq,u0]
  by_cases e:x=k
  ·rw[decide_eq_true e,if_pos e]
   exact .inr ⟨0,rfl,rfl,rfl⟩
  rw[decide_eq_false e,if_neg e]
  rcases ih with⟨i1,i2⟩|⟨i,i1,i2,i3⟩
  ·exact .inl ⟨by simp[i1],i2⟩
  refine .inr ⟨i+1,by simp[i1],by rw[i2];congr 1;omega, ?_⟩
  rw[List.getElem?_cons_succ,i3]
  congr 2;omega
section
variable {k:List Int}(hk:k.length=32){l:List (List Int)}(h: ∀x∈l,fX x)
include hk h
theorem aOY :aEl y0 (rS 0 l) k=decide (0≤u0 k 0 l):=by
 unfold aEl
 rcases aFv hk l 0 h with⟨h1,h2⟩|⟨i,h1,h2,_⟩
 ·rw[h1,h2];rfl
 rw[h1,h2,decide_eq_true (by omega)];rfl
theorem aTC (hp:0≤u0 k 0 l):mR y0 (rS 0 l) k 0=u0 k 0 l:=by
 unfold mR
 rcases aFv hk l 0 h with⟨h1,h2⟩|⟨i,h1,h2,h3⟩
 ·omega
 rw[h1,h2]
 simp only[h3,Option.getD_some]
theorem aT7 (hp: ¬0≤u0 k 0 l)(v:Int):uG y0 (rS 0 l) k v=rS 0 l++[(k,v)]:=by
 unfold uG
 rcases aFv hk l 0 h with⟨h1,h2⟩|⟨i,h1,h2,h3⟩
 ·rw[h1]
 omega
end
section
variable {N:Nat}(hN:70000≤N)
include hN
theorem aLN {ids:List (List Int)}{id:List Int}(hi:id.length=32)(h: ∀x∈ids,fX x)(hn:ids.length≤1000): ∀(m j:Nat),ids.length-j<m→j≤ids.length→
  ((l8 N ids id m (j:Int)).bind fun q=>match q with | .ret v=>some v | .brk _=>aCV N)=some (u0 id j (ids.drop j))
 |0,j,hm,_=>by omega
 |m+1,j,hm,hj=>by
  unfold l8
  by_cases h':j<ids.length
  ·rw[if_pos (dT h'),aY _ h',a1j h']
   simp only[a1a,aX (h _ (a1b h')).1,aX hi,u0]
   by_cases e:ids[j]=id
   ·rw[if_pos (by simpa using e),if_pos e];rfl
   rw[if_neg (by simpa using e),if_neg e,i1 (by omega)]
   exact aLN hi h hn m (j+1) (by omega) (by omega)
  rw[if_neg (by simp;omega),a1l (by omega)]
  rfl
theorem aUg {ids:List (List Int)}{id:List Int}(hi:id.length=32)(h: ∀x∈ids,fX x)(hn:ids.length≤1000):vG N ids id=some (u0 id 0 ids):=by
 have:=aLN hN hi h hn N 0 (by omega) (by omega)
 rw[show((0:Nat):Int)=0 from rfl,a1g]at this
 exact this
end
def eQ (N:Nat)(l:List aD):List (List Int):=l.map fun t=>dig N t false
theorem yT (N:Nat)(l:List aD): ∀x∈eQ N l,fX x:=fun x hx=>by
 obtain⟨t,_,rfl⟩:=a1J.1 hx
 exact aKC _ _
theorem aMY (N:Nat)(l:List aD){j:Nat}(h:j<l.length):eQ N (l.take (j+1))=eQ N (l.take j)++[dig N l[j] false]:=by
 unfold eQ
 rw[a1p h,a1G];rfl
theorem aKI (N:Nat)(l:List aD):(eQ N l).length=l.length:=by simp[eQ]
def c1 (N:Nat)(l:List aD)(j:Nat):Bool:=match l[j]? with
 |some t=>decide (0≤u0 (dig N t false) 0 (eQ N (l.take j)))
 |none=>false
def pv (t:aD):aB:=match t.Inputs with
 |x::_=>x.Prev
 | []=>aET
def c2 (N:Nat)(l:List aD)(j:Nat):Bool:=match l[j]? with
 |some t=>decide ((j:Int)≤u0 (pv t).Tx 0 (eQ N l))
 |none=>false
def c3 (l:List aD)(j:Nat):Bool:=match l[j]? with
 |some t=>((l.take j).map pv).any (j9 (pv t))
 |none=>false
section
variable {N:Nat}(hN:70000≤N){b:aH}(B:sX b)
include hN B
theorem a02 :nD N b.Txs N 0 []=some (if(a1o b.Txs.length).any (c1 N b.Txs)=true then .ret 91 else .brk (rS 0 (eQ N b.Txs))):=by
 have hb:=B.t.1
 refine aF2 (f:=nD N b.Txs) (fun j=>rS 0 (eQ N (b.Txs.take j))) (c1 N b.Txs) 91 _ (fun m j hj=> ?_) (fun m=> ?_) (by omega)
 ·have T:=(B.t.2 _ (a1b hj)).k
  have hd:=aKC (t:=b.Txs[j]) N false
  have hc:c1 N b.Txs j=decide (0≤u0 (dig N b.Txs[j] false) 0 (eQ N (b.Txs.take j))):=by unfold c1;rw[a1m hj]
  rw[nD,if_pos (dT hj),aY _ hj,hc]
  simp only[a1a,aID N hN T,aX hd.1,i1 (show j≤100000 by omega)]
  rw[aOY hd.1 (yT _ _)]
  by_cases hp:0≤u0 (dig N b.Txs[j] false) 0 (eQ N (b.Txs.take j))
  ·rw[decide_eq_true hp];rfl
  rw[decide_eq_false hp,if_neg (by simp),if_neg (by simp),aT7 hd.1 (yT _ _) hp,aMY N _ hj,aPN,aKI]
  rw[show 0+(b.Txs.take j).length=j by rw[a1X];omega]
 rw[nD,if_neg (by simp),a1I (a1C _)]
theorem aY2 :iP N b N 0 []=some (if(a1o b.Txs.length).any (c1 N b.Txs)=true then .ret 91 else .brk (eQ N b.Txs)):=by
 have hb:=B.t.1
 refine aF2 (f:=iP N b) (fun j=>eQ N (b.Txs.take j)) (c1 N b.Txs) 91 _ (fun m j hj=> ?_) (fun m=> ?_) (by omega)
 ·have T:=(B.t.2 _ (a1b hj)).k
  have hd:=aKC (t:=b.Txs[j]) N false
  have hl:(eQ N (b.Txs.take j)).length≤10:=by rw[aKI,a1X];omega
  have hc:c1 N b.Txs j=decide (0≤u0 (dig N b.Txs[j] false) 0 (eQ N (b.Txs.take j))):=by unfold c1;rw[a1m hj]
  rw[iP,if_pos (dT hj),aY _ hj,hc]
  simp only[a1a,rID N hN T,aX hd.1,aDk (yT _ _),i1 (show j≤100000 by omega),aUg hN hd.1 (yT _ _) (show(eQ N (b.Txs.take j)).length≤1000 by omega)]
  by_cases hp:0≤u0 (dig N b.Txs[j] false) 0 (eQ N (b.Txs.take j))
  ·rw[decide_eq_true hp];rfl
  rw[decide_eq_false hp,if_neg (by simp),if_neg (by simp),dG (by omega) (by simp;omega),aMY N _ hj]
  rfl
 rw[iP,if_neg (by simp),a1I (a1C _)]
theorem aDS {t:aD}{x:bI}(hi:t.Inputs=[x]):pv t=x.Prev:=by unfold pv;rw[hi]
theorem a0G :gP N b.Txs (rS 0 (eQ N b.Txs)) N 0=some (if(a1o b.Txs.length).any (c2 N b.Txs)=true then .ret 101 else .brk ()):=by
 have hb:=B.t.1
 refine aF2 (f:=fun m j (_:Unit)=>gP N b.Txs (rS 0 (eQ N b.Txs)) m j) (fun _=>()) (c2 N b.Txs) 101 () (fun m j hj=> ?_) (fun m=> ?_) (by omega)
 ·obtain⟨x,hi,hx⟩:=(B.t.2 _ (a1b hj)).i
  have l9:kA N b.Txs (rS 0 (eQ N b.Txs)) (j:Int) b.Txs[j] N 0=some (if c2 N b.Txs j=true then .ret 101 else .brk ()):=by
   obtain⟨m,rfl⟩: ∃m,N=m+2:=⟨N-2,by omega⟩
   rw[show c2 (m+2) b.Txs j=decide ((j:Int)≤u0 x.Prev.Tx 0 (eQ (m+2) b.Txs)) by unfold c2;rw[a1m hj];simp only[aDS hN B hi]]
   generalize hM:rS 0 (eQ (m+2) b.Txs)=M
   have e1:kA (m+2) b.Txs M (j:Int) b.Txs[j] (m+1) 1=some (.brk ()):=by
    unfold kA
    rw[hi];rfl
   unfold kA
   rw[hi]
   simp only[a1x]
   rw[if_pos (show decide ((0:Int)<((1:Nat):Int))=true from rfl),show bB [x] 0=some x from rfl]
   simp only[a1a,aX hx.p.1,wI,show a1k.wrap (0+1)=1 from rfl,e1]
   rw[←hM,aOY hx.p.1 (yT _ _)]
   by_cases hp:0≤u0 x.Prev.Tx 0 (eQ (m+2) b.Txs)
   ·rw[decide_eq_true hp,if_pos rfl,aTC hx.p.1 (yT _ _) hp]
    cases decide ((j:Int)≤u0 x.Prev.Tx 0 (eQ (m+2) b.Txs))<;>rfl
   rw[decide_eq_false hp,show decide ((j:Int)≤u0 x.Prev.Tx 0 (eQ (m+2) b.Txs))=false from decide_eq_false (by omega)];rfl
  show gP N b.Txs (rS 0 (eQ N b.Txs)) (m+1) (j:Int)=if c2 N b.Txs j=true then some (.ret 101)else gP N b.Txs (rS 0 (eQ N b.Txs)) m ((j+1:Nat):Int)
  rw[gP,if_pos (dT hj),aY _ hj]
  simp only[a1a,l9,aCS,i1 (show j≤100000 by omega)]
  cases c2 N b.Txs j<;>rfl
 show gP N b.Txs (rS 0 (eQ N b.Txs)) (m+1) (b.Txs.length:Int)=_
 rw[gP,if_neg (by simp)]
theorem aZt :qQ N b (eQ N b.Txs)=some ((a1o b.Txs.length).any (c2 N b.Txs)):=by
 have hb:=B.t.1
 have l:dK N b (eQ N b.Txs) N 0=some (if(a1o b.Txs.length).any (c2 N b.Txs)=true then .ret true else .brk ()):=by
  refine aF2 (f:=fun m j (_:Unit)=>dK N b (eQ N b.Txs) m j) (fun _=>()) (c2 N b.Txs) true () (fun m j hj=> ?_) (fun m=> ?_) (by omega)
  ·obtain⟨x,hi,hx⟩:=(B.t.2 _ (a1b hj)).i
   have l4:f9 N b (eQ N b.Txs) (j:Int) b.Txs[j] N 0=some (if c2 N b.Txs j=true then .ret true else .brk ()):=by
    have hr:=aUg hN hx.p.1 (yT N b.Txs) (by rw[aKI];omega)
    obtain⟨m,rfl⟩: ∃m,N=m+2:=⟨N-2,by omega⟩
    rw[show c2 (m+2) b.Txs j=decide ((j:Int)≤u0 x.Prev.Tx 0 (eQ (m+2) b.Txs)) by unfold c2;rw[a1m hj];simp only[aDS hN B hi]]
    generalize eQ (m+2) b.Txs=M at hr⊢
    have e1:f9 (m+2) b M (j:Int) b.Txs[j] (m+1) 1=some (.brk ()):=by
     unfold f9
     rw[hi];rfl
    unfold f9
    rw[hi]
    simp only[a1x]
    rw[if_pos (show decide ((0:Int)<((1:Nat):Int))=true from rfl),show bB [x] 0=some x from rfl]
    simp only[a1a,aX hx.p.1,hr,show a1k.wrap (0+1)=1 from rfl,e1]
    cases decide ((j:Int)≤u0 x.Prev.Tx 0 M)<;>rfl
   show dK N b (eQ N b.Txs) (m+1) (j:Int)=if c2 N b.Txs j=true then some (.ret true)else dK N b (eQ N b.Txs) m ((j+1:Nat):Int)
   rw[dK,if_pos (dT hj),aY _ hj]
   simp only[a1a,l4,uB,i1 (show j≤100000 by omega)]
   cases c2 N b.Txs j<;>rfl
  show dK N b (eQ N b.Txs) (m+1) (b.Txs.length:Int)=_
  rw[dK,if_neg (by simp)]
 unfold qQ
 rw[l]
 cases (a1o b.Txs.length).any (c2 N b.Txs)<;>rfl
theorem aRC (k:aB)(hk:k.Tx.length=32): ∀(l:List aB),(∀o∈l,o.Tx.length=32)→
  (l.any (j9 k)=true∧mR kH (l.map fun o=>(o,true)) k false=true)∨(l.any (j9 k)=false∧lI kH (l.map fun o=>(o,true)) k=none)
 | [],_=> .inr ⟨rfl,rfl⟩
 |o::l,h=>by
  have hq:kH k o=j9 k o:=aMl hk (h o (by simp))
  have ih:=aRC k hk l (fun y hy=>h y (by simp[hy]))
  unfold mR lI at *
  simp only[a2p,a15,hq,List.any_cons]
  cases j9 k o with
  |true=>exact .inl ⟨rfl,rfl⟩
  |false=>
   simp only[Bool.false_or,a1e,if_false]
   rcases ih with⟨h1,h2⟩|⟨h1,h2⟩
   ·refine .inl ⟨h1, ?_⟩
    revert h2
    cases List.findIdx? (fun e=>kH k e.fst) (l.map fun o=>(o,true)) with
    |none=>intro h2;cases h2
    |some i=>intro h2;simpa using h2
   exact .inr ⟨h1,by rw[h2];rfl⟩
theorem a0D :mA N b.Txs N 0 []=some (if(a1o b.Txs.length).any (c3 b.Txs)=true then .ret 91 else .brk ()):=by
 have hb:=B.t.1
 refine aF2 (f:=mA N b.Txs) (fun j=>((b.Txs.take j).map pv).map fun o=>(o,true)) (c3 b.Txs) 91 () (fun m j hj=> ?_) (fun m=> ?_) (by omega)
 ·obtain⟨x,hi,hx⟩:=(B.t.2 _ (a1b hj)).i
  have hp: ∀o∈(b.Txs.take j).map pv,o.Tx.length=32:=fun o ho=>by
   obtain⟨t,ht,rfl⟩:=a1J.1 ho
   obtain⟨y,hy,hy2⟩:=(B.t.2 _ (a1F ht)).i
   rw[aDS hN B hy];exact hy2.p.1
  have hs:((b.Txs.take (j+1)).map pv).map (fun o=>(o,true))=(((b.Txs.take j).map pv).map fun o=>(o,true))++[(x.Prev,true)]:=by
   rw[a1p hj,a1G,a1G,a1Q,a1Q,aDS hN B hi]
  rw[hs,show c3 b.Txs j=((b.Txs.take j).map pv).any (j9 x.Prev) by unfold c3;rw[a1m hj];simp only[aDS hN B hi]]
  generalize (b.Txs.take j).map pv=S at hp⊢
  have l6:oV N b.Txs (j:Int) b.Txs[j] N 0 (S.map fun o=>(o,true))=some (if S.any (j9 x.Prev)=true then .ret 91 else .brk ((S.map fun o=>(o,true))++[(x.Prev,true)])):=by
   obtain⟨m,rfl⟩: ∃m,N=m+2:=⟨N-2,by omega⟩
   have e1: ∀s,oV (m+2) b.Txs (j:Int) b.Txs[j] (m+1) 1 s=some (.brk s):=fun s=>by
    unfold oV
    rw[hi];rfl
   unfold oV
   rw[hi]
   simp only[a1x]
   rw[if_pos (show decide ((0:Int)<((1:Nat):Int))=true from rfl),show bB [x] 0=some x from rfl]
   simp only[a1a,show a1k.wrap (0+1)=1 from rfl,e1]
   rcases aRC hN B x.Prev hx.p.1 S hp with⟨h1,h2⟩|⟨h1,h2⟩
   ·rw[h1,h2];rfl
   rw[h1]
   unfold mR uG
   rw[h2];rfl
  rw[mA,if_pos (dT hj),aY _ hj]
  simp only[a1a,l6,aDb,i1 (show j≤100000 by omega)]
  cases S.any (j9 x.Prev)<;>rfl
 rw[mA,if_neg (by simp)]
theorem aYE :vH N b=some ((a1o b.Txs.length).any (c3 b.Txs)):=by
 have hb:=B.t.1
 have l:gO N b N 0 []=some (if(a1o b.Txs.length).any (c3 b.Txs)=true then .ret true else .brk ()):=by
  refine aF2 (f:=gO N b) (fun j=>(b.Txs.take j).map pv) (c3 b.Txs) true () (fun m j hj=> ?_) (fun m=> ?_) (by omega)
  ·obtain⟨x,hi,hx⟩:=(B.t.2 _ (a1b hj)).i
   have hp: ∀o∈(b.Txs.take j).map pv,o.Tx.length=32:=fun o ho=>by
    obtain⟨t,ht,rfl⟩:=a1J.1 ho
    obtain⟨y,hy,hy2⟩:=(B.t.2 _ (a1F ht)).i
    rw[aDS hN B hy];exact hy2.p.1
   have hs:(b.Txs.take (j+1)).map pv=(b.Txs.take j).map pv++[x.Prev]:=by
    rw[a1p hj,a1G,a1Q,aDS hN B hi]
   have hl:((b.Txs.take j).map pv).length≤10:=by rw[List.length_map,a1X];omega
   rw[hs,show c3 b.Txs j=((b.Txs.take j).map pv).any (j9 x.Prev) by unfold c3;rw[a1m hj];simp only[aDS hN B hi]]
   generalize (b.Txs.take j).map pv=S at hp hl⊢
   have l4:fU N b (j:Int) b.Txs[j] N 0 S=some (if S.any (j9 x.Prev)=true then .ret true else .brk (S++[x.Prev])):=by
    have l7:iU N b (j:Int) b.Txs[j] 0 S x N 0=some (if S.any (j9 x.Prev)=true then .ret true else .brk ()):=by
     have:=aA4 (f:=iU N b (j:Int) b.Txs[j] 0 S x) (xs:=S) (p:=fun o=> !j9 x.Prev o) (r:=true) (fun m i hi=>by
      rw[iU,dT hi,if_pos rfl,aY S hi]
      simp only[a1a,i1 (show i≤100000 by omega)]
      rw[show fR S[i].Tx x.Prev.Tx ((S[i].Index == x.Prev.Index)&&true)=j9 x.Prev S[i] by rw[aMy];exact eqP (hp _ (a1b hi)) hx.p.1]
      cases j9 x.Prev S[i]<;>rfl) (fun m i hi=>by rw[iU,dF (by omega)];rfl) N 0 (by omega) (by omega)
     rw[show((0:Nat):Int)=0 from rfl,a1g]at this
     rw[this,List.all_eq_not_any_not]
     simp only[Bool.not_not]
     cases S.any (j9 x.Prev)<;>rfl
    obtain⟨m,rfl⟩: ∃m,N=m+2:=⟨N-2,by omega⟩
    have e1: ∀s,fU (m+2) b (j:Int) b.Txs[j] (m+1) 1 s=some (.brk s):=fun s=>by
     unfold fU
     rw[hi];rfl
    unfold fU
    rw[hi]
    simp only[a1x]
    rw[if_pos (show decide ((0:Int)<((1:Nat):Int))=true from rfl),show bB [x] 0=some x from rfl]
    simp only[a1a,show a1k.wrap (0+1)=1 from rfl,l7,y7,yX]
    cases S.any (j9 x.Prev)
    ·simp only[a1e,if_false]
     rw[dG (by omega) (by simp;omega)]
     simp only[a1a,e1]
    rfl
   rw[gO,if_pos (dT hj),aY _ hj]
   simp only[a1a,l4,zB,i1 (show j≤100000 by omega)]
   cases S.any (j9 x.Prev)<;>rfl
  rw[gO,if_neg (by simp)]
 unfold vH
 rw[l]
 cases (a1o b.Txs.length).any (c3 b.Txs)<;>rfl
theorem aQe : ∀(m:Nat)(i:Int),sN N b m i=gR N b m i
 |0,_=>rfl
 |m+1,i=>by
  unfold sN gR
  exact aCn (aHR fun t ht=>lR (by rw[aXf hN (B.t.2 t ht),aW1 hN (B.t.2 t ht)]) fun _=>aCn rfl (aQe m _)) rfl
theorem aP3 : ∀(m:Nat)(i:Int),yO N b m i=c8 N b m i
 |0,_=>rfl
 |m+1,i=>by
  unfold yO c8
  exact aCn (aHR fun t ht=>lR aNk fun _=>aCn rfl (aP3 m _)) rfl
theorem aUl :aAv N b=fF N b:=by
 have j2:zJ N b=mB N b:=by
  unfold zJ mB aHN
  rw[a02 hN B,aY2 hN B]
  cases (a1o b.Txs.length).any (c1 N b.Txs)
  ·simp only[a1e,if_false,a1a]
   unfold aCL aC6 aCW oY
   rw[a0G hN B,aZt hN B,a0D hN B,aYE hN B,aDk (yT _ _),aYa hN B.t]
   simp only[a1a]
   cases (a1o b.Txs.length).any (c2 N b.Txs)
   ·cases (a1o b.Txs.length).any (c3 b.Txs)<;>rfl
   rfl
  rfl
 unfold aAv fF aC9 oJ
 obtain⟨e,he⟩:=aXq hN B
 rw[he,aSf hN B,j2]
 simp only[a1a]
 cases aP7 b
 ·rfl
 simp only[if_true,a1E,a1e,if_false]
 rw[if_neg (by simp)]
 refine aCn rfl ?_
 rw[aP3 hN B]
 refine lR rfl fun q=> ?_
 cases q
 ·show(sN N b N 0).bind _=(gR N b N 0).bind _
  rw[aQe hN B]
 rfl
end
structure MapR (l:List (aB×aA))(cs:List aA):Prop where
 k: ∀e∈l,e.1=e.2.Out
 p:(l.map Prod.snd).Perm cs
theorem aIW : ∀{a b:List aA},Srt a→Srt b→a.Perm b→a=b
 | [],b,_,_,p=>p.nil_eq
 |x::a,[],_,_,p=>absurd p.symm.nil_eq (by simp)
 |x::a,y::b,ha,hb,p=>by
  obtain⟨a1,a2⟩:=a1s.1 ha
  obtain⟨b1,b2⟩:=a1s.1 hb
  have hx:x∈y::b:=p.mem_iff.1 (by simp)
  have hy:y∈x::a:=p.mem_iff.2 (by simp)
  have e:x=y:=by
   rcases a1v.1 hx with e|hx
   ·exact e
   rcases a1v.1 hy with e|hy
   ·exact e.symm
   have h1:=a1 y hy
   have h2:=b1 x hx
   rw[oI]at h2
   omega
  subst e
  rw[aIW a2 b2 p.cons_inv]
theorem aG6 {c:aA}: ∀{l:List aA},(qB c l).Perm (c::l)
 | []=>a2n _
 |d::ds=>by
  unfold qB
  split
  ·exact((aG6 (l:=ds)).cons d).trans (List.Perm.swap c d ds)
  exact a2n _
theorem aHX : ∀(m:List aA),(∀c∈m,fE c.Out)→(m.Pairwise fun a b=>cQ a.Out b.Out≠0)→Srt (m.foldr qB [])∧(m.foldr qB []).Perm m
 | [],_,_=>⟨a18,a2n _⟩
 |c::m,ho,hp=>by
  obtain⟨h1,h2⟩:=a1s.1 hp
  obtain⟨i1,i2⟩:=aHX m (fun d hd=>ho d (by simp[hd])) h2
  rw[List.foldr_cons]
  exact⟨aIO (ho c (by simp)) (fun d hd=>ho d (by simp[i2.mem_iff.1 hd])) i1 fun d hd=>by rw[oI];have:=h1 d (i2.mem_iff.1 hd);omega,aG6.trans (i2.cons c)⟩
theorem aZN {n:Nat}{cs:List aA}(K:CsW n cs)(hn:n≤1000){m:List aA}(p:m.Perm cs):mK m=some cs:=by
 have hl:=p.length_eq
 have hk:=K.n
 have ne:m.Pairwise fun a b=>cQ a.Out b.Out≠0:=by
  have sym: ∀{a b:aA},cQ a.Out b.Out≠0→cQ b.Out a.Out≠0:=fun h=>by rw[oI];omega
  exact(p.pairwise_iff sym).2 (K.s.imp fun h=>by omega)
 have ho: ∀c∈m,fE c.Out:=fun c hc=>K.ok c (p.mem_iff.1 hc)
 obtain⟨g1,g2⟩:=aHX m ho ne
 have ok: ∀c∈m,aI6 c.Out=true:=fun c hc=>by
  have:=ho c hc
  unfold aI6
  rw[decide_eq_true this.1,a1w,a2z]
  exact fun x hx=>decide_eq_true (this.2 x hx)
 unfold mK
 rw[if_pos ⟨by omega,ok,ne⟩,aIW g1 K.s (g2.trans p)]
section
variable {h:Int}{n:Nat}{cs:List aA}(K:CsK h n cs){l:List (aB×aA)}(R:MapR l cs)
include K R
theorem MapR.put {c:aA}:MapR (l++[(c.Out,c)]) (qB c cs):=by
 refine⟨fun e he=> ?_, ?_⟩
 ·rcases a1q.1 he with he|he
  ·exact R.k e he
  obtain rfl:=a1h.1 he;rfl
 rw[a1G,a1Q]
 exact((R.p.append_right _).trans List.perm_append_comm).trans aG6.symm
end
def aBy (id:List Int)(h:Int)(cb:Bool):Nat→List aW→List aA
 |_,[]=>[]
 |i,o::os=>⟨⟨id,(i:Int)⟩,o,h,cb⟩::aBy id h cb (i+1) os
theorem aDT {id:List Int}{h:Int}{cb:Bool}: ∀(i:Nat)(os:List aW),(aBy id h cb i os).length=os.length
 |_,[]=>rfl
 |i,o::os=>by simp only[aBy,a1r,aDT]
theorem aD6 {id:List Int}{h:Int}{cb:Bool}: ∀(i:Nat)(os:List aW){c:aA},c∈aBy id h cb i os→c.Out.Tx=id∧(i:Int)≤c.Out.Index∧c.Output∈os∧c.Height=h
 |_,[],c,hc=>by simp[aBy]at hc
 |i,o::os,c,hc=>by
  rcases a1v.1 hc with rfl|hc
  ·exact⟨rfl,a19 _,by simp,rfl⟩
  obtain⟨h1,h2,h3,h4⟩:=aD6 (i+1) os hc
  exact⟨h1,by omega,by simp[h3],h4⟩
theorem aRc {id:List Int}{h:Int}{cb:Bool}: ∀(i:Nat)(os:List aW),(aBy id h cb i os).Pairwise fun a b=>a.Out≠b.Out
 |_,[]=>a18
 |i,o::os=>a1s.2 ⟨fun c hc e=>by
   have:=(aD6 (i+1) os hc).2.1
   rw[←e]at this
   simp only at this
   omega,aRc (i+1) os⟩
def sA (N:Nat)(t:aD)(h:Int)(cb:Bool):List aA:=aBy (dig N t false) h cb 0 t.Outputs
section
variable {N:Nat}(hN:70000≤N)
include hN
theorem aXb {t:aD}(T:TxM t){h:Int}{cb:Bool}{c:aA}(hc:c∈sA N t h cb):CoinM c∧c.Height=h:=by
 obtain⟨h1,_,h3,h4⟩:=aD6 0 t.Outputs hc
 have hd:=aKC (t:=t) N false
 exact⟨⟨⟨by rw[h1];exact hd.1,by rw[h1];exact hd.2⟩,T.o _ h3⟩,h4⟩
theorem aMZ {t:aD}(T:TxM t){h:Int}{cb:Bool}(hcb:cJ N t=some cb){id:List Int}: ∀(m j:Nat)(acc:List aA),t.Outputs.length-j<m→j≤t.Outputs.length→acc.length≤10+j→
  jV N t h id m (j:Int) acc=some (acc++aBy id h cb j (t.Outputs.drop j))
 |0,j,_,hm,_,_=>by omega
 |m+1,j,acc,hm,hj,ha=>by
  have hno:=T.n
  rw[jV]
  by_cases hl:j<t.Outputs.length
  ·rw[if_pos (dT hl),aY _ hl,a1j hl,aG0 j (by omega)]
   simp only[a1a,hcb]
   rw[dG (by omega) (by simp;omega),i1 (by omega)]
   simp only[a1a]
   rw[aMZ T hcb m (j+1) _ (by omega) (by omega) (by simp;omega),a1i]
   rfl
  rw[if_neg (by simp;omega),a1l (by omega)]
  simp[aBy]
theorem aPW {t:aD}(T:TxM t){h:Int}{cb:Bool}(hcb:cJ N t=some cb):iM N t h=some (sA N t h cb):=by
 have l:=aMZ hN T (h:=h) hcb (id:=dig N t false) N 0 [] (by have:=T.n;omega) (by omega) (by simp)
 rw[show((0:Nat):Int)=0 from rfl,a1g,a1f]at l
 unfold iM
 rw[rID N hN T.k]
 simp only[a1a,aX (aKC (t:=t) N false).1,l,aA0]
 rfl
theorem aNs {t:aD}(T:TxM t){h:Int}{cb:Bool}{id:List Int}: ∀(m j:Nat)(acc:List aA),t.Outputs.length-j<m→j≤t.Outputs.length→acc.length≤10+j→
  rX N t h cb id m (j:Int) acc=some (acc++aBy id h cb j (t.Outputs.drop j))
 |0,j,_,hm,_,_=>by omega
 |m+1,j,acc,hm,hj,ha=>by
  have hno:=T.n
  rw[rX]
  by_cases hl:j<t.Outputs.length
  ·rw[if_pos (dT hl),aY _ hl,a1j hl,aG0 j (by omega)]
   simp only[a1a]
   rw[dG (by omega) (by simp;omega),i1 (by omega)]
   simp only[a1a]
   rw[aNs T m (j+1) _ (by omega) (by omega) (by simp;omega),a1i]
   rfl
  rw[if_neg (by simp;omega),a1l (by omega)]
  simp[aBy]
theorem aUv {t:aD}(T:TxM t){h:Int}{cb:Bool}:s9 N t h cb=some (sA N t h cb):=by
 have l:=aNs hN T (h:=h) (cb:=cb) (id:=dig N t false) N 0 [] (by have:=T.n;omega) (by omega) (by simp)
 rw[show((0:Nat):Int)=0 from rfl,a1g,a1f]at l
 unfold s9
 rw[aID N hN T.k]
 simp only[a1a,aX (aKC (t:=t) N false).1,l,zQ]
 rfl
def aHt (cs:List aA)(o:aB):Bool:=decide (0≤fI o 0 cs)
omit hN in
theorem aU5 {l:List aA}(hl: ∀d∈l,fE d.Out){o:aB}(ho:fE o):aHt l o=true↔ ∃d∈l,d.Out=o:=by
 unfold aHt
 rcases aF7 o l 0 with⟨h1,h2⟩|⟨k,hk,h1,h2⟩
 ·rw[h1]
  refine⟨fun h=>(by cases h),fun⟨d,hd,e⟩=>absurd (by rw[e];exact qU o) (h2 d hd)⟩
 rw[h1]
 exact⟨fun _=>⟨_,a1b hk,mQ (hl _ (a1b hk)).1 ho.1 h2⟩,fun _=>decide_eq_true (by omega)⟩
omit hN in
omit hN in
end
def c4 (l:List aD)(j:Nat):Bool:=match l[j]? with
 |some t=>(j9 (pv t) aET) != ((j:Int) == 0)
 |none=>false
def jE (c:aA):aB×aA:=(c.Out,c)
section
variable {N:Nat}(hN:70000≤N){b:aH}(B:sX b)
include hN B
theorem a0J (h:fF N b=some 0): ∀j (hj:j<b.Txs.length),cJ N b.Txs[j]=some ((j:Int) == 0):=by
 have hb:=B.t.1
 have l6:c8 N b N 0=some (if(a1o b.Txs.length).any (c4 b.Txs)=true then .ret 111 else .brk ()):=by
  refine aF2 (f:=fun m j (_:Unit)=>c8 N b m j) (fun _=>()) (c4 b.Txs) 111 () (fun m j hj=> ?_) (fun m=> ?_) (by omega)
  ·obtain⟨x,hi,hx⟩:=(B.t.2 _ (a1b hj)).i
   show c8 N b (m+1) (j:Int)=if c4 b.Txs j=true then some (.ret 111)else c8 N b m ((j+1:Nat):Int)
   rw[c8,if_pos (dT hj),aY _ hj,show c4 b.Txs j=((j9 x.Prev aET) != ((j:Int) == 0)) by unfold c4;rw[a1m hj];simp only[aDS hN B hi]]
   simp only[a1a,aNd hN hi hx.p.1,i1 (show j≤100000 by omega)]
  show c8 N b (m+1) (b.Txs.length:Int)=_
  rw[c8,if_neg (by simp)]
 unfold fF at h
 rw[aSf hN B,l6]at h
 intro j hj
 obtain⟨x,hi,hx⟩:=(B.t.2 _ (a1b hj)).i
 rw[aNd hN hi hx.p.1]
 cases ha:(a1o b.Txs.length).any (c4 b.Txs) with
 |true=>
  rw[ha]at h
  simp only[a1a]at h
  split at h
  ·cases h
  split at h
  ·cases h
  cases h
 |false=>
  rw[List.any_eq_false]at ha
  have:=ha j (List.mem_range.2 hj)
  unfold c4 at this
  rw[a1m hj]at this
  simp only[aDS hN B hi,bne_iff_ne,ne_eq,Decidable.not_not]at this
  rw[this]
end
section
variable {N:Nat}(hN:70000≤N){cs:List aA}(hn:cs.length≤1000)(hok: ∀c∈cs,fE c.Out){o:aB}(ho:fE o)
include hN hn hok ho
theorem aN1 : ∀(m i j:Nat),j-i<m→i≤j→j≤cs.length→(∀(k:Nat)(hk:k<cs.length),k<i→cQ cs[k].Out o<0)→(∀(k:Nat)(hk:k<cs.length),j≤k→0≤cQ cs[k].Out o)→
  (∀(i k:Nat)(hi:i<cs.length)(hk:k<cs.length),i<k→cQ cs[i].Out cs[k].Out<0)→
  ∃r:Nat,b8 N cs o m (i:Int) (j:Int)=some (r:Int)∧r≤cs.length∧(∀(k:Nat)(hk:k<cs.length),k<r→cQ cs[k].Out o<0)∧ ∀(k:Nat)(hk:k<cs.length),r≤k→0≤cQ cs[k].Out o
 |m+1,i,j,hm,hij,hj,hlo,hhi,hst=>by
  unfold b8
  by_cases hl:i<j
  ·rw[if_pos (decide_eq_true (by omega)),cR (by omega) (by omega),show(i:Int)+(j:Int)=((i+j:Nat):Int) by omega,aFW (by omega) (by omega),show shr .u64 ((i+j:Nat):Int) 1=some (((i+j)/2:Nat):Int)from aK5 (i+j) 1 (show i+j<2^64 by omega)]
   simp only[a1a]
   have hh:(i+j)/2<cs.length:=by omega
   rw[cR (a:=(((i+j)/2:Nat):Int)) (by omega) (by omega),aY _ hh]
   have o1:=hok _ (a1b hh)
   simp only[a1a,sI]
   rw[aIv hN o1.1 ho.1 o1.2 ho.2]
   simp only[a1a]
   by_cases hc:cQ cs[(i+j)/2].Out o<0
   ·rw[if_pos (decide_eq_true hc),i1 (by omega)]
    refine aN1 m ((i+j)/2+1) j (by omega) (by omega) hj (fun k hk hki=> ?_) hhi hst
    by_cases he:k=(i+j)/2
    ·subst he;exact hc
    exact uD (hok _ (a1b hk)).1 o1.1 ho.1 (hst k _ hk hh (by omega)) hc
   rw[if_neg (by simpa using hc)]
   refine aN1 m i ((i+j)/2) (by omega) (by omega) (by omega) hlo (fun k hk hki=> ?_) hst
   by_cases he:k=(i+j)/2
   ·subst he;omega
   by_cases hlt:cQ cs[k].Out o<0
   ·exact absurd (uD o1.1 (hok _ (a1b hk)).1 ho.1 (hst _ k hh hk (by omega)) hlt) hc
   omega
  rw[if_neg (by simp;omega)]
  obtain rfl:i=j:=by omega
  exact⟨i,rfl,hj,hlo,hhi⟩
theorem aTV (l:aC)(hl:l.Coins=cs)(hs:jY l.Height none cs=true):o9 N l o=some (fI o 0 cs):=by
 obtain⟨hst,_⟩:=aM5 hok (fun q e=>by cases e) hs
 obtain⟨r,h1,h2,h3,h4⟩:=aN1 hN hn hok ho N 0 cs.length (by omega) (by omega) (a1C _) (fun k _ h=>by omega) (fun k hk h=>by omega) hst
 unfold o9 dW
 rw[hl,show(0:Int)=((0:Nat):Int)from rfl,h1]
 simp only[a1a,dI,cN]
 by_cases hr:r<cs.length
 ·have o1:=hok _ (a1b hr)
  rw[if_pos (dT hr),aY _ hr]
  simp only[a1a,sI]
  rw[aIv hN o1.1 ho.1 o1.2 ho.2]
  simp only[a1a]
  by_cases h0:cQ cs[r].Out o=0
  ·rw[h0,aVY _ hr (fun k hk hkr=>by have:=h3 k hk hkr;omega) h0]
   simp
  have hpos:=h4 r hr (a1C _)
  rw[aNO _ (fun k hk=> ?_)]
  ·simp[h0]
  intro he
  rcases Nat.lt_trichotomy k r with hk1|hk1|hk1
  ·have:=h3 k hk hk1;omega
  ·subst hk1;exact h0 he
  have e2:=mQ (hok _ (a1b hk)).1 ho.1 he
  have:=hst r k hr hk hk1
  rw[e2]at this
  omega
 rw[if_neg (by simp;omega),aNO _ (fun k hk=>by have:=h3 k hk (by omega);omega)]
 simp
end
end Go.Proofs.YtopdhljncajmpaaGreatDoor
