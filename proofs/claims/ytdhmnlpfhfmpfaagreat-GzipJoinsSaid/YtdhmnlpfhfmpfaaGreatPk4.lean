/-
  part
-/
import Derived.Test.YtdhmnlpfhfmpfaaGreatPk3
import Derived.Test.YtdhmnlpfhfmpfaaGreatProg
set_option linter.unusedVariables false
set_option maxRecDepth 100000
set_option maxHeartbeats 4000000
namespace Go.Proofs.YtdhmnlpfhfmpfaaGreat
open Go.RowKit
theorem kV (a:Addr) (m j:Nat) (c:0<j):a.add (m+j)= ⟨(a.add m).block,(a.add m).off+j,none⟩ :=by
 unfold Addr.add;rw[aa ξ];by_cases b:m=0
 · subst b;simp
 simp [b,Nat.add_assoc]
def dT (l:List cu) (i:Nat):cu:=l.getD i ⟨0,0,0⟩
def lV (w:World) (B:Nat) (A:Option Addr) (n:Nat) (l:List cu):Prop:=
 n=l.length/\(0<n->∃a,A=some a/\a.block<B/\∀i,i<n->w.cell? (a.add (i*3))=some (.int .u8 (dT l i).lit)/\w.cell? (a.add (i*3+1))=some (.int .i64 (dT l i).len)/\w.cell? (a.add (i*3+2))=some (.int .i64 (dT l i).bk))
theorem lV.dX {l:List cu} {n k:Nat} (a:n=l.length) (b:k<n):l.drop k=dT l k::l.drop (k+1):=by
 rw[bT ω];simp [dT,List.getD_eq_getElem?_getD,show k<l.length by omega]
def tf (L N D:Int):Nat->Value
 | 0=> .int .u8 L
 | 1=> .int .i64 N
 | _=> .int .i64 D
theorem BP (w:World) (L N D:Int) (t:TypeId):Ar (w.alloc (.cells #[.int .u8 L, .int .i64 N, .int .i64 D] t)) w.heap.size 3 (tf L N D):=
 Ar.new w _ t rfl λi hi=>by
  obtain rfl | rfl | rfl:i=0\/i=1\/i=2:=ω
  · rfl
  · rfl
  rfl
def qQ (L n d:Int):Bool:=if n=0 then decide (d=0)else decide (L=0/\3<=n/\n<=258/\1<=d/\d<=32768)
theorem Jn {L n d:Int} (h:n=0):qQ L n d=decide (d=0):=by unfold qQ;rw[ae h]
theorem FZ {L n d:Int} (h:¬n=0):qQ L n d=decide (L=0/\3<=n/\n<=258/\1<=d/\d<=32768):=by unfold qQ;rw[aa h]
theorem BD (L N D:Int):qQ L N D=decide (cC ⟨L,N,D⟩):=by
 unfold qQ cC;by_cases h:N=0
 · simp [h]
 simp [h]
theorem mK (out:List Int) (a b:List cu):expand out (a++b)=if(expand out a).1=0 then expand (expand out a).2 b else expand out a:=by
 induction a generalizing out with
 | nil=>rfl
 | cons t a c=>
   rw[dA,jQ,jQ];by_cases h:(step out t).1=0
   · rw[ae h,ae h,c]
   rw[aa h,aa h,aa h]
theorem a0v {out:List Int} {t:cu} (h:(step out t).1=0):∃z,(step out t).2=out++z:=by
 unfold step at h⊢;split
 · rename_i b;rw[ae b]at h;simp at h
 rename_i b
 rw[aa b]at h;split
 · rename_i a;rw[ae a]at h;simp at h
 rename_i a
 rw[aa a]at h;split
 · exact⟨_,rfl⟩
 rename_i c
 rw[aa c]at h;split
 · rename_i h4;rw[ae h4]at h;simp at h
 exact⟨_,rfl⟩
theorem tv {out:List Int} {l:List cu} (h:(expand out l).1=0):∃z,(expand out l).2=out++z:=by
 induction l generalizing out with
 | nil=>exact⟨[],by simp [expand]⟩
 | cons t l b=>
   rw[jQ]at h⊢;by_cases a:(step out t).1=0
   · rw[ae a]at h⊢;obtain⟨z,hz⟩ :=b h;obtain⟨y,c⟩ :=a0v a;exact⟨y++z,by rw[hz,c,ak]⟩
   rw[aa a]at h;exact absurd h a
theorem lV.below {w w':World} {B n:Nat} {A:Option Addr} {l:List cu} (h:lV w B A n l) (b:Below B w w'):lV w' B A n l:= ⟨h.1,λd=>by
 obtain⟨f,e,a,c⟩ :=h.2 d
 exact⟨f,e,a,λi hi=>by
  obtain⟨c0,c1,c2⟩ :=c i hi;exact⟨(b.cell (by rw[bH];exact a)).trans c0,(b.cell (by rw[bH];exact a)).trans c1,(b.cell (by rw[bH];exact a)).trans c2⟩⟩⟩
theorem lV.more {w:World} {B B' n:Nat} {A:Option Addr} {l:List cu} (h:lV w B A n l) (d:B<=B'):lV w B' A n l:= ⟨h.1,λb=>by
 obtain⟨c,e,f,a⟩ :=h.2 b;exact⟨c,e,ω,a⟩⟩
def uR (l:List cu) (i:Nat):Value:=tf (dT l (i/3)).lit (dT l (i/3)).len (dT l (i/3)).bk (i%3)
theorem WT (l:List cu) (i:Nat):uR l (i*3)= .int .u8 (dT l i).lit:=by unfold uR;rw[show i*3/3=i by omega,show i*3%3=0 by omega];rfl
theorem WU (l:List cu) (i:Nat):uR l (i*3+1)= .int .i64 (dT l i).len:=by unfold uR;rw[show(i*3+1)/3=i by omega,show(i*3+1)%3=1 by omega];rfl
theorem WV (l:List cu) (i:Nat):uR l (i*3+2)= .int .i64 (dT l i).bk:=by unfold uR;rw[show(i*3+2)/3=i by omega,show(i*3+2)%3=2 by omega];rfl
theorem JC (l:List cu) (i:Nat):(uR l i).oneCell'=true:=by
 unfold uR tf;split <;> rfl
theorem lV.a7P {w:World} {B n:Nat} {A:Option Addr} {l:List cu} (b:n=l.length) (h:Rd w B A (n*3) (uR l)):lV w B A n l:= ⟨b,λf=>by
 obtain⟨d,e,c,a⟩ :=h ω;exact⟨d,e,c,λi hi=> ⟨by rw[a _ ω,WT],by rw[a _ ω,WU],by rw[a _ ω,WV]⟩⟩⟩
theorem lV.rd {w:World} {B n:Nat} {A:Option Addr} {l:List cu} (h:lV w B A n l):Rd w B A (n*3) (uR l):=λd=>by
 obtain⟨c,e,b,a⟩ :=h.2 ω;refine⟨c,e,b,λi hi=> ?_⟩;obtain⟨c0,c1,c2⟩ :=a (i/3) ω;obtain h | h | h:i=i/3*3\/i=i/3*3+1\/i=i/3*3+2:=ω
 · rw[h,WT];exact c0
 · rw[h,WU];exact c1
 rw[h,WV];exact c2
theorem G8 (l l':List cu) (i:Nat):dT (l++l') i=if i<l.length then dT l i else dT l' (i-l.length):=by
 unfold dT;simp only [List.getD_eq_getElem?_getD];split
 · rw[bJ (by assumption)]
 rw[bF ω]
theorem JB (l l':List cu) (i:Nat):cat (l.length*3) (uR l) (uR l') i=uR (l++l') i:=by
 unfold cat uR;rw[G8];by_cases h:i<l.length*3
 · rw[ae h,ae ω]
 rw[aa h,aa ω,show(i-l.length*3)/3=i/3-l.length by omega,show(i-l.length*3)%3=i%3 by omega]
def jW (w:World) (b0:Nat) (A:Option Addr) (n c:Nat) (l:List cu):Prop:=n=l.length/\Own w b0 109 3 A n c (uR l)
theorem jW.rd {w:World} {b0 n c:Nat} {A:Option Addr} {l:List cu} (h:jW w b0 A n c l):lV w w.heap.size A n l:=lV.a7P h.1 h.2.rd
theorem jW.b0E (w:World) (b0:Nat) (a:b0<=w.heap.size):jW (w.alloc (.cells #[] 109)) b0 (some ⟨w.heap.size,0,none⟩) 0 0 []:=
 ⟨rfl,Own.lit rfl #[] _ a σ σ (λi hi=>ω)⟩
theorem Ek:(Tryz.prog.info? 109).map (λi=>(i.zero,i.size,i.bytes))=some (some (.agg #[.int .u8 0, .int .i64 0, .int .i64 0]),3,24):=by kernel_rfl
section
variable {w:World}
theorem mY {d:Array Oper} {rest:List Oper} {o:Oper} {a:Act} {Q:Exit->Act->World->Prop} (b0:Nat) (i:TypeInfo) (k:Region.wanted o (yielded d a.tmps)=true) (s x:Operand)
  (v:o.op= .call { callee:= .builtin .append,args:= #[s,x],argTypes:= #[65, 65] }) (hi:Tryz.prog.info? 109 =some i) (hz:i.zero=some (.agg #[.int .u8 0, .int .i64 0, .int .i64 0]))
  (e:i.size=3) (p:i.bytes=24) {A:Option Addr} {n c:Nat} {l:List cu} (u:a.eval s= .slice A n c) (b:jW w b0 A n c l)
  {B:Nat} {A':Option Addr} {m c':Nat} {l':List cu} (t:a.eval x= .slice A' m c') (r:lV w B A' m l')
  (q:n+m<=1000000000000) (f:b0<=w.heap.size)
  (h:∀A2 c2 w2,jW w2 b0 A2 (n+m) c2 (l++l')->w.grownBy w2 (ai A)->(ai A2=ai A\/ai A2=some w.heap.size)->wpList Tryz.prog d Q rest (a.put o.dst (.slice A2 (n+m) c2)) w2):wpList Tryz.prog d Q (o::rest) a w:=by
 refine iU λK y=> ?_;rw[ae k];obtain⟨A2,c2,w2,g,C,z,h4⟩ :=iP (P:=Tryz.prog) w b0 65 o.type 109 i _ 3 24 Tryz.underlying65 hi hz e p rfl ω A n c _ b.2 B A' m c' _ r.rd (λj _=>JC l' j) q ω f;unfold Oper.wp execOp;simp only [v,resolve,invoke,builtin,Sem.run_bind,Sem.run_pure,Result.andThen_ok,List.map_toArray,List.map_cons,List.map_nil,u,t,g];exact y _ _ (h A2 c2 w2 ⟨by rw[af,<-b.1,<-r.1],C.congr λj D=>by rw[b.1,JB]⟩ z h4)
end
open Go
theorem Yp {a b:List Int} (d:a.length=b.length) (h:∀i,i<a.length->ix a i=ix b i):a=b:=by
 apply fy d
 intro i c e;have:=h i c
 simpa [ix,c,e] using this
theorem ze (l:List Int) {n i:Nat} (h:i<n):ix (l.take n) i=ix l i:=by
 unfold ix;simp only [List.getD_eq_getElem?_getD,List.getElem?_take,if_pos h]
theorem SA {D:List Int} {at_ N d:Nat} (g:1<=d) (f:d<=at_) (e:at_+N<=D.length) (h:∀i,i<N->ix D (at_-d+i)=ix D (at_+i)):D.take at_++again (D.take at_) d N=D.take (at_+N):=by
 have c:(D.take at_).length=at_:=ξ
 have b:∀i,i<N->ix D (at_+i)=ix D (at_-d+i%d):=by
  intro i;induction i using Nat.strongRecOn with
  | _ i ih=>
    intro hi;by_cases hd:i<d
    · rw[dU hd,h i hi]
    have h4:=ih (i-d) ω ω;have h5:=h i hi;rw[show at_-d+i=at_+(i-d) by omega,h4,<-Nat.mod_eq_sub_mod ω]at h5;exact h5.symm
 apply Yp
 · simp [cG];omega
 intro i hi;rw[af,cG,c]at hi;rw[dn,c];by_cases a:i<at_
 · rw[ae a,ze _ a,ze _ ω]
 rw[aa a,Iy _ _ _ ω,c,ze _ (by have:=Nat.mod_lt (i-at_) (show 0<d by omega);omega),ze _ ω];have:=b (i-at_) ω;rw[show at_+(i-at_)=i by omega]at this;exact this.symm
theorem take_one (D:List Int) {n:Nat} (h:n<D.length):D.take n++[ix D n]=D.take (n+1):=by
 rw[aY h];simp [ix,h]
theorem Qn {e:oW} {st:ja} (h:st.Ok st.at_) (a:st.at_<st.D.length) (s:st.D.length<=16777216):step (st.D.take st.at_) (fN e st).1=(0,st.D.take (fN e st).2.at_):=by
 obtain⟨N,v,u,k, -, -,h6, -,h7⟩ :=oU (e:=e) h a;have c:(st.D.take st.at_).length=st.at_:=ξ;rw[h6];rcases h7 with ⟨ht,rfl⟩ | ⟨d,ht,j, -,t⟩
 · rw[ht];unfold step rv;have b:cC ⟨ix st.D st.at_,0,0⟩ :=by unfold cC;simp
   rw[aa (by simpa using b),c,aa (by simp only;omega),ae rfl];simp only;rw[take_one _ a]
 rw[ht];rcases j with ⟨hz, -⟩ | ⟨o,n,m,i,l,g,f⟩
 · simp only at hz;omega
 simp only at o n m i l g f;unfold step;have b:cC ⟨0,N,d⟩ :=by unfold cC;rw[aa (show¬(N:Int)=0 by omega)];exact⟨rfl,show(3:Int)<=N by omega,show(N:Int)<=258 by omega,show(1:Int)<=d by omega,show(d:Int)<=32768 by omega⟩
 have r:¬(16777216<((st.at_:Nat):Int)+max (N:Int) 1):=ω;have q:¬((N:Int)=0):=ω;have p:¬(((st.at_:Nat):Int)<(d:Int)):=ω;rw[aa (by simpa using b),c];simp only [if_neg r,if_neg q,if_neg p,Int.toNat_natCast];rw[SA i g k f]
theorem Mp {e:oW} {left:Nat} {st st':ja} {l:List cu} (h:yQ e left st l st') (g:st.Ok st.at_) (i:st.D.length<=16777216) (out:List Int) (pre:List cu) (hp:expand [] pre=(0,st.D.take st.at_)):expand [] (pre++l)=(0,st'.D.take st'.at_):=by
 induction h with
 | nil=>rw[ax];exact hp
 | snoc j r c=>
   obtain⟨a,d,q,p⟩ :=FY j g;have f:=Qn (e:=e) a ω (by rw[d];exact i);obtain⟨N,o, -, -,n,b,m,k, -⟩ :=oU (e:=e) a ω;rw[<-ak,mK,c];simp only [if_pos];rw[jQ,f];simp only [if_pos];rw[b];rfl
theorem yQ.a4R {e:oW} {left:Nat} {st st':ja} {l:List cu} (h:left<st.D.length-st.at_) (b:yQ e left (fN e st).2 l st'):yQ e left st ((fN e st).1::l) st':=by
 induction b with
 | nil=>exact yQ.snoc (yQ.nil st) h
 | snoc d c a=>exact yQ.snoc (l:=(fN e st).1::_) a c
theorem yQ.inv {e:oW} {left:Nat} {st st':ja} {l:List cu} (h:yQ e left st l st'):(l=[]/\st'=st)\/∃a,left<st.D.length-st.at_/\l=(fN e st).1::a/\yQ e left (fN e st).2 a st':=by
 induction h with
 | nil=>exact .inl ⟨rfl,rfl⟩
 | snoc f b c=>
   rcases c with ⟨rfl,rfl⟩ | ⟨a,d,rfl,h5⟩
   · exact .inr ⟨[],b,rfl, .nil _⟩
   exact .inr ⟨_,d,rfl,yQ.snoc h5 b⟩
section
variable {P:Program} (t e:TypeId) (ht:P.underlying t=some (.slice e)) {i:TypeInfo} (hi:P.info? e=some i)
include ht hi
theorem tX (A:Option Addr) (n c:Nat) {j:Nat} (b:j<=c) (W:World):
  (Instr.slice t (.slice A n c) none (some (.int .i64 (j:Int))) (some (.int .i64 (j:Int)))).run P W= .ok (.slice A j j) W:=by
 have a:P.elem t=e:=by simp [Program.elem,ht]
 rw[run_slice_hm W t A n c (by rw[a];exact ht) .i64 .i64 j j ω ω ω,a];simp [sizeOf,typeInfo,hi,sliced];cases A <;> simp [Addr.add]
theorem yP {a:Nat} (d:i.size=a) (A:Option Addr) (n c:Nat) {j:Nat} (f:j<=n) (W:World):
  (Instr.slice t (.slice A n c) (some (.int .i64 (j:Int))) none none).run P W= .ok (.slice (if c=j then A else A.map (·.add (j*a))) (n-j) (c-j)) W:=by
 have b:P.elem t=e:=by simp [Program.elem,ht]
 rw[run_slice_l W t A n c (by rw[b];exact ht) .i64 j ω ω,b];simp [sizeOf,typeInfo,hi,d,sliced]
end
theorem lV.pre {w:World} {B n:Nat} {A:Option Addr} {l:List cu} (h:lV w B A n l) {j:Nat} (d:j<=n):lV w B A j (l.take j):=by
 refine⟨by rw[aA,<-h.1];omega,λf=> ?_⟩;obtain⟨c,e,b,a⟩ :=h.2 ω;refine⟨c,e,b,λi hi=> ?_⟩;have ht:dT (l.take j) i=dT l i:=by unfold dT;simp [List.getD_eq_getElem?_getD,hi]
 rw[ht];exact a i ω
theorem lV.from_ {w:World} {B n c:Nat} {A:Option Addr} {l:List cu} (h:lV w B A n l) {j:Nat} (f:j<=n) (g:n<=c):lV w B (if c=j then A else A.map (·.add (j*3))) (n-j) (l.drop j):=by
 refine⟨by rw[av,<-h.1],λk=> ?_⟩;obtain⟨d,rfl,e,a⟩ :=h.2 ω;rw[aa ω];refine⟨_,rfl,by rw[bH];exact e,λi hi=> ?_⟩;have ht:dT (l.drop j) i=dT l (j+i):=by unfold dT;simp [List.getD_eq_getElem?_getD,List.getElem?_drop]
 rw[ht];have b:∀q:Nat,(d.add (j*3)).add q=d.add (j*3+q):=λq=>by unfold Addr.add;split <;> split <;> simp_all <;> omega
 have:=a (j+i) ω;rw[b,b,b,<-eZ,<-eZ,<-dD];exact this
theorem BX:(Tryz.prog.info? 5).map (λi=>(i.zero,i.size,i.bytes))=some (some (.int .u8 0),1,1):=by kernel_rfl
structure yR (w:World) (b0 g:Nat) (A:Option Addr) (n c:Nat) (l:List Int):Prop where
 cell:Ar w g 1 (λ_=> .slice A n c)
 lo:b0<=g
 own:aW .u8 w b0 5 A n c l
 apart:ai A≠some g
 len:l.length<=65536
theorem yR.mV {w:World} {b0 g n c:Nat} {A:Option Addr} {l:List Int} (h:yR w b0 g A n c l):n=l.length:=h.own.1
theorem yR.fz {w w':World} {b0 g n c:Nat} {A:Option Addr} {l:List Int} {S:Nat->Prop} (h:yR w b0 g A n c l) (a:bj w w' S) (b:∀k,foot A g k->¬S k):yR w' b0 g A n c l:=
 ⟨a.ar h.cell (b g (.inl rfl)),h.lo,a.eH h.own λq d=>b q (.inr d),h.apart,h.len⟩
theorem yR.keeps {w w':World} {b0 g n c:Nat} {A:Option Addr} {l:List Int} (h:yR w b0 g A n c l) (a:Below w.heap.size w w'):yR w' b0 g A n c l:=
 h.fz (S:=λ_=>False) (bj.bA a) λ_ _=>id
theorem yR.eJ {w:World} {b0 g n c:Nat} {A:Option Addr} {l:List Int} (h:yR w b0 g A n c l) {k:Nat} (a:foot A g k):b0<=k/\k<w.heap.size:=by
 rcases a with rfl | a
 · exact⟨h.lo,h.cell.lt⟩
 exact h.own.2.lt a
theorem ME (w:World):Calls Tryz.prog 101 #[] w λe w'=>∃g,e= .returned (.pointer (some ⟨g,0,none⟩))/\yR w' w.heap.size g none 0 0 []/\Below w.heap.size w w':=by
 go_enter Tryz.func101,Tryz.ntmps101;go_wp2;go_ret
 have hA:Ar (w.alloc (.cells #[.slice none 0 0] 173)) w.heap.size 1 (λ_=> .slice none 0 0):=
  Ar.new w #[.slice none 0 0] _ rfl λi hi=>by
   obtain rfl:i=0:=ω;rfl
 exact⟨w.heap.size,rfl, ⟨hA,ag _,aW.dK,by simp [ai],σ⟩,(aw _ _).alloc (ag _) _⟩
theorem BZ (w:World) (b0 g n c:Nat) (A:Option Addr) (l:List Int) (a:yR w b0 g A n c l):
  Calls Tryz.prog 158 #[.pointer (some ⟨g,0,none⟩)] w λe w'=>e= .returned (.int .i64 ((min n 32768:Nat):Int))/\w=w':=by
 have c0:=a.cell.cell (i:=0) ω;have d:(n:Int)<=65536:=by have:=a.len;have:=a.mV;omega
 by_cases h:(n:Int)<=32768
 · have e:Hid (((min n 32768:Nat):Int)=(n:Int)):=by show _=_;omega
   have b:¬(32768:Int)<n:=ω;go_enter Tryz.func158,Tryz.ntmps158;go_wp2;go_ret;exact⟨cn e.out.symm,rfl⟩
 have e:Hid (((min n 32768:Nat):Int)=32768):=by show _=_;omega
 have b:(32768:Int)<n:=ω;go_enter Tryz.func158,Tryz.ntmps158;go_wp2;go_ret;exact⟨cn e.out.symm,rfl⟩
def Em (w:World) (b0 g:Nat) (A:Option Addr) (l b:List Int) (e:Ending) (w':World):Prop:=
 ∃A' n' c',e= .returned (.tuple #[])/\yR w' b0 g A' n' c' (zD l b)/\bj w w' (foot A g)/\(∀k,ai A'=some k->ai A=some k\/w.heap.size<=k)
theorem uT (w:World) (b0 g n c B m d:Nat) (A C:Option Addr) (l b:List Int) (a:yR w b0 g A n c l) (L:bU .u8 w B C m b) (hB:B<=w.heap.size) (hm:(m:Int)<=1000000):
  Calls Tryz.prog 144 #[.pointer (some ⟨g,0,none⟩), .slice C m d] w (Em w b0 g A l b):=by
 have c0:=a.cell.cell (i:=0) ω;have z0:=a.cell.frozen' (i:=0) ω;have Z:=a.cell.lt;have u:b0<=w.heap.size:=au a.lo (cZ Z);have hn:(n:Int)<=65536:=by have:=a.len;have:=a.mV;omega
 obtain⟨K,hi,D,z,y⟩ :=aJ BX;have Hi:=η hi;have S:=η D;have R:=η z;have Q:=η y;clear hi D z y;have M:l.length+b.length=n+m:=by rw[a.mV,L.1]
 by_cases kg:(65536:Int)<(n:Int)+(m:Int)
 rotate_left
 · go_enter Tryz.func144,Tryz.ntmps144
   go_wp2_with (at_builtin;(refine ba .u8 b0 5 K 1 rfl (.tmp 11) (.tmp 12) _ rfl Tryz.underlying22 Hi.out S.out R.out Q.out rfl a.own rfl L ω ω u ?_)
                intro A2 c2 w2 f t v;have q:=a.cell.grown t (λe=>a.apart e.symm);have P:=q.cell (i:=0) ω;have H:=q.frozen' (i:=0) ω)
   go_end0;unfold Em;have r:=t.size;have s:¬65536<(l++b).length:=by rw[af,M];omega
   have N:zD l b=l++b:=by unfold zD;rw[aa s]
   have tR:∀k,ai A2=some k->ai A=some k\/w.heap.size<=k:=by
    intro k o;rcases v with e | e
    · rw[e]at o;exact .inl o
    rw[e]at o;simp at o;exact .inr ω
   have F:ai A2≠some g:=λh=>by
    rcases tR g h with V | V
    · exact a.apart V
    omega
   refine⟨A2,n+m,c2,rfl, ⟨(q.bC (i:=0) ω _).congr λi hi=> ?_,a.lo, ?_,F,MU l b⟩, ?_,tR⟩
   · obtain rfl:i=0:=ω;rw[upd_same]
   · rw[N];exact f.far (p:= ⟨g,0,none⟩) F _
   exact((bj.refl w _).grown t λk o=> .inl (.inr o)).setCell (p:= ⟨g,0,none⟩) (.inl (.inl rfl)) _
 go_enter Tryz.func144,Tryz.ntmps144
 go_wp2_with (first
  | (at_builtin;(refine ba .u8 b0 5 K 1 rfl (.tmp 11) (.tmp 12) _ rfl Tryz.underlying22 Hi.out S.out R.out Q.out rfl a.own rfl L ω ω u ?_)
     intro A2 c2 w2 f t v;have q:=a.cell.grown t (λe=>a.apart e.symm);have P:=q.cell (i:=0) ω;have H:=q.frozen' (i:=0) ω;obtain⟨G,rfl⟩ :=f.2.addr ω;have Y:g<w2.heap.size:=q.lt;have E:=(q.bC (i:=0) ω (.slice (some ⟨G,0,none⟩) (n+m) c2)).alloc (.cells #[] 5);have O:=E.cell (i:=0) ω;rw[upd_same]at O;have eL:=f.2.jD
     have F:ai (some (⟨G,0,none⟩ :Addr))≠some g:=by
      rcases v with e | e
      · rw[e];exact a.apart
      rw[e];simp;omega
     have J:=(f.far (p:= ⟨g,0,none⟩) F (.slice (some ⟨G,0,none⟩) (n+m) c2)).alloc (.cells #[] 5);have I:=(J.rd.cut (j:=n+m-32768) ω (A':=some ⟨G,n+m-32768,none⟩) (λ_=>by rw[Option.map_some,nY])))
  | (at_builtin;(refine ba .u8 w2.heap.size 5 K 1 rfl (.tmp 24) (.tmp 31) _ rfl Tryz.underlying22 Hi.out S.out R.out Q.out rfl (aW.lit (by simp [World.setCell]) [] _ (by simp [World.setCell]) σ) rfl I ω ω (by simp [World.setCell]) ?_)
     intro W c5 w5 T U jA;rw[bZ,aT]at T;have x:=E.grown U (by simp [ai];omega);have ab:=x.cell (i:=0) ω;have X:=x.frozen' (i:=0) ω))
 go_end0;unfold Em;have r:=t.size;have s:65536<(l++b).length:=by rw[af,M];omega
 have N:zD l b=(l++b).drop (n+m-32768):=by unfold zD;rw[ae s,af,M]
 have ri:∀k,ai W=some k->w2.heap.size<=k:=by
  intro k o;rcases jA with e | e
  · rw[e]at o;simp [ai]at o;omega
  rw[e]at o;simp [World.setCell]at o;omega
 refine⟨W,n+m-(n+m-32768),c5,rfl, ⟨(x.bC (i:=0) ω _).congr λi hi=> ?_,a.lo, ?_, ?_,MU l b⟩, ?_,λk o=> .inr (au r (ri k o))⟩
 · obtain rfl:i=0:=ω;rw[upd_same]
 · rw[N];exact(T.more (au u r)).far (p:= ⟨g,0,none⟩) (λh=>by have:=ri g h;omega) _
 · exact λh=>by have:=ri g h;omega
 exact((((bj.refl w _).grown t λk o=> .inl (.inr o)).setCell (p:= ⟨g,0,none⟩) (.inl (.inl rfl)) _).alloc _).grown U (λk o=>by simp [ai]at o;exact .inr ω) |>.setCell (p:= ⟨g,0,none⟩) (.inl (.inl rfl)) _
def N8 (l:List Int) (D N:Nat):List Int:=(List.range N).map λi=>ix l (l.length-D+i%D)
theorem zM (l:List Int) (D N:Nat):(N8 l D N).length=N:=by simp [N8]
theorem a3N (l:List Int) (D N:Nat) {i:Nat} (h:i<N):ix (N8 l D N) i=ix l (l.length-D+i%D):=by simp [ix,N8,h]
def Yf (l:List Int) (D k i:Nat):Value:= .int .u8 (if i<k then ix l (l.length-D+i%D)else 0)
theorem SZ (l:List Int) (D i:Nat):Value.int .u8 0=Yf l D 0 i:=by unfold Yf;rw[aa (js _)]
theorem KD (l:List Int) (D:Nat) {k i:Nat} (h:i<k):Yf l D k i= .int .u8 (ix l (l.length-D+i%D)):=by unfold Yf;rw[ae h]
theorem N9 (l:List Int) (D k:Nat) (v:Int) (hv:v=ix l (l.length-D+k%D)) (j:Nat):upd (Yf l D k) k (.int .u8 v) j=Yf l D (k+1) j:=by
 by_cases a:j=k
 · subst a;rw[upd_same,KD _ _ ω,hv]
 rw[dL _ _ a];unfold Yf;congr 1;by_cases h:j<k
 · rw[ae h,ae ω]
 rw[aa h,aa ω]
theorem P7 (w:World) (b0 g n c:Nat) (A:Option Addr) (l:List Int) (b:yR w b0 g A n c l) (N D:Int) (hN:1<=N/\N<=258) (hD:D<1\/((min n 32768:Nat):Int)<D):
  Calls Tryz.prog 149 #[.pointer (some ⟨g,0,none⟩), .int .i64 N, .int .i64 D] w λe w'=>e= .returned (.tuple #[.slice none 0 0, .int .i64 3])/\w=w':=by
 have h:D<1\/(¬D<1/\((min n 32768:Nat):Int)<D):=ω;clear hD;rcases h with h | ⟨f,h⟩
 · go_enter Tryz.func149,Tryz.ntmps149;go_wp2
   go_ret2
   exact⟨rfl,rfl⟩
 obtain⟨q,a⟩ :=ν (((min n 32768:Nat):Int):Int);rw[a]at h;have d:=η a;clear a;go_enter Tryz.func149,Tryz.ntmps149
 go_wp2_with fail;refine(BZ _ _ _ _ _ _ _ b).mono ?_;rintro e w' ⟨rfl,rfl⟩;rw[d.out];go_wp2
 go_ret2
 exact⟨rfl,rfl⟩
def Gz (w:World) (b0 g:Nat) (A:Option Addr) (l:List Int) (D N:Nat) (e:Ending) (w':World):Prop:=
 ∃a A' n' c',e= .returned (.tuple #[.slice (some ⟨a,0,none⟩) N N, .int .i64 0])/\aW .u8 w' w.heap.size 5 (some ⟨a,0,none⟩) N N (N8 l D N)/\yR w' b0 g A' n' c' (zD l (N8 l D N))/\¬foot A' g a/\
  bj w w' (foot A g)/\(∀k,ai A'=some k->ai A=some k\/w.heap.size<=k)
theorem Yd (w:World) (b0 g n c:Nat) (A:Option Addr) (l:List Int) (a:yR w b0 g A n c l) (N D:Nat) (hN:1<=(N:Int)/\(N:Int)<=258) (hD:1<=(D:Int)/\(D:Int)<=((min n 32768:Nat):Int)):
  Calls Tryz.prog 149 #[.pointer (some ⟨g,0,none⟩), .int .i64 N, .int .i64 D] w (Gz w b0 g A l D N):=by
 obtain⟨q,t⟩ :=ν (((min n 32768:Nat):Int):Int);have ac:(D:Int)<=(n:Int):=ω;have T:(n:Int)<=65536:=by have:=a.len;have:=a.mV;omega
 have R:=η a.mV;rw[t]at hD;have HQ:=η t;clear t;have c0:=a.cell.cell (i:=0) ω;have oL:=a.cell.lt;obtain⟨M,hi,r,p,o⟩ :=aJ BX;have I:=λW=>fQ (P:=Tryz.prog) 22 5 M (.int .u8 0) Tryz.underlying22 hi r p rfl .i64 .i64 N (by rw[o];omega) ω W;have HM:=η I;clear I hi r p o;have U:=HM.out w;obtain⟨B,rfl⟩ :=a.own.2.addr ω;have eL:=a.own.2.jD;have JY:(n:Int)<=(c:Int):=ω;go_enter Tryz.func149,Tryz.ntmps149
 go_wp2_with fail;refine(BZ _ _ _ _ _ _ _ a).mono ?_;rintro e w' ⟨rfl,rfl⟩;rw[HQ.out];go_wp2;have c1:(w.alloc (.cells (eD N (.int .u8 0)) 5)).cell? ⟨g,0,none⟩ =some (.slice (some ⟨B,0,none⟩) n c):=(a.cell.alloc _).cell ω;obtain⟨P,K⟩ :=ν (n-D:Nat);have O:IntKind.i64.wrap ((n:Int)-(D:Int))=(P:Int):=by rw[aK _ ω];omega
 have ab:(0:Int)<=P/\(P:Int)<n/\(P:Int)<c:=ω;have Z:P<n/\P<=n/\P<=c:=ω;have S:¬c=P:=ω;have G:n-P=D:=ω;have HP:=η K;clear K;clear U;go_quiet (fail);go_wp2;have f:Below w.heap.size w ((w.alloc (.cells (eD N (.int .u8 0)) 5)).drewN nq):=below_drewN ((aw _ _).alloc (ag _) _) nq
 have d:Own ((w.alloc (.cells (eD N (.int .u8 0)) 5)).drewN nq) w.heap.size 5 1 (some ⟨w.heap.size,0,none⟩) N N (Yf l D 0):=
  (Own.lit rfl _ _ (ag _) (by unfold maxLen;omega) (by rw[qb,dG]) (λi hi=>by rw[Ou _ ω];exact aL some (SZ l D i)))
 obtain⟨w1,H⟩ :∃w1:World,w1=(w.alloc (.cells (eD N (.int .u8 0)) 5)).drewN nq:= ⟨_,rfl⟩;rw[<-H]at f d⊢;clear H c1;have s:=a.own.rd.cut (j:=P) ω (A':=some ⟨B,P,none⟩) (λ_=>by rw[Option.map_some,nY]);rw[G]at s
 go_loopw [47] (λi wr=>∃k:Nat,k<=N/\i= .int .i64 k/\Own wr w.heap.size 5 1 (some ⟨w.heap.size,0,none⟩) N N (Yf l D k)/\Below w.heap.size w wr) (λi _=>N-(intOf i).toNat)
 case atStart=>exact⟨0,ω,rfl,d,f⟩
 obtain⟨k,z,rfl,d,f⟩ :=hrel;by_cases V:k<N
 · have Dp:(0:Int)<=k/\(k:Int)<N:=ω;have c2:=d.cell (i:=k) ω;have z2:=d.frozen k;by_cases u:k<D
   · obtain⟨_,Y,_,y⟩ :=(s.below f).at_ u;cases Y;have L:(⟨B,P,none⟩ :Addr).add k= ⟨B,P+k,none⟩ :=by unfold Addr.add;split <;> simp_all
     rw[L,lQ]at y;have hv:ix l (P+k)=ix l (l.length-D+k%D):=by rw[dU u,<-R.out,HP.out]
     obtain⟨v,b⟩ :=ν (ix l (P+k):Int);rw[b]at y hv;have hit:=η (N9 l D k v hv);clear b hv L;go_wp2;go_roundw
     case rel=>exact⟨k+1,ω,by go_num,(d.bC ω _).congr λj _=>hit.out j,f.setCell (ag _) _⟩
     case measure=>simp [intOf];omega
   have y:=d.cell (i:=k-D) ω;rw[KD l D ω]at y;have hv:ix l (l.length-D+(k-D)%D)=ix l (l.length-D+k%D):=by rw[<-Nat.mod_eq_sub_mod ω]
   obtain⟨v,b⟩ :=ν (ix l (l.length-D+(k-D)%D):Int);rw[b]at y hv;have hit:=η (N9 l D k v hv);have X:((k:Int)-(D:Int)).toNat=k-D:=ω;clear b hv;go_wp2;go_roundw
   case rel=>exact⟨k+1,ω,by go_num,(d.bC ω _).congr λj _=>hit.out j,f.setCell (ag _) _⟩
   case measure=>simp [intOf];omega
 obtain rfl:N=k:=ω;have F:aW .u8 wr w.heap.size 5 (some ⟨w.heap.size,0,none⟩) N N (N8 l D N):= ⟨(zM l D N).symm,d.congr λi hi=>by rw[KD l D ω,a3N l D N ω]⟩;have C:=a.keeps f
 go_wp2_with fail;refine(uT _ _ _ _ _ _ _ _ _ _ _ _ C F.rd (ag _) ω).mono ?_;rintro e w2 ⟨A',n',c',rfl,E,J,x⟩;have Dq:=F.2.lt (g:=w.heap.size) rfl
 have Q:=J.eH F (λq t h=>by
  simp [ai]at t;rcases h with h | h
  · omega
  have:=(a.own.2.lt h).2;omega)
 go_wp2
 go_ret2
 refine⟨w.heap.size,A',n',c',rfl,Q,E, ?_,(bj.bA f).trans J (λk z=> .inl z),λk z=> ?_⟩
 · rintro(h | h)
   · omega
   rcases x _ h with m | m
   · have:=(a.own.2.lt m).2;omega
   omega
 rcases x k z with m | m
 · exact .inl m
 exact .inr (au f.size m)
end Go.Proofs.YtdhmnlpfhfmpfaaGreat
