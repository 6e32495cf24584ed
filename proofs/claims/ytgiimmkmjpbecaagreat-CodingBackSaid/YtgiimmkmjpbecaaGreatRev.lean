/-
  part
-/
import Derived.Test.YtgiimmkmjpbecaaGreatPk6
import Derived.Test.YtgiimmkmjpbecaaGreatPk7
set_option linter.unusedVariables false
set_option maxRecDepth 100000
set_option maxHeartbeats 4000000
namespace Go.Proofs.YtgiimmkmjpbecaaGreat
open Go.RowKit
theorem kT (a:Addr) (m j:Nat) (c:0<j):a.add (m+j)= ⟨(a.add m).block,(a.add m).off+j,none⟩ :=by
 unfold Addr.add;rw[a8 ξ];by_cases b:m=0
 · subst b;simp
 simp [b,Nat.add_assoc]
def dM (l:List bY) (i:Nat):bY:=l.getD i ⟨0,0,0⟩
def lW (w:World) (B:Nat) (A:ax) (n:Nat) (l:List bY):Prop:=
 n=l.length/\(0<n->∃a,A=some a/\a.block<B/\∀i,i<n->w.cell? (a.add (i*3))=some (.int .u8 (dM l i).lit)/\w.cell? (a.add (i*3+1))=some (.int .i64 (dM l i).len)/\w.cell? (a.add (i*3+2))=some (.int .i64 (dM l i).bn))
theorem lW.dU {l:List bY} {n k:Nat} (a:n=l.length) (b:k<n):l.drop k=dM l k::l.drop (k+1):=by
 rw[bQ ω];simp [dM,List.getD_eq_getElem?_getD,show k<l.length by omega]
def tf (L N D:Int):Nat->Value
 | 0=> .int .u8 L
 | 1=> .int .i64 N
 | _=> .int .i64 D
theorem BV (w:World) (L N D:Int) (t:TypeId):Ar (w.alloc (.cells #[.int .u8 L, .int .i64 N, .int .i64 D] t)) w.heap.size 3 (tf L N D):=
 Ar.new w _ t rfl λi hi=>by
  obtain rfl | rfl | rfl:i=0\/i=1\/i=2:=ω
  · rfl
  · rfl
  rfl
def qP (L n d:Int):Bool:=if n=0 then decide (d=0)else decide (L=0/\3<=n/\n<=258/\1<=d/\d<=32768)
theorem K7 {L n d:Int} (h:n=0):qP L n d=decide (d=0):=by unfold qP;rw[aa h]
theorem Gx {L n d:Int} (h:¬n=0):qP L n d=decide (L=0/\3<=n/\n<=258/\1<=d/\d<=32768):=by unfold qP;rw[a8 h]
theorem BJ (L N D:Int):qP L N D=decide (cn ⟨L,N,D⟩):=by
 unfold qP cn;by_cases h:N=0
 · simp [h]
 simp [h]
theorem mI (out:ag) (a b:List bY):expand out (a++b)=if(expand out a).1=0 then expand (expand out a).2 b else expand out a:=by
 induction a generalizing out with
 | nil=>rfl
 | cons t a c=>
   rw[dN,jR,jR];by_cases h:(step out t).1=0
   · rw[aa h,aa h,c]
   rw[a8 h,a8 h,a8 h]
theorem a0U {out:ag} {t:bY} (h:(step out t).1=0):∃z,(step out t).2=out++z:=by
 unfold step at h⊢;split
 · rename_i b;rw[aa b]at h;simp at h
 rename_i b
 rw[a8 b]at h;split
 · rename_i a;rw[aa a]at h;simp at h
 rename_i a
 rw[a8 a]at h;split
 · exact⟨_,rfl⟩
 rename_i c
 rw[a8 c]at h;split
 · rename_i h4;rw[aa h4]at h;simp at h
 exact⟨_,rfl⟩
theorem sU {out:ag} {l:List bY} (h:(expand out l).1=0):∃z,(expand out l).2=out++z:=by
 induction l generalizing out with
 | nil=>exact⟨[],by simp [expand]⟩
 | cons t l b=>
   rw[jR]at h⊢;by_cases a:(step out t).1=0
   · rw[aa a]at h⊢;obtain⟨z,hz⟩ :=b h;obtain⟨y,c⟩ :=a0U a;exact⟨y++z,by rw[hz,c,av]⟩
   rw[a8 a]at h;exact absurd h a
theorem lW.below {w w':World} {B n:Nat} {A:ax} {l:List bY} (h:lW w B A n l) (b:Below B w w'):lW w' B A n l:= ⟨h.1,λd=>by
 obtain⟨f,e,a,c⟩ :=h.2 d
 exact⟨f,e,a,λi hi=>by
  obtain⟨c0,c1,c2⟩ :=c i hi;exact⟨(b.cell (by rw[bH];exact a)).trans c0,(b.cell (by rw[bH];exact a)).trans c1,(b.cell (by rw[bH];exact a)).trans c2⟩⟩⟩
theorem lW.more {w:World} {B B' n:Nat} {A:ax} {l:List bY} (h:lW w B A n l) (d:B<=B'):lW w B' A n l:= ⟨h.1,λb=>by
 obtain⟨c,e,f,a⟩ :=h.2 b;exact⟨c,e,ω,a⟩⟩
def uK (l:List bY) (i:Nat):Value:=tf (dM l (i/3)).lit (dM l (i/3)).len (dM l (i/3)).bn (i%3)
theorem XJ (l:List bY) (i:Nat):uK l (i*3)= .int .u8 (dM l i).lit:=by unfold uK;rw[show i*3/3=i by omega,show i*3%3=0 by omega];rfl
theorem XK (l:List bY) (i:Nat):uK l (i*3+1)= .int .i64 (dM l i).len:=by unfold uK;rw[show(i*3+1)/3=i by omega,show(i*3+1)%3=1 by omega];rfl
theorem XL (l:List bY) (i:Nat):uK l (i*3+2)= .int .i64 (dM l i).bn:=by unfold uK;rw[show(i*3+2)/3=i by omega,show(i*3+2)%3=2 by omega];rfl
theorem Ko (l:List bY) (i:Nat):(uK l i).oneCell'=true:=by
 unfold uK tf;split <;> rfl
theorem lW.a6I {w:World} {B n:Nat} {A:ax} {l:List bY} (b:n=l.length) (h:Rd w B A (n*3) (uK l)):lW w B A n l:= ⟨b,λf=>by
 obtain⟨d,e,c,a⟩ :=h ω;exact⟨d,e,c,λi hi=> ⟨by rw[a _ ω,XJ],by rw[a _ ω,XK],by rw[a _ ω,XL]⟩⟩⟩
theorem lW.rd {w:World} {B n:Nat} {A:ax} {l:List bY} (h:lW w B A n l):Rd w B A (n*3) (uK l):=λd=>by
 obtain⟨c,e,b,a⟩ :=h.2 ω;refine⟨c,e,b,λi hi=> ?_⟩;obtain⟨c0,c1,c2⟩ :=a (i/3) ω;obtain h | h | h:i=i/3*3\/i=i/3*3+1\/i=i/3*3+2:=ω
 · rw[h,XJ];exact c0
 · rw[h,XK];exact c1
 rw[h,XL];exact c2
theorem GG (l l':List bY) (i:Nat):dM (l++l') i=if i<l.length then dM l i else dM l' (i-l.length):=by
 unfold dM;simp only [List.getD_eq_getElem?_getD];split
 · rw[bR (by assumption)]
 rw[bL ω]
theorem Kn (l l':List bY) (i:Nat):cat (l.length*3) (uK l) (uK l') i=uK (l++l') i:=by
 unfold cat uK;rw[GG];by_cases h:i<l.length*3
 · rw[aa h,aa ω]
 rw[a8 h,a8 ω,show(i-l.length*3)/3=i/3-l.length by omega,show(i-l.length*3)%3=i%3 by omega]
def jZ (w:World) (b0:Nat) (A:ax) (n c:Nat) (l:List bY):Prop:=n=l.length/\Own w b0 132 3 A n c (uK l)
theorem jZ.rd {w:World} {b0 n c:Nat} {A:ax} {l:List bY} (h:jZ w b0 A n c l):lW w w.heap.size A n l:=lW.a6I h.1 h.2.rd
theorem jZ.a9v (w:World) (b0:Nat) (a:b0<=w.heap.size):jZ (w.alloc (.cells #[] 132)) b0 (some ⟨w.heap.size,0,none⟩) 0 0 []:=
 ⟨rfl,Own.lit rfl #[] _ a σ σ (λi hi=>ω)⟩
theorem EB:(Tryz.prog.info? 132).map (λi=>(i.zero,i.size,i.bytes))=some (some (.agg #[.int .u8 0, .int .i64 0, .int .i64 0]),3,24):=by kernel_rfl
section
variable {w:World}
theorem mZ {d:Array Oper} {rest:List Oper} {o:Oper} {a:Act} {Q:Exit->Act->World->Prop} (b0:Nat) (i:TypeInfo) (k:Region.wanted o (yielded d a.tmps)=true) (s x:Operand)
  (v:o.op= .call { callee:= .builtin .append,args:= #[s,x],argTypes:= #[82, 82] }) (hi:Tryz.prog.info? 132 =some i) (hz:i.zero=some (.agg #[.int .u8 0, .int .i64 0, .int .i64 0]))
  (e:i.size=3) (p:i.bytes=24) {A:ax} {n c:Nat} {l:List bY} (u:a.eval s= .slice A n c) (b:jZ w b0 A n c l)
  {B:Nat} {A':ax} {m c':Nat} {l':List bY} (t:a.eval x= .slice A' m c') (r:lW w B A' m l')
  (q:n+m<=1000000000000) (f:b0<=w.heap.size)
  (h:∀A2 c2 w2,jZ w2 b0 A2 (n+m) c2 (l++l')->w.grownBy w2 (ai A)->(ai A2=ai A\/ai A2=some w.heap.size)->wpList Tryz.prog d Q rest (a.put o.dst (.slice A2 (n+m) c2)) w2):wpList Tryz.prog d Q (o::rest) a w:=by
 refine wpList_step λK y=> ?_;rw[aa k];obtain⟨A2,c2,w2,g,C,z,h4⟩ :=iY (P:=Tryz.prog) w b0 82 o.type 132 i _ 3 24 Tryz.underlying82 hi hz e p rfl ω A n c _ b.2 B A' m c' _ r.rd (λj _=>Ko l' j) q ω f;unfold Oper.wp execOp;simp only [v,resolve,invoke,builtin,Sem.run_bind,Sem.run_pure,Result.andThen_ok,List.map_toArray,List.map_cons,List.map_nil,u,t,g];exact y _ _ (h A2 c2 w2 ⟨by rw[ae,<-b.1,<-r.1],C.congr λj D=>by rw[b.1,Kn]⟩ z h4)
end
open Go
theorem Zk {a b:ag} (d:a.length=b.length) (h:∀i,i<a.length->ix a i=ix b i):a=b:=by
 apply fx d
 intro i c e;have:=h i c
 simpa [ix,c,e] using this
theorem za (l:ag) {n i:Nat} (h:i<n):ix (l.take n) i=ix l i:=by
 unfold ix;simp only [List.getD_eq_getElem?_getD,List.getElem?_take,if_pos h]
theorem TG {D:ag} {at_ N d:Nat} (g:1<=d) (f:d<=at_) (e:at_+N<=D.length) (h:∀i,i<N->ix D (at_-d+i)=ix D (at_+i)):D.take at_++again (D.take at_) d N=D.take (at_+N):=by
 have c:(D.take at_).length=at_:=ξ
 have b:∀i,i<N->ix D (at_+i)=ix D (at_-d+i%d):=by
  intro i;induction i using Nat.strongRecOn with
  | _ i ih=>
    intro hi;by_cases hd:i<d
    · rw[dO hd,h i hi]
    have h4:=ih (i-d) ω ω;have h5:=h i hi;rw[show at_-d+i=at_+(i-d) by omega,h4,<-Nat.mod_eq_sub_mod ω]at h5;exact h5.symm
 apply Zk
 · simp [cG];omega
 intro i hi;rw[ae,cG,c]at hi;rw[dy,c];by_cases a:i<at_
 · rw[aa a,za _ a,za _ ω]
 rw[a8 a,Jj _ _ _ ω,c,za _ (by have:=Nat.mod_lt (i-at_) (show 0<d by omega);omega),za _ ω];have:=b (i-at_) ω;rw[show at_+(i-at_)=i by omega]at this;exact this.symm
theorem take_one (D:ag) {n:Nat} (h:n<D.length):D.take n++[ix D n]=D.take (n+1):=by
 rw[bc h];simp [ix,h]
theorem Ry {e:oP} {st:jk} (h:st.Ok st.at_) (a:st.at_<st.D.length) (s:st.D.length<=16777216):step (st.D.take st.at_) (fT e st).1=(0,st.D.take (fT e st).2.at_):=by
 obtain⟨N,v,u,k, -, -,h6, -,h7⟩ :=oO (e:=e) h a;have c:(st.D.take st.at_).length=st.at_:=ξ;rw[h6];rcases h7 with ⟨ht,rfl⟩ | ⟨d,ht,j, -,t⟩
 · rw[ht];unfold step ri;have b:cn ⟨ix st.D st.at_,0,0⟩ :=by unfold cn;simp
   rw[a8 (by simpa using b),c,a8 (by simp only;omega),aa rfl];simp only;rw[take_one _ a]
 rw[ht];rcases j with ⟨hz, -⟩ | ⟨o,n,m,i,l,g,f⟩
 · simp only at hz;omega
 simp only at o n m i l g f;unfold step;have b:cn ⟨0,N,d⟩ :=by unfold cn;rw[a8 (show¬(N:Int)=0 by omega)];exact⟨rfl,show(3:Int)<=N by omega,show(N:Int)<=258 by omega,show(1:Int)<=d by omega,show(d:Int)<=32768 by omega⟩
 have r:¬(16777216<((st.at_:Nat):Int)+max (N:Int) 1):=ω;have q:¬((N:Int)=0):=ω;have p:¬(((st.at_:Nat):Int)<(d:Int)):=ω;rw[a8 (by simpa using b),c];simp only [if_neg r,if_neg q,if_neg p,Int.toNat_natCast];rw[TG i g k f]
theorem Nw {e:oP} {left:Nat} {st st':jk} {l:List bY} (h:yN e left st l st') (g:st.Ok st.at_) (i:st.D.length<=16777216) (out:ag) (pre:List bY) (hp:expand [] pre=(0,st.D.take st.at_)):expand [] (pre++l)=(0,st'.D.take st'.at_):=by
 induction h with
 | nil=>rw[ak];exact hp
 | snoc j r c=>
   obtain⟨a,d,q,p⟩ :=Gu j g;have f:=Ry (e:=e) a ω (by rw[d];exact i);obtain⟨N,o, -, -,n,b,m,k, -⟩ :=oO (e:=e) a ω;rw[<-av,mI,c];simp only [if_pos];rw[jR,f];simp only [if_pos];rw[b];rfl
theorem yN.a4r {e:oP} {left:Nat} {st st':jk} {l:List bY} (h:left<st.D.length-st.at_) (b:yN e left (fT e st).2 l st'):yN e left st ((fT e st).1::l) st':=by
 induction b with
 | nil=>exact yN.snoc (yN.nil st) h
 | snoc d c a=>exact yN.snoc (l:=(fT e st).1::_) a c
theorem yN.inv {e:oP} {left:Nat} {st st':jk} {l:List bY} (h:yN e left st l st'):(l=[]/\st'=st)\/∃a,left<st.D.length-st.at_/\l=(fT e st).1::a/\yN e left (fT e st).2 a st':=by
 induction h with
 | nil=>exact .inl ⟨rfl,rfl⟩
 | snoc f b c=>
   rcases c with ⟨rfl,rfl⟩ | ⟨a,d,rfl,h5⟩
   · exact .inr ⟨[],b,rfl, .nil _⟩
   exact .inr ⟨_,d,rfl,yN.snoc h5 b⟩
section
variable {P:Program} (t e:TypeId) (ht:P.underlying t=some (.slice e)) {i:TypeInfo} (hi:P.info? e=some i)
include ht hi
theorem tZ (A:ax) (n c:Nat) {j:Nat} (b:j<=c) (W:World):
  (Instr.slice t (.slice A n c) none (some (.int .i64 (j:Int))) (some (.int .i64 (j:Int)))).run P W= .ok (.slice A j j) W:=by
 have a:P.elem t=e:=by simp [Program.elem,ht]
 rw[run_slice_hm W t A n c (by rw[a];exact ht) .i64 .i64 j j ω ω ω,a];simp [sizeOf,typeInfo,hi,sliced];cases A <;> simp [Addr.add]
theorem yL {a:Nat} (d:i.size=a) (A:ax) (n c:Nat) {j:Nat} (f:j<=n) (W:World):
  (Instr.slice t (.slice A n c) (some (.int .i64 (j:Int))) none none).run P W= .ok (.slice (if c=j then A else A.map (·.add (j*a))) (n-j) (c-j)) W:=by
 have b:P.elem t=e:=by simp [Program.elem,ht]
 rw[run_slice_l W t A n c (by rw[b];exact ht) .i64 j ω ω,b];simp [sizeOf,typeInfo,hi,d,sliced]
end
theorem lW.pre {w:World} {B n:Nat} {A:ax} {l:List bY} (h:lW w B A n l) {j:Nat} (d:j<=n):lW w B A j (l.take j):=by
 refine⟨by rw[aD,<-h.1];omega,λf=> ?_⟩;obtain⟨c,e,b,a⟩ :=h.2 ω;refine⟨c,e,b,λi hi=> ?_⟩;have ht:dM (l.take j) i=dM l i:=by unfold dM;simp [List.getD_eq_getElem?_getD,hi]
 rw[ht];exact a i ω
theorem lW.from_ {w:World} {B n c:Nat} {A:ax} {l:List bY} (h:lW w B A n l) {j:Nat} (f:j<=n) (g:n<=c):lW w B (if c=j then A else A.map (·.add (j*3))) (n-j) (l.drop j):=by
 refine⟨by rw[ay,<-h.1],λk=> ?_⟩;obtain⟨d,rfl,e,a⟩ :=h.2 ω;rw[a8 ω];refine⟨_,rfl,by rw[bH];exact e,λi hi=> ?_⟩;have ht:dM (l.drop j) i=dM l (j+i):=by unfold dM;simp [List.getD_eq_getElem?_getD,List.getElem?_drop]
 rw[ht];have b:∀q:Nat,(d.add (j*3)).add q=d.add (j*3+q):=λq=>by unfold Addr.add;split <;> split <;> simp_all <;> omega
 have:=a (j+i) ω;rw[b,b,b,<-dD,<-dD,<-eo];exact this
theorem C4:(Tryz.prog.info? 5).map (λi=>(i.zero,i.size,i.bytes))=some (some (.int .u8 0),1,1):=by kernel_rfl
structure yP (w:World) (b0 g:Nat) (A:ax) (n c:Nat) (l:ag):Prop where
 cell:Ar w g 1 (λ_=> .slice A n c)
 lo:b0<=g
 own:aT .u8 w b0 5 A n c l
 apart:ai A≠some g
 len:l.length<=65536
theorem yP.mW {w:World} {b0 g n c:Nat} {A:ax} {l:ag} (h:yP w b0 g A n c l):n=l.length:=h.own.1
theorem yP.dx {w w':World} {b0 g n c:Nat} {A:ax} {l:ag} {S:Nat->Prop} (h:yP w b0 g A n c l) (a:bb w w' S) (b:∀k,foot A g k->¬S k):yP w' b0 g A n c l:=
 ⟨a.ar h.cell (b g (.inl rfl)),h.lo,a.dJ h.own λq d=>b q (.inr d),h.apart,h.len⟩
theorem yP.keeps {w w':World} {b0 g n c:Nat} {A:ax} {l:ag} (h:yP w b0 g A n c l) (a:Below w.heap.size w w'):yP w' b0 g A n c l:=
 h.dx (S:=λ_=>False) (bb.bC a) λ_ _=>id
theorem yP.eG {w:World} {b0 g n c:Nat} {A:ax} {l:ag} (h:yP w b0 g A n c l) {k:Nat} (a:foot A g k):b0<=k/\k<w.heap.size:=by
 rcases a with rfl | a
 · exact⟨h.lo,h.cell.lt⟩
 exact h.own.2.lt a
theorem NR (w:World):Calls Tryz.prog 189 #[] w λe w'=>∃g,e= .returned (.pointer (some ⟨g,0,none⟩))/\yP w' w.heap.size g none 0 0 []/\Below w.heap.size w w':=by
 go_in
 go_wp2;go_ret
 have hA:Ar (w.alloc (.cells #[.slice none 0 0] 236)) w.heap.size 1 (λ_=> .slice none 0 0):=
  Ar.new w #[.slice none 0 0] _ rfl λi hi=>by
   obtain rfl:i=0:=ω;rfl
 exact⟨w.heap.size,rfl, ⟨hA,af _,aT.di,by simp [ai],σ⟩,(aw _ _).alloc (af _) _⟩
theorem C5 (w:World) (b0 g n c:Nat) (A:ax) (l:ag) (a:yP w b0 g A n c l):
  Calls Tryz.prog 212 #[.pointer (some ⟨g,0,none⟩)] w λe w'=>e= .returned (.int .i64 ((min n 32768:Nat):Int))/\w=w':=by
 have c0:=a.cell.az 0;have d:(n:Int)<=65536:=by have:=a.len;have:=a.mW;omega
 by_cases h:(n:Int)<=32768
 · have e:Hid (((min n 32768:Nat):Int)=(n:Int)):=by show _=_;omega
   have b:¬(32768:Int)<n:=ω
   go_in
   go_wp2;go_ret;exact⟨bJ e.out.symm,rfl⟩
 have e:Hid (((min n 32768:Nat):Int)=32768):=by show _=_;omega
 have b:(32768:Int)<n:=ω
 go_in
 go_wp2;go_ret;exact⟨bJ e.out.symm,rfl⟩
def EF (w:World) (b0 g:Nat) (A:ax) (l b:ag) (e:Ending) (w':World):Prop:=
 ∃A' n' c',e= .returned (.tuple #[])/\yP w' b0 g A' n' c' (zz l b)/\bb w w' (foot A g)/\(∀k,ai A'=some k->ai A=some k\/w.heap.size<=k)
theorem uM (w:World) (b0 g n c B m d:Nat) (A C:ax) (l b:ag) (a:yP w b0 g A n c l) (L:bT .u8 w B C m b) (hB:B<=w.heap.size) (hm:(m:Int)<=1000000):
  Calls Tryz.prog 204 #[.pointer (some ⟨g,0,none⟩), .slice C m d] w (EF w b0 g A l b):=by
 have c0:=a.cell.az 0;have z0:=a.cell.aH 0;have Z:=a.cell.lt;have u:b0<=w.heap.size:=aq a.lo (bE Z);have hn:(n:Int)<=65536:=by have:=a.len;have:=a.mW;omega
 obtain⟨K,hi,D,z,y⟩ :=aL C4;have Hi:=η hi;have S:=η D;have R:=η z;have Q:=η y;clear hi D z y;have M:l.length+b.length=n+m:=by rw[a.mW,L.1]
 by_cases kh:(65536:Int)<(n:Int)+(m:Int)
 rotate_left
 · go_in
   go_wp2_with (at_builtin;(refine bm .u8 b0 5 K 1 rfl (.tmp 11) (.tmp 12) _ rfl Tryz.underlying22 Hi.out S.out R.out Q.out rfl a.own rfl L ω ω u ?_)
                intro A2 c2 w2 f t v;have q:=a.cell.grown t (λe=>a.apart e.symm);have P:=q.az 0;have H:=q.aH 0)
   go_end0;unfold EF;have r:=t.size;have s:¬65536<(l++b).length:=by rw[ae,M];omega
   have N:zz l b=l++b:=by unfold zz;rw[a8 s]
   have pY:∀k,ai A2=some k->ai A=some k\/w.heap.size<=k:=by
    intro k o;rcases v with e | e
    · rw[e]at o;exact .inl o
    rw[e]at o;simp at o;exact .inr ω
   have F:ai A2≠some g:=λh=>by
    rcases pY g h with V | V
    · exact a.apart V
    omega
   refine⟨A2,n+m,c2,rfl, ⟨(q.cE 0 _).congr λi hi=> ?_,a.lo, ?_,F,Ob l b⟩, ?_,pY⟩
   · obtain rfl:i=0:=ω;rw[upd_same]
   · rw[N];exact f.far (p:= ⟨g,0,none⟩) F _
   exact((bb.refl w _).grown t λk o=> .inl (.inr o)).setCell (p:= ⟨g,0,none⟩) (.inl (.inl rfl)) _
 go_in
 go_wp2_with (first
  | (at_builtin;(refine bm .u8 b0 5 K 1 rfl (.tmp 11) (.tmp 12) _ rfl Tryz.underlying22 Hi.out S.out R.out Q.out rfl a.own rfl L ω ω u ?_)
     intro A2 c2 w2 f t v;have q:=a.cell.grown t (λe=>a.apart e.symm);have P:=q.az 0;have H:=q.aH 0;obtain⟨G,rfl⟩ :=f.2.addr ω;have Y:g<w2.heap.size:=q.lt;have E:=(q.cE 0 (.slice (some ⟨G,0,none⟩) (n+m) c2)).alloc (.cells #[] 5);have O:=E.az 0;rw[upd_same]at O;have eY:=f.2.iT
     have F:ai (some (⟨G,0,none⟩ :Addr))≠some g:=by
      rcases v with e | e
      · rw[e];exact a.apart
      rw[e];simp;omega
     have J:=(f.far (p:= ⟨g,0,none⟩) F (.slice (some ⟨G,0,none⟩) (n+m) c2)).alloc (.cells #[] 5);have I:=(J.rd.cut (j:=n+m-32768) ω (A':=some ⟨G,n+m-32768,none⟩) (λ_=>by rw[Option.map_some,nW])))
  | (at_builtin;(refine bm .u8 w2.heap.size 5 K 1 rfl (.tmp 24) (.tmp 31) _ rfl Tryz.underlying22 Hi.out S.out R.out Q.out rfl (aT.lit (by simp [World.setCell]) [] _ (by simp [World.setCell]) σ) rfl I ω ω (by simp [World.setCell]) ?_)
     intro W c5 w5 T U jF;rw[bX,ba]at T;have x:=E.grown U (by simp [ai];omega);have ab:=x.az 0;have X:=x.aH 0))
 go_end0;unfold EF;have r:=t.size;have s:65536<(l++b).length:=by rw[ae,M];omega
 have N:zz l b=(l++b).drop (n+m-32768):=by unfold zz;rw[aa s,ae,M]
 have rA:∀k,ai W=some k->w2.heap.size<=k:=by
  intro k o;rcases jF with e | e
  · rw[e]at o;simp [ai]at o;omega
  rw[e]at o;simp [World.setCell]at o;omega
 refine⟨W,n+m-(n+m-32768),c5,rfl, ⟨(x.cE 0 _).congr λi hi=> ?_,a.lo, ?_, ?_,Ob l b⟩, ?_,λk o=> .inr (aq r (rA k o))⟩
 · obtain rfl:i=0:=ω;rw[upd_same]
 · rw[N];exact(T.more (aq u r)).far (p:= ⟨g,0,none⟩) (λh=>by have:=rA g h;omega) _
 · exact λh=>by have:=rA g h;omega
 exact((((bb.refl w _).grown t λk o=> .inl (.inr o)).setCell (p:= ⟨g,0,none⟩) (.inl (.inl rfl)) _).alloc _).grown U (λk o=>by simp [ai]at o;exact .inr ω) |>.setCell (p:= ⟨g,0,none⟩) (.inl (.inl rfl)) _
def Oq (l:ag) (D N:Nat):ag:=(List.range N).map λi=>ix l (l.length-D+i%D)
theorem zJ (l:ag) (D N:Nat):(Oq l D N).length=N:=by simp [Oq]
theorem a3p (l:ag) (D N:Nat) {i:Nat} (h:i<N):ix (Oq l D N) i=ix l (l.length-D+i%D):=by simp [ix,Oq,h]
def Zb (l:ag) (D k i:Nat):Value:= .int .u8 (if i<k then ix l (l.length-D+i%D)else 0)
theorem TZ (l:ag) (D i:Nat):Value.int .u8 0=Zb l D 0 i:=by unfold Zb;rw[a8 (jx _)]
theorem Lz (l:ag) (D:Nat) {k i:Nat} (h:i<k):Zb l D k i= .int .u8 (ix l (l.length-D+i%D)):=by unfold Zb;rw[aa h]
theorem Ot (l:ag) (D k:Nat) (v:Int) (hv:v=ix l (l.length-D+k%D)) (j:Nat):upd (Zb l D k) k (.int .u8 v) j=Zb l D (k+1) j:=by
 by_cases a:j=k
 · subst a;rw[upd_same,Lz _ _ ω,hv]
 rw[dA _ _ a];unfold Zb;congr 1;by_cases h:j<k
 · rw[aa h,aa ω]
 rw[a8 h,a8 ω]
theorem Qj (w:World) (b0 g n c:Nat) (A:ax) (l:ag) (b:yP w b0 g A n c l) (N D:Int) (hN:1<=N/\N<=258) (hD:D<1\/((min n 32768:Nat):Int)<D):
  Calls Tryz.prog 209 #[.pointer (some ⟨g,0,none⟩), .int .i64 N, .int .i64 D] w λe w'=>e= .returned (.tuple #[.slice none 0 0, .int .i64 3])/\w=w':=by
 have h:D<1\/(¬D<1/\((min n 32768:Nat):Int)<D):=ω;clear hD;rcases h with h | ⟨f,h⟩
 · go_in
   go_wp2
   go_ret2
   exact⟨rfl,rfl⟩
 obtain⟨q,a⟩ :=ν (((min n 32768:Nat):Int):Int);rw[a]at h;have d:=η a;clear a
 go_in
 go_wp2_with fail;refine(C5 _ _ _ _ _ _ _ b).mono ?_;rintro e w' ⟨rfl,rfl⟩;rw[d.out];go_wp2
 go_ret2
 exact⟨rfl,rfl⟩
def Hl (w:World) (b0 g:Nat) (A:ax) (l:ag) (D N:Nat) (e:Ending) (w':World):Prop:=
 ∃a A' n' c',e= .returned (.tuple #[.slice (some ⟨a,0,none⟩) N N, .int .i64 0])/\aT .u8 w' w.heap.size 5 (some ⟨a,0,none⟩) N N (Oq l D N)/\yP w' b0 g A' n' c' (zz l (Oq l D N))/\¬foot A' g a/\
  bb w w' (foot A g)/\(∀k,ai A'=some k->ai A=some k\/w.heap.size<=k)
theorem Z9 (w:World) (b0 g n c:Nat) (A:ax) (l:ag) (a:yP w b0 g A n c l) (N D:Nat) (hN:1<=(N:Int)/\(N:Int)<=258) (hD:1<=(D:Int)/\(D:Int)<=((min n 32768:Nat):Int)):
  Calls Tryz.prog 209 #[.pointer (some ⟨g,0,none⟩), .int .i64 N, .int .i64 D] w (Hl w b0 g A l D N):=by
 obtain⟨q,t⟩ :=ν (((min n 32768:Nat):Int):Int);have ac:(D:Int)<=(n:Int):=ω;have T:(n:Int)<=65536:=by have:=a.len;have:=a.mW;omega
 have R:=η a.mW;rw[t]at hD;have HQ:=η t;clear t;have c0:=a.cell.az 0;have og:=a.cell.lt;obtain⟨M,hi,r,p,o⟩ :=aL C4;have I:=λW=>fW (P:=Tryz.prog) 22 5 M (.int .u8 0) Tryz.underlying22 hi r p rfl .i64 .i64 N (by rw[o];omega) ω W;have HM:=η I;clear I hi r p o;have U:=HM.out w;obtain⟨B,rfl⟩ :=a.own.2.addr ω;have eY:=a.own.2.iT;have Ha:(n:Int)<=(c:Int):=ω
 go_in
 go_wp2_with fail;refine(C5 _ _ _ _ _ _ _ a).mono ?_;rintro e w' ⟨rfl,rfl⟩;rw[HQ.out];go_wp2;have c1:(w.alloc (.cells (eB N (.int .u8 0)) 5)).cell? ⟨g,0,none⟩ =some (.slice (some ⟨B,0,none⟩) n c):=(a.cell.alloc _).cell ω;obtain⟨P,K⟩ :=ν (n-D:Nat);have O:IntKind.i64.wrap ((n:Int)-(D:Int))=(P:Int):=by rw[aM _ ω];omega
 have ab:(0:Int)<=P/\(P:Int)<n/\(P:Int)<c:=ω;have Z:P<n/\P<=n/\P<=c:=ω;have S:¬c=P:=ω;have G:n-P=D:=ω;have HP:=η K;clear K;clear U;go_quiet (fail);go_wp2;have f:Below w.heap.size w ((w.alloc (.cells (eB N (.int .u8 0)) 5)).drewN nq):=below_drewN ((aw _ _).alloc (af _) _) nq
 have d:Own ((w.alloc (.cells (eB N (.int .u8 0)) 5)).drewN nq) w.heap.size 5 1 (some ⟨w.heap.size,0,none⟩) N N (Zb l D 0):=
  (Own.lit rfl _ _ (af _) (by unfold maxLen;omega) (by rw[pU,dK]) (λi hi=>by rw[PE _ ω];exact bf some (TZ l D i)))
 obtain⟨w1,H⟩ :∃w1:World,w1=(w.alloc (.cells (eB N (.int .u8 0)) 5)).drewN nq:= ⟨_,rfl⟩;rw[<-H]at f d⊢;clear H c1;have s:=a.own.rd.cut (j:=P) ω (A':=some ⟨B,P,none⟩) (λ_=>by rw[Option.map_some,nW]);rw[G]at s
 go_loopw [47] (λi wr=>∃k:Nat,k<=N/\i= .int .i64 k/\Own wr w.heap.size 5 1 (some ⟨w.heap.size,0,none⟩) N N (Zb l D k)/\Below w.heap.size w wr) (λi _=>N-(intOf i).toNat)
 case atStart=>exact⟨0,ω,rfl,d,f⟩
 obtain⟨k,z,rfl,d,f⟩ :=hrel;by_cases V:k<N
 · have wF:(0:Int)<=k/\(k:Int)<N:=ω;have c2:=d.cell (i:=k) ω;have z2:=d.frozen k;by_cases u:k<D
   · obtain⟨_,Y,_,y⟩ :=(s.below f).at_ u;cases Y;have L:(⟨B,P,none⟩ :Addr).add k= ⟨B,P+k,none⟩ :=by unfold Addr.add;split <;> simp_all
     rw[L,lS]at y;have hv:ix l (P+k)=ix l (l.length-D+k%D):=by rw[dO u,<-R.out,HP.out]
     obtain⟨v,b⟩ :=ν (ix l (P+k):Int);rw[b]at y hv;have hit:=η (Ot l D k v hv);clear b hv L;go_wp2;go_roundw
     case rel=>exact⟨k+1,ω,by go_num,(d.iz ω _).congr λj _=>hit.out j,f.setCell (af _) _⟩
     case measure=>simp [intOf];omega
   have y:=d.cell (i:=k-D) ω;rw[Lz l D ω]at y;have hv:ix l (l.length-D+(k-D)%D)=ix l (l.length-D+k%D):=by rw[<-Nat.mod_eq_sub_mod ω]
   obtain⟨v,b⟩ :=ν (ix l (l.length-D+(k-D)%D):Int);rw[b]at y hv;have hit:=η (Ot l D k v hv);have X:((k:Int)-(D:Int)).toNat=k-D:=ω;clear b hv;go_wp2;go_roundw
   case rel=>exact⟨k+1,ω,by go_num,(d.iz ω _).congr λj _=>hit.out j,f.setCell (af _) _⟩
   case measure=>simp [intOf];omega
 obtain rfl:N=k:=ω;have F:aT .u8 wr w.heap.size 5 (some ⟨w.heap.size,0,none⟩) N N (Oq l D N):= ⟨(zJ l D N).symm,d.congr λi hi=>by rw[Lz l D ω,a3p l D N ω]⟩;have C:=a.keeps f
 go_wp2_with fail;refine(uM _ _ _ _ _ _ _ _ _ _ _ _ C F.rd (af _) ω).mono ?_;rintro e w2 ⟨A',n',c',rfl,E,J,x⟩;have P0:=F.2.lt (g:=w.heap.size) rfl
 have Q:=J.dJ F (λq t h=>by
  simp [ai]at t;rcases h with h | h
  · omega
  have:=(a.own.2.lt h).2;omega)
 go_wp2
 go_ret2
 refine⟨w.heap.size,A',n',c',rfl,Q,E, ?_,(bb.bC f).trans J (λk z=> .inl z),λk z=> ?_⟩
 · rintro(h | h)
   · omega
   rcases x _ h with m | m
   · have:=(a.own.2.lt m).2;omega
   omega
 rcases x k z with m | m
 · exact .inl m
 exact .inr (aq f.size m)
theorem S7 (x:Int) (w:World) (h:0<=x/\x<4294967296):
  Calls Tryz.prog 54 #[.int .u32 x] w λe w'=>e= .returned (.int .u32 (BN x))/\w=w':=by
 by_cases a:x%2=1
 · have H:=η (PB h a);have t:(x%2==1)=true:=by rw[a];rfl
   clear a
   go_in
   go_wp2;go_ret;exact⟨bJ H.symm,rfl⟩
 have H:=η (Xw h a);have t:(x%2==1)=false:=by simpa using a
 clear a
 go_in
 go_wp2;go_ret;exact⟨bJ H.symm,rfl⟩
theorem WZ (s:Int) (A:ax) (n c B:Nat) (l:ag) (w:World) (E:bT .u8 w B A n l) (z:∀i,0<=ix l i/\ix l i<256) (y:0<=s/\s<4294967296) (K:n<=1000000000):
  Calls Tryz.prog 37 #[.int .u32 s, .slice A n c] w λe w'=>e= .returned (.int .u32 (nL (pD (nL s) l n)))/\w=w':=by
 have H:=η z;have J:=η (Pf y);have D:=vh y;clear z
 go_in
 go_wp2;rw[J.out];go_loop [5,6] (λx i=>∃(k:Nat) (v:Int),k<=n/\i= .int .i64 k/\x= .int .u32 v/\0<=v/\v<4294967296/\Hid (v=pD (nL s) l k)) (λ_ i=>n-(intOf i).toNat)
 case atStart=>exact⟨0,_,ω,rfl,rfl,D.1,D.2,rfl⟩
 obtain⟨k,v,M,rfl,rfl,d,h,HV⟩ :=hrel;by_cases o:k<n
 rotate_left
 · obtain rfl:n=k:=ω;have P:=Pf ⟨d,h⟩;go_wp2;go_ret;exact⟨bJ (by rw[HV.out]),rfl⟩
 obtain⟨O,rfl,_,G⟩ :=E.at_ o;have p:=H.out k;obtain⟨b,q⟩ :∃b:Int,b=ix l k:= ⟨_,rfl⟩;rw[<-q]at G p;have I:=η q;clear q;have N:=PC (a:=v) (b:=b) ⟨d,h⟩ ω;have r:=GL (a:=v) (b:=b) ⟨d,h⟩ ω;go_wp2;go_loop [5,7] (λx j=>∃(m:Nat) (u:Int),m<=8/\j= .int .i64 m/\x= .int .u32 u/\0<=u/\u<4294967296/\Hid (u=mY m (qU v b))) (λ_ j=>8-(intOf j).toNat)
 case atStart=>exact⟨0,_,ω,rfl,rfl,r.1,r.2,(BP r.1).symm⟩
 obtain⟨m,u,L,rfl,rfl,g,f,C⟩ :=hrel;by_cases F:m<8
 · have t:=PA ⟨g,f⟩
   go_wp2_with fail;refine(S7 _ _ ⟨g,f⟩).mono ?_;rintro e w' ⟨rfl,rfl⟩;go_wp2
   go_round
   case rel=>exact⟨m+1,_,ω,by go_num,rfl,t.1,t.2,by show _=_;rw[BO,C.out]⟩
   case measure=>simp [intOf];omega
 obtain rfl:8=m:=ω;go_wp2
 go_round
 case rel=>exact⟨k+1,_,ω,by go_num,rfl,g,f,by show _=rT _ _;rw[<-HV.out,<-I.out];exact C.out⟩
 case measure=>simp [intOf];omega
theorem uG (A:ax) (n c B:Nat) (l:ag) (w:World) (t:bT .i64 w B A n l) (J:B<=w.heap.size) (O:n<=288):
  Calls Tryz.prog 60 #[.slice A n c] w λe w'=>∃g,e= .returned (.slice (some ⟨g,0,none⟩) n n)/\bT .u32 w' w'.heap.size (some ⟨g,0,none⟩) n (jo l)/\Below w.heap.size w w'/\w.heap.size<=g:=by
 obtain⟨C,hi,m,h,f⟩ :=aL zH;have G:n<=l.length/\l.length<=n:=by have:=t.1;omega
 have p:=η t.1;have z:=λW=>fW (P:=Tryz.prog) 81 46 C (.int .u32 0) Tryz.underlying81 hi m h rfl .i64 .i64 n (by rw[f];omega) ω W;have K:=η z;clear z hi m h f;have N:¬(288<(n:Int)):=ω;have E:=K.out w
 go_in
 go_wp2;clear E;have a:Ar (w.alloc (.cells (eB n (.int .u32 0)) 46)) w.heap.size n (mQ l 1 0):=(Ar.NX n (.int .u32 0) 46 rfl).congr λj _=>Im l j;have b:Below w.heap.size w (w.alloc (.cells (eB n (.int .u32 0)) 46)):=(aw _ _).alloc (af _) _;obtain⟨x,o⟩ :∃x:World,x=w.alloc (.cells (eB n (.int .u32 0)) 46):= ⟨_,rfl⟩;rw[<-o]at a b⊢;clear o
 go_loopw [4,5] (λs i wr=>∃v:Nat,1<=v/\v<=16/\i= .int .i64 v/\s= .int .u32 (Bq l v)/\Ar wr w.heap.size n (mQ l v 0)/\Below w.heap.size w wr) (λ_ i _=>16-(intOf i).toNat)
 case atStart=>exact⟨1,ω,ω,rfl,by rw[WU];rfl,a,b⟩
 obtain⟨v,q,hv,rfl,rfl,a,b⟩ :=hrel;by_cases F:v<16
 rotate_left
 · obtain rfl:16=v:=ω;go_wp2;go_ret;refine⟨_,rfl, ⟨by rw[rR l ω];omega, ?_⟩,b,af _⟩;refine(a.rd a.lt (af _)).congr λi hi=> ?_;rw[Qq,qF l ω ω]
 have D:=η (Br l q);have bd:=uB l ω (v:=v) ω;have S:Bq l v<=9437184:=by have:=Br l q;omega
 go_wp2;obtain⟨y,rfl⟩ :∃y:World,y=wr:= ⟨_,rfl⟩
 go_loopw [4,6] (λs i wr=>∃k:Nat,k<=n/\i= .int .i64 k/\s= .int .u32 ((nJ l v+cnt l k v:Nat):Int)/\Ar wr w.heap.size n (mQ l v k)/\Below w.heap.size w wr) (λ_ i _=>n-(intOf i).toNat)
 case atStart=>exact⟨0,ω,rfl,by rw[D.out];congr 1;simp [cnt];omega,a,b⟩
 obtain⟨k,Q,rfl,rfl,a,b⟩ :=hrel;by_cases u:k<n
 rotate_left
 · obtain rfl:n=k:=ω;go_wp2;go_roundw
   case rel=>exact⟨v+1,ω,ω,by go_num,by rw[Eg l q,<-p.out],a.congr λj R=>by rw[<-LK l v j ω,<-p.out],b⟩
   case measure=>simp [intOf];omega
 obtain⟨T,rfl,_,I⟩ :=((t.more J).below b).at_ u;have c2:=a.cell u;have M:=a.frozen' (i:=k) ω;have b2:=lG l k v;by_cases d:ix l k=v
 · have r:=η (show cnt l (k+1) v=cnt l k v+1 by simp [cnt,d]);have L:=η d;rw[d]at I;clear d;go_wp2;go_roundw
   case rel=>exact⟨k+1,ω,by go_num,by rw[r.out];congr 1,(a.iz u _).congr λj _=>Qr q ω L.out j,b.setCell (af _) _⟩
   case measure=>simp [intOf];omega
 have r:=η (show cnt l (k+1) v=cnt l k v by simp [cnt,d]);have H:(ix l k==(v:Int))=false:=by simpa using d
 go_wp2;go_roundw
 case rel=>exact⟨k+1,ω,by go_num,by rw[r.out],a.congr λj _=>LJ d j,b⟩
 case measure=>simp [intOf];omega
theorem pR (A:ax) (n c B:Nat) (l:ag) (w:World) (g:bT .i64 w B A n l) (t:n<=1000):
  Calls Tryz.prog 68 #[.slice A n c] w λe w'=>e= .returned (.int .i64 (sumTo l n))/\w=w':=by
 go_in
 go_wp2;go_loop [3,4] (λs i=>∃k:Nat,k<=n/\i= .int .i64 k/\s= .int .i64 (sumTo l k)) (λ_ i=>n-(intOf i).toNat)
 case atStart=>exact⟨0,aG _,rfl,rfl⟩
 obtain⟨k,u,rfl,rfl⟩ :=hrel;have bd:=vX l k;by_cases b:k<n
 rotate_left
 · obtain rfl:n=k:=ω;go_wp2;go_ret;exact⟨rfl,rfl⟩
 obtain⟨x,rfl,_,m⟩ :=g.at_ b;by_cases ht:1<=ix l k/\ix l k<=15
 rotate_left
 · have a:sumTo l (k+1)=sumTo l k:=by
    show sumTo l k+share (ix l k)=_;rw[mX ht];rfl
   have d:=η a;clear a;go_wp2
   all_goals
    go_round
    case rel=>exact⟨k+1,ω,by go_num,by rw[d.out]⟩
    case measure=>simp [intOf];omega
 obtain⟨v,hv⟩ :∃v:Nat,ix l k=(v:Int):= ⟨(ix l k).toNat,ω⟩
 have a:sumTo l (k+1)=sumTo l k+qJ v:=by
  show sumTo l k+share (ix l k)=_;rw[hv,pS ω ω]
 have d:=η a;rw[hv]at m ht;have o:(1:Int)<=(v:Int)/\(v:Int)<=15:=ht;clear hv a;go_wp2;go_loop [5,6] (λp j=>∃q:Nat,q<=v/\j= .int .i64 q/\p= .int .i64 (qJ q)) (λ_ j=>v-(intOf j).toNat)
 case atStart=>exact⟨0,aG _,rfl,rfl⟩
 obtain⟨q,r,rfl,rfl⟩ :=hrel;have b2:=xx q;by_cases f:q<v
 · have h:=η (Bn (v:=q) ω);go_wp2
   go_round
   case rel=>exact⟨q+1,ω,by go_num,by rw[h.out];congr 1;omega⟩
   case measure=>simp [intOf];omega
 obtain rfl:v=q:=ω;go_wp2
 go_round
 case rel=>exact⟨k+1,ω,by go_num,by rw[d.out];go_num⟩
 case measure=>simp [intOf];omega
def gN (l:ag):Nat->Nat
 | 0=>0
 | k+1=>gN l k+if ix l k=1 then 1 else 0
theorem Eb (l:ag) (k:Nat):gN l k<=dg l k:=by
 induction k with
 | zero=>simp [gN]
 | succ k a=>simp only [gN,dg];split <;> split <;> omega
theorem Na {l:ag} {k:Nat} (h:∀i,i<k->ix l i<=1):gN l k=dg l k:=by
 induction k with
 | zero=>simp [gN,dg]
 | succ k a=>
   have c:=a λi hi=>h i ω;have b:=h k ω;simp only [gN,dg];split <;> split <;> omega
theorem JB {l:ag} {n k:Nat} (b:k<n) (h:1<ix l k):gN l n<dg l n:=by
 induction n with
 | zero=>omega
 | succ n a=>
   simp only [gN,dg];by_cases e:k=n
   · subst e;have:=Eb l k;rw[a8 ω,aa ω];omega
   have:=a ω;split <;> split <;> omega
theorem qg (l:ag) (n:Nat):kL l n=true↔(dg l n=0\/(dg l n=1/\gN l n=1)):=by
 unfold kL tX;simp only [Bool.and_eq_true,decide_eq_true_eq];constructor
 · rintro⟨b,c⟩;have:=Na b;omega
 intro h;refine⟨λi hi=> ?_,ω⟩;by_cases a:1<ix l i
 · have:=JB hi a;omega
 omega
theorem uF (A:ax) (n c B:Nat) (l:ag) (most:Int) (w:World) (g:bT .i64 w B A n l) (h:n<=1000):
  Calls Tryz.prog 64 #[.slice A n c, .int .i64 most] w λe w'=>e= .returned (.int .i64 (bg l most))/\w=w':=by
 have d:=η g.1;by_cases p:most<1\/15<most\/288<n
 · have a:=η (xN (l:=l) (most:=most) (by rw[<-d.out];exact p));by_cases L:most<1
   · clear p
     go_in
     go_wp2_with fail;go_ret;exact⟨bJ a.symm,rfl⟩
   by_cases K:15<most
   · clear p
     go_in
     go_wp2_with fail;go_ret;exact⟨bJ a.symm,rfl⟩
   have R:288<n:=ω;clear p
   go_in
   go_wp2_with fail;go_ret;exact⟨bJ a.symm,rfl⟩
 have q:=η (show¬(most<1\/15<most\/288<l.length) by rw[<-d.out];exact p);have O:1<=most/\most<=15:=ω;have N:n<=288:=ω;have q1:decide (most<1)=false:=ξ;have q2:decide (15<most)=false:=ξ;have q3:decide ((288:Int)<(n:Int))=false:=ξ;clear p
 go_in
 go_wp2_with fail;go_loop [5,6,7] (λs o i=>∃k:Nat,k<=n/\i= .int .i64 k/\s= .int .i64 (dg l k)/\o= .int .i64 (gN l k)/\Hid (∀j,j<k->0<=ix l j/\ix l j<=most)) (λ_ _ i=>n-(intOf i).toNat)
 case atStart=>exact⟨0,aG _,rfl,rfl,rfl,λj C=>absurd C ω⟩
 obtain⟨k,P,rfl,rfl,rfl,D⟩ :=hrel;have b3:=JK l k;have b4:=Eb l k;by_cases r:k<n
 · obtain⟨T,rfl,_,J⟩ :=g.at_ r;by_cases ht:0<=ix l k/\ix l k<=most
   rotate_left
   · have a:=η (uf (most:=most) (show k<l.length by rw[<-d.out];exact r) ht);by_cases L:ix l k<0
     · go_wp2_with fail;go_ret;exact⟨bJ a.symm,rfl⟩
     have K:most<ix l k:=ω
     go_wp2_with fail;go_ret;exact⟨bJ a.symm,rfl⟩
   have v:Hid (∀j,j<k+1->0<=ix l j/\ix l j<=most):=by
    intro j C;by_cases e:j=k
    · subst e;exact ht
    exact D.out j ω
   by_cases hp:0<ix l k
   · have HP:=η (show dg l (k+1)=dg l k+1 by simp [dg,hp]);by_cases f:ix l k=1
     · have t:=η (show gN l (k+1)=gN l k+1 by simp [gN,f]);rw[f]at J ht hp;clear f;have z:decide (most<1)=false:=ξ
       go_wp2_with fail
       go_round
       case rel=>exact⟨k+1,ω,by go_num,by rw[HP.out];go_num,by rw[t.out];go_num,v⟩
       case measure=>simp [intOf];omega
     have t:=η (show gN l (k+1)=gN l k by simp [gN,f]);have u:(ix l k==1)=false:=by simpa using f
     have G:decide (ix l k<0)=false:=ξ;have z:decide (most<ix l k)=false:=ξ
     go_wp2_with fail
     go_round
     case rel=>exact⟨k+1,ω,by go_num,by rw[HP.out];go_num,by rw[t.out],v⟩
     case measure=>simp [intOf];omega
   have HP:=η (show dg l (k+1)=dg l k by simp [dg,hp]);have f:¬ix l k=1:=ω;have t:=η (show gN l (k+1)=gN l k by simp [gN,f]);have u:(ix l k==1)=false:=by simpa using f
   have G:decide (ix l k<0)=false:=ξ;have z:decide (most<ix l k)=false:=ξ
   go_wp2_with fail
   go_round
   case rel=>exact⟨k+1,ω,by go_num,by rw[HP.out],by rw[t.out],v⟩
   case measure=>simp [intOf];omega
 obtain rfl:n=k:=ω;have m:=η (show∀j,j<l.length->0<=ix l j/\ix l j<=most by rw[<-d.out];exact D.out);obtain⟨S,E⟩ :=ν (((sumTo l n:Nat):Int):Int);have b1:(0:Int)<=S/\S<=32768*(n:Int):=by have:=vX l n;omega
 have b:=η E;clear E;by_cases I:(32768:Int)<S
 · have a:=η (lD q.out m.out (.inl (by rw[<-d.out];have:=b.out;omega)))
   go_wp2_with (go_at_call 68;refine(pR _ _ _ _ _ _ g h).mono ?_;rintro e w' ⟨rfl,rfl⟩;rw[b.out])
   go_ret;exact⟨bJ a.symm,rfl⟩
 have Q:decide ((32768:Int)<S)=false:=by simpa using I
 by_cases H:S<32768
 rotate_left
 · have a:=η (nZ q.out m.out (by rw[<-d.out];have:=b.out;omega))
   go_wp2_with (go_at_call 68;refine(pR _ _ _ _ _ _ g h).mono ?_;rintro e w' ⟨rfl,rfl⟩;rw[b.out])
   go_ret;exact⟨bJ a.symm,rfl⟩
 have x:dg l n=0\/(dg l n=1/\gN l n=1)\/(dg l n=1/\gN l n≠1)\/2<=dg l n:=ω;rcases x with hp | hp | hp | hp
 · skip
   have a:=η (nZ (l:=l) (most:=most) q.out m.out (by rw[<-d.out,(qg l n).2 ω];have:=b.out;simp;omega));have y:(((dg l n:Nat):Int)==0)=true:=ξ;clear hp b3 b4
   go_wp2_with (go_at_call 68;refine(pR _ _ _ _ _ _ g h).mono ?_;rintro e w' ⟨rfl,rfl⟩;rw[b.out])
   go_ret;exact⟨bJ a.symm,rfl⟩
 · skip
   have a:=η (nZ (l:=l) (most:=most) q.out m.out (by rw[<-d.out,(qg l n).2 ω];have:=b.out;simp;omega));have y:(((dg l n:Nat):Int)==0)=false:=ξ;have F:(((dg l n:Nat):Int)==1)=true:=ξ;have M:(((gN l n:Nat):Int)==1)=true:=ξ;clear hp b3 b4
   go_wp2_with (go_at_call 68;refine(pR _ _ _ _ _ _ g h).mono ?_;rintro e w' ⟨rfl,rfl⟩;rw[b.out])
   go_ret;exact⟨bJ a.symm,rfl⟩
 · skip
   have a:=η (lD (l:=l) (most:=most) q.out m.out (.inr (by rw[<-d.out];exact⟨τ b.out,by rw[<-Bool.not_eq_true,qg];omega⟩)));have y:(((dg l n:Nat):Int)==0)=false:=ξ;have F:(((dg l n:Nat):Int)==1)=true:=ξ;have M:(((gN l n:Nat):Int)==1)=false:=ξ;clear hp b3 b4
   go_wp2_with (go_at_call 68;refine(pR _ _ _ _ _ _ g h).mono ?_;rintro e w' ⟨rfl,rfl⟩;rw[b.out])
   go_ret;exact⟨bJ a.symm,rfl⟩
 skip
 have a:=η (lD (l:=l) (most:=most) q.out m.out (.inr (by rw[<-d.out];exact⟨τ b.out,by rw[<-Bool.not_eq_true,qg];omega⟩)));have y:(((dg l n:Nat):Int)==0)=false:=ξ;have F:(((dg l n:Nat):Int)==1)=false:=ξ;clear hp b3 b4
 go_wp2_with (go_at_call 68;refine(pR _ _ _ _ _ _ g h).mono ?_;rintro e w' ⟨rfl,rfl⟩;rw[b.out])
 go_ret;exact⟨bJ a.symm,rfl⟩
theorem Nr (s:Int) (A:ax) (n c B:Nat) (l:ag) (w:World) (q:bT .u8 w B A n l) (h:∀i,0<=ix l i/\ix l i<256) (C:0<=s/\s<4294967296) (D:n<=1000000000):
  Calls Tryz.prog 38 #[.int .u32 s, .slice A n c] w λe w'=>e= .returned (.int .u32 (Ce (iW s) (jK s) l n*65536+uW (iW s) l n))/\w=w':=by
 have r:=η h;clear h;have b1:0<=iW s/\iW s<65521:=by unfold iW;omega
 have b2:0<=jK s/\jK s<65521:=by unfold jK;omega
 go_in
 go_wp2;go_loop [5,6,7] (λx y i=>∃(k:Nat) (u v:Int),k<=n/\i= .int .i64 k/\x= .int .u32 u/\y= .int .u32 v/\0<=u/\u<65521/\0<=v/\v<65521/\Hid (u=uW (iW s) l k)/\Hid (v=Ce (iW s) (jK s) l k)) (λ_ _ i=>n-(intOf i).toNat)
 case atStart=>exact⟨0,iW s,jK s,ω,rfl,rfl,rfl,b1.1,b1.2,b2.1,b2.2,rfl,rfl⟩
 obtain⟨k,u,v,E,rfl,rfl,rfl,p,o,m,z,j,HV⟩ :=hrel;by_cases d:k<n
 rotate_left
 · obtain rfl:n=k:=ω;go_wp2;go_ret;exact⟨bJ (by rw[j.out,HV.out]),rfl⟩
 obtain⟨F,rfl,_,a⟩ :=q.at_ d;have f:=r.out k;obtain⟨b,g⟩ :∃b:Int,b=ix l k:= ⟨_,rfl⟩;rw[<-g]at a f;have t:=η g;clear g;go_wp2
 go_round
 case rel=>
  have a:(u+b)%65521=uW (iW s) l (k+1):=by show _=(_+_)%65521;rw[j.out,t.out]
  refine⟨k+1,(u+b)%65521,(v+(u+b)%65521)%65521,ω,by go_num,rfl,rfl,ω,ω,ω,ω,a, ?_⟩;show _=(_+_)%65521;rw[<-a,HV.out]
 case measure=>simp [intOf];omega
def Ru (n:Int):Int:=if 65<=n/\n<=90 then n+32 else n
def FZ (s:ByteArray):ag:=(jn s).map Ru
theorem a0p (s:ByteArray) (i:Nat):ix (FZ s) i=Ru (ix (jn s) i):=by
 unfold ix FZ;simp only [List.getD_eq_getElem?_getD,List.getElem?_map];cases (jn s)[i]? <;> simp [Ru]
def rj (s:ByteArray) (k i:Nat):Value:= .int .u8 (if i<k then Ru (ix (jn s) i)else ix (jn s) i)
theorem RL (s:ByteArray) (k:Nat) (h:65<=ix (jn s) k/\ix (jn s) k<=90) (v:Int) (hv:v=ix (jn s) k+32) (j:Nat):upd (rj s k) k (.int .u8 v) j=rj s (k+1) j:=by
 by_cases a:j=k
 · subst a;rw[upd_same];unfold rj Ru;rw[aa ω,aa h,hv]
 rw[dA _ _ a];unfold rj;congr 1;by_cases h':j<k
 · rw[aa h',aa ω]
 rw[a8 h',a8 ω]
theorem Nj (s:ByteArray) (k:Nat) (h:¬(65<=ix (jn s) k/\ix (jn s) k<=90)) (j:Nat):rj s k j=rj s (k+1) j:=by
 unfold rj;congr 1;by_cases a:j=k
 · subst a;rw[a8 ω,aa ω];unfold Ru;rw[a8 h]
 by_cases h':j<k
 · rw[aa h',aa ω]
 rw[a8 h',a8 ω]
theorem Rv (s:ByteArray) (w:World) (u:s.size<=100000):
  Calls Tryz.prog 31 #[.string s] w λe w'=>e= .returned (.string (strOf (FZ s)))/\Below w.heap.size w w':=by
 obtain⟨cap,R,q,l,a⟩ :=Gv (P:=Tryz.prog) w 9 22 5 s Tryz.underlying9 Tryz.underlying22 Tryz.underlying5;have h:Below w.heap.size w (w.drew.alloc (.cells R 5 q)):=(aw _ _).drew.alloc (af _) _;obtain⟨w1,p⟩ :∃w1:World,w1=w.drew.alloc (.cells R 5 q):= ⟨_,rfl⟩;rw[<-p]at a h l;clear p;obtain⟨n,c⟩ :∃n,n=s.size:= ⟨_,rfl⟩;rw[<-c]at a l u;have y:=η c;clear c
 go_in
 go_wp2
 go_loopw [10] (λi wr=>∃k:Nat,k<=n/\i= .int .i64 k/\Ar wr w.heap.size n (rj s k)/\Below w.heap.size w wr) (λi _=>n-(intOf i).toNat)
 case atStart=>exact⟨0,aG _,rfl,a.congr λi _=>by simp [rj],h⟩
 obtain⟨k,A,rfl,a,h⟩ :=hrel;by_cases d:k<n
 rotate_left
 · obtain rfl:n=k:=ω
   have g:=D4 (P:=Tryz.prog) (w:=wr) 22 9 5 cap (FZ s) Tryz.underlying22 Tryz.underlying5 Tryz.underlying9
    (a.congr λj v=>by unfold rj;rw[aa v,a0p]) (by simp [FZ,CA,y.out])
   obtain⟨r,m⟩ :∃r,r=strOf (FZ s):= ⟨_,rfl⟩;rw[<-m]at g;have x:=η m;clear m;go_wp2;go_ret;exact⟨bf (λr=>Ending.returned (.string r)) x.out,h⟩
 have c1:=a.cell d;have z:=a.frozen' d;have t:rj s k k= .int .u8 (ix (jn s) k):=by unfold rj;rw[a8 (j3 _)]
 rw[t]at c1;clear t;obtain⟨b,f⟩ :∃b:Int,b=ix (jn s) k:= ⟨_,rfl⟩;have bd:=Q9 s k;rw[<-f]at c1 bd;have B:=η f;by_cases ht:65<=b/\b<=90
 · have hit:=RL s k (by rw[<-f];exact ht) (b+32) (by rw[f]);have o:=η hit;clear hit f;go_wp2;go_roundw
   case rel=>exact⟨k+1,ω,by go_num,(a.iz d _).congr λj _=>by rw[<-o.out j] <;> (congr 2;omega),h.setCell (af _) _⟩
   case measure=>simp [intOf];omega
 have a6E:=Nj s k (by rw[<-f];exact ht);have a7b:=η a6E;clear a6E f;go_wp2
 all_goals
  go_roundw
  case rel=>exact⟨k+1,ω,by go_num,a.congr λj _=>a7b.out j,h⟩
  case measure=>simp [intOf];omega
def Te (r:ByteArray):Int:=if(r.toList==[105,100,101,110,116,105,116,121])=true then 0 else if(r.toList==[103,122,105,112])=true\/(r.toList==[120,45,103,122,105,112])=true then 1 else if(r.toList==[100,101,102,108,97,116,101])=true then 2 else 3
theorem Z8 (s:ByteArray) (w:World) (h:s.size<=100000):
  Calls Tryz.prog 20 #[.string s] w λe w'=>e= .returned (.int .i64 (Te (strOf (FZ s))))/\Below w.heap.size w w':=by
 go_in
 go_wp2_with fail;refine(Rv s w h).mono ?_;rintro e w1 ⟨rfl,a⟩;obtain⟨r,f⟩ :∃r,r=strOf (FZ s):= ⟨_,rfl⟩;rw[<-f];have c:=η f;clear f;cases b:(r.toList==[105,100,101,110,116,105,116,121])
 case true=>
  have hv:Te r=0:=by simp [Te,b]
  have HV:=η hv;clear hv;go_wp2;go_ret;exact⟨bJ (by rw[<-c.out,HV.out]),a⟩
 cases d:(r.toList==[103,122,105,112])
 case true=>
  have hv:Te r=1:=by simp [Te,b,d]
  have HV:=η hv;clear hv;go_wp2;go_ret;exact⟨bJ (by rw[<-c.out,HV.out]),a⟩
 cases g:(r.toList==[120,45,103,122,105,112])
 case true=>
  have hv:Te r=1:=by simp [Te,b,d,g]
  have HV:=η hv;clear hv;go_wp2;go_ret;exact⟨bJ (by rw[<-c.out,HV.out]),a⟩
 cases h4:(r.toList==[100,101,102,108,97,116,101])
 case true=>
  have hv:Te r=2:=by simp [Te,b,d,g,h4]
  have HV:=η hv;clear hv;go_wp2;go_ret;exact⟨bJ (by rw[<-c.out,HV.out]),a⟩
 have hv:Te r=3:=by simp [Te,b,d,g,h4]
 have HV:=η hv;clear hv;go_wp2;go_ret;exact⟨bJ (by rw[<-c.out,HV.out]),a⟩
theorem Ws (k:Int) (w:World):Calls Tryz.prog 19 #[.int .i64 k] w λe w'=>e= .returned (.string (if k=0 then⟨#[105,100,101,110,116,105,116,121]⟩else if k=1 then⟨#[103,122,105,112]⟩else if k=2 then⟨#[100,101,102,108,97,116,101]⟩else⟨#[]⟩))/\w=w':=by
 by_cases c:k=0
 · subst c
   go_in
   go_wp2;go_ret;exact⟨rfl,rfl⟩
 by_cases b:k=1
 · subst b
   go_in
   go_wp2;go_ret;exact⟨rfl,rfl⟩
 by_cases a:k=2
 · subst a
   go_in
   go_wp2;go_ret;exact⟨rfl,rfl⟩
 rw[a8 c,a8 b,a8 a]
 go_in
 go_wp2;go_ret;exact⟨rfl,rfl⟩
theorem Bi (w:World):Calls Tryz.prog 5 #[] w λe w'=>e= .returned (.bool true)/\Below w.heap.size w w':=by
 have a:Te (strOf (FZ ⟨#[88,45,71,90,73,80]⟩))=1:=by decide+kernel
 have c:=η a;clear a
 go_in
 go_wp2_with fail;refine(Ws _ _).mono ?_;rintro e w1 ⟨rfl,rfl⟩
 go_wp2_with fail;refine(Z8 _ _ δ).mono ?_;rintro e w1 ⟨rfl,b⟩;rw[c.out];go_wp2;go_ret;exact⟨rfl,b⟩
structure HV where
 tx:Bool
 sm:Bool
 tm:Int
 fl:Int
 sy:Int
 ex:Value
 hE:Bool
 nm:ByteArray
 cm:ByteArray
 hN:Bool
 hC:Bool
def hf (h:HV):Nat->Value
 | 0=> .bool h.tx
 | 1=> .bool h.sm
 | 2=> .int .u32 h.tm
 | 3=> .int .u8 h.fl
 | 4=> .int .u8 h.sy
 | 5=>h.ex
 | 6=> .bool h.hE
 | 7=> .string h.nm
 | 8=> .string h.cm
 | 9=> .bool h.hN
 | _=> .bool h.hC
def hagg (h:HV):Value:= .agg #[.bool h.tx, .bool h.sm, .int .u32 h.tm, .int .u8 h.fl, .int .u8 h.sy,h.ex, .bool h.hE, .string h.nm, .string h.cm, .bool h.hN, .bool h.hC]
def hz:HV:= ⟨false,false,0,0,0, .slice none 0 0,false,ByteArray.empty,ByteArray.empty,false,false⟩
theorem Ar.Wt {w:World} {g m:Nat} {f:Nat->Value} (b:g=w.heap.size) (cs:Array Value) (t:TypeId) (a:cs.size=m) (hf:∀i,i<m->cs[i]?=some (f i)):Ar (w.alloc (.cells cs t)) g m f:=by
 subst b;exact Ar.new w cs t a hf
theorem G0 {i:Nat} (h:i<11):i=0\/i=1\/i=2\/i=3\/i=4\/i=5\/i=6\/i=7\/i=8\/i=9\/i=10:=ω
theorem below_drewN {B:Nat} {w w':World} (h:Below B w w') (q:Nat):Below B w (w'.drewN q):= ⟨h.os,h.tape,h.output,h.size,h.block⟩
theorem Ar.Bb {w:World} {R:Nat} {h h':HV} (b:Ar w R 11 (hf h)) {i:Nat} (hi:i<11) (v:Value) (a:∀j,j<11->upd (hf h) i v j=hf h' j):Ar (w.setCell ⟨R,i,none⟩ v) R 11 (hf h'):=(b.iz hi v).congr a
theorem qy:(Tryz.prog.info? 5).map (λi=>(i.zero,i.size,i.bytes))=some (some (.int .u8 0),1,1):=by kernel_rfl
theorem a10 {l:ag} (h:∀x∈l,0<=x/\x<256) (k:Nat):∀x∈l.take k,0<=x/\x<256:=λx a=>h x (aN a)
theorem Oz {l:ag} (h:∀x∈l,0<=x/\x<256) (k:Nat):∀x∈l.drop k,0<=x/\x<256:=λx a=>h x (aW a)
theorem a3L {s m x:Nat} (c:m*2 ^ s<4294967296) (h:x<4294967296) (a:m<4294967296):(x/2 ^ s)&&& m<4294967296/\(x&&& m)*2 ^ s<4294967296:=by
 have e:(x/2 ^ s)&&& m<=m:=Nat.and_le_right;have b:x&&& m<=m:=Nat.and_le_right;have d:(x&&& m)*2 ^ s<=m*2 ^ s:=eV _ b;omega
theorem Ke {s m x:Nat} (d:m*2 ^ s<4294967296) (h:x<4294967296) (a:m<4294967296):
  bits .and .u32 ((x/2 ^ s:Nat):Int) (m:Int)=(((x/2 ^ s)&&& m:Nat):Int)/\bits .and .u32 (x:Int) (m:Int)=((x&&& m:Nat):Int)/\
  IntKind.u32.wrap (((x&&& m:Nat):Int)*((2 ^ s:Nat):Int))=(((x&&& m)*2 ^ s:Nat):Int)/\bits .or .u32 (((x/2 ^ s)&&& m:Nat):Int) (((x&&& m)*2 ^ s:Nat):Int)=(Er s m x:Int)/\Er s m x<4294967296:=by
 obtain⟨c,b⟩ :=a3L d h a;have hd:x/2 ^ s<4294967296:=fM (Nat.div_le_self _ _) h;refine⟨u32_and_nat _ _ hd a,u32_and_nat _ _ h a, ?_, ?_, ?_⟩
 · rw[iO,<-ek];omega
 · rw[u32_or_nat _ _ c b];unfold Er;rw[eN,dP]
 unfold Er;rw[eN,dP];exact Nat.or_lt_two_pow (n:=32) c b
theorem Gm (w:World) (x:Nat) (h:x<4294967296):Calls Tryz.prog 150 #[.int .u32 x] w λe w'=>e= .returned (.int .u32 (((Er 8 16711935 x >>> 16)||| ((Er 8 16711935 x <<< 16)%4294967296):Nat):Int))/\w=w':=by
 obtain⟨c,i,b,a,v⟩ :=Ke (s:=8) (m:=16711935) (x:=x) δ h δ;obtain⟨y,g⟩ :=ν (Er 8 16711935 x);have t:(x:Int)/256=((x/2 ^ 8:Nat):Int):=ω;obtain⟨p,hp⟩ :=ν (x/2 ^ 8);rw[hp]at t c a;obtain⟨q,l⟩ :=ν (p&&& 16711935);obtain⟨r,k⟩ :=ν (x&&& 16711935);rw[l]at c a;rw[k]at i b a;obtain⟨u,j⟩ :=ν (r*2 ^ 8);rw[j]at b a;rw[g]at a v;have c1:bits .and .u32 (p:Int) 16711935=(q:Int):=c;have c2:bits .and .u32 (x:Int) 16711935=(r:Int):=i;have C:((r:Int)*256)%4294967296=(u:Int):=by rw[<-b,iO];rfl
 have B:bits .or .u32 (q:Int) (u:Int)=(y:Int):=a;have d1:(y:Int)/65536=((y/65536:Nat):Int):=ω;have d2:((y:Int)*65536)%4294967296=((y*65536%4294967296:Nat):Int):=ω;have d3:bits .or .u32 ((y/65536:Nat):Int) ((y*65536%4294967296:Nat):Int)=((y/65536||| y*65536%4294967296:Nat):Int):=u32_or_nat _ _ ω ω;obtain⟨d,hd⟩ :=ν (y/65536);obtain⟨f,hf⟩ :=ν (y*65536%4294967296);rw[hd]at d1 d3;rw[hf]at d2 d3;obtain⟨z,hz⟩ :=ν (d||| f);rw[hz]at d3
 have A:Hid (((y >>> 16)||| ((y <<< 16)%4294967296))=z):=by
  show _=_;rw[eN,dP,<-hz,<-hd,<-hf]
 rw[g];have o:(0:Int)<=x/\(x:Int)<4294967296:=ω;have n:(0:Int)<=y/\(y:Int)<4294967296:=ω;clear c i b a g hp l k j hd hf hz
 go_in
 go_wp2;go_ret;exact⟨bJ (by rw[A.out]),rfl⟩
theorem xE (s m x:Nat) (P M:Int) (b:P=((2 ^ s:Nat):Int)) (c:M=(m:Int)) (d:m*2 ^ s<4294967296) (h:x<4294967296) (a:m<4294967296):
  ∃p q r u:Nat,(x:Int)/P=(p:Int)/\bits .and .u32 (p:Int) M=(q:Int)/\bits .and .u32 (x:Int) M=(r:Int)/\((r:Int)*P)%4294967296=(u:Int)/\bits .or .u32 (q:Int) (u:Int)=(Er s m x:Int)/\Er s m x<4294967296:=by
 obtain⟨j,i,g,f,e⟩ :=Ke d h a;refine⟨x/2 ^ s,(x/2 ^ s)&&& m,x&&& m,(x&&& m)*2 ^ s, ?_,by rw[c];exact j,by rw[c];exact i, ?_,f,e⟩
 · rw[b];simp
 rw[b,<-g,iO]
theorem RY (w:World) (x:Nat) (h:x<4294967296):Calls Tryz.prog 146 #[.int .u32 x] w λe w'=>e= .returned (.int .u32 (rq x:Int))/\w=w':=by
 obtain⟨p1,q1,q,u1,z,y,v,u,m,k⟩ :=xE 1 1431655765 x 2 1431655765 rfl rfl δ h δ;obtain⟨g,c⟩ :=ν (Er 1 1431655765 x);rw[c]at m k;obtain⟨p2,q2,p,u2,b1,b2,b3,b4,b5,j⟩ :=xE 2 858993459 g 4 858993459 rfl rfl δ k δ;obtain⟨f,b⟩ :=ν (Er 2 858993459 g);rw[b]at b5 j;obtain⟨p3,q3,o,u3,c1,c2,t,s,l,i⟩ :=xE 4 252645135 f 16 252645135 rfl rfl δ j δ;obtain⟨d,a⟩ :=ν (Er 4 252645135 f);rw[a]at l i
 have n:Hid (rq x=(Er 8 16711935 d >>> 16)||| ((Er 8 16711935 d <<< 16)%4294967296)):=by
  show _=_;unfold rq;rw[c,b,a]
 have r:(0:Int)<=x/\(0:Int)<=g/\(0:Int)<=f/\(0:Int)<=d:=ω;clear c b a
 go_in
 go_wp2_with fail;refine(Gm _ d i).mono ?_;rintro e w' ⟨rfl,rfl⟩;go_wp2;go_ret;exact⟨bJ (by rw[n.out]),rfl⟩
theorem Nt (w:World) (V:Int) (N:Nat) (f:0<=V/\V<4294967296) (h:1<=(N:Int)/\(N:Int)<=32):Calls Tryz.prog 136 #[.int .u32 V, .int .i64 N] w λe w'=>e= .returned (.int .u32 (JQ V N))/\w=w':=by
 obtain⟨x,rfl⟩ :=aF f.1;have c:x<4294967296:=ω;have hN:¬(N:Int)<1/\¬32<(N:Int):=ω;obtain⟨M,d⟩ :=ν (32-N:Nat);have g:(32:Int)-(N:Int)=(M:Int):=ω;have a:=a3H x N c ω;rw[d]at a;obtain⟨y,b⟩ :=ν (rq x);rw[b]at a;have j:(y:Int)/2 ^ M=((y/2 ^ M:Nat):Int):=by rw[<-kU];simp
 have m:=η a;have l:=η b;have i:(0:Int)<=M:=ω;obtain⟨z,hz⟩ :=ν (y/2 ^ M);rw[hz]at j;have k:=η hz;clear a b d hz
 go_in
 go_wp2_with fail;refine(RY _ x c).mono ?_;rintro e w' ⟨rfl,rfl⟩;rw[l.out];go_wp2;go_ret;exact⟨bJ (by rw[m.out,k.out]),rfl⟩
end Go.Proofs.YtgiimmkmjpbecaaGreat
