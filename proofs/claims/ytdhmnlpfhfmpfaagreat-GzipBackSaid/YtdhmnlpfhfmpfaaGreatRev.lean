/-
  part
-/
import Derived.Test.YtdhmnlpfhfmpfaaGreatPk6
import Derived.Test.YtdhmnlpfhfmpfaaGreatPk7
set_option linter.unusedVariables false
set_option maxRecDepth 100000
set_option maxHeartbeats 4000000
namespace Go.Proofs.YtdhmnlpfhfmpfaaGreat
open Go.RowKit
theorem lj (a:Addr) (m j:Nat) (c:0<j):a.add (m+j)= ⟨(a.add m).block,(a.add m).off+j,none⟩ :=by
 unfold Addr.add;rw[aa ξ];by_cases b:m=0
 · subst b;simp
 simp [b,Nat.add_assoc]
def dV (l:List cy) (i:Nat):cy:=l.getD i ⟨0,0,0⟩
def mn (w:World) (B:Nat) (A:ay) (n:Nat) (l:List cy):Prop:=
 n=l.length/\(0<n->∃a,A=some a/\a.block<B/\∀i,i<n->w.cell? (a.add (i*3))=some (.int .u8 (dV l i).lit)/\w.cell? (a.add (i*3+1))=some (.int .i64 (dV l i).len)/\w.cell? (a.add (i*3+2))=some (.int .i64 (dV l i).bm))
theorem mn.ed {l:List cy} {n k:Nat} (a:n=l.length) (b:k<n):l.drop k=dV l k::l.drop (k+1):=by
 rw[bR ω];simp [dV,List.getD_eq_getElem?_getD,show k<l.length by omega]
def tf (L N D:Int):Nat->Value
 | 0=> .int .u8 L
 | 1=> .int .i64 N
 | _=> .int .i64 D
theorem BZ (w:World) (L N D:Int) (t:TypeId):Ar (w.alloc (.cells #[.int .u8 L, .int .i64 N, .int .i64 D] t)) w.heap.size 3 (tf L N D):=
 Ar.new w _ t rfl λi hi=>by
  obtain rfl | rfl | rfl:i=0\/i=1\/i=2:=ω
  · rfl
  · rfl
  rfl
def rq (L n d:Int):Bool:=if n=0 then decide (d=0)else decide (L=0/\3<=n/\n<=258/\1<=d/\d<=32768)
theorem JC {L n d:Int} (h:n=0):rq L n d=decide (d=0):=by unfold rq;rw[af h]
theorem G5 {L n d:Int} (h:¬n=0):rq L n d=decide (L=0/\3<=n/\n<=258/\1<=d/\d<=32768):=by unfold rq;rw[aa h]
theorem BO (L N D:Int):rq L N D=decide (cF ⟨L,N,D⟩):=by
 unfold rq cF;by_cases h:N=0
 · simp [h]
 simp [h]
theorem mR (out:aj) (a b:List cy):expand out (a++b)=if(expand out a).1=0 then expand (expand out a).2 b else expand out a:=by
 induction a generalizing out with
 | nil=>rfl
 | cons t a c=>
   rw[dD,jV,jV];by_cases h:(step out t).1=0
   · rw[af h,af h,c]
   rw[aa h,aa h,aa h]
theorem a0Y {out:aj} {t:cy} (h:(step out t).1=0):∃z,(step out t).2=out++z:=by
 unfold step at h⊢;split
 · rename_i b;rw[af b]at h;simp at h
 rename_i b
 rw[aa b]at h;split
 · rename_i a;rw[af a]at h;simp at h
 rename_i a
 rw[aa a]at h;split
 · exact⟨_,rfl⟩
 rename_i c
 rw[aa c]at h;split
 · rename_i h4;rw[af h4]at h;simp at h
 exact⟨_,rfl⟩
theorem tH {out:aj} {l:List cy} (h:(expand out l).1=0):∃z,(expand out l).2=out++z:=by
 induction l generalizing out with
 | nil=>exact⟨[],by simp [expand]⟩
 | cons t l b=>
   rw[jV]at h⊢;by_cases a:(step out t).1=0
   · rw[af a]at h⊢;obtain⟨z,hz⟩ :=b h;obtain⟨y,c⟩ :=a0Y a;exact⟨y++z,by rw[hz,c,av]⟩
   rw[aa a]at h;exact absurd h a
theorem mn.below {w w':World} {B n:Nat} {A:ay} {l:List cy} (h:mn w B A n l) (b:Below B w w'):mn w' B A n l:= ⟨h.1,λd=>by
 obtain⟨f,e,a,c⟩ :=h.2 d
 exact⟨f,e,a,λi hi=>by
  obtain⟨c0,c1,c2⟩ :=c i hi;exact⟨(b.cell (by rw[bG];exact a)).trans c0,(b.cell (by rw[bG];exact a)).trans c1,(b.cell (by rw[bG];exact a)).trans c2⟩⟩⟩
theorem mn.more {w:World} {B B' n:Nat} {A:ay} {l:List cy} (h:mn w B A n l) (d:B<=B'):mn w B' A n l:= ⟨h.1,λb=>by
 obtain⟨c,e,f,a⟩ :=h.2 b;exact⟨c,e,ω,a⟩⟩
def uY (l:List cy) (i:Nat):Value:=tf (dV l (i/3)).lit (dV l (i/3)).len (dV l (i/3)).bm (i%3)
theorem XA (l:List cy) (i:Nat):uY l (i*3)= .int .u8 (dV l i).lit:=by unfold uY;rw[show i*3/3=i by omega,show i*3%3=0 by omega];rfl
theorem XC (l:List cy) (i:Nat):uY l (i*3+1)= .int .i64 (dV l i).len:=by unfold uY;rw[show(i*3+1)/3=i by omega,show(i*3+1)%3=1 by omega];rfl
theorem XD (l:List cy) (i:Nat):uY l (i*3+2)= .int .i64 (dV l i).bm:=by unfold uY;rw[show(i*3+2)/3=i by omega,show(i*3+2)%3=2 by omega];rfl
theorem JR (l:List cy) (i:Nat):(uY l i).oneCell'=true:=by
 unfold uY tf;split <;> rfl
theorem mn.a8b {w:World} {B n:Nat} {A:ay} {l:List cy} (b:n=l.length) (h:Rd w B A (n*3) (uY l)):mn w B A n l:= ⟨b,λf=>by
 obtain⟨d,e,c,a⟩ :=h ω;exact⟨d,e,c,λi hi=> ⟨by rw[a _ ω,XA],by rw[a _ ω,XC],by rw[a _ ω,XD]⟩⟩⟩
theorem mn.rd {w:World} {B n:Nat} {A:ay} {l:List cy} (h:mn w B A n l):Rd w B A (n*3) (uY l):=λd=>by
 obtain⟨c,e,b,a⟩ :=h.2 ω;refine⟨c,e,b,λi hi=> ?_⟩;obtain⟨c0,c1,c2⟩ :=a (i/3) ω;obtain h | h | h:i=i/3*3\/i=i/3*3+1\/i=i/3*3+2:=ω
 · rw[h,XA];exact c0
 · rw[h,XC];exact c1
 rw[h,XD];exact c2
theorem Gf (l l':List cy) (i:Nat):dV (l++l') i=if i<l.length then dV l i else dV l' (i-l.length):=by
 unfold dV;simp only [List.getD_eq_getElem?_getD];split
 · rw[bE (by assumption)]
 rw[bA ω]
theorem JQ (l l':List cy) (i:Nat):cat (l.length*3) (uY l) (uY l') i=uY (l++l') i:=by
 unfold cat uY;rw[Gf];by_cases h:i<l.length*3
 · rw[af h,af ω]
 rw[aa h,aa ω,show(i-l.length*3)/3=i/3-l.length by omega,show(i-l.length*3)%3=i%3 by omega]
def kh (w:World) (b0:Nat) (A:ay) (n c:Nat) (l:List cy):Prop:=n=l.length/\Own w b0 109 3 A n c (uY l)
theorem kh.rd {w:World} {b0 n c:Nat} {A:ay} {l:List cy} (h:kh w b0 A n c l):mn w w.heap.size A n l:=mn.a8b h.1 h.2.rd
theorem kh.b19 (w:World) (b0:Nat) (a:b0<=w.heap.size):kh (w.alloc (.cells #[] 109)) b0 (some ⟨w.heap.size,0,none⟩) 0 0 []:=
 ⟨rfl,Own.lit rfl #[] _ a σ σ (λi hi=>ω)⟩
theorem Eo:(Tryz.prog.info? 109).map (λi=>(i.zero,i.size,i.bytes))=some (some (.agg #[.int .u8 0, .int .i64 0, .int .i64 0]),3,24):=by kernel_rfl
section
variable {w:World}
theorem nG {d:Array Oper} {rest:List Oper} {o:Oper} {a:Act} {Q:Exit->Act->World->Prop} (b0:Nat) (i:TypeInfo) (k:Region.wanted o (yielded d a.tmps)=true) (s x:Operand)
  (v:o.op= .call { callee:= .builtin .append,args:= #[s,x],argTypes:= #[65, 65] }) (hi:Tryz.prog.info? 109 =some i) (hz:i.zero=some (.agg #[.int .u8 0, .int .i64 0, .int .i64 0]))
  (e:i.size=3) (p:i.bytes=24) {A:ay} {n c:Nat} {l:List cy} (u:a.eval s= .slice A n c) (b:kh w b0 A n c l)
  {B:Nat} {A':ay} {m c':Nat} {l':List cy} (t:a.eval x= .slice A' m c') (r:mn w B A' m l')
  (q:n+m<=1000000000000) (f:b0<=w.heap.size)
  (h:∀A2 c2 w2,kh w2 b0 A2 (n+m) c2 (l++l')->w.grownBy w2 (ak A)->(ak A2=ak A\/ak A2=some w.heap.size)->wpList Tryz.prog d Q rest (a.put o.dst (.slice A2 (n+m) c2)) w2):wpList Tryz.prog d Q (o::rest) a w:=by
 refine ig λK y=> ?_;rw[af k];obtain⟨A2,c2,w2,g,C,z,h4⟩ :=ia (P:=Tryz.prog) w b0 65 o.type 109 i _ 3 24 Tryz.underlying65 hi hz e p rfl ω A n c _ b.2 B A' m c' _ r.rd (λj _=>JR l' j) q ω f;unfold Oper.wp execOp;simp only [v,resolve,invoke,builtin,Sem.run_bind,Sem.run_pure,Result.andThen_ok,List.map_toArray,List.map_cons,List.map_nil,u,t,g];exact y _ _ (h A2 c2 w2 ⟨by rw[ag,<-b.1,<-r.1],C.congr λj D=>by rw[b.1,JQ]⟩ z h4)
end
open Go
theorem Za {a b:aj} (d:a.length=b.length) (h:∀i,i<a.length->ix a i=ix b i):a=b:=by
 apply fw d
 intro i c e;have:=h i c
 simpa [ix,c,e] using this
theorem zA (l:aj) {n i:Nat} (h:i<n):ix (l.take n) i=ix l i:=by
 unfold ix;simp only [List.getD_eq_getElem?_getD,List.getElem?_take,if_pos h]
theorem Tg {D:aj} {at_ N d:Nat} (g:1<=d) (f:d<=at_) (e:at_+N<=D.length) (h:∀i,i<N->ix D (at_-d+i)=ix D (at_+i)):D.take at_++again (D.take at_) d N=D.take (at_+N):=by
 have c:(D.take at_).length=at_:=ξ
 have b:∀i,i<N->ix D (at_+i)=ix D (at_-d+i%d):=by
  intro i;induction i using Nat.strongRecOn with
  | _ i ih=>
    intro hi;by_cases hd:i<d
    · rw[dW hd,h i hi]
    have h4:=ih (i-d) ω ω;have h5:=h i hi;rw[show at_-d+i=at_+(i-d) by omega,h4,<-Nat.mod_eq_sub_mod ω]at h5;exact h5.symm
 apply Za
 · simp [cK];omega
 intro i hi;rw[ag,cK,c]at hi;rw[dg,c];by_cases a:i<at_
 · rw[af a,zA _ a,zA _ ω]
 rw[aa a,IU _ _ _ ω,c,zA _ (by have:=Nat.mod_lt (i-at_) (show 0<d by omega);omega),zA _ ω];have:=b (i-at_) ω;rw[show at_+(i-at_)=i by omega]at this;exact this.symm
theorem take_one (D:aj) {n:Nat} (h:n<D.length):D.take n++[ix D n]=D.take (n+1):=by
 rw[bb h];simp [ix,h]
theorem QR {e:px} {st:jf} (h:st.Ok st.at_) (a:st.at_<st.D.length) (s:st.D.length<=16777216):step (st.D.take st.at_) (fS e st).1=(0,st.D.take (fS e st).2.at_):=by
 obtain⟨N,v,u,k, -, -,h6, -,h7⟩ :=po (e:=e) h a;have c:(st.D.take st.at_).length=st.at_:=ξ;rw[h6];rcases h7 with ⟨ht,rfl⟩ | ⟨d,ht,j, -,t⟩
 · rw[ht];unfold step rO;have b:cF ⟨ix st.D st.at_,0,0⟩ :=by unfold cF;simp
   rw[aa (by simpa using b),c,aa (by simp only;omega),af rfl];simp only;rw[take_one _ a]
 rw[ht];rcases j with ⟨hz, -⟩ | ⟨o,n,m,i,l,g,f⟩
 · simp only at hz;omega
 simp only at o n m i l g f;unfold step;have b:cF ⟨0,N,d⟩ :=by unfold cF;rw[aa (show¬(N:Int)=0 by omega)];exact⟨rfl,show(3:Int)<=N by omega,show(N:Int)<=258 by omega,show(1:Int)<=d by omega,show(d:Int)<=32768 by omega⟩
 have r:¬(16777216<((st.at_:Nat):Int)+max (N:Int) 1):=ω;have q:¬((N:Int)=0):=ω;have p:¬(((st.at_:Nat):Int)<(d:Int)):=ω;rw[aa (by simpa using b),c];simp only [if_neg r,if_neg q,if_neg p,Int.toNat_natCast];rw[Tg i g k f]
theorem MG {e:px} {left:Nat} {st st':jf} {l:List cy} (h:zm e left st l st') (g:st.Ok st.at_) (i:st.D.length<=16777216) (out:aj) (pre:List cy) (hp:expand [] pre=(0,st.D.take st.at_)):expand [] (pre++l)=(0,st'.D.take st'.at_):=by
 induction h with
 | nil=>rw[aA];exact hp
 | snoc j r c=>
   obtain⟨a,d,q,p⟩ :=G4 j g;have f:=QR (e:=e) a ω (by rw[d];exact i);obtain⟨N,o, -, -,n,b,m,k, -⟩ :=po (e:=e) a ω;rw[<-av,mR,c];simp only [if_pos];rw[jV,f];simp only [if_pos];rw[b];rfl
theorem zm.a5s {e:px} {left:Nat} {st st':jf} {l:List cy} (h:left<st.D.length-st.at_) (b:zm e left (fS e st).2 l st'):zm e left st ((fS e st).1::l) st':=by
 induction b with
 | nil=>exact zm.snoc (zm.nil st) h
 | snoc d c a=>exact zm.snoc (l:=(fS e st).1::_) a c
theorem zm.inv {e:px} {left:Nat} {st st':jf} {l:List cy} (h:zm e left st l st'):(l=[]/\st'=st)\/∃a,left<st.D.length-st.at_/\l=(fS e st).1::a/\zm e left (fS e st).2 a st':=by
 induction h with
 | nil=>exact .inl ⟨rfl,rfl⟩
 | snoc f b c=>
   rcases c with ⟨rfl,rfl⟩ | ⟨a,d,rfl,h5⟩
   · exact .inr ⟨[],b,rfl, .nil _⟩
   exact .inr ⟨_,d,rfl,zm.snoc h5 b⟩
section
variable {P:Program} (t e:TypeId) (ht:P.underlying t=some (.slice e)) {i:TypeInfo} (hi:P.info? e=some i)
include ht hi
theorem uk (A:ay) (n c:Nat) {j:Nat} (b:j<=c) (W:World):
  (Instr.slice t (.slice A n c) none (some (.int .i64 (j:Int))) (some (.int .i64 (j:Int)))).run P W= .ok (.slice A j j) W:=by
 have a:P.elem t=e:=by simp [Program.elem,ht]
 rw[run_slice_hm W t A n c (by rw[a];exact ht) .i64 .i64 j j ω ω ω,a];simp [sizeOf,typeInfo,hi,sliced];cases A <;> simp [Addr.add]
theorem zk {a:Nat} (d:i.size=a) (A:ay) (n c:Nat) {j:Nat} (f:j<=n) (W:World):
  (Instr.slice t (.slice A n c) (some (.int .i64 (j:Int))) none none).run P W= .ok (.slice (if c=j then A else A.map (·.add (j*a))) (n-j) (c-j)) W:=by
 have b:P.elem t=e:=by simp [Program.elem,ht]
 rw[run_slice_l W t A n c (by rw[b];exact ht) .i64 j ω ω,b];simp [sizeOf,typeInfo,hi,d,sliced]
end
theorem mn.pre {w:World} {B n:Nat} {A:ay} {l:List cy} (h:mn w B A n l) {j:Nat} (d:j<=n):mn w B A j (l.take j):=by
 refine⟨by rw[aD,<-h.1];omega,λf=> ?_⟩;obtain⟨c,e,b,a⟩ :=h.2 ω;refine⟨c,e,b,λi hi=> ?_⟩;have ht:dV (l.take j) i=dV l i:=by unfold dV;simp [List.getD_eq_getElem?_getD,hi]
 rw[ht];exact a i ω
theorem mn.from_ {w:World} {B n c:Nat} {A:ay} {l:List cy} (h:mn w B A n l) {j:Nat} (f:j<=n) (g:n<=c):mn w B (if c=j then A else A.map (·.add (j*3))) (n-j) (l.drop j):=by
 refine⟨by rw[az,<-h.1],λk=> ?_⟩;obtain⟨d,rfl,e,a⟩ :=h.2 ω;rw[aa ω];refine⟨_,rfl,by rw[bG];exact e,λi hi=> ?_⟩;have ht:dV (l.drop j) i=dV l (j+i):=by unfold dV;simp [List.getD_eq_getElem?_getD,List.getElem?_drop]
 rw[ht];have b:∀q:Nat,(d.add (j*3)).add q=d.add (j*3+q):=λq=>by unfold Addr.add;split <;> split <;> simp_all <;> omega
 have:=a (j+i) ω;rw[b,b,b,<-eY,<-eY,<-eD];exact this
theorem C8:(Tryz.prog.info? 5).map (λi=>(i.zero,i.size,i.bytes))=some (some (.int .u8 0),1,1):=by kernel_rfl
structure zn (w:World) (b0 g:Nat) (A:ay) (n c:Nat) (l:aj):Prop where
 cell:Ar w g 1 (λ_=> .slice A n c)
 lo:b0<=g
 own:ba .u8 w b0 5 A n c l
 apart:ak A≠some g
 len:l.length<=65536
theorem zn.nB {w:World} {b0 g n c:Nat} {A:ay} {l:aj} (h:zn w b0 g A n c l):n=l.length:=h.own.1
theorem zn.fC {w w':World} {b0 g n c:Nat} {A:ay} {l:aj} {S:Nat->Prop} (h:zn w b0 g A n c l) (a:bk w w' S) (b:∀k,foot A g k->¬S k):zn w' b0 g A n c l:=
 ⟨a.ar h.cell (b g (.inl rfl)),h.lo,a.dX h.own λq d=>b q (.inr d),h.apart,h.len⟩
theorem zn.keeps {w w':World} {b0 g n c:Nat} {A:ay} {l:aj} (h:zn w b0 g A n c l) (a:Below w.heap.size w w'):zn w' b0 g A n c l:=
 h.fC (S:=λ_=>False) (bk.bJ a) λ_ _=>id
theorem zn.eK {w:World} {b0 g n c:Nat} {A:ay} {l:aj} (h:zn w b0 g A n c l) {k:Nat} (a:foot A g k):b0<=k/\k<w.heap.size:=by
 rcases a with rfl | a
 · exact⟨h.lo,h.cell.lt⟩
 exact h.own.2.lt a
theorem MX (w:World):Calls Tryz.prog 101 #[] w λe w'=>∃g,e= .returned (.pointer (some ⟨g,0,none⟩))/\zn w' w.heap.size g none 0 0 []/\Below w.heap.size w w':=by
 go_enter Tryz.func101,Tryz.ntmps101;go_wp2;go_ret
 have hA:Ar (w.alloc (.cells #[.slice none 0 0] 173)) w.heap.size 1 (λ_=> .slice none 0 0):=
  Ar.new w #[.slice none 0 0] _ rfl λi hi=>by
   obtain rfl:i=0:=ω;rfl
 exact⟨w.heap.size,rfl, ⟨hA,ai _,ba.dN,by simp [ak],σ⟩,(ax _ _).alloc (ai _) _⟩
theorem C9 (w:World) (b0 g n c:Nat) (A:ay) (l:aj) (a:zn w b0 g A n c l):
  Calls Tryz.prog 158 #[.pointer (some ⟨g,0,none⟩)] w λe w'=>e= .returned (.int .i64 ((min n 32768:Nat):Int))/\w=w':=by
 have c0:=a.cell.cell (i:=0) ω;have d:(n:Int)<=65536:=by have:=a.len;have:=a.nB;omega
 by_cases h:(n:Int)<=32768
 · have e:Hid (((min n 32768:Nat):Int)=(n:Int)):=by show _=_;omega
   have b:¬(32768:Int)<n:=ω;go_enter Tryz.func158,Tryz.ntmps158;go_wp2;go_ret;exact⟨bZ e.out.symm,rfl⟩
 have e:Hid (((min n 32768:Nat):Int)=32768):=by show _=_;omega
 have b:(32768:Int)<n:=ω;go_enter Tryz.func158,Tryz.ntmps158;go_wp2;go_ret;exact⟨bZ e.out.symm,rfl⟩
def Ep (w:World) (b0 g:Nat) (A:ay) (l b:aj) (e:Ending) (w':World):Prop:=
 ∃A' n' c',e= .returned (.tuple #[])/\zn w' b0 g A' n' c' (zT l b)/\bk w w' (foot A g)/\(∀k,ak A'=some k->ak A=some k\/w.heap.size<=k)
theorem vd (w:World) (b0 g n c B m d:Nat) (A C:ay) (l b:aj) (a:zn w b0 g A n c l) (L:bT .u8 w B C m b) (hB:B<=w.heap.size) (hm:(m:Int)<=1000000):
  Calls Tryz.prog 144 #[.pointer (some ⟨g,0,none⟩), .slice C m d] w (Ep w b0 g A l b):=by
 have c0:=a.cell.cell (i:=0) ω;have z0:=a.cell.frozen' (i:=0) ω;have Z:=a.cell.lt;have u:b0<=w.heap.size:=aw a.lo (dh Z);have hn:(n:Int)<=65536:=by have:=a.len;have:=a.nB;omega
 obtain⟨K,hi,D,z,y⟩ :=aL C8;have Hi:=η hi;have S:=η D;have R:=η z;have Q:=η y;clear hi D z y;have M:l.length+b.length=n+m:=by rw[a.nB,L.1]
 by_cases lF:(65536:Int)<(n:Int)+(m:Int)
 rotate_left
 · go_enter Tryz.func144,Tryz.ntmps144
   go_wp2_with (at_builtin;(refine bq .u8 b0 5 K 1 rfl (.tmp 11) (.tmp 12) _ rfl Tryz.underlying22 Hi.out S.out R.out Q.out rfl a.own rfl L ω ω u ?_)
                intro A2 c2 w2 f t v;have q:=a.cell.grown t (λe=>a.apart e.symm);have P:=q.cell (i:=0) ω;have H:=q.frozen' (i:=0) ω)
   go_end0;unfold Ep;have r:=t.size;have s:¬65536<(l++b).length:=by rw[ag,M];omega
   have N:zT l b=l++b:=by unfold zT;rw[aa s]
   have rS:∀k,ak A2=some k->ak A=some k\/w.heap.size<=k:=by
    intro k o;rcases v with e | e
    · rw[e]at o;exact .inl o
    rw[e]at o;simp at o;exact .inr ω
   have F:ak A2≠some g:=λh=>by
    rcases rS g h with V | V
    · exact a.apart V
    omega
   refine⟨A2,n+m,c2,rfl, ⟨(q.bK (i:=0) ω _).congr λi hi=> ?_,a.lo, ?_,F,Nh l b⟩, ?_,rS⟩
   · obtain rfl:i=0:=ω;rw[upd_same]
   · rw[N];exact f.far (p:= ⟨g,0,none⟩) F _
   exact((bk.refl w _).grown t λk o=> .inl (.inr o)).setCell (p:= ⟨g,0,none⟩) (.inl (.inl rfl)) _
 go_enter Tryz.func144,Tryz.ntmps144
 go_wp2_with (first
  | (at_builtin;(refine bq .u8 b0 5 K 1 rfl (.tmp 11) (.tmp 12) _ rfl Tryz.underlying22 Hi.out S.out R.out Q.out rfl a.own rfl L ω ω u ?_)
     intro A2 c2 w2 f t v;have q:=a.cell.grown t (λe=>a.apart e.symm);have P:=q.cell (i:=0) ω;have H:=q.frozen' (i:=0) ω;obtain⟨G,rfl⟩ :=f.2.addr ω;have Y:g<w2.heap.size:=q.lt;have E:=(q.bK (i:=0) ω (.slice (some ⟨G,0,none⟩) (n+m) c2)).alloc (.cells #[] 5);have O:=E.cell (i:=0) ω;rw[upd_same]at O;have fI:=f.2.jT
     have F:ak (some (⟨G,0,none⟩ :Addr))≠some g:=by
      rcases v with e | e
      · rw[e];exact a.apart
      rw[e];simp;omega
     have J:=(f.far (p:= ⟨g,0,none⟩) F (.slice (some ⟨G,0,none⟩) (n+m) c2)).alloc (.cells #[] 5);have I:=(J.rd.cut (j:=n+m-32768) ω (A':=some ⟨G,n+m-32768,none⟩) (λ_=>by rw[Option.map_some,oh])))
  | (at_builtin;(refine bq .u8 w2.heap.size 5 K 1 rfl (.tmp 24) (.tmp 31) _ rfl Tryz.underlying22 Hi.out S.out R.out Q.out rfl (ba.lit (by simp [World.setCell]) [] _ (by simp [World.setCell]) σ) rfl I ω ω (by simp [World.setCell]) ?_)
     intro W c5 w5 T U jD;rw[bS,aZ]at T;have x:=E.grown U (by simp [ak];omega);have ab:=x.cell (i:=0) ω;have X:=x.frozen' (i:=0) ω))
 go_end0;unfold Ep;have r:=t.size;have s:65536<(l++b).length:=by rw[ag,M];omega
 have N:zT l b=(l++b).drop (n+m-32768):=by unfold zT;rw[af s,ag,M]
 have rI:∀k,ak W=some k->w2.heap.size<=k:=by
  intro k o;rcases jD with e | e
  · rw[e]at o;simp [ak]at o;omega
  rw[e]at o;simp [World.setCell]at o;omega
 refine⟨W,n+m-(n+m-32768),c5,rfl, ⟨(x.bK (i:=0) ω _).congr λi hi=> ?_,a.lo, ?_, ?_,Nh l b⟩, ?_,λk o=> .inr (aw r (rI k o))⟩
 · obtain rfl:i=0:=ω;rw[upd_same]
 · rw[N];exact(T.more (aw u r)).far (p:= ⟨g,0,none⟩) (λh=>by have:=rI g h;omega) _
 · exact λh=>by have:=rI g h;omega
 exact((((bk.refl w _).grown t λk o=> .inl (.inr o)).setCell (p:= ⟨g,0,none⟩) (.inl (.inl rfl)) _).alloc _).grown U (λk o=>by simp [ak]at o;exact .inr ω) |>.setCell (p:= ⟨g,0,none⟩) (.inl (.inl rfl)) _
def Nu (l:aj) (D N:Nat):aj:=(List.range N).map λi=>ix l (l.length-D+i%D)
theorem Aq (l:aj) (D N:Nat):(Nu l D N).length=N:=by simp [Nu]
theorem a4k (l:aj) (D N:Nat) {i:Nat} (h:i<N):ix (Nu l D N) i=ix l (l.length-D+i%D):=by simp [ix,Nu,h]
def YY (l:aj) (D k i:Nat):Value:= .int .u8 (if i<k then ix l (l.length-D+i%D)else 0)
theorem TA (l:aj) (D i:Nat):Value.int .u8 0=YY l D 0 i:=by unfold YY;rw[aa (jw _)]
theorem KP (l:aj) (D:Nat) {k i:Nat} (h:i<k):YY l D k i= .int .u8 (ix l (l.length-D+i%D)):=by unfold YY;rw[af h]
theorem Nv (l:aj) (D k:Nat) (v:Int) (hv:v=ix l (l.length-D+k%D)) (j:Nat):upd (YY l D k) k (.int .u8 v) j=YY l D (k+1) j:=by
 by_cases a:j=k
 · subst a;rw[upd_same,KP _ _ ω,hv]
 rw[dx _ _ a];unfold YY;congr 1;by_cases h:j<k
 · rw[af h,af ω]
 rw[aa h,aa ω]
theorem Px (w:World) (b0 g n c:Nat) (A:ay) (l:aj) (b:zn w b0 g A n c l) (N D:Int) (hN:1<=N/\N<=258) (hD:D<1\/((min n 32768:Nat):Int)<D):
  Calls Tryz.prog 149 #[.pointer (some ⟨g,0,none⟩), .int .i64 N, .int .i64 D] w λe w'=>e= .returned (.tuple #[.slice none 0 0, .int .i64 3])/\w=w':=by
 have h:D<1\/(¬D<1/\((min n 32768:Nat):Int)<D):=ω;clear hD;rcases h with h | ⟨f,h⟩
 · go_enter Tryz.func149,Tryz.ntmps149;go_wp2
   go_ret2
   exact⟨rfl,rfl⟩
 obtain⟨q,a⟩ :=ν (((min n 32768:Nat):Int):Int);rw[a]at h;have d:=η a;clear a;go_enter Tryz.func149,Tryz.ntmps149
 go_wp2_with fail;refine(C9 _ _ _ _ _ _ _ b).mono ?_;rintro e w' ⟨rfl,rfl⟩;rw[d.out];go_wp2
 go_ret2
 exact⟨rfl,rfl⟩
def GI (w:World) (b0 g:Nat) (A:ay) (l:aj) (D N:Nat) (e:Ending) (w':World):Prop:=
 ∃a A' n' c',e= .returned (.tuple #[.slice (some ⟨a,0,none⟩) N N, .int .i64 0])/\ba .u8 w' w.heap.size 5 (some ⟨a,0,none⟩) N N (Nu l D N)/\zn w' b0 g A' n' c' (zT l (Nu l D N))/\¬foot A' g a/\
  bk w w' (foot A g)/\(∀k,ak A'=some k->ak A=some k\/w.heap.size<=k)
theorem YW (w:World) (b0 g n c:Nat) (A:ay) (l:aj) (a:zn w b0 g A n c l) (N D:Nat) (hN:1<=(N:Int)/\(N:Int)<=258) (hD:1<=(D:Int)/\(D:Int)<=((min n 32768:Nat):Int)):
  Calls Tryz.prog 149 #[.pointer (some ⟨g,0,none⟩), .int .i64 N, .int .i64 D] w (GI w b0 g A l D N):=by
 obtain⟨q,t⟩ :=ν (((min n 32768:Nat):Int):Int);have ac:(D:Int)<=(n:Int):=ω;have T:(n:Int)<=65536:=by have:=a.len;have:=a.nB;omega
 have R:=η a.nB;rw[t]at hD;have HQ:=η t;clear t;have c0:=a.cell.cell (i:=0) ω;have oX:=a.cell.lt;obtain⟨M,hi,r,p,o⟩ :=aL C8;have I:=λW=>fV (P:=Tryz.prog) 22 5 M (.int .u8 0) Tryz.underlying22 hi r p rfl .i64 .i64 N (by rw[o];omega) ω W;have HM:=η I;clear I hi r p o;have U:=HM.out w;obtain⟨B,rfl⟩ :=a.own.2.addr ω;have fI:=a.own.2.jT;have F8:(n:Int)<=(c:Int):=ω;go_enter Tryz.func149,Tryz.ntmps149
 go_wp2_with fail;refine(C9 _ _ _ _ _ _ _ a).mono ?_;rintro e w' ⟨rfl,rfl⟩;rw[HQ.out];go_wp2;have c1:(w.alloc (.cells (eH N (.int .u8 0)) 5)).cell? ⟨g,0,none⟩ =some (.slice (some ⟨B,0,none⟩) n c):=(a.cell.alloc _).cell ω;obtain⟨P,K⟩ :=ν (n-D:Nat);have O:IntKind.i64.wrap ((n:Int)-(D:Int))=(P:Int):=by rw[aM _ ω];omega
 have ab:(0:Int)<=P/\(P:Int)<n/\(P:Int)<c:=ω;have Z:P<n/\P<=n/\P<=c:=ω;have S:¬c=P:=ω;have G:n-P=D:=ω;have HP:=η K;clear K;clear U;go_quiet (fail);go_wp2;have f:Below w.heap.size w ((w.alloc (.cells (eH N (.int .u8 0)) 5)).drewN nq):=below_drewN ((ax _ _).alloc (ai _) _) nq
 have d:Own ((w.alloc (.cells (eH N (.int .u8 0)) 5)).drewN nq) w.heap.size 5 1 (some ⟨w.heap.size,0,none⟩) N N (YY l D 0):=
  (Own.lit rfl _ _ (ai _) (by unfold maxLen;omega) (by rw[qo,dJ]) (λi hi=>by rw[OU _ ω];exact aN some (TA l D i)))
 obtain⟨w1,H⟩ :∃w1:World,w1=(w.alloc (.cells (eH N (.int .u8 0)) 5)).drewN nq:= ⟨_,rfl⟩;rw[<-H]at f d⊢;clear H c1;have s:=a.own.rd.cut (j:=P) ω (A':=some ⟨B,P,none⟩) (λ_=>by rw[Option.map_some,oh]);rw[G]at s
 go_loopw [47] (λi wr=>∃k:Nat,k<=N/\i= .int .i64 k/\Own wr w.heap.size 5 1 (some ⟨w.heap.size,0,none⟩) N N (YY l D k)/\Below w.heap.size w wr) (λi _=>N-(intOf i).toNat)
 case atStart=>exact⟨0,ω,rfl,d,f⟩
 obtain⟨k,z,rfl,d,f⟩ :=hrel;by_cases V:k<N
 · have Ds:(0:Int)<=k/\(k:Int)<N:=ω;have c2:=d.cell (i:=k) ω;have z2:=d.frozen k;by_cases u:k<D
   · obtain⟨_,Y,_,y⟩ :=(s.below f).at_ u;cases Y;have L:(⟨B,P,none⟩ :Addr).add k= ⟨B,P+k,none⟩ :=by unfold Addr.add;split <;> simp_all
     rw[L,mg]at y;have hv:ix l (P+k)=ix l (l.length-D+k%D):=by rw[dW u,<-R.out,HP.out]
     obtain⟨v,b⟩ :=ν (ix l (P+k):Int);rw[b]at y hv;have hit:=η (Nv l D k v hv);clear b hv L;go_wp2;go_roundw
     case rel=>exact⟨k+1,ω,by go_num,(d.bK ω _).congr λj _=>hit.out j,f.setCell (ai _) _⟩
     case measure=>simp [intOf];omega
   have y:=d.cell (i:=k-D) ω;rw[KP l D ω]at y;have hv:ix l (l.length-D+(k-D)%D)=ix l (l.length-D+k%D):=by rw[<-Nat.mod_eq_sub_mod ω]
   obtain⟨v,b⟩ :=ν (ix l (l.length-D+(k-D)%D):Int);rw[b]at y hv;have hit:=η (Nv l D k v hv);have X:((k:Int)-(D:Int)).toNat=k-D:=ω;clear b hv;go_wp2;go_roundw
   case rel=>exact⟨k+1,ω,by go_num,(d.bK ω _).congr λj _=>hit.out j,f.setCell (ai _) _⟩
   case measure=>simp [intOf];omega
 obtain rfl:N=k:=ω;have F:ba .u8 wr w.heap.size 5 (some ⟨w.heap.size,0,none⟩) N N (Nu l D N):= ⟨(Aq l D N).symm,d.congr λi hi=>by rw[KP l D ω,a4k l D N ω]⟩;have C:=a.keeps f
 go_wp2_with fail;refine(vd _ _ _ _ _ _ _ _ _ _ _ _ C F.rd (ai _) ω).mono ?_;rintro e w2 ⟨A',n',c',rfl,E,J,x⟩;have x7:=F.2.lt (g:=w.heap.size) rfl
 have Q:=J.dX F (λq t h=>by
  simp [ak]at t;rcases h with h | h
  · omega
  have:=(a.own.2.lt h).2;omega)
 go_wp2
 go_ret2
 refine⟨w.heap.size,A',n',c',rfl,Q,E, ?_,(bk.bJ f).trans J (λk z=> .inl z),λk z=> ?_⟩
 · rintro(h | h)
   · omega
   rcases x _ h with m | m
   · have:=(a.own.2.lt m).2;omega
   omega
 rcases x k z with m | m
 · exact .inl m
 exact .inr (aw f.size m)
theorem uU (A:ay) (n c B:Nat) (l:aj) (w:World) (t:bT .i64 w B A n l) (J:B<=w.heap.size) (O:n<=288):
  Calls Tryz.prog 71 #[.slice A n c] w λe w'=>∃g,e= .returned (.slice (some ⟨g,0,none⟩) n n)/\bT .u32 w' w'.heap.size (some ⟨g,0,none⟩) n (jk l)/\Below w.heap.size w w'/\w.heap.size<=g:=by
 obtain⟨C,hi,m,h,f⟩ :=aL Aj;have G:n<=l.length/\l.length<=n:=by have:=t.1;omega
 have p:=η t.1;have z:=λW=>fV (P:=Tryz.prog) 64 29 C (.int .u32 0) Tryz.underlying64 hi m h rfl .i64 .i64 n (by rw[f];omega) ω W;have K:=η z;clear z hi m h f;have N:¬(288<(n:Int)):=ω;have E:=K.out w;go_enter Tryz.func71,Tryz.ntmps71;go_wp2;clear E;have a:Ar (w.alloc (.cells (eH n (.int .u32 0)) 29)) w.heap.size n (mY l 1 0):=(Ar.N6 n (.int .u32 0) 29 rfl).congr λj _=>Hv l j;have b:Below w.heap.size w (w.alloc (.cells (eH n (.int .u32 0)) 29)):=(ax _ _).alloc (ai _) _;obtain⟨x,o⟩ :∃x:World,x=w.alloc (.cells (eH n (.int .u32 0)) 29):= ⟨_,rfl⟩;rw[<-o]at a b⊢;clear o
 go_loopw [4,5] (λs i wr=>∃v:Nat,1<=v/\v<=16/\i= .int .i64 v/\s= .int .u32 (Bx l v)/\Ar wr w.heap.size n (mY l v 0)/\Below w.heap.size w wr) (λ_ i _=>16-(intOf i).toNat)
 case atStart=>exact⟨1,ω,ω,rfl,by rw[WK];rfl,a,b⟩
 obtain⟨v,q,hv,rfl,rfl,a,b⟩ :=hrel;by_cases F:v<16
 rotate_left
 · obtain rfl:16=v:=ω;go_wp2;go_ret;refine⟨_,rfl, ⟨by rw[sq l ω];omega, ?_⟩,b,ai _⟩;refine(a.rd a.lt (ai _)).congr λi hi=> ?_;rw[PF,qP l ω ω]
 have D:=η (Bz l q);have bd:=uO l ω (v:=v) ω;have S:Bx l v<=9437184:=by have:=Bz l q;omega
 go_wp2;obtain⟨y,rfl⟩ :∃y:World,y=wr:= ⟨_,rfl⟩
 go_loopw [4,6] (λs i wr=>∃k:Nat,k<=n/\i= .int .i64 k/\s= .int .u32 ((nQ l v+cnt l k v:Nat):Int)/\Ar wr w.heap.size n (mY l v k)/\Below w.heap.size w wr) (λ_ i _=>n-(intOf i).toNat)
 case atStart=>exact⟨0,ω,rfl,by rw[D.out];congr 1;simp [cnt];omega,a,b⟩
 obtain⟨k,Q,rfl,rfl,a,b⟩ :=hrel;by_cases u:k<n
 rotate_left
 · obtain rfl:n=k:=ω;go_wp2;go_roundw
   case rel=>exact⟨v+1,ω,ω,by go_num,by rw[DU l q,<-p.out],a.congr λj R=>by rw[<-KZ l v j ω,<-p.out],b⟩
   case measure=>simp [intOf];omega
 obtain⟨T,rfl,_,I⟩ :=((t.more J).below b).at_ u;have c2:=a.cell u;have M:=a.frozen' (i:=k) ω;have b2:=lU l k v;by_cases d:ix l k=v
 · have r:=η (show cnt l (k+1) v=cnt l k v+1 by simp [cnt,d]);have L:=η d;rw[d]at I;clear d;go_wp2;go_roundw
   case rel=>exact⟨k+1,ω,by go_num,by rw[r.out];congr 1,(a.bK u _).congr λj _=>PG q ω L.out j,b.setCell (ai _) _⟩
   case measure=>simp [intOf];omega
 have r:=η (show cnt l (k+1) v=cnt l k v by simp [cnt,d]);have H:(ix l k==(v:Int))=false:=by simpa using d
 go_wp2;go_roundw
 case rel=>exact⟨k+1,ω,by go_num,by rw[r.out],a.congr λj _=>KY d j,b⟩
 case measure=>simp [intOf];omega
theorem qh (A:ay) (n c B:Nat) (l:aj) (w:World) (g:bT .i64 w B A n l) (t:n<=1000):
  Calls Tryz.prog 95 #[.slice A n c] w λe w'=>e= .returned (.int .i64 (sumTo l n))/\w=w':=by
 go_enter Tryz.func95,Tryz.ntmps95;go_wp2;go_loop [3,4] (λs i=>∃k:Nat,k<=n/\i= .int .i64 k/\s= .int .i64 (sumTo l k)) (λ_ i=>n-(intOf i).toNat)
 case atStart=>exact⟨0,aF _,rfl,rfl⟩
 obtain⟨k,u,rfl,rfl⟩ :=hrel;have bd:=wM l k;by_cases b:k<n
 rotate_left
 · obtain rfl:n=k:=ω;go_wp2;go_ret;exact⟨rfl,rfl⟩
 obtain⟨x,rfl,_,m⟩ :=g.at_ b;by_cases ht:1<=ix l k/\ix l k<=15
 rotate_left
 · have a:sumTo l (k+1)=sumTo l k:=by
    show sumTo l k+share (ix l k)=_;rw[nC ht];rfl
   have d:=η a;clear a;go_wp2
   all_goals
    go_round
    case rel=>exact⟨k+1,ω,by go_num,by rw[d.out]⟩
    case measure=>simp [intOf];omega
 obtain⟨v,hv⟩ :∃v:Nat,ix l k=(v:Int):= ⟨(ix l k).toNat,ω⟩
 have a:sumTo l (k+1)=sumTo l k+qX v:=by
  show sumTo l k+share (ix l k)=_;rw[hv,qj ω ω]
 have d:=η a;rw[hv]at m ht;have o:(1:Int)<=(v:Int)/\(v:Int)<=15:=ht;clear hv a;go_wp2;go_loop [5,6] (λp j=>∃q:Nat,q<=v/\j= .int .i64 q/\p= .int .i64 (qX q)) (λ_ j=>v-(intOf j).toNat)
 case atStart=>exact⟨0,aF _,rfl,rfl⟩
 obtain⟨q,r,rfl,rfl⟩ :=hrel;have b2:=xT q;by_cases f:q<v
 · have h:=η (Bu (v:=q) ω);go_wp2
   go_round
   case rel=>exact⟨q+1,ω,by go_num,by rw[h.out];congr 1;omega⟩
   case measure=>simp [intOf];omega
 obtain rfl:v=q:=ω;go_wp2
 go_round
 case rel=>exact⟨k+1,ω,by go_num,by rw[d.out];go_num⟩
 case measure=>simp [intOf];omega
def gN (l:aj):Nat->Nat
 | 0=>0
 | k+1=>gN l k+if ix l k=1 then 1 else 0
theorem DK (l:aj) (k:Nat):gN l k<=di l k:=by
 induction k with
 | zero=>simp [gN]
 | succ k a=>simp only [gN,di];split <;> split <;> omega
theorem Mp {l:aj} {k:Nat} (h:∀i,i<k->ix l i<=1):gN l k=di l k:=by
 induction k with
 | zero=>simp [gN,di]
 | succ k a=>
   have c:=a λi hi=>h i ω;have b:=h k ω;simp only [gN,di];split <;> split <;> omega
theorem Jc {l:aj} {n k:Nat} (b:k<n) (h:1<ix l k):gN l n<di l n:=by
 induction n with
 | zero=>omega
 | succ n a=>
   simp only [gN,di];by_cases e:k=n
   · subst e;have:=DK l k;rw[aa ω,af ω];omega
   have:=a ω;split <;> split <;> omega
theorem qA (l:aj) (n:Nat):kW l n=true↔(di l n=0\/(di l n=1/\gN l n=1)):=by
 unfold kW ui;simp only [Bool.and_eq_true,decide_eq_true_eq];constructor
 · rintro⟨b,c⟩;have:=Mp b;omega
 intro h;refine⟨λi hi=> ?_,ω⟩;by_cases a:1<ix l i
 · have:=Jc hi a;omega
 omega
theorem uT (A:ay) (n c B:Nat) (l:aj) (most:Int) (w:World) (g:bT .i64 w B A n l) (h:n<=1000):
  Calls Tryz.prog 75 #[.slice A n c, .int .i64 most] w λe w'=>e= .returned (.int .i64 (bg l most))/\w=w':=by
 have d:=η g.1;by_cases p:most<1\/15<most\/288<n
 · have a:=η (yh (l:=l) (most:=most) (by rw[<-d.out];exact p));by_cases L:most<1
   · clear p;go_enter Tryz.func75,Tryz.ntmps75
     go_wp2_with fail;go_ret;exact⟨bZ a.out.symm,rfl⟩
   by_cases K:15<most
   · clear p;go_enter Tryz.func75,Tryz.ntmps75
     go_wp2_with fail;go_ret;exact⟨bZ a.out.symm,rfl⟩
   have R:288<n:=ω;clear p;go_enter Tryz.func75,Tryz.ntmps75
   go_wp2_with fail;go_ret;exact⟨bZ a.out.symm,rfl⟩
 have q:=η (show¬(most<1\/15<most\/288<l.length) by rw[<-d.out];exact p);have O:1<=most/\most<=15:=ω;have N:n<=288:=ω;have q1:decide (most<1)=false:=ξ;have q2:decide (15<most)=false:=ξ;have q3:decide ((288:Int)<(n:Int))=false:=ξ;clear p;go_enter Tryz.func75,Tryz.ntmps75
 go_wp2_with fail;go_loop [5,6,7] (λs o i=>∃k:Nat,k<=n/\i= .int .i64 k/\s= .int .i64 (di l k)/\o= .int .i64 (gN l k)/\Hid (∀j,j<k->0<=ix l j/\ix l j<=most)) (λ_ _ i=>n-(intOf i).toNat)
 case atStart=>exact⟨0,aF _,rfl,rfl,rfl,λj C=>absurd C ω⟩
 obtain⟨k,P,rfl,rfl,rfl,D⟩ :=hrel;have b3:=Jj l k;have b4:=DK l k;by_cases r:k<n
 · obtain⟨T,rfl,_,J⟩ :=g.at_ r;by_cases ht:0<=ix l k/\ix l k<=most
   rotate_left
   · have a:=η (uu (most:=most) (show k<l.length by rw[<-d.out];exact r) ht);by_cases L:ix l k<0
     · go_wp2_with fail;go_ret;exact⟨bZ a.out.symm,rfl⟩
     have K:most<ix l k:=ω
     go_wp2_with fail;go_ret;exact⟨bZ a.out.symm,rfl⟩
   have v:Hid (∀j,j<k+1->0<=ix l j/\ix l j<=most):=by
    intro j C;by_cases e:j=k
    · subst e;exact ht
    exact D.out j ω
   by_cases hp:0<ix l k
   · have HP:=η (show di l (k+1)=di l k+1 by simp [di,hp]);by_cases f:ix l k=1
     · have t:=η (show gN l (k+1)=gN l k+1 by simp [gN,f]);rw[f]at J ht hp;clear f;have z:decide (most<1)=false:=ξ
       go_wp2_with fail
       go_round
       case rel=>exact⟨k+1,ω,by go_num,by rw[HP.out];go_num,by rw[t.out];go_num,v⟩
       case measure=>simp [intOf];omega
     have t:=η (show gN l (k+1)=gN l k by simp [gN,f]);have u:(ix l k==1)=false:=by simpa using f
     have G:decide (ix l k<0)=false:=ξ;have z:decide (most<ix l k)=false:=ξ
     go_wp2_with fail
     go_round
     case rel=>exact⟨k+1,ω,by go_num,by rw[HP.out];go_num,by rw[t.out],v⟩
     case measure=>simp [intOf];omega
   have HP:=η (show di l (k+1)=di l k by simp [di,hp]);have f:¬ix l k=1:=ω;have t:=η (show gN l (k+1)=gN l k by simp [gN,f]);have u:(ix l k==1)=false:=by simpa using f
   have G:decide (ix l k<0)=false:=ξ;have z:decide (most<ix l k)=false:=ξ
   go_wp2_with fail
   go_round
   case rel=>exact⟨k+1,ω,by go_num,by rw[HP.out],by rw[t.out],v⟩
   case measure=>simp [intOf];omega
 obtain rfl:n=k:=ω;have m:=η (show∀j,j<l.length->0<=ix l j/\ix l j<=most by rw[<-d.out];exact D.out);obtain⟨S,E⟩ :=ν (((sumTo l n:Nat):Int):Int);have b1:(0:Int)<=S/\S<=32768*(n:Int):=by have:=wM l n;omega
 have b:=η E;clear E;by_cases I:(32768:Int)<S
 · have a:=η (lQ q.out m.out (.inl (by rw[<-d.out];have:=b.out;omega)))
   go_wp2_with (go_at_call 95;refine(qh _ _ _ _ _ _ g h).mono ?_;rintro e w' ⟨rfl,rfl⟩;rw[b.out])
   go_ret;exact⟨bZ a.out.symm,rfl⟩
 have Q:decide ((32768:Int)<S)=false:=by simpa using I
 by_cases H:S<32768
 rotate_left
 · have a:=η (oq q.out m.out (by rw[<-d.out];have:=b.out;omega))
   go_wp2_with (go_at_call 95;refine(qh _ _ _ _ _ _ g h).mono ?_;rintro e w' ⟨rfl,rfl⟩;rw[b.out])
   go_ret;exact⟨bZ a.out.symm,rfl⟩
 have x:di l n=0\/(di l n=1/\gN l n=1)\/(di l n=1/\gN l n≠1)\/2<=di l n:=ω;rcases x with hp | hp | hp | hp
 · skip
   have a:=η (oq (l:=l) (most:=most) q.out m.out (by rw[<-d.out,(qA l n).2 ω];have:=b.out;simp;omega));have y:(((di l n:Nat):Int)==0)=true:=ξ;clear hp b3 b4
   go_wp2_with (go_at_call 95;refine(qh _ _ _ _ _ _ g h).mono ?_;rintro e w' ⟨rfl,rfl⟩;rw[b.out])
   go_ret;exact⟨bZ a.out.symm,rfl⟩
 · skip
   have a:=η (oq (l:=l) (most:=most) q.out m.out (by rw[<-d.out,(qA l n).2 ω];have:=b.out;simp;omega));have y:(((di l n:Nat):Int)==0)=false:=ξ;have F:(((di l n:Nat):Int)==1)=true:=ξ;have M:(((gN l n:Nat):Int)==1)=true:=ξ;clear hp b3 b4
   go_wp2_with (go_at_call 95;refine(qh _ _ _ _ _ _ g h).mono ?_;rintro e w' ⟨rfl,rfl⟩;rw[b.out])
   go_ret;exact⟨bZ a.out.symm,rfl⟩
 · skip
   have a:=η (lQ (l:=l) (most:=most) q.out m.out (.inr (by rw[<-d.out];exact⟨τ b.out,by rw[<-Bool.not_eq_true,qA];omega⟩)));have y:(((di l n:Nat):Int)==0)=false:=ξ;have F:(((di l n:Nat):Int)==1)=true:=ξ;have M:(((gN l n:Nat):Int)==1)=false:=ξ;clear hp b3 b4
   go_wp2_with (go_at_call 95;refine(qh _ _ _ _ _ _ g h).mono ?_;rintro e w' ⟨rfl,rfl⟩;rw[b.out])
   go_ret;exact⟨bZ a.out.symm,rfl⟩
 skip
 have a:=η (lQ (l:=l) (most:=most) q.out m.out (.inr (by rw[<-d.out];exact⟨τ b.out,by rw[<-Bool.not_eq_true,qA];omega⟩)));have y:(((di l n:Nat):Int)==0)=false:=ξ;have F:(((di l n:Nat):Int)==1)=false:=ξ;clear hp b3 b4
 go_wp2_with (go_at_call 95;refine(qh _ _ _ _ _ _ g h).mono ?_;rintro e w' ⟨rfl,rfl⟩;rw[b.out])
 go_ret;exact⟨bZ a.out.symm,rfl⟩
structure HV where
 tx:Bool
 sm:Bool
 tm:Int
 fl:Int
 sy:Int
 ex:Value
 hE:Bool
 nm:ByteArray
 cm:ByteArray
 hN:Bool
 hC:Bool
def hf (h:HV):Nat->Value
 | 0=> .bool h.tx
 | 1=> .bool h.sm
 | 2=> .int .u32 h.tm
 | 3=> .int .u8 h.fl
 | 4=> .int .u8 h.sy
 | 5=>h.ex
 | 6=> .bool h.hE
 | 7=> .string h.nm
 | 8=> .string h.cm
 | 9=> .bool h.hN
 | _=> .bool h.hC
def hagg (h:HV):Value:= .agg #[.bool h.tx, .bool h.sm, .int .u32 h.tm, .int .u8 h.fl, .int .u8 h.sy,h.ex, .bool h.hE, .string h.nm, .string h.cm, .bool h.hN, .bool h.hC]
def hz:HV:= ⟨false,false,0,0,0, .slice none 0 0,false,ByteArray.empty,ByteArray.empty,false,false⟩
theorem Ar.We {w:World} {g m:Nat} {f:Nat->Value} (b:g=w.heap.size) (cs:Array Value) (t:TypeId) (a:cs.size=m) (hf:∀i,i<m->cs[i]?=some (f i)):Ar (w.alloc (.cells cs t)) g m f:=by
 subst b;exact Ar.new w cs t a hf
theorem qU {i:Nat} (h:i<11):i=0\/i=1\/i=2\/i=3\/i=4\/i=5\/i=6\/i=7\/i=8\/i=9\/i=10:=ω
theorem below_drewN {B:Nat} {w w':World} (h:Below B w w') (q:Nat):Below B w (w'.drewN q):= ⟨h.os,h.tape,h.output,h.size,h.block⟩
theorem Ar.ze {w:World} {R:Nat} {h h':HV} (b:Ar w R 11 (hf h)) {i:Nat} (hi:i<11) (v:Value) (a:∀j,j<11->upd (hf h) i v j=hf h' j):Ar (w.setCell ⟨R,i,none⟩ v) R 11 (hf h'):=(b.bK hi v).congr a
theorem gH:(Tryz.prog.info? 5).map (λi=>(i.zero,i.size,i.bytes))=some (some (.int .u8 0),1,1):=by kernel_rfl
theorem mj {l:aj} (h:∀x∈l,0<=x/\x<256) (k:Nat):∀x∈l.take k,0<=x/\x<256:=λx a=>h x (aO a)
theorem oV {l:aj} (h:∀x∈l,0<=x/\x<256) (k:Nat):∀x∈l.drop k,0<=x/\x<256:=λx a=>h x (bu a)
theorem a4O {s m x:Nat} (c:m*2 ^ s<4294967296) (h:x<4294967296) (a:m<4294967296):(x/2 ^ s)&&& m<4294967296/\(x&&& m)*2 ^ s<4294967296:=by
 have e:(x/2 ^ s)&&& m<=m:=Nat.and_le_right;have b:x&&& m<=m:=Nat.and_le_right;have d:(x&&& m)*2 ^ s<=m*2 ^ s:=eZ _ b;omega
theorem JI {s m x:Nat} (d:m*2 ^ s<4294967296) (h:x<4294967296) (a:m<4294967296):
  bits .and .u32 ((x/2 ^ s:Nat):Int) (m:Int)=(((x/2 ^ s)&&& m:Nat):Int)/\bits .and .u32 (x:Int) (m:Int)=((x&&& m:Nat):Int)/\
  IntKind.u32.wrap (((x&&& m:Nat):Int)*((2 ^ s:Nat):Int))=(((x&&& m)*2 ^ s:Nat):Int)/\bits .or .u32 (((x/2 ^ s)&&& m:Nat):Int) (((x&&& m)*2 ^ s:Nat):Int)=(Ed s m x:Int)/\Ed s m x<4294967296:=by
 obtain⟨c,b⟩ :=a4O d h a;have hd:x/2 ^ s<4294967296:=Nat.lt_of_le_of_lt (Nat.div_le_self _ _) h;refine⟨u32_and_nat _ _ hd a,u32_and_nat _ _ h a, ?_, ?_, ?_⟩
 · rw[ft,<-eV];omega
 · rw[u32_or_nat _ _ c b];unfold Ed;rw[eQ,Nat.shiftLeft_eq]
 unfold Ed;rw[eQ,Nat.shiftLeft_eq];exact Nat.or_lt_two_pow (n:=32) c b
theorem FX (w:World) (x:Nat) (h:x<4294967296):Calls Tryz.prog 159 #[.int .u32 x] w λe w'=>e= .returned (.int .u32 (((Ed 8 16711935 x >>> 16)||| ((Ed 8 16711935 x <<< 16)%4294967296):Nat):Int))/\w=w':=by
 obtain⟨c,i,b,a,v⟩ :=JI (s:=8) (m:=16711935) (x:=x) δ h δ;obtain⟨y,g⟩ :=ν (Ed 8 16711935 x);have t:(x:Int)/256=((x/2 ^ 8:Nat):Int):=ω;obtain⟨p,hp⟩ :=ν (x/2 ^ 8);rw[hp]at t c a;obtain⟨q,l⟩ :=ν (p&&& 16711935);obtain⟨r,k⟩ :=ν (x&&& 16711935);rw[l]at c a;rw[k]at i b a;obtain⟨u,j⟩ :=ν (r*2 ^ 8);rw[j]at b a;rw[g]at a v;have c1:bits .and .u32 (p:Int) 16711935=(q:Int):=c;have c2:bits .and .u32 (x:Int) 16711935=(r:Int):=i;have C:((r:Int)*256)%4294967296=(u:Int):=by rw[<-b,ft];rfl
 have B:bits .or .u32 (q:Int) (u:Int)=(y:Int):=a;have d1:(y:Int)/65536=((y/65536:Nat):Int):=ω;have d2:((y:Int)*65536)%4294967296=((y*65536%4294967296:Nat):Int):=ω;have d3:bits .or .u32 ((y/65536:Nat):Int) ((y*65536%4294967296:Nat):Int)=((y/65536||| y*65536%4294967296:Nat):Int):=u32_or_nat _ _ ω ω;obtain⟨d,hd⟩ :=ν (y/65536);obtain⟨f,hf⟩ :=ν (y*65536%4294967296);rw[hd]at d1 d3;rw[hf]at d2 d3;obtain⟨z,hz⟩ :=ν (d||| f);rw[hz]at d3
 have A:Hid (((y >>> 16)||| ((y <<< 16)%4294967296))=z):=by
  show _=_;rw[eQ,Nat.shiftLeft_eq,<-hz,<-hd,<-hf]
 rw[g];have o:(0:Int)<=x/\(x:Int)<4294967296:=ω;have n:(0:Int)<=y/\(y:Int)<4294967296:=ω;clear c i b a g hp l k j hd hf hz;go_enter Tryz.func159,Tryz.ntmps159;go_wp2;go_ret;exact⟨bZ (by rw[A.out]),rfl⟩
theorem xZ (s m x:Nat) (P M:Int) (b:P=((2 ^ s:Nat):Int)) (c:M=(m:Int)) (d:m*2 ^ s<4294967296) (h:x<4294967296) (a:m<4294967296):
  ∃p q r u:Nat,(x:Int)/P=(p:Int)/\bits .and .u32 (p:Int) M=(q:Int)/\bits .and .u32 (x:Int) M=(r:Int)/\((r:Int)*P)%4294967296=(u:Int)/\bits .or .u32 (q:Int) (u:Int)=(Ed s m x:Int)/\Ed s m x<4294967296:=by
 obtain⟨j,i,g,f,e⟩ :=JI d h a;refine⟨x/2 ^ s,(x/2 ^ s)&&& m,x&&& m,(x&&& m)*2 ^ s, ?_,by rw[c];exact j,by rw[c];exact i, ?_,f,e⟩
 · rw[b];simp
 rw[b,<-g,ft]
theorem Re (w:World) (x:Nat) (h:x<4294967296):Calls Tryz.prog 152 #[.int .u32 x] w λe w'=>e= .returned (.int .u32 (rQ x:Int))/\w=w':=by
 obtain⟨p1,q1,q,u1,z,y,v,u,m,k⟩ :=xZ 1 1431655765 x 2 1431655765 rfl rfl δ h δ;obtain⟨g,c⟩ :=ν (Ed 1 1431655765 x);rw[c]at m k;obtain⟨p2,q2,p,u2,b1,b2,b3,b4,b5,j⟩ :=xZ 2 858993459 g 4 858993459 rfl rfl δ k δ;obtain⟨f,b⟩ :=ν (Ed 2 858993459 g);rw[b]at b5 j;obtain⟨p3,q3,o,u3,c1,c2,t,s,l,i⟩ :=xZ 4 252645135 f 16 252645135 rfl rfl δ j δ;obtain⟨d,a⟩ :=ν (Ed 4 252645135 f);rw[a]at l i
 have n:Hid (rQ x=(Ed 8 16711935 d >>> 16)||| ((Ed 8 16711935 d <<< 16)%4294967296)):=by
  show _=_;unfold rQ;rw[c,b,a]
 have r:(0:Int)<=x/\(0:Int)<=g/\(0:Int)<=f/\(0:Int)<=d:=ω;clear c b a;go_enter Tryz.func152,Tryz.ntmps152
 go_wp2_with fail;refine(FX _ d i).mono ?_;rintro e w' ⟨rfl,rfl⟩;go_wp2;go_ret;exact⟨bZ (by rw[n.out]),rfl⟩
theorem MD (w:World) (V:Int) (N:Nat) (f:0<=V/\V<4294967296) (h:1<=(N:Int)/\(N:Int)<=32):Calls Tryz.prog 133 #[.int .u32 V, .int .i64 N] w λe w'=>e= .returned (.int .u32 (Jo V N))/\w=w':=by
 obtain⟨x,rfl⟩ :=aJ f.1;have c:x<4294967296:=ω;have hN:¬(N:Int)<1/\¬32<(N:Int):=ω;obtain⟨M,d⟩ :=ν (32-N:Nat);have g:(32:Int)-(N:Int)=(M:Int):=ω;have a:=a4K x N c ω;rw[d]at a;obtain⟨y,b⟩ :=ν (rQ x);rw[b]at a;have i:(y:Int)/2 ^ M=((y/2 ^ M:Nat):Int):=by rw[<-ll];simp
 have l:=η a;have k:=η b;have m:(0:Int)<=M:=ω;obtain⟨z,hz⟩ :=ν (y/2 ^ M);rw[hz]at i;have j:=η hz;clear a b d hz;go_enter Tryz.func133,Tryz.ntmps133
 go_wp2_with fail;refine(Re _ x c).mono ?_;rintro e w' ⟨rfl,rfl⟩;rw[k.out];go_wp2;go_ret;exact⟨bZ (by rw[l.out,j.out]),rfl⟩
end Go.Proofs.YtdhmnlpfhfmpfaaGreat
