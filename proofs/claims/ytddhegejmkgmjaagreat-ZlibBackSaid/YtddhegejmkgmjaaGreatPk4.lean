/-
  part
-/
import Derived.Test.YtddhegejmkgmjaaGreatProg
import Derived.Test.YtddhegejmkgmjaaGreatPk3
set_option linter.unusedVariables false
set_option maxRecDepth 100000
set_option maxHeartbeats 4000000
namespace Go.Proofs.YtddhegejmkgmjaaGreat
open Go.RowKit
theorem gp (a:Addr) (m j:Nat) (c:0<j):a.add (m+j)= ⟨(a.add m).block,(a.add m).off+j,none⟩ :=by
 unfold Addr.add;rw[if_neg ξ];by_cases b:m=0
 · subst b;simp
 · simp [b,Nat.add_assoc]
def bq (l:List aF) (i:Nat):aF:=l.getD i ⟨0,0,0⟩
def ig (w:World) (B:Nat) (A:Option Addr) (n:Nat) (l:List aF):Prop:=
 n=l.length/\(0<n->∃a,A=some a/\a.block<B/\∀i,i<n->w.cell? (a.add (i*3))=some (.int .u8 (bq l i).lit)/\w.cell? (a.add (i*3+1))=some (.int .i64 (bq l i).len)/\w.cell? (a.add (i*3+2))=some (.int .i64 (bq l i).ak))
theorem ig.bu {l:List aF} {n k:Nat} (a:n=l.length) (b:k<n):l.drop k=bq l k::l.drop (k+1):=by
 rw[List.drop_eq_getElem_cons ω];simp [bq,List.getD_eq_getElem?_getD,show k<l.length by omega]
def tf (L N D:Int):Nat->Value
 | 0=> .int .u8 L
 | 1=> .int .i64 N
 | _=> .int .i64 D
theorem vO (w:World) (L N D:Int) (t:TypeId):Ar (w.alloc (.cells #[.int .u8 L, .int .i64 N, .int .i64 D] t)) w.heap.size 3 (tf L N D):=
 Ar.new w _ t rfl λi hi=>by
  obtain rfl | rfl | rfl:i=0\/i=1\/i=2:=ω
  · rfl
  · rfl
  · rfl
def lW (L n d:Int):Bool:=if n=0 then decide (d=0)else decide (L=0/\3<=n/\n<=258/\1<=d/\d<=32768)
theorem DJ {L n d:Int} (h:n=0):lW L n d=decide (d=0):=by unfold lW;rw[if_pos h]
theorem B5 {L n d:Int} (h:¬n=0):lW L n d=decide (L=0/\3<=n/\n<=258/\1<=d/\d<=32768):=by unfold lW;rw[if_neg h]
theorem vJ (L N D:Int):lW L N D=decide (aH ⟨L,N,D⟩):=by
 unfold lW aH;by_cases h:N=0
 · simp [h]
 · simp [h]
theorem iH (out:List Int) (a b:List aF):expand out (a++b)=if(expand out a).1=0 then expand (expand out a).2 b else expand out a:=by
 induction a generalizing out with
 | nil=>rfl
 | cons t a c=>
   rw[List.cons_append,eY,eY];by_cases h:(step out t).1=0
   · rw[if_pos h,if_pos h,c]
   · rw[if_neg h,if_neg h,if_neg h]
theorem T8 {out:List Int} {t:aF} (h:(step out t).1=0):∃z,(step out t).2=out++z:=by
 unfold step at h⊢
 split
 · rename_i b;rw[if_pos b]at h;simp at h
 · rename_i b
   rw[if_neg b]at h
   split
   · rename_i a;rw[if_pos a]at h;simp at h
   · rename_i a
     rw[if_neg a]at h
     split
     · exact⟨_,rfl⟩
     · rename_i c
       rw[if_neg c]at h
       split
       · rename_i h4;rw[if_pos h4]at h;simp at h
       · exact⟨_,rfl⟩
theorem nU {out:List Int} {l:List aF} (h:(expand out l).1=0):∃z,(expand out l).2=out++z:=by
 induction l generalizing out with
 | nil=>exact⟨[],by simp [expand]⟩
 | cons t l b=>
   rw[eY]at h⊢;by_cases a:(step out t).1=0
   · rw[if_pos a]at h⊢;obtain⟨z,c⟩ :=b h;obtain⟨y,d⟩ :=T8 a;exact⟨y++z,by rw[c,d,List.append_assoc]⟩
   · rw[if_neg a]at h;exact absurd h a
theorem ig.below {w w':World} {B n:Nat} {A:Option Addr} {l:List aF} (h:ig w B A n l) (b:Below B w w'):ig w' B A n l:= ⟨h.1,λd=>by
 obtain⟨f,e,a,c⟩ :=h.2 d
 exact⟨f,e,a,λi hi=>by
  obtain⟨c0,c1,c2⟩ :=c i hi;exact⟨(b.cell (by rw[aw];exact a)).trans c0,(b.cell (by rw[aw];exact a)).trans c1,(b.cell (by rw[aw];exact a)).trans c2⟩⟩⟩
theorem ig.more {w:World} {B B' n:Nat} {A:Option Addr} {l:List aF} (h:ig w B A n l) (d:B<=B'):ig w B' A n l:= ⟨h.1,λb=>by
 obtain⟨c,e,f,a⟩ :=h.2 b;exact⟨c,e,ω,a⟩⟩
def pE (l:List aF) (i:Nat):Value:=tf (bq l (i/3)).lit (bq l (i/3)).len (bq l (i/3)).ak (i%3)
theorem PK (l:List aF) (i:Nat):pE l (i*3)= .int .u8 (bq l i).lit:=by unfold pE;rw[show i*3/3=i by omega,show i*3%3=0 by omega];rfl
theorem PL (l:List aF) (i:Nat):pE l (i*3+1)= .int .i64 (bq l i).len:=by unfold pE;rw[show(i*3+1)/3=i by omega,show(i*3+1)%3=1 by omega];rfl
theorem PM (l:List aF) (i:Nat):pE l (i*3+2)= .int .i64 (bq l i).ak:=by unfold pE;rw[show(i*3+2)/3=i by omega,show(i*3+2)%3=2 by omega];rfl
theorem E8 (l:List aF) (i:Nat):(pE l i).oneCell'=true:=by
 unfold pE tf
 split <;> rfl
theorem ig.a2I {w:World} {B n:Nat} {A:Option Addr} {l:List aF} (b:n=l.length) (h:Rd w B A (n*3) (pE l)):ig w B A n l:= ⟨b,λf=>by
 obtain⟨d,e,c,a⟩ :=h ω;exact⟨d,e,c,λi hi=> ⟨by rw[a _ ω,PK],by rw[a _ ω,PL],by rw[a _ ω,PM]⟩⟩⟩
theorem ig.rd {w:World} {B n:Nat} {A:Option Addr} {l:List aF} (h:ig w B A n l):Rd w B A (n*3) (pE l):=λd=>by
 obtain⟨c,e,b,a⟩ :=h.2 ω;refine⟨c,e,b,λi hi=> ?_⟩;obtain⟨c0,c1,c2⟩ :=a (i/3) ω;obtain h | h | h:i=i/3*3\/i=i/3*3+1\/i=i/3*3+2:=ω
 · rw[h,PK];exact c0
 · rw[h,PL];exact c1
 · rw[h,PM];exact c2
theorem Bb (l l':List aF) (i:Nat):bq (l++l') i=if i<l.length then bq l i else bq l' (i-l.length):=by
 unfold bq;simp only [List.getD_eq_getElem?_getD]
 split
 · rw[List.getElem?_append_left (by assumption)]
 · rw[List.getElem?_append_right ω]
theorem E6 (l l':List aF) (i:Nat):cat (l.length*3) (pE l) (pE l') i=pE (l++l') i:=by
 unfold cat pE;rw[Bb];by_cases h:i<l.length*3
 · rw[if_pos h,if_pos ω]
 · rw[if_neg h,if_neg ω,show(i-l.length*3)/3=i/3-l.length by omega,show(i-l.length*3)%3=i%3 by omega]
def fl (w:World) (b0:Nat) (A:Option Addr) (n c:Nat) (l:List aF):Prop:=n=l.length/\Own w b0 90 3 A n c (pE l)
theorem fl.rd {w:World} {b0 n c:Nat} {A:Option Addr} {l:List aF} (h:fl w b0 A n c l):ig w w.heap.size A n l:=ig.a2I h.1 h.2.rd
theorem fl.a5w (w:World) (b0:Nat) (a:b0<=w.heap.size):fl (w.alloc (.cells #[] 90)) b0 (some ⟨w.heap.size,0,none⟩) 0 0 []:=
 ⟨rfl,Own.lit rfl #[] _ a σ σ (λi hi=>ω)⟩
theorem yC:(Tryz.prog.info? 90).map (λi=>(i.zero,i.size,i.bytes))=some (some (.agg #[.int .u8 0, .int .i64 0, .int .i64 0]),3,24):=by kernel_rfl
section
variable {w:World}
theorem iT {d:Array Oper} {rest:List Oper} {o:Oper} {a:Act} {Q:Exit->Act->World->Prop} (b0:Nat) (i:TypeInfo) (p:Region.wanted o (yielded d a.tmps)=true) (s x:Operand)
  (z:o.op= .call { callee:= .builtin .append,args:= #[s,x],argTypes:= #[53, 53] }) (hi:Tryz.prog.info? 90 =some i) (u:i.zero=some (.agg #[.int .u8 0, .int .i64 0, .int .i64 0]))
  (e:i.size=3) (q:i.bytes=24) {A:Option Addr} {n c:Nat} {l:List aF} (y:a.eval s= .slice A n c) (b:fl w b0 A n c l)
  {B:Nat} {A':Option Addr} {m c':Nat} {l':List aF} (v:a.eval x= .slice A' m c') (t:ig w B A' m l')
  (r:n+m<=1000000000000) (f:b0<=w.heap.size)
  (h:∀g c2 w2,fl w2 b0 g (n+m) c2 (l++l')->w.grownBy w2 (aa A)->(aa g=aa A\/aa g=some w.heap.size)->wpList Tryz.prog d Q rest (a.put o.dst (.slice g (n+m) c2)) w2):wpList Tryz.prog d Q (o::rest) a w:=by
 refine wpList_step λK C=> ?_
 rw[if_pos p];obtain⟨g,c2,w2,k,E,D,h4⟩ :=fj (P:=Tryz.prog) w b0 53 o.type 90 i _ 3 24 Tryz.underlying53 hi u e q rfl ω A n c _ b.2 B A' m c' _ t.rd (λj _=>E8 l' j) r ω f;unfold Oper.wp execOp;simp only [z,resolve,invoke,builtin,Sem.run_bind,Sem.run_pure,Result.andThen_ok,List.map_toArray,List.map_cons,List.map_nil,y,v,k];exact C _ _ (h g c2 w2 ⟨by rw[List.length_append,<-b.1,<-t.1],E.congr λj F=>by rw[b.1,E6]⟩ D h4)
end
open Go
theorem Rm {a b:List Int} (d:a.length=b.length) (h:∀i,i<a.length->ix a i=ix b i):a=b:=by
 apply List.ext_getElem d
 intro i c e;have:=h i c
 simpa [ix,c,e] using this
theorem tK (l:List Int) {n i:Nat} (h:i<n):ix (l.take n) i=ix l i:=by
 unfold ix;simp only [List.getD_eq_getElem?_getD,List.getElem?_take,if_pos h]
theorem Md {D:List Int} {at_ N d:Nat} (g:1<=d) (f:d<=at_) (e:at_+N<=D.length) (h:∀i,i<N->ix D (at_-d+i)=ix D (at_+i)):D.take at_++again (D.take at_) d N=D.take (at_+N):=by
 have c:(D.take at_).length=at_:=ξ
 have b:∀i,i<N->ix D (at_+i)=ix D (at_-d+i%d):=by
  intro i
  induction i using Nat.strongRecOn with
  | _ i ih=>
    intro hi;by_cases hd:i<d
    · rw[Nat.mod_eq_of_lt hd,h i hi]
    · have h4:=ih (i-d) ω ω;have h5:=h i hi;rw[show at_-d+i=at_+(i-d) by omega,h4,<-Nat.mod_eq_sub_mod ω]at h5;exact h5.symm
 apply Rm
 · simp [aJ];omega
 · intro i hi;rw[List.length_append,aJ,c]at hi;rw[aL,c];by_cases a:i<at_
   · rw[if_pos a,tK _ a,tK _ ω]
   · rw[if_neg a,CT _ _ _ ω,c,tK _ (by have:=Nat.mod_lt (i-at_) (show 0<d by omega);omega),tK _ ω];have:=b (i-at_) ω;rw[show at_+(i-at_)=i by omega]at this;exact this.symm
theorem take_one (D:List Int) {n:Nat} (h:n<D.length):D.take n++[ix D n]=D.take (n+1):=by
 rw[List.take_succ_eq_append_getElem h];simp [ix,h]
theorem Kq {e:jY} {st:ed} (h:st.Ok st.at_) (a:st.at_<st.D.length) (t:st.D.length<=16777216):step (st.D.take st.at_) (cy e st).1=(0,st.D.take (cy e st).2.at_):=by
 obtain⟨N,w,v,l, -, -,h6, -,h7⟩ :=jX (e:=e) h a;have c:(st.D.take st.at_).length=st.at_:=ξ;rw[h6];rcases h7 with ⟨ht,rfl⟩ | ⟨d,ht,k, -,u⟩
 · rw[ht];unfold step mj;have b:aH ⟨ix st.D st.at_,0,0⟩ :=by unfold aH;simp
   rw[if_neg (by simpa using b),c,if_neg (by simp only;omega),if_pos rfl];simp only;rw[take_one _ a]
 · rw[ht];rcases k with ⟨j, -⟩ | ⟨p,o,n,i,m,g,f⟩
   · simp only at j;omega
   · simp only at p o n i m g f;unfold step;have b:aH ⟨0,N,d⟩ :=by unfold aH;rw[if_neg (show¬(N:Int)=0 by omega)];exact⟨rfl,show(3:Int)<=N by omega,show(N:Int)<=258 by omega,show(1:Int)<=d by omega,show(d:Int)<=32768 by omega⟩
     have s:¬(16777216<((st.at_:Nat):Int)+max (N:Int) 1):=ω;have r:¬((N:Int)=0):=ω;have q:¬(((st.at_:Nat):Int)<(d:Int)):=ω;rw[if_neg (by simpa using b),c];simp only [if_neg s,if_neg r,if_neg q,Int.toNat_natCast];rw[Md i g l f]
theorem GG {e:jY} {left:Nat} {st st':ed} {l:List aF} (h:tA e left st l st') (g:st.Ok st.at_) (i:st.D.length<=16777216) (out:List Int) (pre:List aF) (hp:expand [] pre=(0,st.D.take st.at_)):expand [] (pre++l)=(0,st'.D.take st'.at_):=by
 induction h with
 | nil=>rw[List.append_nil];exact hp
 | snoc j r c=>
   obtain⟨a,d,q,p⟩ :=B4 j g;have f:=Kq (e:=e) a ω (by rw[d];exact i);obtain⟨N,o, -, -,n,b,m,k, -⟩ :=jX (e:=e) a ω;rw[<-List.append_assoc,iH,c];simp only [if_pos];rw[eY,f];simp only [if_pos];rw[b];rfl
theorem tA.a06 {e:jY} {left:Nat} {st st':ed} {l:List aF} (h:left<st.D.length-st.at_) (b:tA e left (cy e st).2 l st'):tA e left st ((cy e st).1::l) st':=by
 induction b with
 | nil=>exact tA.snoc (tA.nil st) h
 | snoc d c a=>exact tA.snoc (l:=(cy e st).1::_) a c
theorem tA.inv {e:jY} {left:Nat} {st st':ed} {l:List aF} (h:tA e left st l st'):(l=[]/\st'=st)\/∃a,left<st.D.length-st.at_/\l=(cy e st).1::a/\tA e left (cy e st).2 a st':=by
 induction h with
 | nil=>exact .inl ⟨rfl,rfl⟩
 | snoc f b c=>
   rcases c with ⟨rfl,rfl⟩ | ⟨a,d,rfl,h5⟩
   · exact .inr ⟨[],b,rfl, .nil _⟩
   · exact .inr ⟨_,d,rfl,tA.snoc h5 b⟩
section
variable {P:Program} (t e:TypeId) (ht:P.underlying t=some (.slice e)) {i:TypeInfo} (hi:P.info? e=some i)
include ht hi
theorem oJ (A:Option Addr) (n c:Nat) {j:Nat} (b:j<=c) (W:World):
  (Instr.slice t (.slice A n c) none (some (.int .i64 (j:Int))) (some (.int .i64 (j:Int)))).run P W= .ok (.slice A j j) W:=by
 have a:P.elem t=e:=by simp [Program.elem,ht]
 rw[run_slice_hm W t A n c (by rw[a];exact ht) .i64 .i64 j j ω ω ω,a];simp [sizeOf,typeInfo,hi,sliced]
 cases A <;> simp [Addr.add]
theorem tz {a:Nat} (d:i.size=a) (A:Option Addr) (n c:Nat) {j:Nat} (f:j<=n) (W:World):
  (Instr.slice t (.slice A n c) (some (.int .i64 (j:Int))) none none).run P W= .ok (.slice (if c=j then A else A.map (·.add (j*a))) (n-j) (c-j)) W:=by
 have b:P.elem t=e:=by simp [Program.elem,ht]
 rw[run_slice_l W t A n c (by rw[b];exact ht) .i64 j ω ω,b];simp [sizeOf,typeInfo,hi,d,sliced]
end
theorem ig.pre {w:World} {B n:Nat} {A:Option Addr} {l:List aF} (h:ig w B A n l) {j:Nat} (d:j<=n):ig w B A j (l.take j):=by
 refine⟨by rw[List.length_take,<-h.1];omega,λf=> ?_⟩;obtain⟨c,e,b,a⟩ :=h.2 ω;refine⟨c,e,b,λi hi=> ?_⟩;have ht:bq (l.take j) i=bq l i:=by unfold bq;simp [List.getD_eq_getElem?_getD,hi]
 rw[ht];exact a i ω
theorem ig.from_ {w:World} {B n c:Nat} {A:Option Addr} {l:List aF} (h:ig w B A n l) {j:Nat} (f:j<=n) (g:n<=c):ig w B (if c=j then A else A.map (·.add (j*3))) (n-j) (l.drop j):=by
 refine⟨by rw[List.length_drop,<-h.1],λk=> ?_⟩;obtain⟨d,rfl,e,a⟩ :=h.2 ω;rw[if_neg ω];refine⟨_,rfl,by rw[aw];exact e,λi hi=> ?_⟩;have ht:bq (l.drop j) i=bq l (j+i):=by unfold bq;simp [List.getD_eq_getElem?_getD,List.getElem?_drop]
 rw[ht];have b:∀q:Nat,(d.add (j*3)).add q=d.add (j*3+q):=λq=>by unfold Addr.add;split <;> split <;> simp_all <;> omega
 have:=a (j+i) ω;rw[b,b,b,<-Nat.add_assoc,<-Nat.add_assoc,<-Nat.add_mul];exact this
theorem vS:(Tryz.prog.info? 5).map (λi=>(i.zero,i.size,i.bytes))=some (some (.int .u8 0),1,1):=by kernel_rfl
structure tB (w:World) (b0 g:Nat) (A:Option Addr) (n c:Nat) (l:List Int):Prop where
 cell:Ar w g 1 (λ_=> .slice A n c)
 lo:b0<=g
 own:ag .u8 w b0 5 A n c l
 apart:aa A≠some g
 len:l.length<=65536
theorem tB.iQ {w:World} {b0 g n c:Nat} {A:Option Addr} {l:List Int} (h:tB w b0 g A n c l):n=l.length:=h.own.1
theorem tB.cv {w w':World} {b0 g n c:Nat} {A:Option Addr} {l:List Int} {S:Nat->Prop} (h:tB w b0 g A n c l) (a:aq w w' S) (b:∀k,foot A g k->¬S k):tB w' b0 g A n c l:=
 ⟨a.ar h.cell (b g (.inl rfl)),h.lo,a.bf h.own λq d=>b q (.inr d),h.apart,h.len⟩
theorem tB.keeps {w w':World} {b0 g n c:Nat} {A:Option Addr} {l:List Int} (h:tB w b0 g A n c l) (a:Below w.heap.size w w'):tB w' b0 g A n c l:=
 h.cv (S:=λ_=>False) (aq.aB a) λ_ _=>id
theorem tB.bH {w:World} {b0 g n c:Nat} {A:Option Addr} {l:List Int} (h:tB w b0 g A n c l) {k:Nat} (a:foot A g k):b0<=k/\k<w.heap.size:=by
 rcases a with rfl | a
 · exact⟨h.lo,h.cell.lt⟩
 · exact h.own.2.lt a
theorem GX (w:World):Calls Tryz.prog 79 #[] w λe w'=>∃g,e= .returned (.pointer (some ⟨g,0,none⟩))/\tB w' w.heap.size g none 0 0 []/\Below w.heap.size w w':=by
 go_enter Tryz.func79,Tryz.ntmps79
 go_wp2
 go_ret
 have hA:Ar (w.alloc (.cells #[.slice none 0 0] 148)) w.heap.size 1 (λ_=> .slice none 0 0):=
  Ar.new w #[.slice none 0 0] _ rfl λi hi=>by
   obtain rfl:i=0:=ω;rfl
 exact⟨w.heap.size,rfl, ⟨hA,Nat.le_refl _,ag.br,by simp [aa],σ⟩,(Below.refl _ _).alloc (Nat.le_refl _) _⟩
theorem vT (w:World) (b0 g n c:Nat) (A:Option Addr) (l:List Int) (a:tB w b0 g A n c l):
  Calls Tryz.prog 135 #[.pointer (some ⟨g,0,none⟩)] w λe w'=>e= .returned (.int .i64 ((min n 32768:Nat):Int))/\w=w':=by
 have c0:=a.cell.cell (i:=0) ω;have d:(n:Int)<=65536:=by have:=a.len;have:=a.iQ;omega
 by_cases h:(n:Int)<=32768
 · have e:Hid (((min n 32768:Nat):Int)=(n:Int)):=by show _=_;omega
   have b:¬(32768:Int)<n:=ω;go_enter Tryz.func135,Tryz.ntmps135
   go_wp2
   go_ret
   exact⟨aK e.out.symm,rfl⟩
 · have e:Hid (((min n 32768:Nat):Int)=32768):=by show _=_;omega
   have b:(32768:Int)<n:=ω;go_enter Tryz.func135,Tryz.ntmps135
   go_wp2
   go_ret
   exact⟨aK e.out.symm,rfl⟩
def yE (w:World) (b0 g:Nat) (A:Option Addr) (l b:List Int) (e:Ending) (w':World):Prop:=
 ∃A' n' c',e= .returned (.tuple #[])/\tB w' b0 g A' n' c' (u9 l b)/\aq w w' (foot A g)/\(∀k,aa A'=some k->aa A=some k\/w.heap.size<=k)
theorem pH (w:World) (b0 g n c B m d:Nat) (A C:Option Addr) (l b:List Int) (a:tB w b0 g A n c l) (M:aT .u8 w B C m b) (hB:B<=w.heap.size) (hm:(m:Int)<=1000000):
  Calls Tryz.prog 121 #[.pointer (some ⟨g,0,none⟩), .slice C m d] w (yE w b0 g A l b):=by
 have c0:=a.cell.cell (i:=0) ω;have z0:=a.cell.frozen' (i:=0) ω;have Z:=a.cell.lt;have u:b0<=w.heap.size:=Nat.le_trans a.lo (Nat.le_of_lt Z);have hn:(n:Int)<=65536:=by have:=a.len;have:=a.iQ;omega
 obtain⟨L,hi,D,z,y⟩ :=info_parts vS;have Hi:=η hi;have T:=η D;have S:=η z;have R:=η y;clear hi D z y;have N:l.length+b.length=n+m:=by rw[a.iQ,M.1]
 by_cases eK:(65536:Int)<(n:Int)+(m:Int)
 · go_enter Tryz.func121,Tryz.ntmps121
   go_wp2_with (first
    | (at_builtin;(refine au .u8 b0 5 L 1 rfl (.tmp 11) (.tmp 12) _ rfl Tryz.underlying26 Hi.out T.out S.out R.out rfl a.own rfl M ω ω u ?_)
       intro H c2 w2 f t v;have q:=a.cell.grown t (λe=>a.apart e.symm);have Q:=q.cell (i:=0) ω;have I:=q.frozen' (i:=0) ω;obtain⟨G,rfl⟩ :=f.2.addr ω;have WQ:g<w2.heap.size:=q.lt;have E:=(q.aQ (i:=0) ω (.slice (some ⟨G,0,none⟩) (n+m) c2)).alloc (.cells #[] 5);have P:=E.cell (i:=0) ω;rw[upd_same]at P;have df:=f.2.fD
       have F:aa (some (⟨G,0,none⟩ :Addr))≠some g:=by
        rcases v with e | e
        · rw[e];exact a.apart
        · rw[e];simp;omega
       have K:=(f.far (p:= ⟨g,0,none⟩) F (.slice (some ⟨G,0,none⟩) (n+m) c2)).alloc (.cells #[] 5);have J:=(K.rd.cut (j:=n+m-32768) ω (A':=some ⟨G,n+m-32768,none⟩) (λ_=>by rw[Option.map_some,kA])))
    | (at_builtin;(refine au .u8 w2.heap.size 5 L 1 rfl (.tmp 24) (.tmp 31) _ rfl Tryz.underlying26 Hi.out T.out S.out R.out rfl (ag.lit (by simp [World.setCell]) [] _ (by simp [World.setCell]) σ) rfl J ω ω (by simp [World.setCell]) ?_)
       intro X c5 w5 U V eJ;rw[Nat.zero_add,List.nil_append]at U;have x:=E.grown V (by simp [aa];omega);have ab:=x.cell (i:=0) ω;have Y:=x.frozen' (i:=0) ω))
   go_end0
   unfold yE;have r:=t.size;have s:65536<(l++b).length:=by rw[List.length_append,N];omega
   have O:u9 l b=(l++b).drop (n+m-32768):=by unfold u9;rw[if_pos s,List.length_append,N]
   have qO:∀k,aa X=some k->w2.heap.size<=k:=by
    intro k o;rcases eJ with e | e
    · rw[e]at o;simp [aa]at o;omega
    · rw[e]at o;simp [World.setCell]at o;omega
   refine⟨X,n+m-(n+m-32768),c5,rfl, ⟨(x.aQ (i:=0) ω _).congr λi hi=> ?_,a.lo, ?_, ?_,Hq l b⟩, ?_,λk o=> .inr (Nat.le_trans r (qO k o))⟩
   · obtain rfl:i=0:=ω;rw[upd_same]
   · rw[O];exact(U.more (Nat.le_trans u r)).far (p:= ⟨g,0,none⟩) (λh=>by have:=qO g h;omega) _
   · exact λh=>by have:=qO g h;omega
   · exact((((aq.refl w _).grown t λk o=> .inl (.inr o)).setCell (p:= ⟨g,0,none⟩) (.inl (.inl rfl)) _).alloc _).grown V (λk o=>by simp [aa]at o;exact .inr ω) |>.setCell (p:= ⟨g,0,none⟩) (.inl (.inl rfl)) _
 · go_enter Tryz.func121,Tryz.ntmps121
   go_wp2_with (at_builtin;(refine au .u8 b0 5 L 1 rfl (.tmp 11) (.tmp 12) _ rfl Tryz.underlying26 Hi.out T.out S.out R.out rfl a.own rfl M ω ω u ?_)
                intro H c2 w2 f t v;have q:=a.cell.grown t (λe=>a.apart e.symm);have Q:=q.cell (i:=0) ω;have I:=q.frozen' (i:=0) ω)
   go_end0
   unfold yE;have r:=t.size;have s:¬65536<(l++b).length:=by rw[List.length_append,N];omega
   have O:u9 l b=l++b:=by unfold u9;rw[if_neg s]
   have oT:∀k,aa H=some k->aa A=some k\/w.heap.size<=k:=by
    intro k o;rcases v with e | e
    · rw[e]at o;exact .inl o
    · rw[e]at o;simp at o;exact .inr ω
   have F:aa H≠some g:=λh=>by
    rcases oT g h with W | W
    · exact a.apart W
    · omega
   refine⟨H,n+m,c2,rfl, ⟨(q.aQ (i:=0) ω _).congr λi hi=> ?_,a.lo, ?_,F,Hq l b⟩, ?_,oT⟩
   · obtain rfl:i=0:=ω;rw[upd_same]
   · rw[O];exact f.far (p:= ⟨g,0,none⟩) F _
   · exact((aq.refl w _).grown t λk o=> .inl (.inr o)).setCell (p:= ⟨g,0,none⟩) (.inl (.inl rfl)) _
def Hz (l:List Int) (D N:Nat):List Int:=(List.range N).map λi=>ix l (l.length-D+i%D)
theorem ui (l:List Int) (D N:Nat):(Hz l D N).length=N:=by simp [Hz]
theorem XN (l:List Int) (D N:Nat) {i:Nat} (h:i<N):ix (Hz l D N) i=ix l (l.length-D+i%D):=by simp [ix,Hz,h]
def Re (l:List Int) (D k i:Nat):Value:= .int .u8 (if i<k then ix l (l.length-D+i%D)else 0)
theorem Mv (l:List Int) (D i:Nat):Value.int .u8 0=Re l D 0 i:=by unfold Re;rw[if_neg (Nat.not_lt_zero _)]
theorem F8 (l:List Int) (D:Nat) {k i:Nat} (h:i<k):Re l D k i= .int .u8 (ix l (l.length-D+i%D)):=by unfold Re;rw[if_pos h]
theorem I0 (l:List Int) (D k:Nat) (v:Int) (hv:v=ix l (l.length-D+k%D)) (j:Nat):upd (Re l D k) k (.int .u8 v) j=Re l D (k+1) j:=by
 by_cases a:j=k
 · subst a;rw[upd_same,F8 _ _ ω,hv]
 · rw[bm _ _ a];unfold Re;congr 1;by_cases h:j<k
   · rw[if_pos h,if_pos ω]
   · rw[if_neg h,if_neg ω]
theorem Jr (w:World) (b0 g n c:Nat) (A:Option Addr) (l:List Int) (b:tB w b0 g A n c l) (N D:Int) (f:1<=N/\N<=258) (hD:D<1\/((min n 32768:Nat):Int)<D):
  Calls Tryz.prog 126 #[.pointer (some ⟨g,0,none⟩), .int .i64 N, .int .i64 D] w λe w'=>e= .returned (.tuple #[.slice none 0 0, .int .i64 3])/\w=w':=by
 have h:D<1\/(¬D<1/\((min n 32768:Nat):Int)<D):=ω;clear hD;rcases h with h | ⟨i,h⟩
 · go_enter Tryz.func126,Tryz.ntmps126
   go_wp2
   go_ret2
   exact⟨rfl,rfl⟩
 · obtain⟨q,a⟩ :=ν (((min n 32768:Nat):Int):Int);rw[a]at h;have d:=η a;clear a;go_enter Tryz.func126,Tryz.ntmps126
   go_wp2_with fail
   refine(vT _ _ _ _ _ _ _ b).mono ?_;rintro e w' ⟨rfl,rfl⟩;rw[d.out];go_wp2
   go_ret2
   exact⟨rfl,rfl⟩
def BH (w:World) (b0 g:Nat) (A:Option Addr) (l:List Int) (D N:Nat) (e:Ending) (w':World):Prop:=
 ∃a A' n' c',e= .returned (.tuple #[.slice (some ⟨a,0,none⟩) N N, .int .i64 0])/\ag .u8 w' w.heap.size 5 (some ⟨a,0,none⟩) N N (Hz l D N)/\tB w' b0 g A' n' c' (u9 l (Hz l D N))/\¬foot A' g a/\
  aq w w' (foot A g)/\(∀k,aa A'=some k->aa A=some k\/w.heap.size<=k)
theorem Rb (w:World) (b0 g n c:Nat) (A:Option Addr) (l:List Int) (a:tB w b0 g A n c l) (N D:Nat) (hN:1<=(N:Int)/\(N:Int)<=258) (hD:1<=(D:Int)/\(D:Int)<=((min n 32768:Nat):Int)):
  Calls Tryz.prog 126 #[.pointer (some ⟨g,0,none⟩), .int .i64 N, .int .i64 D] w (BH w b0 g A l D N):=by
 obtain⟨q,t⟩ :=ν (((min n 32768:Nat):Int):Int);have ab:(D:Int)<=(n:Int):=ω;have Xb:(n:Int)<=65536:=by have:=a.len;have:=a.iQ;omega
 have R:=η a.iQ;rw[t]at hD;have HQ:=η t;clear t;have c0:=a.cell.cell (i:=0) ω;have kJ:=a.cell.lt;obtain⟨L,hi,r,p,o⟩ :=info_parts vS;have G:=λW=>cF (P:=Tryz.prog) 26 5 L (.int .u8 0) Tryz.underlying26 hi r p rfl .i64 .i64 N (by rw[o];omega) ω W
 have HM:=η G;clear G hi r p o;have T:=HM.out w;obtain⟨z,rfl⟩ :=a.own.2.addr ω;have df:=a.own.2.fD;have Ex:(n:Int)<=(c:Int):=ω;go_enter Tryz.func126,Tryz.ntmps126
 go_wp2_with fail
 refine(vT _ _ _ _ _ _ _ a).mono ?_;rintro e w' ⟨rfl,rfl⟩;rw[HQ.out];go_wp2
 have c1:(w.alloc (.cells (cn N (.int .u8 0)) 5)).cell? ⟨g,0,none⟩ =some (.slice (some ⟨z,0,none⟩) n c):=(a.cell.alloc _).cell ω;obtain⟨P,J⟩ :=ν (n-D:Nat);have M:IntKind.i64.wrap ((n:Int)-(D:Int))=(P:Int):=by rw[IntWalk.i64_in _ ω];omega
 have Z:(0:Int)<=P/\(P:Int)<n/\(P:Int)<c:=ω;have Y:P<n/\P<=n/\P<=c:=ω;have S:¬c=P:=ω;have Q:n-P=D:=ω;have HP:=η J;clear J;clear T;go_quiet (fail)
 go_wp2
 have f:Below w.heap.size w ((w.alloc (.cells (cn N (.int .u8 0)) 5)).drewN nq):=below_drewN ((Below.refl _ _).alloc (Nat.le_refl _) _) nq
 have d:Own ((w.alloc (.cells (cn N (.int .u8 0)) 5)).drewN nq) w.heap.size 5 1 (some ⟨w.heap.size,0,none⟩) N N (Re l D 0):=
  (Own.lit rfl _ _ (Nat.le_refl _) (by unfold maxLen;omega) (by rw[kS,Nat.mul_one]) (λi hi=>by rw[J0 _ ω];exact congrArg some (Mv l D i)))
 obtain⟨w1,F⟩ :∃w1:World,w1=(w.alloc (.cells (cn N (.int .u8 0)) 5)).drewN nq:= ⟨_,rfl⟩;rw[<-F]at f d⊢;clear F c1;have s:=a.own.rd.cut (j:=P) ω (A':=some ⟨z,P,none⟩) (λ_=>by rw[Option.map_some,kA]);rw[Q]at s
 go_loopw [47] (λi wr=>∃k:Nat,k<=N/\i= .int .i64 k/\Own wr w.heap.size 5 1 (some ⟨w.heap.size,0,none⟩) N N (Re l D k)/\Below w.heap.size w wr) (λi _=>N-(intOf i).toNat)
 case atStart=>exact⟨0,ω,rfl,d,f⟩
 case round=>
  obtain⟨k,y,rfl,d,f⟩ :=hrel;by_cases U:k<N
  · have CH:(0:Int)<=k/\(k:Int)<N:=ω;have c2:=d.cell (i:=k) ω;have z2:=d.frozen k;by_cases u:k<D
    · obtain⟨_,X,_,x⟩ :=(s.below f).at_ u;cases X;have K:(⟨z,P,none⟩ :Addr).add k= ⟨z,P+k,none⟩ :=by unfold Addr.add;split <;> simp_all
      rw[K,ia]at x;have hv:ix l (P+k)=ix l (l.length-D+k%D):=by rw[Nat.mod_eq_of_lt u,<-R.out,HP.out]
      obtain⟨v,b⟩ :=ν (ix l (P+k):Int);rw[b]at x hv;have hit:=η (I0 l D k v hv);clear b hv K;go_wp2
      go_roundw
      case rel=>exact⟨k+1,ω,by go_num,(d.aQ ω _).congr λj _=>hit.out j,f.setCell (Nat.le_refl _) _⟩
      case measure=>simp [intOf];omega
    · have x:=d.cell (i:=k-D) ω;rw[F8 l D ω]at x;have hv:ix l (l.length-D+(k-D)%D)=ix l (l.length-D+k%D):=by rw[<-Nat.mod_eq_sub_mod ω]
      obtain⟨v,b⟩ :=ν (ix l (l.length-D+(k-D)%D):Int);rw[b]at x hv;have hit:=η (I0 l D k v hv);have V:((k:Int)-(D:Int)).toNat=k-D:=ω;clear b hv;go_wp2
      go_roundw
      case rel=>exact⟨k+1,ω,by go_num,(d.aQ ω _).congr λj _=>hit.out j,f.setCell (Nat.le_refl _) _⟩
      case measure=>simp [intOf];omega
  · obtain rfl:N=k:=ω;have E:ag .u8 wr w.heap.size 5 (some ⟨w.heap.size,0,none⟩) N N (Hz l D N):= ⟨(ui l D N).symm,d.congr λi hi=>by rw[F8 l D ω,XN l D N ω]⟩;have B:=a.keeps f
    go_wp2_with fail
    refine(pH _ _ _ _ _ _ _ _ _ _ _ _ B E.rd (Nat.le_refl _) ω).mono ?_;rintro e w2 ⟨A',n',c',rfl,C,I,H⟩;have Sj:=E.2.lt (g:=w.heap.size) rfl
    have O:=I.bf E (λq t h=>by
     simp [aa]at t
     rcases h with h | h
     · omega
     · have:=(a.own.2.lt h).2;omega)
    go_wp2
    go_ret2
    refine⟨w.heap.size,A',n',c',rfl,O,C, ?_,(aq.aB f).trans I (λk y=> .inl y),λk y=> ?_⟩
    · rintro(h | h)
      · omega
      · rcases H _ h with m | m
        · have:=(a.own.2.lt m).2;omega
        · omega
    · rcases H k y with m | m
      · exact .inl m
      · exact .inr (Nat.le_trans f.size m)
end Go.Proofs.YtddhegejmkgmjaaGreat
