/-
  part
-/
import Derived.Test.YtgiimmkmjpbecaaGreatPk13
import Derived.Handy
set_option linter.unusedVariables false
set_option maxRecDepth 100000
set_option maxHeartbeats 4000000
namespace Go.Proofs.YtgiimmkmjpbecaaGreat
open Go.RowKit
theorem G1 {f:ag} {m:Int} (h:oC f m=0):f.length<=288/\1<=m/\m<=15/\(∀i,i<f.length->0<=ix f i/\ix f i<=1048576)/\(dZ f f.length).length<=2 ^ m.toNat:=by
 unfold oC at h;split at h
 · simp at h
 split at h
 · simp at h
 split at h
 · simp at h
 rename_i c a b
 refine⟨ω,ω,ω,λi hi=> ?_,ω⟩;by_cases g:ix f i<0\/1048576<ix f i
 · exact absurd (TK hi g) a
 omega
def mb (n:Nat) (T:ag):ag:=(List.range n).map λ(s:Nat)=>((T.count (s:Int):Nat):Int)
theorem qi (n:Nat) (T:ag):(mb n T).length=n:=by simp [mb]
theorem ML {n:Nat} (T:ag) {i:Nat} (hi:i<n):ix (mb n T) i=((T.count (i:Int):Nat):Int):=by simp [mb,ix,hi]
def mh (f:ag) (m:Nat) (L:ag):Prop:=L.length=f.length/\
 ((dZ f f.length=[]/\∀i,i<f.length->ix L i=0)\/
  (∃s,dZ f f.length=[s]/\∀i:Nat,i<f.length->ix L i=if(i:Int)=s then 1 else 0)\/
  (∃S,S.Perm (dZ f f.length)/\zw f S/\2<=S.length/\∀i:Nat,i<f.length->ix L i=((tN (qx f) S m (i:Int):Nat):Int)))
def oF (w:World) (f:ag) (m:Int) (e:Ending) (w':World):Prop:=
 ∃A c L,e= .returned (.tuple #[.slice A L.length c, .int .i64 (oC f m)])/\Below w.heap.size w w'/\aT .i64 w' w.heap.size 3 A L.length c L/\(oC f m≠0->L=[])/\(oC f m=0->mh f m.toNat L)
theorem Rt {F:List Pk} {n:Nat} (h:∀p∈F,0<=p.w/\p.w<=1048576/\p.l.length<=1) (k:Nat):∀p∈lev F k,0<=p.w/\p.w<=1048576*2 ^ k/\p.l.length<=2 ^ k:=by
 induction k with
 | zero=>intro p hp;have:=h p hp;simp;omega
 | succ k b=>
   have j:(0:Int)<2 ^ k:=Int.pow_pos ω;have e:=fR k;intro p hp;rw[ep,fE];rcases aQ.1 ((pO _ _).mem_iff.1 hp)with a | a
   · have:=h p a;omega
   obtain⟨c,f,d,hd,i,g⟩ :=tA _ p a;have:=b c f;have:=b d hd;rw[i,g,ae];omega
theorem a0w (F:List Pk) (k:Nat):(lev F k).length<=2*F.length:=by
 induction k with
 | zero=>show F.length<=_;omega
 | succ k a=>rw[ux];omega
theorem a3v (F:List Pk) (k:Nat):F.length<=(lev F k).length:=by
 cases k with
 | zero=>exact af _
 | succ k=>rw[ux];omega
theorem oF.mk {w w':World} {f:ag} {m:Int} {A:ax} {n c:Nat} {L:ag} (a:oC f m=0) (d:L.length=n) (e:Below w.heap.size w w') (b:aT .i64 w' w.heap.size 3 A n c L) (g:mh f m.toNat L):oF w f m (.returned (.tuple #[.slice A n c, .int .i64 0])) w':=by
 subst d;exact⟨A,c,L,by rw[a],e,b,λh=>absurd a h,λ_=>g⟩
theorem D3 {i:TypeInfo} (hi:Tryz.prog.info? 201 =some i) (b:i.size=2) (A:ax) (n c:Nat) {j:Nat} (d:j<=c) (W:World):
  (Instr.slice 198 (.slice A n c) none (some (.int .i64 (j:Int))) none).run Tryz.prog W= .ok (.slice A j c) W:=by
 have a:Tryz.prog.elem 198 = 201 :=by simp [Program.elem,Tryz.underlying198]
 rw[run_slice_h W 198 A n c (by rw[a];exact Tryz.underlying198) .i64 j ω ω,a];simp [sizeOf,typeInfo,hi,b,sliced];cases A <;> simp [Addr.add]
def LoR (w2:World) (gf:Nat) (F:List Pk) (b1:Nat) (m:Nat) (k:Nat) (b a:Value) (wr:World):Prop:=
 ∃(i g q c:Nat),b= .slice (some ⟨g,0,none⟩) q c/\a= .int .i64 i/\i+1<=m/\Hid (uT wr wr.heap.size (λg=>g<b1) (some ⟨g,0,none⟩) q (lev F i))/\q<=c/\b1<=g/\g<wr.heap.size/\Below w2.heap.size w2 wr/\Hid (k=m-1-i)
theorem TV {n:Nat} (T:ag) {s:Int} {i:Nat} (a:(i:Int)=s) (hi:i<n):mb n (T++[s])=(mb n T).set i (ix (mb n T) i+1):=by
 subst a
 apply fx
 · simp [mb]
 intro j c b;simp only [ML T hi];simp only [mb,List.getElem_map,List.getElem_range,List.getElem_set,List.count_append];by_cases h:i=j
 · subst h;simp
 rw[a8 h];have:¬(i:Int)=(j:Int):=ω;simp [this]
theorem zk {f:ag} {k:Nat}:∀s∈dZ f k,∃i:Nat,i<k/\s=(i:Int):=by
 induction k with
 | zero=>intro s a;simp [dZ]at a
 | succ k b=>
   intro s a;rw[dZ]at a;rcases aQ.1 a with h | h
   · obtain⟨i,d,c⟩ :=b s h;exact⟨i,ω,c⟩
   split at h
   · exact⟨k,ω,bk.1 h⟩
   simp at h
theorem xB (f:ag) (k:Nat):(dZ f k).Nodup:=by
 induction k with
 | zero=>simp [dZ]
 | succ k c=>
   rw[dZ];split
   · refine List.nodup_append.2 ⟨c,σ,λa e b d=> ?_⟩;obtain⟨i,h,g⟩ :=zk a e;rw[bk.1 d,g];omega
   rw[ak];exact c
theorem Qk {P:List Pk} {j K t:Nat} {p:Pk} (c:j<K) (a:P.take (j+1)=P.take j++[p]) (s:Int):(rY (P.take j)++p.l.take t).count s<=(rY (P.take K)).count s:=by
 have e:P.take K=P.take (j+1)++(P.take K).drop (j+1):=by
  have:P.take (j+1)=(P.take K).take (j+1):=by rw[iC,bF ω]
  rw[this,aO]
 rw[e,a,qw,qw,gg,gg,gg];have b:rY [p]=p.l.take t++p.l.drop t:=by rw[aO];simp [rY]
 rw[b,gg];omega
def OuR (b:World) (go n:Nat) (b0:Nat) (P:List Pk) (K:Nat) (k:Nat) (a:Value) (wr:World):Prop:=
 ∃j:Nat,a= .int .i64 j/\j<=K/\aT .i64 wr b0 3 (some ⟨go,0,none⟩) n n (mb n (rY (P.take j)))/\bb b wr (λx=>x=go)/\Hid (k=K-j)
def a45 (b:World) (go n:Nat) (b0:Nat) (T l:ag) (k:Nat) (a:Value) (wr:World):Prop:=
 ∃t:Nat,a= .int .i64 t/\t<=l.length/\aT .i64 wr b0 3 (some ⟨go,0,none⟩) n n (mb n (T++l.take t))/\bb b wr (λx=>x=go)/\Hid (k=l.length-t)
theorem su (w:World) (C:ax) (n d:Nat) (f:ag) (hr:bT .i64 w w.heap.size C n f) (m:Int) (wG:(n:Int)<=4611686018427387904):
  Calls Tryz.prog 125 #[.slice C n d, .int .i64 m] w (oF w f m):=by
 obtain⟨i0,hi,N,bI,bB⟩ :=aL xr;have XZ:=η (MN w w.heap.size C n d f hr m wG);have Yl:=hr.1;have M:=η Yl;obtain⟨mv,uQ⟩ :=ν (oC f m);rw[uQ]at XZ;have GV:=η uQ;by_cases ab:mv=0
 rotate_left
 · have ej:(mv != 0)=true:=by simpa using ab
   have dY:=η ab
   have tV:Hid (oF w f m (.returned (.tuple #[.slice none 0 0, .int .i64 mv])) w):=
    ⟨none,0,[],by rw[GV.out];rfl,aw _ _,aT.di,λ_=>rfl,λh=>absurd (GV.symm.trans h) dY.out⟩
   clear uQ hr Yl hi N bI bB ab wG M GV
   go_in
   go_wp2_with fail;refine XZ.mono ?_;rintro e w1 ⟨rfl,rfl⟩
   go_wp2_with fail;go_returns;exact tV
 subst ab;obtain⟨o1,o2,o3,o4,o5⟩ :=G1 uQ;obtain⟨G,rfl⟩ :=aF (show 0<=m by omega);have cg:1<=G/\G<=15:=ω;have J7:(1:Int)<=G/\(G:Int)<=15:=ω;have tJ:(0:Int)<=n/\(n:Int)<=288:=ω;have oL:=fW (P:=Tryz.prog) 80 3 i0 (.int .i64 0) Tryz.underlying80 hi N bI rfl .i64 .i64 n (by rw[bB];omega) ω w
 have R:aT .i64 (w.alloc (.cells (eB n (.int .i64 0)) 3)) w.heap.size 3 (some ⟨w.heap.size,0,none⟩) n n (List.replicate n 0):=by
  have:=aT.lit (k:= .i64) (w:=w) (b0:=w.heap.size) rfl (List.replicate n 0) 3 (af _) (by rw[aS];unfold maxLen;omega);rw[aS]at this;have e:((List.replicate n (0:Int)).map (Value.int .i64)).toArray=eB n (.int .i64 0):=by unfold eB;simp
  rw[e]at this;exact this
 have bx:Below w.heap.size w (w.alloc (.cells (eB n (.int .i64 0)) 3)):=(aw _ w).alloc (af _) _;have cs:=η (MP (w.alloc (.cells (eB n (.int .i64 0)) 3)) C n d f ((hr.alloc (af _) _).more σ) ω (λi hi=>o4 i ω));have J:=η (⟨o1,o4,o5,cg⟩ :_/\_/\_/\_);clear o1 o2 o3 o4 o5 cg uQ hr Yl
 go_in
 go_wp2_with fail;refine XZ.mono ?_;rintro e w1 ⟨rfl,rfl⟩
 go_wp2_with fail;refine cs.mono ?_;rintro e w2 ⟨A,q,c,S,rfl,am,VC,hA,an,po,O⟩;rw[M.out]at an;have U:=R.keeps am;have Z:=bx.trans (am.mono bx.size)
 have z:q=S.length:=by
  obtain⟨D,rG,sf⟩ :=VC;rw[rG.1,sf.length,kj]
 have HS:=η (⟨an,po⟩ :_/\_);have T6:q<=n:=by rw[z,an.length_eq];have:=zj f f.length;have:=M.out;omega
 have aE:(w.alloc (.cells (eB n (.int .i64 0)) 3)).heap.size=w.heap.size+1:=σ;rw[aE]at VC hA;have ah:w.heap.size+1<=w2.heap.size:=by have:=am.size;rw[aE]at this;exact this
 have HQ:=η (⟨z,T6,O,ah⟩ :q=S.length/\q<=n/\q<=c/\w.heap.size+1<=w2.heap.size);clear oL R bx am an po cs XZ aE;by_cases R9:q=0
 · have cH:(q:Int)=0:=ω
   have bG:Hid (oF w f (G:Int) (.returned (.tuple #[.slice (some ⟨w.heap.size,0,none⟩) n n, .int .i64 0])) w2):=
    oF.mk GV.out (aS ..) Z U ⟨by rw[aS];exact M, .inl ⟨aC (by rw[<-HS.1.length_eq];have:=HQ.1;omega),λi hi=>by unfold ix;rw[au,dC];split <;> rfl⟩⟩
   clear R9 z T6 O ah VC hA U Z
   go_wp2_with fail;go_returns;exact bG
 by_cases Co:q=1
 · subst Co
   obtain⟨g,rfl,X,W⟩ :∃g,A=some ⟨g,0,none⟩/\w.heap.size+1<=g/\g<w2.heap.size:=by
    rcases hA with ⟨_,h⟩ | h
    · omega
    exact h
   obtain⟨s,rfl⟩ :∃s,S=[s]:=by
    cases S with
    | nil=>simp at z
    | cons s S=>cases S with
      | nil=>exact⟨s,rfl⟩
      | cons s' S=>simp at z
   have VD:dZ f f.length=[s]:=(List.perm_singleton.1 (HS.1.symm));obtain⟨a,DV,rfl⟩ :=zk s (by rw[VD];exact bk.2 rfl);obtain⟨D,rG,sf⟩ :=VC
   obtain⟨x,rfl,I⟩ :∃x,D=[x]/\ma w2 w2.heap.size (λg=>g<w.heap.size+1) x ⟨qx f (a:Int),[(a:Int)]⟩ :=by
    unfold fA at sf;cases sf with
    | cons k1 k2=>cases k2 with
      | nil=>exact⟨_,rfl,k1⟩
   obtain⟨xw,xA,y,xc⟩ :=x;have Cp:y=1:=I.2.1.1;subst Cp;obtain⟨ad,u,QK,mB⟩ :=rG.2 ω;obtain rfl:ad= ⟨g,0,none⟩ :=by injection u with u;exact u.symm
   have a1:=mB 1 ω;rw[nW]at a1;replace a1:w2.cell? ⟨g,1,none⟩ =some (.slice xA 1 xc):=a1;obtain⟨zx,UQ,l9,r⟩ :=I.2.1.at_ (i:=0) (by show 0<1;omega);replace UQ:xA=some zx:=UQ;subst UQ;rw[add_zero']at r;replace r:w2.cell? zx=some (.int .i64 (a:Int)):=r;have FL:a<n:=by have:=M.out;omega
   have cA:(0:Int)<=a/\(a:Int)<n:=ω;have co:=U.2.cell (i:=a) ω;have cz:=(Own.ar U.2).frozen' (i:=a) ω;have o:=U.put FL 1;have Y:Below w.heap.size w (w2.setCell ⟨w.heap.size,a,none⟩ (.int .i64 1)):=Z.setCell (p:= ⟨w.heap.size,a,none⟩) (af _) _
   have bG:=η (oF.mk GV.out (by rw[fQ];exact aS ..) Y o ⟨by rw[fQ,aS];exact M, .inr (.inl ⟨(a:Int),VD,λi hi=>by
    unfold ix;rw[au,List.getElem?_set];by_cases e:a=i
    · subst e;rw[aa rfl,aa (by rw[aS];exact FL),aa rfl];rfl
    rw[a8 e,a8 ω,dC];split <;> rfl⟩)⟩)
   clear R9 z T6 O ah hA VD DV rG sf I u QK mB o Y U Z FL X W l9
   go_wp2_with fail;go_returns;exact bG
 have cH:((q:Int)==0)=false:=ξ;have eh:((q:Int)==1)=false:=ξ;have T5:2<=q:=ω
 obtain⟨g,rfl,X,W⟩ :∃g,A=some ⟨g,0,none⟩/\w.heap.size+1<=g/\g<w2.heap.size:=by
  rcases hA with ⟨_,h⟩ | h
  · omega
  exact h
 obtain⟨m1,rv⟩ :=ν (G-1);have ee:(G:Int)-1=(m1:Int):=by have:=J.out;omega
 have hF:Hid (∀p∈fA (qx f) S,0<=p.w/\p.w<=1048576/\p.l.length<=1):=λp hp=>by
  obtain⟨s,hs,e1,e2⟩ :=km p hp;rw[e1,e2];unfold qx;by_cases cB:s.toNat<f.length
  · have:=J.2.1 _ cB;simp;omega
  have:ix f s.toNat=0:=by unfold ix;rw[au,bq ω];rfl
  rw[this];simp
 obtain⟨F,ao⟩ :=ν (fA (qx f) S);have UH:F.length=q:=by rw[<-ao,kj];exact z.symm
 rw[ao]at VC hF;have fy:Hid (LoR w2 g F (w.heap.size+1) G m1 (.slice (some ⟨g,0,none⟩) q c) (.int .i64 0) w2):= ⟨0,g,q,c,rfl,rfl,τ J.out,VC,O,X,W,aw _ _,by show m1=_;omega⟩;have YF:=η ao;have E:=η (⟨VC,T5,T6,UH,rv,X,W⟩ :uT w2 w2.heap.size (λg=>g<w.heap.size+1) (some ⟨g,0,none⟩) q F/\2<=q/\q<=n/\F.length=q/\G-1=m1/\w.heap.size+1<=g/\g<w2.heap.size);have en:(0:Int)<=m1/\(m1:Int)<=14:=by have:=J.out;omega
 have eg:(2:Int)<=q/\(q:Int)<=288:=ω;have ea:=η (⟨U,Z⟩ :_/\_);clear R9 Co z T6 O ah VC hA T5 X W rv ao UH U Z
 go_wp2_with fail;go_loopg [9,44] m1 (LoR w2 g F (w.heap.size+1) G)
 case atStart=>exact fy
 clear fy;obtain⟨i,L,q3,c3,rfl,rfl,bs,Q,bi,bt,V,ZN,hk⟩ :=hrel;have UH:=E.2.2.2.1
 have al:q3=(lev F i).length:=by
  obtain⟨D,rG,sf⟩ :=Q.out;rw[rG.1,sf.length]
 have bv:=a0w F i;have CN:=a3v F i;have ce:=J.2.2.2;have cd:(2:Nat) ^ i<=2 ^ 14:=bw ω ω
 have cc:(2:Int) ^ i<=16384:=by have:((2 ^ i:Nat):Int)<=((2 ^ 14:Nat):Int):=ω
                                simpa using this
 have ac:SmP (lev F i):=λp hp=>by
  have:=Rt (n:=n) hF.out i p hp;refine⟨this.1, ?_, ?_⟩
  · have h2:p.w<=1048576*2 ^ i:=this.2.1;omega
  have h3:p.l.length<=2 ^ i:=this.2.2;have:(2:Nat) ^ 14=16384:=δ;omega
 by_cases bp:i<m1
 · have xi:(i:Int)<(m1:Int)/\(0:Int)<=i:=ω;have cw:=ZN.size;have cq:=η (Nf wr L q3 c3 wr.heap.size (lev F i) (λg=>g<w.heap.size+1) (λg hg=>by have:=HQ.2.2.2;omega) Q.out (af _) (by have:=E.out;have:=J.out;have:=M.out;omega) ac (τ E.out));have HI:=η (⟨bs,bp,bv,CN,al,UH⟩ :_/\_/\_/\_/\_/\_);clear bs bp bv CN al UH ce cd cc ac Q bi bt V cw
   go_wp2_with fail;refine cq.mono ?_;rintro e w5 ⟨g5,q5,c5,rfl,lZ,bo,cb,od,dq⟩;have UX:=ZN.trans (lZ.mono ZN.size)
   have cD:q5=(dr (lev F i)).length:=by
    obtain⟨D,rG,sf⟩ :=bo;rw[rG.1,sf.length]
   have bl:=kt (lev F i);have cr:=η (MW w5 w5.heap.size q c q5 c5 (some ⟨g,0,none⟩) (some ⟨g5,0,none⟩) F (dr (lev F i)) (λg=>g<w.heap.size+1) ((E.1.below UX).more UX.size) bo (af _) (τ E.out) (by have:=E.out;have:=J.out;have:=M.out;omega) (by have:=HI.out;have:=E.out;have:=J.out;have:=M.out;omega) HQ.2.2.1 cb);clear lZ bo cb od dq cD bl cq
   go_wp2_with fail;refine cr.mono ?_;rintro e w6 ⟨g6,q6,c6,rfl,kE,cW,cC,jH,dp⟩;clear cr
   go_wp2_with fail;go_roundg (m1-(i+1))
   case measure=>have:=hk.out;have:=HI.out;have:=E.out;omega
   refine⟨i+1,g6,q6,c6,rfl,by go_num,by have:=HI.out;have:=E.out;have:=J.out;omega,cW,cC, ?_,dp,UX.trans (kE.mono UX.size),by show _=_;have:=E.out;omega⟩;have:=UX.size;have:=HQ.2.2.2;omega
 have dk:i=m1:=by have:=E.out;omega
 subst dk;have xi:¬(i:Int)<(i:Int):=ω;obtain⟨K,hK⟩ :=ν (2*q-2);have ef:2*(q:Int)-2=(K:Int):=by have:=E.out;omega
 have cp:K<=q3:=by
  have h9:=Jv (F:=F) (n:=2) (k:=i) (by
   rw[UH,HQ.1,HS.1.length_eq];have h8:=J.2.2.1;rw[aY]at h8;have h7:G=i+1:=by have:=E.out;omega
   rw[h7,fE]at h8;omega)
  omega
 have eu:(0:Int)<=K/\(K:Int)<=600:=ω;obtain⟨j0,cj,dd,ci,db⟩ :=aL vQ;have oh:=D3 cj ci (some ⟨L,0,none⟩) q3 c3 (j:=K) ω;obtain⟨U,Z⟩ :=ea.out;have KU:=U.keeps ZN
 have N:mb n (rY ((lev F i).take 0))=List.replicate n 0:=by
  apply fx
  · simp [mb]
  intro j h1 h2;simp [mb,rY]
 have fy:Hid (OuR wr w.heap.size n w.heap.size (lev F i) K K (.int .i64 0) wr):= ⟨0,rfl,aG _,by rw[N];exact KU,bb.refl _ _,rfl⟩;have cm:=Z.trans (ZN.mono Z.size);have HE:=η (⟨Q.out,hK,cp,bi,bt,V,cm,al,ac⟩ :uT wr wr.heap.size (λg=>g<w.heap.size+1) (some ⟨L,0,none⟩) q3 (lev F i)/\2*q-2=K/\K<=q3/\q3<=c3/\w.heap.size+1<=L/\L<wr.heap.size/\Below w.heap.size w wr/\q3=(lev F i).length/\SmP (lev F i));clear N KU U Z hK cp bi bt V cm al ac Q bv CN ce cd cc bs bp ZN cj dd ci db UH;obtain⟨ws,cv⟩ :∃ws,ws=wr:= ⟨_,rfl⟩;subst cv
 go_wp2_with fail;go_loopg [58] K (OuR ws w.heap.size n w.heap.size (lev F i) K)
 case atStart=>exact fy
 clear fy oh;obtain⟨j,rfl,df,H,b,da⟩ :=hrel;by_cases hj:j<K
 rotate_left
 · have de:j=K:=ω;subst de;have dj:¬(j:Int)<(j:Int):=ω;obtain⟨cL,e2,e3,e4,e5,e6,e7,e8,e9⟩ :=HE.out;have Y:Below w.heap.size w wr:=e7.trans (b.below (λk hk=>by subst hk;exact af _) e7.size)
   have ap:mh f ((G:Int)).toNat (mb n (rY ((lev F i).take j))):=by
    refine⟨by rw[qi];exact M, .inr (.inr ⟨S,HS.1,HS.2,ε E.out HQ.out,λi' er=> ?_⟩)⟩;rw[ML _ (τ M.out),aY];unfold tN GF;rw[YF.out,show G-1=i by have:=E.out;omega,show 2*S.length-2=j by have:=HQ.1;omega]
   have bG:=η (oF.mk GV.out (qi ..) Y H ap);clear cL e2 e3 e4 e5 e6 e7 e8 e9 Y ap H b hj df
   go_wp2_with fail;go_returns;exact bG
 have dj:(j:Int)<(K:Int)/\(0:Int)<=j:=ω;obtain⟨⟨D,vI,SZ⟩,e2,e3,e4,e5,e6,e7,e8,e9⟩ :=HE.out;have dz:D.length=(lev F i).length:=SZ.length;have I:=SZ.at_ (0,none,0,0) ⟨0,[]⟩ j ω
 change ma _ _ _ (el D j) _ at I
 obtain⟨p,hp⟩ :=ν ((lev F i).getD j ⟨0,[]⟩);obtain⟨x,hx⟩ :=ν (el D j);rw[hp,hx]at I
 have B:p∈lev F i:=by
  rw[<-hp,au,cZ ω];exact cF _
 have jB:(lev F i).take (j+1)=(lev F i).take j++[p]:=by
  rw[bc ω,<-hp];simp [show j<(lev F i).length by omega]
 obtain⟨xw,xA,y,xc⟩ :=x;obtain⟨ad,u,QK,mB⟩ :=vI.2 ω;obtain rfl:ad= ⟨L,0,none⟩ :=by injection u with u;exact u.symm
 have ck:¬L=w.heap.size:=ω
 have cell:∀t,t<q3*2->wr.cell? ⟨L,t,none⟩ =some (ye D t):=λt ht=>by
  have:=mB t ht;rw[nW]at this;exact(b.cell (p:= ⟨L,t,none⟩) e6 ck).trans this
 have a0:=cell (j*2) ω;have a1:=cell (j*2+1) ω;rw[sT D rfl,hx]at a0;rw[wV D rfl,hx]at a1;replace a0:wr.cell? ⟨L,j*2,none⟩ =some (.int .i64 xw):=a0;replace a1:wr.cell? ⟨L,j*2+1,none⟩ =some (.slice xA y xc):=a1;have Cp:y=p.l.length:=I.2.1.1;have bl:=(e9 p B).2.2;have eb:(0:Int)<=y/\(y:Int)<=400000:=ω;have et:L<wr.heap.size:=aB e6 b.size;have es:¬L=wr.heap.size:=ω;have HP:=η (⟨I,B,jB,Cp,hj,b,H⟩ :ma ws ws.heap.size (λg=>g<w.heap.size+1) (xw,xA,y,xc) p/\p∈lev F i/\(lev F i).take (j+1)=(lev F i).take j++[p]/\y=p.l.length/\j<K/\bb ws wr (λx=>x=w.heap.size)/\aT .i64 wr w.heap.size 3 (some ⟨w.heap.size,0,none⟩) n n (mb n (rY ((lev F i).take j))));have fy:Hid (a45 ws w.heap.size n w.heap.size (rY ((lev F i).take j)) p.l y (.int .i64 0) (wr.alloc (.cells #[.int .i64 xw, .slice xA y xc] 201))):= ⟨0,rfl,aG _,by rw[iD,ak];exact H.alloc _,b.alloc _,by show y=_;omega⟩;clear cell mB hp hx u QK SZ vI I B jB Cp hj b H dz e2 e3 e4 e5 e6 e7 e8 e9 bl ck
 go_wp2_with fail;go_loopg [65] y (a45 ws w.heap.size n w.heap.size (rY ((lev F i).take j)) p.l)
 case atStart=>exact fy
 clear fy a0 a1;obtain⟨t,rfl,FN,H,b,cX⟩ :=hrel;obtain⟨I,B,jB,Cp,hj,cl,Ym⟩ :=HP.out;by_cases ht:t<y
 rotate_left
 · have cx:¬(t:Int)<(y:Int):=ω
   have J4:rY ((lev F i).take j)++p.l.take t=rY ((lev F i).take (j+1)):=by
    have ds:p.l.take t=p.l:=aA ω;rw[jB,qw,ds];simp [rY]
   rw[J4]at H;have HR:=η (⟨H,b,hj⟩ :_/\_/\j<K);clear H b hj J4 I B jB Cp cl Ym ht
   go_wp2_with fail;go_roundg (K-(j+1))
   case measure=>have:=da.out;have:=HR.2.2;omega
   case rel=>exact⟨j+1,by go_num,τ HR.2.2,HR.1,HR.2.1,rfl⟩
 have cx:(t:Int)<(y:Int)/\(0:Int)<=t:=ω;have QZ:∀gx,ai xA=some gx->¬gx=w.heap.size:=λgx dl=>by have:=I.2.2 (show 0<y by omega) gx dl;omega
 have rl:=b.rp I.2.1 (af _) (λ_ ad e1 hs=>QZ ad.block (by have e2:xA=some ad:=e1;rw[e2];rfl) hs);obtain⟨zx,UQ,l9,r⟩ :=rl.at_ (i:=t) ht;subst UQ;obtain⟨sy,Re⟩ :=ν (ix p.l t);rw[Re]at r;have ca:sy∈p.l:=by rw[<-Re];exact sq ω
 have be:sy∈S:=by
  rw[<-YF.out]at B;exact(MU (qx f) S i p B).2 sy ca
 obtain⟨a,DV,rfl⟩ :=zk sy (HS.1.mem_iff.1 be);have FL:a<n:=by have:=M.out;omega
 obtain⟨T,hT⟩ :=ν (rY ((lev F i).take j)++p.l.take t)
 have du:T.count (a:Int)<=15:=by
  have h1:=Qk (t:=t) hj jB (a:Int);rw[hT]at h1
  have h2:=(xq (f:=qx f) (S:=S) (m:=G) ((HS.1.nodup_iff).2 (xB f _)) HS.2.le (λs hs=>by
   obtain⟨k,hk,rfl⟩ :=zk s (HS.1.mem_iff.1 hs);unfold qx;rw[aY];exact(J.2.1 k hk).1) (ε E.out HQ.out) J.2.2.2.1 (by
   rw[HS.1.length_eq];have:=J.2.2.1
   rwa [aY]at this)).bd (a:Int) be
  have h3:(rY ((lev F i).take K)).count (a:Int)=tN (qx f) S G (a:Int):=by
   unfold tN GF;rw[YF.out,show G-1=i by have:=E.out;omega,show 2*S.length-2=K by have:=HE.2.1;have:=HQ.1;omega]
  have h4:=J.2.2.2.2;omega
 rw[hT]at H;have cy:a<(mb n T).length:=by rw[qi];exact FL
 have co:=H.2.cell (i:=a) ω;have cz:=(Own.ar H.2).frozen' (i:=a) ω;obtain⟨v,hv⟩ :=ν (ix (mb n T) a);rw[hv]at co;have ec:(0:Int)<=v/\v<=15:=by rw[<-hv,ML T FL];omega
 have o:=H.put FL (v+1);rw[<-hv,<-TV T rfl FL]at o;rw[hv]at o;have ZU:=b.setCell (p:= ⟨w.heap.size,a,none⟩) (.inl rfl) (.int .i64 (v+1))
 have bM:rY ((lev F i).take j)++p.l.take (t+1)=T++[(a:Int)]:=by
  rw[<-hT,av];congr 1;have ch:t<p.l.length:=ω;rw[bc ch,<-Re];simp [ix,ch]
 have cA:(0:Int)<=a/\(a:Int)<n:=ω;have HR:=η (⟨o,ZU,bM,FN,ht,Cp⟩ :_/\_/\_/\_/\_/\_);clear o ZU bM FN ht Cp du cy hv hT ca be Re rl QZ l9 I B jB hj cl Ym DV FL H b
 go_wp2_with fail;go_roundg (y-(t+1))
 case measure=>have:=cX.out;have:=HR.out;omega
 obtain⟨q1,q2,ct,q4,q5,q6⟩ :=HR.out;exact⟨t+1,by go_num,ω,by rw[ct];exact q1,q2,by show _=_;omega⟩
theorem a1Y {l:ag} {most:Int} (h:bg l most=0):l.length<=288/\(∀i,i<l.length->0<=ix l i/\ix l i<=15)/\sumTo l l.length<=32768:=by
 unfold bg at h;split at h
 · simp at h
 split at h
 · simp at h
 split at h
 · simp at h
 rename_i c a b
 refine⟨ω, ?_,ω⟩;have:yI l most l.length=true:=by simpa using a
 have h4:∀i,i<l.length->0<=ix l i/\ix l i<=most:=by simpa [yI] using this
 exact λi hi=> ⟨(h4 i hi).1,τ ((h4 i hi).2)⟩
theorem OC (f:ag) (k:Nat):qx f (k:Int)=ix f k:=by unfold qx;rw[aY]
theorem qM {f:ag}:∀k:Nat,∀s,s∈dZ f k↔∃i:Nat,i<k/\s=(i:Int)/\0<ix f i
 | 0,s=> ⟨λh=>by simp [dZ]at h,λ⟨i,h,_⟩ =>absurd h ω⟩
 | k+1,s=>by
   rw[dZ,aQ,qM k s];constructor
   · rintro(⟨i,c,b,a⟩ | h)
     · exact⟨i,ω,b,a⟩
     split at h
     · exact⟨k,ω,by simpa using h, ‹_›⟩
     simp at h
   rintro⟨i,c,rfl,a⟩;by_cases e:i=k
   · subst e;right;rw[aa a];simp
   exact .inl ⟨i,ω,rfl,a⟩
def krP (f:ag) (m:Nat) (h:Int->Nat):Nat:=((dZ f f.length).map λs=>2 ^ (m-h s)).sum
theorem mh.three {f L:ag} {m:Nat} (d:mh f m L) (g:oC f (m:Int)=0) (c:2<=(dZ f f.length).length):
  (∀s∈dZ f f.length,1<=ix L s.toNat/\ix L s.toNat<=m)/\krP f m (λs=>(ix L s.toNat).toNat)=2 ^ m:=by
 obtain⟨m1,m2,m3,m4,m5⟩ :=G1 g;rw[aY]at m5;obtain⟨-,d⟩ :=d;rcases d with ⟨h,_⟩ | ⟨s,h,_⟩ | ⟨S,hp,a,j,k⟩
 · rw[h]at c;simp at c
 · rw[h]at c;simp at c
 have e:∀s∈S,∃i:Nat,i<f.length/\s=(i:Int)/\0<ix f i:=λs a=>(qM _ s).1 (hp.mem_iff.1 a)
 have b:=xq (f:=qx f) (S:=S) (m:=m) (hp.nodup_iff.2 (xB f f.length)) a.le (λs a=>by
  obtain⟨i,hi,rfl,_⟩ :=e s a;rw[OC];exact(m4 i hi).1) j ω (by rw[hp.length_eq];exact m5)
 have hv:∀s∈S,ix L s.toNat=((tN (qx f) S m s:Nat):Int):=λs a=>by
  obtain⟨i,hi,rfl,_⟩ :=e s a;rw[aY,k i hi]
 refine⟨λs a=> ?_, ?_⟩
 · have a:=hp.mem_iff.2 a;rw[hv s a];have:=b.bd s a;omega
 unfold krP;rw[<-Kg (hp.map _),<-b.whole];congr 1;exact dn λs a=>by show 2 ^ (m-(ix L s.toNat).toNat)=_;rw[hv s a,aY]
theorem Jl (l f:ag) (m:Nat) (c:m<=15):∀k:Nat,(∀i,i<k->if 0<ix f i then 1<=ix l i/\ix l i<=m else ix l i=0)->((dZ f k).map λs=>2 ^ (m-(ix l s.toNat).toNat)).sum*2 ^ (15-m)=sumTo l k
 | 0,_=>by simp [dZ,sumTo]
 | k+1,h=>by
   have b:=Jl l f m c k λi hi=>h i ω;rw[sumTo,dZ,eQ,List.sum_append,eo,b];congr 1;have a:=h k ω;by_cases hp:0<ix f k
   · rw[aa hp]at a;obtain⟨e,d⟩ :=a;rw[aa hp];show(List.map _ [(k:Int)]).sum*_=_;rw[List.map_cons,List.map_nil,List.sum_cons,List.sum_nil,aY,iw];obtain⟨v,hv⟩ :=aF (show 0<=ix l k by omega);have hv:ix l k=(v:Int):=hv;rw[hv]at e d⊢;rw[pS ω ω,aY,qJ,<-Nat.pow_add,show m-v+(15-m)=15-v by omega]
   rw[a8 hp]at a;rw[a8 hp,a,mX ω];simp
structure a7f (l f:ag) (n:Nat) (m:Int):Prop where
 len:l.length=n
 each:∀i,i<n->(0<ix l i↔0<ix f i)/\0<=ix l i/\ix l i<=m
 few:(dZ f n).length<2->(sumTo l n:Int)=16384*((dZ f n).length:Int)
 many:2<=(dZ f n).length->sumTo l n=32768
theorem Kj {l:ag}:∀k:Nat,(∀i,i<k->ix l i=0)->sumTo l k=0
 | 0,_=>rfl
 | k+1,h=>by rw[sumTo,Kj k λi hi=>h i ω,h k ω,mX ω]
theorem mh.snd {f L:ag} {m:Nat} (g:mh f m L) (y:oC f (m:Int)=0):a7f L f f.length m:=by
 obtain⟨m1,m2,m3,m4,m5⟩ :=G1 y;by_cases p:2<=(dZ f f.length).length
 · obtain⟨G,u⟩ :=g.three y p
   have b:∀i,i<f.length->¬0<ix f i->ix L i=0:=λi hi a=>by
    obtain⟨-,g⟩ :=g;rcases g with ⟨h,h'⟩ | ⟨s,h,h'⟩ | ⟨S,hp,n,o,z⟩
    · exact h' i hi
    · rw[h' i hi,a8 λe=> ?_];have:(i:Int)∈dZ f f.length:=by rw[h,e];simp
      obtain⟨j,_,q,l⟩ :=(qM _ _).1 this;have:i=j:=ω;subst this;exact a l
    rw[z i hi]
    have r:(i:Int)∉S:=λD=>by
     obtain⟨j,_,q,l⟩ :=(qM _ _).1 (hp.mem_iff.1 D);have:i=j:=ω;subst this;exact a l
    have C:∀s∈S,∃i:Nat,i<f.length/\s=(i:Int)/\0<ix f i:=λs n=>(qM _ s).1 (hp.mem_iff.1 n)
    have t:=xq (f:=qx f) (S:=S) (m:=m) (hp.nodup_iff.2 (xB f f.length)) n.le (λs n=>by
     obtain⟨i,hi,rfl,_⟩ :=C s n;rw[OC];exact(m4 i hi).1) o ω (by rw[hp.length_eq];rw[aY]at m5;exact m5)
    rw[t.out _ r];rfl
   have d:∀i,i<f.length->0<ix f i->1<=ix L i/\ix L i<=m:=λi hi a=>by
    have:=G (i:Int) ((qM _ _).2 ⟨i,hi,rfl,a⟩);rw[aY]at this;exact this
   refine⟨g.1,λi hi=> ?_,λh=>ω,λ_=> ?_⟩
   · by_cases a:0<ix f i
     · have:=d i hi a;omega
     have:=b i hi a;omega
   have F:=Jl L f m ω f.length λi hi=>by
    by_cases a:0<ix f i
    · rw[aa a];exact d i hi a
    rw[a8 a];exact b i hi a
   unfold krP at u;rw[<-F,u,<-Nat.pow_add,show m+(15-m)=15 by omega]
 obtain⟨c,g⟩ :=g;rcases g with ⟨h,h'⟩ | ⟨s,h,h'⟩ | ⟨S,hp,n,o,z⟩
 · refine⟨c,λi hi=> ?_,λ_=> ?_,λl=>absurd l p⟩
   · have I:¬0<ix f i:=λa=>by
      have:=(qM f.length (i:Int)).2 ⟨i,hi,rfl,a⟩;rw[h]at this;simp at this
     have:=h' i hi;omega
   rw[Kj _ h',h];rfl
 · obtain⟨j,E,rfl,w⟩ :=(qM f.length s).1 (by rw[h];simp)
   have x:∀i,i<f.length->(0<ix f i↔i=j):=λi hi=>by
    constructor
    · intro a;have:=(qM f.length (i:Int)).2 ⟨i,hi,rfl,a⟩;rw[h]at this;have:=bk.1 this;omega
    rintro rfl;exact w
   have hv:∀i,i<f.length->ix L i=if i=j then 1 else 0:=λi hi=>by
    rw[h' i hi];by_cases e:i=j
    · rw[aa e,aa ω]
    rw[a8 e,a8 ω]
   have B:∀k,k<=f.length->sumTo L k=if j<k then 16384 else 0:=λk=>by
    induction k with
    | zero=>intro _;rfl
    | succ k A=>
      intro u;rw[sumTo,A ω,hv k ω];by_cases e:k=j
      · subst e;rw[a8 ω,aa rfl,aa ω];have:=pS (v:=1) ω ω;have H:share 1=qJ 1:=this;rw[H];rfl
      rw[a8 e,mX ω];by_cases q:j<k
      · rw[aa q,aa ω]
      rw[a8 q,a8 ω]
   refine⟨c,λi hi=> ?_,λ_=> ?_,λl=>absurd l p⟩
   · have h5:=hv i hi;have h6:=x i hi;by_cases e:i=j
     · rw[aa e]at h5;have:=h6.2 e;omega
     rw[a8 e]at h5;have:¬0<ix f i:=λh=>e (h6.1 h);omega
   rw[B _ (af _),aa E,h];rfl
 rw[hp.length_eq]at o;exact absurd o p
end Go.Proofs.YtgiimmkmjpbecaaGreat
