/-
  part
-/
import Derived.Test.YtdhmnlpfhfmpfaaGreatPk13
import Derived.Handy
set_option linter.unusedVariables false
set_option maxRecDepth 100000
set_option maxHeartbeats 4000000
namespace Go.Proofs.YtdhmnlpfhfmpfaaGreat
open Go.RowKit
theorem FE {f:aj} {m:Int} (h:oN f m=0):f.length<=288/\1<=m/\m<=15/\(∀i,i<f.length->0<=ix f i/\ix f i<=1048576)/\(eo f f.length).length<=2 ^ m.toNat:=by
 unfold oN at h;split at h
 · simp at h
 split at h
 · simp at h
 split at h
 · simp at h
 rename_i c a b
 refine⟨ω,ω,ω,λi hi=> ?_,ω⟩;by_cases g:ix f i<0\/1048576<ix f i
 · exact absurd (Tk hi g) a
 omega
def mB (n:Nat) (T:aj):aj:=(List.range n).map λ(s:Nat)=>((T.count (s:Int):Nat):Int)
theorem qB (n:Nat) (T:aj):(mB n T).length=n:=by simp [mB]
theorem LW {n:Nat} (T:aj) {i:Nat} (hi:i<n):ix (mB n T) i=((T.count (i:Int):Nat):Int):=by simp [mB,ix,hi]
def mD (f:aj) (m:Nat) (L:aj):Prop:=L.length=f.length/\
 ((eo f f.length=[]/\∀i,i<f.length->ix L i=0)\/
  (∃s,eo f f.length=[s]/\∀i:Nat,i<f.length->ix L i=if(i:Int)=s then 1 else 0)\/
  (∃S,S.Perm (eo f f.length)/\zR f S/\2<=S.length/\∀i:Nat,i<f.length->ix L i=((tZ (qK f) S m (i:Int):Nat):Int)))
def oQ (w:World) (f:aj) (m:Int) (e:Ending) (w':World):Prop:=
 ∃A c L,e= .returned (.tuple #[.slice A L.length c, .int .i64 (oN f m)])/\Below w.heap.size w w'/\ba .i64 w' w.heap.size 3 A L.length c L/\(oN f m≠0->L=[])/\(oN f m=0->mD f m.toNat L)
theorem QN {F:List Pk} {n:Nat} (h:∀p∈F,0<=p.w/\p.w<=1048576/\p.l.length<=1) (k:Nat):∀p∈lev F k,0<=p.w/\p.w<=1048576*2 ^ k/\p.l.length<=2 ^ k:=by
 induction k with
 | zero=>intro p hp;have:=h p hp;simp;omega
 | succ k b=>
   have j:(0:Int)<2 ^ k:=Int.pow_pos ω;have e:=fQ k;intro p hp;rw[eP,fG];rcases aP.1 ((qc _ _).mem_iff.1 hp)with a | a
   · have:=h p a;omega
   obtain⟨c,f,d,hd,i,g⟩ :=tN _ p a;have:=b c f;have:=b d hd;rw[i,g,ag];omega
theorem a0y (F:List Pk) (k:Nat):(lev F k).length<=2*F.length:=by
 induction k with
 | zero=>show F.length<=_;omega
 | succ k a=>rw[uL];omega
theorem a4q (F:List Pk) (k:Nat):F.length<=(lev F k).length:=by
 cases k with
 | zero=>exact ai _
 | succ k=>rw[uL];omega
theorem oQ.mk {w w':World} {f:aj} {m:Int} {A:ay} {n c:Nat} {L:aj} (a:oN f m=0) (d:L.length=n) (e:Below w.heap.size w w') (b:ba .i64 w' w.heap.size 3 A n c L) (g:mD f m.toNat L):oQ w f m (.returned (.tuple #[.slice A n c, .int .i64 0])) w':=by
 subst d;exact⟨A,c,L,by rw[a],e,b,λh=>absurd a h,λ_=>g⟩
theorem CP {i:TypeInfo} (hi:Tryz.prog.info? 180 =some i) (b:i.size=2) (A:ay) (n c:Nat) {j:Nat} (d:j<=c) (W:World):
  (Instr.slice 177 (.slice A n c) none (some (.int .i64 (j:Int))) none).run Tryz.prog W= .ok (.slice A j c) W:=by
 have a:Tryz.prog.elem 177 = 180 :=by simp [Program.elem,Tryz.underlying177]
 rw[run_slice_h W 177 A n c (by rw[a];exact Tryz.underlying177) .i64 j ω ω,a];simp [sizeOf,typeInfo,hi,b,sliced];cases A <;> simp [Addr.add]
def LoR (w2:World) (gf:Nat) (F:List Pk) (b1:Nat) (m:Nat) (k:Nat) (b a:Value) (wr:World):Prop:=
 ∃(i g q c:Nat),b= .slice (some ⟨g,0,none⟩) q c/\a= .int .i64 i/\i+1<=m/\Hid (vy wr wr.heap.size (λg=>g<b1) (some ⟨g,0,none⟩) q (lev F i))/\q<=c/\b1<=g/\g<wr.heap.size/\Below w2.heap.size w2 wr/\Hid (k=m-1-i)
theorem Tu {n:Nat} (T:aj) {s:Int} {i:Nat} (a:(i:Int)=s) (hi:i<n):mB n (T++[s])=(mB n T).set i (ix (mB n T) i+1):=by
 subst a
 apply fw
 · simp [mB]
 intro j c b;simp only [LW T hi];simp only [mB,List.getElem_map,List.getElem_range,List.getElem_set,List.count_append];by_cases h:i=j
 · subst h;simp
 rw[aa h];have:¬(i:Int)=(j:Int):=ω;simp [this]
theorem zH {f:aj} {k:Nat}:∀s∈eo f k,∃i:Nat,i<k/\s=(i:Int):=by
 induction k with
 | zero=>intro s a;simp [eo]at a
 | succ k b=>
   intro s a;rw[eo]at a;rcases aP.1 a with h | h
   · obtain⟨i,d,c⟩ :=b s h;exact⟨i,ω,c⟩
   split at h
   · exact⟨k,ω,bf.1 h⟩
   simp at h
theorem xV (f:aj) (k:Nat):(eo f k).Nodup:=by
 induction k with
 | zero=>simp [eo]
 | succ k c=>
   rw[eo];split
   · refine List.nodup_append.2 ⟨c,σ,λa e b d=> ?_⟩;obtain⟨i,h,g⟩ :=zH a e;rw[bf.1 d,g];omega
   rw[aA];exact c
theorem Py {P:List Pk} {j K t:Nat} {p:Pk} (c:j<K) (a:P.take (j+1)=P.take j++[p]) (s:Int):(sG (P.take j)++p.l.take t).count s<=(sG (P.take K)).count s:=by
 have e:P.take K=P.take (j+1)++(P.take K).drop (j+1):=by
  have:P.take (j+1)=(P.take K).take (j+1):=by rw[iD,bH ω]
  rw[this,aU]
 rw[e,a,qJ,qJ,fZ,fZ,fZ];have b:sG [p]=p.l.take t++p.l.drop t:=by rw[aU];simp [sG]
 rw[b,fZ];omega
def OuR (b:World) (go n:Nat) (b0:Nat) (P:List Pk) (K:Nat) (k:Nat) (a:Value) (wr:World):Prop:=
 ∃j:Nat,a= .int .i64 j/\j<=K/\ba .i64 wr b0 3 (some ⟨go,0,none⟩) n n (mB n (sG (P.take j)))/\bk b wr (λx=>x=go)/\Hid (k=K-j)
def a5a (b:World) (go n:Nat) (b0:Nat) (T l:aj) (k:Nat) (a:Value) (wr:World):Prop:=
 ∃t:Nat,a= .int .i64 t/\t<=l.length/\ba .i64 wr b0 3 (some ⟨go,0,none⟩) n n (mB n (T++l.take t))/\bk b wr (λx=>x=go)/\Hid (k=l.length-t)
theorem sQ (w:World) (C:ay) (n d:Nat) (f:aj) (hr:bT .i64 w w.heap.size C n f) (m:Int) (Fm:(n:Int)<=4611686018427387904):
  Calls Tryz.prog 115 #[.slice C n d, .int .i64 m] w (oQ w f m):=by
 obtain⟨i0,hi,N,bB,bx⟩ :=aL xO;have XP:=η (LZ w w.heap.size C n d f hr m Fm);have Sr:=hr.1;have M:=η Sr;obtain⟨mv,vt⟩ :=ν (oN f m);rw[vt]at XP;have Gt:=η vt;by_cases ab:mv=0
 rotate_left
 · have ef:(mv != 0)=true:=by simpa using ab
   have du:=η ab
   have Ba:Hid (oQ w f m (.returned (.tuple #[.slice none 0 0, .int .i64 mv])) w):=
    ⟨none,0,[],by rw[Gt.out];rfl,ax _ _,ba.dN,λ_=>rfl,λh=>absurd (Gt.out.symm.trans h) du.out⟩
   clear vt hr Sr hi N bB bx ab Fm M Gt;go_enter Tryz.func115,Tryz.ntmps115
   go_wp2_with fail;refine XP.out.mono ?_;rintro e w1 ⟨rfl,rfl⟩
   go_wp2_with fail;go_returns;exact Ba.out
 subst ab;obtain⟨o1,o2,o3,o4,o5⟩ :=FE vt;obtain⟨G,rfl⟩ :=aJ (show 0<=m by omega);have GA:1<=G/\G<=15:=ω;have Fj:(1:Int)<=G/\(G:Int)<=15:=ω;have x6:(0:Int)<=n/\(n:Int)<=288:=ω;have oZ:=fV (P:=Tryz.prog) 63 3 i0 (.int .i64 0) Tryz.underlying63 hi N bB rfl .i64 .i64 n (by rw[bx];omega) ω w
 have R:ba .i64 (w.alloc (.cells (eH n (.int .i64 0)) 3)) w.heap.size 3 (some ⟨w.heap.size,0,none⟩) n n (List.replicate n 0):=by
  have:=ba.lit (k:= .i64) (w:=w) (b0:=w.heap.size) rfl (List.replicate n 0) 3 (ai _) (by rw[aT];unfold maxLen;omega);rw[aT]at this;have e:((List.replicate n (0:Int)).map (Value.int .i64)).toArray=eH n (.int .i64 0):=by unfold eH;simp
  rw[e]at this;exact this
 have bv:Below w.heap.size w (w.alloc (.cells (eH n (.int .i64 0)) 3)):=(ax _ w).alloc (ai _) _;have cr:=η (M4 (w.alloc (.cells (eH n (.int .i64 0)) 3)) C n d f ((hr.alloc (ai _) _).more σ) ω (λi hi=>o4 i ω));have J:=η (⟨o1,o4,o5,GA⟩ :_/\_/\_/\_);clear o1 o2 o3 o4 o5 GA vt hr Sr;go_enter Tryz.func115,Tryz.ntmps115
 go_wp2_with fail;refine XP.out.mono ?_;rintro e w1 ⟨rfl,rfl⟩
 go_wp2_with fail;refine cr.out.mono ?_;rintro e w2 ⟨A,q,c,S,rfl,ah,Vt,hA,al,pW,O⟩;rw[M.out]at al;have U:=R.keeps ah;have Z:=bv.trans (ah.mono bv.size)
 have z:q=S.length:=by
  obtain⟨D,wZ,sI⟩ :=Vt;rw[wZ.1,sI.length,kA]
 have HS:=η (⟨al,pW⟩ :_/\_);have Sy:q<=n:=by rw[z,al.length_eq];have:=zG f f.length;have:=M.out;omega
 have ao:(w.alloc (.cells (eH n (.int .i64 0)) 3)).heap.size=w.heap.size+1:=σ;rw[ao]at Vt hA;have LQ:w.heap.size+1<=w2.heap.size:=by have:=ah.size;rw[ao]at this;exact this
 have HQ:=η (⟨z,Sy,O,LQ⟩ :q=S.length/\q<=n/\q<=c/\w.heap.size+1<=w2.heap.size);clear oZ R bv ah al pW cr XP ao;by_cases be:q=0
 · have cH:(q:Int)=0:=ω
   have cu:Hid (oQ w f (G:Int) (.returned (.tuple #[.slice (some ⟨w.heap.size,0,none⟩) n n, .int .i64 0])) w2):=
    oQ.mk Gt.out (aT ..) Z U ⟨by rw[aT];exact M.out, .inl ⟨aG (by rw[<-HS.out.1.length_eq];have:=HQ.out.1;omega),λi hi=>by unfold ix;rw[aq,dI];split <;> rfl⟩⟩
   clear be z Sy O LQ Vt hA U Z
   go_wp2_with fail;go_returns;exact cu.out
 by_cases O6:q=1
 · subst O6
   obtain⟨g,rfl,X,W⟩ :∃g,A=some ⟨g,0,none⟩/\w.heap.size+1<=g/\g<w2.heap.size:=by
    rcases hA with ⟨_,h⟩ | h
    · omega
    exact h
   obtain⟨s,rfl⟩ :∃s,S=[s]:=by
    cases S with
    | nil=>simp at z
    | cons s S=>cases S with
      | nil=>exact⟨s,rfl⟩
      | cons s' S=>simp at z
   have Vu:eo f f.length=[s]:=(List.perm_singleton.1 (HS.out.1.symm));obtain⟨a,Dx,rfl⟩ :=zH s (by rw[Vu];exact bf.2 rfl);obtain⟨D,wZ,sI⟩ :=Vt
   obtain⟨x,rfl,I⟩ :∃x,D=[x]/\mz w2 w2.heap.size (λg=>g<w.heap.size+1) x ⟨qK f (a:Int),[(a:Int)]⟩ :=by
    unfold fD at sI;cases sI with
    | cons k1 k2=>cases k2 with
      | nil=>exact⟨_,rfl,k1⟩
   obtain⟨xw,xA,y,xc⟩ :=x;have Cp:y=1:=I.2.1.1;subst Cp;obtain⟨ad,u,Qa,mM⟩ :=wZ.2 ω;obtain rfl:ad= ⟨g,0,none⟩ :=by injection u with u;exact u.symm
   have a1:=mM 1 ω;rw[oh]at a1;replace a1:w2.cell? ⟨g,1,none⟩ =some (.slice xA 1 xc):=a1;obtain⟨xm,UA,jE,r⟩ :=I.2.1.at_ (i:=0) (by show 0<1;omega);replace UA:xA=some xm:=UA;subst UA;rw[add_zero']at r;replace r:w2.cell? xm=some (.int .i64 (a:Int)):=r;have Fs:a<n:=by have:=M.out;omega
   have cA:(0:Int)<=a/\(a:Int)<n:=ω;have co:=U.2.cell (i:=a) ω;have cz:=(Own.ar U.2).frozen' (i:=a) ω;have o:=U.put Fs 1;have Y:Below w.heap.size w (w2.setCell ⟨w.heap.size,a,none⟩ (.int .i64 1)):=Z.setCell (p:= ⟨w.heap.size,a,none⟩) (ai _) _
   have cu:=η (oQ.mk Gt.out (by rw[eB];exact aT ..) Y o ⟨by rw[eB,aT];exact M.out, .inr (.inl ⟨(a:Int),Vu,λi hi=>by
    unfold ix;rw[aq,List.getElem?_set];by_cases e:a=i
    · subst e;rw[af rfl,af (by rw[aT];exact Fs),af rfl];rfl
    rw[aa e,aa ω,dI];split <;> rfl⟩)⟩)
   clear be z Sy O LQ hA Vu Dx wZ sI I u Qa mM o Y U Z Fs X W jE
   go_wp2_with fail;go_returns;exact cu.out
 have cH:((q:Int)==0)=false:=ξ;have ee:((q:Int)==1)=false:=ξ;have cb:2<=q:=ω
 obtain⟨g,rfl,X,W⟩ :∃g,A=some ⟨g,0,none⟩/\w.heap.size+1<=g/\g<w2.heap.size:=by
  rcases hA with ⟨_,h⟩ | h
  · omega
  exact h
 obtain⟨m1,rU⟩ :=ν (G-1);have ea:(G:Int)-1=(m1:Int):=by have:=J.out;omega
 have hF:Hid (∀p∈fD (qK f) S,0<=p.w/\p.w<=1048576/\p.l.length<=1):=λp hp=>by
  obtain⟨s,hs,e1,e2⟩ :=kB p hp;rw[e1,e2];unfold qK;by_cases cB:s.toNat<f.length
  · have:=J.out.2.1 _ cB;simp;omega
  have:ix f s.toNat=0:=by unfold ix;rw[aq,bw ω];rfl
  rw[this];simp
 obtain⟨F,am⟩ :=ν (fD (qK f) S);have Us:F.length=q:=by rw[<-am,kA];exact z.symm
 rw[am]at Vt hF;have fy:Hid (LoR w2 g F (w.heap.size+1) G m1 (.slice (some ⟨g,0,none⟩) q c) (.int .i64 0) w2):= ⟨0,g,q,c,rfl,rfl,τ J.out,Vt,O,X,W,ax _ _,by show m1=_;omega⟩;have Yv:=η am;have E:=η (⟨Vt,cb,Sy,Us,rU,X,W⟩ :vy w2 w2.heap.size (λg=>g<w.heap.size+1) (some ⟨g,0,none⟩) q F/\2<=q/\q<=n/\F.length=q/\G-1=m1/\w.heap.size+1<=g/\g<w2.heap.size);have eg:(0:Int)<=m1/\(m1:Int)<=14:=by have:=J.out;omega
 have ec:(2:Int)<=q/\(q:Int)<=288:=ω;have dz:=η (⟨U,Z⟩ :_/\_);clear be O6 z Sy O LQ Vt hA cb X W rU am Us U Z
 go_wp2_with fail;go_loopg [9,44] m1 (LoR w2 g F (w.heap.size+1) G)
 case atStart=>exact fy.out
 clear fy;obtain⟨i,L,q3,c3,rfl,rfl,bp,Q,aE,bs,V,ZO,hk⟩ :=hrel;have Us:=E.out.2.2.2.1
 have ae:q3=(lev F i).length:=by
  obtain⟨D,wZ,sI⟩ :=Q.out;rw[wZ.1,sI.length]
 have bt:=a0y F i;have yB:=a4q F i;have cg:=J.out.2.2.2;have cd:(2:Nat) ^ i<=2 ^ 14:=bC ω ω
 have cc:(2:Int) ^ i<=16384:=by have:((2 ^ i:Nat):Int)<=((2 ^ 14:Nat):Int):=ω
                                simpa using this
 have ac:SmP (lev F i):=λp hp=>by
  have:=QN (n:=n) hF.out i p hp;refine⟨this.1, ?_, ?_⟩
  · have h2:p.w<=1048576*2 ^ i:=this.2.1;omega
  have h3:p.l.length<=2 ^ i:=this.2.2;have:(2:Nat) ^ 14=16384:=δ;omega
 by_cases bo:i<m1
 · have vV:(i:Int)<(m1:Int)/\(0:Int)<=i:=ω;have cv:=ZO.size;have cp:=η (Mv wr L q3 c3 wr.heap.size (lev F i) (λg=>g<w.heap.size+1) (λg hg=>by have:=HQ.out.2.2.2;omega) Q.out (ai _) (by have:=E.out;have:=J.out;have:=M.out;omega) ac (τ E.out));have HI:=η (⟨bp,bo,bt,yB,ae,Us⟩ :_/\_/\_/\_/\_/\_);clear bp bo bt yB ae Us cg cd cc ac Q aE bs V cv
   go_wp2_with fail;refine cp.out.mono ?_;rintro e w5 ⟨g5,q5,c5,rfl,mr,bl,ca,oz,dp⟩;have UM:=ZO.trans (mr.mono ZO.size)
   have cG:q5=(dv (lev F i)).length:=by
    obtain⟨D,wZ,sI⟩ :=bl;rw[wZ.1,sI.length]
   have bi:=kD (lev F i);have cq:=η (Mf w5 w5.heap.size q c q5 c5 (some ⟨g,0,none⟩) (some ⟨g5,0,none⟩) F (dv (lev F i)) (λg=>g<w.heap.size+1) ((E.out.1.below UM).more UM.size) bl (ai _) (τ E.out) (by have:=E.out;have:=J.out;have:=M.out;omega) (by have:=HI.out;have:=E.out;have:=J.out;have:=M.out;omega) HQ.out.2.2.1 ca);clear mr bl ca oz dp cG bi cp
   go_wp2_with fail;refine cq.out.mono ?_;rintro e w6 ⟨g6,q6,c6,rfl,nj,cL,cD,mS,dl⟩;clear cq
   go_wp2_with fail;go_roundg (m1-(i+1))
   case measure=>have:=hk.out;have:=HI.out;have:=E.out;omega
   refine⟨i+1,g6,q6,c6,rfl,by go_num,by have:=HI.out;have:=E.out;have:=J.out;omega,cL,cD, ?_,dl,UM.trans (nj.mono UM.size),by show _=_;have:=E.out;omega⟩;have:=UM.size;have:=HQ.out.2.2.2;omega
 have dj:i=m1:=by have:=E.out;omega
 subst dj;have vV:¬(i:Int)<(i:Int):=ω;obtain⟨K,hK⟩ :=ν (2*q-2);have eb:2*(q:Int)-2=(K:Int):=by have:=E.out;omega
 have cn:K<=q3:=by
  have h9:=J7 (F:=F) (n:=2) (k:=i) (by
   rw[Us,HQ.out.1,HS.out.1.length_eq];have h8:=J.out.2.2.1;rw[aX]at h8;have h7:G=i+1:=by have:=E.out;omega
   rw[h7,fG]at h8;omega)
  omega
 have es:(0:Int)<=K/\(K:Int)<=600:=ω;obtain⟨j0,cj,db,ci,da⟩ :=aL wG;have oJ:=CP cj ci (some ⟨L,0,none⟩) q3 c3 (j:=K) ω;obtain⟨U,Z⟩ :=dz.out;have ce:=U.keeps ZO
 have N:mB n (sG ((lev F i).take 0))=List.replicate n 0:=by
  apply fw
  · simp [mB]
  intro j h1 h2;simp [mB,sG]
 have fy:Hid (OuR wr w.heap.size n w.heap.size (lev F i) K K (.int .i64 0) wr):= ⟨0,rfl,aF _,by rw[N];exact ce,bk.refl _ _,rfl⟩;have cm:=Z.trans (ZO.mono Z.size);have HE:=η (⟨Q.out,hK,cn,aE,bs,V,cm,ae,ac⟩ :vy wr wr.heap.size (λg=>g<w.heap.size+1) (some ⟨L,0,none⟩) q3 (lev F i)/\2*q-2=K/\K<=q3/\q3<=c3/\w.heap.size+1<=L/\L<wr.heap.size/\Below w.heap.size w wr/\q3=(lev F i).length/\SmP (lev F i));clear N ce U Z hK cn aE bs V cm ae ac Q bt yB cg cd cc bp bo ZO cj db ci da Us;obtain⟨ws,ct⟩ :∃ws,ws=wr:= ⟨_,rfl⟩;subst ct
 go_wp2_with fail;go_loopg [58] K (OuR ws w.heap.size n w.heap.size (lev F i) K)
 case atStart=>exact fy.out
 clear fy oJ;obtain⟨j,rfl,de,H,b,cX⟩ :=hrel;by_cases hj:j<K
 rotate_left
 · have dd:j=K:=ω;subst dd;have Y9:¬(j:Int)<(j:Int):=ω;obtain⟨cJ,e2,e3,e4,e5,e6,e7,e8,e9⟩ :=HE.out;have Y:Below w.heap.size w wr:=e7.trans (b.below (λk hk=>by subst hk;exact ai _) e7.size)
   have an:mD f ((G:Int)).toNat (mB n (sG ((lev F i).take j))):=by
    refine⟨by rw[qB];exact M.out, .inr (.inr ⟨S,HS.out.1,HS.out.2,ε E.out HQ.out,λi' ej=> ?_⟩)⟩;rw[LW _ (τ M.out),aX];unfold tZ Gd;rw[Yv.out,show G-1=i by have:=E.out;omega,show 2*S.length-2=j by have:=HQ.out.1;omega]
   have cu:=η (oQ.mk Gt.out (qB ..) Y H an);clear cJ e2 e3 e4 e5 e6 e7 e8 e9 Y an H b hj de
   go_wp2_with fail;go_returns;exact cu.out
 have Y9:(j:Int)<(K:Int)/\(0:Int)<=j:=ω;obtain⟨⟨D,pd,Yb⟩,e2,e3,e4,e5,e6,e7,e8,e9⟩ :=HE.out;have ds:D.length=(lev F i).length:=Yb.length;have I:=Yb.at_ (0,none,0,0) ⟨0,[]⟩ j ω
 change mz _ _ _ (el D j) _ at I
 obtain⟨p,hp⟩ :=ν ((lev F i).getD j ⟨0,[]⟩);obtain⟨x,hx⟩ :=ν (el D j);rw[hp,hx]at I
 have B:p∈lev F i:=by
  rw[<-hp,aq,br ω];exact bU _
 have jJ:(lev F i).take (j+1)=(lev F i).take j++[p]:=by
  rw[bb ω,<-hp];simp [show j<(lev F i).length by omega]
 obtain⟨xw,xA,y,xc⟩ :=x;obtain⟨ad,u,Qa,mM⟩ :=pd.2 ω;obtain rfl:ad= ⟨L,0,none⟩ :=by injection u with u;exact u.symm
 have ck:¬L=w.heap.size:=ω
 have cell:∀t,t<q3*2->wr.cell? ⟨L,t,none⟩ =some (yJ D t):=λt ht=>by
  have:=mM t ht;rw[oh]at this;exact(b.cell (p:= ⟨L,t,none⟩) e6 ck).trans this
 have a0:=cell (j*2) ω;have a1:=cell (j*2+1) ω;rw[tG D rfl,hx]at a0;rw[xq D rfl,hx]at a1;replace a0:wr.cell? ⟨L,j*2,none⟩ =some (.int .i64 xw):=a0;replace a1:wr.cell? ⟨L,j*2+1,none⟩ =some (.slice xA y xc):=a1;have Cp:y=p.l.length:=I.2.1.1;have bi:=(e9 p B).2.2;have dA:(0:Int)<=y/\(y:Int)<=400000:=ω;have er:L<wr.heap.size:=aB e6 b.size;have en:¬L=wr.heap.size:=ω;have HP:=η (⟨I,B,jJ,Cp,hj,b,H⟩ :mz ws ws.heap.size (λg=>g<w.heap.size+1) (xw,xA,y,xc) p/\p∈lev F i/\(lev F i).take (j+1)=(lev F i).take j++[p]/\y=p.l.length/\j<K/\bk ws wr (λx=>x=w.heap.size)/\ba .i64 wr w.heap.size 3 (some ⟨w.heap.size,0,none⟩) n n (mB n (sG ((lev F i).take j))));have fy:Hid (a5a ws w.heap.size n w.heap.size (sG ((lev F i).take j)) p.l y (.int .i64 0) (wr.alloc (.cells #[.int .i64 xw, .slice xA y xc] 180))):= ⟨0,rfl,aF _,by rw[iE,aA];exact H.alloc _,b.alloc _,by show y=_;omega⟩;clear cell mM hp hx u Qa Yb pd I B jJ Cp hj b H ds e2 e3 e4 e5 e6 e7 e8 e9 bi ck
 go_wp2_with fail;go_loopg [65] y (a5a ws w.heap.size n w.heap.size (sG ((lev F i).take j)) p.l)
 case atStart=>exact fy.out
 clear fy a0 a1;obtain⟨t,rfl,Bg,H,b,cQ⟩ :=hrel;obtain⟨I,B,jJ,Cp,hj,cl,Yc⟩ :=HP.out;by_cases ht:t<y
 rotate_left
 · have cw:¬(t:Int)<(y:Int):=ω
   have ID:sG ((lev F i).take j)++p.l.take t=sG ((lev F i).take (j+1)):=by
    have Sk:p.l.take t=p.l:=aC ω;rw[jJ,qJ,Sk];simp [sG]
   rw[ID]at H;have HR:=η (⟨H,b,hj⟩ :_/\_/\j<K);clear H b hj ID I B jJ Cp cl Yc ht
   go_wp2_with fail;go_roundg (K-(j+1))
   case measure=>have:=cX.out;have:=HR.out.2.2;omega
   case rel=>exact⟨j+1,by go_num,τ HR.out.2.2,HR.out.1,HR.out.2.1,rfl⟩
 have cw:(t:Int)<(y:Int)/\(0:Int)<=t:=ω;have Qt:∀gx,ak xA=some gx->¬gx=w.heap.size:=λgx dk=>by have:=I.2.2 (show 0<y by omega) gx dk;omega
 have rl:=b.ri I.2.1 (ai _) (λ_ ad e1 hs=>Qt ad.block (by have e2:xA=some ad:=e1;rw[e2];rfl) hs);obtain⟨xm,UA,jE,r⟩ :=rl.at_ (i:=t) ht;subst UA;obtain⟨sy,QG⟩ :=ν (ix p.l t);rw[QG]at r;have bL:sy∈p.l:=by rw[<-QG];exact Bh ω
 have ap:sy∈S:=by
  rw[<-Yv.out]at B;exact(Md (qK f) S i p B).2 sy bL
 obtain⟨a,Dx,rfl⟩ :=zH sy (HS.out.1.mem_iff.1 ap);have Fs:a<n:=by have:=M.out;omega
 obtain⟨T,hT⟩ :=ν (sG ((lev F i).take j)++p.l.take t)
 have dq:T.count (a:Int)<=15:=by
  have h1:=Py (t:=t) hj jJ (a:Int);rw[hT]at h1
  have h2:=(xN (f:=qK f) (S:=S) (m:=G) ((HS.out.1.nodup_iff).2 (xV f _)) HS.out.2.le (λs hs=>by
   obtain⟨k,hk,rfl⟩ :=zH s (HS.out.1.mem_iff.1 hs);unfold qK;rw[aX];exact(J.out.2.1 k hk).1) (ε E.out HQ.out) J.out.2.2.2.1 (by
   rw[HS.out.1.length_eq];have:=J.out.2.2.1
   rwa [aX]at this)).bd (a:Int) ap
  have h3:(sG ((lev F i).take K)).count (a:Int)=tZ (qK f) S G (a:Int):=by
   unfold tZ Gd;rw[Yv.out,show G-1=i by have:=E.out;omega,show 2*S.length-2=K by have:=HE.out.2.1;have:=HQ.out.1;omega]
  have h4:=J.out.2.2.2.2;omega
 rw[hT]at H;have cx:a<(mB n T).length:=by rw[qB];exact Fs
 have co:=H.2.cell (i:=a) ω;have cz:=(Own.ar H.2).frozen' (i:=a) ω;obtain⟨v,hv⟩ :=ν (ix (mB n T) a);rw[hv]at co;have dT:(0:Int)<=v/\v<=15:=by rw[<-hv,LW T Fs];omega
 have o:=H.put Fs (v+1);rw[<-hv,<-Tu T rfl Fs]at o;rw[hv]at o;have ZW:=b.setCell (p:= ⟨w.heap.size,a,none⟩) (.inl rfl) (.int .i64 (v+1))
 have bI:sG ((lev F i).take j)++p.l.take (t+1)=T++[(a:Int)]:=by
  rw[<-hT,av];congr 1;have ch:t<p.l.length:=ω;rw[bb ch,<-QG];simp [ix,ch]
 have cA:(0:Int)<=a/\(a:Int)<n:=ω;have HR:=η (⟨o,ZW,bI,Bg,ht,Cp⟩ :_/\_/\_/\_/\_/\_);clear o ZW bI Bg ht Cp dq cx hv hT bL ap QG rl Qt jE I B jJ hj cl Yc Dx Fs H b
 go_wp2_with fail;go_roundg (y-(t+1))
 case measure=>have:=cQ.out;have:=HR.out;omega
 obtain⟨q1,q2,cs,q4,q5,q6⟩ :=HR.out;exact⟨t+1,by go_num,ω,by rw[cs];exact q1,q2,by show _=_;omega⟩
theorem a2y {l:aj} {most:Int} (h:bg l most=0):l.length<=288/\(∀i,i<l.length->0<=ix l i/\ix l i<=15)/\sumTo l l.length<=32768:=by
 unfold bg at h;split at h
 · simp at h
 split at h
 · simp at h
 split at h
 · simp at h
 rename_i c a b
 refine⟨ω, ?_,ω⟩;have:zh l most l.length=true:=by simpa using a
 have h4:∀i,i<l.length->0<=ix l i/\ix l i<=most:=by simpa [zh] using this
 exact λi hi=> ⟨(h4 i hi).1,τ ((h4 i hi).2)⟩
theorem ND (f:aj) (k:Nat):qK f (k:Int)=ix f k:=by unfold qK;rw[aX]
theorem rh {f:aj}:∀k:Nat,∀s,s∈eo f k↔∃i:Nat,i<k/\s=(i:Int)/\0<ix f i
 | 0,s=> ⟨λh=>by simp [eo]at h,λ⟨i,h,_⟩ =>absurd h ω⟩
 | k+1,s=>by
   rw[eo,aP,rh k s];constructor
   · rintro(⟨i,c,b,a⟩ | h)
     · exact⟨i,ω,b,a⟩
     split at h
     · exact⟨k,ω,by simpa using h, ‹_›⟩
     simp at h
   rintro⟨i,c,rfl,a⟩;by_cases e:i=k
   · subst e;right;rw[af a];simp
   exact .inl ⟨i,ω,rfl,a⟩
def krP (f:aj) (m:Nat) (h:Int->Nat):Nat:=((eo f f.length).map λs=>2 ^ (m-h s)).sum
theorem mD.three {f L:aj} {m:Nat} (d:mD f m L) (g:oN f (m:Int)=0) (c:2<=(eo f f.length).length):
  (∀s∈eo f f.length,1<=ix L s.toNat/\ix L s.toNat<=m)/\krP f m (λs=>(ix L s.toNat).toNat)=2 ^ m:=by
 obtain⟨m1,m2,m3,m4,m5⟩ :=FE g;rw[aX]at m5;obtain⟨-,d⟩ :=d;rcases d with ⟨h,_⟩ | ⟨s,h,_⟩ | ⟨S,hp,a,j,k⟩
 · rw[h]at c;simp at c
 · rw[h]at c;simp at c
 have e:∀s∈S,∃i:Nat,i<f.length/\s=(i:Int)/\0<ix f i:=λs a=>(rh _ s).1 (hp.mem_iff.1 a)
 have b:=xN (f:=qK f) (S:=S) (m:=m) (hp.nodup_iff.2 (xV f f.length)) a.le (λs a=>by
  obtain⟨i,hi,rfl,_⟩ :=e s a;rw[ND];exact(m4 i hi).1) j ω (by rw[hp.length_eq];exact m5)
 have hv:∀s∈S,ix L s.toNat=((tZ (qK f) S m s:Nat):Int):=λs a=>by
  obtain⟨i,hi,rfl,_⟩ :=e s a;rw[aX,k i hi]
 refine⟨λs a=> ?_, ?_⟩
 · have a:=hp.mem_iff.2 a;rw[hv s a];have:=b.bd s a;omega
 unfold krP;rw[<-JK (hp.map _),<-b.whole];congr 1;exact df λs a=>by show 2 ^ (m-(ix L s.toNat).toNat)=_;rw[hv s a,aX]
theorem IX (l f:aj) (m:Nat) (c:m<=15):∀k:Nat,(∀i,i<k->if 0<ix f i then 1<=ix l i/\ix l i<=m else ix l i=0)->((eo f k).map λs=>2 ^ (m-(ix l s.toNat).toNat)).sum*2 ^ (15-m)=sumTo l k
 | 0,_=>by simp [eo,sumTo]
 | k+1,h=>by
   have b:=IX l f m c k λi hi=>h i ω;rw[sumTo,eo,dR,List.sum_append,eD,b];congr 1;have a:=h k ω;by_cases hp:0<ix f k
   · rw[af hp]at a;obtain⟨e,d⟩ :=a;rw[af hp];show(List.map _ [(k:Int)]).sum*_=_;rw[List.map_cons,List.map_nil,List.sum_cons,List.sum_nil,aX,jC];obtain⟨v,hv⟩ :=aJ (show 0<=ix l k by omega);have hv:ix l k=(v:Int):=hv;rw[hv]at e d⊢;rw[qj ω ω,aX,qX,<-Nat.pow_add,show m-v+(15-m)=15-v by omega]
   rw[aa hp]at a;rw[aa hp,a,nC ω];simp
structure a8P (l f:aj) (n:Nat) (m:Int):Prop where
 len:l.length=n
 each:∀i,i<n->(0<ix l i↔0<ix f i)/\0<=ix l i/\ix l i<=m
 few:(eo f n).length<2->(sumTo l n:Int)=16384*((eo f n).length:Int)
 many:2<=(eo f n).length->sumTo l n=32768
theorem JM {l:aj}:∀k:Nat,(∀i,i<k->ix l i=0)->sumTo l k=0
 | 0,_=>rfl
 | k+1,h=>by rw[sumTo,JM k λi hi=>h i ω,h k ω,nC ω]
theorem mD.snd {f L:aj} {m:Nat} (g:mD f m L) (y:oN f (m:Int)=0):a8P L f f.length m:=by
 obtain⟨m1,m2,m3,m4,m5⟩ :=FE y;by_cases p:2<=(eo f f.length).length
 · obtain⟨G,u⟩ :=g.three y p
   have b:∀i,i<f.length->¬0<ix f i->ix L i=0:=λi hi a=>by
    obtain⟨-,g⟩ :=g;rcases g with ⟨h,h'⟩ | ⟨s,h,h'⟩ | ⟨S,hp,n,o,z⟩
    · exact h' i hi
    · rw[h' i hi,aa λe=> ?_];have:(i:Int)∈eo f f.length:=by rw[h,e];simp
      obtain⟨j,_,q,l⟩ :=(rh _ _).1 this;have:i=j:=ω;subst this;exact a l
    rw[z i hi]
    have r:(i:Int)∉S:=λD=>by
     obtain⟨j,_,q,l⟩ :=(rh _ _).1 (hp.mem_iff.1 D);have:i=j:=ω;subst this;exact a l
    have C:∀s∈S,∃i:Nat,i<f.length/\s=(i:Int)/\0<ix f i:=λs n=>(rh _ s).1 (hp.mem_iff.1 n)
    have t:=xN (f:=qK f) (S:=S) (m:=m) (hp.nodup_iff.2 (xV f f.length)) n.le (λs n=>by
     obtain⟨i,hi,rfl,_⟩ :=C s n;rw[ND];exact(m4 i hi).1) o ω (by rw[hp.length_eq];rw[aX]at m5;exact m5)
    rw[t.out _ r];rfl
   have d:∀i,i<f.length->0<ix f i->1<=ix L i/\ix L i<=m:=λi hi a=>by
    have:=G (i:Int) ((rh _ _).2 ⟨i,hi,rfl,a⟩);rw[aX]at this;exact this
   refine⟨g.1,λi hi=> ?_,λh=>ω,λ_=> ?_⟩
   · by_cases a:0<ix f i
     · have:=d i hi a;omega
     have:=b i hi a;omega
   have F:=IX L f m ω f.length λi hi=>by
    by_cases a:0<ix f i
    · rw[af a];exact d i hi a
    rw[aa a];exact b i hi a
   unfold krP at u;rw[<-F,u,<-Nat.pow_add,show m+(15-m)=15 by omega]
 obtain⟨c,g⟩ :=g;rcases g with ⟨h,h'⟩ | ⟨s,h,h'⟩ | ⟨S,hp,n,o,z⟩
 · refine⟨c,λi hi=> ?_,λ_=> ?_,λl=>absurd l p⟩
   · have I:¬0<ix f i:=λa=>by
      have:=(rh f.length (i:Int)).2 ⟨i,hi,rfl,a⟩;rw[h]at this;simp at this
     have:=h' i hi;omega
   rw[JM _ h',h];rfl
 · obtain⟨j,E,rfl,w⟩ :=(rh f.length s).1 (by rw[h];simp)
   have x:∀i,i<f.length->(0<ix f i↔i=j):=λi hi=>by
    constructor
    · intro a;have:=(rh f.length (i:Int)).2 ⟨i,hi,rfl,a⟩;rw[h]at this;have:=bf.1 this;omega
    rintro rfl;exact w
   have hv:∀i,i<f.length->ix L i=if i=j then 1 else 0:=λi hi=>by
    rw[h' i hi];by_cases e:i=j
    · rw[af e,af ω]
    rw[aa e,aa ω]
   have B:∀k,k<=f.length->sumTo L k=if j<k then 16384 else 0:=λk=>by
    induction k with
    | zero=>intro _;rfl
    | succ k A=>
      intro u;rw[sumTo,A ω,hv k ω];by_cases e:k=j
      · subst e;rw[aa ω,af rfl,af ω];have:=qj (v:=1) ω ω;have H:share 1=qX 1:=this;rw[H];rfl
      rw[aa e,nC ω];by_cases q:j<k
      · rw[af q,af ω]
      rw[aa q,aa ω]
   refine⟨c,λi hi=> ?_,λ_=> ?_,λl=>absurd l p⟩
   · have h5:=hv i hi;have h6:=x i hi;by_cases e:i=j
     · rw[af e]at h5;have:=h6.2 e;omega
     rw[aa e]at h5;have:¬0<ix f i:=λh=>e (h6.1 h);omega
   rw[B _ (ai _),af E,h];rfl
 rw[hp.length_eq]at o;exact absurd o p
end Go.Proofs.YtdhmnlpfhfmpfaaGreat
