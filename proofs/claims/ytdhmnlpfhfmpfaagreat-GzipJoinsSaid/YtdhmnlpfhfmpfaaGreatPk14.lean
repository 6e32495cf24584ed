/-
  part
-/
import Derived.Test.YtdhmnlpfhfmpfaaGreatPk13
import Derived.Handy
set_option linter.unusedVariables false
set_option maxRecDepth 100000
set_option maxHeartbeats 4000000
namespace Go.Proofs.YtdhmnlpfhfmpfaaGreat
open Go.RowKit
theorem Fy {f:List Int} {m:Int} (h:oD f m=0):f.length<=288/\1<=m/\m<=15/\(∀i,i<f.length->0<=ix f i/\ix f i<=1048576)/\(dQ f f.length).length<=2 ^ m.toNat:=by
 unfold oD at h;split at h
 · simp at h
 split at h
 · simp at h
 split at h
 · simp at h
 rename_i c a b
 refine⟨ω,ω,ω,λi hi=> ?_,ω⟩;by_cases g:ix f i<0\/1048576<ix f i
 · exact absurd (SE hi g) a
 omega
def ma (n:Nat) (T:List Int):List Int:=(List.range n).map λ(s:Nat)=>((T.count (s:Int):Nat):Int)
theorem qm (n:Nat) (T:List Int):(ma n T).length=n:=by simp [ma]
theorem LK {n:Nat} (T:List Int) {i:Nat} (hi:i<n):ix (ma n T) i=((T.count (i:Int):Nat):Int):=by simp [ma,ix,hi]
def mh (f:List Int) (m:Nat) (L:List Int):Prop:=L.length=f.length/\
 ((dQ f f.length=[]/\∀i,i<f.length->ix L i=0)\/
  (∃s,dQ f f.length=[s]/\∀i:Nat,i<f.length->ix L i=if(i:Int)=s then 1 else 0)\/
  (∃S,S.Perm (dQ f f.length)/\zB f S/\2<=S.length/\∀i:Nat,i<f.length->ix L i=((rK (oA f) S m (i:Int):Nat):Int)))
def oG (w:World) (f:List Int) (m:Int) (e:Ending) (w':World):Prop:=
 ∃A c L,e= .returned (.tuple #[.slice A L.length c, .int .i64 (oD f m)])/\Below w.heap.size w w'/\aW .i64 w' w.heap.size 3 A L.length c L/\(oD f m≠0->L=[])/\(oD f m=0->mh f m.toNat L)
theorem Qk {F:List Pk} {n:Nat} (h:∀p∈F,0<=p.w/\p.w<=1048576/\p.l.length<=1) (k:Nat):∀p∈lev F k,0<=p.w/\p.w<=1048576*2 ^ k/\p.l.length<=2 ^ k:=by
 induction k with
 | zero=>intro p hp;have:=h p hp;simp;omega
 | succ k b=>
   have j:(0:Int)<2 ^ k:=Int.pow_pos ω;have e:=ez k;intro p hp;rw[eP,eB];rcases aN.1 ((pS _ _).mem_iff.1 hp)with a | a
   · have:=h p a;omega
   obtain⟨c,f,d,hd,i,g⟩ :=tE _ p a;have:=b c f;have:=b d hd;rw[i,g,af];omega
theorem a06 (F:List Pk) (k:Nat):(lev F k).length<=2*F.length:=by
 induction k with
 | zero=>show F.length<=_;omega
 | succ k a=>rw[qG];omega
theorem a3T (F:List Pk) (k:Nat):F.length<=(lev F k).length:=by
 cases k with
 | zero=>exact ag _
 | succ k=>rw[qG];omega
theorem oG.mk {w w':World} {f:List Int} {m:Int} {A:Option Addr} {n c:Nat} {L:List Int} (a:oD f m=0) (d:L.length=n) (e:Below w.heap.size w w') (b:aW .i64 w' w.heap.size 3 A n c L) (g:mh f m.toNat L):oG w f m (.returned (.tuple #[.slice A n c, .int .i64 0])) w':=by
 subst d;exact⟨A,c,L,by rw[a],e,b,λh=>absurd a h,λ_=>g⟩
theorem CL {i:TypeInfo} (hi:Tryz.prog.info? 180 =some i) (b:i.size=2) (A:Option Addr) (n c:Nat) {j:Nat} (d:j<=c) (W:World):
  (Instr.slice 177 (.slice A n c) none (some (.int .i64 (j:Int))) none).run Tryz.prog W= .ok (.slice A j c) W:=by
 have a:Tryz.prog.elem 177 = 180 :=by simp [Program.elem,Tryz.underlying177]
 rw[run_slice_h W 177 A n c (by rw[a];exact Tryz.underlying177) .i64 j ω ω,a];simp [sizeOf,typeInfo,hi,b,sliced];cases A <;> simp [Addr.add]
def LoR (w2:World) (gf:Nat) (F:List Pk) (b1:Nat) (m:Nat) (k:Nat) (b a:Value) (wr:World):Prop:=
 ∃(i g q c:Nat),b= .slice (some ⟨g,0,none⟩) q c/\a= .int .i64 i/\i+1<=m/\Hid (vd wr wr.heap.size (λg=>g<b1) (some ⟨g,0,none⟩) q (lev F i))/\q<=c/\b1<=g/\g<wr.heap.size/\Below w2.heap.size w2 wr/\Hid (k=m-1-i)
theorem SR {n:Nat} (T:List Int) {s:Int} {i:Nat} (a:(i:Int)=s) (hi:i<n):ma n (T++[s])=(ma n T).set i (ix (ma n T) i+1):=by
 subst a
 apply fy
 · simp [ma]
 intro j c b;simp only [LK T hi];simp only [ma,List.getElem_map,List.getElem_range,List.getElem_set,List.count_append];by_cases h:i=j
 · subst h;simp
 rw[aa h];have:¬(i:Int)=(j:Int):=ω;simp [this]
theorem zr {f:List Int} {k:Nat}:∀s∈dQ f k,∃i:Nat,i<k/\s=(i:Int):=by
 induction k with
 | zero=>intro s a;simp [dQ]at a
 | succ k b=>
   intro s a;rw[dQ]at a;rcases aN.1 a with h | h
   · obtain⟨i,d,c⟩ :=b s h;exact⟨i,ω,c⟩
   split at h
   · exact⟨k,ω,bg.1 h⟩
   simp at h
theorem xD (f:List Int) (k:Nat):(dQ f k).Nodup:=by
 induction k with
 | zero=>simp [dQ]
 | succ k c=>
   rw[dQ];split
   · refine List.nodup_append.2 ⟨c,σ,λa e b d=> ?_⟩;obtain⟨i,h,g⟩ :=zr a e;rw[bg.1 d,g];omega
   rw[ax];exact c
theorem P8 {P:List Pk} {j K t:Nat} {p:Pk} (c:j<K) (a:P.take (j+1)=P.take j++[p]) (s:Int):(rO (P.take j)++p.l.take t).count s<=(rO (P.take K)).count s:=by
 have e:P.take K=P.take (j+1)++(P.take K).drop (j+1):=by
  have:P.take (j+1)=(P.take K).take (j+1):=by rw[ft,bw ω]
  rw[this,aM]
 rw[e,a,qz,qz,fV,fV,fV];have b:rO [p]=p.l.take t++p.l.drop t:=by rw[aM];simp [rO]
 rw[b,fV];omega
def OuR (b:World) (go n:Nat) (b0:Nat) (P:List Pk) (K:Nat) (k:Nat) (a:Value) (wr:World):Prop:=
 ∃j:Nat,a= .int .i64 j/\j<=K/\aW .i64 wr b0 3 (some ⟨go,0,none⟩) n n (ma n (rO (P.take j)))/\bj b wr (λx=>x=go)/\Hid (k=K-j)
def a4A (b:World) (go n:Nat) (b0:Nat) (T l:List Int) (k:Nat) (a:Value) (wr:World):Prop:=
 ∃t:Nat,a= .int .i64 t/\t<=l.length/\aW .i64 wr b0 3 (some ⟨go,0,none⟩) n n (ma n (T++l.take t))/\bj b wr (λx=>x=go)/\Hid (k=l.length-t)
theorem sH (w:World) (C:Option Addr) (n d:Nat) (f:List Int) (hr:bU .i64 w w.heap.size C n f) (m:Int) (Ff:(n:Int)<=4611686018427387904):
  Calls Tryz.prog 115 #[.slice C n d, .int .i64 m] w (oG w f m):=by
 obtain⟨i0,hi,N,bB,bx⟩ :=aJ xu;have Xd:=η (LN w w.heap.size C n d f hr m Ff);have LA:=hr.1;have M:=η LA;obtain⟨mv,uY⟩ :=ν (oD f m);rw[uY]at Xd;have Gj:=η uY;by_cases ab:mv=0
 rotate_left
 · have ej:(mv != 0)=true:=by simpa using ab
   have dz:=η ab
   have AR:Hid (oG w f m (.returned (.tuple #[.slice none 0 0, .int .i64 mv])) w):=
    ⟨none,0,[],by rw[Gj.out];rfl,aw _ _,aW.dK,λ_=>rfl,λh=>absurd (Gj.out.symm.trans h) dz.out⟩
   clear uY hr LA hi N bB bx ab Ff M Gj;go_enter Tryz.func115,Tryz.ntmps115
   go_wp2_with fail;refine Xd.out.mono ?_;rintro e w1 ⟨rfl,rfl⟩
   go_wp2_with fail;go_returns;exact AR.out
 subst ab;obtain⟨o1,o2,o3,o4,o5⟩ :=Fy uY;obtain⟨G,rfl⟩ :=aG (show 0<=m by omega);have Zz:1<=G/\G<=15:=ω;have Gu:(1:Int)<=G/\(G:Int)<=15:=ω;have xj:(0:Int)<=n/\(n:Int)<=288:=ω;have oN:=fQ (P:=Tryz.prog) 63 3 i0 (.int .i64 0) Tryz.underlying63 hi N bB rfl .i64 .i64 n (by rw[bx];omega) ω w
 have R:aW .i64 (w.alloc (.cells (eD n (.int .i64 0)) 3)) w.heap.size 3 (some ⟨w.heap.size,0,none⟩) n n (List.replicate n 0):=by
  have:=aW.lit (k:= .i64) (w:=w) (b0:=w.heap.size) rfl (List.replicate n 0) 3 (ag _) (by rw[aQ];unfold maxLen;omega);rw[aQ]at this;have e:((List.replicate n (0:Int)).map (Value.int .i64)).toArray=eD n (.int .i64 0):=by unfold eD;simp
  rw[e]at this;exact this
 have bt:Below w.heap.size w (w.alloc (.cells (eD n (.int .i64 0)) 3)):=(aw _ w).alloc (ag _) _;have cr:=η (LO (w.alloc (.cells (eD n (.int .i64 0)) 3)) C n d f ((hr.alloc (ag _) _).more σ) ω (λi hi=>o4 i ω));have J:=η (⟨o1,o4,o5,Zz⟩ :_/\_/\_/\_);clear o1 o2 o3 o4 o5 Zz uY hr LA;go_enter Tryz.func115,Tryz.ntmps115
 go_wp2_with fail;refine Xd.out.mono ?_;rintro e w1 ⟨rfl,rfl⟩
 go_wp2_with fail;refine cr.out.mono ?_;rintro e w2 ⟨A,q,c,S,rfl,ac,UN,hA,ah,rE,O⟩;rw[M.out]at ah;have U:=R.keeps ac;have Z:=bt.trans (ac.mono bt.size)
 have z:q=S.length:=by
  obtain⟨D,yE,sq⟩ :=UN;rw[yE.1,sq.length,jf]
 have HS:=η (⟨ah,rE⟩ :_/\_);have RL:q<=n:=by rw[z,ah.length_eq];have:=zo f f.length;have:=M.out;omega
 have an:(w.alloc (.cells (eD n (.int .i64 0)) 3)).heap.size=w.heap.size+1:=σ;rw[an]at UN hA;have Q9:w.heap.size+1<=w2.heap.size:=by have:=ac.size;rw[an]at this;exact this
 have HQ:=η (⟨z,RL,O,Q9⟩ :q=S.length/\q<=n/\q<=c/\w.heap.size+1<=w2.heap.size);clear oN R bt ac ah rE cr Xd an;by_cases aE:q=0
 · have cH:(q:Int)=0:=ω
   have bX:Hid (oG w f (G:Int) (.returned (.tuple #[.slice (some ⟨w.heap.size,0,none⟩) n n, .int .i64 0])) w2):=
    oG.mk Gj.out (aQ ..) Z U ⟨by rw[aQ];exact M.out, .inl ⟨aC (by rw[<-HS.out.1.length_eq];have:=HQ.out.1;omega),λi hi=>by unfold ix;rw[aq,dC];split <;> rfl⟩⟩
   clear aE z RL O Q9 UN hA U Z
   go_wp2_with fail;go_returns;exact bX.out
 by_cases NH:q=1
 · subst NH
   obtain⟨g,rfl,X,W⟩ :∃g,A=some ⟨g,0,none⟩/\w.heap.size+1<=g/\g<w2.heap.size:=by
    rcases hA with ⟨_,h⟩ | h
    · omega
    exact h
   obtain⟨s,rfl⟩ :∃s,S=[s]:=by
    cases S with
    | nil=>simp at z
    | cons s S=>cases S with
      | nil=>exact⟨s,rfl⟩
      | cons s' S=>simp at z
   have UO:dQ f f.length=[s]:=(List.perm_singleton.1 (HS.out.1.symm));obtain⟨a,Dr,rfl⟩ :=zr s (by rw[UO];exact bg.2 rfl);obtain⟨D,yE,sq⟩ :=UN
   obtain⟨x,rfl,I⟩ :∃x,D=[x]/\lY w2 w2.heap.size (λg=>g<w.heap.size+1) x ⟨oA f (a:Int),[(a:Int)]⟩ :=by
    unfold dO at sq;cases sq with
    | cons k1 k2=>cases k2 with
      | nil=>exact⟨_,rfl,k1⟩
   obtain⟨xw,xA,y,xc⟩ :=x;have Cj:y=1:=I.2.1.1;subst Cj;obtain⟨ad,u,PC,mD⟩ :=yE.2 ω;obtain rfl:ad= ⟨g,0,none⟩ :=by injection u with u;exact u.symm
   have a1:=mD 1 ω;rw[nY]at a1;replace a1:w2.cell? ⟨g,1,none⟩ =some (.slice xA 1 xc):=a1;obtain⟨wQ,U3,lr,r⟩ :=I.2.1.at_ (i:=0) (by show 0<1;omega);replace U3:xA=some wQ:=U3;subst U3;rw[add_zero']at r;replace r:w2.cell? wQ=some (.int .i64 (a:Int)):=r;have Fk:a<n:=by have:=M.out;omega
   have cA:(0:Int)<=a/\(a:Int)<n:=ω;have co:=U.2.cell (i:=a) ω;have cz:=(Own.ar U.2).frozen' (i:=a) ω;have o:=U.put Fk 1;have Y:Below w.heap.size w (w2.setCell ⟨w.heap.size,a,none⟩ (.int .i64 1)):=Z.setCell (p:= ⟨w.heap.size,a,none⟩) (ag _) _
   have bX:=η (oG.mk Gj.out (by rw[eo];exact aQ ..) Y o ⟨by rw[eo,aQ];exact M.out, .inr (.inl ⟨(a:Int),UO,λi hi=>by
    unfold ix;rw[aq,List.getElem?_set];by_cases e:a=i
    · subst e;rw[ae rfl,ae (by rw[aQ];exact Fk),ae rfl];rfl
    rw[aa e,aa ω,dC];split <;> rfl⟩)⟩)
   clear aE z RL O Q9 hA UO Dr yE sq I u PC mD o Y U Z Fk X W lr
   go_wp2_with fail;go_returns;exact bX.out
 have cH:((q:Int)==0)=false:=ξ;have eg:((q:Int)==1)=false:=ξ;have cb:2<=q:=ω
 obtain⟨g,rfl,X,W⟩ :∃g,A=some ⟨g,0,none⟩/\w.heap.size+1<=g/\g<w2.heap.size:=by
  rcases hA with ⟨_,h⟩ | h
  · omega
  exact h
 obtain⟨m1,rG⟩ :=ν (G-1);have ec:(G:Int)-1=(m1:Int):=by have:=J.out;omega
 have hF:Hid (∀p∈dO (oA f) S,0<=p.w/\p.w<=1048576/\p.l.length<=1):=λp hp=>by
  obtain⟨s,hs,e1,e2⟩ :=kj p hp;rw[e1,e2];unfold oA;by_cases cB:s.toNat<f.length
  · have:=J.out.2.1 _ cB;simp;omega
  have:ix f s.toNat=0:=by unfold ix;rw[aq,br ω];rfl
  rw[this];simp
 obtain⟨F,al⟩ :=ν (dO (oA f) S);have TS:F.length=q:=by rw[<-al,jf];exact z.symm
 rw[al]at UN hF;have fA:Hid (LoR w2 g F (w.heap.size+1) G m1 (.slice (some ⟨g,0,none⟩) q c) (.int .i64 0) w2):= ⟨0,g,q,c,rfl,rfl,by have:=J.out;omega,UN,O,X,W,aw _ _,by show m1=_;omega⟩;have bv:=η al;have E:=η (⟨UN,cb,RL,TS,rG,X,W⟩ :vd w2 w2.heap.size (λg=>g<w.heap.size+1) (some ⟨g,0,none⟩) q F/\2<=q/\q<=n/\F.length=q/\G-1=m1/\w.heap.size+1<=g/\g<w2.heap.size);have en:(0:Int)<=m1/\(m1:Int)<=14:=by have:=J.out;omega
 have ef:(2:Int)<=q/\(q:Int)<=288:=ω;have dP:=η (⟨U,Z⟩ :_/\_);clear aE NH z RL O Q9 UN hA cb X W rG al TS U Z
 go_wp2_with fail;go_loopg [9,44] m1 (LoR w2 g F (w.heap.size+1) G)
 case atStart=>exact fA.out
 clear fA;obtain⟨i,L,q3,c3,rfl,rfl,bo,Q,ap,bp,V,YY,hk⟩ :=hrel;have TS:=E.out.2.2.2.1
 have ZM:q3=(lev F i).length:=by
  obtain⟨D,yE,sq⟩ :=Q.out;rw[yE.1,sq.length]
 have bs:=a06 F i;have Cf:=a3T F i;have ce:=J.out.2.2.2;have cd:(2:Nat) ^ i<=2 ^ 14:=bq ω ω
 have cc:(2:Int) ^ i<=16384:=by have:((2 ^ i:Nat):Int)<=((2 ^ 14:Nat):Int):=ω
                                simpa using this
 have ZT:SmP (lev F i):=λp hp=>by
  have:=Qk (n:=n) hF.out i p hp;refine⟨this.1, ?_, ?_⟩
  · have h2:p.w<=1048576*2 ^ i:=this.2.1;omega
  have h3:p.l.length<=2 ^ i:=this.2.2;have:(2:Nat) ^ 14=16384:=δ;omega
 by_cases bl:i<m1
 · have vJ:(i:Int)<(m1:Int)/\(0:Int)<=i:=ω;have cv:=YY.size;have cp:=η (Mf wr L q3 c3 wr.heap.size (lev F i) (λg=>g<w.heap.size+1) (λg hg=>by have:=HQ.out.2.2.2;omega) Q.out (ag _) (by have:=E.out;have:=J.out;have:=M.out;omega) ZT (by have:=E.out;omega));have HI:=η (⟨bo,bl,bs,Cf,ZM,TS⟩ :_/\_/\_/\_/\_/\_);clear bo bl bs Cf ZM TS ce cd cc ZT Q ap bp V cv
   go_wp2_with fail;refine cp.out.mono ?_;rintro e w5 ⟨g5,q5,c5,rfl,kY,bi,ca,om,ds⟩;have U8:=YY.trans (kY.mono YY.size)
   have cE:q5=(di (lev F i)).length:=by
    obtain⟨D,yE,sq⟩ :=bi;rw[yE.1,sq.length]
   have be:=jk (lev F i);have cq:=η (LS w5 w5.heap.size q c q5 c5 (some ⟨g,0,none⟩) (some ⟨g5,0,none⟩) F (di (lev F i)) (λg=>g<w.heap.size+1) ((E.out.1.below U8).more U8.size) bi (ag _) (by have:=E.out;omega) (by have:=E.out;have:=J.out;have:=M.out;omega) (by have:=HI.out;have:=E.out;have:=J.out;have:=M.out;omega) HQ.out.2.2.1 ca);clear kY bi ca om ds cE be cp
   go_wp2_with fail;refine cq.out.mono ?_;rintro e w6 ⟨g6,q6,c6,rfl,mb,cW,cD,lX,dq⟩;clear cq
   go_wp2_with fail;go_roundg (m1-(i+1))
   case measure=>have:=hk.out;have:=HI.out;have:=E.out;omega
   refine⟨i+1,g6,q6,c6,rfl,by go_num,by have:=HI.out;have:=E.out;have:=J.out;omega,cW,cD, ?_,dq,U8.trans (mb.mono U8.size),by show _=_;have:=E.out;omega⟩;have:=U8.size;have:=HQ.out.2.2.2;omega
 have dl:i=m1:=by have:=E.out;omega
 subst dl;have vJ:¬(i:Int)<(i:Int):=ω;obtain⟨K,hK⟩ :=ν (2*q-2);have ee:2*(q:Int)-2=(K:Int):=by have:=E.out;omega
 have cm:K<=q3:=by
  have h9:=IM (F:=F) (n:=2) (k:=i) (by
   rw[TS,HQ.out.1,HS.out.1.length_eq];have h8:=J.out.2.2.1;rw[aU]at h8;have h7:G=i+1:=by have:=E.out;omega
   rw[h7,eB]at h8;omega)
  omega
 have eu:(0:Int)<=K/\(K:Int)<=600:=ω;obtain⟨j0,ci,dd,ch,db⟩ :=aJ vW;have oP:=CL ci ch (some ⟨L,0,none⟩) q3 c3 (j:=K) ω;obtain⟨U,Z⟩ :=dP.out;have ZF:=U.keeps YY
 have N:ma n (rO ((lev F i).take 0))=List.replicate n 0:=by
  apply fy
  · simp [ma]
  intro j h1 h2;simp [ma,rO]
 have fA:Hid (OuR wr w.heap.size n w.heap.size (lev F i) K K (.int .i64 0) wr):= ⟨0,rfl,aF _,by rw[N];exact ZF,bj.refl _ _,rfl⟩;have cl:=Z.trans (YY.mono Z.size);have HE:=η (⟨Q.out,hK,cm,ap,bp,V,cl,ZM,ZT⟩ :vd wr wr.heap.size (λg=>g<w.heap.size+1) (some ⟨L,0,none⟩) q3 (lev F i)/\2*q-2=K/\K<=q3/\q3<=c3/\w.heap.size+1<=L/\L<wr.heap.size/\Below w.heap.size w wr/\q3=(lev F i).length/\SmP (lev F i));clear N ZF U Z hK cm ap bp V cl ZM ZT Q bs Cf ce cd cc bo bl YY ci dd ch db TS;obtain⟨ws,ct⟩ :∃ws,ws=wr:= ⟨_,rfl⟩;subst ct
 go_wp2_with fail;go_loopg [58] K (OuR ws w.heap.size n w.heap.size (lev F i) K)
 case atStart=>exact fA.out
 clear fA oP;obtain⟨j,rfl,dj,H,b,da⟩ :=hrel;by_cases hj:j<K
 rotate_left
 · have de:j=K:=ω;subst de;have dk:¬(j:Int)<(j:Int):=ω;obtain⟨cL,e2,e3,e4,e5,e6,e7,e8,e9⟩ :=HE.out;have Y:Below w.heap.size w wr:=e7.trans (b.below (λk hk=>by subst hk;exact ag _) e7.size)
   have am:mh f ((G:Int)).toNat (ma n (rO ((lev F i).take j))):=by
    refine⟨by rw[qm];exact M.out, .inr (.inr ⟨S,HS.out.1,HS.out.2,by have:=E.out;have:=HQ.out;omega,λi' er=> ?_⟩)⟩;rw[LK _ (by have:=M.out;omega),aU];unfold rK G5;rw[bv.out,show G-1=i by have:=E.out;omega,show 2*S.length-2=j by have:=HQ.out.1;omega]
   have bX:=η (oG.mk Gj.out (qm ..) Y H am);clear cL e2 e3 e4 e5 e6 e7 e8 e9 Y am H b hj dj
   go_wp2_with fail;go_returns;exact bX.out
 have dk:(j:Int)<(K:Int)/\(0:Int)<=j:=ω;obtain⟨⟨D,tL,Xu⟩,e2,e3,e4,e5,e6,e7,e8,e9⟩ :=HE.out;have dy:D.length=(lev F i).length:=Xu.length;have I:=Xu.at_ (0,none,0,0) ⟨0,[]⟩ j ω
 change lY _ _ _ (el D j) _ at I
 obtain⟨p,hp⟩ :=ν ((lev F i).getD j ⟨0,[]⟩);obtain⟨x,hx⟩ :=ν (el D j);rw[hp,hx]at I
 have B:p∈lev F i:=by
  rw[<-hp,aq,bN ω];exact cF _
 have jF:(lev F i).take (j+1)=(lev F i).take j++[p]:=by
  rw[aY ω,<-hp];simp [show j<(lev F i).length by omega]
 obtain⟨xw,xA,y,xc⟩ :=x;obtain⟨ad,u,PC,mD⟩ :=tL.2 ω;obtain rfl:ad= ⟨L,0,none⟩ :=by injection u with u;exact u.symm
 have cj:¬L=w.heap.size:=ω
 have cell:∀t,t<q3*2->wr.cell? ⟨L,t,none⟩ =some (yl D t):=λt ht=>by
  have:=mD t ht;rw[nY]at this;exact(b.cell (p:= ⟨L,t,none⟩) e6 cj).trans this
 have a0:=cell (j*2) ω;have a1:=cell (j*2+1) ω;rw[tu D rfl,hx]at a0;rw[wT D rfl,hx]at a1;replace a0:wr.cell? ⟨L,j*2,none⟩ =some (.int .i64 xw):=a0;replace a1:wr.cell? ⟨L,j*2+1,none⟩ =some (.slice xA y xc):=a1;have Cj:y=p.l.length:=I.2.1.1;have be:=(e9 p B).2.2;have ea:(0:Int)<=y/\(y:Int)<=400000:=ω;have et:L<wr.heap.size:=aD e6 b.size;have es:¬L=wr.heap.size:=ω;have HP:=η (⟨I,B,jF,Cj,hj,b,H⟩ :lY ws ws.heap.size (λg=>g<w.heap.size+1) (xw,xA,y,xc) p/\p∈lev F i/\(lev F i).take (j+1)=(lev F i).take j++[p]/\y=p.l.length/\j<K/\bj ws wr (λx=>x=w.heap.size)/\aW .i64 wr w.heap.size 3 (some ⟨w.heap.size,0,none⟩) n n (ma n (rO ((lev F i).take j))));have fA:Hid (a4A ws w.heap.size n w.heap.size (rO ((lev F i).take j)) p.l y (.int .i64 0) (wr.alloc (.cells #[.int .i64 xw, .slice xA y xc] 180))):= ⟨0,rfl,aF _,by rw[iz,ax];exact H.alloc _,b.alloc _,by show y=_;omega⟩;clear cell mD hp hx u PC Xu tL I B jF Cj hj b H dy e2 e3 e4 e5 e6 e7 e8 e9 be cj
 go_wp2_with fail;go_loopg [65] y (a4A ws w.heap.size n w.heap.size (rO ((lev F i).take j)) p.l)
 case atStart=>exact fA.out
 clear fA a0 a1;obtain⟨t,rfl,AZ,H,b,cX⟩ :=hrel;obtain⟨I,B,jF,Cj,hj,ck,Xv⟩ :=HP.out;by_cases ht:t<y
 rotate_left
 · have cw:¬(t:Int)<(y:Int):=ω
   have Ij:rO ((lev F i).take j)++p.l.take t=rO ((lev F i).take (j+1)):=by
    have PN:p.l.take t=p.l:=ay ω;rw[jF,qz,PN];simp [rO]
   rw[Ij]at H;have HR:=η (⟨H,b,hj⟩ :_/\_/\j<K);clear H b hj Ij I B jF Cj ck Xv ht
   go_wp2_with fail;go_roundg (K-(j+1))
   case measure=>have:=da.out;have:=HR.out.2.2;omega
   case rel=>exact⟨j+1,by go_num,by have:=HR.out.2.2;omega,HR.out.1,HR.out.2.1,rfl⟩
 have cw:(t:Int)<(y:Int)/\(0:Int)<=t:=ω;have PX:∀gx,ai xA=some gx->¬gx=w.heap.size:=λgx dp=>by have:=I.2.2 (show 0<y by omega) gx dp;omega
 have rl:=b.rA I.2.1 (ag _) (λ_ ad e1 hs=>PX ad.block (by have e2:xA=some ad:=e1;rw[e2];rfl) hs);obtain⟨wQ,U3,lr,r⟩ :=rl.at_ (i:=t) ht;subst U3;obtain⟨sy,Qc⟩ :=ν (ix p.l t);rw[Qc]at r;have bI:sy∈p.l:=by rw[<-Qc];exact xr ω
 have ao:sy∈S:=by
  rw[<-bv.out]at B;exact(B8 (oA f) S i p B).2 sy bI
 obtain⟨a,Dr,rfl⟩ :=zr sy (HS.out.1.mem_iff.1 ao);have Fk:a<n:=by have:=M.out;omega
 obtain⟨T,hT⟩ :=ν (rO ((lev F i).take j)++p.l.take t)
 have du:T.count (a:Int)<=15:=by
  have h1:=P8 (t:=t) hj jF (a:Int);rw[hT]at h1
  have h2:=(xt (f:=oA f) (S:=S) (m:=G) ((HS.out.1.nodup_iff).2 (xD f _)) HS.out.2.le (λs hs=>by
   obtain⟨k,hk,rfl⟩ :=zr s (HS.out.1.mem_iff.1 hs);unfold oA;rw[aU];exact(J.out.2.1 k hk).1) (by have:=E.out;have:=HQ.out;omega) J.out.2.2.2.1 (by
   rw[HS.out.1.length_eq];have:=J.out.2.2.1
   rwa [aU]at this)).bd (a:Int) ao
  have h3:(rO ((lev F i).take K)).count (a:Int)=rK (oA f) S G (a:Int):=by
   unfold rK G5;rw[bv.out,show G-1=i by have:=E.out;omega,show 2*S.length-2=K by have:=HE.out.2.1;have:=HQ.out.1;omega]
  have h4:=J.out.2.2.2.2;omega
 rw[hT]at H;have cx:a<(ma n T).length:=by rw[qm];exact Fk
 have co:=H.2.cell (i:=a) ω;have cz:=(Own.ar H.2).frozen' (i:=a) ω;obtain⟨v,hv⟩ :=ν (ix (ma n T) a);rw[hv]at co;have eb:(0:Int)<=v/\v<=15:=by rw[<-hv,LK T Fk];omega
 have o:=H.put Fk (v+1);rw[<-hv,<-SR T rfl Fk]at o;rw[hv]at o;have Zd:=b.setCell (p:= ⟨w.heap.size,a,none⟩) (.inl rfl) (.int .i64 (v+1))
 have bE:rO ((lev F i).take j)++p.l.take (t+1)=T++[(a:Int)]:=by
  rw[<-hT,ak];congr 1;have cg:t<p.l.length:=ω;rw[aY cg,<-Qc];simp [ix,cg]
 have cA:(0:Int)<=a/\(a:Int)<n:=ω;have HR:=η (⟨o,Zd,bE,AZ,ht,Cj⟩ :_/\_/\_/\_/\_/\_);clear o Zd bE AZ ht Cj du cx hv hT bI ao Qc rl PX lr I B jF hj ck Xv Dr Fk H b
 go_wp2_with fail;go_roundg (y-(t+1))
 case measure=>have:=cX.out;have:=HR.out;omega
 obtain⟨q1,q2,cs,q4,q5,q6⟩ :=HR.out;exact⟨t+1,by go_num,ω,by rw[cs];exact q1,q2,by show _=_;omega⟩
theorem a1S {l:List Int} {most:Int} (h:bb l most=0):l.length<=288/\(∀i,i<l.length->0<=ix l i/\ix l i<=15)/\sumTo l l.length<=32768:=by
 unfold bb at h;split at h
 · simp at h
 split at h
 · simp at h
 split at h
 · simp at h
 rename_i c a b
 refine⟨ω, ?_,ω⟩;have:yM l most l.length=true:=by simpa using a
 have h4:∀i,i<l.length->0<=ix l i/\ix l i<=most:=by simpa [yM] using this
 exact λi hi=> ⟨(h4 i hi).1,by have:=(h4 i hi).2;omega⟩
theorem EP (f:List Int) (k:Nat):oA f (k:Int)=ix f k:=by unfold oA;rw[aU]
theorem pq {f:List Int}:∀k:Nat,∀s,s∈dQ f k↔∃i:Nat,i<k/\s=(i:Int)/\0<ix f i
 | 0,s=> ⟨λh=>by simp [dQ]at h,λ⟨i,h,_⟩ =>absurd h ω⟩
 | k+1,s=>by
   rw[dQ,aN,pq k s];constructor
   · rintro(⟨i,c,b,a⟩ | h)
     · exact⟨i,ω,b,a⟩
     split at h
     · exact⟨k,ω,by simpa using h, ‹_›⟩
     simp at h
   rintro⟨i,c,rfl,a⟩;by_cases e:i=k
   · subst e;right;rw[ae a];simp
   exact .inl ⟨i,ω,rfl,a⟩
theorem Hf (l f:List Int):∀k:Nat,(∀i,i<k->0<ix f i->ix f i<=1048576/\0<=ix l i/\ix l i<=1048576)->eh l f k=((dQ f k).map λs=>oA f s*ix l s.toNat).sum
 | 0,_=>rfl
 | k+1,h=>by
   have a:=Hf l f k λi hi=>h i ω;rw[eh,dQ,dt,fK,a];congr 1;by_cases hp:0<ix f k
   · obtain⟨c,e,b⟩ :=h k ω hp;rw[ae hp];show _=(List.map _ [(k:Int)]).sum;rw[bG,List.map_nil,bL,List.sum_nil,EP,aU];by_cases d:0<ix l k
     · rw[ug d hp c b,eO];omega
     have:ix l k=0:=ω;rw[tj ω,this];omega
   rw[aa hp,tj ω];rfl
def P9 (f:List Int) (h:Int->Int):Int:=((dQ f f.length).map λs=>oA f s*h s).sum
def krP (f:List Int) (m:Nat) (h:Int->Nat):Nat:=((dQ f f.length).map λs=>2 ^ (m-h s)).sum
theorem mh.three {f L:List Int} {m:Nat} (e:mh f m L) (l:oD f (m:Int)=0) (c:2<=(dQ f f.length).length):
  (∀s∈dQ f f.length,1<=ix L s.toNat/\ix L s.toNat<=m)/\krP f m (λs=>(ix L s.toNat).toNat)=2 ^ m/\eh L f f.length=P9 f (λs=>ix L s.toNat)/\
  (∀s∈dQ f f.length,∀t∈dQ f f.length,oA f s<oA f t->ix L t.toNat<=ix L s.toNat)/\
  ∀h:Int->Nat,(∀s∈dQ f f.length,h s<=m)->krP f m h<=2 ^ m->eh L f f.length<=P9 f (λs=>h s):=by
 obtain⟨m1,m2,m3,m4,m5⟩ :=Fy l;rw[aU]at m5;obtain⟨-,e⟩ :=e;rcases e with ⟨h,_⟩ | ⟨s,h,_⟩ | ⟨S,hp,a,r,j⟩
 · rw[h]at c;simp at c
 · rw[h]at c;simp at c
 have g:∀s∈S,∃i:Nat,i<f.length/\s=(i:Int)/\0<ix f i:=λs a=>(pq _ s).1 (hp.mem_iff.1 a)
 have b:=xt (f:=oA f) (S:=S) (m:=m) (hp.nodup_iff.2 (xD f f.length)) a.le (λs a=>by
  obtain⟨i,hi,rfl,_⟩ :=g s a;rw[EP];exact(m4 i hi).1) r ω (by rw[hp.length_eq];exact m5)
 have hv:∀s∈S,ix L s.toNat=((rK (oA f) S m s:Nat):Int):=λs a=>by
  obtain⟨i,hi,rfl,_⟩ :=g s a;rw[aU,j i hi]
 have q:∀i,i<f.length->0<ix f i->ix f i<=1048576/\0<=ix L i/\ix L i<=1048576:=λi hi u=>by
  have:=j i hi;have n:(i:Int)∈S:=hp.mem_iff.2 ((pq _ _).2 ⟨i,hi,rfl,u⟩);have:=(b.bd _ n).2;have:=(m4 i hi).2;omega
 have k:eh L f f.length=P9 f (λs=>ix L s.toNat):=Hf L f f.length q
 have v:P9 f (λs=>ix L s.toNat)=(S.map λs=>oA f s*((rK (oA f) S m s:Nat):Int)).sum:=by
  unfold P9;rw[<-Ea (hp.map _)];congr 1;exact bD λs a=>by show _*ix L s.toNat=_;rw[hv s a]
 refine⟨λs a=> ?_, ?_,k,λs a t ht d=> ?_,λh p o=> ?_⟩
 · have a:=hp.mem_iff.2 a;rw[hv s a];have:=b.bd s a;omega
 · unfold krP;rw[<-BN (hp.map _),<-b.whole];congr 1;exact bD λs a=>by show 2 ^ (m-(ix L s.toNat).toNat)=_;rw[hv s a,aU]
 · have a:=hp.mem_iff.2 a;have ht:=hp.mem_iff.2 ht;rw[hv s a,hv t ht];have:=b.order s a t ht d;omega
 rw[k,v];have:=b.least h (λs a=>p s (hp.mem_iff.1 a)) (by rw[BN (hp.map _)];exact o);unfold P9;rw[<-Ea (hp.map _)];exact this
theorem IA (l f:List Int) (m:Nat) (c:m<=15):∀k:Nat,(∀i,i<k->if 0<ix f i then 1<=ix l i/\ix l i<=m else ix l i=0)->((dQ f k).map λs=>2 ^ (m-(ix l s.toNat).toNat)).sum*2 ^ (15-m)=sumTo l k
 | 0,_=>by simp [dQ,sumTo]
 | k+1,h=>by
   have b:=IA l f m c k λi hi=>h i ω;rw[sumTo,dQ,dt,fK,dD,b];congr 1;have a:=h k ω;by_cases hp:0<ix f k
   · rw[ae hp]at a;obtain⟨e,d⟩ :=a;rw[ae hp];show(List.map _ [(k:Int)]).sum*_=_;rw[bG,List.map_nil,bL,List.sum_nil,aU,Nat.add_zero];obtain⟨v,hv⟩ :=aG (show 0<=ix l k by omega);have hv:ix l k=(v:Int):=hv;rw[hv]at e d⊢;rw[pY ω ω,aU,qK,<-Nat.pow_add,show m-v+(15-m)=15-v by omega]
   rw[aa hp]at a;rw[aa hp,a,mW ω];simp
structure a8t (l f:List Int) (n:Nat) (m:Int):Prop where
 len:l.length=n
 each:∀i,i<n->(0<ix l i↔0<ix f i)/\0<=ix l i/\ix l i<=m
 few:(dQ f n).length<2->(sumTo l n:Int)=16384*((dQ f n).length:Int)
 many:2<=(dQ f n).length->sumTo l n=32768
theorem Jx {l:List Int}:∀k:Nat,(∀i,i<k->ix l i=0)->sumTo l k=0
 | 0,_=>rfl
 | k+1,h=>by rw[sumTo,Jx k λi hi=>h i ω,h k ω,mW ω]
theorem mh.snd {f L:List Int} {m:Nat} (g:mh f m L) (x:oD f (m:Int)=0):a8t L f f.length m:=by
 obtain⟨m1,m2,m3,m4,m5⟩ :=Fy x;by_cases p:2<=(dQ f f.length).length
 · obtain⟨G,t, -, -, -⟩ :=g.three x p
   have b:∀i,i<f.length->¬0<ix f i->ix L i=0:=λi hi a=>by
    obtain⟨-,g⟩ :=g;rcases g with ⟨h,h'⟩ | ⟨s,h,h'⟩ | ⟨S,hp,n,o,y⟩
    · exact h' i hi
    · rw[h' i hi,aa λe=> ?_];have:(i:Int)∈dQ f f.length:=by rw[h,e];simp
      obtain⟨j,_,q,l⟩ :=(pq _ _).1 this;have:i=j:=ω;subst this;exact a l
    rw[y i hi]
    have r:(i:Int)∉S:=λC=>by
     obtain⟨j,_,q,l⟩ :=(pq _ _).1 (hp.mem_iff.1 C);have:i=j:=ω;subst this;exact a l
    have B:∀s∈S,∃i:Nat,i<f.length/\s=(i:Int)/\0<ix f i:=λs n=>(pq _ s).1 (hp.mem_iff.1 n)
    have D:=xt (f:=oA f) (S:=S) (m:=m) (hp.nodup_iff.2 (xD f f.length)) n.le (λs n=>by
     obtain⟨i,hi,rfl,_⟩ :=B s n;rw[EP];exact(m4 i hi).1) o ω (by rw[hp.length_eq];rw[aU]at m5;exact m5)
    rw[D.out _ r];rfl
   have d:∀i,i<f.length->0<ix f i->1<=ix L i/\ix L i<=m:=λi hi a=>by
    have:=G (i:Int) ((pq _ _).2 ⟨i,hi,rfl,a⟩);rw[aU]at this;exact this
   refine⟨g.1,λi hi=> ?_,λh=>ω,λ_=> ?_⟩
   · by_cases a:0<ix f i
     · have:=d i hi a;omega
     have:=b i hi a;omega
   have F:=IA L f m ω f.length λi hi=>by
    by_cases a:0<ix f i
    · rw[ae a];exact d i hi a
    rw[aa a];exact b i hi a
   unfold krP at t;rw[<-F,t,<-Nat.pow_add,show m+(15-m)=15 by omega]
 obtain⟨c,g⟩ :=g;rcases g with ⟨h,h'⟩ | ⟨s,h,h'⟩ | ⟨S,hp,n,o,y⟩
 · refine⟨c,λi hi=> ?_,λ_=> ?_,λl=>absurd l p⟩
   · have I:¬0<ix f i:=λa=>by
      have:=(pq f.length (i:Int)).2 ⟨i,hi,rfl,a⟩;rw[h]at this;simp at this
     have:=h' i hi;omega
   rw[Jx _ h',h];rfl
 · obtain⟨j,E,rfl,u⟩ :=(pq f.length s).1 (by rw[h];simp)
   have w:∀i,i<f.length->(0<ix f i↔i=j):=λi hi=>by
    constructor
    · intro a;have:=(pq f.length (i:Int)).2 ⟨i,hi,rfl,a⟩;rw[h]at this;have:=bg.1 this;omega
    rintro rfl;exact u
   have hv:∀i,i<f.length->ix L i=if i=j then 1 else 0:=λi hi=>by
    rw[h' i hi];by_cases e:i=j
    · rw[ae e,ae ω]
    rw[aa e,aa ω]
   have A:∀k,k<=f.length->sumTo L k=if j<k then 16384 else 0:=λk=>by
    induction k with
    | zero=>intro _;rfl
    | succ k z=>
      intro t;rw[sumTo,z ω,hv k ω];by_cases e:k=j
      · subst e;rw[aa ω,ae rfl,ae ω];have:=pY (v:=1) ω ω;have H:share 1=qK 1:=this;rw[H];rfl
      rw[aa e,mW ω];by_cases q:j<k
      · rw[ae q,ae ω]
      rw[aa q,aa ω]
   refine⟨c,λi hi=> ?_,λ_=> ?_,λl=>absurd l p⟩
   · have h5:=hv i hi;have h6:=w i hi;by_cases e:i=j
     · rw[ae e]at h5;have:=h6.2 e;omega
     rw[aa e]at h5;have:¬0<ix f i:=λh=>e (h6.1 h);omega
   rw[A _ (ag _),ae E,h];rfl
 rw[hp.length_eq]at o;exact absurd o p
end Go.Proofs.YtdhmnlpfhfmpfaaGreat
