/-
  part
-/
import Derived.Test.YtddhegejmkgmjaaGreatPk12
import Derived.Handy
set_option linter.unusedVariables false
set_option maxRecDepth 100000
set_option maxHeartbeats 4000000
namespace Go.Proofs.YtddhegejmkgmjaaGreat
open Go.RowKit
theorem uZ {f:List Int} {m:Int} (h:iP f m=0):f.length<=288/\1<=m/\m<=15/\(∀i,i<f.length->0<=ix f i/\ix f i<=1048576)/\(aW f f.length).length<=2 ^ m.toNat:=by
 unfold iP at h
 split at h
 · simp at h
 · split at h
   · simp at h
   · split at h
     · simp at h
     · rename_i c a b
       refine⟨ω,ω,ω,λi hi=> ?_,ω⟩;by_cases g:ix f i<0\/1048576<ix f i
       · exact absurd (Mg hi g) a
       · omega
def il (n:Nat) (T:List Int):List Int:=(List.range n).map λ(s:Nat)=>((T.count (s:Int):Nat):Int)
theorem l4 (n:Nat) (T:List Int):(il n T).length=n:=by simp [il]
theorem G8 {n:Nat} (T:List Int) {i:Nat} (hi:i<n):ix (il n T) i=((T.count (i:Int):Nat):Int):=by simp [il,ix,hi]
def cR (f:List Int) (m:Nat) (L:List Int):Prop:=L.length=f.length/\
 ((aW f f.length=[]/\∀i,i<f.length->ix L i=0)\/
  (∃s,aW f f.length=[s]/\∀i:Nat,i<f.length->ix L i=if(i:Int)=s then 1 else 0)\/
  (∃S,S.Perm (aW f f.length)/\tZ f S/\2<=S.length/\∀i:Nat,i<f.length->ix L i=((lL (iV f) S m (i:Int):Nat):Int)))
def jO (w:World) (f:List Int) (m:Int) (e:Ending) (w':World):Prop:=
 ∃A c L,e= .returned (.tuple #[.slice A L.length c, .int .i64 (iP f m)])/\Below w.heap.size w w'/\ag .i64 w' w.heap.size 3 A L.length c L/\(iP f m≠0->L=[])/\(iP f m=0->cR f m.toNat L)
theorem Kn {F:List Pk} {n:Nat} (h:∀p∈F,0<=p.w/\p.w<=1048576/\p.l.length<=1) (k:Nat):∀p∈lev F k,0<=p.w/\p.w<=1048576*2 ^ k/\p.l.length<=2 ^ k:=by
 induction k with
 | zero=>intro p hp;have:=h p hp;simp;omega
 | succ k b=>
   have j:(0:Int)<2 ^ k:=Int.pow_pos ω;have e:=Nat.two_pow_pos k;intro p hp;rw[Int.pow_succ,Nat.pow_succ];rcases List.mem_append.1 ((kN _ _).mem_iff.1 hp)with a | a
   · have:=h p a;omega
   · obtain⟨c,f,d,hd,i,g⟩ :=od _ p a;have:=b c f;have:=b d hd;rw[i,g,List.length_append];omega
theorem SI (F:List Pk) (k:Nat):(lev F k).length<=2*F.length:=by
 induction k with
 | zero=>show F.length<=_;omega
 | succ k a=>rw[lM];omega
theorem XU (F:List Pk) (k:Nat):F.length<=(lev F k).length:=by
 cases k with
 | zero=>exact Nat.le_refl _
 | succ k=>rw[lM];omega
theorem jO.mk {w w':World} {f:List Int} {m:Int} {A:Option Addr} {n c:Nat} {L:List Int} (a:iP f m=0) (d:L.length=n) (e:Below w.heap.size w w') (b:ag .i64 w' w.heap.size 3 A n c L) (g:cR f m.toNat L):jO w f m (.returned (.tuple #[.slice A n c, .int .i64 0])) w':=by
 subst d;exact⟨A,c,L,by rw[a],e,b,λh=>absurd a h,λ_=>g⟩
theorem xh {i:TypeInfo} (hi:Tryz.prog.info? 155 =some i) (b:i.size=2) (A:Option Addr) (n c:Nat) {j:Nat} (d:j<=c) (W:World):
  (Instr.slice 152 (.slice A n c) none (some (.int .i64 (j:Int))) none).run Tryz.prog W= .ok (.slice A j c) W:=by
 have a:Tryz.prog.elem 152 = 155 :=by simp [Program.elem,Tryz.underlying152]
 rw[run_slice_h W 152 A n c (by rw[a];exact Tryz.underlying152) .i64 j ω ω,a];simp [sizeOf,typeInfo,hi,b,sliced]
 cases A <;> simp [Addr.add]
def LoR (w2:World) (gf:Nat) (F:List Pk) (b1:Nat) (m:Nat) (k:Nat) (b a:Value) (wr:World):Prop:=
 ∃(i g q c:Nat),b= .slice (some ⟨g,0,none⟩) q c/\a= .int .i64 i/\i+1<=m/\Hid (pQ wr wr.heap.size (λg=>g<b1) (some ⟨g,0,none⟩) q (lev F i))/\q<=c/\b1<=g/\g<wr.heap.size/\Below w2.heap.size w2 wr/\Hid (k=m-1-i)
theorem Mr {n:Nat} (T:List Int) {s:Int} {i:Nat} (a:(i:Int)=s) (hi:i<n):il n (T++[s])=(il n T).set i (ix (il n T) i+1):=by
 subst a
 apply List.ext_getElem
 · simp [il]
 · intro j c b;simp only [G8 T hi];simp only [il,List.getElem_map,List.getElem_range,List.getElem_set,List.count_append];by_cases h:i=j
   · subst h;simp
   · rw[if_neg h];have:¬(i:Int)=(j:Int):=ω;simp [this]
theorem tR {f:List Int} {k:Nat}:∀s∈aW f k,∃i:Nat,i<k/\s=(i:Int):=by
 induction k with
 | zero=>intro s a;simp [aW]at a
 | succ k b=>
   intro s a;rw[aW]at a;rcases List.mem_append.1 a with h | h
   · obtain⟨i,d,c⟩ :=b s h;exact⟨i,ω,c⟩
   · split at h
     · exact⟨k,ω,List.mem_singleton.1 h⟩
     · simp at h
theorem og (f:List Int) (k:Nat):(aW f k).Nodup:=by
 induction k with
 | zero=>simp [aW]
 | succ k c=>
   rw[aW]
   split
   · refine List.nodup_append.2 ⟨c,σ,λa e b d=> ?_⟩;obtain⟨i,h,g⟩ :=tR a e;rw[List.mem_singleton.1 d,g];omega
   · rw[List.append_nil];exact c
theorem Js {P:List Pk} {j K t:Nat} {p:Pk} (c:j<K) (a:P.take (j+1)=P.take j++[p]) (s:Int):(mF (P.take j)++p.l.take t).count s<=(mF (P.take K)).count s:=by
 have e:P.take K=P.take (j+1)++(P.take K).drop (j+1):=by
  have:P.take (j+1)=(P.take K).take (j+1):=by rw[List.take_take,Nat.min_eq_left ω]
  rw[this,List.take_append_drop]
 rw[e,a,lq,lq,List.count_append,List.count_append,List.count_append];have b:mF [p]=p.l.take t++p.l.drop t:=by rw[List.take_append_drop];simp [mF]
 rw[b,List.count_append];omega
def OuR (b:World) (go n:Nat) (b0:Nat) (P:List Pk) (K:Nat) (k:Nat) (a:Value) (wr:World):Prop:=
 ∃j:Nat,a= .int .i64 j/\j<=K/\ag .i64 wr b0 3 (some ⟨go,0,none⟩) n n (il n (mF (P.take j)))/\aq b wr (λx=>x=go)/\Hid (k=K-j)
def ZJ (b:World) (go n:Nat) (b0:Nat) (T l:List Int) (k:Nat) (a:Value) (wr:World):Prop:=
 ∃t:Nat,a= .int .i64 t/\t<=l.length/\ag .i64 wr b0 3 (some ⟨go,0,none⟩) n n (il n (T++l.take t))/\aq b wr (λx=>x=go)/\Hid (k=l.length-t)
theorem nB (w:World) (C:Option Addr) (n d:Nat) (f:List Int) (hr:aT .i64 w w.heap.size C n f) (m:Int) (zR:(n:Int)<=4611686018427387904):
  Calls Tryz.prog 92 #[.slice C n d, .int .i64 m] w (jO w f m):=by
 obtain⟨i0,hi,L,bb,aS⟩ :=info_parts rL;have PX:=η (Gb w w.heap.size C n d f hr m zR);have CJ:=hr.1;have J:=η CJ;obtain⟨mv,mJ⟩ :=ν (iP f m);rw[mJ]at PX;have Bo:=η mJ;by_cases Z:mv=0
 · subst Z;obtain⟨o1,o2,o3,o4,o5⟩ :=uZ mJ;obtain⟨B,rfl⟩ :=Int.eq_ofNat_of_zero_le (show 0<=m by omega);have Lv:1<=B/\B<=15:=ω;have K4:(1:Int)<=B/\(B:Int)<=15:=ω;have rE:(0:Int)<=n/\(n:Int)<=288:=ω;have jT:=cF (P:=Tryz.prog) 51 3 i0 (.int .i64 0) Tryz.underlying51 hi L bb rfl .i64 .i64 n (by rw[aS];omega) ω w
   have N:ag .i64 (w.alloc (.cells (cn n (.int .i64 0)) 3)) w.heap.size 3 (some ⟨w.heap.size,0,none⟩) n n (List.replicate n 0):=by
    have:=ag.lit (k:= .i64) (w:=w) (b0:=w.heap.size) rfl (List.replicate n 0) 3 (Nat.le_refl _) (by rw[List.length_replicate];unfold maxLen;omega);rw[List.length_replicate]at this;have e:((List.replicate n (0:Int)).map (Value.int .i64)).toArray=cn n (.int .i64 0):=by unfold cn;simp
    rw[e]at this;exact this
   have aI:Below w.heap.size w (w.alloc (.cells (cn n (.int .i64 0)) 3)):=(Below.refl _ w).alloc (Nat.le_refl _) _;have Yq:=η (Gc (w.alloc (.cells (cn n (.int .i64 0)) 3)) C n d f ((hr.alloc (Nat.le_refl _) _).more σ) ω (λi hi=>o4 i ω));have H:=η (⟨o1,o4,o5,Lv⟩ :_/\_/\_/\_);clear o1 o2 o3 o4 o5 Lv mJ hr CJ;go_enter Tryz.func92,Tryz.ntmps92
   go_wp2_with fail
   refine PX.out.mono ?_;rintro e w1 ⟨rfl,rfl⟩
   go_wp2_with fail
   refine Yq.out.mono ?_;rintro e w2 ⟨A,q,c,S,rfl,ab,O0,hA,ac,kI,M⟩;rw[J.out]at ac;have O:=N.keeps ab;have W:=aI.trans (ab.mono aI.size)
   have UA:q=S.length:=by
    obtain⟨D,oW,mb⟩ :=O0;rw[oW.1,mb.length,ei]
   have X:=η (⟨ac,kI⟩ :_/\_);have Lx:q<=n:=by rw[UA,ac.length_eq];have:=tQ f f.length;have:=J.out;omega
   have XG:(w.alloc (.cells (cn n (.int .i64 0)) 3)).heap.size=w.heap.size+1:=σ;rw[XG]at O0 hA;have Ss:w.heap.size+1<=w2.heap.size:=by have:=ab.size;rw[XG]at this;exact this
   have HQ:=η (⟨UA,Lx,M,Ss⟩ :q=S.length/\q<=n/\q<=c/\w.heap.size+1<=w2.heap.size);clear jT N aI ab ac kI Yq PX XG;by_cases Xp:q=0
   · have ch:(q:Int)=0:=ω
     have aA:Hid (jO w f (B:Int) (.returned (.tuple #[.slice (some ⟨w.heap.size,0,none⟩) n n, .int .i64 0])) w2):=
      jO.mk Bo.out (List.length_replicate ..) W O ⟨by rw[List.length_replicate];exact J.out, .inl ⟨List.eq_nil_of_length_eq_zero (by rw[<-X.out.1.length_eq];have:=HQ.out.1;omega),λi hi=>by unfold ix;rw[List.getD_eq_getElem?_getD,List.getElem?_replicate];split <;> rfl⟩⟩
     clear Xp UA Lx M Ss O0 hA O W
     go_wp2_with fail
     go_returns
     exact aA.out
   · by_cases Ip:q=1
     · subst Ip
       obtain⟨g,rfl,U,R⟩ :∃g,A=some ⟨g,0,none⟩/\w.heap.size+1<=g/\g<w2.heap.size:=by
        rcases hA with ⟨_,h⟩ | h
        · omega
        · exact h
       obtain⟨s,rfl⟩ :∃s,S=[s]:=by
        cases S with
        | nil=>simp at UA
        | cons s S=>cases S with
          | nil=>exact⟨s,rfl⟩
          | cons s' S=>simp at UA
       have O1:aW f f.length=[s]:=(List.perm_singleton.1 (X.out.1.symm));obtain⟨a,xK,rfl⟩ :=tR s (by rw[O1];exact List.mem_singleton.2 rfl);obtain⟨D,oW,mb⟩ :=O0
       obtain⟨x,rfl,G⟩ :∃x,D=[x]/\ik w2 w2.heap.size (λg=>g<w.heap.size+1) x ⟨iV f (a:Int),[(a:Int)]⟩ :=by
        unfold bj at mb;cases mb with
        | cons k1 k2=>cases k2 with
          | nil=>exact⟨_,rfl,k1⟩
       obtain⟨xw,xA,y,xc⟩ :=x;have wE:y=1:=G.2.1.1;subst wE;obtain⟨ad,u,JQ,iA⟩ :=oW.2 ω;obtain rfl:ad= ⟨g,0,none⟩ :=by injection u with u;exact u.symm
       have a1:=iA 1 ω;rw[kA]at a1;replace a1:w2.cell? ⟨g,1,none⟩ =some (.slice xA 1 xc):=a1;obtain⟨u6,Nh,gH,r⟩ :=G.2.1.at_ (i:=0) (by show 0<1;omega);replace Nh:xA=some u6:=Nh;subst Nh;rw[add_zero']at r;replace r:w2.cell? u6=some (.int .i64 (a:Int)):=r;have zV:a<n:=by have:=J.out;omega
       have Xy:(0:Int)<=a/\(a:Int)<n:=ω;have co:=O.2.cell (i:=a) ω;have cz:=(Own.ar O.2).frozen' (i:=a) ω;have o:=O.put zV 1;have V:Below w.heap.size w (w2.setCell ⟨w.heap.size,a,none⟩ (.int .i64 1)):=W.setCell (p:= ⟨w.heap.size,a,none⟩) (Nat.le_refl _) _
       have aA:=η (jO.mk Bo.out (by rw[List.length_set];exact List.length_replicate ..) V o ⟨by rw[List.length_set,List.length_replicate];exact J.out, .inr (.inl ⟨(a:Int),O1,λi hi=>by
        unfold ix;rw[List.getD_eq_getElem?_getD,List.getElem?_set];by_cases e:a=i
        · subst e;rw[if_pos rfl,if_pos (by rw[List.length_replicate];exact zV),if_pos rfl];rfl
        · rw[if_neg e,if_neg ω,List.getElem?_replicate];split <;> rfl⟩)⟩)
       clear Xp UA Lx M Ss hA O1 xK oW mb G u JQ iA o V O W zV U R gH
       go_wp2_with fail
       go_returns
       exact aA.out
     · have ch:((q:Int)==0)=false:=ξ;have cV:((q:Int)==1)=false:=ξ;have BB:2<=q:=ω
       obtain⟨g,rfl,U,R⟩ :∃g,A=some ⟨g,0,none⟩/\w.heap.size+1<=g/\g<w2.heap.size:=by
        rcases hA with ⟨_,h⟩ | h
        · omega
        · exact h
       obtain⟨m1,mI⟩ :=ν (B-1);have cL:(B:Int)-1=(m1:Int):=by have:=H.out;omega
       have hF:Hid (∀p∈bj (iV f) S,0<=p.w/\p.w<=1048576/\p.l.length<=1):=λp hp=>by
        obtain⟨s,hs,e1,e2⟩ :=fx p hp;rw[e1,e2];unfold iV;by_cases cd:s.toNat<f.length
        · have:=H.out.2.1 _ cd;simp;omega
        · have:ix f s.toNat=0:=by unfold ix;rw[List.getD_eq_getElem?_getD,List.getElem?_eq_none ω];rfl
          rw[this];simp
       obtain⟨F,ah⟩ :=ν (bj (iV f) S);have N8:F.length=q:=by rw[<-ah,ei];exact UA.symm
       rw[ah]at O0 hF;have bS:Hid (LoR w2 g F (w.heap.size+1) B m1 (.slice (some ⟨g,0,none⟩) q c) (.int .i64 0) w2):= ⟨0,g,q,c,rfl,rfl,by have:=H.out;omega,O0,M,U,R,Below.refl _ _,by show m1=_;omega⟩;have QL:=η ah;have z:=η (⟨O0,BB,Lx,N8,mI,U,R⟩ :pQ w2 w2.heap.size (λg=>g<w.heap.size+1) (some ⟨g,0,none⟩) q F/\2<=q/\q<=n/\F.length=q/\B-1=m1/\w.heap.size+1<=g/\g<w2.heap.size);have da:(0:Int)<=m1/\(m1:Int)<=14:=by have:=H.out;omega
       have Uz:(2:Int)<=q/\(q:Int)<=288:=ω;have cB:=η (⟨O,W⟩ :_/\_);clear Xp Ip UA Lx M Ss O0 hA BB U R mI ah N8 O W
       go_wp2_with fail
       go_loopg [9,44] m1 (LoR w2 g F (w.heap.size+1) B)
       case atStart=>exact bS.out
       case round=>
        clear bS;obtain⟨i,I,Y,c3,rfl,rfl,aC,NZ,an,aE,Q,RL,hk⟩ :=hrel;have N8:=z.out.2.2.2.1
        have Sp:Y=(lev F i).length:=by
         obtain⟨D,oW,mb⟩ :=NZ.out;rw[oW.1,mb.length]
        have WJ:=SI F i;have wT:=XU F i;have Uq:=H.out.2.2.2;have bl:(2:Nat) ^ i<=2 ^ 14:=Nat.pow_le_pow_right ω ω
        have Uw:(2:Int) ^ i<=16384:=by have:((2 ^ i:Nat):Int)<=((2 ^ 14:Nat):Int):=ω
                                       simpa using this
        have SA:SmP (lev F i):=λp hp=>by
         have:=Kn (n:=n) hF.out i p hp;refine⟨this.1, ?_, ?_⟩
         · have h2:p.w<=1048576*2 ^ i:=this.2.1;omega
         · have h3:p.l.length<=2 ^ i:=this.2.2;have:(2:Nat) ^ 14=16384:=δ;omega
        by_cases ap:i<m1
        · have rD:(i:Int)<(m1:Int)/\(0:Int)<=i:=ω;have ca:=RL.size;have bB:=η (Gv wr I Y c3 wr.heap.size (lev F i) (λg=>g<w.heap.size+1) (λg hg=>by have:=HQ.out.2.2.2;omega) NZ.out (Nat.le_refl _) (by have:=z.out;have:=H.out;have:=J.out;omega) SA (by have:=z.out;omega));have HI:=η (⟨aC,ap,WJ,wT,Sp,N8⟩ :_/\_/\_/\_/\_/\_);clear aC ap WJ wT Sp N8 Uq bl Uw SA NZ an aE Q ca
          go_wp2_with fail
          refine bB.out.mono ?_;rintro e w5 ⟨g5,q5,c5,rfl,fN,Xl,bk,jC,cw⟩;have Nk:=RL.trans (fN.mono RL.size)
          have cg:q5=(aU (lev F i)).length:=by
           obtain⟨D,oW,mb⟩ :=Xl;rw[oW.1,mb.length]
          have ao:=ep (lev F i);have bG:=η (Gg w5 w5.heap.size q c q5 c5 (some ⟨g,0,none⟩) (some ⟨g5,0,none⟩) F (aU (lev F i)) (λg=>g<w.heap.size+1) ((z.out.1.below Nk).more Nk.size) Xl (Nat.le_refl _) (by have:=z.out;omega) (by have:=z.out;have:=H.out;have:=J.out;omega) (by have:=HI.out;have:=z.out;have:=H.out;have:=J.out;omega) HQ.out.2.2.1 bk);clear fN Xl bk jC cw cg ao bB
          go_wp2_with fail
          refine bG.out.mono ?_;rintro e w6 ⟨g6,q6,c6,rfl,jf,ci,ce,gL,ct⟩;clear bG
          go_wp2_with fail
          go_roundg (m1-(i+1))
          case measure=>have:=hk.out;have:=HI.out;have:=z.out;omega
          case rel=>
           refine⟨i+1,g6,q6,c6,rfl,by go_num,by have:=HI.out;have:=z.out;have:=H.out;omega,ci,ce, ?_,ct,Nk.trans (jf.mono Nk.size),by show _=_;have:=z.out;omega⟩;have:=Nk.size;have:=HQ.out.2.2.2;omega
        · have cr:i=m1:=by have:=z.out;omega
          subst cr;have rD:¬(i:Int)<(i:Int):=ω;obtain⟨K,hK⟩ :=ν (2*q-2);have cQ:2*(q:Int)-2=(K:Int):=by have:=z.out;omega
          have bx:K<=Y:=by
           have h9:=Da (F:=F) (n:=2) (k:=i) (by
            rw[N8,HQ.out.1,X.out.1.length_eq];have h8:=H.out.2.2.1;rw[Int.toNat_natCast]at h8;have h7:B=i+1:=by have:=z.out;omega
            rw[h7,Nat.pow_succ]at h8;omega)
           omega
          have de:(0:Int)<=K/\(K:Int)<=600:=ω;obtain⟨j0,bp,cm,bo,cl⟩ :=info_parts qA;have lG:=xh bp bo (some ⟨I,0,none⟩) Y c3 (j:=K) ω;obtain⟨O,W⟩ :=cB.out;have Si:=O.keeps RL
          have L:il n (mF ((lev F i).take 0))=List.replicate n 0:=by
           apply List.ext_getElem
           · simp [il]
           · intro j h1 h2;simp [il,mF]
          have bS:Hid (OuR wr w.heap.size n w.heap.size (lev F i) K K (.int .i64 0) wr):= ⟨0,rfl,Nat.zero_le _,by rw[L];exact Si,aq.refl _ _,rfl⟩;have bv:=W.trans (RL.mono W.size);have HE:=η (⟨NZ.out,hK,bx,an,aE,Q,bv,Sp,SA⟩ :pQ wr wr.heap.size (λg=>g<w.heap.size+1) (some ⟨I,0,none⟩) Y (lev F i)/\2*q-2=K/\K<=Y/\Y<=c3/\w.heap.size+1<=I/\I<wr.heap.size/\Below w.heap.size w wr/\Y=(lev F i).length/\SmP (lev F i));clear L Si O W hK bx an aE Q bv Sp SA NZ WJ wT Uq bl Uw aC ap RL bp cm bo cl N8;obtain⟨ws,bT⟩ :∃ws,ws=wr:= ⟨_,rfl⟩;subst bT
          go_wp2_with fail
          go_loopg [58] K (OuR ws w.heap.size n w.heap.size (lev F i) K)
          case atStart=>exact bS.out
          case round=>
           clear bS lG;obtain⟨j,rfl,cq,E,b,ck⟩ :=hrel;by_cases hj:j<K
           · have Ui:(j:Int)<(K:Int)/\(0:Int)<=j:=ω;obtain⟨⟨D,rF,Qq⟩,e2,e3,e4,e5,e6,e7,e8,e9⟩ :=HE.out;have cA:D.length=(lev F i).length:=Qq.length;have G:=Qq.at_ (0,none,0,0) ⟨0,[]⟩ j ω
             change ik _ _ _ (el D j) _ at G
             obtain⟨p,hp⟩ :=ν ((lev F i).getD j ⟨0,[]⟩);obtain⟨x,hx⟩ :=ν (el D j);rw[hp,hx]at G
             have Uy:p∈lev F i:=by
              rw[<-hp,List.getD_eq_getElem?_getD,List.getElem?_eq_getElem ω];exact List.getElem_mem _
             have eG:(lev F i).take (j+1)=(lev F i).take j++[p]:=by
              rw[List.take_succ_eq_append_getElem ω,<-hp];simp [show j<(lev F i).length by omega]
             obtain⟨xw,xA,y,xc⟩ :=x;obtain⟨ad,u,JQ,iA⟩ :=rF.2 ω;obtain rfl:ad= ⟨I,0,none⟩ :=by injection u with u;exact u.symm
             have bs:¬I=w.heap.size:=ω
             have cell:∀t,t<Y*2->wr.cell? ⟨I,t,none⟩ =some (sK D t):=λt ht=>by
              have:=iA t ht;rw[kA]at this;exact(b.cell (p:= ⟨I,t,none⟩) e6 bs).trans this
             have a0:=cell (j*2) ω;have a1:=cell (j*2+1) ω;rw[nT D rfl,hx]at a0;rw[rh D rfl,hx]at a1;replace a0:wr.cell? ⟨I,j*2,none⟩ =some (.int .i64 xw):=a0;replace a1:wr.cell? ⟨I,j*2+1,none⟩ =some (.slice xA y xc):=a1;have wE:y=p.l.length:=G.2.1.1;have ao:=(e9 p Uy).2.2;have cD:(0:Int)<=y/\(y:Int)<=400000:=ω;have dd:I<wr.heap.size:=Nat.lt_of_lt_of_le e6 b.size;have dc:¬I=wr.heap.size:=ω;have HP:=η (⟨G,Uy,eG,wE,hj,b,E⟩ :ik ws ws.heap.size (λg=>g<w.heap.size+1) (xw,xA,y,xc) p/\p∈lev F i/\(lev F i).take (j+1)=(lev F i).take j++[p]/\y=p.l.length/\j<K/\aq ws wr (λx=>x=w.heap.size)/\ag .i64 wr w.heap.size 3 (some ⟨w.heap.size,0,none⟩) n n (il n (mF ((lev F i).take j))));have bS:Hid (ZJ ws w.heap.size n w.heap.size (mF ((lev F i).take j)) p.l y (.int .i64 0) (wr.alloc (.cells #[.int .i64 xw, .slice xA y xc] 155))):= ⟨0,rfl,Nat.zero_le _,by rw[List.take_zero,List.append_nil];exact E.alloc _,b.alloc _,by show y=_;omega⟩;clear cell iA hp hx u JQ Qq rF G Uy eG wE hj b E cA e2 e3 e4 e5 e6 e7 e8 e9 ao bs
             go_wp2_with fail
             go_loopg [65] y (ZJ ws w.heap.size n w.heap.size (mF ((lev F i).take j)) p.l)
             case atStart=>exact bS.out
             case round=>
              clear bS a0 a1;obtain⟨t,rfl,zY,E,b,cj⟩ :=hrel;obtain⟨G,Uy,eG,wE,hj,bt,Qr⟩ :=HP.out;by_cases ht:t<y
              · have cb:(t:Int)<(y:Int)/\(0:Int)<=t:=ω;have K6:∀gx,aa xA=some gx->¬gx=w.heap.size:=λgx cs=>by have:=G.2.2 (show 0<y by omega) gx cs;omega
                have rl:=b.oH G.2.1 (Nat.le_refl _) (λ_ ad e1 hs=>K6 ad.block (by have e2:xA=some ad:=e1;rw[e2];rfl) hs);obtain⟨u6,Nh,gH,r⟩ :=rl.at_ (i:=t) ht;subst Nh;obtain⟨sy,Ke⟩ :=ν (ix p.l t);rw[Ke]at r;have bi:sy∈p.l:=by rw[<-Ke];exact lJ ω
                have am:sy∈S:=by
                 rw[<-QL.out]at Uy;exact(uW (iV f) S i p Uy).2 sy bi
                obtain⟨a,xK,rfl⟩ :=tR sy (X.out.1.mem_iff.1 am);have zV:a<n:=by have:=J.out;omega
                obtain⟨T,hT⟩ :=ν (mF ((lev F i).take j)++p.l.take t)
                have cx:T.count (a:Int)<=15:=by
                 have h1:=Js (t:=t) hj eG (a:Int);rw[hT]at h1
                 have h2:=(o9 (f:=iV f) (S:=S) (m:=B) ((X.out.1.nodup_iff).2 (og f _)) X.out.2.le (λs hs=>by
                  obtain⟨k,hk,rfl⟩ :=tR s (X.out.1.mem_iff.1 hs);unfold iV;rw[Int.toNat_natCast];exact(H.out.2.1 k hk).1) (by have:=z.out;have:=HQ.out;omega) H.out.2.2.2.1 (by
                  rw[X.out.1.length_eq];have:=H.out.2.2.1
                  rwa [Int.toNat_natCast]at this)).bd (a:Int) am
                 have h3:(mF ((lev F i).take K)).count (a:Int)=lL (iV f) S B (a:Int):=by
                  unfold lL Ba;rw[QL.out,show B-1=i by have:=z.out;omega,show 2*S.length-2=K by have:=HE.out.2.1;have:=HQ.out.1;omega]
                 have h4:=H.out.2.2.2.2;omega
                rw[hT]at E;have cc:a<(il n T).length:=by rw[l4];exact zV
                have co:=E.2.cell (i:=a) ω;have cz:=(Own.ar E.2).frozen' (i:=a) ω;obtain⟨v,hv⟩ :=ν (ix (il n T) a);rw[hv]at co;have cH:(0:Int)<=v/\v<=15:=by rw[<-hv,G8 T zV];omega
                have o:=E.put zV (v+1);rw[<-hv,<-Mr T rfl zV]at o;rw[hv]at o;have RR:=b.setCell (p:= ⟨w.heap.size,a,none⟩) (.inl rfl) (.int .i64 (v+1))
                have be:mF ((lev F i).take j)++p.l.take (t+1)=T++[(a:Int)]:=by
                 rw[<-hT,List.append_assoc];congr 1;have bn:t<p.l.length:=ω;rw[List.take_succ_eq_append_getElem bn,<-Ke];simp [ix,bn]
                have Xy:(0:Int)<=a/\(a:Int)<n:=ω;have HR:=η (⟨o,RR,be,zY,ht,wE⟩ :_/\_/\_/\_/\_/\_);clear o RR be zY ht wE cx cc hv hT bi am Ke rl K6 gH G Uy eG hj bt Qr xK zV E b
                go_wp2_with fail
                go_roundg (y-(t+1))
                case measure=>have:=cj.out;have:=HR.out;omega
                case rel=>
                 obtain⟨q1,q2,bI,q4,q5,q6⟩ :=HR.out;exact⟨t+1,by go_num,ω,by rw[bI];exact q1,q2,by show _=_;omega⟩
              · have cb:¬(t:Int)<(y:Int):=ω
                have CF:mF ((lev F i).take j)++p.l.take t=mF ((lev F i).take (j+1)):=by
                 have Qm:p.l.take t=p.l:=List.take_of_length_le ω;rw[eG,lq,Qm];simp [mF]
                rw[CF]at E;have HR:=η (⟨E,b,hj⟩ :_/\_/\j<K);clear E b hj CF G Uy eG wE bt Qr ht
                go_wp2_with fail
                go_roundg (K-(j+1))
                case measure=>have:=ck.out;have:=HR.out.2.2;omega
                case rel=>exact⟨j+1,by go_num,by have:=HR.out.2.2;omega,HR.out.1,HR.out.2.1,rfl⟩
           · have cp:j=K:=ω;subst cp;have Ui:¬(j:Int)<(j:Int):=ω;obtain⟨Xn,e2,e3,e4,e5,e6,e7,e8,e9⟩ :=HE.out;have V:Below w.heap.size w wr:=e7.trans (b.below (λk hk=>by subst hk;exact Nat.le_refl _) e7.size)
             have al:cR f ((B:Int)).toNat (il n (mF ((lev F i).take j))):=by
              refine⟨by rw[l4];exact J.out, .inr (.inr ⟨S,X.out.1,X.out.2,by have:=z.out;have:=HQ.out;omega,λi' db=> ?_⟩)⟩;rw[G8 _ (by have:=J.out;omega),Int.toNat_natCast];unfold lL Ba;rw[QL.out,show B-1=i by have:=z.out;omega,show 2*S.length-2=j by have:=HQ.out.1;omega]
             have aA:=η (jO.mk Bo.out (l4 ..) V E al);clear Xn e2 e3 e4 e5 e6 e7 e8 e9 V al E b hj cq
             go_wp2_with fail
             go_returns
             exact aA.out
 · have cZ:(mv != 0)=true:=by simpa using Z
   have Hk:=η Z
   have xJ:Hid (jO w f m (.returned (.tuple #[.slice none 0 0, .int .i64 mv])) w):=
    ⟨none,0,[],by rw[Bo.out];rfl,Below.refl _ _,ag.br,λ_=>rfl,λh=>absurd (Bo.out.symm.trans h) Hk.out⟩
   clear mJ hr CJ hi L bb aS Z zR J Bo;go_enter Tryz.func92,Tryz.ntmps92
   go_wp2_with fail
   refine PX.out.mono ?_;rintro e w1 ⟨rfl,rfl⟩
   go_wp2_with fail
   go_returns
   exact xJ.out
theorem Mo {l:List Int} {most:Int} (h:ai l most=0):l.length<=288/\(∀i,i<l.length->0<=ix l i/\ix l i<=15)/\sumTo l l.length<=32768:=by
 unfold ai at h
 split at h
 · simp at h
 · split at h
   · simp at h
   · split at h
     · simp at h
     · rename_i c a b
       refine⟨ω, ?_,ω⟩;have:rJ l most l.length=true:=by simpa using a
       have h4:∀i,i<l.length->0<=ix l i/\ix l i<=most:=by simpa [rJ] using this
       exact λi hi=> ⟨(h4 i hi).1,by have:=(h4 i hi).2;omega⟩
theorem nW (f:List Int) (k:Nat):iV f (k:Int)=ix f k:=by unfold iV;rw[Int.toNat_natCast]
theorem ic {f:List Int}:∀k:Nat,∀s,s∈aW f k↔∃i:Nat,i<k/\s=(i:Int)/\0<ix f i
 | 0,s=> ⟨λh=>by simp [aW]at h,λ⟨i,h,_⟩ =>absurd h ω⟩
 | k+1,s=>by
   rw[aW,List.mem_append,ic k s];constructor
   · rintro(⟨i,c,b,a⟩ | h)
     · exact⟨i,ω,b,a⟩
     · split at h
       · exact⟨k,ω,by simpa using h, ‹_›⟩
       · simp at h
   · rintro⟨i,c,rfl,a⟩;by_cases e:i=k
     · subst e;right;rw[if_pos a];simp
     · exact .inl ⟨i,ω,rfl,a⟩
theorem qb (l f:List Int):∀k:Nat,(∀i,i<k->0<ix f i->ix f i<=1048576/\0<=ix l i/\ix l i<=1048576)->aZ l f k=((aW f k).map λs=>iV f s*ix l s.toNat).sum
 | 0,_=>rfl
 | k+1,h=>by
   have a:=qb l f k λi hi=>h i ω
   rw[aZ,aW,List.map_append,List.sum_append,a];congr 1;by_cases hp:0<ix f k
   · obtain⟨c,e,b⟩ :=h k ω hp;rw[if_pos hp];show _=(List.map _ [(k:Int)]).sum
     rw[List.map_cons,List.map_nil,List.sum_cons,List.sum_nil,nW,Int.toNat_natCast];by_cases d:0<ix l k
     · rw[oP d hp c b,Int.mul_comm];omega
     · have:ix l k=0:=ω;rw[nS ω,this];omega
   · rw[if_neg hp,nS ω];rfl
theorem xP (l f:List Int) (m:Nat) (b:m<=15):∀k:Nat,(∀i,i<k->0<ix f i->1<=ix l i/\ix l i<=m)->((aW f k).map λs=>2 ^ (m-(ix l s.toNat).toNat)).sum*2 ^ (15-m)<=sumTo l k
 | 0,_=>by simp [aW,sumTo]
 | k+1,h=>by
   have a:=xP l f m b k λi hi=>h i ω
   rw[sumTo,aW,List.map_append,List.sum_append,Nat.add_mul];refine Nat.add_le_add a ?_;by_cases hp:0<ix f k
   · obtain⟨d,c⟩ :=h k ω hp;rw[if_pos hp];show(List.map _ [(k:Int)]).sum*_<=_
     rw[List.map_cons,List.map_nil,List.sum_cons,List.sum_nil,Int.toNat_natCast,Nat.add_zero];obtain⟨v,hv⟩ :=Int.eq_ofNat_of_zero_le (show 0<=ix l k by omega);have hv:ix l k=(v:Int):=hv;rw[hv]at d c⊢;rw[jn ω ω,Int.toNat_natCast,kX,<-Nat.pow_add,show m-v+(15-m)=15-v by omega];exact Nat.le_refl _
   · rw[if_neg hp];simp
theorem cR.least {f L o:List Int} {m:Nat} (q:cR f m L) (u:iP f (m:Int)=0) (b:ai o (m:Int)=0) (c:o.length=f.length) (d:∀i,i<f.length->0<ix f i->ix o i≠0) (g:2<=(aW f f.length).length):aZ L f f.length<=aZ o f f.length:=by
 obtain⟨m1,m2,m3,m4,m5⟩ :=uZ u;rw[Int.toNat_natCast]at m5;obtain⟨c1,c2,B⟩ :=Mo b
 have k:∀i,i<f.length->0<=ix o i/\ix o i<=m:=by
  unfold ai at b
  split at b
  · simp at b
  · split at b
    · simp at b
    · rename_i w p
      have:rJ o m o.length=true:=by simpa using p
      intro i hi;exact of_decide_eq_true this i ω
 obtain⟨-,q⟩ :=q;rcases q with ⟨h,_⟩ | ⟨s,h,_⟩ | ⟨S,hp,a,y,t⟩
 · rw[h]at g;simp at g
 · rw[h]at g;simp at g
 · have e:∀s∈S,∃i:Nat,i<f.length/\s=(i:Int)/\0<ix f i:=λs a=>(ic _ s).1 (hp.mem_iff.1 a)
   have r:=o9 (f:=iV f) (S:=S) (m:=m) (hp.nodup_iff.2 (og f f.length)) a.le (λs a=>by
    obtain⟨i,hi,rfl,_⟩ :=e s a;rw[nW];exact(m4 i hi).1) y ω (by rw[hp.length_eq];exact m5)
   have x:∀i,i<f.length->0<ix f i->ix f i<=1048576/\0<=ix L i/\ix L i<=1048576:=λi hi j=>by
    have:=t i hi;have v:(i:Int)∈S:=hp.mem_iff.2 ((ic _ _).2 ⟨i,hi,rfl,j⟩);have:=(r.bd _ v).2;have:=(m4 i hi).2;omega
   rw[qb L f f.length x,qb o f f.length λi hi j=>by have:=k i hi;have:=(m4 i hi).2;omega];have C:=xP o f m ω f.length λi hi j=>by have:=k i hi;have:=d i hi j;omega
   have n:(S.map λs=>2 ^ (m-(ix o s.toNat).toNat)).sum<=2 ^ m:=by
    rw[qG (hp.map _)];rw[c]at B;have D:(32768:Nat)=2 ^ m*2 ^ (15-m):=by rw[<-Nat.pow_add,show m+(15-m)=15 by omega]
    exact Nat.le_of_mul_le_mul_right (by omega:_*2 ^ (15-m)<=2 ^ m*2 ^ (15-m)) (Nat.two_pow_pos _)
   have l:=r.least (λs=>(ix o s.toNat).toNat) (λs a=>by
    obtain⟨i,hi,rfl,_⟩ :=e s a;rw[Int.toNat_natCast];have:=k i hi;omega) n
   have A:((aW f f.length).map λs=>iV f s*ix L s.toNat).sum=(S.map λs=>iV f s*((lL (iV f) S m s:Nat):Int)).sum:=by
    rw[<-oq (hp.map _)];congr 1;refine List.map_congr_left λs a=> ?_
    obtain⟨i,hi,rfl,_⟩ :=e s a;rw[Int.toNat_natCast,t i hi]
   have z:((aW f f.length).map λs=>iV f s*ix o s.toNat).sum=(S.map λs=>iV f s*(((ix o s.toNat).toNat:Nat):Int)).sum:=by
    rw[<-oq (hp.map _)];congr 1;refine List.map_congr_left λs a=> ?_
    obtain⟨i,hi,rfl,_⟩ :=e s a;rw[Int.toNat_natCast];have:=(k i hi).1;congr 1;omega
   rw[A,z];exact l
def F9 (f:List Int) (h:Int->Int):Int:=((aW f f.length).map λs=>iV f s*h s).sum
def Z9 (f:List Int) (m:Nat) (h:Int->Nat):Nat:=((aW f f.length).map λs=>2 ^ (m-h s)).sum
theorem cR.three {f L:List Int} {m:Nat} (e:cR f m L) (l:iP f (m:Int)=0) (c:2<=(aW f f.length).length):
  (∀s∈aW f f.length,1<=ix L s.toNat/\ix L s.toNat<=m)/\Z9 f m (λs=>(ix L s.toNat).toNat)=2 ^ m/\aZ L f f.length=F9 f (λs=>ix L s.toNat)/\
  (∀s∈aW f f.length,∀t∈aW f f.length,iV f s<iV f t->ix L t.toNat<=ix L s.toNat)/\
  ∀h:Int->Nat,(∀s∈aW f f.length,h s<=m)->Z9 f m h<=2 ^ m->aZ L f f.length<=F9 f (λs=>h s):=by
 obtain⟨m1,m2,m3,m4,m5⟩ :=uZ l;rw[Int.toNat_natCast]at m5;obtain⟨-,e⟩ :=e;rcases e with ⟨h,_⟩ | ⟨s,h,_⟩ | ⟨S,hp,a,r,j⟩
 · rw[h]at c;simp at c
 · rw[h]at c;simp at c
 · have g:∀s∈S,∃i:Nat,i<f.length/\s=(i:Int)/\0<ix f i:=λs a=>(ic _ s).1 (hp.mem_iff.1 a)
   have b:=o9 (f:=iV f) (S:=S) (m:=m) (hp.nodup_iff.2 (og f f.length)) a.le (λs a=>by
    obtain⟨i,hi,rfl,_⟩ :=g s a;rw[nW];exact(m4 i hi).1) r ω (by rw[hp.length_eq];exact m5)
   have hv:∀s∈S,ix L s.toNat=((lL (iV f) S m s:Nat):Int):=λs a=>by
    obtain⟨i,hi,rfl,_⟩ :=g s a;rw[Int.toNat_natCast,j i hi]
   have q:∀i,i<f.length->0<ix f i->ix f i<=1048576/\0<=ix L i/\ix L i<=1048576:=λi hi u=>by
    have:=j i hi;have n:(i:Int)∈S:=hp.mem_iff.2 ((ic _ _).2 ⟨i,hi,rfl,u⟩);have:=(b.bd _ n).2;have:=(m4 i hi).2;omega
   have k:aZ L f f.length=F9 f (λs=>ix L s.toNat):=qb L f f.length q
   have v:F9 f (λs=>ix L s.toNat)=(S.map λs=>iV f s*((lL (iV f) S m s:Nat):Int)).sum:=by
    unfold F9;rw[<-oq (hp.map _)];congr 1;exact List.map_congr_left λs a=>by show _*ix L s.toNat=_;rw[hv s a]
   refine⟨λs a=> ?_, ?_,k,λs a t ht d=> ?_,λh p o=> ?_⟩
   · have a:=hp.mem_iff.2 a;rw[hv s a];have:=b.bd s a;omega
   · unfold Z9;rw[<-qG (hp.map _),<-b.whole];congr 1;exact List.map_congr_left λs a=>by show 2 ^ (m-(ix L s.toNat).toNat)=_;rw[hv s a,Int.toNat_natCast]
   · have a:=hp.mem_iff.2 a;have ht:=hp.mem_iff.2 ht;rw[hv s a,hv t ht];have:=b.order s a t ht d;omega
   · rw[k,v];have:=b.least h (λs a=>p s (hp.mem_iff.1 a)) (by rw[qG (hp.map _)];exact o);unfold F9;rw[<-oq (hp.map _)];exact this
theorem cR.few {f L n:List Int} {m o:Nat} (j:cR f m L) (d:cR f o n) (t:(aW f f.length).length<2):∀i,i<f.length->ix L i=ix n i:=by
 obtain⟨-,j⟩ :=j;obtain⟨-,d⟩ :=d;rcases j with ⟨h,l⟩ | ⟨s,h,l⟩ | ⟨S,hp,q,p,r⟩
 · rcases d with ⟨a,c⟩ | ⟨s',a,c⟩ | ⟨S',b,e,g,k⟩
   · intro i hi;rw[l i hi,c i hi]
   · rw[h]at a;simp at a
   · rw[b.length_eq]at g;omega
 · rcases d with ⟨a,c⟩ | ⟨s',a,c⟩ | ⟨S',b,e,g,k⟩
   · rw[h]at a;simp at a
   · rw[h]at a;obtain rfl:s=s':=by simpa using a
     intro i hi;rw[l i hi,c i hi]
   · rw[b.length_eq]at g;omega
 · rw[hp.length_eq]at p;omega
theorem pZ {l l' f:List Int}:∀k:Nat,(∀i,i<k->ix l i=ix l' i)->aZ l f k=aZ l' f k
 | 0,_=>rfl
 | k+1,h=>by rw[aZ,aZ,pZ k λi hi=>h i ω,h k ω]
theorem cR.grow {f L k:List Int} {m:Nat} (g:cR f m L) (e:cR f (m+1) k) (n:iP f (m:Int)=0) (c:iP f ((m+1:Nat):Int)=0):aZ k f f.length<=aZ L f f.length:=by
 by_cases d:2<=(aW f f.length).length
 · obtain⟨a,j,i, -, -⟩ :=g.three n d;obtain⟨-, -, -, -,h⟩ :=e.three c d
   have o:Z9 f (m+1) (λs=>(ix L s.toNat).toNat)=2 ^ (m+1):=by
    rw[Nat.pow_succ,<-j];unfold Z9;generalize p:aW f f.length=P at a;clear h j i d p
    induction P with
    | nil=>rfl
    | cons s P l=>
      have:=l λt ht=>a t (by simp [ht])
      have:=a s σ;rw[List.map_cons,List.map_cons,List.sum_cons,List.sum_cons,Nat.add_mul, ‹(P.map _).sum=_›,<-Nat.pow_succ];congr 2;show m+1-(ix L s.toNat).toNat=m-(ix L s.toNat).toNat+1
      omega
   have:=h (λs=>(ix L s.toNat).toNat) (λs b=>by have:=a s b;omega) (by rw[o];exact Nat.le_refl _);rw[i];refine Int.le_trans this (Int.le_of_eq ?_);unfold F9;congr 1;exact List.map_congr_left λs b=>by have:=(a s b).1;show _*(((ix L s.toNat).toNat:Nat):Int)=_*ix L s.toNat;congr 1;omega
 · rw[pZ f.length (cR.few g e ω)];exact Int.le_refl _
theorem cR.order {f L:List Int} {m:Nat} (k:cR f m L) (e:iP f (m:Int)=0) {i j:Nat} (hi:i<f.length) (g:j<f.length) (h:ix f j<ix f i) (n:0<ix f j):ix L i<=ix L j:=by
 have d:(i:Int)∈aW f f.length:=(ic _ _).2 ⟨i,hi,rfl,ω⟩;have c:(j:Int)∈aW f f.length:=(ic _ _).2 ⟨j,g,rfl,n⟩
 have l:2<=(aW f f.length).length:=by
  rcases hP:aW f f.length with _ | ⟨a,_ | ⟨b,P⟩⟩
  · rw[hP]at d;simp at d
  · rw[hP]at d c;simp at d c;have:i=j:=ω;subst this;omega
  · simp
 obtain⟨-, -, -,o, -⟩ :=k.three e l;have:=o j c i d (by rw[nW,nW];exact h)
 simpa using this
theorem CV (l f:List Int) (m:Nat) (c:m<=15):∀k:Nat,(∀i,i<k->if 0<ix f i then 1<=ix l i/\ix l i<=m else ix l i=0)->((aW f k).map λs=>2 ^ (m-(ix l s.toNat).toNat)).sum*2 ^ (15-m)=sumTo l k
 | 0,_=>by simp [aW,sumTo]
 | k+1,h=>by
   have b:=CV l f m c k λi hi=>h i ω
   rw[sumTo,aW,List.map_append,List.sum_append,Nat.add_mul,b];congr 1;have a:=h k ω;by_cases hp:0<ix f k
   · rw[if_pos hp]at a;obtain⟨e,d⟩ :=a;rw[if_pos hp];show(List.map _ [(k:Int)]).sum*_=_
     rw[List.map_cons,List.map_nil,List.sum_cons,List.sum_nil,Int.toNat_natCast,Nat.add_zero];obtain⟨v,hv⟩ :=Int.eq_ofNat_of_zero_le (show 0<=ix l k by omega);have hv:ix l k=(v:Int):=hv;rw[hv]at e d⊢;rw[jn ω ω,Int.toNat_natCast,kX,<-Nat.pow_add,show m-v+(15-m)=15-v by omega]
   · rw[if_neg hp]at a;rw[if_neg hp,a,iR ω];simp
structure a3d (l f:List Int) (n:Nat) (m:Int):Prop where
 len:l.length=n
 each:∀i,i<n->(0<ix l i↔0<ix f i)/\0<=ix l i/\ix l i<=m
 few:(aW f n).length<2->(sumTo l n:Int)=16384*((aW f n).length:Int)
 many:2<=(aW f n).length->sumTo l n=32768
theorem DX {l:List Int}:∀k:Nat,(∀i,i<k->ix l i=0)->sumTo l k=0
 | 0,_=>rfl
 | k+1,h=>by rw[sumTo,DX k λi hi=>h i ω,h k ω,iR ω]
theorem cR.snd {f L:List Int} {m:Nat} (g:cR f m L) (y:iP f (m:Int)=0):a3d L f f.length m:=by
 obtain⟨m1,m2,m3,m4,m5⟩ :=uZ y;by_cases q:2<=(aW f f.length).length
 · obtain⟨H,u, -, -, -⟩ :=g.three y q
   have b:∀i,i<f.length->¬0<ix f i->ix L i=0:=λi hi a=>by
    obtain⟨-,g⟩ :=g;rcases g with ⟨h,l⟩ | ⟨s,h,l⟩ | ⟨S,hp,o,p,z⟩
    · exact l i hi
    · rw[l i hi,if_neg λe=> ?_];have:(i:Int)∈aW f f.length:=by rw[h,e];simp
      obtain⟨j,_,r,n⟩ :=(ic _ _).1 this;have:i=j:=ω;subst this;exact a n
    · rw[z i hi]
      have t:(i:Int)∉S:=λD=>by
       obtain⟨j,_,r,n⟩ :=(ic _ _).1 (hp.mem_iff.1 D);have:i=j:=ω;subst this;exact a n
      have C:∀s∈S,∃i:Nat,i<f.length/\s=(i:Int)/\0<ix f i:=λs o=>(ic _ s).1 (hp.mem_iff.1 o)
      have E:=o9 (f:=iV f) (S:=S) (m:=m) (hp.nodup_iff.2 (og f f.length)) o.le (λs o=>by
       obtain⟨i,hi,rfl,_⟩ :=C s o;rw[nW];exact(m4 i hi).1) p ω (by rw[hp.length_eq];rw[Int.toNat_natCast]at m5;exact m5)
      rw[E.out _ t];rfl
   have d:∀i,i<f.length->0<ix f i->1<=ix L i/\ix L i<=m:=λi hi a=>by
    have:=H (i:Int) ((ic _ _).2 ⟨i,hi,rfl,a⟩);rw[Int.toNat_natCast]at this;exact this
   refine⟨g.1,λi hi=> ?_,λh=>ω,λ_=> ?_⟩
   · by_cases a:0<ix f i
     · have:=d i hi a;omega
     · have:=b i hi a;omega
   · have G:=CV L f m ω f.length λi hi=>by
      by_cases a:0<ix f i
      · rw[if_pos a];exact d i hi a
      · rw[if_neg a];exact b i hi a
     unfold Z9 at u;rw[<-G,u,<-Nat.pow_add,show m+(15-m)=15 by omega]
 · obtain⟨c,g⟩ :=g;rcases g with ⟨h,l⟩ | ⟨s,h,l⟩ | ⟨S,hp,o,p,z⟩
   · refine⟨c,λi hi=> ?_,λ_=> ?_,λn=>absurd n q⟩
     · have J:¬0<ix f i:=λa=>by
        have:=(ic f.length (i:Int)).2 ⟨i,hi,rfl,a⟩;rw[h]at this;simp at this
       have:=l i hi;omega
     · rw[DX _ l,h];rfl
   · obtain⟨j,F,rfl,w⟩ :=(ic f.length s).1 (by rw[h];simp)
     have x:∀i,i<f.length->(0<ix f i↔i=j):=λi hi=>by
      constructor
      · intro a;have:=(ic f.length (i:Int)).2 ⟨i,hi,rfl,a⟩;rw[h]at this;have:=List.mem_singleton.1 this;omega
      · rintro rfl;exact w
     have hv:∀i,i<f.length->ix L i=if i=j then 1 else 0:=λi hi=>by
      rw[l i hi];by_cases e:i=j
      · rw[if_pos e,if_pos ω]
      · rw[if_neg e,if_neg ω]
     have B:∀k,k<=f.length->sumTo L k=if j<k then 16384 else 0:=λk=>by
      induction k with
      | zero=>intro _;rfl
      | succ k A=>
        intro u;rw[sumTo,A ω,hv k ω];by_cases e:k=j
        · subst e;rw[if_neg ω,if_pos rfl,if_pos ω];have:=jn (v:=1) ω ω;have I:share 1=kX 1:=this;rw[I];rfl
        · rw[if_neg e,iR ω];by_cases r:j<k
          · rw[if_pos r,if_pos ω]
          · rw[if_neg r,if_neg ω]
     refine⟨c,λi hi=> ?_,λ_=> ?_,λn=>absurd n q⟩
     · have h5:=hv i hi;have h6:=x i hi;by_cases e:i=j
       · rw[if_pos e]at h5;have:=h6.2 e;omega
       · rw[if_neg e]at h5;have:¬0<ix f i:=λh=>e (h6.1 h)
         omega
     · rw[B _ (Nat.le_refl _),if_pos F,h];rfl
   · rw[hp.length_eq]at p;exact absurd p q
end Go.Proofs.YtddhegejmkgmjaaGreat
