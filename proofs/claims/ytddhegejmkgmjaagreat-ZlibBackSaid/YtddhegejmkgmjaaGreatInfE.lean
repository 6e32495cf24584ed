/-
  part
-/
import Derived.Test.YtddhegejmkgmjaaGreatPk24
import Derived.Test.YtddhegejmkgmjaaGreatArr
namespace Go.Proofs.YtddhegejmkgmjaaGreat
open Go.RowKit
set_option linter.unusedVariables false
set_option maxRecDepth 100000
set_option maxHeartbeats 8000000
section
variable {w w' w0 w2:World} {b0 g:Nat} {c0:Nat->Nat} {M M':DM} {S S':DS} {s t:IS} {b:List Int} {v:Int}
theorem av.push (h:av w0 c0 w b0 g M S) (v:Int) {a:Option Addr} {f c2:Nat} (m:(w.alloc (.cells #[.int .i64 v] 3)).grownBy w2 (aa M.Al)) (o:ag .i64 w2 b0 3 a f c2 (M.lens++[v])) (c:aa a=aa M.Al\/aa a=some (w.alloc (.cells #[.int .i64 v] 3)).heap.size):
  av w0 c0 (w2.setCell ⟨g,11,none⟩ (.slice a f c2)) b0 g { M with Al:=a,nl:=f,cl:=c2,lens:=M.lens++[v] } S:=by
 have d:=h.apart.2.1;have s:=h.cell.lt;have r:=(h.cell.alloc (.cells #[.int .i64 v] 3)).grown m (λe=>d e.symm)
 have j:aa a≠some g:=by
  rcases c with e | e
  · rw[e];exact d
  · rw[e];intro l;injection l with l;simp at l;omega
 refine h.Ay ((((aq.refl w _).alloc _).grown m (λq n=> .inl (.inr n))).setCell (p:= ⟨g,11,none⟩) (.inl (.inl rfl)) _) ((r.aQ (i:=11) ω _).congr (bN rfl rfl rfl rfl rfl rfl rfl rfl rfl rfl rfl rfl rfl rfl rfl rfl)) (o.far (p:= ⟨g,11,none⟩) j _) (λk b=> ?_);rcases c with e | e
 · exact .inl (e▸b)
 · rw[e]at b;injection b with b;simp at b;exact .inr ω
def ZG (w0:World) (c0:Nat->Nat) (b0 g:Nat) (M:DM) (S:DS) (s:IS) (k:Nat) (wr:World):Prop:=
 ∃M' t,av w0 c0 wr b0 g M' S/\IS.Steps s t/\Live M' S t/\t.Ok/\t.st=4/\M'.out=M.out/\t.all=s.all/\Hid (k=t.c2-t.lens.length)/\Hid (t.mu<=s.mu)
def Ty (b:World) (l:List Int) (a:Nat) (A:Option Addr) (nl:Nat) (k:Nat) (n i:Value) (wr:World):Prop:=
 ∃j,j<=l.length/\Hid (k=l.length-j)/\i= .int .i64 j/\n= .bool (cU (l.take j))/\Below a b wr/\Ar wr a 19 (hF l j)/\Ar wr (a+1) 19 (λp=> .int .i64 (gG.getD p 0:Nat))/\aT .i64 wr a A nl l
theorem aj.after {k:DM} {e:Ending} (j:IS.Steps s t) (p:t.mu<=s.mu) (a:t.all=s.all) (l:k.out=M.out) (h:aj w0 c0 b0 g k t e w'):aj w0 c0 b0 g M s e w':=by
 obtain⟨M',S',s',v,b,o,n,m,h4,h5,h6,h7⟩ :=h;refine⟨M',S',s',v,b,o,n,m,by rw[h4,l],by rw[h5,a],h6, ?_⟩;rcases h7 with ⟨f,d,i,c⟩ | ⟨f,d,i,c⟩ | ⟨f,d,i,c⟩
 · exact .inl ⟨f,j.trans d,ω,c⟩
 · exact .inr (.inl ⟨f,j.trans d,i,c⟩)
 · exact .inr (.inr ⟨f,d,by rw[<-j.iv];exact i,c⟩)
def Dh (w:World):World:=((w.alloc (.cells (cn 19 (.int .i64 0)) 3)).alloc (.cells #[.int .i64 16, .int .i64 17, .int .i64 18, .int .i64 0, .int .i64 8, .int .i64 7, .int .i64 9, .int .i64 6, .int .i64 10, .int .i64 5, .int .i64 11, .int .i64 4, .int .i64 12, .int .i64 3, .int .i64 13, .int .i64 2, .int .i64 14, .int .i64 1, .int .i64 15] 142)).drew
theorem Gt (w:World) (l:List Int):Below w.heap.size w (Dh w)/\Ar (Dh w) w.heap.size 19 (hF l 0)/\Ar (Dh w) (w.heap.size+1) 19 (λp=> .int .i64 (gG.getD p 0:Nat)):=by
 refine⟨(((Below.refl _ w).alloc (Nat.le_refl _) _).alloc σ _).drew,(((Ar.zeros w 19 (.int .i64 0) 3).alloc _).drew).congr λp _=>I9 l p, ?_⟩
 have:=Ar.new (m:=19) (f:=λp=> .int .i64 (gG.getD p 0:Nat)) (w.alloc (.cells (cn 19 (.int .i64 0)) 3)) #[.int .i64 16, .int .i64 17, .int .i64 18, .int .i64 0, .int .i64 8, .int .i64 7, .int .i64 9, .int .i64 6, .int .i64 10, .int .i64 5, .int .i64 11, .int .i64 4, .int .i64 12, .int .i64 3, .int .i64 13, .int .i64 2, .int .i64 14, .int .i64 1, .int .i64 15] 142 rfl (λi hi=>by
  obtain rfl | rfl | rfl | rfl | rfl | rfl | rfl | rfl | rfl | rfl | rfl | rfl | rfl | rfl | rfl | rfl | rfl | rfl | rfl:i=0\/i=1\/i=2\/i=3\/i=4\/i=5\/i=6\/i=7\/i=8\/i=9\/i=10\/i=11\/i=12\/i=13\/i=14\/i=15\/i=16\/i=17\/i=18:=ω
  all_goals rfl)
 rw[show(w.alloc (.cells (cn 19 (.int .i64 0)) 3)).heap.size=w.heap.size+1 by simp]at this;exact this.drew
theorem ET:(Tryz.prog.info? 142).map (λi=>(i.zero,i.size))=some (some (.agg (Array.replicate 19 (.int .i64 0))),19):=by kernel_rfl
theorem Fg (h:av w0 c0 w b0 g M S) (b:Live M S s) (hO:s.Ok) (c:s.st=4):
  Calls Tryz.prog 103 #[.pointer (some ⟨g,0,none⟩)] w (aj w0 c0 b0 g M s):=by
 obtain⟨i0,hi,V,U,T⟩ :=info_parts iF
 obtain⟨it,hit,ah,WT⟩ :∃it,Tryz.prog.info? 142 =some it/\it.zero=some (.agg (Array.replicate 19 (.int .i64 0)))/\it.size=19:=by
  have h:=ET;cases u:Tryz.prog.info? 142 with
  | none=>rw[u]at h;simp at h
  | some it=>rw[u]at h;simp at h;exact⟨it,rfl,h.1,h.2⟩
 have HT:=η (And.intro hit (And.intro ah WT));clear hit ah WT;have Hi:=η hi;have dM:=η V;have cV:=η U;have dN:=η T;clear hi V U T;go_enter Tryz.func103,Tryz.ntmps103
 go_wp2
 go_loopg [] (s.c2-s.lens.length) (ZG w0 c0 b0 g M S s)
 case atStart=>exact⟨M,s,h, .refl s,b,hO,c,rfl,rfl,rfl,Nat.le_refl _⟩
 case round=>
  clear h b hO c;obtain⟨d,t,h,X,b,hO,c,Z,f,A,uO⟩ :=hrel;obtain⟨bo,bn,bl⟩ :=hO.h4 c;obtain⟨-, -, -, -, -, -, -, -, -, -,aS,LF, -⟩ :=h.cells;have bT:=h.lens.1;rw[b.lens]at bT;have H:=b.x;have Ex:(0:Int)<=d.nl/\(d.nl:Int)<=19/\(0:Int)<=S.c2/\(S.c2:Int)<=19:=by have:=b.c2;omega
  have rY:=η b.c2;have kT:=η bT;have HB:=η H;by_cases ac:(d.nl:Int)<(S.c2:Int)
  · have K:Hid (t.lens.length<t.c2):=by show _<_;have:=rY.out;have:=kT.out;omega
    by_cases I:t.x.length<3
    · have uI:=η (uD c K.out I);have G:((rb d.B d.a).length:Int)<3:=by rw[H];omega
      clear H I bT A
      go_wp2_with fail
      go_region
      all_goals
       go_wp2_with fail
       refine(jx h.drew 3 (.inr (.inr G))).mono ?_;rintro e w1 ⟨rfl,m⟩
       go_wp2_with fail
       go_ret
       exact⟨d,S,t,5,[],rfl,m,b.err,by rw[Z,List.append_nil],by rw[f,List.append_nil],σ, .inr (.inl ⟨rfl,X,uI.out,b⟩)⟩
    · have uQ:=uE c K.out I;have G:3<=(rb d.B d.a).length:=by rw[H];omega
      obtain⟨v,hv⟩ :=ν (((num t.x 3:Nat):Int):Int)
      have iY:Hid (∀w2:World,av w0 c0 w2 b0 g d S->Calls Tryz.prog 118 #[.pointer (some ⟨g,0,none⟩), .int .i64 3] w2 λe w'=>e= .returned (.tuple #[.int .i64 v, .bool true])/\av w0 c0 w' b0 g { d with a:=d.a+3 } S):=λw2 h2=>by
       have:=qc h2 3 ω G
       rwa [H,hv]at this
      have oA:Hid (rb d.B (d.a+3)=t.x.drop 3):=by show _=_;rw[<-fR,H]
      have bd:0<=v:=ω;rw[hv]at uQ;have HP:=η uQ;have qm:Hid (t.step.1.mu<t.mu):=IS.ek (by rw[uQ]);clear H I bT G hv uQ
      go_wp2_with fail
      go_region
      all_goals
       go_wp2_with fail
       refine(iY.out _ h.drew).mono ?_;rintro e w1 ⟨rfl,m⟩;obtain⟨-, -, -, -, -, -, -, -, -, -, -,bb, -⟩ :=m.cells;have eD:=m.lens.alloc (.cells #[.int .i64 v] 3);have bk:=m.lo
       go_wp2_with (at_builtin;(refine au .i64 b0 3 i0 8 rfl (.tmp 34) (.tmp 36) _ rfl Tryz.underlying51 Hi.out dM.out cV.out dN.out rfl eD rfl (aT.lit .i64 w1 [v] 3) (by show d.nl+1<=_;omega) ω ξ ?_)
                    intro A4 d4 w4 aC al bG;have dG:=(m.cell.alloc (.cells #[.int .i64 v] 3)).grown al (λe=>m.apart.2.1 e.symm);have Zb:=dG.cell (i:=11) ω;have an:=dG.frozen' (i:=11) ω)
       have h5:=m.push v al aC bG;go_roundg (gk-1)
       case measure=>have m:=A.out;have h2:=K.out;omega
       case rel=>
        have zW:=IS.Steps.tail X (by rw[HP.out]);have am:=hO.step (.inl (by rw[HP.out]));have ab:=qm.out;rw[HP.out]at zW am ab;exact⟨_,_,h5,zW, ⟨oA.out,b.st,b.last,b.left,b.c0,b.c1,b.c2,by show d.lens++[v]=t.lens++[v];rw[b.lens],λe=>by simp [c]at e,λe=>by simp [c]at e,λe=>by simp [c]at e,λe=>by simp [c]at e,b.tail,b.rem,b.err⟩,am,c,Z,f,by show gk-1=t.c2-(t.lens++[v]).length;rw[List.length_append];have:=A.out;simp;omega,Nat.le_trans (Nat.le_of_lt ab) uO.out⟩
  · rename World=>wb
    have K:¬t.lens.length<t.c2:=by have:=rY.out;have:=kT.out;omega
    have L:Hid (ai (dD t.lens) 7≠0\/cU t.lens=true->t.step=(t,3)):=λm=>xI c K m
    have Wy:Hid (¬(ai (dD t.lens) 7≠0\/cU t.lens=true)->t.step=({ t with hd:=dD t.lens,lens:=[],st:=5 },0)):=λm=>CE c K m
    clear H A K bT;have jT:∀W,(Instr.makeSlice 51 (.int .i64 19) (.int .i64 19)).run Tryz.prog W= .ok (.slice (some ⟨W.heap.size,0,none⟩) 19 19) (W.alloc (.cells (cn 19 (.int .i64 0)) 3)):=λW=>cF (P:=Tryz.prog) 51 3 i0 (.int .i64 0) Tryz.underlying51 Hi.out dM.out cV.out rfl .i64 .i64 19 (by rw[dN.out];omega) ω W
    have wT:¬(d.nl:Int)<(S.c2:Int):=ac;have ap:(d.nl<S.c2)=False:=ξ;have r:=η (Gt wb d.lens);have hW:av w0 c0 (Dh wb) b0 g d S:=h.keeps r.out.1;obtain⟨-, -, -, -, -, -, -, -, -, -, -,Zb, -⟩ :=hW.cells;unfold Dh at Zb;have J9:=η h.lens;have Qp:=h.cell.lt;have n:aT .i64 (Dh wb) wb.heap.size d.Al d.nl d.lens:=h.lens.rd.below r.out.1;clear ac
    go_wp2_with fail
    go_region
    all_goals
     go_upto_region 8 with fail
     refine wp_region_list ?_;refine GY 142 3 19 _ [16,17,18,0,8,7,9,6,10,5,11,4,12,3,13,2,14,1,15] 41 7 rfl rfl rfl rfl rfl rfl rfl rfl rfl Tryz.underlying142 (by kernel_rfl) it HT.out.1 _ HT.out.2.1 rfl HT.out.2.2 rfl rfl rfl ?_
     go_wp2_with fail
     change Code.wp _ _ _ _ (Dh wb)
     clear Zb jT wT ap;obtain⟨k,Ug⟩ :=ν (wb.heap.size);obtain⟨Al,YE⟩ :=ν (d.Al);obtain⟨nl,Sd⟩ :=ν (d.nl);obtain⟨l,G⟩ :=ν (d.lens);rw[Ug]at r n⊢;rw[YE,Sd]at n⊢;rw[G]at n r;rw[Sd]at Ex;have aE:=η Ug;have bt:=η YE;have bp:=η Sd;have yI:=η G;clear Ug YE Sd G;generalize Dh wb=wo at r hW n⊢;have z:=η n.1;have aA:=η h;clear h hW
     go_loopg [6,47] l.length (Ty wb l k Al nl)
     case atStart=>exact⟨0,Nat.zero_le _,rfl,rfl,rfl,r.out.1,r.out.2.1,r.out.2.2,n⟩
     case round=>
      clear n r;obtain⟨j,hj,A,rfl,rfl,Bv,N,O,n⟩ :=hrel;by_cases qj:j<nl
      · have Ui:(0:Int)<=j/\(j:Int)<(nl:Int)/\(j:Int)<19:=ω;obtain⟨ad,rfl,bi,c1⟩ :=n.at_ qj;have c2:=O.cell (i:=j) ω;have hp:=Ie j ω;have dT:=η (λq (u:q<19)=>I8 (l:=l) (i:=j) ω u);obtain⟨p,tq⟩ :=ν (gG.getD j 0);rw[tq]at c2 hp dT;have z3:=N.frozen' hp;have c3:=N.cell hp;have y:=η (Gl (l:=l) (i:=j) (by rw[<-z.out];exact qj));obtain⟨x,I⟩ :=ν (ix l j);rw[I]at c1 dT y;have YY:(0:Int)<=p/\(p:Int)<19:=ω
        have uR:Hid (∀nb,nb=cU (l.take (j+1))->Ty wb l k (some ad) nl (gk-1) (.bool nb) (.int .i64 ((j:Int)+1)) (wr.setCell ⟨k,p,none⟩ (.int .i64 x))):=λnb J=>
         ⟨j+1,by rw[<-z.out];omega,by show gk-1=_;have:=A.out;omega,by go_num,by rw[J],Bv.setCell (p:= ⟨k,p,none⟩) (Nat.le_refl _) _,(N.aQ hp _).congr λq u=>dT.out q u,O.far (p:= ⟨k,p,none⟩) (by show k+1≠k;omega) _,n.keep λq u=>World.cell?_of_block (Below.heap_setCell _ _ _ _ ξ)⟩
        clear tq I;cases J:cU (l.take j)
        · rw[J]at y;have PZ:Hid (false=cU (l.take (j+1))):=by show _=_;rw[y.out];rfl
          clear y J
          go_wp2_with fail
          go_roundg (gk-1)
          case measure=>have:=A.out;have:=z.out;omega
          case rel=>exact uR.out _ PZ.out
        · rw[J]at y;by_cases o:x=0
          · have PZ:Hid (true=cU (l.take (j+1))):=by show _=_;rw[y.out,o];rfl
            clear y J;subst o
            go_wp2_with fail
            go_roundg (gk-1)
            case measure=>have:=A.out;have:=z.out;omega
            case rel=>exact uR.out _ PZ.out
          · have ao:(x==0)=false:=by simpa using o
            have PZ:Hid (false=cU (l.take (j+1))):=by show _=_;rw[y.out,ao];rfl
            clear y J o
            go_wp2_with fail
            go_roundg (gk-1)
            case measure=>have:=A.out;have:=z.out;omega
            case rel=>exact uR.out _ PZ.out
      · obtain rfl:j=nl:=by have:=z.out;omega
        rw[z.out,List.take_length];rw[z.out]at N;have Y:aT .i64 wr (k+1) (some ⟨k,0,none⟩) 19 (dD l):= ⟨(iN l).symm,(N.rd (B:=k+1) ω (Nat.le_refl 19)).congr λq u=>N7 u⟩;have kJ:=N.lt;have jJ:l=t.lens:=by rw[<-yI.out,b.lens]
        rw[<-jJ]at L Wy;have F:=aA.out.keeps (w':=wr) (by rw[aE.out];exact Bv);have bs:=η jJ;have be:¬(j:Int)<(j:Int):=ω;clear N O n Bv z jJ kT rY;by_cases C:ai (dD l) 7=0
        · have Q:=jt wr (some ⟨k,0,none⟩) 19 19 (k+1) (dD l) 7 Y kJ ω C;have PX:=η C;have UZ:=η Q;clear C Q;cases tI:cU l
          · have BJ:=η tI;clear tI
            go_wp2_with fail
            refine UZ.out.mono ?_;rintro e w3 ⟨g3,rfl,Kf,D⟩;have h3:=(F.SZ D Kf (by rw[iN];omega)).1;have R:=F.keeps D;have aI:=R.cell.frozen' (i:=12) ω;have an:=R.cell.frozen' (i:=11) ω;have z5:=R.cell.frozen' (i:=5) ω;obtain⟨-, -, -, -, -,k5, -, -, -, -, -,LF,Ox, -⟩ :=R.cells;have h4:=h3.OJ.put (i:=5) ω (.int .i64 5) { S with st:=5 } (bN rfl rfl rfl rfl rfl rfl rfl rfl rfl rfl rfl rfl rfl rfl rfl rfl)
            go_wp2_with fail
            go_ret
            refine aj.after X uO.out f Z (aj.MW (Wy.out (by rw[PX.out,BJ.out];simp)) rfl h4 ⟨HB.out,rfl,b.last,b.left,b.c0,b.c1,b.c2,rfl,λ_=>rfl,λe=>by simp at e,λe=>by simp at e,λe=>by simp at e,b.tail,b.rem,b.err⟩ rfl)
          · have BJ:=η tI;clear tI
            go_wp2_with fail
            refine UZ.out.mono ?_;rintro e w3 ⟨g3,rfl,Kf,D⟩;have R:=F.keeps D
            go_wp2_with fail
            go_ret
            exact aj.after X uO.out f Z (aj.pV (L.out (.inr BJ.out)) δ δ δ rfl R b.err rfl)
        · have Q:=C9 wr (some ⟨k,0,none⟩) 19 19 (k+1) (dD l) 7 Y ω C;have PX:=η C;obtain⟨E,hE⟩ :=ν (ai (dD l) 7);rw[hE]at Q C;have lr:(E==0)=false:=by simpa using C
          have UZ:=η Q;have wA:(E != 0)=true:=by simpa using C
          generalize cU l=nb;clear C Q hE;cases nb
          all_goals
           go_wp2_with fail
           refine UZ.out.mono ?_;rintro e w3 ⟨rfl,rfl⟩
           go_wp2_with fail
           go_ret
           exact aj.after X uO.out f Z (aj.pV (L.out (.inl PX.out)) δ δ δ rfl F b.err rfl)
end
end Go.Proofs.YtddhegejmkgmjaaGreat
