/-
  part
-/
import Derived.Test.YtddhegejmkgmjaaGreatRfE
import Derived.Test.YtddhegejmkgmjaaGreatStep
import Derived.Deep.CutBlock
import Derived.Deep.DeepMust
namespace Go.Proofs.YtddhegejmkgmjaaGreat
open Go.RowKit
set_option linter.unusedVariables false
set_option maxRecDepth 100000
set_option maxHeartbeats 8000000
section
variable {w w' w0 w2:World} {b0 g:Nat} {c c0:Nat->Nat} {R R':RM} {s t t':IS} {v:Int}
theorem IS.GL (s:IS):(s.step.1.kinds=s.kinds/\s.step.1.last=s.last)\/s.step.1.kinds.length=s.kinds.length+1:=by
 have a:∀s:IS,s.over.kinds=s.kinds/\s.over.last=s.last:=λs=>by unfold IS.over;split <;> exact⟨rfl,rfl⟩
 have c:∀(s:IS) b,(s.emit b).1.kinds=s.kinds/\(s.emit b).1.last=s.last:=λs b=> ⟨rfl,rfl⟩
 unfold IS.step
 split
 · unfold IS.block
   split
   · exact .inl ⟨rfl,rfl⟩
   · split
     · exact .inr σ
     · split
       · exact .inr σ
       · split
         · exact .inr σ
         · exact .inr σ
 split
 · unfold IS.size
   split
   · exact .inl ⟨rfl,rfl⟩
   · split <;> exact .inl ⟨rfl,rfl⟩
 split
 · unfold IS.stored
   split
   · exact .inl (a s)
   · split
     · exact .inl ⟨rfl,rfl⟩
     · exact .inl ⟨rfl,rfl⟩
 split
 · unfold IS.sizes
   split
   · exact .inl ⟨rfl,rfl⟩
   · split <;> exact .inl ⟨rfl,rfl⟩
 split
 · unfold IS.heads
   split
   · split <;> exact .inl ⟨rfl,rfl⟩
   · split <;> exact .inl ⟨rfl,rfl⟩
 split
 · unfold IS.lengths IS.length IS.fB
   repeat' split
   all_goals exact .inl ⟨rfl,rfl⟩
 split
 · unfold IS.token
   split
   · exact .inl ⟨rfl,rfl⟩
   · split
     · exact .inl ⟨rfl,rfl⟩
     · split
       · exact .inl (a _)
       · repeat' split
         all_goals exact .inl ⟨rfl,rfl⟩
 split
 · unfold IS.ak IS.text
   repeat' split
   all_goals exact .inl ⟨rfl,rfl⟩
 · exact .inl ⟨rfl,rfl⟩
theorem IS.Steps.last (h:IS.Steps s t):s.kinds.length<=t.kinds.length/\(t.kinds.length=s.kinds.length->t.last=s.last):=by
 induction h with
 | refl=>exact⟨Nat.le_refl _,λ_=>rfl⟩
 | @tail t h1 h2 ih=>
   rcases IS.GL t with ⟨a,b⟩ | a
   · rw[a,b];exact ih
   · rw[a];exact⟨ω,λe=>ω⟩
theorem IS.JH (h:s.st=8):s.fin=(s,8):=by
 have e:s.step=(s,8):=by unfold IS.step;rw[h];rfl
 rw[IS.dn (by rw[e];simp),e]
def qT (w:World) (F:IS×Int) (b:List Int) (e:Ending) (w':World):Prop:=
 ∃g c R,e= .returned (.pointer (some ⟨g,0,none⟩))/\cX w' w.heap.size g c R/\Below w.heap.size w w'/\R.E=MG F/\R.out=F.1.all/\R.kinds=F.1.kinds/\R.stops=F.1.stops/\R.a8=F.1.a8/\(F.2=8->R.rest=((b.length-F.1.x.length/8:Nat):Int))
def ZI (w:World) (g:Nat) (b:List Int) (m:Nat) (k:Nat) (wr:World):Prop:=
 ∃R s c',cX wr w.heap.size g c' R/\Below w.heap.size w wr/\jq R s/\s.Ok/\s.st=0/\IS.Steps (start (bV b) m) s/\Hid (k=s.mu)/\3*R.kinds.length<=R.at_/\R.stops.length<=R.kinds.length/\R.X=bV b
def Vq (w:World) (g:Nat) (b:List Int) (m:Nat) (c:IS) (V:Nat) (a:Value) (wx:World):Prop:=
 (a= .bool true/\∃R' c' t x',cX wx w.heap.size g c' R'/\Below w.heap.size w wx/\IS.Steps c t/\t.step=(({ t with x:=x' }:IS).over,0)/\jq R' { t with x:=x' }/\t.Ok/\t.last=decide (V%2=1)/\3*R'.kinds.length<=R'.at_/\R'.stops.length+1<=R'.kinds.length/\R'.X=bV b)\/
 (a= .bool false/\∃R' c' t v,cX wx w.heap.size g c' R'/\Below w.heap.size w wx/\c.fin=(t,v)/\v≠8/\EI R' t v)
theorem Vq.of {V:Nat} {b:List Int} {m:Nat} {n k:IS} {a:RM} {c1:Nat->Nat} {w1 wx:World} {bo:Bool} (C:cX w1 w.heap.size g c1 a) (p:Below w.heap.size w w1) (o:IS.Steps n k) (hO:k.Ok) (r:k.last=decide (V%2=1)) (s:a.kinds=k.kinds) (A:3*a.kinds.length<=a.at_) (l:a.stops.length+1<=a.kinds.length) (x:a.X=bV b)
  (h:cE w1 c1 w.heap.size g a k (.returned (.bool bo)) wx):Vq w g b m n V (.bool bo) wx:=by
 rcases h with ⟨R',t,x',e, ⟨c',f,i⟩,d,c,q,j⟩ | ⟨R',t,v,e, ⟨c',f,i⟩,u,z,y⟩
 · injection e with e;injection e with e;subst e;refine .inl ⟨rfl,R',c',t,x',f,p.trans i.1,o.trans d,c,q,hO.steps d, ?_, ?_, ?_,j.X.trans x⟩
   · rw[<-r];refine d.last.2 ?_;have B:R'.kinds=t.kinds:=q.kinds;rw[<-B,j.kinds,s]
   · rw[j.kinds];exact Nat.le_trans A j.le
   · rw[j.kinds,j.stops];exact l
 · injection e with e;injection e with e;subst e;exact .inr ⟨rfl,R',c',t,v,f,p.trans i.1,by rw[<-o.iv];exact u,z,y⟩
theorem qT.bad {m:Nat} {b:List Int} {F:IS×Int} (hF:(start (bV b) m).fin=F) (f:IS.Steps (start (bV b) m) s) (h:s.fin=(t,v)) (d:v≠8) (j:cX w' w.heap.size g c R) (i:Below w.heap.size w w') (a:EI R t v):qT w F b (.returned (.pointer (some ⟨g,0,none⟩))) w':=by
 have e:F=(t,v):=by rw[<-hF,<-f.iv,h]
 subst e;exact⟨g,c,R,rfl,j,i,by unfold MG;rw[if_neg d];exact a.E,a.out,a.kinds,a.stops,a.a8,λe=>absurd e d⟩
theorem Mk (b:List Int):(bV b).length%8=0:=by rw[bD];omega
def R0 (Ab:Option Addr) (nb cb:Nat) (b:List Int) (v:Int):RM:= ⟨none,0,0,[],0,0,none,0,0,[],none,0,0,[],Ab,nb,cb,bV b,0,v, .slice none 0 0, .slice none 0 0, .slice none 0 0, .slice none 0 0,none,0,0,[]⟩
theorem a5C {w1:World} {b0:Nat} {Ab:Option Addr} {nb cb:Nat} {b:List Int} (v:Int) (e:ag .u8 w1 b0 5 Ab nb cb (bV b)) (g:b0<=w1.heap.size):
  ∃c,cX (w1.alloc (.cells #[.slice none 0 0, .int .i64 0, .int .i64 0, .slice none 0 0, .slice none 0 0, .slice Ab nb cb, .int .i64 0, .int .i64 v, .slice none 0 0, .slice none 0 0, .slice none 0 0, .slice none 0 0, .slice none 0 0] 55)) b0 w1.heap.size c (R0 Ab nb cb b v):=by
 have d:∀k,aa Ab=some k->b0<=k/\k<w1.heap.size:=λk a=>e.2.lt a
 refine⟨λk=>if k=w1.heap.size then 1 else if aa Ab=some k then 6 else 0,Ar.new w1 _ _ rfl (cu rfl rfl rfl rfl rfl rfl rfl rfl rfl rfl rfl rfl rfl),if_pos rfl,ag.br,λk a=>by simp [aa,R0]at a,ag.br,λk a=>by simp [aa,R0]at a,ag.br,λk a=>by simp [aa,R0]at a, ⟨rfl,Own.br⟩,λk a=>by simp [aa,R0]at a,e.alloc _,λk a=> ?_,λk a=> ?_⟩
 · have:=d k a;show(if _ then _ else _)=6
   rw[if_neg ω,if_pos (show aa Ab=some k from a)]
 · rw[fO]
   split at a
   · omega
   · split at a
     · rename_i h f
       have:=d k f;omega
     · exact absurd rfl a
theorem a2z {a:World} {Ab:Option Addr} {nb cb:Nat} {b:List Int} {m:Nat} (f:cX a w.heap.size g c (R0 Ab nb cb b m)) (e:Below w.heap.size w a) (d:b.length<=10000000000) (h:m<=1000000000):ZI w g b m (start (bV b) m).mu a:=
 ⟨R0 Ab nb cb b m,start (bV b) m,c,f,e, ⟨rfl,Nat.zero_le _,rfl,rfl,rfl,rfl,by show(m:Int)=(([]:List Int).length+m:Nat);simp,rfl,bc.bV b,by show(bV b).length<=_;rw[bD];omega,Mk b,by show([]:List Int).length+m<=_;simp;omega,Nat.zero_le _⟩, .start (bc.bV b) m,rfl, .refl _,rfl,Nat.zero_le _,Nat.le_refl _,rfl⟩
theorem AX (w:World) (Bd:Nat) (A:Option Addr) (n cp:Nat) (b:List Int) (hr:aT .u8 w Bd A n b) (Et:Bd<=w.heap.size) (cD:∀x∈b,0<=x/\x<256) (ao:b.length<=10000000000) (most:Int) (m:Nat) (hm:(m:Int)=max most 0) (uM:m<=1000000000) (F:IS×Int) (hF:(start (bV b) m).fin=F):
  Calls Tryz.prog 23 #[.slice A n cp, .int .i64 most] w (qT w F b):=by
 obtain⟨i0,hi,bi,be,bd⟩ :=info_parts iF;have Hi:=η hi;have dM:=η bi;have cV:=η be;have dN:=η bd;have HM:=η hm;have HF:=η hF;have mC:n=b.length:=hr.1;have sr:=Mj w Bd n cp A b hr Et cD ω;have HB:=η sr;have dz:=η mC;have bv:(most<0/\m=0)\/(0<=most/\(m:Int)=most):=ω;clear hi bi be bd hm hF sr mC hr;have LO:=η bv;clear bv;go_enter Tryz.func23,Tryz.ntmps23
 go_wp2_with fail
 refine HB.out.mono ?_;rintro e w1 ⟨Ab,nb,cb,rfl,oz,G⟩;have f:=G.size;obtain⟨c1,gv⟩ :=a5C most oz f;have an:=G.alloc f (.cells #[.slice none 0 0, .int .i64 0, .int .i64 0, .slice none 0 0, .slice none 0 0, .slice Ab nb cb, .int .i64 0, .int .i64 most, .slice none 0 0, .slice none 0 0, .slice none 0 0, .slice none 0 0, .slice none 0 0] 55);obtain⟨z,Qp⟩ :=ν (w1.heap.size);rw[Qp]at gv;have dc:=η Qp
 have bS:Hid (∃k,((most<0->ZI w z b m k ((w1.alloc (.cells #[.slice none 0 0, .int .i64 0, .int .i64 0, .slice none 0 0, .slice none 0 0, .slice Ab nb cb, .int .i64 0, .int .i64 most, .slice none 0 0, .slice none 0 0, .slice none 0 0, .slice none 0 0, .slice none 0 0] 55)).setCell ⟨z,7,none⟩ (.int .i64 0)))/\(0<=most->ZI w z b m k (w1.alloc (.cells #[.slice none 0 0, .int .i64 0, .int .i64 0, .slice none 0 0, .slice none 0 0, .slice Ab nb cb, .int .i64 0, .int .i64 most, .slice none 0 0, .slice none 0 0, .slice none 0 0, .slice none 0 0, .slice none 0 0] 55))))):=by
  refine⟨(start (bV b) m).mu,λh=> ?_,λh=> ?_⟩
  · have al:m=0:=by rcases LO.out with ⟨_,h1⟩ | ⟨h1,_⟩ <;> omega
    subst al;exact a2z (gv.put (i:=7) ω (.int .i64 0) (R0 Ab nb cb b 0) (cu rfl rfl rfl rfl rfl rfl rfl rfl rfl rfl rfl rfl rfl) rfl) (an.setCell (p:= ⟨z,7,none⟩) (by show w.heap.size<=z;omega) _) ao uM
  · have al:(m:Int)=most:=by rcases LO.out with ⟨h1,_⟩ | ⟨_,h1⟩ <;> omega
    rw[<-al];rw[<-al]at gv an;exact a2z gv an ao uM
 obtain⟨k0,bS⟩ :=bS.out;have LQ:=η bS;have k7:=gv.cell.cell (i:=7) ω;have z7:=gv.cell.frozen' (i:=7) ω;clear bS gv an oz G f Qp
 go_upto_if 15 with fail
 rw[dc.out]
 go_cut [] (λwx=>ZI w z b m k0 wx)
 case first=>
  by_cases K7:most<0
  · have HI:=η (LQ.out.1 K7);clear LQ
    go_wp2_with fail
    go_meet
    exact HI.out
  · have cx:0<=most:=ω;have HI:=η (LQ.out.2 cx);clear LQ
    go_wp2_with fail
    go_meet
    exact HI.out
 case rest=>
  clear k7 z7 LQ;have Ts:=η hcut;clear hcut
  go_wp2_with fail
  go_loopg [] k0 (ZI w z b m)
  case atStart=>exact Ts.out
  case round=>
   clear Ts;obtain⟨R,s,c',D,hb,r,hO,ac,hs,I,zN,xK,hX⟩ :=hrel;have cz:=r.le;have bl:s.x.length=R.X.length-R.at_:=by rw[<-r.x,List.length_drop]
   have dj:R.X.length<=100000000000:=r.len;have y:Hid (s.step=s.block):=by show _=_;unfold IS.step;rw[if_pos ac]
   unfold IS.block at y;by_cases ab:s.x.length<3
   · have cr:Hid (s.fin=(s,5)):=by
      have e:=y.out.trans (if_pos ab);show _=_
      rw[IS.dn (by rw[e];simp),e]
     have ht:=η (jm D.refl 3 ω ω cz ω);clear ab bl y ac
     go_wp2_with fail
     refine ht.out.mono ?_;rintro e w6 ⟨rfl,c6,zy,Fy⟩
     go_wp2_with fail
     go_ret
     exact qT.bad HF.out hs cr.out δ zy (hb.trans Fy.1) ⟨r.out,r.kinds,r.stops,r.a8,rfl⟩
   · have T:=η (y.out.trans (if_neg ab));have Oo:=cO hO.bit 3;obtain⟨V,hV⟩ :=ν (num s.x 3);have ht:=η (fg D.refl 3 ω ω r.bit ω (V:Int) (by rw[r.x,hV]));rw[hV]at Oo T;have dp:V<8:=by have:(2:Nat) ^ 3=8:=δ;omega
     obtain⟨J,aI⟩ :=ν (V/2);rw[aI]at T;have dq:(V:Int)/2=(J:Int):=ω;have dl:(0:Int)<=V/\(V:Int)<8/\(0:Int)<=J/\(J:Int)<4:=ω;have Kh:Hid (R.X.drop (R.at_+3)=s.x.drop 3):=by show _=_;rw[<-r.x,List.drop_drop]
     have mz:Hid (R.at_+3<=R.X.length):=by show _<=_;omega
     have du:=η aI;clear ab bl y Oo hV aI
     go_wp2_with fail
     refine ht.out.mono ?_;rintro e w6 ⟨rfl,h6⟩;have YX:R.nk=R.kinds.length:=D.kinds.1;have cw:R.nk+1<=1000000000000:=ω;have L:=h6.apart.2.1;have bs:=h6.cell.lt;have dh:=h6.lo;have k3:=h6.cell.cell (i:=3) ω;rw[show sF { R with at_:=R.at_+3 } 3= .slice R.Ak R.nk R.ck from rfl]at k3;have eD:=h6.kinds.alloc (.cells #[.int .i64 (J:Int)] 3);clear YX
     go_upto_region 8 with fail
     go_cut [] (λwx=>∃H d4,az wr c' wx w.heap.size z { R with at_:=R.at_+3,Ak:=H,nk:=R.nk+1,ck:=d4,kinds:=R.kinds++[(J:Int)] })
     case first=>
      go_wp2_with (at_builtin;(refine au .i64 w.heap.size 3 i0 8 rfl (.tmp 33) (.tmp 35) _ rfl Tryz.underlying51 Hi.out dM.out cV.out dN.out rfl eD rfl (aT.lit .i64 w6 [(J:Int)] 3) cw ω ξ ?_)
                   intro H d4 w4 aC P bG;have dG:=(h6.cell.alloc (.cells #[.int .i64 (J:Int)] 3)).grown P (λe=>L e.symm);have x3:=dG.cell (i:=3) ω;have z3:=dG.frozen' (i:=3) ω)
      go_meet
      have ah:aa H≠some z:=by
       rcases bG with e | e
       · rw[e];exact L
       · rw[e];intro O;injection O with O;simp at O;omega
      have h7:=h6.Gj (A':=H) (n':=R.nk+1) (c':=d4) (l':=R.kinds++[(J:Int)]) ((((aq.refl w6 _).alloc _).grown P (λq hq=> .inl (.inr hq))).setCell (p:= ⟨z,3,none⟩) (.inl (.inl rfl)) (.slice H (R.nk+1) d4)) ((dG.aQ (i:=3) ω _).congr (cu rfl rfl rfl rfl rfl rfl rfl rfl rfl rfl rfl rfl rfl)) (aC.far (p:= ⟨z,3,none⟩) ah _) (λk I=>by
       rcases bG with e | e
       · left;rw[<-e];exact I
       · rw[e]at I;injection I with I;right;first | (simp at I;omega) | omega)
      exact⟨H,d4,h7⟩
     case rest=>
      obtain⟨H,d4,c4,N,Lj⟩ :=hcut;have K:=hb.trans Lj.1;clear h6 k3 eD L;have bx:∀(j:IS),j.x=s.x.drop 3->j.all=s.all->j.rem=s.rem->j.kinds=s.kinds++[(J:Int)]->j.stops=s.stops->j.a8=s.a8->jq { R with at_:=R.at_+3,Ak:=H,nk:=R.nk+1,ck:=d4,kinds:=R.kinds++[(J:Int)] } j:=λj a1 a2 a3 a4 a5 a6=> ⟨by rw[a1];exact Kh.out,mz.out,by rw[a2];exact r.out,by rw[a4];show R.kinds++_=_;rw[r.kinds],by rw[a5];exact r.stops,by rw[a6];exact r.a8,by rw[a2,a3];exact r.most,r.E,r.bit,r.len,r.even,by rw[a2,a3];exact r.small,Nat.le_trans r.tk (by show R.at_<=R.at_+3;omega)⟩
      have am:3*(R.kinds++[(J:Int)]).length<=R.at_+3:=by rw[List.length_append];simp;omega
      have gZ:R.stops.length+1<=(R.kinds++[(J:Int)]).length:=by rw[List.length_append];simp;omega
      have J9:=η bx;have da:=η ac;clear bx ac
      go_upto_block 2 with fail
      go_cut [7] (λs7 wx=>Vq w z b m s V s7 wx)
      case first=>
       obtain Ia | YH | cL | cH:J=0\/J=1\/J=2\/J=3:=ω
       · subst Ia;have f:=T.out.trans (if_pos rfl);have o:IS.Steps s s.step.1:= .tail (.refl _) (by rw[f]);rw[f]at o;have Q:=hO.steps o;have im:=Dy N.refl Q rfl (by show gO (R.X.drop (R.at_+3))=gO (s.x.drop 3);rw[Kh.out]) (J9.out _ Kh.out rfl rfl rfl rfl rfl);have HC:=η im;have Tn:=η (λ(bo:Bool) wx h=>Vq.of (b:=b) (m:=m) (V:=V) (bo:=bo) (wx:=wx) N K o Q rfl (by show R.kinds++_=s.kinds++_;rw[r.kinds]) am gZ hX h);clear im f o Q T
         go_wp2_with fail
         refine HC.out.mono ?_;rintro e w7 h
         obtain⟨bo,rfl⟩ :∃bo,e= .returned (.bool bo):=by
          rcases h with ⟨_,_,_,M,_⟩ | ⟨_,_,_,M,_⟩
          · exact⟨_,M⟩
          · exact⟨_,M⟩
         have HQ:=η (Tn.out bo _ h);clear h Tn HC
         go_wp2_with fail
         go_meet
         exact HQ.out
       · subst YH
         obtain⟨j,f,u,Y,U,Z,pO,Oj,TN,NL,Nz,W⟩ :∃j:IS,s.step=(j,0)/\j.x=s.x.drop 3/\j.all=s.all/\j.rem=s.rem/\j.kinds=s.kinds++[((1:Nat):Int)]/\j.stops=s.stops/\j.a8=s.a8/\j.st=6/\j.lt=cY/\j.ds=dP/\j.last=decide (V%2=1):=
          ⟨_,T.out.trans ((if_neg δ).trans (if_pos rfl)),rfl,rfl,rfl,rfl,rfl,rfl,rfl,rfl,rfl,rfl⟩
         have o:IS.Steps s s.step.1:= .tail (.refl _) (by rw[f]);rw[f]at o;have Q:=hO.steps o;have c:=J9.out j u Y U Z pO Oj;have Wx:∀q,c4 q≠0->w.heap.size<=q/\q<wc.heap.size:=λq hq=>N.cb q hq
         have oX:=(Wx z (by rw[N.cg];decide)).1;have cQ:=η (GD N);have Q1:=η o;have cj:=η Q;have LR:=η c;have HH:=η (⟨NL,Nz,TN,Z,W⟩ :j.lt=cY/\j.ds=dP/\j.st=6/\j.kinds=s.kinds++[((1:Nat):Int)]/\j.last=decide (V%2=1));have dd:=η Wx;clear f o Q T c u Y U Z pO Oj TN NL Nz W Wx J9 N Lj
         go_wp2_with fail
         refine cQ.out.mono ?_;rintro e w7 ⟨A1,d1,A2,d2,rfl,B,bI,oz,fP⟩;have ly:Below w.heap.size w w7:=K.trans (bI.below (λk I=>by rw[I];exact oX) K.size)
         have hu:∀{A:Option Addr} {n d:Nat} {l:List Int},ag .i64 w7 wc.heap.size 3 A n d l->0<n->∀ad,A=some ad->c4 ad.block=0:=by
          intro A n d l ho h0 ad e;have:=(ho.2.lt (g:=ad.block) (by rw[e];rfl)).1;by_cases O:c4 ad.block=0
          · exact O
          · have:=(dd.out _ O).2;omega
         obtain⟨NL,Nz,TN,Z,W⟩ :=HH.out;have c:=LR.out;have W6:jq { R with at_:=R.at_+3,Ak:=H,nk:=R.nk+1,ck:=d4,kinds:=R.kinds++[((1:Nat):Int)],Al:= .slice A1 288 d1,Ad:= .slice A2 32 d2 } j:= ⟨c.x,c.le,c.out,c.kinds,c.stops,c.a8,c.most,c.E,c.bit,c.len,c.even,c.small,c.tk⟩;have HT:=η (sI B W6 cj.out TN A1 A2 288 d1 32 d2 rfl rfl (by rw[NL];exact oz.rd) (by rw[Nz];exact fP.rd) (hu oz) (hu fP));have Tn:=η (λ(bo:Bool) wx h=>Vq.of (b:=b) (m:=m) (V:=V) (bo:=bo) (wx:=wx) B ly Q1.out cj.out W (by show R.kinds++_=j.kinds;rw[Z,r.kinds]) am gZ hX h);clear W6 c NL Nz TN Z W hu B bI oz fP
         go_wp2_with fail
         refine HT.out.mono ?_;rintro e w8 h
         obtain⟨bo,rfl⟩ :∃bo,e= .returned (.bool bo):=by
          rcases h with ⟨_,_,_,M,_⟩ | ⟨_,_,_,M,_⟩
          · exact⟨_,M⟩
          · exact⟨_,M⟩
         have HQ:=η (Tn.out bo _ h);clear h Tn HT
         go_wp2_with fail
         go_meet
         exact HQ.out
       · subst cL
         obtain⟨j,f,u,Y,U,Z,pO,Oj,ch,W⟩ :∃j:IS,s.step=(j,0)/\j.x=s.x.drop 3/\j.all=s.all/\j.rem=s.rem/\j.kinds=s.kinds++[((2:Nat):Int)]/\j.stops=s.stops/\j.a8=s.a8/\j.st=3/\j.last=decide (V%2=1):=
          ⟨_,T.out.trans ((if_neg δ).trans ((if_neg δ).trans (if_pos rfl))),rfl,rfl,rfl,rfl,rfl,rfl,rfl,rfl⟩
         have o:IS.Steps s s.step.1:= .tail (.refl _) (by rw[f]);rw[f]at o;have Q:=hO.steps o;have c:=J9.out j u Y U Z pO Oj;have bb:=η (AQ N c Q ch);have Q1:=η o;have HH:=η (⟨Z.trans (by rw[<-r.kinds]),W⟩ :j.kinds=R.kinds++[((2:Nat):Int)]/\j.last=decide (V%2=1));clear f o Q T c u Y U Z pO Oj ch W J9 N Lj
         go_wp2_with fail
         refine bb.out.mono ?_;rintro e w7 h;rcases h with ⟨R7,t7,c7,Al,nl,cl,Ad,nd,cd,rfl,B,TS,aA,ce,aE,W6,YE,TQ,bp,bt,ja,kV,YI⟩ | ⟨R7,t7,v7,rfl, ⟨c7,B,TS⟩,wB,S,TU⟩
         · have ly:=K.trans TS.1;have WW:R7.kinds=R.kinds++[((2:Nat):Int)]:=YI.kinds
           have bn:t7.last=decide (V%2=1):=by
            rw[<-HH.out.2];refine aA.last.2 ?_;rw[<-W6.kinds,WW,HH.out.1]
           have HT:=η (sI B W6 aE ce Al Ad nl cl nd cd YE TQ bp bt ja kV);have Tn:=η (λ(bo:Bool) wx h=>Vq.of (b:=b) (m:=m) (V:=V) (bo:=bo) (wx:=wx) B ly (Q1.out.trans aA) aE bn W6.kinds (by rw[WW];exact Nat.le_trans am YI.le) (by rw[WW,YI.stops];exact gZ) (YI.X.trans hX) h);clear B TS aA ce aE W6 YE TQ bp bt ja kV YI ly WW bn bb
           go_wp2_with fail
           refine HT.out.mono ?_;rintro e w8 h
           obtain⟨bo,rfl⟩ :∃bo,e= .returned (.bool bo):=by
            rcases h with ⟨_,_,_,M,_⟩ | ⟨_,_,_,M,_⟩
            · exact⟨_,M⟩
            · exact⟨_,M⟩
           have HQ:=η (Tn.out bo _ h);clear h Tn HT
           go_wp2_with fail
           go_meet
           exact HQ.out
         · have HQ:Hid (Vq w z b m s V (.bool false) w7):= .inr ⟨rfl,R7,c7,t7,v7,B,K.trans TS.1,by rw[<-Q1.out.iv];exact wB,S,TU⟩;clear B TS wB S TU bb
           go_wp2_with fail
           go_meet
           exact HQ.out
       · subst cH;have f:=T.out;rw[if_neg δ,if_neg δ,if_neg δ]at f;have Lr:=η ((IS.dn (s:=s) (by rw[f];show(2:Int)≠0;decide)).trans f);have k1:=N.cell.cell (i:=1) ω;have z1:=N.cell.frozen' (i:=1) ω;clear f T
         go_wp2_with fail
         go_meet
         exact .inr ⟨rfl,{ R with at_:=R.at_+3,Ak:=H,nk:=R.nk+1,ck:=d4,kinds:=R.kinds++[((3:Nat):Int)],E:=2 },c4,_,2,N.put (i:=1) ω (.int .i64 2) { R with at_:=R.at_+3,Ak:=H,nk:=R.nk+1,ck:=d4,kinds:=R.kinds++[((3:Nat):Int)],E:=2 } (cu rfl rfl rfl rfl rfl rfl rfl rfl rfl rfl rfl rfl rfl) rfl,K.setCell (p:= ⟨z,1,none⟩) (N.cb z (by rw[N.cg];decide)).1 _,Lr.out,δ, ⟨r.out,by show R.kinds++_=s.kinds++_;rw[r.kinds],r.stops,r.a8,rfl⟩⟩
      case rest=>
       clear da T J9 N Lj r D hX am gZ K Kh mz zN xK;have HS:=η hs;have Ts:=η hcut;clear hs hcut;rcases Ts.out with ⟨rfl,a,c1,t,x',D,G,f,p9,c,Q,W,NI,Ob,Qj⟩ | ⟨rfl,a,c1,t,v,D,G,hf,S,hE⟩
       rotate_left
       · have HQ:=η (qT.bad HF.out HS.out hf S D G hE);clear Ts hf S D G hE
         go_wp2_with fail
         go_ret
         exact HQ.out
       · have ct:a.ns=a.stops.length:=D.stops.1;have uJ:=c.le;have cB:=c.even;have NM:a.X.length=8*b.length:=by rw[Qj,bD]
         have Xd:a.ns+1<=1000000000000:=by have:=c.len;omega
         have bk:a.no=t.all.length:=D.out.1.trans (congrArg List.length c.out);have L:=D.refl.apart.2.2.1;have bs:=D.cell.lt;have jI:=D.lo;have k0:=D.cell.cell (i:=0) ω;have k4:=D.cell.cell (i:=4) ω;rw[show sF a 4= .slice a.As a.ns a.cs from rfl]at k4;rw[show sF a 0= .slice a.Ao a.no a.co from rfl]at k0;have eD:=(D.stops.alloc (.cells #[.int .i64 (a.no:Nat)] 3)).drew;have aS:=(aT.lit .i64 wc [((a.no:Nat):Int)] 3).drewN 1;have BK:=η bk;clear ct bk Ts
         go_wp2_with fail
         obtain⟨C,Qw⟩ :∃C,({ t with x:=x' }:IS).over=C:= ⟨_,rfl⟩;rw[Qw]at p9;have ap:IS.Steps s t.step.1:=f.tail (by rw[p9]);have X8:t.step.1.mu<t.mu:=IS.ek (by rw[p9]);rw[p9]at ap X8
         have db:Hid (C.mu<gk):=by
          have h1:=f.a2F;have h2:=I.out;have h3:C.mu<t.mu:=X8;show _<_
          omega
         have bB:=Q.steps (IS.Steps.one (s:=t) (by rw[p9]));rw[p9]at bB;have Yv:=η (HS.out.trans ap);have cA:a.kinds=t.kinds:=c.kinds;have u:a.X.drop a.at_=x':=c.x;have wU:({ t with x:=x' }:IS).last=decide (V%2=1):=W
         have cc:C.all=t.all/\C.kinds=t.kinds/\C.stops=t.stops++[(t.all.length:Int)]/\C.a8=t.a8/\C.rem=t.rem:=by
          rw[<-Qw];unfold IS.over;split <;> exact⟨rfl,rfl,rfl,rfl,rfl⟩
         have ca:V%2=1->C.x=gO x'/\C.st=8:=λe=>by
          rw[<-Qw];unfold IS.over;rw[if_pos (by rw[wU];simpa using e)];exact⟨rfl,rfl⟩
         have bT:¬V%2=1->C.x=x'/\C.st=0:=λe=>by
          rw[<-Qw];unfold IS.over;rw[if_neg (by rw[wU];simpa using e)];exact⟨rfl,rfl⟩
         have cm:=η cc;have df:=η ca;have de:=η bT;have LR:=η c;have ci:=η (⟨Qj,NI,Ob,NM,u⟩ :a.X=bV b/\3*a.kinds.length<=a.at_/\a.stops.length+1<=a.kinds.length/\a.X.length=8*b.length/\a.X.drop a.at_=x');have dk:(0:Int)<=(a.at_:Int)/\(a.at_:Int)<=100000000000:=by have:=c.len;omega
         have hq:((a.at_:Int)+7)/8=(((a.at_+7)/8:Nat):Int):=ω;have dx:=η hq;clear Qw p9 ap X8 Q f cA u wU W cc ca bT c Qj NI Ob NM uJ cB hq I
         go_region_law
          ((refine dv .i64 w.heap.size 3 i0 8 rfl (.tmp 68) (.tmp 74) _ rfl Tryz.underlying51 Hi.out dM.out cV.out dN.out rfl eD rfl aS Xd ω (by first | (simp;omega) | simp) ?_)
           intro H d4 w4 aC P bG;have dG:=(D.cell.alloc (.cells #[.int .i64 (a.no:Nat)] 3)).drew.grown P (λe=>L e.symm);have x4:=dG.cell (i:=4) ω;have z4:=dG.frozen' (i:=4) ω)
         all_goals
          have ah:aa H≠some z:=by
           rcases bG with e | e
           · rw[e];exact L
           · rw[e];intro O;injection O with O;simp at O;omega
          have h7:=D.refl.Gm (A':=H) (n':=a.ns+1) (c':=d4) (l':=a.stops++[((a.no:Nat):Int)]) (((((aq.refl wc _).alloc _).drew).grown P (λq hq=> .inl (.inr hq))).setCell (p:= ⟨z,4,none⟩) (.inl (.inl rfl)) (.slice H (a.ns+1) d4)) ((dG.aQ (i:=4) ω _).congr (cu rfl rfl rfl rfl rfl rfl rfl rfl rfl rfl rfl rfl rfl)) (aC.far (p:= ⟨z,4,none⟩) ah _) (λk I=>by
           rcases bG with e | e
           · exact .inl (e▸I)
           · rw[e]at I;injection I with I;simp at I;exact .inr (by show wc.heap.size<=k;omega))
          obtain⟨c7,B,TS⟩ :=h7;have ly:=G.trans TS.1;clear D TS ah aC P bG dG x4 z4 eD aS L bs k0 k4;obtain⟨w7,Qx⟩ :=ν (w4.setCell ⟨z,4,none⟩ (.slice H (a.ns+1) d4));rw[Qx]at B ly⊢;clear Qx;by_cases mi:V%2=1
          · have k6:=B.cell.cell (i:=6) ω;have z2:=B.cell.frozen' (i:=2) ω;have k2:=B.cell.cell (i:=2) ω;rw[show∀R:RM,sF R 6= .int .i64 (R.at_:Nat) from λ_=>rfl]at k6;have cq:(V:Int)%2=1:=ω;have S:=B.put (i:=2) ω (.int .i64 (((a.at_:Int)+7)/8)) { a with As:=H,ns:=a.ns+1,cs:=d4,stops:=a.stops++[((a.no:Nat):Int)],rest:=(((a.at_:Int)+7)/8) } (cu rfl rfl rfl rfl rfl rfl rfl rfl rfl rfl rfl rfl rfl) rfl;have kx:=ly.setCell (p:= ⟨z,2,none⟩) (B.cb z (by rw[B.cg];decide)).1 (.int .i64 (((a.at_:Int)+7)/8));have HH:=η (⟨S,kx⟩ :_/\_);have Tx:=η mi;clear S kx B ly mi
            go_wp2_with fail
            go_ret
            obtain⟨S,kx⟩ :=HH.out;obtain⟨M,O⟩ :=df.out Tx.out;obtain⟨g1,g2,g3,g4,g5⟩ :=cm.out;have hf:F=(C,8):=by rw[<-HF.out,<-Yv.out.iv,IS.JH O]
            have c:=LR.out;obtain⟨Qj,NI,Ob,NM,u⟩ :=ci.out;subst hf;refine⟨z,c7,_,rfl,S,kx,c.E.trans (by unfold MG;rw[if_pos rfl]), ?_, ?_, ?_, ?_,λ_=> ?_⟩
            · exact c.out.trans g1.symm
            · exact c.kinds.trans g2.symm
            · show a.stops++[((a.no:Nat):Int)]=C.stops
              rw[g3,BK.out];congr 1;exact c.stops
            · exact c.a8.trans g4.symm
            · show(((a.at_:Int)+7)/8)=((b.length-C.x.length/8:Nat):Int)
              have hl:x'.length=a.X.length-a.at_:=by rw[<-u,List.length_drop]
              rw[M,iL,hl,NM];have:=c.le;omega
          · have cq:((V:Int)%2==1)=false:=ξ;have HH:=η (⟨B,ly⟩ :_/\_);have Tx:=η mi;clear B ly mi
            go_wp2_with fail
            go_roundg C.mu
            case measure=>exact db.out
            case rel=>
             obtain⟨S,kx⟩ :=HH.out;obtain⟨M,O⟩ :=de.out Tx.out;obtain⟨g1,g2,g3,g4,g5⟩ :=cm.out;have c:=LR.out;obtain⟨Qj,NI,Ob,NM,u⟩ :=ci.out;refine⟨_,C,c7,S,kx, ⟨u.trans M.symm,c.le,c.out.trans g1.symm,c.kinds.trans g2.symm, ?_,c.a8.trans g4.symm, ?_,c.E,c.bit,c.len,c.even, ?_,c.tk⟩,bB,O,Yv.out,rfl,NI, ?_,Qj⟩
             · show a.stops++[((a.no:Nat):Int)]=C.stops
               rw[g3,BK.out];congr 1;exact c.stops
             · rw[g1,g5];exact c.most
             · rw[g1,g5];exact c.small
             · show(a.stops++[((a.no:Nat):Int)]).length<=a.kinds.length
               rw[List.length_append];exact Ob
end
end Go.Proofs.YtddhegejmkgmjaaGreat
