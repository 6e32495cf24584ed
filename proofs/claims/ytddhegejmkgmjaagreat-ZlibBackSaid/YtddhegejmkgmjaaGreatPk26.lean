/-
  part
-/
import Derived.Test.YtddhegejmkgmjaaGreatInfT
import Derived.Test.YtddhegejmkgmjaaGreatRfF
set_option linter.unusedVariables false
set_option maxRecDepth 100000
set_option maxHeartbeats 4000000
namespace Go.Proofs.YtddhegejmkgmjaaGreat
open Go.RowKit
section
variable {w w' w0 w2:World} {b0 g:Nat} {c c0:Nat->Nat} {M M':DM} {S S':DS} {s t t':IS} {b:List Int} {v:Int}
theorem dU.aside {F:Nat->Prop} (h:dU w b0 g c M S) (b:aq w w' F) (hF:∀k,F k->c k=0):dU w' b0 g c M S:=
 ⟨b.ar h.cell (λe=>by have:=hF g e;have:=h.cg;omega),h.cg,h.ir.cv b (λk a e=>by have:=hF k e;have:=h.cr k a;omega),h.cr,h.Bf.cv b (λk a e=>by have:=hF k e;have:=h.cw k a;omega),h.cw,
   b.bf h.out (λk a e=>by have:=hF k e;have:=h.co k a;omega),h.co,b.bf h.lens (λk a e=>by have:=hF k e;have:=h.cl k a;omega),h.cl,
   λl d=>(h.th l d).cv b (λk a e=>by have:=hF k a;omega) (λ_ _=>rfl),λl d=>(h.tl l d).cv b (λk a e=>by have:=hF k a;omega) (λ_ _=>rfl),λl d=>(h.td l d).cv b (λk a e=>by have:=hF k a;omega) (λ_ _=>rfl),
   λk a=> ⟨(h.cb k a).1,Nat.lt_of_lt_of_le (h.cb k a).2 b.size⟩,h.bB⟩
def LX (w w0:World) (c0:Nat->Nat) (b0 g:Nat) (M:DM) (S:DS) (e:Ending) (w':World):Prop:=
 ∃A k cp,e= .returned (.slice A k cp)/\ag .u8 w' w.heap.size 5 A k cp (M.B.drop (M.a/8))/\∃c,dU w' b0 g c { M with a:=8*M.B.length } S/\DE b0 w0 c0 w' c/\∀q,aa A=some q->c q=0
theorem Fk (h:av w0 c0 w b0 g M S) (E:S.err=8) (P:M.a%8=0):
  Calls Tryz.prog 63 #[.pointer (some ⟨g,0,none⟩)] w (LX w w0 c0 b0 g M S):=by
 obtain⟨U, -, -, -,J, -⟩ :=h.cells;rw[E]at J;have A:=h.ir.iQ;have r:=h.ir.le;have X:=h.big;obtain⟨j,O⟩ :∃j,M.a=8*j:= ⟨M.a/8,ω⟩
 have C:∀W,av w0 c0 W b0 g M S->Calls Tryz.prog 82 #[.pointer (some ⟨M.gi,0,none⟩)] W λe w'=>e= .returned (.int .i64 (8*((M.B.length-j:Nat):Int)))/\av w0 c0 w' b0 g M S/\w'.cell? ⟨g,0,none⟩ =some (.pointer (some ⟨M.gi,0,none⟩))/\W.heap.size<=w'.heap.size:=λW d=>by
  refine(dY W _ _ _ _ _ _ _ d.ir (Nat.le_trans d.big ω)).mono ?_;rintro e w1 ⟨rfl,q,rfl⟩;refine⟨by rw[show 8*M.ni-M.a=8*(M.B.length-j) by omega];simp,d.drewN q, ?_⟩;obtain⟨k, -⟩ :=(d.drewN q).cells;exact⟨k,Nat.le_refl _⟩
 have z:=λW (d:av w0 c0 W b0 g M S)=>sG W _ _ _ _ _ _ _ d.ir (Nat.le_trans d.big ω) ((M.B.length-j:Nat):Int) (M.B.length-j) (by rw[A];omega)
 have Tu:=η C;have BM:=η z;obtain⟨K,G⟩ :=ν (M.B.length-j);have Q:(0:Int)<=K/\(K:Int)<=100000000000:=ω;have L:IntKind.i64.wrap (K:Int)=(K:Int):=IntWalk.i64_in _ ω
 have D:Hid ((M.B.drop ((M.a+7)/8)).take K=M.B.drop (M.a/8)/\(M.a+7)/8*8+8*K=8*M.B.length):=by
  refine⟨?_,ω⟩;rw[show(M.a+7)/8=M.a/8 by omega,List.take_of_length_le (by rw[List.length_drop];omega)]
 rw[G]at Tu BM;clear C z A r O G E P;go_enter Tryz.func63,Tryz.ntmps63
 go_wp2_with fail
 go_region_with
  (first
    | (go_at_call 82;(refine(Tu.out _ (by first | exact h.drew | exact h)).mono ?_);rintro e i ⟨rfl,t,V,s⟩)
    | (go_at_call 81;(refine(BM.out _ (by first | exact t | exact t.drew)).mono ?_);rintro e o ⟨I,T,rfl,p,m,F⟩))
 all_goals
  rw[D.out.1]at p;rw[D.out.2]at m
  have l:Hid (∃c,dU o b0 g c { M with a:=8*M.B.length } S/\DE b0 w0 c0 o c/\∀q,aa I=some q->c q=0):=by
   obtain⟨y,f,x⟩ :=t;have u:y M.gi=2:=f.cr _ (.inl rfl);have v:dU o b0 g (aN y i.heap.size (foot M.Ai M.gi) 2) { M with a:=8*M.B.length } S:=f.reader (F.more λk b=> .inl b) m (λk b=> .inl b) f.bB;refine⟨_,v,x.step f.lo (λk b=>(f.cb k b).1) (F.more λk b=>by rw[b,u];decide) (λk b=>aG b),λq N=> ?_⟩;have n:=(p.2.lt N).1;by_cases e:aN y i.heap.size (foot M.Ai M.gi) 2 q=0
   · exact e
   · rcases cJ e with ⟨H,_⟩ | ⟨_,H⟩
     · have n:i.heap.size<=q:=n;omega
     · have R:=f.cr q H;have:=(f.cb q (by rw[R];decide)).2;have n:i.heap.size<=q:=n;omega
  go_wp2_with fail
  go_ret
  exact⟨I,K,T,rfl,p.more (by show w.heap.size<=i.heap.size;exact s),l.out⟩
end
def bC (s:Int) (l:List Int):Int:=wm (dQ s) (eO s) l l.length*65536+pU (dQ s) l l.length
theorem OD (s:Int):0<=dQ s/\dQ s<65521:=by unfold dQ;omega
theorem Ih (s:Int):0<=eO s/\eO s<65521:=by unfold eO;omega
theorem iG (s:Int) (l:List Int):0<=bC s l/\bC s l<4294967296:=by
 have b:=M7 (l:=l) (OD s) l.length;have a:=Ma (x:=dQ s) (l:=l) (Ih s) l.length;unfold bC;omega
theorem BU (s:Int) (a b:List Int):bC (bC s a) b=bC s (a++b):=by
 have h:=M7 (l:=a) (OD s) a.length;have g:=Ma (x:=dQ s) (l:=a) (Ih s) a.length;have f:dQ (bC s a)=pU (dQ s) a a.length:=by unfold bC;unfold dQ at*;omega
 have e:eO (bC s a)=wm (dQ s) (eO s) a a.length:=by unfold bC;unfold dQ eO at*;omega
 have d:bC (bC s a) b=wm (dQ (bC s a)) (eO (bC s a)) b b.length*65536+pU (dQ (bC s a)) b b.length:=rfl;have c:bC s (a++b)=wm (dQ s) (eO s) (a++b) (a++b).length*65536+pU (dQ s) (a++b) (a++b).length:=rfl;rw[d,c,f,e,List.length_append,u7,EO]
def m7 (x:List Int):Int:=
 if 1<=x.length/\(ix x 0%16≠8\/7<ix x 0/16)then 2 else if x.length<2 then 5 else if(256*ix x 0+ix x 1)%31≠0\/ix x 1/32%2≠0 then 2 else 0
def ij (x:List Int) (m:Nat):IS×Int:=(start (bV (x.drop 2)) m).fin
def sU (R:List Int):Int:=ix R 0*16777216+ix R 1*65536+ix R 2*256+ix R 3
def oC (R:List Int) (s:Int) (en:Bool):Int:=if R.length<4 then 5 else if sU R≠s then 4 else if 4<R.length then 2 else if en then 8 else 5
def zE (x:List Int) (m:Nat) (en:Bool):Int:=
 if m7 x≠0 then m7 x else if(ij x m).2≠8 then(ij x m).2 else oC (gK (ij x m).1.x) (bC 1 (ij x m).1.all) en
def dV (x:List Int) (m:Nat):List Int:=if m7 x≠0 then [] else(ij x m).1.all
theorem a2Q (x:List Int) (m:Nat) (en:Bool):zE x m en≠0:=by
 unfold zE
 split
 · assumption
 · split
   · exact IS.zh _
   · unfold oC
     split
     · decide
     · split
       · decide
       · split
         · decide
         · split <;> decide
def ZIn (F:IS×Int) (a:List Int) (M:DM) (S:DS):Prop:=(∃s,kz F a M S s)\/m9 F a M S
theorem ZIn.pre {F:IS×Int} {a:List Int} {M:DM} {S:DS} (h:ZIn F a M S):∃b,F.1.all=a++b:=by
 rcases h with ⟨s,h⟩ | h
 · obtain⟨b,c,_⟩ :=IS.I3 s;rw[h.fin,h.all]at c;exact⟨b,c⟩
 · exact⟨[],by rw[h.all,List.append_nil]⟩
theorem Ha {F:IS×Int} {a:List Int} {M:DM} {S:DS} {s:IS} (h:kz F a M S s) (h5:s.step.2=5):F.2=5/\F.1.all=a:=by
 have e:=IS.dn (s:=s) (by rw[h5];decide);rw[h.fin]at e;rw[e];exact⟨h5,by rw[IS.yl h5,h.all]⟩
theorem vW (x:List Int) (m:Nat):(dV x m).length<=m:=by
 unfold dV
 split
 · simp
 · obtain⟨b,d,c⟩ :=IS.I3 (start (bV (x.drop 2)) m);have a:(start (bV (x.drop 2)) m).fin.1.all=[]++b:=d;have h4:(start (bV (x.drop 2)) m).fin.1.rem+b.length=m:=c;show(start (bV (x.drop 2)) m).fin.1.all.length<=m
   rw[a,List.nil_append];omega
theorem yU {l:List Int} (h:∀v∈l,0<=v/\v<256) (i:Nat):0<=ix l i/\ix l i<256:=by
 by_cases hi:i<l.length
 · exact h _ (lJ hi)
 · unfold ix;rw[List.getD_eq_getElem?_getD,List.getElem?_eq_none ω];decide
theorem Ed:(Tryz.prog.info? 5).map (λi=>(i.zero,i.size,i.bytes))=some (some (.int .u8 0),1,1):=by kernel_rfl
def jr (w:World) (x:List Int) (m:Nat) (e:Ending) (w':World):Prop:=
 ∃A k c,e= .returned (.tuple #[.slice A k c, .int .i64 (zE x m true)])/\ag .u8 w' w.heap.size 5 A k c (dV x m)/\Below w.heap.size w w'
def uzN (T:List Int):Nat->Int
 | 0=>0
 | i+1=>uzN T i*256+ix T i
theorem PR (T:List Int):uzN T 4=sU T:=by
 show(((0*256+ix T 0)*256+ix T 1)*256+ix T 2)*256+ix T 3=ix T 0*16777216+ix T 1*65536+ix T 2*256+ix T 3
 omega
theorem Be {b:Nat} {w w':World} (h:Below b w w') (q:Nat):Below b w (w'.drewN q):= ⟨h.os,h.tape,h.output,h.size,h.block⟩
theorem jr.bad {w w':World} {x:List Int} {m:Nat} {v:Int} (h:m7 x=v) (a:v≠0) (b:Below w.heap.size w w'):jr w x m (.returned (.tuple #[.slice none 0 0, .int .i64 v])) w':=by
 have d:zE x m true=v:=by unfold zE;rw[h,if_pos a]
 have c:dV x m=[]:=by unfold dV;rw[h,if_pos a]
 exact⟨none,0,0,by rw[d],by rw[c];exact ag.br,b⟩
theorem sJ (w:World) (A:Option Addr) (n cp:Nat) (x:List Int) (most:Int) (m:Nat) (H:aT .u8 w w.heap.size A n x) (X:n<=cp) (d:∀v∈x,0<=v/\v<256) (f:x.length<=1000000000) (hm:(m:Int)=max most 0) (U:m<=1000000000):
  Calls Tryz.prog 10 #[.slice A n cp, .int .i64 most] w (jr w x m):=by
 have Z:=H.1;by_cases h0:n=0
 · have l:m7 x=5:=by unfold m7;rw[if_neg (λh=>ω),if_pos ω]
   have I:=η (jr.bad (m:=m) l δ (Below.refl w.heap.size w));subst h0;clear H X d f hm U l Z;go_enter Tryz.func10,Tryz.ntmps10
   go_wp2_with fail
   go_returns
   exact I.out
 · obtain⟨C,rfl,hb,hc⟩ :=H.2 ω;have c0:=hc 0 ω;replace c0:w.cell? (C.add 0)=some (.int .u8 (ix x 0)):=c0;obtain⟨p,e⟩ :=ν (ix x 0);have cg:0<=p/\p<256:=by rw[<-e];exact d _ (lJ ω)
   rw[e]at c0;have bT:w.cell? C=some (.int .u8 p):=c0;have rE:(0:Int)<(n:Int)/\(n:Int)<=1000000000/\0<n:=ω;by_cases eW:p%16≠8\/7<p/16
   · have l:m7 x=2:=by unfold m7;rw[e,if_pos ⟨ω,eW⟩]
     have I:=η (jr.bad (m:=m) l δ (Below.refl w.heap.size w));have bv:¬p%16=8\/(p%16=8/\7<p/16):=ω;clear H X d f hm U l Z hc hb eW e;rcases bv with h1 | ⟨h1,h2⟩
     · have cl:(p%16==8)=false:=by simpa using h1
       go_enter Tryz.func10,Tryz.ntmps10
       go_wp2_with fail
       go_returns
       exact I.out
     · go_enter Tryz.func10,Tryz.ntmps10
       go_wp2_with fail
       go_returns
       exact I.out
   · have h1:p%16=8:=ω;have h2:¬7<p/16:=ω;have k:¬(1<=x.length/\(ix x 0%16≠8\/7<ix x 0/16)):=λh=>eW (by rw[<-e];exact h.2)
     by_cases kW:n=1
     · have l:m7 x=5:=by unfold m7;rw[if_neg k,if_pos ω]
       have I:=η (jr.bad (m:=m) l δ (Below.refl w.heap.size w));subst kW;clear H X d f hm U l Z hc hb eW e k;go_enter Tryz.func10,Tryz.ntmps10
       go_wp2_with fail
       go_returns
       exact I.out
     · have c1:=hc 1 ω;obtain⟨a1,o⟩ :=ν (ix x 1);have ce:0<=a1/\a1<256:=by rw[<-o];exact d _ (lJ ω)
       replace c1:w.cell? (C.add 1)=some (.int .u8 (ix x 1)):=c1;rw[o]at c1;have bS:w.cell? ⟨C.block,C.off+1,none⟩ =some (.int .u8 a1):=c1;have jh:¬(n:Int)<2/\(1:Int)<(n:Int)/\1<n:=ω;have a:¬x.length<2:=ω;obtain⟨D,hD⟩ :=ν (p*256+a1);have ck:0<=D/\D<65536:=ω;obtain⟨Q,hQ⟩ :=ν (a1/32);have ci:0<=Q/\Q<8:=ω;have bp:IntKind.i64.wrap p=p:=IntWalk.i64_in _ ω;have jD:IntKind.i64.wrap a1=a1:=IntWalk.i64_in _ ω;have bo:IntKind.i64.wrap (p*256)=p*256:=IntWalk.i64_in _ ω;have bn:IntKind.i64.wrap D=D:=IntWalk.i64_in _ ω;have B:(256*ix x 0+ix x 1)=D:=by rw[e,o];omega
       by_cases hd:D%31=0
       · by_cases hq:Q%2=1
         · have l:m7 x=2:=by unfold m7;rw[if_neg k,if_neg a,if_pos (.inr (by rw[o,hQ];omega))]
           have I:Hid (∀q,jr w x m (.returned (.tuple #[.slice none 0 0, .int .i64 2])) (w.drewN q)):=λq=>jr.bad (m:=m) l δ (Be (Below.refl w.heap.size w) q)
           clear H X d f hm U l Z hc hb eW e k o a B h0 kW;go_enter Tryz.func10,Tryz.ntmps10
           go_wp2_with fail
           go_quiet (fail)
           go_wp2_with fail
           go_returns
           exact I.out _
         · have l:m7 x=0:=by unfold m7;rw[if_neg k,if_neg a,if_neg (λh=>by rw[B,o,hQ]at h;omega)]
           have BB:(Q%2==1)=false:=by simpa using hq
           obtain⟨i0,hi,bl,ap,bk⟩ :=info_parts Ed;have lG:∀(A:Option Addr) (n c j:Nat),j<=n->∀W,_:=λA n c j hj W=>bE (P:=Tryz.prog) 26 5 Tryz.underlying26 hi ap A n c hj W
           have cd:∀W,(Instr.slice 26 (.slice (some C) n cp) (some (.int .i64 2)) none none).run Tryz.prog W= .ok (.slice (bY (some C) cp 2) (n-2) (cp-2)) W:=λW=>lG (some C) n cp 2 ω W
           obtain⟨F,hF⟩ :=ν (ij x m)
           have HI:Hid (∀q,Calls Tryz.prog 23 #[.slice (bY (some C) cp 2) (n-2) (cp-2), .int .i64 most] (w.drewN q) (qT (w.drewN q) F (x.drop 2))):=λq=>
            AX (w.drewN q) w.heap.size _ (n-2) (cp-2) (x.drop 2) ((H.bY (j:=2) ω X).drewN q) (Nat.le_refl _) (λv hv=>d v (List.mem_of_mem_drop hv)) (by rw[List.length_drop];omega) most m hm U F hF
           have G:=η (⟨H,X,d,l,hF,Z⟩ :_/\_/\_/\_/\_/\_);have Q3:=η lG;have ca:=η U;clear H X d f hm U l Z hc hb eW e k o a B h0 kW hF lG hi bl ap bk;go_enter Tryz.func10,Tryz.ntmps10
           go_wp2_with fail
           go_quiet (fail)
           have Va:=η (HI.out nq);clear HI c0 bT c1 bS hd hq BB hD hQ bp jD bo bn h1 h2
           go_wp2_with fail
           refine Va.out.mono ?_;rintro r w6 ⟨g,c,R,rfl,hM,al,hE,z,aS,aC,eG,Ir⟩;have jf:Below w.heap.size w w6:=(Be (Below.refl w.heap.size w) nq).trans al;have x0:w6.cell? ⟨g,0,none⟩ =some (.slice R.Ao R.no R.co):=hM.cell.cell (i:=0) ω;have x1:w6.cell? ⟨g,1,none⟩ =some (.int .i64 R.E):=hM.cell.cell (i:=1) ω;have x2:w6.cell? ⟨g,2,none⟩ =some (.int .i64 R.rest):=hM.cell.cell (i:=2) ω;have sA:=hM.out;rw[z]at sA;have s:dV x m=F.1.all:=by unfold dV;rw[if_neg (by rw[G.out.2.2.2.1];decide),G.out.2.2.2.2.1]
           have K:zE x m true=if F.2≠8 then F.2 else oC (gK F.1.x) (bC 1 F.1.all) true:=by unfold zE;rw[if_neg (by rw[G.out.2.2.2.1];decide),G.out.2.2.2.2.1]
           have xJ:∀v,v=zE x m true->Hid (∀q,jr w x m (.returned (.tuple #[.slice R.Ao R.no R.co, .int .i64 v])) (w6.drewN q)):=λv hv q=>by
            subst hv;exact⟨_,_,_,rfl,by rw[s];exact⟨sA.1,sA.2.drewN q⟩,Be jf q⟩
           by_cases O:F.2=8
           · have lr:R.E=0:=by rw[hE];unfold MG;rw[if_pos O]
             rw[lr]at x1;obtain⟨J,hJ⟩ :=ν (2+((x.drop 2).length-F.1.x.length/8));have ah:=MM (b:=x.drop 2) (m:=m) (show(ij x m).2=8 by rw[G.out.2.2.2.2.1];exact O);have N:(start (bV (x.drop 2)) m).fin=F:=G.out.2.2.2.2.1;rw[N]at ah;rw[Ir O]at x2;have am:J<=n:=by rw[List.length_drop]at hJ;have:=G.out.2.2.2.2.2;omega
             obtain⟨T,hT⟩ :=ν (x.drop J);have FB:∀v∈T,0<=v/\v<256:=λv hv=>G.out.2.2.1 v (List.mem_of_mem_drop (by rw[hT];exact hv))
             have bb:gK F.1.x=T:=by
              rw[<-ah.2,List.drop_drop,hJ,hT];exact tD FB
             have M:=(G.out.1.below jf).bY (j:=J) am G.out.2.1;rw[hT]at M;have bs:=Q3.out (some C) n cp J am;obtain⟨A9,hA9⟩ :=ν (bY (some C) cp J);obtain⟨u,S8⟩ :=ν (n-J);obtain⟨c9,Qk⟩ :=ν (cp-J);obtain⟨Rn,be⟩ :=ν ((x.drop 2).length-F.1.x.length/8);rw[hA9,S8,Qk]at bs;rw[hA9,S8]at M;rw[be]at x2 hJ;have cj:(2:Int)+(Rn:Int)=(J:Int):=ω;have mg:=M.1;have mA:(0:Int)<=(u:Int)/\(u:Int)<=1000000000/\(J:Int)<=1000000000/\(J:Int)<=(n:Int)/\(0:Int)<=(J:Int)/\(0:Int)<=(Rn:Int):=ω;have ao:zE x m true=oC T (bC 1 F.1.all) true:=by rw[K,if_neg (by rw[O];decide),bb]
             have aE:∀i,0<=ix F.1.all i/\ix F.1.all i<256:=by
              refine yU ?_;obtain⟨t,h1,h2⟩ :=IS.ft (start (bV (x.drop 2)) m);have e1:F.1=t:=by rw[<-N,<-h2];exact(IS.step_done (by rw[h2,N];exact O)).1
              rw[e1];exact((IS.Ok.start (bc.bV (x.drop 2)) m).steps h1).fC
             have bd:R.no<=1000000000:=by
              have h9:=vW x m;rw[s]at h9;rw[sA.1];have:=ca.out;omega
             have HO:=η (⟨sA,aE,mg,FB,bd⟩ :_/\_/\_/\_/\_);have Y:=η (⟨xJ,ao⟩ :_/\_);clear hM al hE z aS aC eG Ir sA s K xJ O lr jf hJ be ah N hT FB bb mg ao aE am bd hA9 S8 Qk;by_cases h4:u<4
             · have bG:(u:Int)<4:=ω;have hv:=Y.out.1 5 (by rw[Y.out.2];unfold oC;rw[if_pos (by rw[<-HO.out.2.2.1];exact h4)]);clear h4
               go_wp2_with fail
               go_returns
               exact hv.out 0
             · have bG:¬(u:Int)<4:=ω;have H4:=η h4;clear h4
               go_wp2_with fail
               go_loopg [7,8] 4 (λ(gk:Nat) (v7 v8:Value) wx=>∃(i:Nat) (v:Int),v7= .int .u32 v/\v8= .int .i64 i/\i<=4/\wx=w6/\0<=v/\Hid (v<256 ^ i)/\Hid (v=uzN T i)/\Hid (gk=4-i))
               case atStart=>exact⟨0,0,rfl,rfl,ω,rfl,ω,by show(0:Int)<1;omega,rfl,rfl⟩
               case round=>
                obtain⟨i,v,rfl,rfl,hi,rfl,cc,mi,ab,hg⟩ :=hrel;by_cases ac:i<4
                · obtain⟨a9,bx,ch,Qk⟩ :=M.at_ (i:=i) (by have:=H4.out;omega);subst bx;have S3:(i:Int)<4/\(0:Int)<=(i:Int)/\(i:Int)<(u:Int):=ω;obtain⟨y,hy⟩ :=ν (ix T i);have LC:0<=y/\y<256:=by rw[<-hy];exact yU HO.out.2.2.2.1 i
                  rw[hy]at Qk
                  have Z8:v<16777216:=by
                   have h9:=mi.out
                   have bI:(256:Int) ^ i<=16777216:=by
                    obtain rfl | rfl | rfl | rfl:i=0\/i=1\/i=2\/i=3:=ω
                    all_goals decide
                   omega
                  have hn:Hid (uzN T (i+1)=v*256+y):=by show _=_;rw[ab.out,<-hy];rfl
                  have jh:Hid (v*256+y<256 ^ (i+1)):=by show _<_;have:=mi.out;rw[Int.pow_succ];omega
                  have jJ:=η ac;clear ac hy
                  go_wp2_with fail
                  go_roundg (4-(i+1))
                  case measure=>have:=hg.out;have:=jJ.out;omega
                  case rel=>exact⟨i+1,v*256+y,by go_num,by go_num,jJ.out,rfl,ω,jh.out,hn.out.symm,rfl⟩
                · obtain rfl:i=4:=ω;have aA:v=sU T:=by rw[ab.out];exact PR T
                  have Yx:=η aA
                  have Z8:v<4294967296:=by have h9:=mi.out;have bI:(256:Int) ^ 4=4294967296:=δ
                                           omega
                  have S:=Gz 1 R.Ao R.no R.co wr.heap.size F.1.all wr HO.out.1.rd HO.out.2.1 δ HO.out.2.2.2.2;have e1:wm (dQ 1) (eO 1) F.1.all R.no*65536+pU (dQ 1) F.1.all R.no=bC 1 F.1.all:=by rw[HO.out.1.1];rfl
                  rw[e1]at S;obtain⟨AD,Es⟩ :=ν (bC 1 F.1.all);rw[Es]at S;have HA:=η S;have an:=η Es;have bt:=HO.out.2.2.1;have tI:¬T.length<4:=by have:=H4.out;omega
                  have L:v≠AD->Hid (zE x m true=4):=λh=>by show _=_;rw[Y.out.2];unfold oC;rw[if_neg tI,if_pos (by rw[<-Yx.out,an.out];exact h)]
                  have a:v=AD->4<u->Hid (zE x m true=2):=λh h5=>by show _=_;rw[Y.out.2];unfold oC;rw[if_neg tI,if_neg (by rw[<-Yx.out,an.out];simpa using h),if_pos ω]
                  have Ot:v=AD->¬4<u->Hid (zE x m true=8):=λh h5=>by show _=_;rw[Y.out.2];unfold oC;rw[if_neg tI,if_neg (by rw[<-Yx.out,an.out];simpa using h),if_neg ω,if_pos rfl]
                  clear ac hi mi ab aA e1 S Es bt tI;by_cases Z7:v=AD
                  · by_cases h5:4<u
                    · have hv:=Y.out.1 2 (a Z7 h5).out.symm;have bB:(4:Int)<(u:Int):=ω;clear L a Ot h5 Yx;subst Z7
                      go_wp2_with fail
                      refine HA.out.mono ?_;rintro r w7 ⟨rfl,hx⟩;obtain rfl:=hx
                      go_wp2_with fail
                      go_returns
                      exact hv.out 0
                    · have hv:=Y.out.1 8 (Ot Z7 h5).out.symm;have bB:¬(4:Int)<(u:Int):=ω;clear L a Ot h5 Yx;subst Z7
                      go_wp2_with fail
                      refine HA.out.mono ?_;rintro r w7 ⟨rfl,hx⟩;obtain rfl:=hx
                      go_wp2_with fail
                      go_returns
                      exact hv.out 0
                  · have hv:=Y.out.1 4 (L Z7).out.symm;have cb:(v==AD)=false:=by simpa using Z7
                    clear L a Ot Yx
                    go_wp2_with fail
                    refine HA.out.mono ?_;rintro r w7 ⟨rfl,hx⟩;obtain rfl:=hx
                    go_wp2_with fail
                    go_returns
                    exact hv.out 0
           · have hv:=xJ F.2 (by rw[K,if_pos O]);have bi:R.E=F.2:=by rw[hE];unfold MG;rw[if_neg O]
             have aI:F.2≠0:=by rw[<-G.out.2.2.2.2.1];exact IS.zh _
             rw[bi]at x1;obtain⟨V,hV⟩ :=ν (F.2);rw[hV]at x1 hv aI;have wW:(V==0)=false:=by simpa using aI
             clear hM al hE z aS aC eG Ir sA s K xJ O bi hV jf
             go_wp2_with fail
             go_quiet (fail)
             go_wp2_with fail
             go_returns
             exact hv.out _
       · have l:m7 x=2:=by unfold m7;rw[if_neg k,if_neg a,if_pos (.inl (by rw[B];exact hd))]
         have I:Hid (∀q,jr w x m (.returned (.tuple #[.slice none 0 0, .int .i64 2])) (w.drewN q)):=λq=>jr.bad (m:=m) l δ (Be (Below.refl w.heap.size w) q)
         have oW:(D%31==0)=false:=by simpa using hd
         have mb:(D%31 != 0)=true:=by simpa using hd
         have ru:decide (D%31=0)=false:=decide_eq_false hd;clear H X d f hm U l Z hc hb eW e k o a B h0 kW;go_enter Tryz.func10,Tryz.ntmps10
         go_wp2_with fail
         go_quiet (fail)
         go_wp2_with fail
         go_returns
         exact I.out _
end Go.Proofs.YtddhegejmkgmjaaGreat
