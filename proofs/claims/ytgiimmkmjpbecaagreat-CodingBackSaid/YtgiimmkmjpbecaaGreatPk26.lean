/-
  part
-/
import Derived.Test.YtgiimmkmjpbecaaGreatHdB
import Derived.Test.YtgiimmkmjpbecaaGreatPk25
import Derived.Deep.DeepCutAuto
import Derived.BigFrame
import Derived.BigRegion
import Derived.Deep.RegionWith
set_option linter.unusedVariables false
set_option maxRecDepth 100000
set_option maxHeartbeats 4000000
namespace Go.Proofs.YtgiimmkmjpbecaaGreat
open Go.RowKit
theorem tP.far {w:World} {B g n c a:Nat} {A:ax} {l:ag} {e:Int} (h:tP w B g A n c l a e) {p:Addr} (hp:B<=p.block) (b:g≠p.block) (v:Value):tP (w.setCell p v) B g A n c l a e:=
 ⟨h.cell.far b v,h.rd.keep λq d=>eO _ _ _ _ (λe=>by have f:=bf Addr.block e;omega),h.lo,h.le,h.cap,h.small⟩
theorem Qe {w b a:World} {R g:Nat} (h:Below R w b) (hC:bb b a (λk=>k=g)) (e:R<g) (d:R=w.heap.size):Below R w a:=
 ⟨hC.os.trans h.os,hC.tape.trans h.tape,hC.output.trans h.output,aq h.size hC.size,λk c=>
   (hC.block k (τ h.size) ω).trans (h.block k c)⟩
theorem Pz {w0 w:World} {B g n c a R:Nat} {A:ax} {l:ag} {e:Int} {f:Nat->Value} (f':Nat->Value) (D:tP w B g A n c l a e) (C:Ar w R 11 f) (z:Below R w0 w) (j:B<=R) (O:R<g) (x v u t s r q o m k b:Value) (N:x=f' 0) (M:v=f' 1) (L:u=f' 2) (K:t=f' 3) (J:s=f' 4) (I:r=f' 5) (H:q=f' 6) (G:o=f' 7) (F:m=f' 8) (E:k=f' 9) (y:b=f' 10):
  tP (((((((((((w.setCell ⟨R,0,none⟩ x).setCell ⟨R,1,none⟩ v).setCell ⟨R,2,none⟩ u).setCell ⟨R,3,none⟩ t).setCell ⟨R,4,none⟩ s).setCell ⟨R,5,none⟩ r).setCell ⟨R,6,none⟩ q).setCell ⟨R,7,none⟩ o).setCell ⟨R,8,none⟩ m).setCell ⟨R,9,none⟩ k).setCell ⟨R,10,none⟩ b) B g A n c l a e/\Ar (((((((((((w.setCell ⟨R,0,none⟩ x).setCell ⟨R,1,none⟩ v).setCell ⟨R,2,none⟩ u).setCell ⟨R,3,none⟩ t).setCell ⟨R,4,none⟩ s).setCell ⟨R,5,none⟩ r).setCell ⟨R,6,none⟩ q).setCell ⟨R,7,none⟩ o).setCell ⟨R,8,none⟩ m).setCell ⟨R,9,none⟩ k).setCell ⟨R,10,none⟩ b) R 11 f'/\Below R w0 (((((((((((w.setCell ⟨R,0,none⟩ x).setCell ⟨R,1,none⟩ v).setCell ⟨R,2,none⟩ u).setCell ⟨R,3,none⟩ t).setCell ⟨R,4,none⟩ s).setCell ⟨R,5,none⟩ r).setCell ⟨R,6,none⟩ q).setCell ⟨R,7,none⟩ o).setCell ⟨R,8,none⟩ m).setCell ⟨R,9,none⟩ k).setCell ⟨R,10,none⟩ b):=by
 have d:g≠R:=ω;have h:R<=R:=af R;refine⟨(((((((((((D.far (p:= ⟨R,0,none⟩) j d x).far (p:= ⟨R,1,none⟩) j d v).far (p:= ⟨R,2,none⟩) j d u).far (p:= ⟨R,3,none⟩) j d t).far (p:= ⟨R,4,none⟩) j d s).far (p:= ⟨R,5,none⟩) j d r).far (p:= ⟨R,6,none⟩) j d q).far (p:= ⟨R,7,none⟩) j d o).far (p:= ⟨R,8,none⟩) j d m).far (p:= ⟨R,9,none⟩) j d k).far (p:= ⟨R,10,none⟩) j d b), ?_,(((((((((((z.setCell (p:= ⟨R,0,none⟩) h x).setCell (p:= ⟨R,1,none⟩) h v).setCell (p:= ⟨R,2,none⟩) h u).setCell (p:= ⟨R,3,none⟩) h t).setCell (p:= ⟨R,4,none⟩) h s).setCell (p:= ⟨R,5,none⟩) h r).setCell (p:= ⟨R,6,none⟩) h q).setCell (p:= ⟨R,7,none⟩) h o).setCell (p:= ⟨R,8,none⟩) h m).setCell (p:= ⟨R,9,none⟩) h k).setCell (p:= ⟨R,10,none⟩) h b)⟩;refine Ar.congr (((((((((((C.cE 0 x).cE 1 v).cE 2 u).cE 3 t).cE 4 s).cE 5 r).cE 6 q).cE 7 o).cE 8 m).cE 9 k).cE 10 b) (λi hi=> ?_);rcases G0 hi with rfl | rfl | rfl | rfl | rfl | rfl | rfl | rfl | rfl | rfl | rfl
 · exact N
 · exact M
 · exact L
 · exact K
 · exact J
 · exact I
 · exact H
 · exact G
 · exact F
 · exact E
 exact y
def h1V (f:Int):HV:= ⟨bit f 1,bit f 2,0,0,0, .slice none 0 0,bit f 4,ByteArray.empty,ByteArray.empty,bit f 8,bit f 16⟩
def a7k (l:ag):Int:=nL (pD (nL 0) (l.take (PZ l)) (PZ l))%65536
def smC (l:ag):Prop:=bit (fB l) 2=true/\Tf l=0
instance (l:ag):Decidable (smC l):=by unfold smC;infer_instance
def Cz (l:ag):Nat:=if smC l then wI l (PZ l) (Tf l) 2 else PZ l
def wH (l:ag):Int:=if smC l then(if qa l (PZ l) (Tf l) 2=0/\rK (yf l (PZ l) (Tf l) 2)≠a7k l then 4 else qa l (PZ l) (Tf l) 2)else Tf l
structure PS (w0 w:World) (B g R:Nat) (A:ax) (n c:Nat) (l:ag) (a:Nat) (e:Int) (h:HV) (X:ax) (m cc:Nat) (xl:ag):Prop where
 P:tP w B g A n c l a e
 H:Ar w R 11 (hf h)
 b:Below R w0 w
 lt:R<g
 eq:R=w0.heap.size
 BR:B<=R
 own:aT .u8 w (g+1) 5 X m cc xl
section
variable {w0 w w':World} {B g R n c a a' m cc:Nat} {A X:ax} {l xl:ag} {e e':Int} {h h':HV}
theorem PS.step (s:PS w0 w B g R A n c l a e h X m cc xl) (f:tP w' B g A n c l a' e') (hC:bb w w' (λk=>k=g)):PS w0 w' B g R A n c l a' e' h X m cc xl:=
 ⟨f,hC.ar s.H (λh=>by have:=s.lt;omega),Qe s.b hC s.lt s.eq,s.lt,s.eq,s.BR,hC.dJ s.own λk d h=>by have:=(s.own.2.lt d).1;omega⟩
theorem PS.drewN (s:PS w0 w B g R A n c l a e h X m cc xl) (q:Nat):PS w0 (w.drewN q) B g R A n c l a e h X m cc xl:= ⟨s.P.drewN q,s.H.drewN q,below_drewN s.b q,s.lt,s.eq,s.BR,s.own.drewN q⟩
theorem PS.drew (s:PS w0 w B g R A n c l a e h X m cc xl):PS w0 w.drew B g R A n c l a e h X m cc xl:=s.drewN 1
theorem PS.iz (s:PS w0 w B g R A n c l a e h X m cc xl) {i:Nat} (hi:i<11) (v:Value) (d:∀j,j<11->upd (hf h) i v j=hf h' j):PS w0 (w.setCell ⟨R,i,none⟩ v) B g R A n c l a e h' X m cc xl:=
 ⟨s.P.far (p:= ⟨R,i,none⟩) s.BR (by have:=s.lt;simp;omega) v,s.H.Bb hi v d,s.b.setCell (p:= ⟨R,i,none⟩) (af R) v,s.lt,s.eq,s.BR,s.own.far (p:= ⟨R,i,none⟩) (λh=>by have f:g+1<=R:=(s.own.2.lt h).1;have:=s.lt;omega) v⟩
end
theorem PS.a6R {w0 w:World} {B g R n c a m cc:Nat} {A X:ax} {l xl:ag} {e:Int} {h:HV} (h':HV) (s:PS w0 w B g R A n c l a e h X m cc xl) (y x v u t r q o j i f:Value) (O:y=hf h' 0) (N:x=hf h' 1) (M:v=hf h' 2) (L:u=hf h' 3) (K:t=hf h' 4) (J:r=hf h' 5) (I:q=hf h' 6) (G:o=hf h' 7) (F:j=hf h' 8) (E:i=hf h' 9) (C:f=hf h' 10):PS w0 (((((((((((w.setCell ⟨R,0,none⟩ y).setCell ⟨R,1,none⟩ x).setCell ⟨R,2,none⟩ v).setCell ⟨R,3,none⟩ u).setCell ⟨R,4,none⟩ t).setCell ⟨R,5,none⟩ r).setCell ⟨R,6,none⟩ q).setCell ⟨R,7,none⟩ o).setCell ⟨R,8,none⟩ j).setCell ⟨R,9,none⟩ i).setCell ⟨R,10,none⟩ f) B g R A n c l a e h' X m cc xl:=by
 have z:=Pz (hf h') s.P s.H s.b s.BR s.lt y x v u t r q o j i f O N M L K J I G F E C;have d:∀k,ai X=some k->k≠R:=λk D h=>by have Q:g+1<=k:=(s.own.2.lt D).1;have:=s.lt;omega
 exact⟨z.1,z.2.1,z.2.2,s.lt,s.eq,s.BR,(((((((((((s.own.far (p:= ⟨R,0,none⟩) (λh=>d _ h rfl) y).far (p:= ⟨R,1,none⟩) (λh=>d _ h rfl) x).far (p:= ⟨R,2,none⟩) (λh=>d _ h rfl) v).far (p:= ⟨R,3,none⟩) (λh=>d _ h rfl) u).far (p:= ⟨R,4,none⟩) (λh=>d _ h rfl) t).far (p:= ⟨R,5,none⟩) (λh=>d _ h rfl) r).far (p:= ⟨R,6,none⟩) (λh=>d _ h rfl) q).far (p:= ⟨R,7,none⟩) (λh=>d _ h rfl) o).far (p:= ⟨R,8,none⟩) (λh=>d _ h rfl) j).far (p:= ⟨R,9,none⟩) (λh=>d _ h rfl) i).far (p:= ⟨R,10,none⟩) (λh=>d _ h rfl) f)⟩
theorem JP {w:World} {R:Nat} {h:HV} {tmps:Array Value} {x y:Value} (a:Ar w R 11 (hf h)) (p:tmps[2]?.getD undef= .pointer (some ⟨R,0,none⟩)) (o:tmps[3]?.getD undef=x) (h4:tmps[4]?.getD undef=y):
  (results Tryz.f179 tmps).run Tryz.prog w= .ok (.tuple #[hagg h,x,y]) w:=by
 have n:w.cell? ⟨R,0,none⟩ =some (.bool h.tx):=a.az 0;have m:w.cell? ⟨R,1,none⟩ =some (.bool h.sm):=a.az 1;have k:w.cell? ⟨R,2,none⟩ =some (.int .u32 h.tm):=a.az 2;have j:w.cell? ⟨R,3,none⟩ =some (.int .u8 h.fl):=a.az 3;have i:w.cell? ⟨R,4,none⟩ =some (.int .u8 h.sy):=a.az 4;have g:w.cell? ⟨R,5,none⟩ =some (h.ex):=a.az 5;have e:w.cell? ⟨R,6,none⟩ =some (.bool h.hE):=a.az 6;have d:w.cell? ⟨R,7,none⟩ =some (.string h.nm):=a.az 7;have c:w.cell? ⟨R,8,none⟩ =some (.string h.cm):=a.az 8;have b:w.cell? ⟨R,9,none⟩ =some (.bool h.hN):=a.az 9;have l:w.cell? ⟨R,10,none⟩ =some (.bool h.hC):=a.az 10;simp [results,Tryz.results179,go_sem,p,o,h4,n,m,k,j,i,g,e,d,c,b,l,hagg]
def Ga (l:ag) (ex:Value):HV:={ h1V (fB l)with tm:=tmV l,fl:=flV l,sy:=syV l,ex:=ex,nm:=strOf (nmL l),cm:=strOf (cmL l) }
def Dc (w:World) (l:ag) (E:Ending) (w':World):Prop:=
 ∃X m cc xl,m<=cc/\cc<=maxLen/\bT .u8 w' w'.heap.size X m xl/\(∀k,ai X=some k->w.heap.size<=k)/\Below w.heap.size w w'/\
  ((wH l=0/\xl=exL l/\E= .returned (.tuple #[hagg (Ga l (.slice X m cc)), .int .i64 (Cz l), .int .i64 0]))\/(wH l≠0/\E= .returned (.tuple #[hagg hz, .int .i64 0, .int .i64 (wH l)])))
theorem AE {W:World} {K:Nat} (h:Ar W K 11 (hf hz)):(W.cell? ⟨K,0,none⟩ =some (.bool false)/\W.cell? ⟨K,1,none⟩ =some (.bool false)/\W.cell? ⟨K,2,none⟩ =some (.int .u32 0)/\W.cell? ⟨K,3,none⟩ =some (.int .u8 0)/\W.cell? ⟨K,4,none⟩ =some (.int .u8 0)/\W.cell? ⟨K,5,none⟩ =some (.slice none 0 0)/\W.cell? ⟨K,6,none⟩ =some (.bool false)/\W.cell? ⟨K,7,none⟩ =some (.string ByteArray.empty)/\W.cell? ⟨K,8,none⟩ =some (.string ByteArray.empty)/\W.cell? ⟨K,9,none⟩ =some (.bool false)/\W.cell? ⟨K,10,none⟩ =some (.bool false))/\
  W.frozen? ⟨K,0,none⟩ =false/\W.frozen? ⟨K,1,none⟩ =false/\W.frozen? ⟨K,2,none⟩ =false/\W.frozen? ⟨K,3,none⟩ =false/\W.frozen? ⟨K,4,none⟩ =false/\W.frozen? ⟨K,5,none⟩ =false/\W.frozen? ⟨K,6,none⟩ =false/\W.frozen? ⟨K,7,none⟩ =false/\W.frozen? ⟨K,8,none⟩ =false/\W.frozen? ⟨K,9,none⟩ =false/\W.frozen? ⟨K,10,none⟩ =false:=
 ⟨⟨h.cell ω,h.cell ω,h.cell ω,h.cell ω,h.cell ω,h.cell ω,h.cell ω,h.cell ω,h.cell ω,h.cell ω,h.cell ω⟩,h.frozen' ω,h.frozen' ω,h.frozen' ω,h.frozen' ω,h.frozen' ω,h.frozen' ω,h.frozen' ω,h.frozen' ω,h.frozen' ω,h.frozen' ω,h.frozen' ω⟩
theorem uJ {l:ag} {a:Nat} {e:Int} {m:Nat} (h:e≠0):qa l a e m=e:=by unfold qa;rw[a8 (λb=>h b.1)]
theorem a3P {l:ag} {a m:Nat} (h:l.length-a<m):qa l a 0 m=5:=by unfold qa;rw[aa ⟨rfl,h⟩]
theorem XI {l:ag} {a m:Nat} (h:m<=l.length-a):qa l a 0 m=0/\wI l a 0 m=a+m/\yf l a 0 m=(l.drop a).take m:=by
 have b:qa l a 0 m=0:=by unfold qa;rw[a8 (λc=>ω)]
 refine⟨b, ?_, ?_⟩
 · unfold wI;rw[aa b]
 unfold yf;rw[aa b]
theorem XT {l:ag} {a:Nat} {e c:Int} (h:e≠0):Hj l a e c=e:=by unfold Hj;rw[uJ h,a8 (λb=>h b.1)]
theorem NT {l:ag} {a:Nat} {c:Int} (h:l.length<=a):Hj l a 0 c=5:=by unfold Hj;rw[a3P ω,a8 (λb=>by have:=b.1;omega)]
theorem a1E {l:ag} {a:Nat} {c:Int} (h:a<l.length) (h':ix l a=c):Hj l a 0 c=0:=by unfold Hj;rw[a8 (λb=>b.2 h')];exact(XI ω).1
theorem a9F {l:ag} (h:Tf l≠0):wH l=Tf l:=by unfold wH;rw[a8 (λa=>h a.2)]
theorem a9E {l:ag} (h:WW l≠0):wH l=WW l:=by
 have e:Tf l=WW l:=by unfold Tf txF;split <;> first | rfl | rw[a8 h]
 rw[<-e];exact a9F (by rw[e];exact h)
theorem st9 {l:ag} (h:q9 l≠0):wH l=q9 l:=by
 have e:WW l=q9 l:=by unfold WW txF;split <;> first | rfl | rw[a8 h]
 rw[<-e];exact a9E (by rw[e];exact h)
theorem st7 {l:ag} (h:q7 l≠0):wH l=q7 l:=by
 have e:q9 l=q7 l:=by
  unfold q9;split
  · have:q8 l=q7 l:=uJ h;rw[this,uJ h]
  rfl
 rw[<-e];exact st9 (by rw[e];exact h)
theorem st5 {l:ag} (h:q5 l≠0):wH l=q5 l:=by
 have a:q6 l=q5 l:=uJ h;have b:q7 l=q6 l:=uJ (by rw[a];exact h);rw[<-a,<-b];exact st7 (by rw[b,a];exact h)
theorem st4 {l:ag} (h:q4 l≠0):wH l=q4 l:=by
 have e:q5 l=q4 l:=uJ h;rw[<-e];exact st5 (by rw[e];exact h)
theorem a2i {e f:Int} (h:e≠0):gtE e f=e:=by unfold gtE;rw[a8 (λa=>h a.1)]
theorem st3 {l:ag} (h:q3 l≠0):wH l=q3 l:=by
 have e:q4 l=q3 l:=by unfold q4;rw[uJ h,a2i h]
 rw[<-e];exact st4 (by rw[e];exact h)
theorem Yv {l:ag} (h:q2 l≠0):wH l=q2 l:=by
 have e:q3 l=q2 l:=XT h;rw[<-e];exact st3 (by rw[e];exact h)
theorem st1 {l:ag} (h:q1 l≠0):wH l=q1 l:=by
 have e:q2 l=q1 l:=XT h;rw[<-e];exact Yv (by rw[e];exact h)
def Jx:ag:=[31,139,8]
def pre (l:ag) (k:Nat):Prop:=∀i,i<k->i<l.length/\ix l i=ix Jx i
theorem a6M {l:ag} (h:pre l 1):q1 l=0/\b1 l=1:= ⟨a1E (h 0 ω).1 (h 0 ω).2,(XI (τ ((h 0 ω).1))).2.1⟩
theorem a9z {l:ag} (h:pre l 2):q2 l=0/\b2 l=2:=by
 have b:=a6M (λi hi=>h i ω);have a:=h 1 ω;unfold q2 b2;rw[b.1,b.2];exact⟨a1E a.1 a.2,(XI ω).2.1⟩
theorem a0G {l:ag} {k:Nat} (c:k<3) (h:pre l k) (b:l.length<=k):wH l=5:=by
 obtain rfl | rfl | rfl:k=0\/k=1\/k=2:=ω
 · have e:q1 l=5:=NT b;rw[st1 ω,e]
 · have a:=a6M h;have e:q2 l=5:=by unfold q2;rw[a.1,a.2];exact NT b
   rw[Yv ω,e]
 have a:=a9z h;have e:q3 l=5:=by unfold q3;rw[a.1,a.2];exact NT b
 rw[st3 ω,e]
theorem a14 (r:ag):(txR r).2.1<=r.length:=by
 unfold txR;split
 · show nz r+1<=_;omega
 split <;> exact aG _
def AB (H:List HV) (i:Nat):Value:=hf (H.getD (i/11) hz) (i%11)
def a6y (v:Value):Prop:=∃X m cc,v= .slice X m cc
theorem a2J {h:HV} (a:a6y h.ex) (i:Nat):(hf h i).oneCell'=true:=by
 obtain⟨X,m,cc,e⟩ :=a;unfold hf;split
 all_goals first | rfl | (rw[e];rfl)
theorem ZY {H:List HV} (h:∀x∈H,a6y x.ex) (i:Nat):(AB H i).oneCell'=true:=by
 refine a2J ?_ _;rw[au];cases e:H[i/11]? with
 | none=>exact⟨none,0,0,rfl⟩
 | some v=>exact h v (cu e)
theorem ZX (D E:List HV) (i:Nat):cat (D.length*11) (AB D) (AB E) i=AB (D++E) i:=by
 unfold cat AB;by_cases h:i<D.length*11
 · rw[aa h,au,au,bR ω]
 rw[a8 h,au,au,bL ω,show(i-D.length*11)/11=i/11-D.length by omega,show(i-D.length*11)%11=i%11 by omega]
theorem Vb:(Tryz.prog.info? 48).map (λi=>(i.zero,i.size,i.bytes))=some (some (.agg #[.bool false, .bool false, .int .u32 0, .int .u8 0, .int .u8 0, .slice none 0 0, .bool false, .string ByteArray.empty, .string ByteArray.empty, .bool false, .bool false]),11,88):=by kernel_rfl
theorem Sd {w:World} {e:Array Oper} {o:Oper} {a:Act} {K:Act->World->Prop} {Q:Exit->Act->World->Prop} {E:Prop} (b0:Nat) (i:TypeInfo) (l:Region.wanted o (yielded e a.tmps)=true) (s x:Operand)
  (v:o.op= .call { callee:= .builtin .append,args:= #[s,x],argTypes:= #[110, 110] }) (hi:Tryz.prog.info? 48 =some i) (hz:i.zero=some (.agg #[.bool false, .bool false, .int .u32 0, .int .u8 0, .int .u8 0, .slice none 0 0, .bool false, .string ByteArray.empty, .string ByteArray.empty, .bool false, .bool false]))
  (b:i.size=11) (p:i.bytes=88) {A:ax} {n c:Nat} {f f':Nat->Value} (t:a.eval s= .slice A n c) (k:Own w b0 48 11 A n c f)
  {B:Nat} {A':ax} {m c':Nat} (r:a.eval x= .slice A' m c') (u:Rd w B A' (m*11) f') (C:∀j,j<m*11->(f' j).oneCell'=true)
  (q:n+m<=1000000000000) (d:b0<=w.heap.size)
  (h:∀A2 c2 w2,Own w2 b0 48 11 A2 (n+m) c2 (cat (n*11) f f')->w.grownBy w2 (ai A)->(ai A2=ai A\/ai A2=some w.heap.size)->K (a.put o.dst (.slice A2 (n+m) c2)) w2):
  if Region.wanted o (yielded e a.tmps)=true then Oper.wp Tryz.prog o a w K Q else E:=by
 rw[aa l];obtain⟨A2,c2,w2,g,z,y,h4⟩ :=iY (P:=Tryz.prog) w b0 110 o.type 48 i _ 11 88 Tryz.underlying110 hi hz b p rfl ω A n c _ k B A' m c' _ u C q ω d;unfold Oper.wp execOp;simp only [v,resolve,invoke,builtin,Sem.run_bind,Sem.run_pure,Result.andThen_ok,List.map_toArray,List.map_cons,List.map_nil,t,r,g];exact h A2 c2 w2 z y h4
theorem a01 (w:World) (h:HV) (t:TypeId):Rd (w.alloc (.cells #[.bool h.tx, .bool h.sm, .int .u32 h.tm, .int .u8 h.fl, .int .u8 h.sy,h.ex, .bool h.hE, .string h.nm, .string h.cm, .bool h.hN, .bool h.hC] t)) (w.heap.size+1) (some ⟨w.heap.size,0,none⟩) (1*11) (AB [h]):=λ_=> ⟨_,rfl,σ,λi hi=>by
 rw[nW]
 have a:=Ar.new w #[.bool h.tx, .bool h.sm, .int .u32 h.tm, .int .u8 h.fl, .int .u8 h.sy,h.ex, .bool h.hE, .string h.nm, .string h.cm, .bool h.hN, .bool h.hC] t (m:=11) (f:=AB [h]) rfl (λi hi=>by
  rcases G0 hi with rfl | rfl | rfl | rfl | rfl | rfl | rfl | rfl | rfl | rfl | rfl;all_goals rfl)
 exact a.cell ω⟩
theorem QP {W:World} {K:Nat} {h:HV} (hA:Ar W K 11 (hf h)):W.cell? ⟨K,0,none⟩ =some (.bool h.tx)/\W.cell? ⟨K,1,none⟩ =some (.bool h.sm)/\W.cell? ⟨K,2,none⟩ =some (.int .u32 h.tm)/\W.cell? ⟨K,3,none⟩ =some (.int .u8 h.fl)/\W.cell? ⟨K,4,none⟩ =some (.int .u8 h.sy)/\W.cell? ⟨K,5,none⟩ =some h.ex/\W.cell? ⟨K,6,none⟩ =some (.bool h.hE)/\W.cell? ⟨K,7,none⟩ =some (.string h.nm)/\W.cell? ⟨K,8,none⟩ =some (.string h.cm)/\W.cell? ⟨K,9,none⟩ =some (.bool h.hN)/\W.cell? ⟨K,10,none⟩ =some (.bool h.hC):=
 ⟨hA.az 0,hA.az 1,hA.az 2,hA.az 3,hA.az 4,hA.az 5,hA.az 6,hA.az 7,hA.az 8,hA.az 9,hA.az 10⟩
theorem Gk {w:World} {R:Nat} {h:HV} {tmps:Array Value} {x y:Value} (a:Ar w R 11 (hf h)) (p:tmps[2]?.getD undef= .pointer (some ⟨R,0,none⟩)) (o:tmps[3]?.getD undef=x) (h4:tmps[4]?.getD undef=y):
  (results Tryz.f34 tmps).run Tryz.prog w= .ok (.tuple #[hagg h,x,y]) w:=by
 have n:w.cell? ⟨R,0,none⟩ =some (.bool h.tx):=a.az 0;have m:w.cell? ⟨R,1,none⟩ =some (.bool h.sm):=a.az 1;have k:w.cell? ⟨R,2,none⟩ =some (.int .u32 h.tm):=a.az 2;have j:w.cell? ⟨R,3,none⟩ =some (.int .u8 h.fl):=a.az 3;have i:w.cell? ⟨R,4,none⟩ =some (.int .u8 h.sy):=a.az 4;have g:w.cell? ⟨R,5,none⟩ =some (h.ex):=a.az 5;have e:w.cell? ⟨R,6,none⟩ =some (.bool h.hE):=a.az 6;have d:w.cell? ⟨R,7,none⟩ =some (.string h.nm):=a.az 7;have c:w.cell? ⟨R,8,none⟩ =some (.string h.cm):=a.az 8;have b:w.cell? ⟨R,9,none⟩ =some (.bool h.hN):=a.az 9;have l:w.cell? ⟨R,10,none⟩ =some (.bool h.hC):=a.az 10;simp [results,Tryz.results34,go_sem,p,o,h4,n,m,k,j,i,g,e,d,c,b,l,hagg]
structure RS (w0 w:World) (B R:Nat) (A:ax) (n:Nat) (l:ag):Prop where
 H:Ar w R 11 (hf hz)
 rd:bT .u8 w B A n l
 b:Below R w0 w
 eq:R=w0.heap.size
 BR:B<=R
section
variable {w0 w w':World} {B R n:Nat} {A:ax} {l:ag}
theorem RS.drewN (s:RS w0 w B R A n l) (q:Nat):RS w0 (w.drewN q) B R A n l:= ⟨s.H.drewN q,s.rd.drewN q,below_drewN s.b q,s.eq,s.BR⟩
theorem RS.below (s:RS w0 w B R A n l) (a:Below w.heap.size w w'):RS w0 w' B R A n l:=
 ⟨s.H.keeps a,s.rd.keep (λp hp=>a.cell (ε s.H.lt s.BR)),Below.trans s.b (a.mono (τ s.H.lt)),s.eq,s.BR⟩
end
structure RT (w0 w:World) (B R:Nat) (A:ax) (n:Nat) (l:ag) (K:Nat) (h:HV) (X:ax) (m cc:Nat) (xl:ag):Prop where
 S:RS w0 w B R A n l
 H:Ar w K 11 (hf h)
 lt:R<K
 own:aT .u8 w (K+1) 5 X m cc xl
theorem RT.fin {w0 w:World} {B R n K m cc:Nat} {A X:ax} {l xl:ag} {h:HV} (s:RT w0 w B R A n l K h X m cc xl):Ar (((((((((((w.setCell ⟨R,0,none⟩ (.bool h.tx)).setCell ⟨R,1,none⟩ (.bool h.sm)).setCell ⟨R,2,none⟩ (.int .u32 h.tm)).setCell ⟨R,3,none⟩ (.int .u8 h.fl)).setCell ⟨R,4,none⟩ (.int .u8 h.sy)).setCell ⟨R,5,none⟩ h.ex).setCell ⟨R,6,none⟩ (.bool h.hE)).setCell ⟨R,7,none⟩ (.string h.nm)).setCell ⟨R,8,none⟩ (.string h.cm)).setCell ⟨R,9,none⟩ (.bool h.hN)).setCell ⟨R,10,none⟩ (.bool h.hC)) R 11 (hf h)/\Below w0.heap.size w0 (((((((((((w.setCell ⟨R,0,none⟩ (.bool h.tx)).setCell ⟨R,1,none⟩ (.bool h.sm)).setCell ⟨R,2,none⟩ (.int .u32 h.tm)).setCell ⟨R,3,none⟩ (.int .u8 h.fl)).setCell ⟨R,4,none⟩ (.int .u8 h.sy)).setCell ⟨R,5,none⟩ h.ex).setCell ⟨R,6,none⟩ (.bool h.hE)).setCell ⟨R,7,none⟩ (.string h.nm)).setCell ⟨R,8,none⟩ (.string h.cm)).setCell ⟨R,9,none⟩ (.bool h.hN)).setCell ⟨R,10,none⟩ (.bool h.hC))/\bT .u8 (((((((((((w.setCell ⟨R,0,none⟩ (.bool h.tx)).setCell ⟨R,1,none⟩ (.bool h.sm)).setCell ⟨R,2,none⟩ (.int .u32 h.tm)).setCell ⟨R,3,none⟩ (.int .u8 h.fl)).setCell ⟨R,4,none⟩ (.int .u8 h.sy)).setCell ⟨R,5,none⟩ h.ex).setCell ⟨R,6,none⟩ (.bool h.hE)).setCell ⟨R,7,none⟩ (.string h.nm)).setCell ⟨R,8,none⟩ (.string h.cm)).setCell ⟨R,9,none⟩ (.bool h.hN)).setCell ⟨R,10,none⟩ (.bool h.hC)) ((((((((((((w.setCell ⟨R,0,none⟩ (.bool h.tx)).setCell ⟨R,1,none⟩ (.bool h.sm)).setCell ⟨R,2,none⟩ (.int .u32 h.tm)).setCell ⟨R,3,none⟩ (.int .u8 h.fl)).setCell ⟨R,4,none⟩ (.int .u8 h.sy)).setCell ⟨R,5,none⟩ h.ex).setCell ⟨R,6,none⟩ (.bool h.hE)).setCell ⟨R,7,none⟩ (.string h.nm)).setCell ⟨R,8,none⟩ (.string h.cm)).setCell ⟨R,9,none⟩ (.bool h.hN)).setCell ⟨R,10,none⟩ (.bool h.hC))).heap.size X m xl:=by
 have a:∀k,ai X=some k->k≠R:=λk d h=>by have f:K+1<=k:=(s.own.2.lt d).1;have:=s.lt;omega
 refine⟨?_, ?_, ?_⟩
 · refine Ar.congr (((((((((((s.S.H.cE 0 (.bool h.tx)).cE 1 (.bool h.sm)).cE 2 (.int .u32 h.tm)).cE 3 (.int .u8 h.fl)).cE 4 (.int .u8 h.sy)).cE 5 h.ex).cE 6 (.bool h.hE)).cE 7 (.string h.nm)).cE 8 (.string h.cm)).cE 9 (.bool h.hN)).cE 10 (.bool h.hC)) (λi hi=> ?_);rcases G0 hi with rfl | rfl | rfl | rfl | rfl | rfl | rfl | rfl | rfl | rfl | rfl <;> rfl
 · have e:=s.S.eq;have c:R<=R:=af R;rw[<-e];exact(((((((((((s.S.b.setCell (p:= ⟨R,0,none⟩) c (.bool h.tx)).setCell (p:= ⟨R,1,none⟩) c (.bool h.sm)).setCell (p:= ⟨R,2,none⟩) c (.int .u32 h.tm)).setCell (p:= ⟨R,3,none⟩) c (.int .u8 h.fl)).setCell (p:= ⟨R,4,none⟩) c (.int .u8 h.sy)).setCell (p:= ⟨R,5,none⟩) c h.ex).setCell (p:= ⟨R,6,none⟩) c (.bool h.hE)).setCell (p:= ⟨R,7,none⟩) c (.string h.nm)).setCell (p:= ⟨R,8,none⟩) c (.string h.cm)).setCell (p:= ⟨R,9,none⟩) c (.bool h.hN)).setCell (p:= ⟨R,10,none⟩) c (.bool h.hC))
 exact((((((((((((s.own.far (p:= ⟨R,0,none⟩) (λh=>a _ h rfl) (.bool h.tx)).far (p:= ⟨R,1,none⟩) (λh=>a _ h rfl) (.bool h.sm)).far (p:= ⟨R,2,none⟩) (λh=>a _ h rfl) (.int .u32 h.tm)).far (p:= ⟨R,3,none⟩) (λh=>a _ h rfl) (.int .u8 h.fl)).far (p:= ⟨R,4,none⟩) (λh=>a _ h rfl) (.int .u8 h.sy)).far (p:= ⟨R,5,none⟩) (λh=>a _ h rfl) h.ex).far (p:= ⟨R,6,none⟩) (λh=>a _ h rfl) (.bool h.hE)).far (p:= ⟨R,7,none⟩) (λh=>a _ h rfl) (.string h.nm)).far (p:= ⟨R,8,none⟩) (λh=>a _ h rfl) (.string h.cm)).far (p:= ⟨R,9,none⟩) (λh=>a _ h rfl) (.bool h.hN)).far (p:= ⟨R,10,none⟩) (λh=>a _ h rfl) (.bool h.hC))).rd
theorem add_pos (a:Addr) {k:Nat} (h:k≠0):a.add k= ⟨a.block,a.off+k,none⟩ :=by unfold Addr.add;rw[a8 h]
theorem Gn (w:World) (B n c:Nat) (A:ax) (l:ag) (hr:bT .u8 w B A n l) (hB:B<=w.heap.size) (hn:n<=1000000) (Y:n<=c) (hb:∀x∈l,0<=x/\x<256) (qE:10<=l.length) (E:∀j,j<10->ix l j=ix [31,139,8,0,0,0,0,0,0,0] j) (hq:wH l=0/\Cz l=10/\exL l=[]/\(∀ex,Ga l ex=vH.v ex)/\rK ((l.drop 4).take 4)=0):
  Calls Tryz.prog 34 #[.slice A n c] w (Dc w l):=by
 have m:=η (⟨qE,E,hq⟩ :_/\_/\_);clear qE E hq;have Z:=η hr.1
 go_in
 go_wp2_with fail
 have u:RS w ((w.alloc (Obj.cells #[Value.bool false,Value.bool false,Value.int IntKind.u32 0,Value.int IntKind.u8 0,Value.int IntKind.u8 0,Value.slice none 0 0,Value.bool false,Value.string { data:= #[] },Value.string { data:= #[] },Value.bool false,Value.bool false] 48)).alloc (Obj.cells #[Value.int IntKind.u8 31,Value.int IntKind.u8 139,Value.int IntKind.u8 8] 5)) B w.heap.size A n l:=
  ⟨(Ar.Wt rfl _ _ rfl (λi hi=>by
    rcases G0 hi with rfl | rfl | rfl | rfl | rfl | rfl | rfl | rfl | rfl | rfl | rfl;all_goals rfl)).alloc _,(hr.alloc hB _).alloc ξ _,((aw _ _).alloc (af _) _).alloc σ _,rfl,hB⟩
 have g:bT .u8 ((w.alloc (Obj.cells #[Value.bool false,Value.bool false,Value.int IntKind.u32 0,Value.int IntKind.u8 0,Value.int IntKind.u8 0,Value.slice none 0 0,Value.bool false,Value.string { data:= #[] },Value.string { data:= #[] },Value.bool false,Value.bool false] 48)).alloc (Obj.cells #[Value.int IntKind.u8 31,Value.int IntKind.u8 139,Value.int IntKind.u8 8] 5)) (w.heap.size+1+1) (some ⟨w.heap.size+1,0,none⟩) 3 Jx:=bT.Wl .u8 (w:=w.alloc (Obj.cells #[Value.bool false,Value.bool false,Value.int IntKind.u32 0,Value.int IntKind.u8 0,Value.int IntKind.u8 0,Value.slice none 0 0,Value.bool false,Value.string { data:= #[] },Value.string { data:= #[] },Value.bool false,Value.bool false] 48)) σ Jx 5;revert u g;generalize ((w.alloc (Obj.cells #[Value.bool false,Value.bool false,Value.int IntKind.u32 0,Value.int IntKind.u8 0,Value.int IntKind.u8 0,Value.slice none 0 0,Value.bool false,Value.string { data:= #[] },Value.string { data:= #[] },Value.bool false,Value.bool false] 48)).alloc (Obj.cells #[Value.int IntKind.u8 31,Value.int IntKind.u8 139,Value.int IntKind.u8 8] 5))=w1;intro u g;obtain⟨M,hM⟩ :=ν (w.heap.size+1);have HM:Hid (w.heap.size<M):=by show _<_;omega
 rw[hM]at g⊢;clear hM;obtain⟨R,hR⟩ :=ν (w.heap.size);rw[hR]at u HM⊢;clear hR
 have a6Z:Hid (M<w1.heap.size):=by
  obtain⟨d,e,hb,Y⟩ :=g.2 ω;cases e;have h0:=Y 0 ω;show _<_;rw[nW]at h0;rcases aU M w1.heap.size with h' | h'
  · exact h'
  simp [World.cell?,Array.getElem?_eq_none h']at h0
 have I:Hid (∀k,k<3->w1.cell? ⟨M,k,none⟩ =some (.int .u8 (ix Jx k))):=λk N=>g.head N;clear g
 go_loopw [6] (λi wr=>∃(k q:Nat),k<=3/\i= .int .i64 k/\wr=w1.drewN q/\Hid (pre l k)) (λi _=>3-(intOf i).toNat)
 case atStart=>exact⟨0,0,ω,rfl,rfl,λi hi=>ω⟩
 obtain⟨k,q,N,rfl,rfl,HP⟩ :=hrel;by_cases X:k<3
 · have AP:k<n:=by have:=m.1;have:=Z.out;omega
   · have mk:=I.out k X;obtain⟨d,rfl,_,p⟩ :=u.rd.at_ AP;have qB:(0:Int)<=k/\(k:Int)<3/\(k:Int)<n/\(n:Int)<=1000000:=ω;obtain⟨x,L⟩ :=ν (ix l k);obtain⟨y,J⟩ :=ν (ix Jx k);rw[L]at p;rw[J]at mk
     have C:x=y:=by
      rw[<-L,<-J,m.2.1 k ω];obtain rfl | rfl | rfl:k=0\/k=1\/k=2:=ω;all_goals rfl
     have EP:Hid (pre l (k+1)):=λi hi=>by
      rcases aU i k with h1 | h1
      · exact HP.out i h1
      obtain rfl:i=k:=ω;exact⟨by rw[<-Z.out];exact AP,by rw[L,J];exact C⟩
     clear L J;subst C
     go_wp2_with fail;go_quiet (fail);go_wp2;go_roundw
     case rel=>exact⟨k+1,_,ω,by go_num,rfl,EP⟩
     case measure=>simp [intOf];omega
 obtain rfl:3=k:=ω;have S:=u.drewN q;clear u;revert S;generalize w1.drewN q=wc;intro S;clear I a6Z;have ah:10<=n:=by rw[Z.out];exact m.1
 have ac:¬(n:Int)<4/\¬(n:Int)<10:=ω;obtain⟨d,rfl,_,p⟩ :=S.rd.at_ (i:=3) ω;rw[m.2.1 3 ω]at p;replace p:wc.cell? (d.add 3)=some (.int .u8 0):=p;rw[add_pos d ω]at p;obtain⟨i0,hi,V,z,U⟩ :=aL qy;obtain⟨Q,Ch⟩ :=ν (dw (some d) c 4);obtain⟨d4,J0⟩ :=ν (c-4)
 have oh:∀W,(Instr.slice 22 (.slice (some d) n c) (some (.int .i64 4)) (some (.int .i64 8)) none).run Tryz.prog W= .ok (.slice Q 4 d4) W:=λW=>by
  have:=jE (P:=Tryz.prog) 22 5 Tryz.underlying22 hi z (some d) n c (a:=4) (b:=8) ω ω W;rw[Ch,J0]at this;exact this
 have D:∀W,bT .u8 W B (some d) n l->bT .u8 W B Q 4 ((l.drop 4).take 4):=λW h=>Ch▸X0 h ω Y;have G:=η D;clear D Ch J0 hi V z U;obtain⟨PT,r,al,f⟩ :=S.rd.at_ (i:=8) ω;cases r;obtain⟨PT,r,_,o⟩ :=S.rd.at_ (i:=9) ω;cases r;rw[add_pos d ω]at f o;rw[m.2.1 8 ω]at f;rw[m.2.1 9 ω]at o;replace f:wc.cell? ⟨d.block,d.off+8,none⟩ =some (.int .u8 0):=f;replace o:wc.cell? ⟨d.block,d.off+9,none⟩ =some (.int .u8 0):=o;have F:d.block<wc.heap.size:=by have:=S.H.lt;have:=S.BR;omega
 have nB:∀W,bT .u8 W B (some d) n l->Calls Tryz.prog 36 #[.slice Q 4 d4] W λe w'=>e= .returned (.int .i64 0)/\w'=W:=λW h=>by
  have:=Bz W B 4 d4 Q _ (G W h) ω (a10 (Oz hb 4) 4);rw[m.2.2.2.2.2.2]at this;exact this
 have YI:=η nB;clear nB;have t:=S.rd;have ap:(8:Int)<n:=ω;have ao:(9:Int)<n:=ω;have aE:(4:Int)<n:=ω;have O:B<=wc.heap.size:=by have:=S.H.lt;have:=S.BR;omega
 go_upto_region 16 with fail
 go_cut [8] (λs wx=>∃K,s= .pointer (some ⟨K,0,none⟩)/\RT w wx B R (some d) n l K (vH.v (.slice none 0 0)) none 0 0 [])
 case first=>
  go_region_held3 (λw'=>w'.cell? ⟨d.block,d.off+8,none⟩ =some (.int .u8 0)/\w'.cell? ⟨d.block,d.off+9,none⟩ =some (.int .u8 0)/\bT .u8 w' B (some d) n l)
   (first | exact⟨f,o,t⟩ | exact⟨(dG wc.drew _ ⟨d.block,d.off+8,none⟩ F).trans f,(dG wc.drew _ ⟨d.block,d.off+9,none⟩ F).trans o,bT.alloc (w:=wc.drew) t O _⟩ | exact⟨(dG wc _ ⟨d.block,d.off+8,none⟩ F).trans f,(dG wc _ ⟨d.block,d.off+9,none⟩ F).trans o,bT.alloc (w:=wc) t O _⟩)
   (first | (go_at_call 36;(refine(YI _ (by first | exact t | exact bT.alloc (w:=wc.drew) t O _)).mono ?_);rintro e w7 ⟨rfl,rfl⟩))
  all_goals
   go_wp2;go_meet;refine⟨_,rfl,(S.below ((aw _ _).alloc (af _) _)).drewN 1,(Ar.Wt rfl _ _ rfl (λi hi=> ?_)).drew,S.H.lt,aT.di⟩;rcases G0 hi with rfl | rfl | rfl | rfl | rfl | rfl | rfl | rfl | rfl | rfl | rfl;all_goals rfl
 case rest=>
 clear S p f o t F O;obtain⟨K,rfl,T⟩ :=hcut;clear G YI oh HM;have k0:wc.cell? ⟨K,0,none⟩ =some (.bool false):=T.H.az 0;have k1:wc.cell? ⟨K,1,none⟩ =some (.bool false):=T.H.az 1;have k2:wc.cell? ⟨K,2,none⟩ =some (.int .u32 0):=T.H.az 2;have k3:wc.cell? ⟨K,3,none⟩ =some (.int .u8 0):=T.H.az 3;have k4:wc.cell? ⟨K,4,none⟩ =some (.int .u8 0):=T.H.az 4;have k5:wc.cell? ⟨K,5,none⟩ =some (.slice none 0 0):=T.H.az 5;have k6:wc.cell? ⟨K,6,none⟩ =some (.bool false):=T.H.az 6;have k7:wc.cell? ⟨K,7,none⟩ =some (.string (strOf [])):=T.H.az 7;have k8:wc.cell? ⟨K,8,none⟩ =some (.string (strOf [])):=T.H.az 8;have k9:wc.cell? ⟨K,9,none⟩ =some (.bool false):=T.H.az 9;have ab:wc.cell? ⟨K,10,none⟩ =some (.bool false):=T.H.az 10;obtain⟨⟨r0,r1,r2,r3,r4,r5,r6,r7,r8,r9,WX⟩,f0,f1,f2,f3,f4,f5,f6,f7,f8,f9,bd⟩ :=AE T.S.H;have an:¬K=R:=by have:=T.lt;omega
 have am:¬R=K:=by have:=T.lt;omega
 go_wp2_with ((with_reducible (show bodyPost _ _ _ _ _ _));exact bS (Gk (T.fin).1 rfl rfl rfl) rfl ⟨none,0,0,[],af _,aG _,(T.fin).2.2,λk N=>by simp [ai]at N,(T.fin).2.1, .inl ⟨m.2.2.1,m.2.2.2.2.1.symm,by rw[m.2.2.2.1,m.2.2.2.2.2.1];rfl⟩⟩)
theorem bT.Uw {w w':World} {B n:Nat} {A:ax} {l:ag} {row:Option Nat} (h:bT .u8 w B A n l) (e:w.grownBy w' row) (f:B<=w.heap.size) (d:∀k,row=some k->∀a,A=some a->a.block≠k):bT .u8 w' B A n l:=
 ((bb.refl w (λk=>row=some k)).grown e (λk b=> .inl b)).rp h f (λ_ a c b=>d _ b a c rfl)
structure PW (w0 w:World) (B H:Nat) (h:HP) (X:ax) (m cc:Nat) (A:ax) (n c:Nat) (L:ag):Prop where
 hd:Ar w H 11 (hf (h.v (.slice X m cc)))
 x:bT .u8 w B X m h.xl
 b:Below H w0 w
 eq:H=w0.heap.size
 BH:B<=H
 own:aT .u8 w (H+1) 5 A n c L
section
variable {w0 w w':World} {B H m cc n c:Nat} {h:HP} {X A:ax} {L:ag}
theorem PW.drewN (s:PW w0 w B H h X m cc A n c L) (q:Nat):PW w0 (w.drewN q) B H h X m cc A n c L:= ⟨s.hd.drewN q,s.x.drewN q,below_drewN s.b q,s.eq,s.BH,s.own.drewN q⟩
theorem PW.below (s:PW w0 w B H h X m cc A n c L) (a:Below w.heap.size w w'):PW w0 w' B H h X m cc A n c L:=
 ⟨s.hd.keeps a,s.x.keep λp hp=>a.cell (ε s.hd.lt s.BH),Below.trans s.b (a.mono (τ s.hd.lt)),s.eq,s.BH,s.own.keeps a⟩
theorem PW.grown {A':ax} {n' c':Nat} {f:ag} (s:PW w0 w B H h X m cc A n c L) (i:w.grownBy w' (ai A)) (g:aT .u8 w' (H+1) 5 A' n' c' f):PW w0 w' B H h X m cc A' n' c' f:=by
 have d:∀k,ai A=some k->H+1<=k:=λk a=>(s.own.2.lt a).1;have j:=s.hd.lt;have hC:bb w w' (λk=>ai A=some k):=(bb.refl w _).grown i (λk a=> .inl a);have e:Below (H+1) w w':=hC.below (λk a=>by have:=d k a;omega) ω;exact⟨hC.ar s.hd λh=>by have:=d _ h;omega,s.x.keep λp hp=>e.cell (τ s.BH),Below.trans s.b (e.mono ω),s.eq,s.BH,g⟩
theorem PW.lt (s:PW w0 w B H h X m cc A n c L):H<w.heap.size:=s.hd.lt
theorem PW.a3E (s:PW w0 w B H h X m cc A n c L) {Z:Nat} (e:Z=w.heap.size) (l:ag) (d:l.length<=maxLen):PW w0 (w.alloc (.cells (l.map (Value.int .u8)).toArray 5)) B H h X m cc (some ⟨Z,0,none⟩) l.length l.length l:=
 have a:=s.below (w':=w.alloc (.cells (l.map (Value.int .u8)).toArray 5)) ((aw _ _).alloc (af _) _)
 ⟨a.hd,a.x,a.b,s.eq,s.BH,aT.lit e l _ (τ s.hd.lt) d⟩
theorem PW.lit (s:PW w0 w B H h X m cc A n c L) (o:Obj):PW w0 (w.alloc o) B H h X m cc A n c L:=s.below ((aw _ _).alloc (af _) _)
theorem PW.three (s:PW w0 w B H h X m cc A n c L):w.cell? ⟨H,2,none⟩ =some (.int .u32 h.tm)/\w.cell? ⟨H,3,none⟩ =some (.int .u8 h.fl)/\w.cell? ⟨H,4,none⟩ =some (.int .u8 h.sy):= ⟨s.hd.az 2,s.hd.az 3,s.hd.az 4⟩
theorem PW.drew (s:PW w0 w B H h X m cc A n c L):PW w0 w.drew B H h X m cc A n c L:=s.drewN 1
end
theorem oI {l:ag} {a m:Nat} (h:a+m<=l.length):qa l a 0 m=0/\wI l a 0 m=a+m/\yf l a 0 m=(l.drop a).take m:=by
 have e:qa l a 0 m=0:=by unfold qa;rw[a8 ω]
 unfold wI yf;rw[aa e,aa e];exact⟨e,rfl,rfl⟩
theorem UA {l:ag} {a:Nat} {c:Int} (h:a+1<=l.length) (b:ix l a=c):Hj l a 0 c=0:=by
 unfold Hj;rw[(oI h).1,a8 (by rw[b];simp)]
theorem Uz {l:ag} {a:Nat} (h:a+1<=l.length):WC l a 0=ix l a:=by unfold WC;rw[aa (oI h).1]
theorem IJ {l:ag} (g:10<=l.length) (p:ix l 0=31) (o:ix l 1=139) (n:ix l 2=8) (m:ix l 3=0) (j:ix l 8=0) (i:ix l 9=0) (k:rK ((l.drop 4).take 4)=0):
  (b1 l=1/\q1 l=0/\b2 l=2/\q2 l=0/\b3 l=3/\q3 l=0)/\fB l=0/\(b4 l=4/\q4 l=0/\tmV l=0)/\(b5 l=8/\q5 l=0/\flV l=0)/\(b6 l=9/\q6 l=0/\syV l=0)/\b7 l=10/\q7 l=0:=by
 have f:q1 l=0:=UA ω p;have d1:b1 l=1:=(oI ω).2.1;have e:q2 l=0:=by unfold q2;rw[f,d1];exact UA ω o
 have d2:b2 l=2:=by unfold b2;rw[f,d1];exact(oI ω).2.1
 have d:q3 l=0:=by unfold q3;rw[e,d2];exact UA ω n
 have d3:b3 l=3:=by unfold b3;rw[e,d2];exact(oI ω).2.1
 have h:fB l=0:=by unfold fB;rw[d,d3,Uz ω,m]
 have d4:b4 l=4:=by unfold b4;rw[d,d3];exact(oI ω).2.1
 have c:q4 l=0:=by unfold q4;rw[d,d3,h,(oI ω).1];rfl
 have q:tmV l=0:=by unfold tmV;rw[c,d4,(oI ω).2.2,k]
 have d5:b5 l=8:=by unfold b5;rw[c,d4];exact(oI ω).2.1
 have b:q5 l=0:=by unfold q5;rw[c,d4];exact(oI ω).1
 have s:flV l=0:=by unfold flV;rw[b,d5,Uz ω,j]
 have d6:b6 l=9:=by unfold b6;rw[b,d5];exact(oI ω).2.1
 have a:q6 l=0:=by unfold q6;rw[b,d5];exact(oI ω).1
 have r:syV l=0:=by unfold syV;rw[a,d6,Uz ω,i]
 have u:b7 l=10:=by unfold b7;rw[a,d6];exact(oI ω).2.1
 have t:q7 l=0:=by unfold q7;rw[a,d6];exact(oI ω).1
 exact⟨⟨d1,f,d2,e,d3,d⟩,h, ⟨d4,c,q⟩, ⟨d5,b,s⟩, ⟨d6,a,r⟩,u,t⟩
theorem pJ (r:ag):wH ([31,139,8,0,0,0,0,0,0,0]++r)=0/\Cz ([31,139,8,0,0,0,0,0,0,0]++r)=10/\exL ([31,139,8,0,0,0,0,0,0,0]++r)=[]/\(∀ex,Ga ([31,139,8,0,0,0,0,0,0,0]++r) ex=vH.v ex)/\rK ((([31,139,8,0,0,0,0,0,0,0]++r).drop 4).take 4)=0:=by
 have b:10<=([31,139,8,0,0,0,0,0,0,0]++r).length:=by rw[ae];show 10<=10+_;omega
 have k:ix ([31,139,8,0,0,0,0,0,0,0]++r) 0=31:=rfl;have j:ix ([31,139,8,0,0,0,0,0,0,0]++r) 1=139:=rfl;have i:ix ([31,139,8,0,0,0,0,0,0,0]++r) 2=8:=rfl;have g:ix ([31,139,8,0,0,0,0,0,0,0]++r) 3=0:=rfl;have f:ix ([31,139,8,0,0,0,0,0,0,0]++r) 8=0:=rfl;have e:ix ([31,139,8,0,0,0,0,0,0,0]++r) 9=0:=rfl;have d:rK ((([31,139,8,0,0,0,0,0,0,0]++r).drop 4).take 4)=0:=rfl;revert b k j i g f e d;generalize [31,139,8,0,0,0,0,0,0,0]++r=l;intro b k j i g f e d;obtain⟨-,a, ⟨-, -,t⟩, ⟨-, -,w⟩, ⟨-, -,u⟩,B,z⟩ :=IJ b k j i g f e d;have n:¬bit 0 4=true:=δ;have m:¬bit 0 8=true:=δ;have c:¬bit 0 16=true:=δ;have A:b9 l=10:=by unfold b9;rw[a,a8 n,B]
 have y:q9 l=0:=by unfold q9;rw[a,a8 n,z]
 have s:Y9 l=10:=by unfold Y9;rw[a,a8 m,A]
 have p:WW l=0:=by unfold WW;rw[a,a8 m,y]
 have q:PZ l=10:=by unfold PZ;rw[a,a8 c,s]
 have o:Tf l=0:=by unfold Tf;rw[a,a8 c,p]
 have en:nmL l=[]:=by unfold nmL;rw[a,a8 m]
 have x:cmL l=[]:=by unfold cmL;rw[a,a8 c]
 have ex:exL l=[]:=by unfold exL;rw[a,a8 n]
 refine⟨?_, ?_,ex,λv=> ?_,d⟩
 · unfold wH;rw[a8 (λh=>absurd (a▸h.1) δ),o]
 · unfold Cz;rw[a8 (λh=>absurd (a▸h.1) δ),q]
 unfold Ga;rw[a,t,w,u,en,x];rfl
theorem a4v (r:ag) (j:Nat) (a:j<10):ix ([31,139,8,0,0,0,0,0,0,0]++r) j=ix [31,139,8,0,0,0,0,0,0,0] j:=by
 rw[dy,aa (by show j<10;exact a)]
theorem Np (w:World):Calls Tryz.prog 32 #[hagg (vH.v (.slice none 0 0))] w λe w'=>∃A c,e= .returned (.tuple #[.slice A 10 c, .int .i64 0])/\aT .u8 w' w.heap.size 5 A 10 c [31,139,8,0,0,0,0,0,0,0]/\Below w.heap.size w w':=by
 unfold hagg HP.v vH;dsimp only
 have f:PW w (w.alloc (.cells #[.bool false, .bool false, .int .u32 0, .int .u8 0, .int .u8 0, .slice none 0 0, .bool false, .string (strOf []), .string (strOf []), .bool false, .bool false] 48)) w.heap.size w.heap.size ⟨false,false,0,0,0,[],false,[],[],false,false⟩ none 0 0 none 0 0 []:=
  ⟨Ar.Wt rfl _ _ rfl (λi hi=>by
    rcases G0 hi with rfl | rfl | rfl | rfl | rfl | rfl | rfl | rfl | rfl | rfl | rfl;all_goals rfl), ⟨rfl,Rd.di⟩,(aw _ _).alloc (af _) _,rfl,af _,aT.di⟩
 go_in
 go_upto_region 1 with fail
 revert f;generalize w.alloc (.cells #[.bool false, .bool false, .int .u32 0, .int .u8 0, .int .u8 0, .slice none 0 0, .bool false, .string (strOf []), .string (strOf []), .bool false, .bool false] 48)=wc;intro f;obtain⟨H,L⟩ :=ν (w.heap.size);rw[L]at f⊢;have Q:=η L;have HM:=η (f.eq);have O:wc.cell? ⟨H,0,none⟩ =some (.bool false):=f.hd.az 0;have D:wc.cell? ⟨H,1,none⟩ =some (.bool false):=f.hd.az 1;have Z:wc.cell? ⟨H,5,none⟩ =some (.slice none 0 0):=f.hd.az 5;have C:wc.cell? ⟨H,6,none⟩ =some (.bool false):=f.hd.az 6;have Y:wc.cell? ⟨H,7,none⟩ =some (.string (strOf [])):=f.hd.az 7;have X:wc.cell? ⟨H,8,none⟩ =some (.string (strOf [])):=f.hd.az 8;have B:wc.cell? ⟨H,9,none⟩ =some (.bool false):=f.hd.az 9;have j:wc.cell? ⟨H,10,none⟩ =some (.bool false):=f.hd.az 10;have J:=λW=>Ut W [] false (λx hx=>by cases hx) σ;rw[show Ur [] false=true by decide]at J;have HG:=η J;clear J L;go_upto_region 3 with (go_at_call 41;(with_reducible refine(HG.out _).mono ?_);rintro e w2 ⟨rfl,rfl⟩)
 go_cut [4] (λs wx=>∃A c,s= .slice A 4 c/\PW w wx H H ⟨false,false,0,0,0,[],false,[],[],false,false⟩ none 0 0 A 4 c [31,139,8,0])
 case first=>
  have K:=f.lt
  go_region_held3 (λw'=>w'.cell? ⟨H,0,none⟩ =some (.bool false)/\w'.cell? ⟨H,1,none⟩ =some (.bool false)/\w'.cell? ⟨H,6,none⟩ =some (.bool false)/\w'.cell? ⟨H,9,none⟩ =some (.bool false)/\w'.cell? ⟨H,10,none⟩ =some (.bool false)) (first | exact⟨O,D,C,B,j⟩ | go_keep) (first | (go_at_call 42;(refine(Wo _ _ _).mono ?_);rintro e w2 ⟨rfl,rfl⟩))
  go_wp2;go_meet;exact⟨_,4,rfl,(f.a3E rfl [31,139,8,0] (by unfold maxLen;simp)).drewN 1⟩
 clear f O D Z C Y X B j;obtain⟨A,c,rfl,T⟩ :=hcut;obtain⟨r,hi,q,o,n⟩ :=aL qy;have Hi:=η hi;have z:=η q;have y:=η o;have u:=η n;clear hi q o n;go_upto_region 4 with fail
 go_cut [4] (λs wx=>∃A c,s= .slice A 10 c/\PW w wx H H ⟨false,false,0,0,0,[],false,[],[],false,false⟩ none 0 0 A 10 c [31,139,8,0,0,0,0,0,0,0])
 case first=>
  have k2:wc.cell? ⟨H,2,none⟩ =some (.int .u32 0):=T.hd.az 2;have k3:wc.cell? ⟨H,3,none⟩ =some (.int .u8 0):=T.hd.az 3;have k4:wc.cell? ⟨H,4,none⟩ =some (.int .u8 0):=T.hd.az 4;have K:=T.lt
  go_region_held3 (λw'=>w'.cell? ⟨H,2,none⟩ =some (.int .u32 0)/\w'.cell? ⟨H,3,none⟩ =some (.int .u8 0)/\w'.cell? ⟨H,4,none⟩ =some (.int .u8 0))
   (first | exact PW.three T | exact PW.three T.drew | exact PW.three (T.lit _) | exact PW.three (T.lit _).drew | exact PW.three a | exact PW.three (a.lit _) | exact PW.three d | exact PW.three (d.lit _) | exact PW.three M)
   (first
     | (go_at_call 43;(refine(Bg _ 0 4 ω ω).mono ?_);rintro e S ⟨Al,V,ab,rfl,G,h⟩
        obtain rfl:4=V:=by have:=G.1;rw[jW]at this;exact this.symm
        first
         | have a:=T.drew.below h
         | (have a:=(T.lit _).drew.below h;have t:=bT.keep (bT.lit .u8 wc [0,0] 5) (λp hp=>h.cell (p:=p) ξ)))
     | ((refine eK .u8 (H+1) 5 r 1 rfl (.tmp 56) (.tmp 59) _ rfl Tryz.underlying22 Hi.out z.out y.out u.out rfl a.own rfl G.rd (by simp <;> omega) ω (by first | (have:=a.lt;omega) | (have:=d.lt;omega) | (have:=a.lt;simp;omega) | (have:=d.lt;simp;omega)) ?_);intro A3 c3 N F g oz
        have d:=a.grown g F
        try have t:=bT.Uw t g (by have:=h.size;simp at this;omega) (λk I ad m=>by cases m;have:=(T.own.2.lt I).2;simp;omega))
     | ((refine eK .u8 (H+1) 5 r 1 rfl (.tmp 56) (.tmp 59) _ rfl Tryz.underlying22 Hi.out z.out y.out u.out rfl (a.lit _).own rfl (G.rd.alloc (af _) _) (by simp <;> omega) ω (by first | (have:=a.lt;omega) | (have:=d.lt;omega) | (have:=a.lt;simp;omega) | (have:=d.lt;simp;omega)) ?_);intro A3 c3 N F g oz
        have d:=(a.lit _).grown g F;have t:=bT.Uw (bT.lit .u8 S [0,0] 5) g σ (λk I ad m=>by cases m;have:=(a.own.2.lt I).2;simp;omega))
     | ((refine eK .u8 (H+1) 5 r 1 rfl (.tmp 60) (.tmp 65) _ rfl Tryz.underlying22 Hi.out z.out y.out u.out rfl (d.lit _).own rfl (bT.lit .u8 N [0,0] 5) (by simp <;> omega) ω (by first | (have:=a.lt;omega) | (have:=d.lt;omega) | (have:=a.lt;simp;omega) | (have:=d.lt;simp;omega)) ?_);intro R P U E l dY
        have M:=(d.lit _).grown l E)
     | ((refine eK .u8 (H+1) 5 r 1 rfl (.tmp 60) (.tmp 65) _ rfl Tryz.underlying22 Hi.out z.out y.out u.out rfl d.own rfl t (by simp <;> omega) ω (by first | (have:=a.lt;omega) | (have:=d.lt;omega) | (have:=a.lt;simp;omega) | (have:=d.lt;simp;omega)) ?_);intro R P U E l dY
        have M:=d.grown l E))
  all_goals
   go_wp2;go_meet;exact⟨R,P,rfl,M⟩
 clear T;obtain⟨A,c,rfl,T⟩ :=hcut;have D:wc.cell? ⟨H,1,none⟩ =some (.bool false):=T.hd.az 1;have C:wc.cell? ⟨H,6,none⟩ =some (.bool false):=T.hd.az 6;have B:wc.cell? ⟨H,9,none⟩ =some (.bool false):=T.hd.az 9;have j:wc.cell? ⟨H,10,none⟩ =some (.bool false):=T.hd.az 10
 go_wp2_with fail;go_returns;exact⟨A,c,rfl,by rw[Q.out];exact T.own.more ω,by rw[Q.out];exact T.b⟩
theorem Ni (w:World) (B n c:Nat) (A:ax) (l:ag) (hr:bT .u8 w B A n l) (hB:B<=w.heap.size) (hn:n<=1000000) (hc:n<=c) (hb:∀x∈l,0<=x/\x<256) (r:ag) (hl:l=[31,139,8,0,0,0,0,0,0,0]++r):
  Calls Tryz.prog 179 #[.slice A n c] w (Dc w l):=by
 have o:=η (pJ r);have a:=η (IJ (l:=[31,139,8,0,0,0,0,0,0,0]++r) (by rw[ae];show 10<=10+_;omega) rfl rfl rfl rfl rfl rfl rfl);rw[<-hl]at o a;clear hl
 go_in
 go_wp2_with fail
 have m:tP ((w.alloc (Obj.cells #[Value.bool false,Value.bool false,Value.int IntKind.u32 0,Value.int IntKind.u8 0,Value.int IntKind.u8 0,Value.slice none 0 0,Value.bool false,Value.string { data:= #[] },Value.string { data:= #[] },Value.bool false,Value.bool false] 48)).alloc (Obj.cells #[Value.slice A n c,Value.int IntKind.i64 0,Value.int IntKind.i64 0] 228)) B (w.heap.size+1) A n c l 0 0:=
  ⟨Ar.Wt σ _ _ rfl (λi hi=>by
    obtain rfl | rfl | rfl:i=0\/i=1\/i=2:=ω;all_goals rfl),(hr.alloc hB _).alloc ξ _,ω,ω,hc,hn⟩
 have G:Ar ((w.alloc (Obj.cells #[Value.bool false,Value.bool false,Value.int IntKind.u32 0,Value.int IntKind.u8 0,Value.int IntKind.u8 0,Value.slice none 0 0,Value.bool false,Value.string { data:= #[] },Value.string { data:= #[] },Value.bool false,Value.bool false] 48)).alloc (Obj.cells #[Value.slice A n c,Value.int IntKind.i64 0,Value.int IntKind.i64 0] 228)) w.heap.size 11 (hf hz):=
  (Ar.Wt rfl _ _ rfl (λi hi=>by
    rcases G0 hi with rfl | rfl | rfl | rfl | rfl | rfl | rfl | rfl | rfl | rfl | rfl;all_goals rfl)).alloc _
 have d:Below w.heap.size w ((w.alloc (Obj.cells #[Value.bool false,Value.bool false,Value.int IntKind.u32 0,Value.int IntKind.u8 0,Value.int IntKind.u8 0,Value.slice none 0 0,Value.bool false,Value.string { data:= #[] },Value.string { data:= #[] },Value.bool false,Value.bool false] 48)).alloc (Obj.cells #[Value.slice A n c,Value.int IntKind.i64 0,Value.int IntKind.i64 0] 228)):=
  ((aw _ _).alloc (af _) _).alloc σ _
 revert m G d;generalize ((w.alloc (Obj.cells #[Value.bool false,Value.bool false,Value.int IntKind.u32 0,Value.int IntKind.u8 0,Value.int IntKind.u8 0,Value.slice none 0 0,Value.bool false,Value.string { data:= #[] },Value.string { data:= #[] },Value.bool false,Value.bool false] 48)).alloc (Obj.cells #[Value.slice A n c,Value.int IntKind.i64 0,Value.int IntKind.i64 0] 228))=w1;intro m G d;obtain⟨g,hg⟩ :∃g,g=w.heap.size+1:= ⟨_,rfl⟩;rw[<-hg]at m⊢;have z:Hid (w.heap.size<g):=by show _<_;omega
 obtain⟨R,U⟩ :∃R,R=w.heap.size:= ⟨_,rfl⟩;have HB:=hB;rw[<-U]at G d z HB⊢;clear hg;have u:=η U;clear U;have ac:bb w1 w1 (λk=>k=g):=bb.refl _ _;refine(C3 _ B g n c _ A l _ m 31).mono ?_;rintro E w2 ⟨rfl,p,hC⟩;replace p:tP w2 B g A n c l (b1 l) (q1 l):=p;rw[a.1.1,a.1.2.1]at p
 go_wp2_with fail;refine(C3 _ B g n c _ A l _ p 139).mono ?_;rintro E w3 ⟨rfl,e,f⟩;have t:tP w3 B g A n c l (b2 l) (q2 l):=by unfold b2 q2;rw[a.1.1,a.1.2.1];exact e
 rw[a.1.2.2.1,a.1.2.2.2.1]at t;replace hC:=hC.trans f (λk h=> .inl h);clear f p e w2
 go_wp2_with fail;refine(C3 _ B g n c _ A l _ t 8).mono ?_;rintro E w4 ⟨rfl,e,f⟩;have s:tP w4 B g A n c l (b3 l) (q3 l):=by unfold b3 q3;rw[a.1.2.2.1,a.1.2.2.2.1];exact e
 rw[a.1.2.2.2.2.1,a.1.2.2.2.2.2]at s;replace hC:=hC.trans f (λk h=> .inl h);clear f t e w3
 go_wp2_with fail;refine(G8 _ B g n c _ A l _ s).mono ?_;rintro E w5 ⟨rfl,e,f⟩;replace hC:=hC.trans f (λk h=> .inl h);clear f s w4
 have hF:WC l 3 0=0:=by
  have:=a.2.1;unfold fB at this
  rwa [a.1.2.2.2.2.1,a.1.2.2.2.2.2]at this
 have q:tP w5 B g A n c l 4 0:=by
  have h4:=a.2.2.1.1;have h5:=a.2.2.1.2.1;unfold b4 at h4;rw[a.1.2.2.2.2.1,a.1.2.2.2.2.2]at h4;rw[h4]at e;unfold q4 at h5;rw[a.2.1,a.1.2.2.2.2.1,a.1.2.2.2.2.2]at h5;unfold gtE at h5;rw[a8 (λh=>absurd h.2 δ)]at h5;rw[h5]at e;exact e
 rw[hF];have C:=hC.ar G (λh=>by have:=z.out;omega);replace d:Below R w w5:= ⟨hC.os.trans d.os,hC.tape.trans d.tape,hC.output.trans d.output,aq d.size hC.size,λk T=>(hC.block k (ε d.size u.out) (τ z.out)).trans (d.block k T)⟩;clear hC G e m hF;have c2:=q.cell.az 2;unfold pf at c2;go_upto_region 8 with fail
 go_cut [] (λwx=>tP wx B g A n c l 4 0/\Ar wx R 11 (hf hz)/\Below R w wx)
 case first=>
  obtain⟨⟨r0,r1,Q,O,N,r5,r6,r7,r8,r9,WX⟩,f0,f1,Y,X,V,f5,f6,f7,f8,f9,Z⟩ :=AE C;have a1:bits .and .u8 0 1=0:=δ;have a2:bits .and .u8 0 2=0:=δ;have a3:bits .and .u8 0 4=0:=δ;have a4:bits .and .u8 0 8=0:=δ;have a5:bits .and .u8 0 16=0:=δ
  go_wp2_with fail;go_meet;exact Pz (hf hz) q C d HB z.out _ _ _ _ _ _ _ _ _ _ _ rfl rfl rfl rfl rfl rfl rfl rfl rfl rfl rfl
 clear q C d c2;obtain⟨p,C,d⟩ :=hcut
 go_wp2_with fail;refine(BU _ B g n c _ 4 A l _ p ω).mono ?_;rintro E M ⟨A1,m1,c1,rfl,F,DU,e,hC⟩
 have ht:rK (yf l 4 0 4)=0:=by
  have:=a.2.2.1.2.2;unfold tmV at this
  rwa [a.2.2.1.1,a.2.2.1.2.1]at this
 have K:tP M B g A n c l 8 0:=by
  have h4:=a.2.2.2.1.1;have h5:=a.2.2.2.1.2.1;unfold b5 at h4;unfold q5 at h5;rw[a.2.2.1.1,a.2.2.1.2.1]at h4 h5;rw[h4,h5]at e;exact e
 have S:PS w M B g R A n c l 8 0 hz none 0 0 []:=PS.step ⟨p,C,d,z.out,u.out,HB,aT.di⟩ K hC;clear hC p e K C d
 go_wp2_with fail;refine(se _ B m1 c1 A1 _ F (by rw[F.1];exact a3O _ _ _ _) (a3N hb _ _ _)).mono ?_;rintro E w7 ⟨rfl,qq,rfl⟩;rw[ht];replace S:=S.drewN qq;revert S;generalize M.drewN qq=wd;intro S
 have D:∀i v,(i=2/\v= .int .u32 0)\/(i=3/\v= .int .u8 0)\/(i=4/\v= .int .u8 0)->∀j,j<11->upd (hf hz) i v j=hf hz j:=λi v h j hj=>by
  rcases h with ⟨rfl,rfl⟩ | ⟨rfl,rfl⟩ | ⟨rfl,rfl⟩ <;> rcases G0 hj with rfl | rfl | rfl | rfl | rfl | rfl | rfl | rfl | rfl | rfl | rfl <;> rfl
 have HU:=η D;clear D;have Q:wd.cell? ⟨R,2,none⟩ =some (.int .u32 0):=S.H.az 2;have Y:=S.H.aH 2;replace S:=S.iz (i:=2) (h':=hz) ω (.int .u32 0) (HU _ _ (.inl ⟨rfl,rfl⟩))
 go_wp2_with fail;refine(G8 _ B g n c _ A l _ S.P).mono ?_;rintro E w8 ⟨rfl,e,hC⟩
 have J:tP w8 B g A n c l 9 0:=by
  have h4:=a.2.2.2.2.1.1;have h5:=a.2.2.2.2.1.2.1;unfold b6 at h4;unfold q6 at h5;rw[a.2.2.2.1.1,a.2.2.2.1.2.1]at h4 h5;rw[h4,h5]at e;exact e
 have hv:WC l 8 0=0:=by
  have:=a.2.2.2.1.2.2;unfold flV at this
  rwa [a.2.2.2.1.1,a.2.2.2.1.2.1]at this
 rw[hv];replace S:=S.step J hC;clear J e hC hv Q Y
 go_wp2_with fail;refine(G8 _ B g n c _ A l _ S.P).mono ?_;rintro E L ⟨rfl,e,hC⟩
 have I:tP L B g A n c l 10 0:=by
  have h4:=a.2.2.2.2.2.1;have h5:=a.2.2.2.2.2.2;unfold b7 at h4;unfold q7 at h5;rw[a.2.2.2.2.1.1,a.2.2.2.2.1.2.1]at h4 h5;rw[h4,h5]at e;exact e
 have hv:WC l 9 0=0:=by
  have:=a.2.2.2.2.1.2.2;unfold syV at this
  rwa [a.2.2.2.2.1.1,a.2.2.2.2.1.2.1]at this
 rw[hv];replace S:=S.step I hC;clear I e hC hv;have O:L.cell? ⟨R,3,none⟩ =some (.int .u8 0):=S.H.az 3;have X:=S.H.aH 3;have N:L.cell? ⟨R,4,none⟩ =some (.int .u8 0):=S.H.az 4;have V:=S.H.aH 4;replace S:=(S.iz (i:=3) (h':=hz) ω (.int .u8 0) (HU _ _ (.inr (.inl ⟨rfl,rfl⟩)))).iz (i:=4) (h':=hz) ω (.int .u8 0) (HU _ _ (.inr (.inr ⟨rfl,rfl⟩)));go_upto_region 11 with fail
 revert S;generalize ((L.setCell ⟨R,3,none⟩ (.int .u8 0)).setCell ⟨R,4,none⟩ (.int .u8 0))=W;intro S;clear O X N V;obtain⟨⟨r0,r1,Q,O,N,r5,r6,r7,r8,r9,WX⟩,f0,f1,Y,X,V,f5,f6,f7,f8,f9,Z⟩ :=AE S.H;have k1:W.cell? ⟨g,1,none⟩ =some (.int .i64 10):=S.P.cell.az 1;have k2:W.cell? ⟨g,2,none⟩ =some (.int .i64 0):=S.P.cell.az 2;have SV:¬g=R:=by have:=z.out;omega
 have ab:¬R=g:=by have:=z.out;omega
 go_upto_region 24 with fail
 go_cut [3,4] (λx y wx=>x= .int .i64 10/\y= .int .i64 0/\PS w wx B g R A n c l 10 0 hz none 0 0 [])
 case first=>
  go_region
  all_goals
   go_wp2;go_meet;exact⟨rfl,rfl,(S.a6R hz _ _ _ _ _ _ _ _ _ _ _ rfl rfl rfl rfl rfl rfl rfl rfl rfl rfl rfl).drew⟩
 clear S k1 k2;obtain⟨rfl,rfl,S⟩ :=hcut
 go_step
 apply wp_ret
 refine bS (JP S.H rfl rfl rfl) rfl ?_;refine⟨none,0,0,[],af _,aG _, ⟨rfl,Rd.di⟩,λk T=>by simp [ai]at T,u.out▸S.b, .inl ⟨o.1,o.2.2.1.symm, ?_⟩⟩;rw[o.2.2.2.1,o.2.1];rfl
end Go.Proofs.YtgiimmkmjpbecaaGreat
