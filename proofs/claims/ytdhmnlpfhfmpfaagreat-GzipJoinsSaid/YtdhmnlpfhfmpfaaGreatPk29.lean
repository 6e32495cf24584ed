/-
  part
-/
import Derived.Test.YtdhmnlpfhfmpfaaGreatHdB
import Derived.Deep.DeepCutAuto
import Derived.BigFrame
import Derived.BigRegion
set_option linter.unusedVariables false
set_option maxRecDepth 100000
set_option maxHeartbeats 4000000
namespace Go.Proofs.YtdhmnlpfhfmpfaaGreat
open Go.RowKit
theorem rU.far {w:World} {B g n c a:Nat} {A:Option Addr} {l:List Int} {e:Int} (h:rU w B g A n c l a e) {p:Addr} (hp:B<=p.block) (b:g≠p.block) (v:Value):rU (w.setCell p v) B g A n c l a e:=
 ⟨h.cell.far b v,h.rd.keep λq d=>dS _ _ _ _ (λe=>by have f:=aL Addr.block e;omega),h.lo,h.le,h.cap,h.small⟩
theorem OY {w b a:World} {R g:Nat} (h:Below R w b) (hC:bj b a (λk=>k=g)) (e:R<g) (d:R=w.heap.size):Below R w a:=
 ⟨hC.os.trans h.os,hC.tape.trans h.tape,hC.output.trans h.output,au h.size hC.size,λk c=>
   (hC.block k (by have:=h.size;omega) ω).trans (h.block k c)⟩
theorem Oj {w0 w:World} {B g n c a R:Nat} {A:Option Addr} {l:List Int} {e:Int} {f:Nat->Value} (f':Nat->Value) (D:rU w B g A n c l a e) (C:Ar w R 11 f) (z:Below R w0 w) (j:B<=R) (O:R<g) (x v u t s r q o m k b:Value) (N:x=f' 0) (M:v=f' 1) (L:u=f' 2) (K:t=f' 3) (J:s=f' 4) (I:r=f' 5) (H:q=f' 6) (G:o=f' 7) (F:m=f' 8) (E:k=f' 9) (y:b=f' 10):
  rU (((((((((((w.setCell ⟨R,0,none⟩ x).setCell ⟨R,1,none⟩ v).setCell ⟨R,2,none⟩ u).setCell ⟨R,3,none⟩ t).setCell ⟨R,4,none⟩ s).setCell ⟨R,5,none⟩ r).setCell ⟨R,6,none⟩ q).setCell ⟨R,7,none⟩ o).setCell ⟨R,8,none⟩ m).setCell ⟨R,9,none⟩ k).setCell ⟨R,10,none⟩ b) B g A n c l a e/\Ar (((((((((((w.setCell ⟨R,0,none⟩ x).setCell ⟨R,1,none⟩ v).setCell ⟨R,2,none⟩ u).setCell ⟨R,3,none⟩ t).setCell ⟨R,4,none⟩ s).setCell ⟨R,5,none⟩ r).setCell ⟨R,6,none⟩ q).setCell ⟨R,7,none⟩ o).setCell ⟨R,8,none⟩ m).setCell ⟨R,9,none⟩ k).setCell ⟨R,10,none⟩ b) R 11 f'/\Below R w0 (((((((((((w.setCell ⟨R,0,none⟩ x).setCell ⟨R,1,none⟩ v).setCell ⟨R,2,none⟩ u).setCell ⟨R,3,none⟩ t).setCell ⟨R,4,none⟩ s).setCell ⟨R,5,none⟩ r).setCell ⟨R,6,none⟩ q).setCell ⟨R,7,none⟩ o).setCell ⟨R,8,none⟩ m).setCell ⟨R,9,none⟩ k).setCell ⟨R,10,none⟩ b):=by
 have d:g≠R:=ω;have h:R<=R:=ag R;refine⟨(((((((((((D.far (p:= ⟨R,0,none⟩) j d x).far (p:= ⟨R,1,none⟩) j d v).far (p:= ⟨R,2,none⟩) j d u).far (p:= ⟨R,3,none⟩) j d t).far (p:= ⟨R,4,none⟩) j d s).far (p:= ⟨R,5,none⟩) j d r).far (p:= ⟨R,6,none⟩) j d q).far (p:= ⟨R,7,none⟩) j d o).far (p:= ⟨R,8,none⟩) j d m).far (p:= ⟨R,9,none⟩) j d k).far (p:= ⟨R,10,none⟩) j d b), ?_,(((((((((((z.setCell (p:= ⟨R,0,none⟩) h x).setCell (p:= ⟨R,1,none⟩) h v).setCell (p:= ⟨R,2,none⟩) h u).setCell (p:= ⟨R,3,none⟩) h t).setCell (p:= ⟨R,4,none⟩) h s).setCell (p:= ⟨R,5,none⟩) h r).setCell (p:= ⟨R,6,none⟩) h q).setCell (p:= ⟨R,7,none⟩) h o).setCell (p:= ⟨R,8,none⟩) h m).setCell (p:= ⟨R,9,none⟩) h k).setCell (p:= ⟨R,10,none⟩) h b)⟩;refine Ar.congr (((((((((((C.bC (i:=0) ω x).bC (i:=1) ω v).bC (i:=2) ω u).bC (i:=3) ω t).bC (i:=4) ω s).bC (i:=5) ω r).bC (i:=6) ω q).bC (i:=7) ω o).bC (i:=8) ω m).bC (i:=9) ω k).bC (i:=10) ω b) (λi hi=> ?_);rcases rL hi with rfl | rfl | rfl | rfl | rfl | rfl | rfl | rfl | rfl | rfl | rfl
 · exact N
 · exact M
 · exact L
 · exact K
 · exact J
 · exact I
 · exact H
 · exact G
 · exact F
 · exact E
 exact y
theorem Y4 {F:Int} (h:0<=F/\F<256):(bits .and .u8 F 1 != 0)=bit F 1/\(bits .and .u8 F 2 != 0)=bit F 2/\(bits .and .u8 F 4 != 0)=bit F 4/\(bits .and .u8 F 8 != 0)=bit F 8/\(bits .and .u8 F 16 != 0)=bit F 16:=by
 obtain⟨N,rfl⟩ :=aG h.1;have hN:N<256:=ω;have i:∀N:Nat,N<256->(N&&& 1≠0↔N/1%2=1):=δ;have f:∀N:Nat,N<256->(N&&& 2≠0↔N/2%2=1):=δ;have h4:∀N:Nat,N<256->(N&&& 4≠0↔N/4%2=1):=δ;have e:∀N:Nat,N<256->(N&&& 8≠0↔N/8%2=1):=δ;have g:∀N:Nat,N<256->(N&&& 16≠0↔N/16%2=1):=δ
 have a:∀k:Nat,k<256->(N&&& k≠0↔N/k%2=1)->(bits .and .u8 (N:Int) (k:Int) != 0)=bit (N:Int) (k:Int):=by
  intro k d h;rw[u8_and_nat N k hN d];unfold bit;have c:((N:Int)/(k:Int)%2=1)↔N/k%2=1:=by rw[<-Int.natCast_ediv];omega
  by_cases b:N&&& k=0
  · have h5:¬N/k%2=1:=λh6=>(h.2 h6) b;rw[b,aO (λh6=>h5 (c.1 h6))];rfl
  rw[aS (c.2 (h.1 b))];simp only [bne_iff_ne];omega
 exact⟨a 1 ω (i N hN),a 2 ω (f N hN),a 4 ω (h4 N hN),a 8 ω (e N hN),a 16 ω (g N hN)⟩
def Nr (f:Int):HV:= ⟨bit f 1,bit f 2,0,0,0, .slice none 0 0,bit f 4,ByteArray.empty,ByteArray.empty,bit f 8,bit f 16⟩
def EF (l:List Int):Int:=iq (lW (iq 0) (l.take (lZ l)) (lZ l))%65536
def smC (l:List Int):Prop:=bit (fB l) 2=true/\rz l=0
instance (l:List Int):Decidable (smC l):=by unfold smC;infer_instance
def rN (l:List Int):Nat:=if smC l then wJ l (lZ l) (rz l) 2 else lZ l
def jM (l:List Int):Int:=if smC l then(if nS l (lZ l) (rz l) 2=0/\mM (uQ l (lZ l) (rz l) 2)≠EF l then 4 else nS l (lZ l) (rz l) 2)else rz l
theorem a1Q {x:Int} (h:0<=x/\x<4294967296):bits .and .u32 x 65535=x%65536:=by
 obtain⟨N,rfl⟩ :=aG h.1;have e:=u32_and_nat N 65535 ω ω;rw[show((65535:Nat):Int)=65535 from rfl]at e;rw[e,show(65535:Nat)=2 ^ 16-1 from rfl,fg];rfl
structure PS (w0 w:World) (B g R:Nat) (A:Option Addr) (n c:Nat) (l:List Int) (a:Nat) (e:Int) (h:HV) (X:Option Addr) (m cc:Nat) (xl:List Int):Prop where
 P:rU w B g A n c l a e
 H:Ar w R 11 (hf h)
 b:Below R w0 w
 lt:R<g
 eq:R=w0.heap.size
 BR:B<=R
 own:aW .u8 w (g+1) 5 X m cc xl
section
variable {w0 w w':World} {B g R n c a a' m cc:Nat} {A X:Option Addr} {l xl:List Int} {e e':Int} {h h':HV}
theorem PS.step (s:PS w0 w B g R A n c l a e h X m cc xl) (f:rU w' B g A n c l a' e') (hC:bj w w' (λk=>k=g)):PS w0 w' B g R A n c l a' e' h X m cc xl:=
 ⟨f,hC.ar s.H (λh=>by have:=s.lt;omega),OY s.b hC s.lt s.eq,s.lt,s.eq,s.BR,hC.eH s.own λk d h=>by have:=(s.own.2.lt d).1;omega⟩
theorem PS.drewN (s:PS w0 w B g R A n c l a e h X m cc xl) (q:Nat):PS w0 (w.drewN q) B g R A n c l a e h X m cc xl:= ⟨s.P.drewN q,s.H.drewN q,below_drewN s.b q,s.lt,s.eq,s.BR,s.own.drewN q⟩
theorem PS.drew (s:PS w0 w B g R A n c l a e h X m cc xl):PS w0 w.drew B g R A n c l a e h X m cc xl:=s.drewN 1
theorem PS.bC (s:PS w0 w B g R A n c l a e h X m cc xl) {i:Nat} (hi:i<11) (v:Value) (d:∀j,j<11->upd (hf h) i v j=hf h' j):PS w0 (w.setCell ⟨R,i,none⟩ v) B g R A n c l a e h' X m cc xl:=
 ⟨s.P.far (p:= ⟨R,i,none⟩) s.BR (by have:=s.lt;simp;omega) v,s.H.yL hi v d,s.b.setCell (p:= ⟨R,i,none⟩) (ag R) v,s.lt,s.eq,s.BR,s.own.far (p:= ⟨R,i,none⟩) (λh=>by have f:g+1<=R:=(s.own.2.lt h).1;have:=s.lt;omega) v⟩
theorem PS.lit (s:PS w0 w B g R A n c l a e h X m cc xl) {Z:Nat} (d:Z=w.heap.size):PS w0 (w.alloc (.cells #[] 5)) B g R A n c l a e h (some ⟨Z,0,none⟩) 0 0 []:=
 ⟨⟨s.P.cell.alloc _,s.P.rd.alloc (by have:=s.P.cell.lt;have:=s.P.lo;omega) _,s.P.lo,s.P.le,s.P.cap,s.P.small⟩,s.H.alloc _,s.b.alloc (by have:=s.b.size;have:=s.eq;omega) _,s.lt,s.eq,s.BR,aW.lit d [] _ (by have:=s.P.cell.lt;omega) (aF _)⟩
theorem PS.grown {q:Option Addr} {p i:Nat} {d:List Int} (s:PS w0 w B g R A n c l a e h X m cc xl) (u:w.grownBy w' (ai X)) (r:aW .u8 w' (g+1) 5 q p i d):PS w0 w' B g R A n c l a e h q p i d:=by
 have hC:bj w w' (λk=>ai X=some k):=(bj.refl w _).grown u (λk f=> .inl f);have j:∀k,ai X=some k->g+1<=k:=λk f=>(s.own.2.lt f).1;have x:B<=w.heap.size:=by have:=s.P.cell.lt;have:=s.P.lo;omega
 refine⟨⟨hC.ar s.P.cell λh=>by have:=j _ h;omega,hC.rA s.P.rd x λt z o h=> ?_,s.P.lo,s.P.le,s.P.cap,s.P.small⟩,hC.ar s.H λh=>by have:=j _ h;have:=s.lt;omega, ?_,s.lt,s.eq,s.BR,r⟩
 · obtain⟨y,e',v,_⟩ :=s.P.rd.2 t;rw[o]at e';cases e';have:=j _ h;have:=s.P.lo;omega
 exact iR s.b (hC.below (b0:=R) (λk f=>by have:=j _ f;have:=s.lt;omega) (by have:=s.P.cell.lt;have:=s.lt;omega))
theorem PS.below (s:PS w0 w B g R A n c l a e h X m cc xl) (d:Below w.heap.size w w'):PS w0 w' B g R A n c l a e h X m cc xl:=by
 have hC:bj w w' (λ_=>False):=bj.bA d;have i:=s.P.cell.lt;have f:=s.P.lo;exact⟨⟨hC.ar s.P.cell id,hC.rA s.P.rd ω (λ_ _ _ h=>h),s.P.lo,s.P.le,s.P.cap,s.P.small⟩,hC.ar s.H id,iR s.b (hC.below (b0:=R) (λ_ h=>h.elim) (by have:=s.lt;omega)),s.lt,s.eq,s.BR,hC.eH s.own λ_ _ h=>h⟩
theorem PS.bound (s:PS w0 w B g R A n c l a e h X m cc xl):g<w.heap.size:=s.P.cell.lt
end
theorem PS.a1v {w0 w:World} {B g R n c a m cc:Nat} {A X:Option Addr} {l xl:List Int} {e:Int} {h:HV} (h':HV) (s:PS w0 w B g R A n c l a e h X m cc xl) (y x v u t r q o j i f:Value) (O:y=hf h' 0) (N:x=hf h' 1) (M:v=hf h' 2) (L:u=hf h' 3) (K:t=hf h' 4) (J:r=hf h' 5) (I:q=hf h' 6) (G:o=hf h' 7) (F:j=hf h' 8) (E:i=hf h' 9) (C:f=hf h' 10):PS w0 (((((((((((w.setCell ⟨R,0,none⟩ y).setCell ⟨R,1,none⟩ x).setCell ⟨R,2,none⟩ v).setCell ⟨R,3,none⟩ u).setCell ⟨R,4,none⟩ t).setCell ⟨R,5,none⟩ r).setCell ⟨R,6,none⟩ q).setCell ⟨R,7,none⟩ o).setCell ⟨R,8,none⟩ j).setCell ⟨R,9,none⟩ i).setCell ⟨R,10,none⟩ f) B g R A n c l a e h' X m cc xl:=by
 have z:=Oj (hf h') s.P s.H s.b s.BR s.lt y x v u t r q o j i f O N M L K J I G F E C;have d:∀k,ai X=some k->k≠R:=λk D h=>by have Q:g+1<=k:=(s.own.2.lt D).1;have:=s.lt;omega
 exact⟨z.1,z.2.1,z.2.2,s.lt,s.eq,s.BR,(((((((((((s.own.far (p:= ⟨R,0,none⟩) (λh=>d _ h rfl) y).far (p:= ⟨R,1,none⟩) (λh=>d _ h rfl) x).far (p:= ⟨R,2,none⟩) (λh=>d _ h rfl) v).far (p:= ⟨R,3,none⟩) (λh=>d _ h rfl) u).far (p:= ⟨R,4,none⟩) (λh=>d _ h rfl) t).far (p:= ⟨R,5,none⟩) (λh=>d _ h rfl) r).far (p:= ⟨R,6,none⟩) (λh=>d _ h rfl) q).far (p:= ⟨R,7,none⟩) (λh=>d _ h rfl) o).far (p:= ⟨R,8,none⟩) (λh=>d _ h rfl) j).far (p:= ⟨R,9,none⟩) (λh=>d _ h rfl) i).far (p:= ⟨R,10,none⟩) (λh=>d _ h rfl) f)⟩
theorem yg {w:World} {R:Nat} {h:HV} {tmps:Array Value} {x y:Value} (a:Ar w R 11 (hf h)) (q:tmps[2]?.getD undef= .pointer (some ⟨R,0,none⟩)) (p:tmps[3]?.getD undef=x) (h4:tmps[4]?.getD undef=y):
  (results Tryz.f76 tmps).run Tryz.prog w= .ok (.tuple #[hagg h,x,y]) w:=by
 have o:w.cell? ⟨R,0,none⟩ =some (.bool h.tx):=a.cell (i:=0) ω;have n:w.cell? ⟨R,1,none⟩ =some (.bool h.sm):=a.cell (i:=1) ω;have l:w.cell? ⟨R,2,none⟩ =some (.int .u32 h.tm):=a.cell (i:=2) ω;have k:w.cell? ⟨R,3,none⟩ =some (.int .u8 h.fl):=a.cell (i:=3) ω;have j:w.cell? ⟨R,4,none⟩ =some (.int .u8 h.sy):=a.cell (i:=4) ω;have g:w.cell? ⟨R,5,none⟩ =some (h.ex):=a.cell (i:=5) ω;have e:w.cell? ⟨R,6,none⟩ =some (.bool h.hE):=a.cell (i:=6) ω;have d:w.cell? ⟨R,7,none⟩ =some (.string h.nm):=a.cell (i:=7) ω;have c:w.cell? ⟨R,8,none⟩ =some (.string h.cm):=a.cell (i:=8) ω;have b:w.cell? ⟨R,9,none⟩ =some (.bool h.hN):=a.cell (i:=9) ω;have m:w.cell? ⟨R,10,none⟩ =some (.bool h.hC):=a.cell (i:=10) ω;simp [results,Tryz.results76,go_sem,q,p,h4,o,n,l,k,j,g,e,d,c,b,m,hagg]
def CI (l:List Int) (ex:Value):HV:={ Nr (fB l)with tm:=WS l,fl:=Tr l,sy:=XH l,ex:=ex,nm:=strOf (ya l),cm:=strOf (CU l) }
def wL (w:World) (l:List Int) (E:Ending) (w':World):Prop:=
 ∃X m cc xl,m<=cc/\cc<=maxLen/\bU .u8 w' w'.heap.size X m xl/\(∀k,ai X=some k->w.heap.size<=k)/\Below w.heap.size w w'/\
  ((jM l=0/\xl=yy l/\E= .returned (.tuple #[hagg (CI l (.slice X m cc)), .int .i64 (rN l), .int .i64 0]))\/(jM l≠0/\E= .returned (.tuple #[hagg hz, .int .i64 0, .int .i64 (jM l)])))
theorem Qx (w:World) (B n c:Nat) (A:Option Addr) (l:List Int) (hr:bU .u8 w B A n l) (hB:B<=w.heap.size) (hn:n<=1000000) (hc:n<=c) (hb:∀x∈l,0<=x/\x<256):
  Calls Tryz.prog 76 #[.slice A n c] w (wL w l):=by
 go_enter Tryz.func76,Tryz.ntmps76
 go_wp2_with fail
 have ac:rU ((w.alloc (Obj.cells #[Value.bool false,Value.bool false,Value.int IntKind.u32 0,Value.int IntKind.u8 0,Value.int IntKind.u8 0,Value.slice none 0 0,Value.bool false,Value.string { data:= #[] },Value.string { data:= #[] },Value.bool false,Value.bool false] 31)).alloc (Obj.cells #[Value.slice A n c,Value.int IntKind.i64 0,Value.int IntKind.i64 0] 144)) B (w.heap.size+1) A n c l 0 0:=
  ⟨Ar.VB σ _ _ rfl (λi hi=>by
    obtain rfl | rfl | rfl:i=0\/i=1\/i=2:=ω;all_goals rfl),(hr.alloc hB _).alloc ξ _,ω,ω,hc,hn⟩
 have I2:Ar ((w.alloc (Obj.cells #[Value.bool false,Value.bool false,Value.int IntKind.u32 0,Value.int IntKind.u8 0,Value.int IntKind.u8 0,Value.slice none 0 0,Value.bool false,Value.string { data:= #[] },Value.string { data:= #[] },Value.bool false,Value.bool false] 31)).alloc (Obj.cells #[Value.slice A n c,Value.int IntKind.i64 0,Value.int IntKind.i64 0] 144)) w.heap.size 11 (hf hz):=
  (Ar.VB rfl _ _ rfl (λi hi=>by
    rcases rL hi with rfl | rfl | rfl | rfl | rfl | rfl | rfl | rfl | rfl | rfl | rfl;all_goals rfl)).alloc _
 have o:Below w.heap.size w ((w.alloc (Obj.cells #[Value.bool false,Value.bool false,Value.int IntKind.u32 0,Value.int IntKind.u8 0,Value.int IntKind.u8 0,Value.slice none 0 0,Value.bool false,Value.string { data:= #[] },Value.string { data:= #[] },Value.bool false,Value.bool false] 31)).alloc (Obj.cells #[Value.slice A n c,Value.int IntKind.i64 0,Value.int IntKind.i64 0] 144)):=
  ((aw _ _).alloc (ag _) _).alloc σ _
 revert ac I2 o;generalize ((w.alloc (Obj.cells #[Value.bool false,Value.bool false,Value.int IntKind.u32 0,Value.int IntKind.u8 0,Value.int IntKind.u8 0,Value.slice none 0 0,Value.bool false,Value.string { data:= #[] },Value.string { data:= #[] },Value.bool false,Value.bool false] 31)).alloc (Obj.cells #[Value.slice A n c,Value.int IntKind.i64 0,Value.int IntKind.i64 0] 144))=w1;intro ac I2 o;obtain⟨g,hg⟩ :∃g,g=w.heap.size+1:= ⟨_,rfl⟩;rw[<-hg]at ac⊢;have G:Hid (w.heap.size<g):=by show _<_;omega
 obtain⟨R,wH⟩ :∃R,R=w.heap.size:= ⟨_,rfl⟩;have HB:=hB;rw[<-wH]at I2 o G HB⊢;clear hg;have D:=η wH;clear wH;have cq:bj w1 w1 (λk=>k=g):=bj.refl _ _;refine(BW _ B g n c _ A l _ ac 31).mono ?_;rintro E w2 ⟨rfl,a,hC⟩;replace a:rU w2 B g A n c l (b1 l) (q1 l):=a
 go_wp2_with fail;refine(BW _ B g n c _ A l _ a 139).mono ?_;clear a;rintro E w3 ⟨rfl,a,z⟩;replace a:rU w3 B g A n c l (b2 l) (q2 l):=a;replace hC:=hC.trans z (λk h=> .inl h);clear z w2
 go_wp2_with fail;refine(BW _ B g n c _ A l _ a 8).mono ?_;clear a;rintro E w4 ⟨rfl,a,z⟩;replace a:rU w4 B g A n c l (b3 l) (q3 l):=a;replace hC:=hC.trans z (λk h=> .inl h);clear z w3
 go_wp2_with fail;refine(FE _ B g n c _ A l _ a).mono ?_;clear a;rintro E w5 ⟨rfl,a,z⟩;replace hC:=hC.trans z (λk h=> .inl h);clear z w4;have ab:Hid (q4 l=Yx (nS l (b3 l) (q3 l) 1) (fB l)):=rfl;have L9:0<=fB l/\fB l<256:=a42 hb _ _;replace a:rU w5 B g A n c l (b4 l) (nS l (b3 l) (q3 l) 1):=a;rw[show O1 l (b3 l) (q3 l)=fB l from rfl];obtain⟨e4,bp⟩ :=ν (nS l (b3 l) (q3 l) 1);obtain⟨F,hF⟩ :=ν (fB l);rw[bp]at a ab;rw[hF]at L9 ab⊢;have u:=η hF;clear bp hF;have t:=hC.ar I2 (λh=>by have:=G.out;omega);replace o:Below R w w5:= ⟨hC.os.trans o.os,hC.tape.trans o.tape,hC.output.trans o.output,au o.size hC.size,λk hk=>(hC.block k (by have:=o.size;have:=D.out;omega) (by have:=G.out;omega)).trans (o.block k hk)⟩;clear hC I2;have c2:=a.cell.cell (i:=2) ω;have z2:=a.cell.frozen' (i:=2) ω;unfold pf at c2;go_upto_region 6 with fail
 go_cut [28] (λs wx=>s= .bool (decide (e4=0/\31<F))/\wx=w5)
 case first=>
  by_cases N:e4=0
  · subst N;by_cases hf:31<F
    · have hd:decide ((0:Int)=0/\31<F)=true:=aS ⟨rfl,hf⟩;go_wp2;go_meet;exact⟨aL Value.bool hd.symm,rfl⟩
    have hd:decide ((0:Int)=0/\31<F)=false:=aO (λh=>hf h.2);go_wp2;go_meet;exact⟨aL Value.bool hd.symm,rfl⟩
  have hd:decide (e4=0/\31<F)=false:=aO (λh=>N h.1);go_wp2;go_meet;exact⟨aL Value.bool hd.symm,rfl⟩
 obtain⟨rfl,rfl⟩ :=hcut
 go_upto_if 28 with fail
 go_cut [] (λwx=>rU wx B g A n c l (b4 l) (q4 l)/\Ar wx R 11 (hf hz)/\Below R w wx)
 case first=>
  by_cases N:e4=0/\31<F
  · have hd:decide (e4=0/\31<F)=true:=aS N;have hq:Hid (q4 l=2):=by show _=_;rw[ab.out];unfold Yx;rw[ae N]
    rw[hd];go_wp2;go_meet;exact⟨by rw[hq.out];exact a.fault 2,t.far (p:= ⟨g,2,none⟩) (by have:=G.out;simp;omega) _,o.setCell (p:= ⟨g,2,none⟩) (by have:=G.out;simp;omega) _⟩
  have hd:decide (e4=0/\31<F)=false:=aO N;have hq:Hid (q4 l=e4):=by show _=_;rw[ab.out];unfold Yx;rw[aa N]
  rw[hd];go_wp2;go_meet;exact⟨by rw[hq.out];exact a,t,o⟩
 case rest=>
 clear a t o c2 z2;obtain⟨a,t,o⟩ :=hcut;have vE:=η (Y4 L9);go_upto_region 8 with fail
 go_cut [] (λwx=>rU wx B g A n c l (b4 l) (q4 l)/\Ar wx R 11 (hf (Nr F))/\Below R w wx)
 case first=>
  have r0:=t.cell (i:=0) ω;have f0:=t.frozen' (i:=0) ω;have r1:=t.cell (i:=1) ω;have f1:=t.frozen' (i:=1) ω;have r2:=t.cell (i:=2) ω;have f2:=t.frozen' (i:=2) ω;have r3:=t.cell (i:=3) ω;have f3:=t.frozen' (i:=3) ω;have r4:=t.cell (i:=4) ω;have f4:=t.frozen' (i:=4) ω;have r5:=t.cell (i:=5) ω;have f5:=t.frozen' (i:=5) ω;have r6:=t.cell (i:=6) ω;have f6:=t.frozen' (i:=6) ω;have r7:=t.cell (i:=7) ω;have f7:=t.frozen' (i:=7) ω;have r8:=t.cell (i:=8) ω;have f8:=t.frozen' (i:=8) ω;have r9:=t.cell (i:=9) ω;have f9:=t.frozen' (i:=9) ω;have wI:=t.cell (i:=10) ω;have bv:=t.frozen' (i:=10) ω;unfold hf hz at r0 r1 r2 r3 r4 r5 r6 r7 r8 r9 wI;go_wp2;go_meet;exact Oj (hf (Nr F)) a t o HB G.out _ _ _ _ _ _ _ _ _ _ _ (aL Value.bool vE.out.1) (aL Value.bool vE.out.2.1) rfl rfl rfl rfl (aL Value.bool vE.out.2.2.1) rfl rfl (aL Value.bool vE.out.2.2.2.1) (aL Value.bool vE.out.2.2.2.2)
 case rest=>
 clear a t o;obtain⟨a,t,o⟩ :=hcut
 go_wp2_with fail;refine(pZ _ B g n c _ 4 A l _ a ω).mono ?_;have bt:=a;clear a;rintro E w6 ⟨A1,m1,c1,rfl,bo,Fc,a,hC⟩;have aE:=hC.ar t (λh=>by have:=G.out;omega);replace a:rU w6 B g A n c l (b5 l) (q5 l):=a;have S:PS w w6 B g R A n c l (b5 l) (q5 l) (Nr F) none 0 0 []:=PS.step ⟨bt,t,o,G.out,D.out,HB,aW.dK⟩ a hC;clear hC a bt t o
 go_wp2_with fail;refine(mR _ B m1 c1 A1 _ bo (by rw[bo.1];exact BQ _ _ _ _) (G6 hb _ _ _)).mono ?_;rintro E w7 ⟨rfl,qq,rfl⟩;rw[show mM (uQ l (b4 l) (q4 l) 4)=WS l from rfl];replace S:=(S.drewN qq).bC (i:=2) (h':={ Nr F with tm:=WS l }) ω (.int .u32 (WS l)) (λj L=>by rcases rL L with rfl | rfl | rfl | rfl | rfl | rfl | rfl | rfl | rfl | rfl | rfl <;> rfl);have r2:=(aE.drewN qq).cell (i:=2) ω;have f2:=(aE.drewN qq).frozen' (i:=2) ω;unfold hf at r2;clear aE
 go_wp2_with fail;refine(FE _ B g n c _ A l _ S.P).mono ?_;rintro E w8 ⟨rfl,a,hC⟩;rw[show O1 l (b5 l) (q5 l)=Tr l from rfl];replace a:rU w8 B g A n c l (b6 l) (q6 l):=a;replace S:=S.step a hC;clear a hC r2 f2
 go_wp2_with fail;refine(FE _ B g n c _ A l _ S.P).mono ?_;rintro E w9 ⟨rfl,a,hC⟩;rw[show O1 l (b6 l) (q6 l)=XH l from rfl];replace a:rU w9 B g A n c l (b7 l) (q7 l):=a;replace S:=S.step a hC;clear a hC;have r3:=S.H.cell (i:=3) ω;have f3:=S.H.frozen' (i:=3) ω;have r4:=S.H.cell (i:=4) ω;have f4:=S.H.frozen' (i:=4) ω;have r6:=S.H.cell (i:=6) ω;unfold hf at r3 r4 r6;dsimp only [Nr]at r3 r4 r6;replace S:=(S.bC (i:=3) (h':={ Nr F with tm:=WS l,fl:=Tr l }) ω (.int .u8 (Tr l)) (λj L=>by rcases rL L with rfl | rfl | rfl | rfl | rfl | rfl | rfl | rfl | rfl | rfl | rfl <;> rfl)).bC (i:=4) (h':={ Nr F with tm:=WS l,fl:=Tr l,sy:=XH l }) ω (.int .u8 (XH l)) (λj L=>by rcases rL L with rfl | rfl | rfl | rfl | rfl | rfl | rfl | rfl | rfl | rfl | rfl <;> rfl)
 go_upto_if 59 with fail
 revert S;generalize ((w9.setCell ⟨R,3,none⟩ (.int .u8 (Tr l))).setCell ⟨R,4,none⟩ (.int .u8 (XH l)))=W;intro S;clear r3 f3 r4 f4 r6;obtain⟨d,M⟩ :∃d:HV,d={ Nr F with tm:=WS l,fl:=Tr l,sy:=XH l }:= ⟨_,rfl⟩;have ca:∀v,{ Nr F with tm:=WS l,fl:=Tr l,sy:=XH l,ex:=v }={ d with ex:=v }:=λv=>by rw[M]
 rw[<-M]at S;have HE:d.hE=bit F 4/\d.hN=bit F 8/\d.hC=bit F 16/\d.sm=bit F 2:=by rw[M];exact⟨rfl,rfl,rfl,rfl⟩
 have ah:=η M;clear M ca;go_cut [] (λwx=>∃X m cc,PS w wx B g R A n c l (b9 l) (q9 l) { d with ex:= .slice X m cc } X m cc (yy l))
 case first=>
  cases f:bit F 4 with
  | false=>
    have r:Hid (b9 l=b7 l/\q9 l=q7 l/\yy l=[]):=by
     refine⟨?_, ?_, ?_⟩
     · unfold b9;rw[u.out,f];rfl
     · unfold q9;rw[u.out,f];rfl
     unfold yy;rw[u.out,f];rfl
    go_wp2;go_meet;refine⟨none,0,0, ?_⟩;rw[r.out.1,r.out.2.1,r.out.2.2]
    exact(by have h9: { d with ex:= .slice none 0 0 }=d:=by rw[ah.out];rfl
             rw[h9];exact S)
  | true=>
    have r:Hid (b9 l=wJ l (b8 l) (q8 l) (Oo l).toNat/\q9 l=nS l (b8 l) (q8 l) (Oo l).toNat/\yy l=uQ l (b8 l) (q8 l) (Oo l).toNat):=by
     refine⟨?_, ?_, ?_⟩
     · unfold b9;rw[u.out,f];rfl
     · unfold q9;rw[u.out,f];rfl
     unfold yy;rw[u.out,f];rfl
    have Ix:0<=Oo l/\Oo l<65536:=by
     have T:=B5 (G6 hb (b7 l) (q7 l) 2);have d:=BQ l (b7 l) (q7 l) 2;refine⟨T.1,Int.lt_of_lt_of_le T.2 ?_⟩;obtain h | h | h:(uQ l (b7 l) (q7 l) 2).length=0\/(uQ l (b7 l) (q7 l) 2).length=1\/(uQ l (b7 l) (q7 l) 2).length=2:=ω;all_goals rw[h];decide
    obtain⟨K,hK⟩ :∃K:Nat,Oo l=K:= ⟨(Oo l).toNat,ω⟩;have cp:K<65536:=ω;rw[show(Oo l).toNat=K by omega]at r;have HK:=η hK;clear hK Ix
    go_wp2_with fail;obtain⟨Z,hZ⟩ :∃Z,Z=W.heap.size:= ⟨_,rfl⟩;have q:=S.lit hZ;rw[<-hZ];clear hZ;refine(pZ _ B g n c _ 2 A l _ q.P ω).mono ?_;rintro E JI ⟨A2,m2,c2,rfl,bl,ck,a,hC⟩;replace a:rU JI B g A n c l (b8 l) (q8 l):=a;replace q:=q.step a hC;clear a hC
    go_wp2_with fail;refine(mR _ B m2 c2 A2 _ bl (by have:=bl.1;have:=BQ l (b7 l) (q7 l) 2;omega) (G6 hb _ _ _)).mono ?_;rintro E ch ⟨rfl,bI,rfl⟩;rw[show mM (uQ l (b7 l) (q7 l) 2)=Oo l from rfl,HK.out];replace q:=q.drewN bI
    go_wp2_with fail;refine(pZ _ B g n c _ K A l _ q.P ω).mono ?_;rintro E K9 ⟨A3,m3,c3,rfl,bi,cj,a,hC⟩;replace q:=q.step a hC;clear a hC;have cl:m3<=K:=by rw[bi.1];exact BQ _ _ _ _
    obtain⟨i0,hi,Y,I,V⟩ :=aJ gC;have Hi:=η hi;have gV:=η Y;have fY:=η I;have gW:=η V;clear hi Y I V;have cb:g<K9.heap.size:=q.bound
    go_wp2_with (at_builtin;go_must (refine ba .u8 (g+1) 5 i0 1 rfl (.tmp 60) (.tmp 66) _ rfl Tryz.underlying22 Hi.out gV.out fY.out gW.out rfl q.own rfl bi ω ω cb ?_))
    intro A4 c4 X4 bE cd dP;have S3:=q.grown cd bE;have r5:=S3.H.cell (i:=5) ω;have f5:=S3.H.frozen' (i:=5) ω;unfold hf at r5;go_wp2;go_meet;refine⟨A4,m3,c4, ?_⟩;rw[r.out.1,r.out.2.1,r.out.2.2];exact S3.bC (i:=5) ω (.slice A4 m3 c4) (λj L=>by rcases rL L with rfl | rfl | rfl | rfl | rfl | rfl | rfl | rfl | rfl | rfl | rfl <;> rfl)
 case rest=>
 clear S W;obtain⟨X,m,cc,S⟩ :=hcut
 have J:∀e:Int,(e=0->0<l.length)->e=0->∃ad,A=some ad:=λe T d=>by
  have h3:=T d;rw[<-hr.1]at h3;obtain⟨ad,h4,_⟩ :=hr.2 h3;exact⟨ad,h4⟩
 have r9:=S.H.cell (i:=9) ω;unfold hf at r9;dsimp only at r9;rw[HE.2.1]at r9
 go_upto_if 70 with fail
 go_cut [] (λwx=>PS w wx B g R A n c l (tQ l) (uK l) { d with ex:= .slice X m cc,nm:=strOf (ya l) } X m cc (yy l))
 case first=>
  cases f:bit F 8 with
  | false=>
    have r:Hid (tQ l=b9 l/\uK l=q9 l/\ya l=[]):=by
     refine⟨?_, ?_, ?_⟩
     · unfold tQ;rw[u.out,f];rfl
     · unfold uK;rw[u.out,f];rfl
     unfold ya;rw[u.out,f];rfl
    go_wp2;go_meet;rw[r.out.1,r.out.2.1,r.out.2.2]
    exact(by have h9: { d with ex:= .slice X m cc,nm:=strOf [] }={ d with ex:= .slice X m cc }:=by rw[ah.out];rfl
             rw[h9];exact S)
  | true=>
    have r:Hid (tQ l=R9 l (b9 l) (q9 l)/\uK l=JH l (b9 l) (q9 l)/\ya l=X0 l (b9 l) (q9 l)):=by
     refine⟨?_, ?_, ?_⟩
     · unfold tQ;rw[u.out,f];rfl
     · unfold uK;rw[u.out,f];rfl
     unfold ya;rw[u.out,f];rfl
    go_wp2_with fail;refine(DT _ B g n c _ A l _ S.P (J _ Mk) hb).mono ?_;rintro E X5 ⟨rfl,a,hC⟩;have q:=S.step a hC;clear a hC;have r7:=q.H.cell (i:=7) ω;have f7:=q.H.frozen' (i:=7) ω;unfold hf at r7;go_wp2;go_meet;rw[r.out.1,r.out.2.1,r.out.2.2];exact q.bC (i:=7) ω _ (λj L=>by rcases rL L with rfl | rfl | rfl | rfl | rfl | rfl | rfl | rfl | rfl | rfl | rfl <;> rfl)
 case rest=>
 clear S r9;have S:=hcut;clear hcut;have wI:=S.H.cell (i:=10) ω;unfold hf at wI;dsimp only at wI;rw[HE.2.2.1]at wI
 go_upto_if 75 with fail
 go_cut [] (λwx=>PS w wx B g R A n c l (lZ l) (rz l) { d with ex:= .slice X m cc,nm:=strOf (ya l),cm:=strOf (CU l) } X m cc (yy l))
 case first=>
  cases f:bit F 16 with
  | false=>
    have r:Hid (lZ l=tQ l/\rz l=uK l/\CU l=[]):=by
     refine⟨?_, ?_, ?_⟩
     · unfold lZ;rw[u.out,f];rfl
     · unfold rz;rw[u.out,f];rfl
     unfold CU;rw[u.out,f];rfl
    go_wp2;go_meet;rw[r.out.1,r.out.2.1,r.out.2.2]
    exact(by have h9: { d with ex:= .slice X m cc,nm:=strOf (ya l),cm:=strOf [] }={ d with ex:= .slice X m cc,nm:=strOf (ya l) }:=by rw[ah.out];rfl
             rw[h9];exact S)
  | true=>
    have r:Hid (lZ l=R9 l (tQ l) (uK l)/\rz l=JH l (tQ l) (uK l)/\CU l=X0 l (tQ l) (uK l)):=by
     refine⟨?_, ?_, ?_⟩
     · unfold lZ;rw[u.out,f];rfl
     · unfold rz;rw[u.out,f];rfl
     unfold CU;rw[u.out,f];rfl
    go_wp2_with fail;refine(DT _ B g n c _ A l _ S.P (J _ a0m) hb).mono ?_;rintro E X5 ⟨rfl,a,hC⟩;have q:=S.step a hC;clear a hC;have r8:=q.H.cell (i:=8) ω;have f8:=q.H.frozen' (i:=8) ω;unfold hf at r8;go_wp2;go_meet;rw[r.out.1,r.out.2.1,r.out.2.2];exact q.bC (i:=8) ω _ (λj L=>by rcases rL L with rfl | rfl | rfl | rfl | rfl | rfl | rfl | rfl | rfl | rfl | rfl <;> rfl)
 case rest=>
 clear S wI;have S:=hcut;clear hcut;have r1:wc.cell? ⟨R,1,none⟩ =some (.bool d.sm):=S.H.cell (i:=1) ω;have c2:wc.cell? ⟨g,2,none⟩ =some (.int .i64 (rz l)):=S.P.cell.cell (i:=2) ω;rw[HE.2.2.2]at r1;obtain⟨C,ao⟩ :=ν (rz l);rw[ao]at c2;have ce:=η ao;clear ao;have O:Hid ((bit F 2=true/\C=0)↔smC l):=by show _↔_;unfold smC;rw[u.out,ce.out]
 go_upto_region 17 with fail
 go_cut [87] (λs wx=>s= .bool (decide (bit F 2=true/\C=0))/\wx=wc)
 case first=>
  cases ap:bit F 2 with
  | false=>
    go_wp2;go_meet;exact⟨aL Value.bool (by simp [ap]),rfl⟩
  | true=>
    by_cases N:C=0
    · rw[N]at c2;go_wp2;go_meet;exact⟨aL Value.bool (by simp [ap,N]),rfl⟩
    go_wp2;go_meet;exact⟨aL Value.bool (by simp [ap,N]),rfl⟩
 case rest=>
 obtain⟨rfl,rfl⟩ :=hcut
 go_upto_if 87 with fail
 go_cut [] (λwx=>PS w wx B g R A n c l (rN l) (jM l) { d with ex:= .slice X m cc,nm:=strOf (ya l),cm:=strOf (CU l) } X m cc (yy l))
 case first=>
  by_cases hs:bit F 2=true/\C=0
  rotate_left
  · have hd:decide (bit F 2=true/\C=0)=false:=aO hs
    have r:Hid (rN l=lZ l/\jM l=rz l):=by
     refine⟨?_, ?_⟩
     · unfold rN;rw[aa (λh=>hs (O.out.2 h))]
     unfold jM;rw[aa (λh=>hs (O.out.2 h))]
    rw[hd];go_wp2;go_meet;rw[r.out.1,r.out.2];exact S
  have hd:decide (bit F 2=true/\C=0)=true:=aS hs;rw[hd];have c1:wc.cell? ⟨g,1,none⟩ =some (.int .i64 (lZ l)):=S.P.cell.cell (i:=1) ω;have bX:=S.P.le;obtain⟨i0,hi,Y,I,V⟩ :=aJ gC;have oP:=dV (P:=Tryz.prog) 22 5 Tryz.underlying22 hi I A n c (j:=lZ l) ω;clear hi Y I V;have be:=bU.pre S.P.rd (j:=lZ l) bX;have xT:B<=wc.heap.size:=by have:=S.P.cell.lt;have:=S.P.lo;omega
  have yD:=jZ (tq (x:=iq 0) (l:=l.take (lZ l)) (jZ ω) (gp (lU hb _)) (lZ l));have ln:Hid (rN l=wJ l (lZ l) (rz l) 2):=by show _=_;unfold rN;rw[ae (O.out.1 hs)]
  have Q5:Hid (jM l=if nS l (lZ l) (rz l) 2=0/\mM (uQ l (lZ l) (rz l) 2)≠EF l then 4 else nS l (lZ l) (rz l) 2):=by show _=_;unfold jM;rw[ae (O.out.1 hs)]
  go_wp2_with fail;refine(yV 0 A (lZ l) c B (l.take (lZ l)) _ be xT (gp (lU hb _)) ω ω).mono ?_;rintro E cg ⟨rfl,Gq⟩;have q:=S.below Gq;have Q:=a1Q yD;rw[show iq (lW (iq 0) (l.take (lZ l)) (lZ l))%65536=EF l from rfl]at Q;generalize iq (lW (iq 0) (l.take (lZ l)) (lZ l))=cv at Q⊢;clear Gq yD be
  go_wp2_with fail;refine(pZ _ B g n c _ 2 A l _ q.P ω).mono ?_;rintro E al ⟨A5,m5,c5,rfl,pP,ci,a,hC⟩;replace q:=q.step a hC;clear a hC;have k2:al.cell? ⟨g,2,none⟩ =some (.int .i64 (nS l (lZ l) (rz l) 2)):=q.P.cell.cell (i:=2) ω;have z2:=q.P.cell.frozen' (i:=2) ω;have K5:=mR al B m5 c5 A5 _ pP (by have:=pP.1;have:=BQ l (lZ l) (rz l) 2;omega) (G6 hb _ _ _);obtain⟨e',bs⟩ :=ν (nS l (lZ l) (rz l) 2);obtain⟨y,hy⟩ :=ν (mM (uQ l (lZ l) (rz l) 2));obtain⟨v,hv⟩ :=ν (EF l);rw[bs]at k2 Q5 q;rw[hy]at K5 Q5;rw[hv]at Q Q5⊢;clear Q HE O r1 c2 c1 oP hd;clear bs hy hv;by_cases h0:e'=0
  rotate_left
  · have r:Hid (jM l=e'):=by show _=_;rw[Q5.out,aa (λh=>h0 h.1)]
    go_wp2;go_meet;rw[ln.out,r.out];exact q
  subst h0;by_cases am:y=v
  · have r:Hid (jM l=0):=by show _=_;rw[Q5.out,aa (λh=>h.2 am)]
    subst am
    go_wp2_with fail;refine K5.mono ?_;rintro E bB ⟨rfl,U,rfl⟩;have S3:=q.drewN U;go_wp2;go_meet;rw[ln.out,r.out];exact S3
  have r:Hid (jM l=4):=by show _=_;rw[Q5.out,ae ⟨rfl,am⟩]
  go_wp2_with fail;refine K5.mono ?_;rintro E bB ⟨rfl,U,rfl⟩;have S3:=q.drewN U;go_wp2;go_meet;rw[ln.out,r.out];exact S3.step (S3.P.fault 4) ((bj.refl (al.drewN U) (λk=>k=g)).setCell (p:= ⟨g,2,none⟩) (.inl rfl) _)
 case rest=>
 clear S r1 c2;have S:=hcut;clear hcut;have k1:wc.cell? ⟨g,1,none⟩ =some (.int .i64 (rN l)):=S.P.cell.cell (i:=1) ω;have k2:wc.cell? ⟨g,2,none⟩ =some (.int .i64 (jM l)):=S.P.cell.cell (i:=2) ω;have cs:=η HE;clear HE;have RD:¬g=R:=by have:=G.out;omega
 have co:¬R=g:=by have:=G.out;omega
 by_cases TK:jM l=0
 · rw[TK]at k2;go_upto_region 24 with fail
   go_cut [3,4] (λx y wx=>x= .int .i64 (rN l)/\y= .int .i64 0/\PS w wx B g R A n c l (rN l) (jM l) { d with ex:= .slice X m cc,nm:=strOf (ya l),cm:=strOf (CU l) } X m cc (yy l))
   case first=>
    have r0:wc.cell? ⟨R,0,none⟩ =some (.bool d.tx):=S.H.cell (i:=0) ω;have f0:=S.H.frozen' (i:=0) ω;have r1:wc.cell? ⟨R,1,none⟩ =some (.bool d.sm):=S.H.cell (i:=1) ω;have f1:=S.H.frozen' (i:=1) ω;have r2:wc.cell? ⟨R,2,none⟩ =some (.int .u32 d.tm):=S.H.cell (i:=2) ω;have f2:=S.H.frozen' (i:=2) ω;have r3:wc.cell? ⟨R,3,none⟩ =some (.int .u8 d.fl):=S.H.cell (i:=3) ω;have f3:=S.H.frozen' (i:=3) ω;have r4:wc.cell? ⟨R,4,none⟩ =some (.int .u8 d.sy):=S.H.cell (i:=4) ω;have f4:=S.H.frozen' (i:=4) ω;have r5:wc.cell? ⟨R,5,none⟩ =some (.slice X m cc):=S.H.cell (i:=5) ω;have f5:=S.H.frozen' (i:=5) ω;have r6:wc.cell? ⟨R,6,none⟩ =some (.bool d.hE):=S.H.cell (i:=6) ω;have f6:=S.H.frozen' (i:=6) ω;have r7:wc.cell? ⟨R,7,none⟩ =some (.string (strOf (ya l))):=S.H.cell (i:=7) ω;have f7:=S.H.frozen' (i:=7) ω;have r8:wc.cell? ⟨R,8,none⟩ =some (.string (strOf (CU l))):=S.H.cell (i:=8) ω;have f8:=S.H.frozen' (i:=8) ω;have r9:wc.cell? ⟨R,9,none⟩ =some (.bool d.hN):=S.H.cell (i:=9) ω;have f9:=S.H.frozen' (i:=9) ω;have wI:wc.cell? ⟨R,10,none⟩ =some (.bool d.hC):=S.H.cell (i:=10) ω;have bv:=S.H.frozen' (i:=10) ω;go_region
    all_goals
     go_wp2;go_meet;exact⟨rfl,rfl,(S.a1v { d with ex:= .slice X m cc,nm:=strOf (ya l),cm:=strOf (CU l) } _ _ _ _ _ _ _ _ _ _ _ rfl rfl rfl rfl rfl rfl rfl rfl rfl rfl rfl).drew⟩
   case rest=>
   clear S k1 k2;obtain⟨rfl,rfl,S⟩ :=hcut
   go_step
   apply wp_ret
   refine bh (yg S.H rfl rfl rfl) rfl ?_
   have Q:m<=cc/\cc<=maxLen:=by
    rcases S.own.2 with ⟨_,T,d⟩ | ⟨_,_,_,_,_,T,d,_⟩
    · omega
    exact⟨T,d⟩
   refine⟨X,m,cc,yy l,Q.1,Q.2,S.own.rd,λk hk=>by have:=(S.own.2.lt hk).1;have:=G.out;have:=D.out;omega,D.out▸S.b, .inl ⟨TK,rfl, ?_⟩⟩;rw[ah.out,<-u.out];rfl
 obtain⟨cr,an⟩ :=ν (jM l);rw[an]at k2 TK;have bx:=η an;clear an
 go_wp2_with fail;have r0:wc.cell? ⟨R,0,none⟩ =some (.bool d.tx):=S.H.cell (i:=0) ω;have f0:=S.H.frozen' (i:=0) ω;have r1:wc.cell? ⟨R,1,none⟩ =some (.bool d.sm):=S.H.cell (i:=1) ω;have f1:=S.H.frozen' (i:=1) ω;have r2:wc.cell? ⟨R,2,none⟩ =some (.int .u32 d.tm):=S.H.cell (i:=2) ω;have f2:=S.H.frozen' (i:=2) ω;have r3:wc.cell? ⟨R,3,none⟩ =some (.int .u8 d.fl):=S.H.cell (i:=3) ω;have f3:=S.H.frozen' (i:=3) ω;have r4:wc.cell? ⟨R,4,none⟩ =some (.int .u8 d.sy):=S.H.cell (i:=4) ω;have f4:=S.H.frozen' (i:=4) ω;have r5:wc.cell? ⟨R,5,none⟩ =some (.slice X m cc):=S.H.cell (i:=5) ω;have f5:=S.H.frozen' (i:=5) ω;have r6:wc.cell? ⟨R,6,none⟩ =some (.bool d.hE):=S.H.cell (i:=6) ω;have f6:=S.H.frozen' (i:=6) ω;have r7:wc.cell? ⟨R,7,none⟩ =some (.string (strOf (ya l))):=S.H.cell (i:=7) ω;have f7:=S.H.frozen' (i:=7) ω;have r8:wc.cell? ⟨R,8,none⟩ =some (.string (strOf (CU l))):=S.H.cell (i:=8) ω;have f8:=S.H.frozen' (i:=8) ω;have r9:wc.cell? ⟨R,9,none⟩ =some (.bool d.hN):=S.H.cell (i:=9) ω;have f9:=S.H.frozen' (i:=9) ω;have wI:wc.cell? ⟨R,10,none⟩ =some (.bool d.hC):=S.H.cell (i:=10) ω;have bv:=S.H.frozen' (i:=10) ω;go_region
 all_goals
  have q:=(S.a1v hz _ _ _ _ _ _ _ _ _ _ _ rfl rfl rfl rfl rfl rfl rfl rfl rfl rfl rfl).drew;simp only [Exit.then]
  go_step
  apply wp_ret
  simp only [Exit.then];refine bh (yg q.H rfl rfl rfl) rfl ?_
  have Q:m<=cc/\cc<=maxLen:=by
   rcases q.own.2 with ⟨_,T,d⟩ | ⟨_,_,_,_,_,T,d,_⟩
   · omega
   exact⟨T,d⟩
  refine⟨X,m,cc,yy l,Q.1,Q.2,q.own.rd,λk hk=>by have:=(q.own.2.lt hk).1;have:=G.out;have:=D.out;omega,D.out▸q.b, .inr ⟨λh=>TK (bx.out▸h), ?_⟩⟩;rw[bx.out];rfl
theorem qU {l:List Int} {a:Nat} {e:Int} {m:Nat} (h:e≠0):nS l a e m=e:=by unfold nS;rw[aa (λb=>h b.1)]
theorem sS {l:List Int} {a m:Nat} (h:l.length-a<m):nS l a 0 m=5:=by unfold nS;rw[ae ⟨rfl,h⟩]
theorem jI {l:List Int} {a m:Nat} (h:m<=l.length-a):nS l a 0 m=0/\wJ l a 0 m=a+m/\uQ l a 0 m=(l.drop a).take m:=by
 have b:nS l a 0 m=0:=by unfold nS;rw[aa (λc=>ω)]
 refine⟨b, ?_, ?_⟩
 · unfold wJ;rw[ae b]
 unfold uQ;rw[ae b]
theorem VL {l:List Int} {a:Nat} (h:1<=l.length-a):O1 l a 0=ix l a:=by unfold O1;rw[ae (jI h).1]
theorem X8 {l:List Int} {a:Nat} {e c:Int} (h:e≠0):Gx l a e c=e:=by unfold Gx;rw[qU h,aa (λb=>h b.1)]
theorem MG {l:List Int} {a:Nat} {c:Int} (h:l.length<=a):Gx l a 0 c=5:=by unfold Gx;rw[sS ω,aa (λb=>by have:=b.1;omega)]
theorem Gd {l:List Int} {a:Nat} {c:Int} (h:a<l.length) (h':ix l a≠c):Gx l a 0 c=2:=by unfold Gx;rw[ae ⟨(jI ω).1,h'⟩]
theorem Xa {l:List Int} {a:Nat} {c:Int} (h:a<l.length) (h':ix l a=c):Gx l a 0 c=0:=by unfold Gx;rw[aa (λb=>b.2 h')];exact(jI ω).1
theorem a84 {l:List Int} (h:rz l≠0):jM l=rz l:=by unfold jM;rw[aa (λa=>h a.2)]
theorem a83 {l:List Int} (h:uK l≠0):jM l=uK l:=by
 have e:rz l=uK l:=by unfold rz JH;split <;> first | rfl | rw[aa h]
 rw[<-e];exact a84 (by rw[e];exact h)
theorem st9 {l:List Int} (h:q9 l≠0):jM l=q9 l:=by
 have e:uK l=q9 l:=by unfold uK JH;split <;> first | rfl | rw[aa h]
 rw[<-e];exact a83 (by rw[e];exact h)
theorem st7 {l:List Int} (h:q7 l≠0):jM l=q7 l:=by
 have e:q9 l=q7 l:=by
  unfold q9;split
  · have:q8 l=q7 l:=qU h;rw[this,qU h]
  rfl
 rw[<-e];exact st9 (by rw[e];exact h)
theorem st5 {l:List Int} (h:q5 l≠0):jM l=q5 l:=by
 have a:q6 l=q5 l:=qU h;have b:q7 l=q6 l:=qU (by rw[a];exact h);rw[<-a,<-b];exact st7 (by rw[b,a];exact h)
theorem st6 {l:List Int} (h:q6 l≠0):jM l=q6 l:=by
 have a:q7 l=q6 l:=qU h;rw[<-a];exact st7 (by rw[a];exact h)
theorem st4 {l:List Int} (h:q4 l≠0):jM l=q4 l:=by
 have e:q5 l=q4 l:=qU h;rw[<-e];exact st5 (by rw[e];exact h)
theorem TH {e f:Int} (h:e≠0):Yx e f=e:=by unfold Yx;rw[aa (λa=>h a.1)]
theorem st3 {l:List Int} (h:q3 l≠0):jM l=q3 l:=by
 have e:q4 l=q3 l:=by unfold q4;rw[qU h,TH h]
 rw[<-e];exact st4 (by rw[e];exact h)
theorem Wx {l:List Int} (h:q2 l≠0):jM l=q2 l:=by
 have e:q3 l=q2 l:=X8 h;rw[<-e];exact st3 (by rw[e];exact h)
theorem st1 {l:List Int} (h:q1 l≠0):jM l=q1 l:=by
 have e:q2 l=q1 l:=X8 h;rw[<-e];exact Wx (by rw[e];exact h)
def Bb:List Int:=[31,139,8]
def pre (l:List Int) (k:Nat):Prop:=∀i,i<k->i<l.length/\ix l i=ix Bb i
theorem a4a {l:List Int} (h:pre l 1):q1 l=0/\b1 l=1:= ⟨Xa (h 0 ω).1 (h 0 ω).2,(jI (by have:=(h 0 ω).1;omega)).2.1⟩
theorem a4b {l:List Int} (h:pre l 2):q2 l=0/\b2 l=2:=by
 have b:=a4a (λi hi=>h i ω);have a:=h 1 ω;unfold q2 b2;rw[b.1,b.2];exact⟨Xa a.1 a.2,(jI ω).2.1⟩
theorem a0h {l:List Int} (h:pre l 3):q3 l=0/\b3 l=3:=by
 have b:=a4b (λi hi=>h i ω);have a:=h 2 ω;unfold q3 b3;rw[b.1,b.2];exact⟨Xa a.1 a.2,(jI ω).2.1⟩
theorem Oa {l:List Int} {k:Nat} (c:k<3) (h:pre l k) (b:l.length<=k):jM l=5:=by
 obtain rfl | rfl | rfl:k=0\/k=1\/k=2:=ω
 · have e:q1 l=5:=MG b;rw[st1 ω,e]
 · have a:=a4a h;have e:q2 l=5:=by unfold q2;rw[a.1,a.2];exact MG b
   rw[Wx ω,e]
 have a:=a4b h;have e:q3 l=5:=by unfold q3;rw[a.1,a.2];exact MG b
 rw[st3 ω,e]
theorem J4 {l:List Int} {k:Nat} (d:k<3) (h:pre l k) (c:k<l.length) (b:ix l k≠ix Bb k):jM l=2:=by
 obtain rfl | rfl | rfl:k=0\/k=1\/k=2:=ω
 · have e:q1 l=2:=Gd c b;rw[st1 ω,e]
 · have a:=a4a h;have e:q2 l=2:=by unfold q2;rw[a.1,a.2];exact Gd c b
   rw[Wx ω,e]
 have a:=a4b h;have e:q3 l=2:=by unfold q3;rw[a.1,a.2];exact Gd c b
 rw[st3 ω,e]
theorem b0z {l:List Int} (h:pre l 3) (b:l.length<4):jM l=5:=by
 have a:=a0h h;have e:q4 l=5:=by unfold q4;rw[a.1,a.2,sS ω,TH ω]
 rw[st4 ω,e]
theorem Tm {l:List Int} (h:pre l 3) (b:4<=l.length):fB l=ix l 3:=by
 have a:=a0h h;unfold fB;rw[a.1,a.2,VL ω]
theorem Ys {l:List Int} (h:pre l 3) (b:4<=l.length) (hf:31<ix l 3):jM l=2:=by
 have a:=a0h h;have e:q4 l=2:=by unfold q4 Yx;rw[Tm h b,a.1,a.2,(jI ω).1,ae ⟨rfl,hf⟩]
 rw[st4 ω,e]
theorem Tt {l:List Int} (h:pre l 3) (b:4<=l.length) (hf:¬31<ix l 3):q4 l=0/\b4 l=4:=by
 have a:=a0h h;unfold q4 b4 Yx;rw[Tm h b,a.1,a.2,(jI ω).1,(jI ω).2.1,aa (λc=>hf c.2)];exact⟨rfl,rfl⟩
theorem a7D {l:List Int} (h:pre l 3) (c:4<=l.length) (hf:¬31<ix l 3) (g:l.length<10):jM l=5:=by
 have h4:=Tt h c hf;by_cases i:l.length<8
 · have e:q5 l=5:=by unfold q5;rw[h4.1,h4.2,sS ω]
   rw[st5 ω,e]
 have b:q5 l=0:=by unfold q5;rw[h4.1,h4.2];exact(jI ω).1
 have a:b5 l=8:=by unfold b5;rw[h4.1,h4.2];exact(jI ω).2.1
 by_cases h7:l.length<9
 · have e:q6 l=5:=by unfold q6;rw[b,a,sS ω]
   rw[st6 ω,e]
 have f:q6 l=0:=by unfold q6;rw[b,a];exact(jI ω).1
 have d:b6 l=9:=by unfold b6;rw[b,a];exact(jI ω).2.1
 have e:q7 l=5:=by unfold q7;rw[f,d,sS ω]
 rw[st7 ω,e]
def ten (l:List Int):Prop:=q7 l=0/\b7 l=10/\fB l=ix l 3/\WS l=mM ((l.drop 4).take 4)/\Tr l=ix l 8/\XH l=ix l 9
theorem WQ {l:List Int} (h:pre l 3) (hf:¬31<ix l 3) (e:10<=l.length):ten l:=by
 have h4:=Tt h ω hf;have d:q5 l=0:=by unfold q5;rw[h4.1,h4.2];exact(jI ω).1
 have b:b5 l=8:=by unfold b5;rw[h4.1,h4.2];exact(jI ω).2.1
 have c:q6 l=0:=by unfold q6;rw[d,b];exact(jI ω).1
 have a:b6 l=9:=by unfold b6;rw[d,b];exact(jI ω).2.1
 refine⟨?_, ?_,Tm h ω, ?_, ?_, ?_⟩
 · unfold q7;rw[c,a];exact(jI ω).1
 · unfold b7;rw[c,a];exact(jI ω).2.1
 · unfold WS;rw[h4.1,h4.2,(jI ω).2.2]
 · unfold Tr;rw[d,b,VL ω]
 unfold XH;rw[c,a,VL ω]
theorem Tk {l:List Int} (h:ten l) (a:bit (fB l) 4=false):q9 l=0/\b9 l=10/\yy l=[]:=by
 unfold q9 b9 yy;simp [a,h.1,h.2.1]
theorem Yo {l:List Int} (h:ten l) (a:bit (fB l) 4=true) (c:l.length<12):jM l=5:=by
 have b:q8 l=5:=by unfold q8;rw[h.1,h.2.1,sS ω]
 have e:q9 l=5:=by unfold q9;rw[a,ae rfl,b,qU ω]
 rw[st9 ω,e]
theorem a0R {l:List Int} (h:ten l) (b:12<=l.length):q8 l=0/\b8 l=12/\Oo l=mM ((l.drop 10).take 2):=by
 have:=jI (l:=l) (a:=10) (m:=2) ω;unfold q8 b8 Oo;rw[h.1,h.2.1];exact⟨this.1,this.2.1,by rw[this.2.2]⟩
theorem Tj {l:List Int} (h:ten l) (b:bit (fB l) 4=true) (a:12<=l.length) {N:Nat} (hN:mM ((l.drop 10).take 2)=N) (c:l.length<12+N):jM l=5:=by
 have e:=a0R h a;have e:q9 l=5:=by unfold q9;rw[b,ae rfl,e.1,e.2.1,e.2.2,hN];exact sS ω
 rw[st9 ω,e]
theorem Tl {l:List Int} (h:ten l) (c:bit (fB l) 4=true) {N:Nat} (b:12<=l.length) (hN:mM ((l.drop 10).take 2)=N) (d:12+N<=l.length):q9 l=0/\b9 l=12+N/\yy l=(l.drop 12).take N:=by
 have e:=a0R h b;have:=jI (l:=l) (a:=12) (m:=N) ω;unfold q9 b9 yy;rw[c,ae rfl,ae rfl,ae rfl,e.1,e.2.1,e.2.2,hN];exact this
theorem Vz {l:List Int} (h:q9 l=0) (a:bit (fB l) 8=false):uK l=0/\tQ l=b9 l/\ya l=[]:=by
 unfold uK tQ ya;simp [a,h]
theorem a0b {l:List Int} (h:q9 l=0) (b:bit (fB l) 8=true) {e:Int} (a:(qV (l.drop (b9 l))).2.2=e) (d:e≠0):jM l=e:=by
 have c:uK l=e:=by unfold uK JH;rw[b,ae rfl,ae h,a]
 rw[a83 ω,c]
theorem VA {l:List Int} (h:q9 l=0) (b:bit (fB l) 8=true) (a:(qV (l.drop (b9 l))).2.2=0):uK l=0/\tQ l=b9 l+(qV (l.drop (b9 l))).2.1/\ya l=(qV (l.drop (b9 l))).1:=by
 unfold uK tQ ya JH R9 X0;simp [b,h,a]
theorem SV {l:List Int} (h:uK l=0) (a:bit (fB l) 16=false):rz l=0/\lZ l=tQ l/\CU l=[]:=by
 unfold rz lZ CU;simp [a,h]
theorem Yc {l:List Int} (h:uK l=0) (b:bit (fB l) 16=true) {e:Int} (a:(qV (l.drop (tQ l))).2.2=e) (d:e≠0):jM l=e:=by
 have c:rz l=e:=by unfold rz JH;rw[b,ae rfl,ae h,a]
 rw[a84 ω,c]
theorem SX {l:List Int} (h:uK l=0) (b:bit (fB l) 16=true) (a:(qV (l.drop (tQ l))).2.2=0):rz l=0/\lZ l=tQ l+(qV (l.drop (tQ l))).2.1/\CU l=(qV (l.drop (tQ l))).1:=by
 unfold rz lZ CU JH R9 X0;simp [b,h,a]
theorem WH {l:List Int} (h:rz l=0) (a:bit (fB l) 2=false):jM l=0/\rN l=lZ l:=by
 have:¬smC l:=λb=>by have:=b.1;rw[a]at this;cases this
 unfold jM rN;rw[aa this,aa this];exact⟨h,rfl⟩
theorem a0A {l:List Int} (h:rz l=0) (a:bit (fB l) 2=true) (c:l.length<lZ l+2):jM l=5:=by
 unfold jM;rw[ae ⟨a,h⟩,h,sS ω,aa (λb=>by have:=b.1;omega)]
theorem a0z {l:List Int} (h:rz l=0) (c:bit (fB l) 2=true) (d:lZ l+2<=l.length) (b:mM ((l.drop (lZ l)).take 2)≠EF l):jM l=4:=by
 have:=jI (l:=l) (a:=lZ l) (m:=2) ω;unfold jM;rw[ae ⟨c,h⟩,h,this.2.2,ae ⟨this.1,b⟩]
theorem WI {l:List Int} (h:rz l=0) (d:bit (fB l) 2=true) (f:lZ l+2<=l.length) (c:mM ((l.drop (lZ l)).take 2)=EF l):jM l=0/\rN l=lZ l+2:=by
 have:=jI (l:=l) (a:=lZ l) (m:=2) ω;have b:smC l:= ⟨d,h⟩;unfold jM rN;rw[ae b,ae b,h,this.2.2,this.1,aa (λe=>e.2 c)];exact⟨rfl,this.2.1⟩
theorem Ga (r:List Int):(qV r).2.1<=r.length:=by
 unfold qV;split
 · show nz r+1<=_;omega
 split <;> exact aF _
def Aq (H:List HV) (i:Nat):Value:=hf (H.getD (i/11) hz) (i%11)
def a7B (v:Value):Prop:=∃X m cc,v= .slice X m cc
theorem a2V {h:HV} (a:a7B h.ex) (i:Nat):(hf h i).oneCell'=true:=by
 obtain⟨X,m,cc,e⟩ :=a;unfold hf;split
 all_goals first | rfl | (rw[e];rfl)
theorem Zh {H:List HV} (h:∀x∈H,a7B x.ex) (i:Nat):(Aq H i).oneCell'=true:=by
 refine a2V ?_ _;rw[aq];cases e:H[i/11]? with
 | none=>exact⟨none,0,0,rfl⟩
 | some v=>exact h v (cQ e)
theorem Zg (D E:List HV) (i:Nat):cat (D.length*11) (Aq D) (Aq E) i=Aq (D++E) i:=by
 unfold cat Aq;by_cases h:i<D.length*11
 · rw[ae h,aq,aq,bJ ω]
 rw[aa h,aq,aq,bF ω,show(i-D.length*11)/11=i/11-D.length by omega,show(i-D.length*11)%11=i%11 by omega]
theorem Un:(Tryz.prog.info? 31).map (λi=>(i.zero,i.size,i.bytes))=some (some (.agg #[.bool false, .bool false, .int .u32 0, .int .u8 0, .int .u8 0, .slice none 0 0, .bool false, .string ByteArray.empty, .string ByteArray.empty, .bool false, .bool false]),11,88):=by kernel_rfl
theorem QS {w:World} {e:Array Oper} {o:Oper} {a:Act} {K:Act->World->Prop} {Q:Exit->Act->World->Prop} {E:Prop} (b0:Nat) (i:TypeInfo) (l:Region.wanted o (yielded e a.tmps)=true) (s x:Operand)
  (v:o.op= .call { callee:= .builtin .append,args:= #[s,x],argTypes:= #[46, 46] }) (hi:Tryz.prog.info? 31 =some i) (hz:i.zero=some (.agg #[.bool false, .bool false, .int .u32 0, .int .u8 0, .int .u8 0, .slice none 0 0, .bool false, .string ByteArray.empty, .string ByteArray.empty, .bool false, .bool false]))
  (b:i.size=11) (p:i.bytes=88) {A:Option Addr} {n c:Nat} {f f':Nat->Value} (t:a.eval s= .slice A n c) (k:Own w b0 31 11 A n c f)
  {B:Nat} {A':Option Addr} {m c':Nat} (r:a.eval x= .slice A' m c') (u:Rd w B A' (m*11) f') (C:∀j,j<m*11->(f' j).oneCell'=true)
  (q:n+m<=1000000000000) (d:b0<=w.heap.size)
  (h:∀A2 c2 w2,Own w2 b0 31 11 A2 (n+m) c2 (cat (n*11) f f')->w.grownBy w2 (ai A)->(ai A2=ai A\/ai A2=some w.heap.size)->K (a.put o.dst (.slice A2 (n+m) c2)) w2):
  if Region.wanted o (yielded e a.tmps)=true then Oper.wp Tryz.prog o a w K Q else E:=by
 rw[ae l];obtain⟨A2,c2,w2,g,z,y,h4⟩ :=iP (P:=Tryz.prog) w b0 46 o.type 31 i _ 11 88 Tryz.underlying46 hi hz b p rfl ω A n c _ k B A' m c' _ u C q ω d;unfold Oper.wp execOp;simp only [v,resolve,invoke,builtin,Sem.run_bind,Sem.run_pure,Result.andThen_ok,List.map_toArray,List.map_cons,List.map_nil,t,r,g];exact h A2 c2 w2 z y h4
theorem Zl (w:World) (h:HV) (t:TypeId):Rd (w.alloc (.cells #[.bool h.tx, .bool h.sm, .int .u32 h.tm, .int .u8 h.fl, .int .u8 h.sy,h.ex, .bool h.hE, .string h.nm, .string h.cm, .bool h.hN, .bool h.hC] t)) (w.heap.size+1) (some ⟨w.heap.size,0,none⟩) (1*11) (Aq [h]):=λ_=> ⟨_,rfl,σ,λi hi=>by
 rw[nY]
 have a:=Ar.new w #[.bool h.tx, .bool h.sm, .int .u32 h.tm, .int .u8 h.fl, .int .u8 h.sy,h.ex, .bool h.hE, .string h.nm, .string h.cm, .bool h.hN, .bool h.hC] t (m:=11) (f:=Aq [h]) rfl (λi hi=>by
  rcases rL hi with rfl | rfl | rfl | rfl | rfl | rfl | rfl | rfl | rfl | rfl | rfl;all_goals rfl)
 exact a.cell ω⟩
theorem PJ {W:World} {K:Nat} {h:HV} (hA:Ar W K 11 (hf h)):W.cell? ⟨K,0,none⟩ =some (.bool h.tx)/\W.cell? ⟨K,1,none⟩ =some (.bool h.sm)/\W.cell? ⟨K,2,none⟩ =some (.int .u32 h.tm)/\W.cell? ⟨K,3,none⟩ =some (.int .u8 h.fl)/\W.cell? ⟨K,4,none⟩ =some (.int .u8 h.sy)/\W.cell? ⟨K,5,none⟩ =some h.ex/\W.cell? ⟨K,6,none⟩ =some (.bool h.hE)/\W.cell? ⟨K,7,none⟩ =some (.string h.nm)/\W.cell? ⟨K,8,none⟩ =some (.string h.cm)/\W.cell? ⟨K,9,none⟩ =some (.bool h.hN)/\W.cell? ⟨K,10,none⟩ =some (.bool h.hC):=
 ⟨hA.cell (i:=0) ω,hA.cell (i:=1) ω,hA.cell (i:=2) ω,hA.cell (i:=3) ω,hA.cell (i:=4) ω,hA.cell (i:=5) ω,hA.cell (i:=6) ω,hA.cell (i:=7) ω,hA.cell (i:=8) ω,hA.cell (i:=9) ω,hA.cell (i:=10) ω⟩
end Go.Proofs.YtdhmnlpfhfmpfaaGreat
