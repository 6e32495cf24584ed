/-
  part
-/
import Derived.Test.YtdhmnlpfhfmpfaaGreatHdB
import Derived.Deep.DeepCutAuto
import Derived.BigFrame
import Derived.BigRegion
set_option linter.unusedVariables false
set_option maxRecDepth 100000
set_option maxHeartbeats 4000000
namespace Go.Proofs.YtdhmnlpfhfmpfaaGreat
open Go.RowKit
theorem si.far {w:World} {B g n c a:Nat} {A:ay} {l:aj} {e:Int} (h:si w B g A n c l a e) {p:Addr} (hp:B<=p.block) (b:g≠p.block) (v:Value):si (w.setCell p v) B g A n c l a e:=
 ⟨h.cell.far b v,h.rd.keep λq d=>dU _ _ _ _ (λe=>by have f:=aN Addr.block e;omega),h.lo,h.le,h.cap,h.small⟩
theorem Ps {w b a:World} {R g:Nat} (h:Below R w b) (hC:bk b a (λk=>k=g)) (e:R<g) (d:R=w.heap.size):Below R w a:=
 ⟨hC.os.trans h.os,hC.tape.trans h.tape,hC.output.trans h.output,aw h.size hC.size,λk c=>
   (hC.block k (τ h.size) ω).trans (h.block k c)⟩
theorem OL {w0 w:World} {B g n c a R:Nat} {A:ay} {l:aj} {e:Int} {f:Nat->Value} (f':Nat->Value) (C:si w B g A n c l a e) (z:Ar w R 11 f) (y:Below R w0 w) (j:B<=R) (O:R<g) (x v u t s r q o m k b:Value) (N:x=f' 0) (M:v=f' 1) (K:u=f' 2) (J:t=f' 3) (I:s=f' 4) (H:r=f' 5) (G:q=f' 6) (F:o=f' 7) (E:m=f' 8) (D:k=f' 9) (L:b=f' 10):
  si (((((((((((w.setCell ⟨R,0,none⟩ x).setCell ⟨R,1,none⟩ v).setCell ⟨R,2,none⟩ u).setCell ⟨R,3,none⟩ t).setCell ⟨R,4,none⟩ s).setCell ⟨R,5,none⟩ r).setCell ⟨R,6,none⟩ q).setCell ⟨R,7,none⟩ o).setCell ⟨R,8,none⟩ m).setCell ⟨R,9,none⟩ k).setCell ⟨R,10,none⟩ b) B g A n c l a e/\Ar (((((((((((w.setCell ⟨R,0,none⟩ x).setCell ⟨R,1,none⟩ v).setCell ⟨R,2,none⟩ u).setCell ⟨R,3,none⟩ t).setCell ⟨R,4,none⟩ s).setCell ⟨R,5,none⟩ r).setCell ⟨R,6,none⟩ q).setCell ⟨R,7,none⟩ o).setCell ⟨R,8,none⟩ m).setCell ⟨R,9,none⟩ k).setCell ⟨R,10,none⟩ b) R 11 f'/\Below R w0 (((((((((((w.setCell ⟨R,0,none⟩ x).setCell ⟨R,1,none⟩ v).setCell ⟨R,2,none⟩ u).setCell ⟨R,3,none⟩ t).setCell ⟨R,4,none⟩ s).setCell ⟨R,5,none⟩ r).setCell ⟨R,6,none⟩ q).setCell ⟨R,7,none⟩ o).setCell ⟨R,8,none⟩ m).setCell ⟨R,9,none⟩ k).setCell ⟨R,10,none⟩ b):=by
 have d:g≠R:=ω;have h:R<=R:=ai R;refine⟨(((((((((((C.far (p:= ⟨R,0,none⟩) j d x).far (p:= ⟨R,1,none⟩) j d v).far (p:= ⟨R,2,none⟩) j d u).far (p:= ⟨R,3,none⟩) j d t).far (p:= ⟨R,4,none⟩) j d s).far (p:= ⟨R,5,none⟩) j d r).far (p:= ⟨R,6,none⟩) j d q).far (p:= ⟨R,7,none⟩) j d o).far (p:= ⟨R,8,none⟩) j d m).far (p:= ⟨R,9,none⟩) j d k).far (p:= ⟨R,10,none⟩) j d b), ?_,(((((((((((y.setCell (p:= ⟨R,0,none⟩) h x).setCell (p:= ⟨R,1,none⟩) h v).setCell (p:= ⟨R,2,none⟩) h u).setCell (p:= ⟨R,3,none⟩) h t).setCell (p:= ⟨R,4,none⟩) h s).setCell (p:= ⟨R,5,none⟩) h r).setCell (p:= ⟨R,6,none⟩) h q).setCell (p:= ⟨R,7,none⟩) h o).setCell (p:= ⟨R,8,none⟩) h m).setCell (p:= ⟨R,9,none⟩) h k).setCell (p:= ⟨R,10,none⟩) h b)⟩;refine Ar.congr (((((((((((z.bK (i:=0) ω x).bK (i:=1) ω v).bK (i:=2) ω u).bK (i:=3) ω t).bK (i:=4) ω s).bK (i:=5) ω r).bK (i:=6) ω q).bK (i:=7) ω o).bK (i:=8) ω m).bK (i:=9) ω k).bK (i:=10) ω b) (λi hi=> ?_);rcases qU hi with rfl | rfl | rfl | rfl | rfl | rfl | rfl | rfl | rfl | rfl | rfl
 · exact N
 · exact M
 · exact K
 · exact J
 · exact I
 · exact H
 · exact G
 · exact F
 · exact E
 · exact D
 exact L
theorem YL {F:Int} (h:0<=F/\F<256):(bits .and .u8 F 1 != 0)=bit F 1/\(bits .and .u8 F 2 != 0)=bit F 2/\(bits .and .u8 F 4 != 0)=bit F 4/\(bits .and .u8 F 8 != 0)=bit F 8/\(bits .and .u8 F 16 != 0)=bit F 16:=by
 obtain⟨N,rfl⟩ :=aJ h.1;have hN:N<256:=ω;have i:∀N:Nat,N<256->(N&&& 1≠0↔N/1%2=1):=δ;have f:∀N:Nat,N<256->(N&&& 2≠0↔N/2%2=1):=δ;have h4:∀N:Nat,N<256->(N&&& 4≠0↔N/4%2=1):=δ;have e:∀N:Nat,N<256->(N&&& 8≠0↔N/8%2=1):=δ;have g:∀N:Nat,N<256->(N&&& 16≠0↔N/16%2=1):=δ
 have a:∀k:Nat,k<256->(N&&& k≠0↔N/k%2=1)->(bits .and .u8 (N:Int) (k:Int) != 0)=bit (N:Int) (k:Int):=by
  intro k d h;rw[u8_and_nat N k hN d];unfold bit;have c:((N:Int)/(k:Int)%2=1)↔N/k%2=1:=by rw[<-Int.natCast_ediv];omega
  by_cases b:N&&& k=0
  · have h5:¬N/k%2=1:=λh6=>(h.2 h6) b;rw[b,aQ (λh6=>h5 (c.1 h6))];rfl
  rw[aS (c.2 (h.1 b))];simp only [bne_iff_ne];omega
 exact⟨a 1 ω (i N hN),a 2 ω (f N hN),a 4 ω (h4 N hN),a 8 ω (e N hN),a 16 ω (g N hN)⟩
def NL (f:Int):HV:= ⟨bit f 1,bit f 2,0,0,0, .slice none 0 0,bit f 4,ByteArray.empty,ByteArray.empty,bit f 8,bit f 16⟩
def EH (l:aj):Int:=iz (mq (iz 0) (l.take (mA l)) (mA l))%65536
def smC (l:aj):Prop:=bit (fB l) 2=true/\rP l=0
instance (l:aj):Decidable (smC l):=by unfold smC;infer_instance
def vk (l:aj):Nat:=if smC l then xe l (mA l) (rP l) 2 else mA l
def kg (l:aj):Int:=if smC l then(if o0 l (mA l) (rP l) 2=0/\oK (uX l (mA l) (rP l) 2)≠EH l then 4 else o0 l (mA l) (rP l) 2)else rP l
theorem a2w {x:Int} (h:0<=x/\x<4294967296):bits .and .u32 x 65535=x%65536:=by
 obtain⟨N,rfl⟩ :=aJ h.1;have e:=u32_and_nat N 65535 ω ω;rw[show((65535:Nat):Int)=65535 from rfl]at e;rw[e,show(65535:Nat)=2 ^ 16-1 from rfl,fe];rfl
structure PS (w0 w:World) (B g R:Nat) (A:ay) (n c:Nat) (l:aj) (a:Nat) (e:Int) (h:HV) (X:ay) (m cc:Nat) (xl:aj):Prop where
 P:si w B g A n c l a e
 H:Ar w R 11 (hf h)
 b:Below R w0 w
 lt:R<g
 eq:R=w0.heap.size
 BR:B<=R
 own:ba .u8 w (g+1) 5 X m cc xl
section
variable {w0 w w':World} {B g R n c a a' m cc:Nat} {A X:ay} {l xl:aj} {e e':Int} {h h':HV}
theorem PS.step (s:PS w0 w B g R A n c l a e h X m cc xl) (f:si w' B g A n c l a' e') (hC:bk w w' (λk=>k=g)):PS w0 w' B g R A n c l a' e' h X m cc xl:=
 ⟨f,hC.ar s.H (λh=>by have:=s.lt;omega),Ps s.b hC s.lt s.eq,s.lt,s.eq,s.BR,hC.dX s.own λk d h=>τ ((s.own.2.lt d).1)⟩
theorem PS.drewN (s:PS w0 w B g R A n c l a e h X m cc xl) (q:Nat):PS w0 (w.drewN q) B g R A n c l a e h X m cc xl:= ⟨s.P.drewN q,s.H.drewN q,below_drewN s.b q,s.lt,s.eq,s.BR,s.own.drewN q⟩
theorem PS.drew (s:PS w0 w B g R A n c l a e h X m cc xl):PS w0 w.drew B g R A n c l a e h X m cc xl:=s.drewN 1
theorem PS.bK (s:PS w0 w B g R A n c l a e h X m cc xl) {i:Nat} (hi:i<11) (v:Value) (d:∀j,j<11->upd (hf h) i v j=hf h' j):PS w0 (w.setCell ⟨R,i,none⟩ v) B g R A n c l a e h' X m cc xl:=
 ⟨s.P.far (p:= ⟨R,i,none⟩) s.BR (by have:=s.lt;simp;omega) v,s.H.ze hi v d,s.b.setCell (p:= ⟨R,i,none⟩) (ai R) v,s.lt,s.eq,s.BR,s.own.far (p:= ⟨R,i,none⟩) (λh=>by have f:g+1<=R:=(s.own.2.lt h).1;have:=s.lt;omega) v⟩
theorem PS.lit (s:PS w0 w B g R A n c l a e h X m cc xl) {Z:Nat} (d:Z=w.heap.size):PS w0 (w.alloc (.cells #[] 5)) B g R A n c l a e h (some ⟨Z,0,none⟩) 0 0 []:=
 ⟨⟨s.P.cell.alloc _,s.P.rd.alloc (ε s.P.cell.lt s.P.lo) _,s.P.lo,s.P.le,s.P.cap,s.P.small⟩,s.H.alloc _,s.b.alloc (ε s.b.size s.eq) _,s.lt,s.eq,s.BR,ba.lit d [] _ (τ s.P.cell.lt) (aF _)⟩
theorem PS.grown {q:ay} {o p:Nat} {d:aj} (s:PS w0 w B g R A n c l a e h X m cc xl) (u:w.grownBy w' (ak X)) (r:ba .u8 w' (g+1) 5 q o p d):PS w0 w' B g R A n c l a e h q o p d:=by
 have hC:bk w w' (λk=>ak X=some k):=(bk.refl w _).grown u (λk f=> .inl f);have i:∀k,ak X=some k->g+1<=k:=λk f=>(s.own.2.lt f).1;have x:B<=w.heap.size:=by have:=s.P.cell.lt;have:=s.P.lo;omega
 refine⟨⟨hC.ar s.P.cell λh=>τ (i _ h),hC.ri s.P.rd x λt z j h=> ?_,s.P.lo,s.P.le,s.P.cap,s.P.small⟩,hC.ar s.H λh=>ε (i _ h) s.lt, ?_,s.lt,s.eq,s.BR,r⟩
 · obtain⟨y,e',v,_⟩ :=s.P.rd.2 t;rw[j]at e';cases e';have:=i _ h;have:=s.P.lo;omega
 exact iX s.b (hC.below (b0:=R) (λk f=>by have:=i _ f;have:=s.lt;omega) (ε s.P.cell.lt s.lt))
theorem PS.below (s:PS w0 w B g R A n c l a e h X m cc xl) (d:Below w.heap.size w w'):PS w0 w' B g R A n c l a e h X m cc xl:=by
 have hC:bk w w' (λ_=>False):=bk.bJ d;have i:=s.P.cell.lt;have f:=s.P.lo;exact⟨⟨hC.ar s.P.cell id,hC.ri s.P.rd ω (λ_ _ _ h=>h),s.P.lo,s.P.le,s.P.cap,s.P.small⟩,hC.ar s.H id,iX s.b (hC.below (b0:=R) (λ_ h=>h.elim) (τ s.lt)),s.lt,s.eq,s.BR,hC.dX s.own λ_ _ h=>h⟩
theorem PS.bound (s:PS w0 w B g R A n c l a e h X m cc xl):g<w.heap.size:=s.P.cell.lt
end
theorem PS.a1Z {w0 w:World} {B g R n c a m cc:Nat} {A X:ay} {l xl:aj} {e:Int} {h:HV} (h':HV) (s:PS w0 w B g R A n c l a e h X m cc xl) (y x v u t r q o j i f:Value) (O:y=hf h' 0) (N:x=hf h' 1) (L:v=hf h' 2) (K:u=hf h' 3) (J:t=hf h' 4) (I:r=hf h' 5) (G:q=hf h' 6) (F:o=hf h' 7) (E:j=hf h' 8) (D:i=hf h' 9) (M:f=hf h' 10):PS w0 (((((((((((w.setCell ⟨R,0,none⟩ y).setCell ⟨R,1,none⟩ x).setCell ⟨R,2,none⟩ v).setCell ⟨R,3,none⟩ u).setCell ⟨R,4,none⟩ t).setCell ⟨R,5,none⟩ r).setCell ⟨R,6,none⟩ q).setCell ⟨R,7,none⟩ o).setCell ⟨R,8,none⟩ j).setCell ⟨R,9,none⟩ i).setCell ⟨R,10,none⟩ f) B g R A n c l a e h' X m cc xl:=by
 have z:=OL (hf h') s.P s.H s.b s.BR s.lt y x v u t r q o j i f O N L K J I G F E D M;have d:∀k,ak X=some k->k≠R:=λk C h=>by have Q:g+1<=k:=(s.own.2.lt C).1;have:=s.lt;omega
 exact⟨z.1,z.2.1,z.2.2,s.lt,s.eq,s.BR,(((((((((((s.own.far (p:= ⟨R,0,none⟩) (λh=>d _ h rfl) y).far (p:= ⟨R,1,none⟩) (λh=>d _ h rfl) x).far (p:= ⟨R,2,none⟩) (λh=>d _ h rfl) v).far (p:= ⟨R,3,none⟩) (λh=>d _ h rfl) u).far (p:= ⟨R,4,none⟩) (λh=>d _ h rfl) t).far (p:= ⟨R,5,none⟩) (λh=>d _ h rfl) r).far (p:= ⟨R,6,none⟩) (λh=>d _ h rfl) q).far (p:= ⟨R,7,none⟩) (λh=>d _ h rfl) o).far (p:= ⟨R,8,none⟩) (λh=>d _ h rfl) j).far (p:= ⟨R,9,none⟩) (λh=>d _ h rfl) i).far (p:= ⟨R,10,none⟩) (λh=>d _ h rfl) f)⟩
theorem yH {w:World} {R:Nat} {h:HV} {tmps:Array Value} {x y:Value} (a:Ar w R 11 (hf h)) (q:tmps[2]?.getD undef= .pointer (some ⟨R,0,none⟩)) (p:tmps[3]?.getD undef=x) (h4:tmps[4]?.getD undef=y):
  (results Tryz.f76 tmps).run Tryz.prog w= .ok (.tuple #[hagg h,x,y]) w:=by
 have o:w.cell? ⟨R,0,none⟩ =some (.bool h.tx):=a.cell (i:=0) ω;have n:w.cell? ⟨R,1,none⟩ =some (.bool h.sm):=a.cell (i:=1) ω;have l:w.cell? ⟨R,2,none⟩ =some (.int .u32 h.tm):=a.cell (i:=2) ω;have k:w.cell? ⟨R,3,none⟩ =some (.int .u8 h.fl):=a.cell (i:=3) ω;have j:w.cell? ⟨R,4,none⟩ =some (.int .u8 h.sy):=a.cell (i:=4) ω;have g:w.cell? ⟨R,5,none⟩ =some (h.ex):=a.cell (i:=5) ω;have e:w.cell? ⟨R,6,none⟩ =some (.bool h.hE):=a.cell (i:=6) ω;have d:w.cell? ⟨R,7,none⟩ =some (.string h.nm):=a.cell (i:=7) ω;have c:w.cell? ⟨R,8,none⟩ =some (.string h.cm):=a.cell (i:=8) ω;have b:w.cell? ⟨R,9,none⟩ =some (.bool h.hN):=a.cell (i:=9) ω;have m:w.cell? ⟨R,10,none⟩ =some (.bool h.hC):=a.cell (i:=10) ω;simp [results,Tryz.results76,go_sem,q,p,h4,o,n,l,k,j,g,e,d,c,b,m,hagg]
def xR (l:aj) (ex:Value):HV:={ NL (fB l)with tm:=Xz l,fl:=TX l,sy:=Yl l,ex:=ex,nm:=strOf (yD l),cm:=strOf (D4 l) }
def xg (w:World) (l:aj) (E:Ending) (w':World):Prop:=
 ∃X m cc xl,m<=cc/\cc<=maxLen/\bT .u8 w' w'.heap.size X m xl/\(∀k,ak X=some k->w.heap.size<=k)/\Below w.heap.size w w'/\
  ((kg l=0/\xl=vO l/\E= .returned (.tuple #[hagg (xR l (.slice X m cc)), .int .i64 (vk l), .int .i64 0]))\/(kg l≠0/\E= .returned (.tuple #[hagg hz, .int .i64 0, .int .i64 (kg l)])))
theorem R4 (w:World) (B n c:Nat) (A:ay) (l:aj) (hr:bT .u8 w B A n l) (hB:B<=w.heap.size) (hn:n<=1000000) (hc:n<=c) (hb:∀x∈l,0<=x/\x<256):
  Calls Tryz.prog 76 #[.slice A n c] w (xg w l):=by
 go_enter Tryz.func76,Tryz.ntmps76
 go_wp2_with fail
 have ac:si ((w.alloc (Obj.cells #[Value.bool false,Value.bool false,Value.int IntKind.u32 0,Value.int IntKind.u8 0,Value.int IntKind.u8 0,Value.slice none 0 0,Value.bool false,Value.string { data:= #[] },Value.string { data:= #[] },Value.bool false,Value.bool false] 31)).alloc (Obj.cells #[Value.slice A n c,Value.int IntKind.i64 0,Value.int IntKind.i64 0] 144)) B (w.heap.size+1) A n c l 0 0:=
  ⟨Ar.We σ _ _ rfl (λi hi=>by
    obtain rfl | rfl | rfl:i=0\/i=1\/i=2:=ω;all_goals rfl),(hr.alloc hB _).alloc ξ _,ω,ω,hc,hn⟩
 have Ij:Ar ((w.alloc (Obj.cells #[Value.bool false,Value.bool false,Value.int IntKind.u32 0,Value.int IntKind.u8 0,Value.int IntKind.u8 0,Value.slice none 0 0,Value.bool false,Value.string { data:= #[] },Value.string { data:= #[] },Value.bool false,Value.bool false] 31)).alloc (Obj.cells #[Value.slice A n c,Value.int IntKind.i64 0,Value.int IntKind.i64 0] 144)) w.heap.size 11 (hf hz):=
  (Ar.We rfl _ _ rfl (λi hi=>by
    rcases qU hi with rfl | rfl | rfl | rfl | rfl | rfl | rfl | rfl | rfl | rfl | rfl;all_goals rfl)).alloc _
 have o:Below w.heap.size w ((w.alloc (Obj.cells #[Value.bool false,Value.bool false,Value.int IntKind.u32 0,Value.int IntKind.u8 0,Value.int IntKind.u8 0,Value.slice none 0 0,Value.bool false,Value.string { data:= #[] },Value.string { data:= #[] },Value.bool false,Value.bool false] 31)).alloc (Obj.cells #[Value.slice A n c,Value.int IntKind.i64 0,Value.int IntKind.i64 0] 144)):=
  ((ax _ _).alloc (ai _) _).alloc σ _
 revert ac Ij o;generalize ((w.alloc (Obj.cells #[Value.bool false,Value.bool false,Value.int IntKind.u32 0,Value.int IntKind.u8 0,Value.int IntKind.u8 0,Value.slice none 0 0,Value.bool false,Value.string { data:= #[] },Value.string { data:= #[] },Value.bool false,Value.bool false] 31)).alloc (Obj.cells #[Value.slice A n c,Value.int IntKind.i64 0,Value.int IntKind.i64 0] 144))=w1;intro ac Ij o;obtain⟨g,hg⟩ :∃g,g=w.heap.size+1:= ⟨_,rfl⟩;rw[<-hg]at ac⊢;have G:Hid (w.heap.size<g):=by show _<_;omega
 obtain⟨R,wY⟩ :∃R,R=w.heap.size:= ⟨_,rfl⟩;have HB:=hB;rw[<-wY]at Ij o G HB⊢;clear hg;have D:=η wY;clear wY;have cq:bk w1 w1 (λk=>k=g):=bk.refl _ _;refine(C7 _ B g n c _ A l _ ac 31).mono ?_;rintro E w2 ⟨rfl,a,hC⟩;replace a:si w2 B g A n c l (b1 l) (q1 l):=a
 go_wp2_with fail;refine(C7 _ B g n c _ A l _ a 139).mono ?_;clear a;rintro E w3 ⟨rfl,a,z⟩;replace a:si w3 B g A n c l (b2 l) (q2 l):=a;replace hC:=hC.trans z (λk h=> .inl h);clear z w2
 go_wp2_with fail;refine(C7 _ B g n c _ A l _ a 8).mono ?_;clear a;rintro E w4 ⟨rfl,a,z⟩;replace a:si w4 B g A n c l (b3 l) (q3 l):=a;replace hC:=hC.trans z (λk h=> .inl h);clear z w3
 go_wp2_with fail;refine(FM _ B g n c _ A l _ a).mono ?_;clear a;rintro E w5 ⟨rfl,a,z⟩;replace hC:=hC.trans z (λk h=> .inl h);clear z w4;have ab:Hid (q4 l=Zj (o0 l (b3 l) (q3 l) 1) (fB l)):=rfl;have Q7:0<=fB l/\fB l<256:=a4z hb _ _;replace a:si w5 B g A n c l (b4 l) (o0 l (b3 l) (q3 l) 1):=a;rw[show Oo l (b3 l) (q3 l)=fB l from rfl];obtain⟨e4,bo⟩ :=ν (o0 l (b3 l) (q3 l) 1);obtain⟨F,hF⟩ :=ν (fB l);rw[bo]at a ab;rw[hF]at Q7 ab⊢;have u:=η hF;clear bo hF;have t:=hC.ar Ij (λh=>by have:=G.out;omega);replace o:Below R w w5:= ⟨hC.os.trans o.os,hC.tape.trans o.tape,hC.output.trans o.output,aw o.size hC.size,λk hk=>(hC.block k (ε o.size D.out) (τ G.out)).trans (o.block k hk)⟩;clear hC Ij;have c2:=a.cell.cell (i:=2) ω;have z2:=a.cell.frozen' (i:=2) ω;unfold pf at c2;go_upto_region 6 with fail
 go_cut [28] (λs wx=>s= .bool (decide (e4=0/\31<F))/\wx=w5)
 case first=>
  by_cases N:e4=0
  · subst N;by_cases hf:31<F
    · have hd:decide ((0:Int)=0/\31<F)=true:=aS ⟨rfl,hf⟩;go_wp2;go_meet;exact⟨aN Value.bool hd.symm,rfl⟩
    have hd:decide ((0:Int)=0/\31<F)=false:=aQ (λh=>hf h.2);go_wp2;go_meet;exact⟨aN Value.bool hd.symm,rfl⟩
  have hd:decide (e4=0/\31<F)=false:=aQ (λh=>N h.1);go_wp2;go_meet;exact⟨aN Value.bool hd.symm,rfl⟩
 obtain⟨rfl,rfl⟩ :=hcut
 go_upto_if 28 with fail
 go_cut [] (λwx=>si wx B g A n c l (b4 l) (q4 l)/\Ar wx R 11 (hf hz)/\Below R w wx)
 case first=>
  by_cases N:e4=0/\31<F
  · have hd:decide (e4=0/\31<F)=true:=aS N;have hq:Hid (q4 l=2):=by show _=_;rw[ab.out];unfold Zj;rw[af N]
    rw[hd];go_wp2;go_meet;exact⟨by rw[hq.out];exact a.fault 2,t.far (p:= ⟨g,2,none⟩) (by have:=G.out;simp;omega) _,o.setCell (p:= ⟨g,2,none⟩) (by have:=G.out;simp;omega) _⟩
  have hd:decide (e4=0/\31<F)=false:=aQ N;have hq:Hid (q4 l=e4):=by show _=_;rw[ab.out];unfold Zj;rw[aa N]
  rw[hd];go_wp2;go_meet;exact⟨by rw[hq.out];exact a,t,o⟩
 case rest=>
 clear a t o c2 z2;obtain⟨a,t,o⟩ :=hcut;have vR:=η (YL Q7);go_upto_region 8 with fail
 go_cut [] (λwx=>si wx B g A n c l (b4 l) (q4 l)/\Ar wx R 11 (hf (NL F))/\Below R w wx)
 case first=>
  have r0:=t.cell (i:=0) ω;have f0:=t.frozen' (i:=0) ω;have r1:=t.cell (i:=1) ω;have f1:=t.frozen' (i:=1) ω;have r2:=t.cell (i:=2) ω;have f2:=t.frozen' (i:=2) ω;have r3:=t.cell (i:=3) ω;have f3:=t.frozen' (i:=3) ω;have r4:=t.cell (i:=4) ω;have f4:=t.frozen' (i:=4) ω;have r5:=t.cell (i:=5) ω;have f5:=t.frozen' (i:=5) ω;have r6:=t.cell (i:=6) ω;have f6:=t.frozen' (i:=6) ω;have r7:=t.cell (i:=7) ω;have f7:=t.frozen' (i:=7) ω;have r8:=t.cell (i:=8) ω;have f8:=t.frozen' (i:=8) ω;have r9:=t.cell (i:=9) ω;have f9:=t.frozen' (i:=9) ω;have xd:=t.cell (i:=10) ω;have bt:=t.frozen' (i:=10) ω;unfold hf hz at r0 r1 r2 r3 r4 r5 r6 r7 r8 r9 xd;go_wp2;go_meet;exact OL (hf (NL F)) a t o HB G.out _ _ _ _ _ _ _ _ _ _ _ (aN Value.bool vR.out.1) (aN Value.bool vR.out.2.1) rfl rfl rfl rfl (aN Value.bool vR.out.2.2.1) rfl rfl (aN Value.bool vR.out.2.2.2.1) (aN Value.bool vR.out.2.2.2.2)
 case rest=>
 clear a t o;obtain⟨a,t,o⟩ :=hcut
 go_wp2_with fail;refine(ql _ B g n c _ 4 A l _ a ω).mono ?_;have bs:=a;clear a;rintro E w6 ⟨A1,m1,c1,rfl,bl,Fk,a,hC⟩;have ap:=hC.ar t (λh=>by have:=G.out;omega);replace a:si w6 B g A n c l (b5 l) (q5 l):=a;have S:PS w w6 B g R A n c l (b5 l) (q5 l) (NL F) none 0 0 []:=PS.step ⟨bs,t,o,G.out,D.out,HB,ba.dN⟩ a hC;clear hC a bs t o
 go_wp2_with fail;refine(mZ _ B m1 c1 A1 _ bl (by rw[bl.1];exact C3 _ _ _ _) (Ge hb _ _ _)).mono ?_;rintro E w7 ⟨rfl,qq,rfl⟩;rw[show oK (uX l (b4 l) (q4 l) 4)=Xz l from rfl];replace S:=(S.drewN qq).bK (i:=2) (h':={ NL F with tm:=Xz l }) ω (.int .u32 (Xz l)) (λj L=>by rcases qU L with rfl | rfl | rfl | rfl | rfl | rfl | rfl | rfl | rfl | rfl | rfl <;> rfl);have r2:=(ap.drewN qq).cell (i:=2) ω;have f2:=(ap.drewN qq).frozen' (i:=2) ω;unfold hf at r2;clear ap
 go_wp2_with fail;refine(FM _ B g n c _ A l _ S.P).mono ?_;rintro E w8 ⟨rfl,a,hC⟩;rw[show Oo l (b5 l) (q5 l)=TX l from rfl];replace a:si w8 B g A n c l (b6 l) (q6 l):=a;replace S:=S.step a hC;clear a hC r2 f2
 go_wp2_with fail;refine(FM _ B g n c _ A l _ S.P).mono ?_;rintro E w9 ⟨rfl,a,hC⟩;rw[show Oo l (b6 l) (q6 l)=Yl l from rfl];replace a:si w9 B g A n c l (b7 l) (q7 l):=a;replace S:=S.step a hC;clear a hC;have r3:=S.H.cell (i:=3) ω;have f3:=S.H.frozen' (i:=3) ω;have r4:=S.H.cell (i:=4) ω;have f4:=S.H.frozen' (i:=4) ω;have r6:=S.H.cell (i:=6) ω;unfold hf at r3 r4 r6;dsimp only [NL]at r3 r4 r6;replace S:=(S.bK (i:=3) (h':={ NL F with tm:=Xz l,fl:=TX l }) ω (.int .u8 (TX l)) (λj L=>by rcases qU L with rfl | rfl | rfl | rfl | rfl | rfl | rfl | rfl | rfl | rfl | rfl <;> rfl)).bK (i:=4) (h':={ NL F with tm:=Xz l,fl:=TX l,sy:=Yl l }) ω (.int .u8 (Yl l)) (λj L=>by rcases qU L with rfl | rfl | rfl | rfl | rfl | rfl | rfl | rfl | rfl | rfl | rfl <;> rfl)
 go_upto_if 59 with fail
 revert S;generalize ((w9.setCell ⟨R,3,none⟩ (.int .u8 (TX l))).setCell ⟨R,4,none⟩ (.int .u8 (Yl l)))=W;intro S;clear r3 f3 r4 f4 r6;obtain⟨d,M⟩ :∃d:HV,d={ NL F with tm:=Xz l,fl:=TX l,sy:=Yl l }:= ⟨_,rfl⟩;have cb:∀v,{ NL F with tm:=Xz l,fl:=TX l,sy:=Yl l,ex:=v }={ d with ex:=v }:=λv=>by rw[M]
 rw[<-M]at S;have HE:d.hE=bit F 4/\d.hN=bit F 8/\d.hC=bit F 16/\d.sm=bit F 2:=by rw[M];exact⟨rfl,rfl,rfl,rfl⟩
 have ae:=η M;clear M cb;go_cut [] (λwx=>∃X m cc,PS w wx B g R A n c l (b9 l) (q9 l) { d with ex:= .slice X m cc } X m cc (vO l))
 case first=>
  cases f:bit F 4 with
  | false=>
    have r:Hid (b9 l=b7 l/\q9 l=q7 l/\vO l=[]):=by
     refine⟨?_, ?_, ?_⟩
     · unfold b9;rw[u.out,f];rfl
     · unfold q9;rw[u.out,f];rfl
     unfold vO;rw[u.out,f];rfl
    go_wp2;go_meet;refine⟨none,0,0, ?_⟩;rw[r.out.1,r.out.2.1,r.out.2.2]
    exact(by have h9: { d with ex:= .slice none 0 0 }=d:=by rw[ae.out];rfl
             rw[h9];exact S)
  | true=>
    have r:Hid (b9 l=xe l (b8 l) (q8 l) (OQ l).toNat/\q9 l=o0 l (b8 l) (q8 l) (OQ l).toNat/\vO l=uX l (b8 l) (q8 l) (OQ l).toNat):=by
     refine⟨?_, ?_, ?_⟩
     · unfold b9;rw[u.out,f];rfl
     · unfold q9;rw[u.out,f];rfl
     unfold vO;rw[u.out,f];rfl
    have IQ:0<=OQ l/\OQ l<65536:=by
     have T:=Bk (Ge hb (b7 l) (q7 l) 2);have d:=C3 l (b7 l) (q7 l) 2;refine⟨T.1,Int.lt_of_lt_of_le T.2 ?_⟩;obtain h | h | h:(uX l (b7 l) (q7 l) 2).length=0\/(uX l (b7 l) (q7 l) 2).length=1\/(uX l (b7 l) (q7 l) 2).length=2:=ω;all_goals rw[h];decide
    obtain⟨K,hK⟩ :∃K:Nat,OQ l=K:= ⟨(OQ l).toNat,ω⟩;have cp:K<65536:=ω;rw[show(OQ l).toNat=K by omega]at r;have HK:=η hK;clear hK IQ
    go_wp2_with fail;obtain⟨Z,hZ⟩ :∃Z,Z=W.heap.size:= ⟨_,rfl⟩;have q:=S.lit hZ;rw[<-hZ];clear hZ;refine(ql _ B g n c _ 2 A l _ q.P ω).mono ?_;rintro E Gi ⟨A2,m2,c2,rfl,bi,cl,a,hC⟩;replace a:si Gi B g A n c l (b8 l) (q8 l):=a;replace q:=q.step a hC;clear a hC
    go_wp2_with fail;refine(mZ _ B m2 c2 A2 _ bi (ε bi.1 (C3 l (b7 l) (q7 l) 2)) (Ge hb _ _ _)).mono ?_;rintro E OP ⟨rfl,bI,rfl⟩;rw[show oK (uX l (b7 l) (q7 l) 2)=OQ l from rfl,HK.out];replace q:=q.drewN bI
    go_wp2_with fail;refine(ql _ B g n c _ K A l _ q.P ω).mono ?_;rintro E Kn ⟨A3,m3,c3,rfl,be,ck,a,hC⟩;replace q:=q.step a hC;clear a hC;have cn:m3<=K:=by rw[be.1];exact C3 _ _ _ _
    obtain⟨i0,hi,Y,I,V⟩ :=aL gH;have Hi:=η hi;have i7:=η Y;have gp:=η I;have i9:=η V;clear hi Y I V;have cd:g<Kn.heap.size:=q.bound
    go_wp2_with (at_builtin;go_must (refine bq .u8 (g+1) 5 i0 1 rfl (.tmp 60) (.tmp 66) _ rfl Tryz.underlying22 Hi.out i7.out gp.out i9.out rfl q.own rfl be ω ω cd ?_))
    intro A4 c4 ci bL ce dT;have S3:=q.grown ce bL;have r5:=S3.H.cell (i:=5) ω;have f5:=S3.H.frozen' (i:=5) ω;unfold hf at r5;go_wp2;go_meet;refine⟨A4,m3,c4, ?_⟩;rw[r.out.1,r.out.2.1,r.out.2.2];exact S3.bK (i:=5) ω (.slice A4 m3 c4) (λj L=>by rcases qU L with rfl | rfl | rfl | rfl | rfl | rfl | rfl | rfl | rfl | rfl | rfl <;> rfl)
 case rest=>
 clear S W;obtain⟨X,m,cc,S⟩ :=hcut
 have J:∀e:Int,(e=0->0<l.length)->e=0->∃ad,A=some ad:=λe T d=>by
  have h3:=T d;rw[<-hr.1]at h3;obtain⟨ad,h4,_⟩ :=hr.2 h3;exact⟨ad,h4⟩
 have r9:=S.H.cell (i:=9) ω;unfold hf at r9;dsimp only at r9;rw[HE.2.1]at r9
 go_upto_if 70 with fail
 go_cut [] (λwx=>PS w wx B g R A n c l (rR l) (uS l) { d with ex:= .slice X m cc,nm:=strOf (yD l) } X m cc (vO l))
 case first=>
  cases f:bit F 8 with
  | false=>
    have r:Hid (rR l=b9 l/\uS l=q9 l/\yD l=[]):=by
     refine⟨?_, ?_, ?_⟩
     · unfold rR;rw[u.out,f];rfl
     · unfold uS;rw[u.out,f];rfl
     unfold yD;rw[u.out,f];rfl
    go_wp2;go_meet;rw[r.out.1,r.out.2.1,r.out.2.2]
    exact(by have h9: { d with ex:= .slice X m cc,nm:=strOf [] }={ d with ex:= .slice X m cc }:=by rw[ae.out];rfl
             rw[h9];exact S)
  | true=>
    have r:Hid (rR l=RG l (b9 l) (q9 l)/\uS l=JW l (b9 l) (q9 l)/\yD l=XJ l (b9 l) (q9 l)):=by
     refine⟨?_, ?_, ?_⟩
     · unfold rR;rw[u.out,f];rfl
     · unfold uS;rw[u.out,f];rfl
     unfold yD;rw[u.out,f];rfl
    go_wp2_with fail;refine(DW _ B g n c _ A l _ S.P (J _ MB) hb).mono ?_;rintro E bB ⟨rfl,a,hC⟩;have q:=S.step a hC;clear a hC;have r7:=q.H.cell (i:=7) ω;have f7:=q.H.frozen' (i:=7) ω;unfold hf at r7;go_wp2;go_meet;rw[r.out.1,r.out.2.1,r.out.2.2];exact q.bK (i:=7) ω _ (λj L=>by rcases qU L with rfl | rfl | rfl | rfl | rfl | rfl | rfl | rfl | rfl | rfl | rfl <;> rfl)
 case rest=>
 clear S r9;have S:=hcut;clear hcut;have xd:=S.H.cell (i:=10) ω;unfold hf at xd;dsimp only at xd;rw[HE.2.2.1]at xd
 go_upto_if 75 with fail
 go_cut [] (λwx=>PS w wx B g R A n c l (mA l) (rP l) { d with ex:= .slice X m cc,nm:=strOf (yD l),cm:=strOf (D4 l) } X m cc (vO l))
 case first=>
  cases f:bit F 16 with
  | false=>
    have r:Hid (mA l=rR l/\rP l=uS l/\D4 l=[]):=by
     refine⟨?_, ?_, ?_⟩
     · unfold mA;rw[u.out,f];rfl
     · unfold rP;rw[u.out,f];rfl
     unfold D4;rw[u.out,f];rfl
    go_wp2;go_meet;rw[r.out.1,r.out.2.1,r.out.2.2]
    exact(by have h9: { d with ex:= .slice X m cc,nm:=strOf (yD l),cm:=strOf [] }={ d with ex:= .slice X m cc,nm:=strOf (yD l) }:=by rw[ae.out];rfl
             rw[h9];exact S)
  | true=>
    have r:Hid (mA l=RG l (rR l) (uS l)/\rP l=JW l (rR l) (uS l)/\D4 l=XJ l (rR l) (uS l)):=by
     refine⟨?_, ?_, ?_⟩
     · unfold mA;rw[u.out,f];rfl
     · unfold rP;rw[u.out,f];rfl
     unfold D4;rw[u.out,f];rfl
    go_wp2_with fail;refine(DW _ B g n c _ A l _ S.P (J _ a0P) hb).mono ?_;rintro E bB ⟨rfl,a,hC⟩;have q:=S.step a hC;clear a hC;have r8:=q.H.cell (i:=8) ω;have f8:=q.H.frozen' (i:=8) ω;unfold hf at r8;go_wp2;go_meet;rw[r.out.1,r.out.2.1,r.out.2.2];exact q.bK (i:=8) ω _ (λj L=>by rcases qU L with rfl | rfl | rfl | rfl | rfl | rfl | rfl | rfl | rfl | rfl | rfl <;> rfl)
 case rest=>
 clear S xd;have S:=hcut;clear hcut;have r1:wc.cell? ⟨R,1,none⟩ =some (.bool d.sm):=S.H.cell (i:=1) ω;have c2:wc.cell? ⟨g,2,none⟩ =some (.int .i64 (rP l)):=S.P.cell.cell (i:=2) ω;rw[HE.2.2.2]at r1;obtain⟨C,an⟩ :=ν (rP l);rw[an]at c2;have cg:=η an;clear an;have O:Hid ((bit F 2=true/\C=0)↔smC l):=by show _↔_;unfold smC;rw[u.out,cg.out]
 go_upto_region 17 with fail
 go_cut [87] (λs wx=>s= .bool (decide (bit F 2=true/\C=0))/\wx=wc)
 case first=>
  cases ao:bit F 2 with
  | false=>
    go_wp2;go_meet;exact⟨aN Value.bool (by simp [ao]),rfl⟩
  | true=>
    by_cases N:C=0
    · rw[N]at c2;go_wp2;go_meet;exact⟨aN Value.bool (by simp [ao,N]),rfl⟩
    go_wp2;go_meet;exact⟨aN Value.bool (by simp [ao,N]),rfl⟩
 case rest=>
 obtain⟨rfl,rfl⟩ :=hcut
 go_upto_if 87 with fail
 go_cut [] (λwx=>PS w wx B g R A n c l (vk l) (kg l) { d with ex:= .slice X m cc,nm:=strOf (yD l),cm:=strOf (D4 l) } X m cc (vO l))
 case first=>
  by_cases hs:bit F 2=true/\C=0
  rotate_left
  · have hd:decide (bit F 2=true/\C=0)=false:=aQ hs
    have r:Hid (vk l=mA l/\kg l=rP l):=by
     refine⟨?_, ?_⟩
     · unfold vk;rw[aa (λh=>hs (O.out.2 h))]
     unfold kg;rw[aa (λh=>hs (O.out.2 h))]
    rw[hd];go_wp2;go_meet;rw[r.out.1,r.out.2];exact S
  have hd:decide (bit F 2=true/\C=0)=true:=aS hs;rw[hd];have c1:wc.cell? ⟨g,1,none⟩ =some (.int .i64 (mA l)):=S.P.cell.cell (i:=1) ω;have ca:=S.P.le;obtain⟨i0,hi,Y,I,V⟩ :=aL gH;have oJ:=dQ (P:=Tryz.prog) 22 5 Tryz.underlying22 hi I A n c (j:=mA l) ω;clear hi Y I V;have aE:=bT.pre S.P.rd (j:=mA l) ca;have yq:B<=wc.heap.size:=by have:=S.P.cell.lt;have:=S.P.lo;omega
  have yV:=ku (tF (x:=iz 0) (l:=l.take (mA l)) (ku ω) (gv (mj hb _)) (mA l));have pE:Hid (vk l=xe l (mA l) (rP l) 2):=by show _=_;unfold vk;rw[af (O.out.1 hs)]
  have QA:Hid (kg l=if o0 l (mA l) (rP l) 2=0/\oK (uX l (mA l) (rP l) 2)≠EH l then 4 else o0 l (mA l) (rP l) 2):=by show _=_;unfold kg;rw[af (O.out.1 hs)]
  go_wp2_with fail;refine(zt 0 A (mA l) c B (l.take (mA l)) _ aE yq (gv (mj hb _)) ω ω).mono ?_;rintro E ch ⟨rfl,uC⟩;have q:=S.below uC;have Q:=a2w yV;rw[show iz (mq (iz 0) (l.take (mA l)) (mA l))%65536=EH l from rfl]at Q;generalize iz (mq (iz 0) (l.take (mA l)) (mA l))=cv at Q⊢;clear uC yV aE
  go_wp2_with fail;refine(ql _ B g n c _ 2 A l _ q.P ω).mono ?_;rintro E ah ⟨A5,m5,c5,rfl,rL,cj,a,hC⟩;replace q:=q.step a hC;clear a hC;have k2:ah.cell? ⟨g,2,none⟩ =some (.int .i64 (o0 l (mA l) (rP l) 2)):=q.P.cell.cell (i:=2) ω;have z2:=q.P.cell.frozen' (i:=2) ω;have Kj:=mZ ah B m5 c5 A5 _ rL (ε rL.1 (C3 l (mA l) (rP l) 2)) (Ge hb _ _ _);obtain⟨e',bp⟩ :=ν (o0 l (mA l) (rP l) 2);obtain⟨y,hy⟩ :=ν (oK (uX l (mA l) (rP l) 2));obtain⟨v,hv⟩ :=ν (EH l);rw[bp]at k2 QA q;rw[hy]at Kj QA;rw[hv]at Q QA⊢;clear Q HE O r1 c2 c1 oJ hd;clear bp hy hv;by_cases h0:e'=0
  rotate_left
  · have r:Hid (kg l=e'):=by show _=_;rw[QA.out,aa (λh=>h0 h.1)]
    go_wp2;go_meet;rw[pE.out,r.out];exact q
  subst h0;by_cases al:y=v
  · have r:Hid (kg l=0):=by show _=_;rw[QA.out,aa (λh=>h.2 al)]
    subst al
    go_wp2_with fail;refine Kj.mono ?_;rintro E bx ⟨rfl,U,rfl⟩;have S3:=q.drewN U;go_wp2;go_meet;rw[pE.out,r.out];exact S3
  have r:Hid (kg l=4):=by show _=_;rw[QA.out,af ⟨rfl,al⟩]
  go_wp2_with fail;refine Kj.mono ?_;rintro E bx ⟨rfl,U,rfl⟩;have S3:=q.drewN U;go_wp2;go_meet;rw[pE.out,r.out];exact S3.step (S3.P.fault 4) ((bk.refl (ah.drewN U) (λk=>k=g)).setCell (p:= ⟨g,2,none⟩) (.inl rfl) _)
 case rest=>
 clear S r1 c2;have S:=hcut;clear hcut;have k1:wc.cell? ⟨g,1,none⟩ =some (.int .i64 (vk l)):=S.P.cell.cell (i:=1) ω;have k2:wc.cell? ⟨g,2,none⟩ =some (.int .i64 (kg l)):=S.P.cell.cell (i:=2) ω;have cs:=η HE;clear HE;have Sl:¬g=R:=by have:=G.out;omega
 have co:¬R=g:=by have:=G.out;omega
 by_cases Ie:kg l=0
 · rw[Ie]at k2;go_upto_region 24 with fail
   go_cut [3,4] (λx y wx=>x= .int .i64 (vk l)/\y= .int .i64 0/\PS w wx B g R A n c l (vk l) (kg l) { d with ex:= .slice X m cc,nm:=strOf (yD l),cm:=strOf (D4 l) } X m cc (vO l))
   case first=>
    have r0:wc.cell? ⟨R,0,none⟩ =some (.bool d.tx):=S.H.cell (i:=0) ω;have f0:=S.H.frozen' (i:=0) ω;have r1:wc.cell? ⟨R,1,none⟩ =some (.bool d.sm):=S.H.cell (i:=1) ω;have f1:=S.H.frozen' (i:=1) ω;have r2:wc.cell? ⟨R,2,none⟩ =some (.int .u32 d.tm):=S.H.cell (i:=2) ω;have f2:=S.H.frozen' (i:=2) ω;have r3:wc.cell? ⟨R,3,none⟩ =some (.int .u8 d.fl):=S.H.cell (i:=3) ω;have f3:=S.H.frozen' (i:=3) ω;have r4:wc.cell? ⟨R,4,none⟩ =some (.int .u8 d.sy):=S.H.cell (i:=4) ω;have f4:=S.H.frozen' (i:=4) ω;have r5:wc.cell? ⟨R,5,none⟩ =some (.slice X m cc):=S.H.cell (i:=5) ω;have f5:=S.H.frozen' (i:=5) ω;have r6:wc.cell? ⟨R,6,none⟩ =some (.bool d.hE):=S.H.cell (i:=6) ω;have f6:=S.H.frozen' (i:=6) ω;have r7:wc.cell? ⟨R,7,none⟩ =some (.string (strOf (yD l))):=S.H.cell (i:=7) ω;have f7:=S.H.frozen' (i:=7) ω;have r8:wc.cell? ⟨R,8,none⟩ =some (.string (strOf (D4 l))):=S.H.cell (i:=8) ω;have f8:=S.H.frozen' (i:=8) ω;have r9:wc.cell? ⟨R,9,none⟩ =some (.bool d.hN):=S.H.cell (i:=9) ω;have f9:=S.H.frozen' (i:=9) ω;have xd:wc.cell? ⟨R,10,none⟩ =some (.bool d.hC):=S.H.cell (i:=10) ω;have bt:=S.H.frozen' (i:=10) ω;go_region
    all_goals
     go_wp2;go_meet;exact⟨rfl,rfl,(S.a1Z { d with ex:= .slice X m cc,nm:=strOf (yD l),cm:=strOf (D4 l) } _ _ _ _ _ _ _ _ _ _ _ rfl rfl rfl rfl rfl rfl rfl rfl rfl rfl rfl).drew⟩
   case rest=>
   clear S k1 k2;obtain⟨rfl,rfl,S⟩ :=hcut
   go_step
   apply wp_ret
   refine bj (yH S.H rfl rfl rfl) rfl ?_
   have Q:m<=cc/\cc<=maxLen:=by
    rcases S.own.2 with ⟨_,T,d⟩ | ⟨_,_,_,_,_,T,d,_⟩
    · omega
    exact⟨T,d⟩
   refine⟨X,m,cc,vO l,Q.1,Q.2,S.own.rd,λk hk=>by have:=(S.own.2.lt hk).1;have:=G.out;have:=D.out;omega,D.out▸S.b, .inl ⟨Ie,rfl, ?_⟩⟩;rw[ae.out,<-u.out];rfl
 obtain⟨cr,am⟩ :=ν (kg l);rw[am]at k2 Ie;have bv:=η am;clear am
 go_wp2_with fail;have r0:wc.cell? ⟨R,0,none⟩ =some (.bool d.tx):=S.H.cell (i:=0) ω;have f0:=S.H.frozen' (i:=0) ω;have r1:wc.cell? ⟨R,1,none⟩ =some (.bool d.sm):=S.H.cell (i:=1) ω;have f1:=S.H.frozen' (i:=1) ω;have r2:wc.cell? ⟨R,2,none⟩ =some (.int .u32 d.tm):=S.H.cell (i:=2) ω;have f2:=S.H.frozen' (i:=2) ω;have r3:wc.cell? ⟨R,3,none⟩ =some (.int .u8 d.fl):=S.H.cell (i:=3) ω;have f3:=S.H.frozen' (i:=3) ω;have r4:wc.cell? ⟨R,4,none⟩ =some (.int .u8 d.sy):=S.H.cell (i:=4) ω;have f4:=S.H.frozen' (i:=4) ω;have r5:wc.cell? ⟨R,5,none⟩ =some (.slice X m cc):=S.H.cell (i:=5) ω;have f5:=S.H.frozen' (i:=5) ω;have r6:wc.cell? ⟨R,6,none⟩ =some (.bool d.hE):=S.H.cell (i:=6) ω;have f6:=S.H.frozen' (i:=6) ω;have r7:wc.cell? ⟨R,7,none⟩ =some (.string (strOf (yD l))):=S.H.cell (i:=7) ω;have f7:=S.H.frozen' (i:=7) ω;have r8:wc.cell? ⟨R,8,none⟩ =some (.string (strOf (D4 l))):=S.H.cell (i:=8) ω;have f8:=S.H.frozen' (i:=8) ω;have r9:wc.cell? ⟨R,9,none⟩ =some (.bool d.hN):=S.H.cell (i:=9) ω;have f9:=S.H.frozen' (i:=9) ω;have xd:wc.cell? ⟨R,10,none⟩ =some (.bool d.hC):=S.H.cell (i:=10) ω;have bt:=S.H.frozen' (i:=10) ω;go_region
 all_goals
  have q:=(S.a1Z hz _ _ _ _ _ _ _ _ _ _ _ rfl rfl rfl rfl rfl rfl rfl rfl rfl rfl rfl).drew;simp only [Exit.then]
  go_step
  apply wp_ret
  simp only [Exit.then];refine bj (yH q.H rfl rfl rfl) rfl ?_
  have Q:m<=cc/\cc<=maxLen:=by
   rcases q.own.2 with ⟨_,T,d⟩ | ⟨_,_,_,_,_,T,d,_⟩
   · omega
   exact⟨T,d⟩
  refine⟨X,m,cc,vO l,Q.1,Q.2,q.own.rd,λk hk=>by have:=(q.own.2.lt hk).1;have:=G.out;have:=D.out;omega,D.out▸q.b, .inr ⟨λh=>Ie (bv.out▸h), ?_⟩⟩;rw[bv.out];rfl
theorem rv {l:aj} {a:Nat} {e:Int} {m:Nat} (h:e≠0):o0 l a e m=e:=by unfold o0;rw[aa (λb=>h b.1)]
theorem tu {l:aj} {a m:Nat} (h:l.length-a<m):o0 l a 0 m=5:=by unfold o0;rw[af ⟨rfl,h⟩]
theorem jM {l:aj} {a m:Nat} (h:m<=l.length-a):o0 l a 0 m=0/\xe l a 0 m=a+m/\uX l a 0 m=(l.drop a).take m:=by
 have b:o0 l a 0 m=0:=by unfold o0;rw[aa (λc=>ω)]
 refine⟨b, ?_, ?_⟩
 · unfold xe;rw[af b]
 unfold uX;rw[af b]
theorem Ws {l:aj} {a:Nat} (h:1<=l.length-a):Oo l a 0=ix l a:=by unfold Oo;rw[af (jM h).1]
theorem XL {l:aj} {a:Nat} {e c:Int} (h:e≠0):GG l a e c=e:=by unfold GG;rw[rv h,aa (λb=>h b.1)]
theorem N3 {l:aj} {a:Nat} {c:Int} (h:l.length<=a):GG l a 0 c=5:=by unfold GG;rw[tu ω,aa (λb=>by have:=b.1;omega)]
theorem Gl {l:aj} {a:Nat} {c:Int} (h:a<l.length) (h':ix l a≠c):GG l a 0 c=2:=by unfold GG;rw[af ⟨(jM ω).1,h'⟩]
theorem XM {l:aj} {a:Nat} {c:Int} (h:a<l.length) (h':ix l a=c):GG l a 0 c=0:=by unfold GG;rw[aa (λb=>b.2 h')];exact(jM ω).1
theorem a8s {l:aj} (h:rP l≠0):kg l=rP l:=by unfold kg;rw[aa (λa=>h a.2)]
theorem a8r {l:aj} (h:uS l≠0):kg l=uS l:=by
 have e:rP l=uS l:=by unfold rP JW;split <;> first | rfl | rw[aa h]
 rw[<-e];exact a8s (by rw[e];exact h)
theorem st9 {l:aj} (h:q9 l≠0):kg l=q9 l:=by
 have e:uS l=q9 l:=by unfold uS JW;split <;> first | rfl | rw[aa h]
 rw[<-e];exact a8r (by rw[e];exact h)
theorem st7 {l:aj} (h:q7 l≠0):kg l=q7 l:=by
 have e:q9 l=q7 l:=by
  unfold q9;split
  · have:q8 l=q7 l:=rv h;rw[this,rv h]
  rfl
 rw[<-e];exact st9 (by rw[e];exact h)
theorem st5 {l:aj} (h:q5 l≠0):kg l=q5 l:=by
 have a:q6 l=q5 l:=rv h;have b:q7 l=q6 l:=rv (by rw[a];exact h);rw[<-a,<-b];exact st7 (by rw[b,a];exact h)
theorem st6 {l:aj} (h:q6 l≠0):kg l=q6 l:=by
 have a:q7 l=q6 l:=rv h;rw[<-a];exact st7 (by rw[a];exact h)
theorem st4 {l:aj} (h:q4 l≠0):kg l=q4 l:=by
 have e:q5 l=q4 l:=rv h;rw[<-e];exact st5 (by rw[e];exact h)
theorem Ug {e f:Int} (h:e≠0):Zj e f=e:=by unfold Zj;rw[aa (λa=>h a.1)]
theorem st3 {l:aj} (h:q3 l≠0):kg l=q3 l:=by
 have e:q4 l=q3 l:=by unfold q4;rw[rv h,Ug h]
 rw[<-e];exact st4 (by rw[e];exact h)
theorem Xf {l:aj} (h:q2 l≠0):kg l=q2 l:=by
 have e:q3 l=q2 l:=XL h;rw[<-e];exact st3 (by rw[e];exact h)
theorem st1 {l:aj} (h:q1 l≠0):kg l=q1 l:=by
 have e:q2 l=q1 l:=XL h;rw[<-e];exact Xf (by rw[e];exact h)
def Bp:aj:=[31,139,8]
def pre (l:aj) (k:Nat):Prop:=∀i,i<k->i<l.length/\ix l i=ix Bp i
theorem a4F {l:aj} (h:pre l 1):q1 l=0/\b1 l=1:= ⟨XM (h 0 ω).1 (h 0 ω).2,(jM (τ ((h 0 ω).1))).2.1⟩
theorem a4G {l:aj} (h:pre l 2):q2 l=0/\b2 l=2:=by
 have b:=a4F (λi hi=>h i ω);have a:=h 1 ω;unfold q2 b2;rw[b.1,b.2];exact⟨XM a.1 a.2,(jM ω).2.1⟩
theorem a0K {l:aj} (h:pre l 3):q3 l=0/\b3 l=3:=by
 have b:=a4G (λi hi=>h i ω);have a:=h 2 ω;unfold q3 b3;rw[b.1,b.2];exact⟨XM a.1 a.2,(jM ω).2.1⟩
theorem OB {l:aj} {k:Nat} (c:k<3) (h:pre l k) (b:l.length<=k):kg l=5:=by
 obtain rfl | rfl | rfl:k=0\/k=1\/k=2:=ω
 · have e:q1 l=5:=N3 b;rw[st1 ω,e]
 · have a:=a4F h;have e:q2 l=5:=by unfold q2;rw[a.1,a.2];exact N3 b
   rw[Xf ω,e]
 have a:=a4G h;have e:q3 l=5:=by unfold q3;rw[a.1,a.2];exact N3 b
 rw[st3 ω,e]
theorem WL {l:aj} {k:Nat} (d:k<3) (h:pre l k) (c:k<l.length) (b:ix l k≠ix Bp k):kg l=2:=by
 obtain rfl | rfl | rfl:k=0\/k=1\/k=2:=ω
 · have e:q1 l=2:=Gl c b;rw[st1 ω,e]
 · have a:=a4F h;have e:q2 l=2:=by unfold q2;rw[a.1,a.2];exact Gl c b
   rw[Xf ω,e]
 have a:=a4G h;have e:q3 l=2:=by unfold q3;rw[a.1,a.2];exact Gl c b
 rw[st3 ω,e]
theorem b14 {l:aj} (h:pre l 3) (b:l.length<4):kg l=5:=by
 have a:=a0K h;have e:q4 l=5:=by unfold q4;rw[a.1,a.2,tu ω,Ug ω]
 rw[st4 ω,e]
theorem TT {l:aj} (h:pre l 3) (b:4<=l.length):fB l=ix l 3:=by
 have a:=a0K h;unfold fB;rw[a.1,a.2,Ws ω]
theorem Ze {l:aj} (h:pre l 3) (b:4<=l.length) (hf:31<ix l 3):kg l=2:=by
 have a:=a0K h;have e:q4 l=2:=by unfold q4 Zj;rw[TT h b,a.1,a.2,(jM ω).1,af ⟨rfl,hf⟩]
 rw[st4 ω,e]
theorem TZ {l:aj} (h:pre l 3) (b:4<=l.length) (hf:¬31<ix l 3):q4 l=0/\b4 l=4:=by
 have a:=a0K h;unfold q4 b4 Zj;rw[TT h b,a.1,a.2,(jM ω).1,(jM ω).2.1,aa (λc=>hf c.2)];exact⟨rfl,rfl⟩
theorem a80 {l:aj} (h:pre l 3) (c:4<=l.length) (hf:¬31<ix l 3) (g:l.length<10):kg l=5:=by
 have h4:=TZ h c hf;by_cases i:l.length<8
 · have e:q5 l=5:=by unfold q5;rw[h4.1,h4.2,tu ω]
   rw[st5 ω,e]
 have b:q5 l=0:=by unfold q5;rw[h4.1,h4.2];exact(jM ω).1
 have a:b5 l=8:=by unfold b5;rw[h4.1,h4.2];exact(jM ω).2.1
 by_cases h7:l.length<9
 · have e:q6 l=5:=by unfold q6;rw[b,a,tu ω]
   rw[st6 ω,e]
 have f:q6 l=0:=by unfold q6;rw[b,a];exact(jM ω).1
 have d:b6 l=9:=by unfold b6;rw[b,a];exact(jM ω).2.1
 have e:q7 l=5:=by unfold q7;rw[f,d,tu ω]
 rw[st7 ω,e]
def ten (l:aj):Prop:=q7 l=0/\b7 l=10/\fB l=ix l 3/\Xz l=oK ((l.drop 4).take 4)/\TX l=ix l 8/\Yl l=ix l 9
theorem Xx {l:aj} (h:pre l 3) (hf:¬31<ix l 3) (e:10<=l.length):ten l:=by
 have h4:=TZ h ω hf;have d:q5 l=0:=by unfold q5;rw[h4.1,h4.2];exact(jM ω).1
 have b:b5 l=8:=by unfold b5;rw[h4.1,h4.2];exact(jM ω).2.1
 have c:q6 l=0:=by unfold q6;rw[d,b];exact(jM ω).1
 have a:b6 l=9:=by unfold b6;rw[d,b];exact(jM ω).2.1
 refine⟨?_, ?_,TT h ω, ?_, ?_, ?_⟩
 · unfold q7;rw[c,a];exact(jM ω).1
 · unfold b7;rw[c,a];exact(jM ω).2.1
 · unfold Xz;rw[h4.1,h4.2,(jM ω).2.2]
 · unfold TX;rw[d,b,Ws ω]
 unfold Yl;rw[c,a,Ws ω]
theorem TR {l:aj} (h:ten l) (a:bit (fB l) 4=false):q9 l=0/\b9 l=10/\vO l=[]:=by
 unfold q9 b9 vO;simp [a,h.1,h.2.1]
theorem Z9 {l:aj} (h:ten l) (a:bit (fB l) 4=true) (c:l.length<12):kg l=5:=by
 have b:q8 l=5:=by unfold q8;rw[h.1,h.2.1,tu ω]
 have e:q9 l=5:=by unfold q9;rw[a,af rfl,b,rv ω]
 rw[st9 ω,e]
theorem a1l {l:aj} (h:ten l) (b:12<=l.length):q8 l=0/\b8 l=12/\OQ l=oK ((l.drop 10).take 2):=by
 have:=jM (l:=l) (a:=10) (m:=2) ω;unfold q8 b8 OQ;rw[h.1,h.2.1];exact⟨this.1,this.2.1,by rw[this.2.2]⟩
theorem TQ {l:aj} (h:ten l) (b:bit (fB l) 4=true) (a:12<=l.length) {N:Nat} (hN:oK ((l.drop 10).take 2)=N) (c:l.length<12+N):kg l=5:=by
 have e:=a1l h a;have e:q9 l=5:=by unfold q9;rw[b,af rfl,e.1,e.2.1,e.2.2,hN];exact tu ω
 rw[st9 ω,e]
theorem TS {l:aj} (h:ten l) (c:bit (fB l) 4=true) {N:Nat} (b:12<=l.length) (hN:oK ((l.drop 10).take 2)=N) (d:12+N<=l.length):q9 l=0/\b9 l=12+N/\vO l=(l.drop 12).take N:=by
 have e:=a1l h b;have:=jM (l:=l) (a:=12) (m:=N) ω;unfold q9 b9 vO;rw[c,af rfl,af rfl,af rfl,e.1,e.2.1,e.2.2,hN];exact this
theorem Wc {l:aj} (h:q9 l=0) (a:bit (fB l) 8=false):uS l=0/\rR l=b9 l/\yD l=[]:=by
 unfold uS rR yD;simp [a,h]
theorem a0D {l:aj} (h:q9 l=0) (b:bit (fB l) 8=true) {e:Int} (a:(rz (l.drop (b9 l))).2.2=e) (d:e≠0):kg l=e:=by
 have c:uS l=e:=by unfold uS JW;rw[b,af rfl,af h,a]
 rw[a8r ω,c]
theorem Wd {l:aj} (h:q9 l=0) (b:bit (fB l) 8=true) (a:(rz (l.drop (b9 l))).2.2=0):uS l=0/\rR l=b9 l+(rz (l.drop (b9 l))).2.1/\yD l=(rz (l.drop (b9 l))).1:=by
 unfold uS rR yD JW RG XJ;simp [b,h,a]
theorem Tx {l:aj} (h:uS l=0) (a:bit (fB l) 16=false):rP l=0/\mA l=rR l/\D4 l=[]:=by
 unfold rP mA D4;simp [a,h]
theorem YV {l:aj} (h:uS l=0) (b:bit (fB l) 16=true) {e:Int} (a:(rz (l.drop (rR l))).2.2=e) (d:e≠0):kg l=e:=by
 have c:rP l=e:=by unfold rP JW;rw[b,af rfl,af h,a]
 rw[a8s ω,c]
theorem Ty {l:aj} (h:uS l=0) (b:bit (fB l) 16=true) (a:(rz (l.drop (rR l))).2.2=0):rP l=0/\mA l=rR l+(rz (l.drop (rR l))).2.1/\D4 l=(rz (l.drop (rR l))).1:=by
 unfold rP mA D4 JW RG XJ;simp [b,h,a]
theorem Xp {l:aj} (h:rP l=0) (a:bit (fB l) 2=false):kg l=0/\vk l=mA l:=by
 have:¬smC l:=λb=>by have:=b.1;rw[a]at this;cases this
 unfold kg vk;rw[aa this,aa this];exact⟨h,rfl⟩
theorem a15 {l:aj} (h:rP l=0) (a:bit (fB l) 2=true) (c:l.length<mA l+2):kg l=5:=by
 unfold kg;rw[af ⟨a,h⟩,h,tu ω,aa (λb=>by have:=b.1;omega)]
theorem a14 {l:aj} (h:rP l=0) (c:bit (fB l) 2=true) (d:mA l+2<=l.length) (b:oK ((l.drop (mA l)).take 2)≠EH l):kg l=4:=by
 have:=jM (l:=l) (a:=mA l) (m:=2) ω;unfold kg;rw[af ⟨c,h⟩,h,this.2.2,af ⟨this.1,b⟩]
theorem Xq {l:aj} (h:rP l=0) (d:bit (fB l) 2=true) (f:mA l+2<=l.length) (c:oK ((l.drop (mA l)).take 2)=EH l):kg l=0/\vk l=mA l+2:=by
 have:=jM (l:=l) (a:=mA l) (m:=2) ω;have b:smC l:= ⟨d,h⟩;unfold kg vk;rw[af b,af b,h,this.2.2,this.1,aa (λe=>e.2 c)];exact⟨rfl,this.2.1⟩
theorem Gh (r:aj):(rz r).2.1<=r.length:=by
 unfold rz;split
 · show nz r+1<=_;omega
 split <;> exact aF _
def mb (H:List HV) (i:Nat):Value:=hf (H.getD (i/11) hz) (i%11)
def a4j (v:Value):Prop:=∃X m cc,v= .slice X m cc
theorem a3y {h:HV} (a:a4j h.ex) (i:Nat):(hf h i).oneCell'=true:=by
 obtain⟨X,m,cc,e⟩ :=a;unfold hf;split
 all_goals first | rfl | (rw[e];rfl)
theorem Fc {H:List HV} (h:∀x∈H,a4j x.ex) (i:Nat):(mb H i).oneCell'=true:=by
 refine a3y ?_ _;rw[aq];cases e:H[i/11]? with
 | none=>exact⟨none,0,0,rfl⟩
 | some v=>exact h v (cT e)
theorem Fb (D E:List HV) (i:Nat):cat (D.length*11) (mb D) (mb E) i=mb (D++E) i:=by
 unfold cat mb;by_cases h:i<D.length*11
 · rw[af h,aq,aq,bE ω]
 rw[aa h,aq,aq,bA ω,show(i-D.length*11)/11=i/11-D.length by omega,show(i-D.length*11)%11=i%11 by omega]
theorem AV:(Tryz.prog.info? 31).map (λi=>(i.zero,i.size,i.bytes))=some (some (.agg #[.bool false, .bool false, .int .u32 0, .int .u8 0, .int .u8 0, .slice none 0 0, .bool false, .string ByteArray.empty, .string ByteArray.empty, .bool false, .bool false]),11,88):=by kernel_rfl
theorem Ru {w:World} {e:Array Oper} {o:Oper} {a:Act} {K:Act->World->Prop} {Q:Exit->Act->World->Prop} {E:Prop} (b0:Nat) (i:TypeInfo) (l:Region.wanted o (yielded e a.tmps)=true) (s x:Operand)
  (v:o.op= .call { callee:= .builtin .append,args:= #[s,x],argTypes:= #[46, 46] }) (hi:Tryz.prog.info? 31 =some i) (hz:i.zero=some (.agg #[.bool false, .bool false, .int .u32 0, .int .u8 0, .int .u8 0, .slice none 0 0, .bool false, .string ByteArray.empty, .string ByteArray.empty, .bool false, .bool false]))
  (b:i.size=11) (p:i.bytes=88) {A:ay} {n c:Nat} {f f':Nat->Value} (t:a.eval s= .slice A n c) (k:Own w b0 31 11 A n c f)
  {B:Nat} {A':ay} {m c':Nat} (r:a.eval x= .slice A' m c') (u:Rd w B A' (m*11) f') (C:∀j,j<m*11->(f' j).oneCell'=true)
  (q:n+m<=1000000000000) (d:b0<=w.heap.size)
  (h:∀A2 c2 w2,Own w2 b0 31 11 A2 (n+m) c2 (cat (n*11) f f')->w.grownBy w2 (ak A)->(ak A2=ak A\/ak A2=some w.heap.size)->K (a.put o.dst (.slice A2 (n+m) c2)) w2):
  if Region.wanted o (yielded e a.tmps)=true then Oper.wp Tryz.prog o a w K Q else E:=by
 rw[af l];obtain⟨A2,c2,w2,g,z,y,h4⟩ :=ia (P:=Tryz.prog) w b0 46 o.type 31 i _ 11 88 Tryz.underlying46 hi hz b p rfl ω A n c _ k B A' m c' _ u C q ω d;unfold Oper.wp execOp;simp only [v,resolve,invoke,builtin,Sem.run_bind,Sem.run_pure,Result.andThen_ok,List.map_toArray,List.map_cons,List.map_nil,t,r,g];exact h A2 c2 w2 z y h4
theorem NW (w:World) (h:HV) (t:TypeId):Rd (w.alloc (.cells #[.bool h.tx, .bool h.sm, .int .u32 h.tm, .int .u8 h.fl, .int .u8 h.sy,h.ex, .bool h.hE, .string h.nm, .string h.cm, .bool h.hN, .bool h.hC] t)) (w.heap.size+1) (some ⟨w.heap.size,0,none⟩) (1*11) (mb [h]):=λ_=> ⟨_,rfl,σ,λi hi=>by
 rw[oh]
 have a:=Ar.new w #[.bool h.tx, .bool h.sm, .int .u32 h.tm, .int .u8 h.fl, .int .u8 h.sy,h.ex, .bool h.hE, .string h.nm, .string h.cm, .bool h.hN, .bool h.hC] t (m:=11) (f:=mb [h]) rfl (λi hi=>by
  rcases qU hi with rfl | rfl | rfl | rfl | rfl | rfl | rfl | rfl | rfl | rfl | rfl;all_goals rfl)
 exact a.cell ω⟩
theorem Qj {W:World} {K:Nat} {h:HV} (hA:Ar W K 11 (hf h)):W.cell? ⟨K,0,none⟩ =some (.bool h.tx)/\W.cell? ⟨K,1,none⟩ =some (.bool h.sm)/\W.cell? ⟨K,2,none⟩ =some (.int .u32 h.tm)/\W.cell? ⟨K,3,none⟩ =some (.int .u8 h.fl)/\W.cell? ⟨K,4,none⟩ =some (.int .u8 h.sy)/\W.cell? ⟨K,5,none⟩ =some h.ex/\W.cell? ⟨K,6,none⟩ =some (.bool h.hE)/\W.cell? ⟨K,7,none⟩ =some (.string h.nm)/\W.cell? ⟨K,8,none⟩ =some (.string h.cm)/\W.cell? ⟨K,9,none⟩ =some (.bool h.hN)/\W.cell? ⟨K,10,none⟩ =some (.bool h.hC):=
 ⟨hA.cell (i:=0) ω,hA.cell (i:=1) ω,hA.cell (i:=2) ω,hA.cell (i:=3) ω,hA.cell (i:=4) ω,hA.cell (i:=5) ω,hA.cell (i:=6) ω,hA.cell (i:=7) ω,hA.cell (i:=8) ω,hA.cell (i:=9) ω,hA.cell (i:=10) ω⟩
end Go.Proofs.YtdhmnlpfhfmpfaaGreat
