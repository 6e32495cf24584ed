/-
  part
-/
import Derived.Test.YtgiimmkmjpbecaaGreatPk33
set_option linter.unusedVariables false
set_option maxRecDepth 100000
set_option maxHeartbeats 8000000
namespace Go.Proofs.YtgiimmkmjpbecaaGreat
open Go.RowKit
theorem ES.push {w w1 w2:World} {b0:Nat} {y:Nat->Prop} {A A2:ax} {n cp c2:Nat} {H:List HV} {l:List (ag)} (h:ES w b0 y A n cp H l) (c:Below w.heap.size w w1) (x:ag) {X:ax} {m cc:Nat} (C:m<=cc) (p:cc<=maxLen) (s:bT .u8 w1 w1.heap.size X m (exL x))
  (t:∀k,ai X=some k->w.heap.size<=k) (E:b0<=w.heap.size) (g:bb w1 w2 (λk=>ai A=some k)) (B:Own w2 b0 48 11 A2 (n+1) c2 (cat (n*11) (AB H) (AB [Ga x (.slice X m cc)]))) (j:∀k,ai A2=some k->ai A=some k\/w1.heap.size<=k):
  ES w2 b0 (λk=>y k\/(0<m/\ai X=some k)) A2 (n+1) c2 (H++[Ga x (.slice X m cc)]) (l++[x]):=by
 have q:0<m->∀k,ai X=some k->k<w1.heap.size:=λb k a=>by
  obtain⟨d,rfl,D,_⟩ :=s.2 b;simp [ai]at a;omega
 have u:∀k,ai A=some k->k<w.heap.size:=λk a=>(h.own.lt a).2;refine⟨B.congr λi hi=>by rw[h.n_,ZX],by rw[h.n_,ae];rfl,by rw[ae,ae,h.len];rfl,λi hi=> ?_,λk a=> ?_⟩
 · rw[ae]at hi;by_cases o:i<l.length
   · obtain⟨K,z,r,J,I,G,F,v⟩ :=h.ex i o;refine⟨K,z,r, ?_,I,G, ?_,λd e b=> .inl (v d e b)⟩
     · rw[au,bR (by rw[h.len];exact o),au,bR o,<-au,<-au];exact J
     rw[au,bR o,<-au];have f:=(bb.bC (S:=λk=>ai A=some k) c).trans g λk a=> .inl a;exact(f.rp F (af _) (λb d e hF=>(h.xb _ (v d e b)).2.2 hF)).more f.size
   obtain rfl:i=l.length:=by simp at hi;omega
   refine⟨X,m,cc, ?_,C,p, ?_,λd e b=> .inr ⟨b,by rw[e];rfl⟩⟩
   · rw[au,bL (by rw[h.len];exact af _),h.len,au,bL (af _),dL];rfl
   rw[au,bL (af _),dL];exact(g.rp s (af _) (λb d e hF=>by have h5:=u _ hF;have h6:=t d.block (by rw[e];rfl);omega)).more g.size
 rcases a with a | ⟨b,a⟩
 · have f:=h.xb k a;refine⟨f.1,ε c.size g.size,λe=> ?_⟩;rcases j k e with h4 | h4
   · exact f.2.2 h4
   have:=c.size;omega
 have f:=t k a;have h4:=q b k a;refine⟨ω,τ g.size,λe=> ?_⟩;rcases j k e with h5 | h5
 · have:=u k h5;omega
 omega
theorem LX (w:World) (b0 g:Nat) (c:Nat->Nat) (Q:Nat->Prop) (Z:GR) (H:List HV) (z:List (ag)) (T:GT) (a:ag) (f:Nat) (h1:qW w b0 g c Q Z H z) (hp:Z.p=none) (mA:Z.sS=false) (u:∀k,c k=0) (hf:Z.l.length<f) (C:z.length+f<=1000001/\YU z.length Z.l)
  (hT:T=(a++(gz f Z.l Z.m (decide (0<z.length))).1,z++(gz f Z.l Z.m (decide (0<z.length))).2.1,(gz f Z.l Z.m (decide (0<z.length))).2.2)) (R:Z.en=true) (fg:Z.err=0) (hm:Z.m<=1000000000) (ln:Z.l.length<=1000000):
  Calls Tryz.prog 176 #[.pointer (some ⟨g,0,none⟩)] w (EI w b0 g (gX g c Q Z.A Z.Ah) T a (3*f+2)):=by
 obtain⟨f',rfl⟩ :∃f',f=f'+1:= ⟨f-1,ω⟩
 have bad:Hid (∀v w1,Below w.heap.size w w1->gz (f'+1) Z.l Z.m (decide (0<z.length))=([],[],v)->v≠0->EI w b0 g (gX g c Q Z.A Z.Ah) T a (3*(f'+1)+2) (.returned (.int .i64 v)) w1):=λv w1 hb e h0=>by
  have U:=hT;rw[e]at U;refine⟨v,c,Q,Z,H,z,3*(f'+1)+2,rfl,h1.keeps hb,GS.keeps (.inl ⟨hp,mA,u,f'+1,hf,C,rfl,hT⟩) hb,R,fg,hm,ln,Ext.of (bb.bC hb) (λk b=>(h1.qb k b).1) h1.low (λk b=> .inl b), .inr ⟨h0,by rw[U];simp,by rw[U];simp,by rw[U]⟩⟩
 have good:Hid (wH Z.l=0->¬(Z.l=[]/\0<z.length)->∀(w7:World) (G:Nat->Nat) (ab:Nat->Prop) (I:GR) (H':List HV) (bI gd:Nat) (M:DM) (S:DS),qW w7 b0 g G ab I H' (z++[Z.l])->I.p=some ⟨gd,0,none⟩->g+1<=bI->iy w7 bI gd G M S->ZIn (eL (Z.l.drop (Cz Z.l)) Z.m) ([]++M.out) M S->M.out.length<=70000->
   (I.m=Z.m/\I.Cf=0/\I.size=0/\I.sS=false/\I.A=none/\I.n=0/\I.cp=0/\I.l=[]/\I.en=true/\I.err=0)->Ext b0 w w7 (gX g c Q Z.A Z.Ah) (gX g G ab I.A I.Ah)->EI w b0 g (gX g c Q Z.A Z.Ah) T a (3*(f'+1)+2) (.returned (.int .i64 0)) w7):=by
  intro hq co w7 G ab I H' bI gd M S k1 k2 k3 k4 k5 k6 ⟨z1,z2,z3,z4,z5,z6,z7,z8,z9,cx⟩ k7;have U:=hT;rw[OI (by simpa using co) hq]at U;refine⟨0,G,ab,I,H',z++[Z.l],3*f'+4,rfl,k1, .inr ⟨bI,gd,M,S,Z.l.drop (Cz Z.l),Z.m,f',a,[],k2,k3,k4,λv hv=>h1.jc v (aW hv),by rw[ay];omega,by rw[ae];simp;have:=C.1;omega,hm, ⟨by rw[ae];simp, ?o⟩, ?_,by rw[z1];rfl,by rw[ak],by rw[z2];exact(Zd (s:=0) ω).symm,by rw[z3];rfl, .inl ⟨z4,rfl,z5,z6,z7,z8,k5,k6⟩⟩,z9,cx,by rw[z1];exact hm,by rw[z8];simp,k7, .inl ⟨rfl,ω⟩⟩
  case o=>
   rcases C.2 with h | ⟨r,e,ho⟩
   · exact absurd h co
   rw[e,(pJ r).2.1];exact ho _
  rw[U,av];rfl
 have ao:Z.nh=z.length:=h1.hdr.n_.trans h1.hdr.len;obtain⟨k0,ki, -, -, -, -,k6,k7, -⟩ :=h1.cells;have ho:=h1.own;have al:=h1.jc;have H1:=η h1;have HB:=η (⟨hf,C,hm,ln,u,hp,mA,R,fg⟩ :_/\_/\_/\_/\_/\_/\_/\_/\_);obtain⟨A,hA⟩ :=ν (Z.A);obtain⟨n,hn⟩ :=ν (Z.n);obtain⟨d,hd⟩ :=ν (Z.cp);obtain⟨l,hl⟩ :=ν (Z.l);obtain⟨nh,am⟩ :=ν (Z.nh);rw[hA,hn,hd,hl]at ho;rw[hA,hn,hd]at ki;rw[hl]at bad good al ln;rw[am]at k6 ao;rw[R]at k7;have fG:=ho.1;have eY:=ho.iT;have HZ:=η (⟨hA,hn,hd,hl,am⟩ :_/\_/\_/\_/\_);by_cases oY:n=0/\0<nh
 · obtain⟨rfl,h0⟩ :=oY;have an:l=[]:=aC fG.symm;have bG:=η (bad 8 w (aw _ _) (by rw[an,aX (by omega:0<z.length)];exact Ma _ _) δ);have db:(0:Int)<(nh:Int):=ω;clear bad good h1 ho fG hT hf C hA hn hd hl am ao an al eY ln hm hp mA u R fg
   go_in
   go_wp2_with fail;go_ret;exact bG
 have tK:¬(l=[]/\0<z.length):=λh=>oY ⟨by rw[fG,h.1];rfl,ω⟩;have q:(0<n)\/(n=0/\nh=0):=ω;obtain⟨Ah,bp⟩ :=ν (Z.Ah);obtain⟨ch,be⟩ :=ν (Z.ch);obtain⟨i1,hi,ce,cd,ca⟩ :=aL Vb;have HI:=η (⟨hi,ce,cd,ca⟩ :_/\_/\_/\_);obtain⟨i0,ji,cC,bM,cB⟩ :=aL gG
 obtain⟨rr,KV⟩ :∃r,l=[31,139,8,0,0,0,0,0,0,0]++r:=by
  rcases C.2 with h | ⟨r,e, -⟩
  · rw[hl]at h;exact absurd h tK
  exact⟨r,by rw[<-hl];exact e⟩
 have de:=η (Ni w w.heap.size n d A l ho.rd (af _) ω eY al rr KV);have hq:wH l=0:=by rw[KV];exact(pJ rr).1
 clear KV
 have h0:0<n:=by
  rcases q with h | ⟨h,_⟩
  · exact h
  have an:l=[]:=aC ω;rw[an]at hq;exact absurd hq δ
 clear q;have dj:=η (λw7 G ab I H' bI gd M S=>good.out hq tK w7 G ab I H' bI gd M S);obtain⟨J,bo⟩ :=ν (Cz l);have hJ:J<=n:=by rw[<-bo,fG];exact Oe l
 have oh:∀W,(Instr.slice 22 (.slice A n d) (some (.int .i64 (J:Int))) none none).run Tryz.prog W= .ok (.slice (dw A d J) (n-J) (d-J)) W:=λW=>cK (P:=Tryz.prog) 22 5 Tryz.underlying22 ji bM A n d hJ W;obtain⟨A9,UB⟩ :=ν (dw A d J);obtain⟨n9,aE⟩ :=ν (n-J);obtain⟨d9,bd⟩ :=ν (d-J);rw[UB,aE,bd]at oh;have eb:(0:Int)<=(J:Int)/\(J:Int)<=(n:Int)/\(n:Int)<=1000000:=ω;have HQ:=η hq;have HJ:=η (⟨bo,hJ,UB,aE,bd,fG,al,ln,eY⟩ :_/\_/\_/\_/\_/\_/\_/\_/\_);have O7:=η oh;have V:=η (⟨bp,be⟩ :_/\_);rw[bp,be]at k6;have dq:nh<=1000000:=by rw[ao];omega
 clear bad good h1 ho hT hf C hA hn hd hl am ao al eY ln hm hp mA u R fg oY tK fG bo UB aE bd hJ oh hi ce cd ca ji cC bM cB bp be
 try (have db:¬(n:Int)=0/\(0:Int)<(n:Int):=ω)
 try (have ec:((n:Int)==0)=false:=ξ)
 clear hq
 go_in
 go_wp2_with fail;refine de.mono ?_;rintro e w1 ⟨X,m,cc,xl,DU,ah,hr,hX,E,(⟨h0,ln,rfl⟩ | ⟨h0,_⟩)⟩
 case inr=>exact absurd HQ.out h0
 subst ln;obtain⟨hv,O⟩ :=ν (Ga l (.slice X m cc));have ap:hv.ex= .slice X m cc:=by rw[<-O];rfl
 rw[O,HJ.1]
 have cl:=λt=>Ar.new w1 #[.bool hv.tx, .bool hv.sm, .int .u32 hv.tm, .int .u8 hv.fl, .int .u8 hv.sy, .slice X m cc, .bool hv.hE, .string hv.nm, .string hv.cm, .bool hv.hN, .bool hv.hC] t (m:=11) (f:=hf hv) rfl (λi hi=>by
  rcases G0 hi with rfl | rfl | rfl | rfl | rfl | rfl | rfl | rfl | rfl | rfl | rfl;all_goals first | rfl | exact bf some ap.symm)
 have bt:=η (⟨DU,ah,hr,hX,E,O⟩ :_/\_/\_/\_/\_/\_);have da:g<w1.heap.size:=by have:=H1.cell.lt;have:=E.size;omega
 clear DU ah hr hX E h0;have Hm:=η ap;unfold hagg;rw[ap];clear ap O;go_upto_region 6 with fail
 obtain⟨o,ho⟩ :=ν ((Obj.cells #[.bool hv.tx, .bool hv.sm, .int .u32 hv.tm, .int .u8 hv.fl, .int .u8 hv.sy, .slice X m cc, .bool hv.hE, .string hv.nm, .string hv.cm, .bool hv.hN, .bool hv.hC] 48));have pY:=cl 48;have D:=bt.2.2.2.2.1.alloc bt.2.2.2.2.1.size o;have nM:Below w1.heap.size w1 (w1.alloc o):=(aw _ _).alloc (af _) o;rw[ho]at pY⊢;obtain⟨w2,ck⟩ :=ν (w1.alloc o);rw[ck]at pY D nM⊢;obtain⟨K,hK⟩ :=ν (w1.heap.size);rw[hK]at pY da⊢;have ea:¬K=g:=ω;have dY:¬g=K:=ω;obtain⟨r0,r1,r2,r3,r4,r5,r6,r7,r8,r9,WX⟩ :=QP pY;rw[Hm.out]at r5;have y:=H1.keeps D;obtain⟨g0,g1, -, -, -, -,g6, -⟩ :=y.cells;have z6:=y.Ae (i:=6) ω;obtain⟨N,hN⟩ :=ν (Z.nh);have dz:N<=1000000:=by rw[<-hN,HZ.2.2.2.2];omega
 rw[V.1,hN,V.2]at g6
 have cv:∀o,(w2.alloc o).cell? ⟨g,6,none⟩ =some (.slice Ah N ch):=λo=>by
  have h:=(y.cell.alloc o).az 6;rw[h,<-V.1,<-V.2,<-hN];rfl
 have ad:=y.hdr.own;rw[V.1,hN,V.2]at ad;have HN:=η hN;clear hN;have cD:b0<=w2.heap.size:=y.low;have bv:=η (⟨y,D,nM,hK⟩ :_/\_/\_/\_);have cW:=a01 w2 hv 48;rw[Hm.out]at cW;have dd:=cv (.cells #[.bool hv.tx, .bool hv.sm, .int .u32 hv.tm, .int .u8 hv.fl, .int .u8 hv.sy, .slice X m cc, .bool hv.hE, .string hv.nm, .string hv.cm, .bool hv.hN, .bool hv.hC] 48);clear cv;have FI:∀j,j<1*11->(AB [hv] j).oneCell'=true:=λj _=>ZY (λx hx=>by simp at hx;subst hx;exact⟨X,m,cc,Hm.out⟩) j;clear cl pY y D nM ck hK ho
 go_region_law
  ((refine Sd b0 i1 rfl (.tmp 42) (.tmp 44) rfl HI.1 HI.2.1 HI.2.2.1 HI.2.2.2 rfl (ad.alloc _) rfl cW FI ω ξ ?_)
   intro Y G w5 il jH fk;have nN:bb w2 w5 (λk=>ai Ah=some k):=(((bb.refl w2 (λk=>ai Ah=some k)).drew).alloc _).grown jH (λk b=> .inl b);have fY:=nN.ar bv.1.cell (λe=>(bv.1.cH g (by rw[V.1];exact e)).1 rfl);have cw:=fY.aH 6;have cy:w5.cell? ⟨g,6,none⟩ =some (.slice Z.Ah Z.nh Z.ch):=fY.az 6)
 all_goals
  obtain⟨y,D,nM,hK⟩ :=bv.out;obtain⟨DU,ah,hr,hX,E,O⟩ :=bt.out;obtain⟨hf,C,hm,ln,u,hp,mA,R,fg⟩ :=HB.out;have VS:=D.size
  have DI:∀k,ai Y=some k->ai Ah=some k\/w2.heap.size<=k:=λk b=>by
   rcases fk with e | e
   · exact .inl (e▸b)
   rw[e]at b;injection b with b;exact .inr (by rw[<-b];simp)
  have ct:∀k,ai Ah=some k->k≠g/\k<w.heap.size:=λk b=> ⟨(y.cH k (by rw[V.1];exact b)).1,(H1.hdr.own.lt (by rw[V.1];exact b)).2⟩;have og:g<w.heap.size:=H1.cell.lt
  have bs:∀k,ai Y=some k->k≠g:=λk b=>by
   rcases DI k b with e | e
   · exact(ct k e).1
   omega
  have bl:∀k,(Q k\/(0<m/\ai X=some k))->k≠g:=λk b=>by
   rcases b with b | ⟨_,b⟩
   · exact(y.cX k b).1
   have:=hX k b;omega
  have cs:ES w5 b0 (λk=>Q k\/(0<m/\ai X=some k)) Y (N+1) G (H++[hv]) (z++[l]):=by
   have h9:=H1.hdr;rw[V.1,HN.out,V.2]at h9;have h8:=ES.push h9 D l DU ah ((hr.below nM).more nM.size) hX H1.low nN (A2:=Y) (c2:=G) (by rw[O];exact il) DI;rw[O]at h8;exact h8
  have q:bb w5 (w5.setCell ⟨g,6,none⟩ (.slice Y (N+1) G)) (λk=>k=g):=bb.setCell (S:=λk=>k=g) (bb.refl w5 _) (p:= ⟨g,6,none⟩) (.inl rfl) _;have mJ:∀k,ai Z.A=some k->k<w.heap.size:=λk b=>(H1.own.lt b).2
  have h3:qW (w5.setCell ⟨g,6,none⟩ (.slice Y (N+1) G)) b0 g c (λk=>Q k\/(0<m/\ai X=some k)) { Z with Ah:=Y,nh:=N+1,ch:=G } (H++[hv]) (z++[l]):=
   ⟨(fY.cE 6 _).congr (Cy rfl rfl rfl rfl rfl rfl rfl rfl rfl),y.lo,(y.own.dx nN (λk b e=>(y.cA k b).2.2.1 (by rw[V.1];exact e))).dx q (λk b e=>(y.cA k b).1 e),cs.dx q (λk b e=>bs k e b) (λk b e=>bl k e b),y.jc,y.cg,λk b=> ⟨(y.cA k b).1,u k,λe=>by
     rcases DI k e with e | e
     · exact(y.cA k b).2.2.1 (by rw[V.1];exact e)
     · have:=mJ k b;omega,λe=>by
     rcases e with e | ⟨_,e⟩
     · exact(y.cA k b).2.2.2 e
     have:=mJ k b;have:=hX k e;omega⟩,λk b=> ⟨bs k b,u k⟩,λk b=> ⟨bl k b,u k⟩,λk b=>absurd (u k) b,y.sm⟩
  have ci:Ext b0 w (w5.setCell ⟨g,6,none⟩ (.slice Y (N+1) G)) (gX g c Q Z.A Z.Ah) (gX g c (λk=>Q k\/(0<m/\ai X=some k)) Z.A Y):=by
   have cL:bb w (w5.setCell ⟨g,6,none⟩ (.slice Y (N+1) G)) (gX g c Q Z.A Z.Ah):=
    ((bb.bC (S:=gX g c Q Z.A Z.Ah) D).trans nN λk b=> .inl (.inr (.inr (.inl (by rw[V.1];exact b))))).trans q λk b=> .inl (.inl b)
   refine Ext.of cL (λk b=>(H1.qb k b).1) H1.low λk b=> ?_;rcases b with b | b | b | (b | ⟨_,b⟩) | b
   · exact .inl (.inl b)
   · exact .inl (.inr (.inl b))
   · rcases DI k b with e | e
     · exact .inl (.inr (.inr (.inl (by rw[V.1];exact e))))
     exact .inr ω
   · exact .inl (.inr (.inr (.inr (.inl b))))
   · exact .inr (hX k b)
   exact absurd (u k) b
  have H3:=η (⟨h3,ci⟩ :_/\_);have du:=hm;clear y D nM hK DU ah hr hX E O hf C ln hp mA R fg DI ct og bs bl cs q mJ h3 ci nN fY il jH fk cw cy r0 r1 r2 r3 r4 r5 r6 r7 r8 r9 WX cW FI ad cD VS dd;obtain⟨w3,cj⟩ :=ν (w5.setCell ⟨g,6,none⟩ (.slice Y (N+1) G));rw[cj]at H3⊢;clear cj;obtain⟨q0,q1, -⟩ :=H3.1.cells;have yH:g<w3.heap.size:=H3.1.cell.lt
  go_wp2_with fail;refine(Il w3 Z.m Z.m ω).mono ?_;rintro e w4 ⟨gd,c1,M,S,rfl,hM,E,QH,ZB,QI,L⟩;have V4:∀k,c1 k≠0->w3.heap.size<=k:=λk b=>(hM.cb k b).1
  have bi:∀k,k<w3.heap.size->c1 k=0:=λk b=>by
   by_cases e:c1 k=0
   · exact e
   have:=V4 k e;omega
  have QM:=bi g yH;have h4:=H3.1.dx (F:=λ_=>False) (bb.bC E) (λk b=>b.elim) (λk b=> ⟨aq H3.1.low (hM.cb k b).1,(hM.cb k b).2⟩) (λk b _=>bi k b);have z2:=h4.Ae (i:=2) ω;obtain⟨-, -,cz, -⟩ :=h4.cells;have yX:bb w4 (w4.setCell ⟨g,2,none⟩ (.pointer (some ⟨gd,0,none⟩))) (λk=>k=g):=bb.setCell (S:=λk=>k=g) (bb.refl w4 _) (p:= ⟨g,2,none⟩) (.inl rfl) _;have h5:qW (w4.setCell ⟨g,2,none⟩ (.pointer (some ⟨gd,0,none⟩))) b0 g c1 (λk=>Q k\/(0<m/\ai X=some k)) { Z with Ah:=Y,nh:=N+1,ch:=G,p:=some ⟨gd,0,none⟩ } (H++[hv]) (z++[l]):=h4.turn yX ((h4.cell.cE 2 _).congr (Cy rfl rfl rfl rfl rfl rfl rfl rfl rfl)) (h4.a3D yX) ⟨rfl,rfl,rfl⟩ h4.sm;have tS:=hM.aside yX (λk b=>by rw[b];exact QM);have Au:Hid (bb w3 (w4.setCell ⟨g,2,none⟩ (.pointer (some ⟨gd,0,none⟩))) (λk=>k=g)):=bb.setCell (S:=λk=>k=g) (bb.bC E) (p:= ⟨g,2,none⟩) (.inl rfl) _;clear h4 hM yX E;go_upto_region 8 with fail
  revert h5 tS Au;generalize w4.setCell ⟨g,2,none⟩ (.pointer (some ⟨gd,0,none⟩))=w6;intro h5 tS Au;obtain⟨-,bB,bx, -⟩ :=h5.cells;replace bB:w6.cell? ⟨g,1,none⟩ =some (.slice A n d):=by rw[bB,<-HZ.1,<-HZ.2.1,<-HZ.2.2.1]
  replace bx:w6.cell? ⟨g,2,none⟩ =some (.pointer (some ⟨gd,0,none⟩)):=bx
  have ac:fK .u8 w6 b0 5 A n d l:=by
   have h:fK .u8 w6 b0 5 Z.A Z.n Z.cp Z.l:=h5.own;rw[HZ.1,HZ.2.1,HZ.2.2.1,HZ.2.2.2.1]at h;exact h
  have hcut:=(ac.cut (j:=J) HJ.2.1).rd;rw[HJ.2.2.1,HJ.2.2.2.1]at hcut;have IZ:bT .u8 w6.drew w6.heap.size A9 n9 (l.drop J):=hcut;have cr:bA w6 c1 w6.drew w3.heap.size gd M S:=tS.refl.drew;have cq:=Du cr w6.heap.size n9 d9 _ (l.drop J) IZ (af _) (λv hv=>HJ.2.2.2.2.2.2.1 v (aW hv)) (by rw[QH,ay];have:=HJ.2.2.2.2.2.2.2.1;simp;omega);have YF:=η cq;have YH:=η tS.refl;have df:=η (⟨QH,ZB,QI,L⟩ :_/\_/\_/\_);have EL:=η (⟨V4,QM⟩ :_/\_);have oh:=O7.out;clear cq tS ac QH ZB QI L cz z2 cr IZ hcut V4 bi
  go_wp2_with fail
  go_region_law
   ((go_simp;go_at_call 171;(refine YF.mono ?_))
    rintro e w7 ⟨A5,n5,d5,rfl,c5,yV,x7⟩;have h7:=h5.dx x7.2.1 (λk b=> ⟨λe=>b (by rw[e];exact h5.cg),λe=>b (h5.cA k e).2.1,λe=>b (h5.cH k e).2,λe=>b (h5.cX k e).2⟩) (λk b=> ⟨aq H3.1.low (yV.cb k b).1,(yV.cb k b).2⟩) (λk b e=>by rw[x7.2.2 k b];exact e);have fY:=h7.cell)
  all_goals
   have z1:=fY.aH 1;have z4:=fY.aH 4;have z5:=fY.aH 5;obtain⟨-,dp, -, -,dl,dk, -⟩ :=h7.cells
   have bG:Hid (EI w b0 g (gX g c Q Z.A Z.Ah) T a (3*(f'+1)+2) (.returned (.int .i64 0)) (((w7.setCell ⟨g,1,none⟩ (.slice none 0 0)).setCell ⟨g,4,none⟩ (.int .u32 0)).setCell ⟨g,5,none⟩ (.int .u32 0))):=by
    have q:bb w7 (((w7.setCell ⟨g,1,none⟩ (.slice none 0 0)).setCell ⟨g,4,none⟩ (.int .u32 0)).setCell ⟨g,5,none⟩ (.int .u32 0)) (λk=>k=g):=bb.setCell (S:=λk=>k=g) (bb.setCell (S:=λk=>k=g) (bb.setCell (S:=λk=>k=g) (bb.refl w7 _) (p:= ⟨g,1,none⟩) (.inl rfl) _) (p:= ⟨g,4,none⟩) (.inl rfl) _) (p:= ⟨g,5,none⟩) (.inl rfl) _;have h8:qW (((w7.setCell ⟨g,1,none⟩ (.slice none 0 0)).setCell ⟨g,4,none⟩ (.int .u32 0)).setCell ⟨g,5,none⟩ (.int .u32 0)) b0 g c5 (λk=>Q k\/(0<m/\ai X=some k)) { Z with Ah:=Y,nh:=N+1,ch:=G,p:=some ⟨gd,0,none⟩,A:=none,n:=0,cp:=0,l:=[],Cf:=0,size:=0 } (H++[hv]) (z++[l]):=h7.turn q ((((h7.cell.cE 1 _).cE 4 _).cE 5 _).congr (Cy rfl rfl rfl rfl rfl rfl rfl rfl rfl)) ⟨fK.di,λk b=>by simp [ai]at b,λv hv=>by simp at hv⟩ ⟨rfl,rfl,rfl⟩ ⟨⟨ei 0,(by omega:(0:Int)<4294967296)⟩,ei 0,(by omega:(0:Int)<4294967296)⟩;have hg:=dj.out;rw[HJ.1]at hg;obtain⟨QH,ZB,QI,L⟩ :=df.out;obtain⟨-, -, -, -, -, -,b1,b2,b3⟩ :=HB.out;refine hg _ c5 _ _ _ w3.heap.size gd _ S h8 rfl ω (yV.aside q (λk b=>by rw[b];exact h7.cg)) (.inl ⟨start (dT (l.drop J)) Z.m, ⟨?_,L.st,L.last,L.left,L.c0,L.c1,L.c2,L.lens,L.hd,L.lt,L.ds,L.len,L.tail,L.rem,L.err⟩, .start (dH.dT (l.drop J)) Z.m,rfl,by show []=[]++M.out;rw[QI];rfl,by show Z.m<=_;omega⟩) (by show M.out.length<=_;rw[QI];simp) ⟨rfl,rfl,rfl,b1,rfl,rfl,rfl,rfl,b2,b3⟩ ?_
    · show rb (M.B.drop (M.a/8)++l.drop J) (M.a%8)=dT (l.drop J);rw[QH,ZB];rfl
    refine H3.2.trans (Ext.of ((((Au.more (S':=gX g c (λk=>Q k\/(0<m/\ai X=some k)) Z.A Y) λk b=> .inl b).trans x7.2.1 λk b=> .inr (EL.1 k b)).trans q λk b=> .inl (.inl b))) (λk b=>(H3.1.qb k b).1) H3.1.low λk b=> ?_);rcases b with b | b | b | b | b
    · exact .inl (.inl b)
    · simp [ai]at b
    · exact .inl (.inr (.inr (.inl b)))
    · exact .inl (.inr (.inr (.inr (.inl b))))
    exact .inr (yV.cb k b).1
   clear fY h7 h5 yV x7 YF YH Au
   go_wp2_with fail;go_ret;exact bG
theorem EI.NI {w w':World} {b0 g:Nat} {E:Nat->Prop} {T:GT} {a:ag} {d n:Nat} {e:Ending} (h:EI w b0 g E T a d e w'):∃r,e= .returned (.int .i64 r)/\Tk w b0 g E T a d n (.returned (.tuple #[.slice none 0 0, .int .i64 r])) w':=by
 obtain⟨r,c,o,Z,H,f,b,m,l,k,j,h4,h5,h6,h7,i⟩ :=h;refine⟨r,m,none,0,0,[],r,c,o,Z,H,f,b,rfl, ⟨rfl,Rd.di⟩,aG _,l,by rw[ak];exact k,j,h4,h5,h6,h7, ?_⟩;rcases i with ⟨h,h'⟩ | ⟨h,h'⟩
 · exact .inl ⟨h, .inl h'⟩
 exact .inr ⟨h,rfl,h'⟩
theorem QF (w:World) (b0 g:Nat) (c:Nat->Nat) (u:Nat->Prop) (Z:GR) (H:List HV) (q:List (ag)) (T:GT) (a:ag) (P:Nat) (h:qW w b0 g c u Z H q) (h2:GS w (g+1) c T a q P Z) (b:Z.en=true) (i:Z.err=0) (s:Z.m<=1000000000) (p:Z.l.length<=1000000) (n:Nat) (C:0<n) (B:n<=1000000000):
  Calls Tryz.prog 173 #[.pointer (some ⟨g,0,none⟩), .int .i64 n] w (Tk w b0 g (gX g c u Z.A Z.Ah) T a P n):=by
 obtain⟨-, -,L,U, -⟩ :=h.cells;rcases h2 with ⟨hp,q2,q3,f,q4,j,q5,q6⟩ | ⟨W,gd,M,S,y,m0,f,Y,X,hp,V,G,z,x,hf,D,E,F,K,N,J,I, ⟨p1,p2,p3,p4,o,k,R,Q⟩ | ⟨p1,p2,p3,p4,o,k⟩⟩
 · subst q5;have v:=η (LX w b0 g c u Z H q T a f h hp q2 q3 q4 j q6 b i s p);rw[hp]at L;clear h b i s p q2 q3 q4 j q6 hp C B
   go_in
   go_wp2_with fail;refine v.mono ?_;intro e O d;obtain⟨r,rfl,t⟩ :=d.NI (n:=n);have hf:=η t;clear d t
   go_wp2_with fail;go_returns;exact hf.out
 · subst p2 N;have v:=η (LY w b0 g c u Z H q h T W gd M S y m0 f Y X hp V G z x hf D E F K J I p1 p3 p4 o k R Q b i n C B);rw[hp]at L;rw[p1]at U;clear h b i s p G z x hf D E F K J I p1 p3 p4 o k R Q hp C B
   go_in
   go_wp2_with fail;refine v.mono ?_;intro e O d;have hf:=η d;obtain⟨A5,k5,d5,l5,r,c5,SJ,Z5,H5,ac,ab,rfl, -⟩ :=d
   go_wp2_with fail;go_returns;exact hf.out
 subst p2;have v:=η (QE w b0 g c u Z H q h T a W gd M S y m0 f Y X hp V G z x hf D E F K N J I p1 p3 p4 o k b i s p);rw[hp]at L;rw[p1]at U;clear h b i s p G z x hf D E F K N J I p1 p3 p4 o k hp C B
 go_in
 go_wp2_with fail;refine v.mono ?_;intro e O d;obtain⟨r,rfl,t⟩ :=d.NI (n:=n);have hf:=η t;clear d t
 go_wp2_with fail;go_returns;exact hf.out
theorem GS.pre {w:World} {b0:Nat} {c:Nat->Nat} {T:GT} {a:ag} {k:List (ag)} {i:Nat} {Z:GR} (h:GS w b0 c T a k i Z):∃t,T.1=a++t:=by
 rcases h with ⟨_,_,_,f,_,_,_,e⟩ | ⟨m,gd,M,S,y,m0,f,b,g,_,_,_,_,_,_,_,_,e,_,d,_,_, ⟨_,_,_,_,_,_,j,_⟩ | ⟨_,_,_,l,_⟩⟩
 · rw[e];exact⟨_,rfl⟩
 · obtain⟨t,ht⟩ :=j.pre;rw[e,d];show∃t,b++((eL y m0).1.all++(gT f (eL y m0) m0).1)=b++g++t;exact⟨M.out++(t++(gT f (eL y m0) m0).1),by rw[ht];simp⟩
 rw[e,d];show∃t,b++((eL y m0).1.all++(gT f (eL y m0) m0).1)=b++g++t;exact⟨(gT f (eL y m0) m0).1,by rw[l,av]⟩
def GtR (w:World) (b0 g:Nat) (E:Nat->Prop) (T:GT) (a:ag) (n:Nat) (gk:Nat) (i h:Value) (wr:World):Prop:=
 ∃A k cp l e c d Z H b f,i= .slice A k cp/\h= .int .i64 e/\aT .u8 wr w.heap.size 5 A k cp l/\k<=n/\qW wr b0 g c d Z H b/\GS wr (g+1) c T (a++l) b f Z/\(Z.en=true/\Z.m<=1000000000/\Z.l.length<=1000000)/\Ext b0 w wr E (gX g c d Z.A Z.Ah)/\(∀q,ai A=some q->¬gX g c d Z.A Z.Ah q)/\
  ((Z.err=0/\e=0)\/(Z.err≠0/\Z.err=T.2.2/\a++l=T.1/\b=T.2.1))/\Hid (gk=if Z.err=0 then(n-k)+f+1 else 0)
def GtE (T:GT) (a:ag) (b:List (ag)) (n:Nat) (l:ag) (r:Int):Prop:=
 (∃t,T.1=a++l++t)/\((r=0/\l.length=n)\/(l.length<n/\a++l=T.1/\b=T.2.1/\((l≠[]/\r=5)\/(l=[]/\r=T.2.2))))
def zu (w:World) (b0 g:Nat) (E:Nat->Prop) (T:GT) (a:ag) (n:Nat) (e:Ending) (w':World):Prop:=
 ∃A k cp l r E' b,e= .returned (.tuple #[.slice A k cp, .int .i64 r])/\aT .u8 w' w.heap.size 5 A k cp l/\(∀q,ai A=some q->¬E' q)/\KZ w' b0 g E' T (a++l) b/\Ext b0 w w' E E'/\GtE T a b n l r
theorem QG (w:World) (b0 g:Nat) (E:Nat->Prop) (T:GT) (a:ag) (an:List (ag)) (h:KZ w b0 g E T a an) (n:Nat) (hn:n<=1000000000):
  Calls Tryz.prog 170 #[.pointer (some ⟨g,0,none⟩), .int .i64 n] w (zu w b0 g E T a n):=by
 obtain⟨i0,hi,am,al,ah⟩ :=aL gG;have Hi:=η (⟨hi,am,al,ah⟩ :_/\_/\_/\_);have tJ:(0:Int)<=n/\(n:Int)<=1000000000:=ω;have HB:=η hn;have bp:=η h.low
 have jz:∃k,GtR w b0 g E T a n k (.slice none 0 0) (.int .i64 0) w:=by
  obtain⟨c,XB,Z,H,rk,Y,h2,V,h4,h5,rfl,h6⟩ :=h;refine⟨_,none,0,0,[],0,c,XB,Z,H,an,rk,rfl,rfl,aT.di,aG _,Y,by rw[ak];exact h2, ⟨V,h4,h5⟩,Ext.refl _ _ _,λq b=>by simp [ai]at b, ?_,rfl⟩;rw[ak];by_cases e:Z.err=0
  · exact .inl ⟨e,rfl⟩
  exact .inr ⟨e,h6.resolve_left e⟩
 obtain⟨k0,jz⟩ :=jz;have HI:=η jz;clear h jz hi am al ah hn
 go_in
 go_wp2_with fail;go_loopg [6,7] k0 (GtR w b0 g E T a n)
 case atStart=>exact HI
 clear HI;obtain⟨A,k,cp,l,e,c,XB,Z,H,hs,rk,rfl,rfl,ho,AP,Y,h2,V,W,hA,jT,hg⟩ :=hrel;obtain⟨-, -, -, -, -, -, -,k7,k8⟩ :=Y.cells;have z8:=Y.Ae (i:=8) ω;have qB:(k:Int)<=(n:Int)/\(0:Int)<=k:=ω;have j:=ho.1;by_cases O:k<n/\Z.err=0
 rotate_left
 · obtain⟨t,ht⟩ :=h2.pre
   have ab:Hid (KZ wr b0 g (gX g c XB Z.A Z.Ah) T (a++l) hs):= ⟨c,XB,Z,H,rk,Y,h2,V.1,V.2.1,V.2.2,rfl,by
    rcases jT with ⟨h,_⟩ | ⟨_,h⟩
    · exact .inl h
    exact .inr h⟩
   have u:Hid (∀r,((r=0/\l.length=n)\/(l.length<n/\a++l=T.1/\hs=T.2.1/\((l≠[]/\r=5)\/(l=[]/\r=T.2.2))))->zu w b0 g E T a n (.returned (.tuple #[.slice A k cp, .int .i64 r])) wr):=λr hr=> ⟨A,k,cp,l,r,_,hs,rfl,ho,hA,ab.out,W, ⟨t,ht⟩,hr⟩;have HL:=η (⟨j,jT,W, ⟨t,ht⟩⟩ :k=l.length/\((Z.err=0/\e=0)\/(Z.err≠0/\Z.err=T.2.2/\a++l=T.1/\hs=T.2.1))/\Ext b0 w wr E (gX g c XB Z.A Z.Ah)/\∃t,T.1=a++l++t);obtain⟨er,G⟩ :=ν (Z.err);rw[G]at k8;have PI:=η G;clear Y h2 V hA jT ho W j k7 z8 ht;by_cases R:k<n
   rotate_left
   · obtain rfl:k=n:=ω;have Vk:¬(k:Int)<(k:Int):=ω;have bi:decide (k<k)=false:=aP ω;have hf:Hid (zu w b0 g E T a k (.returned (.tuple #[.slice A k cp, .int .i64 0])) wr):=u.out 0 (.inl ⟨rfl,HL.1.symm⟩);clear O G u PI R hg
     go_wp2_with fail;go_returns;exact hf
   have Vk:(k:Int)<(n:Int):=ω;have bi:decide (n<=k)=false:=aP ω;have yC:er≠0:=λh=>O ⟨R,G.trans h⟩;have bB:(er==0)=false:=by simpa using yC
   have jG:er=T.2.2/\a++l=T.1/\hs=T.2.1:=by
    rcases HL.2.1 with ⟨h,_⟩ | ⟨_,h⟩
    · rw[PI.out]at h;exact absurd h yC
    rw[PI.out]at h;exact h
   by_cases wF:0<k
   · have CP:(0:Int)<(k:Int):=ω;have hf:Hid (zu w b0 g E T a n (.returned (.tuple #[.slice A k cp, .int .i64 5])) wr):=u.out 5 (.inr ⟨by rw[<-HL.1];exact R,jG.2.1,jG.2.2, .inl ⟨λh=>by have:=HL.1;rw[h]at this;simp at this;omega,rfl⟩⟩);clear jG O G u yC PI hg
     go_wp2_with fail;go_returns;exact hf
   have CP:¬(0:Int)<(k:Int):=ω;have bx:decide (0<k)=false:=aP wF;have F:l=[]:=aC (by rw[<-HL.1];omega)
   have hf:Hid (∀q,zu w b0 g E T a n (.returned (.tuple #[.slice none 0 0, .int .i64 er])) (wr.drewN q)):=λq=>by
    have bo:Below wr.heap.size wr (wr.drewN q):=(bb.drewN (bb.refl wr (λ_=>False)) q).below (λ_ h=>h.elim) (af _);refine⟨none,0,0,[],er,_,hs,rfl,aT.di,λq b=>by simp [ai]at b, ?_,HL.2.2.1.trans ⟨(bb.drewN (bb.refl wr (λ_=>False)) q).below (λ_ h=>h.elim) ab.low,bb.drewN (bb.refl _ _) q,λk R=> .inl R⟩, ?_, .inr ⟨ξ,by rw[<-F];exact jG.2.1,jG.2.2, .inr ⟨rfl,jG.1⟩⟩⟩
    · have:=ab.keeps bo;rw[F]at this;exact this
    have:=HL.2.2.2;rw[F]at this;exact this
   clear jG O G u yC PI F hg
   go_wp2_with fail;go_quiet (fail)
   go_wp2_with fail;go_returns;exact hf.out _
 obtain⟨R,fg⟩ :=O;obtain rfl:e=0:=(jT.resolve_right (λh=>h.1 fg)).2;have Vk:(k:Int)<(n:Int):=ω;obtain⟨J,hJ⟩ :=ν (n-k);have bI:(n:Int)-(k:Int)=(J:Int)/\(0:Int)<(J:Int):=ω;have N:=QF wr b0 g c XB Z H hs T (a++l) rk Y h2 V.1 fg V.2.1 V.2.2 J ω (τ HB.out);have HS:=η N;have HG:=η (⟨W,hA,j,hJ,AP,R⟩ :_/\_/\_/\_/\_/\_);have HO:=η ho;have aE:Hid (gk=(n-k)+rk+1):=by have:=hg.out;rw[aa fg]at this;exact this
 rw[fg]at k8;clear N Y h2 V W hA jT ho j hJ R k7 z8 fg hg
 go_wp2_with fail;refine HS.mono ?_;rintro e w5 ⟨A5,Q,d5,l5,r,z,P,m,H5,D,B,rfl,ox,be,s1,s2,s3,s4,s5,s6,s7,y⟩;obtain⟨W,hA,j,hJ,AP,R⟩ :=HG.out;have CQ:=ox.1;have bl:k+Q<=n:=ω;have X:aT .u8 w5 w.heap.size 5 A k cp l:=s7.2.1.dJ HO.out (λq b=>hA q b)
 have rA:∀q,ai A=some q->¬gX g z P m.A m.Ah q:=λq b h9=>by
  rcases s7.2.2 q h9 with h8 | h8
  · exact hA q b h8
  have:=(HO.2.lt b).2;omega
 have Ri:w.heap.size<=w5.heap.size:=aq W.1.size s7.1.size;have CG:Ext b0 w w5 E (gX g z P m.A m.Ah):=W.trans s7;have Mn:b0<=w.heap.size:=bp.out
 have iu:Hid (∀o x d,aT .u8 d w.heap.size 5 o (k+Q) x (l++l5)->w5.grownBy d (ai A)->(ai o=ai A\/ai o=some w5.heap.size)->
   qW d b0 g z P m H5 D/\GS d (g+1) z T (a++(l++l5)) D B m/\Ext b0 w d E (gX g z P m.A m.Ah)/\∀q,ai o=some q->¬gX g z P m.A m.Ah q):=λo x d v L U=>by
  have yB:bb w5 d (λq=>ai A=some q):=(bb.refl w5 _).grown L λq b=> .inl b;refine⟨s1.dx yB (λq b=> ⟨λs=>rA q b (.inl s),λs=>rA q b (.inr (.inl s)),λs=>rA q b (.inr (.inr (.inl s))),λs=>rA q b (.inr (.inr (.inr (.inl s))))⟩) (λq b=> ⟨(s1.cb q b).1,aB (s1.cb q b).2 yB.size⟩) (λ_ _ s=>s), ?_, ?_,λq b=> ?_⟩
  · rw[<-av]
    exact s2.aside yB (λq b=>by
     by_cases s:z q=0
     · exact s
     exact absurd (.inr (.inr (.inr (.inr s)))) (rA q b)) ⟨rfl,rfl,rfl,rfl,rfl,rfl,rfl,rfl,rfl⟩
  · refine⟨CG.1.grown L (aq Mn Ri) (λq b=>aq Mn (X.2.lt b).1),CG.2.1.grown L (λq b=> .inr (X.2.lt b).1),λq b=>CG.2.2 q b⟩
  rcases U with s | s
  · exact rA q (by rw[<-s];exact b)
  rw[s]at b;injection b with b;intro h9;have:=(s1.qb q h9).2;omega
 have AO:(k:Int)+(Q:Int)<=(n:Int):=ω;have HC:=η y;have HP:=η (⟨s3,s4,s5,s6,CQ,j,R,hJ⟩ :_/\_/\_/\_/\_/\_/\_/\_);have ac:=η (⟨bl,AP⟩ :_/\_);have bv:k+Q<=1000000000:=by have:=HB.out;omega
 clear y s1 s2 s3 s4 s5 s6 s7 rA CG CQ j hJ W hA be Mn;have hr:=HC.out;clear HC;rcases hr with ⟨rfl,T8⟩ | ⟨MI,F,mJ,ap,ao⟩
 · have bd:Hid ((n-(k+Q))+B+1<gk):=by
    show _<gk;rw[aE.out];have:=HP.2.2.2.2.1;have:=ac.out;rcases T8 with h | ⟨h,h'⟩ <;> omega
   clear T8
   go_wp2_with (at_builtin;(refine bm .u8 w.heap.size 5 i0 1 rfl (.tmp 35) (.tmp 36) _ rfl Tryz.underlying22 Hi.1 Hi.2.1 Hi.2.2.1 Hi.2.2.2 rfl X rfl ox ω ω Ri ?_)
                intro o x d v L U;obtain⟨f,K,I,C⟩ :=iu.out o x d v L U;obtain⟨-, -, -, -, -, -, -,Rq,M⟩ :=f.cells;rw[HP.1]at Rq;rw[HP.2.1]at M;have ad:=f.Ae (i:=8) ω)
   have Ts:=η (⟨f,K,I,C,v⟩ :_/\_/\_/\_/\_);clear f K I C v L U iu X ox;go_roundg ((n-(k+Q))+B+1)
   case measure=>exact bd
   obtain⟨f,K,I,C,v⟩ :=Ts.out;exact⟨o,k+Q,x,l++l5,0,z,P,m,H5,D,B,rfl,rfl,v,ac.1,f,K, ⟨HP.1,HP.2.2.1,HP.2.2.2.1⟩,I,C, .inl ⟨HP.2.1,rfl⟩,by show _=_;rw[aa HP.2.1]⟩
 subst F;have HR:=η (⟨mJ,ap,ao⟩ :_/\_/\_);have bt:(r==0)=false:=by simpa using MI
 have SH:=η MI;have OT:Hid (0<gk):=by show 0<gk;rw[aE.out];omega
 have bG:Hid (∀o x d,aT .u8 d w.heap.size 5 o (k+Q) x (l++[])->qW d b0 g z P m H5 D->GS d (g+1) z T (a++(l++[])) D B m->Ext b0 w d E (gX g z P m.A m.Ah)->(∀q,ai o=some q->¬gX g z P m.A m.Ah q)->
   GtR w b0 g E T a n 0 (.slice o (k+Q) x) (.int .i64 r) (d.setCell ⟨g,8,none⟩ (.int .i64 r))):=λo x d v f K I C=>by
  have y:bb d (d.setCell ⟨g,8,none⟩ (.int .i64 r)) (λk=>k=g):=bb.setCell (S:=λk=>k=g) (bb.refl d _) (p:= ⟨g,8,none⟩) (.inl rfl) _;refine⟨o,k+Q,x,l++[],r,z,P,{ m with err:=r },H5,D,B,rfl,rfl,v.far (p:= ⟨g,8,none⟩) (λs=>C g s (.inl rfl)) _,ac.1,f.turn y ((f.cell.cE 8 _).congr (Cy rfl rfl rfl rfl rfl rfl rfl rfl rfl)) (f.a3D y) ⟨rfl,rfl,rfl⟩ f.sm,K.aside y (λq b=>by rw[b];exact f.cg) ⟨rfl,rfl,rfl,rfl,rfl,rfl,rfl,rfl,rfl⟩, ⟨HP.1,HP.2.2.1,HP.2.2.2.1⟩,I.trans (Ext.of (y.more λq b=>(.inl b:gX g z P m.A m.Ah q)) (λq b=>(f.qb q b).1) f.low λq b=> .inl b),C, ?_,by show _=_;rw[a8 SH.out]⟩;exact .inr ⟨SH.out,HR.2.2,by rw[ak];exact HR.1,HR.2.1⟩
 clear mJ ao ap MI;by_cases h5:r=5
 · subst h5
   go_wp2_with (at_builtin;(refine bm .u8 w.heap.size 5 i0 1 rfl (.tmp 35) (.tmp 36) _ rfl Tryz.underlying22 Hi.1 Hi.2.1 Hi.2.2.1 Hi.2.2.2 rfl X rfl ox ω ω Ri ?_)
                intro o x d v L U;obtain⟨f,K,I,C⟩ :=iu.out o x d v L U;obtain⟨-, -, -, -, -, -, -,Rq,M⟩ :=f.cells;rw[HP.1]at Rq;rw[HP.2.1]at M;have ad:=f.Ae (i:=8) ω)
   have hz:=η (bG o x d v f K I C);clear f K I C v L U iu X ox bG;go_roundg 0
   case measure=>exact OT
   case rel=>exact hz
 have ca:(r==5)=false:=by simpa using h5
 have bs:¬r=0:=SH.out;have bM:¬r=5:=h5;clear h5
 go_wp2_with (at_builtin;(refine bm .u8 w.heap.size 5 i0 1 rfl (.tmp 35) (.tmp 36) _ rfl Tryz.underlying22 Hi.1 Hi.2.1 Hi.2.2.1 Hi.2.2.2 rfl X rfl ox ω ω Ri ?_)
              intro o x d v L U;obtain⟨f,K,I,C⟩ :=iu.out o x d v L U;obtain⟨-, -, -, -, -, -, -,Rq,M⟩ :=f.cells;rw[HP.1]at Rq;rw[HP.2.1]at M;have ad:=f.Ae (i:=8) ω)
 have hz:=η (bG o x d v f K I C);clear f K I C v L U iu X ox bG;go_roundg 0
 case measure=>exact OT
 case rel=>exact hz
theorem Pt {b:Nat} {w w':World} (h:Below b w w') (q:Nat):Below b w (w'.drewN q):= ⟨h.os,h.tape,h.output,h.size,h.block⟩
theorem JR:(Tryz.prog.info? 5).map (λi=>(i.zero,i.size,i.bytes))=some (some (.int .u8 0),1,1):=by kernel_rfl
def EY (w:World) (x:ag) (m:Nat) (e:Ending) (w':World):Prop:=
 ∃A k c,e= .returned (.tuple #[.slice A k c, .int .i64 (gz (x.length+1) x m false).2.2])/\aT .u8 w' w.heap.size 5 A k c (gz (x.length+1) x m false).1/\Below w.heap.size w w'
def Tx (w:World) (e:ag) (d:Int) (M:Nat) (gk:Nat) (c a b:Value) (wr:World):Prop:=∃(A:ax) (k cp:Nat) (x:ag) (Ao:ax) (ko co:Nat) (o:ag) (mc:Nat),
 c= .slice A k cp/\a= .slice Ao ko co/\b= .int .i64 mc/\bT .u8 wr w.heap.size A k x/\k<=cp/\(∀v∈x,0<=v/\v<256)/\aT .u8 wr w.heap.size 5 Ao ko co o/\o.length<=M/\x.length<gk/\(mc+gk<=1000001/\YU mc x)/\
  e=o++(gz gk x (M-o.length) (decide (0<mc))).1/\d=(gz gk x (M-o.length) (decide (0<mc))).2.2/\Below w.heap.size w wr
theorem JS (w:World) (A:ax) (n cp:Nat) (G:ag) (M:Nat) (hr:bT .u8 w w.heap.size A n G) (eY:n<=cp) (t:∀v∈G,0<=v/\v<256) (cj:G.length<=1000000) (Hf:M<=1000000000) (qE:YU 0 G):
  Calls Tryz.prog 23 #[.slice A n cp, .int .i64 M] w (EY w G M):=by
 obtain⟨i0,hi,ce,cd,ca⟩ :=aL JR;have Hi:=η (⟨hi,ce,cd,ca⟩ :_/\_/\_/\_);have ea:¬(M:Int)<0/\(M:Int)<=1000000000/\(0:Int)<=(M:Int):=ω;obtain⟨T1,bx⟩ :=ν ((gz (G.length+1) G M false).1);obtain⟨T2,Mj⟩ :=ν ((gz (G.length+1) G M false).2.2);have L:Tx w T1 T2 M (G.length+1) (.slice A n cp) (.slice none 0 0) (.int .i64 0) w:= ⟨A,n,cp,G,none,0,0,[],0,rfl,rfl,rfl,hr,eY,t,aT.di,aG _,iR _, ⟨ω,qE⟩,by rw[ba];exact bx.symm,Mj.symm,aw _ _⟩;have HS:=η L
 have tV:Hid (∀A k c w',aT .u8 w' w.heap.size 5 A k c T1->Below w.heap.size w w'->EY w G M (.returned (.tuple #[.slice A k c, .int .i64 T2])) w'):=λA k c w' ho hb=>by
  unfold EY;rw[bx,Mj];exact⟨A,k,c,rfl,ho,hb⟩
 obtain⟨K0,IK⟩ :=ν (G.length+1);rw[IK]at HS;have dY:¬M<0:=ω;clear L hr eY t cj hi ce cd ca bx Mj IK
 go_in
 go_wp2_with fail;go_loopg [0,6,7] K0 (Tx w T1 T2 M)
 case atStart=>exact HS
 clear HS;obtain⟨A,k,cp,x,Ao,ko,co,o,S,rfl,rfl,rfl,hr,eY,t,ho,bi,OT,DU,z,u,hb⟩ :=hrel;obtain⟨f,hf⟩ :∃f,gk=f+1:= ⟨gk-1,ω⟩;rw[hf]at z u;have s:=hr.1;have bo:=ho.1;have dp:(0:Int)<=(S:Int)/\(S:Int)<=1000001/\(k:Int)<=1000000/\(0:Int)<=(k:Int):=ω;by_cases oY:k=0/\0<S
 · obtain⟨rfl,h0⟩ :=oY;have I:x=[]:=aC s.symm;rw[I,aX h0,Ma]at z u;have bG:=η (tV Ao ko co wr (by rw[z,ak];exact ho) hb);have dj:(0:Int)<(S:Int):=ω;have H2:Hid (T2=8):=u;clear hr eY t ho bi OT DU z u hb hf s bo I tV
   go_wp2_with fail;go_returns;rw[<-H2.out];exact bG
 have tK:¬(x=[]/\decide (0<S)=true):=λh=>oY ⟨by rw[s,h.1];rfl,cM h.2⟩;have ck:0<k\/(k=0/\S=0):=ω;have CF:=hb.size
 obtain⟨rr,KV,FI⟩ :∃r,x=[31,139,8,0,0,0,0,0,0,0]++r/\∀m,One r m:=by
  rcases DU.2 with h | h
  · exact absurd ⟨h.1,aX h.2⟩ tK
  exact h
 have R9:=pJ rr;have I:=a4v rr;rw[<-KV]at R9 I;have HH:=η (Gn wr w.heap.size k cp A x hr CF ω eY t (by rw[KV,ae];show 10<=10+_;omega) I R9);have a3W:=η (⟨by rw[R9.2.1,KV];rfl,FI⟩ :x.drop (Cz x)=rr/\∀m,One rr m);have N:=R9.1;clear R9 I KV FI;have hJ:=Oe x;have C:=η (⟨hr,eY,t,ho,bi,hb,s,bo⟩ :_/\_/\_/\_/\_/\_/\_/\_);have HG:=η (⟨OT,DU,hf,hJ⟩ :_/\_/\_/\_)
 have wF:0<k:=by
  rcases ck with h | ⟨h,_⟩
  · exact h
  exfalso
  rw[aC (show x.length=0 by omega),a0L]at N;exact absurd N δ
 have dj:¬(k:Int)=0/\(0:Int)<(k:Int):=ω;have ef:((k:Int)==0)=false:=ξ;rw[OI tK N]at z u;obtain⟨J,bI⟩ :=ν (Cz x);rw[bI]at z u hJ;obtain⟨y,hy⟩ :=ν (x.drop J);obtain⟨m,hm⟩ :=ν (M-o.length);rw[hy,hm]at z u;obtain⟨F,hF⟩ :=ν (eL y m);have UH:=IG y m;have Zy:=ui y m;have cy:F.2≠0:=by rw[<-hF];exact IS.zV _
 have Rm:∀v∈y,0<=v/\v<256:=λv hv=>t v (aW (by rw[hy];exact hv));have ab:y.length=k-J:=by rw[<-hy,ay,s]
 have cx:F.2=8->gU F.1.x=y.drop (y.length-F.1.x.length/8):=λY=>by
  have h9:=(zW (b:=y) (m:=m) (show(eL y m).2=8 by rw[hF];exact Y)).2;rw[show(start (dT y) m).fin=F from hF]at h9;exact(bf gU h9).symm.trans (lC λv hv=>Rm v (aW hv))
 rw[hF]at z u UH Zy;have oh:∀(A:ax) (n c j:Nat),j<=n->∀W,_:=λA n c j hj W=>cK (P:=Tryz.prog) 22 5 Tryz.underlying22 Hi.1 Hi.2.2.1 A n c hj W;have da:=oh A k cp J ω;have ad:=hr.dw (j:=J) ω eY;rw[hy]at ad;obtain⟨A9,UB⟩ :=ν (dw A cp J);obtain⟨k9,ah⟩ :=ν (k-J);obtain⟨c9,QN⟩ :=ν (cp-J);rw[UB,ah,QN]at da;rw[UB,ah]at ad;have cw:((m:Nat):Int)=max ((M:Int)-(ko:Int)) 0:=ω;have ci:m<=1000000000:=ω;have HQ:=η (⟨N,bI⟩ :_/\_);have O:=η (⟨z,u,UH,Zy,cy,cx,hF,hm⟩ :_/\_/\_/\_/\_/\_/\_/\_);have HY:=η (⟨ad,Rm,ab,cw,ci,ah,hy⟩ :_/\_/\_/\_/\_/\_/\_);have O7:=η oh;have dq:(0:Int)<=(ko:Int)/\(ko:Int)<=(M:Int):=ω;have ec:(0:Int)<=(J:Int)/\(J:Int)<=(k:Int):=ω;clear hr eY t ho bi OT DU z u hb hf s bo tK oY hJ N bI hy hm hF UH Zy cy cx Rm ab oh ad UB ah QN cw ci ck wF
 go_wp2_with fail;refine HH.mono ?_;rintro e w1 ⟨X,m',cc,xl,DU,bt,db,hX,B,(⟨_,_,rfl⟩ | ⟨h0,_⟩)⟩;rotate_left
 · exact absurd HQ.1 h0
 rw[HQ.2];have cB:=η B.size;have L:=η (λo=>B.alloc B.size o);have HI:=η (λo=>vV (w1.alloc o) w.heap.size A9 k9 c9 y ((HY.1.below (B.mono CF)).alloc (aq CF B.size) o) (aq (aq CF B.size) σ) HY.2.1 (ε HY.out C.out) _ m HY.2.2.2.1 HY.2.2.2.2.1 F O.2.2.2.2.2.2.1);obtain⟨hv,bp⟩ :=ν (Ga x (.slice X m' cc));have cA:hv.ex= .slice X m' cc:=by rw[<-bp];rfl
 rw[bp];clear db hX B bp DU bt CF HH;unfold hagg;rw[cA];clear cA
 go_wp2_with fail;refine(HI _).mono ?_;rintro r w6 ⟨g,c,R,rfl,hM,cm,hE,am, -, -, -,B9⟩;have kE:Below wr.heap.size wr w6:=(L.out _).trans (cm.mono (L.out _).size);have cH:w6.cell? ⟨g,0,none⟩ =some (.slice R.Ao R.no R.co):=hM.cell.az 0;have sg:=hM.out;rw[am]at sg;have KV:=sg.rd;have be:=C.2.2.2.1.keeps kE;have ac:w.heap.size<=w6.heap.size:=aq C.2.2.2.2.2.1.size kE.size;have dl:R.no<=m:=by rw[sg.1];exact O.2.2.1
 have xj:ko+R.no<=1000000000:=by have h1:=O.2.2.2.2.2.2.2;have h2:=C.2.2.2.2.1;have h3:=C.2.2.2.2.2.2.2;omega
 have OS:∀q,c q≠0->¬ai Ao=some q:=λq N h9=>by
  have h1:=(hM.cb q N).1;have h2:=(C.2.2.2.1.2.lt h9).2;have h3:=cB.out;rw[jy]at h1;omega
 have UU:¬ai Ao=some g:=OS g (by rw[hM.cg];decide);have cq:∀q,ai R.Ao=some q->¬ai Ao=some q:=λq N=>OS q (by rw[hM.cout q N];decide);have H6:=η (⟨kE,hM.cell,sg,UU,cq,hE,B9⟩ :_/\_/\_/\_/\_/\_/\_);clear hM cm hE am B9 kE sg OS UU cq L HI cB
 go_upto_region 13 with (at_builtin;(refine bm .u8 w.heap.size 5 i0 1 rfl (.tmp 42) (.tmp 46) _ rfl Tryz.underlying22 Hi.1 Hi.2.1 Hi.2.2.1 Hi.2.2.2 rfl be rfl KV ω ω ac ?_)
                         intro A7 c7 d vG Hd xe)
 have H9:bb w6 d (λq=>ai Ao=some q):=(bb.refl w6 _).grown Hd (λq N=> .inl N);have U:Below w.heap.size wr d:=(H6.1.mono C.2.2.2.2.2.1.size).trans (H9.below (λq N=>(C.2.2.2.1.2.lt N).1) ac);have oA:=C.2.2.2.2.2.1.trans U;have mK:=H9.ar H6.2.1 H6.2.2.2.1;have bd:=H9.dJ H6.2.2.1 H6.2.2.2.2.1;replace cH:d.cell? ⟨g,0,none⟩ =some (.slice R.Ao R.no R.co):=mK.az 0;have an:d.cell? ⟨g,1,none⟩ =some (.int .i64 R.E):=mK.az 1;have cD:d.cell? ⟨g,2,none⟩ =some (.int .i64 R.rest):=mK.az 2
 have aE:Hid (∀q v,v=T2->T1=o++F.1.all->EY w G M (.returned (.tuple #[.slice A7 (ko+R.no) c7, .int .i64 v])) (d.drewN q)):=λq v hv ht=>by
  rw[hv];exact tV.out A7 _ c7 _ (by rw[ht];exact vG.drewN q) (Pt oA q)
 by_cases Y:F.2=8
 rotate_left
 · have cz:R.E=F.2:=by rw[H6.2.2.2.2.2.1];unfold LO;rw[a8 Y]
   have SX:gT f F m=([],[],F.2):=LW Y;have hv:=λq=>aE.out q F.2 (by rw[O.2.1,SX]) (by rw[O.1,SX];simp);have ch:=O.2.2.2.2.1;rw[cz]at an;obtain⟨V,hV⟩ :=ν (F.2);rw[hV]at an hv ch;have B4:(V==0)=false:=by simpa using ch
   have HV:=η hv;clear H9 U oA mK bd aE Y cz SX hV hv vG Hd xe be KV ac
   go_wp2_with fail;go_quiet (fail)
   go_wp2_with fail;go_returns;exact HV.out _
 have pn:R.E=0:=by rw[H6.2.2.2.2.2.1];unfold LO;rw[aa Y]
 rw[pn]at an;obtain⟨Rn,ZH⟩ :=ν (y.length-F.1.x.length/8);have rJ:=H6.2.2.2.2.2.2 Y;rw[ZH]at rJ;rw[rJ]at cD;have s:=C.2.2.2.2.2.2.1;have ab:=HY.2.2.1;obtain⟨K,hK⟩ :=ν (J+Rn);have bB:K<=k:=by have:=HY.2.2.2.2.2.1;omega
 obtain⟨T,hT⟩ :=ν (x.drop K);have CH:∀v∈T,0<=v/\v<256:=λv hv=>C.2.2.1 v (aW (by rw[hT];exact hv));have cr:gU F.1.x=T:=by rw[O.2.2.2.2.2.1 Y,ZH,<-HY.2.2.2.2.2.2,bj,hK,hT]
 have Yp:=(C.1.below U).dw (j:=K) bB C.2.1;rw[hT]at Yp;have cL:=O7.out A k cp K bB;have V6:k-K<=cp-K:=by have:=C.2.1;omega
 obtain⟨D,hA8⟩ :=ν (dw A cp K);obtain⟨H,al⟩ :=ν (k-K);obtain⟨p,bv⟩ :=ν (cp-K);rw[hA8,al,bv]at cL;rw[hA8,al]at Yp;rw[al,bv]at V6;have ct:H=T.length:=Yp.1;have eb:(J:Int)+(Rn:Int)=(K:Int)/\(K:Int)<=(k:Int)/\(0:Int)<=(Rn:Int)/\(0:Int)<=(H:Int)/\(H:Int)<=(k:Int):=ω;have cs:T.length<=x.length:=ω;have z:=O.1;have u:=O.2.1;have Z:=η (⟨CH,cr,ct,cs,Y,z,u⟩ :_/\_/\_/\_/\_/\_/\_);have Q:=η (⟨U,oA,vG,bd,Yp,V6⟩ :_/\_/\_/\_/\_/\_);clear H9 U oA mK bd pn ZH rJ s ab hK bB hT CH cr Yp V6 hA8 al bv ct cs z u vG Hd xe be KV ac Y
 have SM:wA T F.1.all=0/\T.drop 8=[]:=by
  have h:=a3W.2 m;have e:=a3W.1;rw[HQ.2,HY.2.2.2.2.2.2]at e;unfold One at h;rw[<-e,O.2.2.2.2.2.2.1,Z.2.1]at h;exact h Z.2.2.2.2.1
 have h5:¬H<8:=λh=>by
  have h2:=SM.1;unfold wA at h2;rw[aa (by rw[<-Z.2.2.1];exact h)]at h2;exact absurd h2 δ
 have cC:=η SM;clear SM;have ee:¬(H:Int)<8/\(8:Int)<=(H:Int):=ω;have lj:∀W,(Instr.slice 22 (.slice D H p) none (some (.int .i64 4)) none).run Tryz.prog W= .ok (.slice D 4 p) W:=λW=>dR (P:=Tryz.prog) 22 5 Tryz.underlying22 Hi.1 Hi.2.2.1 D H p (j:=4) (τ Q.2.2.2.2.2) W;have cX:∀W,(Instr.slice 22 (.slice D H p) (some (.int .i64 4)) (some (.int .i64 8)) none).run Tryz.prog W= .ok (.slice (dw D p 4) 4 (p-4)) W:=λW=>jE (P:=Tryz.prog) 22 5 Tryz.underlying22 Hi.1 Hi.2.2.1 D H p (a:=4) (b:=8) ω (τ Q.2.2.2.2.2) W;have cW:∀W,(Instr.slice 22 (.slice D H p) (some (.int .i64 8)) none none).run Tryz.prog W= .ok (.slice (dw D p 8) (H-8) (p-8)) W:=λW=>cK (P:=Tryz.prog) 22 5 Tryz.underlying22 Hi.1 Hi.2.2.1 D H p (j:=8) ω W;have T7:bT .u8 d w.heap.size D 4 (T.take 4):=Q.2.2.2.2.1.pre ω;have VE:bT .u8 d w.heap.size (dw D p 4) 4 ((T.drop 4).take 4):=(Q.2.2.2.2.1.dw (j:=4) ω Q.2.2.2.2.2).pre (j:=4) ω;have ap:=Q.2.2.2.2.1.dw (j:=8) ω Q.2.2.2.2.2;obtain⟨A4,Ch⟩ :=ν (dw D p 4);obtain⟨d4,J0⟩ :=ν (p-4);obtain⟨AF,bM⟩ :=ν (dw D p 8);obtain⟨nF,bl⟩ :=ν (H-8);obtain⟨dF,xX⟩ :=ν (p-8);have cl:nF<=dF:=by have:=Q.2.2.2.2.2;omega
 rw[Ch,J0]at cX;rw[Ch]at VE;rw[bM,bl,xX]at cW;rw[bM,bl]at ap;have CH:=Z.1;have Vw:∀i,0<=ix F.1.all i/\ix F.1.all i<256:=tq O.2.2.2.1;obtain⟨cv,bs⟩ :=ν (zK 0 F.1.all);obtain⟨v1,ll⟩ :=ν (rK (T.take 4));obtain⟨v2,ao⟩ :=ν (rK ((T.drop 4).take 4));have df:=Z.2.2.1
 have dk:0<=v1/\v1<4294967296:=by
  have h9:=Wf (l:=T.take 4) (λv hv=>CH v (aN hv));rw[ll,aD,show min 4 T.length=4 by omega]at h9;exact⟨h9.1,τ h9.2⟩
 have KP:∀q,Calls Tryz.prog 36 #[.slice D 4 p] (d.drewN q) λe w'=>e= .returned (.int .i64 v1)/\w'=d.drewN q:=λq=>by
  have:=Bz (d.drewN q) w.heap.size 4 p D _ (T7.drewN q) ω (λv hv=>CH v (aN hv));rw[ll]at this;exact this
 have SS:∀q,Calls Tryz.prog 36 #[.slice A4 4 d4] (d.drewN q) λe w'=>e= .returned (.int .i64 v2)/\w'=d.drewN q:=λq=>by
  have:=Bz (d.drewN q) w.heap.size 4 d4 A4 _ (VE.drewN q) ω (λv hv=>CH v (aW (aN hv)));rw[ao]at this;exact this
 have SP:∀q,Calls Tryz.prog 37 #[.int .u32 0, .slice R.Ao R.no R.co] (d.drewN q) λe w'=>e= .returned (.int .u32 cv)/\w'=d.drewN q:=λq=>by
  have:=WZ 0 R.Ao R.no R.co _ F.1.all (d.drewN q) ((Q.2.2.2.1.rd).drewN q) Vw ω ω;rw[show nL (pD (nL 0) F.1.all R.no)=cv by rw[<-bs,Q.2.2.2.1.1];rfl]at this;exact this.mono λ_ _ h=> ⟨h.1,h.2.symm⟩
 have du:(R.no:Int).tmod 4294967296=(R.no:Int):=by rw[eJ ω];omega
 have dz:(0:Int)<=(R.no:Int)/\(R.no:Int)<=1000000000:=ω
 have hg:wA T F.1.all=if v1≠cv\/v2≠(R.no:Int)then 4 else 0:=by
  unfold wA;rw[a8 ω,ll,ao,bs,show(F.1.all.length:Int)%4294967296=(R.no:Int) by rw[<-Q.2.2.2.1.1];omega]
 have bt:v1=cv/\v2=(R.no:Int):=by
  have h:=cC.1;rw[hg]at h;by_cases c:v1≠cv\/v2≠(R.no:Int)
  · rw[aa c]at h;exact absurd h δ
  exact⟨eM λe=>c (.inl e),eM λe=>c (.inr e)⟩
 obtain⟨c1,c2⟩ :=bt
 have mS:Hid (v1=cv->v2=(R.no:Int)->∀q,Tx w T1 T2 M f (.slice AF nF dF) (.slice A7 (ko+R.no) c7) (.int .i64 ((S:Int)+1)) (d.drewN q)):=λc1 c2 q=>by
  have de:wA T F.1.all=0:=by rw[hg,a8 (by rintro(h | h);exact h c1;exact h c2)]
  have SX:gT f F m=gz f (T.drop 8) (m-F.1.all.length) true:=Up Z.2.2.2.2.1 Z.2.1 rfl de;have P0:=C.2.2.2.2.1;have OZ:=O.2.2.2.2.2.2.2;have mJ:=O.2.2.1;have z:=Z.2.2.2.2.2.1;have u:=Z.2.2.2.2.2.2;rw[SX]at z u;have QI:M-(o++F.1.all).length=m-F.1.all.length:=by rw[ae];omega
  have ds:=HG.2.2.1;refine⟨AF,nF,dF,T.drop 8,A7,ko+R.no,c7,o++F.1.all,S+1,rfl,rfl,by go_num,ap.drewN q,cl,λv hv=>CH v (aW hv),Q.2.2.1.drewN q,by rw[ae];omega, ?_, ?_, ?_, ?_,Pt Q.2.1 q⟩
  · rw[ay];have:=Z.2.2.2.1;have:=HG.1;omega
  · exact⟨τ HG.2.1.1, .inl ⟨cC.2,Nat.succ_pos S⟩⟩
  · rw[QI,aX (Nat.succ_pos S),av];exact z
  rw[QI,aX (Nat.succ_pos S)];exact u
 have Ts:=η KP;have EO:=η SS;have Y0:=η SP;have dd:Hid (f<gk):=by show f<gk;have:=HG.2.2.1;omega
 clear KP SS SP T7 VE ap Ch J0 bM bl xX cl CH Vw bs ll ao df hg h5 aE;have hf:=η (mS c1 c2);clear mS;subst c1 c2
 go_wp2_with fail;go_quiet ((first | (go_at_call 36;(with_reducible first | exact Calls.quiet_of_same (Ts.out _) | exact Calls.quiet_of_same (EO.out _))) | (go_at_call 37;exact Calls.quiet_of_same (Y0.out _))))
 go_wp2_with fail;go_roundg f
 case measure=>exact dd
 case rel=>exact hf.out _
end Go.Proofs.YtgiimmkmjpbecaaGreat
