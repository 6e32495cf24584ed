/-
  part
-/
import Derived.Test.YtdhmnlpfhfmpfaaGreatPk32
set_option linter.unusedVariables false
set_option maxRecDepth 100000
set_option maxHeartbeats 8000000
namespace Go.Proofs.YtdhmnlpfhfmpfaaGreat
open Go.RowKit
theorem Et.pre {w:World} {b0:Nat} {c:Nat->Nat} {T:GT} {a:aj} {k:List (aj)} {i:Nat} {Z:GR} (h:Et w b0 c T a k i Z):∃t,T.1=a++t:=by
 rcases h with ⟨_,_,_,f,_,_,_,e⟩ | ⟨m,gd,M,S,y,m0,f,b,g,_,_,_,_,_,_,_,_,e,_,d,_,_, ⟨_,_,_,_,_,_,j,_⟩ | ⟨_,_,_,l,_⟩⟩
 · rw[e];exact⟨_,rfl⟩
 · obtain⟨t,ht⟩ :=j.pre;rw[e,d];show∃t,b++((fx y m0).1.all++(gT f (fx y m0) m0).1)=b++g++t;exact⟨M.out++(t++(gT f (fx y m0) m0).1),by rw[ht];simp⟩
 rw[e,d];show∃t,b++((fx y m0).1.all++(gT f (fx y m0) m0).1)=b++g++t;exact⟨(gT f (fx y m0) m0).1,by rw[l,av]⟩
def GtR (w:World) (b0 g:Nat) (E:Nat->Prop) (T:GT) (a:aj) (n:Nat) (gk:Nat) (i h:Value) (wr:World):Prop:=
 ∃A k cp l e c d Z H b f,i= .slice A k cp/\h= .int .i64 e/\ba .u8 wr w.heap.size 5 A k cp l/\k<=n/\qy wr b0 g c d Z H b/\Et wr (g+1) c T (a++l) b f Z/\(Z.en=true/\Z.m<=1000000000/\Z.l.length<=1000000)/\Ext b0 w wr E (gX g c d Z.A Z.Ah)/\(∀q,ak A=some q->¬gX g c d Z.A Z.Ah q)/\
  ((Z.err=0/\e=0)\/(Z.err≠0/\Z.err=T.2.2/\a++l=T.1/\b=T.2.1))/\Hid (gk=if Z.err=0 then(n-k)+f+1 else 0)
def GtE (T:GT) (a:aj) (b:List (aj)) (n:Nat) (l:aj) (r:Int):Prop:=
 (∃t,T.1=a++l++t)/\((r=0/\l.length=n)\/(l.length<n/\a++l=T.1/\b=T.2.1/\((l≠[]/\r=5)\/(l=[]/\r=T.2.2))))
def zN (w:World) (b0 g:Nat) (E:Nat->Prop) (T:GT) (a:aj) (n:Nat) (e:Ending) (w':World):Prop:=
 ∃A k cp l r E' b,e= .returned (.tuple #[.slice A k cp, .int .i64 r])/\ba .u8 w' w.heap.size 5 A k cp l/\(∀q,ak A=some q->¬E' q)/\Ys w' b0 g E' T (a++l) b/\Ext b0 w w' E E'/\GtE T a b n l r
theorem Dj (w:World) (b0 g:Nat) (E:Nat->Prop) (T:GT) (a:aj) (ap:List (aj)) (h:Ys w b0 g E T a ap) (n:Nat) (hn:n<=1000000000):
  Calls Tryz.prog 15 #[.pointer (some ⟨g,0,none⟩), .int .i64 n] w (zN w b0 g E T a n):=by
 obtain⟨i0,hi,ao,an,am⟩ :=aL jY;have Hi:=η (⟨hi,ao,an,am⟩ :_/\_/\_/\_);have x6:(0:Int)<=n/\(n:Int)<=1000000000:=ω;have HB:=η hn;have bB:=η h.low
 have lq:∃k,GtR w b0 g E T a n k (.slice none 0 0) (.int .i64 0) w:=by
  obtain⟨c,XB,Z,H,rk,h1,h2,X,h4,h5,rfl,h6⟩ :=h;refine⟨_,none,0,0,[],0,c,XB,Z,H,ap,rk,rfl,rfl,ba.dN,aF _,h1,by rw[aA];exact h2, ⟨X,h4,h5⟩,Ext.refl _ _ _,λq b=>by simp [ak]at b, ?_,rfl⟩;rw[aA];by_cases e:Z.err=0
  · exact .inl ⟨e,rfl⟩
  exact .inr ⟨e,h6.resolve_left e⟩
 obtain⟨k0,lq⟩ :=lq;have HI:=η lq;clear h lq hi ao an am hn;go_enter Tryz.func15,Tryz.ntmps15
 go_wp2_with fail;go_loopg [6,7] k0 (GtR w b0 g E T a n)
 case atStart=>exact HI.out
 clear HI;obtain⟨A,k,cp,l,e,c,XB,Z,H,hs,rk,rfl,rfl,ho,Dv,h1,h2,X,Y,hA,ky,hg⟩ :=hrel;obtain⟨-, -, -, -, -, -, -,k7,k8⟩ :=h1.cells;have z8:=h1.S4 (i:=8) ω;have pM:(k:Int)<=(n:Int)/\(0:Int)<=k:=ω;have j:=ho.1;by_cases P:k<n/\Z.err=0
 rotate_left
 · obtain⟨t,ht⟩ :=h2.pre
   have ad:Hid (Ys wr b0 g (gX g c XB Z.A Z.Ah) T (a++l) hs):= ⟨c,XB,Z,H,rk,h1,h2,X.1,X.2.1,X.2.2,rfl,by
    rcases ky with ⟨h,_⟩ | ⟨_,h⟩
    · exact .inl h
    exact .inr h⟩
   have u:Hid (∀r,((r=0/\l.length=n)\/(l.length<n/\a++l=T.1/\hs=T.2.1/\((l≠[]/\r=5)\/(l=[]/\r=T.2.2))))->zN w b0 g E T a n (.returned (.tuple #[.slice A k cp, .int .i64 r])) wr):=λr hr=> ⟨A,k,cp,l,r,_,hs,rfl,ho,hA,ad.out,Y, ⟨t,ht⟩,hr⟩;have HL:=η (⟨j,ky,Y, ⟨t,ht⟩⟩ :k=l.length/\((Z.err=0/\e=0)\/(Z.err≠0/\Z.err=T.2.2/\a++l=T.1/\hs=T.2.1))/\Ext b0 w wr E (gX g c XB Z.A Z.Ah)/\∃t,T.1=a++l++t);obtain⟨er,G⟩ :=ν (Z.err);rw[G]at k8;have R:=η G;clear h1 h2 X hA ky ho Y j k7 z8 ht;by_cases V:k<n
   rotate_left
   · obtain rfl:k=n:=ω;have bi:¬(k:Int)<(k:Int):=ω;have bs:decide (k<k)=false:=aQ ω;have hf:Hid (zN w b0 g E T a k (.returned (.tuple #[.slice A k cp, .int .i64 0])) wr):=u.out 0 (.inl ⟨rfl,HL.out.1.symm⟩);clear P G u R V hg
     go_wp2_with fail;go_returns;exact hf.out
   have bi:(k:Int)<(n:Int):=ω;have bs:decide (n<=k)=false:=aQ ω;have ac:er≠0:=λh=>P ⟨V,G.trans h⟩;have cd:(er==0)=false:=by simpa using ac
   have uE:er=T.2.2/\a++l=T.1/\hs=T.2.1:=by
    rcases HL.out.2.1 with ⟨h,_⟩ | ⟨_,h⟩
    · rw[R.out]at h;exact absurd h ac
    rw[R.out]at h;exact h
   by_cases Ds:0<k
   · have bv:(0:Int)<(k:Int):=ω;have hf:Hid (zN w b0 g E T a n (.returned (.tuple #[.slice A k cp, .int .i64 5])) wr):=u.out 5 (.inr ⟨by rw[<-HL.out.1];exact V,uE.2.1,uE.2.2, .inl ⟨λh=>by have:=HL.out.1;rw[h]at this;simp at this;omega,rfl⟩⟩);clear uE P G u ac R hg
     go_wp2_with fail;go_returns;exact hf.out
   have bv:¬(0:Int)<(k:Int):=ω;have cc:decide (0<k)=false:=aQ Ds;have F:l=[]:=aG (by rw[<-HL.out.1];omega)
   have hf:Hid (∀q,zN w b0 g E T a n (.returned (.tuple #[.slice none 0 0, .int .i64 er])) (wr.drewN q)):=λq=>by
    have bx:Below wr.heap.size wr (wr.drewN q):=(bk.drewN (bk.refl wr (λ_=>False)) q).below (λ_ h=>h.elim) (ai _);refine⟨none,0,0,[],er,_,hs,rfl,ba.dN,λq b=>by simp [ak]at b, ?_,HL.out.2.2.1.trans ⟨(bk.drewN (bk.refl wr (λ_=>False)) q).below (λ_ h=>h.elim) ad.out.low,bk.drewN (bk.refl _ _) q,λk V=> .inl V⟩, ?_, .inr ⟨ξ,by rw[<-F];exact uE.2.1,uE.2.2, .inr ⟨rfl,uE.1⟩⟩⟩
    · have:=ad.out.keeps bx;rw[F]at this;exact this
    have:=HL.out.2.2.2;rw[F]at this;exact this
   clear uE P G u ac R F hg
   go_wp2_with fail;go_quiet (fail)
   go_wp2_with fail;go_returns;exact hf.out _
 obtain⟨V,gY⟩ :=P;obtain rfl:e=0:=(ky.resolve_right (λh=>h.1 gY)).2;have bi:(k:Int)<(n:Int):=ω;obtain⟨J,hJ⟩ :=ν (n-k);have ce:(n:Int)-(k:Int)=(J:Int)/\(0:Int)<(J:Int):=ω;have O:=Q3 wr b0 g c XB Z H hs T (a++l) rk h1 h2 X.1 gY X.2.1 X.2.2 J ω (τ HB.out);have HS:=η O;have HG:=η (⟨Y,hA,j,hJ,Dv,V⟩ :_/\_/\_/\_/\_/\_);have HO:=η ho;have bl:Hid (gk=(n-k)+rk+1):=by have:=hg.out;rw[af gY]at this;exact this
 rw[gY]at k8;clear O h1 h2 X Y hA ky ho j hJ V k7 z8 gY hg
 go_wp2_with fail;refine HS.out.mono ?_;rintro e w5 ⟨A5,U,d5,l5,r,z,Q,m,H5,D,B,rfl,rL,bp,s1,s2,s3,s4,s5,s6,s7,y⟩;obtain⟨Y,hA,j,hJ,Dv,V⟩ :=HG.out;have Qp:=rL.1;have bt:k+U<=n:=ω;have vu:ba .u8 w5 w.heap.size 5 A k cp l:=s7.2.1.dX HO.out (λq b=>hA q b)
 have rI:∀q,ak A=some q->¬gX g z Q m.A m.Ah q:=λq b h9=>by
  rcases s7.2.2 q h9 with h8 | h8
  · exact hA q b h8
  have:=(HO.out.2.lt b).2;omega
 have ab:w.heap.size<=w5.heap.size:=aw Y.1.size s7.1.size;have Sb:Ext b0 w w5 E (gX g z Q m.A m.Ah):=Y.trans s7;have ae:b0<=w.heap.size:=bB.out
 have jA:Hid (∀o x d,ba .u8 d w.heap.size 5 o (k+U) x (l++l5)->w5.grownBy d (ak A)->(ak o=ak A\/ak o=some w5.heap.size)->
   qy d b0 g z Q m H5 D/\Et d (g+1) z T (a++(l++l5)) D B m/\Ext b0 w d E (gX g z Q m.A m.Ah)/\∀q,ak o=some q->¬gX g z Q m.A m.Ah q):=λo x d v L W=>by
  have CD:bk w5 d (λq=>ak A=some q):=(bk.refl w5 _).grown L λq b=> .inl b;refine⟨s1.fC CD (λq b=> ⟨λs=>rI q b (.inl s),λs=>rI q b (.inr (.inl s)),λs=>rI q b (.inr (.inr (.inl s))),λs=>rI q b (.inr (.inr (.inr (.inl s))))⟩) (λq b=> ⟨(s1.cb q b).1,aB (s1.cb q b).2 CD.size⟩) (λ_ _ s=>s), ?_, ?_,λq b=> ?_⟩
  · rw[<-av]
    exact s2.aside CD (λq b=>by
     by_cases s:z q=0
     · exact s
     exact absurd (.inr (.inr (.inr (.inr s)))) (rI q b)) ⟨rfl,rfl,rfl,rfl,rfl,rfl,rfl,rfl,rfl⟩
  · refine⟨Sb.1.grown L (aw ae ab) (λq b=>aw ae (vu.2.lt b).1),Sb.2.1.grown L (λq b=> .inr (vu.2.lt b).1),λq b=>Sb.2.2 q b⟩
  rcases W with s | s
  · exact rI q (by rw[<-s];exact b)
  rw[s]at b;injection b with b;intro h9;have:=(s1.Cr q h9).2;omega
 have Du:(k:Int)+(U:Int)<=(n:Int):=ω;have HC:=η y;have HP:=η (⟨s3,s4,s5,s6,Qp,j,V,hJ⟩ :_/\_/\_/\_/\_/\_/\_/\_);have ah:=η (⟨bt,Dv⟩ :_/\_);have ca:k+U<=1000000000:=by have:=HB.out;omega
 clear y s1 s2 s3 s4 s5 s6 s7 rI Sb Qp j hJ Y hA bp ae;have hr:=HC.out;clear HC;rcases hr with ⟨rfl,aE⟩ | ⟨Vv,F,mK,V8,be⟩
 · have bo:Hid ((n-(k+U))+B+1<gk):=by
    show _<gk;rw[bl.out];have:=HP.out.2.2.2.2.1;have:=ah.out;rcases aE with h | ⟨h,h'⟩ <;> omega
   clear aE
   go_wp2_with (at_builtin;(refine bq .u8 w.heap.size 5 i0 1 rfl (.tmp 35) (.tmp 36) _ rfl Tryz.underlying22 Hi.out.1 Hi.out.2.1 Hi.out.2.2.1 Hi.out.2.2.2 rfl vu rfl rL ω ω ab ?_)
                intro o x d v L W;obtain⟨f,K,I,C⟩ :=jA.out o x d v L W;obtain⟨-, -, -, -, -, -, -,N,M⟩ :=f.cells;rw[HP.out.1]at N;rw[HP.out.2.1]at M;have al:=f.S4 (i:=8) ω)
   have Yx:=η (⟨f,K,I,C,v⟩ :_/\_/\_/\_/\_);clear f K I C v L W jA vu rL;go_roundg ((n-(k+U))+B+1)
   case measure=>exact bo.out
   obtain⟨f,K,I,C,v⟩ :=Yx.out;exact⟨o,k+U,x,l++l5,0,z,Q,m,H5,D,B,rfl,rfl,v,ah.out.1,f,K, ⟨HP.out.1,HP.out.2.2.1,HP.out.2.2.2.1⟩,I,C, .inl ⟨HP.out.2.1,rfl⟩,by show _=_;rw[af HP.out.2.1]⟩
 subst F;have HR:=η (⟨mK,V8,be⟩ :_/\_/\_);have bL:(r==0)=false:=by simpa using Vv
 have Yz:=η Vv;have V7:Hid (0<gk):=by show 0<gk;rw[bl.out];omega
 have cu:Hid (∀o x d,ba .u8 d w.heap.size 5 o (k+U) x (l++[])->qy d b0 g z Q m H5 D->Et d (g+1) z T (a++(l++[])) D B m->Ext b0 w d E (gX g z Q m.A m.Ah)->(∀q,ak o=some q->¬gX g z Q m.A m.Ah q)->
   GtR w b0 g E T a n 0 (.slice o (k+U) x) (.int .i64 r) (d.setCell ⟨g,8,none⟩ (.int .i64 r))):=λo x d v f K I C=>by
  have y:bk d (d.setCell ⟨g,8,none⟩ (.int .i64 r)) (λk=>k=g):=bk.setCell (S:=λk=>k=g) (bk.refl d _) (p:= ⟨g,8,none⟩) (.inl rfl) _;refine⟨o,k+U,x,l++[],r,z,Q,{ m with err:=r },H5,D,B,rfl,rfl,v.far (p:= ⟨g,8,none⟩) (λs=>C g s (.inl rfl)) _,ah.out.1,f.turn y ((f.cell.bK (i:=8) ω _).congr (Cx rfl rfl rfl rfl rfl rfl rfl rfl rfl)) (f.a4A y) ⟨rfl,rfl,rfl⟩ f.sm,K.aside y (λq b=>by rw[b];exact f.cg) ⟨rfl,rfl,rfl,rfl,rfl,rfl,rfl,rfl,rfl⟩, ⟨HP.out.1,HP.out.2.2.1,HP.out.2.2.2.1⟩,I.trans (Ext.of (y.more λq b=>(.inl b:gX g z Q m.A m.Ah q)) (λq b=>(f.Cr q b).1) f.low λq b=> .inl b),C, ?_,by show _=_;rw[aa Yz.out]⟩;exact .inr ⟨Yz.out,HR.out.2.2,by rw[aA];exact HR.out.1,HR.out.2.1⟩
 clear mK be V8 Vv;by_cases h5:r=5
 · subst h5
   go_wp2_with (at_builtin;(refine bq .u8 w.heap.size 5 i0 1 rfl (.tmp 35) (.tmp 36) _ rfl Tryz.underlying22 Hi.out.1 Hi.out.2.1 Hi.out.2.2.1 Hi.out.2.2.2 rfl vu rfl rL ω ω ab ?_)
                intro o x d v L W;obtain⟨f,K,I,C⟩ :=jA.out o x d v L W;obtain⟨-, -, -, -, -, -, -,N,M⟩ :=f.cells;rw[HP.out.1]at N;rw[HP.out.2.1]at M;have al:=f.S4 (i:=8) ω)
   have hz:=η (cu.out o x d v f K I C);clear f K I C v L W jA vu rL cu;go_roundg 0
   case measure=>exact V7.out
   case rel=>exact hz.out
 have ci:(r==5)=false:=by simpa using h5
 have bI:¬r=0:=Yz.out;have ch:¬r=5:=h5;clear h5
 go_wp2_with (at_builtin;(refine bq .u8 w.heap.size 5 i0 1 rfl (.tmp 35) (.tmp 36) _ rfl Tryz.underlying22 Hi.out.1 Hi.out.2.1 Hi.out.2.2.1 Hi.out.2.2.2 rfl vu rfl rL ω ω ab ?_)
              intro o x d v L W;obtain⟨f,K,I,C⟩ :=jA.out o x d v L W;obtain⟨-, -, -, -, -, -, -,N,M⟩ :=f.cells;rw[HP.out.1]at N;rw[HP.out.2.1]at M;have al:=f.S4 (i:=8) ω)
 have hz:=η (cu.out o x d v f K I C);clear f K I C v L W jA vu rL cu;go_roundg 0
 case measure=>exact V7.out
 case rel=>exact hz.out
theorem Zk {T:GT} {a:aj} {d:List (aj)} {n:Nat} {l:aj} {r:Int} (h:GtE T a d n l r) (e:a=T.1) (g:0<n):l=[]/\d=T.2.1/\r=T.2.2:=by
 obtain⟨⟨t,ht⟩,f⟩ :=h
 have b:l=[]:=by
  have c:=aN List.length ht;rw[<-e,ag,ag]at c;exact aG ω
 rcases f with ⟨_,h⟩ | ⟨_,_,c, ⟨h,_⟩ | ⟨_,h⟩⟩
 · rw[b]at h;simp at h;omega
 · exact absurd b h
 exact⟨b,c,h⟩
theorem a6t {h:HV} {v:Value} {j:Nat} (b:j≠5):hf { h with ex:=v } j=hf h j:=by
 by_cases a:j<11
 · rcases qU a with rfl | rfl | rfl | rfl | rfl | rfl | rfl | rfl | rfl | rfl | rfl;all_goals first | rfl | exact absurd rfl b
 obtain⟨k,rfl⟩ :∃k,j=k+11:= ⟨j-11,ω⟩;rfl
theorem a00 {H:List HV} {i:Nat} (hi:i<H.length) (v:Value) (k:Nat):upd (mb H) (i*11+5) v k=mb (H.set i { H.getD i hz with ex:=v }) k:=by
 by_cases h:k/11=i
 · have e:(H.set i { H.getD i hz with ex:=v }).getD (k/11) hz={ H.getD i hz with ex:=v }:=by
    rw[h,aq,List.getElem?_set_self hi];rfl
   by_cases h5:k%11=5
   · obtain rfl:k=i*11+5:=ω;rw[upd_same];unfold mb;rw[e,h5];rfl
   rw[dx _ _ ω];unfold mb;rw[e,h];exact(a6t h5).symm
 rw[dx _ _ ω];unfold mb;rw[aq,aq,List.getElem?_set_ne (Ne.symm h)]
theorem yM {w:World} {b:Array Oper} {rest:List Oper} {o:Oper} {a:Act} {Q:Exit->Act->World->Prop} (b0:Nat) (i:TypeInfo) (l:Region.wanted o (yielded b a.tmps)=true) (s x:Operand)
  (v:o.op= .call { callee:= .builtin .append,args:= #[s,x],argTypes:= #[46, 46] }) (hi:Tryz.prog.info? 31 =some i) (hz:i.zero=some (.agg #[.bool false, .bool false, .int .u32 0, .int .u8 0, .int .u8 0, .slice none 0 0, .bool false, .string ByteArray.empty, .string ByteArray.empty, .bool false, .bool false]))
  (d:i.size=11) (p:i.bytes=88) {A:ay} {n c:Nat} {f f':Nat->Value} (t:a.eval s= .slice A n c) (k:Own w b0 31 11 A n c f)
  {B:Nat} {A':ay} {m c':Nat} (r:a.eval x= .slice A' m c') (u:Rd w B A' (m*11) f') (D:∀j,j<m*11->(f' j).oneCell'=true)
  (q:n+m<=1000000000000) (e:b0<=w.heap.size)
  (h:∀A2 c2 w2,Own w2 b0 31 11 A2 (n+m) c2 (cat (n*11) f f')->w.grownBy w2 (ak A)->(ak A2=ak A\/ak A2=some w.heap.size)->wpList Tryz.prog b Q rest (a.put o.dst (.slice A2 (n+m) c2)) w2):wpList Tryz.prog b Q (o::rest) a w:=by
 refine ig λK y=> ?_;rw[af l];obtain⟨A2,c2,w2,g,C,z,h4⟩ :=ia (P:=Tryz.prog) w b0 46 o.type 31 i _ 11 88 Tryz.underlying46 hi hz d p rfl ω A n c _ k B A' m c' _ u D q ω e;unfold Oper.wp execOp;simp only [v,resolve,invoke,builtin,Sem.run_bind,Sem.run_pure,Result.andThen_ok,List.map_toArray,List.map_cons,List.map_nil,t,r,g];exact y _ _ (h A2 c2 w2 C z h4)
def GhI (w wr:World) (A:ay) (n c:Nat) (d:List HV) (a:List (aj)) (i:Nat):Prop:=
 ∃(H:List HV) (XB:Nat->Prop),Own wr w.heap.size 31 11 A n c (mb H)/\n=H.length/\H.length=a.length/\(∀j,j<i->∃X m cc,H.getD j hz=xR (a.getD j []) (.slice X m cc)/\bT .u8 wr wr.heap.size X m (vO (a.getD j []))/\∀b,X=some b->0<m->XB b.block)/\(∀j,i<=j->H.getD j hz=d.getD j hz)/\(∀k,XB k->w.heap.size<=k/\k<wr.heap.size/\ak A≠some k)/\Below w.heap.size w wr
def SN (w:World) (a:List (aj)) (e:Ending) (w':World):Prop:=∃A n c H,e= .returned (.slice A n c)/\Own w' w.heap.size 31 11 A n c (mb H)/\n=H.length/\H.length=a.length/\(∀j,j<a.length->∃X m cc,H.getD j hz=xR (a.getD j []) (.slice X m cc)/\bT .u8 w' w'.heap.size X m (vO (a.getD j [])))/\Below w.heap.size w w'
theorem Ib:(Tryz.prog.info? 5).map (λi=>(i.zero,i.size,i.bytes))=some (some (.int .u8 0),1,1):=by kernel_rfl
theorem EX (w:World) (b0 g:Nat) (c:Nat->Nat) (XB:Nat->Prop) (Z:GR) (s:List HV) (t:List (aj)) (h1:qy w b0 g c XB Z s t) (hn:t.length<=1000001) (mf:∀i,i<t.length->(vO (t.getD i [])).length<=1000000):
  Calls Tryz.prog 21 #[.pointer (some ⟨g,0,none⟩)] w (SN w t):=by
 obtain⟨i0,hi,O,N,M⟩ :=aL Ib;obtain⟨i1,Y,L,K,J⟩ :=aL AV;have Hi:=η (⟨hi,O,N,M⟩ :_/\_/\_/\_);have HI:=η (⟨Y,L,K,J⟩ :_/\_/\_/\_);obtain⟨-, -, -, -, -, -,k6, -, -⟩ :=h1.cells;have C:=h1.hdr
 have oJ:∀x∈s,a4j x.ex:=λx hx=>by
  obtain⟨i,hi,e⟩ :=gP hx;obtain⟨X,m,cc,r, -⟩ :=C.ex i (by rw[<-C.len];exact hi);rw[aq,br hi]at r;replace r:s[i]=_:=r;rw[e]at r;rw[r];exact⟨X,m,cc,rfl⟩
 obtain⟨Ah,XX⟩ :=ν (Z.Ah);obtain⟨nh,Ss⟩ :=ν (Z.nh);obtain⟨ch,ae⟩ :=ν (Z.ch);rw[XX,Ss,ae]at C k6;have Cn:nh=t.length:=C.n_.trans C.len;have be:nh<=1000001:=ω
 have am:(w.alloc (.cells #[] 31)).cell? ⟨g,6,none⟩ =some (.slice Ah nh ch):=by
  rw[<-k6];exact dL (w:=w) (dC w _ g h1.cell.lt)
 have I:Own (w.alloc (.cells #[] 31)) w.heap.size 31 11 (some ⟨w.heap.size,0,none⟩) 0 0 (mb []):=Own.lit rfl #[] _ (ai _) σ rfl (λi hi=>ω);have pd:Rd (w.alloc (.cells #[] 31)) w.heap.size Ah (nh*11) (mb s):=(C.own.rd).keep λp hp=>dL (w:=w) (dC w _ _ hp);have yZ:∀j,j<nh*11->(mb s j).oneCell'=true:=λj _=>Fc oJ j;have R:w.heap.size<=(w.alloc (.cells #[] 31)).heap.size:=σ;have H1:=η C;have HN:=η (⟨Cn,hn,mf⟩ :_/\_/\_);clear h1 C oJ XX Ss ae hi O N M Y L K J Cn hn mf k6;go_enter Tryz.func21,Tryz.ntmps21
 go_wp2_with (at_builtin;(refine yM w.heap.size i1 rfl (.tmp 7) (.tmp 11) rfl HI.out.1 HI.out.2.1 HI.out.2.2.1 HI.out.2.2.2 rfl I rfl pd yZ ω R ?_)
              intro A c1 w1 pZ ac ZK)
 have P:GhI w w1 A nh c1 s t 0:= ⟨s,λ_=>False,by
   have h9:=pZ.congr (f':=mb s) λi _=>by
    have:=Fb [] s i
    simpa using this
   rw[bS]at h9;exact h9,H1.out.n_,H1.out.len,λj hj=>ω,λj _=>rfl,λk F=>F.elim,
  (((bk.refl w (λq=>w.heap.size<=q)).alloc _).grown ac (λq U=> .inl (I.lt U).1)).below (λ_ h=>h) (ai _)⟩
 have HS:=η P;clear P pZ ac ZK I pd yZ R am;go_loopg [4,15] nh (λ(gk:Nat) (v4 v15:Value) wr=>∃i:Nat,v15= .int .i64 i/\i<=nh/\gk=nh-i/\GhI w wr A nh c1 s t i)
 case atStart=>exact⟨0,rfl,aF _,rfl,HS.out⟩
 clear HS;obtain⟨i,rfl,lG,rfl,hg⟩ :=hrel;by_cases jE:i<nh
 rotate_left
 · obtain rfl:i=nh:=ω
   have cu:Hid (SN w t (.returned (.slice A i c1)) wr):=by
    obtain⟨H,YK,u,b,l,a,D,f,v⟩ :=hg
    exact⟨A,i,c1,H,rfl,u,b,l,λj hj=>by
     obtain⟨X,m,cc,f1,f2,_⟩ :=a j (τ HN.out.1);exact⟨X,m,cc,f1,f2⟩,v⟩
   have Y8:¬(i:Int)<(i:Int):=ω;clear hg lG jE
   go_wp2_with fail;go_returns;exact cu.out
 obtain⟨H,YK,u,b,l,a,D,f,v⟩ :=hg;obtain⟨n,rfl⟩ :=u.addr ω;have Y8:(i:Int)<(nh:Int)/\(0:Int)<=(i:Int)/\(nh:Int)<=1000001:=ω;obtain⟨X,m,cc,r,e2,e3,e4,e5⟩ :=H1.out.ex i (by rw[<-HN.out.1];exact jE);have o:i<H.length:=ω
 have z:mb H (i*11+5)= .slice X m cc:=by
  unfold mb;rw[show(i*11+5)/11=i by omega,show(i*11+5)%11=5 by omega,D i (ai _),r];rfl
 obtain⟨W,hW⟩ :=ν (wr.alloc (.cells #[] 5));have d:Below wr.heap.size wr W:=by rw[<-hW];exact(ax _ _).alloc (ai _) _
 have Vn:=u.below d (λg h=>(u.lt h).2);have c5:=Vn.cell (i:=i*11+5) ω;rw[z]at c5;have an:=v.size;have y:=(e4.below v).more an;have T:=y.below d;have Sq:m<=1000000:=by rw[e4.1];exact HN.out.2.2 i (by rw[<-HN.out.1];exact jE)
 have I:=ba.lit (k:= .u8) (w:=wr) (b0:=wr.heap.size) rfl [] 5 (ai _) σ;have Q:wr.heap.size<=W.heap.size:=d.size;have bi:=(u.lt (g:=n) rfl).2;obtain⟨W',ap⟩ :=ν (W);have HG:=η (⟨u,b,l,a,D,f,v,Vn,d,o⟩ :_/\_/\_/\_/\_/\_/\_/\_/\_/\_);have B:i*11+5<nh*11:=ω;have HE:=η (⟨r,e2,e3,y,B,z⟩ :_/\_/\_/\_/\_/\_);subst ap;subst hW;have E:ba .u8 (wr.alloc (.cells #[] 5)) wr.heap.size 5 (some ⟨wr.heap.size,0,none⟩) 0 0 []:=I;clear u b l a D f v Vn d z r e2 e3 e4 e5 y o I B
 go_wp2_with (at_builtin;(refine bq .u8 wr.heap.size 5 i0 1 rfl (.tmp 20) (.tmp 25) _ rfl Tryz.underlying22 Hi.out.1 Hi.out.2.1 Hi.out.2.2.1 Hi.out.2.2.2 rfl E rfl T ω ω Q ?_)
              intro A2 d2 w2 jB ab kK;have rS:Below wr.heap.size wr w2:=HG.out.2.2.2.2.2.2.2.2.1.grown ab Q (λq U=>(E.2.lt U).1);have Co:=HG.out.1.below rS (λg h=>(HG.out.1.lt h).2);have aE:=Co.frozen (i*11+5);have al:=Co.cell (i:=i*11+5) HE.out.2.2.2.2.1;rw[HE.out.2.2.2.2.2]at al;simp only [List.nil_append,Nat.zero_add]at jB)
 have rV:Hid (GhI w (w2.setCell ⟨n,i*11+5,none⟩ (.slice A2 m d2)) (some ⟨n,0,none⟩) nh c1 s t (i+1)):=by
  obtain⟨u,b,l,a,D,f,v,Vn,d,o⟩ :=HG.out;obtain⟨r,e2,e3,y,B,z⟩ :=HE.out;have kO:=u.lt (g:=n) rfl;have G:bk wr (w2.setCell ⟨n,i*11+5,none⟩ (.slice A2 m d2)) (λk=>k=n):=(bk.bJ (S:=λk=>k=n) rS).setCell (p:= ⟨n,i*11+5,none⟩) (.inl rfl) _;have ah:∀q,ak A2=some q->wr.heap.size<=q/\q<w2.heap.size:=λq U=>jB.2.lt U;refine⟨H.set i { H.getD i hz with ex:= .slice A2 m d2 },λk=>YK k\/ak A2=some k,(Co.bK B _).congr (λk _=>a00 o _ k),by rw[eB];exact b,by rw[eB];exact l,λj hj=> ?_,λj hj=> ?_,λk F=> ?_,(v.trans (rS.mono v.size)).setCell kO.1 _⟩
  · by_cases V:j=i
    · subst V;refine⟨A2,m,d2, ?_,(jB.far (p:= ⟨n,j*11+5,none⟩) (λe=>by have:=(ah n e).1;omega) _).rd,λad e _=> .inr (by rw[e];rfl)⟩
      have h9:(H.set j { H.getD j hz with ex:= .slice A2 m d2 }).getD j hz={ H.getD j hz with ex:= .slice A2 m d2 }:=by
       rw[aq,List.getElem?_set_self o];rfl
      rw[h9,D j (ai _),r];rfl
    obtain⟨X',m',YP,f1,f2,f3⟩ :=a j ω;refine⟨X',m',YP, ?_,(G.ri f2 (ai _) (λh0 ad e h=> ?_)).more G.size,λad e h0=> .inl (f3 ad e h0)⟩
    · rw[aq,List.getElem?_set_ne (Ne.symm V),<-aq];exact f1
    exact(f _ (f3 ad e h0)).2.2 (by rw[h];rfl)
  · rw[aq,List.getElem?_set_ne ω,<-aq];exact D j ω
  have ao:(w2.setCell ⟨n,i*11+5,none⟩ (.slice A2 m d2)).heap.size=w2.heap.size:=σ;rcases F with F | F
  · have:=f k F;exact⟨this.1,aB this.2.1 G.size,this.2.2⟩
  have:=ah k F;exact⟨aw v.size this.1,by rw[ao];exact this.2,λe=>by injection e with e;have e2:n=k:=e;omega⟩
 clear rS Co aE al jB ab kK E T c5;go_roundg (nh-(i+1))
 case measure=>omega
 case rel=>exact⟨i+1,by go_num,ω,rfl,rV.out⟩
end Go.Proofs.YtdhmnlpfhfmpfaaGreat
