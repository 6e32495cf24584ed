/-
  part
-/
import Derived.Test.YtdhmnlpfhfmpfaaGreatIxb
import Derived.Test.YtdhmnlpfhfmpfaaGreatStepT
import Derived.Handy
namespace Go.Proofs.YtdhmnlpfhfmpfaaGreat
open Go.RowKit
set_option linter.unusedVariables false
set_option maxRecDepth 100000
set_option maxHeartbeats 4000000
theorem DW (w:World) (B g n c a:Nat) (A:ay) (l:aj) (e:Int) (h:si w B g A n c l a e) (hA:e=0->∃y,A=some y) (hb:∀x∈l,0<=x/\x<256):
  Calls Tryz.prog 99 #[xK g] w (zS w B g A n c l (RG l a e) (JW l a e) (.returned (.string (strOf (XJ l a e))))):=by
 have c0:=h.cell.cell (i:=0) ω;have c1:=h.cell.cell (i:=1) ω;have c2:=h.cell.cell (i:=2) ω;have z1:=h.cell.frozen' (i:=1) ω;have z2:=h.cell.frozen' (i:=2) ω;unfold pf at c0 c1 c2;have oX:=h.cell.lt;have I:=h.le;have fI:=h.cap;have ac:=h.small;have HN:=η h.rd.1;unfold xK;by_cases S:e=0
 rotate_left
 · have HP:Hid (JW l a e=e/\RG l a e=a/\XJ l a e=[]):= ⟨by unfold JW;rw[aa S],by unfold RG;rw[aa S],by unfold XJ;rw[aa S]⟩;go_enter Tryz.func99,Tryz.ntmps99;go_wp2;go_ret;exact⟨by rw[HP.out.2.2];rfl,by rw[HP.out.1,HP.out.2.1];exact h,bk.refl _ _⟩
 subst S;obtain⟨y,rfl⟩ :=hA rfl;clear hA;obtain⟨r,t⟩ :=ν (l.drop a);have H:r.length=n-a:=by rw[<-t,az,<-HN.out]
 have O:∀x∈r,0<=x/\x<256:=by rw[<-t];exact oV hb a
 have U:∀W,bT .u8 W B (some y) n l->bT .u8 W B (dr (some y) c a) (n-a) r:=λW M=>by rw[<-t];exact bT.dr M I fI
 obtain⟨X,hcut⟩ :∃X,dr (some y) c a=some X:=by unfold dr;split <;> exact⟨_,rfl⟩
 obtain⟨i0,hi,E,f,D⟩ :=aL gH;have F:=cZ (P:=Tryz.prog) 22 5 Tryz.underlying22 hi f (some y) n c I;rw[hcut]at U F;obtain⟨m,R⟩ :=ν (n-a);obtain⟨d,hd⟩ :=ν (c-a);rw[R]at H U F;rw[hd]at F;have ae:m<=d/\m<=1000000/\a+m<=n:=ω;obtain⟨k,hk⟩ :=ν (min m 4097);have G:((m:Int)<=4097/\k=m)\/((4097:Int)<m/\k=4097):=ω;have J:k<=m/\k<=d:=ω;clear hk;have Q:=λW (M:bT .u8 W B (some y) n l) j (L:j<=m)=>bT.pre (U W M) (j:=j) L;have o:=λW (M:bT .u8 W B (some y) n l) j (L:j<=m)=>qi (P:=Tryz.prog) 22 9 5 d Tryz.underlying22 Tryz.underlying5 Tryz.underlying9 (Q W M j L);have s:=λj (L:j<=d)=>dQ (P:=Tryz.prog) 22 5 Tryz.underlying22 hi f (some X) m d L;have u:=VV (l:=r.take k) (mj O k);rw[a0F,aD,H]at u
 have b:Hid (JW l a 0=(rz r).2.2/\RG l a 0=a+(rz r).2.1/\XJ l a 0=(rz r).1):=by
  refine⟨?_, ?_, ?_⟩
  · unfold JW;rw[af rfl,t]
  · unfold RG;rw[af rfl,t]
  unfold XJ;rw[af rfl,t]
 have jl:=λq=>o (w.drewN q) (h.rd.drewN q) k J.1;have QE:=s k J.2;by_cases hz:nz r<k
 · obtain⟨z,C⟩ :=ν (nz r);have v:rz r=(r.take z,z+1,0):=by unfold rz;rw[C,af ω]
   rw[C]at u hz;rw[af ω,bH ω]at u;rw[v]at b;obtain⟨K,Y⟩ :=ν (a+(z+1));have V:K<=n:=ω;have N:=λq=>(h.drewN q).move (a':=K) V;have kz:=λq=>o _ (N q).rd z ω;have Fq:=s z ω;have ab:(0:Int)<=z/\(z:Int)<4097/\(0:Int)<=a/\(a:Int)<=1000000:=ω;have nW:IntKind.i64.wrap ((a:Int)+((z:Int)+1))=(K:Int):=by rw[aM _ ω];omega
   have T:=η u;have HK:=η Y;clear u Y C v t H O R hd hi E f D s o Q;rcases G with ⟨h4,rfl⟩ | ⟨h4,rfl⟩
   all_goals
    go_enter Tryz.func99,Tryz.ntmps99
    go_wp2_with fail;go_quiet (fail)
    go_wp2_with fail;refine(qQ _ _ _).mono ?_;rintro Z w1 ⟨rfl,rfl⟩;rw[T.out];go_wp2;go_ret;exact⟨by rw[b.out.2.2];rfl,by rw[b.out.1,b.out.2.1,HK.out];exact N _,((bk.refl w (λk=>k=g)).drewN _).setCell (p:= ⟨g,1,none⟩) (.inl rfl) _⟩
 rw[aa ω]at u;have T:=η u;by_cases h5:(4096:Int)<m
 · have v:rz r=([],0,2):=by unfold rz;rw[aa ω,af ω]
   rw[v]at b;clear u v t H O R hd hi E f D s o Q hz;rcases G with ⟨h4,rfl⟩ | ⟨h4,rfl⟩
   all_goals
    go_enter Tryz.func99,Tryz.ntmps99
    go_wp2_with fail;go_quiet (fail)
    go_wp2_with fail;refine(qQ _ _ _).mono ?_;rintro Z w1 ⟨rfl,rfl⟩;rw[T.out];go_wp2;go_ret;exact⟨by rw[b.out.2.2];rfl,by rw[b.out.1,b.out.2.1];exact(h.drewN _).fault 2,((bk.refl w (λk=>k=g)).drewN _).setCell (p:= ⟨g,2,none⟩) (.inl rfl) _⟩
 have v:rz r=([],0,5):=by unfold rz;rw[aa ω,aa ω]
 rw[v]at b;clear u v t H O R hd hi E f D s o Q hz;rcases G with ⟨h4,rfl⟩ | ⟨h4,rfl⟩
 · go_enter Tryz.func99,Tryz.ntmps99
   go_wp2_with fail;go_quiet (fail)
   go_wp2_with fail;refine(qQ _ _ _).mono ?_;rintro Z w1 ⟨rfl,rfl⟩;rw[T.out];go_wp2;go_ret;exact⟨by rw[b.out.2.2];rfl,by rw[b.out.1,b.out.2.1];exact(h.drewN _).fault 5,((bk.refl w (λk=>k=g)).drewN _).setCell (p:= ⟨g,2,none⟩) (.inl rfl) _⟩
 exact absurd h4 ω
theorem qg (w:World) (B n c:Nat) (A:ay) (l:aj) (o:bT .u8 w B A n l) (D:n<=4) (p:∀x∈l,0<=x/\x<256):
  Calls Tryz.prog 32 #[.slice A n c] w λe w'=>e= .returned (.int .i64 (oK l))/\w'=w:=by
 have m:=η o.1;go_enter Tryz.func32,Tryz.ntmps32;go_wp2;go_loop [3,4] (λx i=>∃(k:Nat) (v:Int),k<=n/\i= .int .i64 ((k:Int)-1)/\x= .int .i64 v/\0<=v/\v<4294967296/\Hid (v=oK (l.drop k))) (λ_ i=>((intOf i)+1).toNat)
 case atStart=>exact⟨n,0,ai _,by go_num,rfl,ω,ω,by show _=_;rw[dP (by rw[<-m.out];exact ai _)];rfl⟩
 obtain⟨k,v,E,rfl,rfl,r,C,HV⟩ :=hrel;by_cases s:0<k
 rotate_left
 · obtain rfl:k=0:=ω;go_wp2;go_ret;exact⟨bZ (by rw[HV.out];rfl),rfl⟩
 obtain⟨j,rfl⟩ :∃j,k=j+1:= ⟨k-1,ω⟩;obtain⟨F,rfl,_,u⟩ :=o.at_ (i:=j) ω;have y:=gv p j
 have a:oK (l.drop j)=ix l j+256*oK (l.drop (j+1)):=by
  have g:j<l.length:=by rw[<-m.out];omega
  rw[bR g];show l[j]+_=_;simp [ix,g]
 have f:=Bk (oV p j)
 have q:(256:Int) ^ (l.drop j).length<=4294967296:=by
  have g:(l.drop j).length<=4:=by rw[az,<-m.out];omega
  obtain h | h | h | h | h:(l.drop j).length=0\/(l.drop j).length=1\/(l.drop j).length=2\/(l.drop j).length=3\/(l.drop j).length=4:=ω;all_goals rw[h];decide
 rw[a,<-HV.out]at f;replace f:0<=ix l j+256*v/\ix l j+256*v<4294967296:= ⟨f.1,Int.lt_of_lt_of_le f.2 q⟩;obtain⟨b,d⟩ :=ν (ix l j:Int);rw[d]at u y a f;rw[<-HV.out]at a;have a:=η a;clear d q;have z:((j+1:Nat):Int)-1=j:=ω;rw[z];have t:(0:Int)<=j/\(j:Int)<n/\(n:Int)<=4:=ω;go_wp2
 go_round
 case rel=>exact⟨j,_,ω,by go_num,rfl,ω,ω,by show _=_;rw[a.out];omega⟩
 case measure=>simp [intOf]
def Rl (r:aj):Value:= .tuple #[.string (strOf (rz r).1), .int .i64 ((rz r).2.1:Int), .int .i64 (rz r).2.2]
theorem DZ (w:World) (B n c:Nat) (A:Addr) (r:aj) (x:bT .u8 w B (some A) n r) (K:n<=1000000) (Q:n<=c):
  Calls Tryz.prog 48 #[.slice (some A) n c] w λe w'=>e= .returned (Rl r)/\w'=w:=by
 have a:=η x.1;obtain⟨H,hi,v,d,u⟩ :=aL gH;have g:=λj (h:j<=c)=>dQ (P:=Tryz.prog) 22 5 Tryz.underlying22 hi d (some A) n c h;have f:=λj (h:j<=n)=>qi (P:=Tryz.prog) 22 9 5 c Tryz.underlying22 Tryz.underlying5 Tryz.underlying9 (bT.pre x (j:=j) h);have J:(n:Int)<=1000000:=ω;clear hi v d u;go_enter Tryz.func48,Tryz.ntmps48;go_wp2;go_loop [5] (λi=>∃(k:Nat),k<=n/\k<=4096/\i= .int .i64 (k:Int)/\Hid (∀j,j<k->ix r j≠0)) (λi=>(4097-intOf i).toNat)
 case atStart=>exact⟨0,ω,ω,rfl,λj h=>ω⟩
 obtain⟨k,N,G,rfl,C⟩ :=hrel;have M:(0:Int)<=k/\(k:Int)<=4096:=ω;by_cases y:k<n
 rotate_left
 · have hz:nz r=n:=by
    have o:=Wm (l:=r) (k:=k) (by rw[<-a.out];omega) C.out;have s:=Wn r;rw[<-a.out]at s;omega
   by_cases h4:(4096:Int)<n
   · exact absurd h4 ω
   have q:Hid (rz r=([],0,5)):=by show _=_;unfold rz;rw[hz,aa (by rw[<-a.out];omega),aa (by rw[<-a.out];omega)]
   have O:(n:Int)<=k:=ω;clear hz;go_wp2;go_returns;exact⟨by unfold Rl;rw[q.out];rfl,rfl⟩
 obtain⟨R,z,_,m⟩ :=x.at_ y;cases z;have L:(k:Int)<n:=ω;by_cases t:ix r k=0
 · have hz:nz r=k:=by
    have o:=Wm (l:=r) (k:=k) (by rw[<-a.out];omega) C.out;rcases aV k (nz r)with s | s
    · exact absurd t (Wo s)
    omega
   have q:Hid (rz r=(r.take k,k+1,0)):=by show _=_;unfold rz;rw[hz,af (by rw[<-a.out];omega)]
   rw[t]at m;have I:=g k ω;have E:=f k ω;clear hz g f;go_wp2;go_returns;exact⟨by unfold Rl;rw[q.out];rfl,rfl⟩
 obtain⟨b,D⟩ :=ν (ix r k)
 have p:Hid (∀j,j<k+1->ix r j≠0):=λj h=>by
  rcases aV j k with o | o
  · exact C.out j o
  obtain rfl:j=k:=ω;exact t
 have F:Hid (k=4096->rz r=([],0,2)):=λh4=>by
  have o:=Wm (l:=r) (k:=k+1) (by rw[<-a.out];omega) p.out;unfold rz;rw[aa ω,af (by rw[<-a.out];omega)]
 rw[D]at m t;clear D;by_cases h4:(4096:Int)<=k
 · have q:=η (F.out ω);go_wp2;go_returns;exact⟨by unfold Rl;rw[q.out];rfl,rfl⟩
 go_wp2
 go_round
 case rel=>exact⟨k+1,ω,ω,by go_num,p⟩
 case measure=>simp [intOf];omega
end Go.Proofs.YtdhmnlpfhfmpfaaGreat
