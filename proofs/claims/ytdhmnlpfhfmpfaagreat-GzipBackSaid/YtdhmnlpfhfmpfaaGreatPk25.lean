/-
  part
-/
import Derived.Test.YtdhmnlpfhfmpfaaGreatHdM
import Derived.Test.YtdhmnlpfhfmpfaaGreatPk29
set_option linter.unusedVariables false
set_option maxRecDepth 100000
set_option maxHeartbeats 4000000
namespace Go.Proofs.YtdhmnlpfhfmpfaaGreat
open Go.RowKit
theorem Jw {P:Program} {w:World} (b0:Nat) (t u p e:TypeId) (i:TypeInfo) (ht:P.underlying t=some (.slice e)) (s:P.underlying u=some .string) (hi:P.info? e=some i) (hz:i.zero=some (.int .u8 0))
  (b:i.size=1) (m:i.bytes=1) {A:ay} {n c:Nat} {l:aj} (a:ba .u8 w b0 e A n c l) (l':aj) (C:∀x∈l',0<=x/\x<256) (D:n+l'.length<=1000000000000) (d:b0<=w.heap.size):
  ∃A2 c2 w2,(Builtin.append_ #[t,u] p #[.slice A n c, .string (strOf l')]).run P w= .ok (.slice A2 (n+l'.length) c2) w2/\ba .u8 w2 b0 e A2 (n+l'.length) c2 (l++l')/\w.grownBy w2 (ak A):=by
 have h:=jr l';obtain⟨F,w',v,q,E,_⟩ :=Lib.run_append_own_string (P:=P) w b0 t u p e i ht s hi hz b m _ n _ a.2.owns (strOf l') (by rw[h];unfold maxLen;omega) (by rw[h];omega) d;rw[h]at q
 obtain⟨A2,c2,rfl,y,B⟩ :=yE (f:=λi=> .int .u8 (ix (l++l') i)) q (λj z=>by
  rw[dJ]at z;have r:=a.1;rw[dg];by_cases h':j<l.length
  · rw[af h',bE ξ];simp [r,h']
  rw[aa h',bA ξ];have k:j-l.length<l'.length:=ω;simp only [Lib.strCells,kd,List.map_map,List.length_map,List.length_range,Nat.mul_one,List.getElem?_map];rw[r];have g:=C (ix l' (j-l.length)) (by unfold ix;rw[aq,br k];exact bU _);unfold ix at g⊢;rw[aq,br k]at g;rw[aq,br k];simp only [Option.getD_some,Option.map_some,Function.comp]at g⊢;congr 2;have:=g.1;have:=g.2;simp;omega)
 have o:(Value.slice A n c).ownBlock=ak A:=by cases A <;> rfl
 exact⟨A2,c2,w',v, ⟨by rw[ag,<-a.1],y⟩,o▸E⟩
theorem tB {P:Program} {w:World} {b:Array Oper} {rest:List Oper} {o:Oper} {a:Act} {Q:Exit->Act->World->Prop} (b0:Nat) (e:TypeId) (i:TypeInfo) (k:Region.wanted o (yielded b a.tmps)=true) (s x:Operand) (t u:TypeId)
  (y:o.op= .call { callee:= .builtin .append,args:= #[s,x],argTypes:= #[t,u] }) (ht:P.underlying t=some (.slice e)) (r:P.underlying u=some .string) (hi:P.info? e=some i) (hz:i.zero=some (.int .u8 0))
  (d:i.size=1) (m:i.bytes=1) {A:ay} {n c:Nat} {l:aj} (v:a.eval s= .slice A n c) (j:ba .u8 w b0 e A n c l)
  (l':aj) (q:a.eval x= .string (strOf l')) (z:∀x∈l',0<=x/\x<256) (p:n+l'.length<=1000000000000) (f:b0<=w.heap.size)
  (h:∀A2 c2 w2,ba .u8 w2 b0 e A2 (n+l'.length) c2 (l++l')->w.grownBy w2 (ak A)->wpList P b Q rest (a.put o.dst (.slice A2 (n+l'.length) c2)) w2):wpList P b Q (o::rest) a w:=by
 refine ig λK B=> ?_;rw[af k];obtain⟨A2,c2,w2,g,D,C⟩ :=Jw (P:=P) (w:=w) b0 t u o.type e i ht r hi hz d m j l' z p f;unfold Oper.wp execOp;simp only [y,resolve,invoke,builtin,Sem.run_bind,Sem.run_pure,Result.andThen_ok,List.map_toArray,List.map_cons,List.map_nil,v,q,g];exact B _ _ (h A2 c2 w2 D C)
theorem bT.Uf {w w':World} {B n:Nat} {A:ay} {l:aj} {row:Option Nat} (h:bT .u8 w B A n l) (e:w.grownBy w' row) (f:B<=w.heap.size) (d:∀k,row=some k->∀a,A=some a->a.block≠k):bT .u8 w' B A n l:=
 ((bk.refl w (λk=>row=some k)).grown e (λk b=> .inl b)).ri h f (λ_ a c b=>d _ b a c rfl)
structure HP where
 tx:Bool
 sm:Bool
 tm:Int
 fl:Int
 sy:Int
 xl:aj
 hE:Bool
 nl:aj
 cl:aj
 hN:Bool
 hC:Bool
def HP.v (h:HP) (ex:Value):HV:= ⟨h.tx,h.sm,h.tm,h.fl,h.sy,ex,h.hE,strOf h.nl,strOf h.cl,h.hN,h.hC⟩
def HP.F (h:HP):Int:=zV h.tx 1+zV h.sm 2+zV h.hE 4+zV h.hN 8+zV h.hC 16
def HP.ok (h:HP):Bool:= !(decide (65535<h.xl.length)||(!h.hE&&decide (0<h.xl.length))|| !ET h.nl h.hN|| !ET h.cl h.hC)
structure HP.bd (h:HP):Prop where
 tm:0<=h.tm/\h.tm<4294967296
 fl:0<=h.fl/\h.fl<256
 sy:0<=h.sy/\h.sy<256
 xl:∀x∈h.xl,0<=x/\x<256
 nl:∀x∈h.nl,0<=x/\x<256
 cl:∀x∈h.cl,0<=x/\x<256
def HP.p0 (h:HP):aj:=[31,139,8,h.F]++pG 4 h.tm++[h.fl,h.sy]
def HP.p1 (h:HP):aj:=h.p0++if h.hE then pG 2 h.xl.length++h.xl else []
def HP.p2 (h:HP):aj:=h.p1++if h.hN then h.nl++[0] else []
def HP.p3 (h:HP):aj:=h.p2++if h.hC then h.cl++[0] else []
def HP.p4 (h:HP):aj:=h.p3++if h.sm then pG 2 (iz (mq (iz 0) h.p3 h.p3.length))else []
theorem Wu (a b c d e:Bool):bits .or .u8 (bits .or .u8 (bits .or .u8 (bits .or .u8 (zV a 1) (zV b 2)) (zV c 4)) (zV d 8)) (zV e 16)=zV a 1+zV b 2+zV c 4+zV d 8+zV e 16:=by
 cases a <;> cases b <;> cases c <;> cases d <;> cases e <;> rfl
structure PW (w0 w:World) (B H:Nat) (h:HP) (X:ay) (m cc:Nat) (A:ay) (n c:Nat) (L:aj):Prop where
 hd:Ar w H 11 (hf (h.v (.slice X m cc)))
 x:bT .u8 w B X m h.xl
 b:Below H w0 w
 eq:H=w0.heap.size
 BH:B<=H
 own:ba .u8 w (H+1) 5 A n c L
section
variable {w0 w w':World} {B H m cc n c:Nat} {h:HP} {X A:ay} {L:aj}
theorem PW.drewN (s:PW w0 w B H h X m cc A n c L) (q:Nat):PW w0 (w.drewN q) B H h X m cc A n c L:= ⟨s.hd.drewN q,s.x.drewN q,below_drewN s.b q,s.eq,s.BH,s.own.drewN q⟩
theorem PW.below (s:PW w0 w B H h X m cc A n c L) (a:Below w.heap.size w w'):PW w0 w' B H h X m cc A n c L:=
 ⟨s.hd.keeps a,s.x.keep λp hp=>a.cell (ε s.hd.lt s.BH),iX s.b (a.mono (τ s.hd.lt)),s.eq,s.BH,s.own.keeps a⟩
theorem PW.grown {A':ay} {n' c':Nat} {f:aj} (s:PW w0 w B H h X m cc A n c L) (i:w.grownBy w' (ak A)) (g:ba .u8 w' (H+1) 5 A' n' c' f):PW w0 w' B H h X m cc A' n' c' f:=by
 have d:∀k,ak A=some k->H+1<=k:=λk a=>(s.own.2.lt a).1;have j:=s.hd.lt;have hC:bk w w' (λk=>ak A=some k):=(bk.refl w _).grown i (λk a=> .inl a);have e:Below (H+1) w w':=hC.below (λk a=>by have:=d k a;omega) ω;exact⟨hC.ar s.hd λh=>τ (d _ h),s.x.keep λp hp=>e.cell (τ s.BH),iX s.b (e.mono ω),s.eq,s.BH,g⟩
theorem PW.lt (s:PW w0 w B H h X m cc A n c L):H<w.heap.size:=s.hd.lt
theorem PW.a4B (s:PW w0 w B H h X m cc A n c L) {Z:Nat} (e:Z=w.heap.size) (l:aj) (d:l.length<=maxLen):PW w0 (w.alloc (.cells (l.map (Value.int .u8)).toArray 5)) B H h X m cc (some ⟨Z,0,none⟩) l.length l.length l:=
 have a:=s.below (w':=w.alloc (.cells (l.map (Value.int .u8)).toArray 5)) ((ax _ _).alloc (ai _) _)
 ⟨a.hd,a.x,a.b,s.eq,s.BH,ba.lit e l _ (τ s.hd.lt) d⟩
theorem PW.lit (s:PW w0 w B H h X m cc A n c L) (o:Obj):PW w0 (w.alloc o) B H h X m cc A n c L:=s.below ((ax _ _).alloc (ai _) _)
theorem PW.three (s:PW w0 w B H h X m cc A n c L):w.cell? ⟨H,2,none⟩ =some (.int .u32 h.tm)/\w.cell? ⟨H,3,none⟩ =some (.int .u8 h.fl)/\w.cell? ⟨H,4,none⟩ =some (.int .u8 h.sy):= ⟨s.hd.cell (i:=2) ω,s.hd.cell (i:=3) ω,s.hd.cell (i:=4) ω⟩
theorem PW.exx (s:PW w0 w B H h X m cc A n c L):w.cell? ⟨H,5,none⟩ =some (.slice X m cc):=s.hd.cell (i:=5) ω
theorem PW.drew (s:PW w0 w B H h X m cc A n c L):PW w0 w.drew B H h X m cc A n c L:=s.drewN 1
end
def CW (w:World) (h:HP) (E:Ending) (w':World):Prop:=
 (h.ok=true/\∃A n c,E= .returned (.tuple #[.slice A n c, .int .i64 0])/\ba .u8 w' w.heap.size 5 A n c h.p4/\Below w.heap.size w w')\/
 (h.ok=false/\E= .returned (.tuple #[.slice none 0 0, .int .i64 2])/\Below w.heap.size w w')
theorem kX {a b:aj} (e:∀x∈a,0<=x/\x<256) (d:∀x∈b,0<=x/\x<256):∀x∈a++b,0<=x/\x<256:=λx c=>(aP.1 c).elim (e x) (d x)
theorem a4T (h:HP):0<=h.F/\h.F<32:=by
 unfold HP.F zV;cases h.tx <;> cases h.sm <;> cases h.hE <;> cases h.hN <;> cases h.hC <;> decide
theorem a8e (h:HP) (b:h.bd):∀x∈h.p0,0<=x/\x<256:=by
 unfold HP.p0;refine kX (kX ?_ (Bj _ _)) ?_
 · have:=a4T h;intro x a;simp at a;rcases a with rfl | rfl | rfl | rfl <;> omega
 have:=b.fl;have:=b.sy;intro x a;simp at a;rcases a with rfl | rfl <;> omega
theorem Oq:∀x∈[(0:Int)],0<=x/\x<256:=λx a=>by simp at a;omega
theorem FI:∀x∈([]:aj),0<=x/\x<256:=λx a=>by cases a
theorem WD (h:HP) (a:h.bd):∀x∈h.p3,0<=x/\x<256:=by
 unfold HP.p3 HP.p2 HP.p1;refine kX (kX (kX (a8e h a) ?_) ?_) ?_
 · split
   · exact kX (Bj _ _) a.xl
   exact FI
 · split
   · exact kX a.nl Oq
   exact FI
 split
 · exact kX a.cl Oq
 exact FI
theorem DV (w:World) (B:Nat) (h:HP) (X:ay) (m cc:Nat) (hx:bT .u8 w B X m h.xl) (hB:B<=w.heap.size) (hb:h.bd) (mf:m<=100000) (fz:h.nl.length<=100000) (jP:h.cl.length<=100000):
  Calls Tryz.prog 23 #[hagg (h.v (.slice X m cc))] w (CW w h):=by
 obtain⟨tx,sm,tm,fl,sy,xl,hE,nl,cl,hN,hC⟩ :=h;unfold hagg HP.v;dsimp only at hx fz jP⊢;have P:=η hx.1
 have j:PW w (w.alloc (.cells #[.bool tx, .bool sm, .int .u32 tm, .int .u8 fl, .int .u8 sy, .slice X m cc, .bool hE, .string (strOf nl), .string (strOf cl), .bool hN, .bool hC] 31)) B w.heap.size ⟨tx,sm,tm,fl,sy,xl,hE,nl,cl,hN,hC⟩ X m cc none 0 0 []:=
  ⟨Ar.We rfl _ _ rfl (λi hi=>by
    rcases qU hi with rfl | rfl | rfl | rfl | rfl | rfl | rfl | rfl | rfl | rfl | rfl;all_goals rfl),hx.alloc hB _,(ax _ _).alloc (ai _) _,rfl,hB,ba.dN⟩
 have Fj:(0:Int)<=m/\(m:Int)<=100000:=ω;go_enter Tryz.func23,Tryz.ntmps23;go_upto_region 1 with fail
 revert j;generalize w.alloc (.cells #[.bool tx, .bool sm, .int .u32 tm, .int .u8 fl, .int .u8 sy, .slice X m cc, .bool hE, .string (strOf nl), .string (strOf cl), .bool hN, .bool hC] 31)=w1;intro j;obtain⟨H,hH⟩ :=ν (w.heap.size);rw[hH]at j⊢;clear hH;have Q:=hb.nl;have R:=hb.cl;have pX:=hb.xl;have vR:=hb.tm;have W:nl.length<=100000000:=ω;have Y:cl.length<=100000000:=ω;dsimp only at Q R pX vR;have HM:=η (j.eq);obtain⟨Yj,ah⟩ :=ν (HP.ok ⟨tx,sm,tm,fl,sy,xl,hE,nl,cl,hN,hC⟩);have K:=η ah;clear ah;go_cut [35] (λs wx=>s= .bool (!Yj)/\wx=w1)
 case first=>
  have k5:w1.cell? ⟨H,5,none⟩ =some (.slice X m cc):=j.hd.cell (i:=5) ω;have k6:w1.cell? ⟨H,6,none⟩ =some (.bool hE):=j.hd.cell (i:=6) ω;have k7:w1.cell? ⟨H,7,none⟩ =some (.string (strOf nl)):=j.hd.cell (i:=7) ω;have k8:w1.cell? ⟨H,8,none⟩ =some (.string (strOf cl)):=j.hd.cell (i:=8) ω;have k9:w1.cell? ⟨H,9,none⟩ =some (.bool hN):=j.hd.cell (i:=9) ω;have IV:w1.cell? ⟨H,10,none⟩ =some (.bool hC):=j.hd.cell (i:=10) ω;by_cases h1:65535<m
  · have be:(65535:Int)<m:=ω;have t:Hid (true= !Yj):=by show _=_;rw[<-K.out];unfold HP.ok;dsimp only;rw[<-P.out];simp [h1]
    go_wp2;go_meet;exact⟨aN Value.bool t.out,rfl⟩
  have be:¬(65535:Int)<m:=ω;have ap:(hE=false/\0<m)\/(hE=false/\m=0)\/hE=true:=by cases hE <;> simp <;> omega
  rcases ap with ⟨rfl,h2⟩ | ⟨rfl,h2⟩ | rfl
  · have bp:(0:Int)<m:=ω;have t:Hid (true= !Yj):=by show _=_;rw[<-K.out];unfold HP.ok;dsimp only;rw[<-P.out];simp [h2]
    go_wp2;go_meet;exact⟨aN Value.bool t.out,rfl⟩
  · cases D:ET nl hN with
    | false=>
      have t:Hid (true= !Yj):=by show _=_;rw[<-K.out];unfold HP.ok;dsimp only;rw[<-P.out];simp [D]
      subst h2
      go_wp2_with (go_at_call 36;((first | (with_reducible refine(jy _ nl hN Q W).mono ?_) | (with_reducible refine(jy _ cl hC R Y).mono ?_));rintro e w2 ⟨rfl,rfl⟩))
      go_meet;exact⟨aN Value.bool t.out,rfl⟩
    | true=>
      cases C:ET cl hC with
      | false=>
        have t:Hid (true= !Yj):=by show _=_;rw[<-K.out];unfold HP.ok;dsimp only;rw[<-P.out];simp [C]
        subst h2
        go_wp2_with (go_at_call 36;((first | (with_reducible refine(jy _ nl hN Q W).mono ?_) | (with_reducible refine(jy _ cl hC R Y).mono ?_));rintro e w2 ⟨rfl,rfl⟩))
        go_meet;exact⟨aN Value.bool t.out,rfl⟩
      | true=>
        have t:Hid (false= !Yj):=by show _=_;rw[<-K.out];unfold HP.ok;dsimp only;rw[<-P.out];simp [D,C];omega
        subst h2
        go_wp2_with (go_at_call 36;((first | (with_reducible refine(jy _ nl hN Q W).mono ?_) | (with_reducible refine(jy _ cl hC R Y).mono ?_));rintro e w2 ⟨rfl,rfl⟩))
        go_meet;exact⟨aN Value.bool t.out,rfl⟩
  cases D:ET nl hN with
  | false=>
    have t:Hid (true= !Yj):=by show _=_;rw[<-K.out];unfold HP.ok;dsimp only;rw[<-P.out];simp [D]
    go_wp2_with (go_at_call 36;((first | (with_reducible refine(jy _ nl hN Q W).mono ?_) | (with_reducible refine(jy _ cl hC R Y).mono ?_));rintro e w2 ⟨rfl,rfl⟩))
    go_meet;exact⟨aN Value.bool t.out,rfl⟩
  | true=>
    cases C:ET cl hC with
    | false=>
      have t:Hid (true= !Yj):=by show _=_;rw[<-K.out];unfold HP.ok;dsimp only;rw[<-P.out];simp [C]
      go_wp2_with (go_at_call 36;((first | (with_reducible refine(jy _ nl hN Q W).mono ?_) | (with_reducible refine(jy _ cl hC R Y).mono ?_));rintro e w2 ⟨rfl,rfl⟩))
      go_meet;exact⟨aN Value.bool t.out,rfl⟩
    | true=>
      have t:Hid (false= !Yj):=by show _=_;rw[<-K.out];unfold HP.ok;dsimp only;rw[<-P.out];simp [D,C];omega
      go_wp2_with (go_at_call 36;((first | (with_reducible refine(jy _ nl hN Q W).mono ?_) | (with_reducible refine(jy _ cl hC R Y).mono ?_));rintro e w2 ⟨rfl,rfl⟩))
      go_meet;exact⟨aN Value.bool t.out,rfl⟩
 case rest=>
 obtain⟨rfl,rfl⟩ :=hcut;cases Yj with
 | false=>
   go_wp2_with fail;go_returns;exact .inr ⟨K.out,rfl,HM.out▸j.b⟩
 | true=>
   go_upto_region 3 with fail
   have ao:=η (Wu tx sm hE hN hC);obtain⟨F,hF⟩ :=ν (zV tx 1+zV sm 2+zV hE 4+zV hN 8+zV hC 16);rw[hF]at ao;have HF:=η hF;clear hF;go_cut [4] (λs wx=>∃A c,s= .slice A 4 c/\PW w wx B H ⟨tx,sm,tm,fl,sy,xl,hE,nl,cl,hN,hC⟩ X m cc A 4 c [31,139,8,F])
   case first=>
    have k0:wc.cell? ⟨H,0,none⟩ =some (.bool tx):=j.hd.cell (i:=0) ω;have k1:wc.cell? ⟨H,1,none⟩ =some (.bool sm):=j.hd.cell (i:=1) ω;have k6:wc.cell? ⟨H,6,none⟩ =some (.bool hE):=j.hd.cell (i:=6) ω;have k9:wc.cell? ⟨H,9,none⟩ =some (.bool hN):=j.hd.cell (i:=9) ω;have IV:wc.cell? ⟨H,10,none⟩ =some (.bool hC):=j.hd.cell (i:=10) ω;have Zy:=j.lt
    go_region_held3 (λw'=>w'.cell? ⟨H,0,none⟩ =some (.bool tx)/\w'.cell? ⟨H,1,none⟩ =some (.bool sm)/\w'.cell? ⟨H,6,none⟩ =some (.bool hE)/\w'.cell? ⟨H,9,none⟩ =some (.bool hN)/\w'.cell? ⟨H,10,none⟩ =some (.bool hC)) (first | exact⟨k0,k1,k6,k9,IV⟩ | go_keep) (first | (go_at_call 37;(refine(W9 _ _ _).mono ?_);rintro e w2 ⟨rfl,rfl⟩))
    go_wp2;go_meet;refine⟨_,4,rfl, ?_⟩;rw[ao.out];exact(j.a4B rfl [31,139,8,F] (by unfold maxLen;simp)).drewN 1
   case rest=>
   clear j;obtain⟨A,c,rfl,T⟩ :=hcut;obtain⟨y,hi,ae,ac,ab⟩ :=aL gH;have Hi:=η hi;have J:=η ae;have I:=η ac;have G:=η ab;clear hi ae ac ab;go_upto_region 4 with fail
   go_cut [4] (λs wx=>∃A c,s= .slice A 10 c/\PW w wx B H ⟨tx,sm,tm,fl,sy,xl,hE,nl,cl,hN,hC⟩ X m cc A 10 c (HP.p0 ⟨tx,sm,tm,fl,sy,xl,hE,nl,cl,hN,hC⟩))
   case first=>
    have k2:wc.cell? ⟨H,2,none⟩ =some (.int .u32 tm):=T.hd.cell (i:=2) ω;have k3:wc.cell? ⟨H,3,none⟩ =some (.int .u8 fl):=T.hd.cell (i:=3) ω;have k4:wc.cell? ⟨H,4,none⟩ =some (.int .u8 sy):=T.hd.cell (i:=4) ω;have Zy:=T.lt;have bi:Hid (HP.p0 ⟨tx,sm,tm,fl,sy,xl,hE,nl,cl,hN,hC⟩ =[31,139,8,F]++pG 4 tm++[fl,sy]):=by show _=_;unfold HP.p0 HP.F;dsimp only;rw[HF.out]
    go_region_held3 (λw'=>w'.cell? ⟨H,2,none⟩ =some (.int .u32 tm)/\w'.cell? ⟨H,3,none⟩ =some (.int .u8 fl)/\w'.cell? ⟨H,4,none⟩ =some (.int .u8 sy))
     (first | exact PW.three T | exact PW.three T.drew | exact PW.three (T.lit _) | exact PW.three (T.lit _).drew | exact PW.three d | exact PW.three (d.lit _) | exact PW.three a | exact PW.three (a.lit _) | exact PW.three u)
     (first
       | (go_at_call 28;(refine(qT _ tm 4 vR ω).mono ?_);rintro e wl ⟨Al,ml,an,rfl,O,o⟩
          obtain rfl:4=ml:=by have:=O.1;rw[cE]at this;exact this.symm
          first
           | have d:=T.drew.below o
           | (have d:=(T.lit _).drew.below o;have cQ:=bT.keep (bT.lit .u8 wc [fl,sy] 5) (λp hp=>o.cell (p:=p) ξ)))
       | ((refine eN .u8 (H+1) 5 y 1 rfl (.tmp 56) (.tmp 59) _ rfl Tryz.underlying22 Hi.out J.out I.out G.out rfl d.own rfl O.rd (by simp <;> omega) ω (by first | (have:=d.lt;omega) | (have:=a.lt;omega) | (have:=d.lt;simp;omega) | (have:=a.lt;simp;omega)) ?_);intro A3 c3 S N g pD
          have a:=d.grown g N
          try have cQ:=bT.Uf cQ g (by have:=o.size;simp at this;omega) (λk hk ad V=>by cases V;have:=(T.own.2.lt hk).2;simp;omega))
       | ((refine eN .u8 (H+1) 5 y 1 rfl (.tmp 56) (.tmp 59) _ rfl Tryz.underlying22 Hi.out J.out I.out G.out rfl (d.lit _).own rfl (O.rd.alloc (ai _) _) (by simp <;> omega) ω (by first | (have:=d.lt;omega) | (have:=a.lt;omega) | (have:=d.lt;simp;omega) | (have:=a.lt;simp;omega)) ?_);intro A3 c3 S N g pD
          have a:=(d.lit _).grown g N;have cQ:=bT.Uf (bT.lit .u8 wl [fl,sy] 5) g σ (λk hk ad V=>by cases V;have:=(d.own.2.lt hk).2;simp;omega))
       | ((refine eN .u8 (H+1) 5 y 1 rfl (.tmp 60) (.tmp 65) _ rfl Tryz.underlying22 Hi.out J.out I.out G.out rfl (a.lit _).own rfl (bT.lit .u8 S [fl,sy] 5) (by simp <;> omega) ω (by first | (have:=d.lt;omega) | (have:=a.lt;omega) | (have:=d.lt;simp;omega) | (have:=a.lt;simp;omega)) ?_);intro M L Z z f dT
          have u:=(a.lit _).grown f z)
       | ((refine eN .u8 (H+1) 5 y 1 rfl (.tmp 60) (.tmp 65) _ rfl Tryz.underlying22 Hi.out J.out I.out G.out rfl a.own rfl cQ (by simp <;> omega) ω (by first | (have:=d.lt;omega) | (have:=a.lt;omega) | (have:=d.lt;simp;omega) | (have:=a.lt;simp;omega)) ?_);intro M L Z z f dT
          have u:=a.grown f z))
    all_goals
     go_wp2;go_meet;refine⟨M,L,rfl, ?_⟩;rw[bi.out];exact u
   case rest=>
   clear T;obtain⟨A,c,rfl,T⟩ :=hcut;have k6:wc.cell? ⟨H,6,none⟩ =some (.bool hE):=T.hd.cell (i:=6) ω
   go_upto_if 68 with fail
   go_cut [4] (λs wx=>∃A n c,s= .slice A n c/\n<=200000/\PW w wx B H ⟨tx,sm,tm,fl,sy,xl,hE,nl,cl,hN,hC⟩ X m cc A n c (HP.p1 ⟨tx,sm,tm,fl,sy,xl,hE,nl,cl,hN,hC⟩))
   case first=>
    cases hE with
    | false=>
      have r:Hid (HP.p1 ⟨tx,sm,tm,fl,sy,xl,false,nl,cl,hN,hC⟩ =HP.p0 ⟨tx,sm,tm,fl,sy,xl,false,nl,cl,hN,hC⟩):=by show _=_;unfold HP.p1;simp
      go_wp2;go_meet;refine⟨A,10,c,rfl,ω, ?_⟩;rw[r.out];exact T
    | true=>
      have r:Hid (HP.p1 ⟨tx,sm,tm,fl,sy,xl,true,nl,cl,hN,hC⟩ =HP.p0 ⟨tx,sm,tm,fl,sy,xl,true,nl,cl,hN,hC⟩ ++pG 2 m++xl):=by show _=_;unfold HP.p1;dsimp only;rw[af rfl,<-P.out,av]
      have Zy:=T.lt;have k5:=T.exx;have bo:IntKind.u32.wrap (m:Int)=m:=by rw[ft];omega
      go_upto_region 6 with fail
      go_region_held3 (λw'=>w'.cell? ⟨H,5,none⟩ =some (.slice X m cc))
       (first | exact PW.exx T | exact PW.exx T.drew | exact PW.exx d | exact PW.exx a | exact PW.exx u)
       (first
         | (go_at_call 28;(refine(qT _ (m:Int) 2 ω ω).mono ?_);rintro e wl ⟨Al,ml,an,rfl,O,o⟩
            obtain rfl:2=ml:=by have:=O.1;rw[cE]at this;exact this.symm
            have d:=T.drew.below o)
         | (have _g:=a;(refine eN .u8 (H+1) 5 y 1 rfl (.tmp 75) (.tmp 77) _ rfl Tryz.underlying22 Hi.out J.out I.out G.out rfl a.own rfl a.x ω ω (τ a.lt) ?_);intro M L Z z f dT
            have u:=a.grown f z)
         | (have _g:=d;(refine eN .u8 (H+1) 5 y 1 rfl (.tmp 69) (.tmp 74) _ rfl Tryz.underlying22 Hi.out J.out I.out G.out rfl d.own rfl O.rd ω ω (τ d.lt) ?_);intro A3 c3 S N g pD
            have a:=d.grown g N))
      all_goals
       go_wp2;go_meet;refine⟨M,_,L,rfl,ω, ?_⟩;rw[r.out];exact u
   case rest=>
   clear T k6;obtain⟨A,n,c,rfl,p9,T⟩ :=hcut;have k9:wc.cell? ⟨H,9,none⟩ =some (.bool hN):=T.hd.cell (i:=9) ω
   go_upto_if 80 with fail
   go_cut [4] (λs wx=>∃A n c,s= .slice A n c/\n<=400000/\PW w wx B H ⟨tx,sm,tm,fl,sy,xl,hE,nl,cl,hN,hC⟩ X m cc A n c (HP.p2 ⟨tx,sm,tm,fl,sy,xl,hE,nl,cl,hN,hC⟩))
   case first=>
    cases hN with
    | false=>
      have r:Hid (HP.p2 ⟨tx,sm,tm,fl,sy,xl,hE,nl,cl,false,hC⟩ =HP.p1 ⟨tx,sm,tm,fl,sy,xl,hE,nl,cl,false,hC⟩):=by show _=_;unfold HP.p2;simp
      go_wp2;go_meet;refine⟨A,n,c,rfl,ω, ?_⟩;rw[r.out];exact T
    | true=>
      have r:Hid (HP.p2 ⟨tx,sm,tm,fl,sy,xl,hE,nl,cl,true,hC⟩ =HP.p1 ⟨tx,sm,tm,fl,sy,xl,hE,nl,cl,true,hC⟩ ++(nl++[0])):=by show _=_;unfold HP.p2;dsimp only;rw[af rfl]
      have Zy:=T.lt;have k7:wc.cell? ⟨H,7,none⟩ =some (.string (strOf nl)):=T.hd.cell (i:=7) ω
      go_wp2_with (at_builtin;go_must (refine tB (H+1) 5 y rfl (.tmp 81) (.tmp 83) _ _ rfl Tryz.underlying22 Tryz.underlying9 Hi.out J.out I.out G.out rfl T.own nl rfl Q ω ω ?_))
      intro A3 c3 S N g;have a:=T.grown g N;have am:=a.lt;have E:=a.lit (.cells #[.int .u8 0] 5)
      go_wp2_with (at_builtin;go_must (refine bq .u8 (H+1) 5 y 1 rfl (.tmp 84) (.tmp 85) _ rfl Tryz.underlying22 Hi.out J.out I.out G.out rfl E.own rfl (bT.lit .u8 S [0] 5) ξ ω ξ ?_))
      intro M L Z z f dT;have u:=E.grown f z;go_wp2;go_meet;refine⟨M,_,L,rfl,ξ, ?_⟩;rw[r.out];exact u
   case rest=>
   clear T k9 p9;obtain⟨A,n,c,rfl,p9,T⟩ :=hcut;have IV:wc.cell? ⟨H,10,none⟩ =some (.bool hC):=T.hd.cell (i:=10) ω
   go_upto_if 88 with fail
   go_cut [4] (λs wx=>∃A n c,s= .slice A n c/\n<=600000/\PW w wx B H ⟨tx,sm,tm,fl,sy,xl,hE,nl,cl,hN,hC⟩ X m cc A n c (HP.p3 ⟨tx,sm,tm,fl,sy,xl,hE,nl,cl,hN,hC⟩))
   case first=>
    cases hC with
    | false=>
      have r:Hid (HP.p3 ⟨tx,sm,tm,fl,sy,xl,hE,nl,cl,hN,false⟩ =HP.p2 ⟨tx,sm,tm,fl,sy,xl,hE,nl,cl,hN,false⟩):=by show _=_;unfold HP.p3;simp
      go_wp2;go_meet;refine⟨A,n,c,rfl,ω, ?_⟩;rw[r.out];exact T
    | true=>
      have r:Hid (HP.p3 ⟨tx,sm,tm,fl,sy,xl,hE,nl,cl,hN,true⟩ =HP.p2 ⟨tx,sm,tm,fl,sy,xl,hE,nl,cl,hN,true⟩ ++(cl++[0])):=by show _=_;unfold HP.p3;dsimp only;rw[af rfl]
      have Zy:=T.lt;have k8:wc.cell? ⟨H,8,none⟩ =some (.string (strOf cl)):=T.hd.cell (i:=8) ω
      go_wp2_with (at_builtin;go_must (refine tB (H+1) 5 y rfl (.tmp 89) (.tmp 91) _ _ rfl Tryz.underlying22 Tryz.underlying9 Hi.out J.out I.out G.out rfl T.own cl rfl R ω ω ?_))
      intro A3 c3 S N g;have a:=T.grown g N;have am:=a.lt;have E:=a.lit (.cells #[.int .u8 0] 5)
      go_wp2_with (at_builtin;go_must (refine bq .u8 (H+1) 5 y 1 rfl (.tmp 92) (.tmp 93) _ rfl Tryz.underlying22 Hi.out J.out I.out G.out rfl E.own rfl (bT.lit .u8 S [0] 5) ξ ω ξ ?_))
      intro M L Z z f dT;have u:=E.grown f z;go_wp2;go_meet;refine⟨M,_,L,rfl,ξ, ?_⟩;rw[r.out];exact u
   case rest=>
   clear T IV p9;obtain⟨A,n,c,rfl,p9,T⟩ :=hcut;have k1:wc.cell? ⟨H,1,none⟩ =some (.bool sm):=T.hd.cell (i:=1) ω;cases sm with
   | false=>
     have r:Hid (HP.p4 ⟨tx,false,tm,fl,sy,xl,hE,nl,cl,hN,hC⟩ =HP.p3 ⟨tx,false,tm,fl,sy,xl,hE,nl,cl,hN,hC⟩):=by show _=_;unfold HP.p4;simp
     go_wp2;go_returns;exact .inl ⟨K.out,A,n,c,rfl,by rw[r.out];exact HM.out▸T.own.more ω,HM.out▸T.b⟩
   | true=>
     obtain⟨q,hq⟩ :=ν (HP.p3 ⟨tx,true,tm,fl,sy,xl,hE,nl,cl,hN,hC⟩)
     have r:Hid (HP.p4 ⟨tx,true,tm,fl,sy,xl,hE,nl,cl,hN,hC⟩ =q++pG 2 (iz (mq (iz 0) q n))):=by
      show _=_;have h1:=T.own.1;unfold HP.p4;dsimp only;rw[af rfl,hq,h1,hq]
     rw[hq]at T
     have Sw:∀i,0<=ix q i/\ix q i<256:=by
      rw[<-hq];exact gv (WD _ hb)
     have yV:=ku (tF (x:=iz 0) (l:=q) (ku ω) Sw n);obtain⟨cv,al⟩ :=ν (iz (mq (iz 0) q n));have U:=zt 0 A n c wc.heap.size q wc T.own.rd (ai _) Sw ω ω;rw[al]at yV U r;have bl:=η U;clear U hq Sw al
     go_wp2_with fail;refine bl.out.mono ?_;rintro e w2 ⟨rfl,aE⟩;have d:=T.below aE
     go_wp2_with fail;refine(qT _ cv 2 yV ω).mono ?_;rintro e wl ⟨Al,ml,an,rfl,O,o⟩;obtain rfl:2=ml:=by have:=O.1;rw[cE]at this;exact this.symm
     have a:=d.below o;have am:=a.lt
     go_wp2_with (at_builtin;go_must (refine bq .u8 (H+1) 5 y 1 rfl (.tmp 97) (.tmp 100) _ rfl Tryz.underlying22 Hi.out J.out I.out G.out rfl a.own rfl O.rd ω ω ω ?_))
     intro M L Z z f dT;have u:=a.grown f z;go_wp2;go_returns;exact .inl ⟨K.out,M,_,L,rfl,by rw[r.out];exact HM.out▸u.own.more ω,HM.out▸u.b⟩
theorem wu {l r:aj} {i:Nat} (h:i<l.length):ix (l++r) i=ix l i:=by rw[dg,af h]
theorem a8a {l r:aj} (h:¬nz l<l.length):nz (l++0::r)=l.length:=by
 induction l with
 | nil=>rw[aZ,nY];rfl
 | cons x l b=>
   rw[nY]at h;by_cases a:x=0
   · rw[af a]at h;simp at h
   rw[aa a]at h;rw[dD,nY,aa a,b (by simp at h;omega)];rfl
theorem I8 {l:aj} {b:Bool} (h:ET l b=true):l.length<=4096/\¬nz l<l.length/\(b=true\/l=[]):=by
 unfold ET at h;simp only [Bool.and_eq_true,decide_eq_true_eq,Bool.or_eq_true,List.isEmpty_iff]at h;exact⟨h.1,h.2.1,h.2.2⟩
theorem sU {h:HP} (a:h.ok=true):h.xl.length<=65535/\(h.hE=true\/h.xl=[])/\(h.nl.length<=4096/\¬nz h.nl<h.nl.length/\(h.hN=true\/h.nl=[]))/\(h.cl.length<=4096/\¬nz h.cl<h.cl.length/\(h.hC=true\/h.cl=[])):=by
 unfold HP.ok at a;simp only [Bool.or_eq_false_iff,Bool.and_eq_false_iff,decide_eq_false_iff_not,Bool.not_eq_eq_eq_not,Bool.not_true,Bool.not_false]at a;refine⟨ω, ?_,I8 a.1.2,I8 a.2⟩;rcases a.1.1.2 with b | b
 · exact .inl b
 right;exact aG ω
theorem pH (h:HP):h.p0.length=10:=by
 unfold HP.p0;rw[ag,ag,cE];rfl
theorem vG (h:HP):bit h.F 1=h.tx/\bit h.F 2=h.sm/\bit h.F 4=h.hE/\bit h.F 8=h.hN/\bit h.F 16=h.hC:=by
 unfold HP.F zV;cases h.tx <;> cases h.sm <;> cases h.hE <;> cases h.hN <;> cases h.hC <;> decide
section
variable {h:HP} {M r:aj}
theorem a4H (a:M=h.p0++r):pre M 3:=by
 intro i hi;subst a;refine⟨by rw[ag,pH];omega, ?_⟩;unfold HP.p0;obtain rfl | rfl | rfl:i=0\/i=1\/i=2:=ω;all_goals rfl
theorem NC (a:M=h.p0++r):ix M 3=h.F:=by
 subst a;unfold HP.p0;rfl
theorem a4p (a:M=h.p0++r):10<=M.length:=by subst a;rw[ag,pH];omega
theorem s1 (b:h.bd) (a:M=h.p0++r):ten M/\fB M=h.F/\Xz M=h.tm/\TX M=h.fl/\Yl M=h.sy:=by
 have hF:=a4T h;have ht:=Xx (a4H a) (by rw[NC a];omega) (a4p a);refine⟨ht,by rw[ht.2.2.1,NC a], ?_, ?_, ?_⟩
 · rw[ht.2.2.2.1,a]
   have e:(List.drop 4 (h.p0++r)).take 4=pG 4 h.tm:=by
    unfold HP.p0;rw[av,av];show(pG 4 h.tm++_).take 4=_;exact eC (cE 4 h.tm)
   rw[e,zB 4 b.tm.1 (τ b.tm.2)]
 · rw[ht.2.2.2.2.1,a];unfold HP.p0;rw[av,av,dg,aa σ,dg,aa (by simp [cE])];simp only [cE];rfl
 rw[ht.2.2.2.2.2,a];unfold HP.p0;rw[av,av,dg,aa σ,dg,aa (by simp [cE])];simp only [cE];rfl
theorem a1T (a:h.hE=true):h.p1=h.p0++(pG 2 h.xl.length++h.xl):=by unfold HP.p1;rw[af a]
theorem a8f (a:h.hE=false):h.p1=h.p0:=by unfold HP.p1;simp [a]
theorem a8u {a:aj} (c:h.xl.length<=65535) (b:M=h.p0++(pG 2 h.xl.length++a)):oK ((M.drop 10).take 2)=(h.xl.length:Nat):=by
 rw[b,eA (pH h),eC (cE 2 _),zB 2 ω ξ]
theorem s2 (g:h.bd) (k:h.ok=true) (a:M=h.p1++r):q9 M=0/\b9 M=h.p1.length/\vO M=h.xl:=by
 have e:=sU k;cases b:h.hE with
 | false=>
   rw[a8f b]at a⊢;have c:=s1 g a;have i:h.xl=[]:=by rcases e.2.1 with d | d;rw[b]at d;cases d;exact d
   rw[pH,i];exact TR c.1 (by rw[c.2.1,(vG h).2.2.1,b])
 | true=>
   rw[a1T b,av,av]at a;have c:=s1 g a;have j:=a8u e.1 a;have f:M.length=12+h.xl.length+r.length:=by rw[a];simp [pH,cE];omega
   have:=TS c.1 (by rw[c.2.1,(vG h).2.2.1,b]) ω j ω;refine⟨this.1, ?_, ?_⟩
   · rw[this.2.1,a1T b];simp [pH,cE];omega
   rw[this.2.2,a,<-av,eA (by simp [pH,cE]),eC rfl]
theorem a2H (b:h.bd) (a:M=h.p1++r):fB M=h.F:=by
 unfold HP.p1 at a;rw[av]at a;exact(s1 b a).2.1
theorem XK {l r:aj} (h:l.length<=4096) (h':¬nz l<l.length):rz (l++0::r)=(l,l.length+1,0):=by
 unfold rz;rw[a8a h',af ⟨σ,h⟩,eC rfl]
theorem a1U (a:h.hN=true):h.p2=h.p1++(h.nl++[0]):=by unfold HP.p2;rw[af a]
theorem a8g (a:h.hN=false):h.p2=h.p1:=by unfold HP.p2;simp [a]
theorem s3 (d:h.bd) (g:h.ok=true) (a:M=h.p2++r):uS M=0/\rR M=h.p2.length/\yD M=h.nl:=by
 have f:=sU g;cases c:h.hN with
 | false=>
   rw[a8g c]at a⊢;have b:=s2 d g a;have i:h.nl=[]:=by rcases f.2.2.1.2.2 with e | e;rw[c]at e;cases e;exact e
   have:=Wc b.1 (by rw[a2H d a,(vG h).2.2.2.1,c]);rw[i,<-b.2.1];exact this
 | true=>
   rw[a1U c,av]at a;have b:=s2 d g a;have hd:M.drop (b9 M)=h.nl++0::r:=by rw[b.2.1,a,eA rfl];simp
   have ht:=XK (r:=r) f.2.2.1.1 f.2.2.1.2.1;have:=Wd b.1 (by rw[a2H d a,(vG h).2.2.2.1,c]) (by rw[hd,ht]);rw[hd,ht]at this;refine⟨this.1, ?_,this.2.2⟩;rw[this.2.1,b.2.1,a1U c];simp
theorem a1V (a:h.hC=true):h.p3=h.p2++(h.cl++[0]):=by unfold HP.p3;rw[af a]
theorem a8h (a:h.hC=false):h.p3=h.p2:=by unfold HP.p3;simp [a]
theorem a2I (b:h.bd) (a:M=h.p2++r):fB M=h.F:=by
 unfold HP.p2 at a;rw[av]at a;exact a2H b a
theorem s4 (d:h.bd) (g:h.ok=true) (a:M=h.p3++r):rP M=0/\mA M=h.p3.length/\D4 M=h.cl:=by
 have f:=sU g;cases c:h.hC with
 | false=>
   rw[a8h c]at a⊢;have b:=s3 d g a;have i:h.cl=[]:=by rcases f.2.2.2.2.2 with e | e;rw[c]at e;cases e;exact e
   have:=Tx b.1 (by rw[a2I d a,(vG h).2.2.2.2,c]);rw[i,<-b.2.1];exact this
 | true=>
   rw[a1V c,av]at a;have b:=s3 d g a;have hd:M.drop (rR M)=h.cl++0::r:=by rw[b.2.1,a,eA rfl];simp
   have ht:=XK (r:=r) f.2.2.2.1 f.2.2.2.2.1;have:=Ty b.1 (by rw[a2I d a,(vG h).2.2.2.2,c]) (by rw[hd,ht]);rw[hd,ht]at this;refine⟨this.1, ?_,this.2.2⟩;rw[this.2.1,b.2.1,a1V c];simp
theorem a5u (b:h.bd) (a:M=h.p3++r):fB M=h.F:=by
 unfold HP.p3 at a;rw[av]at a;exact a2I b a
theorem a1W (a:h.sm=true):h.p4=h.p3++pG 2 (iz (mq (iz 0) h.p3 h.p3.length)):=by unfold HP.p4;rw[af a]
theorem a8i (a:h.sm=false):h.p4=h.p3:=by unfold HP.p4;simp [a]
theorem a7Z {v:Int} (a:0<=v):oK (pG 2 v)=v%65536:=by
 show v%256+256*(v/256%256+256*0)=_;omega
theorem s5 (d:h.bd) (f:h.ok=true) (a:M=h.p4++r):kg M=0/\vk M=h.p4.length:=by
 cases c:h.sm with
 | false=>
   rw[a8i c]at a⊢;have b:=s4 d f a;have:=Xp b.1 (by rw[a5u d a,(vG h).2.1,c]);rw[<-b.2.1];exact this
 | true=>
   rw[a1W c,av]at a;have b:=s4 d f a;have g:=ku (tF (x:=iz 0) (l:=h.p3) (ku ω) (gv (WD h d)) h.p3.length);have e:M.length=h.p3.length+2+r.length:=by rw[a];simp [cE];omega
   have:=Xq b.1 (by rw[a5u d a,(vG h).2.1,c]) ω (by
    unfold EH;rw[b.2.1];have j:M.take h.p3.length=h.p3:=by rw[a,eC rfl]
    have i:(M.drop h.p3.length).take 2=pG 2 (iz (mq (iz 0) h.p3 h.p3.length)):=by rw[a,eA rfl,eC (cE 2 _)]
    rw[j,i,a7Z g.1])
   refine⟨this.1, ?_⟩;rw[this.2,b.2.1,a1W c];simp [cE]
theorem xW (a:h.bd) (c:h.ok=true) (i:M=h.p4++r) (ex:Value):kg M=0/\vk M=h.p4.length/\vO M=h.xl/\xR M ex=h.v ex:=by
 have h5:=s5 a c i;have b:M=h.p3++((if h.sm then pG 2 (iz (mq (iz 0) h.p3 h.p3.length))else [])++r):=by rw[i];unfold HP.p4;rw[av]
 have h4:=s4 a c b;have d:=b;unfold HP.p3 at d;rw[av]at d;have j:=s3 a c d;have e:=d;unfold HP.p2 at e;rw[av]at e;have k:=s2 a c e;have g:=e;unfold HP.p1 at g;rw[av]at g;have f:=s1 a g;have hF:=vG h;refine⟨h5.1,h5.2,k.2.2, ?_⟩;unfold xR NL HP.v;dsimp only;rw[f.2.1,f.2.2.1,f.2.2.2.1,f.2.2.2.2,j.2.2,h4.2.2,hF.1,hF.2.1,hF.2.2.1,hF.2.2.2.1,hF.2.2.2.2]
end
theorem a1X (h:HP):∃t,h.p4=h.p0++t:=by
 unfold HP.p4 HP.p3 HP.p2 HP.p1;exact⟨_,by rw[av,av,av]⟩
def O5:HP:= ⟨false,false,0,0,0,[],false,[],[],false,false⟩
theorem a3W:O5.bd:= ⟨δ,δ,δ,λx a=>(by cases a),λx a=>(by cases a),λx a=>(by cases a)⟩
theorem a3X:O5.p4=[31,139,8,0,0,0,0,0,0,0]:=δ
theorem iI (w:World):Calls Tryz.prog 6 #[] w λe w'=>e= .returned (.bool true)/\Below w.heap.size w w':=by
 go_enter Tryz.func6,Tryz.ntmps6
 go_wp2_with fail;refine(DV w w.heap.size O5 none 0 0 ⟨rfl,Rd.dN⟩ (ai _) a3W ω (by simp [O5]) (by simp [O5])).mono ?_;rintro e w2 (⟨_,A,n,c,rfl,a,b⟩ | ⟨hf,_⟩)
 · rw[a3X]at a;obtain rfl:n=10:=a.1;obtain⟨g,rfl⟩ :=a.2.addr ω;have c0:=a.2.cell (i:=0) ω;have d:w2.cell? ⟨g,0,none⟩ =some (.int .u8 31):=c0;clear c0 a;go_wp2;go_ret;exact⟨rfl,b⟩
 exact absurd hf δ
def Xb (h:HP):Bool:=decide (h.xl.length<=70000)&&(decide (h.nl.length<=5000)&&decide (h.cl.length<=5000))
theorem Rt (w:World) (h:HP) (X:ay) (m cc:Nat) (c:m=h.xl.length) (p:m<=9223372036854775807) (k:h.nl.length<=9223372036854775807) (l:h.cl.length<=9223372036854775807):
  Calls Tryz.prog 19 #[hagg (h.v (.slice X m cc))] w λe w'=>e= .returned (.bool (Xb h))/\Below w.heap.size w w':=by
 obtain⟨tx,sm,tm,fl,sy,xl,hE,nl,cl,hN,hC⟩ :=h;unfold hagg HP.v;dsimp only at c k l⊢;have d:=η c;have g:=η (jr nl);have f:=η (jr cl);have j:(strOf nl).size=nl.length:=g.out;have i:(strOf cl).size=cl.length:=f.out;have o:(0:Int)<=m/\(m:Int)<=9223372036854775807:=ω;have n:(nl.length:Int)<=9223372036854775807:=ω;have q:(cl.length:Int)<=9223372036854775807:=ω;have a:=(ax w.heap.size w).alloc (ai _) (.cells #[.bool tx, .bool sm, .int .u32 tm, .int .u8 fl, .int .u8 sy, .slice X m cc, .bool hE, .string (strOf nl), .string (strOf cl), .bool hN, .bool hC] 31);by_cases t:(m:Int)<=70000
 rotate_left
 · have b:Hid (Xb ⟨tx,sm,tm,fl,sy,xl,hE,nl,cl,hN,hC⟩ =false):=by show _=_;unfold Xb;dsimp only;rw[<-d.out];simp;omega
   clear c;go_enter Tryz.func19,Tryz.ntmps19;go_wp2;go_ret;exact⟨by rw[b.out];rfl,a⟩
 by_cases s:(nl.length:Int)<=5000
 · by_cases r:(cl.length:Int)<=5000
   · have b:Hid (Xb ⟨tx,sm,tm,fl,sy,xl,hE,nl,cl,hN,hC⟩ =true):=by show _=_;unfold Xb;dsimp only;rw[<-d.out];simp;omega
     clear c;go_enter Tryz.func19,Tryz.ntmps19;go_wp2;go_ret;exact⟨by rw[b.out];rfl,a⟩
   have b:Hid (Xb ⟨tx,sm,tm,fl,sy,xl,hE,nl,cl,hN,hC⟩ =false):=by show _=_;unfold Xb;dsimp only;rw[<-d.out];simp;omega
   clear c;go_enter Tryz.func19,Tryz.ntmps19;go_wp2;go_ret;exact⟨by rw[b.out];rfl,a⟩
 have b:Hid (Xb ⟨tx,sm,tm,fl,sy,xl,hE,nl,cl,hN,hC⟩ =false):=by show _=_;unfold Xb;dsimp only;rw[<-d.out];simp;omega
 clear c;go_enter Tryz.func19,Tryz.ntmps19;go_wp2;go_ret;exact⟨by rw[b.out];rfl,a⟩
theorem G8 (a b:aj):strOf a++strOf b=strOf (a++b):=by
 apply ByteArray.ext
 apply Array.ext'
 rw[ByteArray.data_append,Array.toList_append,kd,kd,kd,dR]
theorem Xo {l:aj} (h:∀x∈l,0<=x/\x<256) {k:Nat} (b:k<(strOf l).size):(((strOf l)[k]).toNat:Int)=ix l k:=by
 have a:k<l.length:=by rw[<-jr];exact b
 have hd:=kd l
 have d:(strOf l)[k]=UInt8.ofNat (l[k]).toNat:=by
  have c:(strOf l).data.toList[k]?=some ((strOf l)[k]):=by
   rw[Array.getElem?_toList];exact Array.getElem?_eq_getElem b
  rw[hd,List.getElem?_map,br a]at c
  simpa using c.symm
 rw[d];have:=h l[k] (bU a);unfold ix;rw[aq,br a];simp;omega
theorem iy:(strOf []).toList.isEmpty=true:=by rw[show(strOf []).toList=[] from(eR _).2 rfl];rfl
theorem gZ (x:Int) (l:aj):(strOf (x::l)).toList.isEmpty=false:=by
 cases a:(strOf (x::l)).toList with
 | nil=>
   have b:=(eR _).1 a;have h7:=jr (x::l);rw[b]at h7;simp at h7
 | cons=>rfl
theorem Bq {l:aj} (h:∀j,j<l.length->ix l j≠0):¬nz l<l.length:=λa=>h _ a (a1S a)
theorem a4y {h:HP} (hz:∀j,j<h.nl.length+h.cl.length->ix (h.nl++h.cl) j≠0):
  h.ok=(decide (h.xl.length<=65535)&&((h.hE||decide (h.xl.length=0))&&(decide (h.nl.length<=4096)&&((h.hN||h.nl.isEmpty)&&(decide (h.cl.length<=4096)&&(h.hC||h.cl.isEmpty)))))):=by
 have i:¬nz h.nl<h.nl.length:=Bq λj f=>by
  have:=hz j ω
  rwa [wu f]at this
 have g:¬nz h.cl<h.cl.length:=Bq λj f=>by
  have:=hz (h.nl.length+j) ω;rw[dg,aa ω]at this
  rwa [show h.nl.length+j-h.nl.length=j by omega]at this
 have l:decide (65535<h.xl.length)= !decide (h.xl.length<=65535):=by by_cases e:h.xl.length<=65535 <;> simp [e] <;> omega
 have k:decide (0<h.xl.length)= !decide (h.xl.length=0):=by by_cases e:h.xl.length=0 <;> simp [e] <;> omega
 unfold HP.ok ET;rw[aS i,aS g,l,k];generalize decide (h.xl.length<=65535)=a;generalize decide (h.xl.length=0)=b;generalize decide (h.nl.length<=4096)=c;generalize decide (h.cl.length<=4096)=d;simp only [Bool.not_or,Bool.not_and,Bool.not_not,Bool.and_assoc,Bool.true_and]
theorem a0G {h:HP} (hz:∃j,j<(h.nl++h.cl).length/\ix (h.nl++h.cl) j=0):h.ok=false:=by
 cases d:h.ok with
 | false=>rfl
 | true=>
   have b:=sU d;obtain⟨j,e,a⟩ :=hz;rw[ag]at e;have g:=Wn h.nl;have f:=Wn h.cl;rcases aV j h.nl.length with c | c
   · rw[wu c]at a;exact absurd a (Wo (τ b.2.2.1.2.1))
   rw[dg,aa ω]at a;exact absurd a (Wo (τ b.2.2.2.2.1))
theorem QO (w:World) (h:HP) (X:ay) (m cc:Nat) (F:m=h.xl.length) (J:h.bd) (hm:m<=100000) (N:h.nl.length<=10000) (Q:h.cl.length<=10000):
  Calls Tryz.prog 20 #[hagg (h.v (.slice X m cc))] w λe w'=>e= .returned (.bool h.ok)/\Below w.heap.size w w':=by
 obtain⟨tx,sm,tm,fl,sy,xl,hE,nl,cl,hN,hC⟩ :=h;unfold hagg HP.v;dsimp only at F N Q⊢;have HX:=η F;have E:=η (jr nl);have D:=η (jr cl);have r:(strOf nl).size=nl.length:=E.out;have q:(strOf cl).size=cl.length:=D.out;have Fj:(0:Int)<=m/\(m:Int)<=9223372036854775807:=ω;have V:(nl.length:Int)<=9223372036854775807:=ω;have F8:(cl.length:Int)<=9223372036854775807:=ω;have a:=(ax w.heap.size w).alloc (ai _) (.cells #[.bool tx, .bool sm, .int .u32 tm, .int .u8 fl, .int .u8 sy, .slice X m cc, .bool hE, .string (strOf nl), .string (strOf cl), .bool hN, .bool hC] 31);clear F;have Z:=G8 nl cl;have u:(strOf (nl++cl)).size=nl.length+cl.length:=by rw[jr,ag]
 have R:(nl.length:Int)<=10000/\(cl.length:Int)<=10000:=ω;go_enter Tryz.func20,Tryz.ntmps20;go_wp2;go_loop [3] (λi=>∃(k:Nat),k<=nl.length+cl.length/\i= .int .i64 (k:Int)/\Hid (∀j,j<k->ix (nl++cl) j≠0)) (λi=>(nl.length+cl.length-(intOf i).toNat))
 case atStart=>exact⟨0,ω,rfl,λj P=>ω⟩
 obtain⟨k,Y,rfl,M⟩ :=hrel;by_cases y:k<nl.length+cl.length
 · have O:(0:Int)<=k/\(k:Int)<(nl.length:Int)+(cl.length:Int):=ω;have I:k<(strOf (nl++cl)).size:=ω;have U:=η (Xo (l:=nl++cl) (kX J.nl J.cl) I)
   go_wp2_with fail
   · go_ret;have A:(((strOf (nl++cl))[k].toNat:Int)==0)=true:=by assumption
     rw[U.out]at A;refine⟨dH ?_,a⟩;exact(a0G (h:= ⟨tx,sm,tm,fl,sy,xl,hE,nl,cl,hN,hC⟩) ⟨k,by rw[ag];exact y,by simpa using A⟩).symm
   go_round
   case rel=>exact⟨k+1,ω,by go_num,λj P=>by
    rcases aV j k with S | S
    · exact M.out j S
    obtain rfl:j=k:=ω;intro h0;have A:(((strOf (nl++cl))[j].toNat:Int)==0)=false:=by assumption
    rw[U.out,h0]at A;cases A⟩
   case measure=>simp [intOf];omega
 have hz:∀j,j<nl.length+cl.length->ix (nl++cl) j≠0:=λj P=>M.out j ω;have b:=η (a4y (h:= ⟨tx,sm,tm,fl,sy,xl,hE,nl,cl,hN,hC⟩) hz);obtain rfl:nl.length+cl.length=k:=ω;dsimp only at b;rw[<-HX.out]at b;clear M hz;obtain⟨o,H⟩ :=ν (nl.length);obtain⟨g,G⟩ :=ν (cl.length);rw[H]at r R b;rw[G]at q R b;rw[H,G]at u;clear u Z E D V F8 N Q Y y;generalize W:nl.length+cl.length=kk;have O:(0:Int)<=kk/\(kk:Int)=o+g:=ω;have z:((kk:Int)<o+g)=False:=ξ;clear H G W O J;by_cases T:(m:Int)<=65535
 rotate_left
 · have f:=η (show¬m<=65535 by omega);have ac:((m:Int)<=65535)=False:=iF T;clear T;go_wp2;go_ret;exact⟨dH (by rw[b.out];simp [f.out]),a⟩
 have f:=η (show m<=65535 by omega);rcases(show hE=true\/(hE=false/\m=0)\/(hE=false/\0<m) by cases hE <;> simp <;> omega)with rfl | ⟨rfl,rfl⟩ | ⟨rfl,gm⟩
 · by_cases C:(o:Int)<=4096
   rotate_left
   · have d:=η (show¬o<=4096 by omega);have L:((o:Int)<=4096)=False:=iF C;clear C;go_wp2;go_ret;exact⟨dH (by rw[b.out];simp [f.out,d.out]),a⟩
   have d:=η (show o<=4096 by omega);rcases(show hN=true\/(hN=false/\nl=[])\/(hN=false/\∃x l,nl=x::l) by cases hN <;> cases nl <;> simp)with rfl | ⟨rfl,rfl⟩ | ⟨rfl,x,l,rfl⟩
   · by_cases p:(g:Int)<=4096
     · have c:=η (show g<=4096 by omega);rcases(show hC=true\/(hC=false/\cl=[])\/(hC=false/\∃x l,cl=x::l) by cases hC <;> cases cl <;> simp)with rfl | ⟨rfl,rfl⟩ | ⟨rfl,x,l,rfl⟩
       · go_wp2;go_ret;exact⟨dH (by rw[b.out];simp [f.out,d.out,c.out]),a⟩
       · have n:=iy;go_wp2;go_ret;exact⟨dH (by rw[b.out];simp [f.out,d.out,c.out]),a⟩
       have n:=gZ x l;go_wp2;go_ret;exact⟨dH (by rw[b.out];simp [f.out,d.out,c.out]),a⟩
     have c:=η (show¬g<=4096 by omega);have t:((g:Int)<=4096)=False:=iF p;clear p;go_wp2;go_ret;exact⟨dH (by rw[b.out];simp [f.out,d.out,c.out]),a⟩
   · have s:=iy;by_cases p:(g:Int)<=4096
     rotate_left
     · have c:=η (show¬g<=4096 by omega);have t:((g:Int)<=4096)=False:=iF p;clear p;go_wp2;go_ret;exact⟨dH (by rw[b.out];simp [f.out,d.out,c.out]),a⟩
     have c:=η (show g<=4096 by omega);rcases(show hC=true\/(hC=false/\cl=[])\/(hC=false/\∃x l,cl=x::l) by cases hC <;> cases cl <;> simp)with rfl | ⟨rfl,rfl⟩ | ⟨rfl,x,l,rfl⟩
     · go_wp2;go_ret;exact⟨dH (by rw[b.out];simp [f.out,d.out,c.out]),a⟩
     · have n:=iy;have B:o=g:=r.symm.trans q;rw[<-B]at z;clear B;go_wp2;go_ret;exact⟨dH (by rw[b.out];simp [f.out,d.out,c.out]),a⟩
     have n:=gZ x l;go_wp2;go_ret;exact⟨dH (by rw[b.out];simp [f.out,d.out,c.out]),a⟩
   have s:=gZ x l;go_wp2;go_ret;exact⟨dH (by rw[b.out];simp [f.out,d.out]),a⟩
 · by_cases C:(o:Int)<=4096
   rotate_left
   · have d:=η (show¬o<=4096 by omega);have L:((o:Int)<=4096)=False:=iF C;clear C;go_wp2;go_ret;exact⟨dH (by rw[b.out];simp [f.out,d.out]),a⟩
   have d:=η (show o<=4096 by omega);rcases(show hN=true\/(hN=false/\nl=[])\/(hN=false/\∃x l,nl=x::l) by cases hN <;> cases nl <;> simp)with rfl | ⟨rfl,rfl⟩ | ⟨rfl,x,l,rfl⟩
   · by_cases p:(g:Int)<=4096
     · have c:=η (show g<=4096 by omega);rcases(show hC=true\/(hC=false/\cl=[])\/(hC=false/\∃x l,cl=x::l) by cases hC <;> cases cl <;> simp)with rfl | ⟨rfl,rfl⟩ | ⟨rfl,x,l,rfl⟩
       · go_wp2;go_ret;exact⟨dH (by rw[b.out];simp [f.out,d.out,c.out]),a⟩
       · have n:=iy;go_wp2;go_ret;exact⟨dH (by rw[b.out];simp [f.out,d.out,c.out]),a⟩
       have n:=gZ x l;go_wp2;go_ret;exact⟨dH (by rw[b.out];simp [f.out,d.out,c.out]),a⟩
     have c:=η (show¬g<=4096 by omega);have t:((g:Int)<=4096)=False:=iF p;clear p;go_wp2;go_ret;exact⟨dH (by rw[b.out];simp [f.out,d.out,c.out]),a⟩
   · have s:=iy;by_cases p:(g:Int)<=4096
     rotate_left
     · have c:=η (show¬g<=4096 by omega);have t:((g:Int)<=4096)=False:=iF p;clear p;go_wp2;go_ret;exact⟨dH (by rw[b.out];simp [f.out,d.out,c.out]),a⟩
     have c:=η (show g<=4096 by omega);rcases(show hC=true\/(hC=false/\cl=[])\/(hC=false/\∃x l,cl=x::l) by cases hC <;> cases cl <;> simp)with rfl | ⟨rfl,rfl⟩ | ⟨rfl,x,l,rfl⟩
     · go_wp2;go_ret;exact⟨dH (by rw[b.out];simp [f.out,d.out,c.out]),a⟩
     · have n:=iy;have B:o=g:=r.symm.trans q;rw[<-B]at z;clear B;go_wp2;go_ret;exact⟨dH (by rw[b.out];simp [f.out,d.out,c.out]),a⟩
     have n:=gZ x l;go_wp2;go_ret;exact⟨dH (by rw[b.out];simp [f.out,d.out,c.out]),a⟩
   have s:=gZ x l;go_wp2;go_ret;exact⟨dH (by rw[b.out];simp [f.out,d.out]),a⟩
 have ab:((m:Int)==0)=false:=ξ;have K:=η (show¬m=0 by omega);go_wp2;go_ret;exact⟨dH (by rw[b.out];simp [f.out,K.out]),a⟩
end Go.Proofs.YtdhmnlpfhfmpfaaGreat
