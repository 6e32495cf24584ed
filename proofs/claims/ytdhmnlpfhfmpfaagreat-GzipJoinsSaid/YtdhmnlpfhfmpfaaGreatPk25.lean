/-
  part
-/
import Derived.Test.YtdhmnlpfhfmpfaaGreatHdM
import Derived.Test.YtdhmnlpfhfmpfaaGreatPk29
set_option linter.unusedVariables false
set_option maxRecDepth 100000
set_option maxHeartbeats 4000000
namespace Go.Proofs.YtdhmnlpfhfmpfaaGreat
open Go.RowKit
theorem Jg {P:Program} {w:World} (b0:Nat) (t u p e:TypeId) (i:TypeInfo) (ht:P.underlying t=some (.slice e)) (s:P.underlying u=some .string) (hi:P.info? e=some i) (hz:i.zero=some (.int .u8 0))
  (b:i.size=1) (m:i.bytes=1) {A:Option Addr} {n c:Nat} {l:List Int} (a:aW .u8 w b0 e A n c l) (l':List Int) (C:∀x∈l',0<=x/\x<256) (D:n+l'.length<=1000000000000) (d:b0<=w.heap.size):
  ∃A2 c2 w2,(Builtin.append_ #[t,u] p #[.slice A n c, .string (strOf l')]).run P w= .ok (.slice A2 (n+l'.length) c2) w2/\aW .u8 w2 b0 e A2 (n+l'.length) c2 (l++l')/\w.grownBy w2 (ai A):=by
 have h:=BM l';obtain⟨F,w',v,q,E,_⟩ :=Lib.run_append_own_string (P:=P) w b0 t u p e i ht s hi hz b m _ n _ a.2.owns (strOf l') (by rw[h];unfold maxLen;omega) (by rw[h];omega) d;rw[h]at q
 obtain⟨A2,c2,rfl,y,B⟩ :=yb (f:=λi=> .int .u8 (ix (l++l') i)) q (λj z=>by
  rw[dG]at z;have r:=a.1;rw[dn];by_cases h':j<l.length
  · rw[ae h',bJ ξ];simp [r,h']
  rw[aa h',bF ξ];have k:j-l.length<l'.length:=ω;simp only [Lib.strCells,uP,List.map_map,List.length_map,List.length_range,Nat.mul_one,List.getElem?_map];rw[r];have g:=C (ix l' (j-l.length)) (by unfold ix;rw[aq,bN k];exact cF _);unfold ix at g⊢;rw[aq,bN k]at g;rw[aq,bN k];simp only [Option.getD_some,Option.map_some,Function.comp]at g⊢;congr 2;have:=g.1;have:=g.2;simp;omega)
 have o:(Value.slice A n c).ownBlock=ai A:=by cases A <;> rfl
 exact⟨A2,c2,w',v, ⟨by rw[af,<-a.1],y⟩,o▸E⟩
theorem sW {P:Program} {w:World} {b:Array Oper} {rest:List Oper} {o:Oper} {a:Act} {Q:Exit->Act->World->Prop} (b0:Nat) (e:TypeId) (i:TypeInfo) (k:Region.wanted o (yielded b a.tmps)=true) (s x:Operand) (t u:TypeId)
  (y:o.op= .call { callee:= .builtin .append,args:= #[s,x],argTypes:= #[t,u] }) (ht:P.underlying t=some (.slice e)) (r:P.underlying u=some .string) (hi:P.info? e=some i) (hz:i.zero=some (.int .u8 0))
  (d:i.size=1) (m:i.bytes=1) {A:Option Addr} {n c:Nat} {l:List Int} (v:a.eval s= .slice A n c) (j:aW .u8 w b0 e A n c l)
  (l':List Int) (q:a.eval x= .string (strOf l')) (z:∀x∈l',0<=x/\x<256) (p:n+l'.length<=1000000000000) (f:b0<=w.heap.size)
  (h:∀A2 c2 w2,aW .u8 w2 b0 e A2 (n+l'.length) c2 (l++l')->w.grownBy w2 (ai A)->wpList P b Q rest (a.put o.dst (.slice A2 (n+l'.length) c2)) w2):wpList P b Q (o::rest) a w:=by
 refine iU λK B=> ?_;rw[ae k];obtain⟨A2,c2,w2,g,D,C⟩ :=Jg (P:=P) (w:=w) b0 t u o.type e i ht r hi hz d m j l' z p f;unfold Oper.wp execOp;simp only [y,resolve,invoke,builtin,Sem.run_bind,Sem.run_pure,Result.andThen_ok,List.map_toArray,List.map_cons,List.map_nil,v,q,g];exact B _ _ (h A2 c2 w2 D C)
theorem bU.TG {w w':World} {B n:Nat} {A:Option Addr} {l:List Int} {row:Option Nat} (h:bU .u8 w B A n l) (e:w.grownBy w' row) (f:B<=w.heap.size) (d:∀k,row=some k->∀a,A=some a->a.block≠k):bU .u8 w' B A n l:=
 ((bj.refl w (λk=>row=some k)).grown e (λk b=> .inl b)).rA h f (λ_ a c b=>d _ b a c rfl)
structure HP where
 tx:Bool
 sm:Bool
 tm:Int
 fl:Int
 sy:Int
 xl:List Int
 hE:Bool
 nl:List Int
 cl:List Int
 hN:Bool
 hC:Bool
def HP.v (h:HP) (ex:Value):HV:= ⟨h.tx,h.sm,h.tm,h.fl,h.sy,ex,h.hE,strOf h.nl,strOf h.cl,h.hN,h.hC⟩
def HP.F (h:HP):Int:=zF h.tx 1+zF h.sm 2+zF h.hE 4+zF h.hN 8+zF h.hC 16
def HP.ok (h:HP):Bool:= !(decide (65535<h.xl.length)||(!h.hE&&decide (0<h.xl.length))|| !Gm h.nl h.hN|| !Gm h.cl h.hC)
structure HP.bd (h:HP):Prop where
 tm:0<=h.tm/\h.tm<4294967296
 fl:0<=h.fl/\h.fl<256
 sy:0<=h.sy/\h.sy<256
 xl:∀x∈h.xl,0<=x/\x<256
 nl:∀x∈h.nl,0<=x/\x<256
 cl:∀x∈h.cl,0<=x/\x<256
def HP.p0 (h:HP):List Int:=[31,139,8,h.F]++ot 4 h.tm++[h.fl,h.sy]
def HP.p1 (h:HP):List Int:=h.p0++if h.hE then ot 2 h.xl.length++h.xl else []
def HP.p2 (h:HP):List Int:=h.p1++if h.hN then h.nl++[0] else []
def HP.p3 (h:HP):List Int:=h.p2++if h.hC then h.cl++[0] else []
def HP.p4 (h:HP):List Int:=h.p3++if h.sm then ot 2 (iq (lW (iq 0) h.p3 h.p3.length))else []
theorem VN (a b c d e:Bool):bits .or .u8 (bits .or .u8 (bits .or .u8 (bits .or .u8 (zF a 1) (zF b 2)) (zF c 4)) (zF d 8)) (zF e 16)=zF a 1+zF b 2+zF c 4+zF d 8+zF e 16:=by
 cases a <;> cases b <;> cases c <;> cases d <;> cases e <;> rfl
structure PW (w0 w:World) (B H:Nat) (h:HP) (X:Option Addr) (m cc:Nat) (A:Option Addr) (n c:Nat) (L:List Int):Prop where
 hd:Ar w H 11 (hf (h.v (.slice X m cc)))
 x:bU .u8 w B X m h.xl
 b:Below H w0 w
 eq:H=w0.heap.size
 BH:B<=H
 own:aW .u8 w (H+1) 5 A n c L
section
variable {w0 w w':World} {B H m cc n c:Nat} {h:HP} {X A:Option Addr} {L:List Int}
theorem PW.drewN (s:PW w0 w B H h X m cc A n c L) (q:Nat):PW w0 (w.drewN q) B H h X m cc A n c L:= ⟨s.hd.drewN q,s.x.drewN q,below_drewN s.b q,s.eq,s.BH,s.own.drewN q⟩
theorem PW.below (s:PW w0 w B H h X m cc A n c L) (a:Below w.heap.size w w'):PW w0 w' B H h X m cc A n c L:=
 ⟨s.hd.keeps a,s.x.keep λp hp=>a.cell (by have:=s.hd.lt;have:=s.BH;omega),iR s.b (a.mono (by have:=s.hd.lt;omega)),s.eq,s.BH,s.own.keeps a⟩
theorem PW.grown {A':Option Addr} {n' c':Nat} {f:List Int} (s:PW w0 w B H h X m cc A n c L) (i:w.grownBy w' (ai A)) (g:aW .u8 w' (H+1) 5 A' n' c' f):PW w0 w' B H h X m cc A' n' c' f:=by
 have d:∀k,ai A=some k->H+1<=k:=λk a=>(s.own.2.lt a).1;have j:=s.hd.lt;have hC:bj w w' (λk=>ai A=some k):=(bj.refl w _).grown i (λk a=> .inl a);have e:Below (H+1) w w':=hC.below (λk a=>by have:=d k a;omega) ω;exact⟨hC.ar s.hd λh=>by have:=d _ h;omega,s.x.keep λp hp=>e.cell (by have:=s.BH;omega),iR s.b (e.mono ω),s.eq,s.BH,g⟩
theorem PW.lt (s:PW w0 w B H h X m cc A n c L):H<w.heap.size:=s.hd.lt
theorem PW.a45 (s:PW w0 w B H h X m cc A n c L) {Z:Nat} (e:Z=w.heap.size) (l:List Int) (d:l.length<=maxLen):PW w0 (w.alloc (.cells (l.map (Value.int .u8)).toArray 5)) B H h X m cc (some ⟨Z,0,none⟩) l.length l.length l:=
 have a:=s.below (w':=w.alloc (.cells (l.map (Value.int .u8)).toArray 5)) ((aw _ _).alloc (ag _) _)
 ⟨a.hd,a.x,a.b,s.eq,s.BH,aW.lit e l _ (by have:=s.hd.lt;omega) d⟩
theorem PW.lit (s:PW w0 w B H h X m cc A n c L) (o:Obj):PW w0 (w.alloc o) B H h X m cc A n c L:=s.below ((aw _ _).alloc (ag _) _)
theorem PW.three (s:PW w0 w B H h X m cc A n c L):w.cell? ⟨H,2,none⟩ =some (.int .u32 h.tm)/\w.cell? ⟨H,3,none⟩ =some (.int .u8 h.fl)/\w.cell? ⟨H,4,none⟩ =some (.int .u8 h.sy):= ⟨s.hd.cell (i:=2) ω,s.hd.cell (i:=3) ω,s.hd.cell (i:=4) ω⟩
theorem PW.exx (s:PW w0 w B H h X m cc A n c L):w.cell? ⟨H,5,none⟩ =some (.slice X m cc):=s.hd.cell (i:=5) ω
theorem PW.drew (s:PW w0 w B H h X m cc A n c L):PW w0 w.drew B H h X m cc A n c L:=s.drewN 1
end
def CP (w:World) (h:HP) (E:Ending) (w':World):Prop:=
 (h.ok=true/\∃A n c,E= .returned (.tuple #[.slice A n c, .int .i64 0])/\aW .u8 w' w.heap.size 5 A n c h.p4/\Below w.heap.size w w')\/
 (h.ok=false/\E= .returned (.tuple #[.slice none 0 0, .int .i64 2])/\Below w.heap.size w w')
theorem mi {a b:List Int} (e:∀x∈a,0<=x/\x<256) (d:∀x∈b,0<=x/\x<256):∀x∈a++b,0<=x/\x<256:=λx c=>(aN.1 c).elim (e x) (d x)
theorem a4o (h:HP):0<=h.F/\h.F<32:=by
 unfold HP.F zF;cases h.tx <;> cases h.sm <;> cases h.hE <;> cases h.hN <;> cases h.hC <;> decide
theorem a7S (h:HP) (b:h.bd):∀x∈h.p0,0<=x/\x<256:=by
 unfold HP.p0;refine mi (mi ?_ (B4 _ _)) ?_
 · have:=a4o h;intro x a;simp at a;rcases a with rfl | rfl | rfl | rfl <;> omega
 have:=b.fl;have:=b.sy;intro x a;simp at a;rcases a with rfl | rfl <;> omega
theorem O2:∀x∈[(0:Int)],0<=x/\x<256:=λx a=>by simp at a;omega
theorem FA:∀x∈([]:List Int),0<=x/\x<256:=λx a=>by cases a
theorem VW (h:HP) (a:h.bd):∀x∈h.p3,0<=x/\x<256:=by
 unfold HP.p3 HP.p2 HP.p1;refine mi (mi (mi (a7S h a) ?_) ?_) ?_
 · split
   · exact mi (B4 _ _) a.xl
   exact FA
 · split
   · exact mi a.nl O2
   exact FA
 split
 · exact mi a.cl O2
 exact FA
theorem DR (w:World) (B:Nat) (h:HP) (X:Option Addr) (m cc:Nat) (hx:bU .u8 w B X m h.xl) (hB:B<=w.heap.size) (hb:h.bd) (nH:m<=100000) (fX:h.nl.length<=100000) (kz:h.cl.length<=100000):
  Calls Tryz.prog 23 #[hagg (h.v (.slice X m cc))] w (CP w h):=by
 obtain⟨tx,sm,tm,fl,sy,xl,hE,nl,cl,hN,hC⟩ :=h;unfold hagg HP.v;dsimp only at hx fX kz⊢;have P:=η hx.1
 have j:PW w (w.alloc (.cells #[.bool tx, .bool sm, .int .u32 tm, .int .u8 fl, .int .u8 sy, .slice X m cc, .bool hE, .string (strOf nl), .string (strOf cl), .bool hN, .bool hC] 31)) B w.heap.size ⟨tx,sm,tm,fl,sy,xl,hE,nl,cl,hN,hC⟩ X m cc none 0 0 []:=
  ⟨Ar.VB rfl _ _ rfl (λi hi=>by
    rcases rL hi with rfl | rfl | rfl | rfl | rfl | rfl | rfl | rfl | rfl | rfl | rfl;all_goals rfl),hx.alloc hB _,(aw _ _).alloc (ag _) _,rfl,hB,aW.dK⟩
 have Gu:(0:Int)<=m/\(m:Int)<=100000:=ω;go_enter Tryz.func23,Tryz.ntmps23;go_upto_region 1 with fail
 revert j;generalize w.alloc (.cells #[.bool tx, .bool sm, .int .u32 tm, .int .u8 fl, .int .u8 sy, .slice X m cc, .bool hE, .string (strOf nl), .string (strOf cl), .bool hN, .bool hC] 31)=w1;intro j;obtain⟨H,hH⟩ :=ν (w.heap.size);rw[hH]at j⊢;clear hH;have Q:=hb.nl;have R:=hb.cl;have um:=hb.xl;have vE:=hb.tm;have W:nl.length<=100000000:=ω;have Y:cl.length<=100000000:=ω;dsimp only at Q R um vE;have HM:=η (j.eq);obtain⟨XE,al⟩ :=ν (HP.ok ⟨tx,sm,tm,fl,sy,xl,hE,nl,cl,hN,hC⟩);have K:=η al;clear al;go_cut [35] (λs wx=>s= .bool (!XE)/\wx=w1)
 case first=>
  have k5:w1.cell? ⟨H,5,none⟩ =some (.slice X m cc):=j.hd.cell (i:=5) ω;have k6:w1.cell? ⟨H,6,none⟩ =some (.bool hE):=j.hd.cell (i:=6) ω;have k7:w1.cell? ⟨H,7,none⟩ =some (.string (strOf nl)):=j.hd.cell (i:=7) ω;have k8:w1.cell? ⟨H,8,none⟩ =some (.string (strOf cl)):=j.hd.cell (i:=8) ω;have k9:w1.cell? ⟨H,9,none⟩ =some (.bool hN):=j.hd.cell (i:=9) ω;have XC:w1.cell? ⟨H,10,none⟩ =some (.bool hC):=j.hd.cell (i:=10) ω;by_cases h1:65535<m
  · have bi:(65535:Int)<m:=ω;have t:Hid (true= !XE):=by show _=_;rw[<-K.out];unfold HP.ok;dsimp only;rw[<-P.out];simp [h1]
    go_wp2;go_meet;exact⟨aL Value.bool t.out,rfl⟩
  have bi:¬(65535:Int)<m:=ω;have aE:(hE=false/\0<m)\/(hE=false/\m=0)\/hE=true:=by cases hE <;> simp <;> omega
  rcases aE with ⟨rfl,h2⟩ | ⟨rfl,h2⟩ | rfl
  · have bs:(0:Int)<m:=ω;have t:Hid (true= !XE):=by show _=_;rw[<-K.out];unfold HP.ok;dsimp only;rw[<-P.out];simp [h2]
    go_wp2;go_meet;exact⟨aL Value.bool t.out,rfl⟩
  · cases D:Gm nl hN with
    | false=>
      have t:Hid (true= !XE):=by show _=_;rw[<-K.out];unfold HP.ok;dsimp only;rw[<-P.out];simp [D]
      subst h2
      go_wp2_with (go_at_call 36;((first | (with_reducible refine(jv _ nl hN Q W).mono ?_) | (with_reducible refine(jv _ cl hC R Y).mono ?_));rintro e w2 ⟨rfl,rfl⟩))
      go_meet;exact⟨aL Value.bool t.out,rfl⟩
    | true=>
      cases C:Gm cl hC with
      | false=>
        have t:Hid (true= !XE):=by show _=_;rw[<-K.out];unfold HP.ok;dsimp only;rw[<-P.out];simp [C]
        subst h2
        go_wp2_with (go_at_call 36;((first | (with_reducible refine(jv _ nl hN Q W).mono ?_) | (with_reducible refine(jv _ cl hC R Y).mono ?_));rintro e w2 ⟨rfl,rfl⟩))
        go_meet;exact⟨aL Value.bool t.out,rfl⟩
      | true=>
        have t:Hid (false= !XE):=by show _=_;rw[<-K.out];unfold HP.ok;dsimp only;rw[<-P.out];simp [D,C];omega
        subst h2
        go_wp2_with (go_at_call 36;((first | (with_reducible refine(jv _ nl hN Q W).mono ?_) | (with_reducible refine(jv _ cl hC R Y).mono ?_));rintro e w2 ⟨rfl,rfl⟩))
        go_meet;exact⟨aL Value.bool t.out,rfl⟩
  cases D:Gm nl hN with
  | false=>
    have t:Hid (true= !XE):=by show _=_;rw[<-K.out];unfold HP.ok;dsimp only;rw[<-P.out];simp [D]
    go_wp2_with (go_at_call 36;((first | (with_reducible refine(jv _ nl hN Q W).mono ?_) | (with_reducible refine(jv _ cl hC R Y).mono ?_));rintro e w2 ⟨rfl,rfl⟩))
    go_meet;exact⟨aL Value.bool t.out,rfl⟩
  | true=>
    cases C:Gm cl hC with
    | false=>
      have t:Hid (true= !XE):=by show _=_;rw[<-K.out];unfold HP.ok;dsimp only;rw[<-P.out];simp [C]
      go_wp2_with (go_at_call 36;((first | (with_reducible refine(jv _ nl hN Q W).mono ?_) | (with_reducible refine(jv _ cl hC R Y).mono ?_));rintro e w2 ⟨rfl,rfl⟩))
      go_meet;exact⟨aL Value.bool t.out,rfl⟩
    | true=>
      have t:Hid (false= !XE):=by show _=_;rw[<-K.out];unfold HP.ok;dsimp only;rw[<-P.out];simp [D,C];omega
      go_wp2_with (go_at_call 36;((first | (with_reducible refine(jv _ nl hN Q W).mono ?_) | (with_reducible refine(jv _ cl hC R Y).mono ?_));rintro e w2 ⟨rfl,rfl⟩))
      go_meet;exact⟨aL Value.bool t.out,rfl⟩
 case rest=>
 obtain⟨rfl,rfl⟩ :=hcut;cases XE with
 | false=>
   go_wp2_with fail;go_returns;exact .inr ⟨K.out,rfl,HM.out▸j.b⟩
 | true=>
   go_upto_region 3 with fail
   have ap:=η (VN tx sm hE hN hC);obtain⟨F,hF⟩ :=ν (zF tx 1+zF sm 2+zF hE 4+zF hN 8+zF hC 16);rw[hF]at ap;have HF:=η hF;clear hF;go_cut [4] (λs wx=>∃A c,s= .slice A 4 c/\PW w wx B H ⟨tx,sm,tm,fl,sy,xl,hE,nl,cl,hN,hC⟩ X m cc A 4 c [31,139,8,F])
   case first=>
    have k0:wc.cell? ⟨H,0,none⟩ =some (.bool tx):=j.hd.cell (i:=0) ω;have k1:wc.cell? ⟨H,1,none⟩ =some (.bool sm):=j.hd.cell (i:=1) ω;have k6:wc.cell? ⟨H,6,none⟩ =some (.bool hE):=j.hd.cell (i:=6) ω;have k9:wc.cell? ⟨H,9,none⟩ =some (.bool hN):=j.hd.cell (i:=9) ω;have XC:wc.cell? ⟨H,10,none⟩ =some (.bool hC):=j.hd.cell (i:=10) ω;have YK:=j.lt
    go_region_held3 (λw'=>w'.cell? ⟨H,0,none⟩ =some (.bool tx)/\w'.cell? ⟨H,1,none⟩ =some (.bool sm)/\w'.cell? ⟨H,6,none⟩ =some (.bool hE)/\w'.cell? ⟨H,9,none⟩ =some (.bool hN)/\w'.cell? ⟨H,10,none⟩ =some (.bool hC)) (first | exact⟨k0,k1,k6,k9,XC⟩ | go_keep) (first | (go_at_call 37;(refine(Vw _ _ _).mono ?_);rintro e w2 ⟨rfl,rfl⟩))
    go_wp2;go_meet;refine⟨_,4,rfl, ?_⟩;rw[ap.out];exact(j.a45 rfl [31,139,8,F] (by unfold maxLen;simp)).drewN 1
   case rest=>
   clear j;obtain⟨A,c,rfl,T⟩ :=hcut;obtain⟨y,hi,ah,ac,ab⟩ :=aJ gC;have Hi:=η hi;have J:=η ah;have I:=η ac;have G:=η ab;clear hi ah ac ab;go_upto_region 4 with fail
   go_cut [4] (λs wx=>∃A c,s= .slice A 10 c/\PW w wx B H ⟨tx,sm,tm,fl,sy,xl,hE,nl,cl,hN,hC⟩ X m cc A 10 c (HP.p0 ⟨tx,sm,tm,fl,sy,xl,hE,nl,cl,hN,hC⟩))
   case first=>
    have k2:wc.cell? ⟨H,2,none⟩ =some (.int .u32 tm):=T.hd.cell (i:=2) ω;have k3:wc.cell? ⟨H,3,none⟩ =some (.int .u8 fl):=T.hd.cell (i:=3) ω;have k4:wc.cell? ⟨H,4,none⟩ =some (.int .u8 sy):=T.hd.cell (i:=4) ω;have YK:=T.lt;have bl:Hid (HP.p0 ⟨tx,sm,tm,fl,sy,xl,hE,nl,cl,hN,hC⟩ =[31,139,8,F]++ot 4 tm++[fl,sy]):=by show _=_;unfold HP.p0 HP.F;dsimp only;rw[HF.out]
    go_region_held3 (λw'=>w'.cell? ⟨H,2,none⟩ =some (.int .u32 tm)/\w'.cell? ⟨H,3,none⟩ =some (.int .u8 fl)/\w'.cell? ⟨H,4,none⟩ =some (.int .u8 sy))
     (first | exact PW.three T | exact PW.three T.drew | exact PW.three (T.lit _) | exact PW.three (T.lit _).drew | exact PW.three d | exact PW.three (d.lit _) | exact PW.three a | exact PW.three (a.lit _) | exact PW.three u)
     (first
       | (go_at_call 28;(refine(qH _ tm 4 vE ω).mono ?_);rintro e wl ⟨Al,ml,ao,rfl,O,o⟩
          obtain rfl:4=ml:=by have:=O.1;rw[cU]at this;exact this.symm
          first
           | have d:=T.drew.below o
           | (have d:=(T.lit _).drew.below o;have cW:=bU.keep (bU.lit .u8 wc [fl,sy] 5) (λp hp=>o.cell (p:=p) ξ)))
       | ((refine eM .u8 (H+1) 5 y 1 rfl (.tmp 56) (.tmp 59) _ rfl Tryz.underlying22 Hi.out J.out I.out G.out rfl d.own rfl O.rd (by simp <;> omega) ω (by first | (have:=d.lt;omega) | (have:=a.lt;omega) | (have:=d.lt;simp;omega) | (have:=a.lt;simp;omega)) ?_);intro A3 c3 S N g pj
          have a:=d.grown g N
          try have cW:=bU.TG cW g (by have:=o.size;simp at this;omega) (λk hk ad V=>by cases V;have:=(T.own.2.lt hk).2;simp;omega))
       | ((refine eM .u8 (H+1) 5 y 1 rfl (.tmp 56) (.tmp 59) _ rfl Tryz.underlying22 Hi.out J.out I.out G.out rfl (d.lit _).own rfl (O.rd.alloc (ag _) _) (by simp <;> omega) ω (by first | (have:=d.lt;omega) | (have:=a.lt;omega) | (have:=d.lt;simp;omega) | (have:=a.lt;simp;omega)) ?_);intro A3 c3 S N g pj
          have a:=(d.lit _).grown g N;have cW:=bU.TG (bU.lit .u8 wl [fl,sy] 5) g σ (λk hk ad V=>by cases V;have:=(d.own.2.lt hk).2;simp;omega))
       | ((refine eM .u8 (H+1) 5 y 1 rfl (.tmp 60) (.tmp 65) _ rfl Tryz.underlying22 Hi.out J.out I.out G.out rfl (a.lit _).own rfl (bU.lit .u8 S [fl,sy] 5) (by simp <;> omega) ω (by first | (have:=d.lt;omega) | (have:=a.lt;omega) | (have:=d.lt;simp;omega) | (have:=a.lt;simp;omega)) ?_);intro M L Z z f dP
          have u:=(a.lit _).grown f z)
       | ((refine eM .u8 (H+1) 5 y 1 rfl (.tmp 60) (.tmp 65) _ rfl Tryz.underlying22 Hi.out J.out I.out G.out rfl a.own rfl cW (by simp <;> omega) ω (by first | (have:=d.lt;omega) | (have:=a.lt;omega) | (have:=d.lt;simp;omega) | (have:=a.lt;simp;omega)) ?_);intro M L Z z f dP
          have u:=a.grown f z))
    all_goals
     go_wp2;go_meet;refine⟨M,L,rfl, ?_⟩;rw[bl.out];exact u
   case rest=>
   clear T;obtain⟨A,c,rfl,T⟩ :=hcut;have k6:wc.cell? ⟨H,6,none⟩ =some (.bool hE):=T.hd.cell (i:=6) ω
   go_upto_if 68 with fail
   go_cut [4] (λs wx=>∃A n c,s= .slice A n c/\n<=200000/\PW w wx B H ⟨tx,sm,tm,fl,sy,xl,hE,nl,cl,hN,hC⟩ X m cc A n c (HP.p1 ⟨tx,sm,tm,fl,sy,xl,hE,nl,cl,hN,hC⟩))
   case first=>
    cases hE with
    | false=>
      have r:Hid (HP.p1 ⟨tx,sm,tm,fl,sy,xl,false,nl,cl,hN,hC⟩ =HP.p0 ⟨tx,sm,tm,fl,sy,xl,false,nl,cl,hN,hC⟩):=by show _=_;unfold HP.p1;simp
      go_wp2;go_meet;refine⟨A,10,c,rfl,ω, ?_⟩;rw[r.out];exact T
    | true=>
      have r:Hid (HP.p1 ⟨tx,sm,tm,fl,sy,xl,true,nl,cl,hN,hC⟩ =HP.p0 ⟨tx,sm,tm,fl,sy,xl,true,nl,cl,hN,hC⟩ ++ot 2 m++xl):=by show _=_;unfold HP.p1;dsimp only;rw[ae rfl,<-P.out,ak]
      have YK:=T.lt;have k5:=T.exx;have bp:IntKind.u32.wrap (m:Int)=m:=by rw[fw];omega
      go_upto_region 6 with fail
      go_region_held3 (λw'=>w'.cell? ⟨H,5,none⟩ =some (.slice X m cc))
       (first | exact PW.exx T | exact PW.exx T.drew | exact PW.exx d | exact PW.exx a | exact PW.exx u)
       (first
         | (go_at_call 28;(refine(qH _ (m:Int) 2 ω ω).mono ?_);rintro e wl ⟨Al,ml,ao,rfl,O,o⟩
            obtain rfl:2=ml:=by have:=O.1;rw[cU]at this;exact this.symm
            have d:=T.drew.below o)
         | (have _g:=a;(refine eM .u8 (H+1) 5 y 1 rfl (.tmp 75) (.tmp 77) _ rfl Tryz.underlying22 Hi.out J.out I.out G.out rfl a.own rfl a.x ω ω (by have:=a.lt;omega) ?_);intro M L Z z f dP
            have u:=a.grown f z)
         | (have _g:=d;(refine eM .u8 (H+1) 5 y 1 rfl (.tmp 69) (.tmp 74) _ rfl Tryz.underlying22 Hi.out J.out I.out G.out rfl d.own rfl O.rd ω ω (by have:=d.lt;omega) ?_);intro A3 c3 S N g pj
            have a:=d.grown g N))
      all_goals
       go_wp2;go_meet;refine⟨M,_,L,rfl,ω, ?_⟩;rw[r.out];exact u
   case rest=>
   clear T k6;obtain⟨A,n,c,rfl,qi,T⟩ :=hcut;have k9:wc.cell? ⟨H,9,none⟩ =some (.bool hN):=T.hd.cell (i:=9) ω
   go_upto_if 80 with fail
   go_cut [4] (λs wx=>∃A n c,s= .slice A n c/\n<=400000/\PW w wx B H ⟨tx,sm,tm,fl,sy,xl,hE,nl,cl,hN,hC⟩ X m cc A n c (HP.p2 ⟨tx,sm,tm,fl,sy,xl,hE,nl,cl,hN,hC⟩))
   case first=>
    cases hN with
    | false=>
      have r:Hid (HP.p2 ⟨tx,sm,tm,fl,sy,xl,hE,nl,cl,false,hC⟩ =HP.p1 ⟨tx,sm,tm,fl,sy,xl,hE,nl,cl,false,hC⟩):=by show _=_;unfold HP.p2;simp
      go_wp2;go_meet;refine⟨A,n,c,rfl,ω, ?_⟩;rw[r.out];exact T
    | true=>
      have r:Hid (HP.p2 ⟨tx,sm,tm,fl,sy,xl,hE,nl,cl,true,hC⟩ =HP.p1 ⟨tx,sm,tm,fl,sy,xl,hE,nl,cl,true,hC⟩ ++(nl++[0])):=by show _=_;unfold HP.p2;dsimp only;rw[ae rfl]
      have YK:=T.lt;have k7:wc.cell? ⟨H,7,none⟩ =some (.string (strOf nl)):=T.hd.cell (i:=7) ω
      go_wp2_with (at_builtin;go_must (refine sW (H+1) 5 y rfl (.tmp 81) (.tmp 83) _ _ rfl Tryz.underlying22 Tryz.underlying9 Hi.out J.out I.out G.out rfl T.own nl rfl Q ω ω ?_))
      intro A3 c3 S N g;have a:=T.grown g N;have an:=a.lt;have E:=a.lit (.cells #[.int .u8 0] 5)
      go_wp2_with (at_builtin;go_must (refine ba .u8 (H+1) 5 y 1 rfl (.tmp 84) (.tmp 85) _ rfl Tryz.underlying22 Hi.out J.out I.out G.out rfl E.own rfl (bU.lit .u8 S [0] 5) ξ ω ξ ?_))
      intro M L Z z f dP;have u:=E.grown f z;go_wp2;go_meet;refine⟨M,_,L,rfl,ξ, ?_⟩;rw[r.out];exact u
   case rest=>
   clear T k9 qi;obtain⟨A,n,c,rfl,qi,T⟩ :=hcut;have XC:wc.cell? ⟨H,10,none⟩ =some (.bool hC):=T.hd.cell (i:=10) ω
   go_upto_if 88 with fail
   go_cut [4] (λs wx=>∃A n c,s= .slice A n c/\n<=600000/\PW w wx B H ⟨tx,sm,tm,fl,sy,xl,hE,nl,cl,hN,hC⟩ X m cc A n c (HP.p3 ⟨tx,sm,tm,fl,sy,xl,hE,nl,cl,hN,hC⟩))
   case first=>
    cases hC with
    | false=>
      have r:Hid (HP.p3 ⟨tx,sm,tm,fl,sy,xl,hE,nl,cl,hN,false⟩ =HP.p2 ⟨tx,sm,tm,fl,sy,xl,hE,nl,cl,hN,false⟩):=by show _=_;unfold HP.p3;simp
      go_wp2;go_meet;refine⟨A,n,c,rfl,ω, ?_⟩;rw[r.out];exact T
    | true=>
      have r:Hid (HP.p3 ⟨tx,sm,tm,fl,sy,xl,hE,nl,cl,hN,true⟩ =HP.p2 ⟨tx,sm,tm,fl,sy,xl,hE,nl,cl,hN,true⟩ ++(cl++[0])):=by show _=_;unfold HP.p3;dsimp only;rw[ae rfl]
      have YK:=T.lt;have k8:wc.cell? ⟨H,8,none⟩ =some (.string (strOf cl)):=T.hd.cell (i:=8) ω
      go_wp2_with (at_builtin;go_must (refine sW (H+1) 5 y rfl (.tmp 89) (.tmp 91) _ _ rfl Tryz.underlying22 Tryz.underlying9 Hi.out J.out I.out G.out rfl T.own cl rfl R ω ω ?_))
      intro A3 c3 S N g;have a:=T.grown g N;have an:=a.lt;have E:=a.lit (.cells #[.int .u8 0] 5)
      go_wp2_with (at_builtin;go_must (refine ba .u8 (H+1) 5 y 1 rfl (.tmp 92) (.tmp 93) _ rfl Tryz.underlying22 Hi.out J.out I.out G.out rfl E.own rfl (bU.lit .u8 S [0] 5) ξ ω ξ ?_))
      intro M L Z z f dP;have u:=E.grown f z;go_wp2;go_meet;refine⟨M,_,L,rfl,ξ, ?_⟩;rw[r.out];exact u
   case rest=>
   clear T XC qi;obtain⟨A,n,c,rfl,qi,T⟩ :=hcut;have k1:wc.cell? ⟨H,1,none⟩ =some (.bool sm):=T.hd.cell (i:=1) ω;cases sm with
   | false=>
     have r:Hid (HP.p4 ⟨tx,false,tm,fl,sy,xl,hE,nl,cl,hN,hC⟩ =HP.p3 ⟨tx,false,tm,fl,sy,xl,hE,nl,cl,hN,hC⟩):=by show _=_;unfold HP.p4;simp
     go_wp2;go_returns;exact .inl ⟨K.out,A,n,c,rfl,by rw[r.out];exact HM.out▸T.own.more ω,HM.out▸T.b⟩
   | true=>
     obtain⟨q,hq⟩ :=ν (HP.p3 ⟨tx,true,tm,fl,sy,xl,hE,nl,cl,hN,hC⟩)
     have r:Hid (HP.p4 ⟨tx,true,tm,fl,sy,xl,hE,nl,cl,hN,hC⟩ =q++ot 2 (iq (lW (iq 0) q n))):=by
      show _=_;have h1:=T.own.1;unfold HP.p4;dsimp only;rw[ae rfl,hq,h1,hq]
     rw[hq]at T
     have RJ:∀i,0<=ix q i/\ix q i<256:=by
      rw[<-hq];exact gp (VW _ hb)
     have yD:=jZ (tq (x:=iq 0) (l:=q) (jZ ω) RJ n);obtain⟨cv,am⟩ :=ν (iq (lW (iq 0) q n));have U:=yV 0 A n c wc.heap.size q wc T.own.rd (ag _) RJ ω ω;rw[am]at yD U r;have bo:=η U;clear U hq RJ am
     go_wp2_with fail;refine bo.out.mono ?_;rintro e w2 ⟨rfl,be⟩;have d:=T.below be
     go_wp2_with fail;refine(qH _ cv 2 yD ω).mono ?_;rintro e wl ⟨Al,ml,ao,rfl,O,o⟩;obtain rfl:2=ml:=by have:=O.1;rw[cU]at this;exact this.symm
     have a:=d.below o;have an:=a.lt
     go_wp2_with (at_builtin;go_must (refine ba .u8 (H+1) 5 y 1 rfl (.tmp 97) (.tmp 100) _ rfl Tryz.underlying22 Hi.out J.out I.out G.out rfl a.own rfl O.rd ω ω ω ?_))
     intro M L Z z f dP;have u:=a.grown f z;go_wp2;go_returns;exact .inl ⟨K.out,M,_,L,rfl,by rw[r.out];exact HM.out▸u.own.more ω,HM.out▸u.b⟩
theorem a7N {l r:List Int} (h:¬nz l<l.length):nz (l++0::r)=l.length:=by
 induction l with
 | nil=>rw[aT,nQ];rfl
 | cons x l b=>
   rw[nQ]at h;by_cases a:x=0
   · rw[ae a]at h;simp at h
   rw[aa a]at h;rw[dA,nQ,aa a,b (by simp at h;omega)];rfl
theorem Hy {l:List Int} {b:Bool} (h:Gm l b=true):l.length<=4096/\¬nz l<l.length/\(b=true\/l=[]):=by
 unfold Gm at h;simp only [Bool.and_eq_true,decide_eq_true_eq,Bool.or_eq_true,List.isEmpty_iff]at h;exact⟨h.1,h.2.1,h.2.2⟩
theorem Be {h:HP} (a:h.ok=true):h.xl.length<=65535/\(h.hE=true\/h.xl=[])/\(h.nl.length<=4096/\¬nz h.nl<h.nl.length/\(h.hN=true\/h.nl=[]))/\(h.cl.length<=4096/\¬nz h.cl<h.cl.length/\(h.hC=true\/h.cl=[])):=by
 unfold HP.ok at a;simp only [Bool.or_eq_false_iff,Bool.and_eq_false_iff,decide_eq_false_iff_not,Bool.not_eq_eq_eq_not,Bool.not_true,Bool.not_false]at a;refine⟨ω, ?_,Hy a.1.2,Hy a.2⟩;rcases a.1.1.2 with b | b
 · exact .inl b
 right;exact aC ω
theorem sM (h:HP):h.p0.length=10:=by
 unfold HP.p0;rw[af,af,cU];rfl
theorem vr (h:HP):bit h.F 1=h.tx/\bit h.F 2=h.sm/\bit h.F 4=h.hE/\bit h.F 8=h.hN/\bit h.F 16=h.hC:=by
 unfold HP.F zF;cases h.tx <;> cases h.sm <;> cases h.hE <;> cases h.hN <;> cases h.hC <;> decide
section
variable {h:HP} {M r:List Int}
theorem a4c (a:M=h.p0++r):pre M 3:=by
 intro i hi;subst a;refine⟨by rw[af,sM];omega, ?_⟩;unfold HP.p0;obtain rfl | rfl | rfl:i=0\/i=1\/i=2:=ω;all_goals rfl
theorem Ng (a:M=h.p0++r):ix M 3=h.F:=by
 subst a;unfold HP.p0;rfl
theorem a3S (a:M=h.p0++r):10<=M.length:=by subst a;rw[af,sM];omega
theorem s1 (b:h.bd) (a:M=h.p0++r):ten M/\fB M=h.F/\WS M=h.tm/\Tr M=h.fl/\XH M=h.sy:=by
 have hF:=a4o h;have ht:=WQ (a4c a) (by rw[Ng a];omega) (a3S a);refine⟨ht,by rw[ht.2.2.1,Ng a], ?_, ?_, ?_⟩
 · rw[ht.2.2.2.1,a]
   have e:(List.drop 4 (h.p0++r)).take 4=ot 4 h.tm:=by
    unfold HP.p0;rw[ak,ak];show(ot 4 h.tm++_).take 4=_;exact ep (cU 4 h.tm)
   rw[e,zg 4 b.tm.1 (by have:=b.tm.2;omega)]
 · rw[ht.2.2.2.2.1,a];unfold HP.p0;rw[ak,ak,dn,aa σ,dn,aa (by simp [cU])];simp only [cU];rfl
 rw[ht.2.2.2.2.2,a];unfold HP.p0;rw[ak,ak,dn,aa σ,dn,aa (by simp [cU])];simp only [cU];rfl
theorem a1q (a:h.hE=true):h.p1=h.p0++(ot 2 h.xl.length++h.xl):=by unfold HP.p1;rw[ae a]
theorem a7T (a:h.hE=false):h.p1=h.p0:=by unfold HP.p1;simp [a]
theorem a88 {a:List Int} (c:h.xl.length<=65535) (b:M=h.p0++(ot 2 h.xl.length++a)):mM ((M.drop 10).take 2)=(h.xl.length:Nat):=by
 rw[b,ek (sM h),ep (cU 2 _),zg 2 ω ξ]
theorem s2 (g:h.bd) (k:h.ok=true) (a:M=h.p1++r):q9 M=0/\b9 M=h.p1.length/\yy M=h.xl:=by
 have e:=Be k;cases b:h.hE with
 | false=>
   rw[a7T b]at a⊢;have c:=s1 g a;have i:h.xl=[]:=by rcases e.2.1 with d | d;rw[b]at d;cases d;exact d
   rw[sM,i];exact Tk c.1 (by rw[c.2.1,(vr h).2.2.1,b])
 | true=>
   rw[a1q b,ak,ak]at a;have c:=s1 g a;have j:=a88 e.1 a;have f:M.length=12+h.xl.length+r.length:=by rw[a];simp [sM,cU];omega
   have:=Tl c.1 (by rw[c.2.1,(vr h).2.2.1,b]) ω j ω;refine⟨this.1, ?_, ?_⟩
   · rw[this.2.1,a1q b];simp [sM,cU];omega
   rw[this.2.2,a,<-ak,ek (by simp [sM,cU]),ep rfl]
theorem a27 (b:h.bd) (a:M=h.p1++r):fB M=h.F:=by
 unfold HP.p1 at a;rw[ak]at a;exact(s1 b a).2.1
theorem X3 {l r:List Int} (h:l.length<=4096) (h':¬nz l<l.length):qV (l++0::r)=(l,l.length+1,0):=by
 unfold qV;rw[a7N h',ae ⟨σ,h⟩,ep rfl]
theorem a1r (a:h.hN=true):h.p2=h.p1++(h.nl++[0]):=by unfold HP.p2;rw[ae a]
theorem a7U (a:h.hN=false):h.p2=h.p1:=by unfold HP.p2;simp [a]
theorem s3 (d:h.bd) (g:h.ok=true) (a:M=h.p2++r):uK M=0/\tQ M=h.p2.length/\ya M=h.nl:=by
 have f:=Be g;cases c:h.hN with
 | false=>
   rw[a7U c]at a⊢;have b:=s2 d g a;have i:h.nl=[]:=by rcases f.2.2.1.2.2 with e | e;rw[c]at e;cases e;exact e
   have:=Vz b.1 (by rw[a27 d a,(vr h).2.2.2.1,c]);rw[i,<-b.2.1];exact this
 | true=>
   rw[a1r c,ak]at a;have b:=s2 d g a;have hd:M.drop (b9 M)=h.nl++0::r:=by rw[b.2.1,a,ek rfl];simp
   have ht:=X3 (r:=r) f.2.2.1.1 f.2.2.1.2.1;have:=VA b.1 (by rw[a27 d a,(vr h).2.2.2.1,c]) (by rw[hd,ht]);rw[hd,ht]at this;refine⟨this.1, ?_,this.2.2⟩;rw[this.2.1,b.2.1,a1r c];simp
theorem a1s (a:h.hC=true):h.p3=h.p2++(h.cl++[0]):=by unfold HP.p3;rw[ae a]
theorem a7V (a:h.hC=false):h.p3=h.p2:=by unfold HP.p3;simp [a]
theorem a29 (b:h.bd) (a:M=h.p2++r):fB M=h.F:=by
 unfold HP.p2 at a;rw[ak]at a;exact a27 b a
theorem s4 (d:h.bd) (g:h.ok=true) (a:M=h.p3++r):rz M=0/\lZ M=h.p3.length/\CU M=h.cl:=by
 have f:=Be g;cases c:h.hC with
 | false=>
   rw[a7V c]at a⊢;have b:=s3 d g a;have i:h.cl=[]:=by rcases f.2.2.2.2.2 with e | e;rw[c]at e;cases e;exact e
   have:=SV b.1 (by rw[a29 d a,(vr h).2.2.2.2,c]);rw[i,<-b.2.1];exact this
 | true=>
   rw[a1s c,ak]at a;have b:=s3 d g a;have hd:M.drop (tQ M)=h.cl++0::r:=by rw[b.2.1,a,ek rfl];simp
   have ht:=X3 (r:=r) f.2.2.2.1 f.2.2.2.2.1;have:=SX b.1 (by rw[a29 d a,(vr h).2.2.2.2,c]) (by rw[hd,ht]);rw[hd,ht]at this;refine⟨this.1, ?_,this.2.2⟩;rw[this.2.1,b.2.1,a1s c];simp
theorem a4T (b:h.bd) (a:M=h.p3++r):fB M=h.F:=by
 unfold HP.p3 at a;rw[ak]at a;exact a29 b a
theorem a1t (a:h.sm=true):h.p4=h.p3++ot 2 (iq (lW (iq 0) h.p3 h.p3.length)):=by unfold HP.p4;rw[ae a]
theorem a7W (a:h.sm=false):h.p4=h.p3:=by unfold HP.p4;simp [a]
theorem a7C {v:Int} (a:0<=v):mM (ot 2 v)=v%65536:=by
 show v%256+256*(v/256%256+256*0)=_;omega
theorem s5 (d:h.bd) (f:h.ok=true) (a:M=h.p4++r):jM M=0/\rN M=h.p4.length:=by
 cases c:h.sm with
 | false=>
   rw[a7W c]at a⊢;have b:=s4 d f a;have:=WH b.1 (by rw[a4T d a,(vr h).2.1,c]);rw[<-b.2.1];exact this
 | true=>
   rw[a1t c,ak]at a;have b:=s4 d f a;have g:=jZ (tq (x:=iq 0) (l:=h.p3) (jZ ω) (gp (VW h d)) h.p3.length);have e:M.length=h.p3.length+2+r.length:=by rw[a];simp [cU];omega
   have:=WI b.1 (by rw[a4T d a,(vr h).2.1,c]) ω (by
    unfold EF;rw[b.2.1];have j:M.take h.p3.length=h.p3:=by rw[a,ep rfl]
    have i:(M.drop h.p3.length).take 2=ot 2 (iq (lW (iq 0) h.p3 h.p3.length)):=by rw[a,ek rfl,ep (cU 2 _)]
    rw[j,i,a7C g.1])
   refine⟨this.1, ?_⟩;rw[this.2,b.2.1,a1t c];simp [cU]
theorem QD (a:h.bd) (c:h.ok=true) (i:M=h.p4++r) (ex:Value):jM M=0/\rN M=h.p4.length/\yy M=h.xl/\CI M ex=h.v ex:=by
 have h5:=s5 a c i;have b:M=h.p3++((if h.sm then ot 2 (iq (lW (iq 0) h.p3 h.p3.length))else [])++r):=by rw[i];unfold HP.p4;rw[ak]
 have h4:=s4 a c b;have d:=b;unfold HP.p3 at d;rw[ak]at d;have j:=s3 a c d;have e:=d;unfold HP.p2 at e;rw[ak]at e;have k:=s2 a c e;have g:=e;unfold HP.p1 at g;rw[ak]at g;have f:=s1 a g;have hF:=vr h;refine⟨h5.1,h5.2,k.2.2, ?_⟩;unfold CI Nr HP.v;dsimp only;rw[f.2.1,f.2.2.1,f.2.2.2.1,f.2.2.2.2,j.2.2,h4.2.2,hF.1,hF.2.1,hF.2.2.1,hF.2.2.2.1,hF.2.2.2.2]
end
theorem a7X (h:HP):∃t,h.p4=h.p0++t:=by
 unfold HP.p4 HP.p3 HP.p2 HP.p1;exact⟨_,by rw[ak,ak,ak]⟩
def oo:HP:= ⟨false,false,0,0,0,[],false,[],[],false,false⟩
theorem oq:oo.bd:= ⟨δ,δ,δ,λx a=>(by cases a),λx a=>(by cases a),λx a=>(by cases a)⟩
theorem xm:oo.p4=[31,139,8,0,0,0,0,0,0,0]:=δ
theorem mJ (w:World):Calls Tryz.prog 6 #[] w λe w'=>e= .returned (.bool true)/\Below w.heap.size w w':=by
 go_enter Tryz.func6,Tryz.ntmps6
 go_wp2_with fail;refine(DR w w.heap.size oo none 0 0 ⟨rfl,Rd.dK⟩ (ag _) oq ω (by simp [oo]) (by simp [oo])).mono ?_;rintro e w2 (⟨_,A,n,c,rfl,a,b⟩ | ⟨hf,_⟩)
 · rw[xm]at a;obtain rfl:n=10:=a.1;obtain⟨g,rfl⟩ :=a.2.addr ω;have c0:=a.2.cell (i:=0) ω;have d:w2.cell? ⟨g,0,none⟩ =some (.int .u8 31):=c0;clear c0 a;go_wp2;go_ret;exact⟨rfl,b⟩
 exact absurd hf δ
end Go.Proofs.YtdhmnlpfhfmpfaaGreat
