/-
  part
-/
import Derived.Test.YtdhmnlpfhfmpfaaGreatPk29
import Derived.Deep.RegionWith
set_option linter.unusedVariables false
set_option maxRecDepth 100000
set_option maxHeartbeats 4000000
namespace Go.Proofs.YtdhmnlpfhfmpfaaGreat
open Go.RowKit
theorem eO {w:World} {R:Nat} {h:HV} {tmps:Array Value} {x y:Value} (a:Ar w R 11 (hf h)) (q:tmps[2]?.getD undef= .pointer (some ⟨R,0,none⟩)) (p:tmps[3]?.getD undef=x) (h4:tmps[4]?.getD undef=y):
  (results Tryz.f30 tmps).run Tryz.prog w= .ok (.tuple #[hagg h,x,y]) w:=by
 have o:w.cell? ⟨R,0,none⟩ =some (.bool h.tx):=a.cell (i:=0) ω;have n:w.cell? ⟨R,1,none⟩ =some (.bool h.sm):=a.cell (i:=1) ω;have l:w.cell? ⟨R,2,none⟩ =some (.int .u32 h.tm):=a.cell (i:=2) ω;have k:w.cell? ⟨R,3,none⟩ =some (.int .u8 h.fl):=a.cell (i:=3) ω;have j:w.cell? ⟨R,4,none⟩ =some (.int .u8 h.sy):=a.cell (i:=4) ω;have g:w.cell? ⟨R,5,none⟩ =some (h.ex):=a.cell (i:=5) ω;have e:w.cell? ⟨R,6,none⟩ =some (.bool h.hE):=a.cell (i:=6) ω;have d:w.cell? ⟨R,7,none⟩ =some (.string h.nm):=a.cell (i:=7) ω;have c:w.cell? ⟨R,8,none⟩ =some (.string h.cm):=a.cell (i:=8) ω;have b:w.cell? ⟨R,9,none⟩ =some (.bool h.hN):=a.cell (i:=9) ω;have m:w.cell? ⟨R,10,none⟩ =some (.bool h.hC):=a.cell (i:=10) ω;simp [results,Tryz.results30,go_sem,q,p,h4,o,n,l,k,j,g,e,d,c,b,m,hagg]
structure RS (w0 w:World) (B R:Nat) (A:ay) (n:Nat) (l:aj):Prop where
 H:Ar w R 11 (hf hz)
 rd:bT .u8 w B A n l
 b:Below R w0 w
 eq:R=w0.heap.size
 BR:B<=R
section
variable {w0 w w':World} {B R n:Nat} {A:ay} {l:aj}
theorem RS.drewN (s:RS w0 w B R A n l) (q:Nat):RS w0 (w.drewN q) B R A n l:= ⟨s.H.drewN q,s.rd.drewN q,below_drewN s.b q,s.eq,s.BR⟩
theorem RS.below (s:RS w0 w B R A n l) (a:Below w.heap.size w w'):RS w0 w' B R A n l:=
 ⟨s.H.keeps a,s.rd.keep (λp hp=>a.cell (ε s.H.lt s.BR)),iX s.b (a.mono (τ s.H.lt)),s.eq,s.BR⟩
theorem RS.far (s:RS w0 w B R A n l) {p:Addr} (hp:R<p.block) (v:Value):RS w0 (w.setCell p v) B R A n l:=
 ⟨s.H.far ω v,s.rd.keep (λq a=>dU _ _ _ _ (λe=>by have c:=aN Addr.block e;have:=s.BR;omega)),s.b.setCell ω v,s.eq,s.BR⟩
theorem RS.grown (s:RS w0 w B R A n l) {row:Option Nat} (e:w.grownBy w' row) (c:∀k,row=some k->R<k):RS w0 w' B R A n l:=by
 have f:=s.H.lt;have hC:bk w w' (λk=>row=some k):=(bk.refl w _).grown e (λk a=> .inl a);have d:Below (R+1) w w':=hC.below (λk a=>by have:=c k a;omega) ω;exact⟨hC.ar s.H λh=>τ (c _ h),s.rd.keep λp hp=>d.cell (τ s.BR),iX s.b (d.mono ω),s.eq,s.BR⟩
theorem RS.err (s:RS w0 w B R A n l):Ar (((((((((((w.setCell ⟨R,0,none⟩ (.bool false)).setCell ⟨R,1,none⟩ (.bool false)).setCell ⟨R,2,none⟩ (.int .u32 0)).setCell ⟨R,3,none⟩ (.int .u8 0)).setCell ⟨R,4,none⟩ (.int .u8 0)).setCell ⟨R,5,none⟩ (.slice none 0 0)).setCell ⟨R,6,none⟩ (.bool false)).setCell ⟨R,7,none⟩ (.string ByteArray.empty)).setCell ⟨R,8,none⟩ (.string ByteArray.empty)).setCell ⟨R,9,none⟩ (.bool false)).setCell ⟨R,10,none⟩ (.bool false)) R 11 (hf hz)/\Below w0.heap.size w0 (((((((((((w.setCell ⟨R,0,none⟩ (.bool false)).setCell ⟨R,1,none⟩ (.bool false)).setCell ⟨R,2,none⟩ (.int .u32 0)).setCell ⟨R,3,none⟩ (.int .u8 0)).setCell ⟨R,4,none⟩ (.int .u8 0)).setCell ⟨R,5,none⟩ (.slice none 0 0)).setCell ⟨R,6,none⟩ (.bool false)).setCell ⟨R,7,none⟩ (.string ByteArray.empty)).setCell ⟨R,8,none⟩ (.string ByteArray.empty)).setCell ⟨R,9,none⟩ (.bool false)).setCell ⟨R,10,none⟩ (.bool false)):=by
 refine⟨?_, ?_⟩
 · refine Ar.congr (((((((((((s.H.bK (i:=0) ω (.bool false)).bK (i:=1) ω (.bool false)).bK (i:=2) ω (.int .u32 0)).bK (i:=3) ω (.int .u8 0)).bK (i:=4) ω (.int .u8 0)).bK (i:=5) ω (.slice none 0 0)).bK (i:=6) ω (.bool false)).bK (i:=7) ω (.string ByteArray.empty)).bK (i:=8) ω (.string ByteArray.empty)).bK (i:=9) ω (.bool false)).bK (i:=10) ω (.bool false)) (λi hi=> ?_);rcases qU hi with rfl | rfl | rfl | rfl | rfl | rfl | rfl | rfl | rfl | rfl | rfl <;> rfl
 have h:=s.eq;have a:R<=R:=ai R;rw[<-h];exact(((((((((((s.b.setCell (p:= ⟨R,0,none⟩) a (.bool false)).setCell (p:= ⟨R,1,none⟩) a (.bool false)).setCell (p:= ⟨R,2,none⟩) a (.int .u32 0)).setCell (p:= ⟨R,3,none⟩) a (.int .u8 0)).setCell (p:= ⟨R,4,none⟩) a (.int .u8 0)).setCell (p:= ⟨R,5,none⟩) a (.slice none 0 0)).setCell (p:= ⟨R,6,none⟩) a (.bool false)).setCell (p:= ⟨R,7,none⟩) a (.string ByteArray.empty)).setCell (p:= ⟨R,8,none⟩) a (.string ByteArray.empty)).setCell (p:= ⟨R,9,none⟩) a (.bool false)).setCell (p:= ⟨R,10,none⟩) a (.bool false))
end
structure RT (w0 w:World) (B R:Nat) (A:ay) (n:Nat) (l:aj) (K:Nat) (h:HV) (X:ay) (m cc:Nat) (xl:aj):Prop where
 S:RS w0 w B R A n l
 H:Ar w K 11 (hf h)
 lt:R<K
 own:ba .u8 w (K+1) 5 X m cc xl
section
variable {w0 w w':World} {B R n K m cc:Nat} {A X:ay} {l xl:aj} {h h':HV}
theorem RT.drewN (s:RT w0 w B R A n l K h X m cc xl) (q:Nat):RT w0 (w.drewN q) B R A n l K h X m cc xl:= ⟨s.S.drewN q,s.H.drewN q,s.lt,s.own.drewN q⟩
theorem RT.bK (s:RT w0 w B R A n l K h X m cc xl) {i:Nat} (hi:i<11) (v:Value) (a:∀j,j<11->upd (hf h) i v j=hf h' j):RT w0 (w.setCell ⟨K,i,none⟩ v) B R A n l K h' X m cc xl:=
 ⟨s.S.far (p:= ⟨K,i,none⟩) s.lt v,s.H.ze hi v a,s.lt,s.own.far (p:= ⟨K,i,none⟩) (λh=>by have b:K+1<=K:=(s.own.2.lt h).1;omega) v⟩
theorem RT.lit (s:RT w0 w B R A n l K h X m cc xl) {Z:Nat} (a:Z=w.heap.size):RT w0 (w.alloc (.cells #[] 5)) B R A n l K h (some ⟨Z,0,none⟩) 0 0 []:=
 ⟨s.S.below ((ax _ _).alloc (ai _) _),s.H.alloc _,s.lt,ba.lit a [] _ (τ s.H.lt) (aF _)⟩
theorem RT.grown {g:ay} {c f:Nat} {a:aj} (s:RT w0 w B R A n l K h X m cc xl) (e:w.grownBy w' (ak X)) (i:ba .u8 w' (K+1) 5 g c f a):RT w0 w' B R A n l K h g c f a:=by
 have d:∀k,ak X=some k->K+1<=k:=λk b=>(s.own.2.lt b).1;exact⟨s.S.grown e λk b=>ε (d k b) s.lt,s.H.grown e λh=>τ (d _ h.symm),s.lt,i⟩
end
theorem RT.fin {w0 w:World} {B R n K m cc:Nat} {A X:ay} {l xl:aj} {h:HV} (s:RT w0 w B R A n l K h X m cc xl):Ar (((((((((((w.setCell ⟨R,0,none⟩ (.bool h.tx)).setCell ⟨R,1,none⟩ (.bool h.sm)).setCell ⟨R,2,none⟩ (.int .u32 h.tm)).setCell ⟨R,3,none⟩ (.int .u8 h.fl)).setCell ⟨R,4,none⟩ (.int .u8 h.sy)).setCell ⟨R,5,none⟩ h.ex).setCell ⟨R,6,none⟩ (.bool h.hE)).setCell ⟨R,7,none⟩ (.string h.nm)).setCell ⟨R,8,none⟩ (.string h.cm)).setCell ⟨R,9,none⟩ (.bool h.hN)).setCell ⟨R,10,none⟩ (.bool h.hC)) R 11 (hf h)/\Below w0.heap.size w0 (((((((((((w.setCell ⟨R,0,none⟩ (.bool h.tx)).setCell ⟨R,1,none⟩ (.bool h.sm)).setCell ⟨R,2,none⟩ (.int .u32 h.tm)).setCell ⟨R,3,none⟩ (.int .u8 h.fl)).setCell ⟨R,4,none⟩ (.int .u8 h.sy)).setCell ⟨R,5,none⟩ h.ex).setCell ⟨R,6,none⟩ (.bool h.hE)).setCell ⟨R,7,none⟩ (.string h.nm)).setCell ⟨R,8,none⟩ (.string h.cm)).setCell ⟨R,9,none⟩ (.bool h.hN)).setCell ⟨R,10,none⟩ (.bool h.hC))/\bT .u8 (((((((((((w.setCell ⟨R,0,none⟩ (.bool h.tx)).setCell ⟨R,1,none⟩ (.bool h.sm)).setCell ⟨R,2,none⟩ (.int .u32 h.tm)).setCell ⟨R,3,none⟩ (.int .u8 h.fl)).setCell ⟨R,4,none⟩ (.int .u8 h.sy)).setCell ⟨R,5,none⟩ h.ex).setCell ⟨R,6,none⟩ (.bool h.hE)).setCell ⟨R,7,none⟩ (.string h.nm)).setCell ⟨R,8,none⟩ (.string h.cm)).setCell ⟨R,9,none⟩ (.bool h.hN)).setCell ⟨R,10,none⟩ (.bool h.hC)) ((((((((((((w.setCell ⟨R,0,none⟩ (.bool h.tx)).setCell ⟨R,1,none⟩ (.bool h.sm)).setCell ⟨R,2,none⟩ (.int .u32 h.tm)).setCell ⟨R,3,none⟩ (.int .u8 h.fl)).setCell ⟨R,4,none⟩ (.int .u8 h.sy)).setCell ⟨R,5,none⟩ h.ex).setCell ⟨R,6,none⟩ (.bool h.hE)).setCell ⟨R,7,none⟩ (.string h.nm)).setCell ⟨R,8,none⟩ (.string h.cm)).setCell ⟨R,9,none⟩ (.bool h.hN)).setCell ⟨R,10,none⟩ (.bool h.hC))).heap.size X m xl:=by
 have a:∀k,ak X=some k->k≠R:=λk d h=>by have f:K+1<=k:=(s.own.2.lt d).1;have:=s.lt;omega
 refine⟨?_, ?_, ?_⟩
 · refine Ar.congr (((((((((((s.S.H.bK (i:=0) ω (.bool h.tx)).bK (i:=1) ω (.bool h.sm)).bK (i:=2) ω (.int .u32 h.tm)).bK (i:=3) ω (.int .u8 h.fl)).bK (i:=4) ω (.int .u8 h.sy)).bK (i:=5) ω h.ex).bK (i:=6) ω (.bool h.hE)).bK (i:=7) ω (.string h.nm)).bK (i:=8) ω (.string h.cm)).bK (i:=9) ω (.bool h.hN)).bK (i:=10) ω (.bool h.hC)) (λi hi=> ?_);rcases qU hi with rfl | rfl | rfl | rfl | rfl | rfl | rfl | rfl | rfl | rfl | rfl <;> rfl
 · have e:=s.S.eq;have c:R<=R:=ai R;rw[<-e];exact(((((((((((s.S.b.setCell (p:= ⟨R,0,none⟩) c (.bool h.tx)).setCell (p:= ⟨R,1,none⟩) c (.bool h.sm)).setCell (p:= ⟨R,2,none⟩) c (.int .u32 h.tm)).setCell (p:= ⟨R,3,none⟩) c (.int .u8 h.fl)).setCell (p:= ⟨R,4,none⟩) c (.int .u8 h.sy)).setCell (p:= ⟨R,5,none⟩) c h.ex).setCell (p:= ⟨R,6,none⟩) c (.bool h.hE)).setCell (p:= ⟨R,7,none⟩) c (.string h.nm)).setCell (p:= ⟨R,8,none⟩) c (.string h.cm)).setCell (p:= ⟨R,9,none⟩) c (.bool h.hN)).setCell (p:= ⟨R,10,none⟩) c (.bool h.hC))
 exact((((((((((((s.own.far (p:= ⟨R,0,none⟩) (λh=>a _ h rfl) (.bool h.tx)).far (p:= ⟨R,1,none⟩) (λh=>a _ h rfl) (.bool h.sm)).far (p:= ⟨R,2,none⟩) (λh=>a _ h rfl) (.int .u32 h.tm)).far (p:= ⟨R,3,none⟩) (λh=>a _ h rfl) (.int .u8 h.fl)).far (p:= ⟨R,4,none⟩) (λh=>a _ h rfl) (.int .u8 h.sy)).far (p:= ⟨R,5,none⟩) (λh=>a _ h rfl) h.ex).far (p:= ⟨R,6,none⟩) (λh=>a _ h rfl) (.bool h.hE)).far (p:= ⟨R,7,none⟩) (λh=>a _ h rfl) (.string h.nm)).far (p:= ⟨R,8,none⟩) (λh=>a _ h rfl) (.string h.cm)).far (p:= ⟨R,9,none⟩) (λh=>a _ h rfl) (.bool h.hN)).far (p:= ⟨R,10,none⟩) (λh=>a _ h rfl) (.bool h.hC))).rd
theorem tdv {F:Int} (h:0<=F/\F<256):(F.tmod 2==1)=bit F 1/\((IntKind.i64.wrap (F.tdiv 2)).tmod 2==1)=bit F 2/\((IntKind.i64.wrap (F.tdiv 4)).tmod 2==1)=bit F 4/\((IntKind.i64.wrap (F.tdiv 8)).tmod 2==1)=bit F 8/\((IntKind.i64.wrap (F.tdiv 16)).tmod 2==1)=bit F 16:=by
 have a:∀k:Int,0<k->((IntKind.i64.wrap (F.tdiv k)).tmod 2==1)=bit F k:=λk d=>by
  have c:F.tdiv k=F/k:=Int.tdiv_eq_ediv_of_nonneg h.1;have b:0<=F/k/\F/k<=F:= ⟨Int.ediv_nonneg h.1 ω,Int.ediv_le_self _ h.1⟩;rw[c,aM _ ω,eM b.1];unfold bit;rw[Bool.eq_iff_iff];simp
 refine⟨?_,a 2 ω,a 4 ω,a 8 ω,a 16 ω⟩;have:=a 1 ω;rw[Int.tdiv_one,aM _ ω]at this;exact this
theorem add_pos (a:Addr) {k:Nat} (h:k≠0):a.add k= ⟨a.block,a.off+k,none⟩ :=by unfold Addr.add;rw[aa h]
theorem jU {w w':World} {l:aj} {e:Int} (c:Below w.heap.size w w') (a:kg l=e) (d:e≠0):xg w l (.returned (.tuple #[hagg hz, .int .i64 0, .int .i64 e])) w':=
 ⟨none,0,0,[],ai _,aF _, ⟨rfl,Rd.dN⟩,λk b=>by simp [ak]at b,c, .inr ⟨by rw[a];exact d,by rw[a]⟩⟩
theorem Jr (w:World) (B n c:Nat) (A:ay) (l:aj) (hr:bT .u8 w B A n l) (hB:B<=w.heap.size) (hn:n<=1000000) (hc:n<=c) (hb:∀x∈l,0<=x/\x<256):
  Calls Tryz.prog 30 #[.slice A n c] w (xg w l):=by
 have O:=η hr.1;go_enter Tryz.func30,Tryz.ntmps30
 go_wp2_with fail
 have S0:RS w ((w.alloc (Obj.cells #[Value.bool false,Value.bool false,Value.int IntKind.u32 0,Value.int IntKind.u8 0,Value.int IntKind.u8 0,Value.slice none 0 0,Value.bool false,Value.string { data:= #[] },Value.string { data:= #[] },Value.bool false,Value.bool false] 31)).alloc (Obj.cells #[Value.int IntKind.u8 31,Value.int IntKind.u8 139,Value.int IntKind.u8 8] 5)) B w.heap.size A n l:=
  ⟨(Ar.We rfl _ _ rfl (λi hi=>by
    rcases qU hi with rfl | rfl | rfl | rfl | rfl | rfl | rfl | rfl | rfl | rfl | rfl;all_goals rfl)).alloc _,(hr.alloc hB _).alloc ξ _,((ax _ _).alloc (ai _) _).alloc σ _,rfl,hB⟩
 have Uu:bT .u8 ((w.alloc (Obj.cells #[Value.bool false,Value.bool false,Value.int IntKind.u32 0,Value.int IntKind.u8 0,Value.int IntKind.u8 0,Value.slice none 0 0,Value.bool false,Value.string { data:= #[] },Value.string { data:= #[] },Value.bool false,Value.bool false] 31)).alloc (Obj.cells #[Value.int IntKind.u8 31,Value.int IntKind.u8 139,Value.int IntKind.u8 8] 5)) (w.heap.size+1+1) (some ⟨w.heap.size+1,0,none⟩) 3 Bp:=bT.W7 .u8 (w:=w.alloc (Obj.cells #[Value.bool false,Value.bool false,Value.int IntKind.u32 0,Value.int IntKind.u8 0,Value.int IntKind.u8 0,Value.slice none 0 0,Value.bool false,Value.string { data:= #[] },Value.string { data:= #[] },Value.bool false,Value.bool false] 31)) σ Bp 5;revert S0 Uu;generalize ((w.alloc (Obj.cells #[Value.bool false,Value.bool false,Value.int IntKind.u32 0,Value.int IntKind.u8 0,Value.int IntKind.u8 0,Value.slice none 0 0,Value.bool false,Value.string { data:= #[] },Value.string { data:= #[] },Value.bool false,Value.bool false] 31)).alloc (Obj.cells #[Value.int IntKind.u8 31,Value.int IntKind.u8 139,Value.int IntKind.u8 8] 5))=w1;intro S0 Uu;obtain⟨M,hM⟩ :=ν (w.heap.size+1);have HM:Hid (w.heap.size<M):=by show _<_;omega
 rw[hM]at Uu⊢;clear hM;obtain⟨R,hR⟩ :=ν (w.heap.size);rw[hR]at S0 HM⊢;clear hR
 have a8D:Hid (M<w1.heap.size):=by
  obtain⟨f,e,hb,hc⟩ :=Uu.2 ω;cases e;have h0:=hc 0 ω;show _<_;rw[oh]at h0;rcases aV M w1.heap.size with h' | h'
  · exact h'
  simp [World.cell?,Array.getElem?_eq_none h']at h0
 have cj:Hid (∀k,k<3->w1.cell? ⟨M,k,none⟩ =some (.int .u8 (ix Bp k))):=λk hk=>Uu.head hk;clear Uu
 go_loopw [6] (λi wr=>∃(k q:Nat),k<=3/\i= .int .i64 k/\wr=w1.drewN q/\Hid (pre l k)) (λi _=>3-(intOf i).toNat)
 case atStart=>exact⟨0,0,ω,rfl,rfl,λi hi=>ω⟩
 obtain⟨k,q,hk,rfl,rfl,HP⟩ :=hrel;by_cases bt:k<3
 · by_cases Dv:k<n
   rotate_left
   · have ae:l.length<=k:=by rw[<-O.out];omega
     have pM:(0:Int)<=k/\(n:Int)<=k:=ω;have S:=S0.drewN q;clear S0;revert S;generalize w1.drewN q=wc;intro S;have d:Hid (kg l=5):=by show _=_;exact OB bt HP.out ae
     have r0:wc.cell? ⟨R,0,none⟩ =some (.bool false):=S.H.cell (i:=0) ω;have f0:=S.H.frozen' (i:=0) ω;have Q:wc.cell? ⟨R,1,none⟩ =some (.bool false):=S.H.cell (i:=1) ω;have f1:=S.H.frozen' (i:=1) ω;have r2:wc.cell? ⟨R,2,none⟩ =some (.int .u32 0):=S.H.cell (i:=2) ω;have f2:=S.H.frozen' (i:=2) ω;have r3:wc.cell? ⟨R,3,none⟩ =some (.int .u8 0):=S.H.cell (i:=3) ω;have f3:=S.H.frozen' (i:=3) ω;have r4:wc.cell? ⟨R,4,none⟩ =some (.int .u8 0):=S.H.cell (i:=4) ω;have f4:=S.H.frozen' (i:=4) ω;have G:wc.cell? ⟨R,5,none⟩ =some (.slice none 0 0):=S.H.cell (i:=5) ω;have U:=S.H.frozen' (i:=5) ω;have Y:wc.cell? ⟨R,6,none⟩ =some (.bool false):=S.H.cell (i:=6) ω;have f6:=S.H.frozen' (i:=6) ω;have r7:wc.cell? ⟨R,7,none⟩ =some (.string ByteArray.empty):=S.H.cell (i:=7) ω;have f7:=S.H.frozen' (i:=7) ω;have r8:wc.cell? ⟨R,8,none⟩ =some (.string ByteArray.empty):=S.H.cell (i:=8) ω;have f8:=S.H.frozen' (i:=8) ω;have V:wc.cell? ⟨R,9,none⟩ =some (.bool false):=S.H.cell (i:=9) ω;have f9:=S.H.frozen' (i:=9) ω;have xd:wc.cell? ⟨R,10,none⟩ =some (.bool false):=S.H.cell (i:=10) ω;have C:=S.H.frozen' (i:=10) ω
     go_wp2_with ((with_reducible (show bodyPost _ _ _ _ _ _));exact bj (eO S.err.1 rfl rfl rfl) rfl (jU S.err.2 d.out δ))
   have mk:=cj.out k bt;obtain⟨f,rfl,_,hl⟩ :=S0.rd.at_ Dv;have pM:(0:Int)<=k/\(k:Int)<3/\(k:Int)<n/\(n:Int)<=1000000:=ω;obtain⟨x,hx⟩ :=ν (ix l k);obtain⟨y,hy⟩ :=ν (ix Bp k);rw[hx]at hl;rw[hy]at mk;by_cases ao:x=y
   · have Ex:Hid (pre l (k+1)):=λi hi=>by
      rcases aV i k with o | o
      · exact HP.out i o
      obtain rfl:i=k:=ω;exact⟨by rw[<-O.out];exact Dv,by rw[hx,hy];exact ao⟩
     clear hx hy;subst ao
     go_wp2_with fail;go_quiet (fail);go_wp2;go_roundw
     case rel=>exact⟨k+1,_,ω,by go_num,rfl,Ex⟩
     case measure=>simp [intOf];omega
   have HX:Hid (ix l k≠ix Bp k):=by show _≠_;rw[hx,hy];exact ao
   clear hx hy;have cG:(x != y)=true:=by simpa using ao
   have ae:k<l.length:=by rw[<-O.out];exact Dv
   go_wp2_with fail;go_quiet (fail);have S:=((S0.drewN q).drewN nq);revert S;generalize World.drewN _ _=wc;intro S;have d:Hid (kg l=2):=by show _=_;exact WL bt HP.out ae HX.out
   have r0:wc.cell? ⟨R,0,none⟩ =some (.bool false):=S.H.cell (i:=0) ω;have f0:=S.H.frozen' (i:=0) ω;have Q:wc.cell? ⟨R,1,none⟩ =some (.bool false):=S.H.cell (i:=1) ω;have f1:=S.H.frozen' (i:=1) ω;have r2:wc.cell? ⟨R,2,none⟩ =some (.int .u32 0):=S.H.cell (i:=2) ω;have f2:=S.H.frozen' (i:=2) ω;have r3:wc.cell? ⟨R,3,none⟩ =some (.int .u8 0):=S.H.cell (i:=3) ω;have f3:=S.H.frozen' (i:=3) ω;have r4:wc.cell? ⟨R,4,none⟩ =some (.int .u8 0):=S.H.cell (i:=4) ω;have f4:=S.H.frozen' (i:=4) ω;have G:wc.cell? ⟨R,5,none⟩ =some (.slice none 0 0):=S.H.cell (i:=5) ω;have U:=S.H.frozen' (i:=5) ω;have Y:wc.cell? ⟨R,6,none⟩ =some (.bool false):=S.H.cell (i:=6) ω;have f6:=S.H.frozen' (i:=6) ω;have r7:wc.cell? ⟨R,7,none⟩ =some (.string ByteArray.empty):=S.H.cell (i:=7) ω;have f7:=S.H.frozen' (i:=7) ω;have r8:wc.cell? ⟨R,8,none⟩ =some (.string ByteArray.empty):=S.H.cell (i:=8) ω;have f8:=S.H.frozen' (i:=8) ω;have V:wc.cell? ⟨R,9,none⟩ =some (.bool false):=S.H.cell (i:=9) ω;have f9:=S.H.frozen' (i:=9) ω;have xd:wc.cell? ⟨R,10,none⟩ =some (.bool false):=S.H.cell (i:=10) ω;have C:=S.H.frozen' (i:=10) ω
   go_wp2_with ((with_reducible (show bodyPost _ _ _ _ _ _));exact bj (eO S.err.1 rfl rfl rfl) rfl (jU S.err.2 d.out δ))
 obtain rfl:3=k:=ω;have S:=S0.drewN q;clear S0;revert S;generalize w1.drewN q=wc;intro S;clear cj a8D;by_cases cQ:(n:Int)<4
 · have h4:l.length<4:=by rw[<-O.out];omega
   have d:Hid (kg l=5):=by show _=_;exact b14 HP.out h4
   have r0:wc.cell? ⟨R,0,none⟩ =some (.bool false):=S.H.cell (i:=0) ω;have f0:=S.H.frozen' (i:=0) ω;have Q:wc.cell? ⟨R,1,none⟩ =some (.bool false):=S.H.cell (i:=1) ω;have f1:=S.H.frozen' (i:=1) ω;have r2:wc.cell? ⟨R,2,none⟩ =some (.int .u32 0):=S.H.cell (i:=2) ω;have f2:=S.H.frozen' (i:=2) ω;have r3:wc.cell? ⟨R,3,none⟩ =some (.int .u8 0):=S.H.cell (i:=3) ω;have f3:=S.H.frozen' (i:=3) ω;have r4:wc.cell? ⟨R,4,none⟩ =some (.int .u8 0):=S.H.cell (i:=4) ω;have f4:=S.H.frozen' (i:=4) ω;have G:wc.cell? ⟨R,5,none⟩ =some (.slice none 0 0):=S.H.cell (i:=5) ω;have U:=S.H.frozen' (i:=5) ω;have Y:wc.cell? ⟨R,6,none⟩ =some (.bool false):=S.H.cell (i:=6) ω;have f6:=S.H.frozen' (i:=6) ω;have r7:wc.cell? ⟨R,7,none⟩ =some (.string ByteArray.empty):=S.H.cell (i:=7) ω;have f7:=S.H.frozen' (i:=7) ω;have r8:wc.cell? ⟨R,8,none⟩ =some (.string ByteArray.empty):=S.H.cell (i:=8) ω;have f8:=S.H.frozen' (i:=8) ω;have V:wc.cell? ⟨R,9,none⟩ =some (.bool false):=S.H.cell (i:=9) ω;have f9:=S.H.frozen' (i:=9) ω;have xd:wc.cell? ⟨R,10,none⟩ =some (.bool false):=S.H.cell (i:=10) ω;have C:=S.H.frozen' (i:=10) ω
   go_wp2_with ((with_reducible (show bodyPost _ _ _ _ _ _));exact bj (eO S.err.1 rfl rfl rfl) rfl (jU S.err.2 d.out δ))
 have h4:4<=l.length:=by rw[<-O.out];omega
 obtain⟨f,rfl,_,hl⟩ :=S.rd.at_ (i:=3) ω;obtain⟨F,hF⟩ :=ν (ix l 3);have Q7:=gv hb 3;rw[hF]at hl Q7;rw[add_pos f ω]at hl;have HF:=η hF;clear hF;by_cases Sk:31<F
 · have cs:31<ix l 3:=by rw[HF.out];exact Sk
   have d:Hid (kg l=2):=by show _=_;exact Ze HP.out h4 cs
   have r0:wc.cell? ⟨R,0,none⟩ =some (.bool false):=S.H.cell (i:=0) ω;have f0:=S.H.frozen' (i:=0) ω;have Q:wc.cell? ⟨R,1,none⟩ =some (.bool false):=S.H.cell (i:=1) ω;have f1:=S.H.frozen' (i:=1) ω;have r2:wc.cell? ⟨R,2,none⟩ =some (.int .u32 0):=S.H.cell (i:=2) ω;have f2:=S.H.frozen' (i:=2) ω;have r3:wc.cell? ⟨R,3,none⟩ =some (.int .u8 0):=S.H.cell (i:=3) ω;have f3:=S.H.frozen' (i:=3) ω;have r4:wc.cell? ⟨R,4,none⟩ =some (.int .u8 0):=S.H.cell (i:=4) ω;have f4:=S.H.frozen' (i:=4) ω;have G:wc.cell? ⟨R,5,none⟩ =some (.slice none 0 0):=S.H.cell (i:=5) ω;have U:=S.H.frozen' (i:=5) ω;have Y:wc.cell? ⟨R,6,none⟩ =some (.bool false):=S.H.cell (i:=6) ω;have f6:=S.H.frozen' (i:=6) ω;have r7:wc.cell? ⟨R,7,none⟩ =some (.string ByteArray.empty):=S.H.cell (i:=7) ω;have f7:=S.H.frozen' (i:=7) ω;have r8:wc.cell? ⟨R,8,none⟩ =some (.string ByteArray.empty):=S.H.cell (i:=8) ω;have f8:=S.H.frozen' (i:=8) ω;have V:wc.cell? ⟨R,9,none⟩ =some (.bool false):=S.H.cell (i:=9) ω;have f9:=S.H.frozen' (i:=9) ω;have xd:wc.cell? ⟨R,10,none⟩ =some (.bool false):=S.H.cell (i:=10) ω;have C:=S.H.frozen' (i:=10) ω
   go_wp2_with ((with_reducible (show bodyPost _ _ _ _ _ _));exact bj (eO S.err.1 rfl rfl rfl) rfl (jU S.err.2 d.out δ))
 by_cases cX:(n:Int)<10
 · have cx:l.length<10:=by rw[<-O.out];omega
   have d:Hid (kg l=5):=by show _=_;exact a80 HP.out h4 (by rw[HF.out];exact Sk) cx
   have r0:wc.cell? ⟨R,0,none⟩ =some (.bool false):=S.H.cell (i:=0) ω;have f0:=S.H.frozen' (i:=0) ω;have Q:wc.cell? ⟨R,1,none⟩ =some (.bool false):=S.H.cell (i:=1) ω;have f1:=S.H.frozen' (i:=1) ω;have r2:wc.cell? ⟨R,2,none⟩ =some (.int .u32 0):=S.H.cell (i:=2) ω;have f2:=S.H.frozen' (i:=2) ω;have r3:wc.cell? ⟨R,3,none⟩ =some (.int .u8 0):=S.H.cell (i:=3) ω;have f3:=S.H.frozen' (i:=3) ω;have r4:wc.cell? ⟨R,4,none⟩ =some (.int .u8 0):=S.H.cell (i:=4) ω;have f4:=S.H.frozen' (i:=4) ω;have G:wc.cell? ⟨R,5,none⟩ =some (.slice none 0 0):=S.H.cell (i:=5) ω;have U:=S.H.frozen' (i:=5) ω;have Y:wc.cell? ⟨R,6,none⟩ =some (.bool false):=S.H.cell (i:=6) ω;have f6:=S.H.frozen' (i:=6) ω;have r7:wc.cell? ⟨R,7,none⟩ =some (.string ByteArray.empty):=S.H.cell (i:=7) ω;have f7:=S.H.frozen' (i:=7) ω;have r8:wc.cell? ⟨R,8,none⟩ =some (.string ByteArray.empty):=S.H.cell (i:=8) ω;have f8:=S.H.frozen' (i:=8) ω;have V:wc.cell? ⟨R,9,none⟩ =some (.bool false):=S.H.cell (i:=9) ω;have f9:=S.H.frozen' (i:=9) ω;have xd:wc.cell? ⟨R,10,none⟩ =some (.bool false):=S.H.cell (i:=10) ω;have C:=S.H.frozen' (i:=10) ω
   go_wp2_with ((with_reducible (show bodyPost _ _ _ _ _ _));exact bj (eO S.err.1 rfl rfl rfl) rfl (jU S.err.2 d.out δ))
 have HT:Hid (ten l):=Xx HP.out (by rw[HF.out];exact Sk) (by rw[<-O.out];omega);obtain⟨i0,hi,u,g,t⟩ :=aL gH;obtain⟨A4,Ck⟩ :=ν (dr (some f) c 4);obtain⟨d4,Iz⟩ :=ν (c-4)
 have oJ:∀W,(Instr.slice 22 (.slice (some f) n c) (some (.int .i64 4)) (some (.int .i64 8)) none).run Tryz.prog W= .ok (.slice A4 4 d4) W:=λW=>by
  have:=fW (P:=Tryz.prog) 22 5 Tryz.underlying22 hi g (some f) n c (a:=4) (b:=8) ω ω W;rw[Ck,Iz]at this;exact this
 have cd:∀W,bT .u8 W B (some f) n l->bT .u8 W B A4 4 ((l.drop 4).take 4):=λW h=>Ck▸BA h ω hc;have ch:=η cd;clear cd Ck Iz hi u g t;obtain⟨Cw,bv,da,ac⟩ :=S.rd.at_ (i:=8) ω;cases bv;obtain⟨Cw,bv,_,ab⟩ :=S.rd.at_ (i:=9) ω;cases bv;rw[add_pos f ω]at ac ab;obtain⟨x8,zg⟩ :=ν (ix l 8);obtain⟨x9,ap⟩ :=ν (ix l 9);rw[zg]at ac;rw[ap]at ab;have cw:=gv hb 8;have cu:=gv hb 9;rw[zg]at cw;rw[ap]at cu;obtain⟨tm,bo⟩ :=ν (oK ((l.drop 4).take 4));have bp:=Bk (mj (oV hb 4) 4);rw[show((l.drop 4).take 4).length=4 by rw[aD,az,<-O.out];omega,bo]at bp;have bp:0<=tm/\tm<4294967296:=bp;have cA:=η zg;have cz:=η ap;have cg:=η bo;clear zg ap bo;have UB:f.block<wc.heap.size:=by have:=S.H.lt;have:=S.BR;omega
 have nK:∀W,bT .u8 W B (some f) n l->Calls Tryz.prog 32 #[.slice A4 4 d4] W λe w'=>e= .returned (.int .i64 tm)/\w'=W:=λW h=>by
  have:=qg W B 4 d4 A4 _ (ch.out W h) ω (mj (oV hb 4) 4);rw[cg.out]at this;exact this
 have GL:=η nK;clear nK;have Yg:=S.rd;have dq:(8:Int)<n:=ω;have dp:(9:Int)<n:=ω;have ds:(4:Int)<n:=ω;have yq:B<=wc.heap.size:=by have:=S.H.lt;have:=S.BR;omega
 have Oa:=η (tdv Q7);go_upto_region 16 with fail
 go_cut [8] (λs wx=>∃K,s= .pointer (some ⟨K,0,none⟩)/\RT w wx B R (some f) n l K { NL F with tm:=tm,fl:=x8,sy:=x9 } none 0 0 [])
 case first=>
  go_region_held3 (λw'=>w'.cell? ⟨f.block,f.off+8,none⟩ =some (.int .u8 x8)/\w'.cell? ⟨f.block,f.off+9,none⟩ =some (.int .u8 x9)/\bT .u8 w' B (some f) n l)
   (first | exact⟨ac,ab,Yg⟩ | exact⟨(dK wc.drew _ ⟨f.block,f.off+8,none⟩ UB).trans ac,(dK wc.drew _ ⟨f.block,f.off+9,none⟩ UB).trans ab,bT.alloc (w:=wc.drew) Yg yq _⟩ | exact⟨(dK wc _ ⟨f.block,f.off+8,none⟩ UB).trans ac,(dK wc _ ⟨f.block,f.off+9,none⟩ UB).trans ab,bT.alloc (w:=wc) Yg yq _⟩)
   (first | (go_at_call 32;(refine(GL.out _ (by first | exact Yg | exact bT.alloc (w:=wc.drew) Yg yq _)).mono ?_);rintro e w7 ⟨rfl,rfl⟩))
  all_goals
   go_wp2;go_meet;refine⟨_,rfl,(S.below ((ax _ _).alloc (ai _) _)).drewN 1,(Ar.We rfl _ _ rfl (λi hi=> ?_)).drew,S.H.lt,ba.dN⟩;rcases qU hi with rfl | rfl | rfl | rfl | rfl | rfl | rfl | rfl | rfl | rfl | rfl
   · exact aN (λb=>some (Value.bool b)) Oa.out.1
   · exact aN (λb=>some (Value.bool b)) Oa.out.2.1
   · exact aN (λb=>some (Value.int .u32 b)) (show IntKind.u32.wrap tm=tm by rw[ft];omega)
   · rfl
   · rfl
   · rfl
   · exact aN (λb=>some (Value.bool b)) Oa.out.2.2.1
   · rfl
   · rfl
   · exact aN (λb=>some (Value.bool b)) Oa.out.2.2.2.1
   exact aN (λb=>some (Value.bool b)) Oa.out.2.2.2.2
 case rest=>
 clear S hl ac ab Yg UB yq;obtain⟨K,rfl,T⟩ :=hcut;clear ch GL oJ HM;obtain⟨o,aE⟩ :∃o:HV,o={ NL F with tm:=tm,fl:=x8,sy:=x9 }:= ⟨_,rfl⟩;replace T:RT w wc B R (some f) n l K { NL F with tm:=tm,fl:=x8,sy:=x9 } none 0 0 []:=T;rw[<-aE]at T;have HE:Hid (o.hE=bit F 4/\o.hN=bit F 8/\o.hC=bit F 16/\o.sm=bit F 2):=by show _;rw[aE];exact⟨rfl,rfl,rfl,rfl⟩
 have bl:=η aE;clear aE Oa;have RU:Hid (fB l=F):=by show _=_;rw[HT.out.2.2.1,HF.out]
 have Y:wc.cell? ⟨K,6,none⟩ =some (.bool (bit F 4)):=by rw[<-HE.out.1];exact T.H.cell (i:=6) ω
 go_upto_if 83 with fail
 go_cut [9] (λs wx=>∃X m cc,s= .int .i64 (b9 l)/\Hid (q9 l=0/\b9 l<=n)/\RT w wx B R (some f) n l K { o with ex:= .slice X m cc } X m cc (vO l))
 case first=>
  have S:=T.S;cases z:bit F 4 with
  | false=>
    have d:=η (TR HT.out (by rw[RU.out];exact z));go_wp2;go_meet;refine⟨none,0,0,by rw[d.out.2.1];rfl, ⟨d.out.1,by rw[d.out.2.1];omega⟩, ?_⟩;rw[d.out.2.2];have h9: { o with ex:= .slice none 0 0 }=o:=by rw[bl.out];rfl
    rw[h9];exact T
  | true=>
    have Cg:Hid (bit (fB l) 4=true):=by show _=_;rw[RU.out];exact z
    by_cases cL:(n:Int)<12
    · have Ie:l.length<12:=by rw[<-O.out];omega
      have d:Hid (kg l=5):=by show _=_;exact Z9 HT.out Cg.out Ie
      have r0:wc.cell? ⟨R,0,none⟩ =some (.bool false):=S.H.cell (i:=0) ω;have f0:=S.H.frozen' (i:=0) ω;have Q:wc.cell? ⟨R,1,none⟩ =some (.bool false):=S.H.cell (i:=1) ω;have f1:=S.H.frozen' (i:=1) ω;have r2:wc.cell? ⟨R,2,none⟩ =some (.int .u32 0):=S.H.cell (i:=2) ω;have f2:=S.H.frozen' (i:=2) ω;have r3:wc.cell? ⟨R,3,none⟩ =some (.int .u8 0):=S.H.cell (i:=3) ω;have f3:=S.H.frozen' (i:=3) ω;have r4:wc.cell? ⟨R,4,none⟩ =some (.int .u8 0):=S.H.cell (i:=4) ω;have f4:=S.H.frozen' (i:=4) ω;have G:wc.cell? ⟨R,5,none⟩ =some (.slice none 0 0):=S.H.cell (i:=5) ω;have U:=S.H.frozen' (i:=5) ω;have Y:wc.cell? ⟨R,6,none⟩ =some (.bool false):=S.H.cell (i:=6) ω;have f6:=S.H.frozen' (i:=6) ω;have r7:wc.cell? ⟨R,7,none⟩ =some (.string ByteArray.empty):=S.H.cell (i:=7) ω;have f7:=S.H.frozen' (i:=7) ω;have r8:wc.cell? ⟨R,8,none⟩ =some (.string ByteArray.empty):=S.H.cell (i:=8) ω;have f8:=S.H.frozen' (i:=8) ω;have V:wc.cell? ⟨R,9,none⟩ =some (.bool false):=S.H.cell (i:=9) ω;have f9:=S.H.frozen' (i:=9) ω;have xd:wc.cell? ⟨R,10,none⟩ =some (.bool false):=S.H.cell (i:=10) ω;have C:=S.H.frozen' (i:=10) ω
      go_wp2_with ((with_reducible (show bodyPost _ _ _ _ _ _));exact bj (eO S.err.1 rfl rfl rfl) rfl (jU S.err.2 d.out δ))
    have Ie:12<=l.length:=by rw[<-O.out];omega
    obtain⟨i0,hi,u,g,t⟩ :=aL gH;obtain⟨A5,rI⟩ :=ν (dr (some f) c 10);obtain⟨d5,zy⟩ :=ν (c-10)
    have cn:∀W,(Instr.slice 22 (.slice (some f) n c) (some (.int .i64 10)) (some (.int .i64 12)) none).run Tryz.prog W= .ok (.slice A5 2 d5) W:=λW=>by
     have:=fW (P:=Tryz.prog) 22 5 Tryz.underlying22 hi g (some f) n c (a:=10) (b:=12) ω ω W;rw[rI,zy]at this;exact this
    have rL:bT .u8 wc B A5 2 ((l.drop 10).take 2):=rI▸BA T.S.rd ω hc;have ah:=Bk (mj (oV hb 10) 2);rw[show((l.drop 10).take 2).length=2 by rw[aD,az,<-O.out];omega]at ah;obtain⟨N,hN⟩ :=aJ ah.1;rw[hN]at ah;have dj:N<65536:=by have:=ah.2;omega
    have OZ:=η hN;clear ah hN rI zy;by_cases cJ:(n:Int)<12+N
    · have ca:l.length<12+N:=by rw[<-O.out];omega
      clear hi u g t
      go_wp2_with fail;refine(qg wc B 2 d5 A5 _ rL ω (mj (oV hb 10) 2)).mono ?_;rintro E w7 ⟨rfl,GC⟩;obtain rfl:=GC.symm;rw[OZ.out];have d:Hid (kg l=5):=by show _=_;exact TQ HT.out Cg.out Ie OZ.out ca
      have r0:wc.cell? ⟨R,0,none⟩ =some (.bool false):=S.H.cell (i:=0) ω;have f0:=S.H.frozen' (i:=0) ω;have Q:wc.cell? ⟨R,1,none⟩ =some (.bool false):=S.H.cell (i:=1) ω;have f1:=S.H.frozen' (i:=1) ω;have r2:wc.cell? ⟨R,2,none⟩ =some (.int .u32 0):=S.H.cell (i:=2) ω;have f2:=S.H.frozen' (i:=2) ω;have r3:wc.cell? ⟨R,3,none⟩ =some (.int .u8 0):=S.H.cell (i:=3) ω;have f3:=S.H.frozen' (i:=3) ω;have r4:wc.cell? ⟨R,4,none⟩ =some (.int .u8 0):=S.H.cell (i:=4) ω;have f4:=S.H.frozen' (i:=4) ω;have G:wc.cell? ⟨R,5,none⟩ =some (.slice none 0 0):=S.H.cell (i:=5) ω;have U:=S.H.frozen' (i:=5) ω;have Y:wc.cell? ⟨R,6,none⟩ =some (.bool false):=S.H.cell (i:=6) ω;have f6:=S.H.frozen' (i:=6) ω;have r7:wc.cell? ⟨R,7,none⟩ =some (.string ByteArray.empty):=S.H.cell (i:=7) ω;have f7:=S.H.frozen' (i:=7) ω;have r8:wc.cell? ⟨R,8,none⟩ =some (.string ByteArray.empty):=S.H.cell (i:=8) ω;have f8:=S.H.frozen' (i:=8) ω;have V:wc.cell? ⟨R,9,none⟩ =some (.bool false):=S.H.cell (i:=9) ω;have f9:=S.H.frozen' (i:=9) ω;have xd:wc.cell? ⟨R,10,none⟩ =some (.bool false):=S.H.cell (i:=10) ω;have C:=S.H.frozen' (i:=10) ω
      go_wp2_with ((with_reducible (show bodyPost _ _ _ _ _ _));exact bj (eO S.err.1 rfl rfl rfl) rfl (jU S.err.2 d.out δ))
    have ca:12+N<=l.length:=by rw[<-O.out];omega
    have d:=η (TS HT.out Cg.out Ie OZ.out ca);obtain⟨A6,Dn⟩ :=ν (dr (some f) c 12);obtain⟨d6,ce⟩ :=ν (c-12)
    have cl:∀W,(Instr.slice 22 (.slice (some f) n c) (some (.int .i64 12)) (some (.int .i64 (12+(N:Int)))) none).run Tryz.prog W= .ok (.slice A6 N d6) W:=λW=>by
     have:=fW (P:=Tryz.prog) 22 5 Tryz.underlying22 hi g (some f) n c (a:=12) (b:=12+N) ω ω W;rw[Dn,ce,show 12+N-12=N by omega]at this;exact this
    have Vw:bT .u8 wc B A6 N ((l.drop 12).take N):=Dn▸BA T.S.rd ω hc;have Hi:=η hi;have i7:=η u;have gp:=η g;have i9:=η t;clear hi u g t Dn ce
    go_wp2_with fail;refine(qg wc B 2 d5 A5 _ rL ω (mj (oV hb 10) 2)).mono ?_;rintro E w7 ⟨rfl,GC⟩;obtain rfl:=GC.symm;rw[OZ.out];have dk:=T.H.lt;have T2:=T.lit (Z:=wc.heap.size) rfl;have co:=Vw.alloc (ε T.S.H.lt T.S.BR) (.cells #[] 5)
    go_wp2_with (at_builtin;go_must (refine bq .u8 (K+1) 5 i0 1 rfl (.tmp 105) (.tmp 111) _ rfl Tryz.underlying22 Hi.out i7.out gp.out i9.out rfl T2.own rfl co ω ω ξ ?_))
    intro A8 c8 w8 cp cr db;have T3:=T2.grown cr cp;have G:=T3.H.cell (i:=5) ω;have U:=T3.H.frozen' (i:=5) ω;unfold hf at G;go_wp2;go_meet;refine⟨A8,N,c8,by rw[d.out.2.1];go_num, ⟨d.out.1,by rw[d.out.2.1];omega⟩, ?_⟩;rw[d.out.2.2];exact T3.bK (i:=5) (h':={ o with ex:= .slice A8 N c8 }) ω (.slice A8 N c8) (λj hj=>by rcases qU hj with rfl | rfl | rfl | rfl | rfl | rfl | rfl | rfl | rfl | rfl | rfl <;> rfl)
 case rest=>
 clear T Y;obtain⟨X,m,cc,rfl,bi,T⟩ :=hcut;have V:wc.cell? ⟨K,9,none⟩ =some (.bool (bit F 8)):=by rw[<-HE.out.2.1];exact T.H.cell (i:=9) ω
 obtain⟨a8,bB⟩ :=ν (b9 l);have am:=η bB;have bx:a8<=n:=by have:=bi.out.2;omega
 rw[bB];clear bB
 go_upto_if 118 with fail
 go_cut [9] (λs wx=>s= .int .i64 (rR l)/\Hid (uS l=0/\rR l<=n)/\RT w wx B R (some f) n l K { o with ex:= .slice X m cc,nm:=strOf (yD l) } X m cc (vO l))
 case first=>
  have S:=T.S;cases z:bit F 8 with
  | false=>
    have d:=η (Wc bi.out.1 (by rw[RU.out];exact z));go_wp2;go_meet;refine⟨by rw[d.out.2.1,am.out], ⟨d.out.1,by rw[d.out.2.1,am.out];exact bx⟩, ?_⟩;rw[d.out.2.2]
    exact(by have h9: { o with ex:= .slice X m cc,nm:=strOf [] }={ o with ex:= .slice X m cc }:=by rw[bl.out];rfl
             rw[h9];exact T)
  | true=>
    have Cg:Hid (bit (fB l) 8=true):=by show _=_;rw[RU.out];exact z
    obtain⟨i0,hi,u,g,t⟩ :=aL gH;obtain⟨r,QB⟩ :=ν (l.drop a8);obtain⟨Pa,Ig⟩ :∃Pa,dr (some f) c a8=some Pa:=by unfold dr;split <;> exact⟨_,rfl⟩
    have Kk:=cZ (P:=Tryz.prog) 22 5 Tryz.underlying22 hi g (some f) n c (j:=a8) bx;rw[Ig]at Kk;obtain⟨I,LK⟩ :=ν (n-a8);obtain⟨d9,Qh⟩ :=ν (c-a8);have QD:bT .u8 wc B (some Pa) I r:=by rw[<-Ig,<-LK,<-QB];exact bT.dr T.S.rd bx hc
    rw[LK,Qh]at Kk;have rV:r.length=I:=QD.1.symm;have cq:I<=d9/\I<=1000000/\a8+I=n:=ω;have Bg:=Gh r;obtain⟨E9,Uq⟩ :=ν ((rz r).2.2);obtain⟨k9,Kg⟩ :=ν ((rz r).2.1);obtain⟨t9,D⟩ :=ν ((rz r).1)
    have L:∀W,bT .u8 W B (some Pa) I r->Calls Tryz.prog 48 #[.slice (some Pa) I d9] W λe w'=>e= .returned (.tuple #[.string (strOf t9), .int .i64 (k9:Int), .int .i64 E9])/\w'=W:=λW h=>by
     have:=DZ W B I d9 Pa r h ω ω;unfold Rl at this;rw[Uq,Kg,D]at this;exact this
    have al:=η (L wc QD);rw[Kg]at Bg;have bs:a8+k9<=n:=ω;by_cases nS:E9=0
    · have d:=η (Wd bi.out.1 Cg.out (by rw[am.out,QB,Uq];exact nS));rw[am.out,QB,Kg,D]at d;subst nS;have G:=T.H.cell (i:=7) ω;have U:=T.H.frozen' (i:=7) ω;unfold hf at G;clear hi u g t QB Ig LK Qh Uq Kg D L
      go_wp2_with fail;refine al.out.mono ?_;rintro E w7 ⟨rfl,GC⟩;obtain rfl:=GC.symm;go_wp2;go_meet;refine⟨by rw[d.out.2.1];go_num, ⟨d.out.1,by rw[d.out.2.1];exact bs⟩, ?_⟩;rw[d.out.2.2];exact T.bK (i:=7) ω _ (λj hj=>by rcases qU hj with rfl | rfl | rfl | rfl | rfl | rfl | rfl | rfl | rfl | rfl | rfl <;> rfl)
    have jO:=a0D bi.out.1 Cg.out (e:=E9) (by rw[am.out,QB,Uq]) nS;have SR:=η jO;clear hi u g t QB Ig LK Qh Uq Kg D L jO
    go_wp2_with fail;refine al.out.mono ?_;rintro E w7 ⟨rfl,GC⟩;obtain rfl:=GC.symm;have d:Hid (kg l=E9):=by show _=_;exact SR.out
    have r0:wc.cell? ⟨R,0,none⟩ =some (.bool false):=S.H.cell (i:=0) ω;have f0:=S.H.frozen' (i:=0) ω;have Q:wc.cell? ⟨R,1,none⟩ =some (.bool false):=S.H.cell (i:=1) ω;have f1:=S.H.frozen' (i:=1) ω;have r2:wc.cell? ⟨R,2,none⟩ =some (.int .u32 0):=S.H.cell (i:=2) ω;have f2:=S.H.frozen' (i:=2) ω;have r3:wc.cell? ⟨R,3,none⟩ =some (.int .u8 0):=S.H.cell (i:=3) ω;have f3:=S.H.frozen' (i:=3) ω;have r4:wc.cell? ⟨R,4,none⟩ =some (.int .u8 0):=S.H.cell (i:=4) ω;have f4:=S.H.frozen' (i:=4) ω;have G:wc.cell? ⟨R,5,none⟩ =some (.slice none 0 0):=S.H.cell (i:=5) ω;have U:=S.H.frozen' (i:=5) ω;have Y:wc.cell? ⟨R,6,none⟩ =some (.bool false):=S.H.cell (i:=6) ω;have f6:=S.H.frozen' (i:=6) ω;have r7:wc.cell? ⟨R,7,none⟩ =some (.string ByteArray.empty):=S.H.cell (i:=7) ω;have f7:=S.H.frozen' (i:=7) ω;have r8:wc.cell? ⟨R,8,none⟩ =some (.string ByteArray.empty):=S.H.cell (i:=8) ω;have f8:=S.H.frozen' (i:=8) ω;have V:wc.cell? ⟨R,9,none⟩ =some (.bool false):=S.H.cell (i:=9) ω;have f9:=S.H.frozen' (i:=9) ω;have xd:wc.cell? ⟨R,10,none⟩ =some (.bool false):=S.H.cell (i:=10) ω;have C:=S.H.frozen' (i:=10) ω
    go_wp2_with ((with_reducible (show bodyPost _ _ _ _ _ _));exact bj (eO S.err.1 rfl rfl rfl) rfl (jU S.err.2 d.out nS))
 case rest=>
 clear T V;obtain⟨rfl,Yy,T⟩ :=hcut;have xd:wc.cell? ⟨K,10,none⟩ =some (.bool (bit F 16)):=by rw[<-HE.out.2.2.1];exact T.H.cell (i:=10) ω
 obtain⟨J,bL⟩ :=ν (rR l);have SP:=η bL;have Uz:J<=n:=by have:=Yy.out.2;omega
 rw[bL];clear bL
 go_upto_if 137 with fail
 go_cut [9] (λs wx=>s= .int .i64 (mA l)/\Hid (rP l=0/\mA l<=n)/\RT w wx B R (some f) n l K { o with ex:= .slice X m cc,nm:=strOf (yD l),cm:=strOf (D4 l) } X m cc (vO l))
 case first=>
  have S:=T.S;cases z:bit F 16 with
  | false=>
    have d:=η (Tx Yy.out.1 (by rw[RU.out];exact z));go_wp2;go_meet;refine⟨by rw[d.out.2.1,SP.out], ⟨d.out.1,by rw[d.out.2.1,SP.out];exact Uz⟩, ?_⟩;rw[d.out.2.2]
    exact(by have h9: { o with ex:= .slice X m cc,nm:=strOf (yD l),cm:=strOf [] }={ o with ex:= .slice X m cc,nm:=strOf (yD l) }:=by rw[bl.out];rfl
             rw[h9];exact T)
  | true=>
    have Cg:Hid (bit (fB l) 16=true):=by show _=_;rw[RU.out];exact z
    obtain⟨i0,hi,u,g,t⟩ :=aL gH;obtain⟨r,QB⟩ :=ν (l.drop J);obtain⟨Pa,Ig⟩ :∃Pa,dr (some f) c J=some Pa:=by unfold dr;split <;> exact⟨_,rfl⟩
    have Kk:=cZ (P:=Tryz.prog) 22 5 Tryz.underlying22 hi g (some f) n c (j:=J) Uz;rw[Ig]at Kk;obtain⟨I,LK⟩ :=ν (n-J);obtain⟨d9,Qh⟩ :=ν (c-J);have QD:bT .u8 wc B (some Pa) I r:=by rw[<-Ig,<-LK,<-QB];exact bT.dr T.S.rd Uz hc
    rw[LK,Qh]at Kk;have rV:r.length=I:=QD.1.symm;have cq:I<=d9/\I<=1000000/\J+I=n:=ω;have Bg:=Gh r;obtain⟨E9,Uq⟩ :=ν ((rz r).2.2);obtain⟨k9,Kg⟩ :=ν ((rz r).2.1);obtain⟨t9,D⟩ :=ν ((rz r).1)
    have L:∀W,bT .u8 W B (some Pa) I r->Calls Tryz.prog 48 #[.slice (some Pa) I d9] W λe w'=>e= .returned (.tuple #[.string (strOf t9), .int .i64 (k9:Int), .int .i64 E9])/\w'=W:=λW h=>by
     have:=DZ W B I d9 Pa r h ω ω;unfold Rl at this;rw[Uq,Kg,D]at this;exact this
    have al:=η (L wc QD);rw[Kg]at Bg;have bs:J+k9<=n:=ω;by_cases nS:E9=0
    · have d:=η (Ty Yy.out.1 Cg.out (by rw[SP.out,QB,Uq];exact nS));rw[SP.out,QB,Kg,D]at d;subst nS;have G:=T.H.cell (i:=8) ω;have U:=T.H.frozen' (i:=8) ω;unfold hf at G;clear hi u g t QB Ig LK Qh Uq Kg D L
      go_wp2_with fail;refine al.out.mono ?_;rintro E w7 ⟨rfl,GC⟩;obtain rfl:=GC.symm;go_wp2;go_meet;refine⟨by rw[d.out.2.1];go_num, ⟨d.out.1,by rw[d.out.2.1];exact bs⟩, ?_⟩;rw[d.out.2.2];exact T.bK (i:=8) ω _ (λj hj=>by rcases qU hj with rfl | rfl | rfl | rfl | rfl | rfl | rfl | rfl | rfl | rfl | rfl <;> rfl)
    have jO:=YV Yy.out.1 Cg.out (e:=E9) (by rw[SP.out,QB,Uq]) nS;have SR:=η jO;clear hi u g t QB Ig LK Qh Uq Kg D L jO
    go_wp2_with fail;refine al.out.mono ?_;rintro E w7 ⟨rfl,GC⟩;obtain rfl:=GC.symm;have d:Hid (kg l=E9):=by show _=_;exact SR.out
    have r0:wc.cell? ⟨R,0,none⟩ =some (.bool false):=S.H.cell (i:=0) ω;have f0:=S.H.frozen' (i:=0) ω;have Q:wc.cell? ⟨R,1,none⟩ =some (.bool false):=S.H.cell (i:=1) ω;have f1:=S.H.frozen' (i:=1) ω;have r2:wc.cell? ⟨R,2,none⟩ =some (.int .u32 0):=S.H.cell (i:=2) ω;have f2:=S.H.frozen' (i:=2) ω;have r3:wc.cell? ⟨R,3,none⟩ =some (.int .u8 0):=S.H.cell (i:=3) ω;have f3:=S.H.frozen' (i:=3) ω;have r4:wc.cell? ⟨R,4,none⟩ =some (.int .u8 0):=S.H.cell (i:=4) ω;have f4:=S.H.frozen' (i:=4) ω;have G:wc.cell? ⟨R,5,none⟩ =some (.slice none 0 0):=S.H.cell (i:=5) ω;have U:=S.H.frozen' (i:=5) ω;have Y:wc.cell? ⟨R,6,none⟩ =some (.bool false):=S.H.cell (i:=6) ω;have f6:=S.H.frozen' (i:=6) ω;have r7:wc.cell? ⟨R,7,none⟩ =some (.string ByteArray.empty):=S.H.cell (i:=7) ω;have f7:=S.H.frozen' (i:=7) ω;have r8:wc.cell? ⟨R,8,none⟩ =some (.string ByteArray.empty):=S.H.cell (i:=8) ω;have f8:=S.H.frozen' (i:=8) ω;have V:wc.cell? ⟨R,9,none⟩ =some (.bool false):=S.H.cell (i:=9) ω;have f9:=S.H.frozen' (i:=9) ω;have xd:wc.cell? ⟨R,10,none⟩ =some (.bool false):=S.H.cell (i:=10) ω;have C:=S.H.frozen' (i:=10) ω
    go_wp2_with ((with_reducible (show bodyPost _ _ _ _ _ _));exact bj (eO S.err.1 rfl rfl rfl) rfl (jU S.err.2 d.out nS))
 case rest=>
 clear T xd;obtain⟨rfl,SZ,T⟩ :=hcut;have Q:wc.cell? ⟨K,1,none⟩ =some (.bool (bit F 2)):=by rw[<-HE.out.2.2.2];exact T.H.cell (i:=1) ω
 obtain⟨p,bI⟩ :=ν (mA l);have ub:=η bI;have ct:p<=n:=by have:=SZ.out.2;omega
 rw[bI];clear bI
 go_upto_if 156 with fail
 go_cut [9] (λs wx=>s= .int .i64 (vk l)/\Hid (kg l=0)/\RT w wx B R (some f) n l K { o with ex:= .slice X m cc,nm:=strOf (yD l),cm:=strOf (D4 l) } X m cc (vO l))
 case first=>
  have S:=T.S;cases z:bit F 2 with
  | false=>
    have d:=η (Xp SZ.out.1 (by rw[RU.out];exact z));go_wp2;go_meet;exact⟨by rw[d.out.2,ub.out],d.out.1,T⟩
  | true=>
    have Cg:Hid (bit (fB l) 2=true):=by show _=_;rw[RU.out];exact z
    by_cases oA:(n:Int)<p+2
    · have zz:l.length<mA l+2:=by rw[<-O.out,ub.out];omega
      have d:Hid (kg l=5):=by show _=_;exact a15 SZ.out.1 Cg.out zz
      have r0:wc.cell? ⟨R,0,none⟩ =some (.bool false):=S.H.cell (i:=0) ω;have f0:=S.H.frozen' (i:=0) ω;have Q:wc.cell? ⟨R,1,none⟩ =some (.bool false):=S.H.cell (i:=1) ω;have f1:=S.H.frozen' (i:=1) ω;have r2:wc.cell? ⟨R,2,none⟩ =some (.int .u32 0):=S.H.cell (i:=2) ω;have f2:=S.H.frozen' (i:=2) ω;have r3:wc.cell? ⟨R,3,none⟩ =some (.int .u8 0):=S.H.cell (i:=3) ω;have f3:=S.H.frozen' (i:=3) ω;have r4:wc.cell? ⟨R,4,none⟩ =some (.int .u8 0):=S.H.cell (i:=4) ω;have f4:=S.H.frozen' (i:=4) ω;have G:wc.cell? ⟨R,5,none⟩ =some (.slice none 0 0):=S.H.cell (i:=5) ω;have U:=S.H.frozen' (i:=5) ω;have Y:wc.cell? ⟨R,6,none⟩ =some (.bool false):=S.H.cell (i:=6) ω;have f6:=S.H.frozen' (i:=6) ω;have r7:wc.cell? ⟨R,7,none⟩ =some (.string ByteArray.empty):=S.H.cell (i:=7) ω;have f7:=S.H.frozen' (i:=7) ω;have r8:wc.cell? ⟨R,8,none⟩ =some (.string ByteArray.empty):=S.H.cell (i:=8) ω;have f8:=S.H.frozen' (i:=8) ω;have V:wc.cell? ⟨R,9,none⟩ =some (.bool false):=S.H.cell (i:=9) ω;have f9:=S.H.frozen' (i:=9) ω;have xd:wc.cell? ⟨R,10,none⟩ =some (.bool false):=S.H.cell (i:=10) ω;have C:=S.H.frozen' (i:=10) ω
      go_wp2_with ((with_reducible (show bodyPost _ _ _ _ _ _));exact bj (eO S.err.1 rfl rfl rfl) rfl (jU S.err.2 d.out δ))
    have zz:mA l+2<=l.length:=by rw[<-O.out,ub.out];omega
    have ci:=η zz;clear zz;obtain⟨i0,hi,u,g,t⟩ :=aL gH;obtain⟨A5,rI⟩ :=ν (dr (some f) c p);obtain⟨d5,zy⟩ :=ν (c-p)
    have cn:∀W,(Instr.slice 22 (.slice (some f) n c) (some (.int .i64 (p:Int))) (some (.int .i64 ((p:Int)+2))) none).run Tryz.prog W= .ok (.slice A5 2 d5) W:=λW=>by
     have:=fW (P:=Tryz.prog) 22 5 Tryz.underlying22 hi g (some f) n c (a:=p) (b:=p+2) ω ω W;rw[rI,zy,show p+2-p=2 by omega]at this;exact this
    have cl:=dQ (P:=Tryz.prog) 22 5 Tryz.underlying22 hi g (some f) n c (j:=p) ω;have rL:bT .u8 wc B A5 2 ((l.drop p).take 2):=rI▸BA T.S.rd ω hc;have Vw:bT .u8 wc B (some f) p (l.take p):=bT.pre T.S.rd ct;clear hi u g t rI zy;obtain⟨y,hy⟩ :=ν (oK ((l.drop p).take 2));have yV:=ku (tF (x:=iz 0) (l:=l.take p) (ku ω) (gv (mj hb _)) p);obtain⟨cv,be⟩ :=ν (iz (mq (iz 0) (l.take p) p));have cb:Hid (EH l=cv%65536):=by show _=_;unfold EH;rw[ub.out,be]
    rw[be]at yV;have HY:Hid (oK ((l.drop (mA l)).take 2)=y):=by show _=_;rw[ub.out];exact hy
    have GL:Hid (∀q,Calls Tryz.prog 32 #[.slice A5 2 d5] (wc.drewN q) λe w'=>e= .returned (.int .i64 y)/\w'=wc.drewN q):=λq=>by
     have:=qg (wc.drewN q) B 2 d5 A5 _ (rL.drewN q) ω (mj (oV hb p) 2);rw[hy]at this;exact this
    have a2j:Hid (∀q,Calls Tryz.prog 33 #[.int .u32 0, .slice (some f) p c] (wc.drewN q) λe w'=>e= .returned (.int .u32 cv)/\w'=wc.drewN q):=λq=>by
     have:=Jl 0 (some f) p c B (l.take p) (wc.drewN q) (Vw.drewN q) (gv (mj hb _)) ω ω;rw[be]at this;exact this.mono λ_ _ h=> ⟨h.1,h.2.symm⟩
    clear hy be;obtain⟨v,hv⟩ :=ν (cv%65536);have cH:0<=v/\v<65536:=ω;rw[hv]at cb;have B9:=(show¬(n:Int)<(p:Int)+2 from oA);have e1:(IntKind.i64.wrap ((p:Int)+2))=(p:Int)+2:=aM _ ω;have e2:cv.tmod 65536=v:=by rw[eM yV.1];exact hv
    have dd:(0:Int)<=p/\(p:Int)+2<=n/\(n:Int)<=1000000:=ω;by_cases an:y=v
    · have d:=η (Xq SZ.out.1 Cg.out ci.out (by rw[HY.out,cb.out];exact an));rw[ub.out]at d;subst an
      go_wp2_with fail;go_quiet ((first | (go_at_call 32;exact bM (GL.out _)) | (go_at_call 33;exact bM (a2j.out _))));go_wp2;go_meet;exact⟨by rw[d.out.2];go_num,d.out.1,T.drewN _⟩
    have SR:=η (a14 SZ.out.1 Cg.out ci.out (by rw[HY.out,cb.out];exact an));have cD:(y != v)=true:=by simpa using an
    go_wp2_with fail;go_quiet ((first | (go_at_call 32;exact bM (GL.out _)) | (go_at_call 33;exact bM (a2j.out _))));replace S:=S.drewN nq;clear rL Vw GL a2j T Q;revert S;generalize wc.drewN nq=wc;intro S;have d:Hid (kg l=4):=by show _=_;exact SR.out
    have r0:wc.cell? ⟨R,0,none⟩ =some (.bool false):=S.H.cell (i:=0) ω;have f0:=S.H.frozen' (i:=0) ω;have Q:wc.cell? ⟨R,1,none⟩ =some (.bool false):=S.H.cell (i:=1) ω;have f1:=S.H.frozen' (i:=1) ω;have r2:wc.cell? ⟨R,2,none⟩ =some (.int .u32 0):=S.H.cell (i:=2) ω;have f2:=S.H.frozen' (i:=2) ω;have r3:wc.cell? ⟨R,3,none⟩ =some (.int .u8 0):=S.H.cell (i:=3) ω;have f3:=S.H.frozen' (i:=3) ω;have r4:wc.cell? ⟨R,4,none⟩ =some (.int .u8 0):=S.H.cell (i:=4) ω;have f4:=S.H.frozen' (i:=4) ω;have G:wc.cell? ⟨R,5,none⟩ =some (.slice none 0 0):=S.H.cell (i:=5) ω;have U:=S.H.frozen' (i:=5) ω;have Y:wc.cell? ⟨R,6,none⟩ =some (.bool false):=S.H.cell (i:=6) ω;have f6:=S.H.frozen' (i:=6) ω;have r7:wc.cell? ⟨R,7,none⟩ =some (.string ByteArray.empty):=S.H.cell (i:=7) ω;have f7:=S.H.frozen' (i:=7) ω;have r8:wc.cell? ⟨R,8,none⟩ =some (.string ByteArray.empty):=S.H.cell (i:=8) ω;have f8:=S.H.frozen' (i:=8) ω;have V:wc.cell? ⟨R,9,none⟩ =some (.bool false):=S.H.cell (i:=9) ω;have f9:=S.H.frozen' (i:=9) ω;have xd:wc.cell? ⟨R,10,none⟩ =some (.bool false):=S.H.cell (i:=10) ω;have C:=S.H.frozen' (i:=10) ω
    go_wp2_with ((with_reducible (show bodyPost _ _ _ _ _ _));exact bj (eO S.err.1 rfl rfl rfl) rfl (jU S.err.2 d.out δ))
 case rest=>
 clear T Q;obtain⟨rfl,cB,T⟩ :=hcut;have k0:wc.cell? ⟨K,0,none⟩ =some (.bool o.tx):=T.H.cell (i:=0) ω;have k1:wc.cell? ⟨K,1,none⟩ =some (.bool o.sm):=T.H.cell (i:=1) ω;have k2:wc.cell? ⟨K,2,none⟩ =some (.int .u32 o.tm):=T.H.cell (i:=2) ω;have k3:wc.cell? ⟨K,3,none⟩ =some (.int .u8 o.fl):=T.H.cell (i:=3) ω;have k4:wc.cell? ⟨K,4,none⟩ =some (.int .u8 o.sy):=T.H.cell (i:=4) ω;have k5:wc.cell? ⟨K,5,none⟩ =some (.slice X m cc):=T.H.cell (i:=5) ω;have k6:wc.cell? ⟨K,6,none⟩ =some (.bool o.hE):=T.H.cell (i:=6) ω;have k7:wc.cell? ⟨K,7,none⟩ =some (.string (strOf (yD l))):=T.H.cell (i:=7) ω;have k8:wc.cell? ⟨K,8,none⟩ =some (.string (strOf (D4 l))):=T.H.cell (i:=8) ω;have k9:wc.cell? ⟨K,9,none⟩ =some (.bool o.hN):=T.H.cell (i:=9) ω;have IV:wc.cell? ⟨K,10,none⟩ =some (.bool o.hC):=T.H.cell (i:=10) ω;have r0:wc.cell? ⟨R,0,none⟩ =some (.bool false):=T.S.H.cell (i:=0) ω;have f0:=T.S.H.frozen' (i:=0) ω;have Q:wc.cell? ⟨R,1,none⟩ =some (.bool false):=T.S.H.cell (i:=1) ω;have f1:=T.S.H.frozen' (i:=1) ω;have r2:wc.cell? ⟨R,2,none⟩ =some (.int .u32 0):=T.S.H.cell (i:=2) ω;have f2:=T.S.H.frozen' (i:=2) ω;have r3:wc.cell? ⟨R,3,none⟩ =some (.int .u8 0):=T.S.H.cell (i:=3) ω;have f3:=T.S.H.frozen' (i:=3) ω;have r4:wc.cell? ⟨R,4,none⟩ =some (.int .u8 0):=T.S.H.cell (i:=4) ω;have f4:=T.S.H.frozen' (i:=4) ω;have G:wc.cell? ⟨R,5,none⟩ =some (.slice none 0 0):=T.S.H.cell (i:=5) ω;have U:=T.S.H.frozen' (i:=5) ω;have Y:wc.cell? ⟨R,6,none⟩ =some (.bool false):=T.S.H.cell (i:=6) ω;have f6:=T.S.H.frozen' (i:=6) ω;have r7:wc.cell? ⟨R,7,none⟩ =some (.string ByteArray.empty):=T.S.H.cell (i:=7) ω;have f7:=T.S.H.frozen' (i:=7) ω;have r8:wc.cell? ⟨R,8,none⟩ =some (.string ByteArray.empty):=T.S.H.cell (i:=8) ω;have f8:=T.S.H.frozen' (i:=8) ω;have V:wc.cell? ⟨R,9,none⟩ =some (.bool false):=T.S.H.cell (i:=9) ω;have f9:=T.S.H.frozen' (i:=9) ω;have xd:wc.cell? ⟨R,10,none⟩ =some (.bool false):=T.S.H.cell (i:=10) ω;have C:=T.S.H.frozen' (i:=10) ω;have dl:¬K=R:=by have:=T.lt;omega
 have de:¬R=K:=by have:=T.lt;omega
 have hm:m<=cc/\cc<=maxLen:=by
  rcases T.own.2 with ⟨_,o,h2⟩ | ⟨_,_,_,_,_,o,h2,_⟩
  · omega
  exact⟨o,h2⟩
 have ck:=η hm;clear hm
 have a8C:Hid ({ o with ex:= .slice X m cc,nm:=strOf (yD l),cm:=strOf (D4 l) }=xR l (.slice X m cc)):=by
  show _=_;unfold xR;rw[bl.out,HT.out.2.2.1,HT.out.2.2.2.1,HT.out.2.2.2.2.1,HT.out.2.2.2.2.2,HF.out,cg.out,cA.out,cz.out]
 go_wp2_with ((with_reducible (show bodyPost _ _ _ _ _ _));exact bj (eO (T.fin).1 rfl rfl rfl) rfl ⟨X,m,cc,vO l,ck.out.1,ck.out.2,(T.fin).2.2,λk hk=>by have:=(T.own.2.lt hk).1;have:=T.lt;have:=T.S.eq;omega,(T.fin).2.1, .inl ⟨cB.out,rfl,by rw[<-a8C.out];rfl⟩⟩)
theorem Rp (w:World) (B n c m d:Nat) (A C:ay) (l:aj) (h:HV) (f:bT .u8 w B A n l) (g:bT .u8 w B C m l) (a:B<=w.heap.size) (b:(n:Int)<=1000000000):
  Calls Tryz.prog 22 #[hagg { h with ex:= .slice A n c },hagg { h with ex:= .slice C m d }] w λe w'=>e= .returned (.bool true)/\Below w.heap.size w w':=by
 obtain⟨tx,sm,tm,fl,sy,ex,hE,nm,cm,hN,hC⟩ :=h;unfold hagg;dsimp only;go_enter Tryz.func22,Tryz.ntmps22
 go_wp2_with (go_at_call 16;(with_reducible refine(BK _ B n c m d A C l l ((f.alloc a _).alloc ξ _) ((g.alloc a _).alloc ξ _) b rfl).mono ?_);rintro e w2 ⟨rfl,q,rfl⟩)
 go_ret;exact⟨rfl,below_drewN (((ax _ _).alloc (ai _) _).alloc σ _) q⟩
end Go.Proofs.YtdhmnlpfhfmpfaaGreat
