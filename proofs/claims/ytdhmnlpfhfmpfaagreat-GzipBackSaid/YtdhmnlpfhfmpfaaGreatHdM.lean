/-
  part
-/
import Derived.Test.YtdhmnlpfhfmpfaaGreatIxb
import Derived.Test.YtdhmnlpfhfmpfaaGreatRev
import Derived.Test.YtdhmnlpfhfmpfaaGreatStep
import Derived.Lib.AppendStr
import Derived.Laws.Closers25b
namespace Go.Proofs.YtdhmnlpfhfmpfaaGreat
open Go.RowKit
set_option linter.unusedVariables false
set_option maxRecDepth 100000
set_option maxHeartbeats 4000000
def zV (b:Bool) (v:Int):Int:=if b then v else 0
theorem W9 (w:World) (b:Bool) (f:Int):Calls Tryz.prog 37 #[.bool b, .int .u8 f] w λe w'=>e= .returned (.int .u8 (zV b f))/\w=w':=by
 cases b
 all_goals
  go_enter Tryz.func37,Tryz.ntmps37;go_wp2;go_ret;exact⟨rfl,rfl⟩
def pG:Nat->Int->aj
 | 0,_=>[]
 | k+1,v=>v%256::pG k (v/256)
theorem cE (k:Nat) (v:Int):(pG k v).length=k:=by
 induction k generalizing v with
 | zero=>rfl
 | succ k a=>show(pG k (v/256)).length+1=_;rw[a]
theorem Bj (k:Nat) (v:Int):∀x∈pG k v,0<=x/\x<256:=by
 induction k generalizing v with
 | zero=>exact λx a=>by cases a
 | succ k b=>
   intro x a;rcases aY.1 a with rfl | a
   · omega
   exact b _ x a
theorem VY (k:Nat) (v:Int):pG (k+1) v=pG k v++[v/256 ^ k%256]:=by
 induction k generalizing v with
 | zero=>show [v%256]=[v/256 ^ 0%256];rw[Int.pow_zero,Int.ediv_one]
 | succ k a=>
   show v%256::pG (k+1) (v/256)=v%256::pG k (v/256)++[_];rw[a,dD,ep ω,eP,fF]
theorem zB (k:Nat) {v:Int} (h:0<=v) (h':v<256 ^ k):oK (pG k v)=v:=by
 induction k generalizing v with
 | zero=>simp at h';show(0:Int)=v;omega
 | succ k a=>
   show v%256+256*oK (pG k (v/256))=v;rw[a ω (Int.ediv_lt_of_lt_mul ω (by rw[eP]at h';exact h'))];omega
theorem qT (w:World) (v:Int) (N:Nat) (hv:0<=v/\v<4294967296) (hN:N<=4):
  Calls Tryz.prog 28 #[.int .u32 v, .int .i64 N] w λe w'=>∃A n c,e= .returned (.slice A n c)/\ba .u8 w' w.heap.size 5 A n c (pG N v)/\Below w.heap.size w w':=by
 obtain⟨r,hi,h,f,d⟩ :=aL gH;have Hi:=η hi;have K:=η h;have J:=η f;have I:=η d;clear hi h f d;have G:(N:Int)<=4:=ω;go_enter Tryz.func28,Tryz.ntmps28;go_wp2
 go_loopw [0,5,7] (λx o i wr=>∃(k:Nat) (u:Int) (A:ay) (c:Nat),k<=N/\i= .int .i64 k/\x= .int .u32 u/\o= .slice A k c/\0<=u/\u<4294967296/\Hid (u=v/256 ^ k)/\ba .u8 wr w.heap.size 5 A k c (pG k v)/\Below w.heap.size w wr) (λ_ _ i _=>N-(intOf i).toNat)
 case atStart=>exact⟨0,v,none,0,ω,rfl,rfl,rfl,hv.1,hv.2,by show _=_;rw[Int.pow_zero,Int.ediv_one],ba.dN,ax _ _⟩
 obtain⟨k,u,A,c,P,rfl,rfl,rfl,y,t,q,a,b⟩ :=hrel;by_cases C:k<N
 rotate_left
 · obtain rfl:N=k:=ω;go_wp2;go_ret;exact⟨A,_,c,rfl,a,b⟩
 have O:(0:Int)<=k/\(k:Int)<N:=ω;have z:=b.size;have p:=a.keeps (w':=wr.alloc (.cells #[.int .u8 (u%256)] 5)) ((ax _ _).alloc (ai _) _);have l:Hid (pG (k+1) v=pG k v++[u%256]):=by show _=_;rw[VY,q.out]
 have j:Hid (u/256=v/256 ^ (k+1)):=by show _=_;rw[q.out,ep (Int.le_of_lt (Int.pow_pos ω)),eP]
 have s:IntKind.u8.wrap u=u%256:=by rw[IntKind.wrap_u8]
 have B:u/2 ^ 8=u/256:=rfl
 go_wp2_with (at_builtin;go_must (refine bq .u8 w.heap.size 5 r 1 rfl (.tmp 9) (.tmp 12) _ rfl Tryz.underlying22 Hi.out K.out J.out I.out rfl p rfl (bT.lit .u8 wr [u%256] 5) ξ ω ξ ?_))
 intro L H M m D Q;have F:=Hd (b.alloc ω (.cells #[.int .u8 (u%256)] 5)) D ξ (λg E=>(p.2.lt E).1);rw[<-l.out]at m;go_wp2;go_roundw
 case rel=>exact⟨k+1,u/256,L,H,ω,by go_num,by first | rfl | go_num,rfl,ω,ω,j,m,F⟩
 case measure=>simp [intOf];omega
def ET (l:aj) (has:Bool):Bool:=decide (l.length<=4096)&&(decide (¬nz l<l.length)&&(has||l.isEmpty))
theorem jr (l:aj):(strOf l).size=l.length:=by
 have:=aN List.length (kd l)
 simpa using this
theorem jy (w:World) (l:aj) (has:Bool) (m:∀x∈l,0<=x/\x<256) (p:l.length<=100000000):
  Calls Tryz.prog 36 #[.string (strOf l), .bool has] w λe w'=>e= .returned (.bool (ET l has))/\w=w':=by
 have i:=η (jr l);have b:=η (VV m);by_cases g:l.length<=4096
 rotate_left
 · have a:Hid (ET l has=false):=by show _=_;unfold ET;simp [g]
   have f:¬(l.length:Int)<=4096:=ω;have c:(strOf l).size=l.length:=i.out;go_enter Tryz.func36,Tryz.ntmps36;go_wp2;go_ret;exact⟨by rw[a.out];rfl,rfl⟩
 have f:(l.length:Int)<=4096:=ω;have hd:decide (l.length<=4096)=true:=aS g;have c:(strOf l).size=l.length:=i.out;by_cases d:nz l<l.length
 · have a:Hid (ET l has=false):=by show _=_;unfold ET;simp [d]
   have j:((nz l:Int)<0)=False:=σ;rw[af d]at b;go_enter Tryz.func36,Tryz.ntmps36
   go_wp2_with (go_at_call 60;refine(qQ _ _ _).mono ?_;rintro h w1 ⟨rfl,rfl⟩;rw[b.out])
   go_ret;exact⟨by rw[a.out];rfl,rfl⟩
 rw[aa d]at b;cases has with
 | true=>
   have a:Hid (ET l true=true):=by show _=_;unfold ET;simp [g];omega
   go_enter Tryz.func36,Tryz.ntmps36
   go_wp2_with (go_at_call 60;refine(qQ _ _ _).mono ?_;rintro h w1 ⟨rfl,rfl⟩;rw[b.out])
   go_ret;exact⟨by rw[a.out];rfl,rfl⟩
 | false=>
   cases l with
   | nil=>
     have a:Hid (ET [] false=true):=by show _=_;decide
     have k:(strOf []).toList.isEmpty=true:=by rw[show(strOf []).toList=[] from(eR _).2 rfl];rfl
     go_enter Tryz.func36,Tryz.ntmps36
     go_wp2_with (go_at_call 60;refine(qQ _ _ _).mono ?_;rintro h w1 ⟨rfl,rfl⟩;rw[b.out])
     go_ret;exact⟨by rw[a.out];rfl,rfl⟩
   | cons x l=>
     have a:Hid (ET (x::l) false=false):=by show _=_;unfold ET;simp
     have k:(strOf (x::l)).toList.isEmpty=false:=by
      cases n:(strOf (x::l)).toList with
      | nil=>
        have o:=(eR _).1 n;have h7:=i.out;rw[o]at h7;simp at h7
      | cons=>rfl
     go_enter Tryz.func36,Tryz.ntmps36
     go_wp2_with (go_at_call 60;refine(qQ _ _ _).mono ?_;rintro h w1 ⟨rfl,rfl⟩;rw[b.out])
     go_ret;exact⟨by rw[a.out];rfl,rfl⟩
end Go.Proofs.YtdhmnlpfhfmpfaaGreat
