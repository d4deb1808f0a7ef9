/- A part of the proof: Sched3, RoundQ, Sched4, TblStr, Sched5, Sched6. -/
import Derived.Test.YtliimglbbiebiaaGreatDoorGTopPairsAO
import Derived.Sort.QuietIn
import Derived.OwnWalkIn
import Derived.Test.YtliimglbbiebiaaGreatDoorGTopPairsBC
import Derived.Test.YtliimglbbiebiaaGreatDoorGTopPairsAB
import Derived.Test.YtliimglbbiebiaaGreatDoorGTopPairsAJ
import Derived.Test.YtliimglbbiebiaaGreatDoorGTopPairsAK
import Derived.Test.YtliimglbbiebiaaGreatDoorGTopPairsAZ
set_option maxRecDepth 100000
set_option maxHeartbeats 6400000
section
namespace Go.Proofs.YtliimglbbiebiaaGreatDoor
open Go.RowKit
theorem fturns_any (s:Nat) (w:World):Calls Tryz.prog 33 #[.pointer (some ⟨s,0,none⟩)] w fun e w'=>e=.returned (.func (.func 55) #[] #[.pointer (some ⟨w.heap.size,0,none⟩)])∧w'=w.alloc (.cells #[.pointer (some ⟨s,0,none⟩)] 26):=by
 have hmf:∀ (fn:Fn) (first cap:Array Value) (w:World),(Instr.makeFunc fn first cap).run Tryz.prog w=.ok (.func fn first cap) w:=fun _ _ _ _=>rfl
 go_enter Tryz.func33,Tryz.ntmps33
 go_wp2
 go_ret
 exact ⟨rfl,rfl⟩
theorem wpIn_loop_fuel {F:Fence} {n:Nat} {P:Program} {Q:Exit→Act→World→Prop} {a:Act} {w:World} {c:Code} (R:Nat→Act→World→Prop) (f:Nat) (h:R f a w) (h0:∀ a w,¬ R 0 a w)
 (step:∀ f a w,R (f + 1) a w→c.wpIn F n P (Exit.then (R f) Q) a w):(Code.loop c).wpIn F n P Q a w:=by
 refine wpIn_loop_rounds f ?_
 induction f generalizing a w with
 | zero=>exact (h0 _ _ h).elim
 | succ f ih =>
   rw [roundsIn_succ]
   refine wpIn_mono (step f a w h) fun e a' w' hq=>?_
   cases e with
   | normal=>exact ih hq
   | ret=>exact hq
   | exit i=>exact hq
   | goto t=>exact hq
   | panic c=>exact hq
   | outgrown=>exact hq
theorem turns1_seq (q s m K:Nat) (hm:0 < m) (hm1:m≤1000) {I:List Nat→World→Prop} {Ix:Code→List Nat→World→Prop} {KK:World→Prop} {Kx:Code→World→Prop} (l:Nat) (W1:World) (hK1:KK W1) (i1:I [] W1)
 (hread:∀ pre W,I pre W→W.cell? ⟨q,0,none⟩=some (.pointer (some ⟨s,0,none⟩))∧∃ A c,W.cell? ⟨s,2,none⟩=some (.slice A m c))
 (hfuel:∀ pre W,I pre W→pre.length≤K)
 (hround:∀ pre x W,I pre W→x=pre.length % m→KK W→YieldAt Fence.wide 4 Tryz.prog l #[.int .i64 x] W fun e W'=>(e=.returned (.bool true)∧I (pre ++ [x]) W'∧KK W')∨(e=.returned (.bool false)∧∃ c,Ix c (pre ++ [x]) W'∧Kx c W')) :
 CallsIn Fence.wide 5 Tryz.prog 55 #[.func (.yield l) #[] #[],.pointer (some ⟨q,0,none⟩)] W1 fun e W'=>(∃ v,e=.returned v)∧∃ pre c,Ix c pre W'∧Kx c W':=by
 refine callsIn_of_wp Tryz.func55 rfl trivial ?_ rfl
 simp only [Tryz.ntmps55,List.size_toArray,List.length_cons,List.length_nil,Nat.reduceAdd,Nat.reduceSub,Array.replicate_succ,Array.replicate_zero,List.push_toArray,List.append_toArray,List.nil_append,List.cons_append]
 gi_wp2_with fail
 refine wpIn_loop_fuel (fun f a W=>∃ (pre:List Nat) (b:Nat) (u3 u4 u5 u6 u7 u8 u9 u10 u11 u12 u13 u14 u15 u16:Value),I pre W∧KK W∧pre.length=b * m∧K < pre.length + f ∧
  a={ tmps:=#[.func (.yield l) #[] #[],.pointer (some ⟨q,0,none⟩),undef,u3,u4,u5,u6,u7,u8,u9,u10,u11,u12,u13,u14,u15,u16],defers:=[] }) (K + 1)
  ⟨[],0,_,_,_,_,_,_,_,_,_,_,_,_,_,_,i1,hK1,by simp,by simp,rfl⟩ (fun a W=>?_) fun f a W=>?_
 · rintro ⟨pre,b,u3,u4,u5,u6,u7,u8,u9,u10,u11,u12,u13,u14,u15,u16,hI,hK,hl,hf,rfl⟩
   have:=hfuel pre W hI
   omega
 rintro ⟨pre,b,u3,u4,u5,u6,u7,u8,u9,u10,u11,u12,u13,u14,u15,u16,hI,hK,hl,hf,rfl⟩
 obtain ⟨r1,A,c,r2⟩:=hread pre W hI
 gi_wp2_with fail
 refine wpIn_loop_fuel (fun g a W=>∃ (pre:List Nat) (i:Nat) (u3 u10 u11 u12 u13 u14 u15 u16:Value),I pre W∧KK W∧pre.length=b * m + i∧K + i < pre.length + (f + 1)∧i≤m∧i + g=m + 1 ∧
  a={ tmps:=#[.func (.yield l) #[] #[],.pointer (some ⟨q,0,none⟩),undef,u3,.pointer (some ⟨s,0,none⟩),.pointer (some ⟨s,0,none⟩),.pointer (some ⟨s,2,none⟩),.slice A m c,.int .i64 m,.int .i64 i,u10,u11,u12,u13,u14,u15,u16],defers:=[] }) (m + 1)
  ⟨pre,0,_,_,_,_,_,_,_,_,hI,hK,hl,by omega,by omega,by omega,rfl⟩ (fun a W=>?_) fun g a W=>?_
 · rintro ⟨pre,i,u3,u10,u11,u12,u13,u14,u15,u16,hI,hK,hl,hf,hi,hg,rfl⟩
   omega
 clear hI hK hl hf r1 r2
 rintro ⟨pre,i,u3,u10,u11,u12,u13,u14,u15,u16,hI,hK,hl,hf,hi,hg,rfl⟩
 by_cases hd:i < m
 · have hx:i=pre.length % m:=by rw [hl,Nat.mul_comm,Nat.mul_add_mod,Nat.mod_eq_of_lt hd]
   obtain ⟨fn,tmps,assign,body,hy,hR⟩:=hround pre i W hI hx hK
   have hlt:((i:Int) < (m:Int)):=by omega
   have hd1:decide ((i:Int) < (m:Int))=true:=decide_eq_true hlt
   have HR:=Lib.hid hR
   have HL:=Lib.hid hl
   clear hR hx hl hround
   gi_wp2_with fail
   refine HR.out.mono ?_
   rintro e W5 (⟨rfl,hI5,k5⟩ | ⟨rfl,c0,hf0,k5⟩)
   · gi_wp2_with fail
     refine ⟨pre ++ [i],i + 1,_,_,_,_,_,_,_,_,hI5,k5,by have:=HL.out; simp; omega,by simp; omega,by omega,by omega,rfl⟩
   · gi_wp2
     refine bodyPost_ret (results_none rfl _ _ _) rfl ?_
     exact ⟨⟨_,rfl⟩,_,c0,hf0,k5⟩
 · have hd1:decide ((i:Int) < (m:Int))=false:=decide_eq_false (by omega)
   have HL:=Lib.hid hl
   clear hl hround
   gi_wp2_with fail
   obtain rfl:i=m:=by omega
   exact ⟨pre,b + 1,_,_,_,_,_,_,_,_,_,_,_,_,_,_,hI,hK,by rw [HL.out,Nat.succ_mul],by omega,rfl⟩
end Go.Proofs.YtliimglbbiebiaaGreatDoor
end

section
namespace Go.Proofs.YtliimglbbiebiaaGreatDoor
open Go.RowKit
section
variable {F:Fence} {n:Nat} {P:Program} {ops:Array Oper} {Q:Exit→Act→World→Prop} {l:Nat}
theorem operIn_round {o:Oper} (hd:∀ c,o.op≠.defer c) {a:Act} {w:World} {next:Act→World→Prop} (h:o.wpIn F n P a w next Q):o.wpIn (F.inRound l) n P a w next Q:=by
 unfold Oper.wpIn at h ⊢
 rw [Oper.semAt_eq _ _ _ hd] at h ⊢
 exact h
theorem opIn_round (hd:∀ o ∈ ops,∀ c,o.op≠.defer c) {i:Nat} {K K':Act→World→Prop} (hK:∀ a w,K a w→K' a w) {a:Act} {w:World} (h:wpOpIn F n P ops Q i K a w):wpOpIn (F.inRound l) n P ops Q i K' a w:=by
 unfold wpOpIn at h ⊢
 cases ho:ops[i]? with
 | none=>rw [ho] at h; exact hK _ _ h
 | some o =>
   rw [ho] at h
   simp only at h ⊢
   split
   · rename_i hw
     rw [if_pos hw] at h
     exact operIn_round (hd o (Array.mem_of_getElem? ho)) (Oper.wpIn_mono hK h)
   · rename_i hw
     rw [if_neg hw] at h
     exact ⟨h.1,hK _ _ h.2⟩
theorem anyIn_round {md:Region.Mode} (hd:∀ o ∈ ops,∀ c,o.op≠.defer c):∀ (fuel:Nat) (listed:Array Bool) (a:Act) (w:World),wpAnyIn F n P md ops Q fuel listed a w→wpAnyIn (F.inRound l) n P md ops Q fuel listed a w
 | 0,_,_,_,h=>h
 | fuel + 1,_,_,_,h=>⟨h.1,fun i hi=>opIn_round hd (fun a w h=>anyIn_round hd fuel _ a w h) (h.2 i hi)⟩
def noDefer (os:List Oper):Bool:=os.all fun o=>match o.op with | .defer _=>false | _=>true
theorem noDefer_ok {os:List Oper} (h:noDefer os=true):∀ o ∈ os.toArray,∀ c,o.op≠.defer c:=fun o ho c e=>by
 have:=List.all_eq_true.1 h o (by simpa using ho)
 rw [e] at this
 cases this
theorem wpIn_region_quiet_lit_round {id:Nat} {a:Act} {w:World} {os:List Oper} (hro:F.round=none) (hm:P.follows .mixedOrders=true) (hB:Region.lexB .any os.toArray=true) (hd0:noDefer os=true)
 (h:wpQuietIn F n P os.toArray (fun w'=>∃ n,w'=w.drewN n) (fun a'=>∀ w',(∃ n,w'=w.drewN n)→Q .normal a' w') os a):(Code.region id os.toArray true).wpIn (F.inRound l) n P Q a w:=by
 have hd:=noDefer_ok hd0
 simp only [Region.lexB,Bool.and_eq_true] at hB
 refine wpIn_region_any hm (anyIn_round hd _ _ _ _ (wpAnyIn_of_quiet (C:=fun w'=>∃ n,w'=w.drewN n) (Q:=fun a'=>∀ w',(∃ n,w'=w.drewN n)→Q .normal a' w') hro (fun _ w' hw' h=>h w' hw') _ _ _ _ ⟨1,rfl⟩ ?_))
 have:=wpAnyQIn_lex (F:=F) (n:=n) (C:=fun w'=>∃ n,w'=w.drewN n) (md:=.any) hB.1 os.toArray.toList 0 (Array.replicate os.toArray.size false) a (by simp) (by simpa using hB.2) (by simpa using h)
 simpa using this
end
end Go.Proofs.YtliimglbbiebiaaGreatDoor
end

section
namespace Go.Proofs.YtliimglbbiebiaaGreatDoor
open Go.RowKit
attribute [local go_sem] Oper.semAt_some
def nF (k:Nat):Int:=if k=0 then 0 else if k≤2 then 1 else 2
def sF (k:Nat):Int:=if k≤1 then 0 else if k=2 then 1 else (k:Int) - 3
def hF (k:Nat):Nat→Nat:=fun j=>if j=0 then (if k=0 then 0 else if k≤2 then 1 else 2) else 2
def oF (k:Nat):List Int:=if k < 3 then [1] else [1,0]
section
variable {B z0 z1:Nat} {w w':World} {bx:Value} {s lk bm:Nat} {O:List Int} {N:Int} {T X P ph:Nat→Nat} {ord:List Int}
structure Fin (B z0 z1:Nat) (wA W:World) (q b1 b2 b3 b4 s lk bm:Nat) (O:List Int) (N:Int) (bx:Value) (T X P:Nat→Nat) (k:Nat):Prop where
 srv:Srv B z0 z1 W s lk bm O N bx T X P (hF k) (oF k)
 q:Blk W q 26 #[.pointer (some ⟨s,0,none⟩)]
 b1:Blk W b1 26 #[.pointer (some ⟨s,0,none⟩)]
 b2:Blk W b2 3 #[.int .i64 0]
 b3:Blk W b3 3 #[.int .i64 (nF k)]
 b4:Blk W b4 3 #[.int .i64 (sF k)]
 fr:Fr (fun k=>B≤k) wA W
theorem Srv.zint {S:Nat→Prop} (h:Srv B z0 z1 w s lk bm O N bx T X P ph ord) (hf:Fr S w w') (hS:∀ k,S k→z0≤k∧k < z1∧∃ cs,Blk w k 3 cs):Srv B z0 z1 w' s lk bm O N bx T X P ph ord:=by
 obtain ⟨tv,ov,h1,h2,h3,hz⟩:=h.blk
 have hB:∀ {g:Nat} {e cs},Blk w g e cs→e≠3→¬ S g:=fun hb he hk=>by
  obtain ⟨_,_,cs',hcs'⟩:=hS _ hk
  exact hb.ne_ hcs' he rfl
 obtain ⟨ml,hml,_⟩:=h.tab.map
 refine ⟨⟨tv,ov,hf.blk h1 (hB h1 (by decide)),h2.fr hf fun g hg hk=>?_,h3.fr hf fun g hg hk=>?_,hz⟩,fun i hi=>?_,h.tab.fr hf (hB h.tab.blk (by decide)) (fun hk=>?_),h.oo,h.nT,h.nX,h.nP,h.ls,h.ll,h.lb,Nat.le_trans h.lB hf.size,h.zs,h.zl,h.zb,h.zT,Nat.le_trans h.zw hf.size,h.z01⟩
 · obtain ⟨cs,hcs⟩:=h2.heap hg
   exact hB hcs (by decide) hk
 · obtain ⟨h5,h6,_⟩:=hS _ hk
   have:=hz g hg
   omega
 · have hj':=h.ss i hi
   obtain ⟨ct',ht'⟩:=hj'.tsk
   obtain ⟨cp',hp'⟩:=hj'.spl
   exact hj'.fr hf (hB ht' (by decide)) (hB hj'.ses (by decide)) (hB hp' (by decide)) fun k hk cs hb=>hB hb (by decide) hk
 · obtain ⟨_,_,cs',hcs'⟩:=hS _ hk
   exact hml.ne_blk hcs' rfl
theorem fin_tab:∀ k,k < 7→(∀ j,j < 2→updP (hF k) (k % 2) j=hF (k + 1) j)∧ordP (oF k) (hF k (k % 2)) ((k % 2:Nat):Int)=oF (k + 1)∧(4≤sF (k + 1) ↔ k=6)∧nF (k + 1)≤2 ∧
 (movB (hF k (k % 2))=true→nF (k + 1)=nF k + 1∧sF (k + 1)=0)∧(movB (hF k (k % 2))=false→nF (k + 1)=nF k∧sF (k + 1)=sF k + 1):=by decide
theorem Srv.turn {Bt:Nat} (h:Srv B z0 z1 w s lk bm O N bx T X P ph ord) (t:Turn Bt w w') (hb:bm < Bt):Srv B z0 z1 w' s lk bm O N bx T X P ph ord :=
 h.fr (t.fr (S:=fun k=>Bt≤k∧∃ o:Obj,w.heap[k]? = some o∧o.isCells=false) fun k h1 h2=>⟨h1,h2⟩) (fun k ⟨_,o,ho,hc⟩ e cs hbk=>by have:=hbk.isCells o ho; rw [this] at hc; cases hc) (fun ⟨h1,_⟩=>by omega)
theorem Fin.turn {Bt k:Nat} {wA W W':World} {q b1 b2 b3 b4:Nat} (h:Fin B z0 z1 wA W q b1 b2 b3 b4 s lk bm O N bx T X P k) (t:Turn Bt W W') (hb:bm < Bt) (hA:wA.heap.size≤Bt):Fin B z0 z1 wA W' q b1 b2 b3 b4 s lk bm O N bx T X P k :=
 ⟨h.srv.turn t hb,t.blk h.q,t.blk h.b1,t.blk h.b2,t.blk h.b3,t.blk h.b4,t.of_fr h.fr hA⟩
theorem finish_two (h:Srv B z0 z1 w s lk bm O N bx T X P (hF 0) (oF 0)) (hT:∀ w',Fr (fun k=>B≤k) w w'→Tabs w') :
 Calls Tryz.prog 13 #[.pointer (some ⟨s,0,none⟩)] w fun e w'=>(∃ v,e=.returned v)∧(∃ z0 z1,Srv B z0 z1 w' s lk bm O N bx T X P (hF 7) (oF 7))∧Fr (fun k=>B≤k) w w':=by
 have HT:=Lib.hid hT
 have H:=Lib.hid h
 clear hT h
 refine (callsIn_wide (n:=6)).1 ?_
 refine callsIn_of_wp_marks Tryz.func13 rfl trivial ?_ rfl
 simp only [Tryz.ntmps13,List.size_toArray,List.length_cons,List.length_nil,Nat.reduceAdd,Nat.reduceSub,Array.replicate_succ,Array.replicate_zero,List.push_toArray,List.append_toArray,List.nil_append,List.cons_append]
 gi_wp2_with (first
  | (refine ⟨trivial,?_⟩; gi_at_call 33
     refine (callsIn_wide.2 (fturns_any s _)).mono ?_
     rintro e w1 ⟨rfl,rfl⟩)
  | fail)
 have h:=H.out
 have nL:New w (((((w.alloc (.cells #[.pointer (some ⟨s,0,none⟩)] 26)).alloc (.cells #[.int .i64 0] 3)).alloc (.cells #[.int .i64 0] 3)).alloc (.cells #[.int .i64 0] 3)).alloc (.cells #[.pointer (some ⟨s,0,none⟩)] 26)):=(((((New.refl w).alloc _).alloc _).alloc _).alloc _).alloc _
 have b1:Blk (((((w.alloc (.cells #[.pointer (some ⟨s,0,none⟩)] 26)).alloc (.cells #[.int .i64 0] 3)).alloc (.cells #[.int .i64 0] 3)).alloc (.cells #[.int .i64 0] 3)).alloc (.cells #[.pointer (some ⟨s,0,none⟩)] 26)) w.heap.size 26 #[.pointer (some ⟨s,0,none⟩)]:=((((Blk.new _ _ _).alloc _).alloc _).alloc _).alloc _
 have b2:Blk (((((w.alloc (.cells #[.pointer (some ⟨s,0,none⟩)] 26)).alloc (.cells #[.int .i64 0] 3)).alloc (.cells #[.int .i64 0] 3)).alloc (.cells #[.int .i64 0] 3)).alloc (.cells #[.pointer (some ⟨s,0,none⟩)] 26)) (w.heap.size + 1) 3 #[.int .i64 0]:=(((Blk.new1 _ _ _ _).alloc _).alloc _).alloc _
 have b3:Blk (((((w.alloc (.cells #[.pointer (some ⟨s,0,none⟩)] 26)).alloc (.cells #[.int .i64 0] 3)).alloc (.cells #[.int .i64 0] 3)).alloc (.cells #[.int .i64 0] 3)).alloc (.cells #[.pointer (some ⟨s,0,none⟩)] 26)) (w.heap.size + 1 + 1) 3 #[.int .i64 0]:=by
  have:=Blk.new1 (w.alloc (.cells #[.pointer (some ⟨s,0,none⟩)] 26)) (.cells #[.int .i64 0] 3) 3 #[.int .i64 0]
  rw [World.size_alloc] at this
  exact (this.alloc _).alloc _
 have b4:Blk (((((w.alloc (.cells #[.pointer (some ⟨s,0,none⟩)] 26)).alloc (.cells #[.int .i64 0] 3)).alloc (.cells #[.int .i64 0] 3)).alloc (.cells #[.int .i64 0] 3)).alloc (.cells #[.pointer (some ⟨s,0,none⟩)] 26)) (w.heap.size + 1 + 1 + 1) 3 #[.int .i64 0]:=by
  have:=Blk.new1 ((w.alloc (.cells #[.pointer (some ⟨s,0,none⟩)] 26)).alloc (.cells #[.int .i64 0] 3)) (.cells #[.int .i64 0] 3) 3 #[.int .i64 0]
  rw [World.size_alloc,World.size_alloc] at this
  exact this.alloc _
 have bq:Blk (((((w.alloc (.cells #[.pointer (some ⟨s,0,none⟩)] 26)).alloc (.cells #[.int .i64 0] 3)).alloc (.cells #[.int .i64 0] 3)).alloc (.cells #[.int .i64 0] 3)).alloc (.cells #[.pointer (some ⟨s,0,none⟩)] 26)) (w.heap.size + 1 + 1 + 1 + 1) 26 #[.pointer (some ⟨s,0,none⟩)]:=by
  have:=Blk.new1 (((w.alloc (.cells #[.pointer (some ⟨s,0,none⟩)] 26)).alloc (.cells #[.int .i64 0] 3)).alloc (.cells #[.int .i64 0] 3)) (.cells #[.int .i64 0] 3) 26 #[.pointer (some ⟨s,0,none⟩)]
  rw [World.size_alloc,World.size_alloc,World.size_alloc] at this
  exact this
 have hszL:(((((w.alloc (.cells #[.pointer (some ⟨s,0,none⟩)] 26)).alloc (.cells #[.int .i64 0] 3)).alloc (.cells #[.int .i64 0] 3)).alloc (.cells #[.int .i64 0] 3)).alloc (.cells #[.pointer (some ⟨s,0,none⟩)] 26)).heap.size=w.heap.size + 5:=by simp only [World.size_alloc]
 generalize (((((w.alloc (.cells #[.pointer (some ⟨s,0,none⟩)] 26)).alloc (.cells #[.int .i64 0] 3)).alloc (.cells #[.int .i64 0] 3)).alloc (.cells #[.int .i64 0] 3)).alloc (.cells #[.pointer (some ⟨s,0,none⟩)] 26))=wL at *
 have hz:=h.zone nL
 have hlB:=h.lB
 obtain ⟨B1,e1⟩:∃ B1,w.heap.size=B1:=⟨_,rfl⟩
 obtain ⟨B2,e2⟩:∃ B2,w.heap.size + 1=B2:=⟨_,rfl⟩
 obtain ⟨B3,e3⟩:∃ B3,w.heap.size + 1 + 1=B3:=⟨_,rfl⟩
 obtain ⟨B4,e4⟩:∃ B4,w.heap.size + 1 + 1 + 1=B4:=⟨_,rfl⟩
 obtain ⟨q,e5⟩:∃ q,w.heap.size + 1 + 1 + 1 + 1=q:=⟨_,rfl⟩
 rw [e5] at bq ⊢
 rw [e4] at b4 ⊢
 rw [e3] at b3 ⊢
 rw [e2] at b2 ⊢
 rw [e1] at b1 ⊢
 have hord:(B≤B1∧B≤w.heap.size)∧w.heap.size≤B1∧B1 < B2∧B2 < B3∧B3 < B4∧B4 < q∧q < wL.heap.size:=by omega
 have HORD:=Lib.hid hord
 clear hord hszL e1 e2 e3 e4 e5
 have F0:Fin B w.heap.size wL.heap.size w wL q B1 B2 B3 B4 s lk bm O N bx T X P 0:=⟨hz,bq,b1,b2,b3,b4,nL.mono fun _ _ h=>h.elim⟩
 clear hz bq b1 b2 b3 b4
 have hbm:bm < wL.heap.size:=by have:=F0.srv.zb; have:=nL.size; omega
 obtain ⟨z0',hz0⟩:∃ z,w.heap.size=z:=⟨_,rfl⟩
 obtain ⟨z1',hz1⟩:∃ z,wL.heap.size=z:=⟨_,rfl⟩
 rw [hz0,hz1] at F0
 have hA:w.heap.size≤wL.heap.size:=nL.size
 have HORD':Hid ((B≤B1∧B≤z0')∧z0'≤B1∧B1 < B2∧B2 < B3∧B3 < B4∧B4 < q∧q < z1'):=Lib.hid (by have:=HORD.out; omega)
 have HZ0:=Lib.hid hz0
 have HZ1:=Lib.hid hz1
 clear hz0 hz1 HORD h
 refine wpIn_rangeFunc_of (α:=Nat) rfl (by decide) (gf:=55) (lb:=#[.pointer (some ⟨q,0,none⟩)]) rfl trivial (enters_of Tryz.func55 (by kernel_rfl) rfl) (encs:=fun x=>#[.int .i64 (x:Int)]) (fun _=>rfl) (S:=fun _=>False) (Sp:=fun _=>True)
  (fun pre W=>pre.length≤6∧Fin B z0' z1' w W q B1 B2 B3 B4 s lk bm O N bx T X P pre.length)
  (fun pre x W=>(pre.length≤6∧Fin B z0' z1' w W q B1 B2 B3 B4 s lk bm O N bx T X P pre.length)∧Hid (x=pre.length % 2))
  (fun c pre W=>c=.ret∧Srv B z0' z1' W s lk bm O N bx T X P (hF 7) (oF 7)∧Blk W B2 3 #[.int .i64 2]∧Fr (fun k=>B≤k) w W)
  (ownFrom_of fun pre W W' h t=>⟨h.1,h.2.turn t hbm hA⟩)
  (fun pre x=>ownFrom_of fun _ W W' h t=>⟨⟨h.1.1,h.1.2.turn t hbm hA⟩,h.2⟩)
  (fun c=>ownFrom_of fun _ W W' h t=>⟨h.1,h.2.1.turn t hbm,t.blk h.2.2.1,t.of_fr h.2.2.2 hA⟩)
  ⟨by simp,F0⟩ ?hseq
  (fun x a' W=>a'={ tmps:=List.toArray (.pointer (some ⟨s,0,none⟩) :: .pointer (some ⟨B1,0,none⟩) :: .pointer (some ⟨B2,0,none⟩) :: .pointer (some ⟨B3,0,none⟩) :: .pointer (some ⟨B4,0,none⟩) :: .int .i64 (x:Int) :: .pointer (some ⟨s,0,none⟩) :: .bool false :: .pointer (some ⟨s,0,none⟩) :: .func (.func 55) #[] #[.pointer (some ⟨q,0,none⟩)] :: .int .i64 (x:Int) :: undef :: undef :: undef :: undef :: undef :: undef :: undef :: undef :: undef :: undef :: undef :: undef :: undef :: undef :: undef :: undef :: undef :: undef :: undef :: undef :: undef :: undef :: undef :: undef :: undef :: []),defers:=[] })
  (fun x a'=>ownFrom_of fun _ W W' h t=>h)
  ?hassign ?hbody (fun _ _ _ _ h=>h.elim) ?hstop
 case hassign =>
  intro l pre x W K hJ hK
  gi_wp2
  exact hK _ _ (keeps_below (S:=fun _=>False) (Fr.refl _ _) (fun _ h=>h.elim)) hJ rfl
 case hbody =>
  rintro l pre x a' W hl hr ⟨⟨hle,F⟩,hx0⟩ rfl
  have hx:=hx0.out
  obtain ⟨k,hk⟩:∃ k,pre.length=k:=⟨_,rfl⟩
  rw [hk] at hle F hx
  have hx2:x < 2:=by omega
  have ho:=HORD'.out
  have hpk:=pick_any F.srv x hx2 (by unfold oF; split <;> simp) (fun w' f=>HT.out _ (F.fr.trans f))
  have c1:W.cell? ⟨B1,0,none⟩=some (.pointer (some ⟨s,0,none⟩)):=F.b1.cell 0
  obtain ⟨r,hr1⟩:∃ r,movB (hF k x)=r:=⟨_,rfl⟩
  rw [hr1] at hpk
  have HP:=Lib.hid hpk
  have HR:=Lib.hid hr1
  have HX:=Lib.hid hx
  have HK:=Lib.hid hk
  have HF:=Lib.hid F
  have HLE:=Lib.hid hle
  have HO:=Lib.hid ho
  clear hpk hr1 hx hx0 hk F hle ho
  obtain ⟨n,hn⟩:∃ n,nF k=n:=⟨_,rfl⟩
  obtain ⟨sk,hs⟩:∃ sk,sF k=sk:=⟨_,rfl⟩
  have hb:(0≤n∧n≤2)∧0≤sk∧sk≤3:=by
   have:=HLE.out
   rw [← hn,← hs]
   unfold nF sF
   repeat' split
   all_goals omega
  obtain ⟨⟨hn0,hn1⟩,hs0,hs1⟩:=hb
  have HN:=Lib.hid hn
  have HSK:=Lib.hid hs
  have b3W:=HF.out.b3
  have b4W:=HF.out.b4
  rw [hn] at b3W
  rw [hs] at b4W
  clear hn hs
  gi_wp2_with (first
   | (refine ⟨trivial,?_⟩; gi_at_call 31
      refine (CallsIn.inRound l (callsIn_wide.2 HP.out)).mono ?_
      rintro e W1 ⟨rfl,S1,f1⟩
      have hO:=HO.out
      have d1:=f1.blk HF.out.b1 (fun hk=>by rcases hk.2 with h | ⟨h,_⟩ <;> omega)
      have d3:=f1.blk b3W (fun hk=>by rcases hk.2 with h | ⟨h,_⟩ <;> omega)
      have d4:=f1.blk b4W (fun hk=>by rcases hk.2 with h | ⟨h,_⟩ <;> omega)
      have g1:W1.cell? ⟨B1,0,none⟩=some (.pointer (some ⟨s,0,none⟩)):=d1.cell 0
      have g3:W1.cell? ⟨B3,0,none⟩=some (.int .i64 n):=d3.cell 0
      have g4:W1.cell? ⟨B4,0,none⟩=some (.int .i64 sk):=d4.cell 0
      have z3:=d3.frozen 0
      have z4:=d4.frozen 0
      have z5:∀ u,(W1.setCell ⟨B3,0,none⟩ u).frozen? ⟨B4,0,none⟩=false:=fun u=>(d4.far (p:=⟨B3,0,none⟩) (by show B4≠B3; omega) u).frozen 0
      have g5:∀ u,(W1.setCell ⟨B3,0,none⟩ u).cell? ⟨B4,0,none⟩=some (.int .i64 sk):=fun u=>(d4.far (p:=⟨B3,0,none⟩) (by show B4≠B3; omega) u).cell 0
      have D1:=Lib.hid d1
      have D2:=Lib.hid (f1.blk HF.out.b2 (fun hk=>by rcases hk.2 with h | ⟨h,_⟩ <;> omega))
      have DQ:=Lib.hid (f1.blk HF.out.q (fun hk=>by rcases hk.2 with h | ⟨h,_⟩ <;> omega))
      have S1':=Lib.hid S1
      have f1':=Lib.hid f1
      have D3:=Lib.hid d3
      have D4:=Lib.hid d4
      clear S1 f1 hO d1 d3 d4
      cases r)
   | fail)
  · -- none was
    have hO:=HO.out
    have vs:=S1'.out.zint (S:=fun k=>k=B4) ((One.refl B4 W1).set 0 (.int .i64 (sk + 1))) (fun k e=>by subst e; exact ⟨by omega,by omega,_,D4.out⟩)
    have vb1:=D1.out.far (p:=⟨B4,0,none⟩) (by show B1≠B4; omega) (.int .i64 (sk + 1))
    have vb2:=D2.out.far (p:=⟨B4,0,none⟩) (by show B2≠B4; omega) (.int .i64 (sk + 1))
    have vb3:=D3.out.far (p:=⟨B4,0,none⟩) (by show B3≠B4; omega) (.int .i64 (sk + 1))
    have vq:=DQ.out.far (p:=⟨B4,0,none⟩) (by show q≠B4; omega) (.int .i64 (sk + 1))
    have vb4:=D4.out.set_ 0 (.int .i64 (sk + 1))
    have FV:Fr (fun k=>Zn B z0' z1' W k∨k=B3∨k=B4) W (W1.setCell ⟨B4,0,none⟩ (.int .i64 (sk + 1))):=(f1'.out.mono fun _ _ h=>.inl h).trans (((One.refl B4 W1).set 0 (.int .i64 (sk + 1))).mono fun _ _ h=>.inr (.inr h))
    have VS:Srv B z0' z1' (W1.setCell ⟨B4,0,none⟩ (.int .i64 (sk + 1))) s lk bm O N bx T X P (updP (hF k) x) (ordP (oF k) (hF k x) x):=vs
    have htab:=fin_tab k (by have:=HLE.out; omega)
    rw [← HX.out,HN.out,HSK.out] at htab
    have hn':=htab.2.2.2.2.2 HR.out
    clear g1 g3 g4 z3 z4 z5 g5 vs
    generalize (W1.setCell ⟨B4,0,none⟩ (.int .i64 (sk + 1)))=V at *
    obtain ⟨n',dn⟩:∃ n',n=n':=⟨_,rfl⟩
    obtain ⟨sk',dsk⟩:∃ sk',sk + 1=sk':=⟨_,rfl⟩
    rw [dn] at hn' vb3
    rw [dsk] at hn' vb4
    have HN':=Lib.hid hn'
    have HT':=Lib.hid htab
    clear hn' htab
    obtain ⟨tv,ov,hb,ht,ho',_⟩:=VS.blk
    obtain ⟨A,c,rfl,_⟩:=ht.form
    have v1:V.cell? ⟨B1,0,none⟩=some (.pointer (some ⟨s,0,none⟩)):=vb1.cell 0
    have v3:V.cell? ⟨B3,0,none⟩=some (.int .i64 n'):=vb3.cell 0
    have v4:V.cell? ⟨B4,0,none⟩=some (.int .i64 sk'):=vb4.cell 0
    have v5:V.cell? ⟨s,2,none⟩=some (.slice A 2 c):=hb.cell 2
    have v6:V.cell? ⟨s,4,none⟩=some (.int .i64 16):=hb.cell 4
    have hn2:n'≤2:=by rw [← HN'.out.1]; exact HT'.out.2.2.2.1
    have dB:decide ((16:Int) < n')=false:=decide_eq_false (by omega)
    have hw:IntKind.i64.wrap ((2:Int) * 2)=4:=by decide
    have hw4:IntKind.i64.wrap (4:Int)=4:=by decide
    have VS':=Lib.hid VS
    have F':=HF.out.fr
    have HIF:=HT'.out.2.2.1
    rw [HN'.out.2] at HIF
    have HIF':=Lib.hid HIF
    have GV:=Lib.hid FV
    have GF:=Lib.hid F'
    clear VS hb ht ho' HIF FV F'
    by_cases hst:4≤sk'
    · have dA:decide ((4:Int)≤sk')=true:=decide_eq_true hst
      refine wpIn_region_quiet_lit_round rfl (by kernel_rfl) (by kernel_rfl) (by kernel_rfl) ?_
      repeat (gi_big_quiet_step (fail))
      refine wpQuietIn_nil ?_
      rintro _ ⟨nq,rfl⟩
      have vn:=vb2.drewN nq
      have zn:(V.drewN nq).frozen? ⟨B2,0,none⟩=false:=vn.frozen 0
      have zc:(V.drewN nq).cell? ⟨B2,0,none⟩=some (.int .i64 0):=vn.cell 0
      have zd:(V.drewN nq).cell? ⟨B3,0,none⟩=some (.int .i64 n'):=v3
      gi_wp2
      have hk6:k=6:=HIF'.out.1 hst
      have hO2:=HO.out
      have hz1:=HZ1.out
      have FW:Fr (fun j=>Zn B z0' z1' W j∨j=B3∨j=B4∨j=B2) W ((V.drewN nq).setCell ⟨B2,0,none⟩ (.int .i64 n')) :=
       Fr.setCell ((GV.out.drewN nq).mono fun _ _ h=>by rcases h with h | h | h; exact .inl h; exact .inr (.inl h); exact .inr (.inr (.inl h))) (p:=⟨B2,0,none⟩) (fun _=>.inr (.inr (.inr rfl))) _
      refine ⟨keeps_fr FW (fun j hj hS o ho=>?_),rfl,?_,?_,GF.out.trans (FW.mono fun j _ hS=>?_)⟩
      · rcases hS with ⟨_,h | ⟨_,cs,hcs⟩⟩ | h | h | h
        · omega
        · exact hcs.isCells o ho
        all_goals omega
      · have e1:=HT'.out.1
        have e2:=HT'.out.2.1
        rw [hk6] at e1 e2
        have:=(VS'.out.new ((New.refl V).drewN nq)).zint (S:=fun k=>k=B2) ((One.refl B2 (V.drewN nq)).set 0 (.int .i64 n')) (fun k e=>by subst e; exact ⟨by omega,by omega,_,vn⟩)
        rw [hk6,e2] at this
        exact this.congr e1
      · have hn7:=HN'.out.1
        rw [hk6] at hn7
        have e7:nF (6 + 1)=2:=rfl
        rw [e7] at hn7
        have:=vn.set_ 0 (.int .i64 n')
        rw [← hn7] at this
        rw [← hn7]
        exact this
      · rcases hS with h | h | h | h
        · exact h.1
        all_goals omega
    · have dA:decide ((4:Int)≤sk')=false:=decide_eq_false hst
      refine wpIn_region_quiet_lit_round rfl (by kernel_rfl) (by kernel_rfl) (by kernel_rfl) ?_
      repeat (gi_big_quiet_step (fail))
      refine wpQuietIn_nil ?_
      rintro _ ⟨nq,rfl⟩
      gi_wp2
      have hk6:¬ k=6:=fun h=>by have:=HIF'.out.2 h; omega
      have hO2:=HO.out
      have hz1:=HZ1.out
      have hle:=HLE.out
      have hlen:(pre ++ [x]).length=k + 1:=by rw [List.length_append,HK.out]; rfl
      have FW:=GV.out.drewN nq
      refine ⟨keeps_fr FW (fun j hj hS o ho=>?_),by rw [hlen]; omega,?_⟩
      · rcases hS with ⟨_,h | ⟨_,cs,hcs⟩⟩ | h | h
        · omega
        · exact hcs.isCells o ho
        all_goals omega
      · rw [hlen]
        have e1:=HT'.out.1
        have e2:=HT'.out.2.1
        have hs1:=VS'.out.new ((New.refl V).drewN nq)
        rw [e2] at hs1
        refine ⟨hs1.congr e1,vq.drewN nq,vb1.drewN nq,vb2.drewN nq,?_,?_,GF.out.trans (FW.mono fun j _ hS=>?_)⟩
        · rw [HN'.out.1]; exact vb3.drewN nq
        · rw [HN'.out.2]; exact vb4.drewN nq
        · rcases hS with h | h | h
          · exact h.1
          all_goals omega
  · -- a step was
    have hO:=HO.out
    have One3:=(One.refl B3 W1).set 0 (.int .i64 (n + 1))
    have vs1:=S1'.out.zint (S:=fun k=>k=B3) One3 (fun k e=>by subst e; exact ⟨by omega,by omega,_,D3.out⟩)
    have u1:=D1.out.far (p:=⟨B3,0,none⟩) (by show B1≠B3; omega) (.int .i64 (n + 1))
    have u2:=D2.out.far (p:=⟨B3,0,none⟩) (by show B2≠B3; omega) (.int .i64 (n + 1))
    have u3:=D3.out.set_ 0 (.int .i64 (n + 1))
    have u4:=D4.out.far (p:=⟨B3,0,none⟩) (by show B4≠B3; omega) (.int .i64 (n + 1))
    have uq:=DQ.out.far (p:=⟨B3,0,none⟩) (by show q≠B3; omega) (.int .i64 (n + 1))
    have FU:Fr (fun k=>Zn B z0' z1' W k∨k=B3∨k=B4) W (W1.setCell ⟨B3,0,none⟩ (.int .i64 (n + 1))):=(f1'.out.mono fun _ _ h=>.inl h).trans (One3.mono fun _ _ h=>.inr (.inl h))
    generalize (W1.setCell ⟨B3,0,none⟩ (.int .i64 (n + 1)))=U at *
    have vs:=vs1.zint (S:=fun k=>k=B4) ((One.refl B4 U).set 0 (.int .i64 0)) (fun k e=>by subst e; exact ⟨by omega,by omega,_,u4⟩)
    have vb1:=u1.far (p:=⟨B4,0,none⟩) (by show B1≠B4; omega) (.int .i64 0)
    have vb2:=u2.far (p:=⟨B4,0,none⟩) (by show B2≠B4; omega) (.int .i64 0)
    have vb3:=u3.far (p:=⟨B4,0,none⟩) (by show B3≠B4; omega) (.int .i64 0)
    have vq:=uq.far (p:=⟨B4,0,none⟩) (by show q≠B4; omega) (.int .i64 0)
    have vb4:=u4.set_ 0 (.int .i64 0)
    have FV:Fr (fun k=>Zn B z0' z1' W k∨k=B3∨k=B4) W (U.setCell ⟨B4,0,none⟩ (.int .i64 0)):=FU.trans (((One.refl B4 U).set 0 (.int .i64 0)).mono fun _ _ h=>.inr (.inr h))
    have VS:Srv B z0' z1' (U.setCell ⟨B4,0,none⟩ (.int .i64 0)) s lk bm O N bx T X P (updP (hF k) x) (ordP (oF k) (hF k x) x):=vs
    have htab:=fin_tab k (by have:=HLE.out; omega)
    rw [← HX.out,HN.out,HSK.out] at htab
    have hn':=htab.2.2.2.2.1 HR.out
    clear g1 g3 g4 z3 z4 z5 g5 vs vs1 u1 u2 u3 u4 uq FU One3
    generalize (U.setCell ⟨B4,0,none⟩ (.int .i64 0))=V at *
    obtain ⟨n',dn⟩:∃ n',n + 1=n':=⟨_,rfl⟩
    obtain ⟨sk',dsk⟩:∃ sk':Int,0=sk':=⟨_,rfl⟩
    rw [dn] at hn'
    rw [dsk] at hn'
    have vb3':Blk V B3 3 #[.int .i64 n']:=by rw [← dn]; exact vb3
    have vb4':Blk V B4 3 #[.int .i64 sk']:=by rw [← dsk]; exact vb4
    clear vb3 vb4
    have vb3:=vb3'
    have vb4:=vb4'
    have HN':=Lib.hid hn'
    have HT':=Lib.hid htab
    clear hn' htab vb3' vb4' dsk
    obtain ⟨tv,ov,hb,ht,ho',_⟩:=VS.blk
    obtain ⟨A,c,rfl,_⟩:=ht.form
    have v1:V.cell? ⟨B1,0,none⟩=some (.pointer (some ⟨s,0,none⟩)):=vb1.cell 0
    have v3:V.cell? ⟨B3,0,none⟩=some (.int .i64 n'):=vb3.cell 0
    have v4:V.cell? ⟨B4,0,none⟩=some (.int .i64 sk'):=vb4.cell 0
    have v5:V.cell? ⟨s,2,none⟩=some (.slice A 2 c):=hb.cell 2
    have v6:V.cell? ⟨s,4,none⟩=some (.int .i64 16):=hb.cell 4
    have hn2:n'≤2:=by rw [← HN'.out.1]; exact HT'.out.2.2.2.1
    have dB:decide ((16:Int) < n')=false:=decide_eq_false (by omega)
    have hw:IntKind.i64.wrap ((2:Int) * 2)=4:=by decide
    have hw4:IntKind.i64.wrap (4:Int)=4:=by decide
    have VS':=Lib.hid VS
    have F':=HF.out.fr
    have HIF:=HT'.out.2.2.1
    rw [HN'.out.2] at HIF
    have HIF':=Lib.hid HIF
    have GV:=Lib.hid FV
    have GF:=Lib.hid F'
    clear VS hb ht ho' HIF FV F'
    by_cases hst:4≤sk'
    · have dA:decide ((4:Int)≤sk')=true:=decide_eq_true hst
      refine wpIn_region_quiet_lit_round rfl (by kernel_rfl) (by kernel_rfl) (by kernel_rfl) ?_
      repeat (gi_big_quiet_step (fail))
      refine wpQuietIn_nil ?_
      rintro _ ⟨nq,rfl⟩
      have vn:=vb2.drewN nq
      have zn:(V.drewN nq).frozen? ⟨B2,0,none⟩=false:=vn.frozen 0
      have zc:(V.drewN nq).cell? ⟨B2,0,none⟩=some (.int .i64 0):=vn.cell 0
      have zd:(V.drewN nq).cell? ⟨B3,0,none⟩=some (.int .i64 n'):=v3
      gi_wp2
      have hk6:k=6:=HIF'.out.1 hst
      have hO2:=HO.out
      have hz1:=HZ1.out
      have FW:Fr (fun j=>Zn B z0' z1' W j∨j=B3∨j=B4∨j=B2) W ((V.drewN nq).setCell ⟨B2,0,none⟩ (.int .i64 n')) :=
       Fr.setCell ((GV.out.drewN nq).mono fun _ _ h=>by rcases h with h | h | h; exact .inl h; exact .inr (.inl h); exact .inr (.inr (.inl h))) (p:=⟨B2,0,none⟩) (fun _=>.inr (.inr (.inr rfl))) _
      refine ⟨keeps_fr FW (fun j hj hS o ho=>?_),rfl,?_,?_,GF.out.trans (FW.mono fun j _ hS=>?_)⟩
      · rcases hS with ⟨_,h | ⟨_,cs,hcs⟩⟩ | h | h | h
        · omega
        · exact hcs.isCells o ho
        all_goals omega
      · have e1:=HT'.out.1
        have e2:=HT'.out.2.1
        rw [hk6] at e1 e2
        have:=(VS'.out.new ((New.refl V).drewN nq)).zint (S:=fun k=>k=B2) ((One.refl B2 (V.drewN nq)).set 0 (.int .i64 n')) (fun k e=>by subst e; exact ⟨by omega,by omega,_,vn⟩)
        rw [hk6,e2] at this
        exact this.congr e1
      · have hn7:=HN'.out.1
        rw [hk6] at hn7
        have e7:nF (6 + 1)=2:=rfl
        rw [e7] at hn7
        have:=vn.set_ 0 (.int .i64 n')
        rw [← hn7] at this
        rw [← hn7]
        exact this
      · rcases hS with h | h | h | h
        · exact h.1
        all_goals omega
    · have dA:decide ((4:Int)≤sk')=false:=decide_eq_false hst
      refine wpIn_region_quiet_lit_round rfl (by kernel_rfl) (by kernel_rfl) (by kernel_rfl) ?_
      repeat (gi_big_quiet_step (fail))
      refine wpQuietIn_nil ?_
      rintro _ ⟨nq,rfl⟩
      gi_wp2
      have hk6:¬ k=6:=fun h=>by have:=HIF'.out.2 h; omega
      have hO2:=HO.out
      have hz1:=HZ1.out
      have hle:=HLE.out
      have hlen:(pre ++ [x]).length=k + 1:=by rw [List.length_append,HK.out]; rfl
      have FW:=GV.out.drewN nq
      refine ⟨keeps_fr FW (fun j hj hS o ho=>?_),by rw [hlen]; omega,?_⟩
      · rcases hS with ⟨_,h | ⟨_,cs,hcs⟩⟩ | h | h
        · omega
        · exact hcs.isCells o ho
        all_goals omega
      · rw [hlen]
        have e1:=HT'.out.1
        have e2:=HT'.out.2.1
        have hs1:=VS'.out.new ((New.refl V).drewN nq)
        rw [e2] at hs1
        refine ⟨hs1.congr e1,vq.drewN nq,vb1.drewN nq,vb2.drewN nq,?_,?_,GF.out.trans (FW.mono fun j _ hS=>?_)⟩
        · rw [HN'.out.1]; exact vb3.drewN nq
        · rw [HN'.out.2]; exact vb4.drewN nq
        · rcases hS with h | h | h
          · exact h.1
          all_goals omega
 case hstop =>
  rintro D c pre W hD _ ⟨rfl,S7,h2,hf⟩ hK
  have FD:Fr (fun k=>D=k) W (W.putObj D (.deferred none)):=Fr.of_grown (S:=fun k=>D=k) (grownBy_putObj' _ D _) fun i hi=>by injection hi
  have h2':=FD.blk h2 (fun e=>by subst e; unfold Blk at h2; rw [h2] at hK; cases hK)
  have S7':Srv B z0' z1' (W.putObj D (.deferred none)) s lk bm O N bx T X P (hF 7) (oF 7):=S7.fr FD (fun j e g cs hb=>by subst e; unfold Blk at hb; rw [hb] at hK; cases hK) (fun e=>by have:=nL.size; omega)
  gi_wp2
  refine ⟨by simp,.inl ⟨_,_,rfl,run_takeDeferred hK,?_⟩⟩
  exact ⟨_,results_cell1 rfl _ _ rfl (run_loadVar_one Tryz.underlying3 rfl (h2'.cell 0)),⟨_,rfl⟩,⟨_,_,S7'⟩,hf.trans (FD.mono fun j _ e=>by omega)⟩
 case hseq =>
  intro l K Kx W1 hB hKm hKxm k1 i1 hround
  refine (turns1_seq q s 2 6 (by omega) (by omega) (I:=fun pre W=>pre.length≤6∧Fin B z0' z1' w W q B1 B2 B3 B4 s lk bm O N bx T X P pre.length) (Ix:=fun c pre W=>c=.ret∧Srv B z0' z1' W s lk bm O N bx T X P (hF 7) (oF 7)∧Blk W B2 3 #[.int .i64 2]∧Fr (fun k=>B≤k) w W) l W1 k1 i1 (fun pre W h=>⟨h.2.q.cell 0,?_⟩) (fun pre W h=>h.1) (fun pre x W hI hx hk=>hround pre x W ⟨hI,Lib.hid hx⟩ hk)).mono ?_
  · obtain ⟨tv,ov,hb,ht,ho,_⟩:=h.2.srv.blk
    obtain ⟨A,c,rfl,hc⟩:=ht.form
    exact ⟨A,c,hb.cell 2⟩
  · rintro e W' ⟨hv,pre,c,h1,h2⟩
    exact ⟨hv,.inr ⟨pre,c,trivial,h1,h2⟩⟩
end
end Go.Proofs.YtliimglbbiebiaaGreatDoor
end

section
namespace Go.Proofs.YtliimglbbiebiaaGreatDoor
open Go.RowKit Go.Maps
theorem tstripes_any {base:Nat} {w:World} {T:Tb} {X:List MB} (h:TBX base w T X):Calls Tryz.prog 78 #[.pointer (some ⟨T.tb,0,none⟩)] w fun e w'=>e=.returned (.int .i64 T.n)∧w'=w:=by
 have c0:=h.hd.cell 0
 go_enter Tryz.func78,Tryz.ntmps78
 go_wp2
 go_ret
 exact ⟨rfl,rfl⟩
end Go.Proofs.YtliimglbbiebiaaGreatDoor
end

section
namespace Go.Proofs.YtliimglbbiebiaaGreatDoor
open Go.RowKit
section
variable {w0 w:World} {base:Nat} {S:Sx} {Q:Qs} {M:List Msg} {n t f:Int}
theorem sstripes_any (h:STX w0 base w S Q M n t f):Calls Tryz.prog 49 #[.pointer (some ⟨S.s,0,none⟩)] w fun e w'=>e=.returned (.int .i64 S.T.n)∧w'=w:=by
 obtain ⟨X,hX,hT⟩:=h.tbl
 have c0:w.cell? ⟨S.s,0,none⟩=some (.pointer (some ⟨S.T.tb,0,none⟩)):=h.hd.cell 0
 have HC:=Lib.hid (tstripes_any hT)
 clear hT
 go_enter Tryz.func49,Tryz.ntmps49
 go_wp2_with (go_at_call 78; refine HC.out.mono ?_; rintro e w1 ⟨rfl,rfl⟩)
 go_ret
 exact ⟨rfl,rfl⟩
end
theorem loadLay {w:World} {g:Nat} {a b:Value} (h:Blk w g 65 #[a,b]):(loadVar 65 ⟨g,0,none⟩).run Tryz.prog w=.ok (.agg #[a,b]) w :=
 run_loadVar_row w g _ _ _ _ _ h Tryz.underlying65 rfl (by kernel_rfl)
theorem results_tct {P:Program} {fn:Func} {p q r:Tmp} {t:TypeId} (h:fn.results=#[.tmp p,.cell q t,.tmp r]) (tmps:Array Value) (w:World) {a:Addr} {u v v':Value}
 (hp:tmps[p]? = some u) (hq:tmps[q]? = some (.pointer (some a))) (hr:tmps[r]? = some v') (hv:(loadVar t a).run P w=.ok v w) :
 (results fn tmps).run P w=.ok (.tuple #[u,v,v']) w:=by
 simp [results,h,hp,hq,hr,asAddr,hv]
theorem mailbox_any (k:Nat) (k0:0 < k) (k1:k≤16) (cap:Int) (c0:0≤cap) (c1:cap≤4096) (next:Int) (n0:0≤next) (n1:next≤4294967295) (c:Int) (d0:1≤c) (d1:c≤16) (w:World) :
 Calls Tryz.prog 25 #[.agg #[.int .i64 k,.int .i64 cap,.int .u32 next],.int .i64 c] w fun e w'=>∃ S base,e=.returned (.tuple #[.pointer (some ⟨S.s,0,none⟩),.agg #[.int .i64 k,.int .i64 c],.bool true])∧w.heap.size≤S.s∧S.cap=cap∧S.T.n=k∧STX w base w' S Qs.none [] (max next 1) 0 (max next 1):=by
 have hd1:decide ((1:Int)≤c)=true:=decide_eq_true d0
 have hd2:decide (c≤(16:Int))=true:=decide_eq_true d1
 have HN:=Lib.hid (fun W=>snew_any k k0 k1 cap c0 c1 next n0 n1 W)
 go_enter Tryz.func25,Tryz.ntmps25
 go_wp2_with fail
 refine (HN.out _).mono ?_
 rintro e w1 ⟨S,base,rfl,hcap,hk,hS⟩
 have m1:=hS.new
 have g0:=m1.blk ((Blk.new w 30 #[.int .i64 k,.int .i64 cap,.int .u32 next]).alloc (.cells #[.int .i64 0,.int .i64 0] 65))
 have g1:=m1.blk (Blk.new1 w (.cells #[.int .i64 k,.int .i64 cap,.int .u32 next] 30) 65 #[.int .i64 0,.int .i64 0])
 have k0':w1.cell? ⟨w.heap.size,0,none⟩=some (.int .i64 k):=g0.cell 0
 have k1':w1.cell? ⟨w.heap.size,1,none⟩=some (.int .i64 cap):=g0.cell 1
 have k2':w1.cell? ⟨w.heap.size,2,none⟩=some (.int .u32 next):=g0.cell 2
 have p0:w1.cell? ⟨w.heap.size + 1,0,none⟩=some (.int .i64 0):=g1.cell 0
 have p1:w1.cell? ⟨w.heap.size + 1,1,none⟩=some (.int .i64 0):=g1.cell 1
 have f0:=g1.frozen 0
 have f1:=g1.frozen 1
 have HS:=Lib.hid hS
 have HCAP:=Lib.hid hcap
 have HK:=Lib.hid hk
 have M1:=Lib.hid m1
 have lo:=hS.lo S.s (.inr (.inl rfl))
 clear hS hcap hk m1
 go_wp2_with fail
 go_region
 go_wp2
 have hsz:((w.alloc (.cells #[.int .i64 k,.int .i64 cap,.int .u32 next] 30)).alloc (.cells #[.int .i64 0,.int .i64 0] 65)).heap.size=w.heap.size + 2:=by simp only [World.size_alloc]
 rw [hsz] at lo
 have h:=HS.out
 have h0:STX w base w1 S Qs.none [] (max next 1) 0 (max next 1):={ h with
  lo:=fun k hk=>by have:=h.lo k hk; rw [hsz] at this; omega
  new:=(((New.refl w).alloc _).alloc _).trans h.new }
 refine bodyPost_ret (results_tct rfl _ _ rfl rfl rfl (loadLay ((g1.over2 (.int .i64 k) (.int .i64 c)).drew))) rfl ⟨S,base,rfl,by omega,HCAP.out,HK.out,?_⟩
 refine h0.keep (R:=fun j=>j=w.heap.size + 1) (((One.refl (w.heap.size + 1) w1).set 0 _).set 1 _).drew (fun j hj e=>?_) (fun v l ho b hb e=>?_) (fun j e=>by omega)
 · have:=h.lo j hj
   rw [hsz] at this
   omega
 · exact ho.blk_ne g1 (by decide) (by rw [← e]; exact hb)
end Go.Proofs.YtliimglbbiebiaaGreatDoor
end

section
namespace Go.Proofs.YtliimglbbiebiaaGreatDoor
open Go.RowKit
abbrev cfgV:Value:=.agg #[.int .i64 2,.int .i64 5,.int .u32 1]
theorem mailbox_two (w:World):Calls Tryz.prog 25 #[cfgV,.int .i64 2] w fun e w'=>∃ S base,e=.returned (.tuple #[.pointer (some ⟨S.s,0,none⟩),.agg #[.int .i64 2,.int .i64 2],.bool true])∧w.heap.size≤S.s∧S.cap=5∧S.T.n=2∧STX w base w' S Qs.none [] 1 0 1 :=
 mailbox_any 2 (by omega) (by omega) 5 (by omega) (by omega) 1 (by omega) (by omega) 2 (by omega) (by omega) w
structure Two (w:World) (sb g0 o0 c0 g1 o1 c1:Nat):Prop where
 row:Blk w sb 23 #[.slice (some ⟨g0,o0,none⟩) 8 c0,.slice (some ⟨g1,o1,none⟩) 8 c1]
 b0:Bts w g0 o0 (wholeL 97)
 b1:Bts w g1 o1 (wholeL 98)
 h0:8≤c0
 h1:8≤c1
theorem Two.new {w w':World} {sb g0 o0 c0 g1 o1 c1:Nat} (h:Two w sb g0 o0 c0 g1 o1 c1) (hf:New w w'):Two w' sb g0 o0 c0 g1 o1 c1:=⟨hf.blk h.row,h.b0.new hf,h.b1.new hf,h.h0,h.h1⟩
section
variable {w:World} {sb g0 o0 c0 g1 o1 c1:Nat}
theorem bound_two (h:Two w sb g0 o0 c0 g1 o1 c1) (hT:Tabs w) :
 Calls Tryz.prog 28 #[cfgV,.slice (some ⟨sb,0,none⟩) 2 2] w fun e w'=>e=.returned (.int .i64 16)∧New w w':=by
 have H:=Lib.hid h
 have HT:=Lib.hid hT
 clear h hT
 go_enter Tryz.func28,Tryz.ntmps28
 go_wp2_with fail
 refine (mailbox_two _).mono ?_
 rintro e w1 ⟨S,base,rfl,_,_,_,hS⟩
 have m1:=hS.new
 clear hS
 go_wp2_with fail
 have n2:New w (w1.alloc (.cells #[.int .i64 2,.int .i64 2] 65)):=(((New.refl w).alloc _).trans m1).alloc _
 have g2:=Blk.new w1 65 #[.int .i64 2,.int .i64 2]
 generalize (w1.alloc (.cells #[.int .i64 2,.int .i64 2] 65))=w2 at *
 generalize w1.heap.size=L at *
 clear m1
 have h2:=H.out.new n2
 have r0:w2.cell? ⟨sb,0,none⟩=some (.slice (some ⟨g0,o0,none⟩) 8 c0):=h2.row.cell 0
 refine wp_loop_rounds 3 ?_
 rw [rounds_succ]
 go_wp2_with fail
 refine (split_line g0 o0 c0 97 (.inl rfl) h2.h0 w2 (HT.out.new n2) h2.b0).mono ?_
 rintro e w3 ⟨⟨A3,C3,rfl⟩,m3⟩
 have n3:=n2.trans m3
 have g3:=m3.blk g2
 obtain ⟨k0,k1⟩:=g3.all2
 go_wp2_with fail
 refine (count_any 2 2 (by omega) (by omega) (by omega) (by omega) w3).mono ?_
 rintro e w4 ⟨rfl,m4⟩
 have n4:=n3.trans m4
 have g4:=m4.blk g3
 have h4:=H.out.new n4
 clear r0 k0 k1
 have r1:w4.cell? ⟨sb,1,none⟩=some (.slice (some ⟨g1,o1,none⟩) 8 c1):=h4.row.cell 1
 go_wp2_with fail
 rw [rounds_succ]
 go_wp2_with fail
 refine (split_line g1 o1 c1 98 (.inr rfl) h4.h1 w4 (HT.out.new n4) h4.b1).mono ?_
 rintro e w5 ⟨⟨A5,C5,rfl⟩,m5⟩
 have n5:=n4.trans m5
 have g5:=m5.blk g4
 clear r1
 obtain ⟨k0,k1⟩:=g5.all2
 go_wp2_with fail
 refine (count_any 2 2 (by omega) (by omega) (by omega) (by omega) w5).mono ?_
 rintro e w6 ⟨rfl,m6⟩
 have n6:=n5.trans m6
 clear k0 k1
 go_wp2_with fail
 rw [rounds_succ]
 go_wp2
 go_ret
 exact ⟨rfl,n6⟩
end
end Go.Proofs.YtliimglbbiebiaaGreatDoor
end

