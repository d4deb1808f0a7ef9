import Derived.Test.YtliimglbbiebiaaGreatDoorGTopTime0
set_option maxRecDepth 100000
set_option maxHeartbeats 6400000
set_option linter.all false
namespace Go.Proofs.YtliimglbbiebiaaGreatDoor
open Go.Proofs.Tryz Go.RowKit Go.Maps
def Bk(D l:Nat) (r:Loop) (w:World):Prop:=w.heap[l]? =some (.loop r)/\w.heap[D]? =some (.deferred (some []))
theorem Bk.du {B D l:Nat}{r:Loop}{w w':World}(h:Bk D l r w) (hD:B<=D) (hl:B<=l) (k:KeepsFrom B w w'):Bk D l r w':=
 ⟨k.same l _ hl h.1 rfl,k.same D _ hD h.2 rfl⟩
theorem Bk.lt {D l:Nat}{r:Loop}{w:World}(h:Bk D l r w):l<w.heap.size:=(Array.getElem?_eq_some_iff.1 h.1).1
theorem Bk.put {D l:Nat}{r:Loop}{w:World}(h:Bk D l r w) (bV:D≠l) (r':Loop):Bk D l r' (w.putObj l (.loop r')):=
 ⟨World.putObj_heap_same h.lt,(an bV).trans h.2⟩
def Pf{α:Type}(B:Nat) (I:List α->World->Prop) (Ix:Code->List α->World->Prop) (xs:List α) (W:World):Exit->Act->World->Prop
 | .normal,_,W'=>KeepsFrom B W W'/\I xs W'
 | .ret,_,W'=>KeepsFrom B W W'/\Ix .ret xs W'
 | .exit i,_,W'=>KeepsFrom B W W'/\Ix (.exit i) xs W'
 | .goto t,_,W'=>KeepsFrom B W W'/\Ix (.goto t) xs W'
 | .panic _,_,_=>False
 | .outgrown,_,_=>False
def T9{α:Type}(D l:Nat) (rec:LoopState->Option Code->Loop) (I:List α->World->Prop) (Ix:Code->List α->World->Prop) (xs:List α) (e:Ending) (W:World):Prop:=
 (e=.returned (R_ true)/\I xs W/\Bk D l (rec .ready none) W)\/(e=.returned (R_ false)/\∃c,Ix c xs W/\Bk D l (rec .done (some c)) W)
section
variable{F:Fence}{n:Nat}{P:Program}{α:Type}
theorem AO{B D l:Nat}{rec:LoopState->Option Code->Loop}(YD:∀s p s' p',{rec s p with state:=s',pending:=p'}=rec s' p') {I:List α->World->Prop}{Ix:Code->List α->World->Prop}
 (hI:OwnFrom B I) (hIx:∀c,OwnFrom B (Ix c)) (hD:B<=D) (hl:B<=l) (bV:D≠l) {xs:List α}{W W3:World}{e:Exit}{a3:Act}
 (hb:Bk D l (rec .busy none) W) (h:Pf B I Ix xs W e a3 W3):roundPost P l (T9 D l rec I Ix xs) e a3 W3:=by
 have fin:∀jump:Option Code,KeepsFrom B W W3->∃W4,(Instr.endRound l jump).run P W3=.ok (R_ jump.isNone) W4/\Bk D l (rec (if jump.isNone then .ready else .done) jump) W4/\
  W4=W3.putObj l (.loop (rec (if jump.isNone then .ready else .done) jump))/\W3.heap[l]? =some (.loop (rec .busy none)):=by
  intro jump k;have b3:=hb.du hD hl k;have run:=run_endRound (P:=P) jump b3.1;rw [YD]at run;exact⟨_,run,b3.put bV _,rfl,b3.1⟩
 cases e with
 |panic c=>exact h.elim
 |outgrown=>exact h.elim
 |normal=>
  obtain⟨W4,run,b4,rfl,h3⟩:=fin none h.1;exact⟨_,_,run,.inl ⟨rfl,hI.putObj _ h.2 hl h3 rfl,b4⟩⟩
 |ret=>
  obtain⟨W4,run,b4,rfl,h3⟩:=fin (some .ret) h.1;exact⟨_,_,run,.inr ⟨rfl,_,(hIx _).putObj _ h.2 hl h3 rfl,b4⟩⟩
 |exit i=>
  obtain⟨W4,run,b4,rfl,h3⟩:=fin (some (.exit i)) h.1;exact⟨_,_,run,.inr ⟨rfl,_,(hIx _).putObj _ h.2 hl h3 rfl,b4⟩⟩
 |goto t=>
  obtain⟨W4,run,b4,rfl,h3⟩:=fin (some (.goto t)) h.1;exact⟨_,_,run,.inr ⟨rfl,_,(hIx _).putObj _ h.2 hl h3 rfl,b4⟩⟩
theorem fp{g:Operand}{ps:Array Tmp}{assign body:Code}{Q:Exit->Act->World->Prop}{a:Act}{w:World}
 (JW:F.round=none) (h1:1<=n) {gf:Nat}{lb:Array Value}(hg:a.eval g=.func (.func gf) #[] lb) (hFg:F.fn gf) (eg:∀args w,(callFunc gf args).run P w=.ok (.enter gf args) w)
 {encs:α->Array Value}(hps:∀x,(encs x).size=ps.size) {S Sp:List α->Prop}
 (I:List α->World->Prop) (J:List α->α->World->Prop) (Ix:Code->List α->World->Prop) (hI:OwnFrom w.heap.size I) (hJ:∀pre x,OwnFrom w.heap.size (fun(_:Unit) W=>J pre x W)) (hIx:∀c,OwnFrom w.heap.size (Ix c)) (h0:I [] w)
 (hseq:∀(l:Nat) (K:World->Prop) (Kx:Code->World->Prop) (W1:World),Below w.heap.size w W1->
   (∀A B,K A->KeepsFrom w.heap.size A B->K B)->(∀c A B,Kx c A->KeepsFrom w.heap.size A B->Kx c B)->K W1->I [] W1->
   (∀pre x W,J pre x W->K W->YieldAt F (n-1-1) P l (encs x) W fun e W'=>(e=.returned (R_ true)/\I (pre++[x]) W'/\K W')\/(e=.returned (R_ false)/\∃c,Ix c (pre++[x]) W'/\Kx c W'))->
   CallsIn F (n-1) P gf (#[.func (.yield l) #[] #[]]++lb) W1 fun e W'=>(∃v,e=.returned v)/\((∃xs,S xs/\I xs W'/\K W')\/(∃pre c,Sp pre/\Ix c pre W'/\Kx c W')))
 (Ax:α->Act->World->Prop) (hAx:∀x a',OwnFrom w.heap.size (fun(_:Unit) W=>Ax x a' W))
 (hassign:∀(l:Nat) (pre:List α) (x:α) (W:World) (K:Act->World->Prop),J pre x W->(∀a' W',KeepsFrom w.heap.size W W'->J pre x W'->Ax x a' W'->K a' W')->
   assign.wpIn (F.inRound l) (n-1-1) P (Exit.then K (fun _ _ _=>False)) {tmps:=(ps.zip (encs x)).foldl (fun t (p,v)=>t.setIfInBounds p v) a.tmps,defers:=[]} W)
 (hbody:∀(l:Nat) (pre:List α) (x:α) (a':Act) (W:World),w.heap.size<=l->(∃r,W.heap[l]? =some (.loop r))->J pre x W->Ax x a' W->body.wpIn (F.inRound l) (n-1-1) P (Pf w.heap.size I Ix (pre++[x]) W) a' W)
 (hdone:∀(D:Nat) (xs:List α) (W:World),w.heap.size<=D->S xs->I xs W->W.heap[D]? =some (.deferred (some []))->Q .normal {a with defers:={target:=.collected D,args:= #[]}::a.defers} W)
 (hstop:∀(D:Nat) (c:Code) (pre:List α) (W:World),w.heap.size<=D->Sp pre->Ix c pre W->W.heap[D]? =some (.deferred (some []))->c.wpIn F n P Q {a with defers:={target:=.collected D,args:= #[]}::a.defers} W):
 (Code.rangeFunc g ps assign body).wpIn F n P Q a w:=by
 refine wpIn_rangeFunc fun fn TJ=>?_;obtain⟨D,hD⟩:∃D,D=w.heap.size:=⟨_,rfl⟩;obtain⟨rec,er⟩:∃rec:LoopState->Option Code->Loop,rec=fun st pe=>{state:=st,pending:=pe,fn:=fn,tmps:=a.tmps,params:=ps,assign:=assign,body:=body,defers:=D}:=⟨_,rfl⟩;have YD:∀s p s' p',{rec s p with state:=s',pending:=p'}=rec s' p':=by intro s p s' p';rw [er]
 obtain⟨W1,e1⟩:∃W1,W1=(w.alloc (.deferred (some []))).alloc (.loop (rec .ready none)):=⟨_,rfl⟩
 have lH:(Instr.enterLoop fn a.tmps ps assign body F.round).run P w=.ok (D+1,[{target:=.collected D,args:= #[]}]) W1:=by
  rw [JW,e1,er,hD];exact run_enterLoop_outer _ _ _ _ _
 have bk:Bk D (D+1) (rec .ready none) W1:=by
  rw [e1,hD];exact⟨by have:=World.alloc_heap_new (w.alloc (.deferred (some []))) (.loop (rec .ready none));rwa [gz]at this,(JA _ _ _ S_).trans (World.alloc_heap_new w _)⟩
 have i1:I [] W1:=by rw [e1];exact hI.alloc _ (hI.alloc _ h0)
 have b1:Below w.heap.size w W1:=by rw [e1];exact((zm _ w).alloc (aA _) _).alloc S_ _
 have hle:w.heap.size<=D:=O_
 have AP:w.heap.size<=D+1:=O_
 have bV:D≠D+1:=O_
 refine⟨D+1,_,W1,{target:=.fn (.func gf) lb,args:= #[.func (.yield (D+1)) #[] #[]]},W1,gf,#[.func (.yield (D+1)) #[] #[]]++lb,W1,lH,?_,?_,?_,fun _=>h1,?_⟩
 ·simp only [resolve,hg];simp [go_sem]
 ·intro f' vU;simp [Target.leads]at vU;subst vU;exact hFg
 ·simp [invoke,go_sem,eg]
 ·refine(hseq (D+1) (Bk D (D+1) (rec .ready none)) (fun c=>Bk D (D+1) (rec .done (some c))) W1 b1 (fun A B h k=>h.du hle AP k) (fun c A B h k=>h.du hle AP k) bk i1 ?round).mono ?_
  case round=>
   intro pre x W hi hk;have hy:=run_yield (P:=P) (args:=encs x) hk.1 (by rw [er];exact hps x);have ef:(rec .ready none).fn=fn:=by rw [er]
   have et:(rec .ready none).tmps=a.tmps:=by rw [er]
   have ep:(rec .ready none).params=ps:=by rw [er]
   have ea:(rec .ready none).assign=assign:=by rw [er]
   have eb:(rec .ready none).body=body:=by rw [er]
   rw [ef,et,ep,ea,eb]at hy;refine⟨fn,_,assign,body,hy,roundIn_of_wpIn TJ (hassign _ pre x W _ hi fun a' Wa ka ia xa=>?_)⟩;have ba:=hk.du hle AP ka;refine⟨_,run_beginRound ba.1 (by rw [er]),?_⟩;have eb2:{rec .ready none with state:=.busy}=rec .busy none:=by rw [er]
   rw [eb2];have b2:=ba.put bV (rec .busy none);exact wpIn_mono (hbody _ pre x a' _ AP ⟨_,b2.1⟩ ((hJ pre x).putObj (s:=()) _ ia AP ba.1 rfl) ((hAx x a').putObj (s:=()) _ xa AP ba.1 rfl)) fun e a3 W3 hp=>AO YD hI hIx hle AP bV b2 hp
  rintro e W2 ⟨⟨v,rfl⟩,(⟨xs,hS,hi,hk⟩|⟨pre,c,hSp,hi,hk⟩)⟩
  ·have run:=run_endLoop (P:=P) hk.1 (by rw [er];simp);refine⟨none,_,by rw [run,er],hdone D xs _ hle hS (hI.putObj _ hi AP hk.1 rfl) ((an bV).trans hk.2)⟩
  ·have run:=run_endLoop (P:=P) hk.1 (by rw [er];simp);refine⟨some c,_,by rw [run,er],hstop D c pre _ hle hSp ((hIx c).putObj _ hi AP hk.1 rfl) ((an bV).trans hk.2)⟩
end
section
variable{F:Fence}{n:Nat}{P:Program}{ops:Array Oper}{Q:Exit->Act->World->Prop}{l:Nat}
theorem Cs{o:Oper}(hd:∀c,o.op≠ .defer c) {a:Act}{w:World}{next:Act->World->Prop}(h:o.wpIn F n P a w next Q):o.wpIn (F.inRound l) n P a w next Q:=by
 unfold Oper.wpIn at h⊢;rw [Oper.semAt_eq _ _ _ hd]at h⊢;exact h
theorem Jt(hd:∀o∈ops,∀c,o.op≠ .defer c) {i:Nat}{K K':Act->World->Prop}(hK:∀a w,K a w->K' a w) {a:Act}{w:World}(h:wpOpIn F n P ops Q i K a w):wpOpIn (F.inRound l) n P ops Q i K' a w:=by
 unfold wpOpIn at h⊢
 cases ho:ops[i]? with
 |none=>rw [ho]at h;exact hK _ _ h
 |some o=>
  rw [ho]at h;simp only at h⊢
  split
  ·rename_i hw
   rw [if_pos hw]at h;exact Cs (hd o (Array.mem_of_getElem? ho)) (Oper.wpIn_mono hK h)
  ·rename_i hw
   rw [if_neg hw]at h;exact⟨h.1,hK _ _ h.2⟩
theorem tV{md:Region.Mode}(hd:∀o∈ops,∀c,o.op≠ .defer c):∀(fuel:Nat) (listed:Array Bool) (a:Act) (w:World),wpAnyIn F n P md ops Q fuel listed a w->wpAnyIn (F.inRound l) n P md ops Q fuel listed a w
 |0,_,_,_,h=>h
 |fuel+1,_,_,_,h=>⟨h.1,fun i hi=>Jt hd (fun a w h=>tV hd fuel _ a w h) (h.2 i hi)⟩
def La(os:List Oper):Bool:=os.all fun o=>match o.op with| .defer _=>false|_=>true
theorem Ju{os:List Oper}(h:La os=true):∀o∈os.toArray,∀c,o.op≠ .defer c:=fun o ho c e=>by
 have:=List.all_eq_true.1 h o (by simpa using ho);rw [e]at this
 cases this
theorem aS{id:Nat}{a:Act}{w:World}{os:List Oper}(JW:F.round=none) (hm:P.follows .mixedOrders=true) (hB:Region.lexB .any os.toArray=true) (hd0:La os=true)
 (h:wpQuietIn F n P os.toArray (fun w'=>∃n,w'=w.drewN n) (fun a'=>∀w',(∃n,w'=w.drewN n)->Q .normal a' w') os a):(Code.region id os.toArray true).wpIn (F.inRound l) n P Q a w:=by
 have hd:=Ju hd0;simp only [Region.lexB,JU]at hB;refine wpIn_region_any hm (tV hd _ _ _ _ (wpAnyIn_of_quiet (C:=fun w'=>∃n,w'=w.drewN n) (Q:=fun a'=>∀w',(∃n,w'=w.drewN n)->Q .normal a' w') JW (fun _ w' hw' h=>h w' hw') _ _ _ _ ⟨1,rfl⟩ ?_));have:=wpAnyQIn_lex (F:=F) (n:=n) (C:=fun w'=>∃n,w'=w.drewN n) (md:=.any) hB.1 os.toArray.toList 0 (Array.replicate os.toArray.size false) a S_ (by simpa using hB.2) (by simpa using h);simpa using this
end
end Go.Proofs.YtliimglbbiebiaaGreatDoor
