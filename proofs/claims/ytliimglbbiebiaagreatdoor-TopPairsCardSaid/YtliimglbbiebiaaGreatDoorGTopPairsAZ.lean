/- A part of the proof: Pairs2, Hs, Plan, Frame2, Frame3, Frame4. -/
import Derived.Test.YtliimglbbiebiaaGreatDoorGTopPairsAY
import Derived.Test.YtliimglbbiebiaaGreatDoorGTopPairsAL
import Derived.Test.YtliimglbbiebiaaGreatDoorGTopPairsAK
import Derived.Test.YtliimglbbiebiaaGreatDoorGTopPairsAW
import Derived.Lib.SlBytesConst
import Derived.Test.YtliimglbbiebiaaGreatDoorGTopPairsAO
set_option maxRecDepth 100000
set_option maxHeartbeats 6400000
section
namespace Go.Proofs.YtliimglbbiebiaaGreatDoor
open Go.RowKit
def cmE:Elem Cmd where
 enc c:=[.string c.t,.int .i64 c.k,.string c.m,.slice c.sA c.sn c.sc,.int .i64 c.it,.int .i64 c.mo,.bool c.si,.int .u8 c.fl,.slice c.dA c.dn c.dc]
 sz:=9
 len _:=rfl
 one x u hu:=by simp at hu; rcases hu with rfl | rfl | rfl | rfl | rfl | rfl | rfl | rfl | rfl <;> rfl
 pos:=by omega
theorem cm_info:(Tryz.prog.info? 47).map (fun i=>(i.zero,i.size,i.bytes))=some (some (.agg #[.string ⟨#[]⟩,.int .i64 0,.string ⟨#[]⟩,.slice none 0 0,.int .i64 0,.int .i64 0,.bool false,.int .u8 0,.slice none 0 0]),9,112):=by kernel_rfl
def Small (c:Cmd):Prop:=c.t.size≤100∧c.m.size≤300∧c.sn≤60∧c.dn≤500
theorem few7_any (c:Cmd) (w:World):Calls Tryz.prog 56 #[c.val] w fun e w'=>∃ q,e=.returned (.bool q)∧(q=true→Small c)∧New w w':=by
 have n0:New w (w.alloc (.cells #[.string c.t,.int .i64 c.k,.string c.m,.slice c.sA c.sn c.sc,.int .i64 c.it,.int .i64 c.mo,.bool c.si,.int .u8 c.fl,.slice c.dA c.dn c.dc] 47)):=(New.refl w).alloc _
 by_cases h1:c.t.size≤100
 case neg =>
  have d1:decide (c.t.size≤100)=false:=decide_eq_false h1
  have e1:decide ((c.t.size:Int)≤100)=false:=decide_eq_false (by omega)
  go_enter Tryz.func56,Tryz.ntmps56
  go_wp2
  go_ret
  exact ⟨false,rfl,fun h=>(by cases h),n0⟩
 have d1:decide (c.t.size≤100)=true:=decide_eq_true h1
 have e1:decide ((c.t.size:Int)≤100)=true:=decide_eq_true (by omega)
 by_cases h2:c.m.size≤300
 case neg =>
  have d2:decide (c.m.size≤300)=false:=decide_eq_false h2
  have e2:decide ((c.m.size:Int)≤300)=false:=decide_eq_false (by omega)
  go_enter Tryz.func56,Tryz.ntmps56
  go_wp2
  go_ret
  exact ⟨false,rfl,fun h=>(by cases h),n0⟩
 have d2:decide (c.m.size≤300)=true:=decide_eq_true h2
 have e2:decide ((c.m.size:Int)≤300)=true:=decide_eq_true (by omega)
 by_cases h3:c.sn≤60
 case neg =>
  have d3:decide (c.sn≤60)=false:=decide_eq_false h3
  have e3:decide ((c.sn:Int)≤60)=false:=decide_eq_false (by omega)
  go_enter Tryz.func56,Tryz.ntmps56
  go_wp2
  go_ret
  exact ⟨false,rfl,fun h=>(by cases h),n0⟩
 have d3:decide (c.sn≤60)=true:=decide_eq_true h3
 have e3:decide ((c.sn:Int)≤60)=true:=decide_eq_true (by omega)
 by_cases h4:c.dn≤500
 case neg =>
  have d4:decide (c.dn≤500)=false:=decide_eq_false h4
  have e4:decide ((c.dn:Int)≤500)=false:=decide_eq_false (by omega)
  go_enter Tryz.func56,Tryz.ntmps56
  go_wp2
  go_ret
  exact ⟨false,rfl,fun h=>(by cases h),n0⟩
 have d4:decide (c.dn≤500)=true:=decide_eq_true h4
 have e4:decide ((c.dn:Int)≤500)=true:=decide_eq_true (by omega)
 have hs:Small c:=⟨h1,h2,h3,h4⟩
 clear h1 h2 h3 h4
 go_enter Tryz.func56,Tryz.ntmps56
 go_wp2
 go_ret
 exact ⟨true,rfl,fun _=>hs,n0⟩
theorem few8_any (v:Value) (l:List Cmd) (w:World) (hv:Rd cmE w v l) (hl:l.length≤1200000000000):Calls Tryz.prog 34 #[v] w fun e w'=>∃ q,e=.returned (.bool q)∧(q=true→l.length≤30∧∀ c ∈ l,Small c)∧New w w':=by
 obtain ⟨A,cp,rfl,hc,hcells⟩:=hv
 have HC:=Lib.hid hcells
 clear hcells
 go_enter Tryz.func34,Tryz.ntmps34
 go_wp2
 go_loopw [3] (fun vi wr=>∃ k:Nat,k≤l.length∧vi=.int .i64 k∧Hid (∀ i x,i < k→l[i]? = some x→Small x)∧New w wr) (fun vi _=>l.length - (intOf vi).toNat)
 case atStart=>exact ⟨0,Nat.zero_le _,rfl,fun i x h=>by omega,New.refl _⟩
 case round =>
  obtain ⟨k,hk,rfl,HS,hnew⟩:=hrel
  by_cases hkl:k < l.length
  · obtain ⟨x,hx⟩:∃ x,l[k]? = some x:=⟨_,List.getElem?_eq_getElem hkl⟩
    obtain ⟨b,off,rfl,hcell⟩:=HC.out (by rintro rfl; simp at hkl)
    have c0:wr.cell? ⟨b,off + k * 9,none⟩=some (.string x.t):=Fr.cell hnew (hcell k _ hx 0 _ rfl) id
    have c1:wr.cell? ⟨b,off + k * 9 + 1,none⟩=some (.int .i64 x.k):=Fr.cell hnew (hcell k _ hx 1 _ rfl) id
    have c2:wr.cell? ⟨b,off + k * 9 + 2,none⟩=some (.string x.m):=Fr.cell hnew (hcell k _ hx 2 _ rfl) id
    have c3:wr.cell? ⟨b,off + k * 9 + 3,none⟩=some (.slice x.sA x.sn x.sc):=Fr.cell hnew (hcell k _ hx 3 _ rfl) id
    have c4:wr.cell? ⟨b,off + k * 9 + 4,none⟩=some (.int .i64 x.it):=Fr.cell hnew (hcell k _ hx 4 _ rfl) id
    have c5:wr.cell? ⟨b,off + k * 9 + 5,none⟩=some (.int .i64 x.mo):=Fr.cell hnew (hcell k _ hx 5 _ rfl) id
    have c6:wr.cell? ⟨b,off + k * 9 + 6,none⟩=some (.bool x.si):=Fr.cell hnew (hcell k _ hx 6 _ rfl) id
    have c7:wr.cell? ⟨b,off + k * 9 + 7,none⟩=some (.int .u8 x.fl):=Fr.cell hnew (hcell k _ hx 7 _ rfl) id
    have c8:wr.cell? ⟨b,off + k * 9 + 8,none⟩=some (.slice x.dA x.dn x.dc):=Fr.cell hnew (hcell k _ hx 8 _ rfl) id
    have HX:=Lib.hid hx
    clear hcell hx
    go_wp2_with fail
    refine (few7_any x wr).mono ?_
    rintro e w1 ⟨q,rfl,hq,n1⟩
    have HQ:=Lib.hid hq
    clear hq
    cases q
    · go_wp2
      go_ret
      exact ⟨_,rfl,(fun h=>by cases h),hnew.trans n1⟩
    · go_wp2
      go_roundw
      case rel =>
       refine ⟨k + 1,by omega,by go_num,fun i y hi hy=>?_,hnew.trans n1⟩
       rcases Nat.lt_or_ge i k with h | h
       · exact HS.out i y h hy
       · obtain rfl:i=k:=by omega
         rw [HX.out] at hy
         injection hy with hy
         rw [← hy]
         exact HQ.out (by first | rfl | trivial)
      case measure=>simp [intOf]; omega
  · obtain rfl:k=l.length:=by omega
    have hall:∀ x ∈ l,Small x:=by
     intro x hx
     obtain ⟨i,hi⟩:=List.mem_iff_getElem?.1 hx
     exact HS.out i x (List.getElem?_eq_some_iff.1 hi).1 hi
    have HALL:=Lib.hid hall
    clear hall
    rcases Nat.lt_or_ge 30 l.length with h4 | h4
    · have hd:decide ((l.length:Int)≤30)=false:=by simp; omega
      go_wp2
      go_ret
      exact ⟨_,rfl,(fun h=>by cases h),hnew⟩
    · have hd:decide ((l.length:Int)≤30)=true:=by simp; omega
      go_wp2
      go_ret
      exact ⟨_,rfl,(fun _=>⟨h4,HALL.out⟩),hnew⟩
theorem short_any (A:Option Addr) (cp:Nat) (l:List TOp) (w:World) (hv:Rd topE w (.slice A l.length cp) l) (hl:l.length * 120≤140737488351232):Calls Tryz.prog 14 #[.slice A l.length cp] w fun e w'=>∃ q,e=.returned (.bool q)∧(q=true→l.length≤30∧∀ o ∈ l,Small o.c)∧New w w':=by
 obtain ⟨i0,hi,hz0,hz1,hz2⟩:=info_parts cm_info
 obtain ⟨_,_,hq,hc,hcells⟩:=hv
 cases hq
 have HC:=Lib.hid hcells
 clear hcells
 go_enter Tryz.func14,Tryz.ntmps14
 go_wp2
 go_loopw [3,8] (fun vc vi wr=>∃ k:Nat,k≤l.length∧vi=.int .i64 k∧Own cmE 47 w.heap.size wr vc ((l.take k).map TOp.c)∧New w wr) (fun _ vi _=>l.length - (intOf vi).toNat)
 case atStart=>exact ⟨0,Nat.zero_le _,rfl,Own.nil _ _ _ _,New.refl _⟩
 case round =>
  obtain ⟨k,hk,rfl,ho,hnew⟩:=hrel
  by_cases hkl:k < l.length
  · obtain ⟨x,hx⟩:∃ x,l[k]? = some x:=⟨_,List.getElem?_eq_getElem hkl⟩
    obtain ⟨b,off,rfl,hcell⟩:=HC.out (by rintro rfl; simp at hkl)
    have c0:wr.cell? ⟨b,off + k * 10,none⟩=some (.int .u8 x.who):=Fr.cell hnew (hcell k _ hx 0 _ rfl) id
    have c1:wr.cell? ⟨b,off + k * 10 + 1,none⟩=some (.string x.c.t):=Fr.cell hnew (hcell k _ hx 1 _ rfl) id
    have c2:wr.cell? ⟨b,off + k * 10 + 2,none⟩=some (.int .i64 x.c.k):=Fr.cell hnew (hcell k _ hx 2 _ rfl) id
    have c3:wr.cell? ⟨b,off + k * 10 + 3,none⟩=some (.string x.c.m):=Fr.cell hnew (hcell k _ hx 3 _ rfl) id
    have c4:wr.cell? ⟨b,off + k * 10 + 4,none⟩=some (.slice x.c.sA x.c.sn x.c.sc):=Fr.cell hnew (hcell k _ hx 4 _ rfl) id
    have c5:wr.cell? ⟨b,off + k * 10 + 5,none⟩=some (.int .i64 x.c.it):=Fr.cell hnew (hcell k _ hx 5 _ rfl) id
    have c6:wr.cell? ⟨b,off + k * 10 + 6,none⟩=some (.int .i64 x.c.mo):=Fr.cell hnew (hcell k _ hx 6 _ rfl) id
    have c7:wr.cell? ⟨b,off + k * 10 + 7,none⟩=some (.bool x.c.si):=Fr.cell hnew (hcell k _ hx 7 _ rfl) id
    have c8:wr.cell? ⟨b,off + k * 10 + 8,none⟩=some (.int .u8 x.c.fl):=Fr.cell hnew (hcell k _ hx 8 _ rfl) id
    have c9:wr.cell? ⟨b,off + k * 10 + 9,none⟩=some (.slice x.c.dA x.c.dn x.c.dc):=Fr.cell hnew (hcell k _ hx 9 _ rfl) id
    have hto:(l.take (k + 1)).map TOp.c=(l.take k).map TOp.c ++ [x.c]:=by rw [take_snoc hx,List.map_append]; rfl
    have hln:((l.take k).map TOp.c).length=k:=by rw [List.length_map,List.length_take]; omega
    have HT:=Lib.hid hto
    have hsz:=hnew.size
    clear hcell hx hto
    generalize (l.take k).map TOp.c=lc at *
    obtain ⟨vA,vC,rfl,hvc⟩:=ho.form
    go_wp2_with (at_builtin; refine wpList_push (E:=cmE) rfl _ _ _ rfl Tryz.underlying82 hi hz0 hz1 hz2 rfl ((ho.alloc _).alloc _) rfl x.c (wr.heap.size + 1) (Blk.new1 _ _ _ _) 1 rfl (by unfold maxLen; omega) (by omega) (by simp; omega) ?_; intro v2 w2 hv2 hf2 hl2)
    have hnew2:=New.append ((hnew.alloc _).alloc _) ((ho.alloc _).alloc _) hf2
    go_roundw
    case rel=>exact ⟨k + 1,by omega,by go_num,by rw [HT.out]; exact hv2,hnew2⟩
    case measure=>simp [intOf]; omega
  · obtain rfl:k=l.length:=by omega
    rw [List.take_length] at ho
    have hlc:(l.map TOp.c).length≤l.length:=Nat.le_of_eq (List.length_map ..)
    have hmem:∀ o ∈ l,o.c ∈ l.map TOp.c:=fun o ho=>List.mem_map_of_mem ho
    generalize l.map TOp.c=lc at *
    have HM:=Lib.hid hmem
    obtain ⟨vA,vC,rfl,hvc⟩:=ho.form
    have HF:=Lib.hid (few8_any (.slice vA lc.length vC) lc wr ho.rd (by omega))
    clear hmem ho
    rcases Nat.lt_or_ge 30 l.length with h4 | h4
    · have hd:decide ((l.length:Int)≤30)=false:=by simp; omega
      go_wp2
      go_ret
      exact ⟨_,rfl,(fun h=>by cases h),hnew⟩
    · have hd:decide ((l.length:Int)≤30)=true:=by simp; omega
      go_wp2_with fail
      refine HF.out.mono ?_
      rintro e w1 ⟨q,rfl,hq,n1⟩
      have HQ:=Lib.hid hq
      clear hq
      go_wp2
      go_ret
      exact ⟨q,rfl,(fun h=>⟨h4,fun o ho=>(HQ.out h).2 _ (HM.out o ho)⟩),hnew.trans n1⟩
end Go.Proofs.YtliimglbbiebiaaGreatDoor
end

section
namespace Go.Proofs.YtliimglbbiebiaaGreatDoor
open Go.RowKit Go.Maps
theorem filter_ne_len (a:Int):∀ {l:List Int},l.Nodup→l.length≤(l.filter fun x=>decide (x≠a)).length + 1
 | [],_=>by simp
 | y :: t,h=>by
   have hn:=(List.nodup_cons.1 h)
   by_cases hy:y=a
   · subst hy
     have:(t.filter fun x=>decide (x≠y))=t:=List.filter_eq_self.2 fun x hx=>by
      have:x≠y:=fun e=>hn.1 (e ▸ hx)
      simpa using this
     rw [List.filter_cons_of_neg (by simp),this]
     simp
   · have:=filter_ne_len a hn.2
     rw [List.filter_cons_of_pos (by simpa using hy),List.length_cons,List.length_cons]
     omega
theorem nodup_len:∀ (N:Nat) {l:List Int},l.Nodup→(∀ x ∈ l,0≤x∧x < (N:Int))→l.length≤N
 | 0,[],_,_=>by simp
 | 0,y :: t,_,h=>by have:=h y (List.mem_cons_self ..); omega
 | N + 1,l,hn,h=>by
   have h1:=nodup_len N (l:=l.filter fun x=>decide (x≠(N:Int))) (hn.filter _) fun x hx=>by
    obtain ⟨h2,h3⟩:=List.mem_filter.1 hx
    have h4:=h x h2
    have h5:x≠(N:Int):=by simpa using h3
    omega
   have h2:=filter_ne_len (N:Int) hn
   omega
structure Hs (w0:World) (base:Nat) (w:World) (S:Sx) (Q:Qs) (M:List Msg) (n t f:Int) (B N:Nat) (xs:Nat→Nat) (o:Nat→Vo) (d:Nat→Bool):Prop where
 so:∀ i,i < N→SO w0 base w S Q M n t f (i:Int) (xs i) (o i) (d i)
 ap:∀ i,i < N→∀ j,j < N→i≠j→∀ k,mineO (xs i) (o i) k→¬ mineO (xs j) (o j) k
 qi:∀ j ∈ Q.ids,0≤j∧j < (N:Int)
 ql:∀ j,(Q.l j).length≤B
section
variable {w0 w w':World} {base:Nat} {S S':Sx} {Q Q':Qs} {M M':List Msg} {n t f n' t' f':Int} {B N i:Nat} {xs:Nat→Nat} {o:Nat→Vo} {d:Nat→Bool} {o':Vo} {d' b:Bool}
theorem Hs.ids (h:Hs w0 base w S Q M n t f B N xs o d) (hi:i < N):Q.ids.length≤N:=nodup_len N (h.so i hi).st.qx.ids_nd h.qi
theorem Hs.new (h:Hs w0 base w S Q M n t f B N xs o d) (hn:New w w'):Hs w0 base w' S Q M n t f B N xs o d:=⟨fun i hi=>(h.so i hi).new hn,h.ap,h.qi,h.ql⟩
theorem Hs.step (h:Hs w0 base w S Q M n t f B N xs o d) (hi:i < N) (hso:SO w0 base w' S' Q' M' n' t' f (i:Int) (xs i) o' d') {m dd:Nat} (hk:OpS w w' S Q n (i:Int) (xs i) (o i) m dd (fun _=>False) S' Q' n' o') :
 Hs w0 base w' S' Q' M' n' t' f (B + m) N xs (fun j=>if j=i then o' else o j) (fun j=>if j=i then d' else d j) where
 so:=fun j hj=>by
  by_cases hji:j=i
  · subst hji
    rw [if_pos rfl,if_pos rfl]
    exact hso
  · rw [if_neg hji,if_neg hji]
    obtain ⟨a1,L,a2,a3,a4⟩:=hk.oth (j:Int) (by omega)
    refine (h.so j hj).turn hso.st hk.s hk.fr (fun k hk1 hk2=>?_) hk.gr hk.nn.1 a1 fun e he=>?_
    · rcases hk2 with h1 | h1 | h1
      · exact (h.so j hj).far k hk1 h1
      · exact h.ap j hj i hi hji k hk1 h1
      · exact h1
    · rw [a2] at he
      exact (List.mem_append.1 he).imp id (a4 e)
 ap:=fun a ha c hc hac k hk1 hk2=>by
  have hlt:∀ j,j < N→∀ k,mineO (xs j) (o j) k→k < w.heap.size:=fun j hj=>(h.so j hj).lt
  by_cases hai:a=i
  · subst hai
    rw [if_pos rfl] at hk1
    rw [if_neg (Ne.symm hac)] at hk2
    rcases hk.mg k hk1 with h1 | h1
    · exact h.ap a ha c hc hac k h1 hk2
    · have:=hlt c hc k hk2; omega
  · rw [if_neg hai] at hk1
    by_cases hci:c=i
    · subst hci
      rw [if_pos rfl] at hk2
      rcases hk.mg k hk2 with h1 | h1
      · exact h.ap a ha c hc hac k hk1 h1
      · have:=hlt a ha k hk1; omega
    · rw [if_neg hci] at hk2
      exact h.ap a ha c hc hac k hk1 hk2
 qi:=fun j hj=>by
  by_cases hji:j=(i:Int)
  · omega
  · exact h.qi j ((hk.oth j hji).1.1 hj)
 ql:=fun j=>by
  have:=h.ql j
  by_cases hji:j=(i:Int)
  · subst hji
    have:=hk.own
    omega
  · obtain ⟨_,L,a2,a3,_⟩:=hk.oth j hji
    rw [a2,List.length_append]
    omega
def atO:Vo→Int→Int × Bool
 | none,_=>(0,false)
 | some (_,_,_,l),p=>atOf l p
theorem view_any (x:Nat) (bx:Value) (sid:Int) (pv:Option Addr) (dn:Bool) (w:World) (hx:Ses w x bx sid pv dn):Calls Tryz.prog 18 #[.pointer (some ⟨x,0,none⟩)] w fun e w'=>e=.returned (.pointer pv)∧w'=w:=by
 obtain ⟨x0,x1,x2,x3⟩:=hx.all4
 clear hx
 go_enter Tryz.func18,Tryz.ntmps18
 go_wp2
 go_ret
 exact ⟨rfl,rfl⟩
theorem vat_nil (p:Int) (w:World):Calls Tryz.prog 19 #[.pointer none,.int .i64 p] w fun e w'=>e=.returned (.tuple #[.int .u32 0,.bool false])∧w'=w:=by
 go_enter Tryz.func19,Tryz.ntmps19
 go_wp2
 go_ret2
 exact ⟨rfl,rfl⟩
theorem at_so {i:Int} {xs:Nat} {o:Vo} (H:SO w0 base w S Q M n t f i xs o b) (hn:n≤5000) (p:Int):Calls Tryz.prog 19 #[.pointer (voP o),.int .i64 p] w fun e w'=>e=.returned (.tuple #[.int .u32 (atO o p).1,.bool (atO o p).2])∧w'=w:=by
 rcases o with _ | ⟨v,x,u,l⟩
 · exact vat_nil p w
 · have:=ascTo_len H.2.asc H.2.bd
   exact vat_any H.2.vw H.2.ix (by omega) p
theorem GoodR.at_ {o:Vo} {r:Rsp} (h:GoodR o r) (hit:bits .and .i64 r.it 2≠0):atO o r.n=(r.uid,true):=by
 rcases h with h | ⟨v,x,u,l,rfl,h⟩
 · exact absurd h hit
 · exact h.2 hit
end
end Go.Proofs.YtliimglbbiebiaaGreatDoor
end

section
namespace Go.Proofs.YtliimglbbiebiaaGreatDoor
open Go.RowKit Go.Maps
abbrev layV (a b:Int):Value:=.agg #[.int .i64 a,.int .i64 b]
theorem queues_any (a b:Int) (h0:0≤a) (h1:a≤1000) (w:World):Calls Tryz.prog 47 #[layV a b] w fun e w'=>e=.returned (.int .i64 (1 + a))∧New w w':=by
 have hw:IntKind.i64.wrap (1 + a)=1 + a:=IntWalk.i64_in _ (by omega)
 go_enter Tryz.func47,Tryz.ntmps47
 go_wp2
 go_ret
 exact ⟨rfl,(New.refl w).alloc _⟩
theorem count_any (a b:Int) (h0:0≤a) (h1:a≤1000) (h2:0≤b) (h3:b≤1000) (w:World):Calls Tryz.prog 27 #[layV a b] w fun e w'=>e=.returned (.int .i64 (1 + a + b))∧New w w':=by
 obtain ⟨w0,hw0⟩:∃ w0,w0=w.alloc (.cells #[.int .i64 a,.int .i64 b] 65):=⟨_,rfl⟩
 have n0:New w w0:=hw0 ▸ (New.refl w).alloc _
 have b0:Blk w0 w.heap.size 65 #[.int .i64 a,.int .i64 b]:=hw0 ▸ Blk.new _ _ _
 obtain ⟨k0,k1⟩:=b0.all2
 have hw:IntKind.i64.wrap (1 + a + b)=1 + a + b:=IntWalk.i64_in _ (by omega)
 go_enter Tryz.func27,Tryz.ntmps27
 go_wp2_with fail
 rw [← hw0]
 clear hw0
 go_region_held3 (fun W=>W.cell? ⟨w.heap.size,0,none⟩=some (.int .i64 a)∧W.cell? ⟨w.heap.size,1,none⟩=some (.int .i64 b)) (first | go_keep | (refine ⟨?_,?_⟩ <;> assumption)) ((first
  | (go_at_call 47
     refine (queues_any a b h0 h1 _).mono ?_
     rintro e w2 ⟨rfl,m2⟩
     have hnq:New w0 w2:=Fr.trans (by repeat' first | exact New.refl _ | apply Fr.alloc | apply Fr.drewN | apply Fr.drew) m2
     have p0:=Fr.cell hnq k0 id
     have p1:=Fr.cell hnq k1 id)
  | fail))
 all_goals
  go_wp2
  go_ret
  exact ⟨rfl,n0.trans hnq⟩
theorem queue_any (a b i:Int) (h0:0≤a) (h1:a≤1000) (h3:b≤1000) (hi0:0≤i) (hi1:i < b) (w:World):Calls Tryz.prog 51 #[layV a b,.int .i64 i] w fun e w'=>e=.returned (.tuple #[.int .i64 (1 + a + i),.bool true])∧New w w':=by
 have n0:New w (w.alloc (.cells #[.int .i64 a,.int .i64 b] 65)):=(New.refl w).alloc _
 have hw:IntKind.i64.wrap (1 + a + i)=1 + a + i:=IntWalk.i64_in _ (by omega)
 have d0:¬ i < 0:=by omega
 have d1:¬ b≤i:=by omega
 go_enter Tryz.func51,Tryz.ntmps51
 go_wp2_with fail
 refine (queues_any a b h0 h1 _).mono ?_
 rintro e w2 ⟨rfl,m2⟩
 go_wp2
 go_ret2
 exact ⟨rfl,n0.trans m2⟩
abbrev plF (f:Nat):Value:=.func (.func f) #[] #[]
def plansL:List (Int × Value):=(put (put (put (put (put (put (put (put [] 1 (plF 279)) 2 (plF 279)) 3 (plF 280)) 4 (plF 280)) 5 (plF 281)) 6 (plF 282)) 7 (plF 283)) 8 (plF 284))
theorem plans_any (w:World):Calls Tryz.prog 209 #[] w fun e w'=>e=.returned (.map (some w.heap.size))∧HasMap iKeys w' w.heap.size plansL∧New w w':=by
 have hmm:=@run_makeMap Tryz.prog
 have h00:=HasMap.made iKeys w
 go_enter Tryz.func209,Tryz.ntmps209
 go_wp2_with (first
  | (refine wpList_ins (E:=iKeys) rfl _ _ _ 321 319 rfl Tryz.underlying321 h00 (Nat.lt_of_le_of_lt (Nat.le_refl 0) (by unfold maxLen; decide)) 1 (by show (Lit.int .i64 1).wf=true; decide) (plF 279) rfl rfl rfl ?_; intro zw1 zm1 zo1)
  | (refine wpList_ins (E:=iKeys) rfl _ _ _ 321 319 rfl Tryz.underlying321 zm1 (Nat.lt_of_le_of_lt (ins_len (Nat.le_refl 0)) (by unfold maxLen; decide)) 2 (by show (Lit.int .i64 2).wf=true; decide) (plF 279) rfl rfl rfl ?_; intro zw2 zm2 zo2)
  | (refine wpList_ins (E:=iKeys) rfl _ _ _ 321 319 rfl Tryz.underlying321 zm2 (Nat.lt_of_le_of_lt (ins_len (ins_len (Nat.le_refl 0))) (by unfold maxLen; decide)) 3 (by show (Lit.int .i64 3).wf=true; decide) (plF 280) rfl rfl rfl ?_; intro zw3 zm3 zo3)
  | (refine wpList_ins (E:=iKeys) rfl _ _ _ 321 319 rfl Tryz.underlying321 zm3 (Nat.lt_of_le_of_lt (ins_len (ins_len (ins_len (Nat.le_refl 0)))) (by unfold maxLen; decide)) 4 (by show (Lit.int .i64 4).wf=true; decide) (plF 280) rfl rfl rfl ?_; intro zw4 zm4 zo4)
  | (refine wpList_ins (E:=iKeys) rfl _ _ _ 321 319 rfl Tryz.underlying321 zm4 (Nat.lt_of_le_of_lt (ins_len (ins_len (ins_len (ins_len (Nat.le_refl 0))))) (by unfold maxLen; decide)) 5 (by show (Lit.int .i64 5).wf=true; decide) (plF 281) rfl rfl rfl ?_; intro zw5 zm5 zo5)
  | (refine wpList_ins (E:=iKeys) rfl _ _ _ 321 319 rfl Tryz.underlying321 zm5 (Nat.lt_of_le_of_lt (ins_len (ins_len (ins_len (ins_len (ins_len (Nat.le_refl 0)))))) (by unfold maxLen; decide)) 6 (by show (Lit.int .i64 6).wf=true; decide) (plF 282) rfl rfl rfl ?_; intro zw6 zm6 zo6)
  | (refine wpList_ins (E:=iKeys) rfl _ _ _ 321 319 rfl Tryz.underlying321 zm6 (Nat.lt_of_le_of_lt (ins_len (ins_len (ins_len (ins_len (ins_len (ins_len (Nat.le_refl 0))))))) (by unfold maxLen; decide)) 7 (by show (Lit.int .i64 7).wf=true; decide) (plF 283) rfl rfl rfl ?_; intro zw7 zm7 zo7)
  | (refine wpList_ins (E:=iKeys) rfl _ _ _ 321 319 rfl Tryz.underlying321 zm7 (Nat.lt_of_le_of_lt (ins_len (ins_len (ins_len (ins_len (ins_len (ins_len (ins_len (Nat.le_refl 0)))))))) (by unfold maxLen; decide)) 8 (by show (Lit.int .i64 8).wf=true; decide) (plF 284) rfl rfl rfl ?_; intro zw8 zm8 zo8))
 go_ret
 exact ⟨rfl,zm8,New.one ((New.refl w).alloc _) (zo1.trans (zo2.trans (zo3.trans (zo4.trans (zo5.trans (zo6.trans (zo7.trans zo8))))))) (Nat.le_refl _)⟩
theorem zeroPl (w:World):(zeroValue 319).run Tryz.prog w=.ok .nilFunc w:=by kernel_rfl
theorem plans_get (k:Int) (f:Nat) (hop:get plansL k=some (plF f)) (hok:iKeys.ok k) (W:World):Calls Tryz.prog 209 #[] W fun e w2=>∃ m,e=.returned (.map (some m))∧New W w2 ∧
 (Instr.lookup 321 (.map (some m)) (.int .i64 k) true).run Tryz.prog w2=.ok (.tuple #[plF f,.bool true]) w2:=by
 refine (plans_any W).mono ?_
 rintro e w2 ⟨rfl,hM2,m2⟩
 refine ⟨_,rfl,m2,?_⟩
 have hl:=hM2.run_look_ok (t:=321) (e:=319) Tryz.underlying321 (zeroPl w2) hok
 rw [hop] at hl
 exact hl
theorem mine_none (q:Nat) (w:World) (h:w.cell? ⟨q,3,none⟩=some (.pointer none)):Calls Tryz.prog 279 #[.pointer (some ⟨q,0,none⟩)] w fun e w'=>e=.returned (.tuple #[])∧w'=w:=by
 go_enter Tryz.func279,Tryz.ntmps279
 go_wp2
 go_end0
 exact ⟨rfl,rfl⟩
theorem for_none (a b i:Int) (h0:0≤a) (_ha:a≠0) (h1:a≤1000) (h3:b≤1000) (hi0:0≤i) (hi1:i < b) (c:Cmd) (hk:c.k=1) (w:World) :
 Calls Tryz.prog 153 #[layV a b,.int .i64 i,.pointer none,c.val] w fun e w'=>e=.returned (.slice none 0 0)∧New w w':=by
 obtain ⟨w0,hw0⟩:∃ w0,w0=(w.alloc (.cells #[.int .i64 a,.int .i64 b] 65)).alloc (.cells #[.string c.t,.int .i64 c.k,.string c.m,.slice c.sA c.sn c.sc,.int .i64 c.it,.int .i64 c.mo,.bool c.si,.int .u8 c.fl,.slice c.dA c.dn c.dc] 47):=⟨_,rfl⟩
 have n0:New w w0:=hw0 ▸ ((New.refl w).alloc _).alloc _
 have a0:Blk w0 w.heap.size 65 #[.int .i64 a,.int .i64 b]:=hw0 ▸ (Blk.new _ _ _).alloc _
 have b0:Blk w0 (w.heap.size + 1) 47 #[.string c.t,.int .i64 c.k,.string c.m,.slice c.sA c.sn c.sc,.int .i64 c.it,.int .i64 c.mo,.bool c.si,.int .u8 c.fl,.slice c.dA c.dn c.dc]:=hw0 ▸ Blk.new1 _ _ _ _
 obtain ⟨p0,p1⟩:=a0.all2
 have HG:=plans_get c.k 279 (by rw [hk]; rfl) (by rw [hk]; exact okI1)
 have HK:=Lib.hid hk
 clear hk
 subst hw0
 go_enter Tryz.func153,Tryz.ntmps153
 go_wp2_with fail
 refine (queue_any a b i h0 h1 h3 hi0 hi1 _).mono ?_
 rintro e w1 ⟨rfl,m1⟩
 have a1:=m1.blk a0
 have b1:=m1.blk b0
 have n1:=n0.trans m1
 clear a0 b0 p0 p1 m1 n0
 obtain ⟨p0,p1⟩:=a1.all2
 obtain ⟨k0,k1,k2,k3,k4,k5,k6,k7,k8⟩:=b1.all9
 go_wp2_with fail
 go_region_held3 (fun W=>W.cell? ⟨w.heap.size + 1,1,none⟩=some (.int .i64 c.k)) (first | go_keep | assumption) ((first
  | (go_at_call 209
     refine (HG _).mono ?_
     rintro e w2 ⟨m,rfl,m2,hl⟩
     have hnq:New w1 w2:=Fr.trans (by repeat' first | exact New.refl _ | apply Fr.alloc | apply Fr.drewN | apply Fr.drew) m2
     have q1:=Fr.cell hnq k1 id)
  | fail))
 all_goals
  have a2:=hnq.blk a1
  have b2:=hnq.blk b1
  have n2:=n1.trans hnq
  clear p0 p1 k0 k1 k2 k3 k4 k5 k6 k7 k8 hl m2 n1 hnq a1 b1 q1
  obtain ⟨p0,p1⟩:=a2.all2
  obtain ⟨k0,k1,k2,k3,k4,k5,k6,k7,k8⟩:=b2.all9
  have r2:=Blk.new w2 325 #[.int .i64 a,.int .i64 b,.int .i64 i,.pointer none,.string c.t,.int .i64 c.k,.string c.m,.slice c.sA c.sn c.sc,.int .i64 c.it,.int .i64 c.mo,.bool c.si,.int .u8 c.fl,.slice c.dA c.dn c.dc,.slice none 0 0]
  have r3:(w2.alloc (.cells #[.int .i64 a,.int .i64 b,.int .i64 i,.pointer none,.string c.t,.int .i64 c.k,.string c.m,.slice c.sA c.sn c.sc,.int .i64 c.it,.int .i64 c.mo,.bool c.si,.int .u8 c.fl,.slice c.dA c.dn c.dc,.slice none 0 0] 325)).cell? ⟨w2.heap.size,3,none⟩=some (.pointer none):=r2.cell 3
  have r13:(w2.alloc (.cells #[.int .i64 a,.int .i64 b,.int .i64 i,.pointer none,.string c.t,.int .i64 c.k,.string c.m,.slice c.sA c.sn c.sc,.int .i64 c.it,.int .i64 c.mo,.bool c.si,.int .u8 c.fl,.slice c.dA c.dn c.dc,.slice none 0 0] 325)).cell? ⟨w2.heap.size,13,none⟩=some (.slice none 0 0):=r2.cell 13
  have n3:=n2.alloc (.cells #[.int .i64 a,.int .i64 b,.int .i64 i,.pointer none,.string c.t,.int .i64 c.k,.string c.m,.slice c.sA c.sn c.sc,.int .i64 c.it,.int .i64 c.mo,.bool c.si,.int .u8 c.fl,.slice c.dA c.dn c.dc,.slice none 0 0] 325)
  go_wp2_with (go_at_call 279; refine (mine_none w2.heap.size _ r3).mono ?_; rintro e w4 ⟨rfl,rfl⟩)
  go_ret
  exact ⟨rfl,n3⟩
end Go.Proofs.YtliimglbbiebiaaGreatDoor
end

section
namespace Go.Proofs.YtliimglbbiebiaaGreatDoor
open Go.RowKit
def wholeL (x:UInt8):List UInt8:=[x,32,78,79,79,80,13,10]
theorem whole_index (x:UInt8) (hx:x=97∨x=98):Lib.index (wholeL x) [13,10]=6:=by rcases hx with rfl | rfl <;> decide
theorem nums_bd (l:List UInt8):∀ x ∈ nums l,0≤x∧x < 256:=by
 intro x hx
 obtain ⟨y,_,rfl⟩:=List.mem_map.1 hx
 have:=y.toNat_lt
 omega
theorem const_made0 (w:World) (C:Array Value) (n:Nat):∃ w1,(convert 23 23 (.slice (some ⟨w.heap.size,0,none⟩) n n)).run Tryz.prog (w.alloc (.cells C 5))=.ok (.slice (some ⟨w.heap.size,0,none⟩) n n) w1∧New w w1 ∧
 ∀ i v,C[i]? = some v→w1.cell? ⟨w.heap.size,i,none⟩=some v:=by
 refine ⟨_,Lib.run_convert_bytes_const (P:=Tryz.prog) w 23 5 C n n Tryz.underlying23 Tryz.underlying5,(New.refl w).alloc _,fun i v hv=>?_⟩
 simp [World.cell?,World.alloc,-World.alloc_eq,hv]
theorem const_made (w:World) (C:Array Value) (n:Nat):∃ w1,(convert 23 23 (.slice (some ⟨w.heap.size,0,none⟩) n n)).run Tryz.prog (w.alloc (.cells C 5)).drew=.ok (.slice (some ⟨w.heap.size,0,none⟩) n n) w1∧New w w1 ∧
 ∀ i v,C[i]? = some v→w1.cell? ⟨w.heap.size,i,none⟩=some v:=by
 refine ⟨_,Lib.run_convert_bytes_const (P:=Tryz.prog) w.drew 23 5 C n n Tryz.underlying23 Tryz.underlying5,((New.refl w).drew).alloc _,fun i v hv=>?_⟩
 show (w.alloc (.cells C 5 (C.size,C.size + 1))).cell? ⟨w.heap.size,i,none⟩=_
 simp [World.cell?,World.alloc,-World.alloc_eq,hv]
theorem line_ok (p b off c:Nat) (x:UInt8) (hx:x=97∨x=98) (hc:8≤c) (w:World) (hT:Tabs w) (h:Blk w p 176 #[.slice (some ⟨b,off,none⟩) 8 c,.int .i64 0,.int .i64 0,.int .i64 0]) (hb:Bts w b off (wholeL x)) :
 Calls Tryz.prog 148 #[.pointer (some ⟨p,0,none⟩)] w fun e w'=>e=.returned (.tuple #[.int .i64 6,.bool true])∧New w w':=by
 have c0:w.cell? ⟨p,0,none⟩=some (.slice (some ⟨b,off,none⟩) 8 c):=h.cell 0
 have c3:w.cell? ⟨p,3,none⟩=some (.int .i64 0):=h.cell 3
 have HI:=Lib.hid (whole_index x hx)
 have hsl:∀ W,(Instr.sliceAt 23 (.slice (some ⟨b,off,none⟩) 8 c) (some (.int .i64 0)) none none).run Tryz.prog W=.ok (.slice (some ⟨b,off,none⟩) 8 c) W:=fun W=>by
  rw [run_sliceAt_slice (P:=Tryz.prog) W _ _ _ _ _ Tryz.underlying23]
  go_simp
 go_enter Tryz.func148,Tryz.ntmps148
 go_wp2_with fail
 obtain ⟨w1,hcv,n1,hC⟩:=const_made w #[.int .u8 13,.int .u8 10] 2
 have hsep:∀ i,i < 2→w1.cell? ((⟨w.heap.size,0,none⟩:Addr).add i)=some (.int .u8 (([13,10]:List Int).getD i 0)):=by
  intro i hi
  rw [Addr.add_lit,Nat.zero_add]
  have:i=0∨i=1:=by omega
  rcases this with rfl | rfl
  · exact hC 0 _ rfl
  · exact hC 1 _ rfl
 have hT1:=hT.new n1
 obtain ⟨mm,hmm⟩:=hT1.ml
 have hb1:=hb.new n1
 have hix:=Tryz.bytes_Index_at ⟨b,off,none⟩ ⟨w.heap.size,0,none⟩ 8 c 2 2 (nums (wholeL x)) [13,10] mm w1 (nums_len _) rfl (nums_bd _) (by decide) (fun i hi=>by rw [Addr.add_lit]; exact hb1.cells i hi) hsep hc (by decide) (by decide) hmm
 rw [nums_back] at hix
 change Calls Tryz.prog 201 _ w1 fun e w'=>e=.returned (.int .i64 (Lib.index (wholeL x) [13,10]))∧_ at hix
 rw [whole_index x hx] at hix
 have k0:w1.cell? ⟨p,0,none⟩=some (.slice (some ⟨b,off,none⟩) 8 c):=Fr.cell n1 c0 id
 have k3:w1.cell? ⟨p,3,none⟩=some (.int .i64 0):=Fr.cell n1 c3 id
 have kb0:∀ o,(w.alloc o).cell? ⟨p,0,none⟩=some (.slice (some ⟨b,off,none⟩) 8 c):=fun o=>(h.alloc o).cell 0
 have kb3:∀ o,(w.alloc o).cell? ⟨p,3,none⟩=some (.int .i64 0):=fun o=>(h.alloc o).cell 3
 have kd0:∀ o,(w.drew.alloc o).cell? ⟨p,0,none⟩=some (.slice (some ⟨b,off,none⟩) 8 c):=fun o=>(h.drew.alloc o).cell 0
 have kd3:∀ o,(w.drew.alloc o).cell? ⟨p,3,none⟩=some (.int .i64 0):=fun o=>(h.drew.alloc o).cell 3
 go_region_law ((first
  | (go_simp
     go_at_call 201
     refine hix.mono ?_
     rintro e w2 ⟨rfl,q,rfl⟩
     have g0:(w1.drewN q).cell? ⟨p,0,none⟩=some (.slice (some ⟨b,off,none⟩) 8 c):=k0
     have g3:(w1.drewN q).cell? ⟨p,3,none⟩=some (.int .i64 0):=k3
     go_wp2_with fail)
  | fail))
 all_goals
  go_wp2
  go_ret2
  exact ⟨rfl,n1.drewN q⟩
theorem line_empty (p:Nat) (A:Option Addr) (c:Nat) (w:World) (h:Blk w p 176 #[.slice A 0 c,.int .i64 0,.int .i64 0,.int .i64 0]) :
 Calls Tryz.prog 148 #[.pointer (some ⟨p,0,none⟩)] w fun e w'=>e=.returned (.tuple #[.int .i64 0,.bool false])∧One p w w'∧Blk w' p 176 #[.slice A 0 c,.int .i64 0,.int .i64 0,.int .i64 0]:=by
 have c0:w.cell? ⟨p,0,none⟩=some (.slice A 0 c):=h.cell 0
 have c3:w.cell? ⟨p,3,none⟩=some (.int .i64 0):=h.cell 3
 obtain ⟨A2,hsl⟩:∃ A2,∀ W,(Instr.sliceAt 23 (.slice A 0 c) (some (.int .i64 0)) none none).run Tryz.prog W=.ok (.slice A2 0 c) W:=by
  rcases A with _ | A
  · exact ⟨none,fun W=>by
     rw [run_sliceAt_slice (P:=Tryz.prog) W _ _ _ _ _ Tryz.underlying23]
     go_simp⟩
  · exact ⟨some A,fun W=>by
     rw [run_sliceAt_slice (P:=Tryz.prog) W _ _ _ _ _ Tryz.underlying23]
     go_simp⟩
 go_enter Tryz.func148,Tryz.ntmps148
 go_wp2_with fail
 obtain ⟨w1,hcv,n1,hC⟩:=const_made w #[.int .u8 13,.int .u8 10] 2
 have hix:=Tryz.bytes_Index_longer A2 (some ⟨w.heap.size,0,none⟩) 0 c 2 2 w1 (by decide) (by decide) (by decide)
 have h1:=n1.blk h
 have k0:w1.cell? ⟨p,0,none⟩=some (.slice A 0 c):=h1.cell 0
 have k3:w1.cell? ⟨p,3,none⟩=some (.int .i64 0):=h1.cell 3
 have hp:=h1.lt
 have hf:w1.frozen? ⟨p,3,none⟩=false:=h1.frozen 3
 have kb0:∀ o,(w.alloc o).cell? ⟨p,0,none⟩=some (.slice A 0 c):=fun o=>(h.alloc o).cell 0
 have kb3:∀ o,(w.alloc o).cell? ⟨p,3,none⟩=some (.int .i64 0):=fun o=>(h.alloc o).cell 3
 have kd0:∀ o,(w.drew.alloc o).cell? ⟨p,0,none⟩=some (.slice A 0 c):=fun o=>(h.drew.alloc o).cell 0
 have kd3:∀ o,(w.drew.alloc o).cell? ⟨p,3,none⟩=some (.int .i64 0):=fun o=>(h.drew.alloc o).cell 3
 go_region_law ((first
  | (go_simp
     go_at_call 201
     refine hix.mono ?_
     rintro e w2 ⟨rfl,rfl⟩
     go_wp2_with fail)
  | fail))
 all_goals
  clear hcv hix c0 c3 kb0 kb3 kd0 kd3
  go_wp2_with (first | go_region | fail)
  go_ret2
  have hm:max (0:Int) (-1)=0:=rfl
  rw [hm]
  first
  | exact ⟨rfl,((New.to n1).trans ((One.refl p w2).set 3 _)),h1.set_ 3 _⟩
  | exact ⟨rfl,((New.to n1).trans ((One.refl p w2).set 3 _)).drew,h1.set_ 3 _⟩
  | exact ⟨rfl,(((New.to n1).drew).trans ((One.refl p w2.drew).set 3 _)),h1.drew.set_ 3 _⟩
theorem announced_plain (b off c:Nat) (x:UInt8) (hx:x=97∨x=98) (hc:6≤c) (w:World) (hb:Bts w b off (lineL x)) :
 Calls Tryz.prog 149 #[.slice (some ⟨b,off,none⟩) 6 c] w fun e w'=>e=.returned (.tuple #[.int .i64 0,.bool false])∧New w w':=by
 have hsf:Lib.hasSuffix (lineL x) [125]=false:=by rcases hx with rfl | rfl <;> decide
 obtain ⟨w1,hcv,n1,hC⟩:=const_made0 w #[.int .u8 125] 1
 have hb1:=hb.new n1
 have hcs:=Tryz.bytes_CutSuffix_all (some ⟨b,off,none⟩) (some ⟨w.heap.size,0,none⟩) 6 c 1 1 (nums (lineL x)) [125] w1 (nums_len _) rfl hc (by decide) ?_ ?_
 · rw [nums_back] at hcs
   change Calls Tryz.prog 202 _ w1 fun e w'=>e=.returned (.tuple #[_,.bool (Lib.hasSuffix (lineL x) [125])])∧_ at hcs
   rw [hsf] at hcs
   go_enter Tryz.func149,Tryz.ntmps149
   go_wp2_with fail
   refine hcs.mono ?_
   rintro e w2 ⟨rfl,rfl⟩
   go_wp2
   go_ret2
   exact ⟨rfl,n1⟩
 · exact fun _=>⟨b,off,rfl,hb1.cells⟩
 · refine fun _=>⟨w.heap.size,0,rfl,fun i hi=>?_⟩
   obtain rfl:i=0:=by omega
   exact hC 0 _ rfl
end Go.Proofs.YtliimglbbiebiaaGreatDoor
end

section
namespace Go.Proofs.YtliimglbbiebiaaGreatDoor
open Go.RowKit
theorem next_empty (p:Nat) (v:Value) (hv:Emp v) (w:World) (h:Blk w p 176 #[v,.int .i64 0,.int .i64 0,.int .i64 0]) :
 Calls Tryz.prog 106 #[.pointer (some ⟨p,0,none⟩)] w fun e w'=>e=.returned (.tuple #[.agg #[.int .i64 0,.slice none 0 0],.bool false])∧One p w w'∧Blk w' p 176 #[v,.int .i64 0,.int .i64 0,.int .i64 0]:=by
 obtain ⟨A,c,rfl⟩:=hv
 have hmf:∀ (fn:Fn) (first cap:Array Value) (w:World),(Instr.makeFunc fn first cap).run Tryz.prog w=.ok (.func fn first cap) w:=fun _ _ _ _=>rfl
 have n0:New w (w.alloc (.cells #[.int .i64 0,.slice none 0 0] 174)):=(New.refl w).alloc _
 have h0:=n0.blk h
 have r0:Blk (w.alloc (.cells #[.int .i64 0,.slice none 0 0] 174)) w.heap.size 174 #[.int .i64 0,.slice none 0 0]:=Blk.new _ _ _
 have hlt:=h.lt
 go_enter Tryz.func106,Tryz.ntmps106
 go_wp2_with fail
 refine (literal_zero p A 0 c (by omega) _ h0).mono ?_
 rintro e w1 ⟨rfl,o1,s1,h1⟩
 have r1:=o1.blk r0 (by omega)
 go_wp2_with fail
 refine (line_empty p A c _ h1).mono ?_
 rintro e w2 ⟨rfl,o2,h2⟩
 have r2:=o2.blk r1 (by omega)
 obtain ⟨k0,k1⟩:=r2.all2
 have f0:=r2.froz
 go_wp2_with fail
 have hR:=r2.over2 (.int .i64 0) (.slice none 0 0)
 refine bodyPost_ret (results_cellt rfl _ _ rfl rfl (loadFr hR)) rfl ⟨rfl,Fr.setCell (Fr.setCell ((New.to n0).trans (o1.trans o2)) (p:=⟨w.heap.size,0,none⟩) (fun h=>absurd h (Nat.lt_irrefl _)) (.int .i64 0)) (p:=⟨w.heap.size,1,none⟩) (fun h=>absurd h (Nat.lt_irrefl _)) (.slice none 0 0),?_⟩
 exact (h2.far (p:=⟨w.heap.size,0,none⟩) (by show p≠w.heap.size; omega) _).far (p:=⟨w.heap.size,1,none⟩) (by show p≠w.heap.size; omega) _
theorem Bts.rd {w:World} {b off:Nat} {l:List UInt8} (h:Bts w b off l) (c:Nat) (hc:l.length≤c):Rd (intE .u8) w (.slice (some ⟨b,off,none⟩) l.length c) (nums l):=by
 refine ⟨_,_,by rw [nums_len],by rw [nums_len]; exact hc,fun _=>⟨_,_,rfl,fun i x hx j u hu=>?_⟩⟩
 have hj:j=0:=by
  rcases j with _ | j
  · rfl
  · simp [intE] at hu
 subst hj
 obtain rfl:u=.int .u8 x:=by simp [intE] at hu; exact hu.symm
 unfold nums at hx
 rw [List.getElem?_map] at hx
 cases hl:l[i]? with
 | none=>rw [hl] at hx; cases hx
 | some y =>
   rw [hl] at hx
   obtain rfl:(y.toNat:Int)=x:=by simpa using hx
   have:=h i y hl
   show w.cell? ⟨b,off + (i * 1 + 0),none⟩=_
   rw [Nat.mul_one,Nat.add_zero]
   exact this
theorem lineL_len (x:UInt8):(lineL x).length=6:=rfl
theorem next_line (p b off c:Nat) (x:UInt8) (hx:x=97∨x=98) (hc:8≤c) (hbp:b≠p) (w:World) (_hT:Tabs w) (h:Blk w p 176 #[.slice (some ⟨b,off,none⟩) 8 c,.int .i64 0,.int .i64 0,.int .i64 0]) (hb:Bts w b off (wholeL x)) (_hblt:b < w.heap.size) (hpt:∀ w',One p w w'→Tabs w') :
 Calls Tryz.prog 106 #[.pointer (some ⟨p,0,none⟩)] w fun e w'=>∃ d v,e=.returned (.tuple #[.agg #[.int .i64 1,d],.bool true])∧One p w w'∧Own (intE .u8) 5 w.heap.size w' d (nums (lineL x)) ∧
  Emp v∧Blk w' p 176 #[v,.int .i64 0,.int .i64 0,.int .i64 0]:=by
 have hmf:∀ (fn:Fn) (first cap:Array Value) (w:World),(Instr.makeFunc fn first cap).run Tryz.prog w=.ok (.func fn first cap) w:=fun _ _ _ _=>rfl
 have n0:New w (w.alloc (.cells #[.int .i64 0,.slice none 0 0] 174)):=(New.refl w).alloc _
 have h0:=n0.blk h
 have r0:Blk (w.alloc (.cells #[.int .i64 0,.slice none 0 0] 174)) w.heap.size 174 #[.int .i64 0,.slice none 0 0]:=Blk.new _ _ _
 have hlt:=h.lt
 have hb0:=hb.new n0
 have s0:(w.alloc (.cells #[.int .i64 0,.slice none 0 0] 174)).heap.size=w.heap.size + 1:=by rw [World.size_alloc]
 have HPT:=Lib.hid hpt
 have hc6:¬ (c:Int) < 6:=by omega
 have hsl:∀ W,(Instr.sliceAt 23 (.slice (some ⟨b,off,none⟩) 8 c) (some (.int .i64 0)) (some (.int .i64 6)) none).run Tryz.prog W=.ok (.slice (some ⟨b,off,none⟩) 6 c) W:=fun W=>by
  rw [run_sliceAt_slice (P:=Tryz.prog) W _ _ _ _ _ Tryz.underlying23]
  go_simp
 have hsl2:∀ W,(Instr.sliceAt 23 (.slice (some ⟨b,off,none⟩) 8 c) none (some (.int .i64 6)) none).run Tryz.prog W=.ok (.slice (some ⟨b,off,none⟩) 6 c) W:=fun W=>by
  rw [run_sliceAt_slice (P:=Tryz.prog) W _ _ _ _ _ Tryz.underlying23]
  go_simp
 clear hpt
 go_enter Tryz.func106,Tryz.ntmps106
 go_wp2_with fail
 refine (literal_zero p (some ⟨b,off,none⟩) 8 c (by omega) _ h0).mono ?_
 rintro e w1 ⟨rfl,o1,s1,h1⟩
 have r1:=o1.blk r0 (by omega)
 have hb1:=hb0.fr o1 hbp
 have o01:=(New.to n0).trans o1
 go_wp2_with fail
 refine (line_ok p b off c x hx hc _ (HPT.out _ o01) h1 hb1).mono ?_
 rintro e w2 ⟨rfl,m2⟩
 have r2:=m2.blk r1
 have h2:=m2.blk h1
 have hb2:=hb1.new m2
 have o02:=o01.trans (New.to m2)
 obtain ⟨k0,k1,k2,k3⟩:=h2.all4
 clear r0 r1 h0 h1 hb0 hb1 o01 o1
 go_wp2_with (first | go_region | fail)
 have hb3:Bts w2.drew b off (lineL x):=Bts.take hb2 6
 refine (announced_plain b off c x hx (by omega) _ hb3).mono ?_
 rintro e w3 ⟨rfl,m3⟩
 have m23:New w2 w3:=Fr.trans (New.refl w2).drew m3
 have r3:=m23.blk r2
 have h3:=m23.blk h2
 have hrd:Rd (intE .u8) w3 (.slice (some ⟨b,off,none⟩) 6 c) (nums (lineL x)):=(hb3.new m3).rd c (by rw [lineL_len]; omega)
 have o03:=o02.trans (New.to m23)
 have s3:=o03.size
 have l3:=r3.lt
 clear k0 k1 k2 k3 r2 h2 hb2 hb3 o02 m2 m3
 obtain ⟨k0,k1,k2,k3⟩:=h3.all4
 go_wp2_with (first | go_region | fail)
 refine (finish_all p 1 _ (nums (lineL x)) b off 8 c (by omega) hc _ _ _ _ h3 hrd (by rw [nums_len,lineL_len]; decide) (by simpa [Value.ownBlock] using hbp)).mono ?_
 rintro e w4 ⟨d,v,rfl,o4,hd,hv,h4⟩
 have r4:=o4.blk r3 (by omega)
 obtain ⟨q0,q1⟩:=r4.all2
 have f4:=r4.froz
 obtain ⟨dA,dC,rfl,_⟩:=hd.form
 go_wp2
 have hR:=r4.over2 (.int .i64 1) (.slice dA (nums (lineL x)).length dC)
 refine bodyPost_ret (results_cellt rfl _ _ rfl rfl (loadFr hR)) rfl ⟨_,v,rfl,Fr.setCell (Fr.setCell (o03.trans o4) (p:=⟨w.heap.size,0,none⟩) (fun h=>absurd h (Nat.lt_irrefl _)) (.int .i64 1)) (p:=⟨w.heap.size,1,none⟩) (fun h=>absurd h (Nat.lt_irrefl _)) (.slice dA (nums (lineL x)).length dC),?_,hv,?_⟩
 · refine (hd.mono s3).fr (One.over2 w4 w.heap.size _ _) fun g hg e=>?_
   have:=(hd.block hg).1
   have e:g=w.heap.size:=e
   omega
 · exact (h4.far (p:=⟨w.heap.size,0,none⟩) (by show p≠w.heap.size; omega) _).far (p:=⟨w.heap.size,1,none⟩) (by show p≠w.heap.size; omega) _
end Go.Proofs.YtliimglbbiebiaaGreatDoor
end

section
namespace Go.Proofs.YtliimglbbiebiaaGreatDoor
open Go.RowKit
attribute [local go_sem] Oper.semAt_some
structure Frm where
 k:Int
 A:Option Addr
 n:Nat
 c:Nat
def Frm.val (x:Frm):Value:=.agg #[.int .i64 x.k,.slice x.A x.n x.c]
def frmE:Elem Frm where
 enc x:=[.int .i64 x.k,.slice x.A x.n x.c]
 sz:=2
 len _:=rfl
 one x u hu:=by simp at hu; rcases hu with rfl | rfl <;> rfl
 pos:=by omega
theorem frm_info:(Tryz.prog.info? 174).map (fun i=>(i.zero,i.size,i.bytes))=some (some (.agg #[.int .i64 0,.slice none 0 0]),2,32):=by kernel_rfl
theorem own_bts {base:Nat} {w:World} {v:Value} {l:List UInt8} (h:Own (intE .u8) 5 base w v (nums l)) (hl:l≠[]) :
 ∃ b off c,v=.slice (some ⟨b,off,none⟩) l.length c∧l.length≤c∧Bts w b off l∧v.ownBlock=some b∧base≤b∧b < w.heap.size:=by
 obtain ⟨A,c,rfl,hc,h3⟩:=h.rd
 rw [nums_len] at hc
 obtain ⟨b,off,rfl,hcell⟩:=h3 (by cases l <;> simp [nums] at hl ⊢)
 refine ⟨b,off,c,by rw [nums_len],hc,fun i x hx=>?_,rfl,h.block rfl⟩
 have:=hcell i (x.toNat:Int) (by unfold nums; rw [List.getElem?_map,hx]; rfl) 0 _ rfl
 have e:(intE .u8).sz=1:=rfl
 rw [e,Nat.mul_one,Nat.add_zero] at this
 exact this
theorem rd_one {α:Type} {E:Elem α} {w:World} {g:Nat} {t:TypeId} {x:α} (h:Blk w g t (E.enc x).toArray):Rd E w (.slice (some ⟨g,0,none⟩) 1 1) [x]:=by
 refine ⟨_,1,rfl,Nat.le_refl _,fun _=>⟨g,0,rfl,fun i y hy j u hu=>?_⟩⟩
 have hi:i=0:=by
  rcases i with _ | i
  · rfl
  · simp at hy
 subst hi
 obtain rfl:x=y:=by simpa using hy
 have:=h.cell j
 rw [Nat.zero_mul,Nat.zero_add,Nat.zero_add]
 rw [this]
 simpa using hu
theorem fall_any (p:Nat) (w:World):Calls Tryz.prog 76 #[.pointer (some ⟨p,0,none⟩)] w fun e w'=>e=.returned (.func (.func 105) #[] #[.pointer (some ⟨w.heap.size,0,none⟩)])∧w'=w.alloc (.cells #[.pointer (some ⟨p,0,none⟩)] 126):=by
 have hmf:∀ (fn:Fn) (first cap:Array Value) (w:World),(Instr.makeFunc fn first cap).run Tryz.prog w=.ok (.func fn first cap) w:=fun _ _ _ _=>rfl
 go_enter Tryz.func76,Tryz.ntmps76
 go_wp2
 go_ret
 exact ⟨rfl,rfl⟩
theorem split_line (b off c:Nat) (x:UInt8) (hx:x=97∨x=98) (hc:8≤c) (w:World) (hT:Tabs w) (hb:Bts w b off (wholeL x)) :
 Calls Tryz.prog 48 #[.slice (some ⟨b,off,none⟩) 8 c] w fun e w'=>(∃ A C,e=.returned (.tuple #[.slice A 1 C,.int .i64 0]))∧New w w':=by
 obtain ⟨i0,hi,hz0,hz1,hz2⟩:=info_parts frm_info
 have hrd:Rd (intE .u8) w (.slice (some ⟨b,off,none⟩) 8 c) (nums (wholeL x)):=hb.rd c hc
 have HT:=Lib.hid hT
 clear hT
 refine (callsIn_wide (n:=6)).1 ?_
 refine callsIn_of_wp_marks Tryz.func48 rfl trivial ?_ rfl
 simp only [Tryz.ntmps48,List.size_toArray,List.length_cons,List.length_nil,Nat.reduceAdd,Nat.reduceSub,Array.replicate_succ,Array.replicate_zero,List.push_toArray,List.append_toArray,List.nil_append,List.cons_append]
 gi_wp2_with (first
  | (refine ⟨trivial,?_⟩; gi_at_call 52
     refine (callsIn_wide.2 (fnew_any _)).mono ?_
     rintro e w1 ⟨rfl,rfl⟩
     have b1:=Blk.new w 176 #[.slice none 0 0,.int .i64 0,.int .i64 0,.int .i64 0]
     have n1:New w (w.alloc (.cells #[.slice none 0 0,.int .i64 0,.int .i64 0,.int .i64 0] 176)):=(New.refl w).alloc _
     have hrd1:=hrd.alloc (.cells #[.slice none 0 0,.int .i64 0,.int .i64 0,.int .i64 0] 176))
  | (refine ⟨trivial,?_⟩; gi_at_call 53
     refine (callsIn_wide.2 (feed_nil w.heap.size _ _ _ b1 hrd1 (by rw [nums_len]; show 8≤100000; omega))).mono ?_
     rintro e w2 ⟨rfl,o2,v2,b2,hv2⟩
     have n2:=New.one n1 o2 (Nat.le_refl _))
  | (refine ⟨trivial,?_⟩; gi_at_call 76
     refine (callsIn_wide.2 (fall_any w.heap.size _)).mono ?_
     rintro e w3 ⟨rfl,rfl⟩)
  | fail)
 have bO:Blk ((w2.alloc (.cells #[.slice none 0 0] 121)).alloc (.cells #[.pointer (some ⟨w.heap.size,0,none⟩)] 126)) w2.heap.size 121 #[.slice none 0 0]:=(Blk.new _ _ _).alloc _
 have bA:Blk ((w2.alloc (.cells #[.slice none 0 0] 121)).alloc (.cells #[.pointer (some ⟨w.heap.size,0,none⟩)] 126)) (w2.heap.size + 1) 126 #[.pointer (some ⟨w.heap.size,0,none⟩)]:=Blk.new1 _ _ _ _
 have bS:=(b2.alloc (.cells #[.slice none 0 0] 121)).alloc (.cells #[.pointer (some ⟨w.heap.size,0,none⟩)] 126)
 have hvL:=(hv2.alloc (.cells #[.slice none 0 0] 121)).alloc (.cells #[.pointer (some ⟨w.heap.size,0,none⟩)] 126)
 have nL:=(n2.alloc (.cells #[.slice none 0 0] 121)).alloc (.cells #[.pointer (some ⟨w.heap.size,0,none⟩)] 126)
 have hp2:=b2.lt
 generalize ((w2.alloc (.cells #[.slice none 0 0] 121)).alloc (.cells #[.pointer (some ⟨w.heap.size,0,none⟩)] 126))=wL at *
 have hlA:=bA.lt
 obtain ⟨g,o,c',rfl,hc',hbt,hob,hg0,hg1⟩:=own_bts hvL (by simp [wholeL])
 have hgp:g≠w.heap.size:=fun e=>hvL.blk_ne bS (by decide) (by rw [← e]; exact hob)
 clear b1 n1 hrd1 o2 b2 n2 hv2
 generalize w2.heap.size=OB at *
 refine wpIn_rangeFunc_of (α:=Frm) rfl (by decide) (gf:=105) (lb:=#[.pointer (some ⟨OB + 1,0,none⟩)]) rfl trivial (enters_of Tryz.func105 (by kernel_rfl) rfl) (encs:=fun x=>#[x.val]) (fun _=>rfl) (S:=fun xs=>xs.length=1) (Sp:=fun _=>False)
  (fun pre W=>pre≠[]→(∃ A C,Blk W OB 121 #[.slice A pre.length C])∧New w W∧(∃ v,Emp v∧Blk W w.heap.size 176 #[v,.int .i64 0,.int .i64 0,.int .i64 0])∧Blk W (OB + 1) 126 #[.pointer (some ⟨w.heap.size,0,none⟩)])
  (fun pre _ W=>pre=[]∧Blk W OB 121 #[.slice none 0 0]∧New w W∧(∃ v,Emp v∧Blk W w.heap.size 176 #[v,.int .i64 0,.int .i64 0,.int .i64 0])∧Blk W (OB + 1) 126 #[.pointer (some ⟨w.heap.size,0,none⟩)])
  (fun _ _ _=>False)
  (ownFrom_of fun s W W' h t hs=>by
    obtain ⟨⟨A,C,h1⟩,h2,⟨v,hv,h3⟩,h4⟩:=h hs
    exact ⟨⟨A,C,t.blk h1⟩,t.of_fr h2 nL.size,⟨v,hv,t.blk h3⟩,t.blk h4⟩)
  (fun pre x=>ownFrom_of fun _ W W' h t=>by
    obtain ⟨h0,h1,h2,⟨v,hv,h3⟩,h4⟩:=h
    exact ⟨h0,t.blk h1,t.of_fr h2 nL.size,⟨v,hv,t.blk h3⟩,t.blk h4⟩)
  (fun _=>ownFrom_of fun _ _ _ h _=>h) (fun h=>absurd rfl h) ?hseq
  (fun x a' W=>∃ Bx,Blk W Bx 174 #[.int .i64 x.k,.slice x.A x.n x.c]∧a'={ tmps:=#[.slice (some ⟨b,off,none⟩) 8 c,undef,.slice none 0 0,.int .i64 0,.pointer (some ⟨w.heap.size,0,none⟩),.pointer (some ⟨OB,0,none⟩),.pointer (some ⟨Bx,0,none⟩),.pointer (some ⟨w.heap.size,0,none⟩),.pointer (some ⟨w.heap.size,0,none⟩),.slice (some ⟨b,off,none⟩) 8 c,.tuple #[],.pointer (some ⟨w.heap.size,0,none⟩),.func (.func 105) #[] #[.pointer (some ⟨OB + 1,0,none⟩)],x.val,undef,undef,undef,undef,undef,undef,undef],defers:=[] })
  (fun x a'=>ownFrom_of fun _ W W' h t=>by
    obtain ⟨Bx,h1,h2⟩:=h
    exact ⟨Bx,t.blk h1,h2⟩)
  ?hassign ?hbody ?hdone (fun _ _ _ _ _ h=>h.elim)
 case hassign =>
  intro l pre x W K hJ hK
  obtain ⟨h0,h1,h2,⟨v,hv,h3⟩,h4⟩:=hJ
  unfold Frm.val at hK ⊢
  gi_wp2
  exact hK _ _ ((KeepsOthers.alloc _ _).from _) ⟨h0,h1.alloc _,h2.alloc _,⟨v,hv,h3.alloc _⟩,h4.alloc _⟩ ⟨W.heap.size,Blk.new _ _ _,rfl⟩
 case hbody =>
  rintro l pre ⟨xk,xA,xn,xc⟩ a' W hl hr ⟨rfl,h1,h2,⟨v,hv,h3⟩,h4⟩ ⟨Bx,bX,rfl⟩
  have c0:=h1.cell 0
  have c1:W.cell? ⟨OB,0,none⟩=some (.slice none 0 0):=c0
  obtain ⟨x0,x1⟩:=bX.all2
  have hn1:=Own.nil frmE 174 w.heap.size (W.alloc (.cells #[.int .i64 xk,.slice xA xn xc] 174))
  have hr1:Rd frmE (W.alloc (.cells #[.int .i64 xk,.slice xA xn xc] 174)) (.slice (some ⟨W.heap.size,0,none⟩) 1 1) [⟨xk,xA,xn,xc⟩]:=rd_one (E:=frmE) (x:=⟨xk,xA,xn,xc⟩) (t:=174) (Blk.new _ _ _)
  gi_wp2_with (gi_at_builtin; refine wpListIn_append (E:=frmE) rfl _ _ _ rfl Tryz.underlying121 hi hz0 hz1 hz2 rfl hn1 rfl hr1 rfl (by unfold maxLen; simp) (by simp) (by have:=h2.size; rw [World.size_alloc]; omega) ?_; intro v1 w1 hv1 hf1 hl1; have m1:New W w1:=Fr.trans ((New.refl W).alloc _) (hf1.mono fun i _ e=>by cases e); have e1:=m1.blk h1; have c2:w1.cell? ⟨OB,0,none⟩=some (.slice none 0 0):=e1.cell 0; have f2:w1.frozen? ⟨OB,0,none⟩=false:=e1.frozen 0; obtain ⟨A1,C1,rfl,_⟩:=hv1.form)
  refine ⟨keeps_below ((New.to m1).trans ((One.refl OB w1).set 0 _)) (fun k hk=>by have hk:k=OB:=hk; omega),fun _=>⟨⟨A1,C1,e1.set_ 0 _⟩,New.one (h2.trans m1) ((One.refl OB w1).set 0 _) (by omega),⟨v,hv,(m1.blk h3).far (p:=⟨OB,0,none⟩) (by show w.heap.size≠OB; omega) _⟩,(m1.blk h4).far (p:=⟨OB,0,none⟩) (by show OB + 1≠OB; omega) _⟩⟩
 case hdone =>
  intro D xs W hD hS hI hK
  obtain ⟨⟨A,C,h1⟩,h2,⟨v,hv,h3⟩,h4⟩:=hI (by rintro rfl; cases hS)
  rw [hS] at h1
  obtain ⟨sA,sc,rfl⟩:=hv
  have c0:W.cell? ⟨OB,0,none⟩=some (.slice A 1 C):=h1.cell 0
  have hD2:W.drew.heap[D]? = some (.deferred (some [])):=hK
  gi_wp2_with fail
  refine wpIn_wide.2 ?_
  go_region_held3 (fun W'=>W'.cell? ⟨OB,0,none⟩=some (.slice A 1 C)) (first | go_keep | assumption) ((first
   | (go_at_call 77
      refine (left_any w.heap.size sA 0 sc _ _ _ _ h3.drew).mono ?_
      rintro e w4 ⟨rfl,rfl⟩
      have c4:W.drew.cell? ⟨OB,0,none⟩=some (.slice A 1 C):=c0)
   | fail))
  gi_wp2
  refine ⟨by simp,.inl ⟨_,_,rfl,run_takeDeferred hD2,?_⟩⟩
  refine ⟨_,results_tmp2 rfl _ _ _,⟨A,C,rfl⟩,?_⟩
  exact Fr.trans' h2.drew (Fr.of_grown (S:=fun k=>D=k) (grownBy_putObj' _ D _) fun i hi=>by injection hi) fun i hi hk=>by have:=nL.size; omega
 case hseq =>
  intro l K Kx W1 hB hKm hKxm k1 i1 hround
  have m1:New wL W1:=Fr.of_below hB fun i h1 h2=>absurd h1 (by omega)
  have s1:=m1.blk bS
  have a1:=m1.blk bA
  have o1:=m1.blk bO
  have t1:=hbt.new m1
  have ca:W1.cell? ⟨OB + 1,0,none⟩=some (.pointer (some ⟨w.heap.size,0,none⟩)):=a1.cell 0
  have nW:=nL.trans m1
  refine callsIn_of_wp Tryz.func105 rfl trivial ?_ rfl
  simp only [Tryz.ntmps105,List.size_toArray,List.length_cons,List.length_nil,Nat.reduceAdd,Nat.reduceSub,Array.replicate_succ,Array.replicate_zero,List.push_toArray,List.append_toArray,List.nil_append,List.cons_append]
  gi_wp2_with fail
  refine wpIn_loop_rounds 2 ?_
  rw [roundsIn_succ]
  gi_wp2_with fail
  refine ⟨trivial,?_⟩
  refine (callsIn_wide.2 (next_line w.heap.size g o c' x hx hc' hgp W1 (HT.out.new nW) s1 t1 (Nat.lt_of_lt_of_le hg1 m1.size) fun w' o'=>HT.out.new (New.one nW o' (Nat.le_refl _)))).mono ?_
  rintro e w3 ⟨d,v,rfl,o3,hd,hv,s3⟩
  obtain ⟨dA,dC,rfl,_⟩:=hd.form
  obtain ⟨fn,tmps,assign,body,hy,hR⟩:=hround [] ⟨1,dA,(nums (lineL x)).length,dC⟩ (w3.alloc (.cells #[.int .i64 1,.slice dA (nums (lineL x)).length dC] 174))
   ⟨rfl,(o3.blk o1 (by omega)).alloc _,(New.one nW o3 (Nat.le_refl _)).alloc _,⟨v,hv,s3.alloc _⟩,(o3.blk a1 (by omega)).alloc _⟩
   (hKm _ _ k1 (keeps_below (o3.alloc _) fun k hk=>by have hk:k=w.heap.size:=hk; omega))
  dsimp only [Frm.val] at hy
  gi_wp2_with fail
  refine hR.mono ?_
  rintro e W5 (⟨rfl,hI5,k5⟩ | ⟨rfl,c0,hf,_⟩)
  · obtain ⟨⟨A5,C5,q1⟩,q2,⟨v5,hv5,q3⟩,q4⟩:=hI5 (by simp)
    have ca5:W5.cell? ⟨OB + 1,0,none⟩=some (.pointer (some ⟨w.heap.size,0,none⟩)):=q4.cell 0
    clear hR hy hround hd o3 hv s3 s1 a1 o1 t1 ca nW
    gi_wp2_with fail
    rw [roundsIn_succ]
    gi_wp2_with fail
    refine ⟨trivial,?_⟩
    refine (callsIn_wide.2 (next_empty w.heap.size v5 hv5 W5 q3)).mono ?_
    rintro e w6 ⟨rfl,o6,s6⟩
    gi_wp2
    all_goals
     refine ⟨fun _ h=>(by cases h),?_⟩
     gi_wp2
    all_goals
     refine bodyPost_ret (results_none rfl _ _ _) rfl ?_
     exact ⟨⟨_,rfl⟩,.inl ⟨[⟨1,dA,(nums (lineL x)).length,dC⟩],rfl,fun _=>⟨⟨A5,C5,(o6.blk q1 (by omega)).alloc _⟩,(New.one q2 o6 (Nat.le_refl _)).alloc _,⟨v5,hv5,s6.alloc _⟩,(o6.blk q4 (by omega)).alloc _⟩,
      hKm _ _ k5 (keeps_below (o6.alloc _) fun k hk=>by have hk:k=w.heap.size:=hk; omega)⟩⟩
  · exact hf.elim
end Go.Proofs.YtliimglbbiebiaaGreatDoor
end

