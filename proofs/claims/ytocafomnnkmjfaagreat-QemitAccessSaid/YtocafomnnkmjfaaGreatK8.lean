import Derived.Test.YtocafomnnkmjfaaGreatK5
set_option maxRecDepth 100000
set_option maxHeartbeats 2000000
namespace Go.Proofs.YtocafomnnkmjfaaGreat
open Go.RowKit
theorem zu6 (g:Nat) (s:Ck) (o:BOp) (w:World) (hg:Has w g (zf7 s)) (hw:s.written<268435456) (hf:znn o=true) (h20:(o.code==20)=false) (hp:zyw s o (zjq o.code) true=true)
  (h3:(o.code==23)=true) (h4:leaves o.code=false) (hN':hasN o.code=true):
  Calls Tryz.prog 110 #[.pointer (some ⟨g,0,none⟩),opV o,.bool (zjq o.code),.bool true] w (zad g w (zf1 s o (zjq o.code) true)):=by
 have hglt:=hg.lt;have hgl1:=ztm hglt;have q0:w.cell? ⟨g,0,none⟩=some (.int .i64 (s.marks:Int)):=(hg 0 _ rfl).1;have q1:w.cell? ⟨g,1,none⟩=some (.int .u32 (s.written:Int)):=(hg 1 _ rfl).1;have q2:w.cell? ⟨g,2,none⟩=some (.bool s.changed):=(hg 2 _ rfl).1;have f0:=(hg 0 _ rfl).2;have f1:=(hg 1 _ rfl).2;have f2:=(hg 2 _ rfl).2;clear hg;have hl2:(reads o).length≤2:=(by unfold reads;split<;>split<;>simp);obtain ⟨hI,hd,ha,hb,-⟩:=zns hf;have HF:=Lib.hid hf;have HP:=Lib.hid hp;clear hf hp
 obtain ⟨n,hn⟩:∃ n,(reads o).length=n:=⟨_,rfl⟩
 rw [hn] at hl2;have HN:=Lib.hid hn;clear hn;unfold opV
 go_enter Tryz.func110,Tryz.ntmps110
 go_wp2_with (first|(go_at_call 162;refine (z43 _ _).mono ?_;rintro e w1 ⟨rfl,hb1⟩;obtain ⟨hc1,hf1⟩:=bcell hb1;have hz1:=hb1.size;try simp only [World.size_alloc] at hz1;have hy1_0:w.heap.size<w1.heap.size:=zO;have hc1_0:=fun o=>hc1 (w.heap.size) o Ttb3;have hf1_0:=fun o=>hf1 (w.heap.size) o Ttb3;have hy1_1:g<w1.heap.size:=zO;have hc1_1:=fun o=>hc1 (g) o Ttb3;have hf1_1:=fun o=>hf1 (g) o Ttb3)|(go_at_call 163;refine (zl1 _ _ _).mono ?_;rintro e w' ⟨rfl,rfl⟩)|(go_at_call 164;refine (zjr _ _).mono ?_;rintro e w' ⟨rfl,rfl⟩)|(go_at_call 165;refine (z1f o _).mono ?_;rintro e w2 ⟨r,rfl,hown,hb2⟩;rw [HN.out] at hown;obtain ⟨A,c,rfl,hs,-,-,-⟩:=zx6 hown;clear hown;obtain ⟨hc2,hf2⟩:=bcell hb2;have hz2:=hb2.size;try simp only [World.size_alloc] at hz2;have hy2_0:w.heap.size<w2.heap.size:=zO;have hc2_0:=fun o=>hc2 (w.heap.size) o Ttb3;have hf2_0:=fun o=>hf2 (w.heap.size) o Ttb3;have hy2_1:w1.heap.size<w2.heap.size:=zO;have hc2_1:=fun o=>hc2 (w1.heap.size) o Ttb3;have hf2_1:=fun o=>hf2 (w1.heap.size) o Ttb3;have hy2_2:g<w2.heap.size:=zO;have hc2_2:=fun o=>hc2 (g) o Ttb3;have hf2_2:=fun o=>hf2 (g) o Ttb3))
 go_loop [102] (fun i=>∃ k:Nat,k≤n∧i= .int .i64 k∧Hid (∀ x∈(reads o).take k,z02 s x=true)) (fun i=>n-(intOf i).toNat)
 case atStart=>exact ⟨0,Nat.zero_le _,rfl,by unfold Hid;simp⟩
 case round=>
  obtain ⟨k,hk,rfl,hq⟩:=hrel;by_cases hlt:k<n
  ·obtain ⟨b,off,x,rfl,hbb,hx,hc⟩:=zq6 hs (by rw [HN.out];exact hlt)
   have hx0:0≤x:=(z1j HF.out x (List.mem_of_getElem? hx)).1;have hx1:x<28:=(z1j HF.out x (List.mem_of_getElem? hx)).2;have HX:=Lib.hid hx;clear hx hs;by_cases h20x:x<20
   ·go_wp2
    go_round
    case rel=>
     refine ⟨k+1,by omega,by go_num,?_⟩;have hxx:=HX.out;unfold Hid at hq⊢;intro y hy;rw [List.take_add_one,List.mem_append] at hy;rcases hy with hy|hy
     ·exact hq y hy
     ·rw [hxx] at hy
      simp at hy;subst hy;simp [z02,h20x]
    case measure=>simp [intOf];omega
   ·have h20y:20≤x:=by omega
    clear h20x;have hbt:=zdt s.written x.toNat zO;by_cases htb:s.written.testBit x.toNat=true
    ·rw [htb] at hbt
     simp only [Bool.not_true] at hbt
     go_wp2
     go_round
     case rel=>
      refine ⟨k+1,by omega,by go_num,?_⟩;have hxx:=HX.out;unfold Hid at hq⊢;intro y hy;rw [List.take_add_one,List.mem_append] at hy;rcases hy with hy|hy
      ·exact hq y hy
      ·rw [hxx] at hy
       simp at hy;subst hy;simp [z02,htb]
     case measure=>simp [intOf];omega
    ·have htb':s.written.testBit x.toNat=false:=by simpa using htb
     rw [htb'] at hbt;simp only [Bool.not_false] at hbt;clear htb
     go_wp2
     go_ret
     refine zy8 ?_ rfl Ttb1;unfold zf1;rw [if_pos (by rw [HF.out,HP.out];rfl),if_neg (by rw [h20];simp),if_neg];intro hall;rw [List.all_eq_true] at hall;have:=hall x (List.mem_of_getElem? HX.out);simp [z02,htb'] at this;omega
  ·have hall:Hid ((reads o).all (z02 s)=true):=by
    unfold Hid;rw [List.all_eq_true];intro x hx;exact hq.out x (by rw [List.take_of_length_le (by rw [HN.out];omega)];exact hx)
   have hwv:=ybu HF.out;clear hq
   obtain ⟨d,hd⟩:∃ d,writes o=d:=⟨_,rfl⟩
   have hwc:=fun W=>ybr o W;rw [hd] at hwv;simp only [hd] at hwc;have HD:=Lib.hid hd;have HWC:=Lib.hid hwc;clear hd hwc;by_cases hw20:20≤d
   ·have hd0:0≤d:=by omega
    have hor:=zds s.written d.toNat zO zO
    cases hC:s.changed<;>cases hS:stores o.code
    all_goals (rw [hC] at q2;have HC:=Lib.hid hC;clear hC;go_wp2_with (go_at_call 118;refine (HWC.out _).mono ?_;rintro e w3 ⟨rfl,hb3⟩;obtain ⟨hc3,hf3⟩:=bcell hb3;have hz3:=hb3.size;try simp only [World.size_alloc,World.size_setCell,World.heap_drewN,World.size_drew] at hz3;have hy3_0:w.heap.size<w3.heap.size:=zO;have hc3_0:=fun o=>hc3 (w.heap.size) o Ttb3;have hf3_0:=fun o=>hf3 (w.heap.size) o Ttb3;have hy3_1:w1.heap.size<w3.heap.size:=zO;have hc3_1:=fun o=>hc3 (w1.heap.size) o Ttb3;have hf3_1:=fun o=>hf3 (w1.heap.size) o Ttb3;have hy3_2:g<w3.heap.size:=zO;have hc3_2:=fun o=>hc3 (g) o Ttb3;have hf3_2:=fun o=>hf3 (g) o Ttb3);go_region;all_goals go_wp2;go_ret)
    ·exact zy9 (s:=⟨s.marks,s.written|||2^d.toNat,decide (d<20)⟩) (by unfold zf1;rw [if_pos (by rw [HF.out,HP.out];rfl),if_neg (by rw [h20];simp),if_pos hall.out,HD.out,HC.out,hS];simp;try omega) rfl Ttb1 (has3 (by go_simp) (by go_simp) (by first|(go_simp;done)|exact World.cell?_setCell_same' _ _ _ (by go_simp)) (by go_simp) (by go_simp) (by go_simp))
    all_goals exact zy9 (s:=⟨s.marks,s.written|||2^d.toNat,true⟩) (by unfold zf1;rw [if_pos (by rw [HF.out,HP.out];rfl),if_neg (by rw [h20];simp),if_pos hall.out,HD.out,HC.out,hS];simp;try omega) rfl Ttb1 (has3 (by go_simp) (by go_simp) (by first|(go_simp;done)|exact World.cell?_setCell_same' _ _ _ (by go_simp)) (by go_simp) (by go_simp) (by go_simp))
   ·have hd1:d<20:=by omega
    clear hw20;by_cases hd0:0≤d
    ·cases hC:s.changed<;>cases hS:stores o.code
     all_goals (rw [hC] at q2;have HC:=Lib.hid hC;clear hC;go_wp2_with (go_at_call 118;refine (HWC.out _).mono ?_;rintro e w3 ⟨rfl,hb3⟩;obtain ⟨hc3,hf3⟩:=bcell hb3;have hz3:=hb3.size;try simp only [World.size_alloc,World.size_setCell,World.heap_drewN,World.size_drew] at hz3;have hy3_0:w.heap.size<w3.heap.size:=zO;have hc3_0:=fun o=>hc3 (w.heap.size) o Ttb3;have hf3_0:=fun o=>hf3 (w.heap.size) o Ttb3;have hy3_1:w1.heap.size<w3.heap.size:=zO;have hc3_1:=fun o=>hc3 (w1.heap.size) o Ttb3;have hf3_1:=fun o=>hf3 (w1.heap.size) o Ttb3;have hy3_2:g<w3.heap.size:=zO;have hc3_2:=fun o=>hc3 (g) o Ttb3;have hf3_2:=fun o=>hf3 (g) o Ttb3);go_ret)
     all_goals exact zy9 (s:=⟨s.marks,s.written,true⟩) (by unfold zf1;rw [if_pos (by rw [HF.out,HP.out];rfl),if_neg (by rw [h20];simp),if_pos hall.out,HD.out,HC.out,hS];simp;try omega) rfl Ttb1 (has3 (by go_simp) (by go_simp) (by first|(go_simp;done)|exact World.cell?_setCell_same' _ _ _ (by go_simp)) (by go_simp) (by go_simp) (by go_simp))
    ·have hd2:d<0:=by omega
     clear hd0
     cases hC:s.changed<;>cases hS:stores o.code
     all_goals (rw [hC] at q2;have HC:=Lib.hid hC;clear hC;go_wp2_with (go_at_call 118;refine (HWC.out _).mono ?_;rintro e w3 ⟨rfl,hb3⟩;obtain ⟨hc3,hf3⟩:=bcell hb3;have hz3:=hb3.size;try simp only [World.size_alloc,World.size_setCell,World.heap_drewN,World.size_drew] at hz3;have hy3_0:w.heap.size<w3.heap.size:=zO;have hc3_0:=fun o=>hc3 (w.heap.size) o Ttb3;have hf3_0:=fun o=>hf3 (w.heap.size) o Ttb3;have hy3_1:w1.heap.size<w3.heap.size:=zO;have hc3_1:=fun o=>hc3 (w1.heap.size) o Ttb3;have hf3_1:=fun o=>hf3 (w1.heap.size) o Ttb3;have hy3_2:g<w3.heap.size:=zO;have hc3_2:=fun o=>hc3 (g) o Ttb3;have hf3_2:=fun o=>hf3 (g) o Ttb3);go_ret)
     ·exact zy9 (s:=⟨s.marks,s.written,false⟩) (by unfold zf1;rw [if_pos (by rw [HF.out,HP.out];rfl),if_neg (by rw [h20];simp),if_pos hall.out,HD.out,HC.out,hS];simp;try omega) rfl Ttb1 (has3 (by go_simp) (by go_simp) (by first|(go_simp;done)|exact World.cell?_setCell_same' _ _ _ (by go_simp)) (by go_simp) (by go_simp) (by go_simp))
     all_goals exact zy9 (s:=⟨s.marks,s.written,true⟩) (by unfold zf1;rw [if_pos (by rw [HF.out,HP.out];rfl),if_neg (by rw [h20];simp),if_pos hall.out,HD.out,HC.out,hS];simp;try omega) rfl Ttb1 (has3 (by go_simp) (by go_simp) (by first|(go_simp;done)|exact World.cell?_setCell_same' _ _ _ (by go_simp)) (by go_simp) (by go_simp) (by go_simp))
theorem zu7 (g:Nat) (s:Ck) (o:BOp) (w:World) (hg:Has w g (zf7 s)) (hw:s.written<268435456) (hf:znn o=true) (h20:(o.code==20)=false) (hp:zyw s o (zjq o.code) true=true)
  (h3:(o.code==23)=true) (h4:leaves o.code=false) (hN':hasN o.code=false) (h0:(o.n !=0)=false):
  Calls Tryz.prog 110 #[.pointer (some ⟨g,0,none⟩),opV o,.bool (zjq o.code),.bool true] w (zad g w (zf1 s o (zjq o.code) true)):=by
 have hglt:=hg.lt;have hgl1:=ztm hglt;have q0:w.cell? ⟨g,0,none⟩=some (.int .i64 (s.marks:Int)):=(hg 0 _ rfl).1;have q1:w.cell? ⟨g,1,none⟩=some (.int .u32 (s.written:Int)):=(hg 1 _ rfl).1;have q2:w.cell? ⟨g,2,none⟩=some (.bool s.changed):=(hg 2 _ rfl).1;have f0:=(hg 0 _ rfl).2;have f1:=(hg 1 _ rfl).2;have f2:=(hg 2 _ rfl).2;clear hg;have hl2:(reads o).length≤2:=(by unfold reads;split<;>split<;>simp);obtain ⟨hI,hd,ha,hb,-⟩:=zns hf;have HF:=Lib.hid hf;have HP:=Lib.hid hp;clear hf hp
 obtain ⟨n,hn⟩:∃ n,(reads o).length=n:=⟨_,rfl⟩
 rw [hn] at hl2;have HN:=Lib.hid hn;clear hn;unfold opV
 go_enter Tryz.func110,Tryz.ntmps110
 go_wp2_with (first|(go_at_call 162;refine (z43 _ _).mono ?_;rintro e w1 ⟨rfl,hb1⟩;obtain ⟨hc1,hf1⟩:=bcell hb1;have hz1:=hb1.size;try simp only [World.size_alloc] at hz1;have hy1_0:w.heap.size<w1.heap.size:=zO;have hc1_0:=fun o=>hc1 (w.heap.size) o Ttb3;have hf1_0:=fun o=>hf1 (w.heap.size) o Ttb3;have hy1_1:g<w1.heap.size:=zO;have hc1_1:=fun o=>hc1 (g) o Ttb3;have hf1_1:=fun o=>hf1 (g) o Ttb3)|(go_at_call 163;refine (zl1 _ _ _).mono ?_;rintro e w' ⟨rfl,rfl⟩)|(go_at_call 164;refine (zjr _ _).mono ?_;rintro e w' ⟨rfl,rfl⟩)|(go_at_call 165;refine (z1f o _).mono ?_;rintro e w2 ⟨r,rfl,hown,hb2⟩;rw [HN.out] at hown;obtain ⟨A,c,rfl,hs,-,-,-⟩:=zx6 hown;clear hown;obtain ⟨hc2,hf2⟩:=bcell hb2;have hz2:=hb2.size;try simp only [World.size_alloc] at hz2;have hy2_0:w.heap.size<w2.heap.size:=zO;have hc2_0:=fun o=>hc2 (w.heap.size) o Ttb3;have hf2_0:=fun o=>hf2 (w.heap.size) o Ttb3;have hy2_1:w1.heap.size<w2.heap.size:=zO;have hc2_1:=fun o=>hc2 (w1.heap.size) o Ttb3;have hf2_1:=fun o=>hf2 (w1.heap.size) o Ttb3;have hy2_2:g<w2.heap.size:=zO;have hc2_2:=fun o=>hc2 (g) o Ttb3;have hf2_2:=fun o=>hf2 (g) o Ttb3))
 go_loop [102] (fun i=>∃ k:Nat,k≤n∧i= .int .i64 k∧Hid (∀ x∈(reads o).take k,z02 s x=true)) (fun i=>n-(intOf i).toNat)
 case atStart=>exact ⟨0,Nat.zero_le _,rfl,by unfold Hid;simp⟩
 case round=>
  obtain ⟨k,hk,rfl,hq⟩:=hrel;by_cases hlt:k<n
  ·obtain ⟨b,off,x,rfl,hbb,hx,hc⟩:=zq6 hs (by rw [HN.out];exact hlt)
   have hx0:0≤x:=(z1j HF.out x (List.mem_of_getElem? hx)).1;have hx1:x<28:=(z1j HF.out x (List.mem_of_getElem? hx)).2;have HX:=Lib.hid hx;clear hx hs;by_cases h20x:x<20
   ·go_wp2
    go_round
    case rel=>
     refine ⟨k+1,by omega,by go_num,?_⟩;have hxx:=HX.out;unfold Hid at hq⊢;intro y hy;rw [List.take_add_one,List.mem_append] at hy;rcases hy with hy|hy
     ·exact hq y hy
     ·rw [hxx] at hy
      simp at hy;subst hy;simp [z02,h20x]
    case measure=>simp [intOf];omega
   ·have h20y:20≤x:=by omega
    clear h20x;have hbt:=zdt s.written x.toNat zO;by_cases htb:s.written.testBit x.toNat=true
    ·rw [htb] at hbt
     simp only [Bool.not_true] at hbt
     go_wp2
     go_round
     case rel=>
      refine ⟨k+1,by omega,by go_num,?_⟩;have hxx:=HX.out;unfold Hid at hq⊢;intro y hy;rw [List.take_add_one,List.mem_append] at hy;rcases hy with hy|hy
      ·exact hq y hy
      ·rw [hxx] at hy
       simp at hy;subst hy;simp [z02,htb]
     case measure=>simp [intOf];omega
    ·have htb':s.written.testBit x.toNat=false:=by simpa using htb
     rw [htb'] at hbt;simp only [Bool.not_false] at hbt;clear htb
     go_wp2
     go_ret
     refine zy8 ?_ rfl Ttb1;unfold zf1;rw [if_pos (by rw [HF.out,HP.out];rfl),if_neg (by rw [h20];simp),if_neg];intro hall;rw [List.all_eq_true] at hall;have:=hall x (List.mem_of_getElem? HX.out);simp [z02,htb'] at this;omega
  ·have hall:Hid ((reads o).all (z02 s)=true):=by
    unfold Hid;rw [List.all_eq_true];intro x hx;exact hq.out x (by rw [List.take_of_length_le (by rw [HN.out];omega)];exact hx)
   have hwv:=ybu HF.out;clear hq
   obtain ⟨d,hd⟩:∃ d,writes o=d:=⟨_,rfl⟩
   have hwc:=fun W=>ybr o W;rw [hd] at hwv;simp only [hd] at hwc;have HD:=Lib.hid hd;have HWC:=Lib.hid hwc;clear hd hwc;by_cases hw20:20≤d
   ·have hd0:0≤d:=by omega
    have hor:=zds s.written d.toNat zO zO
    cases hC:s.changed<;>cases hS:stores o.code
    all_goals (rw [hC] at q2;have HC:=Lib.hid hC;clear hC;go_wp2_with (go_at_call 118;refine (HWC.out _).mono ?_;rintro e w3 ⟨rfl,hb3⟩;obtain ⟨hc3,hf3⟩:=bcell hb3;have hz3:=hb3.size;try simp only [World.size_alloc,World.size_setCell,World.heap_drewN,World.size_drew] at hz3;have hy3_0:w.heap.size<w3.heap.size:=zO;have hc3_0:=fun o=>hc3 (w.heap.size) o Ttb3;have hf3_0:=fun o=>hf3 (w.heap.size) o Ttb3;have hy3_1:w1.heap.size<w3.heap.size:=zO;have hc3_1:=fun o=>hc3 (w1.heap.size) o Ttb3;have hf3_1:=fun o=>hf3 (w1.heap.size) o Ttb3;have hy3_2:g<w3.heap.size:=zO;have hc3_2:=fun o=>hc3 (g) o Ttb3;have hf3_2:=fun o=>hf3 (g) o Ttb3);go_region;all_goals go_wp2;go_ret)
    ·exact zy9 (s:=⟨s.marks,s.written|||2^d.toNat,decide (d<20)⟩) (by unfold zf1;rw [if_pos (by rw [HF.out,HP.out];rfl),if_neg (by rw [h20];simp),if_pos hall.out,HD.out,HC.out,hS];simp;try omega) rfl Ttb1 (has3 (by go_simp) (by go_simp) (by first|(go_simp;done)|exact World.cell?_setCell_same' _ _ _ (by go_simp)) (by go_simp) (by go_simp) (by go_simp))
    all_goals exact zy9 (s:=⟨s.marks,s.written|||2^d.toNat,true⟩) (by unfold zf1;rw [if_pos (by rw [HF.out,HP.out];rfl),if_neg (by rw [h20];simp),if_pos hall.out,HD.out,HC.out,hS];simp;try omega) rfl Ttb1 (has3 (by go_simp) (by go_simp) (by first|(go_simp;done)|exact World.cell?_setCell_same' _ _ _ (by go_simp)) (by go_simp) (by go_simp) (by go_simp))
   ·have hd1:d<20:=by omega
    clear hw20;by_cases hd0:0≤d
    ·cases hC:s.changed<;>cases hS:stores o.code
     all_goals (rw [hC] at q2;have HC:=Lib.hid hC;clear hC;go_wp2_with (go_at_call 118;refine (HWC.out _).mono ?_;rintro e w3 ⟨rfl,hb3⟩;obtain ⟨hc3,hf3⟩:=bcell hb3;have hz3:=hb3.size;try simp only [World.size_alloc,World.size_setCell,World.heap_drewN,World.size_drew] at hz3;have hy3_0:w.heap.size<w3.heap.size:=zO;have hc3_0:=fun o=>hc3 (w.heap.size) o Ttb3;have hf3_0:=fun o=>hf3 (w.heap.size) o Ttb3;have hy3_1:w1.heap.size<w3.heap.size:=zO;have hc3_1:=fun o=>hc3 (w1.heap.size) o Ttb3;have hf3_1:=fun o=>hf3 (w1.heap.size) o Ttb3;have hy3_2:g<w3.heap.size:=zO;have hc3_2:=fun o=>hc3 (g) o Ttb3;have hf3_2:=fun o=>hf3 (g) o Ttb3);go_ret)
     all_goals exact zy9 (s:=⟨s.marks,s.written,true⟩) (by unfold zf1;rw [if_pos (by rw [HF.out,HP.out];rfl),if_neg (by rw [h20];simp),if_pos hall.out,HD.out,HC.out,hS];simp;try omega) rfl Ttb1 (has3 (by go_simp) (by go_simp) (by first|(go_simp;done)|exact World.cell?_setCell_same' _ _ _ (by go_simp)) (by go_simp) (by go_simp) (by go_simp))
    ·have hd2:d<0:=by omega
     clear hd0
     cases hC:s.changed<;>cases hS:stores o.code
     all_goals (rw [hC] at q2;have HC:=Lib.hid hC;clear hC;go_wp2_with (go_at_call 118;refine (HWC.out _).mono ?_;rintro e w3 ⟨rfl,hb3⟩;obtain ⟨hc3,hf3⟩:=bcell hb3;have hz3:=hb3.size;try simp only [World.size_alloc,World.size_setCell,World.heap_drewN,World.size_drew] at hz3;have hy3_0:w.heap.size<w3.heap.size:=zO;have hc3_0:=fun o=>hc3 (w.heap.size) o Ttb3;have hf3_0:=fun o=>hf3 (w.heap.size) o Ttb3;have hy3_1:w1.heap.size<w3.heap.size:=zO;have hc3_1:=fun o=>hc3 (w1.heap.size) o Ttb3;have hf3_1:=fun o=>hf3 (w1.heap.size) o Ttb3;have hy3_2:g<w3.heap.size:=zO;have hc3_2:=fun o=>hc3 (g) o Ttb3;have hf3_2:=fun o=>hf3 (g) o Ttb3);go_ret)
     ·exact zy9 (s:=⟨s.marks,s.written,false⟩) (by unfold zf1;rw [if_pos (by rw [HF.out,HP.out];rfl),if_neg (by rw [h20];simp),if_pos hall.out,HD.out,HC.out,hS];simp;try omega) rfl Ttb1 (has3 (by go_simp) (by go_simp) (by first|(go_simp;done)|exact World.cell?_setCell_same' _ _ _ (by go_simp)) (by go_simp) (by go_simp) (by go_simp))
     all_goals exact zy9 (s:=⟨s.marks,s.written,true⟩) (by unfold zf1;rw [if_pos (by rw [HF.out,HP.out];rfl),if_neg (by rw [h20];simp),if_pos hall.out,HD.out,HC.out,hS];simp;try omega) rfl Ttb1 (has3 (by go_simp) (by go_simp) (by first|(go_simp;done)|exact World.cell?_setCell_same' _ _ _ (by go_simp)) (by go_simp) (by go_simp) (by go_simp))
end Go.Proofs.YtocafomnnkmjfaaGreat
