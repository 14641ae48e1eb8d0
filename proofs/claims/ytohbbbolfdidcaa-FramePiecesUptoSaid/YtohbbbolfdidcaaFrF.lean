/- The walk of the cutter's Feed. -/
import Derived.Test.YtohbbbolfdidcaaFrJ
namespace Go.Proofs.Ytohbbbolfdidcaa
open Go.RowKit
set_option maxRecDepth 100000

theorem block_add' (a : Addr) (i : Nat) : (a.add i).block = a.block := by unfold Addr.add; split <;> rfl
theorem Off.tail {T L : Option Nat} {A : Option Addr} {xs : List UInt8} (h : Off T L A xs) (l c : Nat) : Off T L (cutA A l c 1) (xs.drop l) := by
  rcases h with rfl | ⟨a, rfl, h1, h2⟩
  · exact .inl (by simp)
  · refine .inr ?_
    unfold cutA
    split
    · exact ⟨a, rfl, h1, h2⟩
    · refine ⟨_, rfl, ?_, ?_⟩
      · rw [block_add']; exact h1
      · rw [block_add']; exact h2
theorem New.tail {B : Nat} {A : Option Addr} {xs : List UInt8} (h : New B A xs) (l c : Nat) : New B (cutA A l c 1) (xs.drop l) := by
  rcases h with rfl | ⟨a, rfl, h1⟩
  · exact .inl (by simp)
  · refine .inr ?_
    unfold cutA
    split
    · exact ⟨a, rfl, h1⟩
    · exact ⟨_, rfl, by rw [block_add']; exact h1⟩
theorem headV_def' (h n e : Nat) : headV (h, n, e) = .returned (.tuple #[.int .i64 (h : Int), .int .i64 (n : Int), .int .i64 (e : Int)]) := rfl
set_option maxHeartbeats 4000000 in
theorem feed_new {g M n c : Nat} {A : Option Addr} {ws : List UInt8} {w : World} (h : Cut w g M A n c ws false) (hM : M ≤ 16384) {M' : Nat} (hM' : M' = if M = 0 then 16384 else M) {B : Option Addr} {m d : Nat} {xs : List UInt8} (k : Sl w B m d xs) (hlen : ws.length + xs.length ≤ 4398046511104) :
    Calls Try.prog 11 #[.pointer (some ⟨g, 0, none⟩), .slice B m d] w (FeedN w g M' (streamP M' (ws ++ xs))) := by
  have HM' := hid hM'
  clear hM'
  go_enter Try.func11, Try.ntmps11
  go_wp2
  refine wp_scope_into (JJ w g M' (.slice B m d) (ws ++ xs)) (mu g) (l0 := 1) rfl ?_ ?_
  · intro l a wr hJ
    rcases l with _ | _ | _ | l
    · refine ⟨_, rfl, ?_⟩
      refine J0.elim hJ ?_
      clear hJ
      intro wr A n c vs q p u2 u3 u4 u5 u6 u7 u8 u9 u10 u11 u12 u13 u14 u15 u16 u17 u18 u19 u20 u21 u22 u23 u24 u25 u26 u27 u28 u29 u30 u31 u32 u33 u34 u35 u36 u37 u38 u39 u40 u41 u42 u43 u44 u45 u46 u47 u48 u49 u50 u51 u52 u53 u54 u55 u56 u57 u58 u59 u60 u61 u62 u63 u64 u65 u66 u67 u68 u69 u70 u71 u72 u73 u74 u75 u76 u77 u78 u79 u80 u81 u82 u83 u84 u85 u86 u87 u88 u89 u90 u91 u92 u93 u94 u95 u96 u97 u98 u99 u100 u101 u102 u103 u104 u105 u106 hI hw hp hs
      have HI := hid hI
      have Hp := hid hp
      clear hI hp
      go_wp2
      simp only [jumps]
      go_ret2
      rw [hs.out]
      refine ⟨u4, q, vs, A, n, c, ?_, ?_⟩
      rotate_left 1
      · rw [show (p.2.2 != 0) = false by rw [Hp.out]; rfl]
        exact ⟨HI.out, hw⟩
      · rw [Hp.out]; rfl
    · refine ⟨_, rfl, ?_⟩
      refine J1.elim (C := fun a wr => Code.wp _ _ (jumps (fun l' a' w' => JJ w g M' (.slice B m d) (ws ++ xs) l' a' w' ∧ mu g l' a' w' < mu g 1 a wr) _) a wr) hJ ?_
      clear hJ
      intro wr A n c ys vs L q u2 u3 u4 u5 u6 u7 u8 u9 u10 u11 u12 u13 u14 u15 u16 u17 u18 u19 u20 u21 u22 u23 u24 u25 u26 u27 u28 u29 u30 u31 u32 u33 u34 u35 u36 u37 u38 u39 u40 u41 u42 u43 u44 u45 u46 u47 u48 u49 u50 u51 u52 u53 u54 u55 u56 u57 u58 u59 u60 u61 u62 u63 u64 u65 u66 u67 u68 u69 u70 u71 u72 u73 u74 u75 u76 u77 u78 u79 u80 u81 u82 u83 u84 u85 u86 u87 u88 u89 u90 u91 u92 u93 u94 u95 u96 u97 u98 u99 u100 u101 u102 u103 u104 u105 u106 hI hwn hk hs
      have Hwn := hid hwn
      clear hwn
      have HI := hid hI
      have hn := hid hI.cut.read.len
      have hq : 2 * q + n ≤ 4398046511104 := by
        have h1 := hn.out
        have h2 := hlen
        rw [List.length_append] at hk
        omega
      have Hk := hid hk
      have c0 := hI.cut.cell0
      have c1 := hI.cut.cell1
      have hcap := hI.cut.read.cap
      have hM16 := hid HM'.out
      clear hI hk
      by_cases h1 : n = 0
      · have HP := hid (show streamP M' (ws ++ xs) = (L, ys, 0) by
          rw [hs.out, streamP_wait (by unfold verd; rw [if_pos (by rw [← hn.out]; exact h1)])]; simp [glueS])
        have c1' := c1
        rw [h1] at c1'
        clear c1
        go_wp2
        go_step3
        exact ⟨J0.mk _ A n c vs q (L, ys, 0) _ _ _ _ _ _ _ _ _ _ _ _ _ _ _ _ _ _ _ _ _ _ _ _ _ _ _ _ _ _ _ _ _ _ _ _ _ _ _ _ _ _ _ _ _ _ _ _ _ _ _ _ _ _ _ _ _ _ _ _ _ _ _ _ _ _ _ _ _ _ _ _ _ _ _ _ _ _ _ _ _ _ _ _ _ _ _ _ _ _ _ _ _ _ _ _ _ _ _ _ _ _ _ _ _ HI.out Hwn.out rfl HP, by show 0 < 1 + _; omega⟩
      · have hp : 0 < n := by omega
        have hv1 : ¬ ys.length = 0 := by rw [← hn.out]; exact h1
        obtain ⟨b, off, rfl, hc⟩ := HI.out.cut.read.at_ hp
        have x0 := hc 0 hp
        rw [Nat.add_zero] at x0
        clear hc
        have hBl := (ys[0]?.getD 0).toNat_lt
        by_cases h2 : (ys[0]?.getD 0).toNat ≠ 48
        · have hv : verd M' ys = (1, 2) := by unfold verd; rw [if_neg hv1, if_pos h2]
          have HP := hid (show streamP M' (ws ++ xs) = (L, [], 2) by rw [hs.out, streamP_err (by rw [hv]), hv]; simp [glueS])
          have t2 : (((ys[0]?.getD 0).toNat : Int) != 48) = true := by rw [bne_iff_ne]; omega
          clear hv hv1
          go_wp2
          go_step3
          exact ⟨J2.mk _ _ n c ys vs q (L, [], 2) _ _ _ _ _ _ _ _ _ _ _ _ _ _ _ _ _ _ _ _ _ _ _ _ _ _ _ _ _ _ _ _ _ _ _ _ _ _ _ _ _ _ _ _ _ _ _ _ _ _ _ _ _ _ _ _ _ _ _ _ _ _ _ _ _ _ _ _ _ _ _ _ _ _ _ _ _ _ _ _ _ _ _ _ _ _ _ _ _ _ _ _ _ _ _ _ _ _ _ _ _ _ _ _ _ HI.out rfl (by simp) rfl HP, by show 0 < 1 + _; omega⟩
        · have t2 : (((ys[0]?.getD 0).toNat : Int) != 48) = false := by rw [bne_eq_false_iff_eq]; omega
          have hok := headP_ok ys
          have her := headP_err ys
          have hh := head_any HI.out.cut.read
          rcases hqq : headP ys with ⟨H, N, E⟩
          have hV : verd M' ys = if E = 5 then (0, 0) else if E ≠ 0 then (1, E) else if M' < H + N then (1, 4) else if ys.length < H + N then (0, 0) else (2, H + N) := by
            unfold verd; rw [if_neg hv1, if_neg h2, hqq]
          rw [hqq] at hok her hh
          clear hqq
          simp only [] at hok her
          rw [headV_def'] at hh
          have hE := her.1
          clear hv1
          by_cases e5 : E = 5
          · rw [if_pos e5] at hV
            have HP := hid (show streamP M' (ws ++ xs) = (L, ys, 0) by rw [hs.out, streamP_wait (by rw [hV])]; simp [glueS])
            subst e5
            clear hV hok her
            go_wp2_with (go_at_call 21; (with_reducible refine hh.mono ?_); rintro e w1 ⟨rfl, hx1⟩; have I1 := hid (HI.out.ext hx1); have y0 := I1.out.cut.cell0; have y1 := I1.out.cut.cell1)
            go_step3
            exact ⟨J0.mk _ _ n c vs q (L, ys, 0) _ _ _ _ _ _ _ _ _ _ _ _ _ _ _ _ _ _ _ _ _ _ _ _ _ _ _ _ _ _ _ _ _ _ _ _ _ _ _ _ _ _ _ _ _ _ _ _ _ _ _ _ _ _ _ _ _ _ _ _ _ _ _ _ _ _ _ _ _ _ _ _ _ _ _ _ _ _ _ _ _ _ _ _ _ _ _ _ _ _ _ _ _ _ _ _ _ _ _ _ _ _ _ _ _ I1.out Hwn.out rfl HP, by show 0 < 1 + _; omega⟩
          rw [if_neg e5] at hV
          have t5 : ((E : Int) == 5) = false := by rw [beq_eq_false_iff_ne]; omega
          by_cases e0 : E ≠ 0
          · rw [if_pos e0] at hV
            have HP := hid (show streamP M' (ws ++ xs) = (L, [], E) by rw [hs.out, streamP_err (by rw [hV]), hV]; simp [glueS])
            have t0 : ((E : Int) != 0) = true := by rw [bne_iff_ne]; omega
            have He0 := hid e0
            clear hV hok her e0 e5
            go_wp2_with (go_at_call 21; (with_reducible refine hh.mono ?_); rintro e w1 ⟨rfl, hx1⟩; have I1 := hid (HI.out.ext hx1); have y0 := I1.out.cut.cell0; have y1 := I1.out.cut.cell1)
            go_step3
            exact ⟨J2.mk _ _ n c ys vs q (L, [], E) _ _ _ _ _ _ _ _ _ _ _ _ _ _ _ _ _ _ _ _ _ _ _ _ _ _ _ _ _ _ _ _ _ _ _ _ _ _ _ _ _ _ _ _ _ _ _ _ _ _ _ _ _ _ _ _ _ _ _ _ _ _ _ _ _ _ _ _ _ _ _ _ _ _ _ _ _ _ _ _ _ _ _ _ _ _ _ _ _ _ _ _ _ _ _ _ _ _ _ _ _ _ _ _ _ I1.out rfl He0.out rfl HP, by show 0 < 1 + _; omega⟩
          have e0' : E = 0 := by omega
          rw [if_neg e0] at hV
          subst e0'
          obtain ⟨k1, k2, k3, k4⟩ := hok rfl
          have k3' : H ≤ n := by rw [hn.out]; exact k3
          clear hok her e0 e5 t5 k3
          by_cases hm : M' < H + N
          · rw [if_pos hm] at hV
            have HP := hid (show streamP M' (ws ++ xs) = (L, [], 4) by rw [hs.out, streamP_err (by rw [hV]), hV]; simp [glueS])
            have tm : (M' : Int) < (H : Int) + N := by omega
            clear hV
            go_wp2_with (go_at_call 21; (with_reducible refine hh.mono ?_); rintro e w1 ⟨rfl, hx1⟩; have I1 := hid (HI.out.ext hx1); have y0 := I1.out.cut.cell0; have y1 := I1.out.cut.cell1)
            go_step3
            exact ⟨J2.mk _ _ n c ys vs q (L, [], 4) _ _ _ _ _ _ _ _ _ _ _ _ _ _ _ _ _ _ _ _ _ _ _ _ _ _ _ _ _ _ _ _ _ _ _ _ _ _ _ _ _ _ _ _ _ _ _ _ _ _ _ _ _ _ _ _ _ _ _ _ _ _ _ _ _ _ _ _ _ _ _ _ _ _ _ _ _ _ _ _ _ _ _ _ _ _ _ _ _ _ _ _ _ _ _ _ _ _ _ _ _ _ _ _ _ I1.out rfl (by simp) rfl HP, by show 0 < 1 + _; omega⟩
          rw [if_neg hm] at hV
          have tm : ¬ (M' : Int) < (H : Int) + N := by omega
          by_cases hw : n < H + N
          · rw [if_pos (by rw [← hn.out]; exact hw)] at hV
            have HP := hid (show streamP M' (ws ++ xs) = (L, ys, 0) by rw [hs.out, streamP_wait (by rw [hV])]; simp [glueS])
            have tw : (n : Int) < (H : Int) + N := by omega
            clear hV
            go_wp2_with (go_at_call 21; (with_reducible refine hh.mono ?_); rintro e w1 ⟨rfl, hx1⟩; have I1 := hid (HI.out.ext hx1); have y0 := I1.out.cut.cell0; have y1 := I1.out.cut.cell1)
            go_step3
            exact ⟨J0.mk _ _ n c vs q (L, ys, 0) _ _ _ _ _ _ _ _ _ _ _ _ _ _ _ _ _ _ _ _ _ _ _ _ _ _ _ _ _ _ _ _ _ _ _ _ _ _ _ _ _ _ _ _ _ _ _ _ _ _ _ _ _ _ _ _ _ _ _ _ _ _ _ _ _ _ _ _ _ _ _ _ _ _ _ _ _ _ _ _ _ _ _ _ _ _ _ _ _ _ _ _ _ _ _ _ _ _ _ _ _ _ _ _ _ I1.out Hwn.out rfl HP, by show 0 < 1 + _; omega⟩
          rw [if_neg (by rw [← hn.out]; exact hw)] at hV
          have tw : ¬ (n : Int) < (H : Int) + N := by omega
          have HP := hid (show streamP M' (ws ++ xs) = glueS (L ++ [ys.take (H + N)]) (streamP M' (ys.drop (H + N))) by rw [hs.out, streamP_msg hV, glueS_glueS])
          clear hV
          have s1 := slice_h (some ⟨b, off, none⟩) n c (H + N) (by omega) ((H : Int) + N) (by omega)
          have s2 := slice_l (some ⟨b, off, none⟩) n c (H + N) (by omega) ((H : Int) + N) (by omega)
          go_wp2_with (first
            | (go_at_call 21; (with_reducible refine hh.mono ?_); rintro e w1 ⟨rfl, hx1⟩; have I1 := hid (HI.out.ext hx1); have y0 := I1.out.cut.cell0; have y1 := I1.out.cut.cell1)
            | (go_at_call 22; (with_reducible refine (clone_new _ _ _ _ _ (I1.out.cut.read.head (k := H + N) (by omega)) (by omega)).mono ?_); rintro e w2 ⟨A2, n2, c2, rfl, h2, hn2, hx2⟩; have O2 := hid (I1.out.offNew hn2); have I2 := hid (I1.out.ext hx2))
            | (at_builtin; refine append_row rfl _ _ rfl w.heap.size u4 q vs rfl (I2.out.ext (Ext.alloc _ _)).own w2.heap.size _ rfl (cell_new _ _ _) rfl (by omega) (I2.out.ext (Ext.alloc _ _)).gr.size ?_; intro v4' w3 ho3 hb3 hg3 hv3; have I3 := hid ((I2.out.ext (Ext.alloc _ _)).push ho3 hg3 hv3 (h2.ext (Ext.alloc _ _)) hn2 I1.out.gr.size O2.out); have z1 := I3.out.cut.cell1; have z2 := I3.out.cut.frozen 1))
          go_step3
          have I4 := I3.out.set1 (I3.out.cut.read.tail (l := H + N) (by omega)) (I3.out.woff.tail (H + N) c)
          refine ⟨J1.mk _ _ _ _ (ys.drop (H + N)) _ _ (q + 1) _ _ _ _ _ _ _ _ _ _ _ _ _ _ _ _ _ _ _ _ _ _ _ _ _ _ _ _ _ _ _ _ _ _ _ _ _ _ _ _ _ _ _ _ _ _ _ _ _ _ _ _ _ _ _ _ _ _ _ _ _ _ _ _ _ _ _ _ _ _ _ _ _ _ _ _ _ _ _ _ _ _ _ _ _ _ _ _ _ _ _ _ _ _ _ _ _ _ _ _ _ _ _ _ _ I4 (Hwn.out.tail (H + N) c) ?_ HP, ?_⟩
          · rw [List.length_drop]; have h9 := Hk.out; have h8 := hn.out; omega
          · have m1 := I4.cut.cell1
            have m2 := HI.out.cut.cell1
            simp only [mu]
            rw [m1, m2]
            simp only []
            omega
    · refine ⟨_, rfl, ?_⟩
      refine J2.elim hJ ?_
      clear hJ
      intro wr A n c ys vs q p u2 u3 u4 u5 u6 u7 u8 u9 u10 u11 u12 u13 u14 u15 u16 u17 u18 u19 u20 u21 u22 u23 u24 u25 u26 u27 u28 u29 u30 u31 u32 u33 u34 u35 u36 u37 u38 u39 u40 u41 u42 u43 u44 u45 u46 u47 u48 u49 u50 u51 u52 u53 u54 u55 u56 u57 u58 u59 u60 u61 u62 u63 u64 u65 u66 u67 u68 u69 u70 u71 u72 u73 u74 u75 u76 u77 u78 u79 u80 u81 u82 u83 u84 u85 u86 u87 u88 u89 u90 u91 u92 u93 u94 u95 u96 u97 u98 u99 u100 u101 u102 u103 u104 u105 u106 hI he hp hp2 hs
      have HI := hid hI
      have Hp := hid hp
      have Hp2 := hid hp2
      have c1 := hI.cut.cell2
      have c2 := hI.cut.frozen 2
      have c3 := (hI.set2 true).cut.cell1
      have c4 := (hI.set2 true).cut.frozen 1
      clear hI hp hp2
      go_wp2
      simp only [jumps]
      go_ret2
      rw [hs.out]
      refine ⟨u4, q, vs, none, 0, 0, ?_, ?_⟩
      rotate_left 1
      · rw [show (p.2.2 != 0) = true by rw [bne_iff_ne]; exact Hp.out, Hp2.out]
        exact ⟨(HI.out.set2 true).set1 (Sl.nil _) (.inl rfl), .inl rfl⟩
      · rfl
    · exact False.elim hJ
  · intro into
    have d0 := h.cell0
    have d1 := h.cell1
    have d2 := h.cell2
    have hl : n + m ≤ 4398046511104 := by have := k.len; have := h.read.len; omega
    have Into := hid into
    clear into
    by_cases h0 : M = 0
    · have eM : M' = 16384 := by have := HM'.out; rw [if_pos h0] at this; exact this
      subst h0 eM
      have hF := hid (show FI w (w.setCell ⟨g, 0, none⟩ (.int .i64 16384)) g 16384 A n c ws false (.slice none 0 0) 0 [] [] from (FI.start h).set0 16384)
      have d5 := h.frozen 0
      have d6 := hF.out.cut.cell1
      have s2 := sls_two _ _ _ _ _ _ _ _ _ hF.out.cut.read (h.store 0 (.int .i64 16384) k)
      rw [show (w.setCell ⟨g, 0, none⟩ (.int .i64 16384)).heap.size = w.heap.size by simp [World.setCell]] at s2
      have d0' : w.cell? ⟨g, 0, none⟩ = some (.int .i64 0) := d0
      clear d0
      go_wp2_with (go_at_call 20; (with_reducible refine (concat_new _ _ _ [ws, xs] _ s2 (by have := hlen; simp; omega)).mono ?_); rintro e w2 ⟨A2, n2, c2, rfl, h2, hn2, hx2⟩; have I2 := hid ((hF.out.ext (Ext.alloc _ _)).ext hx2); have d3 := I2.out.cut.cell1; have d4 := I2.out.cut.frozen 1)
      go_step3
      rename_i hK
      refine hK _ _ (Into.out _ _ ?_)
      have e2 : [ws, xs].flatten = ws ++ xs := by simp
      rw [e2] at h2 hn2
      refine J1.mk _ A2 n2 c2 (ws ++ xs) [] [] 0 _ _ _ _ _ _ _ _ _ _ _ _ _ _ _ _ _ _ _ _ _ _ _ _ _ _ _ _ _ _ _ _ _ _ _ _ _ _ _ _ _ _ _ _ _ _ _ _ _ _ _ _ _ _ _ _ _ _ _ _ _ _ _ _ _ _ _ _ _ _ _ _ _ _ _ _ _ _ _ _ _ _ _ _ _ _ _ _ _ _ _ _ _ _ _ _ _ _ _ _ _ _ _ _ _ (I2.out.set1 h2 (hn2.off (fun k hk => by injection hk with hk; subst hk; have := h.lt; simp [World.setCell]; omega) (fun k hk => by cases hk))) (hn2.mono (by simp [World.setCell])) (by simp) (glueS_nil _)
    · have eM : M = M' := by have := HM'.out; rw [if_neg h0] at this; exact this.symm
      subst eM
      have h0' : ((M : Int) == 0) = false := by rw [beq_eq_false_iff_ne]; omega
      have hF := hid (FI.start h)
      go_wp2_with (go_at_call 20; (with_reducible refine (concat_new _ _ _ [ws, xs] _ (sls_two _ _ _ _ _ _ _ _ _ h.read k) (by have := hlen; simp; omega)).mono ?_); rintro e w2 ⟨A2, n2, c2, rfl, h2, hn2, hx2⟩; have I2 := hid ((hF.out.ext (Ext.alloc _ _)).ext hx2); have d3 := I2.out.cut.cell1; have d4 := I2.out.cut.frozen 1)
      go_step3
      rename_i hK
      refine hK _ _ (Into.out _ _ ?_)
      have e2 : [ws, xs].flatten = ws ++ xs := by simp
      rw [e2] at h2 hn2
      refine J1.mk _ A2 n2 c2 (ws ++ xs) [] [] 0 _ _ _ _ _ _ _ _ _ _ _ _ _ _ _ _ _ _ _ _ _ _ _ _ _ _ _ _ _ _ _ _ _ _ _ _ _ _ _ _ _ _ _ _ _ _ _ _ _ _ _ _ _ _ _ _ _ _ _ _ _ _ _ _ _ _ _ _ _ _ _ _ _ _ _ _ _ _ _ _ _ _ _ _ _ _ _ _ _ _ _ _ _ _ _ _ _ _ _ _ _ _ _ _ _ (I2.out.set1 h2 (hn2.off (fun k hk => by injection hk with hk; subst hk; have := h.lt; simp; omega) (fun k hk => by cases hk))) (hn2.mono (by simp)) (by simp) (glueS_nil _)
theorem feed_any {g M n c : Nat} {A : Option Addr} {ws : List UInt8} {w : World} (h : Cut w g M A n c ws false) (hM : M ≤ 16384) {M' : Nat} (hM' : M' = if M = 0 then 16384 else M) {B : Option Addr} {m d : Nat} {xs : List UInt8} (k : Sl w B m d xs) (hlen : ws.length + xs.length ≤ 4398046511104) :
    Calls Try.prog 11 #[.pointer (some ⟨g, 0, none⟩), .slice B m d] w (FeedR w g M' (streamP M' (ws ++ xs))) := by
  refine (feed_new h hM hM' k hlen).mono ?_
  rintro e w' ⟨v4, q, vs, A, n, c, he, hI, _⟩
  exact ⟨v4, q, vs, A, n, c, he, hI⟩
end Go.Proofs.Ytohbbbolfdidcaa
