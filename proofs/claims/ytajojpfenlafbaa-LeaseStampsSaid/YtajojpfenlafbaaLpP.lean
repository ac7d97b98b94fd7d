/- Leases in plays: the play is true. -/
import Derived.Test.YtajojpfenlafbaaLpL28
set_option linter.unusedSimpArgs false
set_option linter.unusedVariables false
namespace Go.Proofs.Ytajojpfenlafbaa
open Go.RowKit Mo
attribute [local go_sem ↓] Go.wp_at_zero Go.wp_at_succ
set_option maxRecDepth 100000 in
set_option maxHeartbeats 6000000 in
theorem play_any (w : World) (t0 : Int) (wt : (Lit.int .i64 t0).wf = true) (sz : Int) (wz : (Lit.int .u8 sz).wf = true) (A : Option Addr) (c : Nat) (xs : List VTurn23) (hr : Reads w w.heap.size 15 A xs.length (xs.flatMap VTurn23.cells)) (hml : xs.length ≤ 9223372036854775807) (hx : ∀ u_ ∈ xs, VTurn23.ok w u_) :
    Calls Try.prog 25 #[.int .i64 t0, .int .u8 sz, .slice A xs.length c] w fun e w' => e = .returned (.bool true) ∧ Below w.heap.size w w' := by
  obtain ⟨z0, z1⟩ : 0 ≤ sz ∧ sz ≤ 255 := by simpa [Lit.wf, IntKind.min, IntKind.max, IntKind.signed, IntKind.bits] using wz
  obtain ⟨n, hn⟩ : ∃ n : Nat, 1 + sz % 5 = n := ⟨(1 + sz % 5).toNat, by omega⟩
  have hn1 : 1 ≤ n := by omega
  have hn5 : n ≤ 5 := by omega
  obtain ⟨T, eT, hT0, hT1⟩ := and40 t0
  have hr := Lib.hid hr
  have HX := Lib.hid hx
  clear wz wt hx
  go_enter Try.func25, Try.ntmps25
  go_wp2_with fail
  clear hn eT z0 z1
  obtain ⟨W0, hW0⟩ : ∃ W0, ((((w.alloc (.cells #[.pointer none, .pointer none, .pointer none, .pointer none, .pointer none, .pointer none, .pointer none, .pointer none] 82)).alloc (.cells #[.int .i64 0, .int .i64 0, .int .i64 0, .int .i64 0, .int .i64 0, .int .i64 0, .int .i64 0, .int .i64 0] 83)).alloc (.cells #[.pointer none, .pointer none, .pointer none, .pointer none, .pointer none] 84)).alloc (.cells #[.pointer none, .pointer none, .pointer none] 85)).alloc (.cells #[.pointer none, .pointer none, .pointer none] 86) = W0 := ⟨_, rfl⟩
  have FC : Hid (Fam w W0 w.heap.size 82 105 0 8 (fun _ => 0) (fun i => (ck0 T i).cells)) := Lib.hid (fam0 (by rw [← hW0]; exact ((((Blk.new w _ _).alloc _).alloc _).alloc _).alloc _) (Nat.le_refl _))
  have FD : Hid (Blk W0 (w.heap.size + 1) 83 (arr (List.replicate 8 0))) := Lib.hid (by rw [← hW0]; exact (((Blk.new' (by simp)).alloc _).alloc _).alloc _)
  have FV : Hid (Fam w W0 (w.heap.size + 1 + 1) 84 80 0 5 (fun _ => 0) (fun _ => #[.int .i64 0, .int .i64 0])) := Lib.hid (fam0 (by rw [← hW0]; exact ((Blk.new' (by simp)).alloc _).alloc _) (by omega))
  have FH : Hid (Fam w W0 (w.heap.size + 1 + 1 + 1) 85 72 0 3 (fun _ => 0) (fun _ => hcells n [0, 0, 0, 0, 0])) := Lib.hid (fam0 (by rw [← hW0]; exact (Blk.new' (by simp)).alloc _) (by omega))
  have FS : Hid (Fam w W0 (w.heap.size + 1 + 1 + 1 + 1) 86 74 0 3 (fun _ => 0) (fun _ => #[.int .i64 0])) := Lib.hid (fam0 (by rw [← hW0]; exact Blk.new' (by simp)) (by omega))
  have FB : Hid (Below w.heap.size w W0) := Lib.hid (by rw [← hW0]; repeat (first | exact Below.refl _ _ | refine below_alloc_ ?_ _ | refine Below.drew ?_))
  rw [hW0]
  clear hW0
  go_loopw [13] (fun si wr => ∃ (i : Nat) (gc : Nat → Nat), i ≤ 8 ∧ si = .int .i64 i ∧ Hid (Fam w wr w.heap.size 82 105 i 8 gc (fun i => (ck0 T i).cells)) ∧ Hid (Keeps (· = w.heap.size) W0 wr)) (fun si _ => 8 - (intOf si).toNat)
  case atStart => exact ⟨0, _, Nat.zero_le _, rfl, FC, Lib.hid (Keeps.refl _ _)⟩
  case round =>
    obtain ⟨i, gc, hi, rfl, F, KK⟩ := hrel
    obtain ⟨wo, rfl⟩ : ∃ wo, wo = wr := ⟨_, rfl⟩
    by_cases hlt : i < 8
    · have SA := Lib.hid (new_set 4575657221408423936 (T + i) 9 (by omega) (by omega) (by omega) (by omega))
      have b0 := F.out.a.lt
      have i1 : (i : Int) < 8 := by omega
      have i0 : (0 : Int) ≤ (i : Int) := by omega
      have hww : Hid (w.heap.size ≤ wo.heap.size) := Lib.hid (Nat.le_of_lt b0)
      go_wp2_with (go_at_call 31; refine (cnew_ok _ _ (by decide) (by decide)).mono ?_; rintro e w1 ⟨rfl, rfl⟩)
      refine (cset_is (c := ckNew 4575657221408423936) wo.heap.size 0 (T + i) 9 _ (Blk.new _ _ _) SA.out.1 SA.out.2).mono ?_
      rintro e6 w6 ⟨rfl, hc6, hk6⟩
      have B6 := Lib.hid (below_kp (below_alloc_ (Below.refl wo.heap.size wo) _) hk6 (Nat.le_refl _))
      have C6 := Lib.hid hc6
      have c0 := parr_nil (F.out.pass B6.out).a i (Nat.le_refl _) hlt
      have f0 := (F.out.pass B6.out).a.frozen i
      clear hc6 hk6
      go_wp2_with fail
      go_roundw
      case rel => exact ⟨i + 1, _, by omega, by go_num, Lib.hid (F.out.add (by decide) B6.out (Nat.le_refl _) hww.out C6.out hlt), Lib.hid (Keeps.set_ (S := (· = w.heap.size)) (KK.out.then B6.out) (Or.inl rfl) _)⟩
      case measure => simp [intOf]; omega
    · obtain rfl : i = 8 := by omega
      have hxc := FC.out.a
      have GV := Lib.hid (FV.out.other hxc (by decide) (by decide) KK.out)
      have GH := Lib.hid (FH.out.other hxc (by decide) (by decide) KK.out)
      have GS := Lib.hid (FS.out.other hxc (by decide) (by decide) KK.out)
      have GD := Lib.hid (FD.out.keeps KK.out (by exact Nat.succ_ne_self _))
      have GB := Lib.hid (below_ks FB.out KK.out)
      clear FC FV FH FS FD FB KK hxc hi hlt
      rw [show ((8 : Nat) : Int) = 8 from rfl]
      go_wp2_with fail
      go_loopw [16] (fun si wr => ∃ (i : Nat) (gv : Nat → Nat), i ≤ 5 ∧ si = .int .i64 i ∧ Hid (Fam w wr (w.heap.size + 1 + 1) 84 80 i 5 gv (fun _ => #[.int .i64 0, .int .i64 0])) ∧ Hid (Keeps (· = w.heap.size + 1 + 1) wo wr)) (fun si _ => 5 - (intOf si).toNat)
      case atStart => exact ⟨0, _, Nat.zero_le _, rfl, GV, Lib.hid (Keeps.refl _ _)⟩
      case round =>
        obtain ⟨i, gv, hi, rfl, F2, KK⟩ := hrel
        rename World => wq
        by_cases hlt : i < 5
        · have b0 := F2.out.a.lt
          have i1 : (i : Int) < 5 := by omega
          have i0 : (0 : Int) ≤ (i : Int) := by omega
          have hww : Hid (w.heap.size ≤ wq.heap.size) := Lib.hid (by omega)
          have B6 := Lib.hid (below_alloc_ (Below.refl wq.heap.size wq) (.cells #[.int .i64 0, .int .i64 0] 80))
          have c0 := parr_nil F2.out.a i (Nat.le_refl _) hlt
          have f0 := F2.out.a.frozen i
          go_wp2_with (go_at_call 20; refine (newVoter_any _).mono ?_; rintro e w1 ⟨rfl, rfl⟩)
          go_roundw
          case rel => exact ⟨i + 1, _, by omega, by go_num, Lib.hid (by rw [← World.setCell_alloc_past _ _ _ _ b0]; exact F2.out.add (by decide) B6.out (Nat.le_refl _) hww.out (Blk.new wq _ _) hlt), Lib.hid ((Keeps.set_ (S := (· = w.heap.size + 1 + 1)) KK.out (Or.inl rfl) _).alloc _)⟩
          case measure => simp [intOf]; omega
        · obtain rfl : i = 5 := by omega
          have hxv := GV.out.a
          have HC := Lib.hid (F.out.other hxv (by decide) (by decide) KK.out)
          have HH := Lib.hid (GH.out.other hxv (by decide) (by decide) KK.out)
          have HS := Lib.hid (GS.out.other hxv (by decide) (by decide) KK.out)
          have HD := Lib.hid (GD.out.keeps KK.out (by exact Nat.ne_of_lt (Nat.lt_succ_self _)))
          have HB := Lib.hid (below_kp GB.out KK.out (by omega))
          clear F GV GH GS GD GB KK hxv hi hlt
          rw [show ((5 : Nat) : Int) = 5 from rfl]
          go_wp2_with fail
          go_loopw [17] (fun si wr => ∃ (i : Nat) (gh gs : Nat → Nat), i ≤ 3 ∧ si = .int .i64 i ∧ Hid (Fam w wr w.heap.size 82 105 8 8 gc (fun i => (ck0 T i).cells)) ∧ Hid (Fam w wr (w.heap.size + 1 + 1) 84 80 5 5 gv (fun _ => #[.int .i64 0, .int .i64 0])) ∧ Hid (Fam w wr (w.heap.size + 1 + 1 + 1) 85 72 i 3 gh (fun _ => hcells n [0, 0, 0, 0, 0])) ∧ Hid (Fam w wr (w.heap.size + 1 + 1 + 1 + 1) 86 74 i 3 gs (fun _ => #[.int .i64 0])) ∧ Hid (Blk wr (w.heap.size + 1) 83 (arr (List.replicate 8 0))) ∧ Hid (Below w.heap.size w wr)) (fun si _ => 3 - (intOf si).toNat)
          case atStart => exact ⟨0, _, _, Nat.zero_le _, rfl, HC, F2, HH, HS, HD, HB⟩
          case round =>
            clear HC HH HS HD HB F2
            obtain ⟨i, gh, gs, hi, rfl, FC, FV, FH, FS, FD, FB⟩ := hrel
            rename World => wq2
            by_cases hlt : i < 3
            · have b3 := FH.out.a.lt; have b4 := FS.out.a.lt
              have i1 : (i : Int) < 3 := by omega
              have i0 : (0 : Int) ≤ (i : Int) := by omega
              have hww := Lib.hid FB.out.size
              have c3 := parr_nil FH.out.a i (Nat.le_refl _) hlt
              have c4 := parr_nil FS.out.a i (Nat.le_refl _) hlt
              have f3 := FH.out.a.frozen i; have f4 := FS.out.a.frozen i
              have c2 := parr_at FV.out.a i (show i < 5 by omega) (Nat.le_refl _)
              have b2 := FV.out.a.lt
              have b2' := Nat.lt_succ_of_lt b2; have b3' := Nat.lt_succ_of_lt b3; have b4' := Nat.lt_succ_of_lt b4
              go_wp2_with (go_at_call 8; refine (newHolder_ok n _ hn1 hn5).mono ?_; rintro e w1 ⟨rfl, rfl⟩)
              go_region_with (go_at_call 9; refine (new_any _).mono ?_; rintro e w1 ⟨rfl, rfl⟩)
              all_goals
                go_wp2_with fail
                obtain ⟨gh', gs', i0', i1', i2', i3', i4', i5'⟩ := init_two FC.out FV.out FH.out FS.out FD.out FB.out hlt
                go_roundw
                case rel => exact ⟨i + 1, gh', gs', by omega, by go_num, Lib.hid i0', Lib.hid i1', Lib.hid i2', Lib.hid i3', Lib.hid i4', Lib.hid i5'⟩
                case measure => simp [intOf]; omega
            · obtain rfl : i = 3 := by omega
              clear hi hlt
              rw [show ((3 : Nat) : Int) = 3 from rfl]
              have P0 : Hid (PSt w wq2 n w.heap.size (w.heap.size + 1) (w.heap.size + 1 + 1) (w.heap.size + 1 + 1 + 1) (w.heap.size + 1 + 1 + 1 + 1) gc gv gh gs (ck0 T) (List.replicate 8 0) (fun _ => 0) (fun _ => 0) (fun _ => [0, 0, 0, 0, 0]) (fun _ => 0)) := Lib.hid ⟨FC.out, FV.out, FH.out, FS.out, FD.out, Nat.le_succ _, FB.out⟩
              clear FC FV FH FS FD FB
              go_wp2_with fail
              have I0 : Hid (∀ i, i < 8 → HInv 4575657221408423936 (ck0 T i) ((List.replicate 8 (0 : Int)).getD i 0) T 0) := Lib.hid (fun i hi => by
                have z : (List.replicate 8 (0 : Int)).getD i 0 = 0 := by rcases (show i = 0 ∨ i = 1 ∨ i = 2 ∨ i = 3 ∨ i = 4 ∨ i = 5 ∨ i = 6 ∨ i = 7 by omega) with rfl | rfl | rfl | rfl | rfl | rfl | rfl | rfl <;> rfl
                rw [z]
                exact hold_begun 4575657221408423936 rate128.1 T (T + i) 9 i hT0 hT1 (by omega) (by omega) (by unfold bro; rw [if_neg (by omega), if_neg (by omega)]; omega))
              have L0 := Lib.hid (linv_new n T hT0)
              have S0 : Hid (SInv n 0 (fun _ => [0, 0, 0, 0, 0]) (fun _ => 0)) := Lib.hid ⟨fun _ _ => Int.le_refl _, Int.le_refl _, .inl rfl⟩
              generalize w.heap.size + 1 + 1 + 1 + 1 = bs at *
              generalize w.heap.size + 1 + 1 + 1 = bh at *
              generalize w.heap.size + 1 + 1 = bv at *
              generalize w.heap.size + 1 = bd at *
              generalize ck0 T = ckz at *
              have hrz : Hid ((List.replicate 8 (0 : Int)).length = 8) := Lib.hid rfl
              generalize List.replicate 8 (0 : Int) = rdz at *
              have HM := Lib.hid hml
              refine playL28 P0.out hrz.out hr.out HM.out HX.out hn1 hn5 I0.out L0.out S0.out ?_
              intro x0 x6 x20 x21 x22 x23 x24 x25 x26 x27 x28 x29 x30 x31 x32 x33 x34 x35 x36 x37 x109 x110 x111 x112 x113 x114 x115 x116 x117 x118 x119 x120 x121 x122 x123 x124 x125 x126 x127 x128 x129 x130 x131 x132 x133 x134 x135 x136 x137 x138 x139 x140 x141 x142 x143 x144 x145 x146 x147 x148 x149 x150 x151 x152 x153 x154 x155 x156 x157 x158 x159 x160 x161 x162 x163 x164 x165 x166 x167 x168 x169 x170 x171 x172 x173 x174 x175 x176 x177 x178 x179 x180 x181 x182 x183 x184 x185 x186 x187 x188 x189 x190 x191 x192 x193 x194 x195 x196 x197 x198 x199 x200 x201 x202 x203 x204 x205 x206 x207 x208 x209 x210 x211 x212 x213 x214 x215 x216 x217 x218 x219 x220 x221 x222 x223 x224 x225 x226 x227 x228 x229 x230 x231 x232 x233 x234 x235 x236 x237 x238 x239 x240 x241 x242 x243 x244 x245 x246 x247 x248 x249 x250 x251 x252 x253 x254 x255 x256 x257 x258 x259 x260 x261 x262 x263 x264 x265 x266 x267 x268 x269 x270 x271 x272 x273 x274 x275 x276 x277 x278 x279 x280 x281 x282 x283 x284 x285 W9 hb
              have HB9 := Lib.hid hb
              clear hb
              go_wp2_with fail
              go_ret
              exact ⟨rfl, HB9.out⟩
end Go.Proofs.Ytajojpfenlafbaa
